/- Proved: PlaneTurns is true for every input. -/
import Derived.Test.YtgaikembekkfiaaQPlaneTurnsx0
import Derived.OpenShut
namespace Go.Proofs.Ytgaikembekkfiaa.Pure
open Go Go.RowKit Go.Proofs.Ytgaikembekkfiaa.QPlaneTurns Go.Proofs.YtgaikembekkfiaaE Go.Proofs.YtgaikembekkfiaaX

theorem bind_of {α β : Type} {o : Option α} {f : α → Option β} {x : α} {r : Option β} (h : o = some x) (h2 : f x = r) : o.bind f = r := by
  subst h
  exact h2

theorem div_is {a b q : Int} (hb : 0 < b) (h1 : q * b ≤ a) (h2 : a < q * b + b) : a / b = q := by
  apply Int.le_antisymm
  · exact Int.lt_add_one_iff.1 (Int.ediv_lt_of_lt_mul hb (by rw [Int.add_mul, Int.one_mul]; exact h2))
  · exact Int.le_ediv_of_mul_le hb h1

theorem div_in (a : Int) {b : Int} (hb : 0 < b) : a / b * b ≤ a ∧ a < a / b * b + b := by
  have h1 := Int.mul_ediv_add_emod a b
  have h2 := Int.emod_nonneg a (Int.ne_of_gt hb)
  have h3 := Int.emod_lt_of_pos a hb
  rw [Int.mul_comm] at h1
  omega

theorem div_bd (a : Int) {b : Int} (hb : 0 < b) : (0 ≤ a → 0 ≤ a / b ∧ a / b ≤ a) ∧ (a < 0 → a ≤ a / b ∧ a / b < 0) := by
  obtain ⟨h1, h2⟩ := div_in a hb
  refine ⟨fun h => ⟨Int.ediv_nonneg h (by omega), Int.ediv_le_self _ h⟩, fun h => ⟨?_, Int.ediv_neg_of_neg_of_pos h hb⟩⟩
  exact Int.le_ediv_of_mul_le hb (by
    have : a * b ≤ a * 1 := Int.mul_le_mul_of_nonpos_left (by omega) (by omega)
    omega)

theorem tmod_in (a : Int) {b : Int} (hb : 0 < b) : -b < Int.tmod a b ∧ Int.tmod a b < b := by
  rw [Int.tmod_eq_emod]
  have h2 := Int.emod_nonneg a (show b ≠ 0 by omega)
  have h3 := Int.emod_lt_of_pos a hb
  split
  · omega
  · have : ((b.natAbs : Nat) : Int) = b := by omega
    rename_i h
    have hne : a % b ≠ 0 := fun h0 => h (Or.inr (Int.dvd_of_emod_eq_zero h0))
    omega

theorem tmod_pos {a b : Int} (ha : 0 ≤ a) : Int.tmod a b = a % b := by
  rw [Int.tmod_eq_emod, if_pos (Or.inl ha)]; omega

theorem cyc (a : Int) {b : Int} (hb : 0 < b) (hb1 : b ≤ 4611686018427387903) : ∃ s, Int.tmod (wr64 (Int.tmod a b + b)) b = s ∧ 0 ≤ s ∧ s < b := by
  have h := tmod_in a hb
  refine ⟨_, rfl, ?_⟩
  rw [w64 (by omega) (by omega), tmod_pos (by omega)]
  exact ⟨Int.emod_nonneg _ (by omega), Int.emod_lt_of_pos _ hb⟩

theorem size1 {n : Int} (n0 : -9223372036854775807 ≤ n) (n1 : n ≤ 9223372036854775807) : plane_within_1.f n = some (n.natAbs : Int) := by
  unfold plane_within_1.f mx
  rw [w64 (n := 0 - n) (by omega) (by omega), wru64_eq]
  congr 1
  split <;> omega

theorem within_f {a b c d : Int} (a0 : -9223372036854775807 ≤ a) (a1 : a ≤ 9223372036854775807) (b0 : -9223372036854775807 ≤ b) (b1 : b ≤ 9223372036854775807) (c0 : -9223372036854775807 ≤ c) (c1 : c ≤ 9223372036854775807) (d0 : -9223372036854775807 ≤ d) (d1 : d ≤ 9223372036854775807) :
    plane_within.f a b c d = some (decide ((a.natAbs : Int) * (b.natAbs : Int) ≤ (c.natAbs : Int) * (d.natAbs : Int))) := by
  have M : ∀ x y : Int, 0 ≤ x → x ≤ 9223372036854775807 → 0 ≤ y → y ≤ 9223372036854775807 → bits_Mul64.f x y = some (x * y / 18446744073709551616, x * y % 18446744073709551616) := by
    intro x y h1 h2 h3 h4
    unfold bits_Mul64.f
    rw [if_pos ⟨h1, by omega, h3, by omega⟩]
  unfold plane_within.f
  refine bind_of (size1 a0 a1) (bind_of (size1 b0 b1) (bind_of (M _ _ (by omega) (by omega) (by omega) (by omega)) (bind_of (size1 c0 c1) (bind_of (size1 d0 d1) (bind_of (M _ _ (by omega) (by omega) (by omega) (by omega)) ?_)))))
  dsimp only
  generalize (a.natAbs : Int) * (b.natAbs : Int) = P
  generalize (c.natAbs : Int) * (d.natAbs : Int) = Q
  by_cases h1 : P / 18446744073709551616 < Q / 18446744073709551616
  · rw [if_pos h1, decide_eq_true (by omega)]
  · rw [if_neg h1]
    by_cases h2 : P / 18446744073709551616 = Q / 18446744073709551616
    · rw [if_pos h2]
      congr 1
      by_cases h3 : P ≤ Q
      · rw [decide_eq_true h3, decide_eq_true (by omega)]
      · rw [decide_eq_false h3, decide_eq_false (by omega)]
    · rw [if_neg h2, decide_eq_false (by omega)]

theorem mul_bd {x y M N : Int} (hx0 : -M ≤ x) (hx1 : x ≤ M) (hy0 : -N ≤ y) (hy1 : y ≤ N) : -(M * N) ≤ x * y ∧ x * y ≤ M * N := by
  have h : (x * y).natAbs ≤ M.toNat * N.toNat := by
    rw [Int.natAbs_mul]
    exact Nat.mul_le_mul (by omega) (by omega)
  have e : ((M.toNat * N.toNat : Nat) : Int) = M * N := by
    rw [Int.natCast_mul, Int.toNat_of_nonneg (by omega), Int.toNat_of_nonneg (by omega)]
  omega

/-- Two numbers no farther apart than that. -/
def Nr (a b : Int) : Prop := -268435456 ≤ b - a ∧ b - a ≤ 268435456

theorem prod_bd {a b c d : Int} (h1 : Nr a b) (h2 : Nr c d) : -72057594037927936 ≤ (b - a) * (d - c) ∧ (b - a) * (d - c) ≤ 72057594037927936 := mul_bd (M := 268435456) (N := 268435456) (by have := h1.1; omega) h1.2 (by have := h2.1; omega) h2.2

def crs (ax ay bx by_ px py : Int) : Int := (bx - ax) * (py - ay) - (by_ - ay) * (px - ax)
def dt (ax ay bx by_ px py : Int) : Int := (bx - ax) * (px - ax) + (by_ - ay) * (py - ay)
def ln (ax ay bx by_ : Int) : Int := (bx - ax) * (bx - ax) + (by_ - ay) * (by_ - ay)

theorem sq_nonneg (x : Int) : 0 ≤ x * x := by
  rcases Int.le_total 0 x with h | h
  · exact Int.mul_nonneg h h
  · exact Int.mul_nonneg_of_nonpos_of_nonpos h h

theorem ln_nonneg (ax ay bx by_ : Int) : 0 ≤ ln ax ay bx by_ := by
  unfold ln
  have := sq_nonneg (bx - ax)
  have := sq_nonneg (by_ - ay)
  omega

theorem ln_bd {ax ay bx by_ : Int} (h1 : Nr ax bx) (h2 : Nr ay by_) : ln ax ay bx by_ ≤ 144115188075855872 := by
  unfold ln
  have := prod_bd h1 h1
  have := prod_bd h2 h2
  omega

theorem dt_bd {ax ay bx by_ px py : Int} (h1 : Nr ax bx) (h2 : Nr ay by_) (h3 : Nr ax px) (h4 : Nr ay py) : -144115188075855872 ≤ dt ax ay bx by_ px py ∧ dt ax ay bx by_ px py ≤ 144115188075855872 := by
  unfold dt
  have := prod_bd h1 h3
  have := prod_bd h2 h4
  omega

theorem crs_bd {ax ay bx by_ px py : Int} (h1 : Nr ax bx) (h2 : Nr ay by_) (h3 : Nr ax px) (h4 : Nr ay py) : -144115188075855872 ≤ crs ax ay bx by_ px py ∧ crs ax ay bx by_ px py ≤ 144115188075855872 := by
  unfold crs
  have := prod_bd h1 h4
  have := prod_bd h2 h3
  omega

theorem sub_f {a b c d : Int} (h1 : Nr c a) (h2 : Nr d b) : plane_Sub.f a b c d = some (a - c, b - d) := by
  unfold plane_Sub.f
  rw [w64 (by have := h1.1; omega) (by have := h1.2; omega), w64 (by have := h2.1; omega) (by have := h2.2; omega)]

theorem cross_f {ax ay bx by_ px py : Int} (h1 : Nr ax bx) (h2 : Nr ay by_) (h3 : Nr ax px) (h4 : Nr ay py) : plane_Cross.f ax ay bx by_ px py = some (crs ax ay bx by_ px py) := by
  unfold plane_Cross.f
  refine bind_of (sub_f h1 h2) (bind_of (sub_f h3 h4) ?_)
  have b1 := prod_bd h1 h4
  have b2 := prod_bd h2 h3
  show some (wr64 (wr64 ((bx - ax) * (py - ay)) - wr64 ((by_ - ay) * (px - ax)))) = _
  rw [w64 (n := (bx - ax) * (py - ay)) (by omega) (by omega), w64 (n := (by_ - ay) * (px - ax)) (by omega) (by omega), w64 (by omega) (by omega)]
  rfl

theorem dot_f {ax ay bx by_ px py : Int} (h1 : Nr ax bx) (h2 : Nr ay by_) (h3 : Nr ax px) (h4 : Nr ay py) : plane_Dot.f ax ay bx by_ px py = some (dt ax ay bx by_ px py) := by
  unfold plane_Dot.f
  refine bind_of (sub_f h1 h2) (bind_of (sub_f h3 h4) ?_)
  have b1 := prod_bd h1 h3
  have b2 := prod_bd h2 h4
  show some (wr64 (wr64 ((bx - ax) * (px - ax)) + wr64 ((by_ - ay) * (py - ay)))) = _
  rw [w64 (n := (bx - ax) * (px - ax)) (by omega) (by omega), w64 (n := (by_ - ay) * (py - ay)) (by omega) (by omega), w64 (by omega) (by omega)]
  rfl

theorem len2_f {ax ay bx by_ : Int} (h1 : Nr ax bx) (h2 : Nr ay by_) : plane_Len2.f ax ay bx by_ = some (ln ax ay bx by_) := by
  unfold plane_Len2.f
  exact bind_of (dot_f h1 h2 h1 h2) rfl

/-- Near, as the document says it. -/
def nearB (ax ay bx by_ px py w : Int) : Bool :=
  if dt ax ay bx by_ px py ≤ 0 then decide (4 * ln ax ay px py ≤ w * w)
  else if dt ax ay bx by_ px py ≥ ln ax ay bx by_ then decide (4 * ln bx by_ px py ≤ w * w)
  else decide (4 * (crs ax ay bx by_ px py * crs ax ay bx by_ px py) ≤ w * w * ln ax ay bx by_)

theorem within_len {l w : Int} (l0 : 0 ≤ l) (l1 : l ≤ 144115188075855872) (w0 : 0 ≤ w) (w1 : w ≤ 268435456) : plane_within.f 4 l w w = some (decide (4 * l ≤ w * w)) := by
  rw [within_f (by omega) (by omega) (by omega) (by omega) (by omega) (by omega) (by omega) (by omega)]
  rw [show ((4 : Int).natAbs : Int) = 4 from rfl, show ((l.natAbs : Nat) : Int) = l by omega, show ((w.natAbs : Nat) : Int) = w by omega]

theorem within_side {c l w : Int} (c0 : -144115188075855872 ≤ c) (c1 : c ≤ 144115188075855872) (l0 : 0 ≤ l) (l1 : l ≤ 144115188075855872) (w0 : 0 ≤ w) (w1 : w ≤ 268435456) : plane_within.f (wr64 (2 * c)) (wr64 (2 * c)) (wr64 (w * w)) l = some (decide (4 * (c * c) ≤ w * w * l)) := by
  have h := mul_bd (M := 268435456) (N := 268435456) (x := w) (y := w) (by omega) w1 (by omega) w1
  have hw := sq_nonneg w
  rw [w64 (n := 2 * c) (by omega) (by omega), w64 (n := w * w) (by omega) (by omega)]
  rw [within_f (by omega) (by omega) (by omega) (by omega) (by omega) (by omega) (by omega) (by omega)]
  rw [show (((2 * c).natAbs : Nat) : Int) * (((2 * c).natAbs : Nat) : Int) = 4 * (c * c) by rw [← Int.natCast_mul, Int.natAbs_mul_self]; grind, show ((l.natAbs : Nat) : Int) = l by omega, show (((w * w).natAbs : Nat) : Int) = w * w by omega]

theorem near_f {ax ay bx by_ px py w : Int} (h1 : Nr ax bx) (h2 : Nr ay by_) (h3 : Nr ax px) (h4 : Nr ay py) (h5 : Nr bx px) (h6 : Nr by_ py) (w0 : 0 ≤ w) (w1 : w ≤ 268435456) : plane_Near.f ax ay bx by_ px py w = some (nearB ax ay bx by_ px py w) := by
  unfold plane_Near.f nearB
  refine bind_of (dot_f h1 h2 h3 h4) (bind_of (len2_f h1 h2) ?_)
  by_cases c1 : dt ax ay bx by_ px py ≤ 0
  · rw [if_pos c1, if_pos c1]
    exact bind_of (len2_f h3 h4) (bind_of (within_len (ln_nonneg _ _ _ _) (ln_bd h3 h4) w0 w1) rfl)
  · rw [if_neg c1, if_neg c1]
    by_cases c2 : dt ax ay bx by_ px py ≥ ln ax ay bx by_
    · rw [if_pos c2, if_pos c2]
      exact bind_of (len2_f h5 h6) (bind_of (within_len (ln_nonneg _ _ _ _) (ln_bd h5 h6) w0 w1) rfl)
    · rw [if_neg c2, if_neg c2]
      exact bind_of (cross_f h1 h2 h3 h4) (bind_of (within_side (crs_bd h1 h2 h3 h4).1 (crs_bd h1 h2 h3 h4).2 (ln_nonneg _ _ _ _) (ln_bd h1 h2) w0 w1) rfl)

theorem and_mask (k : Nat) (hk : k ≤ 62) (n m : Int) (hm : m = 2 ^ k - 1) : Go.bits .and .i64 n m = n % 2 ^ k := by
  have hp : (2 : Int) ^ k ≤ 2 ^ 62 := by
    have : 2 ^ k ≤ 2 ^ 62 := Nat.pow_le_pow_right (by omega) hk
    have e : ((2 ^ k : Nat) : Int) = (2 : Int) ^ k := by simp
    omega
  have hp0 : (1 : Int) ≤ 2 ^ k := Int.pow_pos (by omega)
  have e : ((2 ^ k : Nat) : Int) = (2 : Int) ^ k := by simp
  have hb : (BitVec.ofInt 64 m).toNat = 2 ^ k - 1 := by
    rw [BitVec.toNat_ofInt, hm]
    omega
  have key : (BitVec.ofInt 64 n &&& BitVec.ofInt 64 m).toNat = (n % ((2 ^ 64 : Nat) : Int)).toNat % 2 ^ k := by
    rw [BitVec.toNat_and, BitVec.toNat_ofInt, hb, Nat.and_two_pow_sub_one_eq_mod]
  show IntKind.i64.wrap ((BitVec.ofInt 64 n &&& BitVec.ofInt 64 m).toNat : Nat) = n % 2 ^ k
  rw [key, IntKind.wrap_i64]
  have h1 : 0 ≤ n % 18446744073709551616 := by omega
  have h2 : (((n % ((2 ^ 64 : Nat) : Int)).toNat % 2 ^ k : Nat) : Int) = n % 18446744073709551616 % 2 ^ k := by
    rw [Int.natCast_emod, e, Int.toNat_of_nonneg (by omega)]
    rfl
  have h3 : n % 18446744073709551616 % 2 ^ k = n % 2 ^ k := by
    apply Int.emod_emod_of_dvd
    exact ⟨2 ^ (64 - k), by rw [← Int.pow_add, show k + (64 - k) = 64 by omega]; rfl⟩
  rw [h2, h3]
  have h4 := Int.emod_nonneg n (show (2 : Int) ^ k ≠ 0 by omega)
  have h5 := Int.emod_lt_of_pos n (show (0 : Int) < 2 ^ k by omega)
  omega

theorem number_f {v m : Int} (v0 : 0 ≤ v) (m0 : 1 ≤ m) : glyphicworld_Number.f v m = some (v % m) := by
  have h := Int.emod_nonneg v (show m ≠ 0 by omega)
  unfold glyphicworld_Number.f
  rw [if_neg (by omega), tmod_pos v0, if_neg (by omega)]

theorem zero_of {x y : Int} (h : x * x + y * y ≤ 0) : x = 0 ∧ y = 0 := by
  have h1 := sq_nonneg x
  have h2 := sq_nonneg y
  have g1 : x * x = 0 := by omega
  have g2 : y * y = 0 := by omega
  exact ⟨by rcases Int.mul_eq_zero.1 g1 with h | h <;> exact h, by rcases Int.mul_eq_zero.1 g2 with h | h <;> exact h⟩

theorem near_flip (ax ay bx by_ px py w : Int) : nearB bx by_ ax ay px py w = nearB ax ay bx by_ px py w := by
  have e1 : dt bx by_ ax ay px py = ln ax ay bx by_ - dt ax ay bx by_ px py := by unfold dt ln; grind
  have e2 : ln bx by_ ax ay = ln ax ay bx by_ := by unfold ln; grind
  have e3 : crs bx by_ ax ay px py = -crs ax ay bx by_ px py := by unfold crs; grind
  unfold nearB
  rw [e1, e2, e3, Int.neg_mul_neg]
  have h0 := ln_nonneg ax ay bx by_
  by_cases hz : ln ax ay bx by_ ≤ 0
  · obtain ⟨z1, z2⟩ := zero_of (x := bx - ax) (y := by_ - ay) hz
    have q1 : bx = ax := by omega
    have q2 : by_ = ay := by omega
    subst q1
    subst q2
    have d0 : dt bx by_ bx by_ px py = 0 := by unfold dt; grind
    have l0 : ln bx by_ bx by_ = 0 := by unfold ln; grind
    rw [d0, l0]
    rfl
  · by_cases c1 : dt ax ay bx by_ px py ≤ 0
    · rw [if_pos c1, if_neg (by omega), if_pos (by omega)]
    · rw [if_neg c1]
      by_cases c2 : dt ax ay bx by_ px py ≥ ln ax ay bx by_
      · rw [if_pos c2, if_pos (by omega)]
      · rw [if_neg c2, if_neg (by omega), if_neg (by omega)]

theorem near_turn (ax ay bx by_ px py w : Int) : nearB (-ay) ax (-by_) bx (-py) px w = nearB ax ay bx by_ px py w := by
  have e1 : dt (-ay) ax (-by_) bx (-py) px = dt ax ay bx by_ px py := by unfold dt; grind
  have e2 : ln (-ay) ax (-by_) bx = ln ax ay bx by_ := by unfold ln; grind
  have e3 : crs (-ay) ax (-by_) bx (-py) px = crs ax ay bx by_ px py := by unfold crs; grind
  have e4 : ln (-ay) ax (-py) px = ln ax ay px py := by unfold ln; grind
  have e5 : ln (-by_) bx (-py) px = ln bx by_ px py := by unfold ln; grind
  unfold nearB
  rw [e1, e2, e3, e4, e5]

theorem near_move (ax ay bx by_ px py u v w : Int) : nearB (ax + u) (ay + v) (bx + u) (by_ + v) (px + u) (py + v) w = nearB ax ay bx by_ px py w := by
  have s : ∀ a b c : Int, b + a - (c + a) = b - c := fun a b c => by omega
  unfold nearB dt ln crs
  simp only [s]

theorem near_more {ax ay bx by_ px py w m : Int} (w0 : 0 ≤ w) (m0 : 0 ≤ m) (h : nearB ax ay bx by_ px py w = true) : nearB ax ay bx by_ px py (w + m) = true := by
  have hw : w * w ≤ (w + m) * (w + m) := Int.mul_le_mul (by omega) (by omega) w0 (by omega)
  have hl := Int.mul_le_mul_of_nonneg_right hw (ln_nonneg ax ay bx by_)
  unfold nearB at *
  split at h
  · rename_i c
    rw [if_pos c]
    have := of_decide_eq_true h
    exact decide_eq_true (by omega)
  · rename_i c
    rw [if_neg c]
    split at h
    · rename_i c2
      rw [if_pos c2]
      have := of_decide_eq_true h
      exact decide_eq_true (by omega)
    · rename_i c2
      rw [if_neg c2]
      have := of_decide_eq_true h
      exact decide_eq_true (by omega)

theorem near_a (ax ay bx by_ w : Int) : nearB ax ay bx by_ ax ay w = true := by
  have d0 : dt ax ay bx by_ ax ay = 0 := by unfold dt; grind
  have l0 : ln ax ay ax ay = 0 := by unfold ln; grind
  have := sq_nonneg w
  unfold nearB
  rw [d0, l0, if_pos (by omega)]
  exact decide_eq_true (by omega)

theorem near_b (ax ay bx by_ w : Int) : nearB ax ay bx by_ bx by_ w = true := by
  rw [← near_flip]
  exact near_a _ _ _ _ _

theorem quarter_of {a : Int} (h0 : -134217729 < a) (h1 : a < 134217729) : ∃ z, wr64 (Int.tdiv a 4) = z ∧ -33554432 ≤ z ∧ z ≤ 33554432 := by
  refine ⟨_, rfl, ?_⟩
  have h : -33554432 ≤ Int.tdiv a 4 ∧ Int.tdiv a 4 ≤ 33554432 := by
    rw [Int.tdiv_eq_ediv, show Int.sign 4 = 1 from rfl]
    split <;> omega
  rw [w64 (by omega) (by omega)]
  exact h

theorem PlaneTurns : glyphiclaw4_PlaneTurns.Pure := by
  intro a0 a1 b0 b1 p0 p1 u0 u1 w m _ _ _ _ _ _ _ _ hw _
  have hf : glyphiclaw4_first.f = some true := by decide +kernel
  unfold glyphiclaw4_PlaneTurns.f
  refine bind_of hf ?_
  rw [if_pos rfl]
  unfold glyphiclaw4_cut.f
  refine bind_of rfl (bind_of rfl (bind_of rfl (bind_of rfl ?_)))
  dsimp only
  obtain ⟨ax, ea, ax0, ax1⟩ := quarter_of (tmod_in a0 (b := 134217729) (by omega)).1 (tmod_in a0 (b := 134217729) (by omega)).2
  obtain ⟨ay, eb, ay0, ay1⟩ := quarter_of (tmod_in a1 (b := 134217729) (by omega)).1 (tmod_in a1 (b := 134217729) (by omega)).2
  obtain ⟨bx, ec, bx0, bx1⟩ := quarter_of (tmod_in b0 (b := 134217729) (by omega)).1 (tmod_in b0 (b := 134217729) (by omega)).2
  obtain ⟨b_, ed, by0, by1⟩ := quarter_of (tmod_in b1 (b := 134217729) (by omega)).1 (tmod_in b1 (b := 134217729) (by omega)).2
  obtain ⟨px, ee, px0, px1⟩ := quarter_of (tmod_in p0 (b := 134217729) (by omega)).1 (tmod_in p0 (b := 134217729) (by omega)).2
  obtain ⟨py, ef, py0, py1⟩ := quarter_of (tmod_in p1 (b := 134217729) (by omega)).1 (tmod_in p1 (b := 134217729) (by omega)).2
  obtain ⟨ux, eg, ux0, ux1⟩ := quarter_of (tmod_in u0 (b := 134217729) (by omega)).1 (tmod_in u0 (b := 134217729) (by omega)).2
  obtain ⟨uy, eh, uy0, uy1⟩ := quarter_of (tmod_in u1 (b := 134217729) (by omega)).1 (tmod_in u1 (b := 134217729) (by omega)).2
  rw [ea, eb, ec, ed, ee, ef, eg, eh]
  clear ea eb ec ed ee ef eg eh
  have hwr : -9223372036854775808 ≤ w ∧ w ≤ 9223372036854775807 := by
    simp [Lit.wf] at hw
    have e1 : IntKind.i64.min = -9223372036854775808 := by decide
    have e2 : IntKind.i64.max = 9223372036854775807 := by decide
    omega
  obtain ⟨W, W0, hW⟩ : ∃ W, 0 ≤ W ∧ (if w < 0 then some (wr64 (0 - wr64 (w + 1)), true, ux, uy, px, py, bx, b_, ax, ay) else some (w, true, ux, uy, px, py, bx, b_, ax, ay)) = some (W, true, ux, uy, px, py, bx, b_, ax, ay) := by
    by_cases hn : w < 0
    · rw [if_pos hn, w64 (n := w + 1) (by omega) (by omega), w64 (n := 0 - (w + 1)) (by omega) (by omega)]
      exact ⟨0 - (w + 1), by omega, rfl⟩
    · rw [if_neg hn]
      exact ⟨w, by omega, rfl⟩
  refine bind_of hW ?_
  dsimp only
  rw [tmod_pos W0, and_mask 24 (by omega) m 16777215 (by decide)]
  refine bind_of (number_f (Int.emod_nonneg _ (by decide)) (by omega)) ?_
  have v0 : 0 ≤ W % 67108864 := Int.emod_nonneg _ (by omega)
  have v1 : W % 67108864 < 67108864 := Int.emod_lt_of_pos _ (by omega)
  have m0 : 0 ≤ m % 2 ^ 24 % 16777216 := Int.emod_nonneg _ (by omega)
  have m1 : m % 2 ^ 24 % 16777216 < 16777216 := Int.emod_lt_of_pos _ (by omega)
  generalize W % 67108864 = v at *
  generalize m % 2 ^ 24 % 16777216 = g at *
  have N1 : ∀ {x y : Int}, -67108864 ≤ x → x ≤ 67108864 → -67108864 ≤ y → y ≤ 67108864 → Nr x y := fun h1 h2 h3 h4 => by unfold Nr; omega
  have T : ∀ {x y : Int}, -67108864 ≤ y → y ≤ 67108864 → glyphiclaw4_turn.f x y = some (-y, x) := fun h1 h2 => by
    unfold glyphiclaw4_turn.f
    rw [w64 (by omega) (by omega)]
    congr 2
    omega
  have A : ∀ {x y z t : Int}, -67108864 ≤ x → x ≤ 67108864 → -67108864 ≤ y → y ≤ 67108864 → -67108864 ≤ z → z ≤ 67108864 → -67108864 ≤ t → t ≤ 67108864 → plane_Add.f x y z t = some (x + z, y + t) := fun _ _ _ _ _ _ _ _ => by
    unfold plane_Add.f
    rw [w64 (by omega) (by omega), w64 (by omega) (by omega)]
  have F : ∀ {x y z t q r o : Int}, -67108864 ≤ x → x ≤ 67108864 → -67108864 ≤ y → y ≤ 67108864 → -67108864 ≤ z → z ≤ 67108864 → -67108864 ≤ t → t ≤ 67108864 → -67108864 ≤ q → q ≤ 67108864 → -67108864 ≤ r → r ≤ 67108864 → 0 ≤ o → o ≤ 268435456 → plane_Near.f x y z t q r o = some (nearB x y z t q r o) :=
    fun h1 h2 h3 h4 h5 h6 h7 h8 h9 h10 h11 h12 h13 h14 => near_f (N1 h1 h2 h5 h6) (N1 h3 h4 h7 h8) (N1 h1 h2 h9 h10) (N1 h3 h4 h11 h12) (N1 h5 h6 h9 h10) (N1 h7 h8 h11 h12) h13 h14
  have C : ∀ {x y z t q r : Int}, -67108864 ≤ x → x ≤ 67108864 → -67108864 ≤ y → y ≤ 67108864 → -67108864 ≤ z → z ≤ 67108864 → -67108864 ≤ t → t ≤ 67108864 → -67108864 ≤ q → q ≤ 67108864 → -67108864 ≤ r → r ≤ 67108864 → plane_Cross.f x y z t q r = some (crs x y z t q r) :=
    fun h1 h2 h3 h4 h5 h6 h7 h8 h9 h10 h11 h12 => cross_f (N1 h1 h2 h5 h6) (N1 h3 h4 h7 h8) (N1 h1 h2 h9 h10) (N1 h3 h4 h11 h12)
  have cb := crs_bd (N1 (x := ax) (y := bx) (by omega) (by omega) (by omega) (by omega)) (N1 (x := ay) (y := b_) (by omega) (by omega) (by omega) (by omega)) (N1 (x := ax) (y := px) (by omega) (by omega) (by omega) (by omega)) (N1 (x := ay) (y := py) (by omega) (by omega) (by omega) (by omega))
  have tail : ((plane_Near.f ax ay bx b_ ax ay v).bind fun t133 => (if t133 = true then ((plane_Near.f ax ay bx b_ bx b_ v).bind fun t135 => (if t135 = true then ((plane_Cross.f ax ay bx b_ px py).bind fun t137 => ((plane_Cross.f bx b_ ax ay px py).bind fun t139 => (if t137 = (wr64 (0 - t139)) then ((glyphiclaw4_turn.f ax ay).bind fun x => ((glyphiclaw4_turn.f bx b_).bind fun y => ((glyphiclaw4_turn.f px py).bind fun z => ((plane_Cross.f x.1 x.2 y.1 y.2 z.1 z.2).bind fun t151 => ((plane_Cross.f ax ay bx b_ px py).bind fun t153 => (if t151 = t153 then ((plane_Len2.f ax ay bx b_).bind fun t156 => ((plane_Len2.f bx b_ ax ay).bind fun t158 => (some (t156 == t158)))) else (some false))))))) else (some false)))) else (some false))) else (some false))) = some true := by
    refine bind_of (F (by omega) (by omega) (by omega) (by omega) (by omega) (by omega) (by omega) (by omega) (by omega) (by omega) (by omega) (by omega) v0 (by omega)) ?_
    rw [near_a, if_pos rfl]
    refine bind_of (F (by omega) (by omega) (by omega) (by omega) (by omega) (by omega) (by omega) (by omega) (by omega) (by omega) (by omega) (by omega) v0 (by omega)) ?_
    rw [near_b, if_pos rfl]
    refine bind_of (C (by omega) (by omega) (by omega) (by omega) (by omega) (by omega) (by omega) (by omega) (by omega) (by omega) (by omega) (by omega)) (bind_of (C (by omega) (by omega) (by omega) (by omega) (by omega) (by omega) (by omega) (by omega) (by omega) (by omega) (by omega) (by omega)) ?_)
    have e3 : crs bx b_ ax ay px py = -crs ax ay bx b_ px py := by unfold crs; grind
    rw [e3, w64 (n := 0 - -crs ax ay bx b_ px py) (by omega) (by omega), if_pos (by omega)]
    refine bind_of (T (by omega) (by omega)) (bind_of (T (by omega) (by omega)) (bind_of (T (by omega) (by omega)) ?_))
    dsimp only
    refine bind_of (C (by omega) (by omega) (by omega) (by omega) (by omega) (by omega) (by omega) (by omega) (by omega) (by omega) (by omega) (by omega)) (bind_of (C (by omega) (by omega) (by omega) (by omega) (by omega) (by omega) (by omega) (by omega) (by omega) (by omega) (by omega) (by omega)) ?_)
    have e4 : crs (-ay) ax (-b_) bx (-py) px = crs ax ay bx b_ px py := by unfold crs; grind
    rw [e4, if_pos rfl]
    have e5 : ln bx b_ ax ay = ln ax ay bx b_ := by unfold ln; grind
    refine bind_of (len2_f (N1 (by omega) (by omega) (by omega) (by omega)) (N1 (by omega) (by omega) (by omega) (by omega))) (bind_of (len2_f (N1 (by omega) (by omega) (by omega) (by omega)) (N1 (by omega) (by omega) (by omega) (by omega))) ?_)
    rw [e5]
    simp
  refine bind_of (F (by omega) (by omega) (by omega) (by omega) (by omega) (by omega) (by omega) (by omega) (by omega) (by omega) (by omega) (by omega) v0 (by omega)) ?_
  refine bind_of (T (by omega) (by omega)) (bind_of (T (by omega) (by omega)) (bind_of (T (by omega) (by omega)) ?_))
  dsimp only
  refine bind_of (F (by omega) (by omega) (by omega) (by omega) (by omega) (by omega) (by omega) (by omega) (by omega) (by omega) (by omega) (by omega) v0 (by omega)) ?_
  refine bind_of (A (by omega) (by omega) (by omega) (by omega) (by omega) (by omega) (by omega) (by omega)) (bind_of (A (by omega) (by omega) (by omega) (by omega) (by omega) (by omega) (by omega) (by omega)) (bind_of (A (by omega) (by omega) (by omega) (by omega) (by omega) (by omega) (by omega) (by omega)) ?_))
  dsimp only
  refine bind_of (F (by omega) (by omega) (by omega) (by omega) (by omega) (by omega) (by omega) (by omega) (by omega) (by omega) (by omega) (by omega) v0 (by omega)) ?_
  rw [if_pos rfl]
  refine bind_of (F (by omega) (by omega) (by omega) (by omega) (by omega) (by omega) (by omega) (by omega) (by omega) (by omega) (by omega) (by omega) v0 (by omega)) ?_
  rw [near_flip ax ay bx b_ px py v, near_turn ax ay bx b_ px py v, near_move ax ay bx b_ px py ux uy v, if_pos rfl, if_pos rfl, if_pos rfl]
  by_cases hN : nearB ax ay bx b_ px py v = true
  · rw [if_pos hN, w64 (n := v + g) (by omega) (by omega)]
    refine bind_of (F (by omega) (by omega) (by omega) (by omega) (by omega) (by omega) (by omega) (by omega) (by omega) (by omega) (by omega) (by omega) (by omega) (by omega)) ?_
    rw [near_more v0 m0 hN, if_pos rfl]
    exact tail
  · rw [if_neg hN]
    exact tail

end Go.Proofs.Ytgaikembekkfiaa.Pure
