/- Proved: PlaneSlants is true for every input. -/
import Derived.Test.YtgaikembekkfiaaQPlaneSlantsx5
import Derived.OpenShut
namespace Go.Proofs.Ytgaikembekkfiaa.Pure
open Go.RowKit Go.Proofs.Ytgaikembekkfiaa.QPlaneSlants Go.Proofs.YtgaikembekkfiaaW.PrintWords Go.Proofs.YtgaikembekkfiaaW.PrintLast Go.Proofs.YtgaikembekkfiaaW.PrintMore

theorem bind_of {α β : Type} {o : Option α} {f : α → Option β} {x : α} {r : Option β} (h : o = some x) (h2 : f x = r) : o.bind f = r := by
  subst h
  exact h2

theorem w64 {n : Int} (h0 : -9223372036854775808 ≤ n) (h1 : n ≤ 9223372036854775807) : wrap64 n = n := by
  unfold wrap64
  omega

theorem div_is {a b q : Int} (hb : 0 < b) (h1 : q * b ≤ a) (h2 : a < q * b + b) : a / b = q := by
  apply Int.le_antisymm
  · exact Int.lt_add_one_iff.1 (Int.ediv_lt_of_lt_mul hb (by rw [Int.add_mul, Int.one_mul]; exact h2))
  · exact Int.le_ediv_of_mul_le hb h1

theorem div_in (a : Int) {b : Int} (hb : 0 < b) : a / b * b ≤ a ∧ a < a / b * b + b := by
  have h1 := Int.mul_ediv_add_emod a b
  have h2 := Int.emod_nonneg a (Int.ne_of_gt hb)
  have h3 := Int.emod_lt_of_pos a hb
  rw [Int.mul_comm] at h1
  omega

theorem div_bd (a : Int) {b : Int} (hb : 0 < b) : (0 ≤ a → 0 ≤ a / b ∧ a / b ≤ a) ∧ (a < 0 → a ≤ a / b ∧ a / b < 0) := by
  obtain ⟨h1, h2⟩ := div_in a hb
  refine ⟨fun h => ⟨Int.ediv_nonneg h (by omega), Int.ediv_le_self _ h⟩, fun h => ⟨?_, Int.ediv_neg_of_neg_of_pos h hb⟩⟩
  exact Int.le_ediv_of_mul_le hb (by
    have : a * b ≤ a * 1 := Int.mul_le_mul_of_nonpos_left (by omega) (by omega)
    omega)

theorem tmod_in (a : Int) {b : Int} (hb : 0 < b) : -b < Int.tmod a b ∧ Int.tmod a b < b := by
  rw [Int.tmod_eq_emod]
  have h2 := Int.emod_nonneg a (show b ≠ 0 by omega)
  have h3 := Int.emod_lt_of_pos a hb
  split
  · omega
  · have : ((b.natAbs : Nat) : Int) = b := by omega
    rename_i h
    have hne : a % b ≠ 0 := fun h0 => h (Or.inr (Int.dvd_of_emod_eq_zero h0))
    omega

theorem tmod_pos {a b : Int} (ha : 0 ≤ a) : Int.tmod a b = a % b := by
  rw [Int.tmod_eq_emod, if_pos (Or.inl ha)]; omega

theorem cyc (a : Int) {b : Int} (hb : 0 < b) (hb1 : b ≤ 4611686018427387903) : ∃ s, Int.tmod (wrap64 (Int.tmod a b + b)) b = s ∧ 0 ≤ s ∧ s < b := by
  have h := tmod_in a hb
  refine ⟨_, rfl, ?_⟩
  rw [w64 (by omega) (by omega), tmod_pos (by omega)]
  exact ⟨Int.emod_nonneg _ (by omega), Int.emod_lt_of_pos _ hb⟩

theorem mul_bd {x y M N : Int} (hx0 : -M ≤ x) (hx1 : x ≤ M) (hy0 : -N ≤ y) (hy1 : y ≤ N) : -(M * N) ≤ x * y ∧ x * y ≤ M * N := by
  have h : (x * y).natAbs ≤ M.toNat * N.toNat := by
    rw [Int.natAbs_mul]
    exact Nat.mul_le_mul (by omega) (by omega)
  have e : ((M.toNat * N.toNat : Nat) : Int) = M * N := by
    rw [Int.natCast_mul, Int.toNat_of_nonneg (by omega), Int.toNat_of_nonneg (by omega)]
  omega

/-- Two numbers no farther apart than that. -/
def Nr (a b : Int) : Prop := -268435456 ≤ b - a ∧ b - a ≤ 268435456

theorem prod_bd {a b c d : Int} (h1 : Nr a b) (h2 : Nr c d) : -72057594037927936 ≤ (b - a) * (d - c) ∧ (b - a) * (d - c) ≤ 72057594037927936 := mul_bd (M := 268435456) (N := 268435456) (by have := h1.1; omega) h1.2 (by have := h2.1; omega) h2.2

def crs (ax ay bx by_ px py : Int) : Int := (bx - ax) * (py - ay) - (by_ - ay) * (px - ax)
def dt (ax ay bx by_ px py : Int) : Int := (bx - ax) * (px - ax) + (by_ - ay) * (py - ay)
def ln (ax ay bx by_ : Int) : Int := (bx - ax) * (bx - ax) + (by_ - ay) * (by_ - ay)

theorem sq_nonneg (x : Int) : 0 ≤ x * x := by
  rcases Int.le_total 0 x with h | h
  · exact Int.mul_nonneg h h
  · exact Int.mul_nonneg_of_nonpos_of_nonpos h h

theorem ln_nonneg (ax ay bx by_ : Int) : 0 ≤ ln ax ay bx by_ := by
  unfold ln
  have := sq_nonneg (bx - ax)
  have := sq_nonneg (by_ - ay)
  omega

theorem ln_bd {ax ay bx by_ : Int} (h1 : Nr ax bx) (h2 : Nr ay by_) : ln ax ay bx by_ ≤ 144115188075855872 := by
  unfold ln
  have := prod_bd h1 h1
  have := prod_bd h2 h2
  omega

theorem dt_bd {ax ay bx by_ px py : Int} (h1 : Nr ax bx) (h2 : Nr ay by_) (h3 : Nr ax px) (h4 : Nr ay py) : -144115188075855872 ≤ dt ax ay bx by_ px py ∧ dt ax ay bx by_ px py ≤ 144115188075855872 := by
  unfold dt
  have := prod_bd h1 h3
  have := prod_bd h2 h4
  omega

theorem crs_bd {ax ay bx by_ px py : Int} (h1 : Nr ax bx) (h2 : Nr ay by_) (h3 : Nr ax px) (h4 : Nr ay py) : -144115188075855872 ≤ crs ax ay bx by_ px py ∧ crs ax ay bx by_ px py ≤ 144115188075855872 := by
  unfold crs
  have := prod_bd h1 h4
  have := prod_bd h2 h3
  omega

theorem sub_f {a b c d : Int} (h1 : Nr c a) (h2 : Nr d b) : plane_Sub.f a b c d = some (a - c, b - d) := by
  unfold plane_Sub.f
  rw [w64 (by have := h1.1; omega) (by have := h1.2; omega), w64 (by have := h2.1; omega) (by have := h2.2; omega)]

theorem cross_f {ax ay bx by_ px py : Int} (h1 : Nr ax bx) (h2 : Nr ay by_) (h3 : Nr ax px) (h4 : Nr ay py) : plane_Cross.f ax ay bx by_ px py = some (crs ax ay bx by_ px py) := by
  unfold plane_Cross.f
  refine bind_of (sub_f h1 h2) (bind_of (sub_f h3 h4) ?_)
  have b1 := prod_bd h1 h4
  have b2 := prod_bd h2 h3
  show some (wrap64 (wrap64 ((bx - ax) * (py - ay)) - wrap64 ((by_ - ay) * (px - ax)))) = _
  rw [w64 (n := (bx - ax) * (py - ay)) (by omega) (by omega), w64 (n := (by_ - ay) * (px - ax)) (by omega) (by omega), w64 (by omega) (by omega)]
  rfl

theorem dot_f {ax ay bx by_ px py : Int} (h1 : Nr ax bx) (h2 : Nr ay by_) (h3 : Nr ax px) (h4 : Nr ay py) : plane_Dot.f ax ay bx by_ px py = some (dt ax ay bx by_ px py) := by
  unfold plane_Dot.f
  refine bind_of (sub_f h1 h2) (bind_of (sub_f h3 h4) ?_)
  have b1 := prod_bd h1 h3
  have b2 := prod_bd h2 h4
  show some (wrap64 (wrap64 ((bx - ax) * (px - ax)) + wrap64 ((by_ - ay) * (py - ay)))) = _
  rw [w64 (n := (bx - ax) * (px - ax)) (by omega) (by omega), w64 (n := (by_ - ay) * (py - ay)) (by omega) (by omega), w64 (by omega) (by omega)]
  rfl

theorem len2_f {ax ay bx by_ : Int} (h1 : Nr ax bx) (h2 : Nr ay by_) : plane_Len2.f ax ay bx by_ = some (ln ax ay bx by_) := by
  unfold plane_Len2.f
  exact bind_of (dot_f h1 h2 h1 h2) rfl

/-- Near, as the document says it. -/
def nearB (ax ay bx by_ px py w : Int) : Bool :=
  if dt ax ay bx by_ px py ≤ 0 then decide (4 * ln ax ay px py ≤ w * w)
  else if dt ax ay bx by_ px py ≥ ln ax ay bx by_ then decide (4 * ln bx by_ px py ≤ w * w)
  else decide (4 * (crs ax ay bx by_ px py * crs ax ay bx by_ px py) ≤ w * w * ln ax ay bx by_)

theorem within_len {l w : Int} (l0 : 0 ≤ l) (l1 : l ≤ 144115188075855872) (w0 : 0 ≤ w) (w1 : w ≤ 268435456) : plane_within.f 4 l w w = some (decide (4 * l ≤ w * w)) := by
  unfold plane_within.f
  rw [if_pos (by omega)]
  rw [show ((4 : Int).natAbs : Int) = 4 from rfl, show ((l.natAbs : Nat) : Int) = l by omega, show ((w.natAbs : Nat) : Int) = w by omega]

theorem within_side {c l w : Int} (c0 : -144115188075855872 ≤ c) (c1 : c ≤ 144115188075855872) (l0 : 0 ≤ l) (l1 : l ≤ 144115188075855872) (w0 : 0 ≤ w) (w1 : w ≤ 268435456) : plane_within.f (wrap64 (2 * c)) (wrap64 (2 * c)) (wrap64 (w * w)) l = some (decide (4 * (c * c) ≤ w * w * l)) := by
  have h := mul_bd (M := 268435456) (N := 268435456) (x := w) (y := w) (by omega) w1 (by omega) w1
  have hw := sq_nonneg w
  rw [w64 (n := 2 * c) (by omega) (by omega), w64 (n := w * w) (by omega) (by omega)]
  unfold plane_within.f
  rw [if_pos (by omega)]
  rw [show (((2 * c).natAbs : Nat) : Int) * (((2 * c).natAbs : Nat) : Int) = 4 * (c * c) by rw [← Int.natCast_mul, Int.natAbs_mul_self]; grind, show ((l.natAbs : Nat) : Int) = l by omega, show (((w * w).natAbs : Nat) : Int) = w * w by omega]

theorem near_f {ax ay bx by_ px py w : Int} (h1 : Nr ax bx) (h2 : Nr ay by_) (h3 : Nr ax px) (h4 : Nr ay py) (h5 : Nr bx px) (h6 : Nr by_ py) (w0 : 0 ≤ w) (w1 : w ≤ 268435456) : plane_Near.f ax ay bx by_ px py w = some (nearB ax ay bx by_ px py w) := by
  unfold plane_Near.f nearB
  refine bind_of (dot_f h1 h2 h3 h4) (bind_of (len2_f h1 h2) ?_)
  by_cases c1 : dt ax ay bx by_ px py ≤ 0
  · rw [if_pos c1, if_pos c1]
    exact bind_of (len2_f h3 h4) (bind_of (within_len (ln_nonneg _ _ _ _) (ln_bd h3 h4) w0 w1) rfl)
  · rw [if_neg c1, if_neg c1]
    by_cases c2 : dt ax ay bx by_ px py ≥ ln ax ay bx by_
    · rw [if_pos c2, if_pos c2]
      exact bind_of (len2_f h5 h6) (bind_of (within_len (ln_nonneg _ _ _ _) (ln_bd h5 h6) w0 w1) rfl)
    · rw [if_neg c2, if_neg c2]
      exact bind_of (cross_f h1 h2 h3 h4) (bind_of (within_side (crs_bd h1 h2 h3 h4).1 (crs_bd h1 h2 h3 h4).2 (ln_nonneg _ _ _ _) (ln_bd h1 h2) w0 w1) rfl)


theorem rdot_f {ax ay bx by_ px py : Int} (h1 : Nr ax bx) (h2 : Nr ay by_) (h3 : Nr ax px) (h4 : Nr ay py) : glyphicref1_Dot.f ax ay bx by_ px py = some (dt ax ay bx by_ px py) := by
  unfold glyphicref1_Dot.f
  have b1 := prod_bd h1 h3
  have b2 := prod_bd h2 h4
  obtain ⟨h1, h1'⟩ := h1
  obtain ⟨h2, h2'⟩ := h2
  obtain ⟨h3, h3'⟩ := h3
  obtain ⟨h4, h4'⟩ := h4
  rw [w64 (n := bx - ax) (by omega) (by omega), w64 (n := px - ax) (by omega) (by omega), w64 (n := by_ - ay) (by omega) (by omega), w64 (n := py - ay) (by omega) (by omega), w64 (n := (bx - ax) * (px - ax)) (by omega) (by omega), w64 (n := (by_ - ay) * (py - ay)) (by omega) (by omega), w64 (by omega) (by omega)]
  rfl

theorem rlen2_f {ax ay bx by_ : Int} (h1 : Nr ax bx) (h2 : Nr ay by_) : glyphicref1_Len2.f ax ay bx by_ = some (ln ax ay bx by_) := by
  unfold glyphicref1_Len2.f
  exact bind_of (rdot_f h1 h2 h1 h2) rfl

theorem and_mask (k : Nat) (hk : k ≤ 62) (n m : Int) (hm : m = 2 ^ k - 1) : Go.bits .and .i64 n m = n % 2 ^ k := by
  have hp : (2 : Int) ^ k ≤ 2 ^ 62 := by
    have : 2 ^ k ≤ 2 ^ 62 := Nat.pow_le_pow_right (by omega) hk
    have e : ((2 ^ k : Nat) : Int) = (2 : Int) ^ k := by simp
    omega
  have hp0 : (1 : Int) ≤ 2 ^ k := Int.pow_pos (by omega)
  have e : ((2 ^ k : Nat) : Int) = (2 : Int) ^ k := by simp
  have hb : (BitVec.ofInt 64 m).toNat = 2 ^ k - 1 := by
    rw [BitVec.toNat_ofInt, hm]
    omega
  have key : (BitVec.ofInt 64 n &&& BitVec.ofInt 64 m).toNat = (n % ((2 ^ 64 : Nat) : Int)).toNat % 2 ^ k := by
    rw [BitVec.toNat_and, BitVec.toNat_ofInt, hb, Nat.and_two_pow_sub_one_eq_mod]
  show IntKind.i64.wrap ((BitVec.ofInt 64 n &&& BitVec.ofInt 64 m).toNat : Nat) = n % 2 ^ k
  rw [key, IntKind.wrap_i64]
  have h1 : 0 ≤ n % 18446744073709551616 := by omega
  have h2 : (((n % ((2 ^ 64 : Nat) : Int)).toNat % 2 ^ k : Nat) : Int) = n % 18446744073709551616 % 2 ^ k := by
    rw [Int.natCast_emod, e, Int.toNat_of_nonneg (by omega)]
    rfl
  have h3 : n % 18446744073709551616 % 2 ^ k = n % 2 ^ k := by
    apply Int.emod_emod_of_dvd
    exact ⟨2 ^ (64 - k), by rw [← Int.pow_add, show k + (64 - k) = 64 by omega]; rfl⟩
  rw [h2, h3]
  have h4 := Int.emod_nonneg n (show (2 : Int) ^ k ≠ 0 by omega)
  have h5 := Int.emod_lt_of_pos n (show (0 : Int) < 2 ^ k by omega)
  omega

theorem number_f {v m : Int} (v0 : 0 ≤ v) (m0 : 1 ≤ m) : glyphicworld_Number.f v m = some (v % m) := by
  have h := Int.emod_nonneg v (show m ≠ 0 by omega)
  unfold glyphicworld_Number.f
  rw [if_neg (by omega), tmod_pos v0, if_neg (by omega)]

theorem slant {k n m w : Int} (k0 : 1 ≤ k) (n0 : 0 ≤ n) (n1 : n ≤ k) : nearB 0 0 (3 * k) (4 * k) (3 * n - 4 * m) (4 * n + 3 * m) w = decide (4 * (5 * m) * (5 * m) ≤ w * w) := by
  have hd : dt 0 0 (3 * k) (4 * k) (3 * n - 4 * m) (4 * n + 3 * m) = 25 * (k * n) := by unfold dt; grind
  have hl : ln 0 0 (3 * k) (4 * k) = 25 * (k * k) := by unfold ln; grind
  have hc : crs 0 0 (3 * k) (4 * k) (3 * n - 4 * m) (4 * n + 3 * m) = 25 * (k * m) := by unfold crs; grind
  have ha : ln 0 0 (3 * n - 4 * m) (4 * n + 3 * m) = 25 * (n * n + m * m) := by unfold ln; grind
  have he : ln (3 * k) (4 * k) (3 * n - 4 * m) (4 * n + 3 * m) = 25 * ((n - k) * (n - k) + m * m) := by unfold ln; grind
  unfold nearB
  rw [hd, hl, hc, ha, he]
  have i1 : 25 * (k * n) ≤ 0 ↔ n ≤ 0 := by
    constructor
    · intro h
      by_cases hx : n ≤ 0
      · exact hx
      · have := Int.mul_pos (show 0 < k by omega) (show 0 < n by omega)
        omega
    · intro h
      obtain rfl : n = 0 := by omega
      simp
  have i2 : 25 * (k * n) ≥ 25 * (k * k) ↔ n ≥ k := by
    have : k * k ≤ k * n ↔ k ≤ n := Int.mul_le_mul_left (by omega)
    omega
  by_cases h0 : n ≤ 0
  · obtain rfl : n = 0 := by omega
    rw [if_pos (i1.2 h0)]
    congr 2
    grind
  · rw [if_neg (fun h => h0 (i1.1 h))]
    by_cases h1 : n ≥ k
    · obtain rfl : n = k := by omega
      rw [if_pos (i2.2 h1)]
      congr 2
      grind
    · rw [if_neg (fun h => h1 (i2.1 h))]
      have e1 : 4 * (25 * (k * m) * (25 * (k * m))) = 25 * (k * k) * (4 * (5 * m) * (5 * m)) := by grind
      have e2 : w * w * (25 * (k * k)) = 25 * (k * k) * (w * w) := by grind
      have e3 : 0 < 25 * (k * k) := by have := Int.mul_pos (show 0 < k by omega) (show 0 < k by omega); omega
      rw [e1, e2]
      have i3 : 25 * (k * k) * (4 * (5 * m) * (5 * m)) ≤ 25 * (k * k) * (w * w) ↔ 4 * (5 * m) * (5 * m) ≤ w * w := Int.mul_le_mul_left e3
      by_cases hh : 4 * (5 * m) * (5 * m) ≤ w * w
      · rw [decide_eq_true hh, decide_eq_true (i3.2 hh)]
      · rw [decide_eq_false hh, decide_eq_false (fun h => hh (i3.1 h))]

theorem PlaneSlants : glyphiclaw4_PlaneSlants.Pure := by
  intro a0 a1 a2 a3 _ _ _ _
  have hf : glyphiclaw4_first.f = some true := by decide +kernel
  unfold glyphiclaw4_PlaneSlants.f
  refine bind_of hf ?_
  rw [if_pos rfl]
  have t2 := tmod_in a2 (b := 500) (by omega)
  rw [and_mask 16 (by omega) a0 65535 (by decide), and_mask 16 (by omega) a1 65535 (by decide), and_mask 16 (by omega) a3 65535 (by decide)]
  have m1 : 0 ≤ a0 % 2 ^ 16 := Int.emod_nonneg _ (by decide)
  have m2 : 0 ≤ a1 % 2 ^ 16 := Int.emod_nonneg _ (by decide)
  have m3 : 0 ≤ a3 % 2 ^ 16 := Int.emod_nonneg _ (by decide)
  generalize a0 % 2 ^ 16 = v0 at *
  generalize a1 % 2 ^ 16 = v1 at *
  generalize a3 % 2 ^ 16 = v3 at *
  refine bind_of (number_f m1 (by omega)) (bind_of (number_f m2 (by omega)) (bind_of (number_f m3 (by omega)) ?_))
  have b0 : 0 ≤ v0 % 1000 ∧ v0 % 1000 ≤ 999 := by omega
  have b1 : 0 ≤ v1 % 1001 ∧ v1 % 1001 ≤ 1000 := by omega
  have b3 : 0 ≤ v3 % 6000 ∧ v3 % 6000 ≤ 5999 := by omega
  generalize v0 % 1000 = j at *
  generalize v1 % 1001 = p at *
  generalize v3 % 6000 = w at *
  generalize Int.tmod a2 500 = m at *
  rw [w64 (n := j + 1) (by omega) (by omega)]
  have k0 : 1 ≤ j + 1 ∧ j + 1 ≤ 1000 := by omega
  generalize j + 1 = k at *
  have q1 := mul_bd (M := 1000) (N := 1000) (x := p) (y := k) (by omega) (by omega) (by omega) (by omega)
  have q0 : 0 ≤ p * k := Int.mul_nonneg b1.1 (by omega)
  have q2 : p * k ≤ 1000 * k := Int.mul_le_mul_of_nonneg_right b1.2 (by omega)
  rw [w64 (n := p * k) (by omega) (by omega), Int.tdiv_eq_ediv, if_pos (Or.inl q0), w64 (n := p * k / 1000 + 0) (by omega) (by omega)]
  have hn : 0 ≤ p * k / 1000 + 0 ∧ p * k / 1000 + 0 ≤ k := by omega
  generalize p * k / 1000 + 0 = n at *
  have q5 := mul_bd (M := 2500) (N := 2500) (x := 5 * m) (y := 5 * m) (by omega) (by omega) (by omega) (by omega)
  have q6 := mul_bd (M := 6000) (N := 6000) (x := w) (y := w) (by omega) (by omega) (by omega) (by omega)
  have q7 := mul_bd (M := 1000) (N := 1000) (x := k) (y := k) (by omega) (by omega) (by omega) (by omega)
  have q8 : 4 * (5 * m) * (5 * m) = 4 * (5 * m * (5 * m)) := by grind
  have q9 : 25 * k * k = 25 * (k * k) := by grind
  rw [w64 (n := 3 * k) (by omega) (by omega), w64 (n := 4 * k) (by omega) (by omega), w64 (n := 3 * n) (by omega) (by omega), w64 (n := 4 * n) (by omega) (by omega), w64 (n := 4 * m) (by omega) (by omega), w64 (n := 3 * m) (by omega) (by omega), w64 (n := 3 * n - 4 * m) (by omega) (by omega), w64 (n := 4 * n + 3 * m) (by omega) (by omega), w64 (n := 5 * m) (by omega) (by omega), w64 (n := 4 * (5 * m)) (by omega) (by omega), w64 (n := 4 * (5 * m) * (5 * m)) (by omega) (by omega), w64 (n := w * w) (by omega) (by omega), w64 (n := 25 * k) (by omega) (by omega), w64 (n := 25 * k * k) (by omega) (by omega)]
  refine bind_of (near_f (by unfold Nr; omega) (by unfold Nr; omega) (by unfold Nr; omega) (by unfold Nr; omega) (by unfold Nr; omega) (by unfold Nr; omega) b3.1 (by omega)) ?_
  rw [slant k0.1 hn.1 hn.2, if_pos (by simp)]
  refine bind_of (rlen2_f (by unfold Nr; omega) (by unfold Nr; omega)) ?_
  rw [show ln 0 0 (3 * k) (4 * k) = 25 * k * k by unfold ln; grind]
  simp

end Go.Proofs.Ytgaikembekkfiaa.Pure
