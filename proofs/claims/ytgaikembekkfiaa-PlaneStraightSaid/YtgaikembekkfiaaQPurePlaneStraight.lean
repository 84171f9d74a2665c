/- Proved: PlaneStraight is true for every input. -/
import Derived.Test.YtgaikembekkfiaaQPlaneStraightx5
import Derived.OpenShut
namespace Go.Proofs.Ytgaikembekkfiaa.Pure
open Go.RowKit Go.Proofs.Ytgaikembekkfiaa.QPlaneStraight Go.Proofs.YtgaikembekkfiaaW.PrintWords Go.Proofs.YtgaikembekkfiaaW.PrintLast Go.Proofs.YtgaikembekkfiaaW.PrintMore

theorem bind_of {α β : Type} {o : Option α} {f : α → Option β} {x : α} {r : Option β} (h : o = some x) (h2 : f x = r) : o.bind f = r := by
  subst h
  exact h2

theorem w64 {n : Int} (h0 : -9223372036854775808 ≤ n) (h1 : n ≤ 9223372036854775807) : wrap64 n = n := by
  unfold wrap64
  omega

theorem div_is {a b q : Int} (hb : 0 < b) (h1 : q * b ≤ a) (h2 : a < q * b + b) : a / b = q := by
  apply Int.le_antisymm
  · exact Int.lt_add_one_iff.1 (Int.ediv_lt_of_lt_mul hb (by rw [Int.add_mul, Int.one_mul]; exact h2))
  · exact Int.le_ediv_of_mul_le hb h1

theorem div_in (a : Int) {b : Int} (hb : 0 < b) : a / b * b ≤ a ∧ a < a / b * b + b := by
  have h1 := Int.mul_ediv_add_emod a b
  have h2 := Int.emod_nonneg a (Int.ne_of_gt hb)
  have h3 := Int.emod_lt_of_pos a hb
  rw [Int.mul_comm] at h1
  omega

theorem div_bd (a : Int) {b : Int} (hb : 0 < b) : (0 ≤ a → 0 ≤ a / b ∧ a / b ≤ a) ∧ (a < 0 → a ≤ a / b ∧ a / b < 0) := by
  obtain ⟨h1, h2⟩ := div_in a hb
  refine ⟨fun h => ⟨Int.ediv_nonneg h (by omega), Int.ediv_le_self _ h⟩, fun h => ⟨?_, Int.ediv_neg_of_neg_of_pos h hb⟩⟩
  exact Int.le_ediv_of_mul_le hb (by
    have : a * b ≤ a * 1 := Int.mul_le_mul_of_nonpos_left (by omega) (by omega)
    omega)

theorem tmod_in (a : Int) {b : Int} (hb : 0 < b) : -b < Int.tmod a b ∧ Int.tmod a b < b := by
  rw [Int.tmod_eq_emod]
  have h2 := Int.emod_nonneg a (show b ≠ 0 by omega)
  have h3 := Int.emod_lt_of_pos a hb
  split
  · omega
  · have : ((b.natAbs : Nat) : Int) = b := by omega
    rename_i h
    have hne : a % b ≠ 0 := fun h0 => h (Or.inr (Int.dvd_of_emod_eq_zero h0))
    omega

theorem tmod_pos {a b : Int} (ha : 0 ≤ a) : Int.tmod a b = a % b := by
  rw [Int.tmod_eq_emod, if_pos (Or.inl ha)]; omega

theorem cyc (a : Int) {b : Int} (hb : 0 < b) (hb1 : b ≤ 4611686018427387903) : ∃ s, Int.tmod (wrap64 (Int.tmod a b + b)) b = s ∧ 0 ≤ s ∧ s < b := by
  have h := tmod_in a hb
  refine ⟨_, rfl, ?_⟩
  rw [w64 (by omega) (by omega), tmod_pos (by omega)]
  exact ⟨Int.emod_nonneg _ (by omega), Int.emod_lt_of_pos _ hb⟩

theorem mul_bd {x y M N : Int} (hx0 : -M ≤ x) (hx1 : x ≤ M) (hy0 : -N ≤ y) (hy1 : y ≤ N) : -(M * N) ≤ x * y ∧ x * y ≤ M * N := by
  have h : (x * y).natAbs ≤ M.toNat * N.toNat := by
    rw [Int.natAbs_mul]
    exact Nat.mul_le_mul (by omega) (by omega)
  have e : ((M.toNat * N.toNat : Nat) : Int) = M * N := by
    rw [Int.natCast_mul, Int.toNat_of_nonneg (by omega), Int.toNat_of_nonneg (by omega)]
  omega

/-- Two numbers no farther apart than that. -/
def Nr (a b : Int) : Prop := -268435456 ≤ b - a ∧ b - a ≤ 268435456

theorem prod_bd {a b c d : Int} (h1 : Nr a b) (h2 : Nr c d) : -72057594037927936 ≤ (b - a) * (d - c) ∧ (b - a) * (d - c) ≤ 72057594037927936 := mul_bd (M := 268435456) (N := 268435456) (by have := h1.1; omega) h1.2 (by have := h2.1; omega) h2.2

def crs (ax ay bx by_ px py : Int) : Int := (bx - ax) * (py - ay) - (by_ - ay) * (px - ax)
def dt (ax ay bx by_ px py : Int) : Int := (bx - ax) * (px - ax) + (by_ - ay) * (py - ay)
def ln (ax ay bx by_ : Int) : Int := (bx - ax) * (bx - ax) + (by_ - ay) * (by_ - ay)

theorem sq_nonneg (x : Int) : 0 ≤ x * x := by
  rcases Int.le_total 0 x with h | h
  · exact Int.mul_nonneg h h
  · exact Int.mul_nonneg_of_nonpos_of_nonpos h h

theorem ln_nonneg (ax ay bx by_ : Int) : 0 ≤ ln ax ay bx by_ := by
  unfold ln
  have := sq_nonneg (bx - ax)
  have := sq_nonneg (by_ - ay)
  omega

theorem ln_bd {ax ay bx by_ : Int} (h1 : Nr ax bx) (h2 : Nr ay by_) : ln ax ay bx by_ ≤ 144115188075855872 := by
  unfold ln
  have := prod_bd h1 h1
  have := prod_bd h2 h2
  omega

theorem dt_bd {ax ay bx by_ px py : Int} (h1 : Nr ax bx) (h2 : Nr ay by_) (h3 : Nr ax px) (h4 : Nr ay py) : -144115188075855872 ≤ dt ax ay bx by_ px py ∧ dt ax ay bx by_ px py ≤ 144115188075855872 := by
  unfold dt
  have := prod_bd h1 h3
  have := prod_bd h2 h4
  omega

theorem crs_bd {ax ay bx by_ px py : Int} (h1 : Nr ax bx) (h2 : Nr ay by_) (h3 : Nr ax px) (h4 : Nr ay py) : -144115188075855872 ≤ crs ax ay bx by_ px py ∧ crs ax ay bx by_ px py ≤ 144115188075855872 := by
  unfold crs
  have := prod_bd h1 h4
  have := prod_bd h2 h3
  omega

theorem sub_f {a b c d : Int} (h1 : Nr c a) (h2 : Nr d b) : plane_Sub.f a b c d = some (a - c, b - d) := by
  unfold plane_Sub.f
  rw [w64 (by have := h1.1; omega) (by have := h1.2; omega), w64 (by have := h2.1; omega) (by have := h2.2; omega)]

theorem cross_f {ax ay bx by_ px py : Int} (h1 : Nr ax bx) (h2 : Nr ay by_) (h3 : Nr ax px) (h4 : Nr ay py) : plane_Cross.f ax ay bx by_ px py = some (crs ax ay bx by_ px py) := by
  unfold plane_Cross.f
  refine bind_of (sub_f h1 h2) (bind_of (sub_f h3 h4) ?_)
  have b1 := prod_bd h1 h4
  have b2 := prod_bd h2 h3
  show some (wrap64 (wrap64 ((bx - ax) * (py - ay)) - wrap64 ((by_ - ay) * (px - ax)))) = _
  rw [w64 (n := (bx - ax) * (py - ay)) (by omega) (by omega), w64 (n := (by_ - ay) * (px - ax)) (by omega) (by omega), w64 (by omega) (by omega)]
  rfl

theorem dot_f {ax ay bx by_ px py : Int} (h1 : Nr ax bx) (h2 : Nr ay by_) (h3 : Nr ax px) (h4 : Nr ay py) : plane_Dot.f ax ay bx by_ px py = some (dt ax ay bx by_ px py) := by
  unfold plane_Dot.f
  refine bind_of (sub_f h1 h2) (bind_of (sub_f h3 h4) ?_)
  have b1 := prod_bd h1 h3
  have b2 := prod_bd h2 h4
  show some (wrap64 (wrap64 ((bx - ax) * (px - ax)) + wrap64 ((by_ - ay) * (py - ay)))) = _
  rw [w64 (n := (bx - ax) * (px - ax)) (by omega) (by omega), w64 (n := (by_ - ay) * (py - ay)) (by omega) (by omega), w64 (by omega) (by omega)]
  rfl

theorem len2_f {ax ay bx by_ : Int} (h1 : Nr ax bx) (h2 : Nr ay by_) : plane_Len2.f ax ay bx by_ = some (ln ax ay bx by_) := by
  unfold plane_Len2.f
  exact bind_of (dot_f h1 h2 h1 h2) rfl

/-- Near, as the document says it. -/
def nearB (ax ay bx by_ px py w : Int) : Bool :=
  if dt ax ay bx by_ px py ≤ 0 then decide (4 * ln ax ay px py ≤ w * w)
  else if dt ax ay bx by_ px py ≥ ln ax ay bx by_ then decide (4 * ln bx by_ px py ≤ w * w)
  else decide (4 * (crs ax ay bx by_ px py * crs ax ay bx by_ px py) ≤ w * w * ln ax ay bx by_)

theorem within_len {l w : Int} (l0 : 0 ≤ l) (l1 : l ≤ 144115188075855872) (w0 : 0 ≤ w) (w1 : w ≤ 268435456) : plane_within.f 4 l w w = some (decide (4 * l ≤ w * w)) := by
  unfold plane_within.f
  rw [if_pos (by omega)]
  rw [show ((4 : Int).natAbs : Int) = 4 from rfl, show ((l.natAbs : Nat) : Int) = l by omega, show ((w.natAbs : Nat) : Int) = w by omega]

theorem within_side {c l w : Int} (c0 : -144115188075855872 ≤ c) (c1 : c ≤ 144115188075855872) (l0 : 0 ≤ l) (l1 : l ≤ 144115188075855872) (w0 : 0 ≤ w) (w1 : w ≤ 268435456) : plane_within.f (wrap64 (2 * c)) (wrap64 (2 * c)) (wrap64 (w * w)) l = some (decide (4 * (c * c) ≤ w * w * l)) := by
  have h := mul_bd (M := 268435456) (N := 268435456) (x := w) (y := w) (by omega) w1 (by omega) w1
  have hw := sq_nonneg w
  rw [w64 (n := 2 * c) (by omega) (by omega), w64 (n := w * w) (by omega) (by omega)]
  unfold plane_within.f
  rw [if_pos (by omega)]
  rw [show (((2 * c).natAbs : Nat) : Int) * (((2 * c).natAbs : Nat) : Int) = 4 * (c * c) by rw [← Int.natCast_mul, Int.natAbs_mul_self]; grind, show ((l.natAbs : Nat) : Int) = l by omega, show (((w * w).natAbs : Nat) : Int) = w * w by omega]

theorem near_f {ax ay bx by_ px py w : Int} (h1 : Nr ax bx) (h2 : Nr ay by_) (h3 : Nr ax px) (h4 : Nr ay py) (h5 : Nr bx px) (h6 : Nr by_ py) (w0 : 0 ≤ w) (w1 : w ≤ 268435456) : plane_Near.f ax ay bx by_ px py w = some (nearB ax ay bx by_ px py w) := by
  unfold plane_Near.f nearB
  refine bind_of (dot_f h1 h2 h3 h4) (bind_of (len2_f h1 h2) ?_)
  by_cases c1 : dt ax ay bx by_ px py ≤ 0
  · rw [if_pos c1, if_pos c1]
    exact bind_of (len2_f h3 h4) (bind_of (within_len (ln_nonneg _ _ _ _) (ln_bd h3 h4) w0 w1) rfl)
  · rw [if_neg c1, if_neg c1]
    by_cases c2 : dt ax ay bx by_ px py ≥ ln ax ay bx by_
    · rw [if_pos c2, if_pos c2]
      exact bind_of (len2_f h5 h6) (bind_of (within_len (ln_nonneg _ _ _ _) (ln_bd h5 h6) w0 w1) rfl)
    · rw [if_neg c2, if_neg c2]
      exact bind_of (cross_f h1 h2 h3 h4) (bind_of (within_side (crs_bd h1 h2 h3 h4).1 (crs_bd h1 h2 h3 h4).2 (ln_nonneg _ _ _ _) (ln_bd h1 h2) w0 w1) rfl)

theorem and_mask (k : Nat) (hk : k ≤ 62) (n m : Int) (hm : m = 2 ^ k - 1) : Go.bits .and .i64 n m = n % 2 ^ k := by
  have hp : (2 : Int) ^ k ≤ 2 ^ 62 := by
    have : 2 ^ k ≤ 2 ^ 62 := Nat.pow_le_pow_right (by omega) hk
    have e : ((2 ^ k : Nat) : Int) = (2 : Int) ^ k := by simp
    omega
  have hp0 : (1 : Int) ≤ 2 ^ k := Int.pow_pos (by omega)
  have e : ((2 ^ k : Nat) : Int) = (2 : Int) ^ k := by simp
  have hb : (BitVec.ofInt 64 m).toNat = 2 ^ k - 1 := by
    rw [BitVec.toNat_ofInt, hm]
    omega
  have key : (BitVec.ofInt 64 n &&& BitVec.ofInt 64 m).toNat = (n % ((2 ^ 64 : Nat) : Int)).toNat % 2 ^ k := by
    rw [BitVec.toNat_and, BitVec.toNat_ofInt, hb, Nat.and_two_pow_sub_one_eq_mod]
  show IntKind.i64.wrap ((BitVec.ofInt 64 n &&& BitVec.ofInt 64 m).toNat : Nat) = n % 2 ^ k
  rw [key, IntKind.wrap_i64]
  have h1 : 0 ≤ n % 18446744073709551616 := by omega
  have h2 : (((n % ((2 ^ 64 : Nat) : Int)).toNat % 2 ^ k : Nat) : Int) = n % 18446744073709551616 % 2 ^ k := by
    rw [Int.natCast_emod, e, Int.toNat_of_nonneg (by omega)]
    rfl
  have h3 : n % 18446744073709551616 % 2 ^ k = n % 2 ^ k := by
    apply Int.emod_emod_of_dvd
    exact ⟨2 ^ (64 - k), by rw [← Int.pow_add, show k + (64 - k) = 64 by omega]; rfl⟩
  rw [h2, h3]
  have h4 := Int.emod_nonneg n (show (2 : Int) ^ k ≠ 0 by omega)
  have h5 := Int.emod_lt_of_pos n (show (0 : Int) < 2 ^ k by omega)
  omega

theorem number_f {v m : Int} (v0 : 0 ≤ v) (m0 : 1 ≤ m) : glyphicworld_Number.f v m = some (v % m) := by
  have h := Int.emod_nonneg v (show m ≠ 0 by omega)
  unfold glyphicworld_Number.f
  rw [if_neg (by omega), tmod_pos v0, if_neg (by omega)]

theorem mul_sign_iff {l x : Int} (hl : 1 ≤ l) : l * x ≤ 0 ↔ x ≤ 0 := by
  constructor
  · intro h
    by_cases hx : x ≤ 0
    · exact hx
    · have := Int.mul_pos (show 0 < l by omega) (show 0 < x by omega)
      omega
  · intro h
    exact Int.mul_nonpos_of_nonneg_of_nonpos (by omega) h

theorem straight {ax ay bx by_ px py w l x y : Int} (hl : 1 ≤ l) (hd : dt ax ay bx by_ px py = l * x) (hb : ln ax ay bx by_ = l * l) (hc : crs ax ay bx by_ px py = l * y) (ha : ln ax ay px py = x * x + y * y) (he : ln bx by_ px py = (x - l) * (x - l) + y * y) :
    (x < 0 → nearB ax ay bx by_ px py w = decide (4 * ((-x) * (-x) + y * y) ≤ w * w)) ∧ (x > l → nearB ax ay bx by_ px py w = decide (4 * ((x - l) * (x - l) + y * y) ≤ w * w)) ∧ (¬ x < 0 → ¬ x > l → nearB ax ay bx by_ px py w = decide (4 * (y * y) ≤ w * w)) := by
  unfold nearB
  rw [hd, hb, hc, ha, he]
  have i1 := mul_sign_iff (l := l) (x := x) hl
  have i2 : l * x ≥ l * l ↔ x ≥ l := Int.mul_le_mul_left (by omega)
  refine ⟨fun h => ?_, fun h => ?_, fun h h' => ?_⟩
  · rw [if_pos (i1.2 (by omega)), Int.neg_mul_neg]
  · rw [if_neg (fun hh => by have := i1.1 hh; omega), if_pos (i2.2 (by omega))]
  · by_cases h0 : x ≤ 0
    · obtain rfl : x = 0 := by omega
      rw [if_pos (i1.2 (by omega))]
      simp
    · rw [if_neg (fun hh => h0 (i1.1 hh))]
      by_cases h1 : x ≥ l
      · obtain rfl : x = l := by omega
        rw [if_pos (i2.2 h1)]
        simp
      · rw [if_neg (fun hh => h1 (i2.1 hh))]
        have e1 : 4 * (l * y * (l * y)) = l * l * (4 * (y * y)) := by grind
        have e2 : w * w * (l * l) = l * l * (w * w) := by grind
        have e3 : 0 < l * l := Int.mul_pos (by omega) (by omega)
        rw [e1, e2]
        have i3 : l * l * (4 * (y * y)) ≤ l * l * (w * w) ↔ 4 * (y * y) ≤ w * w := Int.mul_le_mul_left e3
        by_cases hh : 4 * (y * y) ≤ w * w
        · rw [decide_eq_true hh, decide_eq_true (i3.2 hh)]
        · rw [decide_eq_false hh, decide_eq_false (fun h => hh (i3.1 h))]

theorem PlaneStraight : glyphiclaw4_PlaneStraight.Pure := by
  intro a0 a1 a2 a3 a4 a5 _ _ _ _ _
  have hf : glyphiclaw4_first.f = some true := by decide +kernel
  refine ⟨1, ?_⟩
  unfold glyphiclaw4_PlaneStraight.f
  refine bind_of hf ?_
  rw [if_pos rfl]
  have t1 := tmod_in a0 (b := 100000) (by omega)
  have t2 := tmod_in a2 (b := 20000) (by omega)
  have t3 := tmod_in a3 (b := 20000) (by omega)
  rw [and_mask 24 (by omega) a1 16777215 (by decide), and_mask 24 (by omega) a4 16777215 (by decide)]
  have m1 : 0 ≤ a1 % 2 ^ 24 := Int.emod_nonneg _ (by decide)
  have m2 : 0 ≤ a4 % 2 ^ 24 := Int.emod_nonneg _ (by decide)
  generalize a1 % 2 ^ 24 = v1 at *
  generalize a4 % 2 ^ 24 = v2 at *
  refine bind_of (number_f m1 (by omega)) (bind_of (number_f m2 (by omega)) ?_)
  have l0 : 0 ≤ v1 % 10000 ∧ v1 % 10000 ≤ 9999 := by omega
  have w0 : 0 ≤ v2 % 40000 ∧ v2 % 40000 ≤ 39999 := by omega
  generalize v1 % 10000 = l at *
  generalize v2 % 40000 = w at *
  generalize Int.tmod a0 100000 = x0 at *
  generalize Int.tmod a2 20000 = x at *
  generalize Int.tmod a3 20000 = y at *
  rw [w64 (n := l + 1) (by omega) (by omega), w64 (n := x0 + (l + 1)) (by omega) (by omega), w64 (n := x0 + x) (by omega) (by omega), w64 (n := 7 + y) (by omega) (by omega)]
  have L1 : 1 ≤ l + 1 ∧ l + 1 ≤ 10000 := by omega
  generalize l + 1 = n at *
  have main : ∀ ax ay bx by_ px py : Int, Nr ax bx → Nr ay by_ → Nr ax px → Nr ay py → Nr bx px → Nr by_ py → dt ax ay bx by_ px py = n * x → ln ax ay bx by_ = n * n → crs ax ay bx by_ px py = n * y → ln ax ay px py = x * x + y * y → ln bx by_ px py = (x - n) * (x - n) + y * y → glyphiclaw4_PlaneStraight.j0 1 n x y w true ax ay bx by_ px py = some true := by
    intro ax ay bx by_ px py N1 N2 N3 N4 N5 N6 hd hb hc ha he
    obtain ⟨s1, s2, s3⟩ := straight (w := w) L1.1 hd hb hc ha he
    have hn := near_f N1 N2 N3 N4 N5 N6 w0.1 (show w ≤ 268435456 by omega)
    have q1 := mul_bd (M := 20000) (N := 20000) (x := y) (y := y) (by omega) (by omega) (by omega) (by omega)
    have q2 := mul_bd (M := 20000) (N := 20000) (x := x) (y := x) (by omega) (by omega) (by omega) (by omega)
    have q3 := mul_bd (M := 40000) (N := 40000) (x := x - n) (y := x - n) (by omega) (by omega) (by omega) (by omega)
    have q4 := mul_bd (M := 40000) (N := 40000) (x := w) (y := w) (by omega) (by omega) (by omega) (by omega)
    rw [glyphiclaw4_PlaneStraight.j0]
    rw [w64 (n := x - n) (by omega) (by omega), w64 (n := (x - n) * (x - n)) (by omega) (by omega), w64 (n := y * y) (by omega) (by omega), w64 (n := w * w) (by omega) (by omega), w64 (n := -x) (by omega) (by omega), w64 (n := -x * -x) (by rw [Int.neg_mul_neg]; omega) (by rw [Int.neg_mul_neg]; omega), w64 (n := (x - n) * (x - n) + y * y) (by omega) (by omega), w64 (n := -x * -x + y * y) (by rw [Int.neg_mul_neg]; omega) (by rw [Int.neg_mul_neg]; omega), w64 (n := 4 * ((x - n) * (x - n) + y * y)) (by omega) (by omega), w64 (n := 4 * (-x * -x + y * y)) (by rw [Int.neg_mul_neg]; omega) (by rw [Int.neg_mul_neg]; omega), w64 (n := 0 * 0 + y * y) (by omega) (by omega), w64 (n := 4 * (0 * 0 + y * y)) (by omega) (by omega)]
    by_cases k1 : x < 0
    · rw [if_pos k1, if_neg (by omega), if_pos rfl]
      refine bind_of hn ?_
      rw [s1 k1]
      simp
    · rw [if_neg k1]
      by_cases k2 : x > n
      · rw [if_pos k2, if_pos rfl]
        refine bind_of hn ?_
        rw [s2 k2]
        simp
      · rw [if_neg k2, if_pos rfl]
        refine bind_of hn ?_
        rw [s3 k1 k2]
        simp
  by_cases h5 : a5 = true
  · rw [if_pos h5]
    refine bind_of (x := (wrap64 (-7), x0)) rfl (bind_of (x := (wrap64 (-7), x0 + n)) rfl (bind_of (x := (wrap64 (-(7 + y)), x0 + x)) rfl ?_))
    rw [w64 (n := -7) (by omega) (by omega), w64 (n := -(7 + y)) (by omega) (by omega)]
    refine main (-7) x0 (-7) (x0 + n) (-(7 + y)) (x0 + x) (by unfold Nr; omega) (by unfold Nr; omega) (by unfold Nr; omega) (by unfold Nr; omega) (by unfold Nr; omega) (by unfold Nr; omega) ?_ ?_ ?_ ?_ ?_
    · unfold dt; grind
    · unfold ln; grind
    · unfold crs; grind
    · unfold ln; grind
    · unfold ln; grind
  · rw [if_neg h5]
    refine main x0 7 (x0 + n) 7 (x0 + x) (7 + y) (by unfold Nr; omega) (by unfold Nr; omega) (by unfold Nr; omega) (by unfold Nr; omega) (by unfold Nr; omega) (by unfold Nr; omega) ?_ ?_ ?_ ?_ ?_
    · unfold dt; grind
    · unfold ln; grind
    · unfold crs; grind
    · unfold ln; grind
    · unfold ln; grind

end Go.Proofs.Ytgaikembekkfiaa.Pure
