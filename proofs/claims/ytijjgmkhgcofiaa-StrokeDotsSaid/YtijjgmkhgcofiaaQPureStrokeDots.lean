/- Proved: StrokeDots is true for every input. -/
import Derived.Test.YtijjgmkhgcofiaaQStrokeDotsx2
import Derived.OpenShut
namespace Go.Proofs.Ytijjgmkhgcofiaa.Pure
open Go Go.RowKit Go.Proofs.Ytijjgmkhgcofiaa.QStrokeDots Go.Proofs.YtijjgmkhgcofiaaE Go.Proofs.YtijjgmkhgcofiaaX

theorem bind_of {α β : Type} {o : Option α} {f : α → Option β} {x : α} {r : Option β} (h : o = some x) (h2 : f x = r) : o.bind f = r := by
  subst h
  exact h2

theorem div_is {a b q : Int} (hb : 0 < b) (h1 : q * b ≤ a) (h2 : a < q * b + b) : a / b = q := by
  apply Int.le_antisymm
  · exact Int.lt_add_one_iff.1 (Int.ediv_lt_of_lt_mul hb (by rw [Int.add_mul, Int.one_mul]; exact h2))
  · exact Int.le_ediv_of_mul_le hb h1

theorem div_in (a : Int) {b : Int} (hb : 0 < b) : a / b * b ≤ a ∧ a < a / b * b + b := by
  have h1 := Int.mul_ediv_add_emod a b
  have h2 := Int.emod_nonneg a (Int.ne_of_gt hb)
  have h3 := Int.emod_lt_of_pos a hb
  rw [Int.mul_comm] at h1
  omega

theorem div_bd (a : Int) {b : Int} (hb : 0 < b) : (0 ≤ a → 0 ≤ a / b ∧ a / b ≤ a) ∧ (a < 0 → a ≤ a / b ∧ a / b < 0) := by
  obtain ⟨h1, h2⟩ := div_in a hb
  refine ⟨fun h => ⟨Int.ediv_nonneg h (by omega), Int.ediv_le_self _ h⟩, fun h => ⟨?_, Int.ediv_neg_of_neg_of_pos h hb⟩⟩
  exact Int.le_ediv_of_mul_le hb (by
    have : a * b ≤ a * 1 := Int.mul_le_mul_of_nonpos_left (by omega) (by omega)
    omega)

theorem tmod_in (a : Int) {b : Int} (hb : 0 < b) : -b < Int.tmod a b ∧ Int.tmod a b < b := by
  rw [Int.tmod_eq_emod]
  have h2 := Int.emod_nonneg a (show b ≠ 0 by omega)
  have h3 := Int.emod_lt_of_pos a hb
  split
  · omega
  · have : ((b.natAbs : Nat) : Int) = b := by omega
    rename_i h
    have hne : a % b ≠ 0 := fun h0 => h (Or.inr (Int.dvd_of_emod_eq_zero h0))
    omega

theorem tmod_pos {a b : Int} (ha : 0 ≤ a) : Int.tmod a b = a % b := by
  rw [Int.tmod_eq_emod, if_pos (Or.inl ha)]; omega

theorem cyc (a : Int) {b : Int} (hb : 0 < b) (hb1 : b ≤ 4611686018427387903) : ∃ s, Int.tmod (wr64 (Int.tmod a b + b)) b = s ∧ 0 ≤ s ∧ s < b := by
  have h := tmod_in a hb
  refine ⟨_, rfl, ?_⟩
  rw [w64 (by omega) (by omega), tmod_pos (by omega)]
  exact ⟨Int.emod_nonneg _ (by omega), Int.emod_lt_of_pos _ hb⟩

theorem size1 {n : Int} (n0 : -9223372036854775807 ≤ n) (n1 : n ≤ 9223372036854775807) : plane_within_1.f n = some (n.natAbs : Int) := by
  unfold plane_within_1.f mx
  rw [w64 (n := 0 - n) (by omega) (by omega), wru64_eq]
  congr 1
  split <;> omega

theorem within_f {a b c d : Int} (a0 : -9223372036854775807 ≤ a) (a1 : a ≤ 9223372036854775807) (b0 : -9223372036854775807 ≤ b) (b1 : b ≤ 9223372036854775807) (c0 : -9223372036854775807 ≤ c) (c1 : c ≤ 9223372036854775807) (d0 : -9223372036854775807 ≤ d) (d1 : d ≤ 9223372036854775807) :
    plane_within.f a b c d = some (decide ((a.natAbs : Int) * (b.natAbs : Int) ≤ (c.natAbs : Int) * (d.natAbs : Int))) := by
  have M : ∀ x y : Int, 0 ≤ x → x ≤ 9223372036854775807 → 0 ≤ y → y ≤ 9223372036854775807 → bits_Mul64.f x y = some (x * y / 18446744073709551616, x * y % 18446744073709551616) := by
    intro x y h1 h2 h3 h4
    unfold bits_Mul64.f
    rw [if_pos ⟨h1, by omega, h3, by omega⟩]
  unfold plane_within.f
  refine bind_of (size1 a0 a1) (bind_of (size1 b0 b1) (bind_of (M _ _ (by omega) (by omega) (by omega) (by omega)) (bind_of (size1 c0 c1) (bind_of (size1 d0 d1) (bind_of (M _ _ (by omega) (by omega) (by omega) (by omega)) ?_)))))
  dsimp only
  generalize (a.natAbs : Int) * (b.natAbs : Int) = P
  generalize (c.natAbs : Int) * (d.natAbs : Int) = Q
  by_cases h1 : P / 18446744073709551616 < Q / 18446744073709551616
  · rw [if_pos h1, decide_eq_true (by omega)]
  · rw [if_neg h1]
    by_cases h2 : P / 18446744073709551616 = Q / 18446744073709551616
    · rw [if_pos h2]
      congr 1
      by_cases h3 : P ≤ Q
      · rw [decide_eq_true h3, decide_eq_true (by omega)]
      · rw [decide_eq_false h3, decide_eq_false (by omega)]
    · rw [if_neg h2, decide_eq_false (by omega)]

theorem mul_bd {x y M N : Int} (hx0 : -M ≤ x) (hx1 : x ≤ M) (hy0 : -N ≤ y) (hy1 : y ≤ N) : -(M * N) ≤ x * y ∧ x * y ≤ M * N := by
  have h : (x * y).natAbs ≤ M.toNat * N.toNat := by
    rw [Int.natAbs_mul]
    exact Nat.mul_le_mul (by omega) (by omega)
  have e : ((M.toNat * N.toNat : Nat) : Int) = M * N := by
    rw [Int.natCast_mul, Int.toNat_of_nonneg (by omega), Int.toNat_of_nonneg (by omega)]
  omega

/-- Two numbers no farther apart than that. -/
def Nr (a b : Int) : Prop := -268435456 ≤ b - a ∧ b - a ≤ 268435456

theorem prod_bd {a b c d : Int} (h1 : Nr a b) (h2 : Nr c d) : -72057594037927936 ≤ (b - a) * (d - c) ∧ (b - a) * (d - c) ≤ 72057594037927936 := mul_bd (M := 268435456) (N := 268435456) (by have := h1.1; omega) h1.2 (by have := h2.1; omega) h2.2

def crs (ax ay bx by_ px py : Int) : Int := (bx - ax) * (py - ay) - (by_ - ay) * (px - ax)
def dt (ax ay bx by_ px py : Int) : Int := (bx - ax) * (px - ax) + (by_ - ay) * (py - ay)
def ln (ax ay bx by_ : Int) : Int := (bx - ax) * (bx - ax) + (by_ - ay) * (by_ - ay)

theorem sq_nonneg (x : Int) : 0 ≤ x * x := by
  rcases Int.le_total 0 x with h | h
  · exact Int.mul_nonneg h h
  · exact Int.mul_nonneg_of_nonpos_of_nonpos h h

theorem ln_nonneg (ax ay bx by_ : Int) : 0 ≤ ln ax ay bx by_ := by
  unfold ln
  have := sq_nonneg (bx - ax)
  have := sq_nonneg (by_ - ay)
  omega

theorem ln_bd {ax ay bx by_ : Int} (h1 : Nr ax bx) (h2 : Nr ay by_) : ln ax ay bx by_ ≤ 144115188075855872 := by
  unfold ln
  have := prod_bd h1 h1
  have := prod_bd h2 h2
  omega

theorem dt_bd {ax ay bx by_ px py : Int} (h1 : Nr ax bx) (h2 : Nr ay by_) (h3 : Nr ax px) (h4 : Nr ay py) : -144115188075855872 ≤ dt ax ay bx by_ px py ∧ dt ax ay bx by_ px py ≤ 144115188075855872 := by
  unfold dt
  have := prod_bd h1 h3
  have := prod_bd h2 h4
  omega

theorem crs_bd {ax ay bx by_ px py : Int} (h1 : Nr ax bx) (h2 : Nr ay by_) (h3 : Nr ax px) (h4 : Nr ay py) : -144115188075855872 ≤ crs ax ay bx by_ px py ∧ crs ax ay bx by_ px py ≤ 144115188075855872 := by
  unfold crs
  have := prod_bd h1 h4
  have := prod_bd h2 h3
  omega

theorem sub_f {a b c d : Int} (h1 : Nr c a) (h2 : Nr d b) : plane_Sub.f a b c d = some (a - c, b - d) := by
  unfold plane_Sub.f
  rw [w64 (by have := h1.1; omega) (by have := h1.2; omega), w64 (by have := h2.1; omega) (by have := h2.2; omega)]

theorem cross_f {ax ay bx by_ px py : Int} (h1 : Nr ax bx) (h2 : Nr ay by_) (h3 : Nr ax px) (h4 : Nr ay py) : plane_Cross.f ax ay bx by_ px py = some (crs ax ay bx by_ px py) := by
  unfold plane_Cross.f
  refine bind_of (sub_f h1 h2) (bind_of (sub_f h3 h4) ?_)
  have b1 := prod_bd h1 h4
  have b2 := prod_bd h2 h3
  show some (wr64 (wr64 ((bx - ax) * (py - ay)) - wr64 ((by_ - ay) * (px - ax)))) = _
  rw [w64 (n := (bx - ax) * (py - ay)) (by omega) (by omega), w64 (n := (by_ - ay) * (px - ax)) (by omega) (by omega), w64 (by omega) (by omega)]
  rfl

theorem dot_f {ax ay bx by_ px py : Int} (h1 : Nr ax bx) (h2 : Nr ay by_) (h3 : Nr ax px) (h4 : Nr ay py) : plane_Dot.f ax ay bx by_ px py = some (dt ax ay bx by_ px py) := by
  unfold plane_Dot.f
  refine bind_of (sub_f h1 h2) (bind_of (sub_f h3 h4) ?_)
  have b1 := prod_bd h1 h3
  have b2 := prod_bd h2 h4
  show some (wr64 (wr64 ((bx - ax) * (px - ax)) + wr64 ((by_ - ay) * (py - ay)))) = _
  rw [w64 (n := (bx - ax) * (px - ax)) (by omega) (by omega), w64 (n := (by_ - ay) * (py - ay)) (by omega) (by omega), w64 (by omega) (by omega)]
  rfl

theorem len2_f {ax ay bx by_ : Int} (h1 : Nr ax bx) (h2 : Nr ay by_) : plane_Len2.f ax ay bx by_ = some (ln ax ay bx by_) := by
  unfold plane_Len2.f
  exact bind_of (dot_f h1 h2 h1 h2) rfl

/-- Near, as the document says it. -/
def nearB (ax ay bx by_ px py w : Int) : Bool :=
  if dt ax ay bx by_ px py ≤ 0 then decide (4 * ln ax ay px py ≤ w * w)
  else if dt ax ay bx by_ px py ≥ ln ax ay bx by_ then decide (4 * ln bx by_ px py ≤ w * w)
  else decide (4 * (crs ax ay bx by_ px py * crs ax ay bx by_ px py) ≤ w * w * ln ax ay bx by_)

theorem within_len {l w : Int} (l0 : 0 ≤ l) (l1 : l ≤ 144115188075855872) (w0 : 0 ≤ w) (w1 : w ≤ 268435456) : plane_within.f 4 l w w = some (decide (4 * l ≤ w * w)) := by
  rw [within_f (by omega) (by omega) (by omega) (by omega) (by omega) (by omega) (by omega) (by omega)]
  rw [show ((4 : Int).natAbs : Int) = 4 from rfl, show ((l.natAbs : Nat) : Int) = l by omega, show ((w.natAbs : Nat) : Int) = w by omega]

theorem within_side {c l w : Int} (c0 : -144115188075855872 ≤ c) (c1 : c ≤ 144115188075855872) (l0 : 0 ≤ l) (l1 : l ≤ 144115188075855872) (w0 : 0 ≤ w) (w1 : w ≤ 268435456) : plane_within.f (wr64 (2 * c)) (wr64 (2 * c)) (wr64 (w * w)) l = some (decide (4 * (c * c) ≤ w * w * l)) := by
  have h := mul_bd (M := 268435456) (N := 268435456) (x := w) (y := w) (by omega) w1 (by omega) w1
  have hw := sq_nonneg w
  rw [w64 (n := 2 * c) (by omega) (by omega), w64 (n := w * w) (by omega) (by omega)]
  rw [within_f (by omega) (by omega) (by omega) (by omega) (by omega) (by omega) (by omega) (by omega)]
  rw [show (((2 * c).natAbs : Nat) : Int) * (((2 * c).natAbs : Nat) : Int) = 4 * (c * c) by rw [← Int.natCast_mul, Int.natAbs_mul_self]; grind, show ((l.natAbs : Nat) : Int) = l by omega, show (((w * w).natAbs : Nat) : Int) = w * w by omega]

theorem near_f {ax ay bx by_ px py w : Int} (h1 : Nr ax bx) (h2 : Nr ay by_) (h3 : Nr ax px) (h4 : Nr ay py) (h5 : Nr bx px) (h6 : Nr by_ py) (w0 : 0 ≤ w) (w1 : w ≤ 268435456) : plane_Near.f ax ay bx by_ px py w = some (nearB ax ay bx by_ px py w) := by
  unfold plane_Near.f nearB
  refine bind_of (dot_f h1 h2 h3 h4) (bind_of (len2_f h1 h2) ?_)
  by_cases c1 : dt ax ay bx by_ px py ≤ 0
  · rw [if_pos c1, if_pos c1]
    exact bind_of (len2_f h3 h4) (bind_of (within_len (ln_nonneg _ _ _ _) (ln_bd h3 h4) w0 w1) rfl)
  · rw [if_neg c1, if_neg c1]
    by_cases c2 : dt ax ay bx by_ px py ≥ ln ax ay bx by_
    · rw [if_pos c2, if_pos c2]
      exact bind_of (len2_f h5 h6) (bind_of (within_len (ln_nonneg _ _ _ _) (ln_bd h5 h6) w0 w1) rfl)
    · rw [if_neg c2, if_neg c2]
      exact bind_of (cross_f h1 h2 h3 h4) (bind_of (within_side (crs_bd h1 h2 h3 h4).1 (crs_bd h1 h2 h3 h4).2 (ln_nonneg _ _ _ _) (ln_bd h1 h2) w0 w1) rfl)

theorem StrokeDots : glyphiclaw23_StrokeDots.Pure := by
  intro x y w cx cy _ _ _ _ _
  have hf : glyphiclaw23_first.f = some true := by decide +kernel
  unfold glyphiclaw23_StrokeDots.f
  refine bind_of hf ?_
  rw [if_pos rfl]
  have hx := tmod_in x (b := 200) (by omega)
  have hy := tmod_in y (b := 200) (by omega)
  have hcx := tmod_in cx (b := 100000) (by omega)
  have hcy := tmod_in cy (b := 100000) (by omega)
  obtain ⟨v, ev, v0, v1⟩ := cyc w (b := 400) (by omega) (by omega)
  rw [ev]
  generalize Int.tmod x 200 = x at *
  generalize Int.tmod y 200 = y at *
  generalize Int.tmod cx 100000 = cx at *
  generalize Int.tmod cy 100000 = cy at *
  have ht : Int.tdiv (v + 1) 2 = (v + 1) / 2 := by rw [Int.tdiv_eq_ediv, if_pos (Or.inl (by omega))]; omega
  have hbox : stroke_Box_v1.f v cx cy cx cy = some (cx - (v + 1) / 2, cy - (v + 1) / 2, cx + (v + 1) / 2, cy + (v + 1) / 2, true) := by
    unfold stroke_Box_v1.f mn mx
    simp only [Int.lt_irrefl, gt_iff_lt, if_false]
    rw [w64 (n := v + 1) (by omega) (by omega), ht, w64 (n := (v + 1) / 2) (by omega) (by omega), w64 (n := cx - (v + 1) / 2) (by omega) (by omega), w64 (n := cy - (v + 1) / 2) (by omega) (by omega), w64 (n := cx + (v + 1) / 2) (by omega) (by omega), w64 (n := cy + (v + 1) / 2) (by omega) (by omega)]
  have m1 := mul_bd (M := 200) (N := 200) (x := x) (y := x) (by omega) (by omega) (by omega) (by omega)
  have m2 := mul_bd (M := 200) (N := 200) (x := y) (y := y) (by omega) (by omega) (by omega) (by omega)
  have m3 := mul_bd (M := 400) (N := 400) (x := v) (y := v) (by omega) (by omega) (by omega) (by omega)
  have hnear : stroke_Near_v3.f v (cx + x) (cy + y) cx cy cx cy = some (decide (4 * (x * x + y * y) ≤ v * v)) := by
    have hN : plane_Near.f cx cy cx cy (cx + x) (cy + y) v = some (decide (4 * (x * x + y * y) ≤ v * v)) := by
      have N1 : Nr cx cx := by unfold Nr; omega
      have N2 : Nr cy cy := by unfold Nr; omega
      have N3 : Nr cx (cx + x) := by unfold Nr; omega
      have N4 : Nr cy (cy + y) := by unfold Nr; omega
      rw [near_f N1 N2 N3 N4 N3 N4 v0 (by omega)]
      unfold nearB
      have d0 : dt cx cy cx cy (cx + x) (cy + y) = 0 := by unfold dt; grind
      have l0 : ln cx cy (cx + x) (cy + y) = x * x + y * y := by unfold ln; grind
      rw [d0, if_pos (by omega), l0]
    unfold stroke_Near_v3.f api_Edge_v5.f api_Edge_v6.f stroke_Near_1_v2.f
    refine bind_of (bind_of (x := if decide (4 * (x * x + y * y) ≤ v * v) = true then 0 else -1) (bind_of (bind_of hN rfl) ?_) rfl) ?_
    · by_cases h : decide (4 * (x * x + y * y) ≤ v * v) = true
      · rw [if_pos h, if_pos h]
      · rw [if_neg h, if_neg h]
    · congr 1
      by_cases h : 4 * (x * x + y * y) ≤ v * v
      · rw [decide_eq_true h]; rfl
      · rw [decide_eq_false h]; rfl
  rw [w64 (n := cx + x) (by omega) (by omega), w64 (n := cy + y) (by omega) (by omega), w64 (n := x * x) (by omega) (by omega), w64 (n := y * y) (by omega) (by omega), w64 (n := x * x + y * y) (by omega) (by omega), w64 (n := 4 * (x * x + y * y)) (by omega) (by omega), w64 (n := v * v) (by omega) (by omega), w64 (n := v + 1) (by omega) (by omega), ht, w64 (n := (v + 1) / 2) (by omega) (by omega), w64 (n := cx - (v + 1) / 2) (by omega) (by omega), w64 (n := cy + (v + 1) / 2) (by omega) (by omega)]
  refine bind_of hbox ?_
  dsimp only
  rw [if_pos rfl]
  refine bind_of hnear ?_
  rw [if_pos rfl, if_pos rfl]
  simp

end Go.Proofs.Ytijjgmkhgcofiaa.Pure
