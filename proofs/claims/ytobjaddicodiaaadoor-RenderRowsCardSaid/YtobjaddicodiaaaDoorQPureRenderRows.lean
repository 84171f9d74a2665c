/- RenderRows: the plain law. Own work of these sessions. -/
import Derived.Test.YtobjaddicodiaaaDoorQRenderRowsx2
import Derived.OpenShut
namespace Go.Proofs.YtobjaddicodiaaaDoor.Pure
open Go Go.RowKit Go.Proofs.YtobjaddicodiaaaDoor.QRenderRows Go.Proofs.YtobjaddicodiaaaDoorE Go.Proofs.YtobjaddicodiaaaDoorX
set_option linter.unusedVariables false
set_option linter.unusedSimpArgs false

theorem bind_of {α β : Type} {o : Option α} {f : α → Option β} {x : α} {r : Option β} (h : o = some x) (h2 : f x = r) : o.bind f = r := by
  subst h
  exact h2
theorem div_is {a b q : Int} (hb : 0 < b) (h1 : q * b ≤ a) (h2 : a < q * b + b) : a / b = q := by
  apply Int.le_antisymm
  · exact Int.lt_add_one_iff.1 (Int.ediv_lt_of_lt_mul hb (by rw [Int.add_mul, Int.one_mul]; exact h2))
  · exact Int.le_ediv_of_mul_le hb h1
theorem div_in (a : Int) {b : Int} (hb : 0 < b) : a / b * b ≤ a ∧ a < a / b * b + b := by
  have h1 := Int.mul_ediv_add_emod a b
  have h2 := Int.emod_nonneg a (Int.ne_of_gt hb)
  have h3 := Int.emod_lt_of_pos a hb
  rw [Int.mul_comm] at h1
  omega
theorem div_bd (a : Int) {b : Int} (hb : 0 < b) : (0 ≤ a → 0 ≤ a / b ∧ a / b ≤ a) ∧ (a < 0 → a ≤ a / b ∧ a / b < 0) := by
  obtain ⟨h1, h2⟩ := div_in a hb
  refine ⟨fun h => ⟨Int.ediv_nonneg h (by omega), Int.ediv_le_self _ h⟩, fun h => ⟨?_, Int.ediv_neg_of_neg_of_pos h hb⟩⟩
  exact Int.le_ediv_of_mul_le hb (by
    have : a * b ≤ a * 1 := Int.mul_le_mul_of_nonpos_left (by omega) (by omega)
    omega)
theorem tmod_in (a : Int) {b : Int} (hb : 0 < b) : -b < Int.tmod a b ∧ Int.tmod a b < b := by
  rw [Int.tmod_eq_emod]
  have h2 := Int.emod_nonneg a (show b ≠ 0 by omega)
  have h3 := Int.emod_lt_of_pos a hb
  split
  · omega
  · have : ((b.natAbs : Nat) : Int) = b := by omega
    rename_i h
    have hne : a % b ≠ 0 := fun h0 => h (Or.inr (Int.dvd_of_emod_eq_zero h0))
    omega
theorem tmod_pos {a b : Int} (ha : 0 ≤ a) : Int.tmod a b = a % b := by
  rw [Int.tmod_eq_emod, if_pos (Or.inl ha)]; omega
theorem cyc (a : Int) {b : Int} (hb : 0 < b) (hb1 : b ≤ 4611686018427387903) : ∃ s, Int.tmod (wr64 (Int.tmod a b + b)) b = s ∧ 0 ≤ s ∧ s < b := by
  have h := tmod_in a hb
  refine ⟨_, rfl, ?_⟩
  rw [w64 (by omega) (by omega), tmod_pos (by omega)]
  exact ⟨Int.emod_nonneg _ (by omega), Int.emod_lt_of_pos _ hb⟩
/-- The nearest of a part, of two the greater. -/
def rnd (a b : Int) : Int := (2 * a + b) / (2 * b)
theorem rnd_is {a b q : Int} (hb : 0 < b) (h1 : 2 * (q * b) ≤ 2 * a + b) (h2 : 2 * a < 2 * (q * b) + b) : rnd a b = q := by
  unfold rnd
  apply div_is (by omega)
  · rw [Int.mul_left_comm]; omega
  · rw [Int.mul_left_comm]; omega
theorem rnd_in (a : Int) {b : Int} (hb : 0 < b) : 2 * (rnd a b * b) ≤ 2 * a + b ∧ 2 * a < 2 * (rnd a b * b) + b := by
  unfold rnd
  obtain ⟨h1, h2⟩ := div_in (2 * a + b) (b := 2 * b) (by omega)
  rw [Int.mul_left_comm] at h1 h2
  omega
theorem rnd_mono {a c b : Int} (hb : 0 < b) (h : a ≤ c) : rnd a b ≤ rnd c b := by
  unfold rnd
  exact Int.ediv_le_ediv (by omega) (by omega)
theorem down_f {a b : Int} (hb : 1 ≤ b) (ha0 : -9223372036854775808 ≤ a) (ha1 : a ≤ 9223372036854775807) : fixed_Down.f a b = some (a / b) := by
  unfold fixed_Down.f
  rw [if_neg (by omega), if_neg (by omega)]
  have hbd := div_bd a (b := b) (by omega)
  by_cases h : 0 ≤ a ∨ b ∣ a
  · have e1 : Int.tdiv a b = a / b := by rw [Int.tdiv_eq_ediv, if_pos h]; omega
    have e2 : Int.tmod a b = a % b := by rw [Int.tmod_eq_emod, if_pos h]; omega
    have h2 := Int.emod_nonneg a (show b ≠ 0 by omega)
    rw [e1, e2, if_neg (by omega), w64 (by omega) (by omega)]
  · have e1 : Int.tdiv a b = a / b + 1 := by rw [Int.tdiv_eq_ediv, if_neg h, Int.sign_eq_one_of_pos (by omega)]
    have e2 : Int.tmod a b = a % b - b := by rw [Int.tmod_eq_emod, if_neg h]; omega
    have h3 := Int.emod_lt_of_pos a (show 0 < b by omega)
    rw [e1, e2, if_pos (by omega), w64 (n := a / b + 1) (by omega) (by omega), w64 (by omega) (by omega)]
    congr 1
    omega
theorem round_f {a b : Int} (hb : 1 ≤ b) (hb1 : b ≤ 9223372036854775807) (ha0 : -9223372036854775808 ≤ a) (ha1 : a ≤ 9223372036854775807) : fixed_Round.f a b = some (rnd a b) := by
  unfold fixed_Round.f
  rw [if_neg (by omega), down_f hb ha0 ha1]
  simp only [Option.bind_some]
  obtain ⟨h1, h2⟩ := div_in a (b := b) (by omega)
  have hbd := div_bd a (b := b) (by omega)
  have e : wr64 (a - wr64 (a / b * b)) = a - a / b * b := by
    simp only [wr64_eq]
    omega
  rw [e, w64 (n := b - (a - a / b * b)) (by omega) (by omega)]
  by_cases h : a - a / b * b ≥ b - (a - a / b * b)
  · rw [if_pos h]
    have h3 : a / b + 1 ≤ 9223372036854775807 := by
      by_cases hq : a / b < 9223372036854775807
      · omega
      · by_cases h1b : b = 1
        · subst h1b; omega
        · have : a / b * 2 ≤ a / b * b := Int.mul_le_mul_of_nonneg_left (by omega) (by omega)
          omega
    rw [w64 (by omega) h3, rnd_is (q := a / b + 1) (by omega)]
    · rw [Int.add_mul]; omega
    · rw [Int.add_mul]; omega
  · rw [if_neg h, rnd_is (q := a / b) (by omega)]
    · omega
    · omega
theorem rnd_near (a : Int) {b : Int} (hb : 0 < b) : rnd a b = a / b ∨ rnd a b = a / b + 1 := by
  obtain ⟨h1, h2⟩ := div_in a hb
  by_cases h : 2 * (a - a / b * b) < b
  · left
    exact rnd_is hb (by omega) (by omega)
  · right
    exact rnd_is hb (by rw [Int.add_mul]; omega) (by rw [Int.add_mul]; omega)
theorem rnd_next (a : Int) {b : Int} (hb : 0 < b) : rnd (a + b) b = rnd a b + 1 := by
  obtain ⟨h1, h2⟩ := rnd_in a hb
  exact rnd_is hb (by rw [Int.add_mul]; omega) (by rw [Int.add_mul]; omega)
theorem size1 {n : Int} (n0 : -9223372036854775807 ≤ n) (n1 : n ≤ 9223372036854775807) : plane_within_1.f n = some (n.natAbs : Int) := by
  unfold plane_within_1.f mx
  rw [w64 (n := 0 - n) (by omega) (by omega), wru64_eq]
  congr 1
  split <;> omega
theorem within_f {a b c d : Int} (a0 : -9223372036854775807 ≤ a) (a1 : a ≤ 9223372036854775807) (b0 : -9223372036854775807 ≤ b) (b1 : b ≤ 9223372036854775807) (c0 : -9223372036854775807 ≤ c) (c1 : c ≤ 9223372036854775807) (d0 : -9223372036854775807 ≤ d) (d1 : d ≤ 9223372036854775807) :
    plane_within.f a b c d = some (decide ((a.natAbs : Int) * (b.natAbs : Int) ≤ (c.natAbs : Int) * (d.natAbs : Int))) := by
  have M : ∀ x y : Int, 0 ≤ x → x ≤ 9223372036854775807 → 0 ≤ y → y ≤ 9223372036854775807 → bits_Mul64.f x y = some (x * y / 18446744073709551616, x * y % 18446744073709551616) := by
    intro x y h1 h2 h3 h4
    unfold bits_Mul64.f
    rw [if_pos ⟨h1, by omega, h3, by omega⟩]
  unfold plane_within.f
  refine bind_of (size1 a0 a1) (bind_of (size1 b0 b1) (bind_of (M _ _ (by omega) (by omega) (by omega) (by omega)) (bind_of (size1 c0 c1) (bind_of (size1 d0 d1) (bind_of (M _ _ (by omega) (by omega) (by omega) (by omega)) ?_)))))
  dsimp only
  generalize (a.natAbs : Int) * (b.natAbs : Int) = P
  generalize (c.natAbs : Int) * (d.natAbs : Int) = Q
  by_cases h1 : P / 18446744073709551616 < Q / 18446744073709551616
  · rw [if_pos h1, decide_eq_true (by omega)]
  · rw [if_neg h1]
    by_cases h2 : P / 18446744073709551616 = Q / 18446744073709551616
    · rw [if_pos h2]
      congr 1
      by_cases h3 : P ≤ Q
      · rw [decide_eq_true h3, decide_eq_true (by omega)]
      · rw [decide_eq_false h3, decide_eq_false (by omega)]
    · rw [if_neg h2, decide_eq_false (by omega)]
theorem mul_bd {x y M N : Int} (hx0 : -M ≤ x) (hx1 : x ≤ M) (hy0 : -N ≤ y) (hy1 : y ≤ N) : -(M * N) ≤ x * y ∧ x * y ≤ M * N := by
  have h : (x * y).natAbs ≤ M.toNat * N.toNat := by
    rw [Int.natAbs_mul]
    exact Nat.mul_le_mul (by omega) (by omega)
  have e : ((M.toNat * N.toNat : Nat) : Int) = M * N := by
    rw [Int.natCast_mul, Int.toNat_of_nonneg (by omega), Int.toNat_of_nonneg (by omega)]
  omega
/-- Two numbers no farther apart than that. -/
def Nr (a b : Int) : Prop := -268435456 ≤ b - a ∧ b - a ≤ 268435456
theorem prod_bd {a b c d : Int} (h1 : Nr a b) (h2 : Nr c d) : -72057594037927936 ≤ (b - a) * (d - c) ∧ (b - a) * (d - c) ≤ 72057594037927936 := mul_bd (M := 268435456) (N := 268435456) (by have := h1.1; omega) h1.2 (by have := h2.1; omega) h2.2
def crs (ax ay bx by_ px py : Int) : Int := (bx - ax) * (py - ay) - (by_ - ay) * (px - ax)
def dt (ax ay bx by_ px py : Int) : Int := (bx - ax) * (px - ax) + (by_ - ay) * (py - ay)
def ln (ax ay bx by_ : Int) : Int := (bx - ax) * (bx - ax) + (by_ - ay) * (by_ - ay)
theorem sq_nonneg (x : Int) : 0 ≤ x * x := by
  rcases Int.le_total 0 x with h | h
  · exact Int.mul_nonneg h h
  · exact Int.mul_nonneg_of_nonpos_of_nonpos h h
theorem ln_nonneg (ax ay bx by_ : Int) : 0 ≤ ln ax ay bx by_ := by
  unfold ln
  have := sq_nonneg (bx - ax)
  have := sq_nonneg (by_ - ay)
  omega
theorem ln_bd {ax ay bx by_ : Int} (h1 : Nr ax bx) (h2 : Nr ay by_) : ln ax ay bx by_ ≤ 144115188075855872 := by
  unfold ln
  have := prod_bd h1 h1
  have := prod_bd h2 h2
  omega
theorem dt_bd {ax ay bx by_ px py : Int} (h1 : Nr ax bx) (h2 : Nr ay by_) (h3 : Nr ax px) (h4 : Nr ay py) : -144115188075855872 ≤ dt ax ay bx by_ px py ∧ dt ax ay bx by_ px py ≤ 144115188075855872 := by
  unfold dt
  have := prod_bd h1 h3
  have := prod_bd h2 h4
  omega
theorem crs_bd {ax ay bx by_ px py : Int} (h1 : Nr ax bx) (h2 : Nr ay by_) (h3 : Nr ax px) (h4 : Nr ay py) : -144115188075855872 ≤ crs ax ay bx by_ px py ∧ crs ax ay bx by_ px py ≤ 144115188075855872 := by
  unfold crs
  have := prod_bd h1 h4
  have := prod_bd h2 h3
  omega
theorem sub_f {a b c d : Int} (h1 : Nr c a) (h2 : Nr d b) : plane_Sub.f a b c d = some (a - c, b - d) := by
  unfold plane_Sub.f
  rw [w64 (by have := h1.1; omega) (by have := h1.2; omega), w64 (by have := h2.1; omega) (by have := h2.2; omega)]
theorem cross_f {ax ay bx by_ px py : Int} (h1 : Nr ax bx) (h2 : Nr ay by_) (h3 : Nr ax px) (h4 : Nr ay py) : plane_Cross.f ax ay bx by_ px py = some (crs ax ay bx by_ px py) := by
  unfold plane_Cross.f
  refine bind_of (sub_f h1 h2) (bind_of (sub_f h3 h4) ?_)
  have b1 := prod_bd h1 h4
  have b2 := prod_bd h2 h3
  show some (wr64 (wr64 ((bx - ax) * (py - ay)) - wr64 ((by_ - ay) * (px - ax)))) = _
  rw [w64 (n := (bx - ax) * (py - ay)) (by omega) (by omega), w64 (n := (by_ - ay) * (px - ax)) (by omega) (by omega), w64 (by omega) (by omega)]
  rfl
theorem dot_f {ax ay bx by_ px py : Int} (h1 : Nr ax bx) (h2 : Nr ay by_) (h3 : Nr ax px) (h4 : Nr ay py) : plane_Dot.f ax ay bx by_ px py = some (dt ax ay bx by_ px py) := by
  unfold plane_Dot.f
  refine bind_of (sub_f h1 h2) (bind_of (sub_f h3 h4) ?_)
  have b1 := prod_bd h1 h3
  have b2 := prod_bd h2 h4
  show some (wr64 (wr64 ((bx - ax) * (px - ax)) + wr64 ((by_ - ay) * (py - ay)))) = _
  rw [w64 (n := (bx - ax) * (px - ax)) (by omega) (by omega), w64 (n := (by_ - ay) * (py - ay)) (by omega) (by omega), w64 (by omega) (by omega)]
  rfl
theorem len2_f {ax ay bx by_ : Int} (h1 : Nr ax bx) (h2 : Nr ay by_) : plane_Len2.f ax ay bx by_ = some (ln ax ay bx by_) := by
  unfold plane_Len2.f
  exact bind_of (dot_f h1 h2 h1 h2) rfl
/-- Near, as the document says it. -/
def nearB (ax ay bx by_ px py w : Int) : Bool :=
  if dt ax ay bx by_ px py ≤ 0 then decide (4 * ln ax ay px py ≤ w * w)
  else if dt ax ay bx by_ px py ≥ ln ax ay bx by_ then decide (4 * ln bx by_ px py ≤ w * w)
  else decide (4 * (crs ax ay bx by_ px py * crs ax ay bx by_ px py) ≤ w * w * ln ax ay bx by_)
theorem within_len {l w : Int} (l0 : 0 ≤ l) (l1 : l ≤ 144115188075855872) (w0 : 0 ≤ w) (w1 : w ≤ 268435456) : plane_within.f 4 l w w = some (decide (4 * l ≤ w * w)) := by
  rw [within_f (by omega) (by omega) (by omega) (by omega) (by omega) (by omega) (by omega) (by omega)]
  rw [show ((4 : Int).natAbs : Int) = 4 from rfl, show ((l.natAbs : Nat) : Int) = l by omega, show ((w.natAbs : Nat) : Int) = w by omega]
theorem within_side {c l w : Int} (c0 : -144115188075855872 ≤ c) (c1 : c ≤ 144115188075855872) (l0 : 0 ≤ l) (l1 : l ≤ 144115188075855872) (w0 : 0 ≤ w) (w1 : w ≤ 268435456) : plane_within.f (wr64 (2 * c)) (wr64 (2 * c)) (wr64 (w * w)) l = some (decide (4 * (c * c) ≤ w * w * l)) := by
  have h := mul_bd (M := 268435456) (N := 268435456) (x := w) (y := w) (by omega) w1 (by omega) w1
  have hw := sq_nonneg w
  rw [w64 (n := 2 * c) (by omega) (by omega), w64 (n := w * w) (by omega) (by omega)]
  rw [within_f (by omega) (by omega) (by omega) (by omega) (by omega) (by omega) (by omega) (by omega)]
  rw [show (((2 * c).natAbs : Nat) : Int) * (((2 * c).natAbs : Nat) : Int) = 4 * (c * c) by rw [← Int.natCast_mul, Int.natAbs_mul_self]; grind, show ((l.natAbs : Nat) : Int) = l by omega, show (((w * w).natAbs : Nat) : Int) = w * w by omega]
theorem near_f {ax ay bx by_ px py w : Int} (h1 : Nr ax bx) (h2 : Nr ay by_) (h3 : Nr ax px) (h4 : Nr ay py) (h5 : Nr bx px) (h6 : Nr by_ py) (w0 : 0 ≤ w) (w1 : w ≤ 268435456) : plane_Near.f ax ay bx by_ px py w = some (nearB ax ay bx by_ px py w) := by
  unfold plane_Near.f nearB
  refine bind_of (dot_f h1 h2 h3 h4) (bind_of (len2_f h1 h2) ?_)
  by_cases c1 : dt ax ay bx by_ px py ≤ 0
  · rw [if_pos c1, if_pos c1]
    exact bind_of (len2_f h3 h4) (bind_of (within_len (ln_nonneg _ _ _ _) (ln_bd h3 h4) w0 w1) rfl)
  · rw [if_neg c1, if_neg c1]
    by_cases c2 : dt ax ay bx by_ px py ≥ ln ax ay bx by_
    · rw [if_pos c2, if_pos c2]
      exact bind_of (len2_f h5 h6) (bind_of (within_len (ln_nonneg _ _ _ _) (ln_bd h5 h6) w0 w1) rfl)
    · rw [if_neg c2, if_neg c2]
      exact bind_of (cross_f h1 h2 h3 h4) (bind_of (within_side (crs_bd h1 h2 h3 h4).1 (crs_bd h1 h2 h3 h4).2 (ln_nonneg _ _ _ _) (ln_bd h1 h2) w0 w1) rfl)
theorem lgt_ex {T : Type} {L : List T} {i : Int} (h0 : 0 ≤ i) (h1 : i < L.length) : ∃ x, lgt L i = some x := by
  unfold lgt
  rw [if_neg (by omega)]
  exact ⟨L[i.toNat]'(by omega), List.getElem?_eq_getElem (by omega)⟩
theorem number_f {n b : Int} (hb : 0 < b) (hb1 : b ≤ 4611686018427387903) : ∃ v, glyphicworld_Number.f n b = some v ∧ 0 ≤ v ∧ v < b := by
  unfold glyphicworld_Number.f
  rw [if_neg (by omega)]
  have h := tmod_in n hb
  by_cases c : Int.tmod n b < 0
  · rw [if_pos c, w64 (by omega) (by omega)]
    exact ⟨_, rfl, by omega, by omega⟩
  · rw [if_neg c]
    exact ⟨_, rfl, by omega, by omega⟩
theorem next_f {b at_ : Int} (L : List Int) (hb : 0 < b) (hb1 : b ≤ 4611686018427387903) (h0 : 0 ≤ at_) (h1 : at_ ≤ 1000000000) : ∃ v, glyphicmake_Seq_Next_v1.f b L at_ = some (v, at_ + 1) ∧ 0 ≤ v ∧ v < b := by
  unfold glyphicmake_Seq_Next_v1.f
  have e : wr64 (at_ + 1) = at_ + 1 := w64 (by omega) (by omega)
  rw [e]
  by_cases c : at_ < (L.length : Int)
  · obtain ⟨x, hx⟩ := lgt_ex h0 c
    obtain ⟨v, hv, v0, v1⟩ := number_f (n := x) hb hb1
    rw [if_pos c]
    exact ⟨v, bind_of (bind_of hx rfl) (bind_of hv rfl), v0, v1⟩
  · obtain ⟨v, hv, v0, v1⟩ := number_f (n := 0) hb hb1
    rw [if_neg c]
    exact ⟨v, bind_of rfl (bind_of hv rfl), v0, v1⟩
theorem point_f {far at_ : Int} (L : List Int) (hb : 0 ≤ far) (hb1 : far ≤ 1000000000000000) (h0 : 0 ≤ at_) (h1 : at_ ≤ 999999999) : ∃ x y, glyphicmake_Point_v1.f far L at_ = some (x, y, at_ + 2) ∧ (-far ≤ x ∧ x ≤ far) ∧ -far ≤ y ∧ y ≤ far := by
  unfold glyphicmake_Point_v1.f
  have e : wr64 (wr64 (2 * far) + 1) = 2 * far + 1 := by
    rw [w64 (n := 2 * far) (by omega) (by omega), w64 (by omega) (by omega)]
  rw [e]
  obtain ⟨u, hu, u0, u1⟩ := next_f (b := 2 * far + 1) L (by omega) (by omega) h0 (by omega)
  obtain ⟨v, hv, v0, v1⟩ := next_f (b := 2 * far + 1) L (by omega) (by omega) (show 0 ≤ at_ + 1 by omega) (by omega)
  refine ⟨u - far, v - far, bind_of hu (bind_of hv ?_), by omega, by omega⟩
  dsimp only
  rw [w64 (n := u - far) (by omega) (by omega), w64 (n := v - far) (by omega) (by omega), show at_ + 1 + 1 = at_ + 2 by omega]
theorem lgt_nat {T : Type} {L : List T} {i : Nat} (h : i < L.length) : lgt L (i : Int) = some L[i] := by
  unfold lgt
  rw [if_neg (by omega), Int.toNat_natCast, List.getElem?_eq_getElem h]
theorem lapp_ok {T : Type} {L X : List T} (h : L.length + X.length ≤ 4294967296) : lapp L X = some (L ++ X) := by
  unfold lapp
  rw [if_pos h]
theorem wnat {i : Nat} (h : i ≤ 1000000000000) : wr64 ((i : Int) + 1) = ((i + 1 : Nat) : Int) := by
  rw [w64 (by omega) (by omega)]
  omega
/-- A segment, a path, a command. -/
abbrev Sg7 := Int × Int × Int × Int × Int × Int × Int
abbrev Pth := Int × Int × List Sg7 × Bool
abbrev Cm := Int × Int × Int × Int × Int × Int × Int × Int × Int × Int × List Pth
/-- Not beyond. -/
def Bd (g x : Int) : Prop := -g ≤ x ∧ x ≤ g
structure SegOK (g : Int) (s : Sg7) : Prop where
  k1 : 1 ≤ s.1
  k3 : s.1 ≤ 3
  a : Bd g s.2.1
  b : Bd g s.2.2.1
  c : Bd g s.2.2.2.1
  d : Bd g s.2.2.2.2.1
  e : Bd g s.2.2.2.2.2.1
  f : Bd g s.2.2.2.2.2.2
  z1 : s.1 ≤ 1 → s.2.2.2.1 = 0 ∧ s.2.2.2.2.1 = 0
  z2 : s.1 ≤ 2 → s.2.2.2.2.2.1 = 0 ∧ s.2.2.2.2.2.2 = 0
structure PathOK (g : Int) (p : Pth) : Prop where
  x : Bd g p.1
  y : Bd g p.2.1
  l1 : 1 ≤ p.2.2.1.length
  l4 : p.2.2.1.length ≤ 4
  s : ∀ s ∈ p.2.2.1, SegOK g s
structure CmdOK (g n : Int) (c : Cm) : Prop where
  k : c.1 = 1 ∨ c.1 = 2
  r : (c.2.1 = 0 ∨ c.2.1 = 1) ∧ (c.1 = 2 → c.2.1 = 0)
  w : (c.1 = 1 → c.2.2.1 = 0) ∧ (c.1 = 2 → 1 ≤ c.2.2.1 ∧ c.2.2.1 ≤ g)
  pk : 0 ≤ c.2.2.2.1 ∧ c.2.2.2.1 ≤ 2
  pa : 0 ≤ c.2.2.2.2.1 ∧ c.2.2.2.2.1 < n
  pb : 0 ≤ c.2.2.2.2.2.1 ∧ c.2.2.2.2.2.1 < n
  px : Bd g c.2.2.2.2.2.2.1
  py : Bd g c.2.2.2.2.2.2.2.1
  qx : Bd (g + 1) c.2.2.2.2.2.2.2.2.1
  qy : Bd g c.2.2.2.2.2.2.2.2.2.1
  flat : c.2.2.2.1 = 0 → c.2.2.2.2.2.1 = 0 ∧ c.2.2.2.2.2.2.1 = 0 ∧ c.2.2.2.2.2.2.2.1 = 0 ∧ c.2.2.2.2.2.2.2.2.1 = 0 ∧ c.2.2.2.2.2.2.2.2.2.1 = 0
  rad : c.2.2.2.1 = 2 → 1 ≤ c.2.2.2.2.2.2.2.2.1 ∧ c.2.2.2.2.2.2.2.2.2.1 = 0
  n1 : 1 ≤ c.2.2.2.2.2.2.2.2.2.2.length
  n3 : c.2.2.2.2.2.2.2.2.2.2.length ≤ 3
  p : ∀ p ∈ c.2.2.2.2.2.2.2.2.2.2, PathOK g p ∧ (c.1 = 1 → p.2.2.2 = false)
theorem CmdOK.more {g n m : Int} {c : Cm} (h : CmdOK g n c) (hm : n ≤ m) : CmdOK g m c :=
  ⟨h.k, h.r, h.w, h.pk, ⟨h.pa.1, by have := h.pa.2; omega⟩, ⟨h.pb.1, by have := h.pb.2; omega⟩, h.px, h.py, h.qx, h.qy, h.flat, h.rad, h.n1, h.n3, h.p⟩
theorem inside_f {far at_ : Int} (L : List Int) (hb : 0 ≤ far) (hb1 : far ≤ 1000000000000000) (h0 : 0 ≤ at_) (h1 : at_ ≤ 999999900) : ∃ x y at', glyphicmake_inside_v1.f far L at_ = some (x, y, at') ∧ Bd far x ∧ Bd far y ∧ at_ ≤ at' ∧ at' ≤ at_ + 3 := by
  unfold glyphicmake_inside_v1.f
  obtain ⟨u, hu, u0, u1⟩ := next_f (b := 12) L (by omega) (by omega) h0 (by omega)
  by_cases hz : u = 0
  · obtain ⟨x, y, hp, hx, hy⟩ := point_f (far := far) (at_ := at_ + 1) L hb hb1 (by omega) (by omega)
    refine ⟨x, y, at_ + 1 + 2, bind_of hu ?_, hx, hy, by omega, by omega⟩
    dsimp only
    rw [if_pos hz]
    exact bind_of hp rfl
  · obtain ⟨v, hv, v0, v1⟩ := next_f (b := far + 1) (at_ := at_ + 1) L (by omega) (by omega) (by omega) (by omega)
    obtain ⟨t, ht, t0, t1⟩ := next_f (b := far + 1) (at_ := at_ + 1 + 1) L (by omega) (by omega) (by omega) (by omega)
    refine ⟨v, t, at_ + 1 + 1 + 1, bind_of hu ?_, ⟨by omega, by omega⟩, ⟨by omega, by omega⟩, by omega, by omega⟩
    dsimp only
    rw [if_neg hz, w64 (n := far + 1) (by omega) (by omega)]
    exact bind_of hv (bind_of ht rfl)
section
variable {far at_ t : Int} {L : List Int} (hb : 0 ≤ far) (hb1 : far ≤ 1000000000000000)
include hb hb1
theorem pl1_2 (k : Nat) (h0 : 0 ≤ at_) (h1 : at_ ≤ 900000000) (t0 : 0 ≤ t) (t1 : t ≤ 2) (a b c d : Int) : ∃ e f at', glyphicmake_Path_v1.l1 (k + 2) far L t 2 a b c d 0 0 at_ = some (a, b, c, d, e, f, at') ∧ Bd far e ∧ Bd far f ∧ (1 + t ≤ 2 → e = 0 ∧ f = 0) ∧ at_ ≤ at' ∧ at' ≤ at_ + 3 := by
  rw [glyphicmake_Path_v1.l1, w64 (n := 1 + t) (by omega) (by omega)]
  by_cases hk : 2 < 1 + t
  · obtain ⟨x, y, at', hi, hx, hy, g1, g2⟩ := inside_f (far := far) L hb hb1 h0 (by omega)
    refine ⟨x, y, at', ?_, hx, hy, fun h => by omega, g1, g2⟩
    rw [if_pos hk]
    refine bind_of hi ?_
    dsimp only
    rw [if_neg (by omega), if_neg (by omega), if_pos rfl, glyphicmake_Path_v1.l1, w64 (n := 1 + t) (by omega) (by omega), w64 (n := 2 + 1) (by omega) (by omega), if_neg (by omega)]
  · refine ⟨0, 0, at_, ?_, ⟨by omega, by omega⟩, ⟨by omega, by omega⟩, fun _ => ⟨rfl, rfl⟩, by omega, by omega⟩
    rw [if_neg hk]
theorem pl1_1 (k : Nat) (h0 : 0 ≤ at_) (h1 : at_ ≤ 900000000 - 3) (t0 : 0 ≤ t) (t1 : t ≤ 2) (a b : Int) : ∃ c d e f at', glyphicmake_Path_v1.l1 (k + 3) far L t 1 a b 0 0 0 0 at_ = some (a, b, c, d, e, f, at') ∧ Bd far c ∧ Bd far d ∧ Bd far e ∧ Bd far f ∧ (1 + t ≤ 1 → c = 0 ∧ d = 0) ∧ (1 + t ≤ 2 → e = 0 ∧ f = 0) ∧ at_ ≤ at' ∧ at' ≤ at_ + 6 := by
  rw [glyphicmake_Path_v1.l1, w64 (n := 1 + t) (by omega) (by omega)]
  have z : Bd far 0 := ⟨by omega, by omega⟩
  by_cases hk : 1 < 1 + t
  · obtain ⟨x, y, at1, hi, hx, hy, g1, g2⟩ := inside_f (far := far) L hb hb1 h0 (by omega)
    obtain ⟨e, f, at', h2, he, hf, hz, g3, g4⟩ := pl1_2 (L := L) (t := t) (at_ := at1) hb hb1 k (by omega) (by omega) t0 t1 a b x y
    refine ⟨x, y, e, f, at', ?_, hx, hy, he, hf, fun h => by omega, hz, by omega, by omega⟩
    rw [if_pos hk]
    refine bind_of hi ?_
    dsimp only
    rw [if_neg (by omega), if_pos rfl, w64 (n := 1 + 1) (by omega) (by omega)]
    exact h2
  · refine ⟨0, 0, 0, 0, at_, ?_, z, z, z, z, fun _ => ⟨rfl, rfl⟩, fun _ => ⟨rfl, rfl⟩, by omega, by omega⟩
    rw [if_neg hk]
theorem pl1_0 (k : Nat) (h0 : 0 ≤ at_) (h1 : at_ ≤ 900000000 - 6) (t0 : 0 ≤ t) (t1 : t ≤ 2) : ∃ a b c d e f at', glyphicmake_Path_v1.l1 (k + 4) far L t 0 0 0 0 0 0 0 at_ = some (a, b, c, d, e, f, at') ∧ SegOK far (1 + t, a, b, c, d, e, f) ∧ at_ ≤ at' ∧ at' ≤ at_ + 9 := by
  rw [glyphicmake_Path_v1.l1, w64 (n := 1 + t) (by omega) (by omega), if_pos (by omega)]
  obtain ⟨x, y, at1, hi, hx, hy, g1, g2⟩ := inside_f (far := far) L hb hb1 h0 (by omega)
  obtain ⟨c, d, e, f, at', h2, hc, hd, he, hf, z1, z2, g3, g4⟩ := pl1_1 (L := L) (t := t) (at_ := at1) hb hb1 k (by omega) (by omega) t0 t1 x y
  refine ⟨x, y, c, d, e, f, at', bind_of hi ?_, ⟨?_, ?_, hx, hy, hc, hd, he, hf, z1, z2⟩, by omega, by omega⟩
  · dsimp only
    rw [if_pos rfl, w64 (n := 0 + 1) (by omega) (by omega)]
    exact h2
  · show 1 ≤ 1 + t
    omega
  · show 1 + t ≤ 3
    omega
theorem pl0 : ∀ (n k : Nat) (y : List Sg7) (at_ : Int), n + 6 ≤ k → 0 ≤ at_ → at_ + 10 * n ≤ 800000000 → y.length + n ≤ 1000 → (∀ s ∈ y, SegOK far s) →
    ∃ Y at', glyphicmake_Path_v1.l0 k far L (n : Int) y at_ = some (Y, at') ∧ Y.length = y.length + n ∧ (∀ s ∈ Y, SegOK far s) ∧ at_ ≤ at' ∧ at' ≤ at_ + 10 * n
  | 0, k, y, at_, hk, h0, h1, h2, hy => by
    obtain ⟨k, rfl⟩ : ∃ m, k = m + 1 := ⟨k - 1, by omega⟩
    refine ⟨y, at_, ?_, by omega, hy, by omega, by omega⟩
    rw [glyphicmake_Path_v1.l0, if_neg (by omega)]
  | n + 1, k, y, at_, hk, h0, h1, h2, hy => by
    obtain ⟨k, rfl⟩ : ∃ m, k = m + 5 := ⟨k - 5, by omega⟩
    obtain ⟨t, ht, t0, t1⟩ := next_f (b := 3) (at_ := at_) L (by omega) (by omega) h0 (by omega)
    obtain ⟨a, b, c, d, e, f, at1, hs, hok, g1, g2⟩ := pl1_0 (L := L) (t := t) (at_ := at_ + 1) hb hb1 k (by omega) (by omega) t0 (by omega)
    obtain ⟨Y, at', hY, hlen, hin, g3, g4⟩ := pl0 n (k + 4) (y ++ [(1 + t, a, b, c, d, e, f)]) at1 (by omega) (by omega) (by omega) (by simp; omega) (by
      intro s hs
      rcases List.mem_append.1 hs with hs | hs
      · exact hy s hs
      · obtain rfl := List.mem_singleton.1 hs
        exact hok)
    refine ⟨Y, at', ?_, by simp at hlen; omega, hin, by omega, by omega⟩
    rw [show k + 5 = (k + 4) + 1 from rfl, glyphicmake_Path_v1.l0, if_pos (by omega)]
    refine bind_of (x := (at1, y ++ [(1 + t, a, b, c, d, e, f)])) (bind_of ht (bind_of hs (bind_of (x := y ++ [(1 + t, a, b, c, d, e, f)]) ?_ rfl))) ?_
    · rw [w64 (n := 1 + t) (by omega) (by omega)]
      exact lapp_ok (by simp; omega)
    · dsimp only
      rw [show wr64 (((n + 1 : Nat) : Int) - 1) = (n : Int) by rw [w64 (by omega) (by omega)]; omega]
      exact hY
theorem path_f (k : Nat) (hk : 12 ≤ k) (h0 : 0 ≤ at_) (h1 : at_ ≤ 700000000) (cl : Bool) : ∃ x y Y at', glyphicmake_Path_v1.f k far cl L at_ = some (x, y, cl, Y, at') ∧ PathOK far (x, y, Y, cl) ∧ at_ ≤ at' ∧ at' ≤ at_ + 50 := by
  unfold glyphicmake_Path_v1.f
  obtain ⟨x, y, at1, hi, hx, hy, g1, g2⟩ := inside_f (far := far) L hb hb1 h0 (by omega)
  obtain ⟨t, ht, t0, t1⟩ := next_f (b := 4) (at_ := at1) L (by omega) (by omega) (by omega) (by omega)
  obtain ⟨n, hn⟩ : ∃ n : Nat, 1 + t = n := ⟨(1 + t).toNat, by omega⟩
  obtain ⟨Y, at', hY, hlen, hin, g3, g4⟩ := pl0 (L := L) hb hb1 n k [] (at1 + 1) (by omega) (by omega) (by omega) (by simp; omega) (by simp)
  refine ⟨x, y, Y, at', bind_of hi (bind_of (x := (Y, at')) (bind_of ht ?_) rfl), ⟨hx, hy, ?_, ?_, hin⟩, by omega, by omega⟩
  · dsimp only
    rw [w64 (n := 1 + t) (by omega) (by omega), hn]
    exact hY
  · show 1 ≤ Y.length
    simp at hlen
    omega
  · show Y.length ≤ 4
    simp at hlen
    omega
end
/-- A byte's four. -/
def Col (c : Int × Int × Int × Int) : Prop := (0 ≤ c.1 ∧ c.1 ≤ 255) ∧ (0 ≤ c.2.1 ∧ c.2.1 ≤ 255) ∧ (0 ≤ c.2.2.1 ∧ c.2.2.1 ≤ 255) ∧ (0 ≤ c.2.2.2 ∧ c.2.2.2 ≤ 255)
theorem color_f {at_ : Int} (L : List Int) (h0 : 0 ≤ at_) (h1 : at_ ≤ 900000000) : ∃ r g b a, glyphicmake_Color_v1.f L at_ = some (r, g, b, a, at_ + 1) ∧ Col (r, g, b, a) := by
  unfold glyphicmake_Color_v1.f
  obtain ⟨t, ht, t0, t1⟩ := next_f (b := 7) (at_ := at_) L (by omega) (by omega) h0 (by omega)
  rcases (show t = 0 ∨ t = 1 ∨ t = 2 ∨ t = 3 ∨ t = 4 ∨ t = 5 ∨ t = 6 by omega) with rfl | rfl | rfl | rfl | rfl | rfl | rfl
  all_goals exact ⟨_, _, _, _, bind_of ht rfl, by unfold Col; decide⟩
theorem same_color (a b c d e f g h : Int) : ∃ r, glyphicref_SameColor.f a b c d e f g h = some r := by
  unfold glyphicref_SameColor.f
  split
  · split
    · split
      · exact ⟨_, rfl⟩
      · exact ⟨_, rfl⟩
    · exact ⟨_, rfl⟩
  · exact ⟨_, rfl⟩
theorem find_l (y : List (Int × Int × Int × Int)) (a b c d : Int) : ∀ (n k i : Nat), i + n = y.length → n < k → y.length ≤ 1000 → (∃ j : Int, glyphicref12_Find_v1.l0 k y a b c d (i : Int) = some (.inl j) ∧ 0 ≤ j ∧ j < y.length) ∨ glyphicref12_Find_v1.l0 k y a b c d (i : Int) = some (.inr ())
  | 0, k, i, hi, hk, hl => by
    obtain ⟨k, rfl⟩ : ∃ m, k = m + 1 := ⟨k - 1, by omega⟩
    refine Or.inr ?_
    rw [glyphicref12_Find_v1.l0, if_neg (by omega)]
  | n + 1, k, i, hi, hk, hl => by
    obtain ⟨k, rfl⟩ : ∃ m, k = m + 1 := ⟨k - 1, by omega⟩
    have hlt : i < y.length := by omega
    obtain ⟨q, hq⟩ := same_color y[i].1 y[i].2.1 y[i].2.2.1 y[i].2.2.2 a b c d
    cases q with
    | true =>
      refine Or.inl ⟨i, ?_, by omega, by omega⟩
      rw [glyphicref12_Find_v1.l0, if_pos (by omega)]
      exact bind_of (lgt_nat hlt) (bind_of hq rfl)
    | false =>
      have ih := find_l y a b c d n k (i + 1) (by omega) (by omega) hl
      have e : glyphicref12_Find_v1.l0 (k + 1) y a b c d (i : Int) = glyphicref12_Find_v1.l0 k y a b c d ((i + 1 : Nat) : Int) := by
        rw [glyphicref12_Find_v1.l0, if_pos (by omega)]
        refine bind_of (lgt_nat hlt) (bind_of hq ?_)
        rw [if_neg (by decide), wnat (by omega)]
      rw [e]
      exact ih
theorem add_f (k : Nat) (a b c d w h s : Int) (y : List (Int × Int × Int × Int)) (hy : ∀ c ∈ y, Col c) (hc : Col (a, b, c, d)) (hk : y.length < k) (hl : y.length ≤ 500) : ∃ j Y, glyphicmake_add_v1.f k a b c d w h s y = some (j, Y) ∧ 0 ≤ j ∧ j < Y.length ∧ y.length ≤ Y.length ∧ Y.length ≤ y.length + 1 ∧ ∀ c ∈ Y, Col c := by
  unfold glyphicmake_add_v1.f glyphicref12_Find_v1.f
  rcases find_l y a b c d y.length k 0 (by omega) hk (by omega) with ⟨j, hj, j0, j1⟩ | hj
  · refine ⟨j, y, bind_of (bind_of hj rfl) ?_, j0, by omega, by omega, by omega, hy⟩
    rw [if_pos (by omega)]
  · refine ⟨y.length, y ++ [(a, b, c, d)], bind_of (bind_of hj rfl) ?_, by omega, by simp; omega, by simp, by simp, ?_⟩
    · rw [if_neg (by omega)]
      refine bind_of (lapp_ok (by simp; omega)) ?_
      rw [w64 (by omega) (by simp; omega)]
      simp
    · intro q hq
      rcases List.mem_append.1 hq with hq | hq
      · exact hy q hq
      · obtain rfl := List.mem_singleton.1 hq
        exact hc
theorem icon_l1 {far g1 g2 g3 t256 : Int} {L : List Int} (hF : wr64 ((mx (wr64 (1 + g1)) (wr64 (1 + g2))) * 2 ^ (min (Int.toNat (wru64 g3)) 64)) = far) (hb : 1 ≤ far) (hb1 : far ≤ 100000) (ht0 : 0 ≤ t256) (ht1 : t256 ≤ 1) : ∀ (n k : Nat) (y : List Pth) (at_ : Int), n + 20 ≤ k → 0 ≤ at_ → at_ + 60 * n ≤ 600000000 → y.length + n ≤ 1000 → (∀ p ∈ y, PathOK far p ∧ (1 + t256 = 1 → p.2.2.2 = false)) →
    ∃ Y at', glyphicmake_Icon_v1.l1 k L g1 g2 g3 t256 ((n : Int) - 1) y at_ = some (Y, at') ∧ Y.length = y.length + n ∧ (∀ p ∈ Y, PathOK far p ∧ (1 + t256 = 1 → p.2.2.2 = false)) ∧ at_ ≤ at' ∧ at' ≤ at_ + 60 * n
  | 0, k, y, at_, hk, h0, h1, h2, hy => by
    obtain ⟨k, rfl⟩ : ∃ m, k = m + 1 := ⟨k - 1, by omega⟩
    refine ⟨y, at_, ?_, by omega, hy, by omega, by omega⟩
    rw [glyphicmake_Icon_v1.l1, if_neg (by omega)]
  | n + 1, k, y, at_, hk, h0, h1, h2, hy => by
    obtain ⟨k, rfl⟩ : ∃ m, k = m + 1 := ⟨k - 1, by omega⟩
    have add : ∀ (p : Pth), PathOK far p → (1 + t256 = 1 → p.2.2.2 = false) → ∀ q ∈ y ++ [p], PathOK far q ∧ (1 + t256 = 1 → q.2.2.2 = false) := by
      intro p hp hc q hq
      rcases List.mem_append.1 hq with hq | hq
      · exact hy q hq
      · obtain rfl := List.mem_singleton.1 hq
        exact ⟨hp, hc⟩
    have e1 : wr64 (((n + 1 : Nat) : Int) - 1 - 1) = (n : Int) - 1 := by rw [w64 (by omega) (by omega)]; omega
    rw [glyphicmake_Icon_v1.l1, if_pos (by omega), w64 (n := 1 + t256) (by omega) (by omega), hF, e1]
    by_cases hc : 1 + t256 = 2
    · obtain ⟨u, hu, u0, u1⟩ := next_f (b := 2) (at_ := at_) L (by omega) (by omega) h0 (by omega)
      obtain ⟨x, z, Z, at1, hp, hok, g4, g5⟩ := path_f (L := L) (far := far) (at_ := at_ + 1) (by omega) (by omega) k (by omega) (by omega) (by omega) (u == 0)
      obtain ⟨Y, at', hY, hlen, hin, g6, g7⟩ := icon_l1 hF hb hb1 ht0 ht1 n k (y ++ [(x, z, Z, u == 0)]) at1 (by omega) (by omega) (by omega) (by simp; omega) (add _ hok (fun h => by omega))
      refine ⟨Y, at', ?_, by simp at hlen; omega, hin, by omega, by omega⟩
      rw [if_pos hc]
      exact bind_of hu (bind_of hp (bind_of (lapp_ok (by simp; omega)) hY))
    · obtain ⟨x, z, Z, at1, hp, hok, g4, g5⟩ := path_f (L := L) (far := far) (at_ := at_) (by omega) (by omega) k (by omega) (by omega) (by omega) false
      obtain ⟨Y, at', hY, hlen, hin, g6, g7⟩ := icon_l1 hF hb hb1 ht0 ht1 n k (y ++ [(x, z, Z, false)]) at1 (by omega) (by omega) (by omega) (by simp; omega) (add _ hok (fun _ => rfl))
      refine ⟨Y, at', ?_, by simp at hlen; omega, hin, by omega, by omega⟩
      rw [if_neg hc]
      exact bind_of hp (bind_of (lapp_ok (by simp; omega)) hY)
theorem more_f (L : List Int) (at_ : Int) : ∃ r, glyphicmake_Seq_more_v1.f L at_ = some r := ⟨_, rfl⟩
theorem same_point (a b c d : Int) : ∃ r, glyphicref_SamePoint.f a b c d = some r := by
  unfold glyphicref_SamePoint.f
  split
  · exact ⟨_, rfl⟩
  · exact ⟨_, rfl⟩
/-- A bind whose first part is told. -/
theorem bind_ex {α β : Type} {o : Option α} {f : α → Option β} {Q : α → Prop} {R : β → Prop} (h : ∃ x, o = some x ∧ Q x) (h2 : ∀ x, Q x → ∃ y, f x = some y ∧ R y) : ∃ y, o.bind f = some y ∧ R y := by
  obtain ⟨x, hx, hq⟩ := h
  obtain ⟨y, hy, hr⟩ := h2 x hq
  exact ⟨y, bind_of hx hy, hr⟩
theorem icon_l0 {far g1 g2 g3 : Int} {L : List Int} (hF : wr64 ((mx (wr64 (1 + g1)) (wr64 (1 + g2))) * 2 ^ (min (Int.toNat (wru64 g3)) 64)) = far) (hb : 1 ≤ far) (hb1 : far ≤ 1536) : ∀ (n k : Nat) (C : List (Int × Int × Int × Int)) (Z : List Cm) (at_ : Int), n + 200 ≤ k → 0 ≤ at_ → at_ + 400 * n ≤ 500000000 → C.length + 2 * n ≤ 100 → Z.length + n ≤ 100 → (∀ c ∈ C, Col c) → (∀ c ∈ Z, CmdOK far C.length c) →
    ∃ r, glyphicmake_Icon_v1.l0 k L g1 g2 g3 ((n : Int) - 1) Z C [] [] at_ = some r ∧ ∃ C' Z' at', r = (C', Z', at', [], []) ∧ C'.length ≤ C.length + 2 * n ∧ Z'.length ≤ Z.length + n ∧ (∀ c ∈ C', Col c) ∧ (∀ c ∈ Z', CmdOK far C'.length c) ∧ at_ ≤ at' ∧ at' ≤ at_ + 400 * n
  | 0, k, C, Z, at_, hk, h0, h1, h2, h3, hC, hZ => by
    obtain ⟨k, rfl⟩ : ∃ m, k = m + 1 := ⟨k - 1, by omega⟩
    refine ⟨_, ?_, C, Z, at_, rfl, by omega, by omega, hC, hZ, by omega, by omega⟩
    rw [glyphicmake_Icon_v1.l0, if_neg (by omega)]
  | n + 1, k, C, Z, at_, hk, h0, h1, h2, h3, hC, hZ => by
    obtain ⟨k, rfl⟩ : ∃ m, k = m + 1 := ⟨k - 1, by omega⟩
    have e1 : wr64 (((n + 1 : Nat) : Int) - 1 - 1) = (n : Int) - 1 := by rw [w64 (by omega) (by omega)]; omega
    rw [glyphicmake_Icon_v1.l0, if_pos (by omega), hF, e1]
    refine bind_ex (Q := fun _ => True) ⟨_, rfl, trivial⟩ ?_
    intro b _
    cases b with
    | false =>
      rw [if_neg (by decide)]
      exact ⟨_, rfl, C, Z, at_, rfl, by omega, by omega, hC, hZ, by omega, by omega⟩
    | true =>
    rw [if_pos rfl]
    refine bind_ex (Q := fun r => ∃ C' c at', r = (at', C', Z ++ [c]) ∧ C.length ≤ C'.length ∧ C'.length ≤ C.length + 2 ∧ (∀ c ∈ C', Col c) ∧ CmdOK far C'.length c ∧ at_ ≤ at' ∧ at' ≤ at_ + 400) ?_ ?_
    rotate_left
    · rintro r ⟨C', c, at', rfl, a1, a2, a3, a4, a5, a6⟩
      obtain ⟨r, hr, C2, Z2, at2, rfl, b1, b2, b3, b4, b5, b6⟩ := icon_l0 hF hb hb1 n k C' (Z ++ [c]) at' (by omega) (by omega) (by omega) (by omega) (by simp; omega) a3 (by
        intro q hq
        rcases List.mem_append.1 hq with hq | hq
        · exact (hZ q hq).more (by omega)
        · obtain rfl := List.mem_singleton.1 hq
          exact a4)
      refine ⟨_, hr, C2, Z2, at2, rfl, by omega, ?_, b3, b4, by omega, by omega⟩
      simp at b2
      omega
    -- the kind
    refine bind_ex (Q := fun r => ∃ t, r = (t, at_ + 1) ∧ 0 ≤ t ∧ t ≤ 1) (by obtain ⟨t, ht, t0, t1⟩ := next_f (b := 2) (at_ := at_) L (by omega) (by omega) h0 (by omega); exact ⟨_, ht, t, rfl, t0, by omega⟩) ?_
    rintro _ ⟨t256, rfl, t0, t1⟩
    dsimp only
    rw [w64 (n := 1 + t256) (by omega) (by omega)]
    -- the rule, the width
    refine bind_ex (Q := fun r => ∃ ru wd, r = (ru, wd, at_ + 2) ∧ (ru = 0 ∨ ru = 1) ∧ (1 + t256 = 2 → ru = 0) ∧ (1 + t256 = 1 → wd = 0) ∧ (1 + t256 = 2 → 1 ≤ wd ∧ wd ≤ far)) ?_ ?_
    · by_cases hc : 1 + t256 = 1
      · rw [if_pos hc]
        obtain ⟨t, ht, t2, t3⟩ := next_f (b := 2) (at_ := at_ + 1) L (by omega) (by omega) (by omega) (by omega)
        exact ⟨_, bind_of ht rfl, t, 0, by rw [show at_ + 1 + 1 = at_ + 2 by omega], by omega, by omega, by omega, by omega⟩
      · rw [if_neg hc]
        have hd : Int.tdiv far 2 = far / 2 := by rw [Int.tdiv_eq_ediv, if_pos (Or.inl (by omega))]; omega
        have hm : mx (wr64 (Int.tdiv far 2)) 1 = max (far / 2) 1 := by
          rw [hd, w64 (by omega) (by omega)]
          unfold mx
          split <;> omega
        rw [hm]
        obtain ⟨t, ht, t2, t3⟩ := next_f (b := max (far / 2) 1) (at_ := at_ + 1) L (by omega) (by omega) (by omega) (by omega)
        refine ⟨_, bind_of ht rfl, 0, 1 + t, ?_, by omega, by omega, by omega, by omega⟩
        dsimp only
        rw [w64 (n := 1 + t) (by omega) (by omega), show at_ + 1 + 1 = at_ + 2 by omega]
    rintro _ ⟨ru, wd, rfl, r1, r2, r3, r4⟩
    dsimp only
    refine bind_ex (Q := fun r => ∃ t, r = (t, at_ + 3) ∧ 0 ≤ t ∧ t ≤ 2) (by obtain ⟨t, ht, t0, t1⟩ := next_f (b := 3) (at_ := at_ + 2) L (by omega) (by omega) (by omega) (by omega); exact ⟨_, ht, t, by rw [show at_ + 2 + 1 = at_ + 3 by omega], t0, by omega⟩) ?_
    rintro _ ⟨pk, rfl, p0, p1⟩
    dsimp only
    refine bind_ex (Q := fun r => ∃ a b c d, r = (a, b, c, d, at_ + 4) ∧ Col (a, b, c, d)) (by obtain ⟨a, b, c, d, hc, hcol⟩ := color_f (at_ := at_ + 3) L (by omega) (by omega); exact ⟨_, hc, a, b, c, d, by rw [show at_ + 3 + 1 = at_ + 4 by omega], hcol⟩) ?_
    rintro _ ⟨ca, cb, cc, cd, rfl, hcol⟩
    dsimp only
    refine bind_ex (Q := fun r => ∃ j Y, r = (j, Y) ∧ 0 ≤ j ∧ j < Y.length ∧ C.length ≤ Y.length ∧ Y.length ≤ C.length + 1 ∧ ∀ c ∈ Y, Col c) (by obtain ⟨j, Y, h, q⟩ := add_f k ca cb cc cd (wr64 (1 + g1)) (wr64 (1 + g2)) g3 C hC hcol (by omega) (by omega); exact ⟨_, h, j, Y, rfl, q⟩) ?_
    rintro _ ⟨ja, Y, rfl, j0, j1, y0, y1, hY⟩
    dsimp only
    -- the second color, the first point
    refine bind_ex (Q := fun r => ∃ (Y2 : List (Int × Int × Int × Int)) (at2 jb px py : Int), r = (jb, px, py, Y2, at2) ∧ Y.length ≤ Y2.length ∧ Y2.length ≤ Y.length + 1 ∧ (∀ c ∈ Y2, Col c) ∧ 0 ≤ jb ∧ jb < Y2.length ∧ Bd far px ∧ Bd far py ∧ (pk = 0 → jb = 0 ∧ px = 0 ∧ py = 0) ∧ at_ ≤ at2 ∧ at2 ≤ at_ + 10) ?_ ?_
    · by_cases hp : pk = 0
      · rw [if_pos hp]
        exact ⟨_, rfl, Y, at_ + 4, 0, 0, 0, rfl, by omega, by omega, hY, by omega, by omega, ⟨by omega, by omega⟩, ⟨by omega, by omega⟩, fun _ => ⟨rfl, rfl, rfl⟩, by omega, by omega⟩
      · rw [if_neg hp]
        obtain ⟨a, b, c, d, hc, hcol2⟩ := color_f (at_ := at_ + 4) L (by omega) (by omega)
        obtain ⟨jb, Y2, ha, q0, q1, q2, q3, q4⟩ := add_f k a b c d (wr64 (1 + g1)) (wr64 (1 + g2)) g3 Y hY hcol2 (by omega) (by omega)
        obtain ⟨x, y, hp2, hx, hy⟩ := point_f (far := far) (at_ := at_ + 4 + 1) L (by omega) (by omega) (by omega) (by omega)
        exact ⟨_, bind_of hc (bind_of ha (bind_of hp2 rfl)), Y2, at_ + 4 + 1 + 2, jb, x, y, rfl, q2, q3, q4, q0, q1, hx, hy, fun h => absurd h hp, by omega, by omega⟩
    rintro _ ⟨Y2, at2, jb, px, py, rfl, z0, z1, hY2, b0, b1, hpx, hpy, hflat, a1, a2⟩
    dsimp only
    -- the second point of a linear one
    refine bind_ex (Q := fun r => ∃ at3 qx qy, r = (qx, qy, at3) ∧ Bd (far + 1) qx ∧ Bd far qy ∧ (pk ≠ 1 → qx = 0 ∧ qy = 0) ∧ at_ ≤ at3 ∧ at3 ≤ at_ + 20) ?_ ?_
    · by_cases hp : pk = 1
      · rw [if_pos hp]
        obtain ⟨x, y, hp2, hx, hy⟩ := point_f (far := far) (at_ := at2) L (by omega) (by omega) (by omega) (by omega)
        obtain ⟨sm, hs⟩ := same_point px py x y
        cases sm with
        | true =>
          refine ⟨_, bind_of hp2 (bind_of hs ?_), at2 + 2, x + 1, y, rfl, ⟨by omega, by omega⟩, hy, fun h => absurd hp h, by omega, by omega⟩
          rw [if_pos rfl, w64 (n := x + 1) (by omega) (by omega)]
        | false =>
          refine ⟨_, bind_of hp2 (bind_of hs ?_), at2 + 2, x, y, rfl, ⟨by omega, by omega⟩, hy, fun h => absurd hp h, by omega, by omega⟩
          rw [if_neg (by decide)]
      · rw [if_neg hp]
        exact ⟨_, rfl, at2, 0, 0, rfl, ⟨by omega, by omega⟩, ⟨by omega, by omega⟩, fun _ => ⟨rfl, rfl⟩, by omega, by omega⟩
    rintro _ ⟨at3, qx, qy, rfl, hqx, hqy, hq, a3, a4⟩
    dsimp only
    -- the radius
    refine bind_ex (Q := fun r => ∃ at4 qr, r = (qr, at4) ∧ Bd (far + 1) qr ∧ (pk = 0 → qr = 0) ∧ (pk = 2 → 1 ≤ qr) ∧ at_ ≤ at4 ∧ at4 ≤ at_ + 30) ?_ ?_
    · by_cases hp : pk = 2
      · rw [if_pos hp]
        obtain ⟨t, ht, q0, q1⟩ := next_f (b := far) (at_ := at3) L (by omega) (by omega) (by omega) (by omega)
        refine ⟨_, bind_of ht rfl, at3 + 1, 1 + t, ?_, ⟨by omega, by omega⟩, by omega, by omega, by omega, by omega⟩
        dsimp only
        rw [w64 (n := 1 + t) (by omega) (by omega)]
      · rw [if_neg hp]
        exact ⟨_, rfl, at3, qx, rfl, hqx, fun h => (hq (by omega)).1, fun h => absurd h hp, by omega, by omega⟩
    rintro _ ⟨at4, qr, rfl, hqr, hqr0, hqr2, a5, a6⟩
    dsimp only
    -- the paths
    refine bind_ex (Q := fun r => ∃ (at5 : Int) (Ps : List Pth), r = (Ps, at5) ∧ 1 ≤ Ps.length ∧ Ps.length ≤ 3 ∧ (∀ p ∈ Ps, PathOK far p ∧ (1 + t256 = 1 → p.2.2.2 = false)) ∧ at_ ≤ at5 ∧ at5 ≤ at_ + 300) ?_ ?_
    · obtain ⟨t, ht, q0, q1⟩ := next_f (b := 3) (at_ := at4) L (by omega) (by omega) (by omega) (by omega)
      obtain ⟨m, rfl⟩ : ∃ m : Nat, t = m := ⟨t.toNat, by omega⟩
      obtain ⟨Ps, at5, hl, hlen, hok, q2, q3⟩ := icon_l1 (L := L) hF hb (by omega) t0 t1 (m + 1) k [] (at4 + 1) (by omega) (by omega) (by omega) (by simp; omega) (by simp)
      rw [show (((m + 1 : Nat) : Int) - 1) = (m : Int) by omega] at hl
      simp at hlen
      exact ⟨_, bind_of ht hl, at5, Ps, rfl, by omega, by omega, hok, by omega, by omega⟩
    rintro _ ⟨at5, Ps, rfl, n1, n3, hPs, a7, a8⟩
    dsimp only
    refine ⟨_, bind_of (lapp_ok (by simp; omega)) rfl, Y2, _, at5, rfl, by omega, by omega, hY2, ?_, by omega, by omega⟩
    refine ⟨?_, ⟨r1, r2⟩, ⟨r3, r4⟩, ⟨p0, p1⟩, ⟨j0, ?_⟩, ⟨b0, b1⟩, hpx, hpy, hqr, hqy, ?_, ?_, n1, n3, hPs⟩
    · show 1 + t256 = 1 ∨ 1 + t256 = 2
      omega
    · show ja < (Y2.length : Int)
      omega
    · intro h
      have h' : pk = 0 := h
      obtain ⟨f1, f2, f3⟩ := hflat h'
      exact ⟨f1, f2, f3, hqr0 h', (hq (by omega)).2⟩
    · intro h
      have h' : pk = 2 := h
      exact ⟨hqr2 h', (hq (by omega)).2⟩
/-- An icon that was made. -/
structure IconOK (W H s far : Int) (Z : List Cm) (C : List (Int × Int × Int × Int)) : Prop where
  w1 : 1 ≤ W
  w2 : W ≤ 24
  h1 : 1 ≤ H
  h2 : H ≤ 24
  s0 : 0 ≤ s
  s6 : s ≤ 6
  fa : far = max W H * 2 ^ s.toNat
  f1 : 1 ≤ far
  f2 : far ≤ 1536
  n : Z.length ≤ 4
  m : C.length ≤ 8
  z : ∀ c ∈ Z, CmdOK far C.length c
  c : ∀ c ∈ C, Col c
theorem pow_s {s : Int} (h0 : 0 ≤ s) (h6 : s ≤ 6) : (2 : Int) ^ (min (Int.toNat (wru64 s)) 64) = 2 ^ s.toNat ∧ 1 ≤ (2 : Int) ^ s.toNat ∧ (2 : Int) ^ s.toNat ≤ 64 := by
  rcases (show s = 0 ∨ s = 1 ∨ s = 2 ∨ s = 3 ∨ s = 4 ∨ s = 5 ∨ s = 6 by omega) with rfl | rfl | rfl | rfl | rfl | rfl | rfl
  all_goals exact ⟨rfl, by decide, by decide⟩
theorem icon_f (L : List Int) (k : Nat) (hk : 300 ≤ k) : ∃ W H s Z C at', glyphicmake_Icon_v1.f k L 0 = some (W, H, s, Z, C, at') ∧ ∃ far, IconOK W H s far Z C := by
  unfold glyphicmake_Icon_v1.f
  obtain ⟨t1, e1, l1, u1⟩ := next_f (b := 24) (at_ := 0) L (by omega) (by omega) (by omega) (by omega)
  obtain ⟨t2, e2, l2, u2⟩ := next_f (b := 24) (at_ := 0 + 1) L (by omega) (by omega) (by omega) (by omega)
  obtain ⟨t3, e3, l3, u3⟩ := next_f (b := 7) (at_ := 0 + 1 + 1) L (by omega) (by omega) (by omega) (by omega)
  obtain ⟨t4, e4, l4, u4⟩ := next_f (b := 4) (at_ := 0 + 1 + 1 + 1) L (by omega) (by omega) (by omega) (by omega)
  obtain ⟨q1, q2, q3⟩ := pow_s l3 (show t3 ≤ 6 by omega)
  obtain ⟨m, rfl⟩ : ∃ m : Nat, t4 = m := ⟨t4.toNat, by omega⟩
  have hm : mx (1 + t1) (1 + t2) = max (1 + t1) (1 + t2) := by unfold mx; split <;> omega
  have b := mul_bd (M := 24) (N := 64) (x := max (1 + t1) (1 + t2)) (y := 2 ^ t3.toNat) (by omega) (by omega) (by omega) (by omega)
  have b2 : 1 ≤ max (1 + t1) (1 + t2) * 2 ^ t3.toNat := by
    have := Int.mul_le_mul (show (1 : Int) ≤ max (1 + t1) (1 + t2) by omega) q2 (by omega) (by omega)
    omega
  have hF : wr64 ((mx (wr64 (1 + t1)) (wr64 (1 + t2))) * 2 ^ (min (Int.toNat (wru64 t3)) 64)) = max (1 + t1) (1 + t2) * 2 ^ t3.toNat := by
    rw [w64 (n := 1 + t1) (by omega) (by omega), w64 (n := 1 + t2) (by omega) (by omega), q1, hm, w64 (by omega) (by omega)]
  obtain ⟨r, hr, C, Z, at', rfl, c1, c2, c3, c4, c5, c6⟩ := icon_l0 (L := L) hF b2 (by omega) (m + 1) k [] [] (0 + 1 + 1 + 1 + 1) (by omega) (by omega) (by omega) (by simp; omega) (by simp; omega) (by simp) (by simp)
  rw [show (((m + 1 : Nat) : Int) - 1) = (m : Int) by omega] at hr
  simp at c1 c2
  refine ⟨1 + t1, 1 + t2, t3, Z, C, at', bind_of e1 (bind_of e2 (bind_of e3 ?_)), _, ⟨by omega, by omega, by omega, by omega, l3, by omega, rfl, b2, by omega, by omega, by omega, c4, c3⟩⟩
  dsimp only
  rw [wu64 (n := t3) (by omega) (by omega), if_neg (by omega)]
  have hr' := hr
  refine bind_of (x := (C, Z, at', [], [])) (bind_of e4 hr) ?_
  dsimp only
  rw [w64 (n := 1 + t1) (by omega) (by omega), w64 (n := 1 + t2) (by omega) (by omega)]
/-- A coordinate in device units. -/
def sc (W s w v : Int) : Int := rnd (v * w * 256) (W * 2 ^ s.toNat)
theorem pow_t {s : Int} (h0 : 0 ≤ s) (h6 : s ≤ 6) : (2 : Int) ^ (min (Int.toNat s) 64) = 2 ^ s.toNat ∧ 1 ≤ (2 : Int) ^ s.toNat ∧ (2 : Int) ^ s.toNat ≤ 64 := by
  rcases (show s = 0 ∨ s = 1 ∨ s = 2 ∨ s = 3 ∨ s = 4 ∨ s = 5 ∨ s = 6 by omega) with rfl | rfl | rfl | rfl | rfl | rfl | rfl
  all_goals exact ⟨rfl, by decide, by decide⟩
section
variable {W s w : Int} (W1 : 1 ≤ W) (W2 : W ≤ 4096) (s0 : 0 ≤ s) (s6 : s ≤ 6) (w1 : 1 ≤ w) (w2 : w ≤ 16384)
include W1 W2 s0 s6 w1 w2
theorem at_g {v : Int} (i1 : Int) (hv : Bd 1048576 v) : scale_At_v1.f W i1 s w v = some (sc W s w v) := by
  obtain ⟨q1, q2, q3⟩ := pow_t s0 s6
  obtain ⟨v0, v1⟩ := hv
  have b1 := mul_bd (M := 1048576) (N := 16384) (x := v) (y := w) v0 v1 (by omega) (by omega)
  have b3 := mul_bd (M := 4096) (N := 64) (x := W) (y := 2 ^ s.toNat) (by omega) (by omega) (by omega) (by omega)
  have b4 : 0 < W * 2 ^ s.toNat := Int.mul_pos (by omega) (by omega)
  unfold scale_At_v1.f sc
  rw [if_neg (by omega), q1, w64 (n := v * w) (by omega) (by omega), w64 (n := v * w * 256) (by omega) (by omega), w64 (n := W * 2 ^ s.toNat) (by omega) (by omega)]
  exact bind_of (round_f (by omega) (by omega) (by omega) (by omega)) rfl
theorem at_p {x y : Int} (i1 : Int) (hx : Bd 1048576 x) (hy : Bd 1048576 y) : scale_Cmd_1_v1.f x y W i1 s w = some (sc W s w x, sc W s w y) := by
  unfold scale_Cmd_1_v1.f
  exact bind_of (at_g W1 W2 s0 s6 w1 w2 i1 hx) (bind_of (at_g W1 W2 s0 s6 w1 w2 i1 hy) rfl)
end
theorem Bd.le {g h x : Int} (a : Bd g x) (l : g ≤ h) : Bd h x := ⟨by have := a.1; omega, by have := a.2; omega⟩
def scSeg (W s w : Int) (x : Sg7) : Sg7 := (x.1, sc W s w x.2.1, sc W s w x.2.2.1, sc W s w x.2.2.2.1, sc W s w x.2.2.2.2.1, sc W s w x.2.2.2.2.2.1, sc W s w x.2.2.2.2.2.2)
def scPath (W s w : Int) (p : Pth) : Pth := (sc W s w p.1, sc W s w p.2.1, p.2.2.1.map (scSeg W s w), p.2.2.2)
def scCmd (W s w : Int) (c : Cm) : Cm := (c.1, c.2.1, if c.1 = 2 then mx (sc W s w c.2.2.1) 1 else c.2.2.1, c.2.2.2.1, c.2.2.2.2.1, c.2.2.2.2.2.1, sc W s w c.2.2.2.2.2.2.1, sc W s w c.2.2.2.2.2.2.2.1, if c.2.2.2.1 = 2 then mx (sc W s w c.2.2.2.2.2.2.2.2.1) 1 else sc W s w c.2.2.2.2.2.2.2.2.1, sc W s w c.2.2.2.2.2.2.2.2.2.1, c.2.2.2.2.2.2.2.2.2.2.map (scPath W s w))
theorem drop_at {T : Type} {L : List T} {i : Nat} (h : i < L.length) : L.drop i = L[i] :: L.drop (i + 1) := List.drop_eq_getElem_cons h
section
variable {W s w g : Int} (W1 : 1 ≤ W) (W2 : W ≤ 4096) (s0 : 0 ≤ s) (s6 : s ≤ 6) (w1 : 1 ≤ w) (w2 : w ≤ 16384) (hg : g ≤ 1048575)
include W1 W2 s0 s6 w1 w2 hg
theorem cmd_l1 (i1 : Int) (L : List Sg7) (hL : ∀ x ∈ L, SegOK g x) (hl : L.length ≤ 1000) : ∀ (n k i : Nat) (y : List Sg7), i + n = L.length → n < k → y.length + n ≤ 1000 → scale_Cmd_v1.l1 k W i1 s w L (i : Int) y = some (y ++ (L.drop i).map (scSeg W s w))
  | 0, k, i, y, hi, hk, hy => by
    obtain ⟨k, rfl⟩ : ∃ m, k = m + 1 := ⟨k - 1, by omega⟩
    rw [scale_Cmd_v1.l1, if_neg (by omega), List.drop_eq_nil_of_le (by omega)]
    simp
  | n + 1, k, i, y, hi, hk, hy => by
    obtain ⟨k, rfl⟩ : ∃ m, k = m + 1 := ⟨k - 1, by omega⟩
    have hlt : i < L.length := by omega
    have ok := hL _ (List.getElem_mem hlt)
    have ih := cmd_l1 i1 L hL hl n k (i + 1) (y ++ [scSeg W s w L[i]]) (by omega) (by omega) (by simp; omega)
    rw [scale_Cmd_v1.l1, if_pos (by omega), drop_at hlt, List.map_cons]
    have bd : ∀ {x : Int}, Bd g x → Bd 1048576 x := fun h => h.le (by omega)
    refine bind_of (x := y ++ [scSeg W s w L[i]]) (bind_of (lgt_nat hlt) (bind_of (at_p W1 W2 s0 s6 w1 w2 i1 (bd ok.a) (bd ok.b)) (bind_of (at_p W1 W2 s0 s6 w1 w2 i1 (bd ok.c) (bd ok.d)) (bind_of (at_p W1 W2 s0 s6 w1 w2 i1 (bd ok.e) (bd ok.f)) (bind_of (lapp_ok (by simp; omega)) rfl))))) ?_
    rw [wnat (by omega), ih]
    simp
theorem cmd_l0 (i1 : Int) (L : List Pth) (hL : ∀ x ∈ L, PathOK g x) (hl : L.length ≤ 1000) : ∀ (n k i : Nat) (y : List Pth), i + n = L.length → n + 10 < k → y.length + n ≤ 1000 → scale_Cmd_v1.l0 k W i1 s w L (i : Int) y = some (y ++ (L.drop i).map (scPath W s w))
  | 0, k, i, y, hi, hk, hy => by
    obtain ⟨k, rfl⟩ : ∃ m, k = m + 1 := ⟨k - 1, by omega⟩
    rw [scale_Cmd_v1.l0, if_neg (by omega), List.drop_eq_nil_of_le (by omega)]
    simp
  | n + 1, k, i, y, hi, hk, hy => by
    obtain ⟨k, rfl⟩ : ∃ m, k = m + 1 := ⟨k - 1, by omega⟩
    have hlt : i < L.length := by omega
    have ok := hL _ (List.getElem_mem hlt)
    have ih := cmd_l0 i1 L hL hl n k (i + 1) (y ++ [scPath W s w L[i]]) (by omega) (by omega) (by simp; omega)
    rw [scale_Cmd_v1.l0, if_pos (by omega), drop_at hlt, List.map_cons]
    have bd : ∀ {x : Int}, Bd g x → Bd 1048576 x := fun h => h.le (by omega)
    have l4 := ok.l4
    have hs := cmd_l1 W1 W2 s0 s6 w1 w2 hg i1 L[i].2.2.1 ok.s (by omega) L[i].2.2.1.length k 0 [] (by omega) (by omega) (by simp; omega)
    refine bind_of (x := y ++ [scPath W s w L[i]]) (bind_of (lgt_nat hlt) (bind_of (at_p W1 W2 s0 s6 w1 w2 i1 (bd ok.x) (bd ok.y)) (bind_of hs (bind_of (lapp_ok (by simp; omega)) rfl)))) ?_
    rw [wnat (by omega), ih]
    simp
theorem cmd_f {nc : Int} (i1 : Int) (c : Cm) (hc : CmdOK g nc c) (k : Nat) (hk : 20 ≤ k) : scale_Cmd_v1.f k W i1 s w c.1 c.2.1 c.2.2.1 c.2.2.2.1 c.2.2.2.2.1 c.2.2.2.2.2.1 c.2.2.2.2.2.2.1 c.2.2.2.2.2.2.2.1 c.2.2.2.2.2.2.2.2.1 c.2.2.2.2.2.2.2.2.2.1 c.2.2.2.2.2.2.2.2.2.2 = some (scCmd W s w c) := by
  unfold scale_Cmd_v1.f
  have bd : ∀ {x : Int}, Bd g x → Bd 1048576 x := fun h => h.le (by omega)
  have n3 := hc.n3
  have h0 := cmd_l0 W1 W2 s0 s6 w1 w2 hg i1 c.2.2.2.2.2.2.2.2.2.2 (fun p hp => (hc.p p hp).1) (by omega) c.2.2.2.2.2.2.2.2.2.2.length k 0 [] (by omega) (by omega) (by simp; omega)
  refine bind_of (at_p W1 W2 s0 s6 w1 w2 i1 (bd hc.px) (bd hc.py)) (bind_of (at_p W1 W2 s0 s6 w1 w2 i1 (hc.qx.le (by omega)) (bd hc.qy)) ?_)
  dsimp only
  refine bind_of (x := if c.2.2.2.1 = 2 then mx (sc W s w c.2.2.2.2.2.2.2.2.1) 1 else sc W s w c.2.2.2.2.2.2.2.2.1) (by split <;> rfl) ?_
  refine bind_of (x := if c.1 = 2 then mx (sc W s w c.2.2.1) 1 else c.2.2.1) ?_ (bind_of h0 ?_)
  · by_cases h : c.1 = 2
    · rw [if_pos h, if_pos h]
      obtain ⟨q1, q2⟩ := hc.w.2 h
      exact bind_of (at_g W1 W2 s0 s6 w1 w2 i1 ⟨by omega, by omega⟩) rfl
    · rw [if_neg h, if_neg h]
  · simp [scCmd]
end
def bd (a b c : Int) : Int := (a - 2 * b + c).natAbs
theorem bd_le {a b c : Int} (a0 : -16777217 < a) (a1 : a < 16777217) (b0 : -16777217 < b) (b1 : b < 16777217) (c0 : -16777217 < c) (c1 : c < 16777217) : 0 ≤ bd a b c ∧ bd a b c ≤ 67108864 := by
  unfold bd
  omega
theorem wsum {a b c : Int} (a0 : -16777217 < a) (a1 : a < 16777217) (b0 : -16777217 < b) (b1 : b < 16777217) (c0 : -16777217 < c) (c1 : c < 16777217) : wr64 (wr64 (a - wr64 (2 * b)) + c) = a - 2 * b + c := by
  rw [w64 (n := 2 * b) (by omega) (by omega), w64 (n := a - 2 * b) (by omega) (by omega), w64 (by omega) (by omega)]
theorem bend_f {ax ay bx by_ cx cy : Int} (h1 : -16777217 < ax) (h2 : ax < 16777217) (h3 : -16777217 < ay) (h4 : ay < 16777217) (h5 : -16777217 < bx) (h6 : bx < 16777217) (h7 : -16777217 < by_) (h8 : by_ < 16777217) (h9 : -16777217 < cx) (h10 : cx < 16777217) (h11 : -16777217 < cy) (h12 : cy < 16777217) :
    flatten_bend.f ax ay bx by_ cx cy = some (bd ax bx cx + bd ay by_ cy) := by
  unfold flatten_bend.f
  rw [wsum h1 h2 h5 h6 h9 h10, wsum h3 h4 h7 h8 h11 h12]
  unfold bd mx
  generalize hx : ax - 2 * bx + cx = x
  generalize hy : ay - 2 * by_ + cy = y
  have x0 : -67108868 ≤ x ∧ x ≤ 67108868 := by omega
  have y0 : -67108868 ≤ y ∧ y ≤ 67108868 := by omega
  clear hx hy
  rw [w64 (n := 0 - x) (by omega) (by omega), w64 (n := 0 - y) (by omega) (by omega)]
  split <;> split <;> (rw [w64 (by omega) (by omega)]; congr 1; omega)
/-- The first of the powers of two that is enough. -/
theorem count_go {far : Int} (f0 : 0 ≤ far) (f1 : far ≤ 402653184) : ∃ n : Int, flatten_Count.l0 20 far 1 = some n ∧ 1 ≤ n ∧ n ≤ 8192 ∧ bits .and .i64 n (wr64 (n - 1)) = 0 ∧ far ≤ 32 * n * n ∧ (n = 1 ∨ far > 8 * n * n) := by
  have stop : ∀ (k : Nat) (n : Int), 1 ≤ n → n ≤ 8192 → far ≤ 32 * n * n → flatten_Count.l0 (k + 1) far n = some n := by
    intro k n h1 h2 h3
    have h4 : 32 * n * n ≤ 32 * n * 8192 := Int.mul_le_mul_of_nonneg_left h2 (by omega)
    have h5 : 0 ≤ 32 * n * n := Int.mul_nonneg (by omega) (by omega)
    rw [flatten_Count.l0, w64 (n := 32 * n) (by omega) (by omega), w64 (n := 32 * n * n) (by omega) (by omega), if_neg (by omega)]
  have go : ∀ (k : Nat) (n : Int), 1 ≤ n → n ≤ 8192 → ¬ far ≤ 32 * n * n → flatten_Count.l0 (k + 1) far n = flatten_Count.l0 k far (2 * n) := by
    intro k n h1 h2 h3
    have h4 : 32 * n * n ≤ 32 * n * 8192 := Int.mul_le_mul_of_nonneg_left h2 (by omega)
    have h5 : 0 ≤ 32 * n * n := Int.mul_nonneg (by omega) (by omega)
    rw [flatten_Count.l0, w64 (n := 32 * n) (by omega) (by omega), w64 (n := 32 * n * n) (by omega) (by omega), if_pos (by omega), w64 (n := n * 2) (by omega) (by omega), Int.mul_comm n 2]
  by_cases c0 : far ≤ 32 * 1 * 1
  · exact ⟨1, stop 19 1 (by omega) (by omega) c0, by decide, by decide, by decide +kernel, c0, Or.inl rfl⟩
  rw [go 19 1 (by omega) (by omega) c0]
  by_cases c1 : far ≤ 32 * 2 * 2
  · exact ⟨2, stop 18 2 (by omega) (by omega) c1, by decide, by decide, by decide +kernel, c1, Or.inr (by omega)⟩
  rw [show (2 : Int) * 1 = 2 from rfl, go 18 2 (by omega) (by omega) c1]
  by_cases c2 : far ≤ 32 * 4 * 4
  · exact ⟨4, stop 17 4 (by omega) (by omega) c2, by decide, by decide, by decide +kernel, c2, Or.inr (by omega)⟩
  rw [show (2 : Int) * 2 = 4 from rfl, go 17 4 (by omega) (by omega) c2]
  by_cases c3 : far ≤ 32 * 8 * 8
  · exact ⟨8, stop 16 8 (by omega) (by omega) c3, by decide, by decide, by decide +kernel, c3, Or.inr (by omega)⟩
  rw [show (2 : Int) * 4 = 8 from rfl, go 16 8 (by omega) (by omega) c3]
  by_cases c4 : far ≤ 32 * 16 * 16
  · exact ⟨16, stop 15 16 (by omega) (by omega) c4, by decide, by decide, by decide +kernel, c4, Or.inr (by omega)⟩
  rw [show (2 : Int) * 8 = 16 from rfl, go 15 16 (by omega) (by omega) c4]
  by_cases c5 : far ≤ 32 * 32 * 32
  · exact ⟨32, stop 14 32 (by omega) (by omega) c5, by decide, by decide, by decide +kernel, c5, Or.inr (by omega)⟩
  rw [show (2 : Int) * 16 = 32 from rfl, go 14 32 (by omega) (by omega) c5]
  by_cases c6 : far ≤ 32 * 64 * 64
  · exact ⟨64, stop 13 64 (by omega) (by omega) c6, by decide, by decide, by decide +kernel, c6, Or.inr (by omega)⟩
  rw [show (2 : Int) * 32 = 64 from rfl, go 13 64 (by omega) (by omega) c6]
  by_cases c7 : far ≤ 32 * 128 * 128
  · exact ⟨128, stop 12 128 (by omega) (by omega) c7, by decide, by decide, by decide +kernel, c7, Or.inr (by omega)⟩
  rw [show (2 : Int) * 64 = 128 from rfl, go 12 128 (by omega) (by omega) c7]
  by_cases c8 : far ≤ 32 * 256 * 256
  · exact ⟨256, stop 11 256 (by omega) (by omega) c8, by decide, by decide, by decide +kernel, c8, Or.inr (by omega)⟩
  rw [show (2 : Int) * 128 = 256 from rfl, go 11 256 (by omega) (by omega) c8]
  by_cases c9 : far ≤ 32 * 512 * 512
  · exact ⟨512, stop 10 512 (by omega) (by omega) c9, by decide, by decide, by decide +kernel, c9, Or.inr (by omega)⟩
  rw [show (2 : Int) * 256 = 512 from rfl, go 10 512 (by omega) (by omega) c9]
  by_cases c10 : far ≤ 32 * 1024 * 1024
  · exact ⟨1024, stop 9 1024 (by omega) (by omega) c10, by decide, by decide, by decide +kernel, c10, Or.inr (by omega)⟩
  rw [show (2 : Int) * 512 = 1024 from rfl, go 9 1024 (by omega) (by omega) c10]
  by_cases c11 : far ≤ 32 * 2048 * 2048
  · exact ⟨2048, stop 8 2048 (by omega) (by omega) c11, by decide, by decide, by decide +kernel, c11, Or.inr (by omega)⟩
  rw [show (2 : Int) * 1024 = 2048 from rfl, go 8 2048 (by omega) (by omega) c11]
  by_cases c12 : far ≤ 32 * 4096 * 4096
  · exact ⟨4096, stop 7 4096 (by omega) (by omega) c12, by decide, by decide, by decide +kernel, c12, Or.inr (by omega)⟩
  exact absurd c12 (by omega)
/-- A coordinate in device units. -/
def Dv (x : Int) : Prop := -60000 ≤ x ∧ x ≤ 60000
theorem rnd_mulself {x b : Int} (hb : 0 < b) : rnd (x * b) b = x := rnd_is hb (by omega) (by omega)
theorem rnd_dv {x m : Int} (hm : 0 < m) (h0 : -(60000 * m) ≤ x) (h1 : x ≤ 60000 * m) : Dv (rnd x m) := by
  have a := rnd_mono (a := -60000 * m) (c := x) hm (by omega)
  have b := rnd_mono (a := x) (c := 60000 * m) hm h1
  rw [rnd_mulself hm] at a b
  exact ⟨a, b⟩
theorem wt {A a : Int} (hA : 0 ≤ A) (ha : Dv a) : -(60000 * A) ≤ A * a ∧ A * a ≤ 60000 * A := by
  have h1 := Int.mul_le_mul_of_nonneg_left ha.2 hA
  have h2 := Int.mul_le_mul_of_nonneg_left ha.1 hA
  omega
theorem mix1_f {i n a b : Int} (i0 : 0 ≤ i) (i1 : i ≤ n) (n1 : 1 ≤ n) (n2 : n ≤ 512) (ha : Dv a) (hb : Dv b) : ∃ v, flatten_mix_v1.f i n a b = some v ∧ Dv v := by
  obtain ⟨p, rfl⟩ : ∃ p, n = p + i := ⟨n - i, by omega⟩
  have w1 := wt (A := p) (by omega) ha
  have w2 := wt i0 hb
  unfold flatten_mix_v1.f
  rw [w64 (n := p + i - i) (by omega) (by omega), show p + i - i = p by omega, w64 (n := p * a) (by omega) (by omega), w64 (n := i * b) (by omega) (by omega), w64 (n := p * a + i * b) (by omega) (by omega)]
  exact ⟨_, bind_of (round_f (by omega) (by omega) (by omega) (by omega)) rfl, rnd_dv (by omega) (by omega) (by omega)⟩
theorem mul_nn {a b : Int} (ha : 0 ≤ a) (hb : 0 ≤ b) : 0 ≤ a * b := Int.mul_nonneg ha hb
theorem mix2_f {i n a b c : Int} (i0 : 0 ≤ i) (i1 : i ≤ n) (n1 : 1 ≤ n) (n2 : n ≤ 512) (ha : Dv a) (hb : Dv b) (hc : Dv c) : ∃ v, flatten_mix_v2.f i n a b c = some v ∧ Dv v := by
  obtain ⟨p, rfl⟩ : ∃ p, n = p + i := ⟨n - i, by omega⟩
  have p0 : 0 ≤ p := by omega
  have hP := mul_nn p0 p0
  have hQ := mul_nn (show 0 ≤ 2 * i by omega) p0
  have hR := mul_nn i0 i0
  have hN : (p + i) * (p + i) ≤ 512 * 512 := Int.mul_le_mul n2 n2 (by omega) (by omega)
  have hN1 : 1 * 1 ≤ (p + i) * (p + i) := Int.mul_le_mul n1 n1 (by omega) (by omega)
  have hS : p * p + 2 * i * p + i * i = (p + i) * (p + i) := by grind
  unfold flatten_mix_v2.f
  rw [w64 (n := p + i - i) (by omega) (by omega), show p + i - i = p by omega, w64 (n := 2 * i) (by omega) (by omega)]
  generalize p * p = P at *
  generalize 2 * i * p = Q at *
  generalize i * i = R at *
  generalize (p + i) * (p + i) = N at *
  have w1 := wt hP ha
  have w2 := wt hQ hb
  have w3 := wt hR hc
  rw [w64 (n := P) (by omega) (by omega), w64 (n := Q) (by omega) (by omega), w64 (n := R) (by omega) (by omega), w64 (n := N) (by omega) (by omega), w64 (n := P * a) (by omega) (by omega), w64 (n := Q * b) (by omega) (by omega), w64 (n := R * c) (by omega) (by omega),
    w64 (n := P * a + Q * b) (by omega) (by omega), w64 (n := P * a + Q * b + R * c) (by omega) (by omega)]
  exact ⟨_, bind_of (round_f (by omega) (by omega) (by omega) (by omega)) rfl, rnd_dv (by omega) (by omega) (by omega)⟩
theorem mix3_f {i n a b c d : Int} (i0 : 0 ≤ i) (i1 : i ≤ n) (n1 : 1 ≤ n) (n2 : n ≤ 512) (ha : Dv a) (hb : Dv b) (hc : Dv c) (hd : Dv d) : ∃ v, flatten_mix_v3.f i n a b c d = some v ∧ Dv v := by
  obtain ⟨p, rfl⟩ : ∃ p, n = p + i := ⟨n - i, by omega⟩
  have p0 : 0 ≤ p := by omega
  have hpp := mul_nn p0 p0
  have hii := mul_nn i0 i0
  have h3p := mul_nn (show 0 ≤ 3 * i by omega) p0
  have h3i := mul_nn (show 0 ≤ 3 * i by omega) i0
  have hP := mul_nn hpp p0
  have hQ := mul_nn h3p p0
  have hR := mul_nn h3i p0
  have hT := mul_nn hii i0
  have hN0 : (p + i) * (p + i) ≤ 512 * 512 := Int.mul_le_mul n2 n2 (by omega) (by omega)
  have hN : (p + i) * (p + i) * (p + i) ≤ 512 * 512 * 512 := Int.mul_le_mul hN0 n2 (by omega) (by omega)
  have hN2 : 1 * 1 ≤ (p + i) * (p + i) := Int.mul_le_mul n1 n1 (by omega) (by omega)
  have hN1 : 1 * 1 ≤ (p + i) * (p + i) * (p + i) := Int.mul_le_mul (by omega) n1 (by omega) (by omega)
  have hS2 : p * p + 2 * (i * p) + i * i = (p + i) * (p + i) := by grind
  have hip : 3 * i * p = 3 * (i * p) := by grind
  have hii3 : 3 * i * i = 3 * (i * i) := by grind
  have hS : p * p * p + 3 * i * p * p + 3 * i * i * p + i * i * i = (p + i) * (p + i) * (p + i) := by grind
  unfold flatten_mix_v3.f
  rw [w64 (n := p + i - i) (by omega) (by omega), show p + i - i = p by omega, w64 (n := 3 * i) (by omega) (by omega), w64 (n := p * p) (by omega) (by omega), w64 (n := 3 * i * p) (by omega) (by omega), w64 (n := 3 * i * i) (by omega) (by omega), w64 (n := i * i) (by omega) (by omega), w64 (n := (p + i) * (p + i)) (by omega) (by omega)]
  generalize p * p * p = P at *
  generalize 3 * i * p * p = Q at *
  generalize 3 * i * i * p = R at *
  generalize i * i * i = T at *
  generalize (p + i) * (p + i) * (p + i) = N at *
  have w1 := wt hP ha
  have w2 := wt hQ hb
  have w3 := wt hR hc
  have w4 := wt hT hd
  rw [w64 (n := P) (by omega) (by omega), w64 (n := Q) (by omega) (by omega), w64 (n := R) (by omega) (by omega), w64 (n := T) (by omega) (by omega), w64 (n := N) (by omega) (by omega), w64 (n := P * a) (by omega) (by omega), w64 (n := Q * b) (by omega) (by omega), w64 (n := R * c) (by omega) (by omega), w64 (n := T * d) (by omega) (by omega),
    w64 (n := P * a + Q * b) (by omega) (by omega), w64 (n := P * a + Q * b + R * c) (by omega) (by omega), w64 (n := P * a + Q * b + R * c + T * d) (by omega) (by omega)]
  exact ⟨_, bind_of (round_f (by omega) (by omega) (by omega) (by omega)) rfl, rnd_dv (by omega) (by omega) (by omega)⟩
/-- A segment in device units. -/
structure SegD (s : Sg7) : Prop where
  k1 : 1 ≤ s.1
  k3 : s.1 ≤ 3
  a : Dv s.2.1
  b : Dv s.2.2.1
  c : Dv s.2.2.2.1
  d : Dv s.2.2.2.2.1
  e : Dv s.2.2.2.2.2.1
  f : Dv s.2.2.2.2.2.2
def pt (s : Sg7) (ax ay i n : Int) : Option (Int × Int) :=
  if s.1 = 1 then flatten_Point_v1.f ax ay s.2.1 s.2.2.1 s.2.2.2.1 s.2.2.2.2.1 s.2.2.2.2.2.1 s.2.2.2.2.2.2 i n
  else if s.1 = 2 then flatten_Point_v2.f ax ay s.2.1 s.2.2.1 s.2.2.2.1 s.2.2.2.2.1 s.2.2.2.2.2.1 s.2.2.2.2.2.2 i n
  else flatten_Point_v3.f ax ay s.2.1 s.2.2.1 s.2.2.2.1 s.2.2.2.2.1 s.2.2.2.2.2.1 s.2.2.2.2.2.2 i n
theorem pt_dv {s : Sg7} (hs : SegD s) {ax ay i n : Int} (hx : Dv ax) (hy : Dv ay) (i0 : 0 ≤ i) (i1 : i ≤ n) (n1 : 1 ≤ n) (n2 : n ≤ 512) : ∃ x y, pt s ax ay i n = some (x, y) ∧ Dv x ∧ Dv y := by
  obtain ⟨k1, k3, s1, s2, s3, s4, s5, s6⟩ := hs
  unfold pt
  split
  · obtain ⟨x, e1, b1⟩ := mix1_f i0 i1 n1 n2 hx s1
    obtain ⟨y, e2, b2⟩ := mix1_f i0 i1 n1 n2 hy s2
    exact ⟨x, y, by unfold flatten_Point_v1.f flatten_points_v1.f; exact bind_of rfl (bind_of e1 (bind_of e2 rfl)), b1, b2⟩
  · split
    · obtain ⟨x, e1, b1⟩ := mix2_f i0 i1 n1 n2 hx s1 s3
      obtain ⟨y, e2, b2⟩ := mix2_f i0 i1 n1 n2 hy s2 s4
      exact ⟨x, y, by unfold flatten_Point_v2.f flatten_points_v2.f; exact bind_of rfl (bind_of e1 (bind_of e2 rfl)), b1, b2⟩
    · obtain ⟨x, e1, b1⟩ := mix3_f i0 i1 n1 n2 hx s1 s3 s5
      obtain ⟨y, e2, b2⟩ := mix3_f i0 i1 n1 n2 hy s2 s4 s6
      exact ⟨x, y, by unfold flatten_Point_v3.f flatten_points_v3.f; exact bind_of rfl (bind_of e1 (bind_of e2 rfl)), b1, b2⟩
abbrev Ed := Int × Int × Int × Int
def EdD (e : Ed) : Prop := Dv e.1 ∧ Dv e.2.1 ∧ Dv e.2.2.1 ∧ Dv e.2.2.2
def put (y : List Ed) (ax ay bx by_ : Int) : List Ed := if ax = bx ∧ ay = by_ then y else y ++ [(ax, ay, bx, by_)]
theorem put_f {y : List Ed} (ax ay bx by_ : Int) (hy : y.length ≤ 1000000) : flatten_Path_1_v1.f bx by_ ax ay y = some (put y ax ay bx by_, bx, by_) := by
  unfold flatten_Path_1_v1.f put
  by_cases h : ax = bx ∧ ay = by_
  · rw [if_pos (by simp [h.1, h.2]), if_pos h]
  · rw [if_neg (by simpa using h), if_neg h]
    exact bind_of (lapp_ok (by simp; omega)) rfl
theorem put_ok {y : List Ed} {ax ay bx by_ : Int} (h : ∀ e ∈ y, EdD e) (a : Dv ax) (b : Dv ay) (c : Dv bx) (d : Dv by_) : (put y ax ay bx by_).length ≤ y.length + 1 ∧ ∀ e ∈ put y ax ay bx by_, EdD e := by
  unfold put
  split
  · exact ⟨by omega, h⟩
  · refine ⟨by simp, fun e he => ?_⟩
    rcases List.mem_append.1 he with he | he
    · exact h e he
    · obtain rfl := List.mem_singleton.1 he; exact ⟨a, b, c, d⟩
/-- A curve's edges. -/
theorem curve_f {s : Sg7} (hs : SegD s) {fx fy n : Int} (hx : Dv fx) (hy : Dv fy) (n1 : 1 ≤ n) (n2 : n ≤ 512) : ∀ (m : Nat) (i : Int) (y : List Ed) (ax ay : Int), n + 1 - i = m → 1 ≤ i → y.length + m ≤ 900000 → (∀ e ∈ y, EdD e) → Dv ax → Dv ay →
    ∃ bx by_ Y, (∀ k, m < k → flatten_Path_v1.l1 k fx fy s.1 s.2.1 s.2.2.1 s.2.2.2.1 s.2.2.2.2.1 s.2.2.2.2.2.1 s.2.2.2.2.2.2 n i y ax ay = some (bx, by_, Y)) ∧ Dv bx ∧ Dv by_ ∧ (∀ e ∈ Y, EdD e) ∧ Y.length ≤ y.length + m
  | 0, i, y, ax, ay, hm, i1, hl, he, ha, hb => ⟨ax, ay, y, fun k hk => by
      obtain ⟨k, rfl⟩ : ∃ j, k = j + 1 := ⟨k - 1, by omega⟩
      rw [flatten_Path_v1.l1, if_neg (by omega)], ha, hb, he, by omega⟩
  | m + 1, i, y, ax, ay, hm, i1, hl, he, ha, hb => by
    obtain ⟨px, py, hp, p1, p2⟩ := pt_dv hs hx hy (i := i) (n := n) (by omega) (by omega) n1 n2
    obtain ⟨q1, q2⟩ := put_ok he ha hb p1 p2
    obtain ⟨bx, by_, Y, h1, h2, h3, h4, h5⟩ := curve_f hs hx hy n1 n2 m (i + 1) (put y ax ay px py) px py (by omega) (by omega) (by omega) q2 p1 p2
    refine ⟨bx, by_, Y, fun k hk => ?_, h2, h3, h4, by omega⟩
    obtain ⟨k, rfl⟩ : ∃ j, k = j + 1 := ⟨k - 1, by omega⟩
    rw [flatten_Path_v1.l1, if_pos (by omega), w64 (n := i + 1) (by omega) (by omega)]
    have h1 := h1 k (by omega)
    have hpf := put_f (y := y) ax ay px py (by omega)
    have k1 := hs.k1
    have k3 := hs.k3
    unfold pt at hp
    rcases (show s.1 = 1 ∨ s.1 = 2 ∨ s.1 = 3 by omega) with h | h | h
    · rw [if_pos h] at hp ⊢
      exact bind_of hp (bind_of hpf h1)
    · rw [if_neg (by omega), if_pos h] at hp ⊢
      exact bind_of hp (bind_of hpf h1)
    · rw [if_neg (by omega), if_neg (by omega)] at hp ⊢
      rw [if_pos h]
      exact bind_of hp (bind_of hpf h1)
def lastP (s : Sg7) : Int × Int := if s.1 = 1 then (s.2.1, s.2.2.1) else if s.1 = 2 then (s.2.2.2.1, s.2.2.2.2.1) else (s.2.2.2.2.2.1, s.2.2.2.2.2.2)
theorem bd_dv {a b c : Int} (ha : Dv a) (hb : Dv b) (hc : Dv c) : 0 ≤ bd a b c ∧ bd a b c ≤ 240000 := by
  unfold Dv at *
  unfold bd
  omega
theorem bend_d {ax ay bx by_ cx cy : Int} (h1 : Dv ax) (h2 : Dv ay) (h3 : Dv bx) (h4 : Dv by_) (h5 : Dv cx) (h6 : Dv cy) : flatten_bend.f ax ay bx by_ cx cy = some (bd ax bx cx + bd ay by_ cy) := by
  unfold Dv at *
  exact bend_f (by omega) (by omega) (by omega) (by omega) (by omega) (by omega) (by omega) (by omega) (by omega) (by omega) (by omega) (by omega)
theorem count_mono : ∀ (k : Nat) (far n r : Int), flatten_Count.l0 k far n = some r → flatten_Count.l0 (k + 1) far n = some r
  | 0, far, n, r, h => by rw [flatten_Count.l0] at h; cases h
  | k + 1, far, n, r, h => by
    rw [flatten_Count.l0] at h ⊢
    by_cases c : far > wr64 (wr64 (32 * n) * n)
    · rw [if_pos c] at h ⊢
      exact count_mono k _ _ _ h
    · rw [if_neg c] at h ⊢
      exact h
theorem count_le {far n r : Int} {k : Nat} (h : flatten_Count.l0 20 far n = some r) (hk : 20 ≤ k) : flatten_Count.l0 k far n = some r := by
  obtain ⟨j, rfl⟩ : ∃ j, k = 20 + j := ⟨k - 20, by omega⟩
  clear hk
  induction j with
  | zero => exact h
  | succ j ih => exact count_mono _ _ _ _ ih
theorem count_s {far : Int} (f0 : 0 ≤ far) (f1 : far ≤ 1440000) : ∃ n : Int, (∀ k, 20 ≤ k → flatten_Count.l0 k far 1 = some n) ∧ 1 ≤ n ∧ n ≤ 512 := by
  obtain ⟨n, h, n0, n1, _, _, hor⟩ := count_go f0 (by omega)
  refine ⟨n, fun k hk => count_le h hk, n0, ?_⟩
  rcases hor with h | h
  · omega
  · by_cases c : n ≤ 512
    · exact c
    · have : 8 * 512 * 512 ≤ 8 * n * n := Int.mul_le_mul (by omega) (by omega) (by omega) (by omega)
      omega
/-- How many edges a segment has. -/
theorem count_f {s : Sg7} (hs : SegD s) {ax ay : Int} (hx : Dv ax) (hy : Dv ay) : ∃ n : Int, (∀ k, 20 ≤ k → flatten_Count.f k ax ay s.1 s.2.1 s.2.2.1 s.2.2.2.1 s.2.2.2.2.1 s.2.2.2.2.2.1 s.2.2.2.2.2.2 = some n) ∧ 1 ≤ n ∧ n ≤ 512 := by
  obtain ⟨k1, k3, s1, s2, s3, s4, s5, s6⟩ := hs
  have b1 := bd_dv hx s1 s3
  have b2 := bd_dv hy s2 s4
  have b3 := bd_dv s1 s3 s5
  have b4 := bd_dv s2 s4 s6
  have c1 := bend_d hx hy s1 s2 s3 s4
  have c2 := bend_d s1 s2 s3 s4 s5 s6
  rcases (show s.1 = 1 ∨ s.1 = 2 ∨ s.1 = 3 by omega) with h | h | h
  · obtain ⟨n, hn, n1, n2⟩ := count_s (far := 0) (by omega) (by omega)
    refine ⟨n, fun k hk => ?_, n1, n2⟩
    unfold flatten_Count.f
    rw [if_pos h]
    exact bind_of rfl (bind_of (hn k hk) rfl)
  · obtain ⟨n, hn, n1, n2⟩ := count_s (far := bd ax s.2.1 s.2.2.2.1 + bd ay s.2.2.1 s.2.2.2.2.1) (by omega) (by omega)
    refine ⟨n, fun k hk => ?_, n1, n2⟩
    unfold flatten_Count.f
    rw [if_neg (by omega), if_pos h]
    exact bind_of (bind_of c1 rfl) (bind_of (hn k hk) rfl)
  · have hm : 0 ≤ mx (bd ax s.2.1 s.2.2.2.1 + bd ay s.2.2.1 s.2.2.2.2.1) (bd s.2.1 s.2.2.2.1 s.2.2.2.2.2.1 + bd s.2.2.1 s.2.2.2.2.1 s.2.2.2.2.2.2) ∧ mx (bd ax s.2.1 s.2.2.2.1 + bd ay s.2.2.1 s.2.2.2.2.1) (bd s.2.1 s.2.2.2.1 s.2.2.2.2.2.1 + bd s.2.2.1 s.2.2.2.2.1 s.2.2.2.2.2.2) ≤ 480000 := by unfold mx; split <;> omega
    obtain ⟨n, hn, n1, n2⟩ := count_s (far := 3 * mx (bd ax s.2.1 s.2.2.2.1 + bd ay s.2.2.1 s.2.2.2.2.1) (bd s.2.1 s.2.2.2.1 s.2.2.2.2.2.1 + bd s.2.2.1 s.2.2.2.2.1 s.2.2.2.2.2.2)) (by omega) (by omega)
    refine ⟨n, fun k hk => ?_, n1, n2⟩
    unfold flatten_Count.f
    rw [if_neg (by omega), if_neg (by omega), if_pos h]
    refine bind_of (bind_of c1 (bind_of c2 rfl)) ?_
    dsimp only
    rw [w64 (by omega) (by omega)]
    exact bind_of (hn k hk) rfl
structure PathD (p : Pth) : Prop where
  x : Dv p.1
  y : Dv p.2.1
  l : p.2.2.1.length ≤ 4
  s : ∀ s ∈ p.2.2.1, SegD s
theorem segs_f {L : List Sg7} (hL : ∀ s ∈ L, SegD s) (hl : L.length ≤ 4) : ∀ (n i : Nat) (y : List Ed) (ax ay : Int), i + n = L.length → y.length + 512 * n ≤ 800000 → (∀ e ∈ y, EdD e) → Dv ax → Dv ay →
    ∃ bx by_ Y, (∀ k, n + 600 < k → flatten_Path_v1.l0 k L (i : Int) y ax ay = some (bx, by_, Y)) ∧ Dv bx ∧ Dv by_ ∧ (∀ e ∈ Y, EdD e) ∧ Y.length ≤ y.length + 512 * n
  | 0, i, y, ax, ay, hn, _, he, ha, hb => ⟨ax, ay, y, fun k hk => by
      obtain ⟨k, rfl⟩ : ∃ j, k = j + 1 := ⟨k - 1, by omega⟩
      rw [flatten_Path_v1.l0, if_neg (by omega)], ha, hb, he, by omega⟩
  | n + 1, i, y, ax, ay, hn, hy, he, ha, hb => by
    have hi : i < L.length := by omega
    have hs := hL L[i] (List.getElem_mem hi)
    obtain ⟨s, hse⟩ : ∃ s, lgt L (i : Int) = some s ∧ s = L[i] := ⟨_, lgt_nat hi, rfl⟩
    rw [← hse.2] at hs
    obtain ⟨c, hc, c1, c2⟩ := count_f hs ha hb
    obtain ⟨m, hm⟩ : ∃ m : Nat, c = m := ⟨c.toNat, by omega⟩
    obtain ⟨bx, by_, Y, h1, h2, h3, h4, h5⟩ := curve_f hs ha hb c1 c2 m 1 y ax ay (by omega) (by omega) (by omega) he ha hb
    obtain ⟨dx, dy, Z, g1, g2, g3, g4, g5⟩ := segs_f hL hl n (i + 1) Y bx by_ (by omega) (by omega) h4 h2 h3
    refine ⟨dx, dy, Z, fun k hk => ?_, g2, g3, g4, by omega⟩
    obtain ⟨k, rfl⟩ : ∃ j, k = j + 1 := ⟨k - 1, by omega⟩
    rw [flatten_Path_v1.l0, if_pos (by omega), wnat (by omega)]
    exact bind_of (x := (bx, by_, Y)) (bind_of hse.1 (bind_of (hc k (by omega)) (h1 k (by omega)))) (g1 k (by omega))
/-- A path's edges. -/
theorem fpath_f {p : Pth} (hp : PathD p) (shut : Bool) : ∃ Y, (∀ k, 700 ≤ k → flatten_Path_v1.f k p.1 p.2.1 p.2.2.1 p.2.2.2 shut = some Y) ∧ (∀ e ∈ Y, EdD e) ∧ Y.length ≤ 2100 := by
  obtain ⟨bx, by_, Y, h1, h2, h3, h4, h5⟩ := segs_f hp.s hp.l p.2.2.1.length 0 [] p.1 p.2.1 (by omega) (by have := hp.l; simp; omega) (by simp) hp.x hp.y
  have hl := hp.l
  have hY : Y.length ≤ 2048 := by simp at h5; omega
  obtain ⟨q1, q2⟩ := put_ok h4 h2 h3 hp.x hp.y
  by_cases c : shut = true ∨ p.2.2.2 = true
  · refine ⟨put Y bx by_ p.1 p.2.1, fun k hk => ?_, q2, by omega⟩
    unfold flatten_Path_v1.f
    refine bind_of (h1 k (by omega)) ?_
    dsimp only
    have hpf := put_f (y := Y) bx by_ p.1 p.2.1 (by omega)
    by_cases c1 : shut = true
    · rw [if_pos c1]; exact bind_of hpf rfl
    · rw [if_neg c1, if_pos (c.resolve_left c1)]; exact bind_of hpf rfl
  · refine ⟨Y, fun k hk => ?_, h4, by omega⟩
    unfold flatten_Path_v1.f
    refine bind_of (h1 k (by omega)) ?_
    dsimp only
    rw [if_neg (fun h => c (Or.inl h)), if_neg (fun h => c (Or.inr h))]
/-- How many edges a path has at most. -/
theorem sizes_l {L : List Sg7} (hL : ∀ s ∈ L, SegD s) (hl : L.length ≤ 4) : ∀ (n i : Nat) (a ax ay : Int), i + n = L.length → 0 ≤ a → a ≤ 100000 + 512 * i → Dv ax → Dv ay →
    ∃ b bx by_, (∀ k, n + 600 < k → flatten_Size_v1.l0 k L a (i : Int) ax ay = some (b, bx, by_)) ∧ 0 ≤ b ∧ b ≤ a + 512 * n
  | 0, i, a, ax, ay, hn, a0, a1, ha, hb => ⟨a, ax, ay, fun k hk => by
      obtain ⟨k, rfl⟩ : ∃ j, k = j + 1 := ⟨k - 1, by omega⟩
      rw [flatten_Size_v1.l0, if_neg (by omega)], a0, by omega⟩
  | n + 1, i, a, ax, ay, hn, a0, a1, ha, hb => by
    have hi : i < L.length := by omega
    have hs := hL L[i] (List.getElem_mem hi)
    obtain ⟨s, hse⟩ : ∃ s, lgt L (i : Int) = some s ∧ s = L[i] := ⟨_, lgt_nat hi, rfl⟩
    rw [← hse.2] at hs
    obtain ⟨c, hc, c1, c2⟩ := count_f hs ha hb
    have hp : Dv (lastP s).1 ∧ Dv (lastP s).2 := by
      unfold lastP
      split
      · exact ⟨hs.a, hs.b⟩
      · split
        · exact ⟨hs.c, hs.d⟩
        · exact ⟨hs.e, hs.f⟩
    obtain ⟨b, bx, by_, g1, g2, g3⟩ := sizes_l hL hl n (i + 1) (a + c) (lastP s).1 (lastP s).2 (by omega) (by omega) (by omega) hp.1 hp.2
    refine ⟨b, bx, by_, fun k hk => ?_, g2, by omega⟩
    obtain ⟨k, rfl⟩ : ∃ j, k = j + 1 := ⟨k - 1, by omega⟩
    rw [flatten_Size_v1.l0, if_pos (by omega), wnat (by omega)]
    refine bind_of hse.1 (bind_of (hc k (by omega)) ?_)
    have g1 := g1 k (by omega)
    rw [w64 (n := a + c) (by omega) (by omega)]
    have k1 := hs.k1
    have k3 := hs.k3
    unfold lastP at g1
    unfold flatten_points_v1.f flatten_points_v2.f flatten_points_v3.f
    rcases (show s.1 = 1 ∨ s.1 = 2 ∨ s.1 = 3 by omega) with h | h | h
    · rw [if_pos h] at g1
      rw [if_pos h]
      exact bind_of rfl g1
    · rw [if_neg (by omega), if_pos h] at g1
      rw [if_neg (by omega), if_pos h]
      exact bind_of rfl g1
    · rw [if_neg (by omega), if_neg (by omega)] at g1
      rw [if_neg (by omega), if_neg (by omega), if_pos h]
      exact bind_of rfl g1
theorem size_f {p : Pth} (hp : PathD p) : ∃ n, (∀ k, 700 ≤ k → flatten_Size_v1.f k p.1 p.2.1 p.2.2.1 p.2.2.2 = some n) ∧ 0 ≤ n ∧ n ≤ 2100 := by
  obtain ⟨b, bx, by_, h1, h2, h3⟩ := sizes_l hp.s hp.l p.2.2.1.length 0 1 p.1 p.2.1 (by omega) (by omega) (by omega) hp.x hp.y
  have hl := hp.l
  refine ⟨b, fun k hk => ?_, h2, by omega⟩
  unfold flatten_Size_v1.f
  exact bind_of (h1 k (by omega)) rfl
def In4 (far : Int) (e : Int × Int × Int × Int) : Prop := (-far ≤ e.1 ∧ e.1 ≤ far) ∧ (-far ≤ e.2.1 ∧ e.2.1 ≤ far) ∧ (-far ≤ e.2.2.1 ∧ e.2.2.1 ≤ far) ∧ (-far ≤ e.2.2.2 ∧ e.2.2.2 ≤ far)
def nE (e : Int × Int × Int × Int) (px py w : Int) : Bool := nearB e.1 e.2.1 e.2.2.1 e.2.2.2 px py w
/-- Far enough from overflow. -/
def Gd (e : Int × Int × Int × Int) (px py : Int) : Prop := Nr e.1 e.2.2.1 ∧ Nr e.2.1 e.2.2.2 ∧ Nr e.1 px ∧ Nr e.2.1 py ∧ Nr e.2.2.1 px ∧ Nr e.2.2.2 py
theorem nE_f {e : Int × Int × Int × Int} {px py w : Int} (h : Gd e px py) (w0 : 0 ≤ w) (w1 : w ≤ 268435456) : plane_Near.f e.1 e.2.1 e.2.2.1 e.2.2.2 px py w = some (nE e px py w) :=
  near_f h.1 h.2.1 h.2.2.1 h.2.2.2.1 h.2.2.2.2.1 h.2.2.2.2.2 w0 w1
theorem any_drop {T : Type} {L : List T} {p : T → Bool} {i : Nat} (h : i < L.length) : (L.drop i).any p = (p L[i] || (L.drop (i + 1)).any p) := by
  rw [List.drop_eq_getElem_cons h, List.any_cons]
theorem near_l {L : List (Int × Int × Int × Int)} {px py w : Int} (hL : L.length ≤ 1000000) (hg : ∀ e ∈ L, Gd e px py) (w0 : 0 ≤ w) (w1 : w ≤ 268435456) : ∀ (n i k : Nat), L.length - i = n → i ≤ L.length → n < k →
    ∃ r, api_Edge_v2.l0 k L px py w i = some r ∧ ((∃ j : Int, r = .inl j ∧ 0 ≤ j ∧ (L.drop i).any (fun e => nE e px py w) = true) ∨ (r = .inr () ∧ (L.drop i).any (fun e => nE e px py w) = false))
  | 0, i, k, hn, hi, hk => by
    obtain ⟨k, rfl⟩ : ∃ m, k = m + 1 := ⟨k - 1, by omega⟩
    refine ⟨.inr (), ?_, Or.inr ⟨rfl, ?_⟩⟩
    · rw [api_Edge_v2.l0, if_neg (by omega)]
    · rw [List.drop_eq_nil_of_le (by omega)]; rfl
  | n + 1, i, k, hn, hi, hk => by
    obtain ⟨k, rfl⟩ : ∃ m, k = m + 1 := ⟨k - 1, by omega⟩
    have hlt : i < L.length := by omega
    have hnear := nE_f (hg L[i] (List.getElem_mem hlt)) w0 w1
    have h1 : stroke_Near_1_v1.f L[i].1 L[i].2.1 L[i].2.2.1 L[i].2.2.2 px py w = some (nE L[i] px py w) := bind_of hnear rfl
    rw [api_Edge_v2.l0, if_pos (by omega)]
    cases hb : nE L[i] px py w with
    | true =>
      refine ⟨.inl i, bind_of (lgt_nat hlt) (bind_of h1 ?_), Or.inl ⟨i, rfl, by omega, ?_⟩⟩
      · rw [hb, if_pos rfl]
      · rw [any_drop hlt, hb]; rfl
    | false =>
      obtain ⟨r, hr, hc⟩ := near_l hL hg w0 w1 n (i + 1) k (by omega) (by omega) (by omega)
      refine ⟨r, bind_of (lgt_nat hlt) (bind_of h1 ?_), ?_⟩
      · rw [hb, if_neg (by decide), wnat (by omega)]
        exact hr
      · rw [any_drop hlt, hb, Bool.false_or]
        exact hc
theorem near_all {L : List (Int × Int × Int × Int)} {px py w : Int} (hL : L.length ≤ 1000000) (hg : ∀ e ∈ L, Gd e px py) (w0 : 0 ≤ w) (w1 : w ≤ 268435456) (k : Nat) (hk : L.length < k) : stroke_Near_v1.f k L w px py = some (L.any fun e => nE e px py w) := by
  unfold stroke_Near_v1.f api_Edge_v1.f api_Edge_v2.f
  obtain ⟨r, hr, hc⟩ := near_l hL hg w0 w1 L.length 0 k (by omega) (by omega) hk
  rw [List.drop_zero] at hc
  rcases hc with ⟨j, rfl, j0, h⟩ | ⟨rfl, h⟩
  · refine bind_of (bind_of (bind_of hr rfl) rfl) ?_
    rw [h, decide_eq_true (by omega)]
  · refine bind_of (bind_of (bind_of hr rfl) rfl) ?_
    rw [h]
    rfl
theorem mn_le (a b : Int) : mn a b ≤ a ∧ mn a b ≤ b ∧ (mn a b = a ∨ mn a b = b) := by unfold mn; split <;> omega
theorem mx_ge (a b : Int) : a ≤ mx a b ∧ b ≤ mx a b ∧ (mx a b = a ∨ mx a b = b) := by unfold mx; split <;> omega
theorem half_f {w : Int} (w0 : 0 ≤ w) (w1 : w ≤ 268435456) : wr64 (Int.tdiv (wr64 (w + 1)) 2) = (w + 1) / 2 := by
  rw [w64 (n := w + 1) (by omega) (by omega), Int.tdiv_eq_ediv, if_pos (Or.inl (by omega)), w64 (by omega) (by omega)]
  omega
theorem sq_mono {a b : Int} (h0 : 0 ≤ a) (h : a ≤ b) : a * a ≤ b * b := Int.mul_le_mul h h h0 (by omega)
theorem sq_inv {a b : Int} (b0 : 0 ≤ b) (h : a * a ≤ b * b) : a ≤ b := by
  by_cases c : a ≤ b
  · exact c
  · have : (b + 1) * (b + 1) ≤ a * a := sq_mono (by omega) (by omega)
    have : (b + 1) * (b + 1) = b * b + 2 * b + 1 := by grind
    omega
/-- One axis: no farther than half of the width from between. -/
theorem axis_end {d w s : Int} (w0 : 0 ≤ w) (h : 4 * (d * d + s) ≤ w * w) (s0 : 0 ≤ s) : -w ≤ 2 * d ∧ 2 * d ≤ w := by
  have e : (2 * d) * (2 * d) = 4 * (d * d) := by grind
  have h1 := sq_inv (a := 2 * d) w0 (by omega)
  have e2 : (-(2 * d)) * (-(2 * d)) = 4 * (d * d) := by grind
  have h2 := sq_inv (a := -(2 * d)) w0 (by omega)
  omega
theorem axis_side {dx dy ex ey w D C Ln : Int} (w0 : 0 ≤ w) (hD : D = dx * ex + dy * ey) (hC : C = dx * ey - dy * ex) (hL : Ln = dx * dx + dy * dy) (d0 : 0 < D) (d1 : D < Ln) (h : 4 * (C * C) ≤ w * w * Ln) :
    (0 ≤ dx → -w ≤ 2 * ex ∧ 2 * ex ≤ 2 * dx + w) ∧ (dx ≤ 0 → 2 * dx - w ≤ 2 * ex ∧ 2 * ex ≤ w) := by
  have key : Ln * ex = dx * D - dy * C := by subst hD hC hL; grind
  have hy : dy * dy ≤ Ln := by have := sq_nonneg dx; omega
  -- |2 dy C| ≤ w Ln
  have hb : (2 * (dy * C)) * (2 * (dy * C)) ≤ (w * Ln) * (w * Ln) := by
    have e1 : (2 * (dy * C)) * (2 * (dy * C)) = dy * dy * (4 * (C * C)) := by grind
    have e2 : (w * Ln) * (w * Ln) = Ln * (w * w * Ln) := by grind
    rw [e1, e2]
    have g1 : dy * dy * (4 * (C * C)) ≤ Ln * (4 * (C * C)) := Int.mul_le_mul_of_nonneg_right hy (by have := sq_nonneg C; omega)
    have g2 : Ln * (4 * (C * C)) ≤ Ln * (w * w * Ln) := Int.mul_le_mul_of_nonneg_left h (by omega)
    omega
  have hw : 0 ≤ w * Ln := Int.mul_nonneg w0 (by omega)
  have u1 := sq_inv hw hb
  have u2 := sq_inv (a := -(2 * (dy * C))) hw (by rw [Int.neg_mul_neg]; exact hb)
  have lpos : 0 < Ln := by omega
  have lo : ∀ m : Int, Ln * (2 * m) ≤ Ln * (2 * ex + w) → 2 * m ≤ 2 * ex + w := fun m hm => Int.le_of_mul_le_mul_left hm lpos
  have hi : ∀ m : Int, Ln * (2 * ex) ≤ Ln * (2 * m + w) → 2 * ex ≤ 2 * m + w := fun m hm => Int.le_of_mul_le_mul_left hm lpos
  have x1 : Ln * (2 * ex + w) = 2 * (dx * D) - 2 * (dy * C) + w * Ln := by grind
  have x2 : Ln * (2 * ex) = 2 * (dx * D) - 2 * (dy * C) := by grind
  have p1 : ∀ m : Int, Ln * (2 * m + w) = 2 * (Ln * m) + w * Ln := fun m => by grind
  have p2 : ∀ m : Int, Ln * (2 * m) = 2 * (Ln * m) := fun m => by grind
  have hdx : dx * Ln = Ln * dx := Int.mul_comm _ _
  constructor
  · intro g
    have q1 : 0 ≤ dx * D := Int.mul_nonneg g (by omega)
    have q2 : dx * D ≤ dx * Ln := Int.mul_le_mul_of_nonneg_left (by omega) g
    have r1 := lo 0 (by rw [x1, p2]; omega)
    have r2 := hi dx (by rw [x2, p1]; omega)
    omega
  · intro g
    have q1 : dx * D ≤ 0 := Int.mul_nonpos_of_nonpos_of_nonneg g (by omega)
    have q2 : dx * Ln ≤ dx * D := Int.mul_le_mul_of_nonpos_left g (by omega)
    have r1 := lo dx (by rw [x1, p2]; omega)
    have r2 := hi 0 (by rw [x2, p1]; omega)
    omega
/-- What is near stands where the edge stands, and half of the width more. -/
theorem near_box {ax ay bx by_ px py w a b c d : Int} (w0 : 0 ≤ w) (hn : nearB ax ay bx by_ px py w = true) (h1 : a ≤ ax ∧ ax ≤ c) (h2 : b ≤ ay ∧ ay ≤ d) (h3 : a ≤ bx ∧ bx ≤ c) (h4 : b ≤ by_ ∧ by_ ≤ d) :
    a - (w + 1) / 2 ≤ px ∧ px ≤ c + (w + 1) / 2 ∧ b - (w + 1) / 2 ≤ py ∧ py ≤ d + (w + 1) / 2 := by
  unfold nearB at hn
  by_cases c1 : dt ax ay bx by_ px py ≤ 0
  · rw [if_pos c1, decide_eq_true_eq] at hn
    unfold ln at hn
    have q1 := axis_end (d := px - ax) (s := (py - ay) * (py - ay)) w0 hn (sq_nonneg _)
    have q2 := axis_end (d := py - ay) (s := (px - ax) * (px - ax)) w0 (by omega) (sq_nonneg _)
    omega
  · rw [if_neg c1] at hn
    by_cases c2 : dt ax ay bx by_ px py ≥ ln ax ay bx by_
    · rw [if_pos c2, decide_eq_true_eq] at hn
      unfold ln at hn
      have q1 := axis_end (d := px - bx) (s := (py - by_) * (py - by_)) w0 hn (sq_nonneg _)
      have q2 := axis_end (d := py - by_) (s := (px - bx) * (px - bx)) w0 (by omega) (sq_nonneg _)
      omega
    · rw [if_neg c2, decide_eq_true_eq] at hn
      have g1 := axis_side (dx := bx - ax) (dy := by_ - ay) (ex := px - ax) (ey := py - ay) (D := dt ax ay bx by_ px py) (C := crs ax ay bx by_ px py) (Ln := ln ax ay bx by_) w0 rfl rfl rfl (by omega) (by omega) hn
      have g2 := axis_side (dx := by_ - ay) (dy := bx - ax) (ex := py - ay) (ey := px - ax) (D := dt ax ay bx by_ px py) (C := -crs ax ay bx by_ px py) (Ln := ln ax ay bx by_) w0 (by unfold dt; omega) (by unfold crs; omega) (by unfold ln; omega) (by omega) (by omega) (by rw [Int.neg_mul_neg]; exact hn)
      rcases Int.le_total 0 (bx - ax) with x | x <;> rcases Int.le_total 0 (by_ - ay) with y | y
      · have := g1.1 x; have := g2.1 y; omega
      · have := g1.1 x; have := g2.2 y; omega
      · have := g1.2 x; have := g2.1 y; omega
      · have := g1.2 x; have := g2.2 y; omega
def sx (x : Int) (i : Nat) : Int := x * 256 + 32 * ((i % 8 : Nat) : Int) + 16
def sy (y : Int) (i : Nat) : Int := y * 256 + 32 * ((i / 8 : Nat) : Int) + 16
theorem sample_f {x y : Int} {i : Nat} (hx : -100000 ≤ x ∧ x ≤ 100000) (hy : -100000 ≤ y ∧ y ≤ 100000) (hi : i ≤ 64) : sweep_Sample.f x y (i : Int) = some (sx x i, sy y i) := by
  have e1 : Int.tmod (i : Int) 8 = ((i % 8 : Nat) : Int) := by rw [tmod_pos (by omega)]; omega
  have e2 : Int.tdiv (i : Int) 8 = ((i / 8 : Nat) : Int) := by rw [Int.tdiv_eq_ediv, if_pos (Or.inl (by omega))]; omega
  unfold sweep_Sample.f sx sy
  rw [e1, e2, w64 (n := ((i / 8 : Nat) : Int)) (by omega) (by omega), w64 (n := x * 256) (by omega) (by omega), w64 (n := 32 * ((i % 8 : Nat) : Int)) (by omega) (by omega), w64 (n := y * 256) (by omega) (by omega), w64 (n := 32 * ((i / 8 : Nat) : Int)) (by omega) (by omega), w64 (n := x * 256 + 32 * ((i % 8 : Nat) : Int)) (by omega) (by omega), w64 (n := y * 256 + 32 * ((i / 8 : Nat) : Int)) (by omega) (by omega), w64 (by omega) (by omega), w64 (by omega) (by omega)]
theorem sy_row (y : Int) {r i : Nat} (h1 : r * 8 ≤ i) (h2 : i < r * 8 + 8) : sy y i = sy y (r * 8) := by
  unfold sy
  rw [show i / 8 = r by omega, show r * 8 / 8 = r by omega]
/-- The bits of a mask, one by one. -/
def mst (p : Nat → Bool) (i : Nat) (m : Int) : Int := if p i = true then bits .or .u64 m (wru64 (1 * 2 ^ (min i 64))) else m
def mf (p : Nat → Bool) : Nat → Nat → Int → Int
  | _, 0, m => m
  | i, n + 1, m => mf p (i + 1) n (mst p i m)
theorem mf_add (p : Nat → Bool) : ∀ (a i b : Nat) (m : Int), mf p i (a + b) m = mf p (i + a) b (mf p i a m)
  | 0, i, b, m => by simp [mf]
  | a + 1, i, b, m => by
    rw [show a + 1 + b = (a + b) + 1 by omega, mf, mf_add p a (i + 1) b, mf, show i + 1 + a = i + (a + 1) by omega]
theorem mf_congr {p q : Nat → Bool} : ∀ {n i : Nat} {m : Int}, (∀ j, i ≤ j → j < i + n → p j = q j) → mf p i n m = mf q i n m
  | 0, _, _, _ => rfl
  | n + 1, i, m, h => by
    rw [mf, mf, mst, mst, h i (by omega) (by omega)]
    exact mf_congr fun j h1 h2 => h j (by omega) (by omega)
theorem mf_no {p : Nat → Bool} : ∀ {n i : Nat} {m : Int}, (∀ j, i ≤ j → j < i + n → p j = false) → mf p i n m = m
  | 0, _, _, _ => rfl
  | n + 1, i, m, h => by
    rw [mf, mst, h i (by omega) (by omega), if_neg (by decide)]
    exact mf_no fun j h1 h2 => h j (by omega) (by omega)
/-- A row of pixels. -/
def row (w : Nat) (g : Nat → Int) : List Int := (List.range w).map g
theorem row_len (w : Nat) (g : Nat → Int) : (row w g).length = w := by simp [row]
theorem row_congr {w : Nat} {f g : Nat → Int} (h : ∀ x < w, f x = g x) : row w f = row w g := by
  unfold row
  exact List.map_congr_left fun x hx => h x (List.mem_range.1 hx)
theorem row_get {w x : Nat} (g : Nat → Int) (h : x < w) : lgt (row w g) (x : Int) = some (g x) := by
  rw [lgt_nat (by rw [row_len]; exact h)]
  simp [row]
theorem row_put {w x : Nat} (g : Nat → Int) (v : Int) (h : x < w) : lput (row w g) (x : Int) v = some (row w fun x' => if x' = x then v else g x') := by
  unfold lput
  rw [if_pos ⟨by omega, by rw [row_len]; omega⟩, Int.toNat_natCast]
  congr 1
  apply List.ext_getElem
  · simp [row]
  · intro i h1 h2
    simp only [row, List.getElem_set, List.getElem_map, List.getElem_range]
    by_cases e : x = i
    · rw [if_pos e, if_pos e.symm]
    · rw [if_neg e, if_neg (fun q => e q.symm)]
/-- Does a row of samples come near an edge? -/
def cr (wide y : Int) (e : Ed) : Bool := decide (mn (mn e.2.1 e.2.1) e.2.2.2 - (wide + 1) / 2 ≤ y) && decide (y ≤ mx (mx e.2.1 e.2.1) e.2.2.2 + (wide + 1) / 2)
theorem cross_l {L : List Ed} {wide y : Int} (hL : L.length ≤ 1000000) (hin : ∀ e ∈ L, In4 1000000 e) (w0 : 0 ≤ wide) (w1 : wide ≤ 1000000) : ∀ (n i k : Nat) (Y : List Ed), L.length - i = n → i ≤ L.length → n < k → Y.length ≤ i →
    sweep_crossing_v1.l0 k L wide y i Y = some (Y ++ (L.drop i).filter (cr wide y))
  | 0, i, k, Y, hn, hi, hk, hy => by
    obtain ⟨k, rfl⟩ : ∃ m, k = m + 1 := ⟨k - 1, by omega⟩
    rw [sweep_crossing_v1.l0, if_neg (by omega), List.drop_eq_nil_of_le (by omega)]
    simp
  | n + 1, i, k, Y, hn, hi, hk, hy => by
    obtain ⟨k, rfl⟩ : ∃ m, k = m + 1 := ⟨k - 1, by omega⟩
    have hlt : i < L.length := by omega
    obtain ⟨⟨a1, a2⟩, ⟨b1, b2⟩, ⟨c1, c2⟩, d1, d2⟩ := hin L[i] (List.getElem_mem hlt)
    have m1 := mn_le L[i].2.1 L[i].2.1
    have m2 := mn_le (mn L[i].2.1 L[i].2.1) L[i].2.2.2
    have m3 := mx_ge L[i].2.1 L[i].2.1
    have m4 := mx_ge (mx L[i].2.1 L[i].2.1) L[i].2.2.2
    have hbox : ∃ u v, stroke_Box_v1.f wide L[i].1 L[i].2.1 L[i].2.2.1 L[i].2.2.2 = some (u, mn (mn L[i].2.1 L[i].2.1) L[i].2.2.2 - (wide + 1) / 2, v, mx (mx L[i].2.1 L[i].2.1) L[i].2.2.2 + (wide + 1) / 2, true) := by
      unfold stroke_Box_v1.f
      rw [half_f w0 (by omega), w64 (n := mn (mn L[i].2.1 L[i].2.1) L[i].2.2.2 - (wide + 1) / 2) (by omega) (by omega), w64 (n := mx (mx L[i].2.1 L[i].2.1) L[i].2.2.2 + (wide + 1) / 2) (by omega) (by omega)]
      exact ⟨_, _, rfl⟩
    obtain ⟨u, v, hbox⟩ := hbox
    rw [sweep_crossing_v1.l0, if_pos (by omega)]
    refine bind_of (lgt_nat hlt) (bind_of hbox ?_)
    dsimp only
    rw [List.drop_eq_getElem_cons hlt, List.filter_cons]
    unfold cr
    by_cases h1 : mn (mn L[i].2.1 L[i].2.1) L[i].2.2.2 - (wide + 1) / 2 ≤ y
    · rw [if_pos h1, decide_eq_true h1]
      by_cases h2 : y ≤ mx (mx L[i].2.1 L[i].2.1) L[i].2.2.2 + (wide + 1) / 2
      · rw [if_pos h2, decide_eq_true h2, if_pos (by rfl)]
        refine bind_of (lapp_ok (by simp; omega)) ?_
        rw [wnat (by omega), cross_l hL hin w0 w1 n (i + 1) k _ (by omega) (by omega) (by omega) (by simp; omega), List.append_assoc]
        rfl
      · rw [if_neg h2, decide_eq_false h2, if_neg (by decide), wnat (by omega)]
        exact cross_l hL hin w0 w1 n (i + 1) k Y (by omega) (by omega) (by omega) (by omega)
    · rw [if_neg h1, decide_eq_false h1, if_neg (by simp), wnat (by omega)]
      exact cross_l hL hin w0 w1 n (i + 1) k Y (by omega) (by omega) (by omega) (by omega)
theorem cross_list {L : List Ed} {wide y : Int} (hL : L.length ≤ 1000000) (hin : ∀ e ∈ L, In4 1000000 e) (w0 : 0 ≤ wide) (w1 : wide ≤ 1000000) (k : Nat) (hk : L.length < k) : sweep_crossing_v1.f k L wide y = some (L.filter (cr wide y)) := by
  unfold sweep_crossing_v1.f
  exact bind_of (cross_l hL hin w0 w1 L.length 0 k [] (by omega) (by omega) hk (by simp)) (by simp)
/-- How an edge goes round a point. -/
def one (e : Ed) (px py : Int) : Int := if e.2.1 ≤ py ∧ e.2.2.2 > py ∧ crs e.1 e.2.1 e.2.2.1 e.2.2.2 px py > 0 then 1 else if e.2.2.2 ≤ py ∧ e.2.1 > py ∧ crs e.1 e.2.1 e.2.2.1 e.2.2.2 px py < 0 then -1 else 0
theorem one_in (e : Ed) (px py : Int) : -1 ≤ one e px py ∧ one e px py ≤ 1 := by
  unfold one
  split
  · omega
  · split <;> omega
theorem one_f {e : Ed} {px py : Int} (h : Gd e px py) : wind_One.f e.1 e.2.1 e.2.2.1 e.2.2.2 px py = some (one e px py) := by
  have hc := cross_f h.1 h.2.1 h.2.2.1 h.2.2.2.1
  unfold wind_One.f one
  rw [hc]
  simp only [Option.bind_some]
  generalize crs e.1 e.2.1 e.2.2.1 e.2.2.2 px py = c
  by_cases a1 : e.2.1 ≤ py
  · by_cases a2 : e.2.2.2 > py
    · by_cases a3 : c > 0
      · simp [a1, a2, a3]
      · have a4 : ¬ e.2.2.2 ≤ py := by omega
        simp [a1, a2, a3, a4]
    · have b1 : ¬ e.2.1 > py := by omega
      simp [a1, a2, b1]
  · have b1 : e.2.1 > py := by omega
    by_cases b2 : e.2.2.2 ≤ py
    · by_cases b3 : c < 0
      · simp [a1, b1, b2, b3]
      · simp [a1, b1, b2, b3]
    · simp [a1, b2]
def num : List Ed → Int → Int → Int
  | [], _, _ => 0
  | e :: r, px, py => one e px py + num r px py
theorem num_l {L : List Ed} {px py : Int} (hL : L.length ≤ 1000000) (hg : ∀ e ∈ L, Gd e px py) : ∀ (n i k : Nat) (a : Int), L.length - i = n → i ≤ L.length → n < k → -(i : Int) ≤ a → a ≤ i → wind_Number_v1.l0 k L px py a i = some (a + num (L.drop i) px py)
  | 0, i, k, a, hn, hi, hk, h0, h1 => by
    obtain ⟨k, rfl⟩ : ∃ m, k = m + 1 := ⟨k - 1, by omega⟩
    rw [wind_Number_v1.l0, if_neg (by omega), List.drop_eq_nil_of_le (by omega), num, Int.add_zero]
  | n + 1, i, k, a, hn, hi, hk, h0, h1 => by
    obtain ⟨k, rfl⟩ : ∃ m, k = m + 1 := ⟨k - 1, by omega⟩
    have hlt : i < L.length := by omega
    have h2 := one_in L[i] px py
    rw [wind_Number_v1.l0, if_pos (by omega)]
    refine bind_of (lgt_nat hlt) (bind_of (one_f (hg L[i] (List.getElem_mem hlt))) ?_)
    show wind_Number_v1.l0 k L px py (wr64 (a + one L[i] px py)) _ = _
    rw [wnat (by omega), w64 (n := a + one L[i] px py) (by omega) (by omega), num_l hL hg n (i + 1) k _ (by omega) (by omega) (by omega) (by omega) (by omega), List.drop_eq_getElem_cons hlt, num, Int.add_assoc]
def ins (rule n : Int) : Bool := if rule = 0 then (Int.tmod n 2 != 0) else (n != 0)
theorem inside_all {L : List Ed} {px py : Int} (rule : Int) (hL : L.length ≤ 1000000) (hg : ∀ e ∈ L, Gd e px py) (k : Nat) (hk : L.length < k) : sweep_Fill_1_v1.f k L px py rule = some (ins rule (num L px py)) := by
  unfold sweep_Fill_1_v1.f wind_Inside_v1.f wind_Number_v1.f
  refine bind_of (bind_of (bind_of (num_l hL hg L.length 0 k 0 (by omega) (by omega) hk (by omega) (by omega)) rfl) ?_) rfl
  rw [List.drop_zero, Int.zero_add]
  unfold ins
  by_cases h : rule = 0
  · rw [if_pos h, if_pos h]
  · rw [if_neg h, if_neg h]
theorem num_filter {c : Ed → Bool} {px py : Int} : ∀ {L : List Ed}, (∀ e ∈ L, c e = false → one e px py = 0) → num (L.filter c) px py = num L px py
  | [], _ => rfl
  | e :: r, h => by
    have ih := num_filter (L := r) (fun f hf => h f (by simp [hf]))
    rw [List.filter_cons]
    cases hc : c e with
    | true => rw [if_pos rfl, num, num, ih]
    | false => rw [if_neg (by decide), num, ih, h e (by simp) hc]; omega
theorem any_filter {c q : Ed → Bool} : ∀ {L : List Ed}, (∀ e ∈ L, q e = true → c e = true) → (L.filter c).any q = L.any q
  | [], _ => rfl
  | e :: r, h => by
    have ih := any_filter (L := r) (fun f hf => h f (by simp [hf]))
    rw [List.filter_cons]
    cases hc : c e with
    | true => rw [if_pos rfl, List.any_cons, List.any_cons, ih]
    | false =>
      rw [if_neg (by decide), List.any_cons, ih]
      cases hq : q e with
      | true => rw [h e (by simp) hq] at hc; cases hc
      | false => rfl
theorem one_cr {e : Ed} {px py : Int} (h : cr 0 py e = false) : one e px py = 0 := by
  unfold cr at h
  have m1 := mn_le e.2.1 e.2.1
  have m2 := mn_le (mn e.2.1 e.2.1) e.2.2.2
  have m3 := mx_ge e.2.1 e.2.1
  have m4 := mx_ge (mx e.2.1 e.2.1) e.2.2.2
  simp only [Bool.and_eq_false_iff, decide_eq_false_iff_not] at h
  unfold one
  rw [if_neg (by omega), if_neg (by omega)]
theorem near_cr {e : Ed} {px py w : Int} (w0 : 0 ≤ w) (h : nE e px py w = true) : cr w py e = true := by
  have m1 := mn_le e.2.1 e.2.1
  have m2 := mn_le (mn e.2.1 e.2.1) e.2.2.2
  have m3 := mx_ge e.2.1 e.2.1
  have m4 := mx_ge (mx e.2.1 e.2.1) e.2.2.2
  have n1 := mn_le e.1 e.2.2.1
  have n2 := mx_ge e.1 e.2.2.1
  have := near_box (a := mn e.1 e.2.2.1) (b := mn (mn e.2.1 e.2.1) e.2.2.2) (c := mx e.1 e.2.2.1) (d := mx (mx e.2.1 e.2.1) e.2.2.2) w0 h (by omega) (by omega) (by omega) (by omega)
  unfold cr
  rw [decide_eq_true this.2.2.1, decide_eq_true this.2.2.2]
  rfl
theorem fill_l2 {N : List Ed} {y rule : Int} {r x w : Nat} {p : Nat → Bool} {b : Nat} (hx : x < w) (hw : w ≤ 1000) (hr : r < 8) (hy : -100000 ≤ y ∧ y ≤ 100000) (hq : ∀ i, r * 8 ≤ i → i < r * 8 + 8 → ∀ k, b < k → sweep_Fill_1_v1.f k N (sx x i) (sy y i) rule = some (p i)) :
    ∀ (n i k : Nat) (g : Nat → Int), r * 8 + 8 - i = n → r * 8 ≤ i → i ≤ r * 8 + 8 → n + b + 1 < k → sweep_masks_v1.l2 k y rule r N x i (row w g) = some (row w (fun x' => if x' = x then mf p i n (g x) else g x'))
  | 0, i, k, g, hn, h1, h2, hk => by
    obtain ⟨k, rfl⟩ : ∃ m, k = m + 1 := ⟨k - 1, by omega⟩
    rw [sweep_masks_v1.l2, w64 (n := (r : Int) + 1) (by omega) (by omega), w64 (n := ((r : Int) + 1) * 8) (by omega) (by omega), if_neg (by omega)]
    congr 1
    refine row_congr fun x' _ => ?_
    split
    · rename_i e; subst e; rfl
    · rfl
  | n + 1, i, k, g, hn, h1, h2, hk => by
    obtain ⟨k, rfl⟩ : ∃ m, k = m + 1 := ⟨k - 1, by omega⟩
    rw [sweep_masks_v1.l2, w64 (n := (r : Int) + 1) (by omega) (by omega), w64 (n := ((r : Int) + 1) * 8) (by omega) (by omega), if_pos (by omega)]
    refine bind_of (sample_f (by omega) hy (by omega)) (bind_of (hq i h1 (by omega) k (by omega)) ?_)
    rw [wnat (by omega)]
    cases hp : p i with
    | true =>
      rw [if_pos rfl]
      refine bind_of (row_get g hx) ?_
      rw [if_neg (by omega), Int.toNat_natCast]
      refine bind_of (row_get g hx) (bind_of (row_put g _ hx) ?_)
      rw [fill_l2 hx hw hr hy hq n (i + 1) k _ (by omega) (by omega) (by omega) (by omega)]
      congr 1
      refine row_congr fun x' _ => ?_
      by_cases e : x' = x
      · rw [if_pos e, if_pos e, if_pos rfl, mf, mst, hp, if_pos rfl]
      · rw [if_neg e, if_neg e, if_neg e]
    | false =>
      rw [if_neg (by decide), fill_l2 hx hw hr hy hq n (i + 1) k g (by omega) (by omega) (by omega) (by omega)]
      congr 1
      refine row_congr fun x' _ => ?_
      by_cases e : x' = x
      · rw [if_pos e, if_pos e, mf, mst, hp, if_neg (by decide)]
      · rw [if_neg e, if_neg e]
theorem fill_l1 {N : List Ed} {y rule : Int} {r w : Nat} {P : Nat → Nat → Bool} {b : Nat} (hN : N ≠ []) (hw : w ≤ 1000) (hr : r < 8) (hy : -100000 ≤ y ∧ y ≤ 100000) (hq : ∀ x < w, ∀ i, r * 8 ≤ i → i < r * 8 + 8 → ∀ k, b < k → sweep_Fill_1_v1.f k N (sx x i) (sy y i) rule = some (P x i)) :
    ∀ (n x k : Nat) (g : Nat → Int), w - x = n → x ≤ w → n + 10 + b < k → sweep_masks_v1.l1 k y w rule r N x (row w g) = some (row w fun x' => if x ≤ x' then mf (P x') (r * 8) 8 (g x') else g x')
  | 0, x, k, g, hn, h1, hk => by
    obtain ⟨k, rfl⟩ : ∃ m, k = m + 1 := ⟨k - 1, by omega⟩
    rw [sweep_masks_v1.l1, if_neg (by omega)]
    congr 1
    exact row_congr fun x' hx' => by rw [if_neg (by omega)]
  | n + 1, x, k, g, hn, h1, hk => by
    obtain ⟨k, rfl⟩ : ∃ m, k = m + 1 := ⟨k - 1, by omega⟩
    have hx : x < w := by omega
    have hpos := List.length_pos_iff.2 hN
    rw [sweep_masks_v1.l1, if_pos (by omega), if_pos (by omega), show wr64 ((r : Int) * 8) = ((r * 8 : Nat) : Int) by rw [w64 (by omega) (by omega)]; omega]
    refine bind_of (fill_l2 hx hw hr hy (hq x hx) 8 (r * 8) k g (by omega) (by omega) (by omega) (by omega)) ?_
    rw [wnat (by omega), fill_l1 hN hw hr hy hq n (x + 1) k _ (by omega) (by omega) (by omega)]
    congr 1
    refine row_congr fun x' _ => ?_
    by_cases e : x' = x
    · subst e
      rw [if_neg (by omega), if_pos rfl, if_pos (by omega)]
    · by_cases e2 : x ≤ x'
      · rw [if_pos (by omega), if_neg e, if_pos e2]
      · rw [if_neg (by omega), if_neg e, if_neg e2]
theorem fill_l0 {L : List Ed} {y wide rule : Int} {w : Nat} {P : Nat → Nat → Bool} (hL : L.length ≤ 1000000) (hin : ∀ e ∈ L, In4 1000000 e) (w0 : 0 ≤ wide) (w1 : wide ≤ 1000000) (hw : w ≤ 1000) (hy : -100000 ≤ y ∧ y ≤ 100000)
    (hq : ∀ r < 8, ∀ x < w, ∀ i, r * 8 ≤ i → i < r * 8 + 8 → ∀ k, L.length < k → sweep_Fill_1_v1.f k (L.filter (cr wide (sy y (r * 8)))) (sx x i) (sy y i) rule = some (P x i)) (hnil : ∀ (k : Nat) (px py : Int), 0 < k → sweep_Fill_1_v1.f k [] px py rule = some false) :
    ∀ (n r k : Nat), 8 - r = n → r ≤ 8 → n + w + 11 + L.length < k → sweep_masks_v1.l0 k L wide y w rule r (row w fun x => mf (P x) 0 (r * 8) 0) = some (row w fun x => mf (P x) 0 64 0)
  | 0, r, k, hn, hr, hk => by
    obtain ⟨k, rfl⟩ : ∃ m, k = m + 1 := ⟨k - 1, by omega⟩
    have : r = 8 := by omega
    subst this
    rw [sweep_masks_v1.l0, if_neg (by omega)]
  | n + 1, r, k, hn, hr, hk => by
    obtain ⟨k, rfl⟩ : ∃ m, k = m + 1 := ⟨k - 1, by omega⟩
    rw [sweep_masks_v1.l0, if_pos (by omega), show wr64 ((r : Int) * 8) = ((r * 8 : Nat) : Int) by rw [w64 (by omega) (by omega)]; omega]
    have key : sweep_masks_v1.l1 k y w rule r (L.filter (cr wide (sy y (r * 8)))) 0 (row w fun x => mf (P x) 0 (r * 8) 0) = some (row w fun x => mf (P x) 0 ((r + 1) * 8) 0) := by
      have e8 : (r + 1) * 8 = r * 8 + 8 := by omega
      by_cases hN : L.filter (cr wide (sy y (r * 8))) = []
      · have hfalse : ∀ x < w, ∀ i, r * 8 ≤ i → i < r * 8 + 8 → P x i = false := by
          intro x hx i h1 h2
          have a := hq r (by omega) x hx i h1 h2 (L.length + 1) (by omega)
          rw [hN, hnil _ _ _ (by omega)] at a
          exact (Option.some.inj a).symm
        obtain ⟨k, rfl⟩ : ∃ m, k = m + 1 := ⟨k - 1, by omega⟩
        have same : (row w fun x => mf (P x) 0 (r * 8) 0) = row w fun x => mf (P x) 0 ((r + 1) * 8) 0 := by
          refine row_congr fun x hx => ?_
          rw [e8, mf_add, Nat.zero_add, mf_no (hfalse x hx)]
        rw [hN, sweep_masks_v1.l1, same]
        split <;> rfl
      · have hlen : (L.filter (cr wide (sy y (r * 8)))).length ≤ L.length := List.length_filter_le _ _
        have := fill_l1 (b := L.length) hN hw (by omega) hy (fun x hx i h1 h2 k hk => hq r (by omega) x hx i h1 h2 k hk) w 0 k (fun x => mf (P x) 0 (r * 8) 0) (by omega) (by omega) (by omega)
        rw [show ((0 : Nat) : Int) = 0 from rfl] at this
        rw [this]
        congr 1
        refine row_congr fun x _ => ?_
        rw [if_pos (by omega), e8, mf_add, Nat.zero_add]
    refine bind_of (bind_of (sample_f (by omega) hy (by omega)) (bind_of (cross_list hL hin w0 w1 k (by omega)) key)) ?_
    rw [wnat (by omega)]
    exact fill_l0 hL hin w0 w1 hw hy hq hnil n (r + 1) k (by omega) (by omega) (by omega)
theorem fill_masks {L : List Ed} {y wide rule : Int} {w : Nat} {P : Nat → Nat → Bool} (hL : L.length ≤ 1000000) (hin : ∀ e ∈ L, In4 1000000 e) (w0 : 0 ≤ wide) (w1 : wide ≤ 1000000) (hw : w ≤ 1000) (hy : -100000 ≤ y ∧ y ≤ 100000)
    (hq : ∀ r < 8, ∀ x < w, ∀ i, r * 8 ≤ i → i < r * 8 + 8 → ∀ k, L.length < k → sweep_Fill_1_v1.f k (L.filter (cr wide (sy y (r * 8)))) (sx x i) (sy y i) rule = some (P x i)) (hnil : ∀ (k : Nat) (px py : Int), 0 < k → sweep_Fill_1_v1.f k [] px py rule = some false) (k : Nat) (hk : w + 20 + L.length < k) :
    sweep_masks_v1.f k L wide y w rule = some (row w fun x => mf (P x) 0 64 0) := by
  unfold sweep_masks_v1.f
  by_cases h : (w : Int) < 1
  · rw [if_pos h]
    have : w = 0 := by omega
    subst this
    rfl
  · rw [if_neg h]
    refine bind_of (x := row w fun x => mf (P x) 0 (0 * 8) 0) ?_ (bind_of (fill_l0 hL hin w0 w1 hw hy hq hnil 8 0 k (by omega) (by omega) (by omega)) rfl)
    unfold lmk
    rw [if_pos ⟨by omega, by omega, by omega⟩, Int.toNat_natCast]
    congr 1
    apply List.ext_getElem
    · simp [row]
    · intro i h1 h2
      simp [row, mf]
theorem line_l2 {N : List Ed} {y rule : Int} {r x w : Nat} {p : Nat → Bool} {b : Nat} (hx : x < w) (hw : w ≤ 1000) (hr : r < 8) (hy : -100000 ≤ y ∧ y ≤ 100000) (hq : ∀ i, r * 8 ≤ i → i < r * 8 + 8 → ∀ k, b < k → sweep_Line_1_v1.f k N (sx x i) (sy y i) rule = some (p i)) :
    ∀ (n i k : Nat) (g : Nat → Int), r * 8 + 8 - i = n → r * 8 ≤ i → i ≤ r * 8 + 8 → n + b + 1 < k → sweep_masks_v2.l2 k y rule r N x i (row w g) = some (row w (fun x' => if x' = x then mf p i n (g x) else g x'))
  | 0, i, k, g, hn, h1, h2, hk => by
    obtain ⟨k, rfl⟩ : ∃ m, k = m + 1 := ⟨k - 1, by omega⟩
    rw [sweep_masks_v2.l2, w64 (n := (r : Int) + 1) (by omega) (by omega), w64 (n := ((r : Int) + 1) * 8) (by omega) (by omega), if_neg (by omega)]
    congr 1
    refine row_congr fun x' _ => ?_
    split
    · rename_i e; subst e; rfl
    · rfl
  | n + 1, i, k, g, hn, h1, h2, hk => by
    obtain ⟨k, rfl⟩ : ∃ m, k = m + 1 := ⟨k - 1, by omega⟩
    rw [sweep_masks_v2.l2, w64 (n := (r : Int) + 1) (by omega) (by omega), w64 (n := ((r : Int) + 1) * 8) (by omega) (by omega), if_pos (by omega)]
    refine bind_of (sample_f (by omega) hy (by omega)) (bind_of (hq i h1 (by omega) k (by omega)) ?_)
    rw [wnat (by omega)]
    cases hp : p i with
    | true =>
      rw [if_pos rfl]
      refine bind_of (row_get g hx) ?_
      rw [if_neg (by omega), Int.toNat_natCast]
      refine bind_of (row_get g hx) (bind_of (row_put g _ hx) ?_)
      rw [line_l2 hx hw hr hy hq n (i + 1) k _ (by omega) (by omega) (by omega) (by omega)]
      congr 1
      refine row_congr fun x' _ => ?_
      by_cases e : x' = x
      · rw [if_pos e, if_pos e, if_pos rfl, mf, mst, hp, if_pos rfl]
      · rw [if_neg e, if_neg e, if_neg e]
    | false =>
      rw [if_neg (by decide), line_l2 hx hw hr hy hq n (i + 1) k g (by omega) (by omega) (by omega) (by omega)]
      congr 1
      refine row_congr fun x' _ => ?_
      by_cases e : x' = x
      · rw [if_pos e, if_pos e, mf, mst, hp, if_neg (by decide)]
      · rw [if_neg e, if_neg e]
theorem line_l1 {N : List Ed} {y rule : Int} {r w : Nat} {P : Nat → Nat → Bool} {b : Nat} (hN : N ≠ []) (hw : w ≤ 1000) (hr : r < 8) (hy : -100000 ≤ y ∧ y ≤ 100000) (hq : ∀ x < w, ∀ i, r * 8 ≤ i → i < r * 8 + 8 → ∀ k, b < k → sweep_Line_1_v1.f k N (sx x i) (sy y i) rule = some (P x i)) :
    ∀ (n x k : Nat) (g : Nat → Int), w - x = n → x ≤ w → n + 10 + b < k → sweep_masks_v2.l1 k y w rule r N x (row w g) = some (row w fun x' => if x ≤ x' then mf (P x') (r * 8) 8 (g x') else g x')
  | 0, x, k, g, hn, h1, hk => by
    obtain ⟨k, rfl⟩ : ∃ m, k = m + 1 := ⟨k - 1, by omega⟩
    rw [sweep_masks_v2.l1, if_neg (by omega)]
    congr 1
    exact row_congr fun x' hx' => by rw [if_neg (by omega)]
  | n + 1, x, k, g, hn, h1, hk => by
    obtain ⟨k, rfl⟩ : ∃ m, k = m + 1 := ⟨k - 1, by omega⟩
    have hx : x < w := by omega
    have hpos := List.length_pos_iff.2 hN
    rw [sweep_masks_v2.l1, if_pos (by omega), if_pos (by omega), show wr64 ((r : Int) * 8) = ((r * 8 : Nat) : Int) by rw [w64 (by omega) (by omega)]; omega]
    refine bind_of (line_l2 hx hw hr hy (hq x hx) 8 (r * 8) k g (by omega) (by omega) (by omega) (by omega)) ?_
    rw [wnat (by omega), line_l1 hN hw hr hy hq n (x + 1) k _ (by omega) (by omega) (by omega)]
    congr 1
    refine row_congr fun x' _ => ?_
    by_cases e : x' = x
    · subst e
      rw [if_neg (by omega), if_pos rfl, if_pos (by omega)]
    · by_cases e2 : x ≤ x'
      · rw [if_pos (by omega), if_neg e, if_pos e2]
      · rw [if_neg (by omega), if_neg e, if_neg e2]
theorem line_l0 {L : List Ed} {y wide rule : Int} {w : Nat} {P : Nat → Nat → Bool} (hL : L.length ≤ 1000000) (hin : ∀ e ∈ L, In4 1000000 e) (w0 : 0 ≤ wide) (w1 : wide ≤ 1000000) (hw : w ≤ 1000) (hy : -100000 ≤ y ∧ y ≤ 100000)
    (hq : ∀ r < 8, ∀ x < w, ∀ i, r * 8 ≤ i → i < r * 8 + 8 → ∀ k, L.length < k → sweep_Line_1_v1.f k (L.filter (cr wide (sy y (r * 8)))) (sx x i) (sy y i) rule = some (P x i)) (hnil : ∀ (k : Nat) (px py : Int), 0 < k → sweep_Line_1_v1.f k [] px py rule = some false) :
    ∀ (n r k : Nat), 8 - r = n → r ≤ 8 → n + w + 11 + L.length < k → sweep_masks_v2.l0 k L wide y w rule r (row w fun x => mf (P x) 0 (r * 8) 0) = some (row w fun x => mf (P x) 0 64 0)
  | 0, r, k, hn, hr, hk => by
    obtain ⟨k, rfl⟩ : ∃ m, k = m + 1 := ⟨k - 1, by omega⟩
    have : r = 8 := by omega
    subst this
    rw [sweep_masks_v2.l0, if_neg (by omega)]
  | n + 1, r, k, hn, hr, hk => by
    obtain ⟨k, rfl⟩ : ∃ m, k = m + 1 := ⟨k - 1, by omega⟩
    rw [sweep_masks_v2.l0, if_pos (by omega), show wr64 ((r : Int) * 8) = ((r * 8 : Nat) : Int) by rw [w64 (by omega) (by omega)]; omega]
    have key : sweep_masks_v2.l1 k y w rule r (L.filter (cr wide (sy y (r * 8)))) 0 (row w fun x => mf (P x) 0 (r * 8) 0) = some (row w fun x => mf (P x) 0 ((r + 1) * 8) 0) := by
      have e8 : (r + 1) * 8 = r * 8 + 8 := by omega
      by_cases hN : L.filter (cr wide (sy y (r * 8))) = []
      · have hfalse : ∀ x < w, ∀ i, r * 8 ≤ i → i < r * 8 + 8 → P x i = false := by
          intro x hx i h1 h2
          have a := hq r (by omega) x hx i h1 h2 (L.length + 1) (by omega)
          rw [hN, hnil _ _ _ (by omega)] at a
          exact (Option.some.inj a).symm
        obtain ⟨k, rfl⟩ : ∃ m, k = m + 1 := ⟨k - 1, by omega⟩
        have same : (row w fun x => mf (P x) 0 (r * 8) 0) = row w fun x => mf (P x) 0 ((r + 1) * 8) 0 := by
          refine row_congr fun x hx => ?_
          rw [e8, mf_add, Nat.zero_add, mf_no (hfalse x hx)]
        rw [hN, sweep_masks_v2.l1, same]
        split <;> rfl
      · have hlen : (L.filter (cr wide (sy y (r * 8)))).length ≤ L.length := List.length_filter_le _ _
        have := line_l1 (b := L.length) hN hw (by omega) hy (fun x hx i h1 h2 k hk => hq r (by omega) x hx i h1 h2 k hk) w 0 k (fun x => mf (P x) 0 (r * 8) 0) (by omega) (by omega) (by omega)
        rw [show ((0 : Nat) : Int) = 0 from rfl] at this
        rw [this]
        congr 1
        refine row_congr fun x _ => ?_
        rw [if_pos (by omega), e8, mf_add, Nat.zero_add]
    refine bind_of (bind_of (sample_f (by omega) hy (by omega)) (bind_of (cross_list hL hin w0 w1 k (by omega)) key)) ?_
    rw [wnat (by omega)]
    exact line_l0 hL hin w0 w1 hw hy hq hnil n (r + 1) k (by omega) (by omega) (by omega)
theorem line_masks {L : List Ed} {y wide rule : Int} {w : Nat} {P : Nat → Nat → Bool} (hL : L.length ≤ 1000000) (hin : ∀ e ∈ L, In4 1000000 e) (w0 : 0 ≤ wide) (w1 : wide ≤ 1000000) (hw : w ≤ 1000) (hy : -100000 ≤ y ∧ y ≤ 100000)
    (hq : ∀ r < 8, ∀ x < w, ∀ i, r * 8 ≤ i → i < r * 8 + 8 → ∀ k, L.length < k → sweep_Line_1_v1.f k (L.filter (cr wide (sy y (r * 8)))) (sx x i) (sy y i) rule = some (P x i)) (hnil : ∀ (k : Nat) (px py : Int), 0 < k → sweep_Line_1_v1.f k [] px py rule = some false) (k : Nat) (hk : w + 20 + L.length < k) :
    sweep_masks_v2.f k L wide y w rule = some (row w fun x => mf (P x) 0 64 0) := by
  unfold sweep_masks_v2.f
  by_cases h : (w : Int) < 1
  · rw [if_pos h]
    have : w = 0 := by omega
    subst this
    rfl
  · rw [if_neg h]
    refine bind_of (x := row w fun x => mf (P x) 0 (0 * 8) 0) ?_ (bind_of (line_l0 hL hin w0 w1 hw hy hq hnil 8 0 k (by omega) (by omega) (by omega)) rfl)
    unfold lmk
    rw [if_pos ⟨by omega, by omega, by omega⟩, Int.toNat_natCast]
    congr 1
    apply List.ext_getElem
    · simp [row]
    · intro i h1 h2
      simp [row, mf]
theorem gd_of {e : Ed} {px py : Int} (h : In4 1000000 e) (hx : -1000000 ≤ px ∧ px ≤ 1000000) (hy : -1000000 ≤ py ∧ py ≤ 1000000) : Gd e px py := by
  obtain ⟨a1, b1, c1, d1⟩ := h
  unfold Gd Nr
  omega
theorem sx_in {x : Nat} (hx : x ≤ 1000) (i : Nat) : -1000000 ≤ sx x i ∧ sx x i ≤ 1000000 := by unfold sx; omega
theorem sy_in {y : Int} (hy : -1000 ≤ y ∧ y ≤ 1000) {i : Nat} (hi : i < 64) : -1000000 ≤ sy y i ∧ sy y i ≤ 1000000 := by unfold sy; omega
def PF (L : List Ed) (rule y : Int) (x i : Nat) : Bool := ins rule (num L (sx x i) (sy y i))
def PL (L : List Ed) (wide y : Int) (x i : Nat) : Bool := L.any fun e => nE e (sx x i) (sy y i) wide
theorem fill_f {L : List Ed} {y rule : Int} {w : Nat} (hL : L.length ≤ 1000000) (hin : ∀ e ∈ L, In4 1000000 e) (hw : w ≤ 1000) (hy : -1000 ≤ y ∧ y ≤ 1000) (k : Nat) (hk : w + 20 + L.length < k) : sweep_Fill_v1.f k L rule y w = some (row w fun x => mf (PF L rule y x) 0 64 0) := by
  unfold sweep_Fill_v1.f
  refine bind_of (fill_masks (P := PF L rule y) hL hin (by omega) (by omega) hw (by omega) ?_ ?_ k hk) rfl
  · intro r hr x hx i h1 h2 k hk
    have hlen : (L.filter (cr 0 (sy y (r * 8)))).length ≤ L.length := List.length_filter_le _ _
    rw [inside_all rule (by omega) (fun e he => gd_of (hin e (List.mem_filter.1 he).1) (sx_in (by omega) i) (sy_in hy (by omega))) k (by omega)]
    unfold PF
    rw [← sy_row y h1 h2, num_filter fun e _ he => one_cr he]
  · intro k px py hk
    have := inside_all (L := []) (px := px) (py := py) rule (by simp) (by simp) k (by simpa using hk)
    rw [this]
    unfold ins num
    split <;> rfl
theorem line_f {L : List Ed} {y wide : Int} {w : Nat} (hL : L.length ≤ 1000000) (hin : ∀ e ∈ L, In4 1000000 e) (w0 : 0 ≤ wide) (w1 : wide ≤ 1000000) (hw : w ≤ 1000) (hy : -1000 ≤ y ∧ y ≤ 1000) (k : Nat) (hk : w + 20 + L.length < k) : sweep_Line_v1.f k L wide y w = some (row w fun x => mf (PL L wide y x) 0 64 0) := by
  unfold sweep_Line_v1.f
  refine bind_of (line_masks (P := PL L wide y) hL hin w0 w1 hw (by omega) ?_ ?_ k hk) rfl
  · intro r hr x hx i h1 h2 k hk
    have hlen : (L.filter (cr wide (sy y (r * 8)))).length ≤ L.length := List.length_filter_le _ _
    unfold sweep_Line_1_v1.f
    refine bind_of (near_all (by omega) (fun e he => gd_of (hin e (List.mem_filter.1 he).1) (sx_in (by omega) i) (sy_in hy (by omega))) w0 (by omega) k (by omega)) ?_
    unfold PL
    rw [← sy_row y h1 h2, any_filter fun e _ he => near_cr w0 he]
  · intro k px py hk
    unfold sweep_Line_1_v1.f
    exact bind_of (near_all (L := []) (by simp) (by simp) w0 (by omega) k (by simpa using hk)) rfl
theorem rnd_0 {b : Int} (hb : 0 < b) : rnd 0 b = 0 := rnd_is hb (by omega) (by omega)
theorem rnd_self {x b : Int} (hb : 0 < b) : rnd (x * b) b = x := rnd_is hb (by omega) (by omega)
theorem rnd_part {x b m : Int} (hb : 0 < b) (h0 : 0 ≤ x) (h1 : x ≤ m * b) : 0 ≤ rnd x b ∧ rnd x b ≤ m := by
  have a := rnd_mono hb h0
  have c := rnd_mono hb h1
  rw [rnd_0 hb] at a
  rw [rnd_self hb] at c
  exact ⟨a, c⟩
/-- A part of a color: from none to all. -/
def P16 (x : Int) : Prop := 0 ≤ x ∧ x ≤ 65535
theorem mul16 {x y : Int} (hx : P16 x) (hy : P16 y) : 0 ≤ x * y ∧ x * y ≤ 65535 * 65535 :=
  ⟨Int.mul_nonneg hx.1 hy.1, Int.mul_le_mul hx.2 hy.2 hy.1 (by omega)⟩
theorem round16 {x y : Int} (hx : P16 x) (hy : P16 y) : fixed_Round.f (wr64 (x * y)) 65535 = some (rnd (x * y) 65535) ∧ P16 (rnd (x * y) 65535) := by
  have h := mul16 hx hy
  rw [w64 (by omega) (by omega), round_f (by omega) (by omega) (by omega) (by omega)]
  exact ⟨rfl, rnd_part (by omega) h.1 h.2⟩
/-- How much it covers. -/
def cov (v c : Int) : Int := rnd (v * c) 64
theorem cov_f {v c : Int} (hv : P16 v) (c0 : 0 ≤ c) (c1 : c ≤ 64) : fixed_Round.f (wr64 (v * c)) 64 = some (cov v c) ∧ P16 (cov v c) := by
  have h1 : v * c ≤ 65535 * 64 := Int.mul_le_mul hv.2 c1 c0 (by omega)
  have h0 : 0 ≤ v * c := Int.mul_nonneg hv.1 c0
  rw [w64 (by omega) (by omega), round_f (by omega) (by omega) (by omega) (by omega)]
  exact ⟨rfl, rnd_part (by omega) h0 h1⟩
/-- One part over another one. -/
def ch (u v a : Int) : Int := mn (rnd (v * a) 65535 + rnd (u * (65535 - a)) 65535) 65535
theorem ch_bd {u v a : Int} (hu : P16 u) (hv : P16 v) (ha : P16 a) : P16 (ch u v a) := by
  have h1 := (round16 hv ha).2
  have h2 := (round16 (y := 65535 - a) hu ⟨by have := ha.2; omega, by have := ha.1; omega⟩).2
  unfold P16 ch mn at *
  split <;> omega
theorem rnd_all (a : Int) : rnd (65535 * a) 65535 = a := by
  rw [Int.mul_comm]
  exact rnd_self (by omega)
theorem over_f {u0 u1 u2 u3 v0 v1 v2 v3 c : Int} (hu0 : P16 u0) (hu1 : P16 u1) (hu2 : P16 u2) (hu3 : P16 u3) (hv0 : P16 v0) (hv1 : P16 v1) (hv2 : P16 v2) (hv3 : P16 v3) (c0 : 0 ≤ c) (c1 : c ≤ 64) :
    blend_Over.f u0 u1 u2 u3 v0 v1 v2 v3 c = some (ch u0 v0 (cov v3 c), ch u1 v1 (cov v3 c), ch u2 v2 (cov v3 c), ch u3 65535 (cov v3 c)) := by
  obtain ⟨A, hA⟩ := cov_f hv3 c0 c1
  unfold blend_Over.f
  refine bind_of A ?_
  have hB : P16 (65535 - cov v3 c) := ⟨by have := hA.2; omega, by have := hA.1; omega⟩
  have h65 : P16 65535 := ⟨by omega, by omega⟩
  have eB : wr64 (65535 - cov v3 c) = 65535 - cov v3 c := w64 (by have := hB.1; omega) (by have := hB.2; omega)
  rw [eB]
  have s : ∀ {u v : Int}, P16 u → P16 v → wr64 (rnd (v * cov v3 c) 65535 + rnd (u * (65535 - cov v3 c)) 65535) = rnd (v * cov v3 c) 65535 + rnd (u * (65535 - cov v3 c)) 65535 := by
    intro u v hu hv
    have h1 := (round16 hv hA).2
    have h2 := (round16 hu hB).2
    unfold P16 at h1 h2
    exact w64 (by omega) (by omega)
  refine bind_of (round16 hv0 hA).1 (bind_of (round16 hu0 hB).1 (bind_of (round16 hv1 hA).1 (bind_of (round16 hu1 hB).1 (bind_of (round16 hv2 hA).1 (bind_of (round16 hu2 hB).1 (bind_of (round16 h65 hA).1 (bind_of (round16 hu3 hB).1 ?_)))))))
  rw [s hu0 hv0, s hu1 hv1, s hu2 hv2, s hu3 h65]
  rfl
/-- A part as a byte. -/
def fin (x a : Int) : Int := mn (rnd (x * 255) a) 255 % 256
theorem final_f {v0 v1 v2 v3 : Int} (h0 : P16 v0) (h1 : P16 v1) (h2 : P16 v2) (h3 : P16 v3) :
    blend_Final.f v0 v1 v2 v3 = some (if v3 = 0 then (0, 0, 0, 0) else (fin v0 v3, fin v1 v3, fin v2 v3, rnd v3 257 % 256)) := by
  unfold blend_Final.f
  unfold P16 at *
  have r3 : fixed_Round.f v3 257 = some (rnd v3 257) := round_f (by omega) (by omega) (by omega) (by omega)
  rw [w64 (n := v0 * 255) (by omega) (by omega), w64 (n := v1 * 255) (by omega) (by omega), w64 (n := v2 * 255) (by omega) (by omega)]
  by_cases hz : v3 = 0
  · rw [if_pos hz]
    have z : ∀ x : Int, fixed_Round.f x v3 = some 0 := fun x => by unfold fixed_Round.f; rw [if_pos (by omega)]
    refine bind_of r3 (bind_of (z _) (bind_of (z _) (bind_of (z _) ?_)))
    subst hz
    decide +kernel
  · rw [if_neg hz]
    refine bind_of r3 (bind_of (round_f (by omega) (by omega) (by omega) (by omega)) (bind_of (round_f (by omega) (by omega) (by omega) (by omega)) (bind_of (round_f (by omega) (by omega) (by omega) (by omega)) ?_)))
    rfl
def mixv (a b t : Int) : Int := rnd (257 * a * (65536 - t) + 257 * b * t) 65536
theorem mix_lo {a b l t : Int} (t0 : 0 ≤ t) (t1 : t ≤ 65536) (h1 : l ≤ a) (h2 : l ≤ b) : 257 * l ≤ mixv a b t := by
  have e1 := Int.mul_le_mul_of_nonneg_right (show 257 * l ≤ 257 * a by omega) (show 0 ≤ 65536 - t by omega)
  have e2 := Int.mul_le_mul_of_nonneg_right (show 257 * l ≤ 257 * b by omega) t0
  have e3 : 257 * l * (65536 - t) + 257 * l * t = 257 * l * 65536 := by grind
  have h : rnd (257 * l * 65536) 65536 = 257 * l := rnd_is (by omega) (by omega) (by omega)
  have m : rnd (257 * l * 65536) 65536 ≤ mixv a b t := rnd_mono (by omega) (by omega)
  omega
theorem mix_hi {a b l t : Int} (t0 : 0 ≤ t) (t1 : t ≤ 65536) (h1 : a ≤ l) (h2 : b ≤ l) : mixv a b t ≤ 257 * l := by
  have e1 := Int.mul_le_mul_of_nonneg_right (show 257 * a ≤ 257 * l by omega) (show 0 ≤ 65536 - t by omega)
  have e2 := Int.mul_le_mul_of_nonneg_right (show 257 * b ≤ 257 * l by omega) t0
  have e3 : 257 * l * (65536 - t) + 257 * l * t = 257 * l * 65536 := by grind
  have h : rnd (257 * l * 65536) 65536 = 257 * l := rnd_is (by omega) (by omega) (by omega)
  have m : mixv a b t ≤ rnd (257 * l * 65536) 65536 := rnd_mono (by omega) (by omega)
  omega
theorem mix_same {a t : Int} : mixv a a t = 257 * a := by
  have e3 : 257 * a * (65536 - t) + 257 * a * t = 257 * a * 65536 := by grind
  unfold mixv
  rw [e3]
  exact rnd_is (by omega) (by omega) (by omega)
theorem mix_0 {a b : Int} : mixv a b 0 = 257 * a := by
  unfold mixv
  exact rnd_is (by omega) (by omega) (by omega)
theorem mix_1 {a b : Int} : mixv a b 65536 = 257 * b := by
  unfold mixv
  exact rnd_is (by omega) (by omega) (by omega)
theorem mix_turn {a b t : Int} : mixv b a (65536 - t) = mixv a b t := by
  unfold mixv
  rw [show 257 * b * (65536 - (65536 - t)) + 257 * a * (65536 - t) = 257 * a * (65536 - t) + 257 * b * t by grind]
theorem mix_f {a0 a1 a2 a3 b0 b1 b2 b3 t : Int} (t0 : 0 ≤ t) (t1 : t ≤ 65536) (h1 : 0 ≤ a0 ∧ a0 ≤ 255) (h2 : 0 ≤ a1 ∧ a1 ≤ 255) (h3 : 0 ≤ a2 ∧ a2 ≤ 255) (h4 : 0 ≤ a3 ∧ a3 ≤ 255) (h5 : 0 ≤ b0 ∧ b0 ≤ 255) (h6 : 0 ≤ b1 ∧ b1 ≤ 255) (h7 : 0 ≤ b2 ∧ b2 ≤ 255) (h8 : 0 ≤ b3 ∧ b3 ≤ 255) :
    paint_Mix.f a0 a1 a2 a3 b0 b1 b2 b3 t = some (mixv a0 b0 t, mixv a1 b1 t, mixv a2 b2 t, mixv a3 b3 t) := by
  have wide : ∀ {x y z v : Int}, 0 ≤ x ∧ x ≤ 255 → 0 ≤ y ∧ y ≤ 255 → 0 ≤ z ∧ z ≤ 255 → 0 ≤ v ∧ v ≤ 255 → color_Wide.f x y z v = some (257 * x, 257 * y, 257 * z, 257 * v) := by
    intro x y z v g1 g2 g3 g4
    unfold color_Wide.f
    rw [w64 (n := x) (by omega) (by omega), w64 (n := y) (by omega) (by omega), w64 (n := z) (by omega) (by omega), w64 (n := v) (by omega) (by omega), w64 (n := 257 * x) (by omega) (by omega), w64 (n := 257 * y) (by omega) (by omega), w64 (n := 257 * z) (by omega) (by omega), w64 (n := 257 * v) (by omega) (by omega)]
  have one : ∀ {x y : Int}, 0 ≤ x ∧ x ≤ 255 → 0 ≤ y ∧ y ≤ 255 → fixed_Round.f (wr64 (wr64 (257 * x * wr64 (65536 - t)) + wr64 (257 * y * t))) 65536 = some (mixv x y t) := by
    intro x y g1 g2
    have p1 := mul_bd (M := 65535) (N := 65536) (x := 257 * x) (y := 65536 - t) (by omega) (by omega) (by omega) (by omega)
    have p2 := mul_bd (M := 65535) (N := 65536) (x := 257 * y) (y := t) (by omega) (by omega) (by omega) (by omega)
    rw [w64 (n := 65536 - t) (by omega) (by omega), w64 (n := 257 * x * (65536 - t)) (by omega) (by omega), w64 (n := 257 * y * t) (by omega) (by omega), w64 (n := 257 * x * (65536 - t) + 257 * y * t) (by omega) (by omega)]
    exact round_f (by omega) (by omega) (by omega) (by omega)
  unfold paint_Mix.f
  refine bind_of (wide h1 h2 h3 h4) (bind_of (wide h5 h6 h7 h8) ?_)
  dsimp only
  exact bind_of (one h1 h5) (bind_of (one h2 h6) (bind_of (one h3 h7) (bind_of (one h4 h8) rfl)))
theorem sq_le {a b : Int} (h0 : 0 ≤ a) (h : a ≤ b) : a * a ≤ b * b := Int.mul_le_mul h h h0 (by omega)
theorem root_one {n r s : Int} (r0 : 0 ≤ r) (s0 : 0 ≤ s) (r1 : r * r ≤ n) (r2 : n < (r + 1) * (r + 1)) (s1 : s * s ≤ n) (s2 : n < (s + 1) * (s + 1)) : r = s := by
  by_cases h : r < s
  · have := sq_le (a := r + 1) (b := s) (by omega) (by omega)
    omega
  · by_cases h' : s < r
    · have := sq_le (a := s + 1) (b := r) (by omega) (by omega)
      omega
    · omega
theorem mid_le {m n : Int} (hm : 1 ≤ m) (hn : 0 ≤ n) : m ≤ Int.tdiv n m ↔ m * m ≤ n := by
  rw [Int.tdiv_eq_ediv, if_pos (Or.inl hn), Int.add_zero]
  exact Int.le_ediv_iff_mul_le (by omega)
theorem sqrt_l (d : Nat) : ∀ (k : Nat) (n lo hi : Int), d < k → hi - lo = 2 ^ d → 0 ≤ n → n ≤ 9223372036854775807 → 0 ≤ lo → hi ≤ 4294967296 → lo * lo ≤ n → n < hi * hi →
    ∃ r, fixed_Sqrt.l0 k n lo hi = some r ∧ 0 ≤ r ∧ r * r ≤ n ∧ n < (r + 1) * (r + 1) := by
  induction d with
  | zero =>
    intro k n lo hi hk e n0 n1 h0 h1 h2 h3
    obtain ⟨k, rfl⟩ : ∃ m, k = m + 1 := ⟨k - 1, by omega⟩
    have e1 : hi = lo + 1 := by have : hi - lo = 1 := e; omega
    subst e1
    refine ⟨lo, ?_, h0, h2, h3⟩
    rw [fixed_Sqrt.l0, w64 (n := lo + 1 - lo) (by omega) (by omega), if_neg (by omega)]
  | succ d ih =>
    intro k n lo hi hk e n0 n1 h0 h1 h2 h3
    obtain ⟨k, rfl⟩ : ∃ m, k = m + 1 := ⟨k - 1, by omega⟩
    have hp : (0 : Int) < 2 ^ d := Int.pow_pos (by omega)
    have e2 : hi - lo = 2 * 2 ^ d := by rw [e, Int.pow_succ]; omega
    generalize (2 : Int) ^ d = q at *
    have eh : hi = lo + 2 * q := by omega
    subst eh
    have em : wr64 (lo + wr64 (Int.tdiv (wr64 (lo + 2 * q - lo)) 2)) = lo + q := by
      rw [w64 (n := lo + 2 * q - lo) (by omega) (by omega), Int.tdiv_eq_ediv, if_pos (Or.inl (by omega)), w64 (n := (lo + 2 * q - lo) / 2 + 0) (by omega) (by omega), w64 (by omega) (by omega)]
      omega
    have hdb := mid_le (m := lo + q) (n := n) (by omega) n0
    have hq : wr64 (Int.tdiv n (lo + q)) = Int.tdiv n (lo + q) := by
      rw [Int.tdiv_eq_ediv, if_pos (Or.inl n0)]
      have := div_bd n (b := lo + q) (by omega)
      exact w64 (by omega) (by omega)
    rw [fixed_Sqrt.l0, em, hq, w64 (n := lo + 2 * q - lo) (by omega) (by omega), if_pos (by omega), if_neg (by omega)]
    by_cases hc : lo + q ≤ Int.tdiv n (lo + q)
    · rw [if_pos hc]
      exact ih k n (lo + q) (lo + 2 * q) (by omega) (by omega) n0 n1 (by omega) h1 (hdb.1 hc) h3
    · rw [if_neg hc]
      exact ih k n lo (lo + q) (by omega) (by omega) n0 n1 h0 (by omega) h2 (by
        by_cases hh : n < (lo + q) * (lo + q)
        · exact hh
        · exact absurd (hdb.2 (by omega)) hc)
theorem sqrt_f {n : Int} (n0 : 0 ≤ n) (n1 : n ≤ 9223372036854775807) (k : Nat) (hk : 32 < k) : ∃ r, fixed_Sqrt.f k n = some r ∧ 0 ≤ r ∧ r * r ≤ n ∧ n < (r + 1) * (r + 1) := by
  unfold fixed_Sqrt.f
  by_cases h : n < 1
  · rw [if_pos h]
    exact ⟨0, rfl, by omega, by omega, by omega⟩
  · rw [if_neg h]
    obtain ⟨r, hr, h⟩ := sqrt_l 32 k n 0 4294967296 hk (by omega) n0 n1 (by omega) (by omega) (by omega) (by omega)
    exact ⟨r, bind_of hr rfl, h⟩
theorem sqrt_is {n s : Int} (s0 : 0 ≤ s) (s1 : s * s ≤ n) (s2 : n < (s + 1) * (s + 1)) (n1 : n ≤ 9223372036854775807) (k : Nat) (hk : 32 < k) : fixed_Sqrt.f k n = some s := by
  have n0 : 0 ≤ n := Int.le_trans (Int.mul_nonneg s0 s0) s1
  obtain ⟨r, hr, r0, r1, r2⟩ := sqrt_f n0 n1 k hk
  rw [hr, root_one r0 s0 r1 r2 s1 s2]
theorem sqrt_ex {n : Int} (n0 : 0 ≤ n) (n1 : n ≤ 9223372036854775807) : ∃ s : Int, 0 ≤ s ∧ s * s ≤ n ∧ n < (s + 1) * (s + 1) := by
  obtain ⟨r, _, h⟩ := sqrt_f n0 n1 40 (by omega)
  exact ⟨r, h⟩
/-- How far along, of all 65536. -/
def lin (px py qx qy x y : Int) : Int := if dt px py qx qy x y ≤ 0 then 0 else if ln px py qx qy ≤ 0 then 0 else if dt px py qx qy x y ≥ ln px py qx qy then 65536 else dt px py qx qy x y * 65536 / ln px py qx qy
theorem md_f {d l : Int} (h0 : 0 < d) (h1 : d < l) (h2 : l ≤ 144115188075855872) : ∃ q1, bits_Mul64.f (wru64 d) 65536 = some (d * 65536 / 18446744073709551616, d * 65536 % 18446744073709551616) ∧ bits_Div64.f (d * 65536 / 18446744073709551616) (d * 65536 % 18446744073709551616) (wru64 l) = some (d * 65536 / l, q1) ∧ wr64 (d * 65536 / l) = d * 65536 / l ∧ 0 ≤ d * 65536 / l ∧ d * 65536 / l ≤ 65536 := by
  rw [wu64 (n := d) (by omega) (by omega), wu64 (n := l) (by omega) (by omega)]
  have hd : d * 65536 / l < 65536 := Int.ediv_lt_of_lt_mul (by omega) (by omega)
  have hd0 : 0 ≤ d * 65536 / l := Int.ediv_nonneg (by omega) (by omega)
  refine ⟨d * 65536 % l, ?_, ?_, w64 (by omega) (by omega), hd0, by omega⟩
  · unfold bits_Mul64.f
    rw [if_pos ⟨by omega, by omega, by omega, by omega⟩]
  · unfold bits_Div64.f
    rw [if_pos ⟨by omega, by omega, by omega, by omega, by omega⟩, show d * 65536 / 18446744073709551616 * 18446744073709551616 + d * 65536 % 18446744073709551616 = d * 65536 by omega]
theorem and_mask (k : Nat) (hk : k ≤ 62) (n m : Int) (hm : m = 2 ^ k - 1) : Go.bits .and .i64 n m = n % 2 ^ k := by
  have hp : (2 : Int) ^ k ≤ 2 ^ 62 := by
    have : 2 ^ k ≤ 2 ^ 62 := Nat.pow_le_pow_right (by omega) hk
    have e : ((2 ^ k : Nat) : Int) = (2 : Int) ^ k := by simp
    omega
  have hp0 : (1 : Int) ≤ 2 ^ k := Int.pow_pos (by omega)
  have e : ((2 ^ k : Nat) : Int) = (2 : Int) ^ k := by simp
  have hb : (BitVec.ofInt 64 m).toNat = 2 ^ k - 1 := by
    rw [BitVec.toNat_ofInt, hm]
    omega
  have key : (BitVec.ofInt 64 n &&& BitVec.ofInt 64 m).toNat = (n % ((2 ^ 64 : Nat) : Int)).toNat % 2 ^ k := by
    rw [BitVec.toNat_and, BitVec.toNat_ofInt, hb, Nat.and_two_pow_sub_one_eq_mod]
  show IntKind.i64.wrap ((BitVec.ofInt 64 n &&& BitVec.ofInt 64 m).toNat : Nat) = n % 2 ^ k
  rw [key, IntKind.wrap_i64]
  have h1 : 0 ≤ n % 18446744073709551616 := by omega
  have h2 : (((n % ((2 ^ 64 : Nat) : Int)).toNat % 2 ^ k : Nat) : Int) = n % 18446744073709551616 % 2 ^ k := by
    rw [Int.natCast_emod, e, Int.toNat_of_nonneg (by omega)]
    rfl
  have h3 : n % 18446744073709551616 % 2 ^ k = n % 2 ^ k := by
    apply Int.emod_emod_of_dvd
    exact ⟨2 ^ (64 - k), by rw [← Int.pow_add, show k + (64 - k) = 64 by omega]; rfl⟩
  rw [h2, h3]
  have h4 := Int.emod_nonneg n (show (2 : Int) ^ k ≠ 0 by omega)
  have h5 := Int.emod_lt_of_pos n (show (0 : Int) < 2 ^ k by omega)
  omega
def rep (m : Nat) : Nat → Nat
  | 0 => 0
  | n + 1 => m + 256 * rep m n
def lift (F : Nat → Nat) : Nat → Nat → Nat
  | 0, _ => 0
  | n + 1, x => F (x % 256) + 256 * lift F n (x / 256)
theorem and_256 (a m : Nat) : a &&& m = (a % 256 &&& m % 256) + 256 * (a / 256 &&& m / 256) := by
  have h1 := Nat.and_mod_two_pow (a := a) (b := m) (n := 8)
  have h2 := Nat.and_div_two_pow (a := a) (b := m) (n := 8)
  have h3 := Nat.mod_add_div (a &&& m) 256
  rw [show (2 : Nat) ^ 8 = 256 from rfl] at h1 h2
  rw [h1, h2] at h3
  exact h3.symm
theorem st_and (n x m : Nat) (hm : m < 256) : x &&& rep m (n + 1) = (x % 256 &&& m) + 256 * (x / 256 &&& rep m n) := by
  rw [and_256, show rep m (n + 1) % 256 = m by rw [rep]; omega, show rep m (n + 1) / 256 = rep m n by rw [rep]; omega]
def g1 (y : Nat) : Nat := (y / 2 &&& 85) + (y &&& 85)
def g2 (y : Nat) : Nat := (y / 4 &&& 51) + (y &&& 51)
def c2 (y : Nat) : Nat := g2 (g1 y)
def g3 (y : Nat) : Nat := c2 y / 16 + c2 y % 16
theorem byte1 : ∀ r : Fin 256, ∀ c : Fin 2, (r.val / 2 + 128 * c.val) &&& 85 = r.val / 2 &&& 85 := by decide +kernel
theorem byte2 : ∀ r : Fin 256, ∀ c : Fin 4, (r.val / 4 + 64 * c.val) &&& 51 = r.val / 4 &&& 51 := by decide +kernel
theorem g1_lt : ∀ r : Fin 256, g1 r.val < 256 := by decide +kernel
theorem c2_le : ∀ r : Fin 256, c2 r.val % 16 ≤ 4 ∧ c2 r.val / 16 ≤ 4 := by decide +kernel
theorem stage1 : ∀ n x : Nat, (x / 2 &&& rep 85 n) + (x &&& rep 85 n) = lift g1 n x
  | 0, x => by simp [rep, lift]
  | n + 1, x => by
    have ih := stage1 n (x / 256)
    rw [st_and n (x / 2) 85 (by omega), st_and n x 85 (by omega), lift]
    have e1 : x / 2 % 256 = x % 256 / 2 + 128 * (x / 256 % 2) := by omega
    have e2 : x / 2 / 256 = x / 256 / 2 := by omega
    have b := byte1 ⟨x % 256, by omega⟩ ⟨x / 256 % 2, by omega⟩
    simp only at b
    rw [e1, e2, b, ← ih]
    unfold g1
    omega
theorem stage2 : ∀ n x : Nat, (x / 4 &&& rep 51 n) + (x &&& rep 51 n) = lift g2 n x
  | 0, x => by simp [rep, lift]
  | n + 1, x => by
    have ih := stage2 n (x / 256)
    rw [st_and n (x / 4) 51 (by omega), st_and n x 51 (by omega), lift]
    have e1 : x / 4 % 256 = x % 256 / 4 + 64 * (x / 256 % 4) := by omega
    have e2 : x / 4 / 256 = x / 256 / 4 := by omega
    have b := byte2 ⟨x % 256, by omega⟩ ⟨x / 256 % 4, by omega⟩
    simp only at b
    rw [e1, e2, b, ← ih]
    unfold g2
    omega
theorem stage12 : ∀ n x : Nat, lift g2 n (lift g1 n x) = lift c2 n x
  | 0, x => by simp [lift]
  | n + 1, x => by
    have ih := stage12 n (x / 256)
    have l := g1_lt ⟨x % 256, by omega⟩
    simp only at l
    rw [lift, lift, lift, show (g1 (x % 256) + 256 * lift g1 n (x / 256)) % 256 = g1 (x % 256) by omega, show (g1 (x % 256) + 256 * lift g1 n (x / 256)) / 256 = lift g1 n (x / 256) by omega, ih]
    rfl
theorem c2_low : ∀ n x : Nat, lift c2 n x % 16 ≤ 4
  | 0, x => by simp [lift]
  | n + 1, x => by
    have l := c2_le ⟨x % 256, by omega⟩
    simp only at l
    rw [lift]
    omega
theorem stage3 : ∀ n x : Nat, (lift c2 n x / 16 + lift c2 n x) &&& rep 15 n = lift g3 n x
  | 0, x => by simp [rep, lift]
  | n + 1, x => by
    have ih := stage3 n (x / 256)
    have lo := c2_low n (x / 256)
    have l := c2_le ⟨x % 256, by omega⟩
    simp only at l
    rw [st_and n _ 15 (by omega), lift, lift]
    generalize lift c2 n (x / 256) = v at *
    have e2 : ((c2 (x % 256) + 256 * v) / 16 + (c2 (x % 256) + 256 * v)) / 256 = v / 16 + v := by omega
    have e1 : ((c2 (x % 256) + 256 * v) / 16 + (c2 (x % 256) + 256 * v)) % 256 &&& 15 = g3 (x % 256) := by
      have h := Nat.and_two_pow_sub_one_eq_mod (((c2 (x % 256) + 256 * v) / 16 + (c2 (x % 256) + 256 * v)) % 256) 4
      rw [show 2 ^ 4 - 1 = 15 from rfl, show 2 ^ 4 = 16 from rfl] at h
      rw [h]
      unfold g3
      omega
    rw [e1, e2, ih]
/-- So many of the first bits are one. -/
def PC : Nat → Nat → Nat
  | 0, _ => 0
  | n + 1, x => (x.testBit n).toNat + PC n x
theorem g3_is : ∀ r : Fin 256, g3 r.val = PC 8 r.val := by decide +kernel
theorem PC_le : ∀ n x : Nat, PC n x ≤ n
  | 0, x => by simp [PC]
  | n + 1, x => by
    have := PC_le n x
    have := Bool.toNat_le (x.testBit n)
    rw [PC]
    omega
theorem PC_congr {x y : Nat} : ∀ n : Nat, (∀ i < n, x.testBit i = y.testBit i) → PC n x = PC n y
  | 0, _ => rfl
  | n + 1, h => by rw [PC, PC, h n (by omega), PC_congr n fun i hi => h i (by omega)]
theorem PC_add (m : Nat) : ∀ n x : Nat, PC (n + m) x = PC n (x / 2 ^ m) + PC m x
  | 0, x => by simp [PC]
  | n + 1, x => by
    rw [show n + 1 + m = (n + m) + 1 by omega, PC, PC_add m n x, PC, Nat.testBit_div_two_pow]
    omega
theorem PC_mod (x : Nat) : PC 8 (x % 256) = PC 8 x := PC_congr 8 fun i hi => by
  rw [show (256 : Nat) = 2 ^ 8 from rfl, Nat.testBit_mod_two_pow, decide_eq_true hi, Bool.true_and]
theorem PC_byte (n x : Nat) : PC (n + 8) x = g3 (x % 256) + PC n (x / 256) := by
  have h := g3_is ⟨x % 256, by omega⟩
  simp only at h
  rw [PC_add 8 n x, show (2 : Nat) ^ 8 = 256 from rfl, h, PC_mod]
  omega
theorem g3_le (x : Nat) : g3 (x % 256) ≤ 8 := by
  have h := g3_is ⟨x % 256, by omega⟩
  simp only at h
  rw [h]
  exact PC_le 8 _
theorem fold8 {b0 b1 b2 b3 b4 b5 b6 b7 : Nat} (h0 : b0 ≤ 8) (h1 : b1 ≤ 8) (h2 : b2 ≤ 8) (h3 : b3 ≤ 8) (h4 : b4 ≤ 8) (h5 : b5 ≤ 8) (h6 : b6 ≤ 8) (h7 : b7 ≤ 8) :
    ∃ v u t M : Nat, b0 + 256 * (b1 + 256 * (b2 + 256 * (b3 + 256 * (b4 + 256 * (b5 + 256 * (b6 + 256 * (b7 + 256 * 0))))))) = v ∧ v + v / 256 = u ∧ u + u / 65536 = t ∧ t + t / 4294967296 = (b0 + (b1 + (b2 + (b3 + (b4 + (b5 + (b6 + b7))))))) + 256 * M ∧ v < 3000000000000000000 ∧ u < 3000000000000000000 ∧ t < 4000000000000000000 ∧ t + t / 4294967296 < 5000000000000000000 := by
  have e1 : ∀ a X : Nat, a < 256 → (a + 256 * X) / 256 = X := fun a X h => by omega
  have e2 : ∀ a b X : Nat, a < 256 → b < 256 → (a + 256 * (b + 256 * X)) / 65536 = X := fun a b X h1 h2 => by omega
  have e3 : ∀ a b c d X : Nat, a < 256 → b < 256 → c < 256 → d < 256 → (a + 256 * (b + 256 * (c + 256 * (d + 256 * X)))) / 4294967296 = X := fun a b c d X h1 h2 h3 h4 => by omega
  refine ⟨b0 + 256 * (b1 + 256 * (b2 + 256 * (b3 + 256 * (b4 + 256 * (b5 + 256 * (b6 + 256 * (b7 + 256 * 0))))))), (b0 + b1) + 256 * ((b1 + b2) + 256 * ((b2 + b3) + 256 * ((b3 + b4) + 256 * ((b4 + b5) + 256 * ((b5 + b6) + 256 * ((b6 + b7) + 256 * b7)))))), (b0 + b1 + (b2 + b3)) + 256 * ((b1 + b2 + (b3 + b4)) + 256 * ((b2 + b3 + (b4 + b5)) + 256 * ((b3 + b4 + (b5 + b6)) + 256 * ((b4 + b5 + (b6 + b7)) + 256 * ((b5 + b6 + b7) + 256 * ((b6 + b7) + 256 * b7)))))),
    (b1 + b2 + (b3 + b4)) + 256 * ((b2 + b3 + (b4 + b5)) + 256 * ((b3 + b4 + (b5 + b6)) + 256 * ((b4 + b5 + (b6 + b7)) + 256 * ((b5 + b6 + b7) + 256 * ((b6 + b7) + 256 * b7))))) + ((b5 + b6 + b7) + 256 * ((b6 + b7) + 256 * b7)), rfl, ?_, ?_, ?_, ?_, ?_, ?_, ?_⟩
  · rw [e1 _ _ (by omega)]; omega
  · rw [e2 _ _ _ (by omega) (by omega)]; omega
  · rw [e3 _ _ _ _ _ (by omega) (by omega) (by omega) (by omega)]; omega
  · omega
  · omega
  · omega
  · rw [e3 _ _ _ _ _ (by omega) (by omega) (by omega) (by omega)]; omega
theorem lift1_lt (n : Nat) : lift g1 8 n < 18446744073709551616 := by
  have h : ∀ k x : Nat, lift g1 k x < 256 ^ k := by
    intro k
    induction k with
    | zero => intro x; simp [lift]
    | succ k ih =>
      intro x
      have l := g1_lt ⟨x % 256, by omega⟩
      have i := ih (x / 256)
      simp only at l
      rw [lift, Nat.pow_succ]
      omega
  exact h 8 n
theorem lift2_lt (n : Nat) : lift c2 8 n < 5000000000000000000 := by
  have h : ∀ k x : Nat, lift c2 k x ≤ rep 68 k := by
    intro k
    induction k with
    | zero => intro x; simp [lift, rep]
    | succ k ih =>
      intro x
      have l := c2_le ⟨x % 256, by omega⟩
      have i := ih (x / 256)
      simp only at l
      rw [lift, rep]
      omega
  have h1 := h 8 n
  have h2 : rep 68 8 = 4919131752989213764 := by decide
  omega
theorem fd (a b : Nat) : Int.fdiv (a : Int) (b : Int) = ((a / b : Nat) : Int) := by rw [Int.fdiv_eq_ediv_of_nonneg _ (by omega), Int.natCast_ediv]
theorem wn {a : Nat} (h : a < 18446744073709551616) : wru64 (a : Int) = (a : Int) := wu64 (by omega) (by omega)
theorem step1 {n : Nat} (hn : n < 18446744073709551616) : wru64 ((bits .and .u64 (Int.fdiv (n : Int) 2) 6148914691236517205) + (bits .and .u64 (n : Int) 6148914691236517205)) = ((lift g1 8 n : Nat) : Int) := by
  have s1 := stage1 8 n
  have r5 : rep 85 8 = 6148914691236517205 := by decide
  rw [r5] at s1
  have a1 := bits_and_u64_nat (n / 2) 6148914691236517205 (by omega) (by omega)
  have a2 := bits_and_u64_nat n 6148914691236517205 hn (by omega)
  rw [show (2 : Int) = ((2 : Nat) : Int) from rfl, fd, show (6148914691236517205 : Int) = ((6148914691236517205 : Nat) : Int) from rfl, a1, a2, ← Int.natCast_add, s1, wn (lift1_lt n)]
theorem step2 (n : Nat) : wru64 ((bits .and .u64 (Int.fdiv ((lift g1 8 n : Nat) : Int) 4) 3689348814741910323) + (bits .and .u64 ((lift g1 8 n : Nat) : Int) 3689348814741910323)) = ((lift c2 8 n : Nat) : Int) := by
  have s2 := stage2 8 (lift g1 8 n)
  have r3 : rep 51 8 = 3689348814741910323 := by decide
  rw [stage12, r3] at s2
  have l1 := lift1_lt n
  have l2 := lift2_lt n
  generalize lift g1 8 n = v at *
  have a1 := bits_and_u64_nat (v / 4) 3689348814741910323 (by omega) (by omega)
  have a2 := bits_and_u64_nat v 3689348814741910323 l1 (by omega)
  rw [show (4 : Int) = ((4 : Nat) : Int) from rfl, fd, show (3689348814741910323 : Int) = ((3689348814741910323 : Nat) : Int) from rfl, a1, a2, ← Int.natCast_add, s2, wn (by omega)]
theorem step3 (n : Nat) : bits .and .u64 (wru64 ((Int.fdiv ((lift c2 8 n : Nat) : Int) 16) + ((lift c2 8 n : Nat) : Int))) 1085102592571150095 = ((lift g3 8 n : Nat) : Int) := by
  have s3 := stage3 8 n
  have rf : rep 15 8 = 1085102592571150095 := by decide
  rw [rf] at s3
  have l2 := lift2_lt n
  generalize lift c2 8 n = v at *
  rw [show (16 : Int) = ((16 : Nat) : Int) from rfl, fd, ← Int.natCast_add, wn (by omega)]
  have a1 := bits_and_u64_nat (v / 16 + v) 1085102592571150095 (by omega) (by omega)
  rw [show (1085102592571150095 : Int) = ((1085102592571150095 : Nat) : Int) from rfl, a1, s3]
theorem pc8 (n : Nat) : ∃ b0 b1 b2 b3 b4 b5 b6 b7 : Nat, (b0 ≤ 8 ∧ b1 ≤ 8 ∧ b2 ≤ 8 ∧ b3 ≤ 8 ∧ b4 ≤ 8 ∧ b5 ≤ 8 ∧ b6 ≤ 8 ∧ b7 ≤ 8) ∧ lift g3 8 n = b0 + 256 * (b1 + 256 * (b2 + 256 * (b3 + 256 * (b4 + 256 * (b5 + 256 * (b6 + 256 * (b7 + 256 * 0))))))) ∧ PC 64 n = b0 + (b1 + (b2 + (b3 + (b4 + (b5 + (b6 + b7)))))) := by
  refine ⟨g3 (n % 256), g3 (n / 256 % 256), g3 (n / 256 / 256 % 256), g3 (n / 256 / 256 / 256 % 256), g3 (n / 256 / 256 / 256 / 256 % 256), g3 (n / 256 / 256 / 256 / 256 / 256 % 256), g3 (n / 256 / 256 / 256 / 256 / 256 / 256 % 256), g3 (n / 256 / 256 / 256 / 256 / 256 / 256 / 256 % 256), ⟨g3_le _, g3_le _, g3_le _, g3_le _, g3_le _, g3_le _, g3_le _, g3_le _⟩, by simp only [lift], ?_⟩
  rw [show (64 : Nat) = 56 + 8 from rfl, PC_byte, show (56 : Nat) = 48 + 8 from rfl, PC_byte, show (48 : Nat) = 40 + 8 from rfl, PC_byte, show (40 : Nat) = 32 + 8 from rfl, PC_byte, show (32 : Nat) = 24 + 8 from rfl, PC_byte, show (24 : Nat) = 16 + 8 from rfl, PC_byte, show (16 : Nat) = 8 + 8 from rfl, PC_byte, show (8 : Nat) = 0 + 8 from rfl, PC_byte]
  simp [PC]
theorem ones_f {n : Nat} (hn : n < 18446744073709551616) : bits_OnesCount64.f (n : Int) = some ((PC 64 n : Nat) : Int) := by
  unfold bits_OnesCount64.f
  refine bind_of (congrArg some (step1 hn)) (bind_of (congrArg some (step2 n)) (bind_of (congrArg some (step3 n)) ?_))
  obtain ⟨b0, b1, b2, b3, b4, b5, b6, b7, ⟨h0, h1, h2, h3, h4, h5, h6, h7⟩, el, ep⟩ := pc8 n
  obtain ⟨v, u, t, M, ev, eu, et, eM, lv, lu, lt, lz⟩ := fold8 h0 h1 h2 h3 h4 h5 h6 h7
  rw [el, ep, ev]
  have q1 : wru64 ((v : Int) + Int.fdiv (v : Int) 256) = (u : Int) := by
    rw [show (256 : Int) = ((256 : Nat) : Int) from rfl, fd, ← Int.natCast_add, eu, wn (by omega)]
  have q2 : wru64 ((u : Int) + Int.fdiv (u : Int) 65536) = (t : Int) := by
    rw [show (65536 : Int) = ((65536 : Nat) : Int) from rfl, fd, ← Int.natCast_add, et, wn (by omega)]
  rw [q1]
  refine bind_of (congrArg some q2) ?_
  have q3 : wru64 ((t : Int) + Int.fdiv (t : Int) 4294967296) = ((t + t / 4294967296 : Nat) : Int) := by
    rw [show (4294967296 : Int) = ((4294967296 : Nat) : Int) from rfl, fd, ← Int.natCast_add, wn (by omega)]
  rw [q3]
  rw [eM] at lz ⊢
  generalize hs : b0 + (b1 + (b2 + (b3 + (b4 + (b5 + (b6 + b7)))))) = s at *
  have hs64 : s ≤ 64 := by omega
  clear ev eu et eM el ep hs q1 q2 q3 lv lu lt
  have q4 : bits .and .i64 (wr64 ((s + 256 * M : Nat) : Int)) 127 = (s : Int) := by
    rw [w64 (by omega) (by omega), and_mask 7 (by omega) _ 127 (by decide)]
    omega
  exact bind_of (congrArg some q4) rfl
theorem bit_in {i j : Nat} : (2 ^ i).testBit j = decide (i = j) := Nat.testBit_two_pow
theorem wbit {i : Nat} (h : i < 64) : wru64 (1 * 2 ^ (min i 64)) = ((2 ^ i : Nat) : Int) := by
  have h1 : (2 : Nat) ^ i < 2 ^ 64 := Nat.pow_lt_pow_right (by omega) h
  have e : (1 : Int) * 2 ^ (min i 64) = ((2 ^ i : Nat) : Int) := by rw [Nat.min_eq_left (by omega)]; simp
  rw [e]
  generalize (2 : Nat) ^ i = q at h1
  exact wu64 (by omega) (by omega)
theorem mf_bits (p : Nat → Bool) : ∀ (n i m : Nat), i + n ≤ 64 → m < 18446744073709551616 → ∃ m' : Nat, mf p i n m = (m' : Int) ∧ m' < 18446744073709551616 ∧ ∀ j, m'.testBit j = (m.testBit j || (decide (i ≤ j ∧ j < i + n) && p j))
  | 0, i, m, h, hm => ⟨m, rfl, hm, fun j => by rw [decide_eq_false (by omega)]; simp⟩
  | n + 1, i, m, h, hm => by
    have h1 : (2 : Nat) ^ i < 2 ^ 64 := Nat.pow_lt_pow_right (by omega) (by omega)
    cases hp : p i with
    | true =>
      have hlt : m ||| 2 ^ i < 18446744073709551616 := Nat.or_lt_two_pow (n := 64) (by omega) h1
      obtain ⟨m', e1, e2, e3⟩ := mf_bits p n (i + 1) (m ||| 2 ^ i) (by omega) hlt
      refine ⟨m', ?_, e2, fun j => ?_⟩
      · rw [mf, mst, if_pos hp, wbit (by omega), bits_or_u64_nat m (2 ^ i) hm (by omega)]
        exact e1
      · rw [e3, Nat.testBit_or, bit_in]
        by_cases c : i = j
        · subst c
          rw [hp, decide_eq_true (show i ≤ i ∧ i < i + (n + 1) by omega), decide_eq_false (show ¬ (i + 1 ≤ i ∧ i < i + 1 + n) by omega)]
          simp
        · rw [decide_eq_false c]
          by_cases d : i + 1 ≤ j ∧ j < i + 1 + n
          · rw [decide_eq_true d, decide_eq_true (show i ≤ j ∧ j < i + (n + 1) by omega)]; simp
          · rw [decide_eq_false d, decide_eq_false (show ¬ (i ≤ j ∧ j < i + (n + 1)) by omega)]; simp
    | false =>
      obtain ⟨m', e1, e2, e3⟩ := mf_bits p n (i + 1) m (by omega) hm
      refine ⟨m', ?_, e2, fun j => ?_⟩
      · rw [mf, mst, hp, if_neg (by decide)]
        exact e1
      · rw [e3]
        by_cases c : i = j
        · subst c
          rw [hp]
          simp
        · by_cases d : i + 1 ≤ j ∧ j < i + 1 + n
          · rw [decide_eq_true d, decide_eq_true (show i ≤ j ∧ j < i + (n + 1) by omega)]
          · rw [decide_eq_false d, decide_eq_false (show ¬ (i ≤ j ∧ j < i + (n + 1)) by omega)]
theorem mf_all (p : Nat → Bool) : ∃ m : Nat, mf p 0 64 0 = (m : Int) ∧ m < 18446744073709551616 ∧ ∀ j, m.testBit j = (decide (j < 64) && p j) := by
  obtain ⟨m, e1, e2, e3⟩ := mf_bits p 64 0 0 (by omega) (by omega)
  refine ⟨m, e1, e2, fun j => ?_⟩
  rw [e3]
  by_cases d : j < 64
  · rw [decide_eq_true d, decide_eq_true (show 0 ≤ j ∧ j < 0 + 64 by omega)]; simp
  · rw [decide_eq_false d, decide_eq_false (show ¬ (0 ≤ j ∧ j < 0 + 64) by omega)]; simp
def R24 (x : Int) : Prop := -16777216 ≤ x ∧ x ≤ 16777216
theorem nr24 {a b : Int} (h1 : R24 a) (h2 : R24 b) : Nr a b := by unfold R24 at h1 h2; unfold Nr; omega
theorem clamp_bd (t : Int) : 0 ≤ mx (mn t 65536) 0 ∧ mx (mn t 65536) 0 ≤ 65536 := by
  unfold mx mn
  split <;> split <;> omega
theorem linear_any (kind a b : Int) {px py qx qy x y : Int} (hp : R24 px) (hp2 : R24 py) (hq : R24 qx) (hq2 : R24 qy) (hx : R24 x) (hy : R24 y) : ∃ t, paint_linear.f kind a b px py qx qy x y = some t ∧ 0 ≤ t ∧ t ≤ 65536 := by
  unfold paint_linear.f
  have e1 := dot_f (nr24 hp hq) (nr24 hp2 hq2) (nr24 hp hx) (nr24 hp2 hy)
  have e2 := len2_f (nr24 hp hq) (nr24 hp2 hq2)
  by_cases c1 : dt px py qx qy x y ≤ 0
  · exact ⟨0, bind_of e1 (bind_of e2 (by rw [if_pos c1])), by omega, by omega⟩
  · by_cases c2 : ln px py qx qy ≤ 0
    · exact ⟨0, bind_of e1 (bind_of e2 (by rw [if_neg c1, if_pos c2])), by omega, by omega⟩
    · by_cases c3 : dt px py qx qy x y ≥ ln px py qx qy
      · exact ⟨65536, bind_of e1 (bind_of e2 (by rw [if_neg c1, if_neg c2, if_pos c3])), by omega, by omega⟩
      · obtain ⟨q1, m1, m2, m3, m4, m5⟩ := md_f (d := dt px py qx qy x y) (l := ln px py qx qy) (by omega) (by omega) (ln_bd (nr24 hp hq) (nr24 hp2 hq2))
        exact ⟨_, bind_of e1 (bind_of e2 (by rw [if_neg c1, if_neg c2, if_neg c3]; exact bind_of m1 (bind_of m2 (congrArg some m3)))), m4, m5⟩
theorem part_any (kind a b : Int) {px py qx qy x y : Int} (hp : R24 px) (hp2 : R24 py) (hq : R24 qx) (hq2 : R24 qy) (hx : R24 x) (hy : R24 y) : ∃ t, (∀ k, 32 < k → paint_Part.f k kind a b px py qx qy x y = some t) ∧ 0 ≤ t ∧ t ≤ 65536 := by
  by_cases h1 : kind = 1
  · obtain ⟨t, ht, h⟩ := linear_any kind a b hp hp2 hq hq2 hx hy
    exact ⟨t, fun k hk => by unfold paint_Part.f; rw [if_pos h1]; exact bind_of ht rfl, h⟩
  · by_cases h2 : kind = 2
    · by_cases h3 : qx < 1
      · exact ⟨65536, fun k hk => by unfold paint_Part.f; rw [if_neg h1, if_pos h2, if_pos h3], by omega, by omega⟩
      · have l0 := ln_nonneg px py x y
        have l1 : ln px py x y ≤ 33554432 * 33554432 + 33554432 * 33554432 := by
          unfold R24 at hp hp2 hx hy
          have b1 := mul_bd (M := 33554432) (N := 33554432) (x := x - px) (y := x - px) (by omega) (by omega) (by omega) (by omega)
          have b2 := mul_bd (M := 33554432) (N := 33554432) (x := y - py) (y := y - py) (by omega) (by omega) (by omega) (by omega)
          unfold ln
          omega
        obtain ⟨s, s0, s1, s2⟩ := sqrt_ex (n := ln px py x y * 256) (by omega) (by omega)
        have s3 : s < 1000000000 := by
          by_cases g : s < 1000000000
          · exact g
          · have := Int.mul_le_mul (show (1000000000 : Int) ≤ s by omega) (show (1000000000 : Int) ≤ s by omega) (by omega) (by omega)
            omega
        refine ⟨_, fun k hk => ?_, clamp_bd (rnd (4096 * s) qx)⟩
        unfold paint_Part.f
        rw [if_neg h1, if_pos h2, if_neg h3]
        refine bind_of (len2_f (nr24 hp hx) (nr24 hp2 hy)) ?_
        rw [w64 (n := ln px py x y * 256) (by omega) (by omega)]
        refine bind_of (sqrt_is s0 s1 s2 (by omega) k hk) ?_
        rw [w64 (n := 4096 * s) (by omega) (by omega)]
        unfold R24 at hq
        exact bind_of (round_f (by omega) (by omega) (by omega) (by omega)) (bind_of rfl rfl)
    · exact ⟨0, fun k hk => by unfold paint_Part.f; rw [if_neg h1, if_neg h2], by omega, by omega⟩
theorem pick_any (i : Int) {C : List (Int × Int × Int × Int)} (hC : ∀ c ∈ C, Col c) : ∃ a b c d, paint_At_1_v1.f i C = some (a, b, c, d) ∧ Col (a, b, c, d) := by
  unfold paint_At_1_v1.f
  by_cases h0 : i < 0
  · exact ⟨0, 0, 0, 0, by rw [if_pos h0], by unfold Col; decide⟩
  · rw [if_neg h0]
    by_cases h1 : i ≥ (C.length : Int)
    · exact ⟨0, 0, 0, 0, by rw [if_pos h1], by unfold Col; decide⟩
    · obtain ⟨n, rfl⟩ : ∃ n : Nat, i = n := ⟨i.toNat, by omega⟩
      have hn : n < C.length := by omega
      exact ⟨_, _, _, _, by rw [if_neg h1]; exact bind_of (lgt_nat hn) rfl, hC _ (List.getElem_mem hn)⟩
theorem mix16 {a b t : Int} (t0 : 0 ≤ t) (t1 : t ≤ 65536) (ha : 0 ≤ a ∧ a ≤ 255) (hb : 0 ≤ b ∧ b ≤ 255) : P16 (mixv a b t) := by
  have h1 := mix_lo (l := 0) t0 t1 ha.1 hb.1
  have h2 := mix_hi (l := 255) t0 t1 ha.2 hb.2
  unfold P16
  omega
theorem at_any (p0 p1 p2 : Int) {p3 p4 p5 p6 x y : Int} {C : List (Int × Int × Int × Int)} (hC : ∀ c ∈ C, Col c) (hp : R24 p3) (hp2 : R24 p4) (hq : R24 p5) (hq2 : R24 p6) (hx : R24 x) (hy : R24 y) :
    ∃ a b c d, (∀ k, 32 < k → paint_At_v1.f k p0 p1 p2 p3 p4 p5 p6 C x y = some (a, b, c, d)) ∧ P16 a ∧ P16 b ∧ P16 c ∧ P16 d := by
  obtain ⟨a0, a1, a2, a3, e1, c0, c1, c2, c3⟩ := pick_any p1 hC
  obtain ⟨b0, b1, b2, b3, e2, d0, d1, d2, d3⟩ := pick_any (if p0 = 0 then p1 else p2) hC
  obtain ⟨t, ht, t0, t1⟩ := part_any p0 p1 (if p0 = 0 then p1 else p2) hp hp2 hq hq2 hx hy
  refine ⟨_, _, _, _, fun k hk => ?_, mix16 t0 t1 c0 d0, mix16 t0 t1 c1 d1, mix16 t0 t1 c2 d2, mix16 t0 t1 c3 d3⟩
  unfold paint_At_v1.f
  exact bind_of (x := if p0 = 0 then p1 else p2) (by split <;> rfl) (bind_of e1 (bind_of e2 (bind_of (ht k hk) (bind_of (mix_f t0 t1 c0 c1 c2 c3 d0 d1 d2 d3) rfl))))
theorem count_any {m : Int} (h0 : 0 ≤ m) (h1 : m < 18446744073709551616) : ∃ c, sweep_Count.f m = some c ∧ 0 ≤ c ∧ c ≤ 64 := by
  obtain ⟨n, rfl⟩ : ∃ n : Nat, m = n := ⟨m.toNat, by omega⟩
  have := PC_le 64 n
  exact ⟨_, by unfold sweep_Count.f; exact bind_of (ones_f (by omega)) rfl, by omega, by omega⟩
def Px (c : Int × Int × Int × Int) : Prop := P16 c.1 ∧ P16 c.2.1 ∧ P16 c.2.2.1 ∧ P16 c.2.2.2
theorem lput_nat {T : Type} {L : List T} {i : Nat} (v : T) (h : i < L.length) : lput L (i : Int) v = some (L.set i v) := by
  unfold lput
  rw [if_pos ⟨by omega, by omega⟩, Int.toNat_natCast]
theorem over_l (p0 p1 p2 : Int) {p3 p4 p5 p6 y3 : Int} {C : List (Int × Int × Int × Int)} (hC : ∀ c ∈ C, Col c) (hp : R24 p3) (hp2 : R24 p4) (hq : R24 p5) (hq2 : R24 p6) (hy0 : 0 ≤ y3) (hy1 : y3 ≤ 1000) {M : List Int} (hM : ∀ m ∈ M, 0 ≤ m ∧ m < 18446744073709551616) (hl : M.length ≤ 1000) :
    ∀ (n i : Nat) (Y : List (Int × Int × Int × Int)), i + n = M.length → Y.length = M.length → (∀ c ∈ Y, Px c) → ∃ Z, (∀ k, n + 40 ≤ k → render_layer_over_v1.l0 k p0 p1 p2 p3 p4 p5 p6 C y3 M (i : Int) Y = some Z) ∧ Z.length = M.length ∧ ∀ c ∈ Z, Px c
  | 0, i, Y, hi, hY, hP => ⟨Y, fun k hk => by
    obtain ⟨k, rfl⟩ : ∃ m, k = m + 1 := ⟨k - 1, by omega⟩
    rw [render_layer_over_v1.l0, if_neg (by omega)], hY, hP⟩
  | n + 1, i, Y, hi, hY, hP => by
    have hiM : i < M.length := by omega
    have hiY : i < Y.length := by omega
    obtain ⟨m0, m1⟩ := hM _ (List.getElem_mem hiM)
    obtain ⟨c, hc, c0, c64⟩ := count_any m0 m1
    by_cases h : c > 0
    · obtain ⟨⟨u0, u1, u2, u3⟩, hu⟩ : ∃ q, Y[i] = q := ⟨_, rfl⟩
      have hPu := hP _ (List.getElem_mem hiY)
      rw [hu] at hPu
      obtain ⟨q0, q1, q2, q3⟩ := hPu
      obtain ⟨a0, a1, a2, a3, ha, r0, r1, r2, r3⟩ := at_any p0 p1 p2 (x := (i : Int) * 256 + 128) (y := y3 * 256 + 128) hC hp hp2 hq hq2 (by unfold R24; omega) (by unfold R24; omega)
      have ho := over_f q0 q1 q2 q3 r0 r1 r2 r3 c0 c64
      have hcv := (cov_f r3 c0 c64).2
      obtain ⟨Z, hZ, zl, zp⟩ := over_l p0 p1 p2 hC hp hp2 hq hq2 hy0 hy1 hM hl n (i + 1) (Y.set i (ch u0 a0 (cov a3 c), ch u1 a1 (cov a3 c), ch u2 a2 (cov a3 c), ch u3 65535 (cov a3 c))) (by omega) (by rw [List.length_set]; exact hY) (by
        intro q hq
        rcases List.mem_or_eq_of_mem_set hq with hq | rfl
        · exact hP q hq
        · exact ⟨ch_bd q0 r0 hcv, ch_bd q1 r1 hcv, ch_bd q2 r2 hcv, ch_bd q3 (by unfold P16; omega) hcv⟩)
      refine ⟨Z, fun k hk => ?_, zl, zp⟩
      obtain ⟨k, rfl⟩ : ∃ m, k = m + 1 := ⟨k - 1, by omega⟩
      rw [render_layer_over_v1.l0, if_pos (by omega)]
      refine bind_of (lgt_nat hiM) (bind_of hc ?_)
      rw [if_pos h]
      refine bind_of ((lgt_nat hiY).trans (congrArg some hu)) ?_
      rw [w64 (n := (i : Int) * 256) (by omega) (by omega), w64 (n := (i : Int) * 256 + 128) (by omega) (by omega), w64 (n := y3 * 256) (by omega) (by omega), w64 (n := y3 * 256 + 128) (by omega) (by omega)]
      refine bind_of (ha k (by omega)) (bind_of ho (bind_of ((lgt_nat hiY).trans (congrArg some hu)) (bind_of (lput_nat _ hiY) ?_)))
      rw [wnat (by omega)]
      exact hZ k (by omega)
    · obtain ⟨Z, hZ, zl, zp⟩ := over_l p0 p1 p2 hC hp hp2 hq hq2 hy0 hy1 hM hl n (i + 1) Y (by omega) hY hP
      refine ⟨Z, fun k hk => ?_, zl, zp⟩
      obtain ⟨k, rfl⟩ : ∃ m, k = m + 1 := ⟨k - 1, by omega⟩
      rw [render_layer_over_v1.l0, if_pos (by omega)]
      refine bind_of (lgt_nat hiM) (bind_of hc ?_)
      rw [if_neg h, wnat (by omega)]
      exact hZ k (by omega)
abbrev Ly := Int × Int × Int × Int × Int × Int × Int × Int × Int × Int × List Pth × List Ed
structure LyOK (l : Ly) : Prop where
  w : l.1 ≠ 1 → 0 ≤ l.2.2.1 ∧ l.2.2.1 ≤ 1000000
  px : R24 l.2.2.2.2.2.2.1
  py : R24 l.2.2.2.2.2.2.2.1
  qx : R24 l.2.2.2.2.2.2.2.2.1
  qy : R24 l.2.2.2.2.2.2.2.2.2.1
  n : l.2.2.2.2.2.2.2.2.2.2.2.length ≤ 1000000
  e : ∀ e ∈ l.2.2.2.2.2.2.2.2.2.2.2, In4 1000000 e
theorem row_in {w : Nat} {P : Nat → Nat → Bool} : ∀ m ∈ row w (fun x => mf (P x) 0 64 0), 0 ≤ m ∧ m < 18446744073709551616 := by
  intro m hm
  unfold row at hm
  obtain ⟨x, _, rfl⟩ := List.mem_map.1 hm
  obtain ⟨m', e1, e2, _⟩ := mf_bits (P x) 64 0 0 (by omega) (by omega)
  have e1 : mf (P x) 0 64 0 = (m' : Int) := e1
  rw [e1]
  omega
theorem masks_any (l : Ly) (ok : LyOK l) {y : Int} (hy0 : 0 ≤ y) (hy1 : y ≤ 1000) {w : Nat} (hw : w ≤ 1000) : ∃ M, (∀ k, w + 20 + l.2.2.2.2.2.2.2.2.2.2.2.length < k → render_layer_masks_v1.f k l.1 l.2.1 l.2.2.1 l.2.2.2.1 l.2.2.2.2.1 l.2.2.2.2.2.1 l.2.2.2.2.2.2.1 l.2.2.2.2.2.2.2.1 l.2.2.2.2.2.2.2.2.1 l.2.2.2.2.2.2.2.2.2.1 l.2.2.2.2.2.2.2.2.2.2.2 y w = some M) ∧ M.length = w ∧ ∀ m ∈ M, 0 ≤ m ∧ m < 18446744073709551616 := by
  by_cases h : l.1 = 1
  · exact ⟨_, fun k hk => by unfold render_layer_masks_v1.f; rw [if_pos h]; exact bind_of (fill_f ok.n ok.e hw ⟨by omega, hy1⟩ k hk) rfl, row_len _ _, row_in⟩
  · obtain ⟨w0, w1⟩ := ok.w h
    exact ⟨_, fun k hk => by unfold render_layer_masks_v1.f; rw [if_neg h]; exact bind_of (line_f ok.n ok.e w0 w1 hw ⟨by omega, hy1⟩ k hk) rfl, row_len _ _, row_in⟩
/-- All layers over a row. -/
theorem row_l0 {C : List (Int × Int × Int × Int)} (hC : ∀ c ∈ C, Col c) {y : Int} (hy0 : 0 ≤ y) (hy1 : y ≤ 1000) {w N : Nat} (hw : w ≤ 1000) {Ls : List Ly} (hL : ∀ l ∈ Ls, LyOK l ∧ l.2.2.2.2.2.2.2.2.2.2.2.length ≤ N) (hn : Ls.length ≤ 1000) :
    ∀ (n i : Nat) (Y : List (Int × Int × Int × Int)), i + n = Ls.length → Y.length = w → (∀ c ∈ Y, Px c) → ∃ Z, (∀ k, n + w + N + 60 ≤ k → render_row_v1.l0 k C Ls y (i : Int) Y = some Z) ∧ Z.length = w ∧ ∀ c ∈ Z, Px c
  | 0, i, Y, hi, hY, hP => ⟨Y, fun k hk => by
    obtain ⟨k, rfl⟩ : ∃ m, k = m + 1 := ⟨k - 1, by omega⟩
    rw [render_row_v1.l0, if_neg (by omega)], hY, hP⟩
  | n + 1, i, Y, hi, hY, hP => by
    have hiL : i < Ls.length := by omega
    obtain ⟨ok, hN⟩ := hL _ (List.getElem_mem hiL)
    obtain ⟨M, hM, ml, mb⟩ := masks_any Ls[i] ok hy0 hy1 hw
    obtain ⟨Z1, h1, l1, p1⟩ := over_l Ls[i].2.2.2.1 Ls[i].2.2.2.2.1 Ls[i].2.2.2.2.2.1 hC ok.px ok.py ok.qx ok.qy hy0 hy1 mb (by omega) M.length 0 Y (by omega) (by omega) hP
    obtain ⟨Z, hZ, zl, zp⟩ := row_l0 hC hy0 hy1 hw hL hn n (i + 1) Z1 (by omega) (by omega) p1
    refine ⟨Z, fun k hk => ?_, zl, zp⟩
    obtain ⟨k, rfl⟩ : ∃ m, k = m + 1 := ⟨k - 1, by omega⟩
    rw [render_row_v1.l0, if_pos (by omega)]
    refine bind_of (lgt_nat hiL) (bind_of (x := Z1) ?_ ?_)
    · unfold render_layer_over_v1.f
      rw [hY]
      exact bind_of (hM k (by omega)) (h1 k (by omega))
    · rw [if_pos (by omega)]
      refine bind_of rfl ?_
      rw [wnat (by omega)]
      exact hZ k (by omega)
/-- A row's bytes. -/
theorem row_l1 (Ls : List Ly) {Y : List (Int × Int × Int × Int)} (hP : ∀ c ∈ Y, Px c) (hl : Y.length ≤ 1000) : ∀ (n i : Nat) (B : List Int), i + n = Y.length → B.length = 4 * i → ∃ Z, (∀ k, n < k → render_row_v1.l1 k Ls Y (i : Int) B = some Z) ∧ Z.length = 4 * Y.length
  | 0, i, B, hi, hB => ⟨B, fun k hk => by
    obtain ⟨k, rfl⟩ : ∃ m, k = m + 1 := ⟨k - 1, by omega⟩
    rw [render_row_v1.l1, if_neg (by omega)], by omega⟩
  | n + 1, i, B, hi, hB => by
    have hiY : i < Y.length := by omega
    obtain ⟨⟨u0, u1, u2, u3⟩, hu⟩ : ∃ q, Y[i] = q := ⟨_, rfl⟩
    have hPu := hP _ (List.getElem_mem hiY)
    rw [hu] at hPu
    obtain ⟨q0, q1, q2, q3⟩ := hPu
    obtain ⟨⟨f0, f1, f2, f3⟩, hf⟩ : ∃ q, blend_Final.f u0 u1 u2 u3 = some q := ⟨_, final_f q0 q1 q2 q3⟩
    obtain ⟨Z, hZ, zl⟩ := row_l1 Ls hP hl n (i + 1) (B ++ [f0, f1, f2, f3]) (by omega) (by simp; omega)
    refine ⟨Z, fun k hk => ?_, zl⟩
    obtain ⟨k, rfl⟩ : ∃ m, k = m + 1 := ⟨k - 1, by omega⟩
    rw [render_row_v1.l1, if_pos (by omega)]
    refine bind_of ((lgt_nat hiY).trans (congrArg some hu)) (bind_of hf (bind_of (lapp_ok (by simp; omega)) ?_))
    rw [wnat (by omega)]
    exact hZ k (by omega)
theorem row_f (W H s : Int) {C : List (Int × Int × Int × Int)} (hC : ∀ c ∈ C, Col c) {y : Int} (hy0 : 0 ≤ y) (hy1 : y ≤ 1000) {w N : Nat} (hw : w ≤ 1000) {Ls : List Ly} (hL : ∀ l ∈ Ls, LyOK l ∧ l.2.2.2.2.2.2.2.2.2.2.2.length ≤ N) (hn : Ls.length ≤ 1000) :
    ∃ B, (∀ k, 2 * w + N + Ls.length + 60 ≤ k → render_row_v1.f k W H s C Ls w y = some B) ∧ B.length = 4 * w := by
  obtain ⟨Y, hY, yl, yp⟩ := row_l0 hC hy0 hy1 hw hL hn Ls.length 0 (List.replicate w (0, 0, 0, 0)) (by omega) (by simp) (by
    intro c hc
    obtain rfl := List.eq_of_mem_replicate hc
    refine ⟨⟨?_, ?_⟩, ⟨?_, ?_⟩, ⟨?_, ?_⟩, ⟨?_, ?_⟩⟩ <;> decide)
  obtain ⟨B, hB, bl⟩ := row_l1 Ls yp (by omega) Y.length 0 [] (by omega) rfl
  refine ⟨B, fun k hk => ?_, by omega⟩
  unfold render_row_v1.f
  refine bind_of (x := List.replicate w (0, 0, 0, 0)) (by unfold lmk; rw [if_pos ⟨by omega, by omega, by omega⟩, Int.toNat_natCast]) (bind_of (hY k (by omega)) (bind_of (x := []) ?_ (bind_of (hB k (by omega)) rfl)))
  rw [w64 (n := 4 * (w : Int)) (by omega) (by omega)]
  unfold lmk
  rw [if_pos ⟨by omega, by omega, by omega⟩]
  rfl
theorem EdD.in4 {e : Ed} (h : EdD e) : In4 1000000 e := by
  obtain ⟨⟨a, b⟩, ⟨c, d⟩, ⟨f, g⟩, i, j⟩ := h
  unfold In4
  omega
theorem Dv.r24 {x : Int} (h : Dv x) : R24 x := by
  obtain ⟨a, b⟩ := h
  unfold R24
  omega
theorem mx1_dv {x : Int} (h : Dv x) : Dv (mx x 1) := by
  obtain ⟨a, b⟩ := h
  unfold mx Dv
  split <;> omega
section
variable {W H s w far nc : Int} (W1 : 1 ≤ W) (W2 : W ≤ 24) (H1 : 1 ≤ H) (H2 : H ≤ 24) (s0 : 0 ≤ s) (s6 : s ≤ 6) (w1 : 1 ≤ w) (w7 : w ≤ 7) (fa : far = max W H * 2 ^ s.toNat) (f2 : far ≤ 1536)
include W1 W2 H1 H2 s0 s6 w1 w7 fa f2
omit f2 in
theorem sc_dv {v : Int} (hv : Bd (far + 1) v) : Dv (sc W s w v) := by
  obtain ⟨_, p1, p64⟩ := pow_t s0 s6
  obtain ⟨v0, v1⟩ := hv
  unfold sc
  generalize (2 : Int) ^ s.toNat = P at *
  have e1 : max W H * P ≤ 24 * P := Int.mul_le_mul_of_nonneg_right (by omega) (by omega)
  have e2 : 1 * P ≤ W * P := Int.mul_le_mul_of_nonneg_right (by omega) (by omega)
  have b := mul_bd (M := far + 1) (N := 7) (x := v) (y := w) v0 v1 (by omega) (by omega)
  exact rnd_dv (by omega) (by omega) (by omega)
omit f2 in
theorem seg_d {x : Sg7} (h : SegOK far x) : SegD (scSeg W s w x) :=
  have g : ∀ {v : Int}, Bd far v → Dv (sc W s w v) := fun h => sc_dv W1 W2 H1 H2 s0 s6 w1 w7 fa (h.le (by omega))
  ⟨h.k1, h.k3, g h.a, g h.b, g h.c, g h.d, g h.e, g h.f⟩
omit f2 in
theorem path_d {p : Pth} (h : PathOK far p) : PathD (scPath W s w p) :=
  have g : ∀ {v : Int}, Bd far v → Dv (sc W s w v) := fun h => sc_dv W1 W2 H1 H2 s0 s6 w1 w7 fa (h.le (by omega))
  ⟨g h.x, g h.y, by show (List.map _ _).length ≤ 4; rw [List.length_map]; exact h.l4, fun q hq => by
    obtain ⟨x, hx, rfl⟩ := List.mem_map.1 hq
    exact seg_d W1 W2 H1 H2 s0 s6 w1 w7 fa (h.s x hx)⟩
omit f2 in
theorem ly_ok {c : Cm} (hc : CmdOK far nc c) {E : List Ed} (hE : ∀ e ∈ E, EdD e) (hn : E.length ≤ 6300) : LyOK ((scCmd W s w c).1, (scCmd W s w c).2.1, (scCmd W s w c).2.2.1, (scCmd W s w c).2.2.2.1, (scCmd W s w c).2.2.2.2.1, (scCmd W s w c).2.2.2.2.2.1, (scCmd W s w c).2.2.2.2.2.2.1, (scCmd W s w c).2.2.2.2.2.2.2.1, (scCmd W s w c).2.2.2.2.2.2.2.2.1, (scCmd W s w c).2.2.2.2.2.2.2.2.2.1, (scCmd W s w c).2.2.2.2.2.2.2.2.2.2, E) := by
  have g : ∀ {v : Int}, Bd (far + 1) v → Dv (sc W s w v) := fun h => sc_dv W1 W2 H1 H2 s0 s6 w1 w7 fa h
  refine ⟨fun h => ?_, (g (hc.px.le (by omega))).r24, (g (hc.py.le (by omega))).r24, ?_, (g (hc.qy.le (by omega))).r24, by show E.length ≤ _; omega, fun e he => (hE e he).in4⟩
  · have h2 : c.1 = 2 := hc.k.resolve_left h
    obtain ⟨q1, q2⟩ := hc.w.2 h2
    have d := mx1_dv (g (v := c.2.2.1) ⟨by omega, by omega⟩)
    show 0 ≤ (if c.1 = 2 then mx (sc W s w c.2.2.1) 1 else c.2.2.1) ∧ (if c.1 = 2 then mx (sc W s w c.2.2.1) 1 else c.2.2.1) ≤ 1000000
    rw [if_pos h2]
    refine ⟨?_, by have := d.2; omega⟩
    unfold mx
    split <;> omega
  · show R24 (if c.2.2.2.1 = 2 then mx (sc W s w c.2.2.2.2.2.2.2.2.1) 1 else sc W s w c.2.2.2.2.2.2.2.2.1)
    split
    · exact (mx1_dv (g hc.qx)).r24
    · exact (g hc.qx).r24
end
theorem lay_l1 (kind : Int) {Ps : List Pth} (hP : ∀ p ∈ Ps, PathD p) (hl : Ps.length ≤ 3) : ∀ (n i : Nat) (Y : List Ed), i + n = Ps.length → (∀ e ∈ Y, EdD e) → Y.length ≤ 2100 * i → ∃ Z, (∀ k, 710 + n ≤ k → render_layers_v1.l1 k kind Ps (i : Int) Y = some Z) ∧ (∀ e ∈ Z, EdD e) ∧ Z.length ≤ 6300
  | 0, i, Y, hi, hY, hl2 => ⟨Y, fun k hk => by
    obtain ⟨k, rfl⟩ : ∃ m, k = m + 1 := ⟨k - 1, by omega⟩
    rw [render_layers_v1.l1, if_neg (by omega)], hY, by omega⟩
  | n + 1, i, Y, hi, hY, hl2 => by
    have hiP : i < Ps.length := by omega
    obtain ⟨F, hF, f1, f2⟩ := fpath_f (hP _ (List.getElem_mem hiP)) (kind == 1)
    obtain ⟨Z, hZ, z1, z2⟩ := lay_l1 kind hP hl n (i + 1) (Y ++ F) (by omega) (by
      intro e he
      rcases List.mem_append.1 he with he | he
      · exact hY e he
      · exact f1 e he) (by simp; omega)
    refine ⟨Z, fun k hk => ?_, z1, z2⟩
    obtain ⟨k, rfl⟩ : ∃ m, k = m + 1 := ⟨k - 1, by omega⟩
    rw [render_layers_v1.l1, if_pos (by omega)]
    refine bind_of (lgt_nat hiP) (bind_of (hF k (by omega)) (bind_of (lapp_ok (by omega)) ?_))
    rw [wnat (by omega)]
    exact hZ k (by omega)
theorem edg_l1 {Ps : List Pth} (hP : ∀ p ∈ Ps, PathD p) (hl : Ps.length ≤ 3) : ∀ (n i : Nat) (y : Int), i + n = Ps.length → 0 ≤ y → y + 2100 * n ≤ 1000000 → ∃ z, (∀ k, 710 + n ≤ k → render_Edges_v1.l1 k Ps y (i : Int) = some z) ∧ y ≤ z ∧ z ≤ y + 2100 * n
  | 0, i, y, hi, y0, y1 => ⟨y, fun k hk => by
    obtain ⟨k, rfl⟩ : ∃ m, k = m + 1 := ⟨k - 1, by omega⟩
    rw [render_Edges_v1.l1, if_neg (by omega)], by omega, by omega⟩
  | n + 1, i, y, hi, y0, y1 => by
    have hiP : i < Ps.length := by omega
    obtain ⟨f, hf, f1, f2⟩ := size_f (hP _ (List.getElem_mem hiP))
    obtain ⟨z, hz, z1, z2⟩ := edg_l1 hP hl n (i + 1) (y + f) (by omega) (by omega) (by omega)
    refine ⟨z, fun k hk => ?_, by omega, by omega⟩
    obtain ⟨k, rfl⟩ : ∃ m, k = m + 1 := ⟨k - 1, by omega⟩
    rw [render_Edges_v1.l1, if_pos (by omega)]
    refine bind_of (lgt_nat hiP) (bind_of (hf k (by omega)) ?_)
    rw [wnat (by omega), w64 (n := y + f) (by omega) (by omega)]
    exact hz k (by omega)
theorem height_f {W H w : Int} (s : Int) (W1 : 1 ≤ W) (W2 : W ≤ 24) (H1 : 1 ≤ H) (H2 : H ≤ 24) (w1 : 1 ≤ w) (w7 : w ≤ 7) : ∃ h : Nat, (∀ s, scale_Height_v1.f W H s w = some (h : Int)) ∧ 1 ≤ h ∧ h ≤ 168 := by
  have b := mul_bd (M := 24) (N := 7) (x := 0 - H) (y := w) (by omega) (by omega) (by omega) (by omega)
  have b2 : 0 < H * w := Int.mul_pos (by omega) (by omega)
  have e : (0 - H) * w = -(H * w) := by rw [Int.zero_sub, Int.neg_mul]
  have q1 : (0 - H) * w / W < 0 := Int.ediv_neg_of_neg_of_pos (by omega) (by omega)
  have q2 : -168 ≤ (0 - H) * w / W := Int.le_ediv_of_mul_le (by omega) (by omega)
  refine ⟨(0 - (0 - H) * w / W).toNat, fun s => ?_, by omega, by omega⟩
  unfold scale_Height_v1.f
  rw [w64 (n := 0 - H) (by omega) (by omega), w64 (n := (0 - H) * w) (by omega) (by omega)]
  refine bind_of (down_f W1 (by omega) (by omega)) ?_
  rw [w64 (n := 0 - (0 - H) * w / W) (by omega) (by omega)]
  congr 1
  omega
section
variable {W H s w far nc : Int} (W1 : 1 ≤ W) (W2 : W ≤ 24) (H1 : 1 ≤ H) (H2 : H ≤ 24) (s0 : 0 ≤ s) (s6 : s ≤ 6) (w1 : 1 ≤ w) (w7 : w ≤ 7) (fa : far = max W H * 2 ^ s.toNat) (f2 : far ≤ 1536)
include W1 W2 H1 H2 s0 s6 w1 w7 fa f2
theorem lay_l0 {Z : List Cm} (hZ : ∀ c ∈ Z, CmdOK far nc c) (hl : Z.length ≤ 4) : ∀ (n i : Nat) (Y : List Ly), i + n = Z.length → Y.length = i → (∀ l ∈ Y, LyOK l ∧ l.2.2.2.2.2.2.2.2.2.2.2.length ≤ 6300) → ∃ R, (∀ k, 720 + n ≤ k → render_layers_v1.l0 k W H s Z w (i : Int) Y = some R) ∧ R.length = Z.length ∧ ∀ l ∈ R, LyOK l ∧ l.2.2.2.2.2.2.2.2.2.2.2.length ≤ 6300
  | 0, i, Y, hi, hY, hL => ⟨Y, fun k hk => by
    obtain ⟨k, rfl⟩ : ∃ m, k = m + 1 := ⟨k - 1, by omega⟩
    rw [render_layers_v1.l0, if_neg (by omega)], by omega, hL⟩
  | n + 1, i, Y, hi, hY, hL => by
    have hiZ : i < Z.length := by omega
    have hc := hZ _ (List.getElem_mem hiZ)
    have hPs : ∀ p ∈ (scCmd W s w Z[i]).2.2.2.2.2.2.2.2.2.2, PathD p := fun p hp => by
      obtain ⟨x, hx, rfl⟩ := List.mem_map.1 hp
      exact path_d W1 W2 H1 H2 s0 s6 w1 w7 fa (hc.p x hx).1
    have hln : (scCmd W s w Z[i]).2.2.2.2.2.2.2.2.2.2.length ≤ 3 := by
      show (List.map _ _).length ≤ 3
      rw [List.length_map]; exact hc.n3
    obtain ⟨E, hE, e1, e2⟩ := lay_l1 Z[i].1 hPs hln _ 0 [] (Nat.zero_add _) (by simp) (by simp)
    obtain ⟨R, hR, r1, r2⟩ := lay_l0 hZ hl n (i + 1) (Y ++ [_]) (by omega) (by simp; omega) (by
      intro l h
      rcases List.mem_append.1 h with h | h
      · exact hL l h
      · obtain rfl := List.mem_singleton.1 h
        exact ⟨ly_ok W1 W2 H1 H2 s0 s6 w1 w7 fa hc e1 e2, e2⟩)
    refine ⟨R, fun k hk => ?_, r1, r2⟩
    obtain ⟨k, rfl⟩ : ∃ m, k = m + 1 := ⟨k - 1, by omega⟩
    rw [render_layers_v1.l0, if_pos (by omega)]
    refine bind_of (x := Y ++ [_]) (bind_of (lgt_nat hiZ) (bind_of (cmd_f W1 (by omega) s0 s6 w1 (by omega) (by omega) H Z[i] hc k (by omega)) (bind_of (hE k (by omega)) (bind_of (lapp_ok (by simp; omega)) rfl)))) ?_
    rw [wnat (by omega)]
    exact hR k (by omega)
theorem edg_l0 {Z : List Cm} (hZ : ∀ c ∈ Z, CmdOK far nc c) (hl : Z.length ≤ 4) : ∀ (n i : Nat) (y : Int), i + n = Z.length → 0 ≤ y → y + 6300 * n ≤ 900000 → ∃ z, (∀ k, 720 + n ≤ k → render_Edges_v1.l0 k W H s Z w y (i : Int) = some z) ∧ y ≤ z ∧ z ≤ y + 6300 * n
  | 0, i, y, hi, y0, y1 => ⟨y, fun k hk => by
    obtain ⟨k, rfl⟩ : ∃ m, k = m + 1 := ⟨k - 1, by omega⟩
    rw [render_Edges_v1.l0, if_neg (by omega)], by omega, by omega⟩
  | n + 1, i, y, hi, y0, y1 => by
    have hiZ : i < Z.length := by omega
    have hc := hZ _ (List.getElem_mem hiZ)
    have hPs : ∀ p ∈ (scCmd W s w Z[i]).2.2.2.2.2.2.2.2.2.2, PathD p := fun p hp => by
      obtain ⟨x, hx, rfl⟩ := List.mem_map.1 hp
      exact path_d W1 W2 H1 H2 s0 s6 w1 w7 fa (hc.p x hx).1
    have hln : (scCmd W s w Z[i]).2.2.2.2.2.2.2.2.2.2.length ≤ 3 := by
      show (List.map _ _).length ≤ 3
      rw [List.length_map]; exact hc.n3
    obtain ⟨q, hq, q1, q2⟩ := edg_l1 hPs hln _ 0 y (Nat.zero_add _) y0 (by omega)
    obtain ⟨z, hz, z1, z2⟩ := edg_l0 hZ hl n (i + 1) q (by omega) (by omega) (by omega)
    refine ⟨z, fun k hk => ?_, by omega, by omega⟩
    obtain ⟨k, rfl⟩ : ∃ m, k = m + 1 := ⟨k - 1, by omega⟩
    rw [render_Edges_v1.l0, if_pos (by omega)]
    refine bind_of (bind_of (lgt_nat hiZ) (bind_of (cmd_f W1 (by omega) s0 s6 w1 (by omega) (by omega) H Z[i] hc k (by omega)) (hq k (by omega)))) ?_
    rw [wnat (by omega)]
    exact hz k (by omega)
theorem edges_f {Z : List Cm} (hZ : ∀ c ∈ Z, CmdOK far nc c) (hl : Z.length ≤ 4) : ∃ z, ∀ k, 800 ≤ k → render_Edges_v1.f k W H s Z w = some (z, 0) := by
  obtain ⟨h, hh, h1, h2⟩ := height_f s W1 W2 H1 H2 w1 w7
  obtain ⟨z, hz, z1, z2⟩ := edg_l0 W1 W2 H1 H2 s0 s6 w1 w7 fa f2 hZ hl Z.length 0 0 (by omega) (by omega) (by omega)
  refine ⟨z, fun k hk => ?_⟩
  unfold render_Edges_v1.f
  refine bind_of (x := 0) ?_ ?_
  · unfold scale_Check_v1.f
    rw [if_neg (by omega), if_neg (by omega)]
    refine bind_of (hh s) ?_
    rw [if_neg (by omega)]
  · rw [if_pos rfl]
    refine bind_of (hz k (by omega)) ?_
    rw [if_neg (by omega)]
theorem layers_f {Z : List Cm} (hZ : ∀ c ∈ Z, CmdOK far nc c) (hl : Z.length ≤ 4) : ∃ R, (∀ k, 800 ≤ k → render_layers_v1.f k W H s Z w = some R) ∧ R.length = Z.length ∧ ∀ l ∈ R, LyOK l ∧ l.2.2.2.2.2.2.2.2.2.2.2.length ≤ 6300 := by
  obtain ⟨R, hR, r1, r2⟩ := lay_l0 W1 W2 H1 H2 s0 s6 w1 w7 fa f2 hZ hl Z.length 0 [] (by omega) rfl (by simp)
  exact ⟨R, fun k hk => by unfold render_layers_v1.f; exact bind_of (hR k (by omega)) rfl, r1, r2⟩
end
def cat (R : Nat → List Int) : Nat → List Int
  | 0 => []
  | n + 1 => cat R n ++ R n
theorem cat_len {R : Nat → List Int} {m : Nat} : ∀ n, (∀ y < n, (R y).length = m) → (cat R n).length = m * n
  | 0, _ => rfl
  | n + 1, h => by
    rw [cat, List.length_append, cat_len n (fun y hy => h y (by omega)), h n (by omega), Nat.mul_succ]
theorem cat_at {R : Nat → List Int} {m : Nat} : ∀ n, (∀ y < n, (R y).length = m) → ∀ y j, y < n → j < m → (cat R n)[m * y + j]? = (R y)[j]?
  | 0, _, y, j, hy, _ => absurd hy (by omega)
  | n + 1, h, y, j, hy, hj => by
    have hl := cat_len n (fun y hy => h y (by omega))
    have e1 : m * y + m = m * (y + 1) := (Nat.mul_succ m y).symm
    rw [cat]
    by_cases e : y = n
    · subst e
      rw [List.getElem?_append_right (by omega), hl, Nat.add_sub_cancel_left]
    · have e2 : m * (y + 1) ≤ m * n := Nat.mul_le_mul_left m (by omega)
      rw [List.getElem?_append_left (by omega)]
      exact cat_at n (fun y hy => h y (by omega)) y j (by omega) hj
/-- All rows under each other. -/
theorem frame_l0 (W H s w : Int) {C : List (Int × Int × Int × Int)} {Ls : List Ly} {R : Nat → List Int} {h m K : Nat} (hm : m ≤ 100) (hh : h ≤ 1000) (hR : ∀ y < h, (∀ k, K ≤ k → render_row_v1.f k W H s C Ls w (y : Int) = some (R y)) ∧ (R y).length = m) :
    ∀ (n y k : Nat), y + n = h → K + n + 1 ≤ k → render_Frame_v1.l0 k W H s C w Ls h y (cat R y) [] = some (cat R h, [])
  | 0, y, k, hy, hk => by
    obtain ⟨k, rfl⟩ : ∃ m, k = m + 1 := ⟨k - 1, by omega⟩
    rw [render_Frame_v1.l0, if_neg (by omega), show y = h by omega]
  | n + 1, y, k, hy, hk => by
    obtain ⟨k, rfl⟩ : ∃ m, k = m + 1 := ⟨k - 1, by omega⟩
    obtain ⟨r1, r2⟩ := hR y (by omega)
    have hl := cat_len (R := R) (m := m) y (fun z hz => (hR z (by omega)).2)
    have hb : m * y ≤ 100 * 1000 := Nat.mul_le_mul hm (by omega)
    rw [render_Frame_v1.l0, if_pos (by omega)]
    refine bind_of (r1 k (by omega)) (bind_of (lapp_ok (by omega)) ?_)
    rw [wnat (by omega)]
    exact frame_l0 W H s w hm hh hR n (y + 1) k (by omega) (by omega)
section
variable {W H s far nc : Int} {w : Nat} (W1 : 1 ≤ W) (W2 : W ≤ 24) (H1 : 1 ≤ H) (H2 : H ≤ 24) (s0 : 0 ≤ s) (s6 : s ≤ 6) (w1 : 1 ≤ w) (w7 : w ≤ 7) (fa : far = max W H * 2 ^ s.toNat) (f2 : far ≤ 1536)
include W1 W2 H1 H2 s0 s6 w1 w7 fa f2
/-- The frame, and that a pixel is what it shows. -/
theorem both_f {Z : List Cm} (hZ : ∀ c ∈ Z, CmdOK far nc c) (hl : Z.length ≤ 4) {C : List (Int × Int × Int × Int)} (hC : ∀ c ∈ C, Col c) {h : Nat} (hh : ∀ s, scale_Height_v1.f W H s w = some (h : Int)) (h1 : 1 ≤ h) (h2 : h ≤ 168) :
    ∃ F : List Int, (∀ k, 10000 ≤ k → render_Frame_v1.f k W H s C Z w = some ((w : Int), (h : Int), 0, F)) ∧ F.length = 4 * w * h ∧
      ∀ x y : Nat, x < w → y < h → ∃ a b c d, (∀ k, 10000 ≤ k → render_Pixel_v1.f k W H s C Z w x y = some (a, b, c, d, 0)) ∧ F[4 * w * y + 4 * x]? = some a ∧ F[4 * w * y + 4 * x + 1]? = some b ∧ F[4 * w * y + 4 * x + 2]? = some c ∧ F[4 * w * y + 4 * x + 3]? = some d := by
  obtain ⟨z, hz⟩ := edges_f (w := (w : Int)) W1 W2 H1 H2 s0 s6 (by omega) (by omega) fa f2 hZ hl
  obtain ⟨Ls, hLs, l1, l2⟩ := layers_f (w := (w : Int)) W1 W2 H1 H2 s0 s6 (by omega) (by omega) fa f2 hZ hl
  have ex : ∀ y : Nat, ∃ B : List Int, y < h → (∀ k, 9000 ≤ k → render_row_v1.f k W H s C Ls w (y : Int) = some B) ∧ B.length = 4 * w := fun y => by
    by_cases hy : y < h
    · obtain ⟨B, b1, b2⟩ := row_f W H s hC (y := (y : Int)) (by omega) (by omega) (w := w) (N := 6300) (by omega) l2 (by omega)
      exact ⟨B, fun _ => ⟨fun k hk => b1 k (by omega), b2⟩⟩
    · exact ⟨[], fun h => absurd h hy⟩
  obtain ⟨R, hR⟩ : ∃ R : Nat → List Int, ∀ y < h, (∀ k, 9000 ≤ k → render_row_v1.f k W H s C Ls w (y : Int) = some (R y)) ∧ (R y).length = 4 * w := ⟨fun y => Classical.choose (ex y), fun y => Classical.choose_spec (ex y)⟩
  refine ⟨cat R h, fun k hk => ?_, cat_len h fun y hy => (hR y hy).2, fun x y hx hy => ?_⟩
  · unfold render_Frame_v1.f
    refine bind_of (hz k (by omega)) ?_
    dsimp only
    rw [if_pos rfl]
    exact bind_of (hLs k (by omega)) (bind_of (hh s) (bind_of (frame_l0 W H s w (by omega) (by omega) hR h 0 k (by omega) (by omega)) rfl))
  · obtain ⟨r1, r2⟩ := hR y hy
    have g : ∀ j, j < 4 → ∃ a, (R y)[4 * x + j]? = some a ∧ (cat R h)[4 * w * y + (4 * x + j)]? = some a := fun j hj => by
      have hlt : 4 * x + j < (R y).length := by omega
      exact ⟨_, List.getElem?_eq_getElem hlt, by rw [cat_at h (fun y hy => (hR y hy).2) y (4 * x + j) hy (by omega)]; exact List.getElem?_eq_getElem hlt⟩
    obtain ⟨a, a1, a2⟩ := g 0 (by omega)
    obtain ⟨b, b1, b2⟩ := g 1 (by omega)
    obtain ⟨c, c1, c2⟩ := g 2 (by omega)
    obtain ⟨d, d1, d2⟩ := g 3 (by omega)
    refine ⟨a, b, c, d, fun k hk => ?_, a2, b2, c2, d2⟩
    unfold render_Pixel_v1.f
    refine bind_of (hz k (by omega)) ?_
    dsimp only
    rw [if_pos rfl, if_neg (by omega), if_neg (by omega), if_neg (by omega)]
    refine bind_of (hh s) ?_
    rw [if_neg (by omega)]
    refine bind_of (hLs k (by omega)) (bind_of (r1 k (by omega)) ?_)
    have hne : R y ≠ [] := fun e => by rw [e] at r2; simp at r2; omega
    refine bind_of (x := (R y).drop (4 * x)) ?_ ?_
    · rw [w64 (n := 4 * (x : Int)) (by omega) (by omega)]
      unfold lsub
      rw [if_pos ⟨by omega, by omega, by omega, hne⟩, show (4 * (x : Int)).toNat = 4 * x by omega, List.take_of_length_le (by rw [List.length_drop]; omega)]
    · have gt : ∀ (j : Nat) {v : Int}, (R y)[4 * x + j]? = some v → lgt ((R y).drop (4 * x)) (j : Int) = some v := fun j v e => by
        unfold lgt
        rw [if_neg (by omega), Int.toNat_natCast, List.getElem?_drop]
        exact e
      exact bind_of (gt 0 a1) (bind_of (gt 1 b1) (bind_of (gt 2 c1) (bind_of (gt 3 d1) rfl)))
end
/-- A frame without commands is empty. -/
theorem none_f {W H : Int} (W1 : 1 ≤ W) (W2 : W ≤ 24) (H1 : 1 ≤ H) (H2 : H ≤ 24) {w : Nat} (w1 : 1 ≤ w) (w7 : w ≤ 7) {h : Nat} (hh : ∀ s, scale_Height_v1.f W H s w = some (h : Int)) (h1 : 1 ≤ h) (h2 : h ≤ 168) :
    ∀ k, 10000 ≤ k → ∃ F : List Int, render_Frame_v1.f k W H 0 [] [] w = some ((w : Int), (h : Int), 0, F) ∧ F.length = 4 * w * h ∧ ∀ v ∈ F, v = 0 := by
  intro k hk
  have row0 : ∀ y : Int, ∀ k, 1000 ≤ k → render_row_v1.f k W H 0 [] [] w y = some (List.replicate (4 * w) 0) := fun y k hk => by
    have l1 : ∀ (n i k : Nat), i + n = w → n < k → render_row_v1.l1 k [] (List.replicate w (0, 0, 0, 0)) (i : Int) (List.replicate (4 * i) 0) = some (List.replicate (4 * w) 0) := by
      intro n
      induction n with
      | zero =>
        intro i k hi hk
        obtain ⟨k, rfl⟩ : ∃ m, k = m + 1 := ⟨k - 1, by omega⟩
        rw [render_row_v1.l1, if_neg (by simp; omega), show i = w by omega]
      | succ n ih =>
        intro i k hi hk
        obtain ⟨k, rfl⟩ : ∃ m, k = m + 1 := ⟨k - 1, by omega⟩
        have hlt : i < (List.replicate w ((0, 0, 0, 0) : Int × Int × Int × Int)).length := by simp; omega
        rw [render_row_v1.l1, if_pos (by omega)]
        refine bind_of ((lgt_nat hlt).trans (congrArg some (List.getElem_replicate hlt))) (bind_of (x := (0, 0, 0, 0)) (by decide +kernel) (bind_of (lapp_ok (by simp; omega)) ?_))
        rw [wnat (by omega), show (List.replicate (4 * i) (0 : Int) ++ [0, 0, 0, 0]) = List.replicate (4 * (i + 1)) 0 from List.replicate_append_replicate (n := 4 * i) (m := 4)]
        exact ih (i + 1) k (by omega) (by omega)
    unfold render_row_v1.f
    obtain ⟨q, rfl⟩ : ∃ m, k = m + 1 := ⟨k - 1, by omega⟩
    refine bind_of (x := List.replicate w (0, 0, 0, 0)) (by unfold lmk; rw [if_pos ⟨by omega, by omega, by omega⟩, Int.toNat_natCast]) (bind_of (x := List.replicate w (0, 0, 0, 0)) (by rw [render_row_v1.l0]; rfl) (bind_of (x := []) ?_ (bind_of (l1 w 0 (q + 1) (by omega) (by omega)) rfl)))
    rw [w64 (n := 4 * (w : Int)) (by omega) (by omega)]
    unfold lmk
    rw [if_pos ⟨by omega, by omega, by omega⟩]
    rfl
  obtain ⟨z, hz⟩ := edges_f (w := (w : Int)) (nc := 0) (Z := []) W1 W2 H1 H2 (Int.le_refl 0) (by omega) (by omega) (by omega) rfl (by show max W H * 1 ≤ 1536; omega) (by simp) (by simp)
  refine ⟨cat (fun _ => List.replicate (4 * w) 0) h, ?_, cat_len h fun _ _ => by simp, ?_⟩
  · unfold render_Frame_v1.f
    refine bind_of (hz k (by omega)) ?_
    dsimp only
    rw [if_pos rfl]
    refine bind_of (x := []) ?_ (bind_of (hh 0) (bind_of (frame_l0 W H 0 w (m := 4 * w) (K := 1000) (by omega) (by omega) (fun y _ => ⟨fun k hk => row0 y k hk, by simp⟩) h 0 k (by omega) (by omega)) rfl))
    obtain ⟨q, rfl⟩ : ∃ m, k = m + 1 := ⟨k - 1, by omega⟩
    unfold render_layers_v1.f
    rw [render_layers_v1.l0]
    rfl
  · have : ∀ n, ∀ v ∈ cat (fun _ => List.replicate (4 * w) (0 : Int)) n, v = 0 := by
      intro n
      induction n with
      | zero => intro v hv; cases hv
      | succ n ih =>
        intro v hv
        rcases List.mem_append.1 hv with hv | hv
        · exact ih v hv
        · exact List.eq_of_mem_replicate hv
    exact this h
theorem zeros_l1 {F : List Int} (hF : ∀ v ∈ F, v = 0) (hl : F.length ≤ 100000) : ∀ (n i k : Nat), i + n = F.length → n < k → glyphiclaw27_RenderRows.l1 k F (i : Int) = some (.inr ())
  | 0, i, k, hi, hk => by
    obtain ⟨k, rfl⟩ : ∃ m, k = m + 1 := ⟨k - 1, by omega⟩
    rw [glyphiclaw27_RenderRows.l1, if_neg (by omega)]
  | n + 1, i, k, hi, hk => by
    obtain ⟨k, rfl⟩ : ∃ m, k = m + 1 := ⟨k - 1, by omega⟩
    have hlt : i < F.length := by omega
    rw [glyphiclaw27_RenderRows.l1, if_pos (by omega)]
    refine bind_of (lgt_nat hlt) ?_
    rw [if_pos (hF _ (List.getElem_mem hlt)), wnat (by omega)]
    exact zeros_l1 hF hl n (i + 1) k (by omega) (by omega)
theorem lgt_at {F : List Int} (n : Nat) : lgt F (n : Int) = F[n]? := by
  unfold lgt
  rw [if_neg (by omega), Int.toNat_natCast]
/-- Six pixels. -/
theorem six_l0 {W H s : Int} {Z : List Cm} {C : List (Int × Int × Int × Int)} {m h : Nat} {F : List Int} (hm : m ≤ 6) (h1 : 1 ≤ h) (h2 : h ≤ 168)
    (hp : ∀ x y : Nat, x < m + 1 → y < h → ∃ a b c d, (∀ k, 10000 ≤ k → render_Pixel_v1.f k W H s C Z ((m + 1 : Nat) : Int) x y = some (a, b, c, d, 0)) ∧ F[4 * (m + 1) * y + 4 * x]? = some a ∧ F[4 * (m + 1) * y + 4 * x + 1]? = some b ∧ F[4 * (m + 1) * y + 4 * x + 2]? = some c ∧ F[4 * (m + 1) * y + 4 * x + 3]? = some d) :
    ∀ (n i k : Nat), i + n = 6 → 10010 + n ≤ k → glyphiclaw27_RenderRows.l0 k W H s Z C (m : Int) ((m + 1 : Nat) : Int) (h : Int) F (i : Int) = some (.inr ())
  | 0, i, k, hi, hk => by
    obtain ⟨k, rfl⟩ : ∃ m, k = m + 1 := ⟨k - 1, by omega⟩
    rw [glyphiclaw27_RenderRows.l0, if_neg (by omega)]
  | n + 1, i, k, hi, hk => by
    obtain ⟨k, rfl⟩ : ∃ m, k = m + 1 := ⟨k - 1, by omega⟩
    have ih := six_l0 hm h1 h2 hp n (i + 1) k (by omega) (by omega)
    have ex : Int.tmod (wr64 ((i : Int) * 5)) ((m + 1 : Nat) : Int) = (((i * 5) % (m + 1) : Nat) : Int) := by
      rw [w64 (by omega) (by omega), show (i : Int) * 5 = ((i * 5 : Nat) : Int) by omega]; rfl
    have ey : Int.tmod (wr64 ((i : Int) * 7)) (h : Int) = (((i * 7) % h : Nat) : Int) := by
      rw [w64 (by omega) (by omega), show (i : Int) * 7 = ((i * 7 : Nat) : Int) by omega]; rfl
    have lx : (i * 5) % (m + 1) < m + 1 := Nat.mod_lt _ (by omega)
    have ly : (i * 7) % h < h := Nat.mod_lt _ (by omega)
    rw [glyphiclaw27_RenderRows.l0, if_pos (by omega), if_neg (by omega), if_neg (by omega), ex, ey, show wr64 (1 + (m : Int)) = ((m + 1 : Nat) : Int) by rw [w64 (by omega) (by omega)]; omega]
    generalize (i * 5) % (m + 1) = x at lx ⊢
    generalize (i * 7) % h = y at ly ⊢
    obtain ⟨a, b, c, d, e, f0, f1, f2, f3⟩ := hp x y lx ly
    have hP : y * (m + 1) ≤ 168 * 7 := Nat.mul_le_mul (by omega) (by omega)
    have eP : 4 * (m + 1) * y = 4 * (y * (m + 1)) := by rw [Nat.mul_assoc, Nat.mul_comm (m + 1) y]
    rw [eP] at f0 f1 f2 f3
    have e0 : (y : Int) * ((m + 1 : Nat) : Int) = ((y * (m + 1) : Nat) : Int) := (Int.natCast_mul y (m + 1)).symm
    rw [e0]
    generalize y * (m + 1) = P at *
    rw [w64 (n := ((P : Nat) : Int)) (by omega) (by omega), w64 (n := (P : Int) + (x : Int)) (by omega) (by omega), w64 (n := 4 * ((P : Int) + (x : Int))) (by omega) (by omega), w64 (n := 4 * ((P : Int) + (x : Int)) + 1) (by omega) (by omega), w64 (n := 4 * ((P : Int) + (x : Int)) + 2) (by omega) (by omega), w64 (n := 4 * ((P : Int) + (x : Int)) + 3) (by omega) (by omega),
      show 4 * ((P : Int) + (x : Int)) + 1 = ((4 * P + 4 * x + 1 : Nat) : Int) by omega, show 4 * ((P : Int) + (x : Int)) + 2 = ((4 * P + 4 * x + 2 : Nat) : Int) by omega, show 4 * ((P : Int) + (x : Int)) + 3 = ((4 * P + 4 * x + 3 : Nat) : Int) by omega, show 4 * ((P : Int) + (x : Int)) = ((4 * P + 4 * x : Nat) : Int) by omega]
    refine bind_of (e k (by omega)) ?_
    dsimp only
    rw [if_pos rfl]
    refine bind_of ((lgt_at _).trans f0) ?_
    rw [if_pos rfl]
    refine bind_of ((lgt_at _).trans f1) ?_
    rw [if_pos rfl]
    refine bind_of ((lgt_at _).trans f2) ?_
    rw [if_pos rfl]
    refine bind_of ((lgt_at _).trans f3) ?_
    rw [if_pos rfl, wnat (by omega)]
    exact ih
theorem first_f (k : Nat) (hk : 10000 ≤ k) : glyphiclaw27_first.f k = some true := by
  have hh : ∀ s, scale_Height_v1.f 1 2 s ((1 : Nat) : Int) = some ((2 : Nat) : Int) := fun s => (show scale_Height_v1.f 1 2 0 1 = some 2 by decide +kernel)
  obtain ⟨F, f1, f2, f3⟩ := none_f (W := 1) (H := 2) (w := 1) (h := 2) (by omega) (by omega) (by omega) (by omega) (by omega) (by omega) hh (by omega) (by omega) k hk
  have f1' : render_Frame_v1.f k 1 2 0 [] [] 1 = some (1, 2, 0, F) := f1
  have hlt : 0 < F.length := by omega
  unfold glyphiclaw27_first.f
  refine bind_of f1' ?_
  dsimp only
  rw [if_pos rfl, if_pos rfl, if_pos rfl, if_pos (by omega)]
  refine bind_of (lgt_nat hlt) ?_
  rw [f3 _ (List.getElem_mem hlt)]
  rfl
theorem RenderRows : glyphiclaw27_RenderRows.Pure := by
  intro t0 o1 ho
  obtain ⟨v, hv, v0, v7⟩ := number_f (n := o1) (b := 7) (by omega) (by omega)
  obtain ⟨m, rfl⟩ : ∃ m : Nat, v = m := ⟨v.toNat, by omega⟩
  refine ⟨100000, ?_⟩
  unfold glyphiclaw27_RenderRows.f
  refine bind_of (first_f 100000 (by omega)) ?_
  rw [if_pos rfl]
  by_cases hl : (t0.length : Int) > 200
  · rw [if_pos hl]
  · rw [if_neg hl]
    obtain ⟨W, H, s, Z, C, at', hi, far, ok⟩ := icon_f t0 100000 (by omega)
    refine bind_of hi (bind_of hv ?_)
    obtain ⟨h, hh, h1, h2⟩ := height_f (w := ((m + 1 : Nat) : Int)) s ok.w1 ok.w2 ok.h1 ok.h2 (by omega) (by omega)
    obtain ⟨F, hF, fl, hp⟩ := both_f (w := m + 1) ok.w1 ok.w2 ok.h1 ok.h2 ok.s0 ok.s6 (by omega) (by omega) ok.fa ok.f2 ok.z ok.n ok.c hh h1 h2
    obtain ⟨G, g1, g2, g3⟩ := none_f (w := m + 1) ok.w1 ok.w2 ok.h1 ok.h2 (by omega) (by omega) hh h1 h2 100000 (by omega)
    have hb : (m + 1) * h ≤ 7 * 168 := Nat.mul_le_mul (by omega) h2
    have e4 : 4 * (m + 1) * h = 4 * ((m + 1) * h) := Nat.mul_assoc _ _ _
    rw [show wr64 (1 + (m : Int)) = ((m + 1 : Nat) : Int) by rw [w64 (by omega) (by omega)]; omega]
    refine bind_of (hF 100000 (by omega)) ?_
    dsimp only
    have hlen : (F.length : Int) = wr64 (wr64 (4 * ((m + 1 : Nat) : Int)) * (h : Int)) := by
      rw [w64 (n := 4 * ((m + 1 : Nat) : Int)) (by omega) (by omega), show 4 * ((m + 1 : Nat) : Int) * (h : Int) = ((4 * (m + 1) * h : Nat) : Int) by rw [Int.natCast_mul, Int.natCast_mul]; rfl, w64 (by omega) (by omega), fl]
    rw [if_pos rfl, if_pos rfl, if_neg (by omega), if_pos hlen]
    refine bind_of (six_l0 (by omega) h1 h2 hp 6 0 100000 (by omega) (by omega)) ?_
    dsimp only
    refine bind_of g1 (bind_of (zeros_l1 g3 (by omega) G.length 0 100000 (by omega) (by omega)) ?_)
    dsimp only
    rw [if_pos rfl, beq_self_eq_true]
end Go.Proofs.YtobjaddicodiaaaDoor.Pure
