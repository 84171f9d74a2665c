/- The plain law of StrokeBoxes. -/
import Derived.Test.YtpimfacaalkmdaaQStrokeBoxesx2
import Derived.OpenShut
namespace Go.Proofs.Ytpimfacaalkmdaa.Pure
open Go Go.RowKit Go.Proofs.Ytpimfacaalkmdaa.QStrokeBoxes Go.Proofs.YtpimfacaalkmdaaE Go.Proofs.YtpimfacaalkmdaaX
set_option linter.unusedVariables false

theorem bind_of {α β : Type} {o : Option α} {f : α → Option β} {x : α} {r : Option β} (h : o = some x) (h2 : f x = r) : o.bind f = r := by
  subst h
  exact h2

theorem div_is {a b q : Int} (hb : 0 < b) (h1 : q * b ≤ a) (h2 : a < q * b + b) : a / b = q := by
  apply Int.le_antisymm
  · exact Int.lt_add_one_iff.1 (Int.ediv_lt_of_lt_mul hb (by rw [Int.add_mul, Int.one_mul]; exact h2))
  · exact Int.le_ediv_of_mul_le hb h1

theorem div_in (a : Int) {b : Int} (hb : 0 < b) : a / b * b ≤ a ∧ a < a / b * b + b := by
  have h1 := Int.mul_ediv_add_emod a b
  have h2 := Int.emod_nonneg a (Int.ne_of_gt hb)
  have h3 := Int.emod_lt_of_pos a hb
  rw [Int.mul_comm] at h1
  omega

theorem div_bd (a : Int) {b : Int} (hb : 0 < b) : (0 ≤ a → 0 ≤ a / b ∧ a / b ≤ a) ∧ (a < 0 → a ≤ a / b ∧ a / b < 0) := by
  obtain ⟨h1, h2⟩ := div_in a hb
  refine ⟨fun h => ⟨Int.ediv_nonneg h (by omega), Int.ediv_le_self _ h⟩, fun h => ⟨?_, Int.ediv_neg_of_neg_of_pos h hb⟩⟩
  exact Int.le_ediv_of_mul_le hb (by
    have : a * b ≤ a * 1 := Int.mul_le_mul_of_nonpos_left (by omega) (by omega)
    omega)

theorem tmod_in (a : Int) {b : Int} (hb : 0 < b) : -b < Int.tmod a b ∧ Int.tmod a b < b := by
  rw [Int.tmod_eq_emod]
  have h2 := Int.emod_nonneg a (show b ≠ 0 by omega)
  have h3 := Int.emod_lt_of_pos a hb
  split
  · omega
  · have : ((b.natAbs : Nat) : Int) = b := by omega
    rename_i h
    have hne : a % b ≠ 0 := fun h0 => h (Or.inr (Int.dvd_of_emod_eq_zero h0))
    omega

theorem tmod_pos {a b : Int} (ha : 0 ≤ a) : Int.tmod a b = a % b := by
  rw [Int.tmod_eq_emod, if_pos (Or.inl ha)]; omega

theorem cyc (a : Int) {b : Int} (hb : 0 < b) (hb1 : b ≤ 4611686018427387903) : ∃ s, Int.tmod (wr64 (Int.tmod a b + b)) b = s ∧ 0 ≤ s ∧ s < b := by
  have h := tmod_in a hb
  refine ⟨_, rfl, ?_⟩
  rw [w64 (by omega) (by omega), tmod_pos (by omega)]
  exact ⟨Int.emod_nonneg _ (by omega), Int.emod_lt_of_pos _ hb⟩

theorem size1 {n : Int} (n0 : -9223372036854775807 ≤ n) (n1 : n ≤ 9223372036854775807) : plane_within_1.f n = some (n.natAbs : Int) := by
  unfold plane_within_1.f mx
  rw [w64 (n := 0 - n) (by omega) (by omega), wru64_eq]
  congr 1
  split <;> omega

theorem within_f {a b c d : Int} (a0 : -9223372036854775807 ≤ a) (a1 : a ≤ 9223372036854775807) (b0 : -9223372036854775807 ≤ b) (b1 : b ≤ 9223372036854775807) (c0 : -9223372036854775807 ≤ c) (c1 : c ≤ 9223372036854775807) (d0 : -9223372036854775807 ≤ d) (d1 : d ≤ 9223372036854775807) :
    plane_within.f a b c d = some (decide ((a.natAbs : Int) * (b.natAbs : Int) ≤ (c.natAbs : Int) * (d.natAbs : Int))) := by
  have M : ∀ x y : Int, 0 ≤ x → x ≤ 9223372036854775807 → 0 ≤ y → y ≤ 9223372036854775807 → bits_Mul64.f x y = some (x * y / 18446744073709551616, x * y % 18446744073709551616) := by
    intro x y h1 h2 h3 h4
    unfold bits_Mul64.f
    rw [if_pos ⟨h1, by omega, h3, by omega⟩]
  unfold plane_within.f
  refine bind_of (size1 a0 a1) (bind_of (size1 b0 b1) (bind_of (M _ _ (by omega) (by omega) (by omega) (by omega)) (bind_of (size1 c0 c1) (bind_of (size1 d0 d1) (bind_of (M _ _ (by omega) (by omega) (by omega) (by omega)) ?_)))))
  dsimp only
  generalize (a.natAbs : Int) * (b.natAbs : Int) = P
  generalize (c.natAbs : Int) * (d.natAbs : Int) = Q
  by_cases h1 : P / 18446744073709551616 < Q / 18446744073709551616
  · rw [if_pos h1, decide_eq_true (by omega)]
  · rw [if_neg h1]
    by_cases h2 : P / 18446744073709551616 = Q / 18446744073709551616
    · rw [if_pos h2]
      congr 1
      by_cases h3 : P ≤ Q
      · rw [decide_eq_true h3, decide_eq_true (by omega)]
      · rw [decide_eq_false h3, decide_eq_false (by omega)]
    · rw [if_neg h2, decide_eq_false (by omega)]

theorem mul_bd {x y M N : Int} (hx0 : -M ≤ x) (hx1 : x ≤ M) (hy0 : -N ≤ y) (hy1 : y ≤ N) : -(M * N) ≤ x * y ∧ x * y ≤ M * N := by
  have h : (x * y).natAbs ≤ M.toNat * N.toNat := by
    rw [Int.natAbs_mul]
    exact Nat.mul_le_mul (by omega) (by omega)
  have e : ((M.toNat * N.toNat : Nat) : Int) = M * N := by
    rw [Int.natCast_mul, Int.toNat_of_nonneg (by omega), Int.toNat_of_nonneg (by omega)]
  omega

/-- Two numbers no farther apart than that. -/
def Nr (a b : Int) : Prop := -268435456 ≤ b - a ∧ b - a ≤ 268435456

theorem prod_bd {a b c d : Int} (h1 : Nr a b) (h2 : Nr c d) : -72057594037927936 ≤ (b - a) * (d - c) ∧ (b - a) * (d - c) ≤ 72057594037927936 := mul_bd (M := 268435456) (N := 268435456) (by have := h1.1; omega) h1.2 (by have := h2.1; omega) h2.2

def crs (ax ay bx by_ px py : Int) : Int := (bx - ax) * (py - ay) - (by_ - ay) * (px - ax)
def dt (ax ay bx by_ px py : Int) : Int := (bx - ax) * (px - ax) + (by_ - ay) * (py - ay)
def ln (ax ay bx by_ : Int) : Int := (bx - ax) * (bx - ax) + (by_ - ay) * (by_ - ay)

theorem sq_nonneg (x : Int) : 0 ≤ x * x := by
  rcases Int.le_total 0 x with h | h
  · exact Int.mul_nonneg h h
  · exact Int.mul_nonneg_of_nonpos_of_nonpos h h

theorem ln_nonneg (ax ay bx by_ : Int) : 0 ≤ ln ax ay bx by_ := by
  unfold ln
  have := sq_nonneg (bx - ax)
  have := sq_nonneg (by_ - ay)
  omega

theorem ln_bd {ax ay bx by_ : Int} (h1 : Nr ax bx) (h2 : Nr ay by_) : ln ax ay bx by_ ≤ 144115188075855872 := by
  unfold ln
  have := prod_bd h1 h1
  have := prod_bd h2 h2
  omega

theorem dt_bd {ax ay bx by_ px py : Int} (h1 : Nr ax bx) (h2 : Nr ay by_) (h3 : Nr ax px) (h4 : Nr ay py) : -144115188075855872 ≤ dt ax ay bx by_ px py ∧ dt ax ay bx by_ px py ≤ 144115188075855872 := by
  unfold dt
  have := prod_bd h1 h3
  have := prod_bd h2 h4
  omega

theorem crs_bd {ax ay bx by_ px py : Int} (h1 : Nr ax bx) (h2 : Nr ay by_) (h3 : Nr ax px) (h4 : Nr ay py) : -144115188075855872 ≤ crs ax ay bx by_ px py ∧ crs ax ay bx by_ px py ≤ 144115188075855872 := by
  unfold crs
  have := prod_bd h1 h4
  have := prod_bd h2 h3
  omega

theorem sub_f {a b c d : Int} (h1 : Nr c a) (h2 : Nr d b) : plane_Sub.f a b c d = some (a - c, b - d) := by
  unfold plane_Sub.f
  rw [w64 (by have := h1.1; omega) (by have := h1.2; omega), w64 (by have := h2.1; omega) (by have := h2.2; omega)]

theorem cross_f {ax ay bx by_ px py : Int} (h1 : Nr ax bx) (h2 : Nr ay by_) (h3 : Nr ax px) (h4 : Nr ay py) : plane_Cross.f ax ay bx by_ px py = some (crs ax ay bx by_ px py) := by
  unfold plane_Cross.f
  refine bind_of (sub_f h1 h2) (bind_of (sub_f h3 h4) ?_)
  have b1 := prod_bd h1 h4
  have b2 := prod_bd h2 h3
  show some (wr64 (wr64 ((bx - ax) * (py - ay)) - wr64 ((by_ - ay) * (px - ax)))) = _
  rw [w64 (n := (bx - ax) * (py - ay)) (by omega) (by omega), w64 (n := (by_ - ay) * (px - ax)) (by omega) (by omega), w64 (by omega) (by omega)]
  rfl

theorem dot_f {ax ay bx by_ px py : Int} (h1 : Nr ax bx) (h2 : Nr ay by_) (h3 : Nr ax px) (h4 : Nr ay py) : plane_Dot.f ax ay bx by_ px py = some (dt ax ay bx by_ px py) := by
  unfold plane_Dot.f
  refine bind_of (sub_f h1 h2) (bind_of (sub_f h3 h4) ?_)
  have b1 := prod_bd h1 h3
  have b2 := prod_bd h2 h4
  show some (wr64 (wr64 ((bx - ax) * (px - ax)) + wr64 ((by_ - ay) * (py - ay)))) = _
  rw [w64 (n := (bx - ax) * (px - ax)) (by omega) (by omega), w64 (n := (by_ - ay) * (py - ay)) (by omega) (by omega), w64 (by omega) (by omega)]
  rfl

theorem len2_f {ax ay bx by_ : Int} (h1 : Nr ax bx) (h2 : Nr ay by_) : plane_Len2.f ax ay bx by_ = some (ln ax ay bx by_) := by
  unfold plane_Len2.f
  exact bind_of (dot_f h1 h2 h1 h2) rfl

/-- Near, as the document says it. -/
def nearB (ax ay bx by_ px py w : Int) : Bool :=
  if dt ax ay bx by_ px py ≤ 0 then decide (4 * ln ax ay px py ≤ w * w)
  else if dt ax ay bx by_ px py ≥ ln ax ay bx by_ then decide (4 * ln bx by_ px py ≤ w * w)
  else decide (4 * (crs ax ay bx by_ px py * crs ax ay bx by_ px py) ≤ w * w * ln ax ay bx by_)

theorem within_len {l w : Int} (l0 : 0 ≤ l) (l1 : l ≤ 144115188075855872) (w0 : 0 ≤ w) (w1 : w ≤ 268435456) : plane_within.f 4 l w w = some (decide (4 * l ≤ w * w)) := by
  rw [within_f (by omega) (by omega) (by omega) (by omega) (by omega) (by omega) (by omega) (by omega)]
  rw [show ((4 : Int).natAbs : Int) = 4 from rfl, show ((l.natAbs : Nat) : Int) = l by omega, show ((w.natAbs : Nat) : Int) = w by omega]

theorem within_side {c l w : Int} (c0 : -144115188075855872 ≤ c) (c1 : c ≤ 144115188075855872) (l0 : 0 ≤ l) (l1 : l ≤ 144115188075855872) (w0 : 0 ≤ w) (w1 : w ≤ 268435456) : plane_within.f (wr64 (2 * c)) (wr64 (2 * c)) (wr64 (w * w)) l = some (decide (4 * (c * c) ≤ w * w * l)) := by
  have h := mul_bd (M := 268435456) (N := 268435456) (x := w) (y := w) (by omega) w1 (by omega) w1
  have hw := sq_nonneg w
  rw [w64 (n := 2 * c) (by omega) (by omega), w64 (n := w * w) (by omega) (by omega)]
  rw [within_f (by omega) (by omega) (by omega) (by omega) (by omega) (by omega) (by omega) (by omega)]
  rw [show (((2 * c).natAbs : Nat) : Int) * (((2 * c).natAbs : Nat) : Int) = 4 * (c * c) by rw [← Int.natCast_mul, Int.natAbs_mul_self]; grind, show ((l.natAbs : Nat) : Int) = l by omega, show (((w * w).natAbs : Nat) : Int) = w * w by omega]

theorem near_f {ax ay bx by_ px py w : Int} (h1 : Nr ax bx) (h2 : Nr ay by_) (h3 : Nr ax px) (h4 : Nr ay py) (h5 : Nr bx px) (h6 : Nr by_ py) (w0 : 0 ≤ w) (w1 : w ≤ 268435456) : plane_Near.f ax ay bx by_ px py w = some (nearB ax ay bx by_ px py w) := by
  unfold plane_Near.f nearB
  refine bind_of (dot_f h1 h2 h3 h4) (bind_of (len2_f h1 h2) ?_)
  by_cases c1 : dt ax ay bx by_ px py ≤ 0
  · rw [if_pos c1, if_pos c1]
    exact bind_of (len2_f h3 h4) (bind_of (within_len (ln_nonneg _ _ _ _) (ln_bd h3 h4) w0 w1) rfl)
  · rw [if_neg c1, if_neg c1]
    by_cases c2 : dt ax ay bx by_ px py ≥ ln ax ay bx by_
    · rw [if_pos c2, if_pos c2]
      exact bind_of (len2_f h5 h6) (bind_of (within_len (ln_nonneg _ _ _ _) (ln_bd h5 h6) w0 w1) rfl)
    · rw [if_neg c2, if_neg c2]
      exact bind_of (cross_f h1 h2 h3 h4) (bind_of (within_side (crs_bd h1 h2 h3 h4).1 (crs_bd h1 h2 h3 h4).2 (ln_nonneg _ _ _ _) (ln_bd h1 h2) w0 w1) rfl)

theorem lgt_ex {T : Type} {L : List T} {i : Int} (h0 : 0 ≤ i) (h1 : i < L.length) : ∃ x, lgt L i = some x := by
  unfold lgt
  rw [if_neg (by omega)]
  exact ⟨L[i.toNat]'(by omega), List.getElem?_eq_getElem (by omega)⟩

theorem number_f {n b : Int} (hb : 0 < b) (hb1 : b ≤ 4611686018427387903) : ∃ v, glyphicworld_Number.f n b = some v ∧ 0 ≤ v ∧ v < b := by
  unfold glyphicworld_Number.f
  rw [if_neg (by omega)]
  have h := tmod_in n hb
  by_cases c : Int.tmod n b < 0
  · rw [if_pos c, w64 (by omega) (by omega)]
    exact ⟨_, rfl, by omega, by omega⟩
  · rw [if_neg c]
    exact ⟨_, rfl, by omega, by omega⟩

theorem next_f {b at_ : Int} (L : List Int) (hb : 0 < b) (hb1 : b ≤ 4611686018427387903) (h0 : 0 ≤ at_) (h1 : at_ ≤ 1000000000) : ∃ v, glyphicmake_Seq_Next_v1.f b L at_ = some (v, at_ + 1) ∧ 0 ≤ v ∧ v < b := by
  unfold glyphicmake_Seq_Next_v1.f
  have e : wr64 (at_ + 1) = at_ + 1 := w64 (by omega) (by omega)
  rw [e]
  by_cases c : at_ < (L.length : Int)
  · obtain ⟨x, hx⟩ := lgt_ex h0 c
    obtain ⟨v, hv, v0, v1⟩ := number_f (n := x) hb hb1
    rw [if_pos c]
    exact ⟨v, bind_of (bind_of hx rfl) (bind_of hv rfl), v0, v1⟩
  · obtain ⟨v, hv, v0, v1⟩ := number_f (n := 0) hb hb1
    rw [if_neg c]
    exact ⟨v, bind_of rfl (bind_of hv rfl), v0, v1⟩

theorem point_f {far at_ : Int} (L : List Int) (hb : 0 ≤ far) (hb1 : far ≤ 1000000000000000) (h0 : 0 ≤ at_) (h1 : at_ ≤ 999999999) : ∃ x y, glyphicmake_Point_v1.f far L at_ = some (x, y, at_ + 2) ∧ (-far ≤ x ∧ x ≤ far) ∧ -far ≤ y ∧ y ≤ far := by
  unfold glyphicmake_Point_v1.f
  have e : wr64 (wr64 (2 * far) + 1) = 2 * far + 1 := by
    rw [w64 (n := 2 * far) (by omega) (by omega), w64 (by omega) (by omega)]
  rw [e]
  obtain ⟨u, hu, u0, u1⟩ := next_f (b := 2 * far + 1) L (by omega) (by omega) h0 (by omega)
  obtain ⟨v, hv, v0, v1⟩ := next_f (b := 2 * far + 1) L (by omega) (by omega) (show 0 ≤ at_ + 1 by omega) (by omega)
  refine ⟨u - far, v - far, bind_of hu (bind_of hv ?_), by omega, by omega⟩
  dsimp only
  rw [w64 (n := u - far) (by omega) (by omega), w64 (n := v - far) (by omega) (by omega), show at_ + 1 + 1 = at_ + 2 by omega]

theorem lgt_nat {T : Type} {L : List T} {i : Nat} (h : i < L.length) : lgt L (i : Int) = some L[i] := by
  unfold lgt
  rw [if_neg (by omega), Int.toNat_natCast, List.getElem?_eq_getElem h]
theorem lapp_ok {T : Type} {L X : List T} (h : L.length + X.length ≤ 4294967296) : lapp L X = some (L ++ X) := by
  unfold lapp
  rw [if_pos h]
theorem wnat {i : Nat} (h : i ≤ 1000000000000) : wr64 ((i : Int) + 1) = ((i + 1 : Nat) : Int) := by
  rw [w64 (by omega) (by omega)]
  omega
/-- No number of an edge is beyond. -/
def In4 (far : Int) (e : Int × Int × Int × Int) : Prop := (-far ≤ e.1 ∧ e.1 ≤ far) ∧ (-far ≤ e.2.1 ∧ e.2.1 ≤ far) ∧ (-far ≤ e.2.2.1 ∧ e.2.2.1 ≤ far) ∧ (-far ≤ e.2.2.2 ∧ e.2.2.2 ≤ far)
theorem edges_l {far : Int} (hf : 0 ≤ far) (hf1 : far ≤ 1000000000000000) (l : List Int) : ∀ (n k : Nat) (y : List (Int × Int × Int × Int)) (at_ : Int), n < k → 0 ≤ at_ → at_ + 4 * n ≤ 900000000 → y.length + n ≤ 1000000 → (∀ e ∈ y, In4 far e) →
    ∃ L at', glyphicmake_Edges_v1.l0 k far l (n : Int) y at_ = some (L, at') ∧ L.length = y.length + n ∧ (∀ e ∈ L, In4 far e) ∧ at_ ≤ at' ∧ at' ≤ at_ + 4 * n
  | 0, k, y, at_, hk, h0, h1, h2, hy => by
    obtain ⟨k, rfl⟩ : ∃ m, k = m + 1 := ⟨k - 1, by omega⟩
    refine ⟨y, at_, ?_, by omega, hy, by omega, by omega⟩
    rw [glyphicmake_Edges_v1.l0, if_neg (by omega)]
  | n + 1, k, y, at_, hk, h0, h1, h2, hy => by
    obtain ⟨k, rfl⟩ : ∃ m, k = m + 1 := ⟨k - 1, by omega⟩
    obtain ⟨a, b, hp, a1, b1⟩ := point_f (far := far) (at_ := at_) l hf hf1 h0 (by omega)
    obtain ⟨c, d, hq, c1, d1⟩ := point_f (far := far) (at_ := at_ + 2) l hf hf1 (by omega) (by omega)
    obtain ⟨L, at', hL, hlen, hin, g1, g2⟩ := edges_l hf hf1 l n k (y ++ [(a, b, c, d)]) (at_ + 2 + 2) (by omega) (by omega) (by omega) (by simp; omega) (by
      intro e he
      rcases List.mem_append.1 he with he | he
      · exact hy e he
      · obtain rfl := List.mem_singleton.1 he
        exact ⟨a1, b1, c1, d1⟩)
    refine ⟨L, at', ?_, by simp at hlen; omega, hin, by omega, by omega⟩
    rw [glyphicmake_Edges_v1.l0, if_pos (by omega)]
    refine bind_of hp (bind_of hq (bind_of (lapp_ok (by simp; omega)) ?_))
    rw [show wr64 (((n + 1 : Nat) : Int) - 1) = (n : Int) by rw [w64 (by omega) (by omega)]; omega]
    exact hL
theorem edges_f {most far at_ : Int} (hm : 0 ≤ most) (hm1 : most ≤ 1000) (hf : 0 ≤ far) (hf1 : far ≤ 1000000000000000) (l : List Int) (h0 : 0 ≤ at_) (h1 : at_ ≤ 800000000) (k : Nat) (hk : most + 1 < k) :
    ∃ L at', glyphicmake_Edges_v1.f k most far l at_ = some (L, at') ∧ (L.length : Int) ≤ most ∧ (∀ e ∈ L, In4 far e) ∧ at_ ≤ at' ∧ at' ≤ at_ + 4 * most + 1 := by
  unfold glyphicmake_Edges_v1.f
  obtain ⟨v, hv, v0, v1⟩ := next_f (b := most + 1) l (by omega) (by omega) h0 (by omega)
  obtain ⟨n, rfl⟩ : ∃ n : Nat, v = n := ⟨v.toNat, by omega⟩
  obtain ⟨L, at', hL, hlen, hin, g1, g2⟩ := edges_l hf hf1 l n k [] (at_ + 1) (by omega) (by omega) (by omega) (by simp; omega) (by simp)
  refine ⟨L, at', bind_of (x := (L, at')) (bind_of (x := ((n : Int), at_ + 1)) ?_ hL) rfl, by simp at hlen; omega, hin, by omega, by omega⟩
  rw [w64 (n := most + 1) (by omega) (by omega)]
  exact hv

def nE (e : Int × Int × Int × Int) (px py w : Int) : Bool := nearB e.1 e.2.1 e.2.2.1 e.2.2.2 px py w
/-- Far enough from overflow. -/
def Gd (e : Int × Int × Int × Int) (px py : Int) : Prop := Nr e.1 e.2.2.1 ∧ Nr e.2.1 e.2.2.2 ∧ Nr e.1 px ∧ Nr e.2.1 py ∧ Nr e.2.2.1 px ∧ Nr e.2.2.2 py
theorem nE_f {e : Int × Int × Int × Int} {px py w : Int} (h : Gd e px py) (w0 : 0 ≤ w) (w1 : w ≤ 268435456) : plane_Near.f e.1 e.2.1 e.2.2.1 e.2.2.2 px py w = some (nE e px py w) :=
  near_f h.1 h.2.1 h.2.2.1 h.2.2.2.1 h.2.2.2.2.1 h.2.2.2.2.2 w0 w1
theorem any_drop {T : Type} {L : List T} {p : T → Bool} {i : Nat} (h : i < L.length) : (L.drop i).any p = (p L[i] || (L.drop (i + 1)).any p) := by
  rw [List.drop_eq_getElem_cons h, List.any_cons]
theorem near_l {L : List (Int × Int × Int × Int)} {px py w : Int} (hL : L.length ≤ 1000000) (hg : ∀ e ∈ L, Gd e px py) (w0 : 0 ≤ w) (w1 : w ≤ 268435456) : ∀ (n i k : Nat), L.length - i = n → i ≤ L.length → n < k →
    ∃ r, api_Edge_v6.l0 k L px py w i = some r ∧ ((∃ j : Int, r = .inl j ∧ 0 ≤ j ∧ (L.drop i).any (fun e => nE e px py w) = true) ∨ (r = .inr () ∧ (L.drop i).any (fun e => nE e px py w) = false))
  | 0, i, k, hn, hi, hk => by
    obtain ⟨k, rfl⟩ : ∃ m, k = m + 1 := ⟨k - 1, by omega⟩
    refine ⟨.inr (), ?_, Or.inr ⟨rfl, ?_⟩⟩
    · rw [api_Edge_v6.l0, if_neg (by omega)]
    · rw [List.drop_eq_nil_of_le (by omega)]; rfl
  | n + 1, i, k, hn, hi, hk => by
    obtain ⟨k, rfl⟩ : ∃ m, k = m + 1 := ⟨k - 1, by omega⟩
    have hlt : i < L.length := by omega
    have hnear := nE_f (hg L[i] (List.getElem_mem hlt)) w0 w1
    have h1 : stroke_Near_1_v2.f L[i].1 L[i].2.1 L[i].2.2.1 L[i].2.2.2 px py w = some (nE L[i] px py w) := bind_of hnear rfl
    rw [api_Edge_v6.l0, if_pos (by omega)]
    cases hb : nE L[i] px py w with
    | true =>
      refine ⟨.inl i, bind_of (lgt_nat hlt) (bind_of h1 ?_), Or.inl ⟨i, rfl, by omega, ?_⟩⟩
      · rw [hb, if_pos rfl]
      · rw [any_drop hlt, hb]; rfl
    | false =>
      obtain ⟨r, hr, hc⟩ := near_l hL hg w0 w1 n (i + 1) k (by omega) (by omega) (by omega)
      refine ⟨r, bind_of (lgt_nat hlt) (bind_of h1 ?_), ?_⟩
      · rw [hb, if_neg (by decide), wnat (by omega)]
        exact hr
      · rw [any_drop hlt, hb, Bool.false_or]
        exact hc
theorem near_all {L : List (Int × Int × Int × Int)} {px py w : Int} (hL : L.length ≤ 1000000) (hg : ∀ e ∈ L, Gd e px py) (w0 : 0 ≤ w) (w1 : w ≤ 268435456) (k : Nat) (hk : L.length < k) : stroke_Near_v3.f k L w px py = some (L.any fun e => nE e px py w) := by
  unfold stroke_Near_v3.f api_Edge_v5.f api_Edge_v6.f
  obtain ⟨r, hr, hc⟩ := near_l hL hg w0 w1 L.length 0 k (by omega) (by omega) hk
  rw [List.drop_zero] at hc
  rcases hc with ⟨j, rfl, j0, h⟩ | ⟨rfl, h⟩
  · refine bind_of (bind_of (bind_of hr rfl) rfl) ?_
    rw [h, decide_eq_true (by omega)]
  · refine bind_of (bind_of (bind_of hr rfl) rfl) ?_
    rw [h]
    rfl

theorem mn_le (a b : Int) : mn a b ≤ a ∧ mn a b ≤ b ∧ (mn a b = a ∨ mn a b = b) := by unfold mn; split <;> omega
theorem mx_ge (a b : Int) : a ≤ mx a b ∧ b ≤ mx a b ∧ (mx a b = a ∨ mx a b = b) := by unfold mx; split <;> omega
/-- Where edges stand. -/
theorem box_l {far : Int} {L : List (Int × Int × Int × Int)} (hL : L.length ≤ 1000000) (hin : ∀ e ∈ L, In4 far e) : ∀ (n i k : Nat) (hx hy lx ly : Int), L.length - i = n → i ≤ L.length → n < k → -far ≤ lx → lx ≤ hx → hx ≤ far → -far ≤ ly → ly ≤ hy → hy ≤ far →
    ∃ a b c d, stroke_Box_v1.l0 k L i hx hy lx ly = some (a, b, c, d) ∧ (hx ≤ a ∧ a ≤ far) ∧ (hy ≤ b ∧ b ≤ far) ∧ (-far ≤ c ∧ c ≤ lx) ∧ (-far ≤ d ∧ d ≤ ly) ∧ ∀ e ∈ L.drop i, (c ≤ e.1 ∧ e.1 ≤ a) ∧ (d ≤ e.2.1 ∧ e.2.1 ≤ b) ∧ (c ≤ e.2.2.1 ∧ e.2.2.1 ≤ a) ∧ (d ≤ e.2.2.2 ∧ e.2.2.2 ≤ b)
  | 0, i, k, hx, hy, lx, ly, hn, hi, hk, h1, h2, h3, h4, h5, h6 => by
    obtain ⟨k, rfl⟩ : ∃ m, k = m + 1 := ⟨k - 1, by omega⟩
    refine ⟨hx, hy, lx, ly, ?_, by omega, by omega, by omega, by omega, ?_⟩
    · rw [stroke_Box_v1.l0, if_neg (by omega)]
    · rw [List.drop_eq_nil_of_le (by omega)]; simp
  | n + 1, i, k, hx, hy, lx, ly, hn, hi, hk, h1, h2, h3, h4, h5, h6 => by
    obtain ⟨k, rfl⟩ : ∃ m, k = m + 1 := ⟨k - 1, by omega⟩
    have hlt : i < L.length := by omega
    obtain ⟨⟨a1, a2⟩, ⟨b1, b2⟩, ⟨c1, c2⟩, d1, d2⟩ := hin L[i] (List.getElem_mem hlt)
    have m1 := mx_ge hx L[i].1
    have m2 := mx_ge (mx hx L[i].1) L[i].2.2.1
    have m3 := mx_ge hy L[i].2.1
    have m4 := mx_ge (mx hy L[i].2.1) L[i].2.2.2
    have n1 := mn_le lx L[i].1
    have n2 := mn_le (mn lx L[i].1) L[i].2.2.1
    have n3 := mn_le ly L[i].2.1
    have n4 := mn_le (mn ly L[i].2.1) L[i].2.2.2
    obtain ⟨a, b, c, d, hr, ha, hb, hc, hd, he⟩ := box_l hL hin n (i + 1) k (mx (mx hx L[i].1) L[i].2.2.1) (mx (mx hy L[i].2.1) L[i].2.2.2) (mn (mn lx L[i].1) L[i].2.2.1) (mn (mn ly L[i].2.1) L[i].2.2.2) (by omega) (by omega) (by omega) (by omega) (by omega) (by omega) (by omega) (by omega) (by omega)
    refine ⟨a, b, c, d, ?_, by omega, by omega, by omega, by omega, ?_⟩
    · rw [stroke_Box_v1.l0, if_pos (by omega)]
      refine bind_of (bind_of (lgt_nat hlt) rfl) ?_
      dsimp only
      rw [wnat (by omega)]
      exact hr
    · intro e hm
      rw [List.drop_eq_getElem_cons hlt] at hm
      rcases List.mem_cons.1 hm with rfl | hm
      · omega
      · exact he e hm
theorem half_f {w : Int} (w0 : 0 ≤ w) (w1 : w ≤ 268435456) : wr64 (Int.tdiv (wr64 (w + 1)) 2) = (w + 1) / 2 := by
  rw [w64 (n := w + 1) (by omega) (by omega), Int.tdiv_eq_ediv, if_pos (Or.inl (by omega)), w64 (by omega) (by omega)]
  omega
/-- The box of edges that are there. -/
theorem box_f {far w : Int} {L : List (Int × Int × Int × Int)} (hL : L.length ≤ 1000000) (hin : ∀ e ∈ L, In4 far e) (hf : far ≤ 1000000000) (h0 : L ≠ []) (w0 : 0 ≤ w) (w1 : w ≤ 268435456) (k : Nat) (hk : L.length < k) :
    ∃ a b c d, stroke_Box_v1.f k L w = some (a - (w + 1) / 2, b - (w + 1) / 2, c + (w + 1) / 2, d + (w + 1) / 2, true) ∧ (-far ≤ a ∧ c ≤ far) ∧ (-far ≤ b ∧ d ≤ far) ∧ ∀ e ∈ L, (a ≤ e.1 ∧ e.1 ≤ c) ∧ (b ≤ e.2.1 ∧ e.2.1 ≤ d) ∧ (a ≤ e.2.2.1 ∧ e.2.2.1 ≤ c) ∧ (b ≤ e.2.2.2 ∧ e.2.2.2 ≤ d) := by
  have hp : 0 < L.length := List.length_pos_iff.2 h0
  obtain ⟨⟨a1, a2⟩, ⟨b1, b2⟩, _⟩ := hin L[0] (List.getElem_mem hp)
  obtain ⟨a, b, c, d, hr, ha, hb, hc, hd, he⟩ := box_l hL hin L.length 0 k L[0].1 L[0].2.1 L[0].1 L[0].2.1 (by omega) (by omega) hk (by omega) (by omega) (by omega) (by omega) (by omega) (by omega)
  refine ⟨c, d, a, b, ?_, by omega, by omega, fun e hm => he e (by simpa using hm)⟩
  unfold stroke_Box_v1.f
  rw [if_neg (by omega)]
  refine bind_of (lgt_nat (i := 0) hp) (bind_of (lgt_nat (i := 0) hp) (bind_of hr ?_))
  dsimp only
  rw [half_f w0 w1, w64 (n := c - (w + 1) / 2) (by omega) (by omega), w64 (n := d - (w + 1) / 2) (by omega) (by omega), w64 (n := a + (w + 1) / 2) (by omega) (by omega), w64 (n := b + (w + 1) / 2) (by omega) (by omega)]
theorem box_0 (w : Int) (k : Nat) : stroke_Box_v1.f k [] w = some (0, 0, 0, 0, false) := by
  unfold stroke_Box_v1.f
  rw [if_pos (by simp)]

theorem copy_l {L : List (Int × Int × Int × Int)} (hL : L.length ≤ 1000000) : ∀ (n i k : Nat) (y : List (Int × Int × Int × Int)), L.length - i = n → i ≤ L.length → n < k → y.length ≤ i → glyphicref_Edges_v1.l0 k L i y = some (y ++ L.drop i)
  | 0, i, k, y, hn, hi, hk, hy => by
    obtain ⟨k, rfl⟩ : ∃ m, k = m + 1 := ⟨k - 1, by omega⟩
    rw [glyphicref_Edges_v1.l0, if_neg (by omega), List.drop_eq_nil_of_le (by omega), List.append_nil]
  | n + 1, i, k, y, hn, hi, hk, hy => by
    obtain ⟨k, rfl⟩ : ∃ m, k = m + 1 := ⟨k - 1, by omega⟩
    have hlt : i < L.length := by omega
    rw [glyphicref_Edges_v1.l0, if_pos (by omega)]
    refine bind_of (lgt_nat hlt) (bind_of (lapp_ok (by simp; omega)) ?_)
    rw [wnat (by omega), copy_l hL n (i + 1) k _ (by omega) (by omega) (by omega) (by simp; omega), List.append_assoc, List.drop_eq_getElem_cons hlt]
    rfl
theorem copy_f {L : List (Int × Int × Int × Int)} (hL : L.length ≤ 1000000) (k : Nat) (hk : L.length < k) : glyphicref_Edges_v1.f k L = some L := by
  unfold glyphicref_Edges_v1.f
  refine bind_of (x := []) ?_ (bind_of (copy_l hL L.length 0 k [] (by omega) (by omega) hk (by simp)) (by simp))
  unfold lmk
  rw [if_pos ⟨by omega, by omega, by omega⟩]
  rfl
theorem sq_mono {a b : Int} (h0 : 0 ≤ a) (h : a ≤ b) : a * a ≤ b * b := Int.mul_le_mul h h h0 (by omega)
theorem sq_inv {a b : Int} (b0 : 0 ≤ b) (h : a * a ≤ b * b) : a ≤ b := by
  by_cases c : a ≤ b
  · exact c
  · have : (b + 1) * (b + 1) ≤ a * a := sq_mono (by omega) (by omega)
    have : (b + 1) * (b + 1) = b * b + 2 * b + 1 := by grind
    omega
theorem near_wide {ax ay bx by_ px py v w : Int} (v0 : 0 ≤ v) (h : v ≤ w) (hn : nearB ax ay bx by_ px py v = true) : nearB ax ay bx by_ px py w = true := by
  have hs := sq_mono v0 h
  have hl := Int.mul_le_mul_of_nonneg_right hs (ln_nonneg ax ay bx by_)
  unfold nearB at hn ⊢
  by_cases c1 : dt ax ay bx by_ px py ≤ 0
  · rw [if_pos c1, decide_eq_true_eq] at hn
    rw [if_pos c1, decide_eq_true_eq]
    omega
  · rw [if_neg c1] at hn ⊢
    by_cases c2 : dt ax ay bx by_ px py ≥ ln ax ay bx by_
    · rw [if_pos c2, decide_eq_true_eq] at hn
      rw [if_pos c2, decide_eq_true_eq]
      omega
    · rw [if_neg c2, decide_eq_true_eq] at hn
      rw [if_neg c2, decide_eq_true_eq]
      omega
theorem near_a (ax ay bx by_ : Int) {w : Int} : nearB ax ay bx by_ ax ay w = true := by
  have d0 : dt ax ay bx by_ ax ay = 0 := by unfold dt; grind
  have l0 : ln ax ay ax ay = 0 := by unfold ln; grind
  have := sq_nonneg w
  unfold nearB
  rw [d0, if_pos (by omega), l0, decide_eq_true_eq]
  omega
theorem near_b (ax ay bx by_ : Int) {w : Int} : nearB ax ay bx by_ bx by_ w = true := by
  have d0 : dt ax ay bx by_ bx by_ = ln ax ay bx by_ := by unfold dt ln; grind
  have l0 : ln bx by_ bx by_ = 0 := by unfold ln; grind
  have := sq_nonneg w
  have := ln_nonneg ax ay bx by_
  unfold nearB
  rw [d0]
  by_cases c : ln ax ay bx by_ ≤ 0
  · rw [if_pos c, decide_eq_true_eq]
    omega
  · rw [if_neg c, if_pos (by omega), l0, decide_eq_true_eq]
    omega
/-- One axis: no farther than half of the width from between. -/
theorem axis_end {d w s : Int} (w0 : 0 ≤ w) (h : 4 * (d * d + s) ≤ w * w) (s0 : 0 ≤ s) : -w ≤ 2 * d ∧ 2 * d ≤ w := by
  have e : (2 * d) * (2 * d) = 4 * (d * d) := by grind
  have h1 := sq_inv (a := 2 * d) w0 (by omega)
  have e2 : (-(2 * d)) * (-(2 * d)) = 4 * (d * d) := by grind
  have h2 := sq_inv (a := -(2 * d)) w0 (by omega)
  omega
theorem axis_side {dx dy ex ey w D C Ln : Int} (w0 : 0 ≤ w) (hD : D = dx * ex + dy * ey) (hC : C = dx * ey - dy * ex) (hL : Ln = dx * dx + dy * dy) (d0 : 0 < D) (d1 : D < Ln) (h : 4 * (C * C) ≤ w * w * Ln) :
    (0 ≤ dx → -w ≤ 2 * ex ∧ 2 * ex ≤ 2 * dx + w) ∧ (dx ≤ 0 → 2 * dx - w ≤ 2 * ex ∧ 2 * ex ≤ w) := by
  have key : Ln * ex = dx * D - dy * C := by subst hD hC hL; grind
  have hy : dy * dy ≤ Ln := by have := sq_nonneg dx; omega
  -- |2 dy C| ≤ w Ln
  have hb : (2 * (dy * C)) * (2 * (dy * C)) ≤ (w * Ln) * (w * Ln) := by
    have e1 : (2 * (dy * C)) * (2 * (dy * C)) = dy * dy * (4 * (C * C)) := by grind
    have e2 : (w * Ln) * (w * Ln) = Ln * (w * w * Ln) := by grind
    rw [e1, e2]
    have g1 : dy * dy * (4 * (C * C)) ≤ Ln * (4 * (C * C)) := Int.mul_le_mul_of_nonneg_right hy (by have := sq_nonneg C; omega)
    have g2 : Ln * (4 * (C * C)) ≤ Ln * (w * w * Ln) := Int.mul_le_mul_of_nonneg_left h (by omega)
    omega
  have hw : 0 ≤ w * Ln := Int.mul_nonneg w0 (by omega)
  have u1 := sq_inv hw hb
  have u2 := sq_inv (a := -(2 * (dy * C))) hw (by rw [Int.neg_mul_neg]; exact hb)
  have lpos : 0 < Ln := by omega
  have lo : ∀ m : Int, Ln * (2 * m) ≤ Ln * (2 * ex + w) → 2 * m ≤ 2 * ex + w := fun m hm => Int.le_of_mul_le_mul_left hm lpos
  have hi : ∀ m : Int, Ln * (2 * ex) ≤ Ln * (2 * m + w) → 2 * ex ≤ 2 * m + w := fun m hm => Int.le_of_mul_le_mul_left hm lpos
  have x1 : Ln * (2 * ex + w) = 2 * (dx * D) - 2 * (dy * C) + w * Ln := by grind
  have x2 : Ln * (2 * ex) = 2 * (dx * D) - 2 * (dy * C) := by grind
  have p1 : ∀ m : Int, Ln * (2 * m + w) = 2 * (Ln * m) + w * Ln := fun m => by grind
  have p2 : ∀ m : Int, Ln * (2 * m) = 2 * (Ln * m) := fun m => by grind
  have hdx : dx * Ln = Ln * dx := Int.mul_comm _ _
  constructor
  · intro g
    have q1 : 0 ≤ dx * D := Int.mul_nonneg g (by omega)
    have q2 : dx * D ≤ dx * Ln := Int.mul_le_mul_of_nonneg_left (by omega) g
    have r1 := lo 0 (by rw [x1, p2]; omega)
    have r2 := hi dx (by rw [x2, p1]; omega)
    omega
  · intro g
    have q1 : dx * D ≤ 0 := Int.mul_nonpos_of_nonpos_of_nonneg g (by omega)
    have q2 : dx * Ln ≤ dx * D := Int.mul_le_mul_of_nonpos_left g (by omega)
    have r1 := lo dx (by rw [x1, p2]; omega)
    have r2 := hi 0 (by rw [x2, p1]; omega)
    omega
/-- What is near stands where the edge stands, and half of the width more. -/
theorem near_box {ax ay bx by_ px py w a b c d : Int} (w0 : 0 ≤ w) (hn : nearB ax ay bx by_ px py w = true) (h1 : a ≤ ax ∧ ax ≤ c) (h2 : b ≤ ay ∧ ay ≤ d) (h3 : a ≤ bx ∧ bx ≤ c) (h4 : b ≤ by_ ∧ by_ ≤ d) :
    a - (w + 1) / 2 ≤ px ∧ px ≤ c + (w + 1) / 2 ∧ b - (w + 1) / 2 ≤ py ∧ py ≤ d + (w + 1) / 2 := by
  unfold nearB at hn
  by_cases c1 : dt ax ay bx by_ px py ≤ 0
  · rw [if_pos c1, decide_eq_true_eq] at hn
    unfold ln at hn
    have q1 := axis_end (d := px - ax) (s := (py - ay) * (py - ay)) w0 hn (sq_nonneg _)
    have q2 := axis_end (d := py - ay) (s := (px - ax) * (px - ax)) w0 (by omega) (sq_nonneg _)
    omega
  · rw [if_neg c1] at hn
    by_cases c2 : dt ax ay bx by_ px py ≥ ln ax ay bx by_
    · rw [if_pos c2, decide_eq_true_eq] at hn
      unfold ln at hn
      have q1 := axis_end (d := px - bx) (s := (py - by_) * (py - by_)) w0 hn (sq_nonneg _)
      have q2 := axis_end (d := py - by_) (s := (px - bx) * (px - bx)) w0 (by omega) (sq_nonneg _)
      omega
    · rw [if_neg c2, decide_eq_true_eq] at hn
      have g1 := axis_side (dx := bx - ax) (dy := by_ - ay) (ex := px - ax) (ey := py - ay) (D := dt ax ay bx by_ px py) (C := crs ax ay bx by_ px py) (Ln := ln ax ay bx by_) w0 rfl rfl rfl (by omega) (by omega) hn
      have g2 := axis_side (dx := by_ - ay) (dy := bx - ax) (ex := py - ay) (ey := px - ax) (D := dt ax ay bx by_ px py) (C := -crs ax ay bx by_ px py) (Ln := ln ax ay bx by_) w0 (by unfold dt; omega) (by unfold crs; omega) (by unfold ln; omega) (by omega) (by omega) (by rw [Int.neg_mul_neg]; exact hn)
      rcases Int.le_total 0 (bx - ax) with x | x <;> rcases Int.le_total 0 (by_ - ay) with y | y
      · have := g1.1 x; have := g2.1 y; omega
      · have := g1.1 x; have := g2.2 y; omega
      · have := g1.2 x; have := g2.1 y; omega
      · have := g1.2 x; have := g2.2 y; omega

theorem StrokeBoxes : glyphiclaw23_StrokeBoxes.Pure := by
  intro l w more x y _ _ _ _
  have hf : glyphiclaw23_first.f = some true := by decide +kernel
  refine ⟨200, ?_⟩
  unfold glyphiclaw23_StrokeBoxes.f
  refine bind_of hf ?_
  rw [if_pos rfl]
  by_cases hl : (l.length : Int) > 100
  · rw [if_pos hl]
  · rw [if_neg hl]
    obtain ⟨L, at', hL, hlen, hin, g1, g2⟩ := edges_f (most := 6) (far := 40) (at_ := 0) (by omega) (by omega) (by omega) (by omega) l (by omega) (by omega) 200 (by omega)
    obtain ⟨M, at2, hM, hlen2, hin2, g3, g4⟩ := edges_f (most := 4) (far := 40) (at_ := at') (by omega) (by omega) (by omega) (by omega) l (by omega) (by omega) 200 (by omega)
    obtain ⟨v, hv, v0, v1⟩ := cyc w (b := 100) (by omega) (by omega)
    obtain ⟨m, hm, m0, m1⟩ := cyc more (b := 50) (by omega) (by omega)
    obtain ⟨px, hx, x0, x1⟩ := cyc x (b := 200) (by omega) (by omega)
    obtain ⟨py, hy, y0, y1⟩ := cyc y (b := 200) (by omega) (by omega)
    have ex : wr64 (Int.tmod (wr64 (Int.tmod x 200 + 200)) 200 - 100) = px - 100 := by rw [hx, w64 (by omega) (by omega)]
    have ey : wr64 (Int.tmod (wr64 (Int.tmod y 200 + 200)) 200 - 100) = py - 100 := by rw [hy, w64 (by omega) (by omega)]
    have good : ∀ (N : List (Int × Int × Int × Int)), (∀ e ∈ N, In4 40 e) → ∀ {qx qy : Int}, -100 ≤ qx ∧ qx ≤ 100 → -100 ≤ qy ∧ qy ≤ 100 → ∀ e ∈ N, Gd e qx qy := by
      intro N h qx qy r1 r2 e he
      obtain ⟨a1, b1, c1, d1⟩ := h e he
      unfold Gd Nr
      omega
    have near : ∀ (N : List (Int × Int × Int × Int)) (k : Nat) {u qx qy : Int}, (∀ e ∈ N, In4 40 e) → N.length ≤ 100 → N.length < k → 0 ≤ u → u ≤ 1000 → -100 ≤ qx ∧ qx ≤ 100 → -100 ≤ qy ∧ qy ≤ 100 → stroke_Near_v3.f k N u qx qy = some (N.any fun e => nE e qx qy u) := by
      intro N k u qx qy h1 h2 h3 h4 h5 h6 h7
      exact near_all (by omega) (good N h1 h6 h7) h4 (by omega) k h3
    have hinA : ∀ e ∈ L ++ M, In4 40 e := fun e he => by
      rcases List.mem_append.1 he with h | h
      · exact hin e h
      · exact hin2 e h
    refine bind_of hL ?_
    dsimp only
    refine bind_of (copy_f (by omega) 200 (by omega)) (bind_of hM ?_)
    dsimp only
    refine bind_of (lapp_ok (by omega)) ?_
    rw [hv, ex, ey]
    generalize hpx : px - 100 = qx
    generalize hpy : py - 100 = qy
    refine bind_of (near L 200 hin (by omega) (by omega) v0 (by omega) (by omega) (by omega)) ?_
    have loop0 : ∀ (n i k : Nat), L.length - i = n → i ≤ L.length → n + L.length < k → glyphiclaw23_StrokeBoxes.l0 k w more x y L i = some (.inr (v, m, true, true, qx, qy)) := by
      intro n
      induction n with
      | zero =>
        intro i k hn hi hk
        obtain ⟨k, rfl⟩ : ∃ m, k = m + 1 := ⟨k - 1, by omega⟩
        rw [glyphiclaw23_StrokeBoxes.l0, if_neg (by omega), hv, hm, ex, ey, hpx, hpy]
      | succ n ih =>
        intro i k hn hi hk
        obtain ⟨k, rfl⟩ : ∃ m, k = m + 1 := ⟨k - 1, by omega⟩
        have hlt : i < L.length := by omega
        obtain ⟨a1, b1, c1, d1⟩ := hin L[i] (List.getElem_mem hlt)
        rw [glyphiclaw23_StrokeBoxes.l0, if_pos (by omega)]
        refine bind_of (lgt_nat hlt) (bind_of (near L k (qx := L[i].1) (qy := L[i].2.1) hin (by omega) (by omega) (by omega) (by omega) (by omega) (by omega)) ?_)
        rw [if_pos (List.any_eq_true.2 ⟨L[i], List.getElem_mem hlt, near_a _ _ _ _⟩)]
        rw [hv]
        refine bind_of (lgt_nat hlt) (bind_of (near L k (qx := L[i].2.2.1) (qy := L[i].2.2.2) hin (by omega) (by omega) v0 (by omega) (by omega) (by omega)) ?_)
        rw [if_pos (List.any_eq_true.2 ⟨L[i], List.getElem_mem hlt, near_b _ _ _ _⟩), wnat (by omega)]
        exact ih (i + 1) k (by omega) (by omega) (by omega)
    have loop1 : ∀ (n i k : Nat), L.length - i = n → i ≤ L.length → n + L.length < k → glyphiclaw23_StrokeBoxes.l1 k w more x y L i = some (.inr (v, m, true, false, qx, qy)) := by
      intro n
      induction n with
      | zero =>
        intro i k hn hi hk
        obtain ⟨k, rfl⟩ : ∃ m, k = m + 1 := ⟨k - 1, by omega⟩
        rw [glyphiclaw23_StrokeBoxes.l1, if_neg (by omega), hv, hm, ex, ey, hpx, hpy]
      | succ n ih =>
        intro i k hn hi hk
        obtain ⟨k, rfl⟩ : ∃ m, k = m + 1 := ⟨k - 1, by omega⟩
        have hlt : i < L.length := by omega
        obtain ⟨a1, b1, c1, d1⟩ := hin L[i] (List.getElem_mem hlt)
        rw [glyphiclaw23_StrokeBoxes.l1, if_pos (by omega)]
        refine bind_of (lgt_nat hlt) (bind_of (near L k (qx := L[i].1) (qy := L[i].2.1) hin (by omega) (by omega) (by omega) (by omega) (by omega) (by omega)) ?_)
        rw [if_pos (List.any_eq_true.2 ⟨L[i], List.getElem_mem hlt, near_a _ _ _ _⟩)]
        rw [hv]
        refine bind_of (lgt_nat hlt) (bind_of (near L k (qx := L[i].2.2.1) (qy := L[i].2.2.2) hin (by omega) (by omega) v0 (by omega) (by omega) (by omega)) ?_)
        rw [if_pos (List.any_eq_true.2 ⟨L[i], List.getElem_mem hlt, near_b _ _ _ _⟩), wnat (by omega)]
        exact ih (i + 1) k (by omega) (by omega) (by omega)
    cases hn : L.any fun e => nE e qx qy v with
    | true =>
      rw [if_pos rfl]
      obtain ⟨e, he, hne⟩ := List.any_eq_true.1 hn
      have hne0 : L ≠ [] := fun h => by subst h; simp at he
      have hpos : 0 < L.length := List.length_pos_iff.2 hne0
      obtain ⟨a, b, c, d, hbox, b1, b2, hall⟩ := box_f (L := L) (by omega) hin (by omega) hne0 v0 (by omega) 200 (by omega)
      obtain ⟨e1, e2, e3, e4⟩ := hall e he
      obtain ⟨n1, n2, n3, n4⟩ := near_box v0 hne e1 e2 e3 e4
      refine bind_of hbox ?_
      dsimp only
      rw [if_pos (by rw [decide_eq_true (by omega)]), if_neg (by omega), if_neg (by omega), if_neg (by omega), if_neg (by omega)]
      refine bind_of (loop0 L.length 0 200 (by omega) (by omega) (by omega)) ?_
      dsimp only
      rw [if_pos rfl, if_pos rfl, w64 (n := v + m) (by omega) (by omega)]
      refine bind_of (near L 200 hin (by omega) (by omega) (by omega) (by omega) (by omega) (by omega)) ?_
      rw [if_pos (List.any_eq_true.2 ⟨e, he, near_wide v0 (by omega) hne⟩)]
      refine bind_of (near (L ++ M) 200 hinA (by simp; omega) (by simp; omega) v0 (by omega) (by omega) (by omega)) ?_
      rw [List.any_append, hn]
      rfl
    | false =>
      rw [if_neg (by decide)]
      obtain ⟨a, b, c, d, f, hbox, hfl⟩ : ∃ a b c d f, stroke_Box_v1.f 200 L v = some (a, b, c, d, f) ∧ f = decide ((L.length : Int) > 0) := by
        by_cases h0 : L = []
        · subst h0
          exact ⟨_, _, _, _, _, box_0 _ _, by simp⟩
        · obtain ⟨a, b, c, d, h, _⟩ := box_f (L := L) (by omega) hin (by omega) h0 v0 (by omega) 200 (by omega)
          have hpos : 0 < L.length := List.length_pos_iff.2 h0
          exact ⟨_, _, _, _, _, h, by rw [decide_eq_true (by omega)]⟩
      refine bind_of hbox ?_
      dsimp only
      rw [if_pos hfl]
      refine bind_of (loop1 L.length 0 200 (by omega) (by omega) (by omega)) ?_
      dsimp only
      rw [if_pos rfl, if_neg (by decide)]

end Go.Proofs.Ytpimfacaalkmdaa.Pure
