/- The plain law of StrokeMoves. -/
import Derived.Test.YtpimfacaalkmdaaQStrokeMovesx0
import Derived.OpenShut
namespace Go.Proofs.Ytpimfacaalkmdaa.Pure
open Go Go.RowKit Go.Proofs.Ytpimfacaalkmdaa.QStrokeMoves Go.Proofs.YtpimfacaalkmdaaE Go.Proofs.YtpimfacaalkmdaaX
set_option linter.unusedVariables false

theorem bind_of {α β : Type} {o : Option α} {f : α → Option β} {x : α} {r : Option β} (h : o = some x) (h2 : f x = r) : o.bind f = r := by
  subst h
  exact h2

theorem div_is {a b q : Int} (hb : 0 < b) (h1 : q * b ≤ a) (h2 : a < q * b + b) : a / b = q := by
  apply Int.le_antisymm
  · exact Int.lt_add_one_iff.1 (Int.ediv_lt_of_lt_mul hb (by rw [Int.add_mul, Int.one_mul]; exact h2))
  · exact Int.le_ediv_of_mul_le hb h1

theorem div_in (a : Int) {b : Int} (hb : 0 < b) : a / b * b ≤ a ∧ a < a / b * b + b := by
  have h1 := Int.mul_ediv_add_emod a b
  have h2 := Int.emod_nonneg a (Int.ne_of_gt hb)
  have h3 := Int.emod_lt_of_pos a hb
  rw [Int.mul_comm] at h1
  omega

theorem div_bd (a : Int) {b : Int} (hb : 0 < b) : (0 ≤ a → 0 ≤ a / b ∧ a / b ≤ a) ∧ (a < 0 → a ≤ a / b ∧ a / b < 0) := by
  obtain ⟨h1, h2⟩ := div_in a hb
  refine ⟨fun h => ⟨Int.ediv_nonneg h (by omega), Int.ediv_le_self _ h⟩, fun h => ⟨?_, Int.ediv_neg_of_neg_of_pos h hb⟩⟩
  exact Int.le_ediv_of_mul_le hb (by
    have : a * b ≤ a * 1 := Int.mul_le_mul_of_nonpos_left (by omega) (by omega)
    omega)

theorem tmod_in (a : Int) {b : Int} (hb : 0 < b) : -b < Int.tmod a b ∧ Int.tmod a b < b := by
  rw [Int.tmod_eq_emod]
  have h2 := Int.emod_nonneg a (show b ≠ 0 by omega)
  have h3 := Int.emod_lt_of_pos a hb
  split
  · omega
  · have : ((b.natAbs : Nat) : Int) = b := by omega
    rename_i h
    have hne : a % b ≠ 0 := fun h0 => h (Or.inr (Int.dvd_of_emod_eq_zero h0))
    omega

theorem tmod_pos {a b : Int} (ha : 0 ≤ a) : Int.tmod a b = a % b := by
  rw [Int.tmod_eq_emod, if_pos (Or.inl ha)]; omega

theorem cyc (a : Int) {b : Int} (hb : 0 < b) (hb1 : b ≤ 4611686018427387903) : ∃ s, Int.tmod (wr64 (Int.tmod a b + b)) b = s ∧ 0 ≤ s ∧ s < b := by
  have h := tmod_in a hb
  refine ⟨_, rfl, ?_⟩
  rw [w64 (by omega) (by omega), tmod_pos (by omega)]
  exact ⟨Int.emod_nonneg _ (by omega), Int.emod_lt_of_pos _ hb⟩

theorem size1 {n : Int} (n0 : -9223372036854775807 ≤ n) (n1 : n ≤ 9223372036854775807) : plane_within_1.f n = some (n.natAbs : Int) := by
  unfold plane_within_1.f mx
  rw [w64 (n := 0 - n) (by omega) (by omega), wru64_eq]
  congr 1
  split <;> omega

theorem within_f {a b c d : Int} (a0 : -9223372036854775807 ≤ a) (a1 : a ≤ 9223372036854775807) (b0 : -9223372036854775807 ≤ b) (b1 : b ≤ 9223372036854775807) (c0 : -9223372036854775807 ≤ c) (c1 : c ≤ 9223372036854775807) (d0 : -9223372036854775807 ≤ d) (d1 : d ≤ 9223372036854775807) :
    plane_within.f a b c d = some (decide ((a.natAbs : Int) * (b.natAbs : Int) ≤ (c.natAbs : Int) * (d.natAbs : Int))) := by
  have M : ∀ x y : Int, 0 ≤ x → x ≤ 9223372036854775807 → 0 ≤ y → y ≤ 9223372036854775807 → bits_Mul64.f x y = some (x * y / 18446744073709551616, x * y % 18446744073709551616) := by
    intro x y h1 h2 h3 h4
    unfold bits_Mul64.f
    rw [if_pos ⟨h1, by omega, h3, by omega⟩]
  unfold plane_within.f
  refine bind_of (size1 a0 a1) (bind_of (size1 b0 b1) (bind_of (M _ _ (by omega) (by omega) (by omega) (by omega)) (bind_of (size1 c0 c1) (bind_of (size1 d0 d1) (bind_of (M _ _ (by omega) (by omega) (by omega) (by omega)) ?_)))))
  dsimp only
  generalize (a.natAbs : Int) * (b.natAbs : Int) = P
  generalize (c.natAbs : Int) * (d.natAbs : Int) = Q
  by_cases h1 : P / 18446744073709551616 < Q / 18446744073709551616
  · rw [if_pos h1, decide_eq_true (by omega)]
  · rw [if_neg h1]
    by_cases h2 : P / 18446744073709551616 = Q / 18446744073709551616
    · rw [if_pos h2]
      congr 1
      by_cases h3 : P ≤ Q
      · rw [decide_eq_true h3, decide_eq_true (by omega)]
      · rw [decide_eq_false h3, decide_eq_false (by omega)]
    · rw [if_neg h2, decide_eq_false (by omega)]

theorem mul_bd {x y M N : Int} (hx0 : -M ≤ x) (hx1 : x ≤ M) (hy0 : -N ≤ y) (hy1 : y ≤ N) : -(M * N) ≤ x * y ∧ x * y ≤ M * N := by
  have h : (x * y).natAbs ≤ M.toNat * N.toNat := by
    rw [Int.natAbs_mul]
    exact Nat.mul_le_mul (by omega) (by omega)
  have e : ((M.toNat * N.toNat : Nat) : Int) = M * N := by
    rw [Int.natCast_mul, Int.toNat_of_nonneg (by omega), Int.toNat_of_nonneg (by omega)]
  omega

/-- Two numbers no farther apart than that. -/
def Nr (a b : Int) : Prop := -268435456 ≤ b - a ∧ b - a ≤ 268435456

theorem prod_bd {a b c d : Int} (h1 : Nr a b) (h2 : Nr c d) : -72057594037927936 ≤ (b - a) * (d - c) ∧ (b - a) * (d - c) ≤ 72057594037927936 := mul_bd (M := 268435456) (N := 268435456) (by have := h1.1; omega) h1.2 (by have := h2.1; omega) h2.2

def crs (ax ay bx by_ px py : Int) : Int := (bx - ax) * (py - ay) - (by_ - ay) * (px - ax)
def dt (ax ay bx by_ px py : Int) : Int := (bx - ax) * (px - ax) + (by_ - ay) * (py - ay)
def ln (ax ay bx by_ : Int) : Int := (bx - ax) * (bx - ax) + (by_ - ay) * (by_ - ay)

theorem sq_nonneg (x : Int) : 0 ≤ x * x := by
  rcases Int.le_total 0 x with h | h
  · exact Int.mul_nonneg h h
  · exact Int.mul_nonneg_of_nonpos_of_nonpos h h

theorem ln_nonneg (ax ay bx by_ : Int) : 0 ≤ ln ax ay bx by_ := by
  unfold ln
  have := sq_nonneg (bx - ax)
  have := sq_nonneg (by_ - ay)
  omega

theorem ln_bd {ax ay bx by_ : Int} (h1 : Nr ax bx) (h2 : Nr ay by_) : ln ax ay bx by_ ≤ 144115188075855872 := by
  unfold ln
  have := prod_bd h1 h1
  have := prod_bd h2 h2
  omega

theorem dt_bd {ax ay bx by_ px py : Int} (h1 : Nr ax bx) (h2 : Nr ay by_) (h3 : Nr ax px) (h4 : Nr ay py) : -144115188075855872 ≤ dt ax ay bx by_ px py ∧ dt ax ay bx by_ px py ≤ 144115188075855872 := by
  unfold dt
  have := prod_bd h1 h3
  have := prod_bd h2 h4
  omega

theorem crs_bd {ax ay bx by_ px py : Int} (h1 : Nr ax bx) (h2 : Nr ay by_) (h3 : Nr ax px) (h4 : Nr ay py) : -144115188075855872 ≤ crs ax ay bx by_ px py ∧ crs ax ay bx by_ px py ≤ 144115188075855872 := by
  unfold crs
  have := prod_bd h1 h4
  have := prod_bd h2 h3
  omega

theorem sub_f {a b c d : Int} (h1 : Nr c a) (h2 : Nr d b) : plane_Sub.f a b c d = some (a - c, b - d) := by
  unfold plane_Sub.f
  rw [w64 (by have := h1.1; omega) (by have := h1.2; omega), w64 (by have := h2.1; omega) (by have := h2.2; omega)]

theorem cross_f {ax ay bx by_ px py : Int} (h1 : Nr ax bx) (h2 : Nr ay by_) (h3 : Nr ax px) (h4 : Nr ay py) : plane_Cross.f ax ay bx by_ px py = some (crs ax ay bx by_ px py) := by
  unfold plane_Cross.f
  refine bind_of (sub_f h1 h2) (bind_of (sub_f h3 h4) ?_)
  have b1 := prod_bd h1 h4
  have b2 := prod_bd h2 h3
  show some (wr64 (wr64 ((bx - ax) * (py - ay)) - wr64 ((by_ - ay) * (px - ax)))) = _
  rw [w64 (n := (bx - ax) * (py - ay)) (by omega) (by omega), w64 (n := (by_ - ay) * (px - ax)) (by omega) (by omega), w64 (by omega) (by omega)]
  rfl

theorem dot_f {ax ay bx by_ px py : Int} (h1 : Nr ax bx) (h2 : Nr ay by_) (h3 : Nr ax px) (h4 : Nr ay py) : plane_Dot.f ax ay bx by_ px py = some (dt ax ay bx by_ px py) := by
  unfold plane_Dot.f
  refine bind_of (sub_f h1 h2) (bind_of (sub_f h3 h4) ?_)
  have b1 := prod_bd h1 h3
  have b2 := prod_bd h2 h4
  show some (wr64 (wr64 ((bx - ax) * (px - ax)) + wr64 ((by_ - ay) * (py - ay)))) = _
  rw [w64 (n := (bx - ax) * (px - ax)) (by omega) (by omega), w64 (n := (by_ - ay) * (py - ay)) (by omega) (by omega), w64 (by omega) (by omega)]
  rfl

theorem len2_f {ax ay bx by_ : Int} (h1 : Nr ax bx) (h2 : Nr ay by_) : plane_Len2.f ax ay bx by_ = some (ln ax ay bx by_) := by
  unfold plane_Len2.f
  exact bind_of (dot_f h1 h2 h1 h2) rfl

/-- Near, as the document says it. -/
def nearB (ax ay bx by_ px py w : Int) : Bool :=
  if dt ax ay bx by_ px py ≤ 0 then decide (4 * ln ax ay px py ≤ w * w)
  else if dt ax ay bx by_ px py ≥ ln ax ay bx by_ then decide (4 * ln bx by_ px py ≤ w * w)
  else decide (4 * (crs ax ay bx by_ px py * crs ax ay bx by_ px py) ≤ w * w * ln ax ay bx by_)

theorem within_len {l w : Int} (l0 : 0 ≤ l) (l1 : l ≤ 144115188075855872) (w0 : 0 ≤ w) (w1 : w ≤ 268435456) : plane_within.f 4 l w w = some (decide (4 * l ≤ w * w)) := by
  rw [within_f (by omega) (by omega) (by omega) (by omega) (by omega) (by omega) (by omega) (by omega)]
  rw [show ((4 : Int).natAbs : Int) = 4 from rfl, show ((l.natAbs : Nat) : Int) = l by omega, show ((w.natAbs : Nat) : Int) = w by omega]

theorem within_side {c l w : Int} (c0 : -144115188075855872 ≤ c) (c1 : c ≤ 144115188075855872) (l0 : 0 ≤ l) (l1 : l ≤ 144115188075855872) (w0 : 0 ≤ w) (w1 : w ≤ 268435456) : plane_within.f (wr64 (2 * c)) (wr64 (2 * c)) (wr64 (w * w)) l = some (decide (4 * (c * c) ≤ w * w * l)) := by
  have h := mul_bd (M := 268435456) (N := 268435456) (x := w) (y := w) (by omega) w1 (by omega) w1
  have hw := sq_nonneg w
  rw [w64 (n := 2 * c) (by omega) (by omega), w64 (n := w * w) (by omega) (by omega)]
  rw [within_f (by omega) (by omega) (by omega) (by omega) (by omega) (by omega) (by omega) (by omega)]
  rw [show (((2 * c).natAbs : Nat) : Int) * (((2 * c).natAbs : Nat) : Int) = 4 * (c * c) by rw [← Int.natCast_mul, Int.natAbs_mul_self]; grind, show ((l.natAbs : Nat) : Int) = l by omega, show (((w * w).natAbs : Nat) : Int) = w * w by omega]

theorem near_f {ax ay bx by_ px py w : Int} (h1 : Nr ax bx) (h2 : Nr ay by_) (h3 : Nr ax px) (h4 : Nr ay py) (h5 : Nr bx px) (h6 : Nr by_ py) (w0 : 0 ≤ w) (w1 : w ≤ 268435456) : plane_Near.f ax ay bx by_ px py w = some (nearB ax ay bx by_ px py w) := by
  unfold plane_Near.f nearB
  refine bind_of (dot_f h1 h2 h3 h4) (bind_of (len2_f h1 h2) ?_)
  by_cases c1 : dt ax ay bx by_ px py ≤ 0
  · rw [if_pos c1, if_pos c1]
    exact bind_of (len2_f h3 h4) (bind_of (within_len (ln_nonneg _ _ _ _) (ln_bd h3 h4) w0 w1) rfl)
  · rw [if_neg c1, if_neg c1]
    by_cases c2 : dt ax ay bx by_ px py ≥ ln ax ay bx by_
    · rw [if_pos c2, if_pos c2]
      exact bind_of (len2_f h5 h6) (bind_of (within_len (ln_nonneg _ _ _ _) (ln_bd h5 h6) w0 w1) rfl)
    · rw [if_neg c2, if_neg c2]
      exact bind_of (cross_f h1 h2 h3 h4) (bind_of (within_side (crs_bd h1 h2 h3 h4).1 (crs_bd h1 h2 h3 h4).2 (ln_nonneg _ _ _ _) (ln_bd h1 h2) w0 w1) rfl)

theorem lgt_ex {T : Type} {L : List T} {i : Int} (h0 : 0 ≤ i) (h1 : i < L.length) : ∃ x, lgt L i = some x := by
  unfold lgt
  rw [if_neg (by omega)]
  exact ⟨L[i.toNat]'(by omega), List.getElem?_eq_getElem (by omega)⟩

theorem number_f {n b : Int} (hb : 0 < b) (hb1 : b ≤ 4611686018427387903) : ∃ v, glyphicworld_Number.f n b = some v ∧ 0 ≤ v ∧ v < b := by
  unfold glyphicworld_Number.f
  rw [if_neg (by omega)]
  have h := tmod_in n hb
  by_cases c : Int.tmod n b < 0
  · rw [if_pos c, w64 (by omega) (by omega)]
    exact ⟨_, rfl, by omega, by omega⟩
  · rw [if_neg c]
    exact ⟨_, rfl, by omega, by omega⟩

theorem next_f {b at_ : Int} (L : List Int) (hb : 0 < b) (hb1 : b ≤ 4611686018427387903) (h0 : 0 ≤ at_) (h1 : at_ ≤ 1000000000) : ∃ v, glyphicmake_Seq_Next_v1.f b L at_ = some (v, at_ + 1) ∧ 0 ≤ v ∧ v < b := by
  unfold glyphicmake_Seq_Next_v1.f
  have e : wr64 (at_ + 1) = at_ + 1 := w64 (by omega) (by omega)
  rw [e]
  by_cases c : at_ < (L.length : Int)
  · obtain ⟨x, hx⟩ := lgt_ex h0 c
    obtain ⟨v, hv, v0, v1⟩ := number_f (n := x) hb hb1
    rw [if_pos c]
    exact ⟨v, bind_of (bind_of hx rfl) (bind_of hv rfl), v0, v1⟩
  · obtain ⟨v, hv, v0, v1⟩ := number_f (n := 0) hb hb1
    rw [if_neg c]
    exact ⟨v, bind_of rfl (bind_of hv rfl), v0, v1⟩

theorem point_f {far at_ : Int} (L : List Int) (hb : 0 ≤ far) (hb1 : far ≤ 1000000000000000) (h0 : 0 ≤ at_) (h1 : at_ ≤ 999999999) : ∃ x y, glyphicmake_Point_v1.f far L at_ = some (x, y, at_ + 2) ∧ (-far ≤ x ∧ x ≤ far) ∧ -far ≤ y ∧ y ≤ far := by
  unfold glyphicmake_Point_v1.f
  have e : wr64 (wr64 (2 * far) + 1) = 2 * far + 1 := by
    rw [w64 (n := 2 * far) (by omega) (by omega), w64 (by omega) (by omega)]
  rw [e]
  obtain ⟨u, hu, u0, u1⟩ := next_f (b := 2 * far + 1) L (by omega) (by omega) h0 (by omega)
  obtain ⟨v, hv, v0, v1⟩ := next_f (b := 2 * far + 1) L (by omega) (by omega) (show 0 ≤ at_ + 1 by omega) (by omega)
  refine ⟨u - far, v - far, bind_of hu (bind_of hv ?_), by omega, by omega⟩
  dsimp only
  rw [w64 (n := u - far) (by omega) (by omega), w64 (n := v - far) (by omega) (by omega), show at_ + 1 + 1 = at_ + 2 by omega]

theorem lgt_nat {T : Type} {L : List T} {i : Nat} (h : i < L.length) : lgt L (i : Int) = some L[i] := by
  unfold lgt
  rw [if_neg (by omega), Int.toNat_natCast, List.getElem?_eq_getElem h]
theorem lapp_ok {T : Type} {L X : List T} (h : L.length + X.length ≤ 4294967296) : lapp L X = some (L ++ X) := by
  unfold lapp
  rw [if_pos h]
theorem wnat {i : Nat} (h : i ≤ 1000000000000) : wr64 ((i : Int) + 1) = ((i + 1 : Nat) : Int) := by
  rw [w64 (by omega) (by omega)]
  omega
/-- No number of an edge is beyond. -/
def In4 (far : Int) (e : Int × Int × Int × Int) : Prop := (-far ≤ e.1 ∧ e.1 ≤ far) ∧ (-far ≤ e.2.1 ∧ e.2.1 ≤ far) ∧ (-far ≤ e.2.2.1 ∧ e.2.2.1 ≤ far) ∧ (-far ≤ e.2.2.2 ∧ e.2.2.2 ≤ far)
theorem edges_l {far : Int} (hf : 0 ≤ far) (hf1 : far ≤ 1000000000000000) (l : List Int) : ∀ (n k : Nat) (y : List (Int × Int × Int × Int)) (at_ : Int), n < k → 0 ≤ at_ → at_ + 4 * n ≤ 900000000 → y.length + n ≤ 1000000 → (∀ e ∈ y, In4 far e) →
    ∃ L at', glyphicmake_Edges_v1.l0 k far l (n : Int) y at_ = some (L, at') ∧ L.length = y.length + n ∧ (∀ e ∈ L, In4 far e) ∧ at_ ≤ at' ∧ at' ≤ at_ + 4 * n
  | 0, k, y, at_, hk, h0, h1, h2, hy => by
    obtain ⟨k, rfl⟩ : ∃ m, k = m + 1 := ⟨k - 1, by omega⟩
    refine ⟨y, at_, ?_, by omega, hy, by omega, by omega⟩
    rw [glyphicmake_Edges_v1.l0, if_neg (by omega)]
  | n + 1, k, y, at_, hk, h0, h1, h2, hy => by
    obtain ⟨k, rfl⟩ : ∃ m, k = m + 1 := ⟨k - 1, by omega⟩
    obtain ⟨a, b, hp, a1, b1⟩ := point_f (far := far) (at_ := at_) l hf hf1 h0 (by omega)
    obtain ⟨c, d, hq, c1, d1⟩ := point_f (far := far) (at_ := at_ + 2) l hf hf1 (by omega) (by omega)
    obtain ⟨L, at', hL, hlen, hin, g1, g2⟩ := edges_l hf hf1 l n k (y ++ [(a, b, c, d)]) (at_ + 2 + 2) (by omega) (by omega) (by omega) (by simp; omega) (by
      intro e he
      rcases List.mem_append.1 he with he | he
      · exact hy e he
      · obtain rfl := List.mem_singleton.1 he
        exact ⟨a1, b1, c1, d1⟩)
    refine ⟨L, at', ?_, by simp at hlen; omega, hin, by omega, by omega⟩
    rw [glyphicmake_Edges_v1.l0, if_pos (by omega)]
    refine bind_of hp (bind_of hq (bind_of (lapp_ok (by simp; omega)) ?_))
    rw [show wr64 (((n + 1 : Nat) : Int) - 1) = (n : Int) by rw [w64 (by omega) (by omega)]; omega]
    exact hL
theorem edges_f {most far at_ : Int} (hm : 0 ≤ most) (hm1 : most ≤ 1000) (hf : 0 ≤ far) (hf1 : far ≤ 1000000000000000) (l : List Int) (h0 : 0 ≤ at_) (h1 : at_ ≤ 800000000) (k : Nat) (hk : most + 1 < k) :
    ∃ L at', glyphicmake_Edges_v1.f k most far l at_ = some (L, at') ∧ (L.length : Int) ≤ most ∧ (∀ e ∈ L, In4 far e) ∧ at_ ≤ at' ∧ at' ≤ at_ + 4 * most + 1 := by
  unfold glyphicmake_Edges_v1.f
  obtain ⟨v, hv, v0, v1⟩ := next_f (b := most + 1) l (by omega) (by omega) h0 (by omega)
  obtain ⟨n, rfl⟩ : ∃ n : Nat, v = n := ⟨v.toNat, by omega⟩
  obtain ⟨L, at', hL, hlen, hin, g1, g2⟩ := edges_l hf hf1 l n k [] (at_ + 1) (by omega) (by omega) (by omega) (by simp; omega) (by simp)
  refine ⟨L, at', bind_of (x := (L, at')) (bind_of (x := ((n : Int), at_ + 1)) ?_ hL) rfl, by simp at hlen; omega, hin, by omega, by omega⟩
  rw [w64 (n := most + 1) (by omega) (by omega)]
  exact hv

def nE (e : Int × Int × Int × Int) (px py w : Int) : Bool := nearB e.1 e.2.1 e.2.2.1 e.2.2.2 px py w
/-- Far enough from overflow. -/
def Gd (e : Int × Int × Int × Int) (px py : Int) : Prop := Nr e.1 e.2.2.1 ∧ Nr e.2.1 e.2.2.2 ∧ Nr e.1 px ∧ Nr e.2.1 py ∧ Nr e.2.2.1 px ∧ Nr e.2.2.2 py
theorem nE_f {e : Int × Int × Int × Int} {px py w : Int} (h : Gd e px py) (w0 : 0 ≤ w) (w1 : w ≤ 268435456) : plane_Near.f e.1 e.2.1 e.2.2.1 e.2.2.2 px py w = some (nE e px py w) :=
  near_f h.1 h.2.1 h.2.2.1 h.2.2.2.1 h.2.2.2.2.1 h.2.2.2.2.2 w0 w1
theorem any_drop {T : Type} {L : List T} {p : T → Bool} {i : Nat} (h : i < L.length) : (L.drop i).any p = (p L[i] || (L.drop (i + 1)).any p) := by
  rw [List.drop_eq_getElem_cons h, List.any_cons]
theorem near_l {L : List (Int × Int × Int × Int)} {px py w : Int} (hL : L.length ≤ 1000000) (hg : ∀ e ∈ L, Gd e px py) (w0 : 0 ≤ w) (w1 : w ≤ 268435456) : ∀ (n i k : Nat), L.length - i = n → i ≤ L.length → n < k →
    ∃ r, api_Edge_v6.l0 k L px py w i = some r ∧ ((∃ j : Int, r = .inl j ∧ 0 ≤ j ∧ (L.drop i).any (fun e => nE e px py w) = true) ∨ (r = .inr () ∧ (L.drop i).any (fun e => nE e px py w) = false))
  | 0, i, k, hn, hi, hk => by
    obtain ⟨k, rfl⟩ : ∃ m, k = m + 1 := ⟨k - 1, by omega⟩
    refine ⟨.inr (), ?_, Or.inr ⟨rfl, ?_⟩⟩
    · rw [api_Edge_v6.l0, if_neg (by omega)]
    · rw [List.drop_eq_nil_of_le (by omega)]; rfl
  | n + 1, i, k, hn, hi, hk => by
    obtain ⟨k, rfl⟩ : ∃ m, k = m + 1 := ⟨k - 1, by omega⟩
    have hlt : i < L.length := by omega
    have hnear := nE_f (hg L[i] (List.getElem_mem hlt)) w0 w1
    have h1 : stroke_Near_1_v2.f L[i].1 L[i].2.1 L[i].2.2.1 L[i].2.2.2 px py w = some (nE L[i] px py w) := bind_of hnear rfl
    rw [api_Edge_v6.l0, if_pos (by omega)]
    cases hb : nE L[i] px py w with
    | true =>
      refine ⟨.inl i, bind_of (lgt_nat hlt) (bind_of h1 ?_), Or.inl ⟨i, rfl, by omega, ?_⟩⟩
      · rw [hb, if_pos rfl]
      · rw [any_drop hlt, hb]; rfl
    | false =>
      obtain ⟨r, hr, hc⟩ := near_l hL hg w0 w1 n (i + 1) k (by omega) (by omega) (by omega)
      refine ⟨r, bind_of (lgt_nat hlt) (bind_of h1 ?_), ?_⟩
      · rw [hb, if_neg (by decide), wnat (by omega)]
        exact hr
      · rw [any_drop hlt, hb, Bool.false_or]
        exact hc
theorem near_all {L : List (Int × Int × Int × Int)} {px py w : Int} (hL : L.length ≤ 1000000) (hg : ∀ e ∈ L, Gd e px py) (w0 : 0 ≤ w) (w1 : w ≤ 268435456) (k : Nat) (hk : L.length < k) : stroke_Near_v3.f k L w px py = some (L.any fun e => nE e px py w) := by
  unfold stroke_Near_v3.f api_Edge_v5.f api_Edge_v6.f
  obtain ⟨r, hr, hc⟩ := near_l hL hg w0 w1 L.length 0 k (by omega) (by omega) hk
  rw [List.drop_zero] at hc
  rcases hc with ⟨j, rfl, j0, h⟩ | ⟨rfl, h⟩
  · refine bind_of (bind_of (bind_of hr rfl) rfl) ?_
    rw [h, decide_eq_true (by omega)]
  · refine bind_of (bind_of (bind_of hr rfl) rfl) ?_
    rw [h]
    rfl

theorem near_shift (ax ay bx by_ px py w u v : Int) : nearB (ax + u) (ay + v) (bx + u) (by_ + v) (px + u) (py + v) w = nearB ax ay bx by_ px py w := by
  have e1 : ∀ a b c : Int, (a + c) - (b + c) = a - b := fun a b c => by omega
  unfold nearB dt ln crs
  simp only [e1]
theorem near_swap (ax ay bx by_ px py w : Int) : nearB bx by_ ax ay px py w = nearB ax ay bx by_ px py w := by
  have d1 : dt bx by_ ax ay px py = ln ax ay bx by_ - dt ax ay bx by_ px py := by unfold dt ln; grind
  have l1 : ln bx by_ ax ay = ln ax ay bx by_ := by unfold ln; grind
  have c1 : crs bx by_ ax ay px py = -crs ax ay bx by_ px py := by unfold crs; grind
  have l0 : 0 ≤ ln ax ay bx by_ := ln_nonneg _ _ _ _
  unfold nearB
  rw [d1, l1, c1, Int.neg_mul_neg]
  by_cases h1 : dt ax ay bx by_ px py ≤ 0
  · by_cases h2 : dt ax ay bx by_ px py ≥ ln ax ay bx by_
    · rw [if_pos (show ln ax ay bx by_ - dt ax ay bx by_ px py ≤ 0 by omega), if_pos h1]
      have hz : ln ax ay bx by_ = 0 := by omega
      have s1 := sq_nonneg (bx - ax)
      have s2 := sq_nonneg (by_ - ay)
      have z1 : (bx - ax) * (bx - ax) = 0 := by unfold ln at hz; omega
      have z2 : (by_ - ay) * (by_ - ay) = 0 := by unfold ln at hz; omega
      have y1 : bx - ax = 0 := by rcases Int.mul_eq_zero.1 z1 with h | h <;> exact h
      have y2 : by_ - ay = 0 := by rcases Int.mul_eq_zero.1 z2 with h | h <;> exact h
      obtain rfl : bx = ax := by omega
      obtain rfl : by_ = ay := by omega
      rfl
    · rw [if_neg (show ¬ ln ax ay bx by_ - dt ax ay bx by_ px py ≤ 0 by omega), if_pos (show ln ax ay bx by_ - dt ax ay bx by_ px py ≥ ln ax ay bx by_ by omega), if_pos h1]
  · by_cases h2 : dt ax ay bx by_ px py ≥ ln ax ay bx by_
    · rw [if_pos (show ln ax ay bx by_ - dt ax ay bx by_ px py ≤ 0 by omega), if_neg h1, if_pos h2]
    · rw [if_neg (show ¬ ln ax ay bx by_ - dt ax ay bx by_ px py ≤ 0 by omega), if_neg (show ¬ ln ax ay bx by_ - dt ax ay bx by_ px py ≥ ln ax ay bx by_ by omega), if_neg h1, if_neg h2]

theorem copy_l {L : List (Int × Int × Int × Int)} (hL : L.length ≤ 1000000) : ∀ (n i k : Nat) (y : List (Int × Int × Int × Int)), L.length - i = n → i ≤ L.length → n < k → y.length ≤ i → glyphicref_Edges_v1.l0 k L i y = some (y ++ L.drop i)
  | 0, i, k, y, hn, hi, hk, hy => by
    obtain ⟨k, rfl⟩ : ∃ m, k = m + 1 := ⟨k - 1, by omega⟩
    rw [glyphicref_Edges_v1.l0, if_neg (by omega), List.drop_eq_nil_of_le (by omega), List.append_nil]
  | n + 1, i, k, y, hn, hi, hk, hy => by
    obtain ⟨k, rfl⟩ : ∃ m, k = m + 1 := ⟨k - 1, by omega⟩
    have hlt : i < L.length := by omega
    rw [glyphicref_Edges_v1.l0, if_pos (by omega)]
    refine bind_of (lgt_nat hlt) (bind_of (lapp_ok (by simp; omega)) ?_)
    rw [wnat (by omega), copy_l hL n (i + 1) k _ (by omega) (by omega) (by omega) (by simp; omega), List.append_assoc, List.drop_eq_getElem_cons hlt]
    rfl
theorem copy_f {L : List (Int × Int × Int × Int)} (hL : L.length ≤ 1000000) (k : Nat) (hk : L.length < k) : glyphicref_Edges_v1.f k L = some L := by
  unfold glyphicref_Edges_v1.f
  refine bind_of (x := []) ?_ (bind_of (copy_l hL L.length 0 k [] (by omega) (by omega) hk (by simp)) (by simp))
  unfold lmk
  rw [if_pos ⟨by omega, by omega, by omega⟩]
  rfl

def shiftE (u v : Int) (e : Int × Int × Int × Int) : Int × Int × Int × Int := (e.1 + u, e.2.1 + v, e.2.2.1 + u, e.2.2.2 + v)
def swapE (e : Int × Int × Int × Int) : Int × Int × Int × Int := (e.2.2.1, e.2.2.2, e.1, e.2.1)
theorem moves_l {L : List (Int × Int × Int × Int)} (hL : L.length ≤ 1000000) (hin : ∀ e ∈ L, In4 40 e) (ox oy w u v : Int) (hu : Int.tmod ox 1000000 = u) (hv : Int.tmod oy 1000000 = v) (u1 : -1000000 < u ∧ u < 1000000) (v1 : -1000000 < v ∧ v < 1000000) : ∀ (n i k : Nat) (y z : List (Int × Int × Int × Int)), L.length - i = n → i ≤ L.length → n < k → y.length ≤ i → z.length ≤ i →
    glyphiclaw23_StrokeMoves.l0 k ox oy w L i y z = some (Int.tmod (wr64 ((Int.tmod w 100) + 100)) 100, true, z ++ (L.drop i).map (shiftE u v), y ++ (L.drop i).map swapE, u, v)
  | 0, i, k, y, z, hn, hi, hk, hy, hz => by
    obtain ⟨k, rfl⟩ : ∃ m, k = m + 1 := ⟨k - 1, by omega⟩
    rw [glyphiclaw23_StrokeMoves.l0, if_neg (by omega), List.drop_eq_nil_of_le (by omega), hu, hv]
    simp
  | n + 1, i, k, y, z, hn, hi, hk, hy, hz => by
    obtain ⟨k, rfl⟩ : ∃ m, k = m + 1 := ⟨k - 1, by omega⟩
    have hlt : i < L.length := by omega
    obtain ⟨⟨a1, a2⟩, ⟨b1, b2⟩, ⟨c1, c2⟩, d1, d2⟩ := hin L[i] (List.getElem_mem hlt)
    rw [glyphiclaw23_StrokeMoves.l0, if_pos (by omega), hu, hv]
    have p1 : glyphiclaw23_plus.f L[i].1 L[i].2.1 u v = some (L[i].1 + u, L[i].2.1 + v) := by
      unfold glyphiclaw23_plus.f
      rw [w64 (by omega) (by omega), w64 (by omega) (by omega)]
    have p2 : glyphiclaw23_plus.f L[i].2.2.1 L[i].2.2.2 u v = some (L[i].2.2.1 + u, L[i].2.2.2 + v) := by
      unfold glyphiclaw23_plus.f
      rw [w64 (by omega) (by omega), w64 (by omega) (by omega)]
    refine bind_of (lgt_nat hlt) (bind_of p1 (bind_of (lgt_nat hlt) (bind_of p2 (bind_of (lapp_ok (by simp; omega)) (bind_of (lgt_nat hlt) (bind_of (lgt_nat hlt) (bind_of (lapp_ok (by simp; omega)) ?_)))))))
    rw [wnat (by omega), moves_l hL hin ox oy w u v hu hv u1 v1 n (i + 1) k _ _ (by omega) (by omega) (by omega) (by simp; omega) (by simp; omega), List.drop_eq_getElem_cons hlt]
    simp only [List.map_cons, List.append_assoc, List.singleton_append]
    rfl

theorem StrokeMoves : glyphiclaw23_StrokeMoves.Pure := by
  intro l ox oy w r _ _ _ _
  have hf : glyphiclaw23_first.f = some true := by decide +kernel
  refine ⟨200, ?_⟩
  unfold glyphiclaw23_StrokeMoves.f
  refine bind_of hf ?_
  rw [if_pos rfl]
  by_cases hl : (l.length : Int) > 100
  · rw [if_pos hl]
  · rw [if_neg hl]
    obtain ⟨L, at', hL, hlen, hin, g1, g2⟩ := edges_f (most := 8) (far := 40) (at_ := 0) (by omega) (by omega) (by omega) (by omega) l (by omega) (by omega) 200 (by omega)
    obtain ⟨px, py, hp, p1, p2⟩ := point_f (far := 60) (at_ := at') l (by omega) (by omega) (by omega) (by omega)
    obtain ⟨v, hv, v0, v1⟩ := cyc w (b := 100) (by omega) (by omega)
    have good : ∀ (M : List (Int × Int × Int × Int)), (∀ e ∈ M, In4 40 e) → ∀ e ∈ M, Gd e px py := by
      intro M h e he
      obtain ⟨a1, b1, c1, d1⟩ := h e he
      unfold Gd Nr
      omega
    have near : ∀ (M : List (Int × Int × Int × Int)), M.length ≤ 100 → (∀ e ∈ M, Gd e px py) → stroke_Near_v3.f 200 M v px py = some (M.any fun e => nE e px py v) := fun M h g => near_all (by omega) g v0 (by omega) 200 (by omega)
    refine bind_of hL (bind_of hp ?_)
    dsimp only
    by_cases h0 : (L.length : Int) = 0
    · rw [if_pos h0, hv]
      have : L = [] := List.length_eq_zero_iff.1 (by omega)
      subst this
      refine bind_of (near [] (by simp) (by simp)) ?_
      rfl
    · rw [if_neg h0, if_neg h0]
      obtain ⟨s, hs, s0, s1⟩ := cyc r (b := (L.length : Int)) (by omega) (by omega)
      rw [hs]
      obtain ⟨m, rfl⟩ : ∃ m : Nat, s = m := ⟨s.toNat, by omega⟩
      have hne : L ≠ [] := fun h => by subst h; simp at h0
      have c1 : lsub L (m : Int) (L.length : Int) = some (L.drop m) := by
        unfold lsub
        rw [if_pos ⟨by omega, by omega, by omega, hne⟩, Int.toNat_natCast, List.take_of_length_le (by simp)]
      have c2 : lsub L 0 (m : Int) = some (L.take m) := by
        unfold lsub
        rw [if_pos ⟨by omega, by omega, by omega, hne⟩]
        simp
      obtain ⟨u, hu⟩ : ∃ u, Int.tmod ox 1000000 = u := ⟨_, rfl⟩
      obtain ⟨q, hq⟩ : ∃ q, Int.tmod oy 1000000 = q := ⟨_, rfl⟩
      have u1 := tmod_in ox (b := 1000000) (by omega)
      have q1 := tmod_in oy (b := 1000000) (by omega)
      rw [hu] at u1
      rw [hq] at q1
      refine bind_of c1 (bind_of (copy_f (by simp; omega) 200 (by simp; omega)) (bind_of c2 (bind_of (lapp_ok (by simp; omega)) (bind_of (moves_l (by omega) hin ox oy w u q hu hq u1 q1 L.length 0 200 [] [] (by omega) (by omega) (by omega) (by simp) (by simp)) ?_))))
      dsimp only
      rw [hv, List.drop_zero, List.nil_append, List.nil_append]
      refine bind_of (near L (by omega) (good L hin)) ?_
      rw [if_pos rfl]
      have hmem : ∀ e ∈ L.drop m ++ L.take m, e ∈ L := fun e he => by
        rcases List.mem_append.1 he with h | h
        · exact List.mem_of_mem_drop h
        · exact List.mem_of_mem_take h
      refine bind_of (near (L.drop m ++ L.take m) (by simp; omega) (good _ fun e he => hin e (hmem e he))) ?_
      have e1 : (L.drop m ++ L.take m).any (fun e => nE e px py v) = L.any fun e => nE e px py v := by
        rw [List.any_append, Bool.or_comm, ← List.any_append, List.take_append_drop]
      rw [if_pos e1]
      have pl : glyphiclaw23_plus.f px py u q = some (px + u, py + q) := by
        unfold glyphiclaw23_plus.f
        rw [w64 (by omega) (by omega), w64 (by omega) (by omega)]
      refine bind_of pl ?_
      dsimp only
      have gm : ∀ e ∈ L.map (shiftE u q), Gd e (px + u) (py + q) := by
        intro e he
        obtain ⟨f, hf, rfl⟩ := List.mem_map.1 he
        obtain ⟨a1, b1, c1, d1⟩ := hin f hf
        unfold Gd Nr shiftE
        dsimp only
        omega
      refine bind_of (near_all (by simp; omega) gm v0 (by omega) 200 (by simp; omega)) ?_
      have e2 : (L.map (shiftE u q)).any (fun e => nE e (px + u) (py + q) v) = L.any fun e => nE e px py v := by
        rw [List.any_map]
        congr 1
        funext e
        exact near_shift _ _ _ _ _ _ _ _ _
      rw [if_pos e2]
      have gb : ∀ e ∈ L.map swapE, Gd e px py := by
        intro e he
        obtain ⟨f, hf, rfl⟩ := List.mem_map.1 he
        obtain ⟨a1, b1, c1, d1⟩ := hin f hf
        unfold Gd Nr swapE
        dsimp only
        omega
      refine bind_of (near _ (by simp; omega) gb) ?_
      have e3 : (L.map swapE).any (fun e => nE e px py v) = L.any fun e => nE e px py v := by
        rw [List.any_map]
        congr 1
        funext e
        exact near_swap _ _ _ _ _ _ _
      rw [e3]
      simp

end Go.Proofs.Ytpimfacaalkmdaa.Pure
