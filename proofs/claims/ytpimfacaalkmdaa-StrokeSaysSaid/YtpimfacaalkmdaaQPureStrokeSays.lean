/- The plain law of StrokeSays. -/
import Derived.Test.YtpimfacaalkmdaaQStrokeSaysx3
import Derived.OpenShut
namespace Go.Proofs.Ytpimfacaalkmdaa.Pure
open Go Go.RowKit Go.Proofs.Ytpimfacaalkmdaa.QStrokeSays Go.Proofs.YtpimfacaalkmdaaE Go.Proofs.YtpimfacaalkmdaaX
set_option linter.unusedVariables false

theorem bind_of {α β : Type} {o : Option α} {f : α → Option β} {x : α} {r : Option β} (h : o = some x) (h2 : f x = r) : o.bind f = r := by
  subst h
  exact h2

theorem div_is {a b q : Int} (hb : 0 < b) (h1 : q * b ≤ a) (h2 : a < q * b + b) : a / b = q := by
  apply Int.le_antisymm
  · exact Int.lt_add_one_iff.1 (Int.ediv_lt_of_lt_mul hb (by rw [Int.add_mul, Int.one_mul]; exact h2))
  · exact Int.le_ediv_of_mul_le hb h1

theorem div_in (a : Int) {b : Int} (hb : 0 < b) : a / b * b ≤ a ∧ a < a / b * b + b := by
  have h1 := Int.mul_ediv_add_emod a b
  have h2 := Int.emod_nonneg a (Int.ne_of_gt hb)
  have h3 := Int.emod_lt_of_pos a hb
  rw [Int.mul_comm] at h1
  omega

theorem div_bd (a : Int) {b : Int} (hb : 0 < b) : (0 ≤ a → 0 ≤ a / b ∧ a / b ≤ a) ∧ (a < 0 → a ≤ a / b ∧ a / b < 0) := by
  obtain ⟨h1, h2⟩ := div_in a hb
  refine ⟨fun h => ⟨Int.ediv_nonneg h (by omega), Int.ediv_le_self _ h⟩, fun h => ⟨?_, Int.ediv_neg_of_neg_of_pos h hb⟩⟩
  exact Int.le_ediv_of_mul_le hb (by
    have : a * b ≤ a * 1 := Int.mul_le_mul_of_nonpos_left (by omega) (by omega)
    omega)

theorem tmod_in (a : Int) {b : Int} (hb : 0 < b) : -b < Int.tmod a b ∧ Int.tmod a b < b := by
  rw [Int.tmod_eq_emod]
  have h2 := Int.emod_nonneg a (show b ≠ 0 by omega)
  have h3 := Int.emod_lt_of_pos a hb
  split
  · omega
  · have : ((b.natAbs : Nat) : Int) = b := by omega
    rename_i h
    have hne : a % b ≠ 0 := fun h0 => h (Or.inr (Int.dvd_of_emod_eq_zero h0))
    omega

theorem tmod_pos {a b : Int} (ha : 0 ≤ a) : Int.tmod a b = a % b := by
  rw [Int.tmod_eq_emod, if_pos (Or.inl ha)]; omega

theorem cyc (a : Int) {b : Int} (hb : 0 < b) (hb1 : b ≤ 4611686018427387903) : ∃ s, Int.tmod (wr64 (Int.tmod a b + b)) b = s ∧ 0 ≤ s ∧ s < b := by
  have h := tmod_in a hb
  refine ⟨_, rfl, ?_⟩
  rw [w64 (by omega) (by omega), tmod_pos (by omega)]
  exact ⟨Int.emod_nonneg _ (by omega), Int.emod_lt_of_pos _ hb⟩

theorem size1 {n : Int} (n0 : -9223372036854775807 ≤ n) (n1 : n ≤ 9223372036854775807) : plane_within_1.f n = some (n.natAbs : Int) := by
  unfold plane_within_1.f mx
  rw [w64 (n := 0 - n) (by omega) (by omega), wru64_eq]
  congr 1
  split <;> omega

theorem within_f {a b c d : Int} (a0 : -9223372036854775807 ≤ a) (a1 : a ≤ 9223372036854775807) (b0 : -9223372036854775807 ≤ b) (b1 : b ≤ 9223372036854775807) (c0 : -9223372036854775807 ≤ c) (c1 : c ≤ 9223372036854775807) (d0 : -9223372036854775807 ≤ d) (d1 : d ≤ 9223372036854775807) :
    plane_within.f a b c d = some (decide ((a.natAbs : Int) * (b.natAbs : Int) ≤ (c.natAbs : Int) * (d.natAbs : Int))) := by
  have M : ∀ x y : Int, 0 ≤ x → x ≤ 9223372036854775807 → 0 ≤ y → y ≤ 9223372036854775807 → bits_Mul64.f x y = some (x * y / 18446744073709551616, x * y % 18446744073709551616) := by
    intro x y h1 h2 h3 h4
    unfold bits_Mul64.f
    rw [if_pos ⟨h1, by omega, h3, by omega⟩]
  unfold plane_within.f
  refine bind_of (size1 a0 a1) (bind_of (size1 b0 b1) (bind_of (M _ _ (by omega) (by omega) (by omega) (by omega)) (bind_of (size1 c0 c1) (bind_of (size1 d0 d1) (bind_of (M _ _ (by omega) (by omega) (by omega) (by omega)) ?_)))))
  dsimp only
  generalize (a.natAbs : Int) * (b.natAbs : Int) = P
  generalize (c.natAbs : Int) * (d.natAbs : Int) = Q
  by_cases h1 : P / 18446744073709551616 < Q / 18446744073709551616
  · rw [if_pos h1, decide_eq_true (by omega)]
  · rw [if_neg h1]
    by_cases h2 : P / 18446744073709551616 = Q / 18446744073709551616
    · rw [if_pos h2]
      congr 1
      by_cases h3 : P ≤ Q
      · rw [decide_eq_true h3, decide_eq_true (by omega)]
      · rw [decide_eq_false h3, decide_eq_false (by omega)]
    · rw [if_neg h2, decide_eq_false (by omega)]

theorem mul_bd {x y M N : Int} (hx0 : -M ≤ x) (hx1 : x ≤ M) (hy0 : -N ≤ y) (hy1 : y ≤ N) : -(M * N) ≤ x * y ∧ x * y ≤ M * N := by
  have h : (x * y).natAbs ≤ M.toNat * N.toNat := by
    rw [Int.natAbs_mul]
    exact Nat.mul_le_mul (by omega) (by omega)
  have e : ((M.toNat * N.toNat : Nat) : Int) = M * N := by
    rw [Int.natCast_mul, Int.toNat_of_nonneg (by omega), Int.toNat_of_nonneg (by omega)]
  omega

/-- Two numbers no farther apart than that. -/
def Nr (a b : Int) : Prop := -268435456 ≤ b - a ∧ b - a ≤ 268435456

theorem prod_bd {a b c d : Int} (h1 : Nr a b) (h2 : Nr c d) : -72057594037927936 ≤ (b - a) * (d - c) ∧ (b - a) * (d - c) ≤ 72057594037927936 := mul_bd (M := 268435456) (N := 268435456) (by have := h1.1; omega) h1.2 (by have := h2.1; omega) h2.2

def crs (ax ay bx by_ px py : Int) : Int := (bx - ax) * (py - ay) - (by_ - ay) * (px - ax)
def dt (ax ay bx by_ px py : Int) : Int := (bx - ax) * (px - ax) + (by_ - ay) * (py - ay)
def ln (ax ay bx by_ : Int) : Int := (bx - ax) * (bx - ax) + (by_ - ay) * (by_ - ay)

theorem sq_nonneg (x : Int) : 0 ≤ x * x := by
  rcases Int.le_total 0 x with h | h
  · exact Int.mul_nonneg h h
  · exact Int.mul_nonneg_of_nonpos_of_nonpos h h

theorem ln_nonneg (ax ay bx by_ : Int) : 0 ≤ ln ax ay bx by_ := by
  unfold ln
  have := sq_nonneg (bx - ax)
  have := sq_nonneg (by_ - ay)
  omega

theorem ln_bd {ax ay bx by_ : Int} (h1 : Nr ax bx) (h2 : Nr ay by_) : ln ax ay bx by_ ≤ 144115188075855872 := by
  unfold ln
  have := prod_bd h1 h1
  have := prod_bd h2 h2
  omega

theorem dt_bd {ax ay bx by_ px py : Int} (h1 : Nr ax bx) (h2 : Nr ay by_) (h3 : Nr ax px) (h4 : Nr ay py) : -144115188075855872 ≤ dt ax ay bx by_ px py ∧ dt ax ay bx by_ px py ≤ 144115188075855872 := by
  unfold dt
  have := prod_bd h1 h3
  have := prod_bd h2 h4
  omega

theorem crs_bd {ax ay bx by_ px py : Int} (h1 : Nr ax bx) (h2 : Nr ay by_) (h3 : Nr ax px) (h4 : Nr ay py) : -144115188075855872 ≤ crs ax ay bx by_ px py ∧ crs ax ay bx by_ px py ≤ 144115188075855872 := by
  unfold crs
  have := prod_bd h1 h4
  have := prod_bd h2 h3
  omega

theorem sub_f {a b c d : Int} (h1 : Nr c a) (h2 : Nr d b) : plane_Sub.f a b c d = some (a - c, b - d) := by
  unfold plane_Sub.f
  rw [w64 (by have := h1.1; omega) (by have := h1.2; omega), w64 (by have := h2.1; omega) (by have := h2.2; omega)]

theorem cross_f {ax ay bx by_ px py : Int} (h1 : Nr ax bx) (h2 : Nr ay by_) (h3 : Nr ax px) (h4 : Nr ay py) : plane_Cross.f ax ay bx by_ px py = some (crs ax ay bx by_ px py) := by
  unfold plane_Cross.f
  refine bind_of (sub_f h1 h2) (bind_of (sub_f h3 h4) ?_)
  have b1 := prod_bd h1 h4
  have b2 := prod_bd h2 h3
  show some (wr64 (wr64 ((bx - ax) * (py - ay)) - wr64 ((by_ - ay) * (px - ax)))) = _
  rw [w64 (n := (bx - ax) * (py - ay)) (by omega) (by omega), w64 (n := (by_ - ay) * (px - ax)) (by omega) (by omega), w64 (by omega) (by omega)]
  rfl

theorem dot_f {ax ay bx by_ px py : Int} (h1 : Nr ax bx) (h2 : Nr ay by_) (h3 : Nr ax px) (h4 : Nr ay py) : plane_Dot.f ax ay bx by_ px py = some (dt ax ay bx by_ px py) := by
  unfold plane_Dot.f
  refine bind_of (sub_f h1 h2) (bind_of (sub_f h3 h4) ?_)
  have b1 := prod_bd h1 h3
  have b2 := prod_bd h2 h4
  show some (wr64 (wr64 ((bx - ax) * (px - ax)) + wr64 ((by_ - ay) * (py - ay)))) = _
  rw [w64 (n := (bx - ax) * (px - ax)) (by omega) (by omega), w64 (n := (by_ - ay) * (py - ay)) (by omega) (by omega), w64 (by omega) (by omega)]
  rfl

theorem len2_f {ax ay bx by_ : Int} (h1 : Nr ax bx) (h2 : Nr ay by_) : plane_Len2.f ax ay bx by_ = some (ln ax ay bx by_) := by
  unfold plane_Len2.f
  exact bind_of (dot_f h1 h2 h1 h2) rfl

/-- Near, as the document says it. -/
def nearB (ax ay bx by_ px py w : Int) : Bool :=
  if dt ax ay bx by_ px py ≤ 0 then decide (4 * ln ax ay px py ≤ w * w)
  else if dt ax ay bx by_ px py ≥ ln ax ay bx by_ then decide (4 * ln bx by_ px py ≤ w * w)
  else decide (4 * (crs ax ay bx by_ px py * crs ax ay bx by_ px py) ≤ w * w * ln ax ay bx by_)

theorem within_len {l w : Int} (l0 : 0 ≤ l) (l1 : l ≤ 144115188075855872) (w0 : 0 ≤ w) (w1 : w ≤ 268435456) : plane_within.f 4 l w w = some (decide (4 * l ≤ w * w)) := by
  rw [within_f (by omega) (by omega) (by omega) (by omega) (by omega) (by omega) (by omega) (by omega)]
  rw [show ((4 : Int).natAbs : Int) = 4 from rfl, show ((l.natAbs : Nat) : Int) = l by omega, show ((w.natAbs : Nat) : Int) = w by omega]

theorem within_side {c l w : Int} (c0 : -144115188075855872 ≤ c) (c1 : c ≤ 144115188075855872) (l0 : 0 ≤ l) (l1 : l ≤ 144115188075855872) (w0 : 0 ≤ w) (w1 : w ≤ 268435456) : plane_within.f (wr64 (2 * c)) (wr64 (2 * c)) (wr64 (w * w)) l = some (decide (4 * (c * c) ≤ w * w * l)) := by
  have h := mul_bd (M := 268435456) (N := 268435456) (x := w) (y := w) (by omega) w1 (by omega) w1
  have hw := sq_nonneg w
  rw [w64 (n := 2 * c) (by omega) (by omega), w64 (n := w * w) (by omega) (by omega)]
  rw [within_f (by omega) (by omega) (by omega) (by omega) (by omega) (by omega) (by omega) (by omega)]
  rw [show (((2 * c).natAbs : Nat) : Int) * (((2 * c).natAbs : Nat) : Int) = 4 * (c * c) by rw [← Int.natCast_mul, Int.natAbs_mul_self]; grind, show ((l.natAbs : Nat) : Int) = l by omega, show (((w * w).natAbs : Nat) : Int) = w * w by omega]

theorem near_f {ax ay bx by_ px py w : Int} (h1 : Nr ax bx) (h2 : Nr ay by_) (h3 : Nr ax px) (h4 : Nr ay py) (h5 : Nr bx px) (h6 : Nr by_ py) (w0 : 0 ≤ w) (w1 : w ≤ 268435456) : plane_Near.f ax ay bx by_ px py w = some (nearB ax ay bx by_ px py w) := by
  unfold plane_Near.f nearB
  refine bind_of (dot_f h1 h2 h3 h4) (bind_of (len2_f h1 h2) ?_)
  by_cases c1 : dt ax ay bx by_ px py ≤ 0
  · rw [if_pos c1, if_pos c1]
    exact bind_of (len2_f h3 h4) (bind_of (within_len (ln_nonneg _ _ _ _) (ln_bd h3 h4) w0 w1) rfl)
  · rw [if_neg c1, if_neg c1]
    by_cases c2 : dt ax ay bx by_ px py ≥ ln ax ay bx by_
    · rw [if_pos c2, if_pos c2]
      exact bind_of (len2_f h5 h6) (bind_of (within_len (ln_nonneg _ _ _ _) (ln_bd h5 h6) w0 w1) rfl)
    · rw [if_neg c2, if_neg c2]
      exact bind_of (cross_f h1 h2 h3 h4) (bind_of (within_side (crs_bd h1 h2 h3 h4).1 (crs_bd h1 h2 h3 h4).2 (ln_nonneg _ _ _ _) (ln_bd h1 h2) w0 w1) rfl)

theorem lgt_ex {T : Type} {L : List T} {i : Int} (h0 : 0 ≤ i) (h1 : i < L.length) : ∃ x, lgt L i = some x := by
  unfold lgt
  rw [if_neg (by omega)]
  exact ⟨L[i.toNat]'(by omega), List.getElem?_eq_getElem (by omega)⟩

theorem number_f {n b : Int} (hb : 0 < b) (hb1 : b ≤ 4611686018427387903) : ∃ v, glyphicworld_Number.f n b = some v ∧ 0 ≤ v ∧ v < b := by
  unfold glyphicworld_Number.f
  rw [if_neg (by omega)]
  have h := tmod_in n hb
  by_cases c : Int.tmod n b < 0
  · rw [if_pos c, w64 (by omega) (by omega)]
    exact ⟨_, rfl, by omega, by omega⟩
  · rw [if_neg c]
    exact ⟨_, rfl, by omega, by omega⟩

theorem next_f {b at_ : Int} (L : List Int) (hb : 0 < b) (hb1 : b ≤ 4611686018427387903) (h0 : 0 ≤ at_) (h1 : at_ ≤ 1000000000) : ∃ v, glyphicmake_Seq_Next_v1.f b L at_ = some (v, at_ + 1) ∧ 0 ≤ v ∧ v < b := by
  unfold glyphicmake_Seq_Next_v1.f
  have e : wr64 (at_ + 1) = at_ + 1 := w64 (by omega) (by omega)
  rw [e]
  by_cases c : at_ < (L.length : Int)
  · obtain ⟨x, hx⟩ := lgt_ex h0 c
    obtain ⟨v, hv, v0, v1⟩ := number_f (n := x) hb hb1
    rw [if_pos c]
    exact ⟨v, bind_of (bind_of hx rfl) (bind_of hv rfl), v0, v1⟩
  · obtain ⟨v, hv, v0, v1⟩ := number_f (n := 0) hb hb1
    rw [if_neg c]
    exact ⟨v, bind_of rfl (bind_of hv rfl), v0, v1⟩

theorem point_f {far at_ : Int} (L : List Int) (hb : 0 ≤ far) (hb1 : far ≤ 1000000000000000) (h0 : 0 ≤ at_) (h1 : at_ ≤ 999999999) : ∃ x y, glyphicmake_Point_v1.f far L at_ = some (x, y, at_ + 2) ∧ (-far ≤ x ∧ x ≤ far) ∧ -far ≤ y ∧ y ≤ far := by
  unfold glyphicmake_Point_v1.f
  have e : wr64 (wr64 (2 * far) + 1) = 2 * far + 1 := by
    rw [w64 (n := 2 * far) (by omega) (by omega), w64 (by omega) (by omega)]
  rw [e]
  obtain ⟨u, hu, u0, u1⟩ := next_f (b := 2 * far + 1) L (by omega) (by omega) h0 (by omega)
  obtain ⟨v, hv, v0, v1⟩ := next_f (b := 2 * far + 1) L (by omega) (by omega) (show 0 ≤ at_ + 1 by omega) (by omega)
  refine ⟨u - far, v - far, bind_of hu (bind_of hv ?_), by omega, by omega⟩
  dsimp only
  rw [w64 (n := u - far) (by omega) (by omega), w64 (n := v - far) (by omega) (by omega), show at_ + 1 + 1 = at_ + 2 by omega]

theorem lgt_nat {T : Type} {L : List T} {i : Nat} (h : i < L.length) : lgt L (i : Int) = some L[i] := by
  unfold lgt
  rw [if_neg (by omega), Int.toNat_natCast, List.getElem?_eq_getElem h]
theorem lapp_ok {T : Type} {L X : List T} (h : L.length + X.length ≤ 4294967296) : lapp L X = some (L ++ X) := by
  unfold lapp
  rw [if_pos h]
theorem wnat {i : Nat} (h : i ≤ 1000000000000) : wr64 ((i : Int) + 1) = ((i + 1 : Nat) : Int) := by
  rw [w64 (by omega) (by omega)]
  omega
/-- No number of an edge is beyond. -/
def In4 (far : Int) (e : Int × Int × Int × Int) : Prop := (-far ≤ e.1 ∧ e.1 ≤ far) ∧ (-far ≤ e.2.1 ∧ e.2.1 ≤ far) ∧ (-far ≤ e.2.2.1 ∧ e.2.2.1 ≤ far) ∧ (-far ≤ e.2.2.2 ∧ e.2.2.2 ≤ far)
theorem edges_l {far : Int} (hf : 0 ≤ far) (hf1 : far ≤ 1000000000000000) (l : List Int) : ∀ (n k : Nat) (y : List (Int × Int × Int × Int)) (at_ : Int), n < k → 0 ≤ at_ → at_ + 4 * n ≤ 900000000 → y.length + n ≤ 1000000 → (∀ e ∈ y, In4 far e) →
    ∃ L at', glyphicmake_Edges_v1.l0 k far l (n : Int) y at_ = some (L, at') ∧ L.length = y.length + n ∧ (∀ e ∈ L, In4 far e) ∧ at_ ≤ at' ∧ at' ≤ at_ + 4 * n
  | 0, k, y, at_, hk, h0, h1, h2, hy => by
    obtain ⟨k, rfl⟩ : ∃ m, k = m + 1 := ⟨k - 1, by omega⟩
    refine ⟨y, at_, ?_, by omega, hy, by omega, by omega⟩
    rw [glyphicmake_Edges_v1.l0, if_neg (by omega)]
  | n + 1, k, y, at_, hk, h0, h1, h2, hy => by
    obtain ⟨k, rfl⟩ : ∃ m, k = m + 1 := ⟨k - 1, by omega⟩
    obtain ⟨a, b, hp, a1, b1⟩ := point_f (far := far) (at_ := at_) l hf hf1 h0 (by omega)
    obtain ⟨c, d, hq, c1, d1⟩ := point_f (far := far) (at_ := at_ + 2) l hf hf1 (by omega) (by omega)
    obtain ⟨L, at', hL, hlen, hin, g1, g2⟩ := edges_l hf hf1 l n k (y ++ [(a, b, c, d)]) (at_ + 2 + 2) (by omega) (by omega) (by omega) (by simp; omega) (by
      intro e he
      rcases List.mem_append.1 he with he | he
      · exact hy e he
      · obtain rfl := List.mem_singleton.1 he
        exact ⟨a1, b1, c1, d1⟩)
    refine ⟨L, at', ?_, by simp at hlen; omega, hin, by omega, by omega⟩
    rw [glyphicmake_Edges_v1.l0, if_pos (by omega)]
    refine bind_of hp (bind_of hq (bind_of (lapp_ok (by simp; omega)) ?_))
    rw [show wr64 (((n + 1 : Nat) : Int) - 1) = (n : Int) by rw [w64 (by omega) (by omega)]; omega]
    exact hL
theorem edges_f {most far at_ : Int} (hm : 0 ≤ most) (hm1 : most ≤ 1000) (hf : 0 ≤ far) (hf1 : far ≤ 1000000000000000) (l : List Int) (h0 : 0 ≤ at_) (h1 : at_ ≤ 800000000) (k : Nat) (hk : most + 1 < k) :
    ∃ L at', glyphicmake_Edges_v1.f k most far l at_ = some (L, at') ∧ (L.length : Int) ≤ most ∧ (∀ e ∈ L, In4 far e) ∧ at_ ≤ at' ∧ at' ≤ at_ + 4 * most + 1 := by
  unfold glyphicmake_Edges_v1.f
  obtain ⟨v, hv, v0, v1⟩ := next_f (b := most + 1) l (by omega) (by omega) h0 (by omega)
  obtain ⟨n, rfl⟩ : ∃ n : Nat, v = n := ⟨v.toNat, by omega⟩
  obtain ⟨L, at', hL, hlen, hin, g1, g2⟩ := edges_l hf hf1 l n k [] (at_ + 1) (by omega) (by omega) (by omega) (by simp; omega) (by simp)
  refine ⟨L, at', bind_of (x := (L, at')) (bind_of (x := ((n : Int), at_ + 1)) ?_ hL) rfl, by simp at hlen; omega, hin, by omega, by omega⟩
  rw [w64 (n := most + 1) (by omega) (by omega)]
  exact hv

def nE (e : Int × Int × Int × Int) (px py w : Int) : Bool := nearB e.1 e.2.1 e.2.2.1 e.2.2.2 px py w
/-- Far enough from overflow. -/
def Gd (e : Int × Int × Int × Int) (px py : Int) : Prop := Nr e.1 e.2.2.1 ∧ Nr e.2.1 e.2.2.2 ∧ Nr e.1 px ∧ Nr e.2.1 py ∧ Nr e.2.2.1 px ∧ Nr e.2.2.2 py
theorem nE_f {e : Int × Int × Int × Int} {px py w : Int} (h : Gd e px py) (w0 : 0 ≤ w) (w1 : w ≤ 268435456) : plane_Near.f e.1 e.2.1 e.2.2.1 e.2.2.2 px py w = some (nE e px py w) :=
  near_f h.1 h.2.1 h.2.2.1 h.2.2.2.1 h.2.2.2.2.1 h.2.2.2.2.2 w0 w1
theorem any_drop {T : Type} {L : List T} {p : T → Bool} {i : Nat} (h : i < L.length) : (L.drop i).any p = (p L[i] || (L.drop (i + 1)).any p) := by
  rw [List.drop_eq_getElem_cons h, List.any_cons]
theorem near_l {L : List (Int × Int × Int × Int)} {px py w : Int} (hL : L.length ≤ 1000000) (hg : ∀ e ∈ L, Gd e px py) (w0 : 0 ≤ w) (w1 : w ≤ 268435456) : ∀ (n i k : Nat), L.length - i = n → i ≤ L.length → n < k →
    ∃ r, api_Edge_v6.l0 k L px py w i = some r ∧ ((∃ j : Int, r = .inl j ∧ 0 ≤ j ∧ (L.drop i).any (fun e => nE e px py w) = true) ∨ (r = .inr () ∧ (L.drop i).any (fun e => nE e px py w) = false))
  | 0, i, k, hn, hi, hk => by
    obtain ⟨k, rfl⟩ : ∃ m, k = m + 1 := ⟨k - 1, by omega⟩
    refine ⟨.inr (), ?_, Or.inr ⟨rfl, ?_⟩⟩
    · rw [api_Edge_v6.l0, if_neg (by omega)]
    · rw [List.drop_eq_nil_of_le (by omega)]; rfl
  | n + 1, i, k, hn, hi, hk => by
    obtain ⟨k, rfl⟩ : ∃ m, k = m + 1 := ⟨k - 1, by omega⟩
    have hlt : i < L.length := by omega
    have hnear := nE_f (hg L[i] (List.getElem_mem hlt)) w0 w1
    have h1 : stroke_Near_1_v2.f L[i].1 L[i].2.1 L[i].2.2.1 L[i].2.2.2 px py w = some (nE L[i] px py w) := bind_of hnear rfl
    rw [api_Edge_v6.l0, if_pos (by omega)]
    cases hb : nE L[i] px py w with
    | true =>
      refine ⟨.inl i, bind_of (lgt_nat hlt) (bind_of h1 ?_), Or.inl ⟨i, rfl, by omega, ?_⟩⟩
      · rw [hb, if_pos rfl]
      · rw [any_drop hlt, hb]; rfl
    | false =>
      obtain ⟨r, hr, hc⟩ := near_l hL hg w0 w1 n (i + 1) k (by omega) (by omega) (by omega)
      refine ⟨r, bind_of (lgt_nat hlt) (bind_of h1 ?_), ?_⟩
      · rw [hb, if_neg (by decide), wnat (by omega)]
        exact hr
      · rw [any_drop hlt, hb, Bool.false_or]
        exact hc
theorem near_all {L : List (Int × Int × Int × Int)} {px py w : Int} (hL : L.length ≤ 1000000) (hg : ∀ e ∈ L, Gd e px py) (w0 : 0 ≤ w) (w1 : w ≤ 268435456) (k : Nat) (hk : L.length < k) : stroke_Near_v3.f k L w px py = some (L.any fun e => nE e px py w) := by
  unfold stroke_Near_v3.f api_Edge_v5.f api_Edge_v6.f
  obtain ⟨r, hr, hc⟩ := near_l hL hg w0 w1 L.length 0 k (by omega) (by omega) hk
  rw [List.drop_zero] at hc
  rcases hc with ⟨j, rfl, j0, h⟩ | ⟨rfl, h⟩
  · refine bind_of (bind_of (bind_of hr rfl) rfl) ?_
    rw [h, decide_eq_true (by omega)]
  · refine bind_of (bind_of (bind_of hr rfl) rfl) ?_
    rw [h]
    rfl

theorem rcross_f {ax ay bx by_ px py : Int} (h1 : Nr ax bx) (h2 : Nr ay by_) (h3 : Nr ax px) (h4 : Nr ay py) : glyphicref1_Cross.f ax ay bx by_ px py = some (crs ax ay bx by_ px py) := by
  unfold glyphicref1_Cross.f
  have b1 := prod_bd h1 h4
  have b2 := prod_bd h2 h3
  obtain ⟨h1, h1'⟩ := h1
  obtain ⟨h2, h2'⟩ := h2
  obtain ⟨h3, h3'⟩ := h3
  obtain ⟨h4, h4'⟩ := h4
  rw [w64 (n := bx - ax) (by omega) (by omega), w64 (n := py - ay) (by omega) (by omega), w64 (n := by_ - ay) (by omega) (by omega), w64 (n := px - ax) (by omega) (by omega), w64 (n := (bx - ax) * (py - ay)) (by omega) (by omega), w64 (n := (by_ - ay) * (px - ax)) (by omega) (by omega), w64 (by omega) (by omega)]
  rfl

theorem rdot_f {ax ay bx by_ px py : Int} (h1 : Nr ax bx) (h2 : Nr ay by_) (h3 : Nr ax px) (h4 : Nr ay py) : glyphicref1_Dot.f ax ay bx by_ px py = some (dt ax ay bx by_ px py) := by
  unfold glyphicref1_Dot.f
  have b1 := prod_bd h1 h3
  have b2 := prod_bd h2 h4
  obtain ⟨h1, h1'⟩ := h1
  obtain ⟨h2, h2'⟩ := h2
  obtain ⟨h3, h3'⟩ := h3
  obtain ⟨h4, h4'⟩ := h4
  rw [w64 (n := bx - ax) (by omega) (by omega), w64 (n := px - ax) (by omega) (by omega), w64 (n := by_ - ay) (by omega) (by omega), w64 (n := py - ay) (by omega) (by omega), w64 (n := (bx - ax) * (px - ax)) (by omega) (by omega), w64 (n := (by_ - ay) * (py - ay)) (by omega) (by omega), w64 (by omega) (by omega)]
  rfl

theorem rlen2_f {ax ay bx by_ : Int} (h1 : Nr ax bx) (h2 : Nr ay by_) : glyphicref1_Len2.f ax ay bx by_ = some (ln ax ay bx by_) := by
  unfold glyphicref1_Len2.f
  exact bind_of (rdot_f h1 h2 h1 h2) rfl

theorem rsize_f {a : Int} (h0 : -9223372036854775808 ≤ a) (h1 : a ≤ 9223372036854775807) : glyphicref1_size.f a = some (a.natAbs : Int) := by
  unfold glyphicref1_size.f
  by_cases h : a < 0
  · rw [if_pos h, w64 (n := a + 1) (by omega) (by omega), w64 (by omega) (by omega), wru64_eq, wru64_eq]
    congr 1
    omega
  · rw [if_neg h, wru64_eq]
    congr 1
    omega

theorem mul_f {x y : Int} (x0 : 0 ≤ x) (x1 : x ≤ 18446744073709551615) (y0 : 0 ≤ y) (y1 : y ≤ 18446744073709551615) : bits_Mul64.f x y = some (x * y / 18446744073709551616, x * y % 18446744073709551616) := by
  unfold bits_Mul64.f
  rw [if_pos ⟨x0, x1, y0, y1⟩]

theorem quarter_le {l q : Int} (q0 : 0 ≤ q) (q1 : q ≤ 9223372036854775807) : decide (l ≤ wr64 (Int.tdiv q 4)) = decide (4 * l ≤ q) := by
  rw [Int.tdiv_eq_ediv, if_pos (Or.inl q0), w64 (by omega) (by omega)]
  by_cases h : 4 * l ≤ q
  · rw [decide_eq_true h, decide_eq_true (by omega)]
  · rw [decide_eq_false h, decide_eq_false (by omega)]

theorem rnear_f {ax ay bx by_ px py w : Int} (h1 : Nr ax bx) (h2 : Nr ay by_) (h3 : Nr ax px) (h4 : Nr ay py) (h5 : Nr bx px) (h6 : Nr by_ py) (w0 : 0 ≤ w) (w1 : w ≤ 268435456) : glyphicref1_Near.f ax ay bx by_ px py w = some (nearB ax ay bx by_ px py w) := by
  have h := mul_bd (M := 268435456) (N := 268435456) (x := w) (y := w) (by omega) w1 (by omega) w1
  have hw := sq_nonneg w
  unfold glyphicref1_Near.f nearB
  rw [w64 (n := w * w) (by omega) (by omega)]
  refine bind_of (rdot_f h1 h2 h3 h4) (bind_of (rlen2_f h1 h2) ?_)
  by_cases c1 : dt ax ay bx by_ px py ≤ 0
  · rw [if_pos c1, if_pos c1]
    refine bind_of (rlen2_f h3 h4) ?_
    rw [quarter_le hw (by omega)]
  · rw [if_neg c1, if_neg c1]
    by_cases c2 : dt ax ay bx by_ px py ≥ ln ax ay bx by_
    · rw [if_pos c2, if_pos c2]
      refine bind_of (rlen2_f h5 h6) ?_
      rw [quarter_le hw (by omega)]
    · rw [if_neg c2, if_neg c2]
      have hc := crs_bd h1 h2 h3 h4
      have hl0 := ln_nonneg ax ay bx by_
      have hl1 := ln_bd h1 h2
      refine bind_of (rcross_f h1 h2 h3 h4) (bind_of (rsize_f (by omega) (by omega)) ?_)
      generalize crs ax ay bx by_ px py = c at *
      generalize ln ax ay bx by_ = l at *
      have e1 : wru64 (2 * (c.natAbs : Int)) = 2 * (c.natAbs : Int) := by rw [wru64_eq]; omega
      have e2 : wru64 (w * w) = w * w := by rw [wru64_eq]; omega
      have e3 : wru64 l = l := by rw [wru64_eq]; omega
      rw [e1, e2, e3]
      refine bind_of (mul_f (by omega) (by omega) (by omega) (by omega)) (bind_of (mul_f (by omega) (by omega) (by omega) (by omega)) ?_)
      have e4 : 2 * (c.natAbs : Int) * (2 * (c.natAbs : Int)) = 4 * (c * c) := by
        have : ((c.natAbs : Nat) : Int) * ((c.natAbs : Nat) : Int) = c * c := by rw [← Int.natCast_mul, Int.natAbs_mul_self]
        grind
      rw [e4]
      generalize 4 * (c * c) = P
      generalize w * w * l = Q
      show (if P / 18446744073709551616 < Q / 18446744073709551616 then some true else if P / 18446744073709551616 = Q / 18446744073709551616 then some (decide (P % 18446744073709551616 ≤ Q % 18446744073709551616)) else some false) = some (decide (P ≤ Q))
      by_cases k1 : P / 18446744073709551616 < Q / 18446744073709551616
      · rw [if_pos k1, decide_eq_true (by omega)]
      · rw [if_neg k1]
        by_cases k2 : P / 18446744073709551616 = Q / 18446744073709551616
        · rw [if_pos k2]
          by_cases k3 : P ≤ Q
          · rw [decide_eq_true k3, decide_eq_true (by omega)]
          · rw [decide_eq_false k3, decide_eq_false (by omega)]
        · rw [if_neg k2, decide_eq_false (by omega)]

theorem mn_le (a b : Int) : mn a b ≤ a ∧ mn a b ≤ b ∧ (mn a b = a ∨ mn a b = b) := by unfold mn; split <;> omega
theorem mx_ge (a b : Int) : a ≤ mx a b ∧ b ≤ mx a b ∧ (mx a b = a ∨ mx a b = b) := by unfold mx; split <;> omega
/-- Where edges stand. -/
theorem box_l {far : Int} {L : List (Int × Int × Int × Int)} (hL : L.length ≤ 1000000) (hin : ∀ e ∈ L, In4 far e) : ∀ (n i k : Nat) (hx hy lx ly : Int), L.length - i = n → i ≤ L.length → n < k → -far ≤ lx → lx ≤ hx → hx ≤ far → -far ≤ ly → ly ≤ hy → hy ≤ far →
    ∃ a b c d, stroke_Box_v1.l0 k L i hx hy lx ly = some (a, b, c, d) ∧ (hx ≤ a ∧ a ≤ far) ∧ (hy ≤ b ∧ b ≤ far) ∧ (-far ≤ c ∧ c ≤ lx) ∧ (-far ≤ d ∧ d ≤ ly) ∧ ∀ e ∈ L.drop i, (c ≤ e.1 ∧ e.1 ≤ a) ∧ (d ≤ e.2.1 ∧ e.2.1 ≤ b) ∧ (c ≤ e.2.2.1 ∧ e.2.2.1 ≤ a) ∧ (d ≤ e.2.2.2 ∧ e.2.2.2 ≤ b)
  | 0, i, k, hx, hy, lx, ly, hn, hi, hk, h1, h2, h3, h4, h5, h6 => by
    obtain ⟨k, rfl⟩ : ∃ m, k = m + 1 := ⟨k - 1, by omega⟩
    refine ⟨hx, hy, lx, ly, ?_, by omega, by omega, by omega, by omega, ?_⟩
    · rw [stroke_Box_v1.l0, if_neg (by omega)]
    · rw [List.drop_eq_nil_of_le (by omega)]; simp
  | n + 1, i, k, hx, hy, lx, ly, hn, hi, hk, h1, h2, h3, h4, h5, h6 => by
    obtain ⟨k, rfl⟩ : ∃ m, k = m + 1 := ⟨k - 1, by omega⟩
    have hlt : i < L.length := by omega
    obtain ⟨⟨a1, a2⟩, ⟨b1, b2⟩, ⟨c1, c2⟩, d1, d2⟩ := hin L[i] (List.getElem_mem hlt)
    have m1 := mx_ge hx L[i].1
    have m2 := mx_ge (mx hx L[i].1) L[i].2.2.1
    have m3 := mx_ge hy L[i].2.1
    have m4 := mx_ge (mx hy L[i].2.1) L[i].2.2.2
    have n1 := mn_le lx L[i].1
    have n2 := mn_le (mn lx L[i].1) L[i].2.2.1
    have n3 := mn_le ly L[i].2.1
    have n4 := mn_le (mn ly L[i].2.1) L[i].2.2.2
    obtain ⟨a, b, c, d, hr, ha, hb, hc, hd, he⟩ := box_l hL hin n (i + 1) k (mx (mx hx L[i].1) L[i].2.2.1) (mx (mx hy L[i].2.1) L[i].2.2.2) (mn (mn lx L[i].1) L[i].2.2.1) (mn (mn ly L[i].2.1) L[i].2.2.2) (by omega) (by omega) (by omega) (by omega) (by omega) (by omega) (by omega) (by omega) (by omega)
    refine ⟨a, b, c, d, ?_, by omega, by omega, by omega, by omega, ?_⟩
    · rw [stroke_Box_v1.l0, if_pos (by omega)]
      refine bind_of (bind_of (lgt_nat hlt) rfl) ?_
      dsimp only
      rw [wnat (by omega)]
      exact hr
    · intro e hm
      rw [List.drop_eq_getElem_cons hlt] at hm
      rcases List.mem_cons.1 hm with rfl | hm
      · omega
      · exact he e hm
theorem half_f {w : Int} (w0 : 0 ≤ w) (w1 : w ≤ 268435456) : wr64 (Int.tdiv (wr64 (w + 1)) 2) = (w + 1) / 2 := by
  rw [w64 (n := w + 1) (by omega) (by omega), Int.tdiv_eq_ediv, if_pos (Or.inl (by omega)), w64 (by omega) (by omega)]
  omega
/-- The box of edges that are there. -/
theorem box_f {far w : Int} {L : List (Int × Int × Int × Int)} (hL : L.length ≤ 1000000) (hin : ∀ e ∈ L, In4 far e) (hf : far ≤ 1000000000) (h0 : L ≠ []) (w0 : 0 ≤ w) (w1 : w ≤ 268435456) (k : Nat) (hk : L.length < k) :
    ∃ a b c d, stroke_Box_v1.f k L w = some (a - (w + 1) / 2, b - (w + 1) / 2, c + (w + 1) / 2, d + (w + 1) / 2, true) ∧ (-far ≤ a ∧ c ≤ far) ∧ (-far ≤ b ∧ d ≤ far) ∧ ∀ e ∈ L, (a ≤ e.1 ∧ e.1 ≤ c) ∧ (b ≤ e.2.1 ∧ e.2.1 ≤ d) ∧ (a ≤ e.2.2.1 ∧ e.2.2.1 ≤ c) ∧ (b ≤ e.2.2.2 ∧ e.2.2.2 ≤ d) := by
  have hp : 0 < L.length := List.length_pos_iff.2 h0
  obtain ⟨⟨a1, a2⟩, ⟨b1, b2⟩, _⟩ := hin L[0] (List.getElem_mem hp)
  obtain ⟨a, b, c, d, hr, ha, hb, hc, hd, he⟩ := box_l hL hin L.length 0 k L[0].1 L[0].2.1 L[0].1 L[0].2.1 (by omega) (by omega) hk (by omega) (by omega) (by omega) (by omega) (by omega) (by omega)
  refine ⟨c, d, a, b, ?_, by omega, by omega, fun e hm => he e (by simpa using hm)⟩
  unfold stroke_Box_v1.f
  rw [if_neg (by omega)]
  refine bind_of (lgt_nat (i := 0) hp) (bind_of (lgt_nat (i := 0) hp) (bind_of hr ?_))
  dsimp only
  rw [half_f w0 w1, w64 (n := c - (w + 1) / 2) (by omega) (by omega), w64 (n := d - (w + 1) / 2) (by omega) (by omega), w64 (n := a + (w + 1) / 2) (by omega) (by omega), w64 (n := b + (w + 1) / 2) (by omega) (by omega)]
theorem box_0 (w : Int) (k : Nat) : stroke_Box_v1.f k [] w = some (0, 0, 0, 0, false) := by
  unfold stroke_Box_v1.f
  rw [if_pos (by simp)]

theorem rbox_l (L : List (Int × Int × Int × Int)) : ∀ (k : Nat) (i a b c d : Int), glyphicref20_Box_v1.l0 k L i a b c d = stroke_Box_v1.l0 k L i a b c d
  | 0, _, _, _, _, _ => rfl
  | k + 1, i, a, b, c, d => by
    rw [glyphicref20_Box_v1.l0, stroke_Box_v1.l0]
    by_cases h : i < (L.length : Int)
    · rw [if_pos h, if_pos h]
      cases hg : lgt L i with
      | none => rfl
      | some e =>
        obtain ⟨x, y, z, w⟩ := e
        simp only [Option.bind_some]
        exact rbox_l L k _ _ _ _ _
    · rw [if_neg h, if_neg h]
theorem rbox_f (L : List (Int × Int × Int × Int)) (k : Nat) (w : Int) : glyphicref20_Box_v1.f k L w = stroke_Box_v1.f k L w := by
  unfold glyphicref20_Box_v1.f stroke_Box_v1.f
  simp only [rbox_l]
theorem rnear_l {L : List (Int × Int × Int × Int)} {px py w : Int} (hL : L.length ≤ 1000000) (hg : ∀ e ∈ L, Gd e px py) (w0 : 0 ≤ w) (w1 : w ≤ 268435456) : ∀ (n i k : Nat), L.length - i = n → i ≤ L.length → n < k →
    ∃ r, glyphicref20_Near_v1.l0 k L w px py i = some r ∧ ((r = .inl true ∧ (L.drop i).any (fun e => nE e px py w) = true) ∨ (r = .inr () ∧ (L.drop i).any (fun e => nE e px py w) = false))
  | 0, i, k, hn, hi, hk => by
    obtain ⟨k, rfl⟩ : ∃ m, k = m + 1 := ⟨k - 1, by omega⟩
    refine ⟨.inr (), ?_, Or.inr ⟨rfl, ?_⟩⟩
    · rw [glyphicref20_Near_v1.l0, if_neg (by omega)]
    · rw [List.drop_eq_nil_of_le (by omega)]; rfl
  | n + 1, i, k, hn, hi, hk => by
    obtain ⟨k, rfl⟩ : ∃ m, k = m + 1 := ⟨k - 1, by omega⟩
    have hlt : i < L.length := by omega
    have hg1 := hg L[i] (List.getElem_mem hlt)
    have h1 : glyphicref1_Near.f L[i].1 L[i].2.1 L[i].2.2.1 L[i].2.2.2 px py w = some (nE L[i] px py w) := rnear_f hg1.1 hg1.2.1 hg1.2.2.1 hg1.2.2.2.1 hg1.2.2.2.2.1 hg1.2.2.2.2.2 w0 w1
    rw [glyphicref20_Near_v1.l0, if_pos (by omega)]
    cases hb : nE L[i] px py w with
    | true =>
      refine ⟨.inl true, bind_of (lgt_nat hlt) (bind_of (lgt_nat hlt) (bind_of h1 ?_)), Or.inl ⟨rfl, ?_⟩⟩
      · rw [hb, if_pos rfl]
      · rw [any_drop hlt, hb]; rfl
    | false =>
      obtain ⟨r, hr, hc⟩ := rnear_l hL hg w0 w1 n (i + 1) k (by omega) (by omega) (by omega)
      refine ⟨r, bind_of (lgt_nat hlt) (bind_of (lgt_nat hlt) (bind_of h1 ?_)), ?_⟩
      · rw [hb, if_neg (by decide), wnat (by omega)]
        exact hr
      · rw [any_drop hlt, hb, Bool.false_or]
        exact hc
theorem rnear_all {L : List (Int × Int × Int × Int)} {px py w : Int} (hL : L.length ≤ 1000000) (hg : ∀ e ∈ L, Gd e px py) (w0 : 0 ≤ w) (w1 : w ≤ 268435456) (k : Nat) (hk : L.length < k) : glyphicref20_Near_v1.f k L w px py = some (L.any fun e => nE e px py w) := by
  unfold glyphicref20_Near_v1.f
  obtain ⟨r, hr, hc⟩ := rnear_l hL hg w0 w1 L.length 0 k (by omega) (by omega) hk
  rw [List.drop_zero] at hc
  rcases hc with ⟨rfl, h⟩ | ⟨rfl, h⟩
  · refine bind_of hr ?_
    rw [h]
  · refine bind_of hr ?_
    rw [h]
theorem says_l (l : List Int) {L : List (Int × Int × Int × Int)} (hL : L.length ≤ 100) (hin : ∀ e ∈ L, In4 60 e) (w x y : Int) (w0 : 0 ≤ Int.tmod w 200) (w1 : Int.tmod w 200 ≤ 200) : ∀ (n i k : Nat) (at_ : Int), 20 - i = n → i ≤ 20 → n + L.length < k → 0 ≤ at_ → at_ + 2 * n ≤ 1000 →
    ∃ at', glyphiclaw23_StrokeSays.l0 k l x y w L i at_ = some (.inr at')
  | 0, i, k, at_, hn, hi, hk, h0, h1 => by
    obtain ⟨k, rfl⟩ : ∃ m, k = m + 1 := ⟨k - 1, by omega⟩
    refine ⟨at_, ?_⟩
    rw [glyphiclaw23_StrokeSays.l0, if_neg (by omega)]
  | n + 1, i, k, at_, hn, hi, hk, h0, h1 => by
    obtain ⟨k, rfl⟩ : ∃ m, k = m + 1 := ⟨k - 1, by omega⟩
    obtain ⟨px, py, hp, p1, p2⟩ := point_f (far := 150) (at_ := at_) l (by omega) (by omega) (by omega) (by omega)
    have b1 := tmod_in x (b := 16777216) (by omega)
    have b2 := tmod_in y (b := 16777216) (by omega)
    have good : ∀ {qx qy : Int}, -16777216 < qx ∧ qx < 16777216 → -16777216 < qy ∧ qy < 16777216 → ∀ e ∈ L, Gd e qx qy := by
      intro qx qy g1 g2 e he
      obtain ⟨a1, b1, c1, d1⟩ := hin e he
      unfold Gd Nr
      omega
    obtain ⟨at', h⟩ := says_l l hL hin w x y w0 w1 n (i + 1) k (at_ + 2) (by omega) (by omega) (by omega) (by omega) (by omega)
    refine ⟨at', ?_⟩
    rw [glyphiclaw23_StrokeSays.l0, if_pos (by omega)]
    refine bind_of hp ?_
    dsimp only
    by_cases c : (i : Int) = 0
    · rw [if_pos c]
      refine bind_of (near_all (by omega) (good b1 b2) w0 (by omega) k (by omega)) (bind_of (rnear_all (by omega) (good b1 b2) w0 (by omega) k (by omega)) ?_)
      rw [if_pos rfl, wnat (by omega)]
      exact h
    · rw [if_neg c]
      refine bind_of (near_all (by omega) (good (by omega) (by omega)) w0 (by omega) k (by omega)) (bind_of (rnear_all (by omega) (good (by omega) (by omega)) w0 (by omega) k (by omega)) ?_)
      rw [if_pos rfl, wnat (by omega)]
      exact h
theorem StrokeSays : glyphiclaw23_StrokeSays.Pure := by
  intro l w x y hw _ _
  have hf : glyphiclaw23_first.f = some true := by decide +kernel
  have hwb := bounds_i64 hw
  refine ⟨200, ?_⟩
  unfold glyphiclaw23_StrokeSays.f
  refine bind_of hf ?_
  rw [if_pos rfl]
  by_cases hl : (l.length : Int) > 120
  · rw [if_pos hl]
  · rw [if_neg hl]
    obtain ⟨v, hv, v0⟩ : ∃ v, (if w < 0 then (some (wr64 (0 - (wr64 (w + 1))), true)) else (some (w, true)) : Option (Int × Bool)) = some (v, true) ∧ 0 ≤ v := by
      by_cases c : w < 0
      · rw [if_pos c, w64 (n := w + 1) (by omega) (by omega), w64 (by omega) (by omega)]
        exact ⟨_, rfl, by omega⟩
      · rw [if_neg c]
        exact ⟨_, rfl, by omega⟩
    obtain ⟨L, at', hL, hlen, hin, g1, g2⟩ := edges_f (most := 10) (far := 60) (at_ := 0) (by omega) (by omega) (by omega) (by omega) l (by omega) (by omega) 200 (by omega)
    have hm := tmod_in v (b := 200) (by omega)
    have hm0 : 0 ≤ Int.tmod v 200 := by rw [tmod_pos v0]; omega
    obtain ⟨a, b, c, d, e, hbox⟩ : ∃ a b c d e, stroke_Box_v1.f 200 L (Int.tmod v 200) = some (a, b, c, d, e) := by
      by_cases h0 : L = []
      · subst h0
        exact ⟨_, _, _, _, _, box_0 _ _⟩
      · obtain ⟨a, b, c, d, h, _⟩ := box_f (L := L) (by omega) hin (by omega) h0 hm0 (by omega) 200 (by omega)
        exact ⟨_, _, _, _, _, h⟩
    obtain ⟨at2, hloop⟩ := says_l l (L := L) (by omega) hin v x y hm0 (by omega) 20 0 200 at' (by omega) (by omega) (by omega) (by omega) (by omega)
    refine bind_of hv ?_
    dsimp only
    refine bind_of hL ?_
    dsimp only
    refine bind_of hbox ?_
    dsimp only
    refine bind_of (by rw [rbox_f]; exact hbox) ?_
    dsimp only
    refine bind_of hloop ?_
    dsimp only
    rw [if_pos rfl]
    have sp : ∀ u v : Int, glyphicref_SamePoint.f u v u v = some true := by
      intro u v
      unfold glyphicref_SamePoint.f
      rw [if_pos rfl]
      simp
    refine bind_of (sp a b) ?_
    rw [if_pos rfl]
    refine bind_of (sp c d) ?_
    rw [if_pos rfl]
    simp

end Go.Proofs.Ytpimfacaalkmdaa.Pure
