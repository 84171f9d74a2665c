/- The plain law of SweepMoves. -/
import Derived.Test.YtpimfacaalkmdaaQSweepMovesx1
import Derived.OpenShut
namespace Go.Proofs.Ytpimfacaalkmdaa.Pure
open Go Go.RowKit Go.Proofs.Ytpimfacaalkmdaa.QSweepMoves Go.Proofs.YtpimfacaalkmdaaE Go.Proofs.YtpimfacaalkmdaaX
set_option linter.unusedVariables false

theorem bind_of {α β : Type} {o : Option α} {f : α → Option β} {x : α} {r : Option β} (h : o = some x) (h2 : f x = r) : o.bind f = r := by
  subst h
  exact h2

theorem div_is {a b q : Int} (hb : 0 < b) (h1 : q * b ≤ a) (h2 : a < q * b + b) : a / b = q := by
  apply Int.le_antisymm
  · exact Int.lt_add_one_iff.1 (Int.ediv_lt_of_lt_mul hb (by rw [Int.add_mul, Int.one_mul]; exact h2))
  · exact Int.le_ediv_of_mul_le hb h1

theorem div_in (a : Int) {b : Int} (hb : 0 < b) : a / b * b ≤ a ∧ a < a / b * b + b := by
  have h1 := Int.mul_ediv_add_emod a b
  have h2 := Int.emod_nonneg a (Int.ne_of_gt hb)
  have h3 := Int.emod_lt_of_pos a hb
  rw [Int.mul_comm] at h1
  omega

theorem div_bd (a : Int) {b : Int} (hb : 0 < b) : (0 ≤ a → 0 ≤ a / b ∧ a / b ≤ a) ∧ (a < 0 → a ≤ a / b ∧ a / b < 0) := by
  obtain ⟨h1, h2⟩ := div_in a hb
  refine ⟨fun h => ⟨Int.ediv_nonneg h (by omega), Int.ediv_le_self _ h⟩, fun h => ⟨?_, Int.ediv_neg_of_neg_of_pos h hb⟩⟩
  exact Int.le_ediv_of_mul_le hb (by
    have : a * b ≤ a * 1 := Int.mul_le_mul_of_nonpos_left (by omega) (by omega)
    omega)

theorem tmod_in (a : Int) {b : Int} (hb : 0 < b) : -b < Int.tmod a b ∧ Int.tmod a b < b := by
  rw [Int.tmod_eq_emod]
  have h2 := Int.emod_nonneg a (show b ≠ 0 by omega)
  have h3 := Int.emod_lt_of_pos a hb
  split
  · omega
  · have : ((b.natAbs : Nat) : Int) = b := by omega
    rename_i h
    have hne : a % b ≠ 0 := fun h0 => h (Or.inr (Int.dvd_of_emod_eq_zero h0))
    omega

theorem tmod_pos {a b : Int} (ha : 0 ≤ a) : Int.tmod a b = a % b := by
  rw [Int.tmod_eq_emod, if_pos (Or.inl ha)]; omega

theorem cyc (a : Int) {b : Int} (hb : 0 < b) (hb1 : b ≤ 4611686018427387903) : ∃ s, Int.tmod (wr64 (Int.tmod a b + b)) b = s ∧ 0 ≤ s ∧ s < b := by
  have h := tmod_in a hb
  refine ⟨_, rfl, ?_⟩
  rw [w64 (by omega) (by omega), tmod_pos (by omega)]
  exact ⟨Int.emod_nonneg _ (by omega), Int.emod_lt_of_pos _ hb⟩

theorem size1 {n : Int} (n0 : -9223372036854775807 ≤ n) (n1 : n ≤ 9223372036854775807) : plane_within_1.f n = some (n.natAbs : Int) := by
  unfold plane_within_1.f mx
  rw [w64 (n := 0 - n) (by omega) (by omega), wru64_eq]
  congr 1
  split <;> omega

theorem within_f {a b c d : Int} (a0 : -9223372036854775807 ≤ a) (a1 : a ≤ 9223372036854775807) (b0 : -9223372036854775807 ≤ b) (b1 : b ≤ 9223372036854775807) (c0 : -9223372036854775807 ≤ c) (c1 : c ≤ 9223372036854775807) (d0 : -9223372036854775807 ≤ d) (d1 : d ≤ 9223372036854775807) :
    plane_within.f a b c d = some (decide ((a.natAbs : Int) * (b.natAbs : Int) ≤ (c.natAbs : Int) * (d.natAbs : Int))) := by
  have M : ∀ x y : Int, 0 ≤ x → x ≤ 9223372036854775807 → 0 ≤ y → y ≤ 9223372036854775807 → bits_Mul64.f x y = some (x * y / 18446744073709551616, x * y % 18446744073709551616) := by
    intro x y h1 h2 h3 h4
    unfold bits_Mul64.f
    rw [if_pos ⟨h1, by omega, h3, by omega⟩]
  unfold plane_within.f
  refine bind_of (size1 a0 a1) (bind_of (size1 b0 b1) (bind_of (M _ _ (by omega) (by omega) (by omega) (by omega)) (bind_of (size1 c0 c1) (bind_of (size1 d0 d1) (bind_of (M _ _ (by omega) (by omega) (by omega) (by omega)) ?_)))))
  dsimp only
  generalize (a.natAbs : Int) * (b.natAbs : Int) = P
  generalize (c.natAbs : Int) * (d.natAbs : Int) = Q
  by_cases h1 : P / 18446744073709551616 < Q / 18446744073709551616
  · rw [if_pos h1, decide_eq_true (by omega)]
  · rw [if_neg h1]
    by_cases h2 : P / 18446744073709551616 = Q / 18446744073709551616
    · rw [if_pos h2]
      congr 1
      by_cases h3 : P ≤ Q
      · rw [decide_eq_true h3, decide_eq_true (by omega)]
      · rw [decide_eq_false h3, decide_eq_false (by omega)]
    · rw [if_neg h2, decide_eq_false (by omega)]

theorem mul_bd {x y M N : Int} (hx0 : -M ≤ x) (hx1 : x ≤ M) (hy0 : -N ≤ y) (hy1 : y ≤ N) : -(M * N) ≤ x * y ∧ x * y ≤ M * N := by
  have h : (x * y).natAbs ≤ M.toNat * N.toNat := by
    rw [Int.natAbs_mul]
    exact Nat.mul_le_mul (by omega) (by omega)
  have e : ((M.toNat * N.toNat : Nat) : Int) = M * N := by
    rw [Int.natCast_mul, Int.toNat_of_nonneg (by omega), Int.toNat_of_nonneg (by omega)]
  omega

/-- Two numbers no farther apart than that. -/
def Nr (a b : Int) : Prop := -268435456 ≤ b - a ∧ b - a ≤ 268435456

theorem prod_bd {a b c d : Int} (h1 : Nr a b) (h2 : Nr c d) : -72057594037927936 ≤ (b - a) * (d - c) ∧ (b - a) * (d - c) ≤ 72057594037927936 := mul_bd (M := 268435456) (N := 268435456) (by have := h1.1; omega) h1.2 (by have := h2.1; omega) h2.2

def crs (ax ay bx by_ px py : Int) : Int := (bx - ax) * (py - ay) - (by_ - ay) * (px - ax)
def dt (ax ay bx by_ px py : Int) : Int := (bx - ax) * (px - ax) + (by_ - ay) * (py - ay)
def ln (ax ay bx by_ : Int) : Int := (bx - ax) * (bx - ax) + (by_ - ay) * (by_ - ay)

theorem sq_nonneg (x : Int) : 0 ≤ x * x := by
  rcases Int.le_total 0 x with h | h
  · exact Int.mul_nonneg h h
  · exact Int.mul_nonneg_of_nonpos_of_nonpos h h

theorem ln_nonneg (ax ay bx by_ : Int) : 0 ≤ ln ax ay bx by_ := by
  unfold ln
  have := sq_nonneg (bx - ax)
  have := sq_nonneg (by_ - ay)
  omega

theorem ln_bd {ax ay bx by_ : Int} (h1 : Nr ax bx) (h2 : Nr ay by_) : ln ax ay bx by_ ≤ 144115188075855872 := by
  unfold ln
  have := prod_bd h1 h1
  have := prod_bd h2 h2
  omega

theorem dt_bd {ax ay bx by_ px py : Int} (h1 : Nr ax bx) (h2 : Nr ay by_) (h3 : Nr ax px) (h4 : Nr ay py) : -144115188075855872 ≤ dt ax ay bx by_ px py ∧ dt ax ay bx by_ px py ≤ 144115188075855872 := by
  unfold dt
  have := prod_bd h1 h3
  have := prod_bd h2 h4
  omega

theorem crs_bd {ax ay bx by_ px py : Int} (h1 : Nr ax bx) (h2 : Nr ay by_) (h3 : Nr ax px) (h4 : Nr ay py) : -144115188075855872 ≤ crs ax ay bx by_ px py ∧ crs ax ay bx by_ px py ≤ 144115188075855872 := by
  unfold crs
  have := prod_bd h1 h4
  have := prod_bd h2 h3
  omega

theorem sub_f {a b c d : Int} (h1 : Nr c a) (h2 : Nr d b) : plane_Sub.f a b c d = some (a - c, b - d) := by
  unfold plane_Sub.f
  rw [w64 (by have := h1.1; omega) (by have := h1.2; omega), w64 (by have := h2.1; omega) (by have := h2.2; omega)]

theorem cross_f {ax ay bx by_ px py : Int} (h1 : Nr ax bx) (h2 : Nr ay by_) (h3 : Nr ax px) (h4 : Nr ay py) : plane_Cross.f ax ay bx by_ px py = some (crs ax ay bx by_ px py) := by
  unfold plane_Cross.f
  refine bind_of (sub_f h1 h2) (bind_of (sub_f h3 h4) ?_)
  have b1 := prod_bd h1 h4
  have b2 := prod_bd h2 h3
  show some (wr64 (wr64 ((bx - ax) * (py - ay)) - wr64 ((by_ - ay) * (px - ax)))) = _
  rw [w64 (n := (bx - ax) * (py - ay)) (by omega) (by omega), w64 (n := (by_ - ay) * (px - ax)) (by omega) (by omega), w64 (by omega) (by omega)]
  rfl

theorem dot_f {ax ay bx by_ px py : Int} (h1 : Nr ax bx) (h2 : Nr ay by_) (h3 : Nr ax px) (h4 : Nr ay py) : plane_Dot.f ax ay bx by_ px py = some (dt ax ay bx by_ px py) := by
  unfold plane_Dot.f
  refine bind_of (sub_f h1 h2) (bind_of (sub_f h3 h4) ?_)
  have b1 := prod_bd h1 h3
  have b2 := prod_bd h2 h4
  show some (wr64 (wr64 ((bx - ax) * (px - ax)) + wr64 ((by_ - ay) * (py - ay)))) = _
  rw [w64 (n := (bx - ax) * (px - ax)) (by omega) (by omega), w64 (n := (by_ - ay) * (py - ay)) (by omega) (by omega), w64 (by omega) (by omega)]
  rfl

theorem len2_f {ax ay bx by_ : Int} (h1 : Nr ax bx) (h2 : Nr ay by_) : plane_Len2.f ax ay bx by_ = some (ln ax ay bx by_) := by
  unfold plane_Len2.f
  exact bind_of (dot_f h1 h2 h1 h2) rfl

/-- Near, as the document says it. -/
def nearB (ax ay bx by_ px py w : Int) : Bool :=
  if dt ax ay bx by_ px py ≤ 0 then decide (4 * ln ax ay px py ≤ w * w)
  else if dt ax ay bx by_ px py ≥ ln ax ay bx by_ then decide (4 * ln bx by_ px py ≤ w * w)
  else decide (4 * (crs ax ay bx by_ px py * crs ax ay bx by_ px py) ≤ w * w * ln ax ay bx by_)

theorem within_len {l w : Int} (l0 : 0 ≤ l) (l1 : l ≤ 144115188075855872) (w0 : 0 ≤ w) (w1 : w ≤ 268435456) : plane_within.f 4 l w w = some (decide (4 * l ≤ w * w)) := by
  rw [within_f (by omega) (by omega) (by omega) (by omega) (by omega) (by omega) (by omega) (by omega)]
  rw [show ((4 : Int).natAbs : Int) = 4 from rfl, show ((l.natAbs : Nat) : Int) = l by omega, show ((w.natAbs : Nat) : Int) = w by omega]

theorem within_side {c l w : Int} (c0 : -144115188075855872 ≤ c) (c1 : c ≤ 144115188075855872) (l0 : 0 ≤ l) (l1 : l ≤ 144115188075855872) (w0 : 0 ≤ w) (w1 : w ≤ 268435456) : plane_within.f (wr64 (2 * c)) (wr64 (2 * c)) (wr64 (w * w)) l = some (decide (4 * (c * c) ≤ w * w * l)) := by
  have h := mul_bd (M := 268435456) (N := 268435456) (x := w) (y := w) (by omega) w1 (by omega) w1
  have hw := sq_nonneg w
  rw [w64 (n := 2 * c) (by omega) (by omega), w64 (n := w * w) (by omega) (by omega)]
  rw [within_f (by omega) (by omega) (by omega) (by omega) (by omega) (by omega) (by omega) (by omega)]
  rw [show (((2 * c).natAbs : Nat) : Int) * (((2 * c).natAbs : Nat) : Int) = 4 * (c * c) by rw [← Int.natCast_mul, Int.natAbs_mul_self]; grind, show ((l.natAbs : Nat) : Int) = l by omega, show (((w * w).natAbs : Nat) : Int) = w * w by omega]

theorem near_f {ax ay bx by_ px py w : Int} (h1 : Nr ax bx) (h2 : Nr ay by_) (h3 : Nr ax px) (h4 : Nr ay py) (h5 : Nr bx px) (h6 : Nr by_ py) (w0 : 0 ≤ w) (w1 : w ≤ 268435456) : plane_Near.f ax ay bx by_ px py w = some (nearB ax ay bx by_ px py w) := by
  unfold plane_Near.f nearB
  refine bind_of (dot_f h1 h2 h3 h4) (bind_of (len2_f h1 h2) ?_)
  by_cases c1 : dt ax ay bx by_ px py ≤ 0
  · rw [if_pos c1, if_pos c1]
    exact bind_of (len2_f h3 h4) (bind_of (within_len (ln_nonneg _ _ _ _) (ln_bd h3 h4) w0 w1) rfl)
  · rw [if_neg c1, if_neg c1]
    by_cases c2 : dt ax ay bx by_ px py ≥ ln ax ay bx by_
    · rw [if_pos c2, if_pos c2]
      exact bind_of (len2_f h5 h6) (bind_of (within_len (ln_nonneg _ _ _ _) (ln_bd h5 h6) w0 w1) rfl)
    · rw [if_neg c2, if_neg c2]
      exact bind_of (cross_f h1 h2 h3 h4) (bind_of (within_side (crs_bd h1 h2 h3 h4).1 (crs_bd h1 h2 h3 h4).2 (ln_nonneg _ _ _ _) (ln_bd h1 h2) w0 w1) rfl)

theorem lgt_ex {T : Type} {L : List T} {i : Int} (h0 : 0 ≤ i) (h1 : i < L.length) : ∃ x, lgt L i = some x := by
  unfold lgt
  rw [if_neg (by omega)]
  exact ⟨L[i.toNat]'(by omega), List.getElem?_eq_getElem (by omega)⟩

theorem number_f {n b : Int} (hb : 0 < b) (hb1 : b ≤ 4611686018427387903) : ∃ v, glyphicworld_Number.f n b = some v ∧ 0 ≤ v ∧ v < b := by
  unfold glyphicworld_Number.f
  rw [if_neg (by omega)]
  have h := tmod_in n hb
  by_cases c : Int.tmod n b < 0
  · rw [if_pos c, w64 (by omega) (by omega)]
    exact ⟨_, rfl, by omega, by omega⟩
  · rw [if_neg c]
    exact ⟨_, rfl, by omega, by omega⟩

theorem next_f {b at_ : Int} (L : List Int) (hb : 0 < b) (hb1 : b ≤ 4611686018427387903) (h0 : 0 ≤ at_) (h1 : at_ ≤ 1000000000) : ∃ v, glyphicmake_Seq_Next_v1.f b L at_ = some (v, at_ + 1) ∧ 0 ≤ v ∧ v < b := by
  unfold glyphicmake_Seq_Next_v1.f
  have e : wr64 (at_ + 1) = at_ + 1 := w64 (by omega) (by omega)
  rw [e]
  by_cases c : at_ < (L.length : Int)
  · obtain ⟨x, hx⟩ := lgt_ex h0 c
    obtain ⟨v, hv, v0, v1⟩ := number_f (n := x) hb hb1
    rw [if_pos c]
    exact ⟨v, bind_of (bind_of hx rfl) (bind_of hv rfl), v0, v1⟩
  · obtain ⟨v, hv, v0, v1⟩ := number_f (n := 0) hb hb1
    rw [if_neg c]
    exact ⟨v, bind_of rfl (bind_of hv rfl), v0, v1⟩

theorem point_f {far at_ : Int} (L : List Int) (hb : 0 ≤ far) (hb1 : far ≤ 1000000000000000) (h0 : 0 ≤ at_) (h1 : at_ ≤ 999999999) : ∃ x y, glyphicmake_Point_v1.f far L at_ = some (x, y, at_ + 2) ∧ (-far ≤ x ∧ x ≤ far) ∧ -far ≤ y ∧ y ≤ far := by
  unfold glyphicmake_Point_v1.f
  have e : wr64 (wr64 (2 * far) + 1) = 2 * far + 1 := by
    rw [w64 (n := 2 * far) (by omega) (by omega), w64 (by omega) (by omega)]
  rw [e]
  obtain ⟨u, hu, u0, u1⟩ := next_f (b := 2 * far + 1) L (by omega) (by omega) h0 (by omega)
  obtain ⟨v, hv, v0, v1⟩ := next_f (b := 2 * far + 1) L (by omega) (by omega) (show 0 ≤ at_ + 1 by omega) (by omega)
  refine ⟨u - far, v - far, bind_of hu (bind_of hv ?_), by omega, by omega⟩
  dsimp only
  rw [w64 (n := u - far) (by omega) (by omega), w64 (n := v - far) (by omega) (by omega), show at_ + 1 + 1 = at_ + 2 by omega]

theorem lgt_nat {T : Type} {L : List T} {i : Nat} (h : i < L.length) : lgt L (i : Int) = some L[i] := by
  unfold lgt
  rw [if_neg (by omega), Int.toNat_natCast, List.getElem?_eq_getElem h]
theorem lapp_ok {T : Type} {L X : List T} (h : L.length + X.length ≤ 4294967296) : lapp L X = some (L ++ X) := by
  unfold lapp
  rw [if_pos h]
theorem wnat {i : Nat} (h : i ≤ 1000000000000) : wr64 ((i : Int) + 1) = ((i + 1 : Nat) : Int) := by
  rw [w64 (by omega) (by omega)]
  omega
/-- No number of an edge is beyond. -/
def In4 (far : Int) (e : Int × Int × Int × Int) : Prop := (-far ≤ e.1 ∧ e.1 ≤ far) ∧ (-far ≤ e.2.1 ∧ e.2.1 ≤ far) ∧ (-far ≤ e.2.2.1 ∧ e.2.2.1 ≤ far) ∧ (-far ≤ e.2.2.2 ∧ e.2.2.2 ≤ far)

def nE (e : Int × Int × Int × Int) (px py w : Int) : Bool := nearB e.1 e.2.1 e.2.2.1 e.2.2.2 px py w
/-- Far enough from overflow. -/
def Gd (e : Int × Int × Int × Int) (px py : Int) : Prop := Nr e.1 e.2.2.1 ∧ Nr e.2.1 e.2.2.2 ∧ Nr e.1 px ∧ Nr e.2.1 py ∧ Nr e.2.2.1 px ∧ Nr e.2.2.2 py
theorem nE_f {e : Int × Int × Int × Int} {px py w : Int} (h : Gd e px py) (w0 : 0 ≤ w) (w1 : w ≤ 268435456) : plane_Near.f e.1 e.2.1 e.2.2.1 e.2.2.2 px py w = some (nE e px py w) :=
  near_f h.1 h.2.1 h.2.2.1 h.2.2.2.1 h.2.2.2.2.1 h.2.2.2.2.2 w0 w1
theorem any_drop {T : Type} {L : List T} {p : T → Bool} {i : Nat} (h : i < L.length) : (L.drop i).any p = (p L[i] || (L.drop (i + 1)).any p) := by
  rw [List.drop_eq_getElem_cons h, List.any_cons]
theorem near_l {L : List (Int × Int × Int × Int)} {px py w : Int} (hL : L.length ≤ 1000000) (hg : ∀ e ∈ L, Gd e px py) (w0 : 0 ≤ w) (w1 : w ≤ 268435456) : ∀ (n i k : Nat), L.length - i = n → i ≤ L.length → n < k →
    ∃ r, api_Edge_v2.l0 k L px py w i = some r ∧ ((∃ j : Int, r = .inl j ∧ 0 ≤ j ∧ (L.drop i).any (fun e => nE e px py w) = true) ∨ (r = .inr () ∧ (L.drop i).any (fun e => nE e px py w) = false))
  | 0, i, k, hn, hi, hk => by
    obtain ⟨k, rfl⟩ : ∃ m, k = m + 1 := ⟨k - 1, by omega⟩
    refine ⟨.inr (), ?_, Or.inr ⟨rfl, ?_⟩⟩
    · rw [api_Edge_v2.l0, if_neg (by omega)]
    · rw [List.drop_eq_nil_of_le (by omega)]; rfl
  | n + 1, i, k, hn, hi, hk => by
    obtain ⟨k, rfl⟩ : ∃ m, k = m + 1 := ⟨k - 1, by omega⟩
    have hlt : i < L.length := by omega
    have hnear := nE_f (hg L[i] (List.getElem_mem hlt)) w0 w1
    have h1 : stroke_Near_1_v1.f L[i].1 L[i].2.1 L[i].2.2.1 L[i].2.2.2 px py w = some (nE L[i] px py w) := bind_of hnear rfl
    rw [api_Edge_v2.l0, if_pos (by omega)]
    cases hb : nE L[i] px py w with
    | true =>
      refine ⟨.inl i, bind_of (lgt_nat hlt) (bind_of h1 ?_), Or.inl ⟨i, rfl, by omega, ?_⟩⟩
      · rw [hb, if_pos rfl]
      · rw [any_drop hlt, hb]; rfl
    | false =>
      obtain ⟨r, hr, hc⟩ := near_l hL hg w0 w1 n (i + 1) k (by omega) (by omega) (by omega)
      refine ⟨r, bind_of (lgt_nat hlt) (bind_of h1 ?_), ?_⟩
      · rw [hb, if_neg (by decide), wnat (by omega)]
        exact hr
      · rw [any_drop hlt, hb, Bool.false_or]
        exact hc
theorem near_all {L : List (Int × Int × Int × Int)} {px py w : Int} (hL : L.length ≤ 1000000) (hg : ∀ e ∈ L, Gd e px py) (w0 : 0 ≤ w) (w1 : w ≤ 268435456) (k : Nat) (hk : L.length < k) : stroke_Near_v1.f k L w px py = some (L.any fun e => nE e px py w) := by
  unfold stroke_Near_v1.f api_Edge_v1.f api_Edge_v2.f
  obtain ⟨r, hr, hc⟩ := near_l hL hg w0 w1 L.length 0 k (by omega) (by omega) hk
  rw [List.drop_zero] at hc
  rcases hc with ⟨j, rfl, j0, h⟩ | ⟨rfl, h⟩
  · refine bind_of (bind_of (bind_of hr rfl) rfl) ?_
    rw [h, decide_eq_true (by omega)]
  · refine bind_of (bind_of (bind_of hr rfl) rfl) ?_
    rw [h]
    rfl

theorem mn_le (a b : Int) : mn a b ≤ a ∧ mn a b ≤ b ∧ (mn a b = a ∨ mn a b = b) := by unfold mn; split <;> omega
theorem mx_ge (a b : Int) : a ≤ mx a b ∧ b ≤ mx a b ∧ (mx a b = a ∨ mx a b = b) := by unfold mx; split <;> omega
theorem half_f {w : Int} (w0 : 0 ≤ w) (w1 : w ≤ 268435456) : wr64 (Int.tdiv (wr64 (w + 1)) 2) = (w + 1) / 2 := by
  rw [w64 (n := w + 1) (by omega) (by omega), Int.tdiv_eq_ediv, if_pos (Or.inl (by omega)), w64 (by omega) (by omega)]
  omega

theorem sq_mono {a b : Int} (h0 : 0 ≤ a) (h : a ≤ b) : a * a ≤ b * b := Int.mul_le_mul h h h0 (by omega)
theorem sq_inv {a b : Int} (b0 : 0 ≤ b) (h : a * a ≤ b * b) : a ≤ b := by
  by_cases c : a ≤ b
  · exact c
  · have : (b + 1) * (b + 1) ≤ a * a := sq_mono (by omega) (by omega)
    have : (b + 1) * (b + 1) = b * b + 2 * b + 1 := by grind
    omega
/-- One axis: no farther than half of the width from between. -/
theorem axis_end {d w s : Int} (w0 : 0 ≤ w) (h : 4 * (d * d + s) ≤ w * w) (s0 : 0 ≤ s) : -w ≤ 2 * d ∧ 2 * d ≤ w := by
  have e : (2 * d) * (2 * d) = 4 * (d * d) := by grind
  have h1 := sq_inv (a := 2 * d) w0 (by omega)
  have e2 : (-(2 * d)) * (-(2 * d)) = 4 * (d * d) := by grind
  have h2 := sq_inv (a := -(2 * d)) w0 (by omega)
  omega
theorem axis_side {dx dy ex ey w D C Ln : Int} (w0 : 0 ≤ w) (hD : D = dx * ex + dy * ey) (hC : C = dx * ey - dy * ex) (hL : Ln = dx * dx + dy * dy) (d0 : 0 < D) (d1 : D < Ln) (h : 4 * (C * C) ≤ w * w * Ln) :
    (0 ≤ dx → -w ≤ 2 * ex ∧ 2 * ex ≤ 2 * dx + w) ∧ (dx ≤ 0 → 2 * dx - w ≤ 2 * ex ∧ 2 * ex ≤ w) := by
  have key : Ln * ex = dx * D - dy * C := by subst hD hC hL; grind
  have hy : dy * dy ≤ Ln := by have := sq_nonneg dx; omega
  -- |2 dy C| ≤ w Ln
  have hb : (2 * (dy * C)) * (2 * (dy * C)) ≤ (w * Ln) * (w * Ln) := by
    have e1 : (2 * (dy * C)) * (2 * (dy * C)) = dy * dy * (4 * (C * C)) := by grind
    have e2 : (w * Ln) * (w * Ln) = Ln * (w * w * Ln) := by grind
    rw [e1, e2]
    have g1 : dy * dy * (4 * (C * C)) ≤ Ln * (4 * (C * C)) := Int.mul_le_mul_of_nonneg_right hy (by have := sq_nonneg C; omega)
    have g2 : Ln * (4 * (C * C)) ≤ Ln * (w * w * Ln) := Int.mul_le_mul_of_nonneg_left h (by omega)
    omega
  have hw : 0 ≤ w * Ln := Int.mul_nonneg w0 (by omega)
  have u1 := sq_inv hw hb
  have u2 := sq_inv (a := -(2 * (dy * C))) hw (by rw [Int.neg_mul_neg]; exact hb)
  have lpos : 0 < Ln := by omega
  have lo : ∀ m : Int, Ln * (2 * m) ≤ Ln * (2 * ex + w) → 2 * m ≤ 2 * ex + w := fun m hm => Int.le_of_mul_le_mul_left hm lpos
  have hi : ∀ m : Int, Ln * (2 * ex) ≤ Ln * (2 * m + w) → 2 * ex ≤ 2 * m + w := fun m hm => Int.le_of_mul_le_mul_left hm lpos
  have x1 : Ln * (2 * ex + w) = 2 * (dx * D) - 2 * (dy * C) + w * Ln := by grind
  have x2 : Ln * (2 * ex) = 2 * (dx * D) - 2 * (dy * C) := by grind
  have p1 : ∀ m : Int, Ln * (2 * m + w) = 2 * (Ln * m) + w * Ln := fun m => by grind
  have p2 : ∀ m : Int, Ln * (2 * m) = 2 * (Ln * m) := fun m => by grind
  have hdx : dx * Ln = Ln * dx := Int.mul_comm _ _
  constructor
  · intro g
    have q1 : 0 ≤ dx * D := Int.mul_nonneg g (by omega)
    have q2 : dx * D ≤ dx * Ln := Int.mul_le_mul_of_nonneg_left (by omega) g
    have r1 := lo 0 (by rw [x1, p2]; omega)
    have r2 := hi dx (by rw [x2, p1]; omega)
    omega
  · intro g
    have q1 : dx * D ≤ 0 := Int.mul_nonpos_of_nonpos_of_nonneg g (by omega)
    have q2 : dx * Ln ≤ dx * D := Int.mul_le_mul_of_nonpos_left g (by omega)
    have r1 := lo dx (by rw [x1, p2]; omega)
    have r2 := hi 0 (by rw [x2, p1]; omega)
    omega
/-- What is near stands where the edge stands, and half of the width more. -/
theorem near_box {ax ay bx by_ px py w a b c d : Int} (w0 : 0 ≤ w) (hn : nearB ax ay bx by_ px py w = true) (h1 : a ≤ ax ∧ ax ≤ c) (h2 : b ≤ ay ∧ ay ≤ d) (h3 : a ≤ bx ∧ bx ≤ c) (h4 : b ≤ by_ ∧ by_ ≤ d) :
    a - (w + 1) / 2 ≤ px ∧ px ≤ c + (w + 1) / 2 ∧ b - (w + 1) / 2 ≤ py ∧ py ≤ d + (w + 1) / 2 := by
  unfold nearB at hn
  by_cases c1 : dt ax ay bx by_ px py ≤ 0
  · rw [if_pos c1, decide_eq_true_eq] at hn
    unfold ln at hn
    have q1 := axis_end (d := px - ax) (s := (py - ay) * (py - ay)) w0 hn (sq_nonneg _)
    have q2 := axis_end (d := py - ay) (s := (px - ax) * (px - ax)) w0 (by omega) (sq_nonneg _)
    omega
  · rw [if_neg c1] at hn
    by_cases c2 : dt ax ay bx by_ px py ≥ ln ax ay bx by_
    · rw [if_pos c2, decide_eq_true_eq] at hn
      unfold ln at hn
      have q1 := axis_end (d := px - bx) (s := (py - by_) * (py - by_)) w0 hn (sq_nonneg _)
      have q2 := axis_end (d := py - by_) (s := (px - bx) * (px - bx)) w0 (by omega) (sq_nonneg _)
      omega
    · rw [if_neg c2, decide_eq_true_eq] at hn
      have g1 := axis_side (dx := bx - ax) (dy := by_ - ay) (ex := px - ax) (ey := py - ay) (D := dt ax ay bx by_ px py) (C := crs ax ay bx by_ px py) (Ln := ln ax ay bx by_) w0 rfl rfl rfl (by omega) (by omega) hn
      have g2 := axis_side (dx := by_ - ay) (dy := bx - ax) (ex := py - ay) (ey := px - ax) (D := dt ax ay bx by_ px py) (C := -crs ax ay bx by_ px py) (Ln := ln ax ay bx by_) w0 (by unfold dt; omega) (by unfold crs; omega) (by unfold ln; omega) (by omega) (by omega) (by rw [Int.neg_mul_neg]; exact hn)
      rcases Int.le_total 0 (bx - ax) with x | x <;> rcases Int.le_total 0 (by_ - ay) with y | y
      · have := g1.1 x; have := g2.1 y; omega
      · have := g1.1 x; have := g2.2 y; omega
      · have := g1.2 x; have := g2.1 y; omega
      · have := g1.2 x; have := g2.2 y; omega

abbrev Ed := Int × Int × Int × Int
def sx (x : Int) (i : Nat) : Int := x * 256 + 32 * ((i % 8 : Nat) : Int) + 16
def sy (y : Int) (i : Nat) : Int := y * 256 + 32 * ((i / 8 : Nat) : Int) + 16
theorem sample_f {x y : Int} {i : Nat} (hx : -100000 ≤ x ∧ x ≤ 100000) (hy : -100000 ≤ y ∧ y ≤ 100000) (hi : i ≤ 64) : sweep_Sample.f x y (i : Int) = some (sx x i, sy y i) := by
  have e1 : Int.tmod (i : Int) 8 = ((i % 8 : Nat) : Int) := by rw [tmod_pos (by omega)]; omega
  have e2 : Int.tdiv (i : Int) 8 = ((i / 8 : Nat) : Int) := by rw [Int.tdiv_eq_ediv, if_pos (Or.inl (by omega))]; omega
  unfold sweep_Sample.f sx sy
  rw [e1, e2, w64 (n := ((i / 8 : Nat) : Int)) (by omega) (by omega), w64 (n := x * 256) (by omega) (by omega), w64 (n := 32 * ((i % 8 : Nat) : Int)) (by omega) (by omega), w64 (n := y * 256) (by omega) (by omega), w64 (n := 32 * ((i / 8 : Nat) : Int)) (by omega) (by omega), w64 (n := x * 256 + 32 * ((i % 8 : Nat) : Int)) (by omega) (by omega), w64 (n := y * 256 + 32 * ((i / 8 : Nat) : Int)) (by omega) (by omega), w64 (by omega) (by omega), w64 (by omega) (by omega)]
theorem sy_row (y : Int) {r i : Nat} (h1 : r * 8 ≤ i) (h2 : i < r * 8 + 8) : sy y i = sy y (r * 8) := by
  unfold sy
  rw [show i / 8 = r by omega, show r * 8 / 8 = r by omega]
/-- The bits of a mask, one by one. -/
def mst (p : Nat → Bool) (i : Nat) (m : Int) : Int := if p i = true then bits .or .u64 m (wru64 (1 * 2 ^ (min i 64))) else m
def mf (p : Nat → Bool) : Nat → Nat → Int → Int
  | _, 0, m => m
  | i, n + 1, m => mf p (i + 1) n (mst p i m)
theorem mf_add (p : Nat → Bool) : ∀ (a i b : Nat) (m : Int), mf p i (a + b) m = mf p (i + a) b (mf p i a m)
  | 0, i, b, m => by simp [mf]
  | a + 1, i, b, m => by
    rw [show a + 1 + b = (a + b) + 1 by omega, mf, mf_add p a (i + 1) b, mf, show i + 1 + a = i + (a + 1) by omega]
theorem mf_congr {p q : Nat → Bool} : ∀ {n i : Nat} {m : Int}, (∀ j, i ≤ j → j < i + n → p j = q j) → mf p i n m = mf q i n m
  | 0, _, _, _ => rfl
  | n + 1, i, m, h => by
    rw [mf, mf, mst, mst, h i (by omega) (by omega)]
    exact mf_congr fun j h1 h2 => h j (by omega) (by omega)
theorem mf_no {p : Nat → Bool} : ∀ {n i : Nat} {m : Int}, (∀ j, i ≤ j → j < i + n → p j = false) → mf p i n m = m
  | 0, _, _, _ => rfl
  | n + 1, i, m, h => by
    rw [mf, mst, h i (by omega) (by omega), if_neg (by decide)]
    exact mf_no fun j h1 h2 => h j (by omega) (by omega)
/-- A row of pixels. -/
def row (w : Nat) (g : Nat → Int) : List Int := (List.range w).map g
theorem row_len (w : Nat) (g : Nat → Int) : (row w g).length = w := by simp [row]
theorem row_congr {w : Nat} {f g : Nat → Int} (h : ∀ x < w, f x = g x) : row w f = row w g := by
  unfold row
  exact List.map_congr_left fun x hx => h x (List.mem_range.1 hx)
theorem row_get {w x : Nat} (g : Nat → Int) (h : x < w) : lgt (row w g) (x : Int) = some (g x) := by
  rw [lgt_nat (by rw [row_len]; exact h)]
  simp [row]
theorem row_put {w x : Nat} (g : Nat → Int) (v : Int) (h : x < w) : lput (row w g) (x : Int) v = some (row w fun x' => if x' = x then v else g x') := by
  unfold lput
  rw [if_pos ⟨by omega, by rw [row_len]; omega⟩, Int.toNat_natCast]
  congr 1
  apply List.ext_getElem
  · simp [row]
  · intro i h1 h2
    simp only [row, List.getElem_set, List.getElem_map, List.getElem_range]
    by_cases e : x = i
    · rw [if_pos e, if_pos e.symm]
    · rw [if_neg e, if_neg (fun q => e q.symm)]
/-- Does a row of samples come near an edge? -/
def cr (wide y : Int) (e : Ed) : Bool := decide (mn (mn e.2.1 e.2.1) e.2.2.2 - (wide + 1) / 2 ≤ y) && decide (y ≤ mx (mx e.2.1 e.2.1) e.2.2.2 + (wide + 1) / 2)
theorem cross_l {L : List Ed} {wide y : Int} (hL : L.length ≤ 1000000) (hin : ∀ e ∈ L, In4 1000000 e) (w0 : 0 ≤ wide) (w1 : wide ≤ 1000000) : ∀ (n i k : Nat) (Y : List Ed), L.length - i = n → i ≤ L.length → n < k → Y.length ≤ i →
    sweep_crossing_v1.l0 k L wide y i Y = some (Y ++ (L.drop i).filter (cr wide y))
  | 0, i, k, Y, hn, hi, hk, hy => by
    obtain ⟨k, rfl⟩ : ∃ m, k = m + 1 := ⟨k - 1, by omega⟩
    rw [sweep_crossing_v1.l0, if_neg (by omega), List.drop_eq_nil_of_le (by omega)]
    simp
  | n + 1, i, k, Y, hn, hi, hk, hy => by
    obtain ⟨k, rfl⟩ : ∃ m, k = m + 1 := ⟨k - 1, by omega⟩
    have hlt : i < L.length := by omega
    obtain ⟨⟨a1, a2⟩, ⟨b1, b2⟩, ⟨c1, c2⟩, d1, d2⟩ := hin L[i] (List.getElem_mem hlt)
    have m1 := mn_le L[i].2.1 L[i].2.1
    have m2 := mn_le (mn L[i].2.1 L[i].2.1) L[i].2.2.2
    have m3 := mx_ge L[i].2.1 L[i].2.1
    have m4 := mx_ge (mx L[i].2.1 L[i].2.1) L[i].2.2.2
    have hbox : ∃ u v, stroke_Box_v1.f wide L[i].1 L[i].2.1 L[i].2.2.1 L[i].2.2.2 = some (u, mn (mn L[i].2.1 L[i].2.1) L[i].2.2.2 - (wide + 1) / 2, v, mx (mx L[i].2.1 L[i].2.1) L[i].2.2.2 + (wide + 1) / 2, true) := by
      unfold stroke_Box_v1.f
      rw [half_f w0 (by omega), w64 (n := mn (mn L[i].2.1 L[i].2.1) L[i].2.2.2 - (wide + 1) / 2) (by omega) (by omega), w64 (n := mx (mx L[i].2.1 L[i].2.1) L[i].2.2.2 + (wide + 1) / 2) (by omega) (by omega)]
      exact ⟨_, _, rfl⟩
    obtain ⟨u, v, hbox⟩ := hbox
    rw [sweep_crossing_v1.l0, if_pos (by omega)]
    refine bind_of (lgt_nat hlt) (bind_of hbox ?_)
    dsimp only
    rw [List.drop_eq_getElem_cons hlt, List.filter_cons]
    unfold cr
    by_cases h1 : mn (mn L[i].2.1 L[i].2.1) L[i].2.2.2 - (wide + 1) / 2 ≤ y
    · rw [if_pos h1, decide_eq_true h1]
      by_cases h2 : y ≤ mx (mx L[i].2.1 L[i].2.1) L[i].2.2.2 + (wide + 1) / 2
      · rw [if_pos h2, decide_eq_true h2, if_pos (by rfl)]
        refine bind_of (lapp_ok (by simp; omega)) ?_
        rw [wnat (by omega), cross_l hL hin w0 w1 n (i + 1) k _ (by omega) (by omega) (by omega) (by simp; omega), List.append_assoc]
        rfl
      · rw [if_neg h2, decide_eq_false h2, if_neg (by decide), wnat (by omega)]
        exact cross_l hL hin w0 w1 n (i + 1) k Y (by omega) (by omega) (by omega) (by omega)
    · rw [if_neg h1, decide_eq_false h1, if_neg (by simp), wnat (by omega)]
      exact cross_l hL hin w0 w1 n (i + 1) k Y (by omega) (by omega) (by omega) (by omega)
theorem cross_list {L : List Ed} {wide y : Int} (hL : L.length ≤ 1000000) (hin : ∀ e ∈ L, In4 1000000 e) (w0 : 0 ≤ wide) (w1 : wide ≤ 1000000) (k : Nat) (hk : L.length < k) : sweep_crossing_v1.f k L wide y = some (L.filter (cr wide y)) := by
  unfold sweep_crossing_v1.f
  exact bind_of (cross_l hL hin w0 w1 L.length 0 k [] (by omega) (by omega) hk (by simp)) (by simp)
/-- How an edge goes round a point. -/
def one (e : Ed) (px py : Int) : Int := if e.2.1 ≤ py ∧ e.2.2.2 > py ∧ crs e.1 e.2.1 e.2.2.1 e.2.2.2 px py > 0 then 1 else if e.2.2.2 ≤ py ∧ e.2.1 > py ∧ crs e.1 e.2.1 e.2.2.1 e.2.2.2 px py < 0 then -1 else 0
theorem one_in (e : Ed) (px py : Int) : -1 ≤ one e px py ∧ one e px py ≤ 1 := by
  unfold one
  split
  · omega
  · split <;> omega
theorem one_f {e : Ed} {px py : Int} (h : Gd e px py) : wind_One.f e.1 e.2.1 e.2.2.1 e.2.2.2 px py = some (one e px py) := by
  have hc := cross_f h.1 h.2.1 h.2.2.1 h.2.2.2.1
  unfold wind_One.f one
  rw [hc]
  simp only [Option.bind_some]
  generalize crs e.1 e.2.1 e.2.2.1 e.2.2.2 px py = c
  by_cases a1 : e.2.1 ≤ py
  · by_cases a2 : e.2.2.2 > py
    · by_cases a3 : c > 0
      · simp [a1, a2, a3]
      · have a4 : ¬ e.2.2.2 ≤ py := by omega
        simp [a1, a2, a3, a4]
    · have b1 : ¬ e.2.1 > py := by omega
      simp [a1, a2, b1]
  · have b1 : e.2.1 > py := by omega
    by_cases b2 : e.2.2.2 ≤ py
    · by_cases b3 : c < 0
      · simp [a1, b1, b2, b3]
      · simp [a1, b1, b2, b3]
    · simp [a1, b2]
def num : List Ed → Int → Int → Int
  | [], _, _ => 0
  | e :: r, px, py => one e px py + num r px py
theorem num_l {L : List Ed} {px py : Int} (hL : L.length ≤ 1000000) (hg : ∀ e ∈ L, Gd e px py) : ∀ (n i k : Nat) (a : Int), L.length - i = n → i ≤ L.length → n < k → -(i : Int) ≤ a → a ≤ i → wind_Number_v1.l0 k L px py a i = some (a + num (L.drop i) px py)
  | 0, i, k, a, hn, hi, hk, h0, h1 => by
    obtain ⟨k, rfl⟩ : ∃ m, k = m + 1 := ⟨k - 1, by omega⟩
    rw [wind_Number_v1.l0, if_neg (by omega), List.drop_eq_nil_of_le (by omega), num, Int.add_zero]
  | n + 1, i, k, a, hn, hi, hk, h0, h1 => by
    obtain ⟨k, rfl⟩ : ∃ m, k = m + 1 := ⟨k - 1, by omega⟩
    have hlt : i < L.length := by omega
    have h2 := one_in L[i] px py
    rw [wind_Number_v1.l0, if_pos (by omega)]
    refine bind_of (lgt_nat hlt) (bind_of (one_f (hg L[i] (List.getElem_mem hlt))) ?_)
    show wind_Number_v1.l0 k L px py (wr64 (a + one L[i] px py)) _ = _
    rw [wnat (by omega), w64 (n := a + one L[i] px py) (by omega) (by omega), num_l hL hg n (i + 1) k _ (by omega) (by omega) (by omega) (by omega) (by omega), List.drop_eq_getElem_cons hlt, num, Int.add_assoc]
def ins (rule n : Int) : Bool := if rule = 0 then (Int.tmod n 2 != 0) else (n != 0)
theorem inside_all {L : List Ed} {px py : Int} (rule : Int) (hL : L.length ≤ 1000000) (hg : ∀ e ∈ L, Gd e px py) (k : Nat) (hk : L.length < k) : sweep_Fill_1_v1.f k L px py rule = some (ins rule (num L px py)) := by
  unfold sweep_Fill_1_v1.f wind_Inside_v1.f wind_Number_v1.f
  refine bind_of (bind_of (bind_of (num_l hL hg L.length 0 k 0 (by omega) (by omega) hk (by omega) (by omega)) rfl) ?_) rfl
  rw [List.drop_zero, Int.zero_add]
  unfold ins
  by_cases h : rule = 0
  · rw [if_pos h, if_pos h]
  · rw [if_neg h, if_neg h]
theorem num_filter {c : Ed → Bool} {px py : Int} : ∀ {L : List Ed}, (∀ e ∈ L, c e = false → one e px py = 0) → num (L.filter c) px py = num L px py
  | [], _ => rfl
  | e :: r, h => by
    have ih := num_filter (L := r) (fun f hf => h f (by simp [hf]))
    rw [List.filter_cons]
    cases hc : c e with
    | true => rw [if_pos rfl, num, num, ih]
    | false => rw [if_neg (by decide), num, ih, h e (by simp) hc]; omega
theorem any_filter {c q : Ed → Bool} : ∀ {L : List Ed}, (∀ e ∈ L, q e = true → c e = true) → (L.filter c).any q = L.any q
  | [], _ => rfl
  | e :: r, h => by
    have ih := any_filter (L := r) (fun f hf => h f (by simp [hf]))
    rw [List.filter_cons]
    cases hc : c e with
    | true => rw [if_pos rfl, List.any_cons, List.any_cons, ih]
    | false =>
      rw [if_neg (by decide), List.any_cons, ih]
      cases hq : q e with
      | true => rw [h e (by simp) hq] at hc; cases hc
      | false => rfl
theorem one_cr {e : Ed} {px py : Int} (h : cr 0 py e = false) : one e px py = 0 := by
  unfold cr at h
  have m1 := mn_le e.2.1 e.2.1
  have m2 := mn_le (mn e.2.1 e.2.1) e.2.2.2
  have m3 := mx_ge e.2.1 e.2.1
  have m4 := mx_ge (mx e.2.1 e.2.1) e.2.2.2
  simp only [Bool.and_eq_false_iff, decide_eq_false_iff_not] at h
  unfold one
  rw [if_neg (by omega), if_neg (by omega)]
theorem near_cr {e : Ed} {px py w : Int} (w0 : 0 ≤ w) (h : nE e px py w = true) : cr w py e = true := by
  have m1 := mn_le e.2.1 e.2.1
  have m2 := mn_le (mn e.2.1 e.2.1) e.2.2.2
  have m3 := mx_ge e.2.1 e.2.1
  have m4 := mx_ge (mx e.2.1 e.2.1) e.2.2.2
  have n1 := mn_le e.1 e.2.2.1
  have n2 := mx_ge e.1 e.2.2.1
  have := near_box (a := mn e.1 e.2.2.1) (b := mn (mn e.2.1 e.2.1) e.2.2.2) (c := mx e.1 e.2.2.1) (d := mx (mx e.2.1 e.2.1) e.2.2.2) w0 h (by omega) (by omega) (by omega) (by omega)
  unfold cr
  rw [decide_eq_true this.2.2.1, decide_eq_true this.2.2.2]
  rfl

theorem fill_l2 {N : List Ed} {y rule : Int} {r x w : Nat} {p : Nat → Bool} {b : Nat} (hx : x < w) (hw : w ≤ 1000) (hr : r < 8) (hy : -100000 ≤ y ∧ y ≤ 100000) (hq : ∀ i, r * 8 ≤ i → i < r * 8 + 8 → ∀ k, b < k → sweep_Fill_1_v1.f k N (sx x i) (sy y i) rule = some (p i)) :
    ∀ (n i k : Nat) (g : Nat → Int), r * 8 + 8 - i = n → r * 8 ≤ i → i ≤ r * 8 + 8 → n + b + 1 < k → sweep_masks_v1.l2 k y rule r N x i (row w g) = some (row w (fun x' => if x' = x then mf p i n (g x) else g x'), true)
  | 0, i, k, g, hn, h1, h2, hk => by
    obtain ⟨k, rfl⟩ : ∃ m, k = m + 1 := ⟨k - 1, by omega⟩
    rw [sweep_masks_v1.l2, w64 (n := (r : Int) + 1) (by omega) (by omega), w64 (n := ((r : Int) + 1) * 8) (by omega) (by omega), if_neg (by omega)]
    congr 2
    refine row_congr fun x' _ => ?_
    split
    · rename_i e; subst e; rfl
    · rfl
  | n + 1, i, k, g, hn, h1, h2, hk => by
    obtain ⟨k, rfl⟩ : ∃ m, k = m + 1 := ⟨k - 1, by omega⟩
    rw [sweep_masks_v1.l2, w64 (n := (r : Int) + 1) (by omega) (by omega), w64 (n := ((r : Int) + 1) * 8) (by omega) (by omega), if_pos (by omega)]
    refine bind_of (sample_f (by omega) hy (by omega)) (bind_of (hq i h1 (by omega) k (by omega)) ?_)
    rw [wnat (by omega)]
    cases hp : p i with
    | true =>
      rw [if_pos rfl]
      refine bind_of (row_get g hx) ?_
      rw [if_neg (by omega), Int.toNat_natCast]
      refine bind_of (row_get g hx) (bind_of (row_put g _ hx) ?_)
      rw [fill_l2 hx hw hr hy hq n (i + 1) k _ (by omega) (by omega) (by omega) (by omega)]
      congr 2
      refine row_congr fun x' _ => ?_
      by_cases e : x' = x
      · rw [if_pos e, if_pos e, if_pos rfl, mf, mst, hp, if_pos rfl]
      · rw [if_neg e, if_neg e, if_neg e]
    | false =>
      rw [if_neg (by decide), fill_l2 hx hw hr hy hq n (i + 1) k g (by omega) (by omega) (by omega) (by omega)]
      congr 2
      refine row_congr fun x' _ => ?_
      by_cases e : x' = x
      · rw [if_pos e, if_pos e, mf, mst, hp, if_neg (by decide)]
      · rw [if_neg e, if_neg e]
theorem fill_l1 {N : List Ed} {y rule : Int} {r w : Nat} {P : Nat → Nat → Bool} {b : Nat} (hN : N ≠ []) (hw : w ≤ 1000) (hr : r < 8) (hy : -100000 ≤ y ∧ y ≤ 100000) (hq : ∀ x < w, ∀ i, r * 8 ≤ i → i < r * 8 + 8 → ∀ k, b < k → sweep_Fill_1_v1.f k N (sx x i) (sy y i) rule = some (P x i)) :
    ∀ (n x k : Nat) (g : Nat → Int), w - x = n → x ≤ w → n + 10 + b < k → sweep_masks_v1.l1 k y w rule r N x (row w g) = some (row w fun x' => if x ≤ x' then mf (P x') (r * 8) 8 (g x') else g x')
  | 0, x, k, g, hn, h1, hk => by
    obtain ⟨k, rfl⟩ : ∃ m, k = m + 1 := ⟨k - 1, by omega⟩
    rw [sweep_masks_v1.l1, if_neg (by omega)]
    congr 1
    exact row_congr fun x' hx' => by rw [if_neg (by omega)]
  | n + 1, x, k, g, hn, h1, hk => by
    obtain ⟨k, rfl⟩ : ∃ m, k = m + 1 := ⟨k - 1, by omega⟩
    have hx : x < w := by omega
    have hpos := List.length_pos_iff.2 hN
    rw [sweep_masks_v1.l1, if_pos (by omega), if_pos (by omega), show wr64 ((r : Int) * 8) = ((r * 8 : Nat) : Int) by rw [w64 (by omega) (by omega)]; omega]
    refine bind_of (fill_l2 hx hw hr hy (hq x hx) 8 (r * 8) k g (by omega) (by omega) (by omega) (by omega)) ?_
    dsimp only
    rw [wnat (by omega), fill_l1 hN hw hr hy hq n (x + 1) k _ (by omega) (by omega) (by omega)]
    congr 1
    refine row_congr fun x' _ => ?_
    by_cases e : x' = x
    · subst e
      rw [if_neg (by omega), if_pos rfl, if_pos (by omega)]
    · by_cases e2 : x ≤ x'
      · rw [if_pos (by omega), if_neg e, if_pos e2]
      · rw [if_neg (by omega), if_neg e, if_neg e2]
theorem fill_l0 {L : List Ed} {y wide rule : Int} {w : Nat} {P : Nat → Nat → Bool} (hL : L.length ≤ 1000000) (hin : ∀ e ∈ L, In4 1000000 e) (w0 : 0 ≤ wide) (w1 : wide ≤ 1000000) (hw : w ≤ 1000) (hy : -100000 ≤ y ∧ y ≤ 100000)
    (hq : ∀ r < 8, ∀ x < w, ∀ i, r * 8 ≤ i → i < r * 8 + 8 → ∀ k, L.length < k → sweep_Fill_1_v1.f k (L.filter (cr wide (sy y (r * 8)))) (sx x i) (sy y i) rule = some (P x i)) (hnil : ∀ (k : Nat) (px py : Int), 0 < k → sweep_Fill_1_v1.f k [] px py rule = some false) :
    ∀ (n r k : Nat), 8 - r = n → r ≤ 8 → n + w + 11 + L.length < k → sweep_masks_v1.l0 k L wide y w rule r (row w fun x => mf (P x) 0 (r * 8) 0) = some (row w fun x => mf (P x) 0 64 0)
  | 0, r, k, hn, hr, hk => by
    obtain ⟨k, rfl⟩ : ∃ m, k = m + 1 := ⟨k - 1, by omega⟩
    have : r = 8 := by omega
    subst this
    rw [sweep_masks_v1.l0, if_neg (by omega)]
  | n + 1, r, k, hn, hr, hk => by
    obtain ⟨k, rfl⟩ : ∃ m, k = m + 1 := ⟨k - 1, by omega⟩
    rw [sweep_masks_v1.l0, if_pos (by omega), show wr64 ((r : Int) * 8) = ((r * 8 : Nat) : Int) by rw [w64 (by omega) (by omega)]; omega]
    have key : sweep_masks_v1.l1 k y w rule r (L.filter (cr wide (sy y (r * 8)))) 0 (row w fun x => mf (P x) 0 (r * 8) 0) = some (row w fun x => mf (P x) 0 ((r + 1) * 8) 0) := by
      have e8 : (r + 1) * 8 = r * 8 + 8 := by omega
      by_cases hN : L.filter (cr wide (sy y (r * 8))) = []
      · have hfalse : ∀ x < w, ∀ i, r * 8 ≤ i → i < r * 8 + 8 → P x i = false := by
          intro x hx i h1 h2
          have a := hq r (by omega) x hx i h1 h2 (L.length + 1) (by omega)
          rw [hN, hnil _ _ _ (by omega)] at a
          exact (Option.some.inj a).symm
        obtain ⟨k, rfl⟩ : ∃ m, k = m + 1 := ⟨k - 1, by omega⟩
        have same : (row w fun x => mf (P x) 0 (r * 8) 0) = row w fun x => mf (P x) 0 ((r + 1) * 8) 0 := by
          refine row_congr fun x hx => ?_
          rw [e8, mf_add, Nat.zero_add, mf_no (hfalse x hx)]
        rw [hN, sweep_masks_v1.l1, same]
        split <;> rfl
      · have hlen : (L.filter (cr wide (sy y (r * 8)))).length ≤ L.length := List.length_filter_le _ _
        have := fill_l1 (b := L.length) hN hw (by omega) hy (fun x hx i h1 h2 k hk => hq r (by omega) x hx i h1 h2 k hk) w 0 k (fun x => mf (P x) 0 (r * 8) 0) (by omega) (by omega) (by omega)
        rw [show ((0 : Nat) : Int) = 0 from rfl] at this
        rw [this]
        congr 1
        refine row_congr fun x _ => ?_
        rw [if_pos (by omega), e8, mf_add, Nat.zero_add]
    refine bind_of (bind_of (sample_f (by omega) hy (by omega)) (bind_of (cross_list hL hin w0 w1 k (by omega)) key)) ?_
    rw [wnat (by omega)]
    exact fill_l0 hL hin w0 w1 hw hy hq hnil n (r + 1) k (by omega) (by omega) (by omega)
theorem fill_masks {L : List Ed} {y wide rule : Int} {w : Nat} {P : Nat → Nat → Bool} (hL : L.length ≤ 1000000) (hin : ∀ e ∈ L, In4 1000000 e) (w0 : 0 ≤ wide) (w1 : wide ≤ 1000000) (hw : w ≤ 1000) (hy : -100000 ≤ y ∧ y ≤ 100000)
    (hq : ∀ r < 8, ∀ x < w, ∀ i, r * 8 ≤ i → i < r * 8 + 8 → ∀ k, L.length < k → sweep_Fill_1_v1.f k (L.filter (cr wide (sy y (r * 8)))) (sx x i) (sy y i) rule = some (P x i)) (hnil : ∀ (k : Nat) (px py : Int), 0 < k → sweep_Fill_1_v1.f k [] px py rule = some false) (k : Nat) (hk : w + 20 + L.length < k) :
    sweep_masks_v1.f k L wide y w rule = some (row w fun x => mf (P x) 0 64 0) := by
  unfold sweep_masks_v1.f
  by_cases h : (w : Int) < 1
  · rw [if_pos h]
    have : w = 0 := by omega
    subst this
    rfl
  · rw [if_neg h]
    refine bind_of (x := row w fun x => mf (P x) 0 (0 * 8) 0) ?_ (bind_of (fill_l0 hL hin w0 w1 hw hy hq hnil 8 0 k (by omega) (by omega) (by omega)) rfl)
    unfold lmk
    rw [if_pos ⟨by omega, by omega, by omega⟩, Int.toNat_natCast]
    congr 1
    apply List.ext_getElem
    · simp [row]
    · intro i h1 h2
      simp [row, mf]

theorem line_l2 {N : List Ed} {y rule : Int} {r x w : Nat} {p : Nat → Bool} {b : Nat} (hx : x < w) (hw : w ≤ 1000) (hr : r < 8) (hy : -100000 ≤ y ∧ y ≤ 100000) (hq : ∀ i, r * 8 ≤ i → i < r * 8 + 8 → ∀ k, b < k → sweep_Line_1_v1.f k N (sx x i) (sy y i) rule = some (p i)) :
    ∀ (n i k : Nat) (g : Nat → Int), r * 8 + 8 - i = n → r * 8 ≤ i → i ≤ r * 8 + 8 → n + b + 1 < k → sweep_masks_v2.l2 k y rule r N x i (row w g) = some (row w (fun x' => if x' = x then mf p i n (g x) else g x'), true)
  | 0, i, k, g, hn, h1, h2, hk => by
    obtain ⟨k, rfl⟩ : ∃ m, k = m + 1 := ⟨k - 1, by omega⟩
    rw [sweep_masks_v2.l2, w64 (n := (r : Int) + 1) (by omega) (by omega), w64 (n := ((r : Int) + 1) * 8) (by omega) (by omega), if_neg (by omega)]
    congr 2
    refine row_congr fun x' _ => ?_
    split
    · rename_i e; subst e; rfl
    · rfl
  | n + 1, i, k, g, hn, h1, h2, hk => by
    obtain ⟨k, rfl⟩ : ∃ m, k = m + 1 := ⟨k - 1, by omega⟩
    rw [sweep_masks_v2.l2, w64 (n := (r : Int) + 1) (by omega) (by omega), w64 (n := ((r : Int) + 1) * 8) (by omega) (by omega), if_pos (by omega)]
    refine bind_of (sample_f (by omega) hy (by omega)) (bind_of (hq i h1 (by omega) k (by omega)) ?_)
    rw [wnat (by omega)]
    cases hp : p i with
    | true =>
      rw [if_pos rfl]
      refine bind_of (row_get g hx) ?_
      rw [if_neg (by omega), Int.toNat_natCast]
      refine bind_of (row_get g hx) (bind_of (row_put g _ hx) ?_)
      rw [line_l2 hx hw hr hy hq n (i + 1) k _ (by omega) (by omega) (by omega) (by omega)]
      congr 2
      refine row_congr fun x' _ => ?_
      by_cases e : x' = x
      · rw [if_pos e, if_pos e, if_pos rfl, mf, mst, hp, if_pos rfl]
      · rw [if_neg e, if_neg e, if_neg e]
    | false =>
      rw [if_neg (by decide), line_l2 hx hw hr hy hq n (i + 1) k g (by omega) (by omega) (by omega) (by omega)]
      congr 2
      refine row_congr fun x' _ => ?_
      by_cases e : x' = x
      · rw [if_pos e, if_pos e, mf, mst, hp, if_neg (by decide)]
      · rw [if_neg e, if_neg e]
theorem line_l1 {N : List Ed} {y rule : Int} {r w : Nat} {P : Nat → Nat → Bool} {b : Nat} (hN : N ≠ []) (hw : w ≤ 1000) (hr : r < 8) (hy : -100000 ≤ y ∧ y ≤ 100000) (hq : ∀ x < w, ∀ i, r * 8 ≤ i → i < r * 8 + 8 → ∀ k, b < k → sweep_Line_1_v1.f k N (sx x i) (sy y i) rule = some (P x i)) :
    ∀ (n x k : Nat) (g : Nat → Int), w - x = n → x ≤ w → n + 10 + b < k → sweep_masks_v2.l1 k y w rule r N x (row w g) = some (row w fun x' => if x ≤ x' then mf (P x') (r * 8) 8 (g x') else g x')
  | 0, x, k, g, hn, h1, hk => by
    obtain ⟨k, rfl⟩ : ∃ m, k = m + 1 := ⟨k - 1, by omega⟩
    rw [sweep_masks_v2.l1, if_neg (by omega)]
    congr 1
    exact row_congr fun x' hx' => by rw [if_neg (by omega)]
  | n + 1, x, k, g, hn, h1, hk => by
    obtain ⟨k, rfl⟩ : ∃ m, k = m + 1 := ⟨k - 1, by omega⟩
    have hx : x < w := by omega
    have hpos := List.length_pos_iff.2 hN
    rw [sweep_masks_v2.l1, if_pos (by omega), if_pos (by omega), show wr64 ((r : Int) * 8) = ((r * 8 : Nat) : Int) by rw [w64 (by omega) (by omega)]; omega]
    refine bind_of (line_l2 hx hw hr hy (hq x hx) 8 (r * 8) k g (by omega) (by omega) (by omega) (by omega)) ?_
    dsimp only
    rw [wnat (by omega), line_l1 hN hw hr hy hq n (x + 1) k _ (by omega) (by omega) (by omega)]
    congr 1
    refine row_congr fun x' _ => ?_
    by_cases e : x' = x
    · subst e
      rw [if_neg (by omega), if_pos rfl, if_pos (by omega)]
    · by_cases e2 : x ≤ x'
      · rw [if_pos (by omega), if_neg e, if_pos e2]
      · rw [if_neg (by omega), if_neg e, if_neg e2]
theorem line_l0 {L : List Ed} {y wide rule : Int} {w : Nat} {P : Nat → Nat → Bool} (hL : L.length ≤ 1000000) (hin : ∀ e ∈ L, In4 1000000 e) (w0 : 0 ≤ wide) (w1 : wide ≤ 1000000) (hw : w ≤ 1000) (hy : -100000 ≤ y ∧ y ≤ 100000)
    (hq : ∀ r < 8, ∀ x < w, ∀ i, r * 8 ≤ i → i < r * 8 + 8 → ∀ k, L.length < k → sweep_Line_1_v1.f k (L.filter (cr wide (sy y (r * 8)))) (sx x i) (sy y i) rule = some (P x i)) (hnil : ∀ (k : Nat) (px py : Int), 0 < k → sweep_Line_1_v1.f k [] px py rule = some false) :
    ∀ (n r k : Nat), 8 - r = n → r ≤ 8 → n + w + 11 + L.length < k → sweep_masks_v2.l0 k L wide y w rule r (row w fun x => mf (P x) 0 (r * 8) 0) = some (row w fun x => mf (P x) 0 64 0)
  | 0, r, k, hn, hr, hk => by
    obtain ⟨k, rfl⟩ : ∃ m, k = m + 1 := ⟨k - 1, by omega⟩
    have : r = 8 := by omega
    subst this
    rw [sweep_masks_v2.l0, if_neg (by omega)]
  | n + 1, r, k, hn, hr, hk => by
    obtain ⟨k, rfl⟩ : ∃ m, k = m + 1 := ⟨k - 1, by omega⟩
    rw [sweep_masks_v2.l0, if_pos (by omega), show wr64 ((r : Int) * 8) = ((r * 8 : Nat) : Int) by rw [w64 (by omega) (by omega)]; omega]
    have key : sweep_masks_v2.l1 k y w rule r (L.filter (cr wide (sy y (r * 8)))) 0 (row w fun x => mf (P x) 0 (r * 8) 0) = some (row w fun x => mf (P x) 0 ((r + 1) * 8) 0) := by
      have e8 : (r + 1) * 8 = r * 8 + 8 := by omega
      by_cases hN : L.filter (cr wide (sy y (r * 8))) = []
      · have hfalse : ∀ x < w, ∀ i, r * 8 ≤ i → i < r * 8 + 8 → P x i = false := by
          intro x hx i h1 h2
          have a := hq r (by omega) x hx i h1 h2 (L.length + 1) (by omega)
          rw [hN, hnil _ _ _ (by omega)] at a
          exact (Option.some.inj a).symm
        obtain ⟨k, rfl⟩ : ∃ m, k = m + 1 := ⟨k - 1, by omega⟩
        have same : (row w fun x => mf (P x) 0 (r * 8) 0) = row w fun x => mf (P x) 0 ((r + 1) * 8) 0 := by
          refine row_congr fun x hx => ?_
          rw [e8, mf_add, Nat.zero_add, mf_no (hfalse x hx)]
        rw [hN, sweep_masks_v2.l1, same]
        split <;> rfl
      · have hlen : (L.filter (cr wide (sy y (r * 8)))).length ≤ L.length := List.length_filter_le _ _
        have := line_l1 (b := L.length) hN hw (by omega) hy (fun x hx i h1 h2 k hk => hq r (by omega) x hx i h1 h2 k hk) w 0 k (fun x => mf (P x) 0 (r * 8) 0) (by omega) (by omega) (by omega)
        rw [show ((0 : Nat) : Int) = 0 from rfl] at this
        rw [this]
        congr 1
        refine row_congr fun x _ => ?_
        rw [if_pos (by omega), e8, mf_add, Nat.zero_add]
    refine bind_of (bind_of (sample_f (by omega) hy (by omega)) (bind_of (cross_list hL hin w0 w1 k (by omega)) key)) ?_
    rw [wnat (by omega)]
    exact line_l0 hL hin w0 w1 hw hy hq hnil n (r + 1) k (by omega) (by omega) (by omega)
theorem line_masks {L : List Ed} {y wide rule : Int} {w : Nat} {P : Nat → Nat → Bool} (hL : L.length ≤ 1000000) (hin : ∀ e ∈ L, In4 1000000 e) (w0 : 0 ≤ wide) (w1 : wide ≤ 1000000) (hw : w ≤ 1000) (hy : -100000 ≤ y ∧ y ≤ 100000)
    (hq : ∀ r < 8, ∀ x < w, ∀ i, r * 8 ≤ i → i < r * 8 + 8 → ∀ k, L.length < k → sweep_Line_1_v1.f k (L.filter (cr wide (sy y (r * 8)))) (sx x i) (sy y i) rule = some (P x i)) (hnil : ∀ (k : Nat) (px py : Int), 0 < k → sweep_Line_1_v1.f k [] px py rule = some false) (k : Nat) (hk : w + 20 + L.length < k) :
    sweep_masks_v2.f k L wide y w rule = some (row w fun x => mf (P x) 0 64 0) := by
  unfold sweep_masks_v2.f
  by_cases h : (w : Int) < 1
  · rw [if_pos h]
    have : w = 0 := by omega
    subst this
    rfl
  · rw [if_neg h]
    refine bind_of (x := row w fun x => mf (P x) 0 (0 * 8) 0) ?_ (bind_of (line_l0 hL hin w0 w1 hw hy hq hnil 8 0 k (by omega) (by omega) (by omega)) rfl)
    unfold lmk
    rw [if_pos ⟨by omega, by omega, by omega⟩, Int.toNat_natCast]
    congr 1
    apply List.ext_getElem
    · simp [row]
    · intro i h1 h2
      simp [row, mf]

theorem gd_of {e : Ed} {px py : Int} (h : In4 1000000 e) (hx : -1000000 ≤ px ∧ px ≤ 1000000) (hy : -1000000 ≤ py ∧ py ≤ 1000000) : Gd e px py := by
  obtain ⟨a1, b1, c1, d1⟩ := h
  unfold Gd Nr
  omega
theorem sx_in {x : Nat} (hx : x ≤ 1000) (i : Nat) : -1000000 ≤ sx x i ∧ sx x i ≤ 1000000 := by unfold sx; omega
theorem sy_in {y : Int} (hy : -1000 ≤ y ∧ y ≤ 1000) {i : Nat} (hi : i < 64) : -1000000 ≤ sy y i ∧ sy y i ≤ 1000000 := by unfold sy; omega
def PF (L : List Ed) (rule y : Int) (x i : Nat) : Bool := ins rule (num L (sx x i) (sy y i))
def PL (L : List Ed) (wide y : Int) (x i : Nat) : Bool := L.any fun e => nE e (sx x i) (sy y i) wide
theorem fill_f {L : List Ed} {y rule : Int} {w : Nat} (hL : L.length ≤ 1000000) (hin : ∀ e ∈ L, In4 1000000 e) (hw : w ≤ 1000) (hy : -1000 ≤ y ∧ y ≤ 1000) (k : Nat) (hk : w + 20 + L.length < k) : sweep_Fill_v1.f k L rule y w = some (row w fun x => mf (PF L rule y x) 0 64 0) := by
  unfold sweep_Fill_v1.f
  refine bind_of (fill_masks (P := PF L rule y) hL hin (by omega) (by omega) hw (by omega) ?_ ?_ k hk) rfl
  · intro r hr x hx i h1 h2 k hk
    have hlen : (L.filter (cr 0 (sy y (r * 8)))).length ≤ L.length := List.length_filter_le _ _
    rw [inside_all rule (by omega) (fun e he => gd_of (hin e (List.mem_filter.1 he).1) (sx_in (by omega) i) (sy_in hy (by omega))) k (by omega)]
    unfold PF
    rw [← sy_row y h1 h2, num_filter fun e _ he => one_cr he]
  · intro k px py hk
    have := inside_all (L := []) (px := px) (py := py) rule (by simp) (by simp) k (by simpa using hk)
    rw [this]
    unfold ins num
    split <;> rfl
theorem line_f {L : List Ed} {y wide : Int} {w : Nat} (hL : L.length ≤ 1000000) (hin : ∀ e ∈ L, In4 1000000 e) (w0 : 0 ≤ wide) (w1 : wide ≤ 1000000) (hw : w ≤ 1000) (hy : -1000 ≤ y ∧ y ≤ 1000) (k : Nat) (hk : w + 20 + L.length < k) : sweep_Line_v1.f k L wide y w = some (row w fun x => mf (PL L wide y x) 0 64 0) := by
  unfold sweep_Line_v1.f
  refine bind_of (line_masks (P := PL L wide y) hL hin w0 w1 hw (by omega) ?_ ?_ k hk) rfl
  · intro r hr x hx i h1 h2 k hk
    have hlen : (L.filter (cr wide (sy y (r * 8)))).length ≤ L.length := List.length_filter_le _ _
    unfold sweep_Line_1_v1.f
    refine bind_of (near_all (by omega) (fun e he => gd_of (hin e (List.mem_filter.1 he).1) (sx_in (by omega) i) (sy_in hy (by omega))) w0 (by omega) k (by omega)) ?_
    unfold PL
    rw [← sy_row y h1 h2, any_filter fun e _ he => near_cr w0 he]
  · intro k px py hk
    unfold sweep_Line_1_v1.f
    exact bind_of (near_all (L := []) (by simp) (by simp) w0 (by omega) k (by simpa using hk)) rfl

theorem ring_l {far : Int} (hf : 0 ≤ far) (hf1 : far ≤ 1000000) (l : List Int) {t : Int} (t0 : 0 ≤ t) (t1 : t ≤ 1000) : ∀ (n i k : Nat) (y : List Ed) (ax ay at_ : Int), 3 + t - i = n → n < k → 0 ≤ at_ → at_ + 2 * n ≤ 900000000 → y.length + n ≤ 1000000 → (∀ e ∈ y, In4 far e) → (-far ≤ ax ∧ ax ≤ far) → (-far ≤ ay ∧ ay ≤ far) → i ≤ 2000 →
    ∃ L bx by_ at', glyphicmake_Ring_v1.l0 k far l t i y ax ay at_ = some (L, bx, by_, at') ∧ L.length = y.length + n ∧ (∀ e ∈ L, In4 far e) ∧ (-far ≤ bx ∧ bx ≤ far) ∧ (-far ≤ by_ ∧ by_ ≤ far) ∧ at_ ≤ at' ∧ at' ≤ at_ + 2 * n
  | 0, i, k, y, ax, ay, at_, hn, hk, h0, h1, h2, hy, hax, hay, hi => by
    obtain ⟨k, rfl⟩ : ∃ m, k = m + 1 := ⟨k - 1, by omega⟩
    refine ⟨y, ax, ay, at_, ?_, by omega, hy, hax, hay, by omega, by omega⟩
    rw [glyphicmake_Ring_v1.l0, w64 (n := 3 + t) (by omega) (by omega), if_neg (by omega)]
  | n + 1, i, k, y, ax, ay, at_, hn, hk, h0, h1, h2, hy, hax, hay, hi => by
    obtain ⟨k, rfl⟩ : ∃ m, k = m + 1 := ⟨k - 1, by omega⟩
    obtain ⟨c, d, hp, c1, d1⟩ := point_f (far := far) (at_ := at_) l hf (by omega) h0 (by omega)
    obtain ⟨L, bx, by_, at', hL, hlen, hin, r1, r2, g1, g2⟩ := ring_l hf hf1 l t0 t1 n (i + 1) k (y ++ [(ax, ay, c, d)]) c d (at_ + 2) (by omega) (by omega) (by omega) (by omega) (by simp; omega) (by
      intro e he
      rcases List.mem_append.1 he with he | he
      · exact hy e he
      · obtain rfl := List.mem_singleton.1 he
        exact ⟨hax, hay, c1, d1⟩) c1 d1 (by omega)
    refine ⟨L, bx, by_, at', ?_, by simp at hlen; omega, hin, r1, r2, by omega, by omega⟩
    rw [glyphicmake_Ring_v1.l0, w64 (n := 3 + t) (by omega) (by omega), if_pos (by omega)]
    refine bind_of hp (bind_of (lapp_ok (by simp; omega)) ?_)
    rw [wnat (by omega)]
    exact hL
theorem ring_f {most far at_ : Int} (hm : 1 ≤ most) (hm1 : most ≤ 1000) (hf : 0 ≤ far) (hf1 : far ≤ 1000000) (l : List Int) (h0 : 0 ≤ at_) (h1 : at_ ≤ 800000000) (k : Nat) (hk : most + 3 < k) :
    ∃ L at', glyphicmake_Ring_v1.f k most far l at_ = some (L, at') ∧ 3 ≤ L.length ∧ (L.length : Int) ≤ most + 2 ∧ (∀ e ∈ L, In4 far e) ∧ at_ ≤ at' ∧ at' ≤ at_ + 2 * most + 10 := by
  obtain ⟨t, ht, t0, t1⟩ := next_f (b := most) l (by omega) (by omega) h0 (by omega)
  obtain ⟨a, b, hp, a1, b1⟩ := point_f (far := far) (at_ := at_ + 1) l hf (by omega) (by omega) (by omega)
  obtain ⟨n, hn⟩ : ∃ n : Nat, 3 + t - (1 : Nat) = n := ⟨(2 + t).toNat, by omega⟩
  obtain ⟨L, bx, by_, at', hL, hlen, hin, r1, r2, g1, g2⟩ := ring_l hf hf1 l t0 (by omega) n 1 k [] a b (at_ + 1 + 2) hn (by omega) (by omega) (by omega) (by simp; omega) (by simp) a1 b1 (by omega)
  refine ⟨L ++ [(bx, by_, a, b)], at', ?_, by simp at hlen ⊢; omega, by simp at hlen ⊢; omega, ?_, by omega, by omega⟩
  · unfold glyphicmake_Ring_v1.f
    refine bind_of ht (bind_of hp (bind_of hL (bind_of (lapp_ok (by simp at hlen ⊢; omega)) rfl)))
  · intro e he
    rcases List.mem_append.1 he with he | he
    · exact hin e he
    · obtain rfl := List.mem_singleton.1 he
      exact ⟨r1, r2, a1, b1⟩
theorem in4_more {a b : Int} (h : a ≤ b) {e : Ed} (he : In4 a e) : In4 b e := by
  obtain ⟨a1, b1, c1, d1⟩ := he
  unfold In4
  omega

theorem same_l {A : List Int} (hA : A.length ≤ 1000000) : ∀ (n i k : Nat), A.length - i = n → i ≤ A.length → n < k → glyphicref_SameMasks_v1.l0 k A A i = some (.inr ())
  | 0, i, k, hn, hi, hk => by
    obtain ⟨k, rfl⟩ : ∃ m, k = m + 1 := ⟨k - 1, by omega⟩
    rw [glyphicref_SameMasks_v1.l0, if_neg (by omega)]
  | n + 1, i, k, hn, hi, hk => by
    obtain ⟨k, rfl⟩ : ∃ m, k = m + 1 := ⟨k - 1, by omega⟩
    have hlt : i < A.length := by omega
    rw [glyphicref_SameMasks_v1.l0, if_pos (by omega)]
    refine bind_of (lgt_nat hlt) (bind_of (lgt_nat hlt) ?_)
    rw [if_pos rfl, wnat (by omega)]
    exact same_l hA n (i + 1) k (by omega) (by omega) (by omega)
theorem same_masks {A B : List Int} (h : A = B) (hA : A.length ≤ 1000000) (k : Nat) (hk : A.length < k) : glyphicref_SameMasks_v1.f k A B = some true := by
  subst h
  unfold glyphicref_SameMasks_v1.f
  rw [if_pos rfl]
  exact bind_of (same_l hA A.length 0 k (by omega) (by omega) hk) rfl
theorem row_take {w n : Nat} (g : Nat → Int) (h : n ≤ w) (h0 : 0 < w) : lsub (row w g) 0 (n : Int) = some (row n g) := by
  unfold lsub
  rw [if_pos ⟨by omega, by omega, by rw [row_len]; omega, fun e => by have := congrArg List.length e; rw [row_len] at this; simp at this; omega⟩]
  congr 1
  apply List.ext_getElem
  · simp [row]; omega
  · intro i h1 h2
    simp [row]

theorem near_shift (ax ay bx by_ px py w u v : Int) : nearB (ax + u) (ay + v) (bx + u) (by_ + v) (px + u) (py + v) w = nearB ax ay bx by_ px py w := by
  have e1 : ∀ a b c : Int, (a + c) - (b + c) = a - b := fun a b c => by omega
  unfold nearB dt ln crs
  simp only [e1]
def shiftE (u v : Int) (e : Int × Int × Int × Int) : Int × Int × Int × Int := (e.1 + u, e.2.1 + v, e.2.2.1 + u, e.2.2.2 + v)

theorem one_shift (e : Ed) (u v px py : Int) : one (shiftE u v e) (px + u) (py + v) = one e px py := by
  have e1 : ∀ a b c : Int, (a + c) - (b + c) = a - b := fun a b c => by omega
  unfold one shiftE crs
  dsimp only
  simp only [e1, gt_iff_lt, Int.add_le_add_iff_right, Int.add_lt_add_iff_right]
theorem num_shift (u v px py : Int) : ∀ L : List Ed, num (L.map (shiftE u v)) (px + u) (py + v) = num L px py
  | [] => rfl
  | e :: r => by rw [List.map_cons, num, num, one_shift, num_shift u v px py r]
theorem pf_shift (L : List Ed) (rule : Int) (u v : Int) (y y' : Int) (x x' i : Nat) (hx : sx x' i = sx x i + u) (hy : sy y' i = sy y i + v) : PF (L.map (shiftE u v)) rule y' x' i = PF L rule y x i := by
  unfold PF
  rw [hx, hy, num_shift]
theorem pl_shift (L : List Ed) (wide : Int) (u v : Int) (y y' : Int) (x x' i : Nat) (hx : sx x' i = sx x i + u) (hy : sy y' i = sy y i + v) : PL (L.map (shiftE u v)) wide y' x' i = PL L wide y x i := by
  unfold PL
  rw [hx, hy, List.any_map]
  congr 1
  funext e
  exact near_shift _ _ _ _ _ _ _ _ _
theorem moved_l {L : List Ed} (hL : L.length ≤ 1000000) (hin : ∀ e ∈ L, In4 700 e) {u v : Int} (hu : -1000 ≤ u ∧ u ≤ 1000) (hv : -1000 ≤ v ∧ v ≤ 1000) : ∀ (n i k : Nat) (y : List Ed), L.length - i = n → i ≤ L.length → n < k → y.length ≤ i → glyphiclaw24_SweepMoves.l0 k L u v i y = some (y ++ (L.drop i).map (shiftE u v))
  | 0, i, k, y, hn, hi, hk, hy => by
    obtain ⟨k, rfl⟩ : ∃ m, k = m + 1 := ⟨k - 1, by omega⟩
    rw [glyphiclaw24_SweepMoves.l0, if_neg (by omega), List.drop_eq_nil_of_le (by omega)]
    simp
  | n + 1, i, k, y, hn, hi, hk, hy => by
    obtain ⟨k, rfl⟩ : ∃ m, k = m + 1 := ⟨k - 1, by omega⟩
    have hlt : i < L.length := by omega
    obtain ⟨⟨a1, a2⟩, ⟨b1, b2⟩, ⟨c1, c2⟩, d1, d2⟩ := hin L[i] (List.getElem_mem hlt)
    rw [glyphiclaw24_SweepMoves.l0, if_pos (by omega)]
    refine bind_of (lgt_nat hlt) (bind_of (lgt_nat hlt) (bind_of (lgt_nat hlt) (bind_of (lgt_nat hlt) ?_)))
    show (lapp y [(wr64 (L[i].1 + u), wr64 (L[i].2.1 + v), wr64 (L[i].2.2.1 + u), wr64 (L[i].2.2.2 + v))]).bind _ = _
    rw [w64 (n := L[i].1 + u) (by omega) (by omega), w64 (n := L[i].2.1 + v) (by omega) (by omega), w64 (n := L[i].2.2.1 + u) (by omega) (by omega), w64 (n := L[i].2.2.2 + v) (by omega) (by omega)]
    refine bind_of (lapp_ok (by simp; omega)) ?_
    rw [wnat (by omega), moved_l hL hin hu hv n (i + 1) k _ (by omega) (by omega) (by omega) (by simp; omega), List.drop_eq_getElem_cons hlt]
    simp only [List.map_cons, List.append_assoc, List.singleton_append]
    rfl
theorem row_tail (g : Nat → Int) : lsub (row 4 g) 1 4 = some (row 3 fun x => g (x + 1)) := rfl
theorem SweepMoves : glyphiclaw24_SweepMoves.Pure := by
  intro l rule down _
  have hf : glyphiclaw24_first.f 300 = some true := by decide +kernel
  refine ⟨300, ?_⟩
  unfold glyphiclaw24_SweepMoves.f
  refine bind_of hf ?_
  rw [if_pos rfl]
  by_cases hl : (l.length : Int) > 100
  · rw [if_pos hl]
  · rw [if_neg hl]
    obtain ⟨L, a1, hL, _, hLl, hLin, _, _⟩ := ring_f (most := 8) (far := 700) (at_ := 0) (by omega) (by omega) (by omega) (by omega) l (by omega) (by omega) 300 (by omega)
    have hin : ∀ e ∈ L, In4 1000000 e := fun e he => in4_more (by omega) (hLin e he)
    have hinM : ∀ u v : Int, (-1000 ≤ u ∧ u ≤ 1000) → (-1000 ≤ v ∧ v ≤ 1000) → ∀ e ∈ L.map (shiftE u v), In4 1000000 e := by
      intro u v hu hv e he
      obtain ⟨f, hf, rfl⟩ := List.mem_map.1 he
      obtain ⟨a1, b1, c1, d1⟩ := hLin f hf
      unfold In4 shiftE
      dsimp only
      omega
    refine bind_of hL ?_
    dsimp only
    generalize bits .and .i64 rule 1 = rl
    cases down with
    | true =>
      refine bind_of rfl ?_
      dsimp only
      refine bind_of (moved_l (u := 0) (v := 256) (by omega) hLin (by omega) (by omega) L.length 0 300 [] (by omega) (by omega) (by omega) (by simp)) ?_
      rw [List.drop_zero, List.nil_append]
      have hM := hinM 0 256 (by omega) (by omega)
      refine bind_of (fill_f (rule := rl) (y := 0) (w := 4) (by omega) hin (by omega) (by omega) 300 (by omega)) (bind_of (fill_f (rule := rl) (y := 1) (w := 4) (by simp; omega) hM (by omega) (by omega) 300 (by simp; omega)) (bind_of (line_f (wide := 100) (y := 0) (w := 4) (by omega) hin (by omega) (by omega) (by omega) (by omega) 300 (by omega)) (bind_of (line_f (wide := 100) (y := 1) (w := 4) (by simp; omega) hM (by omega) (by omega) (by omega) (by omega) 300 (by simp; omega)) ?_)))
      rw [row_len, if_pos (by rfl), row_len, if_pos (by rfl), row_len, if_pos (by rfl), row_len, if_pos (by rfl), if_pos rfl, if_pos rfl]
      have ex : ∀ (x i : Nat), sx x i = sx x i + 0 := fun x i => by omega
      have ey : ∀ i : Nat, sy 1 i = sy 0 i + 256 := fun i => by unfold sy; omega
      refine bind_of (same_masks (row_congr fun x _ => mf_congr fun i _ _ => (pf_shift L rl 0 256 0 1 x x i (ex x i) (ey i)).symm) (by rw [row_len]; omega) 300 (by rw [row_len]; omega)) ?_
      rw [if_pos rfl]
      exact bind_of (same_masks (row_congr fun x _ => mf_congr fun i _ _ => (pl_shift L 100 0 256 0 1 x x i (ex x i) (ey i)).symm) (by rw [row_len]; omega) 300 (by rw [row_len]; omega)) rfl
    | false =>
      refine bind_of rfl ?_
      dsimp only
      refine bind_of (moved_l (u := 256) (v := 0) (by omega) hLin (by omega) (by omega) L.length 0 300 [] (by omega) (by omega) (by omega) (by simp)) ?_
      rw [List.drop_zero, List.nil_append]
      have hM := hinM 256 0 (by omega) (by omega)
      refine bind_of (fill_f (rule := rl) (y := 0) (w := 4) (by omega) hin (by omega) (by omega) 300 (by omega)) (bind_of (fill_f (rule := rl) (y := 0) (w := 4) (by simp; omega) hM (by omega) (by omega) 300 (by simp; omega)) (bind_of (line_f (wide := 100) (y := 0) (w := 4) (by omega) hin (by omega) (by omega) (by omega) (by omega) 300 (by omega)) (bind_of (line_f (wide := 100) (y := 0) (w := 4) (by simp; omega) hM (by omega) (by omega) (by omega) (by omega) 300 (by simp; omega)) ?_)))
      rw [row_len, if_pos (by rfl), row_len, if_pos (by rfl), row_len, if_pos (by rfl), row_len, if_pos (by rfl), if_neg (by decide), if_pos rfl]
      have ex : ∀ (x i : Nat), sx ((x + 1 : Nat) : Int) i = sx x i + 256 := fun x i => by unfold sx; omega
      have ey : ∀ i : Nat, sy 0 i = sy 0 i + 0 := fun i => by omega
      refine bind_of (row_take (n := 3) _ (by omega) (by omega)) (bind_of (row_tail _) (bind_of (same_masks (row_congr fun x _ => mf_congr fun i _ _ => (pf_shift L rl 256 0 0 0 x (x + 1) i (ex x i) (ey i)).symm) (by rw [row_len]; omega) 300 (by rw [row_len]; omega)) ?_))
      rw [if_pos rfl]
      exact bind_of (row_take (n := 3) _ (by omega) (by omega)) (bind_of (row_tail _) (bind_of (same_masks (row_congr fun x _ => mf_congr fun i _ _ => (pl_shift L 100 256 0 0 0 x (x + 1) i (ex x i) (ey i)).symm) (by rw [row_len]; omega) 300 (by rw [row_len]; omega)) rfl))

end Go.Proofs.Ytpimfacaalkmdaa.Pure
