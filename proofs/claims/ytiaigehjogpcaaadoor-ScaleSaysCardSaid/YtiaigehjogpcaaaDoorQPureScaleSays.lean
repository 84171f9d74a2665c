/- ScaleSays is true of all arguments. -/
import Derived.Test.YtiaigehjogpcaaaDoorQScaleSaysx4
import Derived.OpenShut
namespace Go.Proofs.YtiaigehjogpcaaaDoor.Pure
open Go Go.RowKit Go.Proofs.YtiaigehjogpcaaaDoor.QScaleSays Go.Proofs.YtiaigehjogpcaaaDoorE
set_option linter.unusedVariables false
set_option linter.unusedSimpArgs false

theorem bind_of {α β : Type} {o : Option α} {f : α → Option β} {x : α} {r : Option β} (h : o = some x) (h2 : f x = r) : o.bind f = r := by
  subst h
  exact h2

theorem div_is {a b q : Int} (hb : 0 < b) (h1 : q * b ≤ a) (h2 : a < q * b + b) : a / b = q := by
  apply Int.le_antisymm
  · exact Int.lt_add_one_iff.1 (Int.ediv_lt_of_lt_mul hb (by rw [Int.add_mul, Int.one_mul]; exact h2))
  · exact Int.le_ediv_of_mul_le hb h1

theorem div_in (a : Int) {b : Int} (hb : 0 < b) : a / b * b ≤ a ∧ a < a / b * b + b := by
  have h1 := Int.mul_ediv_add_emod a b
  have h2 := Int.emod_nonneg a (Int.ne_of_gt hb)
  have h3 := Int.emod_lt_of_pos a hb
  rw [Int.mul_comm] at h1
  omega

theorem div_bd (a : Int) {b : Int} (hb : 0 < b) : (0 ≤ a → 0 ≤ a / b ∧ a / b ≤ a) ∧ (a < 0 → a ≤ a / b ∧ a / b < 0) := by
  obtain ⟨h1, h2⟩ := div_in a hb
  refine ⟨fun h => ⟨Int.ediv_nonneg h (by omega), Int.ediv_le_self _ h⟩, fun h => ⟨?_, Int.ediv_neg_of_neg_of_pos h hb⟩⟩
  exact Int.le_ediv_of_mul_le hb (by
    have : a * b ≤ a * 1 := Int.mul_le_mul_of_nonpos_left (by omega) (by omega)
    omega)

theorem tmod_in (a : Int) {b : Int} (hb : 0 < b) : -b < Int.tmod a b ∧ Int.tmod a b < b := by
  rw [Int.tmod_eq_emod]
  have h2 := Int.emod_nonneg a (show b ≠ 0 by omega)
  have h3 := Int.emod_lt_of_pos a hb
  split
  · omega
  · have : ((b.natAbs : Nat) : Int) = b := by omega
    rename_i h
    have hne : a % b ≠ 0 := fun h0 => h (Or.inr (Int.dvd_of_emod_eq_zero h0))
    omega

theorem tmod_pos {a b : Int} (ha : 0 ≤ a) : Int.tmod a b = a % b := by
  rw [Int.tmod_eq_emod, if_pos (Or.inl ha)]; omega

theorem cyc (a : Int) {b : Int} (hb : 0 < b) (hb1 : b ≤ 4611686018427387903) : ∃ s, Int.tmod (wr64 (Int.tmod a b + b)) b = s ∧ 0 ≤ s ∧ s < b := by
  have h := tmod_in a hb
  refine ⟨_, rfl, ?_⟩
  rw [w64 (by omega) (by omega), tmod_pos (by omega)]
  exact ⟨Int.emod_nonneg _ (by omega), Int.emod_lt_of_pos _ hb⟩

/-- The nearest of a part, of two the greater. -/
def rnd (a b : Int) : Int := (2 * a + b) / (2 * b)

theorem rnd_is {a b q : Int} (hb : 0 < b) (h1 : 2 * (q * b) ≤ 2 * a + b) (h2 : 2 * a < 2 * (q * b) + b) : rnd a b = q := by
  unfold rnd
  apply div_is (by omega)
  · rw [Int.mul_left_comm]; omega
  · rw [Int.mul_left_comm]; omega

theorem rnd_in (a : Int) {b : Int} (hb : 0 < b) : 2 * (rnd a b * b) ≤ 2 * a + b ∧ 2 * a < 2 * (rnd a b * b) + b := by
  unfold rnd
  obtain ⟨h1, h2⟩ := div_in (2 * a + b) (b := 2 * b) (by omega)
  rw [Int.mul_left_comm] at h1 h2
  omega

theorem rnd_mono {a c b : Int} (hb : 0 < b) (h : a ≤ c) : rnd a b ≤ rnd c b := by
  unfold rnd
  exact Int.ediv_le_ediv (by omega) (by omega)

theorem down_f {a b : Int} (hb : 1 ≤ b) (ha0 : -9223372036854775808 ≤ a) (ha1 : a ≤ 9223372036854775807) : fixed_Down.f a b = some (a / b) := by
  unfold fixed_Down.f
  rw [if_neg (by omega), if_neg (by omega)]
  have hbd := div_bd a (b := b) (by omega)
  by_cases h : 0 ≤ a ∨ b ∣ a
  · have e1 : Int.tdiv a b = a / b := by rw [Int.tdiv_eq_ediv, if_pos h]; omega
    have e2 : Int.tmod a b = a % b := by rw [Int.tmod_eq_emod, if_pos h]; omega
    have h2 := Int.emod_nonneg a (show b ≠ 0 by omega)
    rw [e1, e2, if_neg (by omega), w64 (by omega) (by omega)]
  · have e1 : Int.tdiv a b = a / b + 1 := by rw [Int.tdiv_eq_ediv, if_neg h, Int.sign_eq_one_of_pos (by omega)]
    have e2 : Int.tmod a b = a % b - b := by rw [Int.tmod_eq_emod, if_neg h]; omega
    have h3 := Int.emod_lt_of_pos a (show 0 < b by omega)
    rw [e1, e2, if_pos (by omega), w64 (n := a / b + 1) (by omega) (by omega), w64 (by omega) (by omega)]
    congr 1
    omega

theorem round_f {a b : Int} (hb : 1 ≤ b) (hb1 : b ≤ 9223372036854775807) (ha0 : -9223372036854775808 ≤ a) (ha1 : a ≤ 9223372036854775807) : fixed_Round.f a b = some (rnd a b) := by
  unfold fixed_Round.f
  rw [if_neg (by omega), down_f hb ha0 ha1]
  simp only [Option.bind_some]
  obtain ⟨h1, h2⟩ := div_in a (b := b) (by omega)
  have hbd := div_bd a (b := b) (by omega)
  have e : wr64 (a - wr64 (a / b * b)) = a - a / b * b := by
    simp only [wr64_eq]
    omega
  rw [e, w64 (n := b - (a - a / b * b)) (by omega) (by omega)]
  by_cases h : a - a / b * b ≥ b - (a - a / b * b)
  · rw [if_pos h]
    have h3 : a / b + 1 ≤ 9223372036854775807 := by
      by_cases hq : a / b < 9223372036854775807
      · omega
      · by_cases h1b : b = 1
        · subst h1b; omega
        · have : a / b * 2 ≤ a / b * b := Int.mul_le_mul_of_nonneg_left (by omega) (by omega)
          omega
    rw [w64 (by omega) h3, rnd_is (q := a / b + 1) (by omega)]
    · rw [Int.add_mul]; omega
    · rw [Int.add_mul]; omega
  · rw [if_neg h, rnd_is (q := a / b) (by omega)]
    · omega
    · omega

theorem rnd_near (a : Int) {b : Int} (hb : 0 < b) : rnd a b = a / b ∨ rnd a b = a / b + 1 := by
  obtain ⟨h1, h2⟩ := div_in a hb
  by_cases h : 2 * (a - a / b * b) < b
  · left
    exact rnd_is hb (by omega) (by omega)
  · right
    exact rnd_is hb (by rw [Int.add_mul]; omega) (by rw [Int.add_mul]; omega)

theorem rnd_next (a : Int) {b : Int} (hb : 0 < b) : rnd (a + b) b = rnd a b + 1 := by
  obtain ⟨h1, h2⟩ := rnd_in a hb
  exact rnd_is hb (by rw [Int.add_mul]; omega) (by rw [Int.add_mul]; omega)

theorem mul_bd {x y M N : Int} (hx0 : -M ≤ x) (hx1 : x ≤ M) (hy0 : -N ≤ y) (hy1 : y ≤ N) : -(M * N) ≤ x * y ∧ x * y ≤ M * N := by
  have h : (x * y).natAbs ≤ M.toNat * N.toNat := by
    rw [Int.natAbs_mul]
    exact Nat.mul_le_mul (by omega) (by omega)
  have e : ((M.toNat * N.toNat : Nat) : Int) = M * N := by
    rw [Int.natCast_mul, Int.toNat_of_nonneg (by omega), Int.toNat_of_nonneg (by omega)]
  omega

theorem lgt_ex {T : Type} {L : List T} {i : Int} (h0 : 0 ≤ i) (h1 : i < L.length) : ∃ x, lgt L i = some x := by
  unfold lgt
  rw [if_neg (by omega)]
  exact ⟨L[i.toNat]'(by omega), List.getElem?_eq_getElem (by omega)⟩

theorem number_f {n b : Int} (hb : 0 < b) (hb1 : b ≤ 4611686018427387903) : ∃ v, glyphicworld_Number.f n b = some v ∧ 0 ≤ v ∧ v < b := by
  unfold glyphicworld_Number.f
  rw [if_neg (by omega)]
  have h := tmod_in n hb
  by_cases c : Int.tmod n b < 0
  · rw [if_pos c, w64 (by omega) (by omega)]
    exact ⟨_, rfl, by omega, by omega⟩
  · rw [if_neg c]
    exact ⟨_, rfl, by omega, by omega⟩

theorem next_f {b at_ : Int} (L : List Int) (hb : 0 < b) (hb1 : b ≤ 4611686018427387903) (h0 : 0 ≤ at_) (h1 : at_ ≤ 1000000000) : ∃ v, glyphicmake_Seq_Next_v1.f b L at_ = some (v, at_ + 1) ∧ 0 ≤ v ∧ v < b := by
  unfold glyphicmake_Seq_Next_v1.f
  have e : wr64 (at_ + 1) = at_ + 1 := w64 (by omega) (by omega)
  rw [e]
  by_cases c : at_ < (L.length : Int)
  · obtain ⟨x, hx⟩ := lgt_ex h0 c
    obtain ⟨v, hv, v0, v1⟩ := number_f (n := x) hb hb1
    rw [if_pos c]
    exact ⟨v, bind_of (bind_of hx rfl) (bind_of hv rfl), v0, v1⟩
  · obtain ⟨v, hv, v0, v1⟩ := number_f (n := 0) hb hb1
    rw [if_neg c]
    exact ⟨v, bind_of rfl (bind_of hv rfl), v0, v1⟩

theorem point_f {far at_ : Int} (L : List Int) (hb : 0 ≤ far) (hb1 : far ≤ 1000000000000000) (h0 : 0 ≤ at_) (h1 : at_ ≤ 999999999) : ∃ x y, glyphicmake_Point_v1.f far L at_ = some (x, y, at_ + 2) ∧ (-far ≤ x ∧ x ≤ far) ∧ -far ≤ y ∧ y ≤ far := by
  unfold glyphicmake_Point_v1.f
  have e : wr64 (wr64 (2 * far) + 1) = 2 * far + 1 := by
    rw [w64 (n := 2 * far) (by omega) (by omega), w64 (by omega) (by omega)]
  rw [e]
  obtain ⟨u, hu, u0, u1⟩ := next_f (b := 2 * far + 1) L (by omega) (by omega) h0 (by omega)
  obtain ⟨v, hv, v0, v1⟩ := next_f (b := 2 * far + 1) L (by omega) (by omega) (show 0 ≤ at_ + 1 by omega) (by omega)
  refine ⟨u - far, v - far, bind_of hu (bind_of hv ?_), by omega, by omega⟩
  dsimp only
  rw [w64 (n := u - far) (by omega) (by omega), w64 (n := v - far) (by omega) (by omega), show at_ + 1 + 1 = at_ + 2 by omega]

theorem lgt_nat {T : Type} {L : List T} {i : Nat} (h : i < L.length) : lgt L (i : Int) = some L[i] := by
  unfold lgt
  rw [if_neg (by omega), Int.toNat_natCast, List.getElem?_eq_getElem h]
theorem lapp_ok {T : Type} {L X : List T} (h : L.length + X.length ≤ 4294967296) : lapp L X = some (L ++ X) := by
  unfold lapp
  rw [if_pos h]
theorem wnat {i : Nat} (h : i ≤ 1000000000000) : wr64 ((i : Int) + 1) = ((i + 1 : Nat) : Int) := by
  rw [w64 (by omega) (by omega)]
  omega
/-- A segment, a path, a command. -/
abbrev Sg7 := Int × Int × Int × Int × Int × Int × Int
abbrev Pth := Int × Int × List Sg7 × Bool
abbrev Cm := Int × Int × Int × Int × Int × Int × Int × Int × Int × Int × List Pth
/-- Not beyond. -/
def Bd (g x : Int) : Prop := -g ≤ x ∧ x ≤ g
structure SegOK (g : Int) (s : Sg7) : Prop where
  k1 : 1 ≤ s.1
  k3 : s.1 ≤ 3
  a : Bd g s.2.1
  b : Bd g s.2.2.1
  c : Bd g s.2.2.2.1
  d : Bd g s.2.2.2.2.1
  e : Bd g s.2.2.2.2.2.1
  f : Bd g s.2.2.2.2.2.2
  z1 : s.1 ≤ 1 → s.2.2.2.1 = 0 ∧ s.2.2.2.2.1 = 0
  z2 : s.1 ≤ 2 → s.2.2.2.2.2.1 = 0 ∧ s.2.2.2.2.2.2 = 0
structure PathOK (g : Int) (p : Pth) : Prop where
  x : Bd g p.1
  y : Bd g p.2.1
  l1 : 1 ≤ p.2.2.1.length
  l4 : p.2.2.1.length ≤ 4
  s : ∀ s ∈ p.2.2.1, SegOK g s
structure CmdOK (g n : Int) (c : Cm) : Prop where
  k : c.1 = 1 ∨ c.1 = 2
  r : (c.2.1 = 0 ∨ c.2.1 = 1) ∧ (c.1 = 2 → c.2.1 = 0)
  w : (c.1 = 1 → c.2.2.1 = 0) ∧ (c.1 = 2 → 1 ≤ c.2.2.1 ∧ c.2.2.1 ≤ g)
  pk : 0 ≤ c.2.2.2.1 ∧ c.2.2.2.1 ≤ 2
  pa : 0 ≤ c.2.2.2.2.1 ∧ c.2.2.2.2.1 < n
  pb : 0 ≤ c.2.2.2.2.2.1 ∧ c.2.2.2.2.2.1 < n
  px : Bd g c.2.2.2.2.2.2.1
  py : Bd g c.2.2.2.2.2.2.2.1
  qx : Bd (g + 1) c.2.2.2.2.2.2.2.2.1
  qy : Bd g c.2.2.2.2.2.2.2.2.2.1
  flat : c.2.2.2.1 = 0 → c.2.2.2.2.2.1 = 0 ∧ c.2.2.2.2.2.2.1 = 0 ∧ c.2.2.2.2.2.2.2.1 = 0 ∧ c.2.2.2.2.2.2.2.2.1 = 0 ∧ c.2.2.2.2.2.2.2.2.2.1 = 0
  rad : c.2.2.2.1 = 2 → 1 ≤ c.2.2.2.2.2.2.2.2.1 ∧ c.2.2.2.2.2.2.2.2.2.1 = 0
  n1 : 1 ≤ c.2.2.2.2.2.2.2.2.2.2.length
  n3 : c.2.2.2.2.2.2.2.2.2.2.length ≤ 3
  p : ∀ p ∈ c.2.2.2.2.2.2.2.2.2.2, PathOK g p ∧ (c.1 = 1 → p.2.2.2 = false)
theorem CmdOK.more {g n m : Int} {c : Cm} (h : CmdOK g n c) (hm : n ≤ m) : CmdOK g m c :=
  ⟨h.k, h.r, h.w, h.pk, ⟨h.pa.1, by have := h.pa.2; omega⟩, ⟨h.pb.1, by have := h.pb.2; omega⟩, h.px, h.py, h.qx, h.qy, h.flat, h.rad, h.n1, h.n3, h.p⟩
theorem inside_f {far at_ : Int} (L : List Int) (hb : 0 ≤ far) (hb1 : far ≤ 1000000000000000) (h0 : 0 ≤ at_) (h1 : at_ ≤ 999999900) : ∃ x y at', glyphicmake_inside_v1.f far L at_ = some (x, y, at') ∧ Bd far x ∧ Bd far y ∧ at_ ≤ at' ∧ at' ≤ at_ + 3 := by
  unfold glyphicmake_inside_v1.f
  obtain ⟨u, hu, u0, u1⟩ := next_f (b := 12) L (by omega) (by omega) h0 (by omega)
  by_cases hz : u = 0
  · obtain ⟨x, y, hp, hx, hy⟩ := point_f (far := far) (at_ := at_ + 1) L hb hb1 (by omega) (by omega)
    refine ⟨x, y, at_ + 1 + 2, bind_of hu ?_, hx, hy, by omega, by omega⟩
    dsimp only
    rw [if_pos hz]
    exact bind_of hp rfl
  · obtain ⟨v, hv, v0, v1⟩ := next_f (b := far + 1) (at_ := at_ + 1) L (by omega) (by omega) (by omega) (by omega)
    obtain ⟨t, ht, t0, t1⟩ := next_f (b := far + 1) (at_ := at_ + 1 + 1) L (by omega) (by omega) (by omega) (by omega)
    refine ⟨v, t, at_ + 1 + 1 + 1, bind_of hu ?_, ⟨by omega, by omega⟩, ⟨by omega, by omega⟩, by omega, by omega⟩
    dsimp only
    rw [if_neg hz, w64 (n := far + 1) (by omega) (by omega)]
    exact bind_of hv (bind_of ht rfl)
section
variable {far at_ t : Int} {L : List Int} (hb : 0 ≤ far) (hb1 : far ≤ 1000000000000000)
include hb hb1
theorem pl1_2 (k : Nat) (h0 : 0 ≤ at_) (h1 : at_ ≤ 900000000) (t0 : 0 ≤ t) (t1 : t ≤ 2) (a b c d : Int) : ∃ e f at', glyphicmake_Path_v1.l1 (k + 2) far L t 2 a b c d 0 0 at_ = some (a, b, c, d, e, f, at') ∧ Bd far e ∧ Bd far f ∧ (1 + t ≤ 2 → e = 0 ∧ f = 0) ∧ at_ ≤ at' ∧ at' ≤ at_ + 3 := by
  rw [glyphicmake_Path_v1.l1, w64 (n := 1 + t) (by omega) (by omega)]
  by_cases hk : 2 < 1 + t
  · obtain ⟨x, y, at', hi, hx, hy, g1, g2⟩ := inside_f (far := far) L hb hb1 h0 (by omega)
    refine ⟨x, y, at', ?_, hx, hy, fun h => by omega, g1, g2⟩
    rw [if_pos hk]
    refine bind_of hi ?_
    dsimp only
    rw [if_neg (by omega), if_neg (by omega), if_pos rfl, glyphicmake_Path_v1.l1, w64 (n := 1 + t) (by omega) (by omega), w64 (n := 2 + 1) (by omega) (by omega), if_neg (by omega)]
  · refine ⟨0, 0, at_, ?_, ⟨by omega, by omega⟩, ⟨by omega, by omega⟩, fun _ => ⟨rfl, rfl⟩, by omega, by omega⟩
    rw [if_neg hk]
theorem pl1_1 (k : Nat) (h0 : 0 ≤ at_) (h1 : at_ ≤ 900000000 - 3) (t0 : 0 ≤ t) (t1 : t ≤ 2) (a b : Int) : ∃ c d e f at', glyphicmake_Path_v1.l1 (k + 3) far L t 1 a b 0 0 0 0 at_ = some (a, b, c, d, e, f, at') ∧ Bd far c ∧ Bd far d ∧ Bd far e ∧ Bd far f ∧ (1 + t ≤ 1 → c = 0 ∧ d = 0) ∧ (1 + t ≤ 2 → e = 0 ∧ f = 0) ∧ at_ ≤ at' ∧ at' ≤ at_ + 6 := by
  rw [glyphicmake_Path_v1.l1, w64 (n := 1 + t) (by omega) (by omega)]
  have z : Bd far 0 := ⟨by omega, by omega⟩
  by_cases hk : 1 < 1 + t
  · obtain ⟨x, y, at1, hi, hx, hy, g1, g2⟩ := inside_f (far := far) L hb hb1 h0 (by omega)
    obtain ⟨e, f, at', h2, he, hf, hz, g3, g4⟩ := pl1_2 (L := L) (t := t) (at_ := at1) hb hb1 k (by omega) (by omega) t0 t1 a b x y
    refine ⟨x, y, e, f, at', ?_, hx, hy, he, hf, fun h => by omega, hz, by omega, by omega⟩
    rw [if_pos hk]
    refine bind_of hi ?_
    dsimp only
    rw [if_neg (by omega), if_pos rfl, w64 (n := 1 + 1) (by omega) (by omega)]
    exact h2
  · refine ⟨0, 0, 0, 0, at_, ?_, z, z, z, z, fun _ => ⟨rfl, rfl⟩, fun _ => ⟨rfl, rfl⟩, by omega, by omega⟩
    rw [if_neg hk]
theorem pl1_0 (k : Nat) (h0 : 0 ≤ at_) (h1 : at_ ≤ 900000000 - 6) (t0 : 0 ≤ t) (t1 : t ≤ 2) : ∃ a b c d e f at', glyphicmake_Path_v1.l1 (k + 4) far L t 0 0 0 0 0 0 0 at_ = some (a, b, c, d, e, f, at') ∧ SegOK far (1 + t, a, b, c, d, e, f) ∧ at_ ≤ at' ∧ at' ≤ at_ + 9 := by
  rw [glyphicmake_Path_v1.l1, w64 (n := 1 + t) (by omega) (by omega), if_pos (by omega)]
  obtain ⟨x, y, at1, hi, hx, hy, g1, g2⟩ := inside_f (far := far) L hb hb1 h0 (by omega)
  obtain ⟨c, d, e, f, at', h2, hc, hd, he, hf, z1, z2, g3, g4⟩ := pl1_1 (L := L) (t := t) (at_ := at1) hb hb1 k (by omega) (by omega) t0 t1 x y
  refine ⟨x, y, c, d, e, f, at', bind_of hi ?_, ⟨?_, ?_, hx, hy, hc, hd, he, hf, z1, z2⟩, by omega, by omega⟩
  · dsimp only
    rw [if_pos rfl, w64 (n := 0 + 1) (by omega) (by omega)]
    exact h2
  · show 1 ≤ 1 + t
    omega
  · show 1 + t ≤ 3
    omega
theorem pl0 : ∀ (n k : Nat) (y : List Sg7) (at_ : Int), n + 6 ≤ k → 0 ≤ at_ → at_ + 10 * n ≤ 800000000 → y.length + n ≤ 1000 → (∀ s ∈ y, SegOK far s) →
    ∃ Y at', glyphicmake_Path_v1.l0 k far L (n : Int) y at_ = some (Y, at') ∧ Y.length = y.length + n ∧ (∀ s ∈ Y, SegOK far s) ∧ at_ ≤ at' ∧ at' ≤ at_ + 10 * n
  | 0, k, y, at_, hk, h0, h1, h2, hy => by
    obtain ⟨k, rfl⟩ : ∃ m, k = m + 1 := ⟨k - 1, by omega⟩
    refine ⟨y, at_, ?_, by omega, hy, by omega, by omega⟩
    rw [glyphicmake_Path_v1.l0, if_neg (by omega)]
  | n + 1, k, y, at_, hk, h0, h1, h2, hy => by
    obtain ⟨k, rfl⟩ : ∃ m, k = m + 5 := ⟨k - 5, by omega⟩
    obtain ⟨t, ht, t0, t1⟩ := next_f (b := 3) (at_ := at_) L (by omega) (by omega) h0 (by omega)
    obtain ⟨a, b, c, d, e, f, at1, hs, hok, g1, g2⟩ := pl1_0 (L := L) (t := t) (at_ := at_ + 1) hb hb1 k (by omega) (by omega) t0 (by omega)
    obtain ⟨Y, at', hY, hlen, hin, g3, g4⟩ := pl0 n (k + 4) (y ++ [(1 + t, a, b, c, d, e, f)]) at1 (by omega) (by omega) (by omega) (by simp; omega) (by
      intro s hs
      rcases List.mem_append.1 hs with hs | hs
      · exact hy s hs
      · obtain rfl := List.mem_singleton.1 hs
        exact hok)
    refine ⟨Y, at', ?_, by simp at hlen; omega, hin, by omega, by omega⟩
    rw [show k + 5 = (k + 4) + 1 from rfl, glyphicmake_Path_v1.l0, if_pos (by omega)]
    refine bind_of (x := (at1, y ++ [(1 + t, a, b, c, d, e, f)])) (bind_of ht (bind_of hs (bind_of (x := y ++ [(1 + t, a, b, c, d, e, f)]) ?_ rfl))) ?_
    · rw [w64 (n := 1 + t) (by omega) (by omega)]
      exact lapp_ok (by simp; omega)
    · dsimp only
      rw [show wr64 (((n + 1 : Nat) : Int) - 1) = (n : Int) by rw [w64 (by omega) (by omega)]; omega]
      exact hY
theorem path_f (k : Nat) (hk : 12 ≤ k) (h0 : 0 ≤ at_) (h1 : at_ ≤ 700000000) (cl : Bool) : ∃ x y Y at', glyphicmake_Path_v1.f k far cl L at_ = some (x, y, cl, Y, at') ∧ PathOK far (x, y, Y, cl) ∧ at_ ≤ at' ∧ at' ≤ at_ + 50 := by
  unfold glyphicmake_Path_v1.f
  obtain ⟨x, y, at1, hi, hx, hy, g1, g2⟩ := inside_f (far := far) L hb hb1 h0 (by omega)
  obtain ⟨t, ht, t0, t1⟩ := next_f (b := 4) (at_ := at1) L (by omega) (by omega) (by omega) (by omega)
  obtain ⟨n, hn⟩ : ∃ n : Nat, 1 + t = n := ⟨(1 + t).toNat, by omega⟩
  obtain ⟨Y, at', hY, hlen, hin, g3, g4⟩ := pl0 (L := L) hb hb1 n k [] (at1 + 1) (by omega) (by omega) (by omega) (by simp; omega) (by simp)
  refine ⟨x, y, Y, at', bind_of hi (bind_of (x := (Y, at')) (bind_of ht ?_) rfl), ⟨hx, hy, ?_, ?_, hin⟩, by omega, by omega⟩
  · dsimp only
    rw [w64 (n := 1 + t) (by omega) (by omega), hn]
    exact hY
  · show 1 ≤ Y.length
    simp at hlen
    omega
  · show Y.length ≤ 4
    simp at hlen
    omega
end
/-- A byte's four. -/
def Col (c : Int × Int × Int × Int) : Prop := (0 ≤ c.1 ∧ c.1 ≤ 255) ∧ (0 ≤ c.2.1 ∧ c.2.1 ≤ 255) ∧ (0 ≤ c.2.2.1 ∧ c.2.2.1 ≤ 255) ∧ (0 ≤ c.2.2.2 ∧ c.2.2.2 ≤ 255)
theorem color_f {at_ : Int} (L : List Int) (h0 : 0 ≤ at_) (h1 : at_ ≤ 900000000) : ∃ r g b a, glyphicmake_Color_v1.f L at_ = some (r, g, b, a, at_ + 1) ∧ Col (r, g, b, a) := by
  unfold glyphicmake_Color_v1.f
  obtain ⟨t, ht, t0, t1⟩ := next_f (b := 7) (at_ := at_) L (by omega) (by omega) h0 (by omega)
  rcases (show t = 0 ∨ t = 1 ∨ t = 2 ∨ t = 3 ∨ t = 4 ∨ t = 5 ∨ t = 6 by omega) with rfl | rfl | rfl | rfl | rfl | rfl | rfl
  all_goals exact ⟨_, _, _, _, bind_of ht rfl, by unfold Col; decide⟩
theorem same_color (a b c d e f g h : Int) : ∃ r, glyphicref_SameColor.f a b c d e f g h = some r := by
  unfold glyphicref_SameColor.f
  split
  · split
    · split
      · exact ⟨_, rfl⟩
      · exact ⟨_, rfl⟩
    · exact ⟨_, rfl⟩
  · exact ⟨_, rfl⟩
theorem find_l (y : List (Int × Int × Int × Int)) (a b c d : Int) : ∀ (n k i : Nat), i + n = y.length → n < k → y.length ≤ 1000 → (∃ j : Int, glyphicref12_Find_v1.l0 k y a b c d (i : Int) = some (.inl j) ∧ 0 ≤ j ∧ j < y.length) ∨ glyphicref12_Find_v1.l0 k y a b c d (i : Int) = some (.inr ())
  | 0, k, i, hi, hk, hl => by
    obtain ⟨k, rfl⟩ : ∃ m, k = m + 1 := ⟨k - 1, by omega⟩
    refine Or.inr ?_
    rw [glyphicref12_Find_v1.l0, if_neg (by omega)]
  | n + 1, k, i, hi, hk, hl => by
    obtain ⟨k, rfl⟩ : ∃ m, k = m + 1 := ⟨k - 1, by omega⟩
    have hlt : i < y.length := by omega
    obtain ⟨q, hq⟩ := same_color y[i].1 y[i].2.1 y[i].2.2.1 y[i].2.2.2 a b c d
    cases q with
    | true =>
      refine Or.inl ⟨i, ?_, by omega, by omega⟩
      rw [glyphicref12_Find_v1.l0, if_pos (by omega)]
      exact bind_of (lgt_nat hlt) (bind_of hq rfl)
    | false =>
      have ih := find_l y a b c d n k (i + 1) (by omega) (by omega) hl
      have e : glyphicref12_Find_v1.l0 (k + 1) y a b c d (i : Int) = glyphicref12_Find_v1.l0 k y a b c d ((i + 1 : Nat) : Int) := by
        rw [glyphicref12_Find_v1.l0, if_pos (by omega)]
        refine bind_of (lgt_nat hlt) (bind_of hq ?_)
        rw [if_neg (by decide), wnat (by omega)]
      rw [e]
      exact ih
theorem add_f (k : Nat) (a b c d w h s : Int) (y : List (Int × Int × Int × Int)) (hy : ∀ c ∈ y, Col c) (hc : Col (a, b, c, d)) (hk : y.length < k) (hl : y.length ≤ 500) : ∃ j Y, glyphicmake_add_v1.f k a b c d w h s y = some (j, Y) ∧ 0 ≤ j ∧ j < Y.length ∧ y.length ≤ Y.length ∧ Y.length ≤ y.length + 1 ∧ ∀ c ∈ Y, Col c := by
  unfold glyphicmake_add_v1.f glyphicref12_Find_v1.f
  rcases find_l y a b c d y.length k 0 (by omega) hk (by omega) with ⟨j, hj, j0, j1⟩ | hj
  · refine ⟨j, y, bind_of (bind_of hj rfl) ?_, j0, by omega, by omega, by omega, hy⟩
    rw [if_pos (by omega)]
  · refine ⟨y.length, y ++ [(a, b, c, d)], bind_of (bind_of hj rfl) ?_, by omega, by simp; omega, by simp, by simp, ?_⟩
    · rw [if_neg (by omega)]
      refine bind_of (lapp_ok (by simp; omega)) ?_
      rw [w64 (by omega) (by simp; omega)]
      simp
    · intro q hq
      rcases List.mem_append.1 hq with hq | hq
      · exact hy q hq
      · obtain rfl := List.mem_singleton.1 hq
        exact hc

theorem icon_l1 {far g1 g2 g3 t256 : Int} {L : List Int} (hF : wr64 ((mx (wr64 (1 + g1)) (wr64 (1 + g2))) * 2 ^ (min (Int.toNat (wru64 g3)) 64)) = far) (hb : 1 ≤ far) (hb1 : far ≤ 100000) (ht0 : 0 ≤ t256) (ht1 : t256 ≤ 1) : ∀ (n k : Nat) (y : List Pth) (at_ : Int), n + 20 ≤ k → 0 ≤ at_ → at_ + 60 * n ≤ 600000000 → y.length + n ≤ 1000 → (∀ p ∈ y, PathOK far p ∧ (1 + t256 = 1 → p.2.2.2 = false)) →
    ∃ Y at', glyphicmake_Icon_v1.l1 k L g1 g2 g3 t256 ((n : Int) - 1) y at_ = some (at', Y) ∧ Y.length = y.length + n ∧ (∀ p ∈ Y, PathOK far p ∧ (1 + t256 = 1 → p.2.2.2 = false)) ∧ at_ ≤ at' ∧ at' ≤ at_ + 60 * n
  | 0, k, y, at_, hk, h0, h1, h2, hy => by
    obtain ⟨k, rfl⟩ : ∃ m, k = m + 1 := ⟨k - 1, by omega⟩
    refine ⟨y, at_, ?_, by omega, hy, by omega, by omega⟩
    rw [glyphicmake_Icon_v1.l1, if_neg (by omega)]
  | n + 1, k, y, at_, hk, h0, h1, h2, hy => by
    obtain ⟨k, rfl⟩ : ∃ m, k = m + 1 := ⟨k - 1, by omega⟩
    have add : ∀ (p : Pth), PathOK far p → (1 + t256 = 1 → p.2.2.2 = false) → ∀ q ∈ y ++ [p], PathOK far q ∧ (1 + t256 = 1 → q.2.2.2 = false) := by
      intro p hp hc q hq
      rcases List.mem_append.1 hq with hq | hq
      · exact hy q hq
      · obtain rfl := List.mem_singleton.1 hq
        exact ⟨hp, hc⟩
    have e1 : wr64 (((n + 1 : Nat) : Int) - 1 - 1) = (n : Int) - 1 := by rw [w64 (by omega) (by omega)]; omega
    rw [glyphicmake_Icon_v1.l1, if_pos (by omega), w64 (n := 1 + t256) (by omega) (by omega), hF, e1]
    by_cases hc : 1 + t256 = 2
    · obtain ⟨u, hu, u0, u1⟩ := next_f (b := 2) (at_ := at_) L (by omega) (by omega) h0 (by omega)
      obtain ⟨x, z, Z, at1, hp, hok, g4, g5⟩ := path_f (L := L) (far := far) (at_ := at_ + 1) (by omega) (by omega) k (by omega) (by omega) (by omega) (u == 0)
      obtain ⟨Y, at', hY, hlen, hin, g6, g7⟩ := icon_l1 hF hb hb1 ht0 ht1 n k (y ++ [(x, z, Z, u == 0)]) at1 (by omega) (by omega) (by omega) (by simp; omega) (add _ hok (fun h => by omega))
      refine ⟨Y, at', ?_, by simp at hlen; omega, hin, by omega, by omega⟩
      rw [if_pos hc]
      exact bind_of hu (bind_of hp (bind_of (lapp_ok (by simp; omega)) hY))
    · obtain ⟨x, z, Z, at1, hp, hok, g4, g5⟩ := path_f (L := L) (far := far) (at_ := at_) (by omega) (by omega) k (by omega) (by omega) (by omega) false
      obtain ⟨Y, at', hY, hlen, hin, g6, g7⟩ := icon_l1 hF hb hb1 ht0 ht1 n k (y ++ [(x, z, Z, false)]) at1 (by omega) (by omega) (by omega) (by simp; omega) (add _ hok (fun _ => rfl))
      refine ⟨Y, at', ?_, by simp at hlen; omega, hin, by omega, by omega⟩
      rw [if_neg hc]
      exact bind_of hp (bind_of (lapp_ok (by simp; omega)) hY)
theorem more_f (L : List Int) (at_ : Int) : ∃ r, glyphicmake_Seq_more_v1.f L at_ = some r := ⟨_, rfl⟩
theorem same_point (a b c d : Int) : ∃ r, glyphicref_SamePoint.f a b c d = some r := by
  unfold glyphicref_SamePoint.f
  split
  · exact ⟨_, rfl⟩
  · exact ⟨_, rfl⟩
/-- A bind whose first part is told. -/
theorem bind_ex {α β : Type} {o : Option α} {f : α → Option β} {Q : α → Prop} {R : β → Prop} (h : ∃ x, o = some x ∧ Q x) (h2 : ∀ x, Q x → ∃ y, f x = some y ∧ R y) : ∃ y, o.bind f = some y ∧ R y := by
  obtain ⟨x, hx, hq⟩ := h
  obtain ⟨y, hy, hr⟩ := h2 x hq
  exact ⟨y, bind_of hx hy, hr⟩
theorem icon_l0 {far g1 g2 g3 : Int} {L : List Int} (hF : wr64 ((mx (wr64 (1 + g1)) (wr64 (1 + g2))) * 2 ^ (min (Int.toNat (wru64 g3)) 64)) = far) (hb : 1 ≤ far) (hb1 : far ≤ 1536) : ∀ (n k : Nat) (C : List (Int × Int × Int × Int)) (Z : List Cm) (at_ : Int), n + 200 ≤ k → 0 ≤ at_ → at_ + 400 * n ≤ 500000000 → C.length + 2 * n ≤ 100 → Z.length + n ≤ 100 → (∀ c ∈ C, Col c) → (∀ c ∈ Z, CmdOK far C.length c) →
    ∃ r, glyphicmake_Icon_v1.l0 k L g1 g2 g3 ((n : Int) - 1) Z C [] [] at_ = some r ∧ ∃ C' Z' at', r = (C', Z', at', [], []) ∧ C'.length ≤ C.length + 2 * n ∧ Z'.length ≤ Z.length + n ∧ (∀ c ∈ C', Col c) ∧ (∀ c ∈ Z', CmdOK far C'.length c) ∧ at_ ≤ at' ∧ at' ≤ at_ + 400 * n
  | 0, k, C, Z, at_, hk, h0, h1, h2, h3, hC, hZ => by
    obtain ⟨k, rfl⟩ : ∃ m, k = m + 1 := ⟨k - 1, by omega⟩
    refine ⟨_, ?_, C, Z, at_, rfl, by omega, by omega, hC, hZ, by omega, by omega⟩
    rw [glyphicmake_Icon_v1.l0, if_neg (by omega)]
  | n + 1, k, C, Z, at_, hk, h0, h1, h2, h3, hC, hZ => by
    obtain ⟨k, rfl⟩ : ∃ m, k = m + 1 := ⟨k - 1, by omega⟩
    have e1 : wr64 (((n + 1 : Nat) : Int) - 1 - 1) = (n : Int) - 1 := by rw [w64 (by omega) (by omega)]; omega
    rw [glyphicmake_Icon_v1.l0, if_pos (by omega), hF, e1]
    refine bind_ex (Q := fun _ => True) ⟨_, rfl, trivial⟩ ?_
    intro b _
    cases b with
    | false =>
      rw [if_neg (by decide)]
      exact ⟨_, rfl, C, Z, at_, rfl, by omega, by omega, hC, hZ, by omega, by omega⟩
    | true =>
    rw [if_pos rfl]
    refine bind_ex (Q := fun r => ∃ C' c at', r = (at', C', Z ++ [c]) ∧ C.length ≤ C'.length ∧ C'.length ≤ C.length + 2 ∧ (∀ c ∈ C', Col c) ∧ CmdOK far C'.length c ∧ at_ ≤ at' ∧ at' ≤ at_ + 400) ?_ ?_
    rotate_left
    · rintro r ⟨C', c, at', rfl, a1, a2, a3, a4, a5, a6⟩
      obtain ⟨r, hr, C2, Z2, at2, rfl, b1, b2, b3, b4, b5, b6⟩ := icon_l0 hF hb hb1 n k C' (Z ++ [c]) at' (by omega) (by omega) (by omega) (by omega) (by simp; omega) a3 (by
        intro q hq
        rcases List.mem_append.1 hq with hq | hq
        · exact (hZ q hq).more (by omega)
        · obtain rfl := List.mem_singleton.1 hq
          exact a4)
      refine ⟨_, hr, C2, Z2, at2, rfl, by omega, ?_, b3, b4, by omega, by omega⟩
      simp at b2
      omega
    -- the kind
    refine bind_ex (Q := fun r => ∃ t, r = (t, at_ + 1) ∧ 0 ≤ t ∧ t ≤ 1) (by obtain ⟨t, ht, t0, t1⟩ := next_f (b := 2) (at_ := at_) L (by omega) (by omega) h0 (by omega); exact ⟨_, ht, t, rfl, t0, by omega⟩) ?_
    rintro _ ⟨t256, rfl, t0, t1⟩
    dsimp only
    rw [w64 (n := 1 + t256) (by omega) (by omega)]
    -- the rule, the width
    refine bind_ex (Q := fun r => ∃ ru wd, r = (ru, wd, at_ + 2) ∧ (ru = 0 ∨ ru = 1) ∧ (1 + t256 = 2 → ru = 0) ∧ (1 + t256 = 1 → wd = 0) ∧ (1 + t256 = 2 → 1 ≤ wd ∧ wd ≤ far)) ?_ ?_
    · by_cases hc : 1 + t256 = 1
      · rw [if_pos hc]
        obtain ⟨t, ht, t2, t3⟩ := next_f (b := 2) (at_ := at_ + 1) L (by omega) (by omega) (by omega) (by omega)
        exact ⟨_, bind_of ht rfl, t, 0, by rw [show at_ + 1 + 1 = at_ + 2 by omega], by omega, by omega, by omega, by omega⟩
      · rw [if_neg hc]
        have hd : Int.tdiv far 2 = far / 2 := by rw [Int.tdiv_eq_ediv, if_pos (Or.inl (by omega))]; omega
        have hm : mx (wr64 (Int.tdiv far 2)) 1 = max (far / 2) 1 := by
          rw [hd, w64 (by omega) (by omega)]
          unfold mx
          split <;> omega
        rw [hm]
        obtain ⟨t, ht, t2, t3⟩ := next_f (b := max (far / 2) 1) (at_ := at_ + 1) L (by omega) (by omega) (by omega) (by omega)
        refine ⟨_, bind_of ht rfl, 0, 1 + t, ?_, by omega, by omega, by omega, by omega⟩
        dsimp only
        rw [w64 (n := 1 + t) (by omega) (by omega), show at_ + 1 + 1 = at_ + 2 by omega]
    rintro _ ⟨ru, wd, rfl, r1, r2, r3, r4⟩
    dsimp only
    refine bind_ex (Q := fun r => ∃ t, r = (t, at_ + 3) ∧ 0 ≤ t ∧ t ≤ 2) (by obtain ⟨t, ht, t0, t1⟩ := next_f (b := 3) (at_ := at_ + 2) L (by omega) (by omega) (by omega) (by omega); exact ⟨_, ht, t, by rw [show at_ + 2 + 1 = at_ + 3 by omega], t0, by omega⟩) ?_
    rintro _ ⟨pk, rfl, p0, p1⟩
    dsimp only
    refine bind_ex (Q := fun r => ∃ a b c d, r = (a, b, c, d, at_ + 4) ∧ Col (a, b, c, d)) (by obtain ⟨a, b, c, d, hc, hcol⟩ := color_f (at_ := at_ + 3) L (by omega) (by omega); exact ⟨_, hc, a, b, c, d, by rw [show at_ + 3 + 1 = at_ + 4 by omega], hcol⟩) ?_
    rintro _ ⟨ca, cb, cc, cd, rfl, hcol⟩
    dsimp only
    refine bind_ex (Q := fun r => ∃ j Y, r = (j, Y) ∧ 0 ≤ j ∧ j < Y.length ∧ C.length ≤ Y.length ∧ Y.length ≤ C.length + 1 ∧ ∀ c ∈ Y, Col c) (by obtain ⟨j, Y, h, q⟩ := add_f k ca cb cc cd (wr64 (1 + g1)) (wr64 (1 + g2)) g3 C hC hcol (by omega) (by omega); exact ⟨_, h, j, Y, rfl, q⟩) ?_
    rintro _ ⟨ja, Y, rfl, j0, j1, y0, y1, hY⟩
    dsimp only
    -- the second color, the first point
    refine bind_ex (Q := fun r => ∃ Y2 at2 jb px py, r = (Y2, at2, jb, px, py) ∧ Y.length ≤ Y2.length ∧ Y2.length ≤ Y.length + 1 ∧ (∀ c ∈ Y2, Col c) ∧ 0 ≤ jb ∧ jb < Y2.length ∧ Bd far px ∧ Bd far py ∧ (pk = 0 → jb = 0 ∧ px = 0 ∧ py = 0) ∧ at_ ≤ at2 ∧ at2 ≤ at_ + 10) ?_ ?_
    · by_cases hp : pk = 0
      · rw [if_pos hp]
        exact ⟨_, rfl, Y, at_ + 4, 0, 0, 0, rfl, by omega, by omega, hY, by omega, by omega, ⟨by omega, by omega⟩, ⟨by omega, by omega⟩, fun _ => ⟨rfl, rfl, rfl⟩, by omega, by omega⟩
      · rw [if_neg hp]
        obtain ⟨a, b, c, d, hc, hcol2⟩ := color_f (at_ := at_ + 4) L (by omega) (by omega)
        obtain ⟨jb, Y2, ha, q0, q1, q2, q3, q4⟩ := add_f k a b c d (wr64 (1 + g1)) (wr64 (1 + g2)) g3 Y hY hcol2 (by omega) (by omega)
        obtain ⟨x, y, hp2, hx, hy⟩ := point_f (far := far) (at_ := at_ + 4 + 1) L (by omega) (by omega) (by omega) (by omega)
        exact ⟨_, bind_of hc (bind_of ha (bind_of hp2 rfl)), Y2, at_ + 4 + 1 + 2, jb, x, y, rfl, q2, q3, q4, q0, q1, hx, hy, fun h => absurd h hp, by omega, by omega⟩
    rintro _ ⟨Y2, at2, jb, px, py, rfl, z0, z1, hY2, b0, b1, hpx, hpy, hflat, a1, a2⟩
    dsimp only
    -- the second point of a linear one
    refine bind_ex (Q := fun r => ∃ at3 qx qy, r = (at3, qx, qy) ∧ Bd (far + 1) qx ∧ Bd far qy ∧ (pk ≠ 1 → qx = 0 ∧ qy = 0) ∧ at_ ≤ at3 ∧ at3 ≤ at_ + 20) ?_ ?_
    · by_cases hp : pk = 1
      · rw [if_pos hp]
        obtain ⟨x, y, hp2, hx, hy⟩ := point_f (far := far) (at_ := at2) L (by omega) (by omega) (by omega) (by omega)
        obtain ⟨sm, hs⟩ := same_point px py x y
        cases sm with
        | true =>
          refine ⟨_, bind_of hp2 (bind_of hs ?_), at2 + 2, x + 1, y, rfl, ⟨by omega, by omega⟩, hy, fun h => absurd hp h, by omega, by omega⟩
          rw [if_pos rfl, w64 (n := x + 1) (by omega) (by omega)]
        | false =>
          refine ⟨_, bind_of hp2 (bind_of hs ?_), at2 + 2, x, y, rfl, ⟨by omega, by omega⟩, hy, fun h => absurd hp h, by omega, by omega⟩
          rw [if_neg (by decide)]
      · rw [if_neg hp]
        exact ⟨_, rfl, at2, 0, 0, rfl, ⟨by omega, by omega⟩, ⟨by omega, by omega⟩, fun _ => ⟨rfl, rfl⟩, by omega, by omega⟩
    rintro _ ⟨at3, qx, qy, rfl, hqx, hqy, hq, a3, a4⟩
    dsimp only
    -- the radius
    refine bind_ex (Q := fun r => ∃ at4 qr, r = (at4, qr) ∧ Bd (far + 1) qr ∧ (pk = 0 → qr = 0) ∧ (pk = 2 → 1 ≤ qr) ∧ at_ ≤ at4 ∧ at4 ≤ at_ + 30) ?_ ?_
    · by_cases hp : pk = 2
      · rw [if_pos hp]
        obtain ⟨t, ht, q0, q1⟩ := next_f (b := far) (at_ := at3) L (by omega) (by omega) (by omega) (by omega)
        refine ⟨_, bind_of ht rfl, at3 + 1, 1 + t, ?_, ⟨by omega, by omega⟩, by omega, by omega, by omega, by omega⟩
        dsimp only
        rw [w64 (n := 1 + t) (by omega) (by omega)]
      · rw [if_neg hp]
        exact ⟨_, rfl, at3, qx, rfl, hqx, fun h => (hq (by omega)).1, fun h => absurd h hp, by omega, by omega⟩
    rintro _ ⟨at4, qr, rfl, hqr, hqr0, hqr2, a5, a6⟩
    dsimp only
    -- the paths
    refine bind_ex (Q := fun r => ∃ at5 Ps, r = (at5, Ps) ∧ 1 ≤ Ps.length ∧ Ps.length ≤ 3 ∧ (∀ p ∈ Ps, PathOK far p ∧ (1 + t256 = 1 → p.2.2.2 = false)) ∧ at_ ≤ at5 ∧ at5 ≤ at_ + 300) ?_ ?_
    · obtain ⟨t, ht, q0, q1⟩ := next_f (b := 3) (at_ := at4) L (by omega) (by omega) (by omega) (by omega)
      obtain ⟨m, rfl⟩ : ∃ m : Nat, t = m := ⟨t.toNat, by omega⟩
      obtain ⟨Ps, at5, hl, hlen, hok, q2, q3⟩ := icon_l1 (L := L) hF hb (by omega) t0 t1 (m + 1) k [] (at4 + 1) (by omega) (by omega) (by omega) (by simp; omega) (by simp)
      rw [show (((m + 1 : Nat) : Int) - 1) = (m : Int) by omega] at hl
      simp at hlen
      exact ⟨_, bind_of ht hl, at5, Ps, rfl, by omega, by omega, hok, by omega, by omega⟩
    rintro _ ⟨at5, Ps, rfl, n1, n3, hPs, a7, a8⟩
    dsimp only
    refine ⟨_, bind_of (lapp_ok (by simp; omega)) rfl, Y2, _, at5, rfl, by omega, by omega, hY2, ?_, by omega, by omega⟩
    refine ⟨?_, ⟨r1, r2⟩, ⟨r3, r4⟩, ⟨p0, p1⟩, ⟨j0, ?_⟩, ⟨b0, b1⟩, hpx, hpy, hqr, hqy, ?_, ?_, n1, n3, hPs⟩
    · show 1 + t256 = 1 ∨ 1 + t256 = 2
      omega
    · show ja < (Y2.length : Int)
      omega
    · intro h
      have h' : pk = 0 := h
      obtain ⟨f1, f2, f3⟩ := hflat h'
      exact ⟨f1, f2, f3, hqr0 h', (hq (by omega)).2⟩
    · intro h
      have h' : pk = 2 := h
      exact ⟨hqr2 h', (hq (by omega)).2⟩
/-- An icon that was made. -/
structure IconOK (W H s far : Int) (Z : List Cm) (C : List (Int × Int × Int × Int)) : Prop where
  w1 : 1 ≤ W
  w2 : W ≤ 24
  h1 : 1 ≤ H
  h2 : H ≤ 24
  s0 : 0 ≤ s
  s6 : s ≤ 6
  fa : far = max W H * 2 ^ s.toNat
  f1 : 1 ≤ far
  f2 : far ≤ 1536
  n : Z.length ≤ 4
  m : C.length ≤ 8
  z : ∀ c ∈ Z, CmdOK far C.length c
  c : ∀ c ∈ C, Col c
theorem pow_s {s : Int} (h0 : 0 ≤ s) (h6 : s ≤ 6) : (2 : Int) ^ (min (Int.toNat (wru64 s)) 64) = 2 ^ s.toNat ∧ 1 ≤ (2 : Int) ^ s.toNat ∧ (2 : Int) ^ s.toNat ≤ 64 := by
  rcases (show s = 0 ∨ s = 1 ∨ s = 2 ∨ s = 3 ∨ s = 4 ∨ s = 5 ∨ s = 6 by omega) with rfl | rfl | rfl | rfl | rfl | rfl | rfl
  all_goals exact ⟨rfl, by decide, by decide⟩
theorem icon_f (L : List Int) (k : Nat) (hk : 300 ≤ k) : ∃ W H s Z C at', glyphicmake_Icon_v1.f k L 0 = some (W, H, s, Z, C, at') ∧ ∃ far, IconOK W H s far Z C := by
  unfold glyphicmake_Icon_v1.f
  obtain ⟨t1, e1, l1, u1⟩ := next_f (b := 24) (at_ := 0) L (by omega) (by omega) (by omega) (by omega)
  obtain ⟨t2, e2, l2, u2⟩ := next_f (b := 24) (at_ := 0 + 1) L (by omega) (by omega) (by omega) (by omega)
  obtain ⟨t3, e3, l3, u3⟩ := next_f (b := 7) (at_ := 0 + 1 + 1) L (by omega) (by omega) (by omega) (by omega)
  obtain ⟨t4, e4, l4, u4⟩ := next_f (b := 4) (at_ := 0 + 1 + 1 + 1) L (by omega) (by omega) (by omega) (by omega)
  obtain ⟨q1, q2, q3⟩ := pow_s l3 (show t3 ≤ 6 by omega)
  obtain ⟨m, rfl⟩ : ∃ m : Nat, t4 = m := ⟨t4.toNat, by omega⟩
  have hm : mx (1 + t1) (1 + t2) = max (1 + t1) (1 + t2) := by unfold mx; split <;> omega
  have b := mul_bd (M := 24) (N := 64) (x := max (1 + t1) (1 + t2)) (y := 2 ^ t3.toNat) (by omega) (by omega) (by omega) (by omega)
  have b2 : 1 ≤ max (1 + t1) (1 + t2) * 2 ^ t3.toNat := by
    have := Int.mul_le_mul (show (1 : Int) ≤ max (1 + t1) (1 + t2) by omega) q2 (by omega) (by omega)
    omega
  have hF : wr64 ((mx (wr64 (1 + t1)) (wr64 (1 + t2))) * 2 ^ (min (Int.toNat (wru64 t3)) 64)) = max (1 + t1) (1 + t2) * 2 ^ t3.toNat := by
    rw [w64 (n := 1 + t1) (by omega) (by omega), w64 (n := 1 + t2) (by omega) (by omega), q1, hm, w64 (by omega) (by omega)]
  obtain ⟨r, hr, C, Z, at', rfl, c1, c2, c3, c4, c5, c6⟩ := icon_l0 (L := L) hF b2 (by omega) (m + 1) k [] [] (0 + 1 + 1 + 1 + 1) (by omega) (by omega) (by omega) (by simp; omega) (by simp; omega) (by simp) (by simp)
  rw [show (((m + 1 : Nat) : Int) - 1) = (m : Int) by omega] at hr
  simp at c1 c2
  refine ⟨1 + t1, 1 + t2, t3, Z, C, at', bind_of e1 (bind_of e2 (bind_of e3 ?_)), _, ⟨by omega, by omega, by omega, by omega, l3, by omega, rfl, b2, by omega, by omega, by omega, c4, c3⟩⟩
  dsimp only
  rw [wu64 (n := t3) (by omega) (by omega), if_neg (by omega)]
  have hr' := hr
  refine bind_of (x := (C, Z, at', [], [])) (bind_of e4 hr) ?_
  dsimp only
  rw [w64 (n := 1 + t1) (by omega) (by omega), w64 (n := 1 + t2) (by omega) (by omega)]

/-- A coordinate in device units. -/
def sc (W s w v : Int) : Int := rnd (v * w * 256) (W * 2 ^ s.toNat)
theorem pow_t {s : Int} (h0 : 0 ≤ s) (h6 : s ≤ 6) : (2 : Int) ^ (min (Int.toNat s) 64) = 2 ^ s.toNat ∧ 1 ≤ (2 : Int) ^ s.toNat ∧ (2 : Int) ^ s.toNat ≤ 64 := by
  rcases (show s = 0 ∨ s = 1 ∨ s = 2 ∨ s = 3 ∨ s = 4 ∨ s = 5 ∨ s = 6 by omega) with rfl | rfl | rfl | rfl | rfl | rfl | rfl
  all_goals exact ⟨rfl, by decide, by decide⟩
section
variable {W s w : Int} (W1 : 1 ≤ W) (W2 : W ≤ 4096) (s0 : 0 ≤ s) (s6 : s ≤ 6) (w1 : 1 ≤ w) (w2 : w ≤ 16384)
include W1 W2 s0 s6 w1 w2
theorem at_g {v : Int} (i1 : Int) (hv : Bd 1048576 v) : scale_At_v2.f W i1 s w v = some (sc W s w v) := by
  obtain ⟨q1, q2, q3⟩ := pow_t s0 s6
  obtain ⟨v0, v1⟩ := hv
  have b1 := mul_bd (M := 1048576) (N := 16384) (x := v) (y := w) v0 v1 (by omega) (by omega)
  have b3 := mul_bd (M := 4096) (N := 64) (x := W) (y := 2 ^ s.toNat) (by omega) (by omega) (by omega) (by omega)
  have b4 : 0 < W * 2 ^ s.toNat := Int.mul_pos (by omega) (by omega)
  unfold scale_At_v2.f sc
  rw [if_neg (by omega), q1, w64 (n := v * w) (by omega) (by omega), w64 (n := v * w * 256) (by omega) (by omega), w64 (n := W * 2 ^ s.toNat) (by omega) (by omega)]
  exact bind_of (round_f (by omega) (by omega) (by omega) (by omega)) rfl
theorem at_p {x y : Int} (i1 : Int) (hx : Bd 1048576 x) (hy : Bd 1048576 y) : scale_Cmd_1_v1.f x y W i1 s w = some (sc W s w x, sc W s w y) := by
  unfold scale_Cmd_1_v1.f
  exact bind_of (at_g W1 W2 s0 s6 w1 w2 i1 hx) (bind_of (at_g W1 W2 s0 s6 w1 w2 i1 hy) rfl)
end
theorem Bd.le {g h x : Int} (a : Bd g x) (l : g ≤ h) : Bd h x := ⟨by have := a.1; omega, by have := a.2; omega⟩
def scSeg (W s w : Int) (x : Sg7) : Sg7 := (x.1, sc W s w x.2.1, sc W s w x.2.2.1, sc W s w x.2.2.2.1, sc W s w x.2.2.2.2.1, sc W s w x.2.2.2.2.2.1, sc W s w x.2.2.2.2.2.2)
def scPath (W s w : Int) (p : Pth) : Pth := (sc W s w p.1, sc W s w p.2.1, p.2.2.1.map (scSeg W s w), p.2.2.2)
def scCmd (W s w : Int) (c : Cm) : Cm := (c.1, c.2.1, if c.1 = 2 then mx (sc W s w c.2.2.1) 1 else c.2.2.1, c.2.2.2.1, c.2.2.2.2.1, c.2.2.2.2.2.1, sc W s w c.2.2.2.2.2.2.1, sc W s w c.2.2.2.2.2.2.2.1, if c.2.2.2.1 = 2 then mx (sc W s w c.2.2.2.2.2.2.2.2.1) 1 else sc W s w c.2.2.2.2.2.2.2.2.1, sc W s w c.2.2.2.2.2.2.2.2.2.1, c.2.2.2.2.2.2.2.2.2.2.map (scPath W s w))
theorem drop_at {T : Type} {L : List T} {i : Nat} (h : i < L.length) : L.drop i = L[i] :: L.drop (i + 1) := List.drop_eq_getElem_cons h
section
variable {W s w g : Int} (W1 : 1 ≤ W) (W2 : W ≤ 4096) (s0 : 0 ≤ s) (s6 : s ≤ 6) (w1 : 1 ≤ w) (w2 : w ≤ 16384) (hg : g ≤ 1048575)
include W1 W2 s0 s6 w1 w2 hg
theorem cmd_l1 (i1 : Int) (L : List Sg7) (hL : ∀ x ∈ L, SegOK g x) (hl : L.length ≤ 1000) : ∀ (n k i : Nat) (y : List Sg7), i + n = L.length → n < k → y.length + n ≤ 1000 → scale_Cmd_v1.l1 k W i1 s w L (i : Int) y = some (y ++ (L.drop i).map (scSeg W s w))
  | 0, k, i, y, hi, hk, hy => by
    obtain ⟨k, rfl⟩ : ∃ m, k = m + 1 := ⟨k - 1, by omega⟩
    rw [scale_Cmd_v1.l1, if_neg (by omega), List.drop_eq_nil_of_le (by omega)]
    simp
  | n + 1, k, i, y, hi, hk, hy => by
    obtain ⟨k, rfl⟩ : ∃ m, k = m + 1 := ⟨k - 1, by omega⟩
    have hlt : i < L.length := by omega
    have ok := hL _ (List.getElem_mem hlt)
    have ih := cmd_l1 i1 L hL hl n k (i + 1) (y ++ [scSeg W s w L[i]]) (by omega) (by omega) (by simp; omega)
    rw [scale_Cmd_v1.l1, if_pos (by omega), drop_at hlt, List.map_cons]
    have bd : ∀ {x : Int}, Bd g x → Bd 1048576 x := fun h => h.le (by omega)
    refine bind_of (x := y ++ [scSeg W s w L[i]]) (bind_of (lgt_nat hlt) (bind_of (x := (_, _, _, _, _, _)) (bind_of (at_p W1 W2 s0 s6 w1 w2 i1 (bd ok.a) (bd ok.b)) (bind_of (at_p W1 W2 s0 s6 w1 w2 i1 (bd ok.c) (bd ok.d)) (bind_of (at_p W1 W2 s0 s6 w1 w2 i1 (bd ok.e) (bd ok.f)) rfl))) (bind_of (lapp_ok (by simp; omega)) rfl))) ?_
    rw [wnat (by omega), ih]
    simp
theorem cmd_l0 (i1 : Int) (L : List Pth) (hL : ∀ x ∈ L, PathOK g x) (hl : L.length ≤ 1000) : ∀ (n k i : Nat) (y : List Pth), i + n = L.length → n + 10 < k → y.length + n ≤ 1000 → scale_Cmd_v1.l0 k W i1 s w L (i : Int) y = some (y ++ (L.drop i).map (scPath W s w))
  | 0, k, i, y, hi, hk, hy => by
    obtain ⟨k, rfl⟩ : ∃ m, k = m + 1 := ⟨k - 1, by omega⟩
    rw [scale_Cmd_v1.l0, if_neg (by omega), List.drop_eq_nil_of_le (by omega)]
    simp
  | n + 1, k, i, y, hi, hk, hy => by
    obtain ⟨k, rfl⟩ : ∃ m, k = m + 1 := ⟨k - 1, by omega⟩
    have hlt : i < L.length := by omega
    have ok := hL _ (List.getElem_mem hlt)
    have ih := cmd_l0 i1 L hL hl n k (i + 1) (y ++ [scPath W s w L[i]]) (by omega) (by omega) (by simp; omega)
    rw [scale_Cmd_v1.l0, if_pos (by omega), drop_at hlt, List.map_cons]
    have bd : ∀ {x : Int}, Bd g x → Bd 1048576 x := fun h => h.le (by omega)
    have l4 := ok.l4
    have hs := cmd_l1 W1 W2 s0 s6 w1 w2 hg i1 L[i].2.2.1 ok.s (by omega) L[i].2.2.1.length k 0 [] (by omega) (by omega) (by simp; omega)
    refine bind_of (x := y ++ [scPath W s w L[i]]) (bind_of (lgt_nat hlt) (bind_of (at_p W1 W2 s0 s6 w1 w2 i1 (bd ok.x) (bd ok.y)) (bind_of hs (bind_of (lapp_ok (by simp; omega)) rfl)))) ?_
    rw [wnat (by omega), ih]
    simp
theorem cmd_f {nc : Int} (i1 : Int) (c : Cm) (hc : CmdOK g nc c) (k : Nat) (hk : 20 ≤ k) : scale_Cmd_v1.f k W i1 s w c.1 c.2.1 c.2.2.1 c.2.2.2.1 c.2.2.2.2.1 c.2.2.2.2.2.1 c.2.2.2.2.2.2.1 c.2.2.2.2.2.2.2.1 c.2.2.2.2.2.2.2.2.1 c.2.2.2.2.2.2.2.2.2.1 c.2.2.2.2.2.2.2.2.2.2 = some (scCmd W s w c) := by
  unfold scale_Cmd_v1.f
  have bd : ∀ {x : Int}, Bd g x → Bd 1048576 x := fun h => h.le (by omega)
  have n3 := hc.n3
  have h0 := cmd_l0 W1 W2 s0 s6 w1 w2 hg i1 c.2.2.2.2.2.2.2.2.2.2 (fun p hp => (hc.p p hp).1) (by omega) c.2.2.2.2.2.2.2.2.2.2.length k 0 [] (by omega) (by omega) (by simp; omega)
  refine bind_of (at_p W1 W2 s0 s6 w1 w2 i1 (bd hc.px) (bd hc.py)) (bind_of (at_p W1 W2 s0 s6 w1 w2 i1 (hc.qx.le (by omega)) (bd hc.qy)) ?_)
  dsimp only
  refine bind_of (x := if c.2.2.2.1 = 2 then mx (sc W s w c.2.2.2.2.2.2.2.2.1) 1 else sc W s w c.2.2.2.2.2.2.2.2.1) (by split <;> rfl) ?_
  refine bind_of (x := if c.1 = 2 then mx (sc W s w c.2.2.1) 1 else c.2.2.1) ?_ (bind_of h0 ?_)
  · by_cases h : c.1 = 2
    · rw [if_pos h, if_pos h]
      obtain ⟨q1, q2⟩ := hc.w.2 h
      exact bind_of (at_g W1 W2 s0 s6 w1 w2 i1 ⟨by omega, by omega⟩) rfl
    · rw [if_neg h, if_neg h]
  · simp [scCmd]
end

theorem rround_eq (a b : Int) : glyphicref1_Round.f a b = fixed_Round.f a b := rfl
theorem wu_small {s : Int} (h0 : 0 ≤ s) (h6 : s ≤ 6) : wru64 s = s := wu64 (by omega) (by omega)
theorem ref_at_eq {s : Int} (h0 : 0 ≤ s) (h6 : s ≤ 6) (W H w v : Int) : glyphicref20_At_v1.f W H s w v = scale_At_v2.f W H s w v := by
  unfold glyphicref20_At_v1.f scale_At_v2.f
  rw [wu_small h0 h6, rround_eq]
theorem sc_zero {W s w : Int} (W1 : 1 ≤ W) (s0 : 0 ≤ s) (s6 : s ≤ 6) : sc W s w 0 = 0 := by
  obtain ⟨q1, q2, q3⟩ := pow_t s0 s6
  have b4 : 0 < W * 2 ^ s.toNat := Int.mul_pos (by omega) (by omega)
  unfold sc
  rw [Int.zero_mul, Int.zero_mul]
  exact rnd_is b4 (by omega) (by omega)
section
variable {W s w g : Int} (W1 : 1 ≤ W) (W2 : W ≤ 4096) (s0 : 0 ≤ s) (s6 : s ≤ 6) (w1 : 1 ≤ w) (w2 : w ≤ 16384) (hg : g ≤ 1048575)
include W1 W2 s0 s6 w1 w2
theorem at_r {v : Int} (i1 : Int) (hv : Bd 1048576 v) : glyphicref20_At_v1.f W i1 s w v = some (sc W s w v) := by
  rw [ref_at_eq s0 s6]
  exact at_g W1 W2 s0 s6 w1 w2 i1 hv
theorem point_r {x y : Int} (i1 : Int) (hx : Bd 1048576 x) (hy : Bd 1048576 y) : glyphicref20_point_v1.f W i1 s w x y = some (sc W s w x, sc W s w y) := by
  unfold glyphicref20_point_v1.f
  exact bind_of (at_r W1 W2 s0 s6 w1 w2 i1 hx) (bind_of (at_r W1 W2 s0 s6 w1 w2 i1 hy) rfl)
include hg
theorem ref_l2 (i1 : Int) (L : List Pth) (i j : Int) (p : Pth) (q : Sg7) (hp : lgt L i = some p) (hq : lgt p.2.2.1 j = some q) (ok : SegOK g q) (k : Nat) :
    glyphicref20_Cmd_v1.l2 (k + 4) W i1 s w L i j q.1 0 0 0 0 0 0 0 = some (scSeg W s w q).2 := by
  have bd : ∀ {x : Int}, Bd g x → Bd 1048576 x := fun h => h.le (by omega)
  have z := sc_zero (w := w) W1 s0 s6
  have k1 := ok.k1
  have k3 := ok.k3
  rw [glyphicref20_Cmd_v1.l2, if_pos (by omega)]
  refine bind_of hp (bind_of hq ?_)
  dsimp only
  rw [if_pos rfl]
  refine bind_of (point_r W1 W2 s0 s6 w1 w2 i1 (bd ok.a) (bd ok.b)) ?_
  dsimp only
  rw [w64 (n := 0 + 1) (by omega) (by omega), glyphicref20_Cmd_v1.l2]
  by_cases c1 : 0 + 1 < q.1
  · rw [if_pos c1]
    refine bind_of hp (bind_of hq ?_)
    dsimp only
    rw [if_neg (by omega), if_pos (by omega)]
    refine bind_of (point_r W1 W2 s0 s6 w1 w2 i1 (bd ok.c) (bd ok.d)) ?_
    dsimp only
    rw [w64 (n := 0 + 1 + 1) (by omega) (by omega), glyphicref20_Cmd_v1.l2]
    by_cases c2 : 0 + 1 + 1 < q.1
    · rw [if_pos c2]
      refine bind_of hp (bind_of hq ?_)
      dsimp only
      rw [if_neg (by omega), if_neg (by omega), if_pos (by omega)]
      refine bind_of (point_r W1 W2 s0 s6 w1 w2 i1 (bd ok.e) (bd ok.f)) ?_
      dsimp only
      rw [w64 (n := 0 + 1 + 1 + 1) (by omega) (by omega), glyphicref20_Cmd_v1.l2, if_neg (by omega)]
      rfl
    · rw [if_neg c2]
      obtain ⟨e1, e2⟩ := ok.z2 (by omega)
      unfold scSeg
      rw [e1, e2, z]
  · rw [if_neg c1]
    obtain ⟨e1, e2⟩ := ok.z2 (by omega)
    obtain ⟨e3, e4⟩ := ok.z1 (by omega)
    unfold scSeg
    rw [e1, e2, e3, e4, z]
theorem ref_l1 (i1 : Int) (L : List Pth) (j : Int) (p : Pth) (hp : lgt L j = some p) (hL : ∀ x ∈ p.2.2.1, SegOK g x) (hl : p.2.2.1.length ≤ 1000) : ∀ (n k i : Nat) (y : List Sg7), i + n = p.2.2.1.length → n + 10 < k → y.length + n ≤ 1000 → glyphicref20_Cmd_v1.l1 k W i1 s w L j (i : Int) y = some (y ++ (p.2.2.1.drop i).map (scSeg W s w))
  | 0, k, i, y, hi, hk, hy => by
    obtain ⟨k, rfl⟩ : ∃ m, k = m + 1 := ⟨k - 1, by omega⟩
    rw [glyphicref20_Cmd_v1.l1]
    refine bind_of hp ?_
    show (if (i : Int) < (p.2.2.1.length : Int) then _ else _) = _
    rw [if_neg (by omega), List.drop_eq_nil_of_le (by omega)]
    simp
  | n + 1, k, i, y, hi, hk, hy => by
    obtain ⟨k, rfl⟩ : ∃ m, k = m + 5 := ⟨k - 5, by omega⟩
    have hlt : i < p.2.2.1.length := by omega
    have ok := hL _ (List.getElem_mem hlt)
    have hget := lgt_nat hlt
    have ih := ref_l1 i1 L j p hp hL hl n (k + 4) (i + 1) (y ++ [scSeg W s w p.2.2.1[i]]) (by omega) (by omega) (by simp; omega)
    rw [show k + 5 = (k + 4) + 1 from rfl, glyphicref20_Cmd_v1.l1]
    refine bind_of hp ?_
    show (if (i : Int) < (p.2.2.1.length : Int) then _ else _) = _
    rw [if_pos (by omega), drop_at hlt, List.map_cons]
    have h2 := ref_l2 W1 W2 s0 s6 w1 w2 hg i1 L j i p p.2.2.1[i] hp hget ok k
    refine bind_of (x := y ++ [scSeg W s w p.2.2.1[i]]) (bind_of hp (bind_of hget (bind_of h2 (bind_of (lapp_ok (by simp; omega)) rfl)))) ?_
    rw [wnat (by omega), ih]
    simp
theorem ref_l0 (i1 : Int) (L : List Pth) (hL : ∀ x ∈ L, PathOK g x) (hl : L.length ≤ 1000) : ∀ (n k i : Nat) (y : List Pth), i + n = L.length → n + 20 < k → y.length + n ≤ 1000 → glyphicref20_Cmd_v1.l0 k W i1 s w L (i : Int) y = some (y ++ (L.drop i).map (scPath W s w))
  | 0, k, i, y, hi, hk, hy => by
    obtain ⟨k, rfl⟩ : ∃ m, k = m + 1 := ⟨k - 1, by omega⟩
    rw [glyphicref20_Cmd_v1.l0, if_neg (by omega), List.drop_eq_nil_of_le (by omega)]
    simp
  | n + 1, k, i, y, hi, hk, hy => by
    obtain ⟨k, rfl⟩ : ∃ m, k = m + 1 := ⟨k - 1, by omega⟩
    have hlt : i < L.length := by omega
    have ok := hL _ (List.getElem_mem hlt)
    have ih := ref_l0 i1 L hL hl n k (i + 1) (y ++ [scPath W s w L[i]]) (by omega) (by omega) (by simp; omega)
    rw [glyphicref20_Cmd_v1.l0, if_pos (by omega), drop_at hlt, List.map_cons]
    have bd : ∀ {x : Int}, Bd g x → Bd 1048576 x := fun h => h.le (by omega)
    have l4 := ok.l4
    have hs := ref_l1 W1 W2 s0 s6 w1 w2 hg i1 L i L[i] (lgt_nat hlt) ok.s (by omega) L[i].2.2.1.length k 0 [] (by omega) (by omega) (by simp; omega)
    refine bind_of (x := y ++ [scPath W s w L[i]]) (bind_of (lgt_nat hlt) (bind_of (point_r W1 W2 s0 s6 w1 w2 i1 (bd ok.x) (bd ok.y)) (bind_of (lgt_nat hlt) (bind_of hs (bind_of (lapp_ok (by simp; omega)) rfl))))) ?_
    rw [wnat (by omega), ih]
    simp
theorem ref_cmd_f {nc : Int} (i1 : Int) (c : Cm) (hc : CmdOK g nc c) (k : Nat) (hk : 30 ≤ k) : glyphicref20_Cmd_v1.f k W i1 s w c.1 c.2.1 c.2.2.1 c.2.2.2.1 c.2.2.2.2.1 c.2.2.2.2.2.1 c.2.2.2.2.2.2.1 c.2.2.2.2.2.2.2.1 c.2.2.2.2.2.2.2.2.1 c.2.2.2.2.2.2.2.2.2.1 c.2.2.2.2.2.2.2.2.2.2 = some (scCmd W s w c) := by
  unfold glyphicref20_Cmd_v1.f
  have bd : ∀ {x : Int}, Bd g x → Bd 1048576 x := fun h => h.le (by omega)
  have bq : Bd 1048576 c.2.2.2.2.2.2.2.2.1 := hc.qx.le (by omega)
  have n3 := hc.n3
  have z := sc_zero (w := w) W1 s0 s6
  have h0 := ref_l0 W1 W2 s0 s6 w1 w2 hg i1 c.2.2.2.2.2.2.2.2.2.2 (fun p hp => (hc.p p hp).1) (by omega) c.2.2.2.2.2.2.2.2.2.2.length k 0 [] (by omega) (by omega) (by simp; omega)
  refine bind_of (x := if c.1 = 2 then mx (sc W s w c.2.2.1) 1 else c.2.2.1) ?_ (bind_of (x := (sc W s w c.2.2.2.2.2.2.1, sc W s w c.2.2.2.2.2.2.2.1, sc W s w c.2.2.2.2.2.2.2.2.1, sc W s w c.2.2.2.2.2.2.2.2.2.1)) ?_ (bind_of (x := (if c.2.2.2.1 = 2 then mx (sc W s w c.2.2.2.2.2.2.2.2.1) 1 else sc W s w c.2.2.2.2.2.2.2.2.1, sc W s w c.2.2.2.2.2.2.2.2.2.1)) ?_ (bind_of h0 ?_)))
  · by_cases h : c.1 = 2
    · rw [if_pos h, if_pos h]
      obtain ⟨q1, q2⟩ := hc.w.2 h
      exact bind_of (at_r W1 W2 s0 s6 w1 w2 i1 ⟨by omega, by omega⟩) rfl
    · rw [if_neg h, if_neg h, hc.w.1 (by have := hc.k; omega)]
  · by_cases h : c.2.2.2.1 = 0
    · rw [if_pos h]
      obtain ⟨_, e1, e2, e3, e4⟩ := hc.flat h
      rw [e1, e2, e3, e4, z]
    · rw [if_neg h]
      exact bind_of (point_r W1 W2 s0 s6 w1 w2 i1 (bd hc.px) (bd hc.py)) (bind_of (point_r W1 W2 s0 s6 w1 w2 i1 bq (bd hc.qy)) rfl)
  · by_cases h : c.2.2.2.1 = 2
    · rw [if_pos h, if_pos h]
      refine bind_of (at_r W1 W2 s0 s6 w1 w2 i1 bq) ?_
      rw [(hc.rad h).2, z]
    · rw [if_neg h, if_neg h]
  · simp [scCmd]
end
/-! ### the same -/
theorem sp_refl (a b : Int) : glyphicref_SamePoint.f a b a b = some true := by
  unfold glyphicref_SamePoint.f
  rw [if_pos rfl]
  simp
theorem sseg_refl (a b c d e f g : Int) : glyphicref_SameSeg.f a b c d e f g a b c d e f g = some true := by
  unfold glyphicref_SameSeg.f
  rw [if_pos rfl]
  refine bind_of (sp_refl _ _) ?_
  rw [if_pos rfl]
  refine bind_of (sp_refl _ _) ?_
  rw [if_pos rfl]
  exact bind_of (sp_refl _ _) rfl
theorem ssegs_l (L : List Sg7) (hl : L.length ≤ 1000) : ∀ (n k i : Nat), i + n = L.length → n < k → glyphicref_SameSegs_v1.l0 k L L (i : Int) = some (.inr ())
  | 0, k, i, hi, hk => by
    obtain ⟨k, rfl⟩ : ∃ m, k = m + 1 := ⟨k - 1, by omega⟩
    rw [glyphicref_SameSegs_v1.l0, if_neg (by omega)]
  | n + 1, k, i, hi, hk => by
    obtain ⟨k, rfl⟩ : ∃ m, k = m + 1 := ⟨k - 1, by omega⟩
    have hlt : i < L.length := by omega
    have ih := ssegs_l L hl n k (i + 1) (by omega) (by omega)
    rw [glyphicref_SameSegs_v1.l0, if_pos (by omega)]
    refine bind_of (lgt_nat hlt) (bind_of (lgt_nat hlt) (bind_of (sseg_refl _ _ _ _ _ _ _) ?_))
    rw [if_pos rfl, wnat (by omega)]
    exact ih
theorem ssegs_refl (L : List Sg7) (hl : L.length ≤ 1000) (k : Nat) (hk : L.length < k) : glyphicref_SameSegs_v1.f k L L = some true := by
  unfold glyphicref_SameSegs_v1.f
  rw [if_pos rfl]
  exact bind_of (ssegs_l L hl L.length k 0 (by omega) hk) rfl
theorem spaths_l (L : List Pth) (hl : L.length ≤ 1000) (hp : ∀ p ∈ L, p.2.2.1.length ≤ 100) : ∀ (n k i : Nat), i + n = L.length → n + 100 < k → glyphicref_SamePaths_v1.l0 k L L (i : Int) = some (.inr ())
  | 0, k, i, hi, hk => by
    obtain ⟨k, rfl⟩ : ∃ m, k = m + 1 := ⟨k - 1, by omega⟩
    rw [glyphicref_SamePaths_v1.l0, if_neg (by omega)]
  | n + 1, k, i, hi, hk => by
    obtain ⟨k, rfl⟩ : ∃ m, k = m + 1 := ⟨k - 1, by omega⟩
    have hlt : i < L.length := by omega
    have ih := spaths_l L hl hp n k (i + 1) (by omega) (by omega)
    have h4 := hp _ (List.getElem_mem hlt)
    have hget := lgt_nat hlt
    rw [glyphicref_SamePaths_v1.l0, if_pos (by omega)]
    generalize L[i] = q at *
    refine bind_of hget (bind_of hget (bind_of (x := true) ?_ ?_))
    · unfold glyphicref_SamePath_v1.f
      refine bind_of (sp_refl _ _) ?_
      rw [if_pos rfl, if_pos rfl]
      exact bind_of (ssegs_refl q.2.2.1 (by omega) _ (by omega)) rfl
    · rw [if_pos rfl, wnat (by omega)]
      exact ih
theorem scmd_refl (c : Cm) (k : Nat) (hk : 1200 ≤ k) (hl : c.2.2.2.2.2.2.2.2.2.2.length ≤ 100) (hp : ∀ p ∈ c.2.2.2.2.2.2.2.2.2.2, p.2.2.1.length ≤ 100) : glyphicref_SameCmd_v1.f k c.1 c.2.1 c.2.2.1 c.2.2.2.1 c.2.2.2.2.1 c.2.2.2.2.2.1 c.2.2.2.2.2.2.1 c.2.2.2.2.2.2.2.1 c.2.2.2.2.2.2.2.2.1 c.2.2.2.2.2.2.2.2.2.1 c.2.2.2.2.2.2.2.2.2.2 c.1 c.2.1 c.2.2.1 c.2.2.2.1 c.2.2.2.2.1 c.2.2.2.2.2.1 c.2.2.2.2.2.2.1 c.2.2.2.2.2.2.2.1 c.2.2.2.2.2.2.2.2.1 c.2.2.2.2.2.2.2.2.2.1 c.2.2.2.2.2.2.2.2.2.2 = some true := by
  unfold glyphicref_SameCmd_v1.f
  rw [if_pos rfl, if_pos rfl, if_pos rfl]
  refine bind_of (x := true) ?_ ?_
  · unfold glyphicref_SamePaint.f
    rw [if_pos rfl, if_pos rfl, if_pos rfl]
    refine bind_of (sp_refl _ _) ?_
    rw [if_pos rfl]
    exact bind_of (sp_refl _ _) rfl
  · rw [if_pos rfl]
    refine bind_of (x := true) ?_ rfl
    unfold glyphicref_SamePaths_v1.f
    rw [if_pos rfl]
    exact bind_of (spaths_l _ (by omega) hp c.2.2.2.2.2.2.2.2.2.2.length k 0 (by omega) (by omega)) rfl
/-! ### heights -/
/-- How high. -/
def hgt (W H w : Int) : Int := (H * w + W - 1) / W
section
variable {W H w : Int} (W1 : 1 ≤ W) (W2 : W ≤ 4096) (H1 : 1 ≤ H) (H2 : H ≤ 4096) (w1 : 1 ≤ w) (w2 : w ≤ 16384)
include W1 W2 H1 H2 w1 w2
theorem hgt_s (s : Int) : scale_Height_v2.f W H s w = some (hgt W H w) := by
  have b := mul_bd (M := 4096) (N := 16384) (x := H) (y := w) (by omega) (by omega) (by omega) (by omega)
  have b0 : 1 ≤ H * w := by have := Int.mul_le_mul H1 w1 (by omega) (by omega); omega
  unfold scale_Height_v2.f hgt
  have e : (0 - H) * w = -(H * w) := by rw [Int.zero_sub, Int.neg_mul]
  rw [w64 (n := 0 - H) (by omega) (by omega), e, w64 (n := -(H * w)) (by omega) (by omega)]
  have hd := div_bd (-(H * w)) (b := W) (by omega)
  refine bind_of (down_f (by omega) (by omega) (by omega)) ?_
  rw [w64 (by omega) (by omega), Int.zero_sub]
  congr 1
  have d := div_in (-(H * w)) (b := W) (by omega)
  refine (div_is (by omega) ?_ ?_).symm
  · rw [Int.neg_mul]; omega
  · rw [Int.neg_mul]; omega
theorem hgt_r (s : Int) : glyphicref20_Height_v1.f W H s w = some (hgt W H w) := by
  have b := mul_bd (M := 4096) (N := 16384) (x := H) (y := w) (by omega) (by omega) (by omega) (by omega)
  have b0 : 1 ≤ H * w := by have := Int.mul_le_mul H1 w1 (by omega) (by omega); omega
  unfold glyphicref20_Height_v1.f hgt
  have hd := div_bd (H * w + W - 1) (b := W) (by omega)
  rw [if_neg (by omega), w64 (n := H * w) (by omega) (by omega), w64 (n := H * w + W) (by omega) (by omega), w64 (n := H * w + W - 1) (by omega) (by omega)]
  have e : Int.tdiv (H * w + W - 1) W = (H * w + W - 1) / W := by rw [Int.tdiv_eq_ediv, if_pos (Or.inl (by omega))]; omega
  rw [e, w64 (by omega) (by omega)]
end
/-- A width's error: its code; the document's number of it. -/
theorem check_f {W H : Int} (W1 : 1 ≤ W) (W2 : W ≤ 4096) (H1 : 1 ≤ H) (H2 : H ≤ 4096) (s w : Int) : ∃ e c, scale_Check_v2.f W H s w = some e ∧ glyphicref20_Check_v1.f W H s w = some c ∧ ((e = 0 ∧ c = 0 ∧ 1 ≤ w ∧ w ≤ 16384 ∧ hgt W H w ≤ 16384) ∨ (e = 1 ∧ c = 112) ∨ (e = 2 ∧ c = 113)) := by
  unfold scale_Check_v2.f glyphicref20_Check_v1.f
  by_cases h1 : w < 1
  · rw [if_pos h1, if_pos h1]
    exact ⟨1, 112, rfl, rfl, by omega⟩
  · rw [if_neg h1, if_neg h1]
    by_cases h2 : w > 16384
    · rw [if_pos h2, if_pos h2]
      exact ⟨1, 112, rfl, rfl, by omega⟩
    · rw [if_neg h2, if_neg h2]
      have e1 := hgt_s W1 W2 H1 H2 (w := w) (by omega) (by omega) s
      have e2 := hgt_r W1 W2 H1 H2 (w := w) (by omega) (by omega) s
      by_cases h3 : hgt W H w > 16384
      · exact ⟨2, 113, bind_of e1 (if_pos h3), bind_of e2 (if_pos h3), by omega⟩
      · exact ⟨0, 0, bind_of e1 (if_neg h3), bind_of e2 (if_neg h3), by omega⟩

theorem is_f {e c : Int} (h : (e = 0 ∧ c = 0) ∨ (e = 1 ∧ c = 112) ∨ (e = 2 ∧ c = 113)) : glyphicsee_Is_v1.f e c = some true := by
  rcases h with ⟨rfl, rfl⟩ | ⟨rfl, rfl⟩ | ⟨rfl, rfl⟩
  all_goals kernel_rfl
section
variable {W H s w g t : Int} (W1 : 1 ≤ W) (W2 : W ≤ 4096) (s0 : 0 ≤ s) (s6 : s ≤ 6) (w1 : 1 ≤ w) (w2 : w ≤ 16384) (hg : g ≤ 1048575) (hw : wr64 (1 + t) = w)
include W1 W2 s0 s6 w1 w2 hg hw
theorem says_l0 {nc : Int} (l0 : List Int) (L : List Cm) (hL : ∀ x ∈ L, CmdOK g nc x) (hl : L.length ≤ 1000) : ∀ (n k i : Nat), i + n = L.length → n + 1300 < k → glyphiclaw20_ScaleSays.l0 k l0 W H s L t (i : Int) = some (.inr ())
  | 0, k, i, hi, hk => by
    obtain ⟨k, rfl⟩ : ∃ m, k = m + 1 := ⟨k - 1, by omega⟩
    rw [glyphiclaw20_ScaleSays.l0, if_neg (by omega)]
  | n + 1, k, i, hi, hk => by
    obtain ⟨k, rfl⟩ : ∃ m, k = m + 1 := ⟨k - 1, by omega⟩
    have hlt : i < L.length := by omega
    have ok := hL _ (List.getElem_mem hlt)
    have ih := says_l0 l0 L hL hl n k (i + 1) (by omega) (by omega)
    have h1 := cmd_f W1 W2 s0 s6 w1 w2 hg H L[i] ok k (by omega)
    have h2 := ref_cmd_f W1 W2 s0 s6 w1 w2 hg H L[i] ok k (by omega)
    have hget := lgt_nat hlt
    rw [glyphiclaw20_ScaleSays.l0, if_pos (by omega), hw]
    generalize L[i] = q at *
    have n3 := ok.n3
    have h3 := scmd_refl (scCmd W s w q) k (by omega) (by simp [scCmd]; omega) (by
      intro p hp
      simp only [scCmd, List.mem_map] at hp
      obtain ⟨u, hu, rfl⟩ := hp
      have := (ok.p u hu).1.l4
      simp [scPath]
      omega)
    refine bind_of hget (bind_of h1 (bind_of hget (bind_of h2 (bind_of h3 ?_))))
    rw [if_pos rfl, wnat (by omega)]
    exact ih
end
theorem ScaleSays : glyphiclaw20_ScaleSays.Pure := by
  intro l0 raw1 w2 v3 _ _ _
  refine ⟨3000, ?_⟩
  unfold glyphiclaw20_ScaleSays.f
  refine bind_of (show glyphiclaw20_first.f = some true from rfl) ?_
  rw [if_pos rfl]
  by_cases hl : (l0.length : Int) > 250
  · rw [if_pos hl]
  · rw [if_neg hl]
    obtain ⟨W, H, s, Z, C, at', hi, far, ok⟩ := icon_f l0 3000 (by omega)
    have W1 := ok.w1
    have W2 : W ≤ 4096 := by have := ok.w2; omega
    have H1 := ok.h1
    have H2 : H ≤ 4096 := by have := ok.h2; omega
    obtain ⟨e, c, h1, h2, h3⟩ := check_f W1 W2 H1 H2 s raw1
    obtain ⟨t, ht, t0, t1⟩ := number_f (n := w2) (b := 600) (by omega) (by omega)
    have n4 := ok.n
    have hw : wr64 (1 + t) = 1 + t := w64 (by omega) (by omega)
    have h4 := says_l0 (H := H) (t := t) (w := 1 + t) W1 W2 ok.s0 ok.s6 (by omega) (by omega) (g := far) (by have := ok.f2; omega) hw l0 Z ok.z (by omega) Z.length 3000 0 (by omega) (by omega)
    refine bind_of hi (bind_of h1 (bind_of h2 (bind_of (is_f (by omega)) ?_)))
    rw [if_pos rfl]
    refine bind_of ht (bind_of h4 ?_)
    dsimp only
    rw [hw]
    refine bind_of (hgt_s W1 W2 H1 H2 (by omega) (by omega) s) (bind_of (hgt_r W1 W2 H1 H2 (by omega) (by omega) s) ?_)
    rw [if_pos rfl]
    have hv := tmod_in v3 (b := 1048576) (by omega)
    have bv : Bd 1048576 (Int.tmod v3 1048576) := ⟨by omega, by omega⟩
    refine bind_of (at_g W1 W2 ok.s0 ok.s6 (by omega) (by omega) H bv) (bind_of (at_r W1 W2 ok.s0 ok.s6 (by omega) (by omega) H bv) ?_)
    simp

end Go.Proofs.YtiaigehjogpcaaaDoor.Pure
