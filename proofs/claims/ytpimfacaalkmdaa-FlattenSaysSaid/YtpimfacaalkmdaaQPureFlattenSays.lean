/- the plain law of FlattenSays -/
import Derived.Test.YtpimfacaalkmdaaQFlattenSaysx3
import Derived.OpenShut
namespace Go.Proofs.Ytpimfacaalkmdaa.Pure
open Go Go.RowKit Go.Proofs.Ytpimfacaalkmdaa.QFlattenSays Go.Proofs.YtpimfacaalkmdaaE
set_option linter.unusedVariables false

theorem bind_of {α β : Type} {o : Option α} {f : α → Option β} {x : α} {r : Option β} (h : o = some x) (h2 : f x = r) : o.bind f = r := by
  subst h
  exact h2

theorem div_is {a b q : Int} (hb : 0 < b) (h1 : q * b ≤ a) (h2 : a < q * b + b) : a / b = q := by
  apply Int.le_antisymm
  · exact Int.lt_add_one_iff.1 (Int.ediv_lt_of_lt_mul hb (by rw [Int.add_mul, Int.one_mul]; exact h2))
  · exact Int.le_ediv_of_mul_le hb h1

theorem div_in (a : Int) {b : Int} (hb : 0 < b) : a / b * b ≤ a ∧ a < a / b * b + b := by
  have h1 := Int.mul_ediv_add_emod a b
  have h2 := Int.emod_nonneg a (Int.ne_of_gt hb)
  have h3 := Int.emod_lt_of_pos a hb
  rw [Int.mul_comm] at h1
  omega

theorem div_bd (a : Int) {b : Int} (hb : 0 < b) : (0 ≤ a → 0 ≤ a / b ∧ a / b ≤ a) ∧ (a < 0 → a ≤ a / b ∧ a / b < 0) := by
  obtain ⟨h1, h2⟩ := div_in a hb
  refine ⟨fun h => ⟨Int.ediv_nonneg h (by omega), Int.ediv_le_self _ h⟩, fun h => ⟨?_, Int.ediv_neg_of_neg_of_pos h hb⟩⟩
  exact Int.le_ediv_of_mul_le hb (by
    have : a * b ≤ a * 1 := Int.mul_le_mul_of_nonpos_left (by omega) (by omega)
    omega)

theorem tmod_in (a : Int) {b : Int} (hb : 0 < b) : -b < Int.tmod a b ∧ Int.tmod a b < b := by
  rw [Int.tmod_eq_emod]
  have h2 := Int.emod_nonneg a (show b ≠ 0 by omega)
  have h3 := Int.emod_lt_of_pos a hb
  split
  · omega
  · have : ((b.natAbs : Nat) : Int) = b := by omega
    rename_i h
    have hne : a % b ≠ 0 := fun h0 => h (Or.inr (Int.dvd_of_emod_eq_zero h0))
    omega

theorem tmod_pos {a b : Int} (ha : 0 ≤ a) : Int.tmod a b = a % b := by
  rw [Int.tmod_eq_emod, if_pos (Or.inl ha)]; omega

theorem cyc (a : Int) {b : Int} (hb : 0 < b) (hb1 : b ≤ 4611686018427387903) : ∃ s, Int.tmod (wr64 (Int.tmod a b + b)) b = s ∧ 0 ≤ s ∧ s < b := by
  have h := tmod_in a hb
  refine ⟨_, rfl, ?_⟩
  rw [w64 (by omega) (by omega), tmod_pos (by omega)]
  exact ⟨Int.emod_nonneg _ (by omega), Int.emod_lt_of_pos _ hb⟩

/-- The nearest of a part, of two the greater. -/
def rnd (a b : Int) : Int := (2 * a + b) / (2 * b)

theorem rnd_is {a b q : Int} (hb : 0 < b) (h1 : 2 * (q * b) ≤ 2 * a + b) (h2 : 2 * a < 2 * (q * b) + b) : rnd a b = q := by
  unfold rnd
  apply div_is (by omega)
  · rw [Int.mul_left_comm]; omega
  · rw [Int.mul_left_comm]; omega

theorem rnd_in (a : Int) {b : Int} (hb : 0 < b) : 2 * (rnd a b * b) ≤ 2 * a + b ∧ 2 * a < 2 * (rnd a b * b) + b := by
  unfold rnd
  obtain ⟨h1, h2⟩ := div_in (2 * a + b) (b := 2 * b) (by omega)
  rw [Int.mul_left_comm] at h1 h2
  omega

theorem rnd_mono {a c b : Int} (hb : 0 < b) (h : a ≤ c) : rnd a b ≤ rnd c b := by
  unfold rnd
  exact Int.ediv_le_ediv (by omega) (by omega)

theorem down_f {a b : Int} (hb : 1 ≤ b) (ha0 : -9223372036854775808 ≤ a) (ha1 : a ≤ 9223372036854775807) : fixed_Down.f a b = some (a / b) := by
  unfold fixed_Down.f
  rw [if_neg (by omega), if_neg (by omega)]
  have hbd := div_bd a (b := b) (by omega)
  by_cases h : 0 ≤ a ∨ b ∣ a
  · have e1 : Int.tdiv a b = a / b := by rw [Int.tdiv_eq_ediv, if_pos h]; omega
    have e2 : Int.tmod a b = a % b := by rw [Int.tmod_eq_emod, if_pos h]; omega
    have h2 := Int.emod_nonneg a (show b ≠ 0 by omega)
    rw [e1, e2, if_neg (by omega), w64 (by omega) (by omega)]
  · have e1 : Int.tdiv a b = a / b + 1 := by rw [Int.tdiv_eq_ediv, if_neg h, Int.sign_eq_one_of_pos (by omega)]
    have e2 : Int.tmod a b = a % b - b := by rw [Int.tmod_eq_emod, if_neg h]; omega
    have h3 := Int.emod_lt_of_pos a (show 0 < b by omega)
    rw [e1, e2, if_pos (by omega), w64 (n := a / b + 1) (by omega) (by omega), w64 (by omega) (by omega)]
    congr 1
    omega

theorem round_f {a b : Int} (hb : 1 ≤ b) (hb1 : b ≤ 9223372036854775807) (ha0 : -9223372036854775808 ≤ a) (ha1 : a ≤ 9223372036854775807) : fixed_Round.f a b = some (rnd a b) := by
  unfold fixed_Round.f
  rw [if_neg (by omega), down_f hb ha0 ha1]
  simp only [Option.bind_some]
  obtain ⟨h1, h2⟩ := div_in a (b := b) (by omega)
  have hbd := div_bd a (b := b) (by omega)
  have e : wr64 (a - wr64 (a / b * b)) = a - a / b * b := by
    simp only [wr64_eq]
    omega
  rw [e, w64 (n := b - (a - a / b * b)) (by omega) (by omega)]
  by_cases h : a - a / b * b ≥ b - (a - a / b * b)
  · rw [if_pos h]
    have h3 : a / b + 1 ≤ 9223372036854775807 := by
      by_cases hq : a / b < 9223372036854775807
      · omega
      · by_cases h1b : b = 1
        · subst h1b; omega
        · have : a / b * 2 ≤ a / b * b := Int.mul_le_mul_of_nonneg_left (by omega) (by omega)
          omega
    rw [w64 (by omega) h3, rnd_is (q := a / b + 1) (by omega)]
    · rw [Int.add_mul]; omega
    · rw [Int.add_mul]; omega
  · rw [if_neg h, rnd_is (q := a / b) (by omega)]
    · omega
    · omega

theorem rnd_near (a : Int) {b : Int} (hb : 0 < b) : rnd a b = a / b ∨ rnd a b = a / b + 1 := by
  obtain ⟨h1, h2⟩ := div_in a hb
  by_cases h : 2 * (a - a / b * b) < b
  · left
    exact rnd_is hb (by omega) (by omega)
  · right
    exact rnd_is hb (by rw [Int.add_mul]; omega) (by rw [Int.add_mul]; omega)

theorem rnd_next (a : Int) {b : Int} (hb : 0 < b) : rnd (a + b) b = rnd a b + 1 := by
  obtain ⟨h1, h2⟩ := rnd_in a hb
  exact rnd_is hb (by rw [Int.add_mul]; omega) (by rw [Int.add_mul]; omega)

theorem mul_bd {x y M N : Int} (hx0 : -M ≤ x) (hx1 : x ≤ M) (hy0 : -N ≤ y) (hy1 : y ≤ N) : -(M * N) ≤ x * y ∧ x * y ≤ M * N := by
  have h : (x * y).natAbs ≤ M.toNat * N.toNat := by
    rw [Int.natAbs_mul]
    exact Nat.mul_le_mul (by omega) (by omega)
  have e : ((M.toNat * N.toNat : Nat) : Int) = M * N := by
    rw [Int.natCast_mul, Int.toNat_of_nonneg (by omega), Int.toNat_of_nonneg (by omega)]
  omega

theorem lgt_ex {T : Type} {L : List T} {i : Int} (h0 : 0 ≤ i) (h1 : i < L.length) : ∃ x, lgt L i = some x := by
  unfold lgt
  rw [if_neg (by omega)]
  exact ⟨L[i.toNat]'(by omega), List.getElem?_eq_getElem (by omega)⟩

theorem number_f {n b : Int} (hb : 0 < b) (hb1 : b ≤ 4611686018427387903) : ∃ v, glyphicworld_Number.f n b = some v ∧ 0 ≤ v ∧ v < b := by
  unfold glyphicworld_Number.f
  rw [if_neg (by omega)]
  have h := tmod_in n hb
  by_cases c : Int.tmod n b < 0
  · rw [if_pos c, w64 (by omega) (by omega)]
    exact ⟨_, rfl, by omega, by omega⟩
  · rw [if_neg c]
    exact ⟨_, rfl, by omega, by omega⟩

theorem next_f {b at_ : Int} (L : List Int) (hb : 0 < b) (hb1 : b ≤ 4611686018427387903) (h0 : 0 ≤ at_) (h1 : at_ ≤ 1000000000) : ∃ v, glyphicmake_Seq_Next_v1.f b L at_ = some (v, at_ + 1) ∧ 0 ≤ v ∧ v < b := by
  unfold glyphicmake_Seq_Next_v1.f
  have e : wr64 (at_ + 1) = at_ + 1 := w64 (by omega) (by omega)
  rw [e]
  by_cases c : at_ < (L.length : Int)
  · obtain ⟨x, hx⟩ := lgt_ex h0 c
    obtain ⟨v, hv, v0, v1⟩ := number_f (n := x) hb hb1
    rw [if_pos c]
    exact ⟨v, bind_of (bind_of hx rfl) (bind_of hv rfl), v0, v1⟩
  · obtain ⟨v, hv, v0, v1⟩ := number_f (n := 0) hb hb1
    rw [if_neg c]
    exact ⟨v, bind_of rfl (bind_of hv rfl), v0, v1⟩

theorem point_f {far at_ : Int} (L : List Int) (hb : 0 ≤ far) (hb1 : far ≤ 1000000000000000) (h0 : 0 ≤ at_) (h1 : at_ ≤ 999999999) : ∃ x y, glyphicmake_Point_v1.f far L at_ = some (x, y, at_ + 2) ∧ (-far ≤ x ∧ x ≤ far) ∧ -far ≤ y ∧ y ≤ far := by
  unfold glyphicmake_Point_v1.f
  have e : wr64 (wr64 (2 * far) + 1) = 2 * far + 1 := by
    rw [w64 (n := 2 * far) (by omega) (by omega), w64 (by omega) (by omega)]
  rw [e]
  obtain ⟨u, hu, u0, u1⟩ := next_f (b := 2 * far + 1) L (by omega) (by omega) h0 (by omega)
  obtain ⟨v, hv, v0, v1⟩ := next_f (b := 2 * far + 1) L (by omega) (by omega) (show 0 ≤ at_ + 1 by omega) (by omega)
  refine ⟨u - far, v - far, bind_of hu (bind_of hv ?_), by omega, by omega⟩
  dsimp only
  rw [w64 (n := u - far) (by omega) (by omega), w64 (n := v - far) (by omega) (by omega), show at_ + 1 + 1 = at_ + 2 by omega]

theorem lgt_nat {T : Type} {L : List T} {i : Nat} (h : i < L.length) : lgt L (i : Int) = some L[i] := by
  unfold lgt
  rw [if_neg (by omega), Int.toNat_natCast, List.getElem?_eq_getElem h]
theorem lapp_ok {T : Type} {L X : List T} (h : L.length + X.length ≤ 4294967296) : lapp L X = some (L ++ X) := by
  unfold lapp
  rw [if_pos h]
theorem wnat {i : Nat} (h : i ≤ 1000000000000) : wr64 ((i : Int) + 1) = ((i + 1 : Nat) : Int) := by
  rw [w64 (by omega) (by omega)]
  omega

def bd (a b c : Int) : Int := (a - 2 * b + c).natAbs
theorem bd_le {a b c : Int} (a0 : -16777217 < a) (a1 : a < 16777217) (b0 : -16777217 < b) (b1 : b < 16777217) (c0 : -16777217 < c) (c1 : c < 16777217) : 0 ≤ bd a b c ∧ bd a b c ≤ 67108864 := by
  unfold bd
  omega
theorem wsum {a b c : Int} (a0 : -16777217 < a) (a1 : a < 16777217) (b0 : -16777217 < b) (b1 : b < 16777217) (c0 : -16777217 < c) (c1 : c < 16777217) : wr64 (wr64 (a - wr64 (2 * b)) + c) = a - 2 * b + c := by
  rw [w64 (n := 2 * b) (by omega) (by omega), w64 (n := a - 2 * b) (by omega) (by omega), w64 (by omega) (by omega)]
theorem bend_f {ax ay bx by_ cx cy : Int} (h1 : -16777217 < ax) (h2 : ax < 16777217) (h3 : -16777217 < ay) (h4 : ay < 16777217) (h5 : -16777217 < bx) (h6 : bx < 16777217) (h7 : -16777217 < by_) (h8 : by_ < 16777217) (h9 : -16777217 < cx) (h10 : cx < 16777217) (h11 : -16777217 < cy) (h12 : cy < 16777217) :
    flatten_bend.f ax ay bx by_ cx cy = some (bd ax bx cx + bd ay by_ cy) := by
  unfold flatten_bend.f
  rw [wsum h1 h2 h5 h6 h9 h10, wsum h3 h4 h7 h8 h11 h12]
  unfold bd mx
  generalize hx : ax - 2 * bx + cx = x
  generalize hy : ay - 2 * by_ + cy = y
  have x0 : -67108868 ≤ x ∧ x ≤ 67108868 := by omega
  have y0 : -67108868 ≤ y ∧ y ≤ 67108868 := by omega
  clear hx hy
  rw [w64 (n := 0 - x) (by omega) (by omega), w64 (n := 0 - y) (by omega) (by omega)]
  split <;> split <;> (rw [w64 (by omega) (by omega)]; congr 1; omega)

/-- The first of the powers of two that is enough. -/
theorem count_go {far : Int} (f0 : 0 ≤ far) (f1 : far ≤ 402653184) : ∃ n : Int, flatten_Count.l0 20 far 1 = some n ∧ 1 ≤ n ∧ n ≤ 8192 ∧ bits .and .i64 n (wr64 (n - 1)) = 0 ∧ far ≤ 32 * n * n ∧ (n = 1 ∨ far > 8 * n * n) := by
  have stop : ∀ (k : Nat) (n : Int), 1 ≤ n → n ≤ 8192 → far ≤ 32 * n * n → flatten_Count.l0 (k + 1) far n = some n := by
    intro k n h1 h2 h3
    have h4 : 32 * n * n ≤ 32 * n * 8192 := Int.mul_le_mul_of_nonneg_left h2 (by omega)
    have h5 : 0 ≤ 32 * n * n := Int.mul_nonneg (by omega) (by omega)
    rw [flatten_Count.l0, w64 (n := 32 * n) (by omega) (by omega), w64 (n := 32 * n * n) (by omega) (by omega), if_neg (by omega)]
  have go : ∀ (k : Nat) (n : Int), 1 ≤ n → n ≤ 8192 → ¬ far ≤ 32 * n * n → flatten_Count.l0 (k + 1) far n = flatten_Count.l0 k far (2 * n) := by
    intro k n h1 h2 h3
    have h4 : 32 * n * n ≤ 32 * n * 8192 := Int.mul_le_mul_of_nonneg_left h2 (by omega)
    have h5 : 0 ≤ 32 * n * n := Int.mul_nonneg (by omega) (by omega)
    rw [flatten_Count.l0, w64 (n := 32 * n) (by omega) (by omega), w64 (n := 32 * n * n) (by omega) (by omega), if_pos (by omega), w64 (n := n * 2) (by omega) (by omega), Int.mul_comm n 2]
  by_cases c0 : far ≤ 32 * 1 * 1
  · exact ⟨1, stop 19 1 (by omega) (by omega) c0, by decide, by decide, by decide +kernel, c0, Or.inl rfl⟩
  rw [go 19 1 (by omega) (by omega) c0]
  by_cases c1 : far ≤ 32 * 2 * 2
  · exact ⟨2, stop 18 2 (by omega) (by omega) c1, by decide, by decide, by decide +kernel, c1, Or.inr (by omega)⟩
  rw [show (2 : Int) * 1 = 2 from rfl, go 18 2 (by omega) (by omega) c1]
  by_cases c2 : far ≤ 32 * 4 * 4
  · exact ⟨4, stop 17 4 (by omega) (by omega) c2, by decide, by decide, by decide +kernel, c2, Or.inr (by omega)⟩
  rw [show (2 : Int) * 2 = 4 from rfl, go 17 4 (by omega) (by omega) c2]
  by_cases c3 : far ≤ 32 * 8 * 8
  · exact ⟨8, stop 16 8 (by omega) (by omega) c3, by decide, by decide, by decide +kernel, c3, Or.inr (by omega)⟩
  rw [show (2 : Int) * 4 = 8 from rfl, go 16 8 (by omega) (by omega) c3]
  by_cases c4 : far ≤ 32 * 16 * 16
  · exact ⟨16, stop 15 16 (by omega) (by omega) c4, by decide, by decide, by decide +kernel, c4, Or.inr (by omega)⟩
  rw [show (2 : Int) * 8 = 16 from rfl, go 15 16 (by omega) (by omega) c4]
  by_cases c5 : far ≤ 32 * 32 * 32
  · exact ⟨32, stop 14 32 (by omega) (by omega) c5, by decide, by decide, by decide +kernel, c5, Or.inr (by omega)⟩
  rw [show (2 : Int) * 16 = 32 from rfl, go 14 32 (by omega) (by omega) c5]
  by_cases c6 : far ≤ 32 * 64 * 64
  · exact ⟨64, stop 13 64 (by omega) (by omega) c6, by decide, by decide, by decide +kernel, c6, Or.inr (by omega)⟩
  rw [show (2 : Int) * 32 = 64 from rfl, go 13 64 (by omega) (by omega) c6]
  by_cases c7 : far ≤ 32 * 128 * 128
  · exact ⟨128, stop 12 128 (by omega) (by omega) c7, by decide, by decide, by decide +kernel, c7, Or.inr (by omega)⟩
  rw [show (2 : Int) * 64 = 128 from rfl, go 12 128 (by omega) (by omega) c7]
  by_cases c8 : far ≤ 32 * 256 * 256
  · exact ⟨256, stop 11 256 (by omega) (by omega) c8, by decide, by decide, by decide +kernel, c8, Or.inr (by omega)⟩
  rw [show (2 : Int) * 128 = 256 from rfl, go 11 256 (by omega) (by omega) c8]
  by_cases c9 : far ≤ 32 * 512 * 512
  · exact ⟨512, stop 10 512 (by omega) (by omega) c9, by decide, by decide, by decide +kernel, c9, Or.inr (by omega)⟩
  rw [show (2 : Int) * 256 = 512 from rfl, go 10 512 (by omega) (by omega) c9]
  by_cases c10 : far ≤ 32 * 1024 * 1024
  · exact ⟨1024, stop 9 1024 (by omega) (by omega) c10, by decide, by decide, by decide +kernel, c10, Or.inr (by omega)⟩
  rw [show (2 : Int) * 512 = 1024 from rfl, go 9 1024 (by omega) (by omega) c10]
  by_cases c11 : far ≤ 32 * 2048 * 2048
  · exact ⟨2048, stop 8 2048 (by omega) (by omega) c11, by decide, by decide, by decide +kernel, c11, Or.inr (by omega)⟩
  rw [show (2 : Int) * 1024 = 2048 from rfl, go 8 2048 (by omega) (by omega) c11]
  by_cases c12 : far ≤ 32 * 4096 * 4096
  · exact ⟨4096, stop 7 4096 (by omega) (by omega) c12, by decide, by decide, by decide +kernel, c12, Or.inr (by omega)⟩
  exact absurd c12 (by omega)

def In (a : Int) : Prop := -4194306 < a ∧ a < 4194306
theorem In.b {a : Int} (h : In a) : -16777217 < a ∧ a < 16777217 := by unfold In at h; omega
/-- A segment that is one. -/
def Sg (s : Int × Int × Int × Int × Int × Int × Int) : Prop := (1 ≤ s.1 ∧ s.1 ≤ 3) ∧ In s.2.1 ∧ In s.2.2.1 ∧ In s.2.2.2.1 ∧ In s.2.2.2.2.1 ∧ In s.2.2.2.2.2.1 ∧ In s.2.2.2.2.2.2
theorem inside_f {far at_ : Int} (l : List Int) (f0 : 0 ≤ far) (f1 : far ≤ 4194305) (h0 : 0 ≤ at_) (h1 : at_ ≤ 900000000) : ∃ x y at', glyphicmake_inside_v1.f far l at_ = some (x, y, at') ∧ In x ∧ In y ∧ at_ ≤ at' ∧ at' ≤ at_ + 3 := by
  obtain ⟨v, hv, _, _⟩ := next_f (b := 12) l (by omega) (by omega) h0 (by omega)
  unfold glyphicmake_inside_v1.f
  by_cases c : v = 0
  · obtain ⟨x, y, hp, p1, p2⟩ := point_f (far := far) (at_ := at_ + 1) l f0 (by omega) (by omega) (by omega)
    refine ⟨x, y, at_ + 1 + 2, bind_of hv ?_, by unfold In; omega, by unfold In; omega, by omega, by omega⟩
    dsimp only
    rw [if_pos c]
    exact bind_of hp rfl
  · obtain ⟨x, hx, x0, x1⟩ := next_f (b := far + 1) l (by omega) (by omega) (show 0 ≤ at_ + 1 by omega) (by omega)
    obtain ⟨y, hy, y0, y1⟩ := next_f (b := far + 1) l (by omega) (by omega) (show 0 ≤ at_ + 1 + 1 by omega) (by omega)
    refine ⟨x, y, at_ + 1 + 1 + 1, bind_of hv ?_, by unfold In; omega, by unfold In; omega, by omega, by omega⟩
    dsimp only
    rw [if_neg c, w64 (n := far + 1) (by omega) (by omega)]
    exact bind_of hx (bind_of hy rfl)
theorem in0 : In 0 := by unfold In; omega
theorem seg_l {far : Int} (l : List Int) (f0 : 0 ≤ far) (f1 : far ≤ 4194305) {t : Int} (t0 : 0 ≤ t) (t1 : t < 3) : ∀ (n i k : Nat) (a b c d e f at_ : Int), 1 + t - i = n → n < k → In a → In b → In c → In d → In e → In f → 0 ≤ at_ → at_ ≤ 800000000 + 3 * i →
    ∃ a' b' c' d' e' f' at', glyphicmake_Path_v1.l1 k far l t i a b c d e f at_ = some (1 + t, a', b', c', d', e', f', at') ∧ In a' ∧ In b' ∧ In c' ∧ In d' ∧ In e' ∧ In f' ∧ at_ ≤ at' ∧ at' ≤ at_ + 3 * n
  | 0, i, k, a, b, c, d, e, f, at_, hn, hk, ha, hb, hc, hd, he, hf, h0, h1 => by
    obtain ⟨k, rfl⟩ : ∃ m, k = m + 1 := ⟨k - 1, by omega⟩
    refine ⟨a, b, c, d, e, f, at_, ?_, ha, hb, hc, hd, he, hf, by omega, by omega⟩
    rw [glyphicmake_Path_v1.l1, w64 (n := 1 + t) (by omega) (by omega), if_neg (by omega)]
  | n + 1, i, k, a, b, c, d, e, f, at_, hn, hk, ha, hb, hc, hd, he, hf, h0, h1 => by
    obtain ⟨k, rfl⟩ : ∃ m, k = m + 1 := ⟨k - 1, by omega⟩
    obtain ⟨x, y, at1, hp, p1, p2, g1, g2⟩ := inside_f l f0 f1 h0 (by omega)
    rw [glyphicmake_Path_v1.l1, w64 (n := 1 + t) (by omega) (by omega), if_pos (by omega)]
    rcases (show i = 0 ∨ i = 1 ∨ i = 2 by omega) with rfl | rfl | rfl
    · obtain ⟨a', b', c', d', e', f', at', h, r⟩ := seg_l l f0 f1 t0 t1 n 1 k x y c d e f at1 (by omega) (by omega) p1 p2 hc hd he hf (by omega) (by omega)
      refine ⟨a', b', c', d', e', f', at', bind_of hp ?_, r.1, r.2.1, r.2.2.1, r.2.2.2.1, r.2.2.2.2.1, r.2.2.2.2.2.1, by omega, by omega⟩
      dsimp only
      rw [if_pos (by omega), wnat (by omega)]
      exact h
    · obtain ⟨a', b', c', d', e', f', at', h, r⟩ := seg_l l f0 f1 t0 t1 n 2 k a b x y e f at1 (by omega) (by omega) ha hb p1 p2 he hf (by omega) (by omega)
      refine ⟨a', b', c', d', e', f', at', bind_of hp ?_, r.1, r.2.1, r.2.2.1, r.2.2.2.1, r.2.2.2.2.1, r.2.2.2.2.2.1, by omega, by omega⟩
      dsimp only
      rw [if_neg (by omega), if_pos (by omega), wnat (by omega)]
      exact h
    · obtain ⟨a', b', c', d', e', f', at', h, r⟩ := seg_l l f0 f1 t0 t1 n 3 k a b c d x y at1 (by omega) (by omega) ha hb hc hd p1 p2 (by omega) (by omega)
      refine ⟨a', b', c', d', e', f', at', bind_of hp ?_, r.1, r.2.1, r.2.2.1, r.2.2.2.1, r.2.2.2.2.1, r.2.2.2.2.2.1, by omega, by omega⟩
      dsimp only
      rw [if_neg (by omega), if_neg (by omega), if_pos (by omega), wnat (by omega)]
      exact h
theorem segs_l {far : Int} (l : List Int) (f0 : 0 ≤ far) (f1 : far ≤ 4194305) : ∀ (n k : Nat) (y : List (Int × Int × Int × Int × Int × Int × Int)) (at_ : Int), n + 4 < k → (∀ s ∈ y, Sg s) → y.length ≤ 100 - n → n ≤ 100 → 0 ≤ at_ → at_ + 10 * n ≤ 700000000 →
    ∃ S at', glyphicmake_Path_v1.l0 k far l n y at_ = some (S, at') ∧ (∀ s ∈ S, Sg s) ∧ S.length = y.length + n ∧ at_ ≤ at' ∧ at' ≤ at_ + 10 * n
  | 0, k, y, at_, hk, hy, hl, hn, h0, h1 => by
    obtain ⟨k, rfl⟩ : ∃ m, k = m + 1 := ⟨k - 1, by omega⟩
    refine ⟨y, at_, ?_, hy, by omega, by omega, by omega⟩
    rw [glyphicmake_Path_v1.l0, if_neg (by omega)]
  | n + 1, k, y, at_, hk, hy, hl, hn, h0, h1 => by
    obtain ⟨k, rfl⟩ : ∃ m, k = m + 1 := ⟨k - 1, by omega⟩
    obtain ⟨t, ht, t0, t1⟩ := next_f (b := 3) l (by omega) (by omega) h0 (by omega)
    obtain ⟨m, hm⟩ : ∃ m : Nat, 1 + t - (0 : Nat) = m := ⟨(1 + t).toNat, by omega⟩
    obtain ⟨a', b', c', d', e', f', at1, hs, s1, s2, s3, s4, s5, s6, g1, g2⟩ := seg_l l f0 f1 t0 t1 m 0 k 0 0 0 0 0 0 (at_ + 1) hm (by omega) in0 in0 in0 in0 in0 in0 (by omega) (by omega)
    obtain ⟨S, at', hS, hin, hlen, g3, g4⟩ := segs_l l f0 f1 n k (y ++ [(1 + t, a', b', c', d', e', f')]) at1 (by omega) (by
      intro s hs
      rcases List.mem_append.1 hs with h | h
      · exact hy s h
      · obtain rfl := List.mem_singleton.1 h
        exact ⟨⟨by dsimp only; omega, by dsimp only; omega⟩, s1, s2, s3, s4, s5, s6⟩) (by simp; omega) (by omega) (by omega) (by omega)
    refine ⟨S, at', ?_, hin, by simp at hlen; omega, by omega, by omega⟩
    rw [glyphicmake_Path_v1.l0, if_pos (by omega)]
    refine bind_of (bind_of ht (bind_of hs (bind_of (lapp_ok (by simp; omega)) rfl))) ?_
    dsimp only
    rw [show wr64 (((n + 1 : Nat) : Int) - 1) = (n : Int) by rw [w64 (by omega) (by omega)]; omega]
    exact hS
theorem path_f {far at_ : Int} (l : List Int) (f0 : 0 ≤ far) (f1 : far ≤ 4194305) (h0 : 0 ≤ at_) (h1 : at_ ≤ 600000000) (cl : Bool) (k : Nat) (hk : 10 < k) :
    ∃ x y S at', glyphicmake_Path_v1.f k far cl l at_ = some (x, y, cl, S, at') ∧ In x ∧ In y ∧ (∀ s ∈ S, Sg s) ∧ 1 ≤ S.length ∧ S.length ≤ 4 ∧ at_ ≤ at' ∧ at' ≤ at_ + 50 := by
  obtain ⟨x, y, at1, hp, p1, p2, g1, g2⟩ := inside_f l f0 f1 h0 (by omega)
  obtain ⟨t, ht, t0, t1⟩ := next_f (b := 4) l (by omega) (by omega) (show 0 ≤ at1 by omega) (by omega)
  obtain ⟨n, hn⟩ : ∃ n : Nat, 1 + t = n := ⟨(1 + t).toNat, by omega⟩
  obtain ⟨S, at', hS, hin, hlen, g3, g4⟩ := segs_l l f0 f1 n k [] (at1 + 1) (by omega) (by simp) (by simp) (by omega) (by omega) (by omega)
  refine ⟨x, y, S, at', ?_, p1, p2, hin, by simp at hlen; omega, by simp at hlen; omega, by omega, by omega⟩
  unfold glyphicmake_Path_v1.f
  refine bind_of hp (bind_of (x := (S, at')) (bind_of ht ?_) rfl)
  dsimp only
  rw [w64 (n := 1 + t) (by omega) (by omega), hn]
  exact hS
theorem device_f {far at_ : Int} (l : List Int) (f0 : 0 ≤ far) (f1 : far ≤ 4194305) (h0 : 0 ≤ at_) (h1 : at_ ≤ 500000000) (k : Nat) (hk : 10 < k) :
    ∃ x y cl S at', glyphiclaw21_device_v1.f k far l at_ = some (x, y, cl, S, at') ∧ In x ∧ In y ∧ (∀ s ∈ S, Sg s) ∧ 1 ≤ S.length ∧ S.length ≤ 4 := by
  obtain ⟨t, ht, t0, t1⟩ := next_f (b := 2) l (by omega) (by omega) h0 (by omega)
  obtain ⟨x, y, S, at', hp, p1, p2, p3, p4, p5, _⟩ := path_f l f0 f1 (show 0 ≤ at_ + 1 by omega) (by omega) (t == 0) k hk
  exact ⟨x, y, _, S, at', bind_of ht (bind_of hp rfl), p1, p2, p3, p4, p5⟩

theorem count_mono : ∀ (k : Nat) (far n r : Int), flatten_Count.l0 k far n = some r → flatten_Count.l0 (k + 1) far n = some r
  | 0, far, n, r, h => by rw [flatten_Count.l0] at h; cases h
  | k + 1, far, n, r, h => by
    rw [flatten_Count.l0] at h ⊢
    by_cases c : far > wr64 (wr64 (32 * n) * n)
    · rw [if_pos c] at h ⊢
      exact count_mono k _ _ _ h
    · rw [if_neg c] at h ⊢
      exact h
theorem count_le {far n r : Int} {k : Nat} (h : flatten_Count.l0 20 far n = some r) (hk : 20 ≤ k) : flatten_Count.l0 k far n = some r := by
  obtain ⟨j, rfl⟩ : ∃ j, k = 20 + j := ⟨k - 20, by omega⟩
  clear hk
  induction j with
  | zero => exact h
  | succ j ih => exact count_mono _ _ _ _ ih
theorem bd_in {a b c : Int} (ha : In a) (hb : In b) (hc : In c) : 0 ≤ bd a b c ∧ bd a b c ≤ 16777224 := by
  unfold In at *
  unfold bd
  omega
theorem count_s {far : Int} (f0 : 0 ≤ far) (f1 : far ≤ 100663344) (k : Nat) (hk : 20 ≤ k) : ∃ n : Int, flatten_Count.l0 k far 1 = some n ∧ 1 ≤ n ∧ n ≤ 3600 := by
  obtain ⟨n, h, n0, n1, _, _, hor⟩ := count_go f0 (by omega)
  refine ⟨n, count_le h hk, n0, ?_⟩
  rcases hor with h | h
  · omega
  · by_cases c : n ≤ 3600
    · exact c
    · have : 8 * 3600 * 3600 ≤ 8 * n * n := Int.mul_le_mul (by omega) (by omega) (by omega) (by omega)
      omega
/-- What a segment bends. -/
def far (ax ay : Int) (s : Int × Int × Int × Int × Int × Int × Int) : Int := if s.1 = 2 then bd ax s.2.1 s.2.2.2.1 + bd ay s.2.2.1 s.2.2.2.2.1 else if s.1 = 3 then 3 * mx (bd ax s.2.1 s.2.2.2.1 + bd ay s.2.2.1 s.2.2.2.2.1) (bd s.2.1 s.2.2.2.1 s.2.2.2.2.2.1 + bd s.2.2.1 s.2.2.2.2.1 s.2.2.2.2.2.2) else 0
theorem far_in {ax ay : Int} {s : Int × Int × Int × Int × Int × Int × Int} (ha : In ax) (hb : In ay) (hs : Sg s) : 0 ≤ far ax ay s ∧ far ax ay s ≤ 100663344 := by
  obtain ⟨_, s1, s2, s3, s4, s5, s6⟩ := hs
  have b1 := bd_in ha s1 s3
  have b2 := bd_in hb s2 s4
  have b3 := bd_in s1 s3 s5
  have b4 := bd_in s2 s4 s6
  unfold far mx
  split
  · omega
  · split
    · split <;> omega
    · omega
theorem count_f {ax ay : Int} {s : Int × Int × Int × Int × Int × Int × Int} (ha : In ax) (hb : In ay) (hs : Sg s) (k : Nat) : flatten_Count.f k ax ay s.1 s.2.1 s.2.2.1 s.2.2.2.1 s.2.2.2.2.1 s.2.2.2.2.2.1 s.2.2.2.2.2.2 = flatten_Count.l0 k (far ax ay s) 1 := by
  have hfar := far_in ha hb hs
  obtain ⟨hk, s1, s2, s3, s4, s5, s6⟩ := hs
  have b1 := bend_f ha.b.1 ha.b.2 hb.b.1 hb.b.2 s1.b.1 s1.b.2 s2.b.1 s2.b.2 s3.b.1 s3.b.2 s4.b.1 s4.b.2
  have b2 := bend_f s1.b.1 s1.b.2 s2.b.1 s2.b.2 s3.b.1 s3.b.2 s4.b.1 s4.b.2 s5.b.1 s5.b.2 s6.b.1 s6.b.2
  have tail : ∀ v : Int, ((some (.inr v) : Option (Int ⊕ Int)).bind fun s_ => match s_ with | .inl q330 => some q330 | .inr x321 => ((flatten_Count.l0 k x321 1 : Option (Int)).bind fun x329 => (some x329))) = flatten_Count.l0 k v 1 := by
    intro v
    simp only [Option.bind_some]
    cases flatten_Count.l0 k v 1 <;> rfl
  unfold flatten_Count.f
  unfold far at hfar ⊢
  rcases (show s.1 = 1 ∨ s.1 = 2 ∨ s.1 = 3 by omega) with h | h | h
  · rw [h, if_pos rfl, if_neg (by omega), if_neg (by omega)]
    exact tail 0
  · rw [h] at hfar ⊢
    rw [if_neg (by omega), if_pos rfl, if_pos rfl, b1]
    exact tail _
  · rw [h] at hfar ⊢
    rw [if_neg (by omega), if_pos rfl] at hfar
    rw [if_neg (by omega), if_neg (by omega), if_pos rfl, if_neg (by omega), if_pos rfl, b1, b2]
    simp only [Option.bind_some]
    rw [w64 (n := 3 * mx _ _) (by omega) (by omega)]
    cases flatten_Count.l0 k _ 1 <;> rfl
theorem down_tot (a b : Int) : ∃ v, fixed_Down.f a b = some v := by
  unfold fixed_Down.f
  by_cases h : b < 1
  · rw [if_pos h]; exact ⟨_, rfl⟩
  · rw [if_neg h, if_neg (by omega)]
    split <;> exact ⟨_, rfl⟩
theorem round_tot (a b : Int) : ∃ v, fixed_Round.f a b = some v := by
  unfold fixed_Round.f
  by_cases h : b < 1
  · rw [if_pos h]; exact ⟨_, rfl⟩
  · rw [if_neg h]
    obtain ⟨v, hv⟩ := down_tot a b
    rw [hv]
    simp only [Option.bind_some]
    split <;> exact ⟨_, rfl⟩

/-- A curve's point. -/
def pt (s : Int × Int × Int × Int × Int × Int × Int) (ax ay i n : Int) : Option (Int × Int) :=
  if s.1 = 1 then flatten_Point_v2.f ax ay s.2.1 s.2.2.1 s.2.2.2.1 s.2.2.2.2.1 s.2.2.2.2.2.1 s.2.2.2.2.2.2 i n
  else if s.1 = 2 then flatten_Point_v3.f ax ay s.2.1 s.2.2.1 s.2.2.2.1 s.2.2.2.2.1 s.2.2.2.2.2.1 s.2.2.2.2.2.2 i n
  else if s.1 = 3 then flatten_Point_v4.f ax ay s.2.1 s.2.2.1 s.2.2.2.1 s.2.2.2.2.1 s.2.2.2.2.2.1 s.2.2.2.2.2.2 i n
  else none
/-- A segment's last point. -/
def lastP (s : Int × Int × Int × Int × Int × Int × Int) : Int × Int := if s.1 = 1 then (s.2.1, s.2.2.1) else if s.1 = 2 then (s.2.2.2.1, s.2.2.2.2.1) else (s.2.2.2.2.2.1, s.2.2.2.2.2.2)
theorem lastP_in {s : Int × Int × Int × Int × Int × Int × Int} (hs : Sg s) : In (lastP s).1 ∧ In (lastP s).2 := by
  obtain ⟨hk, s1, s2, s3, s4, s5, s6⟩ := hs
  unfold lastP
  split
  · exact ⟨s1, s2⟩
  · split
    · exact ⟨s3, s4⟩
    · exact ⟨s5, s6⟩
theorem pt_tot {s : Int × Int × Int × Int × Int × Int × Int} (hs : Sg s) (ax ay i n : Int) : ∃ x y, pt s ax ay i n = some (x, y) := by
  have hk := hs.1
  unfold pt
  rcases (show s.1 = 1 ∨ s.1 = 2 ∨ s.1 = 3 by omega) with h | h | h
  · rw [if_pos h]
    unfold flatten_Point_v2.f flatten_mix_v3.f flatten_points_v2.f
    obtain ⟨u, hu⟩ := round_tot (wr64 ((wr64 ((wr64 (n - i)) * ax)) + (wr64 (i * s.2.1)))) n
    obtain ⟨v, hv⟩ := round_tot (wr64 ((wr64 ((wr64 (n - i)) * ay)) + (wr64 (i * s.2.2.1)))) n
    exact ⟨u, v, bind_of rfl (bind_of (bind_of hu rfl) (bind_of (bind_of hv rfl) rfl))⟩
  · rw [if_neg (by omega), if_pos h]
    unfold flatten_Point_v3.f flatten_mix_v4.f flatten_points_v3.f
    obtain ⟨u, hu⟩ := round_tot (wr64 ((wr64 ((wr64 ((wr64 ((wr64 (n - i)) * (wr64 (n - i)))) * ax)) + (wr64 ((wr64 ((wr64 (2 * i)) * (wr64 (n - i)))) * s.2.1)))) + (wr64 ((wr64 (i * i)) * s.2.2.2.1)))) (wr64 (n * n))
    obtain ⟨v, hv⟩ := round_tot (wr64 ((wr64 ((wr64 ((wr64 ((wr64 (n - i)) * (wr64 (n - i)))) * ay)) + (wr64 ((wr64 ((wr64 (2 * i)) * (wr64 (n - i)))) * s.2.2.1)))) + (wr64 ((wr64 (i * i)) * s.2.2.2.2.1)))) (wr64 (n * n))
    exact ⟨u, v, bind_of rfl (bind_of (bind_of hu rfl) (bind_of (bind_of hv rfl) rfl))⟩
  · rw [if_neg (by omega), if_neg (by omega), if_pos h]
    unfold flatten_Point_v4.f flatten_mix_v5.f flatten_points_v4.f
    obtain ⟨u, hu⟩ := round_tot (wr64 ((wr64 ((wr64 ((wr64 ((wr64 ((wr64 ((wr64 (n - i)) * (wr64 (n - i)))) * (wr64 (n - i)))) * ax)) + (wr64 ((wr64 ((wr64 ((wr64 (3 * i)) * (wr64 (n - i)))) * (wr64 (n - i)))) * s.2.1)))) + (wr64 ((wr64 ((wr64 ((wr64 (3 * i)) * i)) * (wr64 (n - i)))) * s.2.2.2.1)))) + (wr64 ((wr64 ((wr64 (i * i)) * i)) * s.2.2.2.2.2.1)))) (wr64 ((wr64 (n * n)) * n))
    obtain ⟨v, hv⟩ := round_tot (wr64 ((wr64 ((wr64 ((wr64 ((wr64 ((wr64 ((wr64 (n - i)) * (wr64 (n - i)))) * (wr64 (n - i)))) * ay)) + (wr64 ((wr64 ((wr64 ((wr64 (3 * i)) * (wr64 (n - i)))) * (wr64 (n - i)))) * s.2.2.1)))) + (wr64 ((wr64 ((wr64 ((wr64 (3 * i)) * i)) * (wr64 (n - i)))) * s.2.2.2.2.1)))) + (wr64 ((wr64 ((wr64 (i * i)) * i)) * s.2.2.2.2.2.2)))) (wr64 ((wr64 (n * n)) * n))
    exact ⟨u, v, bind_of rfl (bind_of (bind_of hu rfl) (bind_of (bind_of hv rfl) rfl))⟩
theorem rnd_mulself {x b : Int} (hb : 0 < b) : rnd (x * b) b = x := rnd_is hb (by omega) (by omega)
theorem pt_last {s : Int × Int × Int × Int × Int × Int × Int} (hs : Sg s) (ax ay : Int) {n : Int} (n0 : 1 ≤ n) (n1 : n ≤ 3600) : pt s ax ay n n = some (lastP s) := by
  obtain ⟨hk, s1, s2, s3, s4, s5, s6⟩ := hs
  have z : wr64 (n - n) = 0 := by rw [w64 (by omega) (by omega)]; omega
  have nn1 : n * n ≤ 3600 * 3600 := Int.mul_le_mul n1 n1 (by omega) (by omega)
  have nn0 : 1 ≤ n * n := Int.mul_le_mul n0 n0 (by omega) (by omega)
  have nnn1 : n * n * n ≤ 3600 * 3600 * 3600 := Int.mul_le_mul nn1 n1 (by omega) (by omega)
  have nnn0 : 1 ≤ n * n * n := Int.mul_le_mul nn0 n0 (by omega) (by omega)
  have w0 : wr64 0 = 0 := w64 (by omega) (by omega)
  have one : ∀ {m c : Int}, 1 ≤ m → m ≤ 46656000000 → In c → fixed_Round.f (wr64 (m * c)) m = some c := by
    intro m c m0 m1 hc
    have hb := mul_bd (M := 46656000000) (N := 4194306) (x := m) (y := c) (by omega) m1 (by unfold In at hc; omega) (by unfold In at hc; omega)
    rw [w64 (n := m * c) (by omega) (by omega), round_f (by omega) (by omega) (by omega) (by omega), Int.mul_comm, rnd_mulself (by omega)]
  unfold pt lastP
  rcases (show s.1 = 1 ∨ s.1 = 2 ∨ s.1 = 3 by omega) with h | h | h
  · rw [if_pos h, if_pos h]
    unfold flatten_Point_v2.f flatten_mix_v3.f flatten_points_v2.f
    have e : ∀ a c : Int, In c → fixed_Round.f (wr64 ((wr64 ((wr64 (n - n)) * a)) + (wr64 (n * c)))) n = some c := by
      intro a c hc
      have hb := mul_bd (M := 3600) (N := 4194306) (x := n) (y := c) (by omega) n1 (by unfold In at hc; omega) (by unfold In at hc; omega)
      rw [z, Int.zero_mul, w0, Int.zero_add, w64 (n := n * c) (by omega) (by omega)]
      exact one n0 (by omega) hc
    exact bind_of rfl (bind_of (bind_of (e ax _ s1) rfl) (bind_of (bind_of (e ay _ s2) rfl) rfl))
  · rw [if_neg (by omega), if_pos h, if_neg (by omega), if_pos h]
    unfold flatten_Point_v3.f flatten_mix_v4.f flatten_points_v3.f
    have e : ∀ a b c : Int, In c → fixed_Round.f (wr64 ((wr64 ((wr64 ((wr64 ((wr64 (n - n)) * (wr64 (n - n)))) * a)) + (wr64 ((wr64 ((wr64 (2 * n)) * (wr64 (n - n)))) * b)))) + (wr64 ((wr64 (n * n)) * c)))) (wr64 (n * n)) = some c := by
      intro a b c hc
      have hb := mul_bd (M := 12960000) (N := 4194306) (x := n * n) (y := c) (by omega) nn1 (by unfold In at hc; omega) (by unfold In at hc; omega)
      rw [z]
      simp only [Int.zero_mul, Int.mul_zero, w0, Int.zero_add]
      rw [w64 (n := n * n) (by omega) (by omega), w64 (n := n * n * c) (by omega) (by omega)]
      exact one nn0 (by omega) hc
    exact bind_of rfl (bind_of (bind_of (e ax s.2.1 _ s3) rfl) (bind_of (bind_of (e ay s.2.2.1 _ s4) rfl) rfl))
  · rw [if_neg (by omega), if_neg (by omega), if_pos h, if_neg (by omega), if_neg (by omega)]
    unfold flatten_Point_v4.f flatten_mix_v5.f flatten_points_v4.f
    have e : ∀ a b c d : Int, In d → fixed_Round.f (wr64 ((wr64 ((wr64 ((wr64 ((wr64 ((wr64 ((wr64 (n - n)) * (wr64 (n - n)))) * (wr64 (n - n)))) * a)) + (wr64 ((wr64 ((wr64 ((wr64 (3 * n)) * (wr64 (n - n)))) * (wr64 (n - n)))) * b)))) + (wr64 ((wr64 ((wr64 ((wr64 (3 * n)) * n)) * (wr64 (n - n)))) * c)))) + (wr64 ((wr64 ((wr64 (n * n)) * n)) * d)))) (wr64 ((wr64 (n * n)) * n)) = some d := by
      intro a b c d hc
      have hb := mul_bd (M := 46656000000) (N := 4194306) (x := n * n * n) (y := d) (by omega) nnn1 (by unfold In at hc; omega) (by unfold In at hc; omega)
      rw [z]
      simp only [Int.zero_mul, Int.mul_zero, w0, Int.zero_add]
      rw [w64 (n := n * n) (by omega) (by omega), w64 (n := n * n * n) (by omega) (by omega), w64 (n := n * n * n * d) (by omega) (by omega)]
      exact one nnn0 (by omega) hc
    exact bind_of rfl (bind_of (bind_of (e ax s.2.1 s.2.2.2.1 _ s5) rfl) (bind_of (bind_of (e ay s.2.2.1 s.2.2.2.2.1 _ s6) rfl) rfl))
/-- One edge more, if it has a length. -/
def put (y : List (Int × Int × Int × Int)) (ax ay bx by_ : Int) : List (Int × Int × Int × Int) := if ax = bx ∧ ay = by_ then y else y ++ [(ax, ay, bx, by_)]
theorem put_f {y : List (Int × Int × Int × Int)} (ax ay bx by_ : Int) (hy : y.length ≤ 1000000) : flatten_Path_1_v2.f bx by_ ax ay y = some (put y ax ay bx by_, bx, by_) := by
  unfold flatten_Path_1_v2.f put
  by_cases h : ax = bx ∧ ay = by_
  · rw [if_pos (by simp [h.1, h.2]), if_pos h]
  · rw [if_neg (by simpa using h), if_neg h]
    exact bind_of (lapp_ok (by simp; omega)) rfl
theorem put_len (y : List (Int × Int × Int × Int)) (ax ay bx by_ : Int) : (put y ax ay bx by_).length ≤ y.length + 1 := by
  unfold put
  split <;> simp
theorem pl_step {s : Int × Int × Int × Int × Int × Int × Int} (hs : Sg s) (k : Nat) (fx fy n i : Int) (y : List (Int × Int × Int × Int)) (ax ay bx by_ : Int) (hi : i ≤ n) (hy : y.length ≤ 1000000) (hp : pt s fx fy i n = some (bx, by_)) :
    flatten_Path_v2.l1 (k + 1) fx fy s.1 s.2.1 s.2.2.1 s.2.2.2.1 s.2.2.2.2.1 s.2.2.2.2.2.1 s.2.2.2.2.2.2 n i y ax ay = flatten_Path_v2.l1 k fx fy s.1 s.2.1 s.2.2.1 s.2.2.2.1 s.2.2.2.2.1 s.2.2.2.2.2.1 s.2.2.2.2.2.2 n (wr64 (i + 1)) (put y ax ay bx by_) bx by_ := by
  have hk := hs.1
  rw [flatten_Path_v2.l1, if_pos hi]
  unfold pt at hp
  rcases (show s.1 = 1 ∨ s.1 = 2 ∨ s.1 = 3 by omega) with h | h | h
  · rw [if_pos h] at hp ⊢
    exact bind_of hp (bind_of (put_f _ _ _ _ hy) rfl)
  · rw [if_neg (by omega), if_pos h] at hp ⊢
    exact bind_of hp (bind_of (put_f _ _ _ _ hy) rfl)
  · rw [if_neg (by omega), if_neg (by omega), if_pos h] at hp ⊢
    exact bind_of hp (bind_of (put_f _ _ _ _ hy) rfl)
theorem pl_end (k : Nat) (fx fy c d0 d1 d2 d3 d4 d5 n i : Int) (y : List (Int × Int × Int × Int)) (ax ay : Int) (hi : n < i) : flatten_Path_v2.l1 (k + 1) fx fy c d0 d1 d2 d3 d4 d5 n i y ax ay = some (ax, ay, y) := by
  rw [flatten_Path_v2.l1, if_neg (by omega)]

theorem wr_mod (a : Int) : wr64 a % 18446744073709551616 = a % 18446744073709551616 := by
  rw [wr64_eq]
  omega
theorem wr_congr {a b : Int} (h : a % 18446744073709551616 = b % 18446744073709551616) : wr64 a = wr64 b := by
  rw [wr64_eq, wr64_eq]
  omega
theorem wr_mul1 (a b : Int) : wr64 (wr64 a * b) = wr64 (a * b) := wr_congr (by rw [Int.mul_emod, wr_mod, ← Int.mul_emod])
theorem wr_mul2 (a b : Int) : wr64 (a * wr64 b) = wr64 (a * b) := wr_congr (by rw [Int.mul_emod, wr_mod, ← Int.mul_emod])
theorem wr_add1 (a b : Int) : wr64 (wr64 a + b) = wr64 (a + b) := wr_congr (by rw [Int.add_emod, wr_mod, ← Int.add_emod])
theorem wr_add2 (a b : Int) : wr64 (a + wr64 b) = wr64 (a + b) := wr_congr (by rw [Int.add_emod, wr_mod, ← Int.add_emod])
theorem down_eq : glyphicref1_Down.f = fixed_Down.f := by
  funext a b
  unfold glyphicref1_Down.f fixed_Down.f
  rfl
theorem round_eq : glyphicref1_Round.f = fixed_Round.f := by
  funext a b
  unfold glyphicref1_Round.f fixed_Round.f
  rw [down_eq]

abbrev Seg := Int × Int × Int × Int × Int × Int × Int
theorem abs_f {n : Int} (h0 : -100000000 ≤ n) (h1 : n ≤ 100000000) : glyphicref20_abs.f n = some (n.natAbs : Int) := by
  unfold glyphicref20_abs.f
  by_cases h : n < 0
  · rw [if_pos h, w64 (by omega) (by omega)]
    congr 1
    omega
  · rw [if_neg h]
    congr 1
    omega
theorem rbend_f {ax ay bx by_ cx cy : Int} (h1 : In ax) (h2 : In ay) (h3 : In bx) (h4 : In by_) (h5 : In cx) (h6 : In cy) : glyphicref20_bend.f ax ay bx by_ cx cy = some (bd ax bx cx + bd ay by_ cy) := by
  have b1 := bd_in h1 h3 h5
  have b2 := bd_in h2 h4 h6
  unfold glyphicref20_bend.f
  rw [wsum h1.b.1 h1.b.2 h3.b.1 h3.b.2 h5.b.1 h5.b.2, wsum h2.b.1 h2.b.2 h4.b.1 h4.b.2 h6.b.1 h6.b.2]
  unfold bd at *
  refine bind_of (abs_f (by omega) (by omega)) (bind_of (abs_f (by omega) (by omega)) ?_)
  rw [w64 (by omega) (by omega)]
theorem rcount_l : ∀ (k : Nat) (f n : Int), glyphicref20_Count.l0 k f n = flatten_Count.l0 k f n
  | 0, _, _ => rfl
  | k + 1, f, n => by
    rw [glyphicref20_Count.l0, flatten_Count.l0, rcount_l k, Int.mul_comm 2 n]
theorem rcount_f {ax ay : Int} {s : Seg} (ha : In ax) (hb : In ay) (hs : Sg s) (k : Nat) : glyphicref20_Count.f k ax ay s.1 s.2.1 s.2.2.1 s.2.2.2.1 s.2.2.2.2.1 s.2.2.2.2.2.1 s.2.2.2.2.2.2 = flatten_Count.l0 k (far ax ay s) 1 := by
  have hfar := far_in ha hb hs
  obtain ⟨hk, s1, s2, s3, s4, s5, s6⟩ := hs
  have b1 := rbend_f ha hb s1 s2 s3 s4
  have b2 := rbend_f s1 s2 s3 s4 s5 s6
  have tail : ∀ v : Int, ((glyphicref20_Count.l0 k v 1 : Option (Int)).bind fun x329 => (some x329)) = flatten_Count.l0 k v 1 := by
    intro v
    rw [rcount_l]
    cases flatten_Count.l0 k v 1 <;> rfl
  unfold glyphicref20_Count.f
  unfold far at hfar ⊢
  rw [if_neg (by omega), if_neg (by omega)]
  rcases (show s.1 = 1 ∨ s.1 = 2 ∨ s.1 = 3 by omega) with h | h | h
  · simp only [h, Int.reduceEq, if_false, Option.bind_some] at hfar ⊢
    exact tail 0
  · simp only [h, Int.reduceEq, if_false, if_true, b1, Option.bind_some] at hfar ⊢
    exact tail _
  · simp only [h, Int.reduceEq, if_false, if_true, b1, b2, Option.bind_some] at hfar ⊢
    rw [w64 (n := 3 * mx _ _) (by omega) (by omega)]
    exact tail _
theorem mix1_eq (a b i n : Int) : glyphicref1_Round.f (wr64 ((wr64 (a * (wr64 (n - i)))) + (wr64 (b * i)))) n = fixed_Round.f (wr64 ((wr64 ((wr64 (n - i)) * a)) + (wr64 (i * b)))) n := by
  rw [round_eq, Int.mul_comm a, Int.mul_comm b]
theorem mix2_eq (a b c i n : Int) : glyphicref1_Round.f (wr64 ((wr64 ((wr64 ((wr64 (a * (wr64 (n - i)))) * (wr64 (n - i)))) + (wr64 ((wr64 ((wr64 (2 * b)) * i)) * (wr64 (n - i)))))) + (wr64 ((wr64 (c * i)) * i)))) (wr64 (n * n)) = fixed_Round.f (wr64 ((wr64 ((wr64 ((wr64 ((wr64 (n - i)) * (wr64 (n - i)))) * a)) + (wr64 ((wr64 ((wr64 (2 * i)) * (wr64 (n - i)))) * b)))) + (wr64 ((wr64 (i * i)) * c)))) (wr64 (n * n)) := by
  rw [round_eq]
  generalize n - i = k
  simp only [wr_mul1, wr_mul2, wr_add1, wr_add2]
  rw [show a * k * k + 2 * b * i * k + c * i * i = k * k * a + 2 * i * k * b + i * i * c by grind]
theorem mix3_eq (a b c d i n : Int) : glyphicref1_Round.f (wr64 ((wr64 ((wr64 ((wr64 ((wr64 ((wr64 (a * (wr64 (n - i)))) * (wr64 (n - i)))) * (wr64 (n - i)))) + (wr64 ((wr64 ((wr64 ((wr64 (3 * b)) * i)) * (wr64 (n - i)))) * (wr64 (n - i)))))) + (wr64 ((wr64 ((wr64 ((wr64 (3 * c)) * i)) * i)) * (wr64 (n - i)))))) + (wr64 ((wr64 ((wr64 (d * i)) * i)) * i)))) (wr64 ((wr64 (n * n)) * n)) = fixed_Round.f (wr64 ((wr64 ((wr64 ((wr64 ((wr64 ((wr64 ((wr64 (n - i)) * (wr64 (n - i)))) * (wr64 (n - i)))) * a)) + (wr64 ((wr64 ((wr64 ((wr64 (3 * i)) * (wr64 (n - i)))) * (wr64 (n - i)))) * b)))) + (wr64 ((wr64 ((wr64 ((wr64 (3 * i)) * i)) * (wr64 (n - i)))) * c)))) + (wr64 ((wr64 ((wr64 (i * i)) * i)) * d)))) (wr64 ((wr64 (n * n)) * n)) := by
  rw [round_eq]
  generalize n - i = k
  simp only [wr_mul1, wr_mul2, wr_add1, wr_add2]
  rw [show a * k * k * k + 3 * b * i * k * k + 3 * c * i * i * k + d * i * i * i = k * k * k * a + 3 * i * k * k * b + 3 * i * i * k * c + i * i * i * d by grind]
theorem rpt {s : Seg} (hs : Sg s) {ax ay i n x y : Int} (hp : pt s ax ay i n = some (x, y)) : glyphicref20_Point.f ax ay s.1 s.2.1 s.2.2.1 s.2.2.2.1 s.2.2.2.2.1 s.2.2.2.2.2.1 s.2.2.2.2.2.2 i n = some (x, y) := by
  have hk := hs.1
  have hb : ∀ o : Option Int, (o.bind fun t => some t) = o := fun o => by cases o <;> rfl
  unfold pt at hp
  unfold glyphicref20_Point.f glyphicref20_part.f
  rcases (show s.1 = 1 ∨ s.1 = 2 ∨ s.1 = 3 by omega) with h | h | h
  · rw [if_pos h] at hp
    unfold flatten_Point_v2.f flatten_mix_v3.f flatten_points_v2.f at hp
    simp only [Option.bind_some] at hp
    rw [if_pos h, if_pos h, mix1_eq, mix1_eq]
    exact hp
  · rw [if_neg (by omega), if_pos h] at hp
    unfold flatten_Point_v3.f flatten_mix_v4.f flatten_points_v3.f at hp
    simp only [Option.bind_some] at hp
    rw [if_neg (by omega), if_pos h, if_neg (by omega), if_pos h, mix2_eq, mix2_eq]
    exact hp
  · rw [if_neg (by omega), if_neg (by omega), if_pos h] at hp
    unfold flatten_Point_v4.f flatten_mix_v5.f flatten_points_v4.f at hp
    simp only [Option.bind_some] at hp
    rw [if_neg (by omega), if_neg (by omega), if_neg (by omega), if_neg (by omega), mix3_eq, mix3_eq]
    exact hp
theorem rend_f {s : Seg} (hs : Sg s) (ax ay : Int) : glyphicref20_end.f ax ay s.1 s.2.1 s.2.2.1 s.2.2.2.1 s.2.2.2.2.1 s.2.2.2.2.2.1 s.2.2.2.2.2.2 = some (lastP s) := by
  have hk := hs.1
  unfold glyphicref20_end.f lastP
  rw [if_neg (by omega), if_neg (by omega), w64 (n := s.1 - 1) (by omega) (by omega)]
  rcases (show s.1 = 1 ∨ s.1 = 2 ∨ s.1 = 3 by omega) with h | h | h
  · rw [if_pos (by omega), if_pos h]
  · rw [if_neg (by omega), if_pos (by omega), if_neg (by omega), if_pos h]
  · rw [if_neg (by omega), if_neg (by omega), if_pos (by omega), if_neg (by omega), if_neg (by omega)]
theorem same_f (a b : Int) : glyphicref_SamePoint.f a b a b = some true := by
  unfold glyphicref_SamePoint.f
  rw [if_pos rfl]
  simp
theorem same_n {a b c d : Int} (h : ¬ (a = c ∧ b = d)) : glyphicref_SamePoint.f a b c d = some false := by
  unfold glyphicref_SamePoint.f
  by_cases e : a = c
  · rw [if_pos e]
    have : ¬ b = d := fun q => h ⟨e, q⟩
    simp [this]
  · rw [if_neg e]
theorem edge_f {y : List (Int × Int × Int × Int)} (ax ay bx by_ : Int) (hy : y.length ≤ 1000000) : glyphicref20_edge_v1.f ax ay bx by_ y = some (put y ax ay bx by_) := by
  unfold glyphicref20_edge_v1.f put
  by_cases h : ax = bx ∧ ay = by_
  · obtain ⟨rfl, rfl⟩ := h
    refine bind_of (same_f _ _) ?_
    rw [if_pos rfl, if_pos ⟨rfl, rfl⟩]
  · refine bind_of (same_n h) ?_
    rw [if_neg (by decide), if_neg h]
    exact bind_of (lapp_ok (by simp; omega)) rfl
theorem pts_both {s : Seg} (hs : Sg s) (fx fy : Int) {n : Nat} (n0 : 1 ≤ n) (n1 : n ≤ 3600) : ∀ (m i k : Nat) (y : List (Int × Int × Int × Int)) (ax ay : Int), n + 1 - i = m → 1 ≤ i → i ≤ n + 1 → m < k → y.length + m ≤ 900000 → (i = n + 1 → (ax, ay) = lastP s) →
    ∃ L u v, flatten_Path_v2.l1 k fx fy s.1 s.2.1 s.2.2.1 s.2.2.2.1 s.2.2.2.2.1 s.2.2.2.2.2.1 s.2.2.2.2.2.2 n i y ax ay = some ((lastP s).1, (lastP s).2, L) ∧ glyphicref20_Path_v1.l1 k fx fy s.1 s.2.1 s.2.2.1 s.2.2.2.1 s.2.2.2.2.1 s.2.2.2.2.2.1 s.2.2.2.2.2.2 n i ax ay y = some (L, u, v) ∧ L.length ≤ y.length + m
  | 0, i, k, y, ax, ay, hm, hi, hi2, hk, hy, hl => by
    obtain ⟨k, rfl⟩ : ∃ m, k = m + 1 := ⟨k - 1, by omega⟩
    have e := hl (by omega)
    refine ⟨y, ax, ay, ?_, ?_, by omega⟩
    · rw [pl_end _ _ _ _ _ _ _ _ _ _ _ _ _ _ _ (by omega), ← e]
    · rw [glyphicref20_Path_v1.l1, if_neg (by omega)]
  | m + 1, i, k, y, ax, ay, hm, hi, hi2, hk, hy, hl => by
    obtain ⟨k, rfl⟩ : ∃ m, k = m + 1 := ⟨k - 1, by omega⟩
    obtain ⟨bx, by_, hp⟩ := pt_tot hs fx fy i n
    have hlen := put_len y ax ay bx by_
    obtain ⟨L, u, v, h1, h2, h3⟩ := pts_both hs fx fy n0 n1 m (i + 1) k (put y ax ay bx by_) bx by_ (by omega) (by omega) (by omega) (by omega) (by omega) (by
      intro e
      have : i = n := by omega
      subst this
      have := pt_last hs fx fy (n := (i : Int)) (by omega) (by omega)
      rw [hp] at this
      exact Option.some.inj this)
    refine ⟨L, u, v, ?_, ?_, by omega⟩
    · rw [pl_step hs k fx fy n i y ax ay bx by_ (by omega) (by omega) hp, wnat (by omega)]
      exact h1
    · rw [glyphicref20_Path_v1.l1, if_pos (by omega)]
      refine bind_of (rpt hs hp) (bind_of (edge_f _ _ _ _ (by omega)) ?_)
      rw [wnat (by omega)]
      exact h2
theorem segs_both {S : List Seg} (hS : ∀ s ∈ S, Sg s) (hlen : S.length ≤ 100) : ∀ (m i k : Nat) (y : List (Int × Int × Int × Int)) (ax ay : Int) (c : Int), S.length - i = m → i ≤ S.length → m + 3700 < k → y.length ≤ 3700 * i → In ax → In ay → 0 ≤ c → c ≤ 3700 * i + 1 →
    ∃ L bx by_, ∃ N : Nat, flatten_Path_v2.l0 k S i y ax ay = some (bx, by_, L) ∧ glyphicref20_Path_v1.l0 k S i y ax ay = some (L, bx, by_) ∧ flatten_Size_v1.l0 k S c i ax ay = some (c + N, bx, by_) ∧ glyphicref20_Size_v1.l0 k S c i ax ay = some (c + N, bx, by_) ∧ L.length ≤ y.length + N ∧ N ≤ 3700 * m
  | 0, i, k, y, ax, ay, c, hm, hi, hk, hy, ha, hb, c0, c1 => by
    obtain ⟨k, rfl⟩ : ∃ m, k = m + 1 := ⟨k - 1, by omega⟩
    refine ⟨y, ax, ay, 0, ?_, ?_, ?_, ?_, by omega, by omega⟩
    · rw [flatten_Path_v2.l0, if_neg (by omega)]
    · rw [glyphicref20_Path_v1.l0, if_neg (by omega)]
    · rw [flatten_Size_v1.l0, if_neg (by omega)]; simp
    · rw [glyphicref20_Size_v1.l0, if_neg (by omega)]; simp
  | m + 1, i, k, y, ax, ay, c, hm, hi, hk, hy, ha, hb, c0, c1 => by
    obtain ⟨k, rfl⟩ : ∃ m, k = m + 1 := ⟨k - 1, by omega⟩
    have hlt : i < S.length := by omega
    obtain ⟨s, hg, hs⟩ : ∃ s, lgt S (i : Int) = some s ∧ Sg s := ⟨S[i], lgt_nat hlt, hS _ (List.getElem_mem hlt)⟩
    have hf := far_in ha hb hs
    obtain ⟨n, hn, n0, n1⟩ := count_s hf.1 hf.2 k (by omega)
    have hc1 := (count_f ha hb hs k).trans hn
    have hc2 := (rcount_f ha hb hs k).trans hn
    obtain ⟨n, rfl⟩ : ∃ q : Nat, n = q := ⟨n.toNat, by omega⟩
    obtain ⟨Y, u, v, h1, h2, h3⟩ := pts_both hs ax ay (n := n) (by omega) (by omega) n 1 k y ax ay (by omega) (by omega) (by omega) (by omega) (by omega) (by omega)
    obtain ⟨l1, l2⟩ := lastP_in hs
    obtain ⟨L, bx, by_, N, g1, g2, g3, g4, g5, g6⟩ := segs_both hS hlen m (i + 1) k Y (lastP s).1 (lastP s).2 (c + n) (by omega) (by omega) (by omega) (by omega) l1 l2 (by omega) (by omega)
    have wc : wr64 (c + n) = c + n := w64 (by omega) (by omega)
    refine ⟨L, bx, by_, n + N, ?_, ?_, ?_, ?_, by omega, by omega⟩
    · rw [flatten_Path_v2.l0, if_pos (by omega)]
      refine bind_of (x := ((lastP s).1, (lastP s).2, Y)) (bind_of hg (bind_of hc1 h1)) ?_
      dsimp only
      rw [wnat (by omega)]
      exact g1
    · rw [glyphicref20_Path_v1.l0, if_pos (by omega)]
      refine bind_of (x := (Y, (lastP s).1, (lastP s).2)) (bind_of hg (bind_of hc2 (bind_of h2 (bind_of (rend_f hs ax ay) rfl)))) ?_
      dsimp only
      rw [wnat (by omega)]
      exact g2
    · rw [flatten_Size_v1.l0, if_pos (by omega)]
      refine bind_of hg (bind_of hc1 ?_)
      have hk := hs.1
      have e : c + ((n + N : Nat) : Int) = c + n + N := by omega
      rw [e]
      unfold lastP at g3
      show (if s.1 = 1 then _ else _) = _
      rcases (show s.1 = 1 ∨ s.1 = 2 ∨ s.1 = 3 by omega) with h | h | h
      · rw [if_pos h] at g3
        rw [if_pos h]
        unfold flatten_points_v2.f
        refine bind_of rfl ?_
        dsimp only
        rw [wc, wnat (by omega)]
        exact g3
      · rw [if_neg (by omega), if_pos h] at g3
        rw [if_neg (by omega), if_pos h]
        unfold flatten_points_v3.f
        refine bind_of rfl ?_
        dsimp only
        rw [wc, wnat (by omega)]
        exact g3
      · rw [if_neg (by omega), if_neg (by omega)] at g3
        rw [if_neg (by omega), if_neg (by omega), if_pos h]
        unfold flatten_points_v4.f
        refine bind_of rfl ?_
        dsimp only
        rw [wc, wnat (by omega)]
        exact g3
    · rw [glyphicref20_Size_v1.l0, if_pos (by omega)]
      refine bind_of hg (bind_of hc2 (bind_of hg (bind_of (rend_f hs ax ay) ?_)))
      dsimp only
      rw [wc, wnat (by omega), show c + ((n + N : Nat) : Int) = c + n + N by omega]
      exact g4
theorem sames_l {A : List (Int × Int × Int × Int)} (hA : A.length ≤ 1000000) : ∀ (n i k : Nat), A.length - i = n → i ≤ A.length → n < k → glyphicref_SameEdges_v1.l0 k A A i = some (.inr ())
  | 0, i, k, hn, hi, hk => by
    obtain ⟨k, rfl⟩ : ∃ m, k = m + 1 := ⟨k - 1, by omega⟩
    rw [glyphicref_SameEdges_v1.l0, if_neg (by omega)]
  | n + 1, i, k, hn, hi, hk => by
    obtain ⟨k, rfl⟩ : ∃ m, k = m + 1 := ⟨k - 1, by omega⟩
    have hlt : i < A.length := by omega
    have he : ∀ a b c d : Int, glyphicref_SameEdge.f a b c d a b c d = some true := by
      intro a b c d
      unfold glyphicref_SameEdge.f
      refine bind_of (same_f _ _) ?_
      rw [if_pos rfl]
      exact bind_of (same_f _ _) rfl
    rw [glyphicref_SameEdges_v1.l0, if_pos (by omega)]
    refine bind_of (lgt_nat hlt) (bind_of (lgt_nat hlt) (bind_of (he _ _ _ _) ?_))
    rw [if_pos rfl, wnat (by omega)]
    exact sames_l hA n (i + 1) k (by omega) (by omega) (by omega)
theorem sames_f {A : List (Int × Int × Int × Int)} (hA : A.length ≤ 1000000) (k : Nat) (hk : A.length < k) : glyphicref_SameEdges_v1.f k A A = some true := by
  unfold glyphicref_SameEdges_v1.f
  rw [if_pos rfl]
  exact bind_of (sames_l hA A.length 0 k (by omega) (by omega) hk) rfl
theorem law_l (l : List Int) (j : Int) {S : List Seg} (hS : ∀ s ∈ S, Sg s) (hlen : S.length ≤ 100) : ∀ (m i k : Nat) (ax ay : Int), S.length - i = m → i ≤ S.length → m + 100 < k → In ax → In ay → ∃ u v, glyphiclaw21_FlattenSays.l0 k l j S i ax ay = some (.inr (u, v))
  | 0, i, k, ax, ay, hm, hi, hk, ha, hb => by
    obtain ⟨k, rfl⟩ : ∃ m, k = m + 1 := ⟨k - 1, by omega⟩
    refine ⟨ax, ay, ?_⟩
    rw [glyphiclaw21_FlattenSays.l0, if_neg (by omega)]
  | m + 1, i, k, ax, ay, hm, hi, hk, ha, hb => by
    obtain ⟨k, rfl⟩ : ∃ m, k = m + 1 := ⟨k - 1, by omega⟩
    have hlt : i < S.length := by omega
    obtain ⟨s, hg, hs⟩ : ∃ s, lgt S (i : Int) = some s ∧ Sg s := ⟨S[i], lgt_nat hlt, hS _ (List.getElem_mem hlt)⟩
    have hf := far_in ha hb hs
    obtain ⟨n, hn, n0, n1⟩ := count_s hf.1 hf.2 k (by omega)
    have hc1 := (count_f ha hb hs k).trans hn
    have hc2 := (rcount_f ha hb hs k).trans hn
    obtain ⟨l1, l2⟩ := lastP_in hs
    obtain ⟨u, v, ih⟩ := law_l l j hS hlen m (i + 1) k (lastP s).1 (lastP s).2 (by omega) (by omega) (by omega) l1 l2
    refine ⟨u, v, ?_⟩
    rw [glyphiclaw21_FlattenSays.l0, if_pos (by omega)]
    refine bind_of hg (bind_of hc1 (bind_of hc2 ?_))
    rw [if_pos rfl, wnat (by omega), if_neg (by rw [w64 (by omega) (by omega)]; omega)]
    generalize Int.tmod (wr64 (wr64 (Int.tmod j (wr64 (n + 1)) + n) + 1)) (wr64 (n + 1)) = q
    obtain ⟨x, y, hp⟩ := pt_tot hs ax ay q n
    have hr := rpt hs hp
    have hk := hs.1
    unfold pt at hp
    unfold lastP at ih
    show (if s.1 = 1 then _ else _) = _
    have hrr : ∀ (f : Int × Int → Option (Bool ⊕ (Int × Int))), (glyphicref20_Point.f ax ay s.1 s.2.1 s.2.2.1 s.2.2.2.1 s.2.2.2.2.1 s.2.2.2.2.2.1 s.2.2.2.2.2.2 q n).bind f = f (x, y) := fun f => by rw [hr]; rfl
    rcases (show s.1 = 1 ∨ s.1 = 2 ∨ s.1 = 3 by omega) with h | h | h
    · rw [if_pos h] at hp ih
      rw [if_pos h]
      refine bind_of hp (bind_of hr (bind_of (same_f _ _) ?_))
      rw [if_pos rfl]
      show (if wr64 (s.1 - 1) = 0 then _ else _) = _
      rw [w64 (n := s.1 - 1) (by omega) (by omega), if_pos (by omega)]
      exact ih
    · rw [if_neg (by omega), if_pos h] at hp ih
      rw [if_neg (by omega), if_pos h]
      refine bind_of hp (bind_of hr (bind_of (same_f _ _) ?_))
      rw [if_pos rfl]
      show (if wr64 (s.1 - 1) = 0 then _ else _) = _
      rw [w64 (n := s.1 - 1) (by omega) (by omega), if_neg (by omega), if_pos (by omega)]
      exact ih
    · rw [if_neg (by omega), if_neg (by omega), if_pos h] at hp
      rw [if_neg (by omega), if_neg (by omega)] at ih
      rw [if_neg (by omega), if_neg (by omega), if_pos h]
      refine bind_of hp (bind_of hr (bind_of (same_f _ _) ?_))
      rw [if_pos rfl]
      show (if wr64 (s.1 - 1) = 0 then _ else _) = _
      rw [w64 (n := s.1 - 1) (by omega) (by omega), if_neg (by omega), if_neg (by omega), if_pos (by omega)]
      exact ih
theorem pow_in {j : Nat} (h : j ≤ 24) : ∃ K : Int, (1 : Int) * 2 ^ j = K ∧ 1 ≤ K ∧ K ≤ 16777216 := by
  have h1 : (2 : Nat) ^ j ≤ 2 ^ 24 := Nat.pow_le_pow_right (by omega) h
  have h2 : 1 ≤ (2 : Nat) ^ j := Nat.one_le_two_pow
  have e : (1 : Int) * 2 ^ j = ((2 ^ j : Nat) : Int) := by simp
  exact ⟨_, rfl, by rw [e]; omega, by rw [e]; omega⟩
theorem FlattenSays : glyphiclaw21_FlattenSays.Pure := by
  intro l far_ j shut _ _
  have hf : glyphiclaw21_first.f = some true := by decide +kernel
  refine ⟨100000, ?_⟩
  generalize hK : 100000 = k0
  have hk : 100000 ≤ k0 := by omega
  clear hK
  unfold glyphiclaw21_FlattenSays.f
  refine bind_of hf ?_
  rw [if_pos rfl]
  by_cases hl : (l.length : Int) > 60
  · rw [if_pos hl]
  · rw [if_neg hl]
    obtain ⟨s, es, s0, s1⟩ := cyc far_ (b := 24) (by omega) (by omega)
    rw [es, w64 (n := s + 1) (by omega) (by omega), wu64 (n := s + 1) (by omega) (by omega), if_neg (by omega)]
    obtain ⟨e, he⟩ : ∃ e : Nat, Int.toNat (s + 1) = e := ⟨_, rfl⟩
    rw [he, Nat.min_eq_left (by omega)]
    obtain ⟨K, eK, K0, K1⟩ := pow_in (j := e) (by omega)
    have eq4 : Int.tdiv K 4 = K / 4 := by rw [Int.tdiv_eq_ediv, if_pos (Or.inl (by omega))]; omega
    rw [eK, w64 (n := K) (by omega) (by omega), eq4, w64 (n := K / 4) (by omega) (by omega), w64 (n := K / 4 + 1) (by omega) (by omega)]
    obtain ⟨x, y, cl, S, at', hd, h1, h2, h3, h4, h5⟩ := device_f (far := K / 4 + 1) (at_ := 0) l (by omega) (by omega) (by omega) (by omega) k0 (by omega)
    refine bind_of hd ?_
    dsimp only
    obtain ⟨u, v, hlaw⟩ := law_l l j h3 (by omega) S.length 0 k0 x y (by omega) (by omega) (by omega) h1 h2
    refine bind_of hlaw ?_
    dsimp only
    obtain ⟨L, bx, by_, N, g1, g2, g3, g4, g5, g6⟩ := segs_both h3 (by omega) S.length 0 k0 [] x y 1 (by omega) (by omega) (by omega) (by simp) h1 h2 (by omega) (by omega)
    simp only [List.length_nil, Nat.zero_add] at g5
    have hput := put_f (y := L) bx by_ x y (by omega)
    have hedge := edge_f (y := L) bx by_ x y (by omega)
    have hpl := put_len L bx by_ x y
    obtain ⟨M, hM, hM2, hMl⟩ : ∃ M, flatten_Path_v2.f k0 x y S cl shut = some M ∧ glyphicref20_Path_v1.f k0 x y S cl shut = some M ∧ M.length ≤ N + 1 := by
      unfold flatten_Path_v2.f glyphicref20_Path_v1.f
      by_cases c1 : shut = true
      · refine ⟨put L bx by_ x y, bind_of g1 ?_, bind_of g2 ?_, by omega⟩
        · dsimp only
          rw [if_pos c1]
          exact bind_of hput rfl
        · dsimp only
          rw [if_pos c1]
          exact bind_of hedge rfl
      · by_cases c2 : cl = true
        · refine ⟨put L bx by_ x y, bind_of g1 ?_, bind_of g2 ?_, by omega⟩
          · dsimp only
            rw [if_neg c1, if_pos c2]
            exact bind_of hput rfl
          · dsimp only
            rw [if_neg c1, if_pos c2]
            exact bind_of hedge rfl
        · refine ⟨L, bind_of g1 ?_, bind_of g2 ?_, by omega⟩
          · dsimp only
            rw [if_neg c1, if_neg c2]
          · dsimp only
            rw [if_neg c1, if_neg c2]
    have hT : flatten_Path_v2.f k0 x y S cl true = some (put L bx by_ x y) := by
      unfold flatten_Path_v2.f
      refine bind_of g1 ?_
      dsimp only
      rw [if_pos rfl]
      exact bind_of hput rfl
    have hs1 : flatten_Size_v1.f k0 x y S cl = some (1 + (N : Int)) := bind_of g3 rfl
    have hs2 : glyphicref20_Size_v1.f k0 x y S cl = some (1 + (N : Int)) := bind_of g4 rfl
    refine bind_of hM (bind_of hM2 (bind_of (sames_f (by omega) k0 (by omega)) ?_))
    rw [if_pos rfl]
    refine bind_of hs1 (bind_of hs2 ?_)
    rw [if_pos rfl]
    refine bind_of hs1 (bind_of hT ?_)
    rw [decide_eq_true (by omega)]

end Go.Proofs.Ytpimfacaalkmdaa.Pure
