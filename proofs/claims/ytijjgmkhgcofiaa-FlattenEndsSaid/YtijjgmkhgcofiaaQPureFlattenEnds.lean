/- Proved: FlattenEnds is true for every input. -/
import Derived.Test.YtijjgmkhgcofiaaQFlattenEndsx3
import Derived.OpenShut
namespace Go.Proofs.Ytijjgmkhgcofiaa.Pure
open Go Go.RowKit Go.Proofs.Ytijjgmkhgcofiaa.QFlattenEnds Go.Proofs.YtijjgmkhgcofiaaE
set_option linter.unusedVariables false

theorem bind_of {α β : Type} {o : Option α} {f : α → Option β} {x : α} {r : Option β} (h : o = some x) (h2 : f x = r) : o.bind f = r := by
  subst h
  exact h2

theorem div_is {a b q : Int} (hb : 0 < b) (h1 : q * b ≤ a) (h2 : a < q * b + b) : a / b = q := by
  apply Int.le_antisymm
  · exact Int.lt_add_one_iff.1 (Int.ediv_lt_of_lt_mul hb (by rw [Int.add_mul, Int.one_mul]; exact h2))
  · exact Int.le_ediv_of_mul_le hb h1

theorem div_in (a : Int) {b : Int} (hb : 0 < b) : a / b * b ≤ a ∧ a < a / b * b + b := by
  have h1 := Int.mul_ediv_add_emod a b
  have h2 := Int.emod_nonneg a (Int.ne_of_gt hb)
  have h3 := Int.emod_lt_of_pos a hb
  rw [Int.mul_comm] at h1
  omega

theorem div_bd (a : Int) {b : Int} (hb : 0 < b) : (0 ≤ a → 0 ≤ a / b ∧ a / b ≤ a) ∧ (a < 0 → a ≤ a / b ∧ a / b < 0) := by
  obtain ⟨h1, h2⟩ := div_in a hb
  refine ⟨fun h => ⟨Int.ediv_nonneg h (by omega), Int.ediv_le_self _ h⟩, fun h => ⟨?_, Int.ediv_neg_of_neg_of_pos h hb⟩⟩
  exact Int.le_ediv_of_mul_le hb (by
    have : a * b ≤ a * 1 := Int.mul_le_mul_of_nonpos_left (by omega) (by omega)
    omega)

theorem tmod_in (a : Int) {b : Int} (hb : 0 < b) : -b < Int.tmod a b ∧ Int.tmod a b < b := by
  rw [Int.tmod_eq_emod]
  have h2 := Int.emod_nonneg a (show b ≠ 0 by omega)
  have h3 := Int.emod_lt_of_pos a hb
  split
  · omega
  · have : ((b.natAbs : Nat) : Int) = b := by omega
    rename_i h
    have hne : a % b ≠ 0 := fun h0 => h (Or.inr (Int.dvd_of_emod_eq_zero h0))
    omega

theorem tmod_pos {a b : Int} (ha : 0 ≤ a) : Int.tmod a b = a % b := by
  rw [Int.tmod_eq_emod, if_pos (Or.inl ha)]; omega

theorem cyc (a : Int) {b : Int} (hb : 0 < b) (hb1 : b ≤ 4611686018427387903) : ∃ s, Int.tmod (wr64 (Int.tmod a b + b)) b = s ∧ 0 ≤ s ∧ s < b := by
  have h := tmod_in a hb
  refine ⟨_, rfl, ?_⟩
  rw [w64 (by omega) (by omega), tmod_pos (by omega)]
  exact ⟨Int.emod_nonneg _ (by omega), Int.emod_lt_of_pos _ hb⟩

/-- The nearest of a part, of two the greater. -/
def rnd (a b : Int) : Int := (2 * a + b) / (2 * b)

theorem rnd_is {a b q : Int} (hb : 0 < b) (h1 : 2 * (q * b) ≤ 2 * a + b) (h2 : 2 * a < 2 * (q * b) + b) : rnd a b = q := by
  unfold rnd
  apply div_is (by omega)
  · rw [Int.mul_left_comm]; omega
  · rw [Int.mul_left_comm]; omega

theorem rnd_in (a : Int) {b : Int} (hb : 0 < b) : 2 * (rnd a b * b) ≤ 2 * a + b ∧ 2 * a < 2 * (rnd a b * b) + b := by
  unfold rnd
  obtain ⟨h1, h2⟩ := div_in (2 * a + b) (b := 2 * b) (by omega)
  rw [Int.mul_left_comm] at h1 h2
  omega

theorem rnd_mono {a c b : Int} (hb : 0 < b) (h : a ≤ c) : rnd a b ≤ rnd c b := by
  unfold rnd
  exact Int.ediv_le_ediv (by omega) (by omega)

theorem down_f {a b : Int} (hb : 1 ≤ b) (ha0 : -9223372036854775808 ≤ a) (ha1 : a ≤ 9223372036854775807) : fixed_Down.f a b = some (a / b) := by
  unfold fixed_Down.f
  rw [if_neg (by omega), if_neg (by omega)]
  have hbd := div_bd a (b := b) (by omega)
  by_cases h : 0 ≤ a ∨ b ∣ a
  · have e1 : Int.tdiv a b = a / b := by rw [Int.tdiv_eq_ediv, if_pos h]; omega
    have e2 : Int.tmod a b = a % b := by rw [Int.tmod_eq_emod, if_pos h]; omega
    have h2 := Int.emod_nonneg a (show b ≠ 0 by omega)
    rw [e1, e2, if_neg (by omega), w64 (by omega) (by omega)]
  · have e1 : Int.tdiv a b = a / b + 1 := by rw [Int.tdiv_eq_ediv, if_neg h, Int.sign_eq_one_of_pos (by omega)]
    have e2 : Int.tmod a b = a % b - b := by rw [Int.tmod_eq_emod, if_neg h]; omega
    have h3 := Int.emod_lt_of_pos a (show 0 < b by omega)
    rw [e1, e2, if_pos (by omega), w64 (n := a / b + 1) (by omega) (by omega), w64 (by omega) (by omega)]
    congr 1
    omega

theorem round_f {a b : Int} (hb : 1 ≤ b) (hb1 : b ≤ 9223372036854775807) (ha0 : -9223372036854775808 ≤ a) (ha1 : a ≤ 9223372036854775807) : fixed_Round.f a b = some (rnd a b) := by
  unfold fixed_Round.f
  rw [if_neg (by omega), down_f hb ha0 ha1]
  simp only [Option.bind_some]
  obtain ⟨h1, h2⟩ := div_in a (b := b) (by omega)
  have hbd := div_bd a (b := b) (by omega)
  have e : wr64 (a - wr64 (a / b * b)) = a - a / b * b := by
    simp only [wr64_eq]
    omega
  rw [e, w64 (n := b - (a - a / b * b)) (by omega) (by omega)]
  by_cases h : a - a / b * b ≥ b - (a - a / b * b)
  · rw [if_pos h]
    have h3 : a / b + 1 ≤ 9223372036854775807 := by
      by_cases hq : a / b < 9223372036854775807
      · omega
      · by_cases h1b : b = 1
        · subst h1b; omega
        · have : a / b * 2 ≤ a / b * b := Int.mul_le_mul_of_nonneg_left (by omega) (by omega)
          omega
    rw [w64 (by omega) h3, rnd_is (q := a / b + 1) (by omega)]
    · rw [Int.add_mul]; omega
    · rw [Int.add_mul]; omega
  · rw [if_neg h, rnd_is (q := a / b) (by omega)]
    · omega
    · omega

theorem rnd_near (a : Int) {b : Int} (hb : 0 < b) : rnd a b = a / b ∨ rnd a b = a / b + 1 := by
  obtain ⟨h1, h2⟩ := div_in a hb
  by_cases h : 2 * (a - a / b * b) < b
  · left
    exact rnd_is hb (by omega) (by omega)
  · right
    exact rnd_is hb (by rw [Int.add_mul]; omega) (by rw [Int.add_mul]; omega)

theorem rnd_next (a : Int) {b : Int} (hb : 0 < b) : rnd (a + b) b = rnd a b + 1 := by
  obtain ⟨h1, h2⟩ := rnd_in a hb
  exact rnd_is hb (by rw [Int.add_mul]; omega) (by rw [Int.add_mul]; omega)

theorem down1_f {a b : Int} (hb : 1 ≤ b) (ha0 : -9223372036854775808 ≤ a) (ha1 : a ≤ 9223372036854775807) : glyphicref1_Down.f a b = some (a / b) := by
  unfold glyphicref1_Down.f
  rw [if_neg (by omega), if_neg (by omega)]
  have hbd := div_bd a (b := b) (by omega)
  by_cases h : 0 ≤ a ∨ b ∣ a
  · have e1 : Int.tdiv a b = a / b := by rw [Int.tdiv_eq_ediv, if_pos h]; omega
    have e2 : Int.tmod a b = a % b := by rw [Int.tmod_eq_emod, if_pos h]; omega
    have h2 := Int.emod_nonneg a (show b ≠ 0 by omega)
    rw [e1, e2, if_neg (by omega), w64 (by omega) (by omega)]
  · have e1 : Int.tdiv a b = a / b + 1 := by rw [Int.tdiv_eq_ediv, if_neg h, Int.sign_eq_one_of_pos (by omega)]
    have e2 : Int.tmod a b = a % b - b := by rw [Int.tmod_eq_emod, if_neg h]; omega
    have h3 := Int.emod_lt_of_pos a (show 0 < b by omega)
    rw [e1, e2, if_pos (by omega), w64 (n := a / b + 1) (by omega) (by omega), w64 (by omega) (by omega)]
    congr 1
    omega

theorem round1_f {a b : Int} (hb : 1 ≤ b) (hb1 : b ≤ 9223372036854775807) (ha0 : -9223372036854775808 ≤ a) (ha1 : a ≤ 9223372036854775807) : glyphicref1_Round.f a b = some (rnd a b) := by
  unfold glyphicref1_Round.f
  rw [if_neg (by omega), down1_f hb ha0 ha1]
  simp only [Option.bind_some]
  obtain ⟨h1, h2⟩ := div_in a (b := b) (by omega)
  have hbd := div_bd a (b := b) (by omega)
  have e : wr64 (a - wr64 (a / b * b)) = a - a / b * b := by
    simp only [wr64_eq]
    omega
  rw [e, w64 (n := b - (a - a / b * b)) (by omega) (by omega)]
  by_cases h : a - a / b * b ≥ b - (a - a / b * b)
  · rw [if_pos h]
    have h3 : a / b + 1 ≤ 9223372036854775807 := by
      by_cases hq : a / b < 9223372036854775807
      · omega
      · by_cases h1b : b = 1
        · subst h1b; omega
        · have : a / b * 2 ≤ a / b * b := Int.mul_le_mul_of_nonneg_left (by omega) (by omega)
          omega
    rw [w64 (by omega) h3, rnd_is (q := a / b + 1) (by omega)]
    · rw [Int.add_mul]; omega
    · rw [Int.add_mul]; omega
  · rw [if_neg h, rnd_is (q := a / b) (by omega)]
    · omega
    · omega

theorem mul_bd {x y M N : Int} (hx0 : -M ≤ x) (hx1 : x ≤ M) (hy0 : -N ≤ y) (hy1 : y ≤ N) : -(M * N) ≤ x * y ∧ x * y ≤ M * N := by
  have h : (x * y).natAbs ≤ M.toNat * N.toNat := by
    rw [Int.natAbs_mul]
    exact Nat.mul_le_mul (by omega) (by omega)
  have e : ((M.toNat * N.toNat : Nat) : Int) = M * N := by
    rw [Int.natCast_mul, Int.toNat_of_nonneg (by omega), Int.toNat_of_nonneg (by omega)]
  omega

theorem rnd_scale {m x b : Int} (hm : 0 < m) (hb : 0 < b) : rnd (m * x) (m * b) = rnd x b := by
  unfold rnd
  rw [show 2 * (m * x) + m * b = m * (2 * x + b) by grind, show 2 * (m * b) = m * (2 * b) by grind]
  exact Int.mul_ediv_mul_of_pos _ _ hm
theorem rnd_mulself {x b : Int} (hb : 0 < b) : rnd (x * b) b = x := rnd_is hb (by omega) (by omega)

/-- A part of a point. -/
def In (a : Int) : Prop := -16777217 < a ∧ a < 16777217

theorem mix3 {i k n a b c : Int} (hn : n = i + k) (i0 : 0 ≤ i) (i1 : i ≤ 512) (k0 : 0 ≤ k) (k1 : k ≤ 512) (n0 : 1 ≤ n) (ha : In a) (hb : In b) (hc : In c) :
    flatten_mix_v3.f i n a b c = some (rnd (k * k * a + 2 * i * k * b + i * i * c) (n * n)) := by
  unfold In at *
  have b1 := mul_bd (M := 512) (N := 512) (x := k) (y := k) (by omega) k1 (by omega) k1
  have b2 := mul_bd (M := 512) (N := 512) (x := i) (y := i) (by omega) i1 (by omega) i1
  have b3 := mul_bd (M := 1024) (N := 512) (x := 2 * i) (y := k) (by omega) (by omega) (by omega) k1
  have b4 := mul_bd (M := 1024) (N := 1024) (x := n) (y := n) (by omega) (by omega) (by omega) (by omega)
  have b5 := mul_bd (M := 262144) (N := 16777217) (x := k * k) (y := a) (by omega) (by omega) (by omega) (by omega)
  have b6 := mul_bd (M := 524288) (N := 16777217) (x := 2 * i * k) (y := b) (by omega) (by omega) (by omega) (by omega)
  have b7 := mul_bd (M := 262144) (N := 16777217) (x := i * i) (y := c) (by omega) (by omega) (by omega) (by omega)
  have b8 : 1 ≤ n * n := Int.mul_le_mul n0 n0 (by omega) (by omega)
  unfold flatten_mix_v3.f
  rw [w64 (n := n - i) (by omega) (by omega), show n - i = k by omega, w64 (n := k * k) (by omega) (by omega), w64 (n := k * k * a) (by omega) (by omega), w64 (n := 2 * i) (by omega) (by omega), w64 (n := 2 * i * k) (by omega) (by omega), w64 (n := 2 * i * k * b) (by omega) (by omega), w64 (n := i * i) (by omega) (by omega), w64 (n := i * i * c) (by omega) (by omega),
    w64 (n := k * k * a + 2 * i * k * b) (by omega) (by omega), w64 (n := k * k * a + 2 * i * k * b + i * i * c) (by omega) (by omega), w64 (n := n * n) (by omega) (by omega)]
  exact bind_of (round_f (by omega) (by omega) (by omega) (by omega)) rfl

theorem mix4 {i k n a b c d : Int} (hn : n = i + k) (i0 : 0 ≤ i) (i1 : i ≤ 512) (k0 : 0 ≤ k) (k1 : k ≤ 512) (n0 : 1 ≤ n) (ha : In a) (hb : In b) (hc : In c) (hd : In d) :
    flatten_mix_v4.f i n a b c d = some (rnd (k * k * k * a + 3 * i * k * k * b + 3 * i * i * k * c + i * i * i * d) (n * n * n)) := by
  unfold In at *
  have b1 := mul_bd (M := 512) (N := 512) (x := k) (y := k) (by omega) k1 (by omega) k1
  have b2 := mul_bd (M := 512) (N := 512) (x := i) (y := i) (by omega) i1 (by omega) i1
  have c1 := mul_bd (M := 262144) (N := 512) (x := k * k) (y := k) (by omega) (by omega) (by omega) k1
  have c2 := mul_bd (M := 262144) (N := 512) (x := i * i) (y := i) (by omega) (by omega) (by omega) i1
  have c3 := mul_bd (M := 1536) (N := 512) (x := 3 * i) (y := k) (by omega) (by omega) (by omega) k1
  have c4 := mul_bd (M := 786432) (N := 512) (x := 3 * i * k) (y := k) (by omega) (by omega) (by omega) k1
  have c5 := mul_bd (M := 1536) (N := 512) (x := 3 * i) (y := i) (by omega) (by omega) (by omega) i1
  have c6 := mul_bd (M := 786432) (N := 512) (x := 3 * i * i) (y := k) (by omega) (by omega) (by omega) k1
  have b4 := mul_bd (M := 1024) (N := 1024) (x := n) (y := n) (by omega) (by omega) (by omega) (by omega)
  have b4' := mul_bd (M := 1048576) (N := 1024) (x := n * n) (y := n) (by omega) (by omega) (by omega) (by omega)
  have d1 := mul_bd (M := 134217728) (N := 16777217) (x := k * k * k) (y := a) (by omega) (by omega) (by omega) (by omega)
  have d2 := mul_bd (M := 402653184) (N := 16777217) (x := 3 * i * k * k) (y := b) (by omega) (by omega) (by omega) (by omega)
  have d3 := mul_bd (M := 402653184) (N := 16777217) (x := 3 * i * i * k) (y := c) (by omega) (by omega) (by omega) (by omega)
  have d4 := mul_bd (M := 134217728) (N := 16777217) (x := i * i * i) (y := d) (by omega) (by omega) (by omega) (by omega)
  have b8 : 1 ≤ n * n := Int.mul_le_mul n0 n0 (by omega) (by omega)
  have b9 : 1 ≤ n * n * n := Int.mul_le_mul b8 n0 (by omega) (by omega)
  unfold flatten_mix_v4.f
  rw [w64 (n := n - i) (by omega) (by omega), show n - i = k by omega, w64 (n := k * k) (by omega) (by omega), w64 (n := k * k * k) (by omega) (by omega), w64 (n := k * k * k * a) (by omega) (by omega), w64 (n := 3 * i) (by omega) (by omega), w64 (n := 3 * i * k) (by omega) (by omega), w64 (n := 3 * i * k * k) (by omega) (by omega), w64 (n := 3 * i * k * k * b) (by omega) (by omega),
    w64 (n := 3 * i * i) (by omega) (by omega), w64 (n := 3 * i * i * k) (by omega) (by omega), w64 (n := 3 * i * i * k * c) (by omega) (by omega), w64 (n := i * i) (by omega) (by omega), w64 (n := i * i * i) (by omega) (by omega), w64 (n := i * i * i * d) (by omega) (by omega),
    w64 (n := k * k * k * a + 3 * i * k * k * b) (by omega) (by omega), w64 (n := k * k * k * a + 3 * i * k * k * b + 3 * i * i * k * c) (by omega) (by omega), w64 (n := k * k * k * a + 3 * i * k * k * b + 3 * i * i * k * c + i * i * i * d) (by omega) (by omega), w64 (n := n * n) (by omega) (by omega), w64 (n := n * n * n) (by omega) (by omega)]
  exact bind_of (round_f (by omega) (by omega) (by omega) (by omega)) rfl

theorem mix2 {i k n a b : Int} (hn : n = i + k) (i0 : 0 ≤ i) (i1 : i ≤ 512) (k0 : 0 ≤ k) (k1 : k ≤ 512) (n0 : 1 ≤ n) (ha : In a) (hb : In b) :
    flatten_mix_v5.f i n a b = some (rnd (k * a + i * b) n) := by
  unfold In at *
  have d1 := mul_bd (M := 512) (N := 16777217) (x := k) (y := a) (by omega) (by omega) (by omega) (by omega)
  have d2 := mul_bd (M := 512) (N := 16777217) (x := i) (y := b) (by omega) (by omega) (by omega) (by omega)
  unfold flatten_mix_v5.f
  rw [w64 (n := n - i) (by omega) (by omega), show n - i = k by omega, w64 (n := k * a) (by omega) (by omega), w64 (n := i * b) (by omega) (by omega), w64 (n := k * a + i * b) (by omega) (by omega)]
  exact bind_of (round_f (by omega) (by omega) (by omega) (by omega)) rfl

theorem pow_in {j : Nat} (h : j < 10) : ∃ K : Int, (1 : Int) * 2 ^ j = K ∧ 1 ≤ K ∧ K ≤ 512 := by
  have h1 : (2 : Nat) ^ j ≤ 2 ^ 9 := Nat.pow_le_pow_right (by omega) (by omega)
  have h2 : 1 ≤ (2 : Nat) ^ j := Nat.one_le_two_pow
  have e : (1 : Int) * 2 ^ j = ((2 ^ j : Nat) : Int) := by simp
  exact ⟨_, rfl, by rw [e]; omega, by rw [e]; omega⟩

theorem same_f (a b : Int) : glyphicref_SamePoint.f a b a b = some true := by
  unfold glyphicref_SamePoint.f
  rw [if_pos rfl]
  simp

theorem FlattenEnds : glyphiclaw21_FlattenEnds.Pure := by
  intro a0 a1 b0 b1 c0 c1 d0 d1 m _ _ _ _ _ _ _ _ _
  have hf : glyphiclaw21_first.f = some true := by decide +kernel
  unfold glyphiclaw21_FlattenEnds.f
  refine bind_of hf ?_
  rw [if_pos rfl]
  unfold glyphiclaw21_cut.f
  refine bind_of rfl (bind_of rfl (bind_of rfl (bind_of rfl ?_)))
  dsimp only
  have ha0 : In (Int.tmod a0 16777217) := tmod_in a0 (by omega)
  have ha1 : In (Int.tmod a1 16777217) := tmod_in a1 (by omega)
  have hb0 : In (Int.tmod b0 16777217) := tmod_in b0 (by omega)
  have hb1 : In (Int.tmod b1 16777217) := tmod_in b1 (by omega)
  have hc0 : In (Int.tmod c0 16777217) := tmod_in c0 (by omega)
  have hc1 : In (Int.tmod c1 16777217) := tmod_in c1 (by omega)
  have hd0 : In (Int.tmod d0 16777217) := tmod_in d0 (by omega)
  have hd1 : In (Int.tmod d1 16777217) := tmod_in d1 (by omega)
  generalize Int.tmod a0 16777217 = a0 at *
  generalize Int.tmod a1 16777217 = a1 at *
  generalize Int.tmod b0 16777217 = b0 at *
  generalize Int.tmod b1 16777217 = b1 at *
  generalize Int.tmod c0 16777217 = c0 at *
  generalize Int.tmod c1 16777217 = c1 at *
  generalize Int.tmod d0 16777217 = d0 at *
  generalize Int.tmod d1 16777217 = d1 at *
  obtain ⟨s, es, s0, s1⟩ := cyc m (b := 10) (by omega) (by omega)
  rw [es]
  obtain ⟨j, rfl⟩ := Int.eq_ofNat_of_zero_le s0
  have hj : j < 10 := by omega
  rw [wu64 (n := (j : Int)) (by omega) (by omega), if_neg (by omega), Int.toNat_natCast, Nat.min_eq_left (by omega)]
  obtain ⟨K, eK, K0, K1⟩ := pow_in hj
  rw [eK, w64 (n := K) (by omega) (by omega), w64 (n := 2 * K) (by omega) (by omega)]
  have p2 : 0 < K * K := Int.mul_pos (by omega) (by omega)
  have p3 : 0 < K * K * K := Int.mul_pos p2 (by omega)
  have M3 : ∀ {a b c : Int}, In a → In b → In c → flatten_mix_v3.f K (2 * K) a b c = some (rnd (a + 2 * b + c) 4) := fun {a b c} h1 h2 h3 => by
    rw [mix3 (i := K) (k := K) (by omega) (by omega) K1 (by omega) K1 (by omega) h1 h2 h3, show K * K * a + 2 * K * K * b + K * K * c = K * K * (a + 2 * b + c) by grind, show 2 * K * (2 * K) = K * K * 4 by grind, rnd_scale p2 (by omega)]
  have Z3 : ∀ {a b c : Int}, In a → In b → In c → flatten_mix_v3.f 0 K a b c = some a := fun {a b c} h1 h2 h3 => by
    rw [mix3 (i := 0) (k := K) (by omega) (by omega) (by omega) (by omega) K1 (by omega) h1 h2 h3, show K * K * a + 2 * 0 * K * b + 0 * 0 * c = a * (K * K) by grind, rnd_mulself p2]
  have E3 : ∀ {a b c : Int}, In a → In b → In c → flatten_mix_v3.f K K a b c = some c := fun {a b c} h1 h2 h3 => by
    rw [mix3 (i := K) (k := 0) (by omega) (by omega) K1 (by omega) (by omega) (by omega) h1 h2 h3, show 0 * 0 * a + 2 * K * 0 * b + K * K * c = c * (K * K) by grind, rnd_mulself p2]
  have M4 : ∀ {a b c d : Int}, In a → In b → In c → In d → flatten_mix_v4.f K (2 * K) a b c d = some (rnd (a + 3 * b + 3 * c + d) 8) := fun {a b c d} h1 h2 h3 h4 => by
    rw [mix4 (i := K) (k := K) (by omega) (by omega) K1 (by omega) K1 (by omega) h1 h2 h3 h4, show K * K * K * a + 3 * K * K * K * b + 3 * K * K * K * c + K * K * K * d = K * K * K * (a + 3 * b + 3 * c + d) by grind, show 2 * K * (2 * K) * (2 * K) = K * K * K * 8 by grind, rnd_scale p3 (by omega)]
  have Z4 : ∀ {a b c d : Int}, In a → In b → In c → In d → flatten_mix_v4.f 0 K a b c d = some a := fun {a b c d} h1 h2 h3 h4 => by
    rw [mix4 (i := 0) (k := K) (by omega) (by omega) (by omega) (by omega) K1 (by omega) h1 h2 h3 h4, show K * K * K * a + 3 * 0 * K * K * b + 3 * 0 * 0 * K * c + 0 * 0 * 0 * d = a * (K * K * K) by grind, rnd_mulself p3]
  have E4 : ∀ {a b c d : Int}, In a → In b → In c → In d → flatten_mix_v4.f K K a b c d = some d := fun {a b c d} h1 h2 h3 h4 => by
    rw [mix4 (i := K) (k := 0) (by omega) (by omega) K1 (by omega) (by omega) (by omega) h1 h2 h3 h4, show 0 * 0 * 0 * a + 3 * K * 0 * 0 * b + 3 * K * K * 0 * c + K * K * K * d = d * (K * K * K) by grind, rnd_mulself p3]
  have M2 : ∀ {a b : Int}, In a → In b → flatten_mix_v5.f K (2 * K) a b = some (rnd (a + b) 2) := fun {a b} h1 h2 => by
    rw [mix2 (i := K) (k := K) (by omega) (by omega) K1 (by omega) K1 (by omega) h1 h2, show K * a + K * b = K * (a + b) by grind, show 2 * K = K * 2 by omega, rnd_scale (by omega) (by omega)]
  unfold flatten_Point_v2.f flatten_Point_v3.f flatten_Point_v4.f flatten_Point_v5.f flatten_Point_v6.f flatten_points_v2.f flatten_points_v3.f flatten_points_v4.f
  refine bind_of (bind_of rfl (bind_of (M3 ha0 hb0 hc0) (bind_of (M3 ha1 hb1 hc1) rfl))) ?_
  refine bind_of (bind_of rfl (bind_of (M4 ha0 hb0 hc0 hd0) (bind_of (M4 ha1 hb1 hc1 hd1) rfl))) ?_
  refine bind_of (bind_of rfl (bind_of (M2 ha0 hb0) (bind_of (M2 ha1 hb1) rfl))) ?_
  refine bind_of (bind_of rfl (bind_of (Z3 ha0 hb0 hc0) (bind_of (Z3 ha1 hb1 hc1) rfl))) ?_
  dsimp only
  refine bind_of (same_f _ _) ?_
  rw [if_pos rfl]
  refine bind_of (bind_of rfl (bind_of (E3 ha0 hb0 hc0) (bind_of (E3 ha1 hb1 hc1) rfl))) ?_
  dsimp only
  refine bind_of (same_f _ _) ?_
  rw [if_pos rfl]
  refine bind_of (bind_of rfl (bind_of (Z4 ha0 hb0 hc0 hd0) (bind_of (Z4 ha1 hb1 hc1 hd1) rfl))) ?_
  dsimp only
  refine bind_of (same_f _ _) ?_
  rw [if_pos rfl]
  refine bind_of (bind_of rfl (bind_of (E4 ha0 hb0 hc0 hd0) (bind_of (E4 ha1 hb1 hc1 hd1) rfl))) ?_
  dsimp only
  refine bind_of (same_f _ _) ?_
  rw [if_pos rfl]
  unfold In at *
  rw [w64 (n := 2 * b0) (by omega) (by omega), w64 (n := a0 + 2 * b0) (by omega) (by omega), w64 (n := a0 + 2 * b0 + c0) (by omega) (by omega), w64 (n := 2 * b1) (by omega) (by omega), w64 (n := a1 + 2 * b1) (by omega) (by omega), w64 (n := a1 + 2 * b1 + c1) (by omega) (by omega),
    w64 (n := 3 * b0) (by omega) (by omega), w64 (n := 3 * c0) (by omega) (by omega), w64 (n := a0 + 3 * b0) (by omega) (by omega), w64 (n := a0 + 3 * b0 + 3 * c0) (by omega) (by omega), w64 (n := a0 + 3 * b0 + 3 * c0 + d0) (by omega) (by omega), w64 (n := a1 + b1) (by omega) (by omega)]
  refine bind_of (round1_f (by omega) (by omega) (by omega) (by omega)) ?_
  rw [if_pos rfl]
  refine bind_of (round1_f (by omega) (by omega) (by omega) (by omega)) ?_
  rw [if_pos rfl]
  refine bind_of (round1_f (by omega) (by omega) (by omega) (by omega)) ?_
  rw [if_pos rfl]
  refine bind_of (round1_f (by omega) (by omega) (by omega) (by omega)) ?_
  simp

end Go.Proofs.Ytijjgmkhgcofiaa.Pure
