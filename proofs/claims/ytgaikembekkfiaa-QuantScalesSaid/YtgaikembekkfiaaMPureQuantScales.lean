/- Proved: QuantScales is true for every input. -/
import Derived.Test.YtgaikembekkfiaaMQuantScalesx1
namespace Go.Proofs.Ytgaikembekkfiaa.Pure
open Go.RowKit Go.Proofs.Ytgaikembekkfiaa.MQuantScales Go.Proofs.YtgaikembekkfiaaW.PrintWords Go.Proofs.YtgaikembekkfiaaW.PrintLast

theorem bind_of {α β : Type} {o : Option α} {f : α → Option β} {x : α} {r : Option β} (h : o = some x) (h2 : f x = r) : o.bind f = r := by
  subst h
  exact h2

theorem w64 {n : Int} (h0 : -9223372036854775808 ≤ n) (h1 : n ≤ 9223372036854775807) : wrap64 n = n := by
  unfold wrap64
  omega

theorem div_is {a b q : Int} (hb : 0 < b) (h1 : q * b ≤ a) (h2 : a < q * b + b) : a / b = q := by
  apply Int.le_antisymm
  · exact Int.lt_add_one_iff.1 (Int.ediv_lt_of_lt_mul hb (by rw [Int.add_mul, Int.one_mul]; exact h2))
  · exact Int.le_ediv_of_mul_le hb h1

theorem div_in (a : Int) {b : Int} (hb : 0 < b) : a / b * b ≤ a ∧ a < a / b * b + b := by
  have h1 := Int.mul_ediv_add_emod a b
  have h2 := Int.emod_nonneg a (Int.ne_of_gt hb)
  have h3 := Int.emod_lt_of_pos a hb
  rw [Int.mul_comm] at h1
  omega

theorem div_bd (a : Int) {b : Int} (hb : 0 < b) : (0 ≤ a → 0 ≤ a / b ∧ a / b ≤ a) ∧ (a < 0 → a ≤ a / b ∧ a / b < 0) := by
  obtain ⟨h1, h2⟩ := div_in a hb
  refine ⟨fun h => ⟨Int.ediv_nonneg h (by omega), Int.ediv_le_self _ h⟩, fun h => ⟨?_, Int.ediv_neg_of_neg_of_pos h hb⟩⟩
  exact Int.le_ediv_of_mul_le hb (by
    have : a * b ≤ a * 1 := Int.mul_le_mul_of_nonpos_left (by omega) (by omega)
    omega)

/-- The nearest of a part, of two the greater. -/
def rnd (a b : Int) : Int := (2 * a + b) / (2 * b)

theorem rnd_is {a b q : Int} (hb : 0 < b) (h1 : 2 * (q * b) ≤ 2 * a + b) (h2 : 2 * a < 2 * (q * b) + b) : rnd a b = q := by
  unfold rnd
  apply div_is (by omega)
  · rw [Int.mul_left_comm]; omega
  · rw [Int.mul_left_comm]; omega

theorem rnd_in (a : Int) {b : Int} (hb : 0 < b) : 2 * (rnd a b * b) ≤ 2 * a + b ∧ 2 * a < 2 * (rnd a b * b) + b := by
  unfold rnd
  obtain ⟨h1, h2⟩ := div_in (2 * a + b) (b := 2 * b) (by omega)
  rw [Int.mul_left_comm] at h1 h2
  omega

theorem rnd_mono {a c b : Int} (hb : 0 < b) (h : a ≤ c) : rnd a b ≤ rnd c b := by
  unfold rnd
  exact Int.ediv_le_ediv (by omega) (by omega)

theorem down_f {a b : Int} (hb : 1 ≤ b) (ha0 : -9223372036854775808 ≤ a) (ha1 : a ≤ 9223372036854775807) : fixed_Down.f a b = some (a / b) := by
  unfold fixed_Down.f
  rw [if_neg (by omega), if_neg (by omega)]
  have hbd := div_bd a (b := b) (by omega)
  by_cases h : 0 ≤ a ∨ b ∣ a
  · have e1 : Int.tdiv a b = a / b := by rw [Int.tdiv_eq_ediv, if_pos h]; omega
    have e2 : Int.tmod a b = a % b := by rw [Int.tmod_eq_emod, if_pos h]; omega
    have h2 := Int.emod_nonneg a (show b ≠ 0 by omega)
    rw [e1, e2, if_neg (by omega), w64 (by omega) (by omega)]
  · have e1 : Int.tdiv a b = a / b + 1 := by rw [Int.tdiv_eq_ediv, if_neg h, Int.sign_eq_one_of_pos (by omega)]
    have e2 : Int.tmod a b = a % b - b := by rw [Int.tmod_eq_emod, if_neg h]; omega
    have h3 := Int.emod_lt_of_pos a (show 0 < b by omega)
    rw [e1, e2, if_pos (by omega), w64 (n := a / b + 1) (by omega) (by omega), w64 (by omega) (by omega)]
    congr 1
    omega

theorem round_f {a b : Int} (hb : 1 ≤ b) (hb1 : b ≤ 9223372036854775807) (ha0 : -9223372036854775808 ≤ a) (ha1 : a ≤ 9223372036854775807) : fixed_Round.f a b = some (rnd a b) := by
  unfold fixed_Round.f
  rw [if_neg (by omega), down_f hb ha0 ha1]
  simp only [Option.bind_some]
  obtain ⟨h1, h2⟩ := div_in a (b := b) (by omega)
  have hbd := div_bd a (b := b) (by omega)
  have e : wrap64 (a - wrap64 (a / b * b)) = a - a / b * b := by
    unfold wrap64
    omega
  rw [e, w64 (n := b - (a - a / b * b)) (by omega) (by omega)]
  by_cases h : a - a / b * b ≥ b - (a - a / b * b)
  · rw [if_pos h]
    have h3 : a / b + 1 ≤ 9223372036854775807 := by
      by_cases hq : a / b < 9223372036854775807
      · omega
      · by_cases h1b : b = 1
        · subst h1b; omega
        · have : a / b * 2 ≤ a / b * b := Int.mul_le_mul_of_nonneg_left (by omega) (by omega)
          omega
    rw [w64 (by omega) h3, rnd_is (q := a / b + 1) (by omega)]
    · rw [Int.add_mul]; omega
    · rw [Int.add_mul]; omega
  · rw [if_neg h, rnd_is (q := a / b) (by omega)]
    · omega
    · omega

theorem tmod_in (a : Int) {b : Int} (hb : 0 < b) : -b < Int.tmod a b ∧ Int.tmod a b < b := by
  rw [Int.tmod_eq_emod]
  have h2 := Int.emod_nonneg a (show b ≠ 0 by omega)
  have h3 := Int.emod_lt_of_pos a hb
  split
  · omega
  · have : ((b.natAbs : Nat) : Int) = b := by omega
    rename_i h
    have hne : a % b ≠ 0 := fun h0 => h (Or.inr (Int.dvd_of_emod_eq_zero h0))
    omega

theorem tmod_pos {a b : Int} (ha : 0 ≤ a) : Int.tmod a b = a % b := by
  rw [Int.tmod_eq_emod, if_pos (Or.inl ha)]; omega

theorem cyc (a : Int) {b : Int} (hb : 0 < b) (hb1 : b ≤ 4611686018427387903) : ∃ s, Int.tmod (wrap64 (Int.tmod a b + b)) b = s ∧ 0 ≤ s ∧ s < b := by
  have h := tmod_in a hb
  refine ⟨_, rfl, ?_⟩
  rw [w64 (by omega) (by omega), tmod_pos (by omega)]
  exact ⟨Int.emod_nonneg _ (by omega), Int.emod_lt_of_pos _ hb⟩

theorem of_f {n s p : Int} (hs : quant_steps.f s = some p) (n0 : -9223372036854775808 ≤ n * p) (n1 : n * p ≤ 9223372036854775807) : quant_Of.f n s = some ((2 * (n * p) + 1000000) / 2000000) := by
  unfold quant_Of.f
  rw [hs]
  simp only [Option.bind_some]
  rw [w64 n0 n1, round_f (by omega) (by omega) n0 n1]
  simp only [Option.bind_some]
  unfold rnd
  simp

theorem back_f {i s p q : Int} (hs : quant_steps.f s = some p) (h1 : 1 ≤ p) (hq : Int.tdiv 1000000 p = q) (q0 : 0 ≤ q) (q1 : q ≤ 1000000) (n0 : -9223372036854775808 ≤ i * q) (n1 : i * q ≤ 9223372036854775807) : quant_Back.f i s = some (i * q) := by
  unfold quant_Back.f
  rw [hs]
  simp only [Option.bind_some]
  rw [if_neg (by omega), hq, w64 (n := q) (by omega) (by omega), w64 n0 n1]

theorem steps_f {s : Int} (h0 : 0 ≤ s) (h1 : s ≤ 6) : ∃ p q, quant_steps.f s = some p ∧ Int.tdiv 1000000 p = q ∧ shr .i64 1000000 (IntKind.u64.wrap s) = q ∧ 0 ≤ IntKind.u64.wrap s ∧ (p = 1 ∧ q = 1000000 ∨ p = 2 ∧ q = 500000 ∨ p = 4 ∧ q = 250000 ∨ p = 8 ∧ q = 125000 ∨ p = 16 ∧ q = 62500 ∨ p = 32 ∧ q = 31250 ∨ p = 64 ∧ q = 15625) := by
  have hs : s = 0 ∨ s = 1 ∨ s = 2 ∨ s = 3 ∨ s = 4 ∨ s = 5 ∨ s = 6 := by omega
  rcases hs with rfl | rfl | rfl | rfl | rfl | rfl | rfl
  · exact ⟨1, 1000000, by decide +kernel, by decide +kernel, by decide +kernel, by decide +kernel, by omega⟩
  · exact ⟨2, 500000, by decide +kernel, by decide +kernel, by decide +kernel, by decide +kernel, by omega⟩
  · exact ⟨4, 250000, by decide +kernel, by decide +kernel, by decide +kernel, by decide +kernel, by omega⟩
  · exact ⟨8, 125000, by decide +kernel, by decide +kernel, by decide +kernel, by decide +kernel, by omega⟩
  · exact ⟨16, 62500, by decide +kernel, by decide +kernel, by decide +kernel, by decide +kernel, by omega⟩
  · exact ⟨32, 31250, by decide +kernel, by decide +kernel, by decide +kernel, by decide +kernel, by omega⟩
  · exact ⟨64, 15625, by decide +kernel, by decide +kernel, by decide +kernel, by decide +kernel, by omega⟩

theorem point_f {x y s a b : Int} (h1 : quant_Of.f x s = some a) (h2 : quant_Of.f y s = some b) : quant_Point.f x y s = some (a, b) := by
  unfold quant_Point.f
  exact bind_of h1 (bind_of h2 rfl)

theorem of_same {n s t : Int} (h : quant_steps.f s = quant_steps.f t) : quant_Of.f n s = quant_Of.f n t := by
  unfold quant_Of.f
  rw [h]

theorem back_same {n s t : Int} (h : quant_steps.f s = quant_steps.f t) : quant_Back.f n s = quant_Back.f n t := by
  unfold quant_Back.f
  rw [h]

theorem two_tab {s : Int} (h0 : 0 ≤ s) (h1 : s ≤ 5) : ∃ p q p' q', quant_steps.f s = some p ∧ Int.tdiv 1000000 p = q ∧ quant_steps.f (s + 1) = some p' ∧ Int.tdiv 1000000 p' = q' ∧ (p = 1 ∧ q = 1000000 ∧ p' = 2 ∧ q' = 500000 ∨ p = 2 ∧ q = 500000 ∧ p' = 4 ∧ q' = 250000 ∨ p = 4 ∧ q = 250000 ∧ p' = 8 ∧ q' = 125000 ∨ p = 8 ∧ q = 125000 ∧ p' = 16 ∧ q' = 62500 ∨ p = 16 ∧ q = 62500 ∧ p' = 32 ∧ q' = 31250 ∨ p = 32 ∧ q = 31250 ∧ p' = 64 ∧ q' = 15625) := by
  have hs : s = 0 ∨ s = 1 ∨ s = 2 ∨ s = 3 ∨ s = 4 ∨ s = 5 := by omega
  rcases hs with rfl | rfl | rfl | rfl | rfl | rfl
  · exact ⟨1, 1000000, 2, 500000, by decide +kernel, by decide +kernel, by decide +kernel, by decide +kernel, by omega⟩
  · exact ⟨2, 500000, 4, 250000, by decide +kernel, by decide +kernel, by decide +kernel, by decide +kernel, by omega⟩
  · exact ⟨4, 250000, 8, 125000, by decide +kernel, by decide +kernel, by decide +kernel, by decide +kernel, by omega⟩
  · exact ⟨8, 125000, 16, 62500, by decide +kernel, by decide +kernel, by decide +kernel, by decide +kernel, by omega⟩
  · exact ⟨16, 62500, 32, 31250, by decide +kernel, by decide +kernel, by decide +kernel, by decide +kernel, by omega⟩
  · exact ⟨32, 31250, 64, 15625, by decide +kernel, by decide +kernel, by decide +kernel, by decide +kernel, by omega⟩

theorem last (k : Nat) {i s raw want n : Int} (i0 : -500000000 < i) (i1 : i < 500000000) (s0 : 0 ≤ s) (s1 : s < 6) (hn : quant_Back.f i s = some n) (w0 : 0 ≤ want) (w1 : want ≤ 6) (hs : quant_steps.f raw = quant_steps.f want) :
    glyphiclaw15_QuantScales.j2 (k + 1) i s raw true n want = some true := by
  obtain ⟨p, q, p', q', hp, hq, hp', hq', hpq⟩ := two_tab s0 (by omega)
  obtain ⟨p2, q2, hp2, hq2, _, _, hpq2⟩ := steps_f w0 w1
  have en : n = i * q := by
    rw [back_f hp (by omega) hq (by omega) (by omega) (by rcases hpq with ⟨rfl, rfl, rfl, rfl⟩ | ⟨rfl, rfl, rfl, rfl⟩ | ⟨rfl, rfl, rfl, rfl⟩ | ⟨rfl, rfl, rfl, rfl⟩ | ⟨rfl, rfl, rfl, rfl⟩ | ⟨rfl, rfl, rfl, rfl⟩ <;> omega) (by rcases hpq with ⟨rfl, rfl, rfl, rfl⟩ | ⟨rfl, rfl, rfl, rfl⟩ | ⟨rfl, rfl, rfl, rfl⟩ | ⟨rfl, rfl, rfl, rfl⟩ | ⟨rfl, rfl, rfl, rfl⟩ | ⟨rfl, rfl, rfl, rfl⟩ <;> omega)] at hn
    exact (Option.some.inj hn).symm
  have bn : -500000000000000 < n ∧ n < 500000000000000 := by
    rcases hpq with ⟨rfl, rfl, rfl, rfl⟩ | ⟨rfl, rfl, rfl, rfl⟩ | ⟨rfl, rfl, rfl, rfl⟩ | ⟨rfl, rfl, rfl, rfl⟩ | ⟨rfl, rfl, rfl, rfl⟩ | ⟨rfl, rfl, rfl, rfl⟩ <;> omega
  have e1 : n * p' = 2 * i * 1000000 ∧ -n * p' = -2 * i * 1000000 ∧ 2 * i * q' = n := by
    rcases hpq with ⟨rfl, rfl, rfl, rfl⟩ | ⟨rfl, rfl, rfl, rfl⟩ | ⟨rfl, rfl, rfl, rfl⟩ | ⟨rfl, rfl, rfl, rfl⟩ | ⟨rfl, rfl, rfl, rfl⟩ | ⟨rfl, rfl, rfl, rfl⟩ <;> omega
  have hO : quant_Of.f n (s + 1) = some (2 * i) := by
    rw [of_f hp' (by omega) (by omega), e1.1]
    congr 1
    omega
  have hO' : quant_Of.f (-n) (s + 1) = some (-2 * i) := by
    rw [of_f hp' (by omega) (by omega), e1.2.1]
    congr 1
    omega
  have hB : quant_Back.f (2 * i) (s + 1) = some n := by
    rw [back_f hp' (by omega) hq' (by omega) (by omega) (by omega) (by omega), e1.2.2]
  have P2 : 1 ≤ p2 ∧ p2 ≤ 64 ∧ 0 ≤ q2 ∧ q2 ≤ 1000000 := by omega
  have hOw : quant_Of.f n want = some ((2 * (n * p2) + 1000000) / 2000000) := of_f hp2 (by rcases hpq2 with ⟨rfl, rfl⟩ | ⟨rfl, rfl⟩ | ⟨rfl, rfl⟩ | ⟨rfl, rfl⟩ | ⟨rfl, rfl⟩ | ⟨rfl, rfl⟩ | ⟨rfl, rfl⟩ <;> omega) (by rcases hpq2 with ⟨rfl, rfl⟩ | ⟨rfl, rfl⟩ | ⟨rfl, rfl⟩ | ⟨rfl, rfl⟩ | ⟨rfl, rfl⟩ | ⟨rfl, rfl⟩ | ⟨rfl, rfl⟩ <;> omega)
  have hBw : quant_Back.f i want = some (i * q2) := back_f hp2 (by omega) hq2 (by omega) (by omega) (by rcases hpq2 with ⟨rfl, rfl⟩ | ⟨rfl, rfl⟩ | ⟨rfl, rfl⟩ | ⟨rfl, rfl⟩ | ⟨rfl, rfl⟩ | ⟨rfl, rfl⟩ | ⟨rfl, rfl⟩ <;> omega) (by rcases hpq2 with ⟨rfl, rfl⟩ | ⟨rfl, rfl⟩ | ⟨rfl, rfl⟩ | ⟨rfl, rfl⟩ | ⟨rfl, rfl⟩ | ⟨rfl, rfl⟩ | ⟨rfl, rfl⟩ <;> omega)
  have hO0 : quant_Of.f 0 want = some 0 := by
    rw [of_f hp2 (by omega) (by omega), Int.zero_mul]
    rfl
  clear e1
  rw [glyphiclaw15_QuantScales.j2]
  rw [w64 (n := s + 1) (by omega) (by omega), w64 (n := -n) (by omega) (by omega), w64 (n := 2 * i) (by omega) (by omega), w64 (n := -2 * i) (by omega) (by omega), of_same hs, back_same hs, of_same (n := 0) hs]
  refine bind_of (point_f hO hO') ?_
  rw [if_pos rfl]
  refine bind_of hO ?_
  rw [if_pos rfl]
  refine bind_of hB ?_
  rw [if_pos rfl, if_pos rfl, if_pos rfl]
  refine bind_of hOw (bind_of hOw ?_)
  rw [if_pos rfl]
  refine bind_of hBw (bind_of hBw ?_)
  rw [if_pos rfl]
  exact bind_of hO0 rfl

theorem QuantScales : glyphiclaw15_QuantScales.Pure := by
  intro a0 a1 a2 w0 w1 w2
  have hf : glyphiclaw15_first.f = some true := by decide +kernel
  obtain ⟨s, es, s0, s1⟩ := cyc a1 (b := 6) (by omega) (by omega)
  have bn := tmod_in a0 (b := 500000000) (by omega)
  refine ⟨3, ?_⟩
  unfold glyphiclaw15_QuantScales.f
  refine bind_of hf ?_
  rw [if_pos rfl, es]
  generalize Int.tmod a0 500000000 = i at *
  obtain ⟨p, q, p', q', hp, hq, hp', hq', hpq⟩ := two_tab s0 (by omega)
  have hn : quant_Back.f i s = some (i * q) := back_f hp (by omega) hq (by omega) (by omega) (by rcases hpq with ⟨rfl, rfl, rfl, rfl⟩ | ⟨rfl, rfl, rfl, rfl⟩ | ⟨rfl, rfl, rfl, rfl⟩ | ⟨rfl, rfl, rfl, rfl⟩ | ⟨rfl, rfl, rfl, rfl⟩ | ⟨rfl, rfl, rfl, rfl⟩ <;> omega) (by rcases hpq with ⟨rfl, rfl, rfl, rfl⟩ | ⟨rfl, rfl, rfl, rfl⟩ | ⟨rfl, rfl, rfl, rfl⟩ | ⟨rfl, rfl, rfl, rfl⟩ | ⟨rfl, rfl, rfl, rfl⟩ | ⟨rfl, rfl, rfl, rfl⟩ <;> omega)
  refine bind_of hn ?_
  by_cases h6 : a2 > 6
  · rw [if_pos h6]
    rw [glyphiclaw15_QuantScales.j0]
    rw [if_pos (by omega), show decide (a2 ≤ 6) = false from decide_eq_false (by omega)]
    rw [glyphiclaw15_QuantScales.j1]
    rw [if_neg (by decide)]
    refine last 0 (by omega) (by omega) s0 s1 hn (by omega) (by omega) ?_
    unfold quant_steps.f
    rw [show mn (mx a2 0) 6 = mn (mx 6 0) 6 from by unfold mn mx; omega]
  · rw [if_neg h6]
    by_cases h0 : a2 ≥ 0
    · rw [glyphiclaw15_QuantScales.j0]
      rw [if_pos h0, show decide (a2 ≤ 6) = true from decide_eq_true (by omega)]
      rw [glyphiclaw15_QuantScales.j1]
      rw [if_pos rfl]
      exact last 0 (by omega) (by omega) s0 s1 hn (by omega) (by omega) rfl
    · rw [glyphiclaw15_QuantScales.j0]
      rw [if_neg h0]
      rw [glyphiclaw15_QuantScales.j1]
      rw [if_neg (by decide)]
      refine last 0 (by omega) (by omega) s0 s1 hn (by omega) (by omega) ?_
      unfold quant_steps.f
      rw [show mn (mx a2 0) 6 = mn (mx 0 0) 6 from by unfold mn mx; omega]

end Go.Proofs.Ytgaikembekkfiaa.Pure
