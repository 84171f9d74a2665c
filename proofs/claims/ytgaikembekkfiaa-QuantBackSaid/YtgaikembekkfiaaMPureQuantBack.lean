/- Proved: QuantBack is true for every input. -/
import Derived.Test.YtgaikembekkfiaaMQuantBackx1
namespace Go.Proofs.Ytgaikembekkfiaa.Pure
open Go.RowKit Go.Proofs.Ytgaikembekkfiaa.MQuantBack Go.Proofs.YtgaikembekkfiaaW.PrintWords Go.Proofs.YtgaikembekkfiaaW.PrintLast

theorem bind_of {α β : Type} {o : Option α} {f : α → Option β} {x : α} {r : Option β} (h : o = some x) (h2 : f x = r) : o.bind f = r := by
  subst h
  exact h2

theorem w64 {n : Int} (h0 : -9223372036854775808 ≤ n) (h1 : n ≤ 9223372036854775807) : wrap64 n = n := by
  unfold wrap64
  omega

theorem div_is {a b q : Int} (hb : 0 < b) (h1 : q * b ≤ a) (h2 : a < q * b + b) : a / b = q := by
  apply Int.le_antisymm
  · exact Int.lt_add_one_iff.1 (Int.ediv_lt_of_lt_mul hb (by rw [Int.add_mul, Int.one_mul]; exact h2))
  · exact Int.le_ediv_of_mul_le hb h1

theorem div_in (a : Int) {b : Int} (hb : 0 < b) : a / b * b ≤ a ∧ a < a / b * b + b := by
  have h1 := Int.mul_ediv_add_emod a b
  have h2 := Int.emod_nonneg a (Int.ne_of_gt hb)
  have h3 := Int.emod_lt_of_pos a hb
  rw [Int.mul_comm] at h1
  omega

theorem div_bd (a : Int) {b : Int} (hb : 0 < b) : (0 ≤ a → 0 ≤ a / b ∧ a / b ≤ a) ∧ (a < 0 → a ≤ a / b ∧ a / b < 0) := by
  obtain ⟨h1, h2⟩ := div_in a hb
  refine ⟨fun h => ⟨Int.ediv_nonneg h (by omega), Int.ediv_le_self _ h⟩, fun h => ⟨?_, Int.ediv_neg_of_neg_of_pos h hb⟩⟩
  exact Int.le_ediv_of_mul_le hb (by
    have : a * b ≤ a * 1 := Int.mul_le_mul_of_nonpos_left (by omega) (by omega)
    omega)

/-- The nearest of a part, of two the greater. -/
def rnd (a b : Int) : Int := (2 * a + b) / (2 * b)

theorem rnd_is {a b q : Int} (hb : 0 < b) (h1 : 2 * (q * b) ≤ 2 * a + b) (h2 : 2 * a < 2 * (q * b) + b) : rnd a b = q := by
  unfold rnd
  apply div_is (by omega)
  · rw [Int.mul_left_comm]; omega
  · rw [Int.mul_left_comm]; omega

theorem rnd_in (a : Int) {b : Int} (hb : 0 < b) : 2 * (rnd a b * b) ≤ 2 * a + b ∧ 2 * a < 2 * (rnd a b * b) + b := by
  unfold rnd
  obtain ⟨h1, h2⟩ := div_in (2 * a + b) (b := 2 * b) (by omega)
  rw [Int.mul_left_comm] at h1 h2
  omega

theorem rnd_mono {a c b : Int} (hb : 0 < b) (h : a ≤ c) : rnd a b ≤ rnd c b := by
  unfold rnd
  exact Int.ediv_le_ediv (by omega) (by omega)

theorem down_f {a b : Int} (hb : 1 ≤ b) (ha0 : -9223372036854775808 ≤ a) (ha1 : a ≤ 9223372036854775807) : fixed_Down.f a b = some (a / b) := by
  unfold fixed_Down.f
  rw [if_neg (by omega), if_neg (by omega)]
  have hbd := div_bd a (b := b) (by omega)
  by_cases h : 0 ≤ a ∨ b ∣ a
  · have e1 : Int.tdiv a b = a / b := by rw [Int.tdiv_eq_ediv, if_pos h]; omega
    have e2 : Int.tmod a b = a % b := by rw [Int.tmod_eq_emod, if_pos h]; omega
    have h2 := Int.emod_nonneg a (show b ≠ 0 by omega)
    rw [e1, e2, if_neg (by omega), w64 (by omega) (by omega)]
  · have e1 : Int.tdiv a b = a / b + 1 := by rw [Int.tdiv_eq_ediv, if_neg h, Int.sign_eq_one_of_pos (by omega)]
    have e2 : Int.tmod a b = a % b - b := by rw [Int.tmod_eq_emod, if_neg h]; omega
    have h3 := Int.emod_lt_of_pos a (show 0 < b by omega)
    rw [e1, e2, if_pos (by omega), w64 (n := a / b + 1) (by omega) (by omega), w64 (by omega) (by omega)]
    congr 1
    omega

theorem round_f {a b : Int} (hb : 1 ≤ b) (hb1 : b ≤ 9223372036854775807) (ha0 : -9223372036854775808 ≤ a) (ha1 : a ≤ 9223372036854775807) : fixed_Round.f a b = some (rnd a b) := by
  unfold fixed_Round.f
  rw [if_neg (by omega), down_f hb ha0 ha1]
  simp only [Option.bind_some]
  obtain ⟨h1, h2⟩ := div_in a (b := b) (by omega)
  have hbd := div_bd a (b := b) (by omega)
  have e : wrap64 (a - wrap64 (a / b * b)) = a - a / b * b := by
    unfold wrap64
    omega
  rw [e, w64 (n := b - (a - a / b * b)) (by omega) (by omega)]
  by_cases h : a - a / b * b ≥ b - (a - a / b * b)
  · rw [if_pos h]
    have h3 : a / b + 1 ≤ 9223372036854775807 := by
      by_cases hq : a / b < 9223372036854775807
      · omega
      · by_cases h1b : b = 1
        · subst h1b; omega
        · have : a / b * 2 ≤ a / b * b := Int.mul_le_mul_of_nonneg_left (by omega) (by omega)
          omega
    rw [w64 (by omega) h3, rnd_is (q := a / b + 1) (by omega)]
    · rw [Int.add_mul]; omega
    · rw [Int.add_mul]; omega
  · rw [if_neg h, rnd_is (q := a / b) (by omega)]
    · omega
    · omega

theorem tmod_in (a : Int) {b : Int} (hb : 0 < b) : -b < Int.tmod a b ∧ Int.tmod a b < b := by
  rw [Int.tmod_eq_emod]
  have h2 := Int.emod_nonneg a (show b ≠ 0 by omega)
  have h3 := Int.emod_lt_of_pos a hb
  split
  · omega
  · have : ((b.natAbs : Nat) : Int) = b := by omega
    rename_i h
    have hne : a % b ≠ 0 := fun h0 => h (Or.inr (Int.dvd_of_emod_eq_zero h0))
    omega

theorem tmod_pos {a b : Int} (ha : 0 ≤ a) : Int.tmod a b = a % b := by
  rw [Int.tmod_eq_emod, if_pos (Or.inl ha)]; omega

theorem cyc (a : Int) {b : Int} (hb : 0 < b) (hb1 : b ≤ 4611686018427387903) : ∃ s, Int.tmod (wrap64 (Int.tmod a b + b)) b = s ∧ 0 ≤ s ∧ s < b := by
  have h := tmod_in a hb
  refine ⟨_, rfl, ?_⟩
  rw [w64 (by omega) (by omega), tmod_pos (by omega)]
  exact ⟨Int.emod_nonneg _ (by omega), Int.emod_lt_of_pos _ hb⟩

theorem of_f {n s p : Int} (hs : quant_steps.f s = some p) (n0 : -9223372036854775808 ≤ n * p) (n1 : n * p ≤ 9223372036854775807) : quant_Of.f n s = some ((2 * (n * p) + 1000000) / 2000000) := by
  unfold quant_Of.f
  rw [hs]
  simp only [Option.bind_some]
  rw [w64 n0 n1, round_f (by omega) (by omega) n0 n1]
  simp only [Option.bind_some]
  unfold rnd
  simp

theorem back_f {i s p q : Int} (hs : quant_steps.f s = some p) (h1 : 1 ≤ p) (hq : Int.tdiv 1000000 p = q) (q0 : 0 ≤ q) (q1 : q ≤ 1000000) (n0 : -9223372036854775808 ≤ i * q) (n1 : i * q ≤ 9223372036854775807) : quant_Back.f i s = some (i * q) := by
  unfold quant_Back.f
  rw [hs]
  simp only [Option.bind_some]
  rw [if_neg (by omega), hq, w64 (n := q) (by omega) (by omega), w64 n0 n1]

theorem steps_f {s : Int} (h0 : 0 ≤ s) (h1 : s ≤ 6) : ∃ p q, quant_steps.f s = some p ∧ Int.tdiv 1000000 p = q ∧ shr .i64 1000000 (IntKind.u64.wrap s) = q ∧ 0 ≤ IntKind.u64.wrap s ∧ (p = 1 ∧ q = 1000000 ∨ p = 2 ∧ q = 500000 ∨ p = 4 ∧ q = 250000 ∨ p = 8 ∧ q = 125000 ∨ p = 16 ∧ q = 62500 ∨ p = 32 ∧ q = 31250 ∨ p = 64 ∧ q = 15625) := by
  have hs : s = 0 ∨ s = 1 ∨ s = 2 ∨ s = 3 ∨ s = 4 ∨ s = 5 ∨ s = 6 := by omega
  rcases hs with rfl | rfl | rfl | rfl | rfl | rfl | rfl
  · exact ⟨1, 1000000, by decide +kernel, by decide +kernel, by decide +kernel, by decide +kernel, by omega⟩
  · exact ⟨2, 500000, by decide +kernel, by decide +kernel, by decide +kernel, by decide +kernel, by omega⟩
  · exact ⟨4, 250000, by decide +kernel, by decide +kernel, by decide +kernel, by decide +kernel, by omega⟩
  · exact ⟨8, 125000, by decide +kernel, by decide +kernel, by decide +kernel, by decide +kernel, by omega⟩
  · exact ⟨16, 62500, by decide +kernel, by decide +kernel, by decide +kernel, by decide +kernel, by omega⟩
  · exact ⟨32, 31250, by decide +kernel, by decide +kernel, by decide +kernel, by decide +kernel, by omega⟩
  · exact ⟨64, 15625, by decide +kernel, by decide +kernel, by decide +kernel, by decide +kernel, by omega⟩

theorem QuantBack : glyphiclaw15_QuantBack.Pure := by
  intro a0 a1 a2 a3 w0 w1 w2 w3
  have hf : glyphiclaw15_first.f = some true := by decide +kernel
  obtain ⟨s, es, s0, s1⟩ := cyc a3 (b := 7) (by omega) (by omega)
  have bn := tmod_in a0 (b := 1000000000000001) (by omega)
  have bm := tmod_in a1 (b := 1000000000000001) (by omega)
  have bi := tmod_in a2 (b := 900000000) (by omega)
  refine ⟨1, ?_⟩
  unfold glyphiclaw15_QuantBack.f
  rw [hf]
  simp only [Option.bind_some, if_true, glyphiclaw15_QuantBack.j0]
  rw [es]
  generalize Int.tmod a0 1000000000000001 = n at *
  generalize Int.tmod a1 1000000000000001 = m at *
  generalize Int.tmod a2 900000000 = i at *
  obtain ⟨p, q, hp, hq, hsh, hu, hpq⟩ := steps_f s0 (by omega)
  rw [if_pos hu, hsh]
  have P1 : 1 ≤ p ∧ p ≤ 64 ∧ 0 ≤ q ∧ q ≤ 1000000 := by omega
  have on : quant_Of.f n s = some ((2 * (n * p) + 1000000) / 2000000) := of_f hp (by rcases hpq with ⟨rfl, rfl⟩ | ⟨rfl, rfl⟩ | ⟨rfl, rfl⟩ | ⟨rfl, rfl⟩ | ⟨rfl, rfl⟩ | ⟨rfl, rfl⟩ | ⟨rfl, rfl⟩ <;> omega) (by rcases hpq with ⟨rfl, rfl⟩ | ⟨rfl, rfl⟩ | ⟨rfl, rfl⟩ | ⟨rfl, rfl⟩ | ⟨rfl, rfl⟩ | ⟨rfl, rfl⟩ | ⟨rfl, rfl⟩ <;> omega)
  have om : quant_Of.f m s = some ((2 * (m * p) + 1000000) / 2000000) := of_f hp (by rcases hpq with ⟨rfl, rfl⟩ | ⟨rfl, rfl⟩ | ⟨rfl, rfl⟩ | ⟨rfl, rfl⟩ | ⟨rfl, rfl⟩ | ⟨rfl, rfl⟩ | ⟨rfl, rfl⟩ <;> omega) (by rcases hpq with ⟨rfl, rfl⟩ | ⟨rfl, rfl⟩ | ⟨rfl, rfl⟩ | ⟨rfl, rfl⟩ | ⟨rfl, rfl⟩ | ⟨rfl, rfl⟩ | ⟨rfl, rfl⟩ <;> omega)
  have bk : quant_Back.f ((2 * (n * p) + 1000000) / 2000000) s = some ((2 * (n * p) + 1000000) / 2000000 * q) := back_f hp (by omega) hq (by omega) (by omega) (by rcases hpq with ⟨rfl, rfl⟩ | ⟨rfl, rfl⟩ | ⟨rfl, rfl⟩ | ⟨rfl, rfl⟩ | ⟨rfl, rfl⟩ | ⟨rfl, rfl⟩ | ⟨rfl, rfl⟩ <;> omega) (by rcases hpq with ⟨rfl, rfl⟩ | ⟨rfl, rfl⟩ | ⟨rfl, rfl⟩ | ⟨rfl, rfl⟩ | ⟨rfl, rfl⟩ | ⟨rfl, rfl⟩ | ⟨rfl, rfl⟩ <;> omega)
  have bi' : quant_Back.f i s = some (i * q) := back_f hp (by omega) hq (by omega) (by omega) (by rcases hpq with ⟨rfl, rfl⟩ | ⟨rfl, rfl⟩ | ⟨rfl, rfl⟩ | ⟨rfl, rfl⟩ | ⟨rfl, rfl⟩ | ⟨rfl, rfl⟩ | ⟨rfl, rfl⟩ <;> omega) (by rcases hpq with ⟨rfl, rfl⟩ | ⟨rfl, rfl⟩ | ⟨rfl, rfl⟩ | ⟨rfl, rfl⟩ | ⟨rfl, rfl⟩ | ⟨rfl, rfl⟩ | ⟨rfl, rfl⟩ <;> omega)
  have oi : quant_Of.f (i * q) s = some i := by
    rw [of_f hp (by rcases hpq with ⟨rfl, rfl⟩ | ⟨rfl, rfl⟩ | ⟨rfl, rfl⟩ | ⟨rfl, rfl⟩ | ⟨rfl, rfl⟩ | ⟨rfl, rfl⟩ | ⟨rfl, rfl⟩ <;> omega) (by rcases hpq with ⟨rfl, rfl⟩ | ⟨rfl, rfl⟩ | ⟨rfl, rfl⟩ | ⟨rfl, rfl⟩ | ⟨rfl, rfl⟩ | ⟨rfl, rfl⟩ | ⟨rfl, rfl⟩ <;> omega)]
    congr 1
    rcases hpq with ⟨rfl, rfl⟩ | ⟨rfl, rfl⟩ | ⟨rfl, rfl⟩ | ⟨rfl, rfl⟩ | ⟨rfl, rfl⟩ | ⟨rfl, rfl⟩ | ⟨rfl, rfl⟩ <;> omega
  have b1 : quant_Back.f 1 s = some q := by
    rw [back_f hp (by omega) hq (by omega) (by omega) (by omega) (by omega), Int.one_mul]
  refine bind_of on ?_
  refine bind_of bk ?_
  have hd : wrap64 (2 * wrap64 ((2 * (n * p) + 1000000) / 2000000 * q - n)) = 2 * ((2 * (n * p) + 1000000) / 2000000 * q - n) ∧ 2 * ((2 * (n * p) + 1000000) / 2000000 * q - n) ≤ q ∧ 2 * ((2 * (n * p) + 1000000) / 2000000 * q - n) > -q := by
    unfold wrap64
    rcases hpq with ⟨rfl, rfl⟩ | ⟨rfl, rfl⟩ | ⟨rfl, rfl⟩ | ⟨rfl, rfl⟩ | ⟨rfl, rfl⟩ | ⟨rfl, rfl⟩ | ⟨rfl, rfl⟩ <;> omega
  rw [hd.1, w64 (n := -q) (by omega) (by omega)]
  have hb : (q == q) = true := by simp
  by_cases hnm : n > m
  · rw [if_pos hnm]
    refine bind_of bi' (bind_of oi ?_)
    rw [if_pos rfl, if_pos hd.2.1, if_pos hd.2.2]
    refine bind_of om (bind_of on ?_)
    rw [if_pos (by rcases hpq with ⟨rfl, rfl⟩ | ⟨rfl, rfl⟩ | ⟨rfl, rfl⟩ | ⟨rfl, rfl⟩ | ⟨rfl, rfl⟩ | ⟨rfl, rfl⟩ | ⟨rfl, rfl⟩ <;> omega)]
    refine bind_of b1 ?_
    rw [hb]
  · rw [if_neg hnm]
    refine bind_of bi' (bind_of oi ?_)
    rw [if_pos rfl, if_pos hd.2.1, if_pos hd.2.2]
    refine bind_of on (bind_of om ?_)
    rw [if_pos (by rcases hpq with ⟨rfl, rfl⟩ | ⟨rfl, rfl⟩ | ⟨rfl, rfl⟩ | ⟨rfl, rfl⟩ | ⟨rfl, rfl⟩ | ⟨rfl, rfl⟩ | ⟨rfl, rfl⟩ <;> omega)]
    refine bind_of b1 ?_
    rw [hb]

end Go.Proofs.Ytgaikembekkfiaa.Pure
