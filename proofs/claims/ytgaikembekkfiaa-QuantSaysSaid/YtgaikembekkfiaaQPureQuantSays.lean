/- Proved: QuantSays is true for every input. -/
import Derived.Test.YtgaikembekkfiaaQQuantSaysx2
import Derived.OpenShut
namespace Go.Proofs.Ytgaikembekkfiaa.Pure
open Go.RowKit Go.Proofs.Ytgaikembekkfiaa.QQuantSays Go.Proofs.YtgaikembekkfiaaW.PrintWords Go.Proofs.YtgaikembekkfiaaW.PrintLast Go.Proofs.YtgaikembekkfiaaW.PrintMore

theorem bind_of {α β : Type} {o : Option α} {f : α → Option β} {x : α} {r : Option β} (h : o = some x) (h2 : f x = r) : o.bind f = r := by
  subst h
  exact h2

theorem w64 {n : Int} (h0 : -9223372036854775808 ≤ n) (h1 : n ≤ 9223372036854775807) : wrap64 n = n := by
  unfold wrap64
  omega

theorem div_is {a b q : Int} (hb : 0 < b) (h1 : q * b ≤ a) (h2 : a < q * b + b) : a / b = q := by
  apply Int.le_antisymm
  · exact Int.lt_add_one_iff.1 (Int.ediv_lt_of_lt_mul hb (by rw [Int.add_mul, Int.one_mul]; exact h2))
  · exact Int.le_ediv_of_mul_le hb h1

theorem div_in (a : Int) {b : Int} (hb : 0 < b) : a / b * b ≤ a ∧ a < a / b * b + b := by
  have h1 := Int.mul_ediv_add_emod a b
  have h2 := Int.emod_nonneg a (Int.ne_of_gt hb)
  have h3 := Int.emod_lt_of_pos a hb
  rw [Int.mul_comm] at h1
  omega

theorem div_bd (a : Int) {b : Int} (hb : 0 < b) : (0 ≤ a → 0 ≤ a / b ∧ a / b ≤ a) ∧ (a < 0 → a ≤ a / b ∧ a / b < 0) := by
  obtain ⟨h1, h2⟩ := div_in a hb
  refine ⟨fun h => ⟨Int.ediv_nonneg h (by omega), Int.ediv_le_self _ h⟩, fun h => ⟨?_, Int.ediv_neg_of_neg_of_pos h hb⟩⟩
  exact Int.le_ediv_of_mul_le hb (by
    have : a * b ≤ a * 1 := Int.mul_le_mul_of_nonpos_left (by omega) (by omega)
    omega)

/-- The nearest of a part, of two the greater. -/
def rnd (a b : Int) : Int := (2 * a + b) / (2 * b)

theorem rnd_is {a b q : Int} (hb : 0 < b) (h1 : 2 * (q * b) ≤ 2 * a + b) (h2 : 2 * a < 2 * (q * b) + b) : rnd a b = q := by
  unfold rnd
  apply div_is (by omega)
  · rw [Int.mul_left_comm]; omega
  · rw [Int.mul_left_comm]; omega

theorem rnd_in (a : Int) {b : Int} (hb : 0 < b) : 2 * (rnd a b * b) ≤ 2 * a + b ∧ 2 * a < 2 * (rnd a b * b) + b := by
  unfold rnd
  obtain ⟨h1, h2⟩ := div_in (2 * a + b) (b := 2 * b) (by omega)
  rw [Int.mul_left_comm] at h1 h2
  omega

theorem rnd_mono {a c b : Int} (hb : 0 < b) (h : a ≤ c) : rnd a b ≤ rnd c b := by
  unfold rnd
  exact Int.ediv_le_ediv (by omega) (by omega)

theorem down_f {a b : Int} (hb : 1 ≤ b) (ha0 : -9223372036854775808 ≤ a) (ha1 : a ≤ 9223372036854775807) : fixed_Down.f a b = some (a / b) := by
  unfold fixed_Down.f
  rw [if_neg (by omega), if_neg (by omega)]
  have hbd := div_bd a (b := b) (by omega)
  by_cases h : 0 ≤ a ∨ b ∣ a
  · have e1 : Int.tdiv a b = a / b := by rw [Int.tdiv_eq_ediv, if_pos h]; omega
    have e2 : Int.tmod a b = a % b := by rw [Int.tmod_eq_emod, if_pos h]; omega
    have h2 := Int.emod_nonneg a (show b ≠ 0 by omega)
    rw [e1, e2, if_neg (by omega), w64 (by omega) (by omega)]
  · have e1 : Int.tdiv a b = a / b + 1 := by rw [Int.tdiv_eq_ediv, if_neg h, Int.sign_eq_one_of_pos (by omega)]
    have e2 : Int.tmod a b = a % b - b := by rw [Int.tmod_eq_emod, if_neg h]; omega
    have h3 := Int.emod_lt_of_pos a (show 0 < b by omega)
    rw [e1, e2, if_pos (by omega), w64 (n := a / b + 1) (by omega) (by omega), w64 (by omega) (by omega)]
    congr 1
    omega

theorem round_f {a b : Int} (hb : 1 ≤ b) (hb1 : b ≤ 9223372036854775807) (ha0 : -9223372036854775808 ≤ a) (ha1 : a ≤ 9223372036854775807) : fixed_Round.f a b = some (rnd a b) := by
  unfold fixed_Round.f
  rw [if_neg (by omega), down_f hb ha0 ha1]
  simp only [Option.bind_some]
  obtain ⟨h1, h2⟩ := div_in a (b := b) (by omega)
  have hbd := div_bd a (b := b) (by omega)
  have e : wrap64 (a - wrap64 (a / b * b)) = a - a / b * b := by
    unfold wrap64
    omega
  rw [e, w64 (n := b - (a - a / b * b)) (by omega) (by omega)]
  by_cases h : a - a / b * b ≥ b - (a - a / b * b)
  · rw [if_pos h]
    have h3 : a / b + 1 ≤ 9223372036854775807 := by
      by_cases hq : a / b < 9223372036854775807
      · omega
      · by_cases h1b : b = 1
        · subst h1b; omega
        · have : a / b * 2 ≤ a / b * b := Int.mul_le_mul_of_nonneg_left (by omega) (by omega)
          omega
    rw [w64 (by omega) h3, rnd_is (q := a / b + 1) (by omega)]
    · rw [Int.add_mul]; omega
    · rw [Int.add_mul]; omega
  · rw [if_neg h, rnd_is (q := a / b) (by omega)]
    · omega
    · omega

theorem tmod_in (a : Int) {b : Int} (hb : 0 < b) : -b < Int.tmod a b ∧ Int.tmod a b < b := by
  rw [Int.tmod_eq_emod]
  have h2 := Int.emod_nonneg a (show b ≠ 0 by omega)
  have h3 := Int.emod_lt_of_pos a hb
  split
  · omega
  · have : ((b.natAbs : Nat) : Int) = b := by omega
    rename_i h
    have hne : a % b ≠ 0 := fun h0 => h (Or.inr (Int.dvd_of_emod_eq_zero h0))
    omega

theorem tmod_pos {a b : Int} (ha : 0 ≤ a) : Int.tmod a b = a % b := by
  rw [Int.tmod_eq_emod, if_pos (Or.inl ha)]; omega

theorem cyc (a : Int) {b : Int} (hb : 0 < b) (hb1 : b ≤ 4611686018427387903) : ∃ s, Int.tmod (wrap64 (Int.tmod a b + b)) b = s ∧ 0 ≤ s ∧ s < b := by
  have h := tmod_in a hb
  refine ⟨_, rfl, ?_⟩
  rw [w64 (by omega) (by omega), tmod_pos (by omega)]
  exact ⟨Int.emod_nonneg _ (by omega), Int.emod_lt_of_pos _ hb⟩

theorem rnd_near (a : Int) {b : Int} (hb : 0 < b) : rnd a b = a / b ∨ rnd a b = a / b + 1 := by
  obtain ⟨h1, h2⟩ := div_in a hb
  by_cases h : 2 * (a - a / b * b) < b
  · left
    exact rnd_is hb (by omega) (by omega)
  · right
    exact rnd_is hb (by rw [Int.add_mul]; omega) (by rw [Int.add_mul]; omega)

theorem rnd_next (a : Int) {b : Int} (hb : 0 < b) : rnd (a + b) b = rnd a b + 1 := by
  obtain ⟨h1, h2⟩ := rnd_in a hb
  exact rnd_is hb (by rw [Int.add_mul]; omega) (by rw [Int.add_mul]; omega)

theorem wrap_in (n : Int) : -9223372036854775808 ≤ wrap64 n ∧ wrap64 n ≤ 9223372036854775807 := by
  unfold wrap64
  omega

theorem six {s : Int} (h0 : 0 ≤ s) (h1 : s ≤ 6) : ∃ p, quant_steps.f s = some p ∧ 1 ≤ p ∧ p ≤ 64 ∧ glyphicref12_steps.f s = some p := by
  have hs : s = 0 ∨ s = 1 ∨ s = 2 ∨ s = 3 ∨ s = 4 ∨ s = 5 ∨ s = 6 := by omega
  rcases hs with rfl | rfl | rfl | rfl | rfl | rfl | rfl
  · exact ⟨1, by decide +kernel, by omega, by omega, by decide +kernel⟩
  · exact ⟨2, by decide +kernel, by omega, by omega, by decide +kernel⟩
  · exact ⟨4, by decide +kernel, by omega, by omega, by decide +kernel⟩
  · exact ⟨8, by decide +kernel, by omega, by omega, by decide +kernel⟩
  · exact ⟨16, by decide +kernel, by omega, by omega, by decide +kernel⟩
  · exact ⟨32, by decide +kernel, by omega, by omega, by decide +kernel⟩
  · exact ⟨64, by decide +kernel, by omega, by omega, by decide +kernel⟩

theorem steps_all (s : Int) : ∃ p, quant_steps.f s = some p ∧ 1 ≤ p ∧ p ≤ 64 ∧ glyphicref12_steps.f s = some p := by
  by_cases h6 : s > 6
  · obtain ⟨p, h1, h2, h3, h4⟩ := six (s := 6) (by omega) (by omega)
    refine ⟨p, ?_, h2, h3, ?_⟩
    · rw [← h1]
      unfold quant_steps.f
      rw [show mn (mx s 0) 6 = mn (mx 6 0) 6 from by unfold mn mx; omega]
    · rw [← h4]
      unfold glyphicref12_steps.f
      rw [show glyphicref1_Clamp.f s 0 6 = glyphicref1_Clamp.f 6 0 6 from by unfold glyphicref1_Clamp.f; rw [if_pos h6]; decide]
  · by_cases h0 : s < 0
    · obtain ⟨p, h1, h2, h3, h4⟩ := six (s := 0) (by omega) (by omega)
      refine ⟨p, ?_, h2, h3, ?_⟩
      · rw [← h1]
        unfold quant_steps.f
        rw [show mn (mx s 0) 6 = mn (mx 0 0) 6 from by unfold mn mx; omega]
      · rw [← h4]
        unfold glyphicref12_steps.f
        rw [show glyphicref1_Clamp.f s 0 6 = glyphicref1_Clamp.f 0 0 6 from by unfold glyphicref1_Clamp.f; rw [if_neg h6, if_pos h0]; decide]
    · exact six (by omega) (by omega)

theorem of_both (n s : Int) : ∃ v, quant_Of.f n s = some v ∧ glyphicref12_Of.f n s = some v := by
  obtain ⟨p, h1, h2, h3, h4⟩ := steps_all s
  have hw := wrap_in (n * p)
  have hr : fixed_Round.f (wrap64 (n * p)) 1000000 = some (rnd (wrap64 (n * p)) 1000000) := round_f (by omega) (by omega) hw.1 hw.2
  refine ⟨rnd (wrap64 (n * p)) 1000000, ?_, ?_⟩
  · unfold quant_Of.f
    exact bind_of h1 (bind_of hr rfl)
  · unfold glyphicref12_Of.f
    exact bind_of h4 (bind_of (show glyphicref1_Round.f (wrap64 (n * p)) 1000000 = _ from hr) rfl)

theorem back_both (n s : Int) : ∃ v, quant_Back.f n s = some v ∧ glyphicref12_Back.f n s = some v := by
  obtain ⟨p, h1, h2, h3, h4⟩ := steps_all s
  refine ⟨wrap64 (n * wrap64 (Int.tdiv 1000000 p)), ?_, ?_⟩
  · unfold quant_Back.f
    refine bind_of h1 ?_
    rw [if_neg (by omega)]
  · unfold glyphicref12_Back.f
    refine bind_of h4 ?_
    rw [if_neg (by omega)]

theorem QuantSays : glyphiclaw15_QuantSays.Pure := by
  intro a0 a1 a2 a3_0 a3_1 _ _ _ _ _
  have hf : glyphiclaw15_first.f = some true := by decide +kernel
  unfold glyphiclaw15_QuantSays.f
  refine bind_of hf ?_
  rw [if_pos rfl]
  obtain ⟨v, v1, v2⟩ := of_both (Int.tmod a0 1000000000000001) a2
  obtain ⟨b, b1, b2⟩ := back_both (Int.tmod a1 1099511627776) a2
  obtain ⟨x, x1, x2⟩ := of_both (Int.tmod a3_0 1000000000000001) a2
  obtain ⟨y, y1, y2⟩ := of_both (Int.tmod a3_1 1000000000000001) a2
  refine bind_of v1 (bind_of v2 ?_)
  rw [if_pos rfl]
  refine bind_of b1 (bind_of b2 ?_)
  rw [if_pos rfl]
  refine bind_of (x := (x, y)) ?_ (bind_of (x := (x, y)) ?_ (bind_of (x := true) ?_ rfl))
  · unfold quant_Point.f
    exact bind_of x1 (bind_of y1 rfl)
  · unfold glyphicref12_Point.f
    exact bind_of x2 (bind_of y2 rfl)
  · unfold glyphicref_SamePoint.f
    rw [if_pos rfl]
    simp

end Go.Proofs.Ytgaikembekkfiaa.Pure
