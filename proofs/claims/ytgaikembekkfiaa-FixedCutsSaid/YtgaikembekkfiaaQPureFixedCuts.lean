/- Proved: FixedCuts is true for every input. -/
import Derived.Test.YtgaikembekkfiaaQFixedCutsx1
import Derived.OpenShut
namespace Go.Proofs.Ytgaikembekkfiaa.Pure
open Go.RowKit Go.Proofs.Ytgaikembekkfiaa.QFixedCuts Go.Proofs.YtgaikembekkfiaaW.PrintWords Go.Proofs.YtgaikembekkfiaaW.PrintLast Go.Proofs.YtgaikembekkfiaaW.PrintMore

theorem bind_of {α β : Type} {o : Option α} {f : α → Option β} {x : α} {r : Option β} (h : o = some x) (h2 : f x = r) : o.bind f = r := by
  subst h
  exact h2

theorem w64 {n : Int} (h0 : -9223372036854775808 ≤ n) (h1 : n ≤ 9223372036854775807) : wrap64 n = n := by
  unfold wrap64
  omega

theorem div_is {a b q : Int} (hb : 0 < b) (h1 : q * b ≤ a) (h2 : a < q * b + b) : a / b = q := by
  apply Int.le_antisymm
  · exact Int.lt_add_one_iff.1 (Int.ediv_lt_of_lt_mul hb (by rw [Int.add_mul, Int.one_mul]; exact h2))
  · exact Int.le_ediv_of_mul_le hb h1

theorem div_in (a : Int) {b : Int} (hb : 0 < b) : a / b * b ≤ a ∧ a < a / b * b + b := by
  have h1 := Int.mul_ediv_add_emod a b
  have h2 := Int.emod_nonneg a (Int.ne_of_gt hb)
  have h3 := Int.emod_lt_of_pos a hb
  rw [Int.mul_comm] at h1
  omega

theorem div_bd (a : Int) {b : Int} (hb : 0 < b) : (0 ≤ a → 0 ≤ a / b ∧ a / b ≤ a) ∧ (a < 0 → a ≤ a / b ∧ a / b < 0) := by
  obtain ⟨h1, h2⟩ := div_in a hb
  refine ⟨fun h => ⟨Int.ediv_nonneg h (by omega), Int.ediv_le_self _ h⟩, fun h => ⟨?_, Int.ediv_neg_of_neg_of_pos h hb⟩⟩
  exact Int.le_ediv_of_mul_le hb (by
    have : a * b ≤ a * 1 := Int.mul_le_mul_of_nonpos_left (by omega) (by omega)
    omega)

/-- The nearest of a part, of two the greater. -/
def rnd (a b : Int) : Int := (2 * a + b) / (2 * b)

theorem rnd_is {a b q : Int} (hb : 0 < b) (h1 : 2 * (q * b) ≤ 2 * a + b) (h2 : 2 * a < 2 * (q * b) + b) : rnd a b = q := by
  unfold rnd
  apply div_is (by omega)
  · rw [Int.mul_left_comm]; omega
  · rw [Int.mul_left_comm]; omega

theorem rnd_in (a : Int) {b : Int} (hb : 0 < b) : 2 * (rnd a b * b) ≤ 2 * a + b ∧ 2 * a < 2 * (rnd a b * b) + b := by
  unfold rnd
  obtain ⟨h1, h2⟩ := div_in (2 * a + b) (b := 2 * b) (by omega)
  rw [Int.mul_left_comm] at h1 h2
  omega

theorem rnd_mono {a c b : Int} (hb : 0 < b) (h : a ≤ c) : rnd a b ≤ rnd c b := by
  unfold rnd
  exact Int.ediv_le_ediv (by omega) (by omega)

theorem down_f {a b : Int} (hb : 1 ≤ b) (ha0 : -9223372036854775808 ≤ a) (ha1 : a ≤ 9223372036854775807) : fixed_Down.f a b = some (a / b) := by
  unfold fixed_Down.f
  rw [if_neg (by omega), if_neg (by omega)]
  have hbd := div_bd a (b := b) (by omega)
  by_cases h : 0 ≤ a ∨ b ∣ a
  · have e1 : Int.tdiv a b = a / b := by rw [Int.tdiv_eq_ediv, if_pos h]; omega
    have e2 : Int.tmod a b = a % b := by rw [Int.tmod_eq_emod, if_pos h]; omega
    have h2 := Int.emod_nonneg a (show b ≠ 0 by omega)
    rw [e1, e2, if_neg (by omega), w64 (by omega) (by omega)]
  · have e1 : Int.tdiv a b = a / b + 1 := by rw [Int.tdiv_eq_ediv, if_neg h, Int.sign_eq_one_of_pos (by omega)]
    have e2 : Int.tmod a b = a % b - b := by rw [Int.tmod_eq_emod, if_neg h]; omega
    have h3 := Int.emod_lt_of_pos a (show 0 < b by omega)
    rw [e1, e2, if_pos (by omega), w64 (n := a / b + 1) (by omega) (by omega), w64 (by omega) (by omega)]
    congr 1
    omega

theorem round_f {a b : Int} (hb : 1 ≤ b) (hb1 : b ≤ 9223372036854775807) (ha0 : -9223372036854775808 ≤ a) (ha1 : a ≤ 9223372036854775807) : fixed_Round.f a b = some (rnd a b) := by
  unfold fixed_Round.f
  rw [if_neg (by omega), down_f hb ha0 ha1]
  simp only [Option.bind_some]
  obtain ⟨h1, h2⟩ := div_in a (b := b) (by omega)
  have hbd := div_bd a (b := b) (by omega)
  have e : wrap64 (a - wrap64 (a / b * b)) = a - a / b * b := by
    unfold wrap64
    omega
  rw [e, w64 (n := b - (a - a / b * b)) (by omega) (by omega)]
  by_cases h : a - a / b * b ≥ b - (a - a / b * b)
  · rw [if_pos h]
    have h3 : a / b + 1 ≤ 9223372036854775807 := by
      by_cases hq : a / b < 9223372036854775807
      · omega
      · by_cases h1b : b = 1
        · subst h1b; omega
        · have : a / b * 2 ≤ a / b * b := Int.mul_le_mul_of_nonneg_left (by omega) (by omega)
          omega
    rw [w64 (by omega) h3, rnd_is (q := a / b + 1) (by omega)]
    · rw [Int.add_mul]; omega
    · rw [Int.add_mul]; omega
  · rw [if_neg h, rnd_is (q := a / b) (by omega)]
    · omega
    · omega

theorem tmod_in (a : Int) {b : Int} (hb : 0 < b) : -b < Int.tmod a b ∧ Int.tmod a b < b := by
  rw [Int.tmod_eq_emod]
  have h2 := Int.emod_nonneg a (show b ≠ 0 by omega)
  have h3 := Int.emod_lt_of_pos a hb
  split
  · omega
  · have : ((b.natAbs : Nat) : Int) = b := by omega
    rename_i h
    have hne : a % b ≠ 0 := fun h0 => h (Or.inr (Int.dvd_of_emod_eq_zero h0))
    omega

theorem tmod_pos {a b : Int} (ha : 0 ≤ a) : Int.tmod a b = a % b := by
  rw [Int.tmod_eq_emod, if_pos (Or.inl ha)]; omega

theorem cyc (a : Int) {b : Int} (hb : 0 < b) (hb1 : b ≤ 4611686018427387903) : ∃ s, Int.tmod (wrap64 (Int.tmod a b + b)) b = s ∧ 0 ≤ s ∧ s < b := by
  have h := tmod_in a hb
  refine ⟨_, rfl, ?_⟩
  rw [w64 (by omega) (by omega), tmod_pos (by omega)]
  exact ⟨Int.emod_nonneg _ (by omega), Int.emod_lt_of_pos _ hb⟩

theorem rnd_near (a : Int) {b : Int} (hb : 0 < b) : rnd a b = a / b ∨ rnd a b = a / b + 1 := by
  obtain ⟨h1, h2⟩ := div_in a hb
  by_cases h : 2 * (a - a / b * b) < b
  · left
    exact rnd_is hb (by omega) (by omega)
  · right
    exact rnd_is hb (by rw [Int.add_mul]; omega) (by rw [Int.add_mul]; omega)

theorem rnd_next (a : Int) {b : Int} (hb : 0 < b) : rnd (a + b) b = rnd a b + 1 := by
  obtain ⟨h1, h2⟩ := rnd_in a hb
  exact rnd_is hb (by rw [Int.add_mul]; omega) (by rw [Int.add_mul]; omega)

theorem rnd_opposite (a : Int) {b : Int} (hb : 0 < b) : (2 * (a - a / b * b) = b → rnd (-a) b = 1 - rnd a b) ∧ (¬ 2 * (a - a / b * b) = b → rnd (-a) b = -rnd a b) := by
  obtain ⟨h1, h2⟩ := div_in a hb
  by_cases h : 2 * (a - a / b * b) < b
  · have e : rnd a b = a / b := rnd_is hb (by omega) (by omega)
    refine ⟨fun h' => by omega, fun _ => ?_⟩
    rw [e]
    exact rnd_is hb (by rw [Int.neg_mul]; omega) (by rw [Int.neg_mul]; omega)
  · have e : rnd a b = a / b + 1 := rnd_is hb (by rw [Int.add_mul]; omega) (by rw [Int.add_mul]; omega)
    refine ⟨fun h' => ?_, fun h' => ?_⟩
    · rw [e]
      exact rnd_is hb (by rw [Int.sub_mul, Int.add_mul]; omega) (by rw [Int.sub_mul, Int.add_mul]; omega)
    · rw [e]
      exact rnd_is hb (by rw [Int.neg_mul, Int.add_mul]; omega) (by rw [Int.neg_mul, Int.add_mul]; omega)

theorem FixedCuts : glyphiclaw1_FixedCuts.Pure := by
  intro a0 a1 a2 a3 a4 w0 w1 w2 w3 w4
  have hf : glyphiclaw1_first.f 40 = some true := by decide +kernel
  have b0 := bounds_i64 w0
  have b1 := bounds_i64 w1
  have b2 := bounds_i64 w2
  have b3 := bounds_i64 w3
  have b4 := bounds_i64 w4
  refine ⟨40, ?_⟩
  unfold glyphiclaw1_FixedCuts.f
  refine bind_of hf ?_
  rw [if_pos rfl]
  have last : ∀ lo hi a c : Int, lo ≤ hi → -1152921504606846976 ≤ a → a ≤ 1152921504606846975 → 0 ≤ c → c ≤ 9223372036854775807 → glyphiclaw1_FixedCuts.j1 39 a0 lo hi a c true (mx (mn a0 hi) lo) = some true := by
    intro lo hi a c h1 h2 h3 c0 c1
    have hb : 1 ≤ c / 16 + 1 ∧ c / 16 + 1 ≤ 576460752303423488 := by omega
    rw [glyphiclaw1_FixedCuts.j1, w64 (n := c / 16 + 1) (by omega) (by omega)]
    generalize c / 16 + 1 = b at *
    have D : fixed_Down.f a b = some (a / b) := down_f (by omega) (by omega) (by omega)
    have D' : glyphicref1_Down.f a b = some (a / b) := D
    have hbd := div_bd a (b := b) (by omega)
    obtain ⟨d1, d2⟩ := div_in a (b := b) (by omega)
    obtain ⟨o1, o2⟩ := rnd_opposite a (b := b) (by omega)
    obtain ⟨r1, r2⟩ := rnd_in a (b := b) (by omega)
    have rb : -1152921504606846977 ≤ rnd a b ∧ rnd a b ≤ 1152921504606846976 := by
      have := rnd_near a (b := b) (by omega)
      omega
    rw [w64 (n := -a) (by omega) (by omega)]
    refine bind_of (round_f (by omega) (by omega) (by omega) (by omega)) (bind_of (round_f (by omega) (by omega) (by omega) (by omega)) (bind_of D ?_))
    rw [if_pos rfl, w64 (n := a / b * b) (by omega) (by omega), w64 (n := a - a / b * b) (by omega) (by omega), w64 (n := 2 * (a - a / b * b)) (by omega) (by omega), w64 (n := 1 - rnd a b) (by omega) (by omega), w64 (n := -rnd a b) (by omega) (by omega)]
    rw [if_pos (by unfold mx mn; (repeat' split) <;> omega), if_pos (by unfold mx mn; (repeat' split) <;> omega)]
    have tail : (if 2 * (a - a / b * b) = b then if rnd (-a) b = 1 - rnd a b then (glyphicref1_Down.f a b).bind fun t110 => (fixed_Down.f a b).bind fun t111 => some (t110 == t111) else some false else if rnd (-a) b = -rnd a b then (glyphicref1_Down.f a b).bind fun t112 => (fixed_Down.f a b).bind fun t113 => some (t112 == t113) else some false) = some true := by
      by_cases hh : 2 * (a - a / b * b) = b
      · rw [if_pos hh, if_pos (o1 hh)]
        exact bind_of D' (bind_of D (by simp))
      · rw [if_neg hh, if_pos (o2 hh)]
        exact bind_of D' (bind_of D (by simp))
    by_cases k1 : a0 < lo
    · rw [if_pos k1]
      exact tail
    · rw [if_neg k1]
      by_cases k2 : a0 > hi
      · rw [if_pos k2]
        exact tail
      · rw [if_neg k2, if_pos (by unfold mx mn; (repeat' split) <;> omega)]
        exact tail
  have mid : ∀ lo hi : Int, lo ≤ hi → glyphiclaw1_FixedCuts.j0 40 a0 lo hi a3 a4 true = some true := by
    intro lo hi h
    rw [glyphiclaw1_FixedCuts.j0]
    refine bind_of (x := mx (mn a0 hi) lo) rfl ?_
    by_cases h4 : a4 < 0
    · rw [if_pos h4, w64 (n := a4 + 1) (by omega) (by omega), w64 (by omega) (by omega)]
      exact last _ _ _ _ h (by omega) (by omega) (by omega) (by omega)
    · rw [if_neg h4]
      exact last _ _ _ _ h (by omega) (by omega) (by omega) (by omega)
  by_cases h : a1 > a2
  · rw [if_pos h]
    exact mid _ _ (by omega)
  · rw [if_neg h]
    exact mid _ _ (by omega)

end Go.Proofs.Ytgaikembekkfiaa.Pure
