/- the plain law of ScaleSteps -/
import Derived.Test.YtiaigehjogpcaaaDoorQScaleStepsx0
import Derived.OpenShut
namespace Go.Proofs.YtiaigehjogpcaaaDoor.Pure
open Go Go.RowKit Go.Proofs.YtiaigehjogpcaaaDoor.QScaleSteps Go.Proofs.YtiaigehjogpcaaaDoorE
set_option linter.unusedVariables false

theorem bind_of {α β : Type} {o : Option α} {f : α → Option β} {x : α} {r : Option β} (h : o = some x) (h2 : f x = r) : o.bind f = r := by
  subst h
  exact h2

theorem div_is {a b q : Int} (hb : 0 < b) (h1 : q * b ≤ a) (h2 : a < q * b + b) : a / b = q := by
  apply Int.le_antisymm
  · exact Int.lt_add_one_iff.1 (Int.ediv_lt_of_lt_mul hb (by rw [Int.add_mul, Int.one_mul]; exact h2))
  · exact Int.le_ediv_of_mul_le hb h1

theorem div_in (a : Int) {b : Int} (hb : 0 < b) : a / b * b ≤ a ∧ a < a / b * b + b := by
  have h1 := Int.mul_ediv_add_emod a b
  have h2 := Int.emod_nonneg a (Int.ne_of_gt hb)
  have h3 := Int.emod_lt_of_pos a hb
  rw [Int.mul_comm] at h1
  omega

theorem div_bd (a : Int) {b : Int} (hb : 0 < b) : (0 ≤ a → 0 ≤ a / b ∧ a / b ≤ a) ∧ (a < 0 → a ≤ a / b ∧ a / b < 0) := by
  obtain ⟨h1, h2⟩ := div_in a hb
  refine ⟨fun h => ⟨Int.ediv_nonneg h (by omega), Int.ediv_le_self _ h⟩, fun h => ⟨?_, Int.ediv_neg_of_neg_of_pos h hb⟩⟩
  exact Int.le_ediv_of_mul_le hb (by
    have : a * b ≤ a * 1 := Int.mul_le_mul_of_nonpos_left (by omega) (by omega)
    omega)

theorem tmod_in (a : Int) {b : Int} (hb : 0 < b) : -b < Int.tmod a b ∧ Int.tmod a b < b := by
  rw [Int.tmod_eq_emod]
  have h2 := Int.emod_nonneg a (show b ≠ 0 by omega)
  have h3 := Int.emod_lt_of_pos a hb
  split
  · omega
  · have : ((b.natAbs : Nat) : Int) = b := by omega
    rename_i h
    have hne : a % b ≠ 0 := fun h0 => h (Or.inr (Int.dvd_of_emod_eq_zero h0))
    omega

theorem tmod_pos {a b : Int} (ha : 0 ≤ a) : Int.tmod a b = a % b := by
  rw [Int.tmod_eq_emod, if_pos (Or.inl ha)]; omega

theorem cyc (a : Int) {b : Int} (hb : 0 < b) (hb1 : b ≤ 4611686018427387903) : ∃ s, Int.tmod (wr64 (Int.tmod a b + b)) b = s ∧ 0 ≤ s ∧ s < b := by
  have h := tmod_in a hb
  refine ⟨_, rfl, ?_⟩
  rw [w64 (by omega) (by omega), tmod_pos (by omega)]
  exact ⟨Int.emod_nonneg _ (by omega), Int.emod_lt_of_pos _ hb⟩

/-- The nearest of a part, of two the greater. -/
def rnd (a b : Int) : Int := (2 * a + b) / (2 * b)

theorem rnd_is {a b q : Int} (hb : 0 < b) (h1 : 2 * (q * b) ≤ 2 * a + b) (h2 : 2 * a < 2 * (q * b) + b) : rnd a b = q := by
  unfold rnd
  apply div_is (by omega)
  · rw [Int.mul_left_comm]; omega
  · rw [Int.mul_left_comm]; omega

theorem rnd_in (a : Int) {b : Int} (hb : 0 < b) : 2 * (rnd a b * b) ≤ 2 * a + b ∧ 2 * a < 2 * (rnd a b * b) + b := by
  unfold rnd
  obtain ⟨h1, h2⟩ := div_in (2 * a + b) (b := 2 * b) (by omega)
  rw [Int.mul_left_comm] at h1 h2
  omega

theorem rnd_mono {a c b : Int} (hb : 0 < b) (h : a ≤ c) : rnd a b ≤ rnd c b := by
  unfold rnd
  exact Int.ediv_le_ediv (by omega) (by omega)

theorem down_f {a b : Int} (hb : 1 ≤ b) (ha0 : -9223372036854775808 ≤ a) (ha1 : a ≤ 9223372036854775807) : fixed_Down.f a b = some (a / b) := by
  unfold fixed_Down.f
  rw [if_neg (by omega), if_neg (by omega)]
  have hbd := div_bd a (b := b) (by omega)
  by_cases h : 0 ≤ a ∨ b ∣ a
  · have e1 : Int.tdiv a b = a / b := by rw [Int.tdiv_eq_ediv, if_pos h]; omega
    have e2 : Int.tmod a b = a % b := by rw [Int.tmod_eq_emod, if_pos h]; omega
    have h2 := Int.emod_nonneg a (show b ≠ 0 by omega)
    rw [e1, e2, if_neg (by omega), w64 (by omega) (by omega)]
  · have e1 : Int.tdiv a b = a / b + 1 := by rw [Int.tdiv_eq_ediv, if_neg h, Int.sign_eq_one_of_pos (by omega)]
    have e2 : Int.tmod a b = a % b - b := by rw [Int.tmod_eq_emod, if_neg h]; omega
    have h3 := Int.emod_lt_of_pos a (show 0 < b by omega)
    rw [e1, e2, if_pos (by omega), w64 (n := a / b + 1) (by omega) (by omega), w64 (by omega) (by omega)]
    congr 1
    omega

theorem round_f {a b : Int} (hb : 1 ≤ b) (hb1 : b ≤ 9223372036854775807) (ha0 : -9223372036854775808 ≤ a) (ha1 : a ≤ 9223372036854775807) : fixed_Round.f a b = some (rnd a b) := by
  unfold fixed_Round.f
  rw [if_neg (by omega), down_f hb ha0 ha1]
  simp only [Option.bind_some]
  obtain ⟨h1, h2⟩ := div_in a (b := b) (by omega)
  have hbd := div_bd a (b := b) (by omega)
  have e : wr64 (a - wr64 (a / b * b)) = a - a / b * b := by
    simp only [wr64_eq]
    omega
  rw [e, w64 (n := b - (a - a / b * b)) (by omega) (by omega)]
  by_cases h : a - a / b * b ≥ b - (a - a / b * b)
  · rw [if_pos h]
    have h3 : a / b + 1 ≤ 9223372036854775807 := by
      by_cases hq : a / b < 9223372036854775807
      · omega
      · by_cases h1b : b = 1
        · subst h1b; omega
        · have : a / b * 2 ≤ a / b * b := Int.mul_le_mul_of_nonneg_left (by omega) (by omega)
          omega
    rw [w64 (by omega) h3, rnd_is (q := a / b + 1) (by omega)]
    · rw [Int.add_mul]; omega
    · rw [Int.add_mul]; omega
  · rw [if_neg h, rnd_is (q := a / b) (by omega)]
    · omega
    · omega

theorem rnd_near (a : Int) {b : Int} (hb : 0 < b) : rnd a b = a / b ∨ rnd a b = a / b + 1 := by
  obtain ⟨h1, h2⟩ := div_in a hb
  by_cases h : 2 * (a - a / b * b) < b
  · left
    exact rnd_is hb (by omega) (by omega)
  · right
    exact rnd_is hb (by rw [Int.add_mul]; omega) (by rw [Int.add_mul]; omega)

theorem rnd_next (a : Int) {b : Int} (hb : 0 < b) : rnd (a + b) b = rnd a b + 1 := by
  obtain ⟨h1, h2⟩ := rnd_in a hb
  exact rnd_is hb (by rw [Int.add_mul]; omega) (by rw [Int.add_mul]; omega)

theorem mul_bd {x y M N : Int} (hx0 : -M ≤ x) (hx1 : x ≤ M) (hy0 : -N ≤ y) (hy1 : y ≤ N) : -(M * N) ≤ x * y ∧ x * y ≤ M * N := by
  have h : (x * y).natAbs ≤ M.toNat * N.toNat := by
    rw [Int.natAbs_mul]
    exact Nat.mul_le_mul (by omega) (by omega)
  have e : ((M.toNat * N.toNat : Nat) : Int) = M * N := by
    rw [Int.natCast_mul, Int.toNat_of_nonneg (by omega), Int.toNat_of_nonneg (by omega)]
  omega

theorem rnd_mulself {x b : Int} (hb : 0 < b) : rnd (x * b) b = x := rnd_is hb (by omega) (by omega)

theorem at_f {W s v p n k i1 : Int} (hs : 0 ≤ s) (hp : (2 : Int) ^ (min (Int.toNat s) 64) = p) (hpn : p * n = 256) (p0 : 1 ≤ p) (p1 : p ≤ 64) (W0 : 1 ≤ W) (W1 : W ≤ 100) (k0 : 1 ≤ k) (k1 : k ≤ 2) (v0 : -10000 ≤ v) (v1 : v ≤ 10000) : scale_At_v2.f W i1 s (k * W) v = some (k * v * n) := by
  have b1 := mul_bd (M := 2) (N := 100) (x := k) (y := W) (by omega) (by omega) (by omega) (by omega)
  have b2 := mul_bd (M := 10000) (N := 200) (x := v) (y := k * W) (by omega) (by omega) (by omega) (by omega)
  have b3 := mul_bd (M := 100) (N := 64) (x := W) (y := p) (by omega) (by omega) (by omega) (by omega)
  have b4 : 0 < W * p := Int.mul_pos (by omega) (by omega)
  unfold scale_At_v2.f
  rw [if_neg (by omega), hp, w64 (n := v * (k * W)) (by omega) (by omega), w64 (n := v * (k * W) * 256) (by omega) (by omega), w64 (n := W * p) (by omega) (by omega)]
  have e : v * (k * W) * 256 = k * v * n * (W * p) := by rw [← hpn]; grind
  refine bind_of (round_f (by omega) (by omega) (by omega) (by omega)) ?_
  rw [e, rnd_mulself b4]
theorem height_f {W i2 w : Int} (W0 : 1 ≤ W) (W1 : W ≤ 100) (w0 : 0 ≤ w) (w1 : w ≤ 200) : scale_Height_v2.f W 3 i2 w = some (-((-3 * w) / W)) := by
  have hd := div_bd (-3 * w) (b := W) (by omega)
  unfold scale_Height_v2.f
  rw [w64 (n := 0 - 3) (by omega) (by omega), show (0 : Int) - 3 = -3 by omega, w64 (n := -3 * w) (by omega) (by omega)]
  refine bind_of (down_f (by omega) (by omega) (by omega)) ?_
  rw [w64 (by omega) (by omega), Int.zero_sub]
theorem ScaleSteps : glyphiclaw20_ScaleSteps.Pure := by
  intro w0 s1 v0 _ _ _
  have hf : glyphiclaw20_first.f = some true := rfl
  unfold glyphiclaw20_ScaleSteps.f
  refine bind_of hf ?_
  obtain ⟨a, ea, a0, a1⟩ := cyc w0 (b := 100) (by omega) (by omega)
  obtain ⟨s, es, s0, s2⟩ := cyc s1 (b := 7) (by omega) (by omega)
  have hv := tmod_in v0 (b := 10000) (by omega)
  rw [if_pos rfl, ea, es]
  generalize Int.tmod v0 10000 = v at *
  rw [w64 (n := a + 1) (by omega) (by omega), wu64 (n := s) (by omega) (by omega), if_neg (by omega)]
  obtain ⟨W, hW⟩ : ∃ W, a + 1 = W := ⟨_, rfl⟩
  rw [hW]
  obtain ⟨p, n, hp, hn, hpn, p0, p1, n0, n1⟩ : ∃ p n : Int, (2 : Int) ^ (min (Int.toNat s) 64) = p ∧ Int.fdiv 256 p = n ∧ p * n = 256 ∧ 1 ≤ p ∧ p ≤ 64 ∧ 1 ≤ n ∧ n ≤ 256 := by
    rcases (show s = 0 ∨ s = 1 ∨ s = 2 ∨ s = 3 ∨ s = 4 ∨ s = 5 ∨ s = 6 by omega) with rfl | rfl | rfl | rfl | rfl | rfl | rfl
    all_goals exact ⟨_, _, rfl, rfl, by decide, by decide, by decide, by decide, by decide⟩
  have c1 := at_f (i1 := 3) (W := W) (v := v) (k := 1) s0 hp hpn p0 p1 (by omega) (by omega) (by omega) (by omega) (by omega) (by omega)
  have c2 := at_f (i1 := 3) (W := W) (v := v) (k := 2) s0 hp hpn p0 p1 (by omega) (by omega) (by omega) (by omega) (by omega) (by omega)
  rw [Int.one_mul, Int.one_mul] at c1
  have b1 := mul_bd (M := 10000) (N := 256) (x := v) (y := n) (by omega) (by omega) (by omega) (by omega)
  have b2 := mul_bd (M := 20000) (N := 256) (x := 2 * v) (y := n) (by omega) (by omega) (by omega) (by omega)
  rw [hp, hn, w64 (n := 2 * W) (by omega) (by omega)]
  refine bind_of c1 ?_
  rw [w64 (n := v * n) (by omega) (by omega), if_pos rfl]
  refine bind_of c2 ?_
  rw [w64 (n := 2 * v) (by omega) (by omega), w64 (n := 2 * v * n) (by omega) (by omega), if_pos rfl]
  refine bind_of (height_f (by omega) (by omega) (by omega) (by omega)) ?_
  rw [if_pos (by rw [div_is (q := -3) (by omega) (by omega) (by omega)]; omega)]
  refine bind_of (height_f (by omega) (by omega) (by omega) (by omega)) ?_
  rw [if_pos (by rw [div_is (q := -6) (by omega) (by omega) (by omega)]; omega)]
  refine bind_of (height_f (by omega) (by omega) (by omega) (by omega)) ?_
  rw [if_neg (by omega), w64 (n := 3 + W) (by omega) (by omega), w64 (n := 3 + W - 1) (by omega) (by omega)]
  have e : Int.tdiv (3 + W - 1) W = (3 + W - 1) / W := by rw [Int.tdiv_eq_ediv, if_pos (Or.inl (by omega))]; omega
  have d := div_in (-3 * 1) (b := W) (by omega)
  have q : (3 + W - 1) / W = -(-3 * 1 / W) := by
    refine div_is (by omega) ?_ ?_
    · rw [Int.neg_mul]; omega
    · rw [Int.neg_mul]; omega
  have hb := div_bd (-3 * 1) (b := W) (by omega)
  rw [e, q, w64 (by omega) (by omega)]
  simp

end Go.Proofs.YtiaigehjogpcaaaDoor.Pure
