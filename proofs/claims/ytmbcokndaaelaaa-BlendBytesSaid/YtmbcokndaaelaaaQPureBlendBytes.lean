/- Proved: BlendBytes is true for every input. -/
import Derived.Test.YtmbcokndaaelaaaQBlendBytesx5
import Derived.OpenShut
namespace Go.Proofs.Ytmbcokndaaelaaa.Pure
open Go.RowKit Go.Proofs.Ytmbcokndaaelaaa.QBlendBytes Go.Proofs.YtmbcokndaaelaaaW.PrintWords Go.Proofs.YtmbcokndaaelaaaW.PrintLast Go.Proofs.YtmbcokndaaelaaaW.PrintMore

theorem bind_of {α β : Type} {o : Option α} {f : α → Option β} {x : α} {r : Option β} (h : o = some x) (h2 : f x = r) : o.bind f = r := by
  subst h
  exact h2

theorem w64 {n : Int} (h0 : -9223372036854775808 ≤ n) (h1 : n ≤ 9223372036854775807) : wrap64 n = n := by
  unfold wrap64
  omega

theorem div_is {a b q : Int} (hb : 0 < b) (h1 : q * b ≤ a) (h2 : a < q * b + b) : a / b = q := by
  apply Int.le_antisymm
  · exact Int.lt_add_one_iff.1 (Int.ediv_lt_of_lt_mul hb (by rw [Int.add_mul, Int.one_mul]; exact h2))
  · exact Int.le_ediv_of_mul_le hb h1

theorem div_in (a : Int) {b : Int} (hb : 0 < b) : a / b * b ≤ a ∧ a < a / b * b + b := by
  have h1 := Int.mul_ediv_add_emod a b
  have h2 := Int.emod_nonneg a (Int.ne_of_gt hb)
  have h3 := Int.emod_lt_of_pos a hb
  rw [Int.mul_comm] at h1
  omega

theorem div_bd (a : Int) {b : Int} (hb : 0 < b) : (0 ≤ a → 0 ≤ a / b ∧ a / b ≤ a) ∧ (a < 0 → a ≤ a / b ∧ a / b < 0) := by
  obtain ⟨h1, h2⟩ := div_in a hb
  refine ⟨fun h => ⟨Int.ediv_nonneg h (by omega), Int.ediv_le_self _ h⟩, fun h => ⟨?_, Int.ediv_neg_of_neg_of_pos h hb⟩⟩
  exact Int.le_ediv_of_mul_le hb (by
    have : a * b ≤ a * 1 := Int.mul_le_mul_of_nonpos_left (by omega) (by omega)
    omega)

theorem tmod_in (a : Int) {b : Int} (hb : 0 < b) : -b < Int.tmod a b ∧ Int.tmod a b < b := by
  rw [Int.tmod_eq_emod]
  have h2 := Int.emod_nonneg a (show b ≠ 0 by omega)
  have h3 := Int.emod_lt_of_pos a hb
  split
  · omega
  · have : ((b.natAbs : Nat) : Int) = b := by omega
    rename_i h
    have hne : a % b ≠ 0 := fun h0 => h (Or.inr (Int.dvd_of_emod_eq_zero h0))
    omega

theorem tmod_pos {a b : Int} (ha : 0 ≤ a) : Int.tmod a b = a % b := by
  rw [Int.tmod_eq_emod, if_pos (Or.inl ha)]; omega

theorem cyc (a : Int) {b : Int} (hb : 0 < b) (hb1 : b ≤ 4611686018427387903) : ∃ s, Int.tmod (wrap64 (Int.tmod a b + b)) b = s ∧ 0 ≤ s ∧ s < b := by
  have h := tmod_in a hb
  refine ⟨_, rfl, ?_⟩
  rw [w64 (by omega) (by omega), tmod_pos (by omega)]
  exact ⟨Int.emod_nonneg _ (by omega), Int.emod_lt_of_pos _ hb⟩

/-- The nearest of a part, of two the greater. -/
def rnd (a b : Int) : Int := (2 * a + b) / (2 * b)

theorem rnd_is {a b q : Int} (hb : 0 < b) (h1 : 2 * (q * b) ≤ 2 * a + b) (h2 : 2 * a < 2 * (q * b) + b) : rnd a b = q := by
  unfold rnd
  apply div_is (by omega)
  · rw [Int.mul_left_comm]; omega
  · rw [Int.mul_left_comm]; omega

theorem rnd_in (a : Int) {b : Int} (hb : 0 < b) : 2 * (rnd a b * b) ≤ 2 * a + b ∧ 2 * a < 2 * (rnd a b * b) + b := by
  unfold rnd
  obtain ⟨h1, h2⟩ := div_in (2 * a + b) (b := 2 * b) (by omega)
  rw [Int.mul_left_comm] at h1 h2
  omega

theorem rnd_mono {a c b : Int} (hb : 0 < b) (h : a ≤ c) : rnd a b ≤ rnd c b := by
  unfold rnd
  exact Int.ediv_le_ediv (by omega) (by omega)

theorem down_f {a b : Int} (hb : 1 ≤ b) (ha0 : -9223372036854775808 ≤ a) (ha1 : a ≤ 9223372036854775807) : fixed_Down.f a b = some (a / b) := by
  unfold fixed_Down.f
  rw [if_neg (by omega), if_neg (by omega)]
  have hbd := div_bd a (b := b) (by omega)
  by_cases h : 0 ≤ a ∨ b ∣ a
  · have e1 : Int.tdiv a b = a / b := by rw [Int.tdiv_eq_ediv, if_pos h]; omega
    have e2 : Int.tmod a b = a % b := by rw [Int.tmod_eq_emod, if_pos h]; omega
    have h2 := Int.emod_nonneg a (show b ≠ 0 by omega)
    rw [e1, e2, if_neg (by omega), w64 (by omega) (by omega)]
  · have e1 : Int.tdiv a b = a / b + 1 := by rw [Int.tdiv_eq_ediv, if_neg h, Int.sign_eq_one_of_pos (by omega)]
    have e2 : Int.tmod a b = a % b - b := by rw [Int.tmod_eq_emod, if_neg h]; omega
    have h3 := Int.emod_lt_of_pos a (show 0 < b by omega)
    rw [e1, e2, if_pos (by omega), w64 (n := a / b + 1) (by omega) (by omega), w64 (by omega) (by omega)]
    congr 1
    omega

theorem round_f {a b : Int} (hb : 1 ≤ b) (hb1 : b ≤ 9223372036854775807) (ha0 : -9223372036854775808 ≤ a) (ha1 : a ≤ 9223372036854775807) : fixed_Round.f a b = some (rnd a b) := by
  unfold fixed_Round.f
  rw [if_neg (by omega), down_f hb ha0 ha1]
  simp only [Option.bind_some]
  obtain ⟨h1, h2⟩ := div_in a (b := b) (by omega)
  have hbd := div_bd a (b := b) (by omega)
  have e : wrap64 (a - wrap64 (a / b * b)) = a - a / b * b := by
    unfold wrap64
    omega
  rw [e, w64 (n := b - (a - a / b * b)) (by omega) (by omega)]
  by_cases h : a - a / b * b ≥ b - (a - a / b * b)
  · rw [if_pos h]
    have h3 : a / b + 1 ≤ 9223372036854775807 := by
      by_cases hq : a / b < 9223372036854775807
      · omega
      · by_cases h1b : b = 1
        · subst h1b; omega
        · have : a / b * 2 ≤ a / b * b := Int.mul_le_mul_of_nonneg_left (by omega) (by omega)
          omega
    rw [w64 (by omega) h3, rnd_is (q := a / b + 1) (by omega)]
    · rw [Int.add_mul]; omega
    · rw [Int.add_mul]; omega
  · rw [if_neg h, rnd_is (q := a / b) (by omega)]
    · omega
    · omega

theorem rnd_near (a : Int) {b : Int} (hb : 0 < b) : rnd a b = a / b ∨ rnd a b = a / b + 1 := by
  obtain ⟨h1, h2⟩ := div_in a hb
  by_cases h : 2 * (a - a / b * b) < b
  · left
    exact rnd_is hb (by omega) (by omega)
  · right
    exact rnd_is hb (by rw [Int.add_mul]; omega) (by rw [Int.add_mul]; omega)

theorem rnd_next (a : Int) {b : Int} (hb : 0 < b) : rnd (a + b) b = rnd a b + 1 := by
  obtain ⟨h1, h2⟩ := rnd_in a hb
  exact rnd_is hb (by rw [Int.add_mul]; omega) (by rw [Int.add_mul]; omega)

theorem rnd_0 {b : Int} (hb : 0 < b) : rnd 0 b = 0 := rnd_is hb (by omega) (by omega)

theorem rnd_self {x b : Int} (hb : 0 < b) : rnd (x * b) b = x := rnd_is hb (by omega) (by omega)

theorem rnd_part {x b m : Int} (hb : 0 < b) (h0 : 0 ≤ x) (h1 : x ≤ m * b) : 0 ≤ rnd x b ∧ rnd x b ≤ m := by
  have a := rnd_mono hb h0
  have c := rnd_mono hb h1
  rw [rnd_0 hb] at a
  rw [rnd_self hb] at c
  exact ⟨a, c⟩

/-- A part of a color: from none to all. -/
def P16 (x : Int) : Prop := 0 ≤ x ∧ x ≤ 65535

theorem mul16 {x y : Int} (hx : P16 x) (hy : P16 y) : 0 ≤ x * y ∧ x * y ≤ 65535 * 65535 :=
  ⟨Int.mul_nonneg hx.1 hy.1, Int.mul_le_mul hx.2 hy.2 hy.1 (by omega)⟩

theorem round16 {x y : Int} (hx : P16 x) (hy : P16 y) : fixed_Round.f (wrap64 (x * y)) 65535 = some (rnd (x * y) 65535) ∧ P16 (rnd (x * y) 65535) := by
  have h := mul16 hx hy
  rw [w64 (by omega) (by omega), round_f (by omega) (by omega) (by omega) (by omega)]
  exact ⟨rfl, rnd_part (by omega) h.1 h.2⟩

/-- How much it covers. -/
def cov (v c : Int) : Int := rnd (v * c) 64

theorem cov_f {v c : Int} (hv : P16 v) (c0 : 0 ≤ c) (c1 : c ≤ 64) : fixed_Round.f (wrap64 (v * c)) 64 = some (cov v c) ∧ P16 (cov v c) := by
  have h1 : v * c ≤ 65535 * 64 := Int.mul_le_mul hv.2 c1 c0 (by omega)
  have h0 : 0 ≤ v * c := Int.mul_nonneg hv.1 c0
  rw [w64 (by omega) (by omega), round_f (by omega) (by omega) (by omega) (by omega)]
  exact ⟨rfl, rnd_part (by omega) h0 h1⟩

/-- One part over another one. -/
def ch (u v a : Int) : Int := mn (rnd (v * a) 65535 + rnd (u * (65535 - a)) 65535) 65535

theorem ch_bd {u v a : Int} (hu : P16 u) (hv : P16 v) (ha : P16 a) : P16 (ch u v a) := by
  have h1 := (round16 hv ha).2
  have h2 := (round16 (y := 65535 - a) hu ⟨by have := ha.2; omega, by have := ha.1; omega⟩).2
  unfold P16 ch mn at *
  split <;> omega

theorem rnd_all (a : Int) : rnd (65535 * a) 65535 = a := by
  rw [Int.mul_comm]
  exact rnd_self (by omega)

theorem over_f {u0 u1 u2 u3 v0 v1 v2 v3 c : Int} (hu0 : P16 u0) (hu1 : P16 u1) (hu2 : P16 u2) (hu3 : P16 u3) (hv0 : P16 v0) (hv1 : P16 v1) (hv2 : P16 v2) (hv3 : P16 v3) (c0 : 0 ≤ c) (c1 : c ≤ 64) :
    blend_Over.f u0 u1 u2 u3 v0 v1 v2 v3 c = some (ch u0 v0 (cov v3 c), ch u1 v1 (cov v3 c), ch u2 v2 (cov v3 c), ch u3 65535 (cov v3 c)) := by
  obtain ⟨A, hA⟩ := cov_f hv3 c0 c1
  unfold blend_Over.f
  refine bind_of A ?_
  have hB : P16 (65535 - cov v3 c) := ⟨by have := hA.2; omega, by have := hA.1; omega⟩
  have h65 : P16 65535 := ⟨by omega, by omega⟩
  have eB : wrap64 (65535 - cov v3 c) = 65535 - cov v3 c := w64 (by have := hB.1; omega) (by have := hB.2; omega)
  rw [eB]
  have s : ∀ {u v : Int}, P16 u → P16 v → wrap64 (rnd (v * cov v3 c) 65535 + rnd (u * (65535 - cov v3 c)) 65535) = rnd (v * cov v3 c) 65535 + rnd (u * (65535 - cov v3 c)) 65535 := by
    intro u v hu hv
    have h1 := (round16 hv hA).2
    have h2 := (round16 hu hB).2
    unfold P16 at h1 h2
    exact w64 (by omega) (by omega)
  refine bind_of (round16 hv0 hA).1 (bind_of (round16 hu0 hB).1 (bind_of (round16 hv1 hA).1 (bind_of (round16 hu1 hB).1 (bind_of (round16 hv2 hA).1 (bind_of (round16 hu2 hB).1 (bind_of (round16 h65 hA).1 (bind_of (round16 hu3 hB).1 ?_)))))))
  rw [s hu0 hv0, s hu1 hv1, s hu2 hv2, s hu3 h65]
  rfl

/-- A part as a byte. -/
def fin (x a : Int) : Int := mn (rnd (x * 255) a) 255 % 256

theorem final_f {v0 v1 v2 v3 : Int} (h0 : P16 v0) (h1 : P16 v1) (h2 : P16 v2) (h3 : P16 v3) :
    blend_Final.f v0 v1 v2 v3 = some (if v3 = 0 then (0, 0, 0, 0) else (fin v0 v3, fin v1 v3, fin v2 v3, rnd v3 257 % 256)) := by
  unfold blend_Final.f
  unfold P16 at *
  have r3 : fixed_Round.f v3 257 = some (rnd v3 257) := round_f (by omega) (by omega) (by omega) (by omega)
  rw [w64 (n := v0 * 255) (by omega) (by omega), w64 (n := v1 * 255) (by omega) (by omega), w64 (n := v2 * 255) (by omega) (by omega)]
  by_cases hz : v3 = 0
  · rw [if_pos hz]
    have z : ∀ x : Int, fixed_Round.f x v3 = some 0 := fun x => by unfold fixed_Round.f; rw [if_pos (by omega)]
    refine bind_of r3 (bind_of (z _) (bind_of (z _) (bind_of (z _) ?_)))
    subst hz
    decide +kernel
  · rw [if_neg hz]
    refine bind_of r3 (bind_of (round_f (by omega) (by omega) (by omega) (by omega)) (bind_of (round_f (by omega) (by omega) (by omega) (by omega)) (bind_of (round_f (by omega) (by omega) (by omega) (by omega)) ?_)))
    rfl

theorem byte_back {r a : Int} (r0 : 0 ≤ r) (r1 : r ≤ 255) (a0 : 1 ≤ a) (_a1 : a ≤ 255) : fin (ch 0 (257 * r) (257 * a)) (257 * a) = r := by
  have hr : P16 (257 * r) := ⟨by omega, by omega⟩
  have ha : P16 (257 * a) := ⟨by omega, by omega⟩
  have e : ch 0 (257 * r) (257 * a) = rnd (66049 * (r * a)) 65535 := by
    have h := (round16 hr ha).2
    unfold ch
    rw [Int.zero_mul, rnd_0 (by omega)]
    unfold P16 at h
    have e1 : 257 * r * (257 * a) = 66049 * (r * a) := by grind
    rw [e1] at h ⊢
    unfold mn
    split <;> omega
  have R := rnd_in (66049 * (r * a)) (b := 65535) (by omega)
  rw [e]
  generalize rnd (66049 * (r * a)) 65535 = C at *
  have q : rnd (C * 255) (257 * a) = r := by
    have e2 : r * (257 * a) = 257 * (r * a) := by grind
    exact rnd_is (by omega) (by omega) (by omega)
  unfold fin
  rw [q]
  unfold mn
  split <;> omega

theorem byte_same {r : Int} (r0 : 0 ≤ r) (r1 : r ≤ 255) : fin (257 * r) 65535 = r := by
  have q : rnd (257 * r * 255) 65535 = r := rnd_is (by omega) (by omega) (by omega)
  unfold fin
  rw [q]
  unfold mn
  split <;> omega

theorem BlendBytes : glyphiclaw26_BlendBytes.Pure := by
  intro r g b a w0 w1 w2 w3
  have hf : glyphiclaw26_first.f = some true := by decide +kernel
  have b0 := bounds_u8 w0
  have b1 := bounds_u8 w1
  have b2 := bounds_u8 w2
  have b3 := bounds_u8 w3
  unfold glyphiclaw26_BlendBytes.f
  refine bind_of hf ?_
  rw [if_pos rfl, w64 (n := r) (by omega) (by omega), w64 (n := g) (by omega) (by omega), w64 (n := b) (by omega) (by omega), w64 (n := a) (by omega) (by omega), w64 (n := 257 * r) (by omega) (by omega), w64 (n := 257 * g) (by omega) (by omega), w64 (n := 257 * b) (by omega) (by omega), w64 (n := 257 * a) (by omega) (by omega)]
  have z : P16 0 := ⟨by omega, by omega⟩
  have h65 : P16 65535 := ⟨by omega, by omega⟩
  have pr : P16 (257 * r) := ⟨by omega, by omega⟩
  have pg : P16 (257 * g) := ⟨by omega, by omega⟩
  have pb : P16 (257 * b) := ⟨by omega, by omega⟩
  have pa : P16 (257 * a) := ⟨by omega, by omega⟩
  refine bind_of (final_f pr pg pb h65) (bind_of (over_f z z z z pr pg pb pa (show (0 : Int) ≤ 64 by omega) (by omega)) ?_)
  have ca : cov (257 * a) 64 = 257 * a := rnd_self (by omega)
  have c3 : ch 0 65535 (257 * a) = 257 * a := by
    unfold ch
    rw [Int.zero_mul, rnd_0 (by omega), rnd_all]
    unfold mn
    split <;> omega
  dsimp only
  rw [ca, c3]
  refine bind_of (final_f (ch_bd z pr pa) (ch_bd z pg pa) (ch_bd z pb pa) pa) ?_
  by_cases ha : a = 0
  · rw [if_pos ha, if_pos (by omega)]
    rfl
  · have ra : rnd (257 * a) 257 % 256 = a := by
      have : rnd (257 * a) 257 = a := rnd_is (by omega) (by omega) (by omega)
      rw [this]
      omega
    have rr : rnd 65535 257 % 256 = 255 := by decide +kernel
    rw [if_neg ha, if_neg (show ¬ (65535 : Int) = 0 by omega), if_neg (show ¬ 257 * a = 0 by omega)]
    dsimp only
    rw [byte_same b0.1 b0.2, byte_same b1.1 b1.2, byte_same b2.1 b2.2, rr, byte_back b0.1 b0.2 (by omega) b3.2, byte_back b1.1 b1.2 (by omega) b3.2, byte_back b2.1 b2.2 (by omega) b3.2, ra, if_pos (by simp)]
    simp

end Go.Proofs.Ytmbcokndaaelaaa.Pure
