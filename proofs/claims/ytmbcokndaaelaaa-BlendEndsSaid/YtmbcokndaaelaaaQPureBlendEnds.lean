/- Proved: BlendEnds is true for every input. -/
import Derived.Test.YtmbcokndaaelaaaQBlendEndsx0
import Derived.OpenShut
namespace Go.Proofs.Ytmbcokndaaelaaa.Pure
open Go Go.RowKit Go.Proofs.Ytmbcokndaaelaaa.QBlendEnds Go.Proofs.YtmbcokndaaelaaaE

theorem bind_of {α β : Type} {o : Option α} {f : α → Option β} {x : α} {r : Option β} (h : o = some x) (h2 : f x = r) : o.bind f = r := by
  subst h
  exact h2

theorem div_is {a b q : Int} (hb : 0 < b) (h1 : q * b ≤ a) (h2 : a < q * b + b) : a / b = q := by
  apply Int.le_antisymm
  · exact Int.lt_add_one_iff.1 (Int.ediv_lt_of_lt_mul hb (by rw [Int.add_mul, Int.one_mul]; exact h2))
  · exact Int.le_ediv_of_mul_le hb h1

theorem div_in (a : Int) {b : Int} (hb : 0 < b) : a / b * b ≤ a ∧ a < a / b * b + b := by
  have h1 := Int.mul_ediv_add_emod a b
  have h2 := Int.emod_nonneg a (Int.ne_of_gt hb)
  have h3 := Int.emod_lt_of_pos a hb
  rw [Int.mul_comm] at h1
  omega

theorem div_bd (a : Int) {b : Int} (hb : 0 < b) : (0 ≤ a → 0 ≤ a / b ∧ a / b ≤ a) ∧ (a < 0 → a ≤ a / b ∧ a / b < 0) := by
  obtain ⟨h1, h2⟩ := div_in a hb
  refine ⟨fun h => ⟨Int.ediv_nonneg h (by omega), Int.ediv_le_self _ h⟩, fun h => ⟨?_, Int.ediv_neg_of_neg_of_pos h hb⟩⟩
  exact Int.le_ediv_of_mul_le hb (by
    have : a * b ≤ a * 1 := Int.mul_le_mul_of_nonpos_left (by omega) (by omega)
    omega)

theorem tmod_in (a : Int) {b : Int} (hb : 0 < b) : -b < Int.tmod a b ∧ Int.tmod a b < b := by
  rw [Int.tmod_eq_emod]
  have h2 := Int.emod_nonneg a (show b ≠ 0 by omega)
  have h3 := Int.emod_lt_of_pos a hb
  split
  · omega
  · have : ((b.natAbs : Nat) : Int) = b := by omega
    rename_i h
    have hne : a % b ≠ 0 := fun h0 => h (Or.inr (Int.dvd_of_emod_eq_zero h0))
    omega

theorem tmod_pos {a b : Int} (ha : 0 ≤ a) : Int.tmod a b = a % b := by
  rw [Int.tmod_eq_emod, if_pos (Or.inl ha)]; omega

theorem cyc (a : Int) {b : Int} (hb : 0 < b) (hb1 : b ≤ 4611686018427387903) : ∃ s, Int.tmod (wr64 (Int.tmod a b + b)) b = s ∧ 0 ≤ s ∧ s < b := by
  have h := tmod_in a hb
  refine ⟨_, rfl, ?_⟩
  rw [w64 (by omega) (by omega), tmod_pos (by omega)]
  exact ⟨Int.emod_nonneg _ (by omega), Int.emod_lt_of_pos _ hb⟩

/-- The nearest of a part, of two the greater. -/
def rnd (a b : Int) : Int := (2 * a + b) / (2 * b)

theorem rnd_is {a b q : Int} (hb : 0 < b) (h1 : 2 * (q * b) ≤ 2 * a + b) (h2 : 2 * a < 2 * (q * b) + b) : rnd a b = q := by
  unfold rnd
  apply div_is (by omega)
  · rw [Int.mul_left_comm]; omega
  · rw [Int.mul_left_comm]; omega

theorem rnd_in (a : Int) {b : Int} (hb : 0 < b) : 2 * (rnd a b * b) ≤ 2 * a + b ∧ 2 * a < 2 * (rnd a b * b) + b := by
  unfold rnd
  obtain ⟨h1, h2⟩ := div_in (2 * a + b) (b := 2 * b) (by omega)
  rw [Int.mul_left_comm] at h1 h2
  omega

theorem rnd_mono {a c b : Int} (hb : 0 < b) (h : a ≤ c) : rnd a b ≤ rnd c b := by
  unfold rnd
  exact Int.ediv_le_ediv (by omega) (by omega)

theorem down_f {a b : Int} (hb : 1 ≤ b) (ha0 : -9223372036854775808 ≤ a) (ha1 : a ≤ 9223372036854775807) : fixed_Down.f a b = some (a / b) := by
  unfold fixed_Down.f
  rw [if_neg (by omega), if_neg (by omega)]
  have hbd := div_bd a (b := b) (by omega)
  by_cases h : 0 ≤ a ∨ b ∣ a
  · have e1 : Int.tdiv a b = a / b := by rw [Int.tdiv_eq_ediv, if_pos h]; omega
    have e2 : Int.tmod a b = a % b := by rw [Int.tmod_eq_emod, if_pos h]; omega
    have h2 := Int.emod_nonneg a (show b ≠ 0 by omega)
    rw [e1, e2, if_neg (by omega), w64 (by omega) (by omega)]
  · have e1 : Int.tdiv a b = a / b + 1 := by rw [Int.tdiv_eq_ediv, if_neg h, Int.sign_eq_one_of_pos (by omega)]
    have e2 : Int.tmod a b = a % b - b := by rw [Int.tmod_eq_emod, if_neg h]; omega
    have h3 := Int.emod_lt_of_pos a (show 0 < b by omega)
    rw [e1, e2, if_pos (by omega), w64 (n := a / b + 1) (by omega) (by omega), w64 (by omega) (by omega)]
    congr 1
    omega

theorem round_f {a b : Int} (hb : 1 ≤ b) (hb1 : b ≤ 9223372036854775807) (ha0 : -9223372036854775808 ≤ a) (ha1 : a ≤ 9223372036854775807) : fixed_Round.f a b = some (rnd a b) := by
  unfold fixed_Round.f
  rw [if_neg (by omega), down_f hb ha0 ha1]
  simp only [Option.bind_some]
  obtain ⟨h1, h2⟩ := div_in a (b := b) (by omega)
  have hbd := div_bd a (b := b) (by omega)
  have e : wr64 (a - wr64 (a / b * b)) = a - a / b * b := by
    simp only [wr64_eq]
    omega
  rw [e, w64 (n := b - (a - a / b * b)) (by omega) (by omega)]
  by_cases h : a - a / b * b ≥ b - (a - a / b * b)
  · rw [if_pos h]
    have h3 : a / b + 1 ≤ 9223372036854775807 := by
      by_cases hq : a / b < 9223372036854775807
      · omega
      · by_cases h1b : b = 1
        · subst h1b; omega
        · have : a / b * 2 ≤ a / b * b := Int.mul_le_mul_of_nonneg_left (by omega) (by omega)
          omega
    rw [w64 (by omega) h3, rnd_is (q := a / b + 1) (by omega)]
    · rw [Int.add_mul]; omega
    · rw [Int.add_mul]; omega
  · rw [if_neg h, rnd_is (q := a / b) (by omega)]
    · omega
    · omega

theorem rnd_near (a : Int) {b : Int} (hb : 0 < b) : rnd a b = a / b ∨ rnd a b = a / b + 1 := by
  obtain ⟨h1, h2⟩ := div_in a hb
  by_cases h : 2 * (a - a / b * b) < b
  · left
    exact rnd_is hb (by omega) (by omega)
  · right
    exact rnd_is hb (by rw [Int.add_mul]; omega) (by rw [Int.add_mul]; omega)

theorem rnd_next (a : Int) {b : Int} (hb : 0 < b) : rnd (a + b) b = rnd a b + 1 := by
  obtain ⟨h1, h2⟩ := rnd_in a hb
  exact rnd_is hb (by rw [Int.add_mul]; omega) (by rw [Int.add_mul]; omega)

theorem rnd_0 {b : Int} (hb : 0 < b) : rnd 0 b = 0 := rnd_is hb (by omega) (by omega)

theorem rnd_self {x b : Int} (hb : 0 < b) : rnd (x * b) b = x := rnd_is hb (by omega) (by omega)

theorem rnd_part {x b m : Int} (hb : 0 < b) (h0 : 0 ≤ x) (h1 : x ≤ m * b) : 0 ≤ rnd x b ∧ rnd x b ≤ m := by
  have a := rnd_mono hb h0
  have c := rnd_mono hb h1
  rw [rnd_0 hb] at a
  rw [rnd_self hb] at c
  exact ⟨a, c⟩

/-- A part of a color: from none to all. -/
def P16 (x : Int) : Prop := 0 ≤ x ∧ x ≤ 65535

theorem mul16 {x y : Int} (hx : P16 x) (hy : P16 y) : 0 ≤ x * y ∧ x * y ≤ 65535 * 65535 :=
  ⟨Int.mul_nonneg hx.1 hy.1, Int.mul_le_mul hx.2 hy.2 hy.1 (by omega)⟩

theorem round16 {x y : Int} (hx : P16 x) (hy : P16 y) : fixed_Round.f (wr64 (x * y)) 65535 = some (rnd (x * y) 65535) ∧ P16 (rnd (x * y) 65535) := by
  have h := mul16 hx hy
  rw [w64 (by omega) (by omega), round_f (by omega) (by omega) (by omega) (by omega)]
  exact ⟨rfl, rnd_part (by omega) h.1 h.2⟩

/-- How much it covers. -/
def cov (v c : Int) : Int := rnd (v * c) 64

theorem cov_f {v c : Int} (hv : P16 v) (c0 : 0 ≤ c) (c1 : c ≤ 64) : fixed_Round.f (wr64 (v * c)) 64 = some (cov v c) ∧ P16 (cov v c) := by
  have h1 : v * c ≤ 65535 * 64 := Int.mul_le_mul hv.2 c1 c0 (by omega)
  have h0 : 0 ≤ v * c := Int.mul_nonneg hv.1 c0
  rw [w64 (by omega) (by omega), round_f (by omega) (by omega) (by omega) (by omega)]
  exact ⟨rfl, rnd_part (by omega) h0 h1⟩

/-- One part over another one. -/
def ch (u v a : Int) : Int := mn (rnd (v * a) 65535 + rnd (u * (65535 - a)) 65535) 65535

theorem ch_bd {u v a : Int} (hu : P16 u) (hv : P16 v) (ha : P16 a) : P16 (ch u v a) := by
  have h1 := (round16 hv ha).2
  have h2 := (round16 (y := 65535 - a) hu ⟨by have := ha.2; omega, by have := ha.1; omega⟩).2
  unfold P16 ch mn at *
  split <;> omega

theorem rnd_all (a : Int) : rnd (65535 * a) 65535 = a := by
  rw [Int.mul_comm]
  exact rnd_self (by omega)

theorem over_f {u0 u1 u2 u3 v0 v1 v2 v3 c : Int} (hu0 : P16 u0) (hu1 : P16 u1) (hu2 : P16 u2) (hu3 : P16 u3) (hv0 : P16 v0) (hv1 : P16 v1) (hv2 : P16 v2) (hv3 : P16 v3) (c0 : 0 ≤ c) (c1 : c ≤ 64) :
    blend_Over.f u0 u1 u2 u3 v0 v1 v2 v3 c = some (ch u0 v0 (cov v3 c), ch u1 v1 (cov v3 c), ch u2 v2 (cov v3 c), ch u3 65535 (cov v3 c)) := by
  obtain ⟨A, hA⟩ := cov_f hv3 c0 c1
  unfold blend_Over.f
  refine bind_of A ?_
  have hB : P16 (65535 - cov v3 c) := ⟨by have := hA.2; omega, by have := hA.1; omega⟩
  have h65 : P16 65535 := ⟨by omega, by omega⟩
  have eB : wr64 (65535 - cov v3 c) = 65535 - cov v3 c := w64 (by have := hB.1; omega) (by have := hB.2; omega)
  rw [eB]
  have s : ∀ {u v : Int}, P16 u → P16 v → wr64 (rnd (v * cov v3 c) 65535 + rnd (u * (65535 - cov v3 c)) 65535) = rnd (v * cov v3 c) 65535 + rnd (u * (65535 - cov v3 c)) 65535 := by
    intro u v hu hv
    have h1 := (round16 hv hA).2
    have h2 := (round16 hu hB).2
    unfold P16 at h1 h2
    exact w64 (by omega) (by omega)
  refine bind_of (round16 hv0 hA).1 (bind_of (round16 hu0 hB).1 (bind_of (round16 hv1 hA).1 (bind_of (round16 hu1 hB).1 (bind_of (round16 hv2 hA).1 (bind_of (round16 hu2 hB).1 (bind_of (round16 h65 hA).1 (bind_of (round16 hu3 hB).1 ?_)))))))
  rw [s hu0 hv0, s hu1 hv1, s hu2 hv2, s hu3 h65]
  rfl

/-- A part as a byte. -/
def fin (x a : Int) : Int := mn (rnd (x * 255) a) 255 % 256

theorem final_f {v0 v1 v2 v3 : Int} (h0 : P16 v0) (h1 : P16 v1) (h2 : P16 v2) (h3 : P16 v3) :
    blend_Final.f v0 v1 v2 v3 = some (if v3 = 0 then (0, 0, 0, 0) else (fin v0 v3, fin v1 v3, fin v2 v3, rnd v3 257 % 256)) := by
  unfold blend_Final.f
  unfold P16 at *
  have r3 : fixed_Round.f v3 257 = some (rnd v3 257) := round_f (by omega) (by omega) (by omega) (by omega)
  rw [w64 (n := v0 * 255) (by omega) (by omega), w64 (n := v1 * 255) (by omega) (by omega), w64 (n := v2 * 255) (by omega) (by omega)]
  by_cases hz : v3 = 0
  · rw [if_pos hz]
    have z : ∀ x : Int, fixed_Round.f x v3 = some 0 := fun x => by unfold fixed_Round.f; rw [if_pos (by omega)]
    refine bind_of r3 (bind_of (z _) (bind_of (z _) (bind_of (z _) ?_)))
    subst hz
    decide +kernel
  · rw [if_neg hz]
    refine bind_of r3 (bind_of (round_f (by omega) (by omega) (by omega) (by omega)) (bind_of (round_f (by omega) (by omega) (by omega) (by omega)) (bind_of (round_f (by omega) (by omega) (by omega) (by omega)) ?_)))
    rfl

theorem and_mask (k : Nat) (hk : k ≤ 62) (n m : Int) (hm : m = 2 ^ k - 1) : Go.bits .and .i64 n m = n % 2 ^ k := by
  have hp : (2 : Int) ^ k ≤ 2 ^ 62 := by
    have : 2 ^ k ≤ 2 ^ 62 := Nat.pow_le_pow_right (by omega) hk
    have e : ((2 ^ k : Nat) : Int) = (2 : Int) ^ k := by simp
    omega
  have hp0 : (1 : Int) ≤ 2 ^ k := Int.pow_pos (by omega)
  have e : ((2 ^ k : Nat) : Int) = (2 : Int) ^ k := by simp
  have hb : (BitVec.ofInt 64 m).toNat = 2 ^ k - 1 := by
    rw [BitVec.toNat_ofInt, hm]
    omega
  have key : (BitVec.ofInt 64 n &&& BitVec.ofInt 64 m).toNat = (n % ((2 ^ 64 : Nat) : Int)).toNat % 2 ^ k := by
    rw [BitVec.toNat_and, BitVec.toNat_ofInt, hb, Nat.and_two_pow_sub_one_eq_mod]
  show IntKind.i64.wrap ((BitVec.ofInt 64 n &&& BitVec.ofInt 64 m).toNat : Nat) = n % 2 ^ k
  rw [key, IntKind.wrap_i64]
  have h1 : 0 ≤ n % 18446744073709551616 := by omega
  have h2 : (((n % ((2 ^ 64 : Nat) : Int)).toNat % 2 ^ k : Nat) : Int) = n % 18446744073709551616 % 2 ^ k := by
    rw [Int.natCast_emod, e, Int.toNat_of_nonneg (by omega)]
    rfl
  have h3 : n % 18446744073709551616 % 2 ^ k = n % 2 ^ k := by
    apply Int.emod_emod_of_dvd
    exact ⟨2 ^ (64 - k), by rw [← Int.pow_add, show k + (64 - k) = 64 by omega]; rfl⟩
  rw [h2, h3]
  have h4 := Int.emod_nonneg n (show (2 : Int) ^ k ≠ 0 by omega)
  have h5 := Int.emod_lt_of_pos n (show (0 : Int) < 2 ^ k by omega)
  omega

theorem part_f (a : Int) : ∃ x, glyphiclaw26_part.f a = some x ∧ P16 x := by
  refine ⟨a % 2 ^ 16, ?_, ?_⟩
  · unfold glyphiclaw26_part.f
    rw [and_mask 16 (by omega) a 65535 (by decide)]
  · exact ⟨by omega, by omega⟩

theorem parts_f (a b c d : Int) : ∃ x y z t, glyphiclaw26_parts.f a b c d = some (x, y, z, t) ∧ P16 x ∧ P16 y ∧ P16 z ∧ P16 t := by
  obtain ⟨x, hx, bx⟩ := part_f a
  obtain ⟨y, hy, by_⟩ := part_f b
  obtain ⟨z, hz, bz⟩ := part_f c
  obtain ⟨t, ht, bt⟩ := part_f d
  refine ⟨x, y, z, t, ?_, bx, by_, bz, bt⟩
  unfold glyphiclaw26_parts.f
  exact bind_of hx (bind_of hy (bind_of hz (bind_of ht rfl)))

theorem ch_all {u v : Int} (hv : P16 v) : ch u v 65535 = v := by
  unfold P16 at hv
  unfold ch
  rw [show u * (65535 - 65535) = 0 by omega, rnd_0 (by omega), rnd_self (by omega)]
  unfold mn
  split <;> omega

theorem ch_none {u v : Int} (hu : P16 u) : ch u v 0 = u := by
  unfold P16 at hu
  unfold ch
  rw [show v * 0 = 0 by omega, rnd_0 (by omega), show u * (65535 - 0) = u * 65535 by omega, rnd_self (by omega)]
  unfold mn
  split <;> omega

theorem ch_grows {u a b : Int} (hu : P16 u) (h : a ≤ b) : ch u 65535 a ≤ ch u 65535 b := by
  unfold P16 at hu
  unfold ch
  rw [rnd_all, rnd_all]
  have m : rnd (u * (65535 - a)) 65535 ≤ rnd (u * (65535 - b) + (b - a) * 65535) 65535 := by
    refine rnd_mono (by omega) ?_
    have e := Int.mul_le_mul_of_nonneg_right hu.2 (show 0 ≤ b - a by omega)
    have e2 : u * (65535 - a) = u * (65535 - b) + u * (b - a) := by grind
    omega
  have s : rnd (u * (65535 - b) + (b - a) * 65535) 65535 = rnd (u * (65535 - b)) 65535 + (b - a) := by
    unfold rnd
    omega
  rw [s] at m
  unfold mn
  split <;> split <;> omega

theorem cov_grows {v c d : Int} (hv : P16 v) (h : c ≤ d) : cov v c ≤ cov v d := by
  unfold cov
  exact rnd_mono (by omega) (Int.mul_le_mul_of_nonneg_left h hv.1)

theorem BlendEnds : glyphiclaw26_BlendEnds.Pure := by
  intro a0 a1 a2 a3 a4 a5 a6 a7 a8 _ _ _ _ _ _ _ _ _
  have hf : glyphiclaw26_first.f = some true := by decide +kernel
  unfold glyphiclaw26_BlendEnds.f
  refine bind_of hf ?_
  rw [if_pos rfl]
  obtain ⟨u0, u1, u2, u3, hu, r0, r1, r2, p3⟩ := parts_f a0 a1 a2 a3
  obtain ⟨v0, v1, v2, v3, hv, q0, q1, q2, q3⟩ := parts_f a4 a5 a6 a7
  obtain ⟨c, ec, c0, c1⟩ := cyc a8 (b := 64) (by omega) (by omega)
  rw [ec]
  refine bind_of hu (bind_of hv ?_)
  dsimp only
  have lo : ∀ x : Int, P16 x → P16 (mn x u3) := by
    intro x hx
    unfold P16 at *
    unfold mn
    split <;> omega
  have p0 := lo u0 r0
  have p1 := lo u1 r1
  have p2 := lo u2 r2
  generalize mn u0 u3 = x0 at *
  generalize mn u1 u3 = x1 at *
  generalize mn u2 u3 = x2 at *
  have h65 : P16 65535 := ⟨by omega, by omega⟩
  have h0 : P16 0 := ⟨by omega, by omega⟩
  have cu : cov 65535 64 = 65535 := by decide +kernel
  have cz : cov 0 c = 0 := by unfold cov; rw [Int.zero_mul]; exact rnd_0 (by omega)
  have cy : cov v3 0 = 0 := by unfold cov; rw [show v3 * 0 = 0 by omega]; exact rnd_0 (by omega)
  obtain ⟨_, hA⟩ := cov_f q3 c0 (show c ≤ 64 by omega)
  obtain ⟨_, hB⟩ := cov_f q3 (show 0 ≤ c + 1 by omega) (show c + 1 ≤ 64 by omega)
  have hAB := cov_grows q3 (show c ≤ c + 1 by omega)
  rw [w64 (n := c + 1) (by omega) (by omega)]
  refine bind_of (over_f p0 p1 p2 p3 q0 q1 q2 h65 (by omega) (by omega)) (bind_of (over_f p0 p1 p2 p3 q0 q1 q2 h0 c0 (by omega)) (bind_of (over_f p0 p1 p2 p3 q0 q1 q2 q3 c0 (by omega)) (bind_of (over_f p0 p1 p2 p3 q0 q1 q2 q3 (by omega) (by omega)) ?_)))
  dsimp only
  rw [cu, cz, ch_all q0, ch_all q1, ch_all q2, ch_all h65, ch_none p0, ch_none p1, ch_none p2, ch_none p3]
  have b0 := ch_bd p0 q0 hA
  have b1 := ch_bd p1 q1 hA
  have b2 := ch_bd p2 q2 hA
  have b3 := ch_bd p3 h65 hA
  have d0 := ch_bd p0 q0 hB
  have d1 := ch_bd p1 q1 hB
  have d2 := ch_bd p2 q2 hB
  have d3 := ch_bd p3 h65 hB
  have g1 := ch_grows p3 hAB
  have g2 := ch_grows p3 hA.1
  rw [ch_none p3] at g2
  generalize ch x0 v0 (cov v3 c) = e0 at *
  generalize ch x1 v1 (cov v3 c) = e1 at *
  generalize ch x2 v2 (cov v3 c) = e2 at *
  generalize ch u3 65535 (cov v3 c) = e3 at *
  generalize ch x0 v0 (cov v3 (c + 1)) = f0 at *
  generalize ch x1 v1 (cov v3 (c + 1)) = f1 at *
  generalize ch x2 v2 (cov v3 (c + 1)) = f2 at *
  generalize ch u3 65535 (cov v3 (c + 1)) = f3 at *
  have n : ∀ {x : Int}, P16 x → ¬ x < 0 ∧ ¬ x > 65535 := fun h => ⟨by have := h.1; omega, by have := h.2; omega⟩
  rw [if_pos rfl, if_pos rfl, if_neg (n b0).1, if_neg (n b0).2, if_neg (n d0).1, if_neg (n d0).2]
  rw [if_pos rfl, if_pos rfl, if_neg (n b1).1, if_neg (n b1).2, if_neg (n d1).1, if_neg (n d1).2]
  rw [if_pos rfl, if_pos rfl, if_neg (n b2).1, if_neg (n b2).2, if_neg (n d2).1, if_neg (n d2).2]
  rw [if_pos rfl, if_pos rfl, if_neg (n b3).1, if_neg (n b3).2, if_neg (n d3).1, if_neg (n d3).2]
  refine bind_of (final_f q0 q1 q2 h65) ?_
  rw [if_neg (show ¬ (65535 : Int) = 0 by omega)]
  unfold P16 at *
  rw [w64 (n := f3 + 1) (by omega) (by omega), w64 (n := e3 + 1) (by omega) (by omega), if_pos (by omega), if_pos (by omega)]
  refine bind_of (over_f p0 p1 p2 p3 q0 q1 q2 q3 (by omega) (by omega)) ?_
  dsimp only
  rw [cy, ch_none p0, ch_none p1, ch_none p2, ch_none p3, if_pos (by simp), if_pos (by decide +kernel)]
  have o : fin v0 65535 = (v0 * 255 + 32767) / 65535 := by
    unfold fin rnd mn
    split <;> omega
  rw [w64 (n := v0 * 255) (by omega) (by omega), w64 (n := v0 * 255 + 32767) (by omega) (by omega), Int.tdiv_eq_ediv_of_nonneg (by omega), o]
  simp

end Go.Proofs.Ytmbcokndaaelaaa.Pure
