/- Proved: TurnFar is true for every input. -/
import Derived.Test.YtgaikembekkfiaaQTurnFarx0
import Derived.OpenShut
namespace Go.Proofs.Ytgaikembekkfiaa.Pure
open Go Go.RowKit Go.Proofs.Ytgaikembekkfiaa.QTurnFar Go.Proofs.YtgaikembekkfiaaE Go.Proofs.YtgaikembekkfiaaX

theorem bind_of {α β : Type} {o : Option α} {f : α → Option β} {x : α} {r : Option β} (h : o = some x) (h2 : f x = r) : o.bind f = r := by
  subst h
  exact h2

theorem div_is {a b q : Int} (hb : 0 < b) (h1 : q * b ≤ a) (h2 : a < q * b + b) : a / b = q := by
  apply Int.le_antisymm
  · exact Int.lt_add_one_iff.1 (Int.ediv_lt_of_lt_mul hb (by rw [Int.add_mul, Int.one_mul]; exact h2))
  · exact Int.le_ediv_of_mul_le hb h1

theorem div_in (a : Int) {b : Int} (hb : 0 < b) : a / b * b ≤ a ∧ a < a / b * b + b := by
  have h1 := Int.mul_ediv_add_emod a b
  have h2 := Int.emod_nonneg a (Int.ne_of_gt hb)
  have h3 := Int.emod_lt_of_pos a hb
  rw [Int.mul_comm] at h1
  omega

theorem div_bd (a : Int) {b : Int} (hb : 0 < b) : (0 ≤ a → 0 ≤ a / b ∧ a / b ≤ a) ∧ (a < 0 → a ≤ a / b ∧ a / b < 0) := by
  obtain ⟨h1, h2⟩ := div_in a hb
  refine ⟨fun h => ⟨Int.ediv_nonneg h (by omega), Int.ediv_le_self _ h⟩, fun h => ⟨?_, Int.ediv_neg_of_neg_of_pos h hb⟩⟩
  exact Int.le_ediv_of_mul_le hb (by
    have : a * b ≤ a * 1 := Int.mul_le_mul_of_nonpos_left (by omega) (by omega)
    omega)

theorem tmod_in (a : Int) {b : Int} (hb : 0 < b) : -b < Int.tmod a b ∧ Int.tmod a b < b := by
  rw [Int.tmod_eq_emod]
  have h2 := Int.emod_nonneg a (show b ≠ 0 by omega)
  have h3 := Int.emod_lt_of_pos a hb
  split
  · omega
  · have : ((b.natAbs : Nat) : Int) = b := by omega
    rename_i h
    have hne : a % b ≠ 0 := fun h0 => h (Or.inr (Int.dvd_of_emod_eq_zero h0))
    omega

theorem tmod_pos {a b : Int} (ha : 0 ≤ a) : Int.tmod a b = a % b := by
  rw [Int.tmod_eq_emod, if_pos (Or.inl ha)]; omega

theorem cyc (a : Int) {b : Int} (hb : 0 < b) (hb1 : b ≤ 4611686018427387903) : ∃ s, Int.tmod (wr64 (Int.tmod a b + b)) b = s ∧ 0 ≤ s ∧ s < b := by
  have h := tmod_in a hb
  refine ⟨_, rfl, ?_⟩
  rw [w64 (by omega) (by omega), tmod_pos (by omega)]
  exact ⟨Int.emod_nonneg _ (by omega), Int.emod_lt_of_pos _ hb⟩

/-- A place so many quarters round. -/
def qx (c x y : Int) : Int := if c = 0 then x else if c = 1 then -y else if c = 2 then -x else y
def qy (c x y : Int) : Int := if c = 0 then y else if c = 1 then x else if c = 2 then -y else -x

theorem cyc_is (a : Int) {b : Int} (hb : 0 < b) (hb1 : b ≤ 4611686018427387903) : Int.tmod (wr64 (Int.tmod a b + b)) b = a % b := by
  have h := tmod_in a hb
  rw [w64 (by omega) (by omega), tmod_pos (by omega), Int.add_emod_right, Int.tmod_eq_emod]
  split
  · simp
  · rename_i hh
    have e : ((b.natAbs : Nat) : Int) = b := by omega
    rw [e, Int.sub_emod_right]
    exact Int.emod_emod_of_dvd a (Int.dvd_refl b)

theorem four (n : Int) : n % 4 = 0 ∨ n % 4 = 1 ∨ n % 4 = 2 ∨ n % 4 = 3 := by omega

theorem quarter_f (k : Nat) {x y n : Int} (x0 : -4000000000000000000 ≤ x) (x1 : x ≤ 4000000000000000000) (y0 : -4000000000000000000 ≤ y) (y1 : y ≤ 4000000000000000000) :
    turn_Quarter.f (k + 5) x y n = some (qx (n % 4) x y, qy (n % 4) x y) := by
  unfold turn_Quarter.f
  have hc := cyc_is n (b := 4) (by omega) (by omega)
  have a1 : wr64 (0 + 1) = 1 := by decide
  have a2 : wr64 (1 + 1) = 2 := by decide
  have a3 : wr64 (2 + 1) = 3 := by decide
  have n1 : ∀ z : Int, -4000000000000000000 ≤ z → z ≤ 4000000000000000000 → wr64 (0 - z) = -z := fun z h1 h2 => by rw [w64 (by omega) (by omega)]; omega
  refine bind_of (x := (qx (n % 4) x y, qy (n % 4) x y)) ?_ rfl
  rcases four n with h | h | h | h
  · rw [turn_Quarter.l0, hc, h, if_neg (by decide)]; rfl
  · rw [turn_Quarter.l0, hc, h, if_pos (by decide), a1, turn_Quarter.l0, hc, h, if_neg (by decide), n1 y y0 y1]; rfl
  · rw [turn_Quarter.l0, hc, h, if_pos (by decide), a1, turn_Quarter.l0, hc, h, if_pos (by decide), a2, turn_Quarter.l0, hc, h, if_neg (by decide), n1 y y0 y1, n1 x x0 x1]; rfl
  · rw [turn_Quarter.l0, hc, h, if_pos (by decide), a1, turn_Quarter.l0, hc, h, if_pos (by decide), a2, turn_Quarter.l0, hc, h, if_pos (by decide), a3, turn_Quarter.l0, hc, h, if_neg (by decide), n1 y y0 y1, n1 x x0 x1, n1 (-y) (by omega) (by omega), Int.neg_neg]; rfl

theorem l0_mod (n : Int) : ∀ (k : Nat) (i x y : Int), turn_Quarter.l0 k n i x y = turn_Quarter.l0 k (n % 4) i x y
  | 0, i, x, y => rfl
  | k + 1, i, x, y => by
    rw [turn_Quarter.l0, turn_Quarter.l0, cyc_is n (b := 4) (by omega) (by omega), cyc_is (n % 4) (b := 4) (by omega) (by omega), show n % 4 % 4 = n % 4 by omega, l0_mod n k]
theorem apply_mod (k : Nat) (a b c d e n : Int) : turn_Apply.f k a b c d e n = turn_Apply.f k a b c d e (n % 4) := by
  have h : ∀ x y, turn_Quarter.f k x y n = turn_Quarter.f k x y (n % 4) := fun x y => by unfold turn_Quarter.f; rw [l0_mod]
  unfold turn_Apply.f
  simp only [h]

theorem TurnFar : glyphiclaw13_TurnFar.Pure := by
  intro w o n _ _
  refine ⟨8, ?_⟩
  have hf : glyphiclaw13_first.f 8 = some true := by decide +kernel
  unfold glyphiclaw13_TurnFar.f
  refine bind_of hf ?_
  rw [if_pos rfl, cyc_is w (b := 5) (by omega) (by omega)]
  have h5 : w % 5 = 0 ∨ w % 5 = 1 ∨ w % 5 = 2 ∨ w % 5 = 3 ∨ w % 5 = 4 := by omega
  have h4 := four n
  have A := fun a b c d e => apply_mod 8 a b c d e n
  cases o with
  | true =>
    refine bind_of (x := (true, 1000000000000001)) rfl ?_
    rcases h5 with h | h | h | h | h <;> rw [h]
    · refine bind_of (x := (n, 1000000, 0, 0, 1000000000000001, -1)) rfl ?_
      dsimp only
      rw [A]
      rcases h4 with g | g | g | g <;> rw [g] <;> decide +kernel
    · refine bind_of (x := (n, 1000000, 0, 0, 1, -1000000000000001)) rfl ?_
      dsimp only
      rw [A]
      rcases h4 with g | g | g | g <;> rw [g] <;> decide +kernel
    · refine bind_of (x := (n, 1000000, 1000000000000001, 0, 0, 0)) rfl ?_
      dsimp only
      rw [A]
      rcases h4 with g | g | g | g <;> rw [g] <;> decide +kernel
    · refine bind_of (x := (n, 1000000000, 0, 0, 1000000000001, -1)) rfl ?_
      dsimp only
      rw [A]
      rcases h4 with g | g | g | g <;> rw [g] <;> decide +kernel
    · refine bind_of (x := (0, 1000000, 5, 5, 999999999999996, 999999999999996)) rfl ?_
      decide +kernel
  | false =>
    refine bind_of (x := (true, 1000000000000000)) rfl ?_
    rcases h5 with h | h | h | h | h <;> rw [h]
    · refine bind_of (x := (n, 1000000, 0, 0, 1000000000000000, -1)) rfl ?_
      dsimp only
      rw [A]
      rcases h4 with g | g | g | g <;> rw [g] <;> decide +kernel
    · refine bind_of (x := (n, 1000000, 0, 0, 1, -1000000000000000)) rfl ?_
      dsimp only
      rw [A]
      rcases h4 with g | g | g | g <;> rw [g] <;> decide +kernel
    · refine bind_of (x := (n, 1000000, 1000000000000000, 0, 0, 0)) rfl ?_
      dsimp only
      rw [A]
      rcases h4 with g | g | g | g <;> rw [g] <;> decide +kernel
    · refine bind_of (x := (n, 1000000000, 0, 0, 1000000000000, -1)) rfl ?_
      dsimp only
      rw [A]
      rcases h4 with g | g | g | g <;> rw [g] <;> decide +kernel
    · refine bind_of (x := (0, 1000000, 5, 5, 999999999999995, 999999999999995)) rfl ?_
      decide +kernel

end Go.Proofs.Ytgaikembekkfiaa.Pure
