/- Proved: ArcBoxes is true for every input. -/
import Derived.Test.YtmbcokndaaelaaaQArcBoxesx1
import Derived.OpenShut
namespace Go.Proofs.Ytmbcokndaaelaaa.Pure
open Go.RowKit Go.Proofs.Ytmbcokndaaelaaa.QArcBoxes Go.Proofs.YtmbcokndaaelaaaW.PrintWords Go.Proofs.YtmbcokndaaelaaaW.PrintLast Go.Proofs.YtmbcokndaaelaaaW.PrintMore

theorem bind_of {α β : Type} {o : Option α} {f : α → Option β} {x : α} {r : Option β} (h : o = some x) (h2 : f x = r) : o.bind f = r := by
  subst h
  exact h2

theorem w64 {n : Int} (h0 : -9223372036854775808 ≤ n) (h1 : n ≤ 9223372036854775807) : wrap64 n = n := by
  unfold wrap64
  omega

theorem div_is {a b q : Int} (hb : 0 < b) (h1 : q * b ≤ a) (h2 : a < q * b + b) : a / b = q := by
  apply Int.le_antisymm
  · exact Int.lt_add_one_iff.1 (Int.ediv_lt_of_lt_mul hb (by rw [Int.add_mul, Int.one_mul]; exact h2))
  · exact Int.le_ediv_of_mul_le hb h1

theorem div_in (a : Int) {b : Int} (hb : 0 < b) : a / b * b ≤ a ∧ a < a / b * b + b := by
  have h1 := Int.mul_ediv_add_emod a b
  have h2 := Int.emod_nonneg a (Int.ne_of_gt hb)
  have h3 := Int.emod_lt_of_pos a hb
  rw [Int.mul_comm] at h1
  omega

theorem div_bd (a : Int) {b : Int} (hb : 0 < b) : (0 ≤ a → 0 ≤ a / b ∧ a / b ≤ a) ∧ (a < 0 → a ≤ a / b ∧ a / b < 0) := by
  obtain ⟨h1, h2⟩ := div_in a hb
  refine ⟨fun h => ⟨Int.ediv_nonneg h (by omega), Int.ediv_le_self _ h⟩, fun h => ⟨?_, Int.ediv_neg_of_neg_of_pos h hb⟩⟩
  exact Int.le_ediv_of_mul_le hb (by
    have : a * b ≤ a * 1 := Int.mul_le_mul_of_nonpos_left (by omega) (by omega)
    omega)

theorem tmod_in (a : Int) {b : Int} (hb : 0 < b) : -b < Int.tmod a b ∧ Int.tmod a b < b := by
  rw [Int.tmod_eq_emod]
  have h2 := Int.emod_nonneg a (show b ≠ 0 by omega)
  have h3 := Int.emod_lt_of_pos a hb
  split
  · omega
  · have : ((b.natAbs : Nat) : Int) = b := by omega
    rename_i h
    have hne : a % b ≠ 0 := fun h0 => h (Or.inr (Int.dvd_of_emod_eq_zero h0))
    omega

theorem tmod_pos {a b : Int} (ha : 0 ≤ a) : Int.tmod a b = a % b := by
  rw [Int.tmod_eq_emod, if_pos (Or.inl ha)]; omega

theorem cyc (a : Int) {b : Int} (hb : 0 < b) (hb1 : b ≤ 4611686018427387903) : ∃ s, Int.tmod (wrap64 (Int.tmod a b + b)) b = s ∧ 0 ≤ s ∧ s < b := by
  have h := tmod_in a hb
  refine ⟨_, rfl, ?_⟩
  rw [w64 (by omega) (by omega), tmod_pos (by omega)]
  exact ⟨Int.emod_nonneg _ (by omega), Int.emod_lt_of_pos _ hb⟩

/-- The nearest of a part, of two the greater. -/
def rnd (a b : Int) : Int := (2 * a + b) / (2 * b)

theorem rnd_is {a b q : Int} (hb : 0 < b) (h1 : 2 * (q * b) ≤ 2 * a + b) (h2 : 2 * a < 2 * (q * b) + b) : rnd a b = q := by
  unfold rnd
  apply div_is (by omega)
  · rw [Int.mul_left_comm]; omega
  · rw [Int.mul_left_comm]; omega

theorem rnd_in (a : Int) {b : Int} (hb : 0 < b) : 2 * (rnd a b * b) ≤ 2 * a + b ∧ 2 * a < 2 * (rnd a b * b) + b := by
  unfold rnd
  obtain ⟨h1, h2⟩ := div_in (2 * a + b) (b := 2 * b) (by omega)
  rw [Int.mul_left_comm] at h1 h2
  omega

theorem rnd_mono {a c b : Int} (hb : 0 < b) (h : a ≤ c) : rnd a b ≤ rnd c b := by
  unfold rnd
  exact Int.ediv_le_ediv (by omega) (by omega)

theorem down_f {a b : Int} (hb : 1 ≤ b) (ha0 : -9223372036854775808 ≤ a) (ha1 : a ≤ 9223372036854775807) : fixed_Down.f a b = some (a / b) := by
  unfold fixed_Down.f
  rw [if_neg (by omega), if_neg (by omega)]
  have hbd := div_bd a (b := b) (by omega)
  by_cases h : 0 ≤ a ∨ b ∣ a
  · have e1 : Int.tdiv a b = a / b := by rw [Int.tdiv_eq_ediv, if_pos h]; omega
    have e2 : Int.tmod a b = a % b := by rw [Int.tmod_eq_emod, if_pos h]; omega
    have h2 := Int.emod_nonneg a (show b ≠ 0 by omega)
    rw [e1, e2, if_neg (by omega), w64 (by omega) (by omega)]
  · have e1 : Int.tdiv a b = a / b + 1 := by rw [Int.tdiv_eq_ediv, if_neg h, Int.sign_eq_one_of_pos (by omega)]
    have e2 : Int.tmod a b = a % b - b := by rw [Int.tmod_eq_emod, if_neg h]; omega
    have h3 := Int.emod_lt_of_pos a (show 0 < b by omega)
    rw [e1, e2, if_pos (by omega), w64 (n := a / b + 1) (by omega) (by omega), w64 (by omega) (by omega)]
    congr 1
    omega

theorem round_f {a b : Int} (hb : 1 ≤ b) (hb1 : b ≤ 9223372036854775807) (ha0 : -9223372036854775808 ≤ a) (ha1 : a ≤ 9223372036854775807) : fixed_Round.f a b = some (rnd a b) := by
  unfold fixed_Round.f
  rw [if_neg (by omega), down_f hb ha0 ha1]
  simp only [Option.bind_some]
  obtain ⟨h1, h2⟩ := div_in a (b := b) (by omega)
  have hbd := div_bd a (b := b) (by omega)
  have e : wrap64 (a - wrap64 (a / b * b)) = a - a / b * b := by
    unfold wrap64
    omega
  rw [e, w64 (n := b - (a - a / b * b)) (by omega) (by omega)]
  by_cases h : a - a / b * b ≥ b - (a - a / b * b)
  · rw [if_pos h]
    have h3 : a / b + 1 ≤ 9223372036854775807 := by
      by_cases hq : a / b < 9223372036854775807
      · omega
      · by_cases h1b : b = 1
        · subst h1b; omega
        · have : a / b * 2 ≤ a / b * b := Int.mul_le_mul_of_nonneg_left (by omega) (by omega)
          omega
    rw [w64 (by omega) h3, rnd_is (q := a / b + 1) (by omega)]
    · rw [Int.add_mul]; omega
    · rw [Int.add_mul]; omega
  · rw [if_neg h, rnd_is (q := a / b) (by omega)]
    · omega
    · omega

theorem rnd_near (a : Int) {b : Int} (hb : 0 < b) : rnd a b = a / b ∨ rnd a b = a / b + 1 := by
  obtain ⟨h1, h2⟩ := div_in a hb
  by_cases h : 2 * (a - a / b * b) < b
  · left
    exact rnd_is hb (by omega) (by omega)
  · right
    exact rnd_is hb (by rw [Int.add_mul]; omega) (by rw [Int.add_mul]; omega)

theorem rnd_next (a : Int) {b : Int} (hb : 0 < b) : rnd (a + b) b = rnd a b + 1 := by
  obtain ⟨h1, h2⟩ := rnd_in a hb
  exact rnd_is hb (by rw [Int.add_mul]; omega) (by rw [Int.add_mul]; omega)

/-- That part of a side. -/
def pt (d : Int) : Int := (1104570 * d + 1000000) / 2000000

theorem part_f {a b : Int} (h0 : -4000000000000 ≤ b - a) (h1 : b - a ≤ 4000000000000) : arc_part.f a b = some (pt (b - a)) := by
  unfold arc_part.f
  rw [w64 (n := b - a) (by omega) (by omega), w64 (n := 552285 * (b - a)) (by omega) (by omega)]
  refine bind_of (round_f (by omega) (by omega) (by omega) (by omega)) ?_
  unfold rnd pt
  congr 2
  omega

theorem pt_bd {d : Int} (h0 : -4000000000000 ≤ d) (h1 : d ≤ 4000000000000) : -4000000000000 ≤ pt d ∧ pt d ≤ 4000000000000 := by
  unfold pt
  omega

theorem cubic_t {ax ay bx by_ : Int} (h0 : -2000000000000 ≤ ax) (h1 : ax ≤ 2000000000000) (h2 : -2000000000000 ≤ ay) (h3 : ay ≤ 2000000000000) (h4 : -2000000000000 ≤ bx) (h5 : bx ≤ 2000000000000) (h6 : -2000000000000 ≤ by_) (h7 : by_ ≤ 2000000000000) :
    arc_Cubic.f ax ay bx by_ true = some (ax + pt (bx - ax), ay, bx, by_ - pt (by_ - ay)) := by
  unfold arc_Cubic.f
  have p := pt_bd (d := bx - ax) (by omega) (by omega)
  have q := pt_bd (d := by_ - ay) (by omega) (by omega)
  refine bind_of (part_f (by omega) (by omega)) (bind_of (part_f (by omega) (by omega)) ?_)
  rw [if_pos rfl, w64 (n := ax + pt (bx - ax)) (by omega) (by omega), w64 (n := by_ - pt (by_ - ay)) (by omega) (by omega)]

theorem cubic_n {ax ay bx by_ : Int} (h0 : -2000000000000 ≤ ax) (h1 : ax ≤ 2000000000000) (h2 : -2000000000000 ≤ ay) (h3 : ay ≤ 2000000000000) (h4 : -2000000000000 ≤ bx) (h5 : bx ≤ 2000000000000) (h6 : -2000000000000 ≤ by_) (h7 : by_ ≤ 2000000000000) :
    arc_Cubic.f ax ay bx by_ false = some (ax, ay + pt (by_ - ay), bx - pt (bx - ax), by_) := by
  unfold arc_Cubic.f
  have p := pt_bd (d := bx - ax) (by omega) (by omega)
  have q := pt_bd (d := by_ - ay) (by omega) (by omega)
  refine bind_of (part_f (by omega) (by omega)) (bind_of (part_f (by omega) (by omega)) ?_)
  rw [if_neg (by decide), w64 (n := ay + pt (by_ - ay)) (by omega) (by omega), w64 (n := bx - pt (bx - ax)) (by omega) (by omega)]

theorem ArcBoxes : glyphiclaw14_ArcBoxes.Pure := by
  intro a0 a1 b0 b1 x _ _ _ _
  have hf : glyphiclaw14_first.f = some true := by decide +kernel
  unfold glyphiclaw14_ArcBoxes.f
  refine bind_of hf ?_
  rw [if_pos rfl]
  have t1 := tmod_in a0 (b := 1000000000001) (by omega)
  have t2 := tmod_in a1 (b := 1000000000001) (by omega)
  have t3 := tmod_in b0 (b := 1000000000001) (by omega)
  have t4 := tmod_in b1 (b := 1000000000001) (by omega)
  refine bind_of (x := (Int.tmod a0 1000000000001, Int.tmod a1 1000000000001)) rfl (bind_of (x := (Int.tmod b0 1000000000001, Int.tmod b1 1000000000001)) rfl ?_)
  generalize Int.tmod a0 1000000000001 = ax at *
  generalize Int.tmod a1 1000000000001 = ay at *
  generalize Int.tmod b0 1000000000001 = bx at *
  generalize Int.tmod b1 1000000000001 = by_ at *
  have o1 : (0 ≤ bx - ax → 0 ≤ pt (bx - ax) ∧ pt (bx - ax) ≤ bx - ax) ∧ (bx - ax ≤ 0 → bx - ax ≤ pt (bx - ax) ∧ pt (bx - ax) ≤ 0) := by unfold pt; omega
  have o2 : (0 ≤ by_ - ay → 0 ≤ pt (by_ - ay) ∧ pt (by_ - ay) ≤ by_ - ay) ∧ (by_ - ay ≤ 0 → by_ - ay ≤ pt (by_ - ay) ∧ pt (by_ - ay) ≤ 0) := by unfold pt; omega
  have m1 : mn ax bx ≤ ax ∧ mn ax bx ≤ bx ∧ (mn ax bx = ax ∨ mn ax bx = bx) := by unfold mn; split <;> omega
  have m2 : mn ay by_ ≤ ay ∧ mn ay by_ ≤ by_ ∧ (mn ay by_ = ay ∨ mn ay by_ = by_) := by unfold mn; split <;> omega
  have m3 : ax ≤ mx ax bx ∧ bx ≤ mx ax bx ∧ (mx ax bx = ax ∨ mx ax bx = bx) := by unfold mx; split <;> omega
  have m4 : ay ≤ mx ay by_ ∧ by_ ≤ mx ay by_ ∧ (mx ay by_ = ay ∨ mx ay by_ = by_) := by unfold mx; split <;> omega
  cases x with
  | true =>
    refine bind_of (cubic_t (by omega) (by omega) (by omega) (by omega) (by omega) (by omega) (by omega) (by omega)) ?_
    dsimp only
    rw [if_neg (by omega), if_neg (by omega), if_neg (by omega), if_neg (by omega), if_neg (by omega), if_neg (by omega), if_neg (by omega), if_neg (by omega), if_pos rfl, if_pos rfl]
    simp
  | false =>
    refine bind_of (cubic_n (by omega) (by omega) (by omega) (by omega) (by omega) (by omega) (by omega) (by omega)) ?_
    dsimp only
    rw [if_neg (by omega), if_neg (by omega), if_neg (by omega), if_neg (by omega), if_neg (by omega), if_neg (by omega), if_neg (by omega), if_neg (by omega), if_neg (by decide), if_pos rfl]
    simp

end Go.Proofs.Ytmbcokndaaelaaa.Pure
