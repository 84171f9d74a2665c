/- Proved: ArcRounds is true for every input. -/
import Derived.Test.YtmbcokndaaelaaaQArcRoundsx0
import Derived.OpenShut
namespace Go.Proofs.Ytmbcokndaaelaaa.Pure
open Go Go.RowKit Go.Proofs.Ytmbcokndaaelaaa.QArcRounds Go.Proofs.YtmbcokndaaelaaaE

theorem bind_of {α β : Type} {o : Option α} {f : α → Option β} {x : α} {r : Option β} (h : o = some x) (h2 : f x = r) : o.bind f = r := by
  subst h
  exact h2

theorem div_is {a b q : Int} (hb : 0 < b) (h1 : q * b ≤ a) (h2 : a < q * b + b) : a / b = q := by
  apply Int.le_antisymm
  · exact Int.lt_add_one_iff.1 (Int.ediv_lt_of_lt_mul hb (by rw [Int.add_mul, Int.one_mul]; exact h2))
  · exact Int.le_ediv_of_mul_le hb h1

theorem div_in (a : Int) {b : Int} (hb : 0 < b) : a / b * b ≤ a ∧ a < a / b * b + b := by
  have h1 := Int.mul_ediv_add_emod a b
  have h2 := Int.emod_nonneg a (Int.ne_of_gt hb)
  have h3 := Int.emod_lt_of_pos a hb
  rw [Int.mul_comm] at h1
  omega

theorem div_bd (a : Int) {b : Int} (hb : 0 < b) : (0 ≤ a → 0 ≤ a / b ∧ a / b ≤ a) ∧ (a < 0 → a ≤ a / b ∧ a / b < 0) := by
  obtain ⟨h1, h2⟩ := div_in a hb
  refine ⟨fun h => ⟨Int.ediv_nonneg h (by omega), Int.ediv_le_self _ h⟩, fun h => ⟨?_, Int.ediv_neg_of_neg_of_pos h hb⟩⟩
  exact Int.le_ediv_of_mul_le hb (by
    have : a * b ≤ a * 1 := Int.mul_le_mul_of_nonpos_left (by omega) (by omega)
    omega)

theorem tmod_in (a : Int) {b : Int} (hb : 0 < b) : -b < Int.tmod a b ∧ Int.tmod a b < b := by
  rw [Int.tmod_eq_emod]
  have h2 := Int.emod_nonneg a (show b ≠ 0 by omega)
  have h3 := Int.emod_lt_of_pos a hb
  split
  · omega
  · have : ((b.natAbs : Nat) : Int) = b := by omega
    rename_i h
    have hne : a % b ≠ 0 := fun h0 => h (Or.inr (Int.dvd_of_emod_eq_zero h0))
    omega

theorem tmod_pos {a b : Int} (ha : 0 ≤ a) : Int.tmod a b = a % b := by
  rw [Int.tmod_eq_emod, if_pos (Or.inl ha)]; omega

theorem cyc (a : Int) {b : Int} (hb : 0 < b) (hb1 : b ≤ 4611686018427387903) : ∃ s, Int.tmod (wr64 (Int.tmod a b + b)) b = s ∧ 0 ≤ s ∧ s < b := by
  have h := tmod_in a hb
  refine ⟨_, rfl, ?_⟩
  rw [w64 (by omega) (by omega), tmod_pos (by omega)]
  exact ⟨Int.emod_nonneg _ (by omega), Int.emod_lt_of_pos _ hb⟩

/-- The nearest of a part, of two the greater. -/
def rnd (a b : Int) : Int := (2 * a + b) / (2 * b)

theorem rnd_is {a b q : Int} (hb : 0 < b) (h1 : 2 * (q * b) ≤ 2 * a + b) (h2 : 2 * a < 2 * (q * b) + b) : rnd a b = q := by
  unfold rnd
  apply div_is (by omega)
  · rw [Int.mul_left_comm]; omega
  · rw [Int.mul_left_comm]; omega

theorem rnd_in (a : Int) {b : Int} (hb : 0 < b) : 2 * (rnd a b * b) ≤ 2 * a + b ∧ 2 * a < 2 * (rnd a b * b) + b := by
  unfold rnd
  obtain ⟨h1, h2⟩ := div_in (2 * a + b) (b := 2 * b) (by omega)
  rw [Int.mul_left_comm] at h1 h2
  omega

theorem rnd_mono {a c b : Int} (hb : 0 < b) (h : a ≤ c) : rnd a b ≤ rnd c b := by
  unfold rnd
  exact Int.ediv_le_ediv (by omega) (by omega)

theorem down_f {a b : Int} (hb : 1 ≤ b) (ha0 : -9223372036854775808 ≤ a) (ha1 : a ≤ 9223372036854775807) : fixed_Down.f a b = some (a / b) := by
  unfold fixed_Down.f
  rw [if_neg (by omega), if_neg (by omega)]
  have hbd := div_bd a (b := b) (by omega)
  by_cases h : 0 ≤ a ∨ b ∣ a
  · have e1 : Int.tdiv a b = a / b := by rw [Int.tdiv_eq_ediv, if_pos h]; omega
    have e2 : Int.tmod a b = a % b := by rw [Int.tmod_eq_emod, if_pos h]; omega
    have h2 := Int.emod_nonneg a (show b ≠ 0 by omega)
    rw [e1, e2, if_neg (by omega), w64 (by omega) (by omega)]
  · have e1 : Int.tdiv a b = a / b + 1 := by rw [Int.tdiv_eq_ediv, if_neg h, Int.sign_eq_one_of_pos (by omega)]
    have e2 : Int.tmod a b = a % b - b := by rw [Int.tmod_eq_emod, if_neg h]; omega
    have h3 := Int.emod_lt_of_pos a (show 0 < b by omega)
    rw [e1, e2, if_pos (by omega), w64 (n := a / b + 1) (by omega) (by omega), w64 (by omega) (by omega)]
    congr 1
    omega

theorem round_f {a b : Int} (hb : 1 ≤ b) (hb1 : b ≤ 9223372036854775807) (ha0 : -9223372036854775808 ≤ a) (ha1 : a ≤ 9223372036854775807) : fixed_Round.f a b = some (rnd a b) := by
  unfold fixed_Round.f
  rw [if_neg (by omega), down_f hb ha0 ha1]
  simp only [Option.bind_some]
  obtain ⟨h1, h2⟩ := div_in a (b := b) (by omega)
  have hbd := div_bd a (b := b) (by omega)
  have e : wr64 (a - wr64 (a / b * b)) = a - a / b * b := by
    simp only [wr64_eq]
    omega
  rw [e, w64 (n := b - (a - a / b * b)) (by omega) (by omega)]
  by_cases h : a - a / b * b ≥ b - (a - a / b * b)
  · rw [if_pos h]
    have h3 : a / b + 1 ≤ 9223372036854775807 := by
      by_cases hq : a / b < 9223372036854775807
      · omega
      · by_cases h1b : b = 1
        · subst h1b; omega
        · have : a / b * 2 ≤ a / b * b := Int.mul_le_mul_of_nonneg_left (by omega) (by omega)
          omega
    rw [w64 (by omega) h3, rnd_is (q := a / b + 1) (by omega)]
    · rw [Int.add_mul]; omega
    · rw [Int.add_mul]; omega
  · rw [if_neg h, rnd_is (q := a / b) (by omega)]
    · omega
    · omega

theorem rnd_near (a : Int) {b : Int} (hb : 0 < b) : rnd a b = a / b ∨ rnd a b = a / b + 1 := by
  obtain ⟨h1, h2⟩ := div_in a hb
  by_cases h : 2 * (a - a / b * b) < b
  · left
    exact rnd_is hb (by omega) (by omega)
  · right
    exact rnd_is hb (by rw [Int.add_mul]; omega) (by rw [Int.add_mul]; omega)

theorem rnd_next (a : Int) {b : Int} (hb : 0 < b) : rnd (a + b) b = rnd a b + 1 := by
  obtain ⟨h1, h2⟩ := rnd_in a hb
  exact rnd_is hb (by rw [Int.add_mul]; omega) (by rw [Int.add_mul]; omega)

/-- That part of a side. -/
def pt (d : Int) : Int := (1104570 * d + 1000000) / 2000000

theorem part_f {a b : Int} (h0 : -4000000000000 ≤ b - a) (h1 : b - a ≤ 4000000000000) : arc_part.f a b = some (pt (b - a)) := by
  unfold arc_part.f
  rw [w64 (n := b - a) (by omega) (by omega), w64 (n := 552285 * (b - a)) (by omega) (by omega)]
  refine bind_of (round_f (by omega) (by omega) (by omega) (by omega)) ?_
  unfold rnd pt
  congr 2
  omega

theorem pt_bd {d : Int} (h0 : -4000000000000 ≤ d) (h1 : d ≤ 4000000000000) : -4000000000000 ≤ pt d ∧ pt d ≤ 4000000000000 := by
  unfold pt
  omega

theorem cubic_t {ax ay bx by_ : Int} (h0 : -2000000000000 ≤ ax) (h1 : ax ≤ 2000000000000) (h2 : -2000000000000 ≤ ay) (h3 : ay ≤ 2000000000000) (h4 : -2000000000000 ≤ bx) (h5 : bx ≤ 2000000000000) (h6 : -2000000000000 ≤ by_) (h7 : by_ ≤ 2000000000000) :
    arc_Cubic.f ax ay bx by_ true = some (ax + pt (bx - ax), ay, bx, by_ - pt (by_ - ay)) := by
  unfold arc_Cubic.f
  have p := pt_bd (d := bx - ax) (by omega) (by omega)
  have q := pt_bd (d := by_ - ay) (by omega) (by omega)
  refine bind_of (part_f (by omega) (by omega)) (bind_of (part_f (by omega) (by omega)) ?_)
  rw [if_pos rfl, w64 (n := ax + pt (bx - ax)) (by omega) (by omega), w64 (n := by_ - pt (by_ - ay)) (by omega) (by omega)]

theorem cubic_n {ax ay bx by_ : Int} (h0 : -2000000000000 ≤ ax) (h1 : ax ≤ 2000000000000) (h2 : -2000000000000 ≤ ay) (h3 : ay ≤ 2000000000000) (h4 : -2000000000000 ≤ bx) (h5 : bx ≤ 2000000000000) (h6 : -2000000000000 ≤ by_) (h7 : by_ ≤ 2000000000000) :
    arc_Cubic.f ax ay bx by_ false = some (ax, ay + pt (by_ - ay), bx - pt (bx - ax), by_) := by
  unfold arc_Cubic.f
  have p := pt_bd (d := bx - ax) (by omega) (by omega)
  have q := pt_bd (d := by_ - ay) (by omega) (by omega)
  refine bind_of (part_f (by omega) (by omega)) (bind_of (part_f (by omega) (by omega)) ?_)
  rw [if_neg (by decide), w64 (n := ay + pt (by_ - ay)) (by omega) (by omega), w64 (n := bx - pt (bx - ax)) (by omega) (by omega)]

theorem pt_lin (k : Int) : pt (k * 1000000) = 552285 * k := by
  unfold pt
  omega

theorem ArcRounds : glyphiclaw14_ArcRounds.Pure := by
  intro t0 o1 A2 r3 r4 a5 _ _ _ _ _
  have hf : glyphiclaw14_first.f = some true := by decide +kernel
  unfold glyphiclaw14_ArcRounds.f
  refine bind_of hf ?_
  rw [if_pos rfl]
  have hx := tmod_in t0 (b := 1000000000) (by omega)
  have hy := tmod_in o1 (b := 1000000000) (by omega)
  obtain ⟨i, ei, i0, i1⟩ := cyc a5 (b := 17) (by omega) (by omega)
  obtain ⟨r, er, r0, r1⟩ := cyc A2 (b := 1000) (by omega) (by omega)
  obtain ⟨s, es, s0, s1⟩ := cyc r3 (b := 1000) (by omega) (by omega)
  rw [ei, er, es]
  clear ei er es
  generalize Int.tmod t0 1000000000 = x at *
  generalize Int.tmod o1 1000000000 = y at *
  rw [w64 (n := x + 1000000) (by omega) (by omega), w64 (n := y + 1000000) (by omega) (by omega), w64 (n := r + 1) (by omega) (by omega), w64 (n := s + 1) (by omega) (by omega)]
  have p1 : pt 1000000 = 552285 := by decide
  have hi : i = 0 ∨ i = 1 ∨ i = 2 ∨ i = 3 ∨ i = 4 ∨ i = 5 ∨ i = 6 ∨ i = 7 ∨ i = 8 ∨ i = 9 ∨ i = 10 ∨ i = 11 ∨ i = 12 ∨ i = 13 ∨ i = 14 ∨ i = 15 ∨ i = 16 := by omega
  cases r4
  · refine bind_of (cubic_n (by omega) (by omega) (by omega) (by omega) (by omega) (by omega) (by omega) (by omega)) ?_
    dsimp only
    rw [if_neg (by decide), show x + 1000000 - x = 1000000 by omega, show y + 1000000 - y = 1000000 by omega, p1]
    have e1 : wr64 (x - x) = 0 := by rw [w64 (by omega) (by omega)]; omega
    have e2 : wr64 (y + 552285 - y) = 552285 := by rw [w64 (by omega) (by omega)]; omega
    have e3 : wr64 (x + 1000000 - 552285 - x) = 447715 := by rw [w64 (by omega) (by omega)]; omega
    have e4 : wr64 (y + 1000000 - y) = 1000000 := by rw [w64 (by omega) (by omega)]; omega
    try rw [e1]
    try rw [e2]
    try rw [e3]
    try rw [e4]
    refine bind_of rfl ?_
    dsimp only
    rw [w64 (n := (r + 1) * 1000000) (by omega) (by omega), w64 (n := (s + 1) * 1000000) (by omega) (by omega), w64 (n := x + (r + 1) * 1000000) (by omega) (by omega), w64 (n := y + (s + 1) * 1000000) (by omega) (by omega)]
    refine bind_of (cubic_n (by omega) (by omega) (by omega) (by omega) (by omega) (by omega) (by omega) (by omega)) ?_
    dsimp only
    rw [if_pos rfl, show x + (r + 1) * 1000000 - x = (r + 1) * 1000000 by omega, show y + (s + 1) * 1000000 - y = (s + 1) * 1000000 by omega, pt_lin, pt_lin, e1]
    try rw [e4]
    try rw [w64 (n := y + (s + 1) * 1000000 - y) (by omega) (by omega)]
    try rw [w64 (n := (s + 1) * 1000000) (by omega) (by omega)]
    try rw [w64 (n := (r + 1) * 0) (by omega) (by omega)]
    rcases hi with rfl | rfl | rfl | rfl | rfl | rfl | rfl | rfl | rfl | rfl | rfl | rfl | rfl | rfl | rfl | rfl | rfl <;> (rw [if_pos (by decide +kernel), if_pos (by decide +kernel), if_neg (by decide), if_pos rfl, if_pos (by omega), if_pos (by omega)]; congr 1; try rw [beq_iff_eq]; try omega)
  · refine bind_of (cubic_t (by omega) (by omega) (by omega) (by omega) (by omega) (by omega) (by omega) (by omega)) ?_
    dsimp only
    rw [if_pos rfl, show x + 1000000 - x = 1000000 by omega, show y + 1000000 - y = 1000000 by omega, p1]
    have e1 : wr64 (x + 552285 - x) = 552285 := by rw [w64 (by omega) (by omega)]; omega
    have e2 : wr64 (y - y) = 0 := by rw [w64 (by omega) (by omega)]; omega
    have e3 : wr64 (x + 1000000 - x) = 1000000 := by rw [w64 (by omega) (by omega)]; omega
    have e4 : wr64 (y + 1000000 - 552285 - y) = 447715 := by rw [w64 (by omega) (by omega)]; omega
    try rw [e1]
    try rw [e2]
    try rw [e3]
    try rw [e4]
    refine bind_of rfl ?_
    dsimp only
    rw [w64 (n := (r + 1) * 1000000) (by omega) (by omega), w64 (n := (s + 1) * 1000000) (by omega) (by omega), w64 (n := x + (r + 1) * 1000000) (by omega) (by omega), w64 (n := y + (s + 1) * 1000000) (by omega) (by omega)]
    refine bind_of (cubic_t (by omega) (by omega) (by omega) (by omega) (by omega) (by omega) (by omega) (by omega)) ?_
    dsimp only
    rw [if_pos rfl, show x + (r + 1) * 1000000 - x = (r + 1) * 1000000 by omega, show y + (s + 1) * 1000000 - y = (s + 1) * 1000000 by omega, pt_lin, pt_lin, e1]
    try rw [e4]
    rw [w64 (n := x + 552285 * (r + 1) - x) (by omega) (by omega), w64 (n := (r + 1) * 552285) (by omega) (by omega), w64 (n := y + (s + 1) * 1000000 - 552285 * (s + 1) - y) (by omega) (by omega), w64 (n := (s + 1) * 447715) (by omega) (by omega)]
    rcases hi with rfl | rfl | rfl | rfl | rfl | rfl | rfl | rfl | rfl | rfl | rfl | rfl | rfl | rfl | rfl | rfl | rfl <;> (rw [if_pos (by decide +kernel), if_pos (by decide +kernel), if_pos rfl, if_pos rfl, if_pos rfl, if_pos (by omega)]; congr 1; try rw [beq_iff_eq]; try omega)

end Go.Proofs.Ytmbcokndaaelaaa.Pure
