/- Proved: TurnRounds is true for every input. -/
import Derived.Test.YtgaikembekkfiaaQTurnRoundsx0
import Derived.OpenShut
namespace Go.Proofs.Ytgaikembekkfiaa.Pure
open Go Go.RowKit Go.Proofs.Ytgaikembekkfiaa.QTurnRounds Go.Proofs.YtgaikembekkfiaaE Go.Proofs.YtgaikembekkfiaaX

theorem bind_of {α β : Type} {o : Option α} {f : α → Option β} {x : α} {r : Option β} (h : o = some x) (h2 : f x = r) : o.bind f = r := by
  subst h
  exact h2

theorem div_is {a b q : Int} (hb : 0 < b) (h1 : q * b ≤ a) (h2 : a < q * b + b) : a / b = q := by
  apply Int.le_antisymm
  · exact Int.lt_add_one_iff.1 (Int.ediv_lt_of_lt_mul hb (by rw [Int.add_mul, Int.one_mul]; exact h2))
  · exact Int.le_ediv_of_mul_le hb h1

theorem div_in (a : Int) {b : Int} (hb : 0 < b) : a / b * b ≤ a ∧ a < a / b * b + b := by
  have h1 := Int.mul_ediv_add_emod a b
  have h2 := Int.emod_nonneg a (Int.ne_of_gt hb)
  have h3 := Int.emod_lt_of_pos a hb
  rw [Int.mul_comm] at h1
  omega

theorem div_bd (a : Int) {b : Int} (hb : 0 < b) : (0 ≤ a → 0 ≤ a / b ∧ a / b ≤ a) ∧ (a < 0 → a ≤ a / b ∧ a / b < 0) := by
  obtain ⟨h1, h2⟩ := div_in a hb
  refine ⟨fun h => ⟨Int.ediv_nonneg h (by omega), Int.ediv_le_self _ h⟩, fun h => ⟨?_, Int.ediv_neg_of_neg_of_pos h hb⟩⟩
  exact Int.le_ediv_of_mul_le hb (by
    have : a * b ≤ a * 1 := Int.mul_le_mul_of_nonpos_left (by omega) (by omega)
    omega)

theorem tmod_in (a : Int) {b : Int} (hb : 0 < b) : -b < Int.tmod a b ∧ Int.tmod a b < b := by
  rw [Int.tmod_eq_emod]
  have h2 := Int.emod_nonneg a (show b ≠ 0 by omega)
  have h3 := Int.emod_lt_of_pos a hb
  split
  · omega
  · have : ((b.natAbs : Nat) : Int) = b := by omega
    rename_i h
    have hne : a % b ≠ 0 := fun h0 => h (Or.inr (Int.dvd_of_emod_eq_zero h0))
    omega

theorem tmod_pos {a b : Int} (ha : 0 ≤ a) : Int.tmod a b = a % b := by
  rw [Int.tmod_eq_emod, if_pos (Or.inl ha)]; omega

theorem cyc (a : Int) {b : Int} (hb : 0 < b) (hb1 : b ≤ 4611686018427387903) : ∃ s, Int.tmod (wr64 (Int.tmod a b + b)) b = s ∧ 0 ≤ s ∧ s < b := by
  have h := tmod_in a hb
  refine ⟨_, rfl, ?_⟩
  rw [w64 (by omega) (by omega), tmod_pos (by omega)]
  exact ⟨Int.emod_nonneg _ (by omega), Int.emod_lt_of_pos _ hb⟩

/-- The nearest of a part, of two the greater. -/
def rnd (a b : Int) : Int := (2 * a + b) / (2 * b)

theorem rnd_is {a b q : Int} (hb : 0 < b) (h1 : 2 * (q * b) ≤ 2 * a + b) (h2 : 2 * a < 2 * (q * b) + b) : rnd a b = q := by
  unfold rnd
  apply div_is (by omega)
  · rw [Int.mul_left_comm]; omega
  · rw [Int.mul_left_comm]; omega

theorem rnd_in (a : Int) {b : Int} (hb : 0 < b) : 2 * (rnd a b * b) ≤ 2 * a + b ∧ 2 * a < 2 * (rnd a b * b) + b := by
  unfold rnd
  obtain ⟨h1, h2⟩ := div_in (2 * a + b) (b := 2 * b) (by omega)
  rw [Int.mul_left_comm] at h1 h2
  omega

theorem rnd_mono {a c b : Int} (hb : 0 < b) (h : a ≤ c) : rnd a b ≤ rnd c b := by
  unfold rnd
  exact Int.ediv_le_ediv (by omega) (by omega)

theorem rnd_near (a : Int) {b : Int} (hb : 0 < b) : rnd a b = a / b ∨ rnd a b = a / b + 1 := by
  obtain ⟨h1, h2⟩ := div_in a hb
  by_cases h : 2 * (a - a / b * b) < b
  · left
    exact rnd_is hb (by omega) (by omega)
  · right
    exact rnd_is hb (by rw [Int.add_mul]; omega) (by rw [Int.add_mul]; omega)

theorem rnd_next (a : Int) {b : Int} (hb : 0 < b) : rnd (a + b) b = rnd a b + 1 := by
  obtain ⟨h1, h2⟩ := rnd_in a hb
  exact rnd_is hb (by rw [Int.add_mul]; omega) (by rw [Int.add_mul]; omega)

/-- A place so many quarters round. -/
def qx (c x y : Int) : Int := if c = 0 then x else if c = 1 then -y else if c = 2 then -x else y
def qy (c x y : Int) : Int := if c = 0 then y else if c = 1 then x else if c = 2 then -y else -x

theorem cyc_is (a : Int) {b : Int} (hb : 0 < b) (hb1 : b ≤ 4611686018427387903) : Int.tmod (wr64 (Int.tmod a b + b)) b = a % b := by
  have h := tmod_in a hb
  rw [w64 (by omega) (by omega), tmod_pos (by omega), Int.add_emod_right, Int.tmod_eq_emod]
  split
  · simp
  · rename_i hh
    have e : ((b.natAbs : Nat) : Int) = b := by omega
    rw [e, Int.sub_emod_right]
    exact Int.emod_emod_of_dvd a (Int.dvd_refl b)

theorem four (n : Int) : n % 4 = 0 ∨ n % 4 = 1 ∨ n % 4 = 2 ∨ n % 4 = 3 := by omega

theorem quarter_f (k : Nat) {x y n : Int} (x0 : -4000000000000000000 ≤ x) (x1 : x ≤ 4000000000000000000) (y0 : -4000000000000000000 ≤ y) (y1 : y ≤ 4000000000000000000) :
    turn_Quarter.f (k + 5) x y n = some (qx (n % 4) x y, qy (n % 4) x y) := by
  unfold turn_Quarter.f
  have hc := cyc_is n (b := 4) (by omega) (by omega)
  have a1 : wr64 (0 + 1) = 1 := by decide
  have a2 : wr64 (1 + 1) = 2 := by decide
  have a3 : wr64 (2 + 1) = 3 := by decide
  have n1 : ∀ z : Int, -4000000000000000000 ≤ z → z ≤ 4000000000000000000 → wr64 (0 - z) = -z := fun z h1 h2 => by rw [w64 (by omega) (by omega)]; omega
  refine bind_of (x := (qx (n % 4) x y, qy (n % 4) x y)) ?_ rfl
  rcases four n with h | h | h | h
  · rw [turn_Quarter.l0, hc, h, if_neg (by decide)]; rfl
  · rw [turn_Quarter.l0, hc, h, if_pos (by decide), a1, turn_Quarter.l0, hc, h, if_neg (by decide), n1 y y0 y1]; rfl
  · rw [turn_Quarter.l0, hc, h, if_pos (by decide), a1, turn_Quarter.l0, hc, h, if_pos (by decide), a2, turn_Quarter.l0, hc, h, if_neg (by decide), n1 y y0 y1, n1 x x0 x1]; rfl
  · rw [turn_Quarter.l0, hc, h, if_pos (by decide), a1, turn_Quarter.l0, hc, h, if_pos (by decide), a2, turn_Quarter.l0, hc, h, if_pos (by decide), a3, turn_Quarter.l0, hc, h, if_neg (by decide), n1 y y0 y1, n1 x x0 x1, n1 (-y) (by omega) (by omega), Int.neg_neg]; rfl

theorem l0_mod (n : Int) : ∀ (k : Nat) (i x y : Int), turn_Quarter.l0 k n i x y = turn_Quarter.l0 k (n % 4) i x y
  | 0, i, x, y => rfl
  | k + 1, i, x, y => by
    rw [turn_Quarter.l0, turn_Quarter.l0, cyc_is n (b := 4) (by omega) (by omega), cyc_is (n % 4) (b := 4) (by omega) (by omega), show n % 4 % 4 = n % 4 by omega, l0_mod n k]
theorem apply_mod (k : Nat) (a b c d e n : Int) : turn_Apply.f k a b c d e n = turn_Apply.f k a b c d e (n % 4) := by
  have h : ∀ x y, turn_Quarter.f k x y n = turn_Quarter.f k x y (n % 4) := fun x y => by unfold turn_Quarter.f; rw [l0_mod]
  unfold turn_Apply.f
  simp only [h]

theorem size_f {a : Int} (h0 : -9223372036854775808 ≤ a) (h1 : a ≤ 9223372036854775807) : fixed_size.f a = some (a.natAbs : Int) := by
  unfold fixed_size.f
  by_cases h : a < 0
  · rw [if_pos h, wru64_eq, wru64_eq]
    congr 1
    omega
  · rw [if_neg h, wru64_eq]
    congr 1
    omega

theorem mul_sign (a b : Int) : ((decide (a < 0)) = (decide (b < 0)) → a * b = (a.natAbs : Int) * (b.natAbs : Int)) ∧ (¬ (decide (a < 0)) = (decide (b < 0)) → a * b = -((a.natAbs : Int) * (b.natAbs : Int))) := by
  by_cases ha : a < 0
  · have ea : (a.natAbs : Int) = -a := by omega
    by_cases hb : b < 0
    · have eb : (b.natAbs : Int) = -b := by omega
      rw [decide_eq_true ha, decide_eq_true hb, ea, eb, Int.neg_mul_neg]
      simp
    · have eb : (b.natAbs : Int) = b := by omega
      rw [decide_eq_true ha, decide_eq_false hb, ea, eb, Int.neg_mul]
      simp
  · have ea : (a.natAbs : Int) = a := by omega
    by_cases hb : b < 0
    · have eb : (b.natAbs : Int) = -b := by omega
      rw [decide_eq_false ha, decide_eq_true hb, ea, eb, Int.mul_neg]
      simp
    · have eb : (b.natAbs : Int) = b := by omega
      rw [decide_eq_false ha, decide_eq_false hb, ea, eb]
      simp

theorem one_of {q z c s : Int} (hc : 1 ≤ c) (h1 : 2 * (q * c) ≤ 2 * s + c) (h2 : 2 * s < 2 * (q * c) + c) (z1 : 2 * (z * c) ≤ 2 * s + c) (z2 : 2 * s < 2 * (z * c) + c) : q = z := by
  have p1 : (q - z) * c < c := by rw [Int.sub_mul]; omega
  have p2 : (z - q) * c < c := by rw [Int.sub_mul]; omega
  have p3 : q - z < 1 := by
    by_cases hh : q - z < 1
    · exact hh
    · have := Int.mul_le_mul_of_nonneg_right (show 1 ≤ q - z by omega) (show 0 ≤ c by omega)
      omega
  have p4 : z - q < 1 := by
    by_cases hh : z - q < 1
    · exact hh
    · have := Int.mul_le_mul_of_nonneg_right (show 1 ≤ z - q by omega) (show 0 ≤ c by omega)
      omega
  omega

/-- A product over a third, to the nearest, where it is not too far. -/
theorem md_in {a b c : Int} (a0 : -9223372036854775808 ≤ a) (a1 : a ≤ 9223372036854775807) (b0 : -9223372036854775808 ≤ b) (b1 : b ≤ 9223372036854775807) (c0 : 1 ≤ c) (c1 : c ≤ 9223372036854775807)
    (q0 : -4000000000000000000 ≤ rnd (a * b) c) (q1 : rnd (a * b) c ≤ 4000000000000000000) : fixed_MulDiv.f a b c = some (rnd (a * b) c, true) := by
  unfold fixed_MulDiv.f
  rw [if_neg (by omega)]
  refine bind_of (size_f a0 a1) (bind_of (size_f b0 b1) ?_)
  have hs := mul_sign a b
  have A0 : 0 ≤ (a.natAbs : Int) ∧ (a.natAbs : Int) ≤ 9223372036854775808 := by omega
  have B0 : 0 ≤ (b.natAbs : Int) ∧ (b.natAbs : Int) ≤ 9223372036854775808 := by omega
  generalize hA : (a.natAbs : Int) = A at *
  generalize hB : (b.natAbs : Int) = B at *
  have P0 : 0 ≤ A * B := Int.mul_nonneg A0.1 B0.1
  have M : bits_Mul64.f A B = some (A * B / 18446744073709551616, A * B % 18446744073709551616) := by
    unfold bits_Mul64.f
    rw [if_pos ⟨A0.1, by omega, B0.1, by omega⟩]
  refine bind_of M ?_
  have ec : wru64 c = c := by rw [wru64_eq]; omega
  rw [ec]
  generalize hP : A * B = P at *
  dsimp only
  obtain ⟨R1, R2⟩ := rnd_in (a * b) (b := c) (by omega)
  generalize rnd (a * b) c = q at *
  have e1 := Int.mul_le_mul_of_nonneg_right q0 (show 0 ≤ c by omega)
  have e2 := Int.mul_le_mul_of_nonneg_right q1 (show 0 ≤ c by omega)
  have hPs : a * b = P ∨ a * b = -P := by
    by_cases h : decide (a < 0) = decide (b < 0)
    · exact Or.inl (hs.1 h)
    · exact Or.inr (hs.2 h)
  have P1 : P ≤ 4000000000000000001 * c := by rcases hPs with h | h <;> omega
  rw [if_neg (by omega)]
  have D : bits_Div64.f (P / 18446744073709551616) (P % 18446744073709551616) c = some (P / c, P % c) := by
    unfold bits_Div64.f
    rw [if_pos ⟨by omega, by omega, by omega, by omega, by omega⟩, show P / 18446744073709551616 * 18446744073709551616 + P % 18446744073709551616 = P by omega]
  refine bind_of D ?_
  dsimp only
  have e := Int.mul_ediv_add_emod P c
  have m0 := Int.emod_nonneg P (show c ≠ 0 by omega)
  have m1 := Int.emod_lt_of_pos P (show 0 < c by omega)
  have n0 : 0 ≤ P / c := Int.ediv_nonneg P0 (by omega)
  have n1 : P / c ≤ 4000000000000000001 := by
    have := Int.ediv_le_ediv (show 0 < c by omega) P1
    rwa [Int.mul_ediv_cancel _ (show c ≠ 0 by omega)] at this
  rw [Int.mul_comm] at e
  generalize P / c = n at *
  generalize P % c = r at *
  have em : wru64 (c - r) = c - r := by rw [wru64_eq]; omega
  have en : wru64 (n + 1) = n + 1 := by rw [wru64_eq]; omega
  rw [em, en]
  have neg : ∀ m : Int, 0 ≤ m → m ≤ 4000000000000000002 → wr64 (wru64 (0 - m)) = -m := by
    intro m h1 h2
    rw [wru64_eq, wr64_eq]
    omega
  by_cases hb : decide (a < 0) = decide (b < 0)
  · have s := hs.1 hb
    rw [if_pos hb, if_neg (by omega)]
    by_cases h3 : r > c - r
    · rw [if_pos h3]
      refine bind_of rfl ?_
      dsimp only
      rw [if_neg (by decide), if_pos (by omega)]
      refine bind_of rfl ?_
      rw [if_pos rfl, w64 (by omega) (by omega), one_of c0 R1 R2 (z := n + 1) (by rw [Int.add_mul]; omega) (by rw [Int.add_mul]; omega)]
    · rw [if_neg h3]
      by_cases h4 : r = c - r
      · rw [if_pos h4]
        refine bind_of rfl ?_
        dsimp only
        rw [if_neg (by decide), if_pos (by omega)]
        refine bind_of rfl ?_
        rw [if_pos rfl, w64 (by omega) (by omega), one_of c0 R1 R2 (z := n + 1) (by rw [Int.add_mul]; omega) (by rw [Int.add_mul]; omega)]
      · rw [if_neg h4]
        refine bind_of rfl ?_
        dsimp only
        rw [if_neg (by decide), if_pos (by omega)]
        refine bind_of rfl ?_
        rw [if_pos rfl, w64 (by omega) (by omega), one_of c0 R1 R2 (z := n) (by omega) (by omega)]
  · have s := hs.2 hb
    rw [if_neg hb, if_neg (by omega)]
    by_cases h3 : r > c - r
    · rw [if_pos h3]
      refine bind_of rfl ?_
      dsimp only
      rw [if_pos rfl]
      refine bind_of rfl ?_
      rw [if_neg (by decide), if_pos rfl, if_pos (by omega), neg _ (by omega) (by omega), one_of c0 R1 R2 (z := -(n + 1)) (by rw [Int.neg_mul, Int.add_mul]; omega) (by rw [Int.neg_mul, Int.add_mul]; omega)]
    · rw [if_neg h3]
      have fin : ((some (n, true) : Option (Int × Bool)).bind fun x => ((if x.2 = true then some false else if x.1 ≤ 9223372036854775807 then some true else some false) : Option Bool).bind fun t => if t = true then some (wr64 x.1, true) else if x.2 = true then if x.1 ≤ 9223372036854775808 then some (wr64 (wru64 (0 - x.1)), true) else some (0, false) else some (0, false)) = some (q, true) := by
        refine bind_of rfl ?_
        dsimp only
        rw [if_pos rfl]
        refine bind_of rfl ?_
        rw [if_neg (by decide), if_pos rfl, if_pos (by omega), neg _ (by omega) (by omega), one_of c0 R1 R2 (z := -n) (by rw [Int.neg_mul]; omega) (by rw [Int.neg_mul]; omega)]
      by_cases h4 : r = c - r
      · rw [if_pos h4]
        exact fin
      · rw [if_neg h4]
        exact fin

theorem within5 {a b c d e : Int} (a0 : -1000000000000000 ≤ a) (a1 : a ≤ 1000000000000000) (b0 : -1000000000000000 ≤ b) (b1 : b ≤ 1000000000000000) (c0 : -1000000000000000 ≤ c) (c1 : c ≤ 1000000000000000) (d0 : -1000000000000000 ≤ d) (d1 : d ≤ 1000000000000000) (e0 : -1000000000000000 ≤ e) (e1 : e ≤ 1000000000000000) :
    turn_within_v1.f a b c d e = some true := by
  unfold turn_within_v1.f
  rw [if_neg (by omega), if_neg (by omega), if_neg (by omega), if_neg (by omega), if_neg (by omega), if_neg (by omega), if_neg (by omega), if_neg (by omega), if_neg (by omega), if_neg (by omega)]

theorem within2 {a b : Int} (a0 : -1000000000000000 ≤ a) (a1 : a ≤ 1000000000000000) (b0 : -1000000000000000 ≤ b) (b1 : b ≤ 1000000000000000) : turn_within_v2.f a b = some true := by
  unfold turn_within_v2.f
  rw [if_neg (by omega), if_neg (by omega), if_neg (by omega), if_neg (by omega)]

theorem q_bd {c x y m : Int} (x0 : -m ≤ x) (x1 : x ≤ m) (y0 : -m ≤ y) (y1 : y ≤ m) : (-m ≤ qx c x y ∧ qx c x y ≤ m) ∧ -m ≤ qy c x y ∧ qy c x y ≤ m := by
  unfold qx qy
  constructor
  · split
    · omega
    · split
      · omega
      · split <;> omega
  · split
    · omega
    · split
      · omega
      · split <;> omega

theorem apply_f (k : Nat) {x y ax ay b n u v : Int} (x0 : -10000000000000 ≤ x) (x1 : x ≤ 10000000000000) (y0 : -10000000000000 ≤ y) (y1 : y ≤ 10000000000000) (ax0 : -10000000000000 ≤ ax) (ax1 : ax ≤ 10000000000000) (ay0 : -10000000000000 ≤ ay) (ay1 : ay ≤ 10000000000000)
    (b0 : 0 ≤ b) (b1 : b ≤ 1000000000000000) (hu : rnd (x * b) 1000000 = u) (hv : rnd (y * b) 1000000 = v) (u0 : -100000000000000 ≤ u) (u1 : u ≤ 100000000000000) (v0 : -100000000000000 ≤ v) (v1 : v ≤ 100000000000000) :
    turn_Apply.f (k + 5) x y ax ay b n = some (qx (n % 4) u v + ax, qy (n % 4) u v + ay, true) := by
  unfold turn_Apply.f
  refine bind_of (within5 (by omega) (by omega) (by omega) (by omega) (by omega) (by omega) (by omega) (by omega) (by omega) (by omega)) ?_
  rw [if_pos rfl]
  refine bind_of (md_in (by omega) (by omega) (by omega) (by omega) (by omega) (by omega) (by omega) (by omega)) (bind_of (md_in (by omega) (by omega) (by omega) (by omega) (by omega) (by omega) (by omega) (by omega)) ?_)
  dsimp only
  rw [if_pos rfl, if_pos rfl, hu, hv]
  refine bind_of (within2 (by omega) (by omega) (by omega) (by omega)) ?_
  rw [if_pos rfl]
  refine bind_of (quarter_f k (by omega) (by omega) (by omega) (by omega)) ?_
  dsimp only
  obtain ⟨⟨h1, h2⟩, h3, h4⟩ := q_bd (c := n % 4) u0 u1 v0 v1
  generalize qx (n % 4) u v = X at *
  generalize qy (n % 4) u v = Y at *
  rw [w64 (n := X + ax) (by omega) (by omega), w64 (n := Y + ay) (by omega) (by omega)]
  refine bind_of (within2 (by omega) (by omega) (by omega) (by omega)) ?_
  rw [if_pos rfl]

theorem q_add (n m x y : Int) : qx ((n + m) % 4) x y = qx (m % 4) (qx (n % 4) x y) (qy (n % 4) x y) ∧ qy ((n + m) % 4) x y = qy (m % 4) (qx (n % 4) x y) (qy (n % 4) x y) := by
  have e : (n + m) % 4 = (n % 4 + m % 4) % 4 := by omega
  rw [e]
  rcases four n with h | h | h | h <;> rcases four m with g | g | g | g <;> rw [h, g] <;> simp [qx, qy]

theorem rnd_one (x : Int) : rnd (x * 1000000) 1000000 = x := rnd_is (by omega) (by omega) (by omega)
theorem rnd_two (x : Int) : rnd (x * 2000000) 1000000 = 2 * x := rnd_is (by omega) (by omega) (by omega)

theorem same_f (a b : Int) : glyphicref_SamePoint.f a b a b = some true := by
  unfold glyphicref_SamePoint.f
  rw [if_pos rfl]
  simp

theorem TurnRounds : glyphiclaw13_TurnRounds.Pure := by
  intro x y ax ay n m _ _ _ _ _ _
  refine ⟨8, ?_⟩
  have hf : glyphiclaw13_first.f 8 = some true := by decide +kernel
  unfold glyphiclaw13_TurnRounds.f
  refine bind_of hf ?_
  rw [if_pos rfl]
  have hx := tmod_in x (b := 1000000000000) (by omega)
  have hy := tmod_in y (b := 1000000000000) (by omega)
  have hax := tmod_in ax (b := 1000000000000) (by omega)
  have hay := tmod_in ay (b := 1000000000000) (by omega)
  have hn := tmod_in n (b := 1000000) (by omega)
  have hm := tmod_in m (b := 1000000) (by omega)
  generalize Int.tmod x 1000000000000 = x at *
  generalize Int.tmod y 1000000000000 = y at *
  generalize Int.tmod ax 1000000000000 = ax at *
  generalize Int.tmod ay 1000000000000 = ay at *
  generalize Int.tmod n 1000000 = n at *
  generalize Int.tmod m 1000000 = m at *
  have Q : ∀ {x y n : Int}, -4000000000000 ≤ x → x ≤ 4000000000000 → -4000000000000 ≤ y → y ≤ 4000000000000 → turn_Quarter.f 8 x y n = some (qx (n % 4) x y, qy (n % 4) x y) := fun h1 h2 h3 h4 => quarter_f 3 (by omega) (by omega) (by omega) (by omega)
  obtain ⟨⟨b1, b2⟩, b3, b4⟩ := q_bd (c := n % 4) (x := x) (y := y) (m := 1000000000000) (by omega) (by omega) (by omega) (by omega)
  rw [w64 (n := n + m) (by omega) (by omega)]
  refine bind_of (Q (by omega) (by omega) (by omega) (by omega)) (bind_of (Q (by omega) (by omega) (by omega) (by omega)) (bind_of (Q (by omega) (by omega) (by omega) (by omega)) (bind_of (Q (by omega) (by omega) (by omega) (by omega)) ?_)))
  dsimp only
  refine bind_of (apply_f 3 (by omega) (by omega) (by omega) (by omega) (by omega) (by omega) (by omega) (by omega) (by omega) (by omega) (rnd_one x) (rnd_one y) (by omega) (by omega) (by omega) (by omega)) ?_
  dsimp only
  rw [if_pos rfl]
  refine bind_of (apply_f 3 (by omega) (by omega) (by omega) (by omega) (by omega) (by omega) (by omega) (by omega) (by omega) (by omega) (rnd_two x) (rnd_two y) (by omega) (by omega) (by omega) (by omega)) ?_
  dsimp only
  rw [if_pos rfl, w64 (n := 2 * x) (by omega) (by omega), w64 (n := 2 * y) (by omega) (by omega)]
  refine bind_of (Q (by omega) (by omega) (by omega) (by omega)) ?_
  dsimp only
  have far : turn_Apply.f 8 1000000000000001 0 ax ay 1000000 0 = some (0, 0, false) := by
    unfold turn_Apply.f
    have w : turn_within_v1.f 1000000000000001 0 ax ay 1000000 = some false := by
      unfold turn_within_v1.f
      rw [if_neg (by omega), if_pos (by omega)]
    refine bind_of w ?_
    rw [if_neg (by decide)]
  refine bind_of far ?_
  dsimp only
  have hq := q_add n m x y
  rw [hq.1, hq.2]
  refine bind_of (same_f _ _) ?_
  rw [if_pos rfl]
  refine bind_of (Q (by omega) (by omega) (by omega) (by omega)) ?_
  dsimp only
  rw [show qx (4 % 4) x y = x from rfl, show qy (4 % 4) x y = y from rfl]
  refine bind_of (same_f _ _) ?_
  rw [if_pos rfl]
  refine bind_of (Q (by omega) (by omega) (by omega) (by omega)) ?_
  dsimp only
  rw [w64 (n := 0 - n) (by omega) (by omega)]
  refine bind_of (Q (by omega) (by omega) (by omega) (by omega)) ?_
  dsimp only
  have hz := q_add n (0 - n) x y
  rw [show n + (0 - n) = 0 by omega] at hz
  rw [← hz.1, ← hz.2, show qx (0 % 4) x y = x from rfl, show qy (0 % 4) x y = y from rfl]
  refine bind_of (same_f _ _) ?_
  rw [if_pos rfl, show qx (2 % 4) x y = -x from rfl, show qy (2 % 4) x y = -y from rfl, w64 (n := 0 - x) (by omega) (by omega), w64 (n := 0 - y) (by omega) (by omega), if_pos (by omega), if_pos (by omega), Int.add_zero, Int.add_zero]
  refine bind_of (same_f _ _) ?_
  obtain ⟨⟨g1, g2⟩, g3, g4⟩ := q_bd (c := n % 4) (x := 2 * x) (y := 2 * y) (m := 2000000000000) (by omega) (by omega) (by omega) (by omega)
  rw [if_pos rfl, w64 (by omega) (by omega), w64 (by omega) (by omega), if_pos rfl, if_pos rfl]
  rfl

end Go.Proofs.Ytgaikembekkfiaa.Pure
