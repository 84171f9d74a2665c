/- Proved: FixedParts is true for every input. -/
import Derived.Test.YtgaikembekkfiaaQFixedPartsx2
import Derived.OpenShut
namespace Go.Proofs.Ytgaikembekkfiaa.Pure
open Go.RowKit Go.Proofs.Ytgaikembekkfiaa.QFixedParts Go.Proofs.YtgaikembekkfiaaW.PrintWords Go.Proofs.YtgaikembekkfiaaW.PrintLast Go.Proofs.YtgaikembekkfiaaW.PrintMore

theorem bind_of {α β : Type} {o : Option α} {f : α → Option β} {x : α} {r : Option β} (h : o = some x) (h2 : f x = r) : o.bind f = r := by
  subst h
  exact h2

theorem w64 {n : Int} (h0 : -9223372036854775808 ≤ n) (h1 : n ≤ 9223372036854775807) : wrap64 n = n := by
  unfold wrap64
  omega

theorem div_is {a b q : Int} (hb : 0 < b) (h1 : q * b ≤ a) (h2 : a < q * b + b) : a / b = q := by
  apply Int.le_antisymm
  · exact Int.lt_add_one_iff.1 (Int.ediv_lt_of_lt_mul hb (by rw [Int.add_mul, Int.one_mul]; exact h2))
  · exact Int.le_ediv_of_mul_le hb h1

theorem div_in (a : Int) {b : Int} (hb : 0 < b) : a / b * b ≤ a ∧ a < a / b * b + b := by
  have h1 := Int.mul_ediv_add_emod a b
  have h2 := Int.emod_nonneg a (Int.ne_of_gt hb)
  have h3 := Int.emod_lt_of_pos a hb
  rw [Int.mul_comm] at h1
  omega

theorem div_bd (a : Int) {b : Int} (hb : 0 < b) : (0 ≤ a → 0 ≤ a / b ∧ a / b ≤ a) ∧ (a < 0 → a ≤ a / b ∧ a / b < 0) := by
  obtain ⟨h1, h2⟩ := div_in a hb
  refine ⟨fun h => ⟨Int.ediv_nonneg h (by omega), Int.ediv_le_self _ h⟩, fun h => ⟨?_, Int.ediv_neg_of_neg_of_pos h hb⟩⟩
  exact Int.le_ediv_of_mul_le hb (by
    have : a * b ≤ a * 1 := Int.mul_le_mul_of_nonpos_left (by omega) (by omega)
    omega)

/-- The nearest of a part, of two the greater. -/
def rnd (a b : Int) : Int := (2 * a + b) / (2 * b)

theorem rnd_is {a b q : Int} (hb : 0 < b) (h1 : 2 * (q * b) ≤ 2 * a + b) (h2 : 2 * a < 2 * (q * b) + b) : rnd a b = q := by
  unfold rnd
  apply div_is (by omega)
  · rw [Int.mul_left_comm]; omega
  · rw [Int.mul_left_comm]; omega

theorem rnd_in (a : Int) {b : Int} (hb : 0 < b) : 2 * (rnd a b * b) ≤ 2 * a + b ∧ 2 * a < 2 * (rnd a b * b) + b := by
  unfold rnd
  obtain ⟨h1, h2⟩ := div_in (2 * a + b) (b := 2 * b) (by omega)
  rw [Int.mul_left_comm] at h1 h2
  omega

theorem rnd_mono {a c b : Int} (hb : 0 < b) (h : a ≤ c) : rnd a b ≤ rnd c b := by
  unfold rnd
  exact Int.ediv_le_ediv (by omega) (by omega)

theorem down_f {a b : Int} (hb : 1 ≤ b) (ha0 : -9223372036854775808 ≤ a) (ha1 : a ≤ 9223372036854775807) : fixed_Down.f a b = some (a / b) := by
  unfold fixed_Down.f
  rw [if_neg (by omega), if_neg (by omega)]
  have hbd := div_bd a (b := b) (by omega)
  by_cases h : 0 ≤ a ∨ b ∣ a
  · have e1 : Int.tdiv a b = a / b := by rw [Int.tdiv_eq_ediv, if_pos h]; omega
    have e2 : Int.tmod a b = a % b := by rw [Int.tmod_eq_emod, if_pos h]; omega
    have h2 := Int.emod_nonneg a (show b ≠ 0 by omega)
    rw [e1, e2, if_neg (by omega), w64 (by omega) (by omega)]
  · have e1 : Int.tdiv a b = a / b + 1 := by rw [Int.tdiv_eq_ediv, if_neg h, Int.sign_eq_one_of_pos (by omega)]
    have e2 : Int.tmod a b = a % b - b := by rw [Int.tmod_eq_emod, if_neg h]; omega
    have h3 := Int.emod_lt_of_pos a (show 0 < b by omega)
    rw [e1, e2, if_pos (by omega), w64 (n := a / b + 1) (by omega) (by omega), w64 (by omega) (by omega)]
    congr 1
    omega

theorem round_f {a b : Int} (hb : 1 ≤ b) (hb1 : b ≤ 9223372036854775807) (ha0 : -9223372036854775808 ≤ a) (ha1 : a ≤ 9223372036854775807) : fixed_Round.f a b = some (rnd a b) := by
  unfold fixed_Round.f
  rw [if_neg (by omega), down_f hb ha0 ha1]
  simp only [Option.bind_some]
  obtain ⟨h1, h2⟩ := div_in a (b := b) (by omega)
  have hbd := div_bd a (b := b) (by omega)
  have e : wrap64 (a - wrap64 (a / b * b)) = a - a / b * b := by
    unfold wrap64
    omega
  rw [e, w64 (n := b - (a - a / b * b)) (by omega) (by omega)]
  by_cases h : a - a / b * b ≥ b - (a - a / b * b)
  · rw [if_pos h]
    have h3 : a / b + 1 ≤ 9223372036854775807 := by
      by_cases hq : a / b < 9223372036854775807
      · omega
      · by_cases h1b : b = 1
        · subst h1b; omega
        · have : a / b * 2 ≤ a / b * b := Int.mul_le_mul_of_nonneg_left (by omega) (by omega)
          omega
    rw [w64 (by omega) h3, rnd_is (q := a / b + 1) (by omega)]
    · rw [Int.add_mul]; omega
    · rw [Int.add_mul]; omega
  · rw [if_neg h, rnd_is (q := a / b) (by omega)]
    · omega
    · omega

theorem tmod_in (a : Int) {b : Int} (hb : 0 < b) : -b < Int.tmod a b ∧ Int.tmod a b < b := by
  rw [Int.tmod_eq_emod]
  have h2 := Int.emod_nonneg a (show b ≠ 0 by omega)
  have h3 := Int.emod_lt_of_pos a hb
  split
  · omega
  · have : ((b.natAbs : Nat) : Int) = b := by omega
    rename_i h
    have hne : a % b ≠ 0 := fun h0 => h (Or.inr (Int.dvd_of_emod_eq_zero h0))
    omega

theorem tmod_pos {a b : Int} (ha : 0 ≤ a) : Int.tmod a b = a % b := by
  rw [Int.tmod_eq_emod, if_pos (Or.inl ha)]; omega

theorem cyc (a : Int) {b : Int} (hb : 0 < b) (hb1 : b ≤ 4611686018427387903) : ∃ s, Int.tmod (wrap64 (Int.tmod a b + b)) b = s ∧ 0 ≤ s ∧ s < b := by
  have h := tmod_in a hb
  refine ⟨_, rfl, ?_⟩
  rw [w64 (by omega) (by omega), tmod_pos (by omega)]
  exact ⟨Int.emod_nonneg _ (by omega), Int.emod_lt_of_pos _ hb⟩

theorem rnd_near (a : Int) {b : Int} (hb : 0 < b) : rnd a b = a / b ∨ rnd a b = a / b + 1 := by
  obtain ⟨h1, h2⟩ := div_in a hb
  by_cases h : 2 * (a - a / b * b) < b
  · left
    exact rnd_is hb (by omega) (by omega)
  · right
    exact rnd_is hb (by rw [Int.add_mul]; omega) (by rw [Int.add_mul]; omega)

theorem rnd_next (a : Int) {b : Int} (hb : 0 < b) : rnd (a + b) b = rnd a b + 1 := by
  obtain ⟨h1, h2⟩ := rnd_in a hb
  exact rnd_is hb (by rw [Int.add_mul]; omega) (by rw [Int.add_mul]; omega)

/-- A product over a third to the nearest, where it can be told. -/
def md (a b c : Int) : Int × Bool := if c < 1 then (0, false) else if -9223372036854775808 ≤ rnd (a * b) c ∧ rnd (a * b) c ≤ 9223372036854775807 then (rnd (a * b) c, true) else (0, false)

theorem size_f {a : Int} (h0 : -9223372036854775808 ≤ a) (h1 : a ≤ 9223372036854775807) : fixed_size.f a = some (a.natAbs : Int) := by
  unfold fixed_size.f
  by_cases h : a < 0
  · rw [if_pos h, IntKind.wrap_u64, IntKind.wrap_u64]
    congr 1
    omega
  · rw [if_neg h, IntKind.wrap_u64]
    congr 1
    omega

theorem md_end (k : Nat) {n : Int} (below : Bool) (n0 : 0 ≤ n) (n1 : n ≤ 9223372036854775809) :
    fixed_MulDiv.j1 (k + 2) n below = some (if (if below = true then n ≤ 9223372036854775808 else n ≤ 9223372036854775807) then (if below = true then -n else n, true) else (0, false)) := by
  rw [fixed_MulDiv.j1]
  cases below with
  | true =>
    rw [if_pos rfl, fixed_MulDiv.j2, if_neg (by decide), if_pos rfl]
    simp only [if_true]
    by_cases h : n ≤ 9223372036854775808
    · rw [if_pos h, if_pos h, IntKind.wrap_u64]
      congr 2
      unfold wrap64
      omega
    · rw [if_neg h, if_neg h]
  | false =>
    rw [if_neg (by decide), fixed_MulDiv.j2]
    simp only [Bool.false_eq_true, if_false]
    by_cases h : n ≤ 9223372036854775807
    · rw [decide_eq_true h, if_pos rfl, if_pos h, w64 (by omega) (by omega)]
    · rw [decide_eq_false h, if_neg (by decide), if_neg h]

theorem md_up (k : Nat) {n : Int} (below up : Bool) (n0 : 0 ≤ n) (n1 : n ≤ 9223372036854775808) :
    fixed_MulDiv.j0 (k + 3) n below up = fixed_MulDiv.j1 (k + 2) (if up = true then n + 1 else n) below := by
  rw [fixed_MulDiv.j0]
  cases up with
  | true =>
    rw [if_pos rfl, if_pos rfl, IntKind.wrap_u64]
    congr 1
    omega
  | false => rw [if_neg (by decide), if_neg (by decide)]

theorem mul_sign (a b : Int) : (((decide (a < 0)) != (decide (b < 0))) = true → a * b = -((a.natAbs : Int) * (b.natAbs : Int))) ∧ (((decide (a < 0)) != (decide (b < 0))) = false → a * b = (a.natAbs : Int) * (b.natAbs : Int)) := by
  by_cases ha : a < 0
  · have ea : (a.natAbs : Int) = -a := by omega
    by_cases hb : b < 0
    · have eb : (b.natAbs : Int) = -b := by omega
      rw [decide_eq_true ha, decide_eq_true hb, ea, eb, Int.neg_mul_neg]
      simp
    · have eb : (b.natAbs : Int) = b := by omega
      rw [decide_eq_true ha, decide_eq_false hb, ea, eb, Int.neg_mul]
      simp
  · have ea : (a.natAbs : Int) = a := by omega
    by_cases hb : b < 0
    · have eb : (b.natAbs : Int) = -b := by omega
      rw [decide_eq_false ha, decide_eq_true hb, ea, eb, Int.mul_neg]
      simp
    · have eb : (b.natAbs : Int) = b := by omega
      rw [decide_eq_false ha, decide_eq_false hb, ea, eb]
      simp

theorem muldiv_f (k : Nat) {a b c : Int} (a0 : -9223372036854775808 ≤ a) (a1 : a ≤ 9223372036854775807) (b0 : -9223372036854775808 ≤ b) (b1 : b ≤ 9223372036854775807) (c1 : c ≤ 9223372036854775807) :
    fixed_MulDiv.f (k + 3) a b c = some (md a b c) := by
  unfold fixed_MulDiv.f md
  by_cases hc : c < 1
  · rw [if_pos hc, if_pos hc]
  rw [if_neg hc, if_neg hc]
  refine bind_of (size_f a0 a1) (bind_of (size_f b0 b1) ?_)
  have hs := mul_sign a b
  generalize ((decide (a < 0)) != (decide (b < 0))) = below at *
  have A0 : 0 ≤ (a.natAbs : Int) ∧ (a.natAbs : Int) ≤ 9223372036854775808 := by omega
  have B0 : 0 ≤ (b.natAbs : Int) ∧ (b.natAbs : Int) ≤ 9223372036854775808 := by omega
  generalize hA : (a.natAbs : Int) = A at *
  generalize hB : (b.natAbs : Int) = B at *
  have P0 : 0 ≤ A * B := Int.mul_nonneg A0.1 B0.1
  have M : bits_Mul64.f A B = some (A * B / 18446744073709551616, A * B % 18446744073709551616) := by
    unfold bits_Mul64.f
    rw [if_pos ⟨A0.1, by omega, B0.1, by omega⟩]
  refine bind_of M ?_
  have ec : IntKind.u64.wrap c = c := by rw [IntKind.wrap_u64]; omega
  rw [ec]
  generalize hP : A * B = P at *
  show (if P / 18446744073709551616 ≥ c then some (0, false) else _) = _
  have R := rnd_in (a * b) (b := c) (by omega)
  generalize rnd (a * b) c = q at *
  by_cases h1 : P / 18446744073709551616 ≥ c
  · rw [if_pos h1, if_neg]
    rintro ⟨q0, q1⟩
    have e1 := Int.mul_le_mul_of_nonneg_right q0 (show 0 ≤ c by omega)
    have e2 := Int.mul_le_mul_of_nonneg_right q1 (show 0 ≤ c by omega)
    cases below with
    | true => have := hs.1 rfl; omega
    | false => have := hs.2 rfl; omega
  rw [if_neg h1]
  have D : bits_Div64.f (P / 18446744073709551616) (P % 18446744073709551616) c = some (P / c, P % c) := by
    unfold bits_Div64.f
    rw [if_pos ⟨by omega, by omega, by omega, by omega, by omega⟩, show P / 18446744073709551616 * 18446744073709551616 + P % 18446744073709551616 = P by omega]
  refine bind_of D ?_
  have e := Int.mul_ediv_add_emod P c
  have m0 := Int.emod_nonneg P (show c ≠ 0 by omega)
  have m1 := Int.emod_lt_of_pos P (show 0 < c by omega)
  have n0 : 0 ≤ P / c := Int.ediv_nonneg P0 (by omega)
  rw [Int.mul_comm] at e
  generalize P / c = n at *
  generalize P % c = r at *
  show (if n > 9223372036854775808 then some (0, false) else if r > IntKind.u64.wrap (c - r) then _ else if r = IntKind.u64.wrap (c - r) then _ else _) = _
  by_cases h2 : n > 9223372036854775808
  · rw [if_pos h2, if_neg]
    rintro ⟨q0, q1⟩
    have e1 := Int.mul_le_mul_of_nonneg_right q0 (show 0 ≤ c by omega)
    have e2 := Int.mul_le_mul_of_nonneg_right q1 (show 0 ≤ c by omega)
    have e3 := Int.mul_le_mul_of_nonneg_right (show 9223372036854775809 ≤ n by omega) (show 0 ≤ c by omega)
    cases below with
    | true => have := hs.1 rfl; omega
    | false => have := hs.2 rfl; omega
  have em : IntKind.u64.wrap (c - r) = c - r := by rw [IntKind.wrap_u64]; omega
  rw [if_neg h2, em]
  -- what was added
  have key : ∀ up : Bool, (up = true ↔ (r > c - r ∨ r = c - r ∧ below = false)) → fixed_MulDiv.j0 (k + 3) n below up = some (if -9223372036854775808 ≤ q ∧ q ≤ 9223372036854775807 then (q, true) else (0, false)) := by
    intro up hup
    rw [md_up k below up n0 (by omega), md_end k below (by split <;> omega) (by split <;> omega)]
    have hq : q = if below = true then -(if up = true then n + 1 else n) else (if up = true then n + 1 else n) := by
      have one : ∀ z : Int, 2 * (z * c) ≤ 2 * (a * b) + c → 2 * (a * b) < 2 * (z * c) + c → q = z := by
        intro z z1 z2
        have p1 : (q - z) * c < c := by rw [Int.sub_mul]; omega
        have p2 : (z - q) * c < c := by rw [Int.sub_mul]; omega
        have p3 : q - z < 1 := by
          by_cases hh : q - z < 1
          · exact hh
          · have := Int.mul_le_mul_of_nonneg_right (show 1 ≤ q - z by omega) (show 0 ≤ c by omega)
            omega
        have p4 : z - q < 1 := by
          by_cases hh : z - q < 1
          · exact hh
          · have := Int.mul_le_mul_of_nonneg_right (show 1 ≤ z - q by omega) (show 0 ≤ c by omega)
            omega
        omega
      cases below with
      | true =>
        have s := hs.1 rfl
        cases up with
        | true =>
          have u := hup.1 rfl
          simp only [if_true]
          refine one _ ?_ ?_
          · rw [Int.neg_mul, Int.add_mul]; simp at u; omega
          · rw [Int.neg_mul, Int.add_mul]; simp at u; omega
        | false =>
          have u := mt hup.2 (by decide)
          simp only [if_true, Bool.false_eq_true, if_false]
          refine one _ ?_ ?_
          · rw [Int.neg_mul]; simp at u; omega
          · rw [Int.neg_mul]; simp at u; omega
      | false =>
        have s := hs.2 rfl
        cases up with
        | true =>
          have u := hup.1 rfl
          simp only [if_true, Bool.false_eq_true, if_false]
          refine one _ ?_ ?_
          · rw [Int.add_mul]; simp at u; omega
          · rw [Int.add_mul]; simp at u; omega
        | false =>
          have u := mt hup.2 (by decide)
          simp only [Bool.false_eq_true, if_false]
          refine one _ ?_ ?_
          · simp at u; omega
          · simp at u; omega
    have hm0 : 0 ≤ (if up = true then n + 1 else n) := by split <;> omega
    rw [hq]
    generalize (if up = true then n + 1 else n) = m at *
    cases below with
    | true =>
      simp only [if_true]
      by_cases hm : m ≤ 9223372036854775808
      · rw [if_pos hm, if_pos (by omega)]
      · rw [if_neg hm, if_neg (by omega)]
    | false =>
      simp only [Bool.false_eq_true, if_false]
      by_cases hm : m ≤ 9223372036854775807
      · rw [if_pos hm, if_pos (by omega)]
      · rw [if_neg hm, if_neg (by omega)]
  by_cases h3 : r > c - r
  · rw [if_pos h3]
    exact key true (by simp; omega)
  · rw [if_neg h3]
    by_cases h4 : r = c - r
    · rw [if_pos h4]
      exact key (!below) (by cases below <;> simp <;> omega)
    · rw [if_neg h4]
      exact key false (by simp; omega)

theorem rnd_more {p c : Int} (p0 : 0 ≤ p) (c0 : 1 ≤ c) : 0 ≤ rnd p c ∧ rnd p (c + 1) ≤ rnd p c := by
  have R := rnd_in p (b := c) (by omega)
  have S := rnd_in p (b := c + 1) (by omega)
  have q0 : 0 ≤ rnd p c := by unfold rnd; exact Int.ediv_nonneg (by omega) (by omega)
  refine ⟨q0, ?_⟩
  generalize rnd p c = q at *
  generalize rnd p (c + 1) = s at *
  by_cases h : s ≤ q
  · exact h
  · have e1 := Int.mul_le_mul_of_nonneg_right (show q + 1 ≤ s by omega) (show 0 ≤ c + 1 by omega)
    rw [Int.add_mul, Int.mul_add, Int.mul_one, Int.one_mul] at e1
    omega

theorem FixedParts : glyphiclaw1_FixedParts.Pure := by
  intro a0 a1 a2 w0 w1 w2
  have hf : glyphiclaw1_first.f 40 = some true := by decide +kernel
  have b0 := bounds_i64 w0
  have b1 := bounds_i64 w1
  have b2 := bounds_i64 w2
  refine ⟨40, ?_⟩
  unfold glyphiclaw1_FixedParts.f
  refine bind_of hf ?_
  rw [if_pos rfl]
  have last : ∀ a b z : Int, 1 ≤ a → a ≤ 4611686018427387904 → 1 ≤ b → b ≤ 4611686018427387904 → 0 ≤ z → z ≤ 9223372036854775807 → glyphiclaw1_FixedParts.j2 38 a b z true = some true := by
    intro a b z a0 a1 b0 b1 z0 z1
    have hc : 1 ≤ mx (z / 2) 1 ∧ mx (z / 2) 1 ≤ 4611686018427387903 := by unfold mx; split <;> omega
    rw [glyphiclaw1_FixedParts.j2]
    generalize mx (z / 2) 1 = c at *
    have e1 : rnd (a * b) a = b := rnd_is (by omega) (by rw [Int.mul_comm b a]; omega) (by rw [Int.mul_comm b a]; omega)
    have e2 : rnd (-a * b) a = -b := rnd_is (by omega) (by rw [Int.neg_mul, Int.neg_mul, Int.mul_comm b a]; omega) (by rw [Int.neg_mul, Int.neg_mul, Int.mul_comm b a]; omega)
    have p0 : 0 ≤ a * b := Int.mul_nonneg (by omega) (by omega)
    obtain ⟨q0, q1⟩ := rnd_more p0 hc.1
    have s0 : 0 ≤ rnd (a * b) (c + 1) := by unfold rnd; exact Int.ediv_nonneg (by omega) (by omega)
    have m1 : fixed_MulDiv.f 37 a b a = some (b, true) := by
      rw [muldiv_f 34 (by omega) (by omega) (by omega) (by omega) (by omega), md, if_neg (by omega), e1, if_pos (by omega)]
    have m2 : fixed_MulDiv.f 37 (-a) b a = some (-b, true) := by
      rw [muldiv_f 34 (by omega) (by omega) (by omega) (by omega) (by omega), md, if_neg (by omega), e2, if_pos (by omega)]
    have m3 : fixed_MulDiv.f 37 a b c = some (if -9223372036854775808 ≤ rnd (a * b) c ∧ rnd (a * b) c ≤ 9223372036854775807 then (rnd (a * b) c, true) else (0, false)) := by
      rw [muldiv_f 34 (by omega) (by omega) (by omega) (by omega) (by omega), md, if_neg (by omega)]
    have m4 : fixed_MulDiv.f 37 a b (c + 1) = some (if -9223372036854775808 ≤ rnd (a * b) (c + 1) ∧ rnd (a * b) (c + 1) ≤ 9223372036854775807 then (rnd (a * b) (c + 1), true) else (0, false)) := by
      rw [muldiv_f 34 (by omega) (by omega) (by omega) (by omega) (by omega), md, if_neg (by omega)]
    rw [w64 (n := -a) (by omega) (by omega), w64 (n := c + 1) (by omega) (by omega)]
    generalize rnd (a * b) c = q at *
    generalize rnd (a * b) (c + 1) = s at *
    by_cases hq : q ≤ 9223372036854775807
    · rw [if_pos (by omega)] at m3
      rw [if_pos (by omega)] at m4
      refine bind_of m1 (bind_of m2 (bind_of m3 (bind_of m4 ?_)))
      rw [if_pos rfl, if_pos rfl, if_pos rfl, if_pos rfl, w64 (n := -b) (by omega) (by omega), if_pos rfl, if_pos rfl, if_pos rfl, if_pos q1]
      simp only [ge_iff_le, decide_eq_true q0]
    · rw [if_neg (fun h => hq h.2)] at m3
      refine bind_of m1 (bind_of m2 (bind_of m3 (bind_of m4 ?_)))
      rw [if_pos rfl, if_pos rfl, if_pos rfl, if_pos rfl, w64 (n := -b) (by omega) (by omega), if_pos rfl, if_neg (by decide)]
  have mid2 : ∀ x y z : Int, 0 ≤ x → x ≤ 9223372036854775807 → 0 ≤ y → y ≤ 9223372036854775807 → -9223372036854775808 ≤ z → z ≤ 9223372036854775807 → glyphiclaw1_FixedParts.j1 39 x y z true = some true := by
    intro x y z x0 x1 y0 y1 z0 z1
    rw [glyphiclaw1_FixedParts.j1, w64 (n := x / 2 + 1) (by omega) (by omega), w64 (n := y / 2 + 1) (by omega) (by omega)]
    by_cases h : z < 0
    · rw [if_pos h, w64 (n := z + 1) (by omega) (by omega), w64 (by omega) (by omega)]
      exact last _ _ _ (by omega) (by omega) (by omega) (by omega) (by omega) (by omega)
    · rw [if_neg h]
      exact last _ _ _ (by omega) (by omega) (by omega) (by omega) (by omega) (by omega)
  have mid1 : ∀ x : Int, 0 ≤ x → x ≤ 9223372036854775807 → glyphiclaw1_FixedParts.j0 40 x a1 a2 true = some true := by
    intro x x0 x1
    rw [glyphiclaw1_FixedParts.j0]
    by_cases h : a1 < 0
    · rw [if_pos h, w64 (n := a1 + 1) (by omega) (by omega), w64 (by omega) (by omega)]
      exact mid2 _ _ _ (by omega) (by omega) (by omega) (by omega) (by omega) (by omega)
    · rw [if_neg h]
      exact mid2 _ _ _ (by omega) (by omega) (by omega) (by omega) (by omega) (by omega)
  by_cases h : a0 < 0
  · rw [if_pos h, w64 (n := a0 + 1) (by omega) (by omega), w64 (by omega) (by omega)]
    exact mid1 _ (by omega) (by omega)
  · rw [if_neg h]
    exact mid1 _ (by omega) (by omega)

end Go.Proofs.Ytgaikembekkfiaa.Pure
