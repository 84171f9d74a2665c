/- Proved: FixedGrows is true for every input. -/
import Derived.Test.YtgaikembekkfiaaQFixedGrowsx2
import Derived.OpenShut
namespace Go.Proofs.Ytgaikembekkfiaa.Pure
open Go.RowKit Go.Proofs.Ytgaikembekkfiaa.QFixedGrows Go.Proofs.YtgaikembekkfiaaW.PrintWords Go.Proofs.YtgaikembekkfiaaW.PrintLast Go.Proofs.YtgaikembekkfiaaW.PrintMore

theorem bind_of {α β : Type} {o : Option α} {f : α → Option β} {x : α} {r : Option β} (h : o = some x) (h2 : f x = r) : o.bind f = r := by
  subst h
  exact h2

theorem w64 {n : Int} (h0 : -9223372036854775808 ≤ n) (h1 : n ≤ 9223372036854775807) : wrap64 n = n := by
  unfold wrap64
  omega

theorem div_is {a b q : Int} (hb : 0 < b) (h1 : q * b ≤ a) (h2 : a < q * b + b) : a / b = q := by
  apply Int.le_antisymm
  · exact Int.lt_add_one_iff.1 (Int.ediv_lt_of_lt_mul hb (by rw [Int.add_mul, Int.one_mul]; exact h2))
  · exact Int.le_ediv_of_mul_le hb h1

theorem div_in (a : Int) {b : Int} (hb : 0 < b) : a / b * b ≤ a ∧ a < a / b * b + b := by
  have h1 := Int.mul_ediv_add_emod a b
  have h2 := Int.emod_nonneg a (Int.ne_of_gt hb)
  have h3 := Int.emod_lt_of_pos a hb
  rw [Int.mul_comm] at h1
  omega

theorem div_bd (a : Int) {b : Int} (hb : 0 < b) : (0 ≤ a → 0 ≤ a / b ∧ a / b ≤ a) ∧ (a < 0 → a ≤ a / b ∧ a / b < 0) := by
  obtain ⟨h1, h2⟩ := div_in a hb
  refine ⟨fun h => ⟨Int.ediv_nonneg h (by omega), Int.ediv_le_self _ h⟩, fun h => ⟨?_, Int.ediv_neg_of_neg_of_pos h hb⟩⟩
  exact Int.le_ediv_of_mul_le hb (by
    have : a * b ≤ a * 1 := Int.mul_le_mul_of_nonpos_left (by omega) (by omega)
    omega)

/-- The nearest of a part, of two the greater. -/
def rnd (a b : Int) : Int := (2 * a + b) / (2 * b)

theorem rnd_is {a b q : Int} (hb : 0 < b) (h1 : 2 * (q * b) ≤ 2 * a + b) (h2 : 2 * a < 2 * (q * b) + b) : rnd a b = q := by
  unfold rnd
  apply div_is (by omega)
  · rw [Int.mul_left_comm]; omega
  · rw [Int.mul_left_comm]; omega

theorem rnd_in (a : Int) {b : Int} (hb : 0 < b) : 2 * (rnd a b * b) ≤ 2 * a + b ∧ 2 * a < 2 * (rnd a b * b) + b := by
  unfold rnd
  obtain ⟨h1, h2⟩ := div_in (2 * a + b) (b := 2 * b) (by omega)
  rw [Int.mul_left_comm] at h1 h2
  omega

theorem rnd_mono {a c b : Int} (hb : 0 < b) (h : a ≤ c) : rnd a b ≤ rnd c b := by
  unfold rnd
  exact Int.ediv_le_ediv (by omega) (by omega)

theorem down_f {a b : Int} (hb : 1 ≤ b) (ha0 : -9223372036854775808 ≤ a) (ha1 : a ≤ 9223372036854775807) : fixed_Down.f a b = some (a / b) := by
  unfold fixed_Down.f
  rw [if_neg (by omega), if_neg (by omega)]
  have hbd := div_bd a (b := b) (by omega)
  by_cases h : 0 ≤ a ∨ b ∣ a
  · have e1 : Int.tdiv a b = a / b := by rw [Int.tdiv_eq_ediv, if_pos h]; omega
    have e2 : Int.tmod a b = a % b := by rw [Int.tmod_eq_emod, if_pos h]; omega
    have h2 := Int.emod_nonneg a (show b ≠ 0 by omega)
    rw [e1, e2, if_neg (by omega), w64 (by omega) (by omega)]
  · have e1 : Int.tdiv a b = a / b + 1 := by rw [Int.tdiv_eq_ediv, if_neg h, Int.sign_eq_one_of_pos (by omega)]
    have e2 : Int.tmod a b = a % b - b := by rw [Int.tmod_eq_emod, if_neg h]; omega
    have h3 := Int.emod_lt_of_pos a (show 0 < b by omega)
    rw [e1, e2, if_pos (by omega), w64 (n := a / b + 1) (by omega) (by omega), w64 (by omega) (by omega)]
    congr 1
    omega

theorem round_f {a b : Int} (hb : 1 ≤ b) (hb1 : b ≤ 9223372036854775807) (ha0 : -9223372036854775808 ≤ a) (ha1 : a ≤ 9223372036854775807) : fixed_Round.f a b = some (rnd a b) := by
  unfold fixed_Round.f
  rw [if_neg (by omega), down_f hb ha0 ha1]
  simp only [Option.bind_some]
  obtain ⟨h1, h2⟩ := div_in a (b := b) (by omega)
  have hbd := div_bd a (b := b) (by omega)
  have e : wrap64 (a - wrap64 (a / b * b)) = a - a / b * b := by
    unfold wrap64
    omega
  rw [e, w64 (n := b - (a - a / b * b)) (by omega) (by omega)]
  by_cases h : a - a / b * b ≥ b - (a - a / b * b)
  · rw [if_pos h]
    have h3 : a / b + 1 ≤ 9223372036854775807 := by
      by_cases hq : a / b < 9223372036854775807
      · omega
      · by_cases h1b : b = 1
        · subst h1b; omega
        · have : a / b * 2 ≤ a / b * b := Int.mul_le_mul_of_nonneg_left (by omega) (by omega)
          omega
    rw [w64 (by omega) h3, rnd_is (q := a / b + 1) (by omega)]
    · rw [Int.add_mul]; omega
    · rw [Int.add_mul]; omega
  · rw [if_neg h, rnd_is (q := a / b) (by omega)]
    · omega
    · omega

theorem tmod_in (a : Int) {b : Int} (hb : 0 < b) : -b < Int.tmod a b ∧ Int.tmod a b < b := by
  rw [Int.tmod_eq_emod]
  have h2 := Int.emod_nonneg a (show b ≠ 0 by omega)
  have h3 := Int.emod_lt_of_pos a hb
  split
  · omega
  · have : ((b.natAbs : Nat) : Int) = b := by omega
    rename_i h
    have hne : a % b ≠ 0 := fun h0 => h (Or.inr (Int.dvd_of_emod_eq_zero h0))
    omega

theorem tmod_pos {a b : Int} (ha : 0 ≤ a) : Int.tmod a b = a % b := by
  rw [Int.tmod_eq_emod, if_pos (Or.inl ha)]; omega

theorem cyc (a : Int) {b : Int} (hb : 0 < b) (hb1 : b ≤ 4611686018427387903) : ∃ s, Int.tmod (wrap64 (Int.tmod a b + b)) b = s ∧ 0 ≤ s ∧ s < b := by
  have h := tmod_in a hb
  refine ⟨_, rfl, ?_⟩
  rw [w64 (by omega) (by omega), tmod_pos (by omega)]
  exact ⟨Int.emod_nonneg _ (by omega), Int.emod_lt_of_pos _ hb⟩

theorem rnd_near (a : Int) {b : Int} (hb : 0 < b) : rnd a b = a / b ∨ rnd a b = a / b + 1 := by
  obtain ⟨h1, h2⟩ := div_in a hb
  by_cases h : 2 * (a - a / b * b) < b
  · left
    exact rnd_is hb (by omega) (by omega)
  · right
    exact rnd_is hb (by rw [Int.add_mul]; omega) (by rw [Int.add_mul]; omega)

theorem rnd_next (a : Int) {b : Int} (hb : 0 < b) : rnd (a + b) b = rnd a b + 1 := by
  obtain ⟨h1, h2⟩ := rnd_in a hb
  exact rnd_is hb (by rw [Int.add_mul]; omega) (by rw [Int.add_mul]; omega)

theorem sq_le {a b : Int} (h0 : 0 ≤ a) (h : a ≤ b) : a * a ≤ b * b := Int.mul_le_mul h h h0 (by omega)

theorem root_one {n r s : Int} (r0 : 0 ≤ r) (s0 : 0 ≤ s) (r1 : r * r ≤ n) (r2 : n < (r + 1) * (r + 1)) (s1 : s * s ≤ n) (s2 : n < (s + 1) * (s + 1)) : r = s := by
  by_cases h : r < s
  · have := sq_le (a := r + 1) (b := s) (by omega) (by omega)
    omega
  · by_cases h' : s < r
    · have := sq_le (a := s + 1) (b := r) (by omega) (by omega)
      omega
    · omega

theorem mid_le {m n : Int} (hm : 1 ≤ m) (hn : 0 ≤ n) : m ≤ Int.tdiv n m ↔ m * m ≤ n := by
  rw [Int.tdiv_eq_ediv, if_pos (Or.inl hn), Int.add_zero]
  exact Int.le_ediv_iff_mul_le (by omega)

theorem sqrt_l (d : Nat) : ∀ (k : Nat) (n lo hi : Int), d < k → hi - lo = 2 ^ d → 0 ≤ n → n ≤ 9223372036854775807 → 0 ≤ lo → hi ≤ 4294967296 → lo * lo ≤ n → n < hi * hi →
    ∃ r, fixed_Sqrt.l0 k n lo hi = some r ∧ 0 ≤ r ∧ r * r ≤ n ∧ n < (r + 1) * (r + 1) := by
  induction d with
  | zero =>
    intro k n lo hi hk e n0 n1 h0 h1 h2 h3
    obtain ⟨k, rfl⟩ : ∃ m, k = m + 1 := ⟨k - 1, by omega⟩
    have e1 : hi = lo + 1 := by have : hi - lo = 1 := e; omega
    subst e1
    refine ⟨lo, ?_, h0, h2, h3⟩
    rw [fixed_Sqrt.l0, w64 (n := lo + 1 - lo) (by omega) (by omega), if_neg (by omega)]
  | succ d ih =>
    intro k n lo hi hk e n0 n1 h0 h1 h2 h3
    obtain ⟨k, rfl⟩ : ∃ m, k = m + 1 := ⟨k - 1, by omega⟩
    have hp : (0 : Int) < 2 ^ d := Int.pow_pos (by omega)
    have e2 : hi - lo = 2 * 2 ^ d := by rw [e, Int.pow_succ]; omega
    generalize (2 : Int) ^ d = q at *
    have eh : hi = lo + 2 * q := by omega
    subst eh
    have em : wrap64 (lo + wrap64 (Int.tdiv (wrap64 (lo + 2 * q - lo)) 2)) = lo + q := by
      rw [w64 (n := lo + 2 * q - lo) (by omega) (by omega), Int.tdiv_eq_ediv, if_pos (Or.inl (by omega)), w64 (n := (lo + 2 * q - lo) / 2 + 0) (by omega) (by omega), w64 (by omega) (by omega)]
      omega
    have hdb := mid_le (m := lo + q) (n := n) (by omega) n0
    have hq : wrap64 (Int.tdiv n (lo + q)) = Int.tdiv n (lo + q) := by
      rw [Int.tdiv_eq_ediv, if_pos (Or.inl n0)]
      have := div_bd n (b := lo + q) (by omega)
      exact w64 (by omega) (by omega)
    rw [fixed_Sqrt.l0, em, hq, w64 (n := lo + 2 * q - lo) (by omega) (by omega), if_pos (by omega), if_neg (by omega)]
    by_cases hc : lo + q ≤ Int.tdiv n (lo + q)
    · rw [if_pos hc]
      exact ih k n (lo + q) (lo + 2 * q) (by omega) (by omega) n0 n1 (by omega) h1 (hdb.1 hc) h3
    · rw [if_neg hc]
      exact ih k n lo (lo + q) (by omega) (by omega) n0 n1 h0 (by omega) h2 (by
        by_cases hh : n < (lo + q) * (lo + q)
        · exact hh
        · exact absurd (hdb.2 (by omega)) hc)

theorem sqrt_f {n : Int} (n0 : 0 ≤ n) (n1 : n ≤ 9223372036854775807) (k : Nat) (hk : 32 < k) : ∃ r, fixed_Sqrt.f k n = some r ∧ 0 ≤ r ∧ r * r ≤ n ∧ n < (r + 1) * (r + 1) := by
  unfold fixed_Sqrt.f
  by_cases h : n < 1
  · rw [if_pos h]
    exact ⟨0, rfl, by omega, by omega, by omega⟩
  · rw [if_neg h]
    exact sqrt_l 32 k n 0 4294967296 hk (by omega) n0 n1 (by omega) (by omega) (by omega) (by omega)

theorem sqrt_is {n s : Int} (s0 : 0 ≤ s) (s1 : s * s ≤ n) (s2 : n < (s + 1) * (s + 1)) (n1 : n ≤ 9223372036854775807) (k : Nat) (hk : 32 < k) : fixed_Sqrt.f k n = some s := by
  have n0 : 0 ≤ n := Int.le_trans (Int.mul_nonneg s0 s0) s1
  obtain ⟨r, hr, r0, r1, r2⟩ := sqrt_f n0 n1 k hk
  rw [hr, root_one r0 s0 r1 r2 s1 s2]

/-- A product over a third to the nearest, where it can be told. -/
def md (a b c : Int) : Int × Bool := if c < 1 then (0, false) else if -9223372036854775808 ≤ rnd (a * b) c ∧ rnd (a * b) c ≤ 9223372036854775807 then (rnd (a * b) c, true) else (0, false)

theorem size_f {a : Int} (h0 : -9223372036854775808 ≤ a) (h1 : a ≤ 9223372036854775807) : fixed_size.f a = some (a.natAbs : Int) := by
  unfold fixed_size.f
  by_cases h : a < 0
  · rw [if_pos h, IntKind.wrap_u64, IntKind.wrap_u64]
    congr 1
    omega
  · rw [if_neg h, IntKind.wrap_u64]
    congr 1
    omega

theorem md_end (k : Nat) {n : Int} (below : Bool) (n0 : 0 ≤ n) (n1 : n ≤ 9223372036854775809) :
    fixed_MulDiv.j1 (k + 2) n below = some (if (if below = true then n ≤ 9223372036854775808 else n ≤ 9223372036854775807) then (if below = true then -n else n, true) else (0, false)) := by
  rw [fixed_MulDiv.j1]
  cases below with
  | true =>
    rw [if_pos rfl, fixed_MulDiv.j2, if_neg (by decide), if_pos rfl]
    simp only [if_true]
    by_cases h : n ≤ 9223372036854775808
    · rw [if_pos h, if_pos h, IntKind.wrap_u64]
      congr 2
      unfold wrap64
      omega
    · rw [if_neg h, if_neg h]
  | false =>
    rw [if_neg (by decide), fixed_MulDiv.j2]
    simp only [Bool.false_eq_true, if_false]
    by_cases h : n ≤ 9223372036854775807
    · rw [decide_eq_true h, if_pos rfl, if_pos h, w64 (by omega) (by omega)]
    · rw [decide_eq_false h, if_neg (by decide), if_neg h]

theorem md_up (k : Nat) {n : Int} (below up : Bool) (n0 : 0 ≤ n) (n1 : n ≤ 9223372036854775808) :
    fixed_MulDiv.j0 (k + 3) n below up = fixed_MulDiv.j1 (k + 2) (if up = true then n + 1 else n) below := by
  rw [fixed_MulDiv.j0]
  cases up with
  | true =>
    rw [if_pos rfl, if_pos rfl, IntKind.wrap_u64]
    congr 1
    omega
  | false => rw [if_neg (by decide), if_neg (by decide)]

theorem mul_sign (a b : Int) : (((decide (a < 0)) != (decide (b < 0))) = true → a * b = -((a.natAbs : Int) * (b.natAbs : Int))) ∧ (((decide (a < 0)) != (decide (b < 0))) = false → a * b = (a.natAbs : Int) * (b.natAbs : Int)) := by
  by_cases ha : a < 0
  · have ea : (a.natAbs : Int) = -a := by omega
    by_cases hb : b < 0
    · have eb : (b.natAbs : Int) = -b := by omega
      rw [decide_eq_true ha, decide_eq_true hb, ea, eb, Int.neg_mul_neg]
      simp
    · have eb : (b.natAbs : Int) = b := by omega
      rw [decide_eq_true ha, decide_eq_false hb, ea, eb, Int.neg_mul]
      simp
  · have ea : (a.natAbs : Int) = a := by omega
    by_cases hb : b < 0
    · have eb : (b.natAbs : Int) = -b := by omega
      rw [decide_eq_false ha, decide_eq_true hb, ea, eb, Int.mul_neg]
      simp
    · have eb : (b.natAbs : Int) = b := by omega
      rw [decide_eq_false ha, decide_eq_false hb, ea, eb]
      simp

theorem muldiv_f (k : Nat) {a b c : Int} (a0 : -9223372036854775808 ≤ a) (a1 : a ≤ 9223372036854775807) (b0 : -9223372036854775808 ≤ b) (b1 : b ≤ 9223372036854775807) (c1 : c ≤ 9223372036854775807) :
    fixed_MulDiv.f (k + 3) a b c = some (md a b c) := by
  unfold fixed_MulDiv.f md
  by_cases hc : c < 1
  · rw [if_pos hc, if_pos hc]
  rw [if_neg hc, if_neg hc]
  refine bind_of (size_f a0 a1) (bind_of (size_f b0 b1) ?_)
  have hs := mul_sign a b
  generalize ((decide (a < 0)) != (decide (b < 0))) = below at *
  have A0 : 0 ≤ (a.natAbs : Int) ∧ (a.natAbs : Int) ≤ 9223372036854775808 := by omega
  have B0 : 0 ≤ (b.natAbs : Int) ∧ (b.natAbs : Int) ≤ 9223372036854775808 := by omega
  generalize hA : (a.natAbs : Int) = A at *
  generalize hB : (b.natAbs : Int) = B at *
  have P0 : 0 ≤ A * B := Int.mul_nonneg A0.1 B0.1
  have M : bits_Mul64.f A B = some (A * B / 18446744073709551616, A * B % 18446744073709551616) := by
    unfold bits_Mul64.f
    rw [if_pos ⟨A0.1, by omega, B0.1, by omega⟩]
  refine bind_of M ?_
  have ec : IntKind.u64.wrap c = c := by rw [IntKind.wrap_u64]; omega
  rw [ec]
  generalize hP : A * B = P at *
  show (if P / 18446744073709551616 ≥ c then some (0, false) else _) = _
  have R := rnd_in (a * b) (b := c) (by omega)
  generalize rnd (a * b) c = q at *
  by_cases h1 : P / 18446744073709551616 ≥ c
  · rw [if_pos h1, if_neg]
    rintro ⟨q0, q1⟩
    have e1 := Int.mul_le_mul_of_nonneg_right q0 (show 0 ≤ c by omega)
    have e2 := Int.mul_le_mul_of_nonneg_right q1 (show 0 ≤ c by omega)
    cases below with
    | true => have := hs.1 rfl; omega
    | false => have := hs.2 rfl; omega
  rw [if_neg h1]
  have D : bits_Div64.f (P / 18446744073709551616) (P % 18446744073709551616) c = some (P / c, P % c) := by
    unfold bits_Div64.f
    rw [if_pos ⟨by omega, by omega, by omega, by omega, by omega⟩, show P / 18446744073709551616 * 18446744073709551616 + P % 18446744073709551616 = P by omega]
  refine bind_of D ?_
  have e := Int.mul_ediv_add_emod P c
  have m0 := Int.emod_nonneg P (show c ≠ 0 by omega)
  have m1 := Int.emod_lt_of_pos P (show 0 < c by omega)
  have n0 : 0 ≤ P / c := Int.ediv_nonneg P0 (by omega)
  rw [Int.mul_comm] at e
  generalize P / c = n at *
  generalize P % c = r at *
  show (if n > 9223372036854775808 then some (0, false) else if r > IntKind.u64.wrap (c - r) then _ else if r = IntKind.u64.wrap (c - r) then _ else _) = _
  by_cases h2 : n > 9223372036854775808
  · rw [if_pos h2, if_neg]
    rintro ⟨q0, q1⟩
    have e1 := Int.mul_le_mul_of_nonneg_right q0 (show 0 ≤ c by omega)
    have e2 := Int.mul_le_mul_of_nonneg_right q1 (show 0 ≤ c by omega)
    have e3 := Int.mul_le_mul_of_nonneg_right (show 9223372036854775809 ≤ n by omega) (show 0 ≤ c by omega)
    cases below with
    | true => have := hs.1 rfl; omega
    | false => have := hs.2 rfl; omega
  have em : IntKind.u64.wrap (c - r) = c - r := by rw [IntKind.wrap_u64]; omega
  rw [if_neg h2, em]
  -- what was added
  have key : ∀ up : Bool, (up = true ↔ (r > c - r ∨ r = c - r ∧ below = false)) → fixed_MulDiv.j0 (k + 3) n below up = some (if -9223372036854775808 ≤ q ∧ q ≤ 9223372036854775807 then (q, true) else (0, false)) := by
    intro up hup
    rw [md_up k below up n0 (by omega), md_end k below (by split <;> omega) (by split <;> omega)]
    have hq : q = if below = true then -(if up = true then n + 1 else n) else (if up = true then n + 1 else n) := by
      have one : ∀ z : Int, 2 * (z * c) ≤ 2 * (a * b) + c → 2 * (a * b) < 2 * (z * c) + c → q = z := by
        intro z z1 z2
        have p1 : (q - z) * c < c := by rw [Int.sub_mul]; omega
        have p2 : (z - q) * c < c := by rw [Int.sub_mul]; omega
        have p3 : q - z < 1 := by
          by_cases hh : q - z < 1
          · exact hh
          · have := Int.mul_le_mul_of_nonneg_right (show 1 ≤ q - z by omega) (show 0 ≤ c by omega)
            omega
        have p4 : z - q < 1 := by
          by_cases hh : z - q < 1
          · exact hh
          · have := Int.mul_le_mul_of_nonneg_right (show 1 ≤ z - q by omega) (show 0 ≤ c by omega)
            omega
        omega
      cases below with
      | true =>
        have s := hs.1 rfl
        cases up with
        | true =>
          have u := hup.1 rfl
          simp only [if_true]
          refine one _ ?_ ?_
          · rw [Int.neg_mul, Int.add_mul]; simp at u; omega
          · rw [Int.neg_mul, Int.add_mul]; simp at u; omega
        | false =>
          have u := mt hup.2 (by decide)
          simp only [if_true, Bool.false_eq_true, if_false]
          refine one _ ?_ ?_
          · rw [Int.neg_mul]; simp at u; omega
          · rw [Int.neg_mul]; simp at u; omega
      | false =>
        have s := hs.2 rfl
        cases up with
        | true =>
          have u := hup.1 rfl
          simp only [if_true, Bool.false_eq_true, if_false]
          refine one _ ?_ ?_
          · rw [Int.add_mul]; simp at u; omega
          · rw [Int.add_mul]; simp at u; omega
        | false =>
          have u := mt hup.2 (by decide)
          simp only [Bool.false_eq_true, if_false]
          refine one _ ?_ ?_
          · simp at u; omega
          · simp at u; omega
    have hm0 : 0 ≤ (if up = true then n + 1 else n) := by split <;> omega
    rw [hq]
    generalize (if up = true then n + 1 else n) = m at *
    cases below with
    | true =>
      simp only [if_true]
      by_cases hm : m ≤ 9223372036854775808
      · rw [if_pos hm, if_pos (by omega)]
      · rw [if_neg hm, if_neg (by omega)]
    | false =>
      simp only [Bool.false_eq_true, if_false]
      by_cases hm : m ≤ 9223372036854775807
      · rw [if_pos hm, if_pos (by omega)]
      · rw [if_neg hm, if_neg (by omega)]
  by_cases h3 : r > c - r
  · rw [if_pos h3]
    exact key true (by simp; omega)
  · rw [if_neg h3]
    by_cases h4 : r = c - r
    · rw [if_pos h4]
      exact key (!below) (by cases below <;> simp <;> omega)
    · rw [if_neg h4]
      exact key false (by simp; omega)

theorem sqrt_low {n : Int} (h : n < 0) (k : Nat) : fixed_Sqrt.f k n = some 0 := by
  unfold fixed_Sqrt.f
  rw [if_pos (by omega)]

theorem sqrt_any {n : Int} (n1 : n ≤ 9223372036854775807) (k : Nat) (hk : 32 < k) : ∃ r, fixed_Sqrt.f k n = some r ∧ 0 ≤ r ∧ (n < 0 → r = 0) ∧ (0 ≤ n → r * r ≤ n ∧ n < (r + 1) * (r + 1)) := by
  by_cases h : n < 0
  · exact ⟨0, sqrt_low h k, by omega, fun _ => rfl, fun h' => by omega⟩
  · obtain ⟨r, h1, h2, h3, h4⟩ := sqrt_f (n := n) (by omega) n1 k hk
    exact ⟨r, h1, h2, fun h' => absurd h' h, fun _ => ⟨h3, h4⟩⟩

theorem FixedGrows : glyphiclaw1_FixedGrows.Pure := by
  intro a0 a1 a2 a3 w0 w1 w2 w3
  have hf : glyphiclaw1_first.f 40 = some true := by decide +kernel
  have b0 := bounds_i64 w0
  have b1 := bounds_i64 w1
  have b2 := bounds_i64 w2
  have b3 := bounds_i64 w3
  refine ⟨40, ?_⟩
  unfold glyphiclaw1_FixedGrows.f
  refine bind_of hf ?_
  rw [if_pos rfl]
  have last : ∀ a b c x y : Int, -9223372036854775808 ≤ a → a ≤ b → b ≤ 9223372036854775807 → 0 ≤ c → c ≤ 9223372036854775807 → x ≤ y → glyphiclaw1_FixedGrows.j1 39 a b c a3 true x true y true (a / 8) (b / 8) = some true := by
    intro a b c x y h1 h2 h3 c0 c1 hxy
    rw [glyphiclaw1_FixedGrows.j1, if_pos rfl]
    obtain ⟨r, hr, r0, r1, r2⟩ := sqrt_any (n := a) (by omega) 38 (by omega)
    obtain ⟨s, hs, s0, s1, s2⟩ := sqrt_any (n := b) (by omega) 38 (by omega)
    refine bind_of hr (bind_of hs ?_)
    have hrs : r ≤ s := by
      by_cases hn : a < 0
      · have := r1 hn; omega
      · by_cases h : r ≤ s
        · exact h
        · have e1 := sq_le (a := s + 1) (b := r) (by omega) (by omega)
          have e2 := r2 (by omega)
          have e3 := s2 (by omega)
          omega
    rw [if_pos hrs, w64 (n := c / 16 + 1) (by omega) (by omega)]
    refine bind_of (round_f (by omega) (by omega) (by omega) (by omega)) (bind_of (round_f (by omega) (by omega) (by omega) (by omega)) ?_)
    rw [if_pos (rnd_mono (by omega) (by omega))]
    refine bind_of (down_f (by omega) (by omega) (by omega)) (bind_of (down_f (by omega) (by omega) (by omega)) ?_)
    rw [if_pos (Int.ediv_le_ediv (by omega) (by omega)), if_pos rfl, if_pos rfl, if_pos hxy]
    refine bind_of (x := mx (mn a 1000) (-1000)) rfl (bind_of (x := mx (mn b 1000) (-1000)) rfl ?_)
    rw [if_pos (by unfold mx mn; (repeat' split) <;> omega)]
    refine bind_of (x := 0) rfl ?_
    rw [if_pos rfl]
    refine bind_of (x := a3 / 2) ?_ (by simp)
    rw [round_f (by omega) (by omega) (by omega) (by omega), rnd_is (q := a3 / 2) (by omega) (by omega) (by omega)]
  have mid : ∀ a b : Int, -9223372036854775808 ≤ a → a ≤ b → b ≤ 9223372036854775807 → glyphiclaw1_FixedGrows.j0 40 a b a2 a3 true = some true := by
    intro a b h1 h2 h3
    have ra : ∀ z : Int, -9223372036854775808 ≤ z → z ≤ 9223372036854775807 → fixed_MulDiv.f 39 z 3 7 = some (rnd (z * 3) 7, true) := by
      intro z z0 z1
      have R := rnd_in (z * 3) (b := 7) (by omega)
      rw [muldiv_f 36 (by omega) (by omega) (by omega) (by omega) (by omega), md, if_neg (by omega), if_pos (by omega)]
    rw [glyphiclaw1_FixedGrows.j0]
    refine bind_of (ra a (by omega) (by omega)) (bind_of (ra b (by omega) (by omega)) ?_)
    have hm := rnd_mono (a := a * 3) (c := b * 3) (b := 7) (by omega) (by omega)
    by_cases h : a2 < 0
    · rw [if_pos h, w64 (n := a2 + 1) (by omega) (by omega), w64 (by omega) (by omega)]
      exact last _ _ _ _ _ h1 h2 h3 (by omega) (by omega) hm
    · rw [if_neg h]
      exact last _ _ _ _ _ h1 h2 h3 (by omega) (by omega) hm
  by_cases h : a0 > a1
  · rw [if_pos h]
    exact mid _ _ (by omega) (by omega) (by omega)
  · rw [if_neg h]
    exact mid _ _ (by omega) (by omega) (by omega)

end Go.Proofs.Ytgaikembekkfiaa.Pure
