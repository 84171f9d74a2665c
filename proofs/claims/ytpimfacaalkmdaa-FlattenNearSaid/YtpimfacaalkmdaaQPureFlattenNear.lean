/- the plain law of FlattenNear -/
import Derived.Test.YtpimfacaalkmdaaQFlattenNearx4
import Derived.OpenShut
namespace Go.Proofs.Ytpimfacaalkmdaa.Pure
open Go Go.RowKit Go.Proofs.Ytpimfacaalkmdaa.QFlattenNear Go.Proofs.YtpimfacaalkmdaaE Go.Proofs.YtpimfacaalkmdaaX
set_option linter.unusedVariables false

theorem bind_of {α β : Type} {o : Option α} {f : α → Option β} {x : α} {r : Option β} (h : o = some x) (h2 : f x = r) : o.bind f = r := by
  subst h
  exact h2

theorem div_is {a b q : Int} (hb : 0 < b) (h1 : q * b ≤ a) (h2 : a < q * b + b) : a / b = q := by
  apply Int.le_antisymm
  · exact Int.lt_add_one_iff.1 (Int.ediv_lt_of_lt_mul hb (by rw [Int.add_mul, Int.one_mul]; exact h2))
  · exact Int.le_ediv_of_mul_le hb h1

theorem div_in (a : Int) {b : Int} (hb : 0 < b) : a / b * b ≤ a ∧ a < a / b * b + b := by
  have h1 := Int.mul_ediv_add_emod a b
  have h2 := Int.emod_nonneg a (Int.ne_of_gt hb)
  have h3 := Int.emod_lt_of_pos a hb
  rw [Int.mul_comm] at h1
  omega

theorem div_bd (a : Int) {b : Int} (hb : 0 < b) : (0 ≤ a → 0 ≤ a / b ∧ a / b ≤ a) ∧ (a < 0 → a ≤ a / b ∧ a / b < 0) := by
  obtain ⟨h1, h2⟩ := div_in a hb
  refine ⟨fun h => ⟨Int.ediv_nonneg h (by omega), Int.ediv_le_self _ h⟩, fun h => ⟨?_, Int.ediv_neg_of_neg_of_pos h hb⟩⟩
  exact Int.le_ediv_of_mul_le hb (by
    have : a * b ≤ a * 1 := Int.mul_le_mul_of_nonpos_left (by omega) (by omega)
    omega)

theorem tmod_in (a : Int) {b : Int} (hb : 0 < b) : -b < Int.tmod a b ∧ Int.tmod a b < b := by
  rw [Int.tmod_eq_emod]
  have h2 := Int.emod_nonneg a (show b ≠ 0 by omega)
  have h3 := Int.emod_lt_of_pos a hb
  split
  · omega
  · have : ((b.natAbs : Nat) : Int) = b := by omega
    rename_i h
    have hne : a % b ≠ 0 := fun h0 => h (Or.inr (Int.dvd_of_emod_eq_zero h0))
    omega

theorem tmod_pos {a b : Int} (ha : 0 ≤ a) : Int.tmod a b = a % b := by
  rw [Int.tmod_eq_emod, if_pos (Or.inl ha)]; omega

theorem cyc (a : Int) {b : Int} (hb : 0 < b) (hb1 : b ≤ 4611686018427387903) : ∃ s, Int.tmod (wr64 (Int.tmod a b + b)) b = s ∧ 0 ≤ s ∧ s < b := by
  have h := tmod_in a hb
  refine ⟨_, rfl, ?_⟩
  rw [w64 (by omega) (by omega), tmod_pos (by omega)]
  exact ⟨Int.emod_nonneg _ (by omega), Int.emod_lt_of_pos _ hb⟩

/-- The nearest of a part, of two the greater. -/
def rnd (a b : Int) : Int := (2 * a + b) / (2 * b)

theorem rnd_is {a b q : Int} (hb : 0 < b) (h1 : 2 * (q * b) ≤ 2 * a + b) (h2 : 2 * a < 2 * (q * b) + b) : rnd a b = q := by
  unfold rnd
  apply div_is (by omega)
  · rw [Int.mul_left_comm]; omega
  · rw [Int.mul_left_comm]; omega

theorem rnd_in (a : Int) {b : Int} (hb : 0 < b) : 2 * (rnd a b * b) ≤ 2 * a + b ∧ 2 * a < 2 * (rnd a b * b) + b := by
  unfold rnd
  obtain ⟨h1, h2⟩ := div_in (2 * a + b) (b := 2 * b) (by omega)
  rw [Int.mul_left_comm] at h1 h2
  omega

theorem rnd_mono {a c b : Int} (hb : 0 < b) (h : a ≤ c) : rnd a b ≤ rnd c b := by
  unfold rnd
  exact Int.ediv_le_ediv (by omega) (by omega)

theorem down_f {a b : Int} (hb : 1 ≤ b) (ha0 : -9223372036854775808 ≤ a) (ha1 : a ≤ 9223372036854775807) : fixed_Down.f a b = some (a / b) := by
  unfold fixed_Down.f
  rw [if_neg (by omega), if_neg (by omega)]
  have hbd := div_bd a (b := b) (by omega)
  by_cases h : 0 ≤ a ∨ b ∣ a
  · have e1 : Int.tdiv a b = a / b := by rw [Int.tdiv_eq_ediv, if_pos h]; omega
    have e2 : Int.tmod a b = a % b := by rw [Int.tmod_eq_emod, if_pos h]; omega
    have h2 := Int.emod_nonneg a (show b ≠ 0 by omega)
    rw [e1, e2, if_neg (by omega), w64 (by omega) (by omega)]
  · have e1 : Int.tdiv a b = a / b + 1 := by rw [Int.tdiv_eq_ediv, if_neg h, Int.sign_eq_one_of_pos (by omega)]
    have e2 : Int.tmod a b = a % b - b := by rw [Int.tmod_eq_emod, if_neg h]; omega
    have h3 := Int.emod_lt_of_pos a (show 0 < b by omega)
    rw [e1, e2, if_pos (by omega), w64 (n := a / b + 1) (by omega) (by omega), w64 (by omega) (by omega)]
    congr 1
    omega

theorem round_f {a b : Int} (hb : 1 ≤ b) (hb1 : b ≤ 9223372036854775807) (ha0 : -9223372036854775808 ≤ a) (ha1 : a ≤ 9223372036854775807) : fixed_Round.f a b = some (rnd a b) := by
  unfold fixed_Round.f
  rw [if_neg (by omega), down_f hb ha0 ha1]
  simp only [Option.bind_some]
  obtain ⟨h1, h2⟩ := div_in a (b := b) (by omega)
  have hbd := div_bd a (b := b) (by omega)
  have e : wr64 (a - wr64 (a / b * b)) = a - a / b * b := by
    simp only [wr64_eq]
    omega
  rw [e, w64 (n := b - (a - a / b * b)) (by omega) (by omega)]
  by_cases h : a - a / b * b ≥ b - (a - a / b * b)
  · rw [if_pos h]
    have h3 : a / b + 1 ≤ 9223372036854775807 := by
      by_cases hq : a / b < 9223372036854775807
      · omega
      · by_cases h1b : b = 1
        · subst h1b; omega
        · have : a / b * 2 ≤ a / b * b := Int.mul_le_mul_of_nonneg_left (by omega) (by omega)
          omega
    rw [w64 (by omega) h3, rnd_is (q := a / b + 1) (by omega)]
    · rw [Int.add_mul]; omega
    · rw [Int.add_mul]; omega
  · rw [if_neg h, rnd_is (q := a / b) (by omega)]
    · omega
    · omega

theorem rnd_near (a : Int) {b : Int} (hb : 0 < b) : rnd a b = a / b ∨ rnd a b = a / b + 1 := by
  obtain ⟨h1, h2⟩ := div_in a hb
  by_cases h : 2 * (a - a / b * b) < b
  · left
    exact rnd_is hb (by omega) (by omega)
  · right
    exact rnd_is hb (by rw [Int.add_mul]; omega) (by rw [Int.add_mul]; omega)

theorem rnd_next (a : Int) {b : Int} (hb : 0 < b) : rnd (a + b) b = rnd a b + 1 := by
  obtain ⟨h1, h2⟩ := rnd_in a hb
  exact rnd_is hb (by rw [Int.add_mul]; omega) (by rw [Int.add_mul]; omega)

theorem mul_bd {x y M N : Int} (hx0 : -M ≤ x) (hx1 : x ≤ M) (hy0 : -N ≤ y) (hy1 : y ≤ N) : -(M * N) ≤ x * y ∧ x * y ≤ M * N := by
  have h : (x * y).natAbs ≤ M.toNat * N.toNat := by
    rw [Int.natAbs_mul]
    exact Nat.mul_le_mul (by omega) (by omega)
  have e : ((M.toNat * N.toNat : Nat) : Int) = M * N := by
    rw [Int.natCast_mul, Int.toNat_of_nonneg (by omega), Int.toNat_of_nonneg (by omega)]
  omega

/-- Two numbers no farther apart than that. -/
def Nr (a b : Int) : Prop := -268435456 ≤ b - a ∧ b - a ≤ 268435456

theorem prod_bd {a b c d : Int} (h1 : Nr a b) (h2 : Nr c d) : -72057594037927936 ≤ (b - a) * (d - c) ∧ (b - a) * (d - c) ≤ 72057594037927936 := mul_bd (M := 268435456) (N := 268435456) (by have := h1.1; omega) h1.2 (by have := h2.1; omega) h2.2

def crs (ax ay bx by_ px py : Int) : Int := (bx - ax) * (py - ay) - (by_ - ay) * (px - ax)
def dt (ax ay bx by_ px py : Int) : Int := (bx - ax) * (px - ax) + (by_ - ay) * (py - ay)
def ln (ax ay bx by_ : Int) : Int := (bx - ax) * (bx - ax) + (by_ - ay) * (by_ - ay)

theorem sq_nonneg (x : Int) : 0 ≤ x * x := by
  rcases Int.le_total 0 x with h | h
  · exact Int.mul_nonneg h h
  · exact Int.mul_nonneg_of_nonpos_of_nonpos h h

theorem ln_nonneg (ax ay bx by_ : Int) : 0 ≤ ln ax ay bx by_ := by
  unfold ln
  have := sq_nonneg (bx - ax)
  have := sq_nonneg (by_ - ay)
  omega

theorem ln_bd {ax ay bx by_ : Int} (h1 : Nr ax bx) (h2 : Nr ay by_) : ln ax ay bx by_ ≤ 144115188075855872 := by
  unfold ln
  have := prod_bd h1 h1
  have := prod_bd h2 h2
  omega

theorem dt_bd {ax ay bx by_ px py : Int} (h1 : Nr ax bx) (h2 : Nr ay by_) (h3 : Nr ax px) (h4 : Nr ay py) : -144115188075855872 ≤ dt ax ay bx by_ px py ∧ dt ax ay bx by_ px py ≤ 144115188075855872 := by
  unfold dt
  have := prod_bd h1 h3
  have := prod_bd h2 h4
  omega

theorem crs_bd {ax ay bx by_ px py : Int} (h1 : Nr ax bx) (h2 : Nr ay by_) (h3 : Nr ax px) (h4 : Nr ay py) : -144115188075855872 ≤ crs ax ay bx by_ px py ∧ crs ax ay bx by_ px py ≤ 144115188075855872 := by
  unfold crs
  have := prod_bd h1 h4
  have := prod_bd h2 h3
  omega

/-- Near, as the document says it. -/
def nearB (ax ay bx by_ px py w : Int) : Bool :=
  if dt ax ay bx by_ px py ≤ 0 then decide (4 * ln ax ay px py ≤ w * w)
  else if dt ax ay bx by_ px py ≥ ln ax ay bx by_ then decide (4 * ln bx by_ px py ≤ w * w)
  else decide (4 * (crs ax ay bx by_ px py * crs ax ay bx by_ px py) ≤ w * w * ln ax ay bx by_)

/-- Two roundings and a chord's share: no farther than nine units. -/
theorem comb {M r t p u v X X0 X1 : Int} (hM : 0 < M) (hr : 0 < r) (t0 : 0 ≤ t) (t1 : t ≤ r) (p1 : 2 * (M * p) ≤ 2 * X + M) (p2 : 2 * X - M ≤ 2 * (M * p)) (u1 : 2 * (M * u) ≤ 2 * X0 + M) (u2 : 2 * X0 - M ≤ 2 * (M * u)) (v1 : 2 * (M * v) ≤ 2 * X1 + M) (v2 : 2 * X1 - M ≤ 2 * (M * v)) (d1 : r * X - (r - t) * X0 - t * X1 ≤ 8 * (r * M)) (d2 : -(8 * (r * M)) ≤ r * X - (r - t) * X0 - t * X1) :
    -(9 * r) ≤ r * p - (r - t) * u - t * v ∧ r * p - (r - t) * u - t * v ≤ 9 * r := by
  have a1 := Int.mul_le_mul_of_nonneg_left p1 (show 0 ≤ r by omega)
  have a2 := Int.mul_le_mul_of_nonneg_left p2 (show 0 ≤ r by omega)
  have b1 := Int.mul_le_mul_of_nonneg_left u1 (show 0 ≤ r - t by omega)
  have b2 := Int.mul_le_mul_of_nonneg_left u2 (show 0 ≤ r - t by omega)
  have c1 := Int.mul_le_mul_of_nonneg_left v1 t0
  have c2 := Int.mul_le_mul_of_nonneg_left v2 t0
  have e : M * (r * p - (r - t) * u - t * v) = r * (M * p) - (r - t) * (M * u) - t * (M * v) := by grind
  have f : M * (9 * r) = 9 * (r * M) := by grind
  have g : M * (-(9 * r)) = -(9 * (r * M)) := by grind
  have h1 : M * (r * p - (r - t) * u - t * v) ≤ M * (9 * r) := by grind
  have h2 : M * (-(9 * r)) ≤ M * (r * p - (r - t) * u - t * v) := by grind
  exact ⟨Int.le_of_mul_le_mul_left h2 hM, Int.le_of_mul_le_mul_left h1 hM⟩
theorem quarter {r t : Int} : 4 * (t * (r - t)) ≤ r * r := by
  have h : 0 ≤ (r - 2 * t) * (r - 2 * t) := by
    rcases Int.le_total 0 (r - 2 * t) with h | h
    · exact Int.mul_nonneg h h
    · exact Int.mul_nonneg_of_nonpos_of_nonpos h h
  grind
/-- A number between two opposite ones, many times. -/
theorem mul_abs {x y A B : Int} (hx : -A ≤ x ∧ x ≤ A) (hy : -B ≤ y ∧ y ≤ B) : -(A * B) ≤ x * y ∧ x * y ≤ A * B := mul_bd hx.1 hx.2 hy.1 hy.2
def g2 (a b c i n : Int) : Int := (n - i) * (n - i) * a + 2 * i * (n - i) * b + i * i * c
def g3 (a b c d i n : Int) : Int := (n - i) * (n - i) * (n - i) * a + 3 * i * (n - i) * (n - i) * b + 3 * i * i * (n - i) * c + i * i * i * d
def g1 (a b i n : Int) : Int := (n - i) * a + i * b
theorem dev1 (a b n r j t : Int) : r * g1 a b (j * r + t) (n * r) - (r - t) * (r * g1 a b j n) - t * (r * g1 a b (j + 1) n) = 0 := by
  unfold g1
  grind
theorem dev2_eq (a b c n r j t : Int) : r * g2 a b c (j * r + t) (n * r) - (r - t) * (r * r * g2 a b c j n) - t * (r * r * g2 a b c (j + 1) n) = -((a - 2 * b + c) * (r * (t * (r - t)))) := by
  unfold g2
  grind
theorem dev2 {a b c n r j t : Int} (hr : 0 < r) (t0 : 0 ≤ t) (t1 : t ≤ r) (hD : -(32 * n * n) ≤ a - 2 * b + c ∧ a - 2 * b + c ≤ 32 * n * n) :
    r * g2 a b c (j * r + t) (n * r) - (r - t) * (r * r * g2 a b c j n) - t * (r * r * g2 a b c (j + 1) n) ≤ 8 * (r * (r * r * (n * n))) ∧ -(8 * (r * (r * r * (n * n)))) ≤ r * g2 a b c (j * r + t) (n * r) - (r - t) * (r * r * g2 a b c j n) - t * (r * r * g2 a b c (j + 1) n) := by
  rw [dev2_eq]
  generalize a - 2 * b + c = D at *
  have q := quarter (r := r) (t := t)
  have q0 : 0 ≤ t * (r - t) := Int.mul_nonneg t0 (by omega)
  generalize t * (r - t) = T at *
  have h := mul_abs hD (show -(r * T) ≤ r * T ∧ r * T ≤ r * T by have := Int.mul_nonneg (show 0 ≤ r by omega) q0; omega)
  have nn : 0 ≤ n * n := by
    rcases Int.le_total 0 n with h | h
    · exact Int.mul_nonneg h h
    · exact Int.mul_nonneg_of_nonpos_of_nonpos h h
  have k : (8 * n * n * r) * (4 * T) ≤ (8 * n * n * r) * (r * r) := Int.mul_le_mul_of_nonneg_left q (Int.mul_nonneg (by grind) (by omega))
  grind
theorem dev3_eq (a b c d n r j t : Int) : r * g3 a b c d (j * r + t) (n * r) - (r - t) * (r * r * r * g3 a b c d j n) - t * (r * r * r * g3 a b c d (j + 1) n) = -((t * (r - t)) * ((2 * r - t) * (r * ((n - j) * (a - 2 * b + c) + j * (b - 2 * c + d))) + (r + t) * (r * ((n - (j + 1)) * (a - 2 * b + c) + (j + 1) * (b - 2 * c + d))))) := by
  unfold g3
  grind
theorem mix_le {n j x y M : Int} (j0 : 0 ≤ j) (j1 : j ≤ n) (hx : -M ≤ x ∧ x ≤ M) (hy : -M ≤ y ∧ y ≤ M) : -(n * M) ≤ (n - j) * x + j * y ∧ (n - j) * x + j * y ≤ n * M := by
  have a1 := Int.mul_le_mul_of_nonneg_left hx.1 (show 0 ≤ n - j by omega)
  have a2 := Int.mul_le_mul_of_nonneg_left hx.2 (show 0 ≤ n - j by omega)
  have b1 := Int.mul_le_mul_of_nonneg_left hy.1 j0
  have b2 := Int.mul_le_mul_of_nonneg_left hy.2 j0
  grind
theorem dev3 {a b c d n r j t M : Int} (hr : 0 < r) (hn : 0 < n) (t0 : 0 ≤ t) (t1 : t ≤ r) (j0 : 0 ≤ j) (j1 : j + 1 ≤ n) (hM : 0 ≤ M) (h3 : 3 * M ≤ 32 * n * n) (hD : -M ≤ a - 2 * b + c ∧ a - 2 * b + c ≤ M) (hE : -M ≤ b - 2 * c + d ∧ b - 2 * c + d ≤ M) :
    r * g3 a b c d (j * r + t) (n * r) - (r - t) * (r * r * r * g3 a b c d j n) - t * (r * r * r * g3 a b c d (j + 1) n) ≤ 8 * (r * (r * r * r * (n * n * n))) ∧ -(8 * (r * (r * r * r * (n * n * n)))) ≤ r * g3 a b c d (j * r + t) (n * r) - (r - t) * (r * r * r * g3 a b c d j n) - t * (r * r * r * g3 a b c d (j + 1) n) := by
  rw [dev3_eq]
  have m0 := mix_le (n := n) (j := j) j0 (by omega) hD hE
  have m1 := mix_le (n := n) (j := j + 1) (by omega) (by omega) hD hE
  generalize (n - j) * (a - 2 * b + c) + j * (b - 2 * c + d) = P at *
  generalize (n - (j + 1)) * (a - 2 * b + c) + (j + 1) * (b - 2 * c + d) = Q at *
  have q := quarter (r := r) (t := t)
  have q0 : 0 ≤ t * (r - t) := Int.mul_nonneg t0 (by omega)
  have w1 := mul_abs (x := (2 * r - t) * r) (A := (2 * r - t) * r) (by have := Int.mul_nonneg (show 0 ≤ 2 * r - t by omega) (show 0 ≤ r by omega); omega) m0
  have w2 := mul_abs (x := (r + t) * r) (A := (r + t) * r) (by have := Int.mul_nonneg (show 0 ≤ r + t by omega) (show 0 ≤ r by omega); omega) m1
  generalize t * (r - t) = T at *
  have e : (2 * r - t) * (r * P) + (r + t) * (r * Q) = (2 * r - t) * r * P + (r + t) * r * Q := by grind
  rw [e]
  have s : -(3 * r * r * (n * M)) ≤ (2 * r - t) * r * P + (r + t) * r * Q ∧ (2 * r - t) * r * P + (r + t) * r * Q ≤ 3 * r * r * (n * M) := by grind
  generalize (2 * r - t) * r * P + (r + t) * r * Q = S at *
  have h := mul_abs (x := T) (A := T) (by omega) s
  have rr : 0 ≤ r * r := Int.mul_nonneg (by omega) (by omega)
  have k1 : (4 * T) * (r * r * n * (3 * M)) ≤ (r * r) * (r * r * n * (3 * M)) := Int.mul_le_mul_of_nonneg_right q (Int.mul_nonneg (Int.mul_nonneg rr (by omega)) (by omega))
  have k2 : (r * r * (r * r) * n) * (3 * M) ≤ (r * r * (r * r) * n) * (32 * n * n) := Int.mul_le_mul_of_nonneg_left h3 (Int.mul_nonneg (Int.mul_nonneg rr rr) (by omega))
  grind

theorem sq_le81 {e r : Int} (h : -(9 * r) ≤ e ∧ e ≤ 9 * r) (hr : 0 < r) : e * e ≤ 81 * (r * r) := by
  have := (mul_bd h.1 h.2 h.1 h.2).2
  grind
theorem cancel2 {r x y : Int} (hr : 0 < r) (h : r * r * x ≤ r * r * y) : x ≤ y := Int.le_of_mul_le_mul_left h (Int.mul_pos hr hr)
theorem near9 {ax ay bx by_ px py r t : Int} (hr : 0 < r) (t0 : 0 ≤ t) (t1 : t ≤ r) (h1 : -(9 * r) ≤ r * px - (r - t) * ax - t * bx ∧ r * px - (r - t) * ax - t * bx ≤ 9 * r) (h2 : -(9 * r) ≤ r * py - (r - t) * ay - t * by_ ∧ r * py - (r - t) * ay - t * by_ ≤ 9 * r) : nearB ax ay bx by_ px py 34 = true := by
  have s1 := sq_le81 h1 hr
  have s2 := sq_le81 h2 hr
  have hl := ln_nonneg ax ay bx by_
  clear h1 h2
  unfold nearB
  by_cases c1 : dt ax ay bx by_ px py ≤ 0
  · rw [if_pos c1, decide_eq_true]
    have k : 0 ≤ r * t * (-(dt ax ay bx by_ px py)) := Int.mul_nonneg (Int.mul_nonneg (by omega) t0) (by omega)
    have k2 : 0 ≤ t * t * ln ax ay bx by_ := Int.mul_nonneg (Int.mul_nonneg t0 t0) hl
    have : ln ax ay px py ≤ 162 := cancel2 hr (by unfold dt ln at *; grind)
    omega
  · rw [if_neg c1]
    by_cases c2 : dt ax ay bx by_ px py ≥ ln ax ay bx by_
    · rw [if_pos c2, decide_eq_true]
      have k : 0 ≤ r * (r - t) * (dt ax ay bx by_ px py - ln ax ay bx by_) := Int.mul_nonneg (Int.mul_nonneg (by omega) (by omega)) (by omega)
      have k2 : 0 ≤ (r - t) * (r - t) * ln ax ay bx by_ := Int.mul_nonneg (Int.mul_nonneg (by omega) (by omega)) hl
      have : ln bx by_ px py ≤ 162 := cancel2 hr (by unfold dt ln at *; grind)
      omega
    · rw [if_neg c2, decide_eq_true]
      have k := Int.mul_le_mul_of_nonneg_left s1 hl
      have k2 := Int.mul_le_mul_of_nonneg_left s2 hl
      have sq : 0 ≤ ((bx - ax) * (r * px - (r - t) * ax - t * bx) + (by_ - ay) * (r * py - (r - t) * ay - t * by_)) * ((bx - ax) * (r * px - (r - t) * ax - t * bx) + (by_ - ay) * (r * py - (r - t) * ay - t * by_)) := sq_nonneg _
      have : crs ax ay bx by_ px py * crs ax ay bx by_ px py ≤ 162 * ln ax ay bx by_ := cancel2 hr (by unfold crs ln at *; grind)
      omega

theorem lgt_ex {T : Type} {L : List T} {i : Int} (h0 : 0 ≤ i) (h1 : i < L.length) : ∃ x, lgt L i = some x := by
  unfold lgt
  rw [if_neg (by omega)]
  exact ⟨L[i.toNat]'(by omega), List.getElem?_eq_getElem (by omega)⟩

theorem number_f {n b : Int} (hb : 0 < b) (hb1 : b ≤ 4611686018427387903) : ∃ v, glyphicworld_Number.f n b = some v ∧ 0 ≤ v ∧ v < b := by
  unfold glyphicworld_Number.f
  rw [if_neg (by omega)]
  have h := tmod_in n hb
  by_cases c : Int.tmod n b < 0
  · rw [if_pos c, w64 (by omega) (by omega)]
    exact ⟨_, rfl, by omega, by omega⟩
  · rw [if_neg c]
    exact ⟨_, rfl, by omega, by omega⟩

theorem next_f {b at_ : Int} (L : List Int) (hb : 0 < b) (hb1 : b ≤ 4611686018427387903) (h0 : 0 ≤ at_) (h1 : at_ ≤ 1000000000) : ∃ v, glyphicmake_Seq_Next_v1.f b L at_ = some (v, at_ + 1) ∧ 0 ≤ v ∧ v < b := by
  unfold glyphicmake_Seq_Next_v1.f
  have e : wr64 (at_ + 1) = at_ + 1 := w64 (by omega) (by omega)
  rw [e]
  by_cases c : at_ < (L.length : Int)
  · obtain ⟨x, hx⟩ := lgt_ex h0 c
    obtain ⟨v, hv, v0, v1⟩ := number_f (n := x) hb hb1
    rw [if_pos c]
    exact ⟨v, bind_of (bind_of hx rfl) (bind_of hv rfl), v0, v1⟩
  · obtain ⟨v, hv, v0, v1⟩ := number_f (n := 0) hb hb1
    rw [if_neg c]
    exact ⟨v, bind_of rfl (bind_of hv rfl), v0, v1⟩

theorem point_f {far at_ : Int} (L : List Int) (hb : 0 ≤ far) (hb1 : far ≤ 1000000000000000) (h0 : 0 ≤ at_) (h1 : at_ ≤ 999999999) : ∃ x y, glyphicmake_Point_v1.f far L at_ = some (x, y, at_ + 2) ∧ (-far ≤ x ∧ x ≤ far) ∧ -far ≤ y ∧ y ≤ far := by
  unfold glyphicmake_Point_v1.f
  have e : wr64 (wr64 (2 * far) + 1) = 2 * far + 1 := by
    rw [w64 (n := 2 * far) (by omega) (by omega), w64 (by omega) (by omega)]
  rw [e]
  obtain ⟨u, hu, u0, u1⟩ := next_f (b := 2 * far + 1) L (by omega) (by omega) h0 (by omega)
  obtain ⟨v, hv, v0, v1⟩ := next_f (b := 2 * far + 1) L (by omega) (by omega) (show 0 ≤ at_ + 1 by omega) (by omega)
  refine ⟨u - far, v - far, bind_of hu (bind_of hv ?_), by omega, by omega⟩
  dsimp only
  rw [w64 (n := u - far) (by omega) (by omega), w64 (n := v - far) (by omega) (by omega), show at_ + 1 + 1 = at_ + 2 by omega]

theorem lgt_nat {T : Type} {L : List T} {i : Nat} (h : i < L.length) : lgt L (i : Int) = some L[i] := by
  unfold lgt
  rw [if_neg (by omega), Int.toNat_natCast, List.getElem?_eq_getElem h]
theorem lapp_ok {T : Type} {L X : List T} (h : L.length + X.length ≤ 4294967296) : lapp L X = some (L ++ X) := by
  unfold lapp
  rw [if_pos h]
theorem wnat {i : Nat} (h : i ≤ 1000000000000) : wr64 ((i : Int) + 1) = ((i + 1 : Nat) : Int) := by
  rw [w64 (by omega) (by omega)]
  omega

def bd (a b c : Int) : Int := (a - 2 * b + c).natAbs
theorem bd_le {a b c : Int} (a0 : -16777217 < a) (a1 : a < 16777217) (b0 : -16777217 < b) (b1 : b < 16777217) (c0 : -16777217 < c) (c1 : c < 16777217) : 0 ≤ bd a b c ∧ bd a b c ≤ 67108864 := by
  unfold bd
  omega
theorem wsum {a b c : Int} (a0 : -16777217 < a) (a1 : a < 16777217) (b0 : -16777217 < b) (b1 : b < 16777217) (c0 : -16777217 < c) (c1 : c < 16777217) : wr64 (wr64 (a - wr64 (2 * b)) + c) = a - 2 * b + c := by
  rw [w64 (n := 2 * b) (by omega) (by omega), w64 (n := a - 2 * b) (by omega) (by omega), w64 (by omega) (by omega)]
theorem bend_f {ax ay bx by_ cx cy : Int} (h1 : -16777217 < ax) (h2 : ax < 16777217) (h3 : -16777217 < ay) (h4 : ay < 16777217) (h5 : -16777217 < bx) (h6 : bx < 16777217) (h7 : -16777217 < by_) (h8 : by_ < 16777217) (h9 : -16777217 < cx) (h10 : cx < 16777217) (h11 : -16777217 < cy) (h12 : cy < 16777217) :
    flatten_bend.f ax ay bx by_ cx cy = some (bd ax bx cx + bd ay by_ cy) := by
  unfold flatten_bend.f
  rw [wsum h1 h2 h5 h6 h9 h10, wsum h3 h4 h7 h8 h11 h12]
  unfold bd mx
  generalize hx : ax - 2 * bx + cx = x
  generalize hy : ay - 2 * by_ + cy = y
  have x0 : -67108868 ≤ x ∧ x ≤ 67108868 := by omega
  have y0 : -67108868 ≤ y ∧ y ≤ 67108868 := by omega
  clear hx hy
  rw [w64 (n := 0 - x) (by omega) (by omega), w64 (n := 0 - y) (by omega) (by omega)]
  split <;> split <;> (rw [w64 (by omega) (by omega)]; congr 1; omega)

/-- The first of the powers of two that is enough. -/
theorem count_go {far : Int} (f0 : 0 ≤ far) (f1 : far ≤ 402653184) : ∃ n : Int, flatten_Count.l0 20 far 1 = some n ∧ 1 ≤ n ∧ n ≤ 8192 ∧ bits .and .i64 n (wr64 (n - 1)) = 0 ∧ far ≤ 32 * n * n ∧ (n = 1 ∨ far > 8 * n * n) := by
  have stop : ∀ (k : Nat) (n : Int), 1 ≤ n → n ≤ 8192 → far ≤ 32 * n * n → flatten_Count.l0 (k + 1) far n = some n := by
    intro k n h1 h2 h3
    have h4 : 32 * n * n ≤ 32 * n * 8192 := Int.mul_le_mul_of_nonneg_left h2 (by omega)
    have h5 : 0 ≤ 32 * n * n := Int.mul_nonneg (by omega) (by omega)
    rw [flatten_Count.l0, w64 (n := 32 * n) (by omega) (by omega), w64 (n := 32 * n * n) (by omega) (by omega), if_neg (by omega)]
  have go : ∀ (k : Nat) (n : Int), 1 ≤ n → n ≤ 8192 → ¬ far ≤ 32 * n * n → flatten_Count.l0 (k + 1) far n = flatten_Count.l0 k far (2 * n) := by
    intro k n h1 h2 h3
    have h4 : 32 * n * n ≤ 32 * n * 8192 := Int.mul_le_mul_of_nonneg_left h2 (by omega)
    have h5 : 0 ≤ 32 * n * n := Int.mul_nonneg (by omega) (by omega)
    rw [flatten_Count.l0, w64 (n := 32 * n) (by omega) (by omega), w64 (n := 32 * n * n) (by omega) (by omega), if_pos (by omega), w64 (n := n * 2) (by omega) (by omega), Int.mul_comm n 2]
  by_cases c0 : far ≤ 32 * 1 * 1
  · exact ⟨1, stop 19 1 (by omega) (by omega) c0, by decide, by decide, by decide +kernel, c0, Or.inl rfl⟩
  rw [go 19 1 (by omega) (by omega) c0]
  by_cases c1 : far ≤ 32 * 2 * 2
  · exact ⟨2, stop 18 2 (by omega) (by omega) c1, by decide, by decide, by decide +kernel, c1, Or.inr (by omega)⟩
  rw [show (2 : Int) * 1 = 2 from rfl, go 18 2 (by omega) (by omega) c1]
  by_cases c2 : far ≤ 32 * 4 * 4
  · exact ⟨4, stop 17 4 (by omega) (by omega) c2, by decide, by decide, by decide +kernel, c2, Or.inr (by omega)⟩
  rw [show (2 : Int) * 2 = 4 from rfl, go 17 4 (by omega) (by omega) c2]
  by_cases c3 : far ≤ 32 * 8 * 8
  · exact ⟨8, stop 16 8 (by omega) (by omega) c3, by decide, by decide, by decide +kernel, c3, Or.inr (by omega)⟩
  rw [show (2 : Int) * 4 = 8 from rfl, go 16 8 (by omega) (by omega) c3]
  by_cases c4 : far ≤ 32 * 16 * 16
  · exact ⟨16, stop 15 16 (by omega) (by omega) c4, by decide, by decide, by decide +kernel, c4, Or.inr (by omega)⟩
  rw [show (2 : Int) * 8 = 16 from rfl, go 15 16 (by omega) (by omega) c4]
  by_cases c5 : far ≤ 32 * 32 * 32
  · exact ⟨32, stop 14 32 (by omega) (by omega) c5, by decide, by decide, by decide +kernel, c5, Or.inr (by omega)⟩
  rw [show (2 : Int) * 16 = 32 from rfl, go 14 32 (by omega) (by omega) c5]
  by_cases c6 : far ≤ 32 * 64 * 64
  · exact ⟨64, stop 13 64 (by omega) (by omega) c6, by decide, by decide, by decide +kernel, c6, Or.inr (by omega)⟩
  rw [show (2 : Int) * 32 = 64 from rfl, go 13 64 (by omega) (by omega) c6]
  by_cases c7 : far ≤ 32 * 128 * 128
  · exact ⟨128, stop 12 128 (by omega) (by omega) c7, by decide, by decide, by decide +kernel, c7, Or.inr (by omega)⟩
  rw [show (2 : Int) * 64 = 128 from rfl, go 12 128 (by omega) (by omega) c7]
  by_cases c8 : far ≤ 32 * 256 * 256
  · exact ⟨256, stop 11 256 (by omega) (by omega) c8, by decide, by decide, by decide +kernel, c8, Or.inr (by omega)⟩
  rw [show (2 : Int) * 128 = 256 from rfl, go 11 256 (by omega) (by omega) c8]
  by_cases c9 : far ≤ 32 * 512 * 512
  · exact ⟨512, stop 10 512 (by omega) (by omega) c9, by decide, by decide, by decide +kernel, c9, Or.inr (by omega)⟩
  rw [show (2 : Int) * 256 = 512 from rfl, go 10 512 (by omega) (by omega) c9]
  by_cases c10 : far ≤ 32 * 1024 * 1024
  · exact ⟨1024, stop 9 1024 (by omega) (by omega) c10, by decide, by decide, by decide +kernel, c10, Or.inr (by omega)⟩
  rw [show (2 : Int) * 512 = 1024 from rfl, go 9 1024 (by omega) (by omega) c10]
  by_cases c11 : far ≤ 32 * 2048 * 2048
  · exact ⟨2048, stop 8 2048 (by omega) (by omega) c11, by decide, by decide, by decide +kernel, c11, Or.inr (by omega)⟩
  rw [show (2 : Int) * 1024 = 2048 from rfl, go 8 2048 (by omega) (by omega) c11]
  by_cases c12 : far ≤ 32 * 4096 * 4096
  · exact ⟨4096, stop 7 4096 (by omega) (by omega) c12, by decide, by decide, by decide +kernel, c12, Or.inr (by omega)⟩
  exact absurd c12 (by omega)

def In (a : Int) : Prop := -4194306 < a ∧ a < 4194306
theorem In.b {a : Int} (h : In a) : -16777217 < a ∧ a < 16777217 := by unfold In at h; omega
/-- A segment that is one. -/
def Sg (s : Int × Int × Int × Int × Int × Int × Int) : Prop := (1 ≤ s.1 ∧ s.1 ≤ 3) ∧ In s.2.1 ∧ In s.2.2.1 ∧ In s.2.2.2.1 ∧ In s.2.2.2.2.1 ∧ In s.2.2.2.2.2.1 ∧ In s.2.2.2.2.2.2

theorem count_mono : ∀ (k : Nat) (far n r : Int), flatten_Count.l0 k far n = some r → flatten_Count.l0 (k + 1) far n = some r
  | 0, far, n, r, h => by rw [flatten_Count.l0] at h; cases h
  | k + 1, far, n, r, h => by
    rw [flatten_Count.l0] at h ⊢
    by_cases c : far > wr64 (wr64 (32 * n) * n)
    · rw [if_pos c] at h ⊢
      exact count_mono k _ _ _ h
    · rw [if_neg c] at h ⊢
      exact h
theorem count_le {far n r : Int} {k : Nat} (h : flatten_Count.l0 20 far n = some r) (hk : 20 ≤ k) : flatten_Count.l0 k far n = some r := by
  obtain ⟨j, rfl⟩ : ∃ j, k = 20 + j := ⟨k - 20, by omega⟩
  clear hk
  induction j with
  | zero => exact h
  | succ j ih => exact count_mono _ _ _ _ ih
theorem bd_in {a b c : Int} (ha : In a) (hb : In b) (hc : In c) : 0 ≤ bd a b c ∧ bd a b c ≤ 16777224 := by
  unfold In at *
  unfold bd
  omega
theorem count_s {far : Int} (f0 : 0 ≤ far) (f1 : far ≤ 100663344) (k : Nat) (hk : 20 ≤ k) : ∃ n : Int, flatten_Count.l0 k far 1 = some n ∧ 1 ≤ n ∧ n ≤ 3600 := by
  obtain ⟨n, h, n0, n1, _, _, hor⟩ := count_go f0 (by omega)
  refine ⟨n, count_le h hk, n0, ?_⟩
  rcases hor with h | h
  · omega
  · by_cases c : n ≤ 3600
    · exact c
    · have : 8 * 3600 * 3600 ≤ 8 * n * n := Int.mul_le_mul (by omega) (by omega) (by omega) (by omega)
      omega
/-- What a segment bends. -/
def far (ax ay : Int) (s : Int × Int × Int × Int × Int × Int × Int) : Int := if s.1 = 2 then bd ax s.2.1 s.2.2.2.1 + bd ay s.2.2.1 s.2.2.2.2.1 else if s.1 = 3 then 3 * mx (bd ax s.2.1 s.2.2.2.1 + bd ay s.2.2.1 s.2.2.2.2.1) (bd s.2.1 s.2.2.2.1 s.2.2.2.2.2.1 + bd s.2.2.1 s.2.2.2.2.1 s.2.2.2.2.2.2) else 0
theorem far_in {ax ay : Int} {s : Int × Int × Int × Int × Int × Int × Int} (ha : In ax) (hb : In ay) (hs : Sg s) : 0 ≤ far ax ay s ∧ far ax ay s ≤ 100663344 := by
  obtain ⟨_, s1, s2, s3, s4, s5, s6⟩ := hs
  have b1 := bd_in ha s1 s3
  have b2 := bd_in hb s2 s4
  have b3 := bd_in s1 s3 s5
  have b4 := bd_in s2 s4 s6
  unfold far mx
  split
  · omega
  · split
    · split <;> omega
    · omega
theorem count_f {ax ay : Int} {s : Int × Int × Int × Int × Int × Int × Int} (ha : In ax) (hb : In ay) (hs : Sg s) (k : Nat) : flatten_Count.f k ax ay s.1 s.2.1 s.2.2.1 s.2.2.2.1 s.2.2.2.2.1 s.2.2.2.2.2.1 s.2.2.2.2.2.2 = flatten_Count.l0 k (far ax ay s) 1 := by
  have hfar := far_in ha hb hs
  obtain ⟨hk, s1, s2, s3, s4, s5, s6⟩ := hs
  have b1 := bend_f ha.b.1 ha.b.2 hb.b.1 hb.b.2 s1.b.1 s1.b.2 s2.b.1 s2.b.2 s3.b.1 s3.b.2 s4.b.1 s4.b.2
  have b2 := bend_f s1.b.1 s1.b.2 s2.b.1 s2.b.2 s3.b.1 s3.b.2 s4.b.1 s4.b.2 s5.b.1 s5.b.2 s6.b.1 s6.b.2
  have tail : ∀ v : Int, ((some (.inr v) : Option (Int ⊕ Int)).bind fun s_ => match s_ with | .inl q330 => some q330 | .inr x321 => ((flatten_Count.l0 k x321 1 : Option (Int)).bind fun x329 => (some x329))) = flatten_Count.l0 k v 1 := by
    intro v
    simp only [Option.bind_some]
    cases flatten_Count.l0 k v 1 <;> rfl
  unfold flatten_Count.f
  unfold far at hfar ⊢
  rcases (show s.1 = 1 ∨ s.1 = 2 ∨ s.1 = 3 by omega) with h | h | h
  · rw [h, if_pos rfl, if_neg (by omega), if_neg (by omega)]
    exact tail 0
  · rw [h] at hfar ⊢
    rw [if_neg (by omega), if_pos rfl, if_pos rfl, b1]
    exact tail _
  · rw [h] at hfar ⊢
    rw [if_neg (by omega), if_pos rfl] at hfar
    rw [if_neg (by omega), if_neg (by omega), if_pos rfl, if_neg (by omega), if_pos rfl, b1, b2]
    simp only [Option.bind_some]
    rw [w64 (n := 3 * mx _ _) (by omega) (by omega)]
    cases flatten_Count.l0 k _ 1 <;> rfl
theorem down_tot (a b : Int) : ∃ v, fixed_Down.f a b = some v := by
  unfold fixed_Down.f
  by_cases h : b < 1
  · rw [if_pos h]; exact ⟨_, rfl⟩
  · rw [if_neg h, if_neg (by omega)]
    split <;> exact ⟨_, rfl⟩
theorem round_tot (a b : Int) : ∃ v, fixed_Round.f a b = some v := by
  unfold fixed_Round.f
  by_cases h : b < 1
  · rw [if_pos h]; exact ⟨_, rfl⟩
  · rw [if_neg h]
    obtain ⟨v, hv⟩ := down_tot a b
    rw [hv]
    simp only [Option.bind_some]
    split <;> exact ⟨_, rfl⟩

/-- A curve's point. -/
def pt (s : Int × Int × Int × Int × Int × Int × Int) (ax ay i n : Int) : Option (Int × Int) :=
  if s.1 = 1 then flatten_Point_v2.f ax ay s.2.1 s.2.2.1 s.2.2.2.1 s.2.2.2.2.1 s.2.2.2.2.2.1 s.2.2.2.2.2.2 i n
  else if s.1 = 2 then flatten_Point_v3.f ax ay s.2.1 s.2.2.1 s.2.2.2.1 s.2.2.2.2.1 s.2.2.2.2.2.1 s.2.2.2.2.2.2 i n
  else if s.1 = 3 then flatten_Point_v4.f ax ay s.2.1 s.2.2.1 s.2.2.2.1 s.2.2.2.2.1 s.2.2.2.2.2.1 s.2.2.2.2.2.2 i n
  else none
/-- A segment's last point. -/
def lastP (s : Int × Int × Int × Int × Int × Int × Int) : Int × Int := if s.1 = 1 then (s.2.1, s.2.2.1) else if s.1 = 2 then (s.2.2.2.1, s.2.2.2.2.1) else (s.2.2.2.2.2.1, s.2.2.2.2.2.2)
theorem lastP_in {s : Int × Int × Int × Int × Int × Int × Int} (hs : Sg s) : In (lastP s).1 ∧ In (lastP s).2 := by
  obtain ⟨hk, s1, s2, s3, s4, s5, s6⟩ := hs
  unfold lastP
  split
  · exact ⟨s1, s2⟩
  · split
    · exact ⟨s3, s4⟩
    · exact ⟨s5, s6⟩
theorem pt_tot {s : Int × Int × Int × Int × Int × Int × Int} (hs : Sg s) (ax ay i n : Int) : ∃ x y, pt s ax ay i n = some (x, y) := by
  have hk := hs.1
  unfold pt
  rcases (show s.1 = 1 ∨ s.1 = 2 ∨ s.1 = 3 by omega) with h | h | h
  · rw [if_pos h]
    unfold flatten_Point_v2.f flatten_mix_v3.f flatten_points_v2.f
    obtain ⟨u, hu⟩ := round_tot (wr64 ((wr64 ((wr64 (n - i)) * ax)) + (wr64 (i * s.2.1)))) n
    obtain ⟨v, hv⟩ := round_tot (wr64 ((wr64 ((wr64 (n - i)) * ay)) + (wr64 (i * s.2.2.1)))) n
    exact ⟨u, v, bind_of rfl (bind_of (bind_of hu rfl) (bind_of (bind_of hv rfl) rfl))⟩
  · rw [if_neg (by omega), if_pos h]
    unfold flatten_Point_v3.f flatten_mix_v4.f flatten_points_v3.f
    obtain ⟨u, hu⟩ := round_tot (wr64 ((wr64 ((wr64 ((wr64 ((wr64 (n - i)) * (wr64 (n - i)))) * ax)) + (wr64 ((wr64 ((wr64 (2 * i)) * (wr64 (n - i)))) * s.2.1)))) + (wr64 ((wr64 (i * i)) * s.2.2.2.1)))) (wr64 (n * n))
    obtain ⟨v, hv⟩ := round_tot (wr64 ((wr64 ((wr64 ((wr64 ((wr64 (n - i)) * (wr64 (n - i)))) * ay)) + (wr64 ((wr64 ((wr64 (2 * i)) * (wr64 (n - i)))) * s.2.2.1)))) + (wr64 ((wr64 (i * i)) * s.2.2.2.2.1)))) (wr64 (n * n))
    exact ⟨u, v, bind_of rfl (bind_of (bind_of hu rfl) (bind_of (bind_of hv rfl) rfl))⟩
  · rw [if_neg (by omega), if_neg (by omega), if_pos h]
    unfold flatten_Point_v4.f flatten_mix_v5.f flatten_points_v4.f
    obtain ⟨u, hu⟩ := round_tot (wr64 ((wr64 ((wr64 ((wr64 ((wr64 ((wr64 ((wr64 (n - i)) * (wr64 (n - i)))) * (wr64 (n - i)))) * ax)) + (wr64 ((wr64 ((wr64 ((wr64 (3 * i)) * (wr64 (n - i)))) * (wr64 (n - i)))) * s.2.1)))) + (wr64 ((wr64 ((wr64 ((wr64 (3 * i)) * i)) * (wr64 (n - i)))) * s.2.2.2.1)))) + (wr64 ((wr64 ((wr64 (i * i)) * i)) * s.2.2.2.2.2.1)))) (wr64 ((wr64 (n * n)) * n))
    obtain ⟨v, hv⟩ := round_tot (wr64 ((wr64 ((wr64 ((wr64 ((wr64 ((wr64 ((wr64 (n - i)) * (wr64 (n - i)))) * (wr64 (n - i)))) * ay)) + (wr64 ((wr64 ((wr64 ((wr64 (3 * i)) * (wr64 (n - i)))) * (wr64 (n - i)))) * s.2.2.1)))) + (wr64 ((wr64 ((wr64 ((wr64 (3 * i)) * i)) * (wr64 (n - i)))) * s.2.2.2.2.1)))) + (wr64 ((wr64 ((wr64 (i * i)) * i)) * s.2.2.2.2.2.2)))) (wr64 ((wr64 (n * n)) * n))
    exact ⟨u, v, bind_of rfl (bind_of (bind_of hu rfl) (bind_of (bind_of hv rfl) rfl))⟩
theorem rnd_mulself {x b : Int} (hb : 0 < b) : rnd (x * b) b = x := rnd_is hb (by omega) (by omega)
theorem pt_last {s : Int × Int × Int × Int × Int × Int × Int} (hs : Sg s) (ax ay : Int) {n : Int} (n0 : 1 ≤ n) (n1 : n ≤ 3600) : pt s ax ay n n = some (lastP s) := by
  obtain ⟨hk, s1, s2, s3, s4, s5, s6⟩ := hs
  have z : wr64 (n - n) = 0 := by rw [w64 (by omega) (by omega)]; omega
  have nn1 : n * n ≤ 3600 * 3600 := Int.mul_le_mul n1 n1 (by omega) (by omega)
  have nn0 : 1 ≤ n * n := Int.mul_le_mul n0 n0 (by omega) (by omega)
  have nnn1 : n * n * n ≤ 3600 * 3600 * 3600 := Int.mul_le_mul nn1 n1 (by omega) (by omega)
  have nnn0 : 1 ≤ n * n * n := Int.mul_le_mul nn0 n0 (by omega) (by omega)
  have w0 : wr64 0 = 0 := w64 (by omega) (by omega)
  have one : ∀ {m c : Int}, 1 ≤ m → m ≤ 46656000000 → In c → fixed_Round.f (wr64 (m * c)) m = some c := by
    intro m c m0 m1 hc
    have hb := mul_bd (M := 46656000000) (N := 4194306) (x := m) (y := c) (by omega) m1 (by unfold In at hc; omega) (by unfold In at hc; omega)
    rw [w64 (n := m * c) (by omega) (by omega), round_f (by omega) (by omega) (by omega) (by omega), Int.mul_comm, rnd_mulself (by omega)]
  unfold pt lastP
  rcases (show s.1 = 1 ∨ s.1 = 2 ∨ s.1 = 3 by omega) with h | h | h
  · rw [if_pos h, if_pos h]
    unfold flatten_Point_v2.f flatten_mix_v3.f flatten_points_v2.f
    have e : ∀ a c : Int, In c → fixed_Round.f (wr64 ((wr64 ((wr64 (n - n)) * a)) + (wr64 (n * c)))) n = some c := by
      intro a c hc
      have hb := mul_bd (M := 3600) (N := 4194306) (x := n) (y := c) (by omega) n1 (by unfold In at hc; omega) (by unfold In at hc; omega)
      rw [z, Int.zero_mul, w0, Int.zero_add, w64 (n := n * c) (by omega) (by omega)]
      exact one n0 (by omega) hc
    exact bind_of rfl (bind_of (bind_of (e ax _ s1) rfl) (bind_of (bind_of (e ay _ s2) rfl) rfl))
  · rw [if_neg (by omega), if_pos h, if_neg (by omega), if_pos h]
    unfold flatten_Point_v3.f flatten_mix_v4.f flatten_points_v3.f
    have e : ∀ a b c : Int, In c → fixed_Round.f (wr64 ((wr64 ((wr64 ((wr64 ((wr64 (n - n)) * (wr64 (n - n)))) * a)) + (wr64 ((wr64 ((wr64 (2 * n)) * (wr64 (n - n)))) * b)))) + (wr64 ((wr64 (n * n)) * c)))) (wr64 (n * n)) = some c := by
      intro a b c hc
      have hb := mul_bd (M := 12960000) (N := 4194306) (x := n * n) (y := c) (by omega) nn1 (by unfold In at hc; omega) (by unfold In at hc; omega)
      rw [z]
      simp only [Int.zero_mul, Int.mul_zero, w0, Int.zero_add]
      rw [w64 (n := n * n) (by omega) (by omega), w64 (n := n * n * c) (by omega) (by omega)]
      exact one nn0 (by omega) hc
    exact bind_of rfl (bind_of (bind_of (e ax s.2.1 _ s3) rfl) (bind_of (bind_of (e ay s.2.2.1 _ s4) rfl) rfl))
  · rw [if_neg (by omega), if_neg (by omega), if_pos h, if_neg (by omega), if_neg (by omega)]
    unfold flatten_Point_v4.f flatten_mix_v5.f flatten_points_v4.f
    have e : ∀ a b c d : Int, In d → fixed_Round.f (wr64 ((wr64 ((wr64 ((wr64 ((wr64 ((wr64 ((wr64 (n - n)) * (wr64 (n - n)))) * (wr64 (n - n)))) * a)) + (wr64 ((wr64 ((wr64 ((wr64 (3 * n)) * (wr64 (n - n)))) * (wr64 (n - n)))) * b)))) + (wr64 ((wr64 ((wr64 ((wr64 (3 * n)) * n)) * (wr64 (n - n)))) * c)))) + (wr64 ((wr64 ((wr64 (n * n)) * n)) * d)))) (wr64 ((wr64 (n * n)) * n)) = some d := by
      intro a b c d hc
      have hb := mul_bd (M := 46656000000) (N := 4194306) (x := n * n * n) (y := d) (by omega) nnn1 (by unfold In at hc; omega) (by unfold In at hc; omega)
      rw [z]
      simp only [Int.zero_mul, Int.mul_zero, w0, Int.zero_add]
      rw [w64 (n := n * n) (by omega) (by omega), w64 (n := n * n * n) (by omega) (by omega), w64 (n := n * n * n * d) (by omega) (by omega)]
      exact one nnn0 (by omega) hc
    exact bind_of rfl (bind_of (bind_of (e ax s.2.1 s.2.2.2.1 _ s5) rfl) (bind_of (bind_of (e ay s.2.2.1 s.2.2.2.2.1 _ s6) rfl) rfl))
/-- One edge more, if it has a length. -/
def put (y : List (Int × Int × Int × Int)) (ax ay bx by_ : Int) : List (Int × Int × Int × Int) := if ax = bx ∧ ay = by_ then y else y ++ [(ax, ay, bx, by_)]
theorem put_f {y : List (Int × Int × Int × Int)} (ax ay bx by_ : Int) (hy : y.length ≤ 1000000) : flatten_Path_1_v2.f bx by_ ax ay y = some (put y ax ay bx by_, bx, by_) := by
  unfold flatten_Path_1_v2.f put
  by_cases h : ax = bx ∧ ay = by_
  · rw [if_pos (by simp [h.1, h.2]), if_pos h]
  · rw [if_neg (by simpa using h), if_neg h]
    exact bind_of (lapp_ok (by simp; omega)) rfl
theorem put_len (y : List (Int × Int × Int × Int)) (ax ay bx by_ : Int) : (put y ax ay bx by_).length ≤ y.length + 1 := by
  unfold put
  split <;> simp
theorem pl_step {s : Int × Int × Int × Int × Int × Int × Int} (hs : Sg s) (k : Nat) (fx fy n i : Int) (y : List (Int × Int × Int × Int)) (ax ay bx by_ : Int) (hi : i ≤ n) (hy : y.length ≤ 1000000) (hp : pt s fx fy i n = some (bx, by_)) :
    flatten_Path_v2.l1 (k + 1) s.1 s.2.1 s.2.2.1 s.2.2.2.1 s.2.2.2.2.1 s.2.2.2.2.2.1 s.2.2.2.2.2.2 fx fy n i y ax ay = flatten_Path_v2.l1 k s.1 s.2.1 s.2.2.1 s.2.2.2.1 s.2.2.2.2.1 s.2.2.2.2.2.1 s.2.2.2.2.2.2 fx fy n (wr64 (i + 1)) (put y ax ay bx by_) bx by_ := by
  have hk := hs.1
  rw [flatten_Path_v2.l1, if_pos hi]
  unfold pt at hp
  rcases (show s.1 = 1 ∨ s.1 = 2 ∨ s.1 = 3 by omega) with h | h | h
  · rw [if_pos h] at hp ⊢
    exact bind_of hp (bind_of (put_f _ _ _ _ hy) rfl)
  · rw [if_neg (by omega), if_pos h] at hp ⊢
    exact bind_of hp (bind_of (put_f _ _ _ _ hy) rfl)
  · rw [if_neg (by omega), if_neg (by omega), if_pos h] at hp ⊢
    exact bind_of hp (bind_of (put_f _ _ _ _ hy) rfl)
theorem pl_end (k : Nat) (fx fy c d0 d1 d2 d3 d4 d5 n i : Int) (y : List (Int × Int × Int × Int)) (ax ay : Int) (hi : n < i) : flatten_Path_v2.l1 (k + 1) c d0 d1 d2 d3 d4 d5 fx fy n i y ax ay = some (ax, ay, y) := by
  rw [flatten_Path_v2.l1, if_neg (by omega)]

theorem wr_mod (a : Int) : wr64 a % 18446744073709551616 = a % 18446744073709551616 := by
  rw [wr64_eq]
  omega
theorem wr_congr {a b : Int} (h : a % 18446744073709551616 = b % 18446744073709551616) : wr64 a = wr64 b := by
  rw [wr64_eq, wr64_eq]
  omega
theorem wr_mul1 (a b : Int) : wr64 (wr64 a * b) = wr64 (a * b) := wr_congr (by rw [Int.mul_emod, wr_mod, ← Int.mul_emod])
theorem wr_mul2 (a b : Int) : wr64 (a * wr64 b) = wr64 (a * b) := wr_congr (by rw [Int.mul_emod, wr_mod, ← Int.mul_emod])
theorem wr_add1 (a b : Int) : wr64 (wr64 a + b) = wr64 (a + b) := wr_congr (by rw [Int.add_emod, wr_mod, ← Int.add_emod])
theorem wr_add2 (a b : Int) : wr64 (a + wr64 b) = wr64 (a + b) := wr_congr (by rw [Int.add_emod, wr_mod, ← Int.add_emod])
theorem down_eq : glyphicref1_Down.f = fixed_Down.f := by
  funext a b
  unfold glyphicref1_Down.f fixed_Down.f
  rfl
theorem round_eq : glyphicref1_Round.f = fixed_Round.f := by
  funext a b
  unfold glyphicref1_Round.f fixed_Round.f
  rw [down_eq]

theorem comb2 {R Kn r t X G0 G1 : Int} (hR : 0 < R) (hK : 0 < Kn) (hr : 0 < r) (t0 : 0 ≤ t) (t1 : t ≤ r) (d : r * X - (r - t) * (R * G0) - t * (R * G1) ≤ 8 * (r * (R * Kn)) ∧ -(8 * (r * (R * Kn))) ≤ r * X - (r - t) * (R * G0) - t * (R * G1)) :
    -(9 * r) ≤ r * rnd X (R * Kn) - (r - t) * rnd G0 Kn - t * rnd G1 Kn ∧ r * rnd X (R * Kn) - (r - t) * rnd G0 Kn - t * rnd G1 Kn ≤ 9 * r := by
  have hM : 0 < R * Kn := Int.mul_pos hR hK
  have x := rnd_in X hM
  have y := rnd_in G0 hK
  have z := rnd_in G1 hK
  generalize rnd X (R * Kn) = p at *
  generalize rnd G0 Kn = u at *
  generalize rnd G1 Kn = v at *
  have y1 := Int.mul_le_mul_of_nonneg_left y.1 (show 0 ≤ R by omega)
  have y2 := Int.mul_le_mul_of_nonneg_left (show 2 * G0 ≤ 2 * (u * Kn) + Kn by omega) (show 0 ≤ R by omega)
  have z1 := Int.mul_le_mul_of_nonneg_left z.1 (show 0 ≤ R by omega)
  have z2 := Int.mul_le_mul_of_nonneg_left (show 2 * G1 ≤ 2 * (v * Kn) + Kn by omega) (show 0 ≤ R by omega)
  exact comb (X := X) (X0 := R * G0) (X1 := R * G1) hM hr t0 t1 (by grind) (by grind) (by grind) (by grind) (by grind) (by grind) d.1 d.2
def G (k a b c d i n : Int) : Int := if k = 1 then g1 a b i n else if k = 2 then g2 a b c i n else g3 a b c d i n
def K (k n : Int) : Int := if k = 1 then n else if k = 2 then n * n else n * n * n
theorem close1 {k a b c d n r j t M : Int} (hk : 1 ≤ k ∧ k ≤ 3) (hr : 0 < r) (hn : 0 < n) (t0 : 0 ≤ t) (t1 : t ≤ r) (j0 : 0 ≤ j) (j1 : j + 1 ≤ n) (h2 : k = 2 → -(32 * n * n) ≤ a - 2 * b + c ∧ a - 2 * b + c ≤ 32 * n * n) (h3 : k = 3 → 0 ≤ M ∧ 3 * M ≤ 32 * n * n ∧ (-M ≤ a - 2 * b + c ∧ a - 2 * b + c ≤ M) ∧ (-M ≤ b - 2 * c + d ∧ b - 2 * c + d ≤ M)) :
    -(9 * r) ≤ r * rnd (G k a b c d (j * r + t) (n * r)) (K k (n * r)) - (r - t) * rnd (G k a b c d j n) (K k n) - t * rnd (G k a b c d (j + 1) n) (K k n) ∧ r * rnd (G k a b c d (j * r + t) (n * r)) (K k (n * r)) - (r - t) * rnd (G k a b c d j n) (K k n) - t * rnd (G k a b c d (j + 1) n) (K k n) ≤ 9 * r := by
  have rr : 0 < r * r := Int.mul_pos hr hr
  have nn : 0 < n * n := Int.mul_pos hn hn
  unfold G K
  rcases (show k = 1 ∨ k = 2 ∨ k = 3 by omega) with h | h | h
  · simp only [h, if_true]
    rw [Int.mul_comm n r]
    have e := dev1 a b n r j t
    rw [Int.mul_comm n r] at e
    have hM : 0 < r * n := Int.mul_pos hr hn
    have hM2 : 0 < r * (r * n) := Int.mul_pos hr hM
    exact comb2 hr hn hr t0 t1 (by omega)
  · simp only [h, Int.reduceEq, if_true, if_false]
    have e := dev2 (a := a) (b := b) (c := c) (n := n) (j := j) hr t0 t1 (h2 h)
    rw [show n * r * (n * r) = r * r * (n * n) by grind]
    exact comb2 rr nn hr t0 t1 e
  · simp only [h, Int.reduceEq, if_false]
    obtain ⟨m0, m1, m2, m3⟩ := h3 h
    have e := dev3 (a := a) (b := b) (c := c) (d := d) (n := n) (j := j) hr hn t0 t1 j0 j1 m0 m1 m2 m3
    rw [show n * r * (n * r) * (n * r) = r * r * r * (n * n * n) by grind]
    exact comb2 (Int.mul_pos rr hr) (Int.mul_pos nn hn) hr t0 t1 e
theorem G_le {k a b c d i n B : Int} (i0 : 0 ≤ i) (i1 : i ≤ n) (ha : a ≤ B) (hb : b ≤ B) (hc : c ≤ B) (hd : d ≤ B) : G k a b c d i n ≤ B * K k n := by
  have j0 : 0 ≤ n - i := by omega
  have ii := Int.mul_nonneg i0 i0
  have ij := Int.mul_nonneg i0 j0
  have jj := Int.mul_nonneg j0 j0
  unfold G K
  split
  · have a1 := Int.mul_le_mul_of_nonneg_left ha j0
    have a2 := Int.mul_le_mul_of_nonneg_left hb i0
    unfold g1
    grind
  · split
    · have a1 := Int.mul_le_mul_of_nonneg_left ha jj
      have a2 := Int.mul_le_mul_of_nonneg_left hb ij
      have a3 := Int.mul_le_mul_of_nonneg_left hc ii
      unfold g2
      grind
    · have a1 := Int.mul_le_mul_of_nonneg_left ha (Int.mul_nonneg jj j0)
      have a2 := Int.mul_le_mul_of_nonneg_left hb (Int.mul_nonneg ij j0)
      have a3 := Int.mul_le_mul_of_nonneg_left hc (Int.mul_nonneg ii j0)
      have a4 := Int.mul_le_mul_of_nonneg_left hd (Int.mul_nonneg ii i0)
      unfold g3
      grind
theorem G_neg (k a b c d i n : Int) : G k (-a) (-b) (-c) (-d) i n = -G k a b c d i n := by
  unfold G g1 g2 g3
  split
  · grind
  · split <;> grind
theorem K_pos {k n : Int} (hn : 0 < n) : 0 < K k n := by
  unfold K
  have nn := Int.mul_pos hn hn
  split
  · exact hn
  · split
    · exact nn
    · exact Int.mul_pos nn hn
theorem K_le {k n : Int} (hn : 0 < n) (h : n ≤ 512) : K k n ≤ 134217728 := by
  have nn : n * n ≤ 512 * 512 := Int.mul_le_mul h h (by omega) (by omega)
  have nnn : n * n * n ≤ 512 * 512 * 512 := Int.mul_le_mul nn h (by omega) (by omega)
  unfold K
  split
  · omega
  · split <;> omega
theorem G_in {k a b c d i n : Int} (i0 : 0 ≤ i) (i1 : i ≤ n) (ha : In a) (hb : In b) (hc : In c) (hd : In d) : -(4194305 * K k n) ≤ G k a b c d i n ∧ G k a b c d i n ≤ 4194305 * K k n := by
  unfold In at *
  have h1 := G_le (k := k) (a := a) (b := b) (c := c) (d := d) (B := 4194305) i0 i1 (by omega) (by omega) (by omega) (by omega)
  have h2 := G_le (k := k) (a := -a) (b := -b) (c := -c) (d := -d) (B := 4194305) i0 i1 (by omega) (by omega) (by omega) (by omega)
  rw [G_neg] at h2
  omega
theorem R_in {k a b c d i n : Int} (hn : 0 < n) (i0 : 0 ≤ i) (i1 : i ≤ n) (ha : In a) (hb : In b) (hc : In c) (hd : In d) : -4194305 ≤ rnd (G k a b c d i n) (K k n) ∧ rnd (G k a b c d i n) (K k n) ≤ 4194305 := by
  have h := G_in (k := k) i0 i1 ha hb hc hd
  have kp := K_pos (k := k) hn
  have m1 := rnd_mono kp h.2
  have m2 := rnd_mono kp h.1
  rw [show -(4194305 * K k n) = (-4194305) * K k n by omega] at m2
  rw [rnd_mulself kp] at m1 m2
  exact ⟨m2, m1⟩
theorem G_0 (k a b c d n : Int) : G k a b c d 0 n = a * K k n := by
  unfold G K g1 g2 g3
  split
  · grind
  · split <;> grind
abbrev Sgm := Int × Int × Int × Int × Int × Int × Int
/-- A curve's points, nearest. -/
def row (s : Sgm) (ax ay n i : Int) : Int × Int := (rnd (G s.1 ax s.2.1 s.2.2.2.1 s.2.2.2.2.2.1 i n) (K s.1 n), rnd (G s.1 ay s.2.2.1 s.2.2.2.2.1 s.2.2.2.2.2.2 i n) (K s.1 n))
theorem pt_row {s : Sgm} (hs : Sg s) {ax ay i n : Int} (ha : In ax) (hb : In ay) (n0 : 0 < n) (n1 : n ≤ 512) (i0 : 0 ≤ i) (i1 : i ≤ n) : pt s ax ay i n = some (row s ax ay n i) := by
  obtain ⟨hk, s1, s2, s3, s4, s5, s6⟩ := hs
  have x := G_in (k := s.1) i0 i1 ha s1 s3 s5
  have y := G_in (k := s.1) i0 i1 hb s2 s4 s6
  have k0 := K_pos (k := s.1) n0
  have k1 := K_le (k := s.1) n0 n1
  have e1 : fixed_Round.f (wr64 (G s.1 ax s.2.1 s.2.2.2.1 s.2.2.2.2.2.1 i n)) (wr64 (K s.1 n)) = some (row s ax ay n i).1 := by
    rw [w64 (n := G _ _ _ _ _ _ _) (by omega) (by omega), w64 (n := K _ _) (by omega) (by omega), round_f (by omega) (by omega) (by omega) (by omega)]
    rfl
  have e2 : fixed_Round.f (wr64 (G s.1 ay s.2.2.1 s.2.2.2.2.1 s.2.2.2.2.2.2 i n)) (wr64 (K s.1 n)) = some (row s ax ay n i).2 := by
    rw [w64 (n := G _ _ _ _ _ _ _) (by omega) (by omega), w64 (n := K _ _) (by omega) (by omega), round_f (by omega) (by omega) (by omega) (by omega)]
    rfl
  generalize row s ax ay n i = q at *
  clear x y k0 k1
  unfold pt
  rcases (show s.1 = 1 ∨ s.1 = 2 ∨ s.1 = 3 by omega) with h | h | h
  · rw [if_pos h]
    simp only [h, G, K, if_true, g1] at e1 e2
    rw [w64 (n := n) (by omega) (by omega)] at e1 e2
    unfold flatten_Point_v2.f flatten_mix_v3.f flatten_points_v2.f
    simp only [wr_mul1, wr_add1, wr_add2]
    exact bind_of rfl (bind_of (bind_of e1 rfl) (bind_of (bind_of e2 rfl) rfl))
  · rw [if_neg (by omega), if_pos h]
    simp only [h, G, K, if_true, if_false, Int.reduceEq, g2] at e1 e2
    unfold flatten_Point_v3.f flatten_mix_v4.f flatten_points_v3.f
    simp only [wr_mul1, wr_mul2, wr_add1, wr_add2]
    exact bind_of rfl (bind_of (bind_of e1 rfl) (bind_of (bind_of e2 rfl) rfl))
  · rw [if_neg (by omega), if_neg (by omega), if_pos h]
    simp only [h, G, K, if_false, Int.reduceEq, g3] at e1 e2
    unfold flatten_Point_v4.f flatten_mix_v5.f flatten_points_v4.f
    simp only [wr_mul1, wr_mul2, wr_add1, wr_add2]
    exact bind_of rfl (bind_of (bind_of e1 rfl) (bind_of (bind_of e2 rfl) rfl))
theorem row_0 (s : Sgm) (ax ay : Int) {n : Int} (n0 : 0 < n) : row s ax ay n 0 = (ax, ay) := by
  unfold row
  rw [G_0, G_0, rnd_mulself (K_pos n0), rnd_mulself (K_pos n0)]
theorem row_in {s : Sgm} (hs : Sg s) {ax ay i n : Int} (ha : In ax) (hb : In ay) (n0 : 0 < n) (i0 : 0 ≤ i) (i1 : i ≤ n) : (-4194305 ≤ (row s ax ay n i).1 ∧ (row s ax ay n i).1 ≤ 4194305) ∧ -4194305 ≤ (row s ax ay n i).2 ∧ (row s ax ay n i).2 ≤ 4194305 := by
  obtain ⟨hk, s1, s2, s3, s4, s5, s6⟩ := hs
  exact ⟨R_in n0 i0 i1 ha s1 s3 s5, R_in n0 i0 i1 hb s2 s4 s6⟩
/-- The curve's point is near the chord of its part. -/
theorem row_close {s : Sgm} (hs : Sg s) {ax ay n r j t : Int} (hr : 0 < r) (hn : 0 < n) (hc : far ax ay s ≤ 32 * n * n) (t0 : 0 ≤ t) (t1 : t ≤ r) (j0 : 0 ≤ j) (j1 : j + 1 ≤ n) :
    (-(9 * r) ≤ r * (row s ax ay (n * r) (j * r + t)).1 - (r - t) * (row s ax ay n j).1 - t * (row s ax ay n (j + 1)).1 ∧ r * (row s ax ay (n * r) (j * r + t)).1 - (r - t) * (row s ax ay n j).1 - t * (row s ax ay n (j + 1)).1 ≤ 9 * r) ∧
    (-(9 * r) ≤ r * (row s ax ay (n * r) (j * r + t)).2 - (r - t) * (row s ax ay n j).2 - t * (row s ax ay n (j + 1)).2 ∧ r * (row s ax ay (n * r) (j * r + t)).2 - (r - t) * (row s ax ay n j).2 - t * (row s ax ay n (j + 1)).2 ≤ 9 * r) := by
  have hk := hs.1
  unfold far bd mx at hc
  constructor
  · refine close1 (M := max (bd ax s.2.1 s.2.2.2.1) (bd s.2.1 s.2.2.2.1 s.2.2.2.2.2.1)) hk hr hn t0 t1 j0 j1 ?_ ?_
    · intro h
      rw [if_pos h] at hc
      omega
    · intro h
      rw [if_neg (by omega), if_pos h] at hc
      unfold bd
      split at hc <;> omega
  · refine close1 (M := max (bd ay s.2.2.1 s.2.2.2.2.1) (bd s.2.2.1 s.2.2.2.2.1 s.2.2.2.2.2.2)) hk hr hn t0 t1 j0 j1 ?_ ?_
    · intro h
      rw [if_pos h] at hc
      omega
    · intro h
      rw [if_neg (by omega), if_pos h] at hc
      unfold bd
      split at hc <;> omega

theorem rnd_G {k a b c d i n : Int} (n0 : 0 < n) (n1 : n ≤ 512) (i0 : 0 ≤ i) (i1 : i ≤ n) (ha : In a) (hb : In b) (hc : In c) (hd : In d) : glyphicref1_Round.f (wr64 (G k a b c d i n)) (K k n) = some (rnd (G k a b c d i n) (K k n)) := by
  have x := G_in (k := k) i0 i1 ha hb hc hd
  have k0 := K_pos (k := k) n0
  have k1 := K_le (k := k) n0 n1
  rw [round_eq, w64 (n := G _ _ _ _ _ _ _) (by omega) (by omega), round_f (by omega) (by omega) (by omega) (by omega)]
theorem cv1 {s : Sgm} (hs : Sg s) {ax ay i : Int} (ha : In ax) (hb : In ay) (i0 : 0 ≤ i) (i1 : i ≤ 512) (h : s.1 = 1) : glyphiclaw21_curve_v1.f ax ay s.2.1 s.2.2.1 s.2.2.2.1 s.2.2.2.2.1 s.2.2.2.2.2.1 s.2.2.2.2.2.2 i = some (row s ax ay 512 i) := by
  obtain ⟨hk, s1, s2, s3, s4, s5, s6⟩ := hs
  have e1 := rnd_G (k := s.1) (n := 512) (by omega) (by omega) i0 i1 ha s1 s3 s5
  have e2 := rnd_G (k := s.1) (n := 512) (by omega) (by omega) i0 i1 hb s2 s4 s6
  unfold row
  generalize rnd (G s.1 ax s.2.1 s.2.2.2.1 s.2.2.2.2.2.1 i 512) (K s.1 512) = u at *
  generalize rnd (G s.1 ay s.2.2.1 s.2.2.2.2.1 s.2.2.2.2.2.2 i 512) (K s.1 512) = v at *
  simp only [h, G, K, if_true, g1] at e1 e2
  unfold glyphiclaw21_curve_v1.f
  simp only [wr_mul1, wr_add1, wr_add2, Int.zero_add, Int.one_mul]
  exact bind_of e1 (bind_of e2 rfl)
theorem cv2 {s : Sgm} (hs : Sg s) {ax ay i : Int} (ha : In ax) (hb : In ay) (i0 : 0 ≤ i) (i1 : i ≤ 512) (h : s.1 = 2) : glyphiclaw21_curve_v2.f ax ay s.2.1 s.2.2.1 s.2.2.2.1 s.2.2.2.2.1 s.2.2.2.2.2.1 s.2.2.2.2.2.2 i = some (row s ax ay 512 i) := by
  obtain ⟨hk, s1, s2, s3, s4, s5, s6⟩ := hs
  have e1 := rnd_G (k := s.1) (n := 512) (by omega) (by omega) i0 i1 ha s1 s3 s5
  have e2 := rnd_G (k := s.1) (n := 512) (by omega) (by omega) i0 i1 hb s2 s4 s6
  unfold row
  generalize rnd (G s.1 ax s.2.1 s.2.2.2.1 s.2.2.2.2.2.1 i 512) (K s.1 512) = u at *
  generalize rnd (G s.1 ay s.2.2.1 s.2.2.2.2.1 s.2.2.2.2.2.2 i 512) (K s.1 512) = v at *
  simp only [h, G, K, if_true, if_false, Int.reduceEq, g2, Int.reduceMul] at e1 e2
  unfold glyphiclaw21_curve_v2.f
  simp only [wr_mul1, wr_add1, wr_add2, wr_mul2, Int.zero_add, Int.one_mul]
  exact bind_of e1 (bind_of e2 rfl)
theorem cv3 {s : Sgm} (hs : Sg s) {ax ay i : Int} (ha : In ax) (hb : In ay) (i0 : 0 ≤ i) (i1 : i ≤ 512) (h : s.1 = 3) : glyphiclaw21_curve_v3.f ax ay s.2.1 s.2.2.1 s.2.2.2.1 s.2.2.2.2.1 s.2.2.2.2.2.1 s.2.2.2.2.2.2 i = some (row s ax ay 512 i) := by
  obtain ⟨hk, s1, s2, s3, s4, s5, s6⟩ := hs
  have e1 := rnd_G (k := s.1) (n := 512) (by omega) (by omega) i0 i1 ha s1 s3 s5
  have e2 := rnd_G (k := s.1) (n := 512) (by omega) (by omega) i0 i1 hb s2 s4 s6
  unfold row
  generalize rnd (G s.1 ax s.2.1 s.2.2.2.1 s.2.2.2.2.2.1 i 512) (K s.1 512) = u at *
  generalize rnd (G s.1 ay s.2.2.1 s.2.2.2.2.1 s.2.2.2.2.2.2 i 512) (K s.1 512) = v at *
  simp only [h, G, K, if_false, Int.reduceEq, g3, Int.reduceMul] at e1 e2
  unfold glyphiclaw21_curve_v3.f
  simp only [wr_mul1, wr_add1, wr_add2, wr_mul2, Int.zero_add, Int.one_mul]
  exact bind_of e1 (bind_of e2 rfl)
abbrev Edg := Int × Int × Int × Int
/-- The edges so far show each point so far. -/
def Inv (f : Nat → Int × Int) (m : Nat) (y : List Edg) : Prop := (y = [] → ∀ a, a ≤ m → f a = f 0) ∧ (y ≠ [] → ∀ a, a ≤ m → ∃ e ∈ y, (e.1, e.2.1) = f a ∨ e.2.2 = f a) ∧ (∀ a, a < m → f a ≠ f (a + 1) → ((f a).1, (f a).2, f (a + 1)) ∈ y) ∧ (∀ e ∈ y, ∃ a b, a ≤ m ∧ b ≤ m ∧ (e.1, e.2.1) = f a ∧ e.2.2 = f b)
theorem inv_put {f : Nat → Int × Int} {m : Nat} {y : List Edg} (h : Inv f m y) : Inv f (m + 1) (put y (f m).1 (f m).2 (f (m + 1)).1 (f (m + 1)).2) := by
  obtain ⟨h1, h2, h3, h4⟩ := h
  unfold put
  by_cases c : (f m).1 = (f (m + 1)).1 ∧ (f m).2 = (f (m + 1)).2
  · rw [if_pos c]
    have e : f (m + 1) = f m := by rw [Prod.ext_iff]; exact ⟨c.1.symm, c.2.symm⟩
    refine ⟨fun q a ha => ?_, fun q a ha => ?_, fun a ha hne => ?_, fun x hx => ?_⟩
    · rcases (show a ≤ m ∨ a = m + 1 by omega) with g | g
      · exact h1 q a g
      · rw [g, e]; exact h1 q m (by omega)
    · rcases (show a ≤ m ∨ a = m + 1 by omega) with g | g
      · exact h2 q a g
      · rw [g, e]; exact h2 q m (by omega)
    · rcases (show a < m ∨ a = m by omega) with g | g
      · exact h3 a g hne
      · subst g
        exact absurd e.symm hne
    · obtain ⟨a, b, g1, g2, g3, g4⟩ := h4 x hx
      exact ⟨a, b, by omega, by omega, g3, g4⟩
  · rw [if_neg c]
    have mem : ((f m).1, (f m).2, (f (m + 1)).1, (f (m + 1)).2) ∈ y ++ [((f m).1, (f m).2, (f (m + 1)).1, (f (m + 1)).2)] := by simp
    refine ⟨fun q => by simp at q, fun q a ha => ?_, fun a ha hne => ?_, fun x hx => ?_⟩
    · rcases (show a ≤ m ∨ a = m + 1 by omega) with g | g
      · by_cases hy : y = []
        · exact ⟨_, mem, Or.inl (by show f m = f a; rw [h1 hy a g, h1 hy m (by omega)])⟩
        · obtain ⟨x, hx, hxa⟩ := h2 hy a g
          exact ⟨x, List.mem_append_left _ hx, hxa⟩
      · subst g
        exact ⟨_, mem, Or.inr rfl⟩
    · rcases (show a < m ∨ a = m by omega) with g | g
      · exact List.mem_append_left _ (h3 a g hne)
      · subst g
        exact mem
    · rcases List.mem_append.1 hx with g | g
      · obtain ⟨a, b, g1, g2, g3, g4⟩ := h4 x g
        exact ⟨a, b, by omega, by omega, g3, g4⟩
      · obtain rfl := List.mem_singleton.1 g
        exact ⟨m, m + 1, by omega, by omega, rfl, rfl⟩
theorem inv_0 (f : Nat → Int × Int) : Inv f 0 [] := ⟨fun _ a ha => by rw [show a = 0 by omega], fun h => absurd rfl h, fun a ha => by omega, fun e he => by simp at he⟩
theorem row_l {s : Sgm} (hs : Sg s) {ax ay : Int} (ha : In ax) (hb : In ay) {n : Nat} (n0 : 1 ≤ n) (n1 : n ≤ 512) : ∀ (m i k : Nat) (y : List Edg), n - i = m → i ≤ n → m < k → y.length ≤ i → Inv (fun a => row s ax ay n (a : Nat)) i y →
    ∃ L u v, flatten_Path_v2.l1 k s.1 s.2.1 s.2.2.1 s.2.2.2.1 s.2.2.2.2.1 s.2.2.2.2.2.1 s.2.2.2.2.2.2 ax ay n ((i : Int) + 1) y (row s ax ay n (i : Nat)).1 (row s ax ay n (i : Nat)).2 = some (u, v, L) ∧ Inv (fun a => row s ax ay n (a : Nat)) n L ∧ L.length ≤ n
  | 0, i, k, y, hm, hi, hk, hy, hv => by
    obtain ⟨k, rfl⟩ : ∃ m, k = m + 1 := ⟨k - 1, by omega⟩
    obtain rfl : i = n := by omega
    exact ⟨y, _, _, pl_end _ _ _ _ _ _ _ _ _ _ _ _ _ _ _ (by omega), hv, by omega⟩
  | m + 1, i, k, y, hm, hi, hk, hy, hv => by
    obtain ⟨k, rfl⟩ : ∃ m, k = m + 1 := ⟨k - 1, by omega⟩
    have hp := pt_row hs (i := (i : Int) + 1) (n := n) ha hb (by omega) (by omega) (by omega) (by omega)
    have hlen := put_len y (row s ax ay n (i : Nat)).1 (row s ax ay n (i : Nat)).2 (row s ax ay n ((i + 1 : Nat) : Int)).1 (row s ax ay n ((i + 1 : Nat) : Int)).2
    obtain ⟨L, u, v, h1, h2, h3⟩ := row_l hs ha hb n0 n1 m (i + 1) k _ (by omega) (by omega) (by omega) (by omega) (inv_put hv)
    refine ⟨L, u, v, ?_, h2, h3⟩
    rw [pl_step hs k ax ay n ((i : Int) + 1) y _ _ (row s ax ay n ((i : Int) + 1)).1 (row s ax ay n ((i : Int) + 1)).2 (by omega) (by omega) hp, w64 (n := (i : Int) + 1 + 1) (by omega) (by omega)]
    exact h1
theorem count_pow {far : Int} (hf : far ≤ 8388608) : ∀ (e k : Nat) (n : Int), e < k → 1 ≤ n → n * ((2 ^ e : Nat) : Int) = 512 → ∃ n' r : Int, flatten_Count.l0 k far n = some n' ∧ 1 ≤ n' ∧ 1 ≤ r ∧ n' * r = 512 ∧ far ≤ 32 * n' * n'
  | e, k, n, hk, hn, he => by
    obtain ⟨k, rfl⟩ : ∃ m, k = m + 1 := ⟨k - 1, by omega⟩
    have p : 1 ≤ 2 ^ e := Nat.one_le_two_pow
    have n5 : n * 1 ≤ n * ((2 ^ e : Nat) : Int) := Int.mul_le_mul_of_nonneg_left (by omega) (by omega)
    have nn := mul_bd (M := 512) (N := 512) (x := n) (y := n) (by omega) (by omega) (by omega) (by omega)
    have e32 : 32 * n * n = 32 * (n * n) := by grind
    rw [flatten_Count.l0, w64 (n := 32 * n) (by omega) (by omega), w64 (n := 32 * n * n) (by omega) (by omega)]
    by_cases c : far > 32 * n * n
    · rw [if_pos c]
      cases e with
      | zero =>
        have : n = 512 := by simpa using he
        subst this
        omega
      | succ e =>
        have w : wr64 (n * 2) = n * 2 := w64 (by omega) (by omega)
        have w' : wr64 (2 * n) = n * 2 := by rw [Int.mul_comm 2 n, w]
        first | rw [w] | rw [w']
        exact count_pow hf e k (n * 2) (by omega) (by omega) (by rw [← he, Nat.pow_succ]; push_cast; grind)
    · rw [if_neg c]
      exact ⟨n, _, rfl, hn, by omega, he, by omega⟩
def Sm (a : Int) : Prop := -131072 ≤ a ∧ a ≤ 131072
theorem Sm.i {a : Int} (h : Sm a) : In a := by unfold Sm at h; unfold In; omega
def Ss (s : Sgm) : Prop := (1 ≤ s.1 ∧ s.1 ≤ 3) ∧ Sm s.2.1 ∧ Sm s.2.2.1 ∧ Sm s.2.2.2.1 ∧ Sm s.2.2.2.2.1 ∧ Sm s.2.2.2.2.2.1 ∧ Sm s.2.2.2.2.2.2
theorem Ss.i {s : Sgm} (h : Ss s) : Sg s := ⟨h.1, h.2.1.i, h.2.2.1.i, h.2.2.2.1.i, h.2.2.2.2.1.i, h.2.2.2.2.2.1.i, h.2.2.2.2.2.2.i⟩
theorem far_sm {s : Sgm} (h : Ss s) {ax ay : Int} (ha : Sm ax) (hb : Sm ay) : far ax ay s ≤ 8388608 := by
  obtain ⟨hk, s1, s2, s3, s4, s5, s6⟩ := h
  unfold Sm at *
  unfold far bd mx
  split
  · omega
  · split
    · split <;> omega
    · omega
/-- The walk over a curve. -/
theorem path_near {s : Sgm} (h : Ss s) {ax ay i : Int} (ha : Sm ax) (hb : Sm ay) (i0 : 0 ≤ i) (i1 : i ≤ 512) (k : Nat) (hk : 2000 ≤ k) :
    ∃ L, flatten_Path_v2.f k ax ay false false s.1 s.2.1 s.2.2.1 s.2.2.2.1 s.2.2.2.2.1 s.2.2.2.2.2.1 s.2.2.2.2.2.2 = some L ∧ L.length ≤ 512 ∧ (∀ e ∈ L, (-4194305 ≤ e.1 ∧ e.1 ≤ 4194305) ∧ (-4194305 ≤ e.2.1 ∧ e.2.1 ≤ 4194305) ∧ (-4194305 ≤ e.2.2.1 ∧ e.2.2.1 ≤ 4194305) ∧ -4194305 ≤ e.2.2.2 ∧ e.2.2.2 ≤ 4194305) ∧ (L ≠ [] → ∃ e ∈ L, nearB e.1 e.2.1 e.2.2.1 e.2.2.2 (row s ax ay 512 i).1 (row s ax ay 512 i).2 34 = true) := by
  have hs := h.i
  obtain ⟨k, rfl⟩ : ∃ m, k = m + 1 + 1 := ⟨k - 2, by omega⟩
  obtain ⟨n, r, hc, n0, r0, hnr, hfar⟩ := count_pow (far_sm h ha hb) 9 (k + 1) 1 (by omega) (by omega) (by decide)
  have n5 : n * 1 ≤ n * r := Int.mul_le_mul_of_nonneg_left (by omega) (by omega)
  have hcf := (count_f ha.i hb.i hs (k + 1)).trans hc
  obtain ⟨n, rfl⟩ : ∃ q : Nat, n = q := ⟨n.toNat, by omega⟩
  obtain ⟨L, u, v, h1, hv, hl⟩ := row_l hs ha.i hb.i (n := n) (by omega) (by omega) n 0 (k + 1) [] (by omega) (by omega) (by omega) (by simp) (inv_0 _)
  rw [show row s ax ay n ((0 : Nat) : Int) = (ax, ay) from row_0 s ax ay (by omega)] at h1
  refine ⟨L, ?_, by omega, ?_, ?_⟩
  · unfold flatten_Path_v2.f
    refine bind_of (x := (u, v, L)) ?_ ?_
    · rw [flatten_Path_v2.l0, if_pos (by omega), if_pos rfl]
      refine bind_of (bind_of hcf h1) ?_
      dsimp only
      rw [flatten_Path_v2.l0, if_neg (by rw [w64 (by omega) (by omega)]; omega)]
    · dsimp only
      rw [if_neg (by decide), if_neg (by decide)]
  · intro e he
    obtain ⟨a, b, g1, g2, g3, g4⟩ := hv.2.2.2 e he
    have x1 := row_in hs ha.i hb.i (n := n) (i := (a : Nat)) (by omega) (by omega) (by omega)
    have x2 := row_in hs ha.i hb.i (n := n) (i := (b : Nat)) (by omega) (by omega) (by omega)
    dsimp only at g3 g4
    rw [← g3] at x1
    rw [← g4] at x2
    exact ⟨x1.1, x1.2, x2.1, x2.2⟩
  · intro hne
    obtain ⟨j, t, j0, j1, t0, t1, hi⟩ : ∃ j t : Int, 0 ≤ j ∧ j + 1 ≤ n ∧ 0 ≤ t ∧ t ≤ r ∧ i = j * r + t := by
      by_cases c : i = 512
      · exact ⟨n - 1, r, by omega, by omega, by omega, by omega, by rw [c, ← hnr]; grind⟩
      · have d := div_in i (b := r) (by omega)
        have q0 : 0 ≤ i / r := Int.ediv_nonneg i0 (by omega)
        have q1 : i / r < n := Int.ediv_lt_of_lt_mul (by omega) (by omega)
        exact ⟨i / r, i - i / r * r, q0, by omega, by omega, by omega, by omega⟩
    have cl := row_close hs (ax := ax) (ay := ay) (n := n) (r := r) (j := j) (t := t) (by omega) (by omega) hfar t0 t1 j0 j1
    rw [hnr, ← hi] at cl
    obtain ⟨j, rfl⟩ : ∃ q : Nat, j = q := ⟨j.toNat, by omega⟩
    by_cases c : row s ax ay n (j : Nat) = row s ax ay n ((j + 1 : Nat) : Int)
    · obtain ⟨e, he, hor⟩ := hv.2.1 hne j (by omega)
      dsimp only at hor
      rw [show (j : Int) + 1 = ((j + 1 : Nat) : Int) from rfl, ← c] at cl
      generalize row s ax ay n (j : Nat) = w at *
      generalize row s ax ay 512 i = p at *
      have b1 : -(9 * 1) ≤ p.1 - w.1 ∧ p.1 - w.1 ≤ 9 * 1 := ⟨Int.le_of_mul_le_mul_left (a := r) (by grind) (by omega), Int.le_of_mul_le_mul_left (a := r) (by grind) (by omega)⟩
      have b2 : -(9 * 1) ≤ p.2 - w.2 ∧ p.2 - w.2 ≤ 9 * 1 := ⟨Int.le_of_mul_le_mul_left (a := r) (by grind) (by omega), Int.le_of_mul_le_mul_left (a := r) (by grind) (by omega)⟩
      refine ⟨e, he, ?_⟩
      rcases hor with q | q
      · subst q
        exact near9 (r := 1) (t := 0) (by omega) (by omega) (by omega) (by dsimp only at b1; omega) (by dsimp only at b2; omega)
      · subst q
        exact near9 (r := 1) (t := 1) (by omega) (by omega) (by omega) (by omega) (by omega)
    · exact ⟨_, hv.2.2.1 j (by omega) c, near9 (r := r) (t := t) (by omega) t0 t1 cl.1 cl.2⟩

theorem rcross_f {ax ay bx by_ px py : Int} (h1 : Nr ax bx) (h2 : Nr ay by_) (h3 : Nr ax px) (h4 : Nr ay py) : glyphicref1_Cross.f ax ay bx by_ px py = some (crs ax ay bx by_ px py) := by
  unfold glyphicref1_Cross.f
  have b1 := prod_bd h1 h4
  have b2 := prod_bd h2 h3
  obtain ⟨h1, h1'⟩ := h1
  obtain ⟨h2, h2'⟩ := h2
  obtain ⟨h3, h3'⟩ := h3
  obtain ⟨h4, h4'⟩ := h4
  rw [w64 (n := bx - ax) (by omega) (by omega), w64 (n := py - ay) (by omega) (by omega), w64 (n := by_ - ay) (by omega) (by omega), w64 (n := px - ax) (by omega) (by omega), w64 (n := (bx - ax) * (py - ay)) (by omega) (by omega), w64 (n := (by_ - ay) * (px - ax)) (by omega) (by omega), w64 (by omega) (by omega)]
  rfl

theorem rdot_f {ax ay bx by_ px py : Int} (h1 : Nr ax bx) (h2 : Nr ay by_) (h3 : Nr ax px) (h4 : Nr ay py) : glyphicref1_Dot.f ax ay bx by_ px py = some (dt ax ay bx by_ px py) := by
  unfold glyphicref1_Dot.f
  have b1 := prod_bd h1 h3
  have b2 := prod_bd h2 h4
  obtain ⟨h1, h1'⟩ := h1
  obtain ⟨h2, h2'⟩ := h2
  obtain ⟨h3, h3'⟩ := h3
  obtain ⟨h4, h4'⟩ := h4
  rw [w64 (n := bx - ax) (by omega) (by omega), w64 (n := px - ax) (by omega) (by omega), w64 (n := by_ - ay) (by omega) (by omega), w64 (n := py - ay) (by omega) (by omega), w64 (n := (bx - ax) * (px - ax)) (by omega) (by omega), w64 (n := (by_ - ay) * (py - ay)) (by omega) (by omega), w64 (by omega) (by omega)]
  rfl

theorem rlen2_f {ax ay bx by_ : Int} (h1 : Nr ax bx) (h2 : Nr ay by_) : glyphicref1_Len2.f ax ay bx by_ = some (ln ax ay bx by_) := by
  unfold glyphicref1_Len2.f
  exact bind_of (rdot_f h1 h2 h1 h2) rfl

theorem rsize_f {a : Int} (h0 : -9223372036854775808 ≤ a) (h1 : a ≤ 9223372036854775807) : glyphicref1_size.f a = some (a.natAbs : Int) := by
  unfold glyphicref1_size.f
  by_cases h : a < 0
  · rw [if_pos h, w64 (n := a + 1) (by omega) (by omega), w64 (by omega) (by omega), wru64_eq, wru64_eq]
    congr 1
    omega
  · rw [if_neg h, wru64_eq]
    congr 1
    omega

theorem mul_f {x y : Int} (x0 : 0 ≤ x) (x1 : x ≤ 18446744073709551615) (y0 : 0 ≤ y) (y1 : y ≤ 18446744073709551615) : bits_Mul64.f x y = some (x * y / 18446744073709551616, x * y % 18446744073709551616) := by
  unfold bits_Mul64.f
  rw [if_pos ⟨x0, x1, y0, y1⟩]

theorem quarter_le {l q : Int} (q0 : 0 ≤ q) (q1 : q ≤ 9223372036854775807) : decide (l ≤ wr64 (Int.tdiv q 4)) = decide (4 * l ≤ q) := by
  rw [Int.tdiv_eq_ediv, if_pos (Or.inl q0), w64 (by omega) (by omega)]
  by_cases h : 4 * l ≤ q
  · rw [decide_eq_true h, decide_eq_true (by omega)]
  · rw [decide_eq_false h, decide_eq_false (by omega)]

theorem rnear_f {ax ay bx by_ px py w : Int} (h1 : Nr ax bx) (h2 : Nr ay by_) (h3 : Nr ax px) (h4 : Nr ay py) (h5 : Nr bx px) (h6 : Nr by_ py) (w0 : 0 ≤ w) (w1 : w ≤ 268435456) : glyphicref1_Near.f ax ay bx by_ px py w = some (nearB ax ay bx by_ px py w) := by
  have h := mul_bd (M := 268435456) (N := 268435456) (x := w) (y := w) (by omega) w1 (by omega) w1
  have hw := sq_nonneg w
  unfold glyphicref1_Near.f nearB
  rw [w64 (n := w * w) (by omega) (by omega)]
  refine bind_of (rdot_f h1 h2 h3 h4) (bind_of (rlen2_f h1 h2) ?_)
  by_cases c1 : dt ax ay bx by_ px py ≤ 0
  · rw [if_pos c1, if_pos c1]
    refine bind_of (rlen2_f h3 h4) ?_
    rw [quarter_le hw (by omega)]
  · rw [if_neg c1, if_neg c1]
    by_cases c2 : dt ax ay bx by_ px py ≥ ln ax ay bx by_
    · rw [if_pos c2, if_pos c2]
      refine bind_of (rlen2_f h5 h6) ?_
      rw [quarter_le hw (by omega)]
    · rw [if_neg c2, if_neg c2]
      have hc := crs_bd h1 h2 h3 h4
      have hl0 := ln_nonneg ax ay bx by_
      have hl1 := ln_bd h1 h2
      refine bind_of (rcross_f h1 h2 h3 h4) (bind_of (rsize_f (by omega) (by omega)) ?_)
      generalize crs ax ay bx by_ px py = c at *
      generalize ln ax ay bx by_ = l at *
      have e1 : wru64 (2 * (c.natAbs : Int)) = 2 * (c.natAbs : Int) := by rw [wru64_eq]; omega
      have e2 : wru64 (w * w) = w * w := by rw [wru64_eq]; omega
      have e3 : wru64 l = l := by rw [wru64_eq]; omega
      rw [e1, e2, e3]
      refine bind_of (mul_f (by omega) (by omega) (by omega) (by omega)) (bind_of (mul_f (by omega) (by omega) (by omega) (by omega)) ?_)
      have e4 : 2 * (c.natAbs : Int) * (2 * (c.natAbs : Int)) = 4 * (c * c) := by
        have : ((c.natAbs : Nat) : Int) * ((c.natAbs : Nat) : Int) = c * c := by rw [← Int.natCast_mul, Int.natAbs_mul_self]
        grind
      rw [e4]
      generalize 4 * (c * c) = P
      generalize w * w * l = Q
      show (if P / 18446744073709551616 < Q / 18446744073709551616 then some true else if P / 18446744073709551616 = Q / 18446744073709551616 then some (decide (P % 18446744073709551616 ≤ Q % 18446744073709551616)) else some false) = some (decide (P ≤ Q))
      by_cases k1 : P / 18446744073709551616 < Q / 18446744073709551616
      · rw [if_pos k1, decide_eq_true (by omega)]
      · rw [if_neg k1]
        by_cases k2 : P / 18446744073709551616 = Q / 18446744073709551616
        · rw [if_pos k2]
          by_cases k3 : P ≤ Q
          · rw [decide_eq_true k3, decide_eq_true (by omega)]
          · rw [decide_eq_false k3, decide_eq_false (by omega)]
        · rw [if_neg k2, decide_eq_false (by omega)]

theorem point_s {f at_ : Int} (l : List Int) (f0 : 0 ≤ f) (f1 : f ≤ 131072) (h0 : 0 ≤ at_) (h1 : at_ ≤ 1000) : ∃ x y, glyphicmake_Point_v1.f f l at_ = some (x, y, at_ + 2) ∧ Sm x ∧ Sm y := by
  obtain ⟨x, y, h, p1, p2⟩ := point_f (far := f) (at_ := at_) l f0 (by omega) h0 (by omega)
  exact ⟨x, y, h, by unfold Sm; omega, by unfold Sm; omega⟩
theorem sm0 : Sm 0 := by unfold Sm; omega
theorem lseg_l {far f : Int} (l : List Int) (hF : wr64 (1 * 2 ^ (min (Int.toNat (wru64 (wr64 ((Int.tmod (wr64 ((Int.tmod far 17) + 17)) 17) + 1)))) 64)) = f) (f0 : 0 ≤ f) (f1 : f ≤ 131072) {t : Int} (t0 : 0 ≤ t) (t1 : t < 3) : ∀ (n i k : Nat) (a b c d e g at_ : Int), 1 + t - i = n → n < k → Sm a → Sm b → Sm c → Sm d → Sm e → Sm g → 0 ≤ at_ → at_ ≤ 100 + 3 * i →
    ∃ a' b' c' d' e' g' at', glyphiclaw21_FlattenNear.l0 k l far t i a b c d e g at_ = some (1 + t, a', b', c', d', e', g', at') ∧ Sm a' ∧ Sm b' ∧ Sm c' ∧ Sm d' ∧ Sm e' ∧ Sm g'
  | 0, i, k, a, b, c, d, e, g, at_, hn, hk, ha, hb, hc, hd, he, hg, h0, h1 => by
    obtain ⟨k, rfl⟩ : ∃ m, k = m + 1 := ⟨k - 1, by omega⟩
    refine ⟨a, b, c, d, e, g, at_, ?_, ha, hb, hc, hd, he, hg⟩
    rw [glyphiclaw21_FlattenNear.l0, w64 (n := 1 + t) (by omega) (by omega), if_neg (by omega)]
  | n + 1, i, k, a, b, c, d, e, g, at_, hn, hk, ha, hb, hc, hd, he, hg, h0, h1 => by
    obtain ⟨k, rfl⟩ : ∃ m, k = m + 1 := ⟨k - 1, by omega⟩
    obtain ⟨x, y, hp, p1, p2⟩ := point_s l f0 f1 h0 (by omega)
    rw [glyphiclaw21_FlattenNear.l0, w64 (n := 1 + t) (by omega) (by omega), if_pos (by omega), hF]
    rcases (show i = 0 ∨ i = 1 ∨ i = 2 by omega) with rfl | rfl | rfl
    · obtain ⟨a', b', c', d', e', g', at', h, r⟩ := lseg_l l hF f0 f1 t0 t1 n 1 k x y c d e g (at_ + 2) (by omega) (by omega) p1 p2 hc hd he hg (by omega) (by omega)
      refine ⟨a', b', c', d', e', g', at', bind_of hp ?_, r⟩
      dsimp only
      rw [if_pos (by omega), wnat (by omega)]
      exact h
    · obtain ⟨a', b', c', d', e', g', at', h, r⟩ := lseg_l l hF f0 f1 t0 t1 n 2 k a b x y e g (at_ + 2) (by omega) (by omega) ha hb p1 p2 he hg (by omega) (by omega)
      refine ⟨a', b', c', d', e', g', at', bind_of hp ?_, r⟩
      dsimp only
      rw [if_neg (by omega), if_pos (by omega), wnat (by omega)]
      exact h
    · obtain ⟨a', b', c', d', e', g', at', h, r⟩ := lseg_l l hF f0 f1 t0 t1 n 3 k a b c d x y (at_ + 2) (by omega) (by omega) ha hb hc hd p1 p2 (by omega) (by omega)
      refine ⟨a', b', c', d', e', g', at', bind_of hp ?_, r⟩
      dsimp only
      rw [if_neg (by omega), if_neg (by omega), if_pos (by omega), wnat (by omega)]
      exact h
def Md (a : Int) : Prop := -4194305 ≤ a ∧ a ≤ 4194305
theorem md_nr {a b : Int} (h1 : Md a) (h2 : Md b) : Nr a b := by unfold Md at *; unfold Nr; omega
theorem near_e {L : List Edg} {px py : Int} (hL : ∀ e ∈ L, Md e.1 ∧ Md e.2.1 ∧ Md e.2.2.1 ∧ Md e.2.2.2) (hx : Md px) (hy : Md py) {i : Nat} (h : i < L.length) : ∃ e : Edg, lgt L (i : Int) = some e ∧ e = L[i] ∧ glyphicref1_Near.f e.1 e.2.1 e.2.2.1 e.2.2.2 px py 34 = some (nearB e.1 e.2.1 e.2.2.1 e.2.2.2 px py 34) := by
  obtain ⟨h1, h2, h3, h4⟩ := hL L[i] (List.getElem_mem h)
  exact ⟨L[i], lgt_nat h, rfl, rnear_f (md_nr h1 h3) (md_nr h2 h4) (md_nr h1 hx) (md_nr h2 hy) (md_nr h3 hx) (md_nr h4 hy) (by omega) (by omega)⟩
theorem find_l1 {L : List Edg} {px py : Int} (hL : ∀ e ∈ L, Md e.1 ∧ Md e.2.1 ∧ Md e.2.2.1 ∧ Md e.2.2.2) (hx : Md px) (hy : Md py) {j : Nat} (hj : j < L.length) (hn : nearB L[j].1 L[j].2.1 L[j].2.2.1 L[j].2.2.2 px py 34 = true) (hl : L.length ≤ 1000) : ∀ (n i k : Nat), j - i = n → i ≤ j → n < k → glyphiclaw21_FlattenNear.l1 k true L px py (i : Int) = some (.inl true)
  | n, i, 0, hm, hi, hk => by omega
  | n, i, k + 1, hm, hi, hk => by
    obtain ⟨e, hg, he, hr⟩ := near_e hL hx hy (i := i) (by omega)
    rw [glyphiclaw21_FlattenNear.l1, if_pos (by omega)]
    refine bind_of hg (bind_of hg (bind_of hr ?_))
    cases hb : nearB e.1 e.2.1 e.2.2.1 e.2.2.2 px py 34 with
    | true => rw [if_pos rfl]
    | false =>
      have hne : i ≠ j := by
        intro q
        subst q
        rw [← he, hb] at hn
        cases hn
      rw [if_neg (by decide), wnat (by omega)]
      exact find_l1 hL hx hy hj hn hl (n - 1) (i + 1) k (by omega) (by omega) (by omega)
theorem find_l2 {L : List Edg} {px py : Int} (hL : ∀ e ∈ L, Md e.1 ∧ Md e.2.1 ∧ Md e.2.2.1 ∧ Md e.2.2.2) (hx : Md px) (hy : Md py) {j : Nat} (hj : j < L.length) (hn : nearB L[j].1 L[j].2.1 L[j].2.2.1 L[j].2.2.2 px py 34 = true) (hl : L.length ≤ 1000) : ∀ (n i k : Nat), j - i = n → i ≤ j → n < k → glyphiclaw21_FlattenNear.l2 k true L px py (i : Int) = some (.inl true)
  | n, i, 0, hm, hi, hk => by omega
  | n, i, k + 1, hm, hi, hk => by
    obtain ⟨e, hg, he, hr⟩ := near_e hL hx hy (i := i) (by omega)
    rw [glyphiclaw21_FlattenNear.l2, if_pos (by omega)]
    refine bind_of hg (bind_of hg (bind_of hr ?_))
    cases hb : nearB e.1 e.2.1 e.2.2.1 e.2.2.2 px py 34 with
    | true => rw [if_pos rfl]
    | false =>
      have hne : i ≠ j := by
        intro q
        subst q
        rw [← he, hb] at hn
        cases hn
      rw [if_neg (by decide), wnat (by omega)]
      exact find_l2 hL hx hy hj hn hl (n - 1) (i + 1) k (by omega) (by omega) (by omega)
theorem find_l3 {L : List Edg} {px py : Int} (hL : ∀ e ∈ L, Md e.1 ∧ Md e.2.1 ∧ Md e.2.2.1 ∧ Md e.2.2.2) (hx : Md px) (hy : Md py) {j : Nat} (hj : j < L.length) (hn : nearB L[j].1 L[j].2.1 L[j].2.2.1 L[j].2.2.2 px py 34 = true) (hl : L.length ≤ 1000) : ∀ (n i k : Nat), j - i = n → i ≤ j → n < k → glyphiclaw21_FlattenNear.l3 k true L px py (i : Int) = some (.inl true)
  | n, i, 0, hm, hi, hk => by omega
  | n, i, k + 1, hm, hi, hk => by
    obtain ⟨e, hg, he, hr⟩ := near_e hL hx hy (i := i) (by omega)
    rw [glyphiclaw21_FlattenNear.l3, if_pos (by omega)]
    refine bind_of hg (bind_of hg (bind_of hr ?_))
    cases hb : nearB e.1 e.2.1 e.2.2.1 e.2.2.2 px py 34 with
    | true => rw [if_pos rfl]
    | false =>
      have hne : i ≠ j := by
        intro q
        subst q
        rw [← he, hb] at hn
        cases hn
      rw [if_neg (by decide), wnat (by omega)]
      exact find_l3 hL hx hy hj hn hl (n - 1) (i + 1) k (by omega) (by omega) (by omega)

theorem pow_s {j : Nat} (h : j ≤ 17) : ∃ K : Int, (1 : Int) * 2 ^ j = K ∧ 1 ≤ K ∧ K ≤ 131072 := by
  have h1 : (2 : Nat) ^ j ≤ 2 ^ 17 := Nat.pow_le_pow_right (by omega) h
  have h2 : 1 ≤ (2 : Nat) ^ j := Nat.one_le_two_pow
  have e : (1 : Int) * 2 ^ j = ((2 ^ j : Nat) : Int) := by simp
  exact ⟨_, rfl, by rw [e]; omega, by rw [e]; omega⟩
theorem FlattenNear : glyphiclaw21_FlattenNear.Pure := by
  intro l far_ part _ _
  have hf : glyphiclaw21_first.f = some true := by decide +kernel
  refine ⟨100000, ?_⟩
  generalize hK : 100000 = k0
  have hk : 100000 ≤ k0 := by omega
  clear hK
  unfold glyphiclaw21_FlattenNear.f
  refine bind_of hf ?_
  rw [if_pos rfl]
  by_cases hl : (l.length : Int) > 30
  · rw [if_pos hl]
  · rw [if_neg hl]
    have hF : ∃ f : Int, wr64 (1 * 2 ^ (min (Int.toNat (wru64 (wr64 ((Int.tmod (wr64 ((Int.tmod far_ 17) + 17)) 17) + 1)))) 64)) = f ∧ 0 ≤ f ∧ f ≤ 131072 ∧ ¬ wru64 (wr64 ((Int.tmod (wr64 ((Int.tmod far_ 17) + 17)) 17) + 1)) < 0 := by
      obtain ⟨s, es, s0, s1⟩ := cyc far_ (b := 17) (by omega) (by omega)
      rw [es, w64 (n := s + 1) (by omega) (by omega), wu64 (n := s + 1) (by omega) (by omega)]
      obtain ⟨e, he⟩ : ∃ e : Nat, Int.toNat (s + 1) = e := ⟨_, rfl⟩
      rw [he, Nat.min_eq_left (by omega)]
      obtain ⟨K, eK, K0, K1⟩ := pow_s (j := e) (by omega)
      rw [eK, w64 (n := K) (by omega) (by omega)]
      exact ⟨K, rfl, by omega, K1, by omega⟩
    obtain ⟨f, hF, f0, f1, hneg⟩ := hF
    rw [if_neg hneg, hF]
    obtain ⟨ax, ay, hp, a1, a2⟩ := point_s (at_ := 0) l f0 f1 (by omega) (by omega)
    refine bind_of hp ?_
    obtain ⟨t, ht, t0, t1⟩ := next_f (b := 3) (at_ := 0 + 2) l (by omega) (by omega) (by omega) (by omega)
    refine bind_of ht ?_
    obtain ⟨m, hm⟩ : ∃ m : Nat, 1 + t - (0 : Nat) = m := ⟨(1 + t).toNat, by omega⟩
    obtain ⟨b1, b2, b3, b4, b5, b6, at', hs, s1, s2, s3, s4, s5, s6⟩ := lseg_l l hF f0 f1 t0 t1 m 0 k0 0 0 0 0 0 0 (0 + 2 + 1) hm (by omega) sm0 sm0 sm0 sm0 sm0 sm0 (by omega) (by omega)
    refine bind_of hs ?_
    obtain ⟨i, ei, i0, i1⟩ := cyc part (b := 513) (by omega) (by omega)
    rw [ei]
    have hS : Ss (1 + t, b1, b2, b3, b4, b5, b6) := ⟨⟨by dsimp only; omega, by dsimp only; omega⟩, s1, s2, s3, s4, s5, s6⟩
    obtain ⟨L, hL, hlen, hin, hex⟩ := path_near hS a1 a2 i0 (by omega) k0 (by omega)
    refine bind_of hL ?_
    have hr := row_in hS.i (n := 512) (i := i) a1.i a2.i (by omega) i0 (by omega)
    dsimp only
    rcases (show t = 0 ∨ t = 1 ∨ t = 2 by omega) with rfl | rfl | rfl
    · rw [if_pos (by omega)]
      refine bind_of (cv1 hS.i a1.i a2.i i0 (by omega) rfl) ?_
      by_cases c : (L.length : Int) = 0
      · rw [if_pos c]
      · rw [if_neg c]
        obtain ⟨e, he, hn⟩ := hex (fun q => c (by rw [q]; rfl))
        obtain ⟨j, hj, rfl⟩ := List.getElem_of_mem he
        exact bind_of (find_l1 hin hr.1 hr.2 hj hn (by omega) j 0 k0 (by omega) (by omega) (by omega)) rfl
    · rw [if_neg (by omega), if_pos (by omega)]
      refine bind_of (cv2 hS.i a1.i a2.i i0 (by omega) rfl) ?_
      by_cases c : (L.length : Int) = 0
      · rw [if_pos c]
      · rw [if_neg c]
        obtain ⟨e, he, hn⟩ := hex (fun q => c (by rw [q]; rfl))
        obtain ⟨j, hj, rfl⟩ := List.getElem_of_mem he
        exact bind_of (find_l2 hin hr.1 hr.2 hj hn (by omega) j 0 k0 (by omega) (by omega) (by omega)) rfl
    · rw [if_neg (by omega), if_neg (by omega), if_pos (by omega)]
      refine bind_of (cv3 hS.i a1.i a2.i i0 (by omega) rfl) ?_
      by_cases c : (L.length : Int) = 0
      · rw [if_pos c]
      · rw [if_neg c]
        obtain ⟨e, he, hn⟩ := hex (fun q => c (by rw [q]; rfl))
        obtain ⟨j, hj, rfl⟩ := List.getElem_of_mem he
        exact bind_of (find_l3 hin hr.1 hr.2 hj hn (by omega) j 0 k0 (by omega) (by omega) (by omega)) rfl

end Go.Proofs.Ytpimfacaalkmdaa.Pure
