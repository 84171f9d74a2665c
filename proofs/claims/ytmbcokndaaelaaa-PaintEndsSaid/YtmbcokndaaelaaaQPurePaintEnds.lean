/- The plain law of PaintEnds: over numbers alone. -/
import Derived.Test.YtmbcokndaaelaaaQPaintEndsx7
import Derived.OpenShut
namespace Go.Proofs.Ytmbcokndaaelaaa.Pure
open Go.RowKit Go.Proofs.Ytmbcokndaaelaaa.QPaintEnds Go.Proofs.YtmbcokndaaelaaaW.PrintWords Go.Proofs.YtmbcokndaaelaaaW.PrintLast Go.Proofs.YtmbcokndaaelaaaW.PrintMore

theorem bind_of {α β : Type} {o : Option α} {f : α → Option β} {x : α} {r : Option β} (h : o = some x) (h2 : f x = r) : o.bind f = r := by
  subst h
  exact h2

theorem w64 {n : Int} (h0 : -9223372036854775808 ≤ n) (h1 : n ≤ 9223372036854775807) : wrap64 n = n := by
  unfold wrap64
  omega

theorem div_is {a b q : Int} (hb : 0 < b) (h1 : q * b ≤ a) (h2 : a < q * b + b) : a / b = q := by
  apply Int.le_antisymm
  · exact Int.lt_add_one_iff.1 (Int.ediv_lt_of_lt_mul hb (by rw [Int.add_mul, Int.one_mul]; exact h2))
  · exact Int.le_ediv_of_mul_le hb h1

theorem div_in (a : Int) {b : Int} (hb : 0 < b) : a / b * b ≤ a ∧ a < a / b * b + b := by
  have h1 := Int.mul_ediv_add_emod a b
  have h2 := Int.emod_nonneg a (Int.ne_of_gt hb)
  have h3 := Int.emod_lt_of_pos a hb
  rw [Int.mul_comm] at h1
  omega

theorem div_bd (a : Int) {b : Int} (hb : 0 < b) : (0 ≤ a → 0 ≤ a / b ∧ a / b ≤ a) ∧ (a < 0 → a ≤ a / b ∧ a / b < 0) := by
  obtain ⟨h1, h2⟩ := div_in a hb
  refine ⟨fun h => ⟨Int.ediv_nonneg h (by omega), Int.ediv_le_self _ h⟩, fun h => ⟨?_, Int.ediv_neg_of_neg_of_pos h hb⟩⟩
  exact Int.le_ediv_of_mul_le hb (by
    have : a * b ≤ a * 1 := Int.mul_le_mul_of_nonpos_left (by omega) (by omega)
    omega)

theorem tmod_in (a : Int) {b : Int} (hb : 0 < b) : -b < Int.tmod a b ∧ Int.tmod a b < b := by
  rw [Int.tmod_eq_emod]
  have h2 := Int.emod_nonneg a (show b ≠ 0 by omega)
  have h3 := Int.emod_lt_of_pos a hb
  split
  · omega
  · have : ((b.natAbs : Nat) : Int) = b := by omega
    rename_i h
    have hne : a % b ≠ 0 := fun h0 => h (Or.inr (Int.dvd_of_emod_eq_zero h0))
    omega

theorem tmod_pos {a b : Int} (ha : 0 ≤ a) : Int.tmod a b = a % b := by
  rw [Int.tmod_eq_emod, if_pos (Or.inl ha)]; omega

theorem cyc (a : Int) {b : Int} (hb : 0 < b) (hb1 : b ≤ 4611686018427387903) : ∃ s, Int.tmod (wrap64 (Int.tmod a b + b)) b = s ∧ 0 ≤ s ∧ s < b := by
  have h := tmod_in a hb
  refine ⟨_, rfl, ?_⟩
  rw [w64 (by omega) (by omega), tmod_pos (by omega)]
  exact ⟨Int.emod_nonneg _ (by omega), Int.emod_lt_of_pos _ hb⟩

/-- The nearest of a part, of two the greater. -/
def rnd (a b : Int) : Int := (2 * a + b) / (2 * b)

theorem rnd_is {a b q : Int} (hb : 0 < b) (h1 : 2 * (q * b) ≤ 2 * a + b) (h2 : 2 * a < 2 * (q * b) + b) : rnd a b = q := by
  unfold rnd
  apply div_is (by omega)
  · rw [Int.mul_left_comm]; omega
  · rw [Int.mul_left_comm]; omega

theorem rnd_in (a : Int) {b : Int} (hb : 0 < b) : 2 * (rnd a b * b) ≤ 2 * a + b ∧ 2 * a < 2 * (rnd a b * b) + b := by
  unfold rnd
  obtain ⟨h1, h2⟩ := div_in (2 * a + b) (b := 2 * b) (by omega)
  rw [Int.mul_left_comm] at h1 h2
  omega

theorem rnd_mono {a c b : Int} (hb : 0 < b) (h : a ≤ c) : rnd a b ≤ rnd c b := by
  unfold rnd
  exact Int.ediv_le_ediv (by omega) (by omega)

theorem down_f {a b : Int} (hb : 1 ≤ b) (ha0 : -9223372036854775808 ≤ a) (ha1 : a ≤ 9223372036854775807) : fixed_Down.f a b = some (a / b) := by
  unfold fixed_Down.f
  rw [if_neg (by omega), if_neg (by omega)]
  have hbd := div_bd a (b := b) (by omega)
  by_cases h : 0 ≤ a ∨ b ∣ a
  · have e1 : Int.tdiv a b = a / b := by rw [Int.tdiv_eq_ediv, if_pos h]; omega
    have e2 : Int.tmod a b = a % b := by rw [Int.tmod_eq_emod, if_pos h]; omega
    have h2 := Int.emod_nonneg a (show b ≠ 0 by omega)
    rw [e1, e2, if_neg (by omega), w64 (by omega) (by omega)]
  · have e1 : Int.tdiv a b = a / b + 1 := by rw [Int.tdiv_eq_ediv, if_neg h, Int.sign_eq_one_of_pos (by omega)]
    have e2 : Int.tmod a b = a % b - b := by rw [Int.tmod_eq_emod, if_neg h]; omega
    have h3 := Int.emod_lt_of_pos a (show 0 < b by omega)
    rw [e1, e2, if_pos (by omega), w64 (n := a / b + 1) (by omega) (by omega), w64 (by omega) (by omega)]
    congr 1
    omega

theorem round_f {a b : Int} (hb : 1 ≤ b) (hb1 : b ≤ 9223372036854775807) (ha0 : -9223372036854775808 ≤ a) (ha1 : a ≤ 9223372036854775807) : fixed_Round.f a b = some (rnd a b) := by
  unfold fixed_Round.f
  rw [if_neg (by omega), down_f hb ha0 ha1]
  simp only [Option.bind_some]
  obtain ⟨h1, h2⟩ := div_in a (b := b) (by omega)
  have hbd := div_bd a (b := b) (by omega)
  have e : wrap64 (a - wrap64 (a / b * b)) = a - a / b * b := by
    unfold wrap64
    omega
  rw [e, w64 (n := b - (a - a / b * b)) (by omega) (by omega)]
  by_cases h : a - a / b * b ≥ b - (a - a / b * b)
  · rw [if_pos h]
    have h3 : a / b + 1 ≤ 9223372036854775807 := by
      by_cases hq : a / b < 9223372036854775807
      · omega
      · by_cases h1b : b = 1
        · subst h1b; omega
        · have : a / b * 2 ≤ a / b * b := Int.mul_le_mul_of_nonneg_left (by omega) (by omega)
          omega
    rw [w64 (by omega) h3, rnd_is (q := a / b + 1) (by omega)]
    · rw [Int.add_mul]; omega
    · rw [Int.add_mul]; omega
  · rw [if_neg h, rnd_is (q := a / b) (by omega)]
    · omega
    · omega

theorem rnd_near (a : Int) {b : Int} (hb : 0 < b) : rnd a b = a / b ∨ rnd a b = a / b + 1 := by
  obtain ⟨h1, h2⟩ := div_in a hb
  by_cases h : 2 * (a - a / b * b) < b
  · left
    exact rnd_is hb (by omega) (by omega)
  · right
    exact rnd_is hb (by rw [Int.add_mul]; omega) (by rw [Int.add_mul]; omega)

theorem rnd_next (a : Int) {b : Int} (hb : 0 < b) : rnd (a + b) b = rnd a b + 1 := by
  obtain ⟨h1, h2⟩ := rnd_in a hb
  exact rnd_is hb (by rw [Int.add_mul]; omega) (by rw [Int.add_mul]; omega)

theorem sq_le {a b : Int} (h0 : 0 ≤ a) (h : a ≤ b) : a * a ≤ b * b := Int.mul_le_mul h h h0 (by omega)

theorem root_one {n r s : Int} (r0 : 0 ≤ r) (s0 : 0 ≤ s) (r1 : r * r ≤ n) (r2 : n < (r + 1) * (r + 1)) (s1 : s * s ≤ n) (s2 : n < (s + 1) * (s + 1)) : r = s := by
  by_cases h : r < s
  · have := sq_le (a := r + 1) (b := s) (by omega) (by omega)
    omega
  · by_cases h' : s < r
    · have := sq_le (a := s + 1) (b := r) (by omega) (by omega)
      omega
    · omega

theorem mid_le {m n : Int} (hm : 1 ≤ m) (hn : 0 ≤ n) : m ≤ Int.tdiv n m ↔ m * m ≤ n := by
  rw [Int.tdiv_eq_ediv, if_pos (Or.inl hn), Int.add_zero]
  exact Int.le_ediv_iff_mul_le (by omega)

theorem sqrt_l (d : Nat) : ∀ (k : Nat) (n lo hi : Int), d < k → hi - lo = 2 ^ d → 0 ≤ n → n ≤ 9223372036854775807 → 0 ≤ lo → hi ≤ 4294967296 → lo * lo ≤ n → n < hi * hi →
    ∃ r, fixed_Sqrt.l0 k n lo hi = some r ∧ 0 ≤ r ∧ r * r ≤ n ∧ n < (r + 1) * (r + 1) := by
  induction d with
  | zero =>
    intro k n lo hi hk e n0 n1 h0 h1 h2 h3
    obtain ⟨k, rfl⟩ : ∃ m, k = m + 1 := ⟨k - 1, by omega⟩
    have e1 : hi = lo + 1 := by have : hi - lo = 1 := e; omega
    subst e1
    refine ⟨lo, ?_, h0, h2, h3⟩
    rw [fixed_Sqrt.l0, w64 (n := lo + 1 - lo) (by omega) (by omega), if_neg (by omega)]
  | succ d ih =>
    intro k n lo hi hk e n0 n1 h0 h1 h2 h3
    obtain ⟨k, rfl⟩ : ∃ m, k = m + 1 := ⟨k - 1, by omega⟩
    have hp : (0 : Int) < 2 ^ d := Int.pow_pos (by omega)
    have e2 : hi - lo = 2 * 2 ^ d := by rw [e, Int.pow_succ]; omega
    generalize (2 : Int) ^ d = q at *
    have eh : hi = lo + 2 * q := by omega
    subst eh
    have em : wrap64 (lo + wrap64 (Int.tdiv (wrap64 (lo + 2 * q - lo)) 2)) = lo + q := by
      rw [w64 (n := lo + 2 * q - lo) (by omega) (by omega), Int.tdiv_eq_ediv, if_pos (Or.inl (by omega)), w64 (n := (lo + 2 * q - lo) / 2 + 0) (by omega) (by omega), w64 (by omega) (by omega)]
      omega
    have hdb := mid_le (m := lo + q) (n := n) (by omega) n0
    have hq : wrap64 (Int.tdiv n (lo + q)) = Int.tdiv n (lo + q) := by
      rw [Int.tdiv_eq_ediv, if_pos (Or.inl n0)]
      have := div_bd n (b := lo + q) (by omega)
      exact w64 (by omega) (by omega)
    rw [fixed_Sqrt.l0, em, hq, w64 (n := lo + 2 * q - lo) (by omega) (by omega), if_pos (by omega), if_neg (by omega)]
    by_cases hc : lo + q ≤ Int.tdiv n (lo + q)
    · rw [if_pos hc]
      exact ih k n (lo + q) (lo + 2 * q) (by omega) (by omega) n0 n1 (by omega) h1 (hdb.1 hc) h3
    · rw [if_neg hc]
      exact ih k n lo (lo + q) (by omega) (by omega) n0 n1 h0 (by omega) h2 (by
        by_cases hh : n < (lo + q) * (lo + q)
        · exact hh
        · exact absurd (hdb.2 (by omega)) hc)

theorem sqrt_f {n : Int} (n0 : 0 ≤ n) (n1 : n ≤ 9223372036854775807) (k : Nat) (hk : 32 < k) : ∃ r, fixed_Sqrt.f k n = some r ∧ 0 ≤ r ∧ r * r ≤ n ∧ n < (r + 1) * (r + 1) := by
  unfold fixed_Sqrt.f
  by_cases h : n < 1
  · rw [if_pos h]
    exact ⟨0, rfl, by omega, by omega, by omega⟩
  · rw [if_neg h]
    exact sqrt_l 32 k n 0 4294967296 hk (by omega) n0 n1 (by omega) (by omega) (by omega) (by omega)

theorem sqrt_is {n s : Int} (s0 : 0 ≤ s) (s1 : s * s ≤ n) (s2 : n < (s + 1) * (s + 1)) (n1 : n ≤ 9223372036854775807) (k : Nat) (hk : 32 < k) : fixed_Sqrt.f k n = some s := by
  have n0 : 0 ≤ n := Int.le_trans (Int.mul_nonneg s0 s0) s1
  obtain ⟨r, hr, r0, r1, r2⟩ := sqrt_f n0 n1 k hk
  rw [hr, root_one r0 s0 r1 r2 s1 s2]

theorem mul_bd {x y M N : Int} (hx0 : -M ≤ x) (hx1 : x ≤ M) (hy0 : -N ≤ y) (hy1 : y ≤ N) : -(M * N) ≤ x * y ∧ x * y ≤ M * N := by
  have h : (x * y).natAbs ≤ M.toNat * N.toNat := by
    rw [Int.natAbs_mul]
    exact Nat.mul_le_mul (by omega) (by omega)
  have e : ((M.toNat * N.toNat : Nat) : Int) = M * N := by
    rw [Int.natCast_mul, Int.toNat_of_nonneg (by omega), Int.toNat_of_nonneg (by omega)]
  omega

/-- Two numbers no farther apart than that. -/
def Nr (a b : Int) : Prop := -268435456 ≤ b - a ∧ b - a ≤ 268435456

theorem prod_bd {a b c d : Int} (h1 : Nr a b) (h2 : Nr c d) : -72057594037927936 ≤ (b - a) * (d - c) ∧ (b - a) * (d - c) ≤ 72057594037927936 := mul_bd (M := 268435456) (N := 268435456) (by have := h1.1; omega) h1.2 (by have := h2.1; omega) h2.2

def dt (ax ay bx by_ px py : Int) : Int := (bx - ax) * (px - ax) + (by_ - ay) * (py - ay)
def ln (ax ay bx by_ : Int) : Int := (bx - ax) * (bx - ax) + (by_ - ay) * (by_ - ay)

theorem sq_nonneg (x : Int) : 0 ≤ x * x := by
  rcases Int.le_total 0 x with h | h
  · exact Int.mul_nonneg h h
  · exact Int.mul_nonneg_of_nonpos_of_nonpos h h

theorem ln_nonneg (ax ay bx by_ : Int) : 0 ≤ ln ax ay bx by_ := by
  unfold ln
  have := sq_nonneg (bx - ax)
  have := sq_nonneg (by_ - ay)
  omega

theorem ln_bd {ax ay bx by_ : Int} (h1 : Nr ax bx) (h2 : Nr ay by_) : ln ax ay bx by_ ≤ 144115188075855872 := by
  unfold ln
  have := prod_bd h1 h1
  have := prod_bd h2 h2
  omega

theorem dt_bd {ax ay bx by_ px py : Int} (h1 : Nr ax bx) (h2 : Nr ay by_) (h3 : Nr ax px) (h4 : Nr ay py) : -144115188075855872 ≤ dt ax ay bx by_ px py ∧ dt ax ay bx by_ px py ≤ 144115188075855872 := by
  unfold dt
  have := prod_bd h1 h3
  have := prod_bd h2 h4
  omega

theorem sub_f {a b c d : Int} (h1 : Nr c a) (h2 : Nr d b) : plane_Sub.f a b c d = some (a - c, b - d) := by
  unfold plane_Sub.f
  rw [w64 (by have := h1.1; omega) (by have := h1.2; omega), w64 (by have := h2.1; omega) (by have := h2.2; omega)]

theorem dot_f {ax ay bx by_ px py : Int} (h1 : Nr ax bx) (h2 : Nr ay by_) (h3 : Nr ax px) (h4 : Nr ay py) : plane_Dot.f ax ay bx by_ px py = some (dt ax ay bx by_ px py) := by
  unfold plane_Dot.f
  refine bind_of (sub_f h1 h2) (bind_of (sub_f h3 h4) ?_)
  have b1 := prod_bd h1 h3
  have b2 := prod_bd h2 h4
  show some (wrap64 (wrap64 ((bx - ax) * (px - ax)) + wrap64 ((by_ - ay) * (py - ay)))) = _
  rw [w64 (n := (bx - ax) * (px - ax)) (by omega) (by omega), w64 (n := (by_ - ay) * (py - ay)) (by omega) (by omega), w64 (by omega) (by omega)]
  rfl

theorem len2_f {ax ay bx by_ : Int} (h1 : Nr ax bx) (h2 : Nr ay by_) : plane_Len2.f ax ay bx by_ = some (ln ax ay bx by_) := by
  unfold plane_Len2.f
  exact bind_of (dot_f h1 h2 h1 h2) rfl

/-- How far along, of all 65536. -/
def lin (px py qx qy x y : Int) : Int := if dt px py qx qy x y ≤ 0 ∨ ln px py qx qy ≤ 0 then 0 else if dt px py qx qy x y ≥ ln px py qx qy then 65536 else dt px py qx qy x y * 65536 / ln px py qx qy

theorem linear_f (k : Nat) (c a b : Int) {px py qx qy x y : Int} (h1 : Nr px qx) (h2 : Nr py qy) (h3 : Nr px x) (h4 : Nr py y) : paint_linear.f (k + 1) c a b px py qx qy x y = some (lin px py qx qy x y) := by
  unfold paint_linear.f lin
  refine bind_of (dot_f h1 h2 h3 h4) (bind_of (len2_f h1 h2) ?_)
  have hb := dt_bd h1 h2 h3 h4
  have hl := ln_bd h1 h2
  generalize dt px py qx qy x y = d at *
  generalize ln px py qx qy = l at *
  by_cases c1 : d ≤ 0
  · rw [if_pos c1, paint_linear.j0, if_pos rfl, if_pos (Or.inl c1)]
  · rw [if_neg c1, paint_linear.j0]
    by_cases c2 : l ≤ 0
    · rw [decide_eq_true c2, if_pos rfl, if_pos (Or.inr c2)]
    · rw [decide_eq_false c2, if_neg (by decide)]
      rw [if_neg (show ¬ (d ≤ 0 ∨ l ≤ 0) by omega)]
      by_cases c3 : d ≥ l
      · rw [if_pos c3, if_pos c3]
      · rw [if_neg c3, if_neg c3]
        have e1 : IntKind.u64.wrap d = d := by rw [IntKind.wrap_u64]; omega
        have e2 : IntKind.u64.wrap l = l := by rw [IntKind.wrap_u64]; omega
        rw [e1, e2]
        have M : bits_Mul64.f d 65536 = some (d * 65536 / 18446744073709551616, d * 65536 % 18446744073709551616) := by
          unfold bits_Mul64.f
          rw [if_pos ⟨by omega, by omega, by omega, by omega⟩]
        have hd : d * 65536 / l < 65536 := Int.ediv_lt_of_lt_mul (by omega) (by omega)
        have hd0 : 0 ≤ d * 65536 / l := Int.ediv_nonneg (by omega) (by omega)
        have D : bits_Div64.f (d * 65536 / 18446744073709551616) (d * 65536 % 18446744073709551616) l = some (d * 65536 / l, d * 65536 % l) := by
          unfold bits_Div64.f
          rw [if_pos ⟨by omega, by omega, by omega, by omega, by omega⟩, show d * 65536 / 18446744073709551616 * 18446744073709551616 + d * 65536 % 18446744073709551616 = d * 65536 by omega]
        refine bind_of M (bind_of D ?_)
        dsimp only
        rw [w64 (by omega) (by omega)]

theorem part_lin (k : Nat) (a b : Int) {px py qx qy x y : Int} (h1 : Nr px qx) (h2 : Nr py qy) (h3 : Nr px x) (h4 : Nr py y) : paint_Part.f (k + 1) 1 a b px py qx qy x y = some (lin px py qx qy x y) := by
  unfold paint_Part.f
  rw [if_pos rfl]
  exact bind_of (linear_f k 1 a b h1 h2 h3 h4) rfl

theorem lin_bd {px py qx qy x y : Int} : 0 ≤ lin px py qx qy x y ∧ lin px py qx qy x y ≤ 65536 := by
  unfold lin
  split
  · omega
  · split
    · omega
    · rename_i h h'
      have h0 : 0 ≤ dt px py qx qy x y * 65536 / ln px py qx qy := Int.ediv_nonneg (by omega) (by omega)
      have h1 : dt px py qx qy x y * 65536 / ln px py qx qy < 65536 := Int.ediv_lt_of_lt_mul (by omega) (by omega)
      omega

theorem part_rad (k : Nat) (a b q : Int) {px py r x y s : Int} (hk : 32 < k) (h3 : Nr px x) (h4 : Nr py y) (r0 : 1 ≤ r) (r1 : r ≤ 1000000) (s0 : 0 ≤ s) (s1 : s ≤ 4000000000) (hs : s * s ≤ ln px py x y * 256) (hs' : ln px py x y * 256 < (s + 1) * (s + 1)) (hl : ln px py x y ≤ 30000000000000000) :
    paint_Part.f k 2 a b px py r q x y = some (mx (mn (rnd (4096 * s) r) 65536) 0) := by
  have l0 := ln_nonneg px py x y
  unfold paint_Part.f
  rw [if_neg (by omega), if_pos rfl, if_neg (by omega)]
  refine bind_of (len2_f h3 h4) ?_
  rw [w64 (n := ln px py x y * 256) (by omega) (by omega)]
  refine bind_of (sqrt_is s0 hs hs' (by omega) k hk) ?_
  rw [w64 (n := 4096 * s) (by omega) (by omega)]
  exact bind_of (round_f (by omega) (by omega) (by omega) (by omega)) (bind_of (x := mx (mn (rnd (4096 * s) r) 65536) 0) rfl rfl)

theorem rad_at (k : Nat) {px py r x y e : Int} (hk : 32 < k) (h3 : Nr px x) (h4 : Nr py y) (r0 : 1 ≤ r) (r1 : r ≤ 1000000) (e0 : 0 ≤ e) (e1 : e ≤ 1000000) (h : ln px py x y = e * e) :
    paint_Part.f k 2 0 0 px py r 0 x y = some (mx (mn (rnd (65536 * e) r) 65536) 0) := by
  have b := mul_bd (M := 1000000) (N := 1000000) (x := e) (y := e) (by omega) e1 (by omega) e1
  have p := part_rad k 0 0 0 (px := px) (py := py) (r := r) (x := x) (y := y) (s := 16 * e) hk h3 h4 r0 r1 (by omega) (by omega) (by rw [h]; grind) (by
    rw [h]
    have : (16 * e + 1) * (16 * e + 1) = 256 * (e * e) + 32 * e + 1 := by grind
    omega) (by rw [h]; omega)
  rw [p, show 4096 * (16 * e) = 65536 * e by omega]

theorem sq_pos {x : Int} (h : x ≠ 0) : 0 < x * x := by
  rcases Int.lt_or_gt_of_ne h with h | h
  · exact Int.mul_pos_of_neg_of_neg h h
  · exact Int.mul_pos h h

theorem tdiv_in {a : Int} (M : Int) (h0 : -M ≤ a) (h1 : a ≤ M) : -M ≤ Int.tdiv a 64 ∧ Int.tdiv a 64 ≤ M := by
  have t := Int.tmod_add_mul_tdiv a 64
  have t2 := tmod_in a (b := 64) (by omega)
  omega

theorem ends_j2 (k : Nat) {x y x' y' r n m : Int} (hk : 32 < k) (a0 : -100000 < x) (a1 : x < 100000) (b0 : -100000 < y) (b1 : y < 100000) (c0 : -100000 < x') (c1 : x' < 100000) (d0 : -100000 < y') (d1 : y' < 100000) (r0 : 1 ≤ r) (r1 : r ≤ 100000) (n0 : 0 ≤ n) (n1 : n ≤ m) (m1 : m ≤ 64) {z : Bool} (hz : z = true ↔ x' - x = 0 ∧ y' - y = 0) :
    glyphiclaw25_PaintEnds.j2 (k + 1) r n m true z x y x' y' 1 0 0 x y x' y' 2 0 0 x y r 0 (wrap64 (x' - x)) (wrap64 (y' - y)) = some true := by
  obtain ⟨q, rfl⟩ : ∃ q, k = q + 1 := ⟨k - 1, by omega⟩
  have A : paint_Part.f (q + 1) 1 0 0 x y x' y' x y = some 0 := by
    rw [part_lin q 0 0 (by unfold Nr; omega) (by unfold Nr; omega) (by unfold Nr; omega) (by unfold Nr; omega)]
    unfold lin
    rw [if_pos (Or.inl (by unfold dt; rw [show x - x = 0 by omega, show y - y = 0 by omega]; omega))]
  rw [glyphiclaw25_PaintEnds.j2]
  cases hc : z
  case true =>
    rw [if_pos rfl, if_pos rfl]
    exact bind_of A rfl
  rw [if_neg (by decide)]
  have hd : ¬ (x' - x = 0 ∧ y' - y = 0) := fun h => by rw [hz.mpr h] at hc; exact absurd hc (by decide)
  rw [w64 (n := x' - x) (by omega) (by omega), w64 (n := y' - y) (by omega) (by omega)]
  have L0 : 0 < (x' - x) * (x' - x) + (y' - y) * (y' - y) := by
    have z1 := sq_nonneg (x' - x)
    have z2 := sq_nonneg (y' - y)
    by_cases hx : x' - x = 0
    · have := sq_pos (x := y' - y) (fun h => hd ⟨hx, h⟩)
      omega
    · have := sq_pos hx
      omega
  have p1 := mul_bd (M := 200000) (N := 64) (x := x' - x) (y := n) (by omega) (by omega) (by omega) (by omega)
  have p2 := mul_bd (M := 200000) (N := 64) (x := y' - y) (y := n) (by omega) (by omega) (by omega) (by omega)
  have p3 := mul_bd (M := 200000) (N := 64) (x := x' - x) (y := m) (by omega) (by omega) (by omega) (by omega)
  have p4 := mul_bd (M := 200000) (N := 64) (x := y' - y) (y := m) (by omega) (by omega) (by omega) (by omega)
  have p5 := mul_bd (M := 200000) (N := 64) (x := r) (y := n) (by omega) (by omega) (by omega) (by omega)
  have p6 := mul_bd (M := 200000) (N := 64) (x := r) (y := m) (by omega) (by omega) (by omega) (by omega)
  have on_f : ∀ t : Int, -12800000 ≤ (x' - x) * t → (x' - x) * t ≤ 12800000 → -12800000 ≤ (y' - y) * t → (y' - y) * t ≤ 12800000 → ∃ u v, glyphiclaw25_on.f x y (x' - x) (y' - y) t = some (u, v) ∧ Nr x u ∧ Nr y v := by
    intro t h1 h2 h3 h4
    have t1 := tdiv_in 12800000 h1 h2
    have t2 := tdiv_in 12800000 h3 h4
    refine ⟨x + Int.tdiv ((x' - x) * t) 64, y + Int.tdiv ((y' - y) * t) 64, ?_, by unfold Nr; omega, by unfold Nr; omega⟩
    unfold glyphiclaw25_on.f
    rw [w64 (n := (x' - x) * t) (by omega) (by omega), w64 (n := (y' - y) * t) (by omega) (by omega), w64 (n := Int.tdiv ((x' - x) * t) 64) (by omega) (by omega), w64 (n := Int.tdiv ((y' - y) * t) 64) (by omega) (by omega), w64 (n := x + Int.tdiv ((x' - x) * t) 64) (by omega) (by omega), w64 (n := y + Int.tdiv ((y' - y) * t) 64) (by omega) (by omega)]
  obtain ⟨u1, v1, o1, n11, n12⟩ := on_f n (by omega) (by omega) (by omega) (by omega)
  obtain ⟨u2, v2, o2, n21, n22⟩ := on_f m (by omega) (by omega) (by omega) (by omega)
  have B : paint_Part.f (q + 1) 1 0 0 x y x' y' x' y' = some 65536 := by
    rw [part_lin q 0 0 (by unfold Nr; omega) (by unfold Nr; omega) (by unfold Nr; omega) (by unfold Nr; omega)]
    unfold lin dt ln
    rw [if_neg (by omega), if_pos (by omega)]
  have C : paint_Part.f (q + 1) 1 0 0 x y x' y' (x - (x' - x)) (y - (y' - y)) = some 0 := by
    rw [part_lin q 0 0 (by unfold Nr; omega) (by unfold Nr; omega) (by unfold Nr; omega) (by unfold Nr; omega)]
    unfold lin
    rw [if_pos (Or.inl (by
      unfold dt
      have e1 : (x' - x) * (x - (x' - x) - x) = -((x' - x) * (x' - x)) := by grind
      have e2 : (y' - y) * (y - (y' - y) - y) = -((y' - y) * (y' - y)) := by grind
      omega))]
  have D : paint_Part.f (q + 1) 1 0 0 x y x' y' (x' + (x' - x)) (y' + (y' - y)) = some 65536 := by
    rw [part_lin q 0 0 (by unfold Nr; omega) (by unfold Nr; omega) (by unfold Nr; omega) (by unfold Nr; omega)]
    have e1 : (x' - x) * (x' + (x' - x) - x) = 2 * ((x' - x) * (x' - x)) := by grind
    have e2 : (y' - y) * (y' + (y' - y) - y) = 2 * ((y' - y) * (y' - y)) := by grind
    unfold lin dt ln
    rw [e1, e2, if_neg (by omega), if_pos (by omega)]
  have hm : r * n ≤ r * m := Int.mul_le_mul_of_nonneg_left n1 (by omega)
  have hn : 0 ≤ r * n := Int.mul_nonneg (by omega) n0
  have t1 := tdiv_in (a := r * n) 12800000 (by omega) (by omega)
  have t2 := tdiv_in (a := r * m) 12800000 (by omega) (by omega)
  have f1 : Int.tdiv (r * n) 64 = r * n / 64 := Int.tdiv_eq_ediv_of_nonneg hn
  have f2 : Int.tdiv (r * m) 64 = r * m / 64 := Int.tdiv_eq_ediv_of_nonneg (by omega)
  have hrm : r * m ≤ 6400000 := by
    have := mul_bd (M := 100000) (N := 64) (x := r) (y := m) (by omega) (by omega) (by omega) (by omega)
    omega
  rw [w64 (n := r * n) (by omega) (by omega), w64 (n := r * m) (by omega) (by omega), f1, f2]
  have g0 : 0 ≤ r * n / 64 := Int.ediv_nonneg hn (by omega)
  have g1 : r * n / 64 ≤ r * m / 64 := Int.ediv_le_ediv (by omega) hm
  have g2 : r * m / 64 ≤ 100000 := by omega
  generalize r * n / 64 = dn at *
  generalize r * m / 64 = dm at *
  rw [w64 (n := dn) (by omega) (by omega), w64 (n := dm) (by omega) (by omega), w64 (n := x + dn) (by omega) (by omega), w64 (n := y - dm) (by omega) (by omega), w64 (n := x - (x' - x)) (by omega) (by omega), w64 (n := y - (y' - y)) (by omega) (by omega), w64 (n := x' + (x' - x)) (by omega) (by omega), w64 (n := y' + (y' - y)) (by omega) (by omega), w64 (n := x + r) (by omega) (by omega), w64 (n := 2 * r) (by omega) (by omega), w64 (n := y + 2 * r) (by omega) (by omega)]
  have U := rad_at (q + 1) (px := x) (py := y) (r := r) (x := x + dn) (y := y) (e := dn) hk (by unfold Nr; omega) (by unfold Nr; omega) r0 (by omega) g0 (by omega) (by unfold ln; grind)
  have V := rad_at (q + 1) (px := x) (py := y) (r := r) (x := x) (y := y - dm) (e := dm) hk (by unfold Nr; omega) (by unfold Nr; omega) r0 (by omega) (by omega) (by omega) (by unfold ln; grind)
  have R0 := rad_at (q + 1) (px := x) (py := y) (r := r) (x := x) (y := y) (e := 0) hk (by unfold Nr; omega) (by unfold Nr; omega) r0 (by omega) (by omega) (by omega) (by unfold ln; grind)
  have R1 := rad_at (q + 1) (px := x) (py := y) (r := r) (x := x + r) (y := y) (e := r) hk (by unfold Nr; omega) (by unfold Nr; omega) r0 (by omega) (by omega) (by omega) (by unfold ln; grind)
  have R2 := rad_at (q + 1) (px := x) (py := y) (r := r) (x := x) (y := y + 2 * r) (e := 2 * r) hk (by unfold Nr; omega) (by unfold Nr; omega) r0 (by omega) (by omega) (by omega) (by unfold ln; grind)
  have s0 : mx (mn (rnd (65536 * 0) r) 65536) 0 = 0 := by
    rw [rnd_is (q := 0) (by omega) (by omega) (by omega)]
    rfl
  have s1 : mx (mn (rnd (65536 * r) r) 65536) 0 = 65536 := by
    rw [rnd_is (q := 65536) (by omega) (by omega) (by omega)]
    rfl
  have s2 : mx (mn (rnd (65536 * (2 * r)) r) 65536) 0 = 65536 := by
    rw [rnd_is (q := 131072) (by omega) (by omega) (by omega)]
    rfl
  rw [s0] at R0
  rw [s1] at R1
  rw [s2] at R2
  have mono : rnd (65536 * dn) r ≤ rnd (65536 * dm) r := rnd_mono (by omega) (by omega)
  have uv : 0 ≤ mx (mn (rnd (65536 * dn) r) 65536) 0 ∧ mx (mn (rnd (65536 * dn) r) 65536) 0 ≤ mx (mn (rnd (65536 * dm) r) 65536) 0 ∧ mx (mn (rnd (65536 * dm) r) 65536) 0 ≤ 65536 := by
    unfold mx mn
    generalize rnd (65536 * dn) r = i at *
    generalize rnd (65536 * dm) r = j at *
    repeat' split
    all_goals omega
  refine bind_of o1 ?_
  dsimp only
  refine bind_of (part_lin q 0 0 (by unfold Nr; omega) (by unfold Nr; omega) n11 n12) (bind_of o2 ?_)
  dsimp only
  refine bind_of (part_lin q 0 0 (by unfold Nr; omega) (by unfold Nr; omega) n21 n22) (bind_of U (bind_of V ?_))
  have l1 := lin_bd (px := x) (py := y) (qx := x') (qy := y') (x := u1) (y := v1)
  have l2 := lin_bd (px := x) (py := y) (qx := x') (qy := y') (x := u2) (y := v2)
  generalize lin x y x' y' u1 v1 = i1 at *
  generalize lin x y x' y' u2 v2 = i2 at *
  generalize mx (mn (rnd (65536 * dn) r) 65536) 0 = i3 at *
  generalize mx (mn (rnd (65536 * dm) r) 65536) 0 = i4 at *
  rw [if_pos rfl]
  refine bind_of A ?_
  rw [if_pos rfl]
  refine bind_of B ?_
  rw [if_pos rfl]
  refine bind_of C ?_
  rw [if_pos rfl]
  refine bind_of D ?_
  rw [if_pos rfl]
  refine bind_of R0 ?_
  rw [if_pos rfl]
  refine bind_of R1 ?_
  rw [if_pos rfl]
  refine bind_of R2 ?_
  rw [if_pos rfl, if_pos (by omega), if_pos (by omega), if_pos (by omega), if_pos (by omega)]
  by_cases hs : wrap64 (m - n) < 2
  · rw [if_pos hs]
  · rw [if_neg hs, if_neg (by omega)]
    have w0 : 0 ≤ Int.tdiv 70000 r := by
      rw [Int.tdiv_eq_ediv_of_nonneg (by omega)]
      exact Int.ediv_nonneg (by omega) (by omega)
    have w1 : Int.tdiv 70000 r ≤ 70000 := by
      rw [Int.tdiv_eq_ediv_of_nonneg (show (0 : Int) ≤ 70000 by omega)]
      exact Int.ediv_le_self r (show (0 : Int) ≤ 70000 by omega)
    rw [w64 (n := Int.tdiv 70000 r) (by omega) (by omega), w64 (n := i4 + Int.tdiv 70000 r) (by omega) (by omega), w64 (n := i4 + Int.tdiv 70000 r + 1) (by omega) (by omega), decide_eq_true (by omega)]

theorem ends_j1 (k : Nat) {x y x' y' r n m : Int} (hk : 32 < k) (a0 : -100000 < x) (a1 : x < 100000) (b0 : -100000 < y) (b1 : y < 100000) (c0 : -100000 < x') (c1 : x' < 100000) (d0 : -100000 < y') (d1 : y' < 100000) (r0 : 1 ≤ r) (r1 : r ≤ 100000) (n0 : 0 ≤ n) (n1 : n ≤ m) (m1 : m ≤ 64) :
    glyphiclaw25_PaintEnds.j1 (k + 2) r n m true x y x' y' = some true := by
  have J : ∀ z : Bool, (z = true ↔ x' - x = 0 ∧ y' - y = 0) → _ := fun z hz => ends_j2 k (z := z) hk a0 a1 b0 b1 c0 c1 d0 d1 r0 r1 n0 n1 m1 hz
  have wx : wrap64 (x' - x) = x' - x := w64 (by omega) (by omega)
  have wy : wrap64 (y' - y) = y' - y := w64 (by omega) (by omega)
  rw [glyphiclaw25_PaintEnds.j1]
  by_cases h : wrap64 (x' - x) = 0
  · rw [if_pos h]
    exact J _ (by rw [wy]; rw [wx] at h; simp [h])
  · rw [if_neg h]
    exact J _ (by rw [wx] at h; simp [h])

theorem ends_j0 (k : Nat) {x y x' y' r0 n0 m0 : Int} (hk : 32 < k) (a0 : -100000 < x) (a1 : x < 100000) (b0 : -100000 < y) (b1 : y < 100000) (c0 : -100000 < x') (c1 : x' < 100000) (d0 : -100000 < y') (d1 : y' < 100000) (hr : 0 ≤ r0) :
    glyphiclaw25_PaintEnds.j0 (k + 3) r0 n0 m0 true x y x' y' = some true := by
  rw [glyphiclaw25_PaintEnds.j0]
  obtain ⟨n, en, n1, n2⟩ := cyc n0 (b := 65) (by omega) (by omega)
  obtain ⟨m, em, m1, m2⟩ := cyc m0 (b := 65) (by omega) (by omega)
  rw [en, em]
  have t := tmod_in r0 (b := 100000) (by omega)
  have t' : 0 ≤ Int.tmod r0 100000 := Int.tmod_nonneg _ hr
  rw [w64 (n := Int.tmod r0 100000 + 1) (by omega) (by omega)]
  by_cases h : n > m
  · rw [if_pos h]
    exact ends_j1 k hk a0 a1 b0 b1 c0 c1 d0 d1 (by omega) (by omega) (by omega) (by omega) (by omega)
  · rw [if_neg h]
    exact ends_j1 k hk a0 a1 b0 b1 c0 c1 d0 d1 (by omega) (by omega) (by omega) (by omega) (by omega)

theorem PaintEnds : glyphiclaw25_PaintEnds.Pure := by
  intro a0 a1 b0 b1 r n m _ _ _ _ hr _ _
  have hf : glyphiclaw25_first.f 40 = some true := by decide +kernel
  refine ⟨40, ?_⟩
  unfold glyphiclaw25_PaintEnds.f
  refine bind_of hf ?_
  rw [if_pos rfl]
  have t1 := tmod_in a0 (b := 100000) (by omega)
  have t2 := tmod_in a1 (b := 100000) (by omega)
  have t3 := tmod_in b0 (b := 100000) (by omega)
  have t4 := tmod_in b1 (b := 100000) (by omega)
  have hw := bounds_i64 hr
  by_cases h : r < 0
  · rw [if_pos h, w64 (n := r + 1) (by omega) (by omega), w64 (n := -(r + 1)) (by omega) (by omega)]
    exact ends_j0 37 (by omega) t1.1 t1.2 t2.1 t2.2 t3.1 t3.2 t4.1 t4.2 (by omega)
  · rw [if_neg h]
    exact ends_j0 37 (by omega) t1.1 t1.2 t2.1 t2.2 t3.1 t3.2 t4.1 t4.2 (by omega)

end Go.Proofs.Ytmbcokndaaelaaa.Pure
