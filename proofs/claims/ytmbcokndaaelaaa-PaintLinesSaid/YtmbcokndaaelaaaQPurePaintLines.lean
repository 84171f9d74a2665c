/- PaintLines is true for every input. -/
import Derived.Test.YtmbcokndaaelaaaQPaintLinesx6
import Derived.OpenShut
namespace Go.Proofs.Ytmbcokndaaelaaa.Pure
open Go.RowKit Go.Proofs.Ytmbcokndaaelaaa.QPaintLines Go.Proofs.YtmbcokndaaelaaaW.PrintWords Go.Proofs.YtmbcokndaaelaaaW.PrintLast Go.Proofs.YtmbcokndaaelaaaW.PrintMore

theorem bind_of {α β : Type} {o : Option α} {f : α → Option β} {x : α} {r : Option β} (h : o = some x) (h2 : f x = r) : o.bind f = r := by
  subst h
  exact h2

theorem w64 {n : Int} (h0 : -9223372036854775808 ≤ n) (h1 : n ≤ 9223372036854775807) : wrap64 n = n := by
  unfold wrap64
  omega

theorem div_is {a b q : Int} (hb : 0 < b) (h1 : q * b ≤ a) (h2 : a < q * b + b) : a / b = q := by
  apply Int.le_antisymm
  · exact Int.lt_add_one_iff.1 (Int.ediv_lt_of_lt_mul hb (by rw [Int.add_mul, Int.one_mul]; exact h2))
  · exact Int.le_ediv_of_mul_le hb h1

theorem div_in (a : Int) {b : Int} (hb : 0 < b) : a / b * b ≤ a ∧ a < a / b * b + b := by
  have h1 := Int.mul_ediv_add_emod a b
  have h2 := Int.emod_nonneg a (Int.ne_of_gt hb)
  have h3 := Int.emod_lt_of_pos a hb
  rw [Int.mul_comm] at h1
  omega

theorem div_bd (a : Int) {b : Int} (hb : 0 < b) : (0 ≤ a → 0 ≤ a / b ∧ a / b ≤ a) ∧ (a < 0 → a ≤ a / b ∧ a / b < 0) := by
  obtain ⟨h1, h2⟩ := div_in a hb
  refine ⟨fun h => ⟨Int.ediv_nonneg h (by omega), Int.ediv_le_self _ h⟩, fun h => ⟨?_, Int.ediv_neg_of_neg_of_pos h hb⟩⟩
  exact Int.le_ediv_of_mul_le hb (by
    have : a * b ≤ a * 1 := Int.mul_le_mul_of_nonpos_left (by omega) (by omega)
    omega)

theorem tmod_in (a : Int) {b : Int} (hb : 0 < b) : -b < Int.tmod a b ∧ Int.tmod a b < b := by
  rw [Int.tmod_eq_emod]
  have h2 := Int.emod_nonneg a (show b ≠ 0 by omega)
  have h3 := Int.emod_lt_of_pos a hb
  split
  · omega
  · have : ((b.natAbs : Nat) : Int) = b := by omega
    rename_i h
    have hne : a % b ≠ 0 := fun h0 => h (Or.inr (Int.dvd_of_emod_eq_zero h0))
    omega

theorem tmod_pos {a b : Int} (ha : 0 ≤ a) : Int.tmod a b = a % b := by
  rw [Int.tmod_eq_emod, if_pos (Or.inl ha)]; omega

theorem cyc (a : Int) {b : Int} (hb : 0 < b) (hb1 : b ≤ 4611686018427387903) : ∃ s, Int.tmod (wrap64 (Int.tmod a b + b)) b = s ∧ 0 ≤ s ∧ s < b := by
  have h := tmod_in a hb
  refine ⟨_, rfl, ?_⟩
  rw [w64 (by omega) (by omega), tmod_pos (by omega)]
  exact ⟨Int.emod_nonneg _ (by omega), Int.emod_lt_of_pos _ hb⟩

/-- The nearest of a part, of two the greater. -/
def rnd (a b : Int) : Int := (2 * a + b) / (2 * b)

theorem rnd_is {a b q : Int} (hb : 0 < b) (h1 : 2 * (q * b) ≤ 2 * a + b) (h2 : 2 * a < 2 * (q * b) + b) : rnd a b = q := by
  unfold rnd
  apply div_is (by omega)
  · rw [Int.mul_left_comm]; omega
  · rw [Int.mul_left_comm]; omega

theorem rnd_in (a : Int) {b : Int} (hb : 0 < b) : 2 * (rnd a b * b) ≤ 2 * a + b ∧ 2 * a < 2 * (rnd a b * b) + b := by
  unfold rnd
  obtain ⟨h1, h2⟩ := div_in (2 * a + b) (b := 2 * b) (by omega)
  rw [Int.mul_left_comm] at h1 h2
  omega

theorem rnd_mono {a c b : Int} (hb : 0 < b) (h : a ≤ c) : rnd a b ≤ rnd c b := by
  unfold rnd
  exact Int.ediv_le_ediv (by omega) (by omega)

theorem down_f {a b : Int} (hb : 1 ≤ b) (ha0 : -9223372036854775808 ≤ a) (ha1 : a ≤ 9223372036854775807) : fixed_Down.f a b = some (a / b) := by
  unfold fixed_Down.f
  rw [if_neg (by omega), if_neg (by omega)]
  have hbd := div_bd a (b := b) (by omega)
  by_cases h : 0 ≤ a ∨ b ∣ a
  · have e1 : Int.tdiv a b = a / b := by rw [Int.tdiv_eq_ediv, if_pos h]; omega
    have e2 : Int.tmod a b = a % b := by rw [Int.tmod_eq_emod, if_pos h]; omega
    have h2 := Int.emod_nonneg a (show b ≠ 0 by omega)
    rw [e1, e2, if_neg (by omega), w64 (by omega) (by omega)]
  · have e1 : Int.tdiv a b = a / b + 1 := by rw [Int.tdiv_eq_ediv, if_neg h, Int.sign_eq_one_of_pos (by omega)]
    have e2 : Int.tmod a b = a % b - b := by rw [Int.tmod_eq_emod, if_neg h]; omega
    have h3 := Int.emod_lt_of_pos a (show 0 < b by omega)
    rw [e1, e2, if_pos (by omega), w64 (n := a / b + 1) (by omega) (by omega), w64 (by omega) (by omega)]
    congr 1
    omega

theorem round_f {a b : Int} (hb : 1 ≤ b) (hb1 : b ≤ 9223372036854775807) (ha0 : -9223372036854775808 ≤ a) (ha1 : a ≤ 9223372036854775807) : fixed_Round.f a b = some (rnd a b) := by
  unfold fixed_Round.f
  rw [if_neg (by omega), down_f hb ha0 ha1]
  simp only [Option.bind_some]
  obtain ⟨h1, h2⟩ := div_in a (b := b) (by omega)
  have hbd := div_bd a (b := b) (by omega)
  have e : wrap64 (a - wrap64 (a / b * b)) = a - a / b * b := by
    unfold wrap64
    omega
  rw [e, w64 (n := b - (a - a / b * b)) (by omega) (by omega)]
  by_cases h : a - a / b * b ≥ b - (a - a / b * b)
  · rw [if_pos h]
    have h3 : a / b + 1 ≤ 9223372036854775807 := by
      by_cases hq : a / b < 9223372036854775807
      · omega
      · by_cases h1b : b = 1
        · subst h1b; omega
        · have : a / b * 2 ≤ a / b * b := Int.mul_le_mul_of_nonneg_left (by omega) (by omega)
          omega
    rw [w64 (by omega) h3, rnd_is (q := a / b + 1) (by omega)]
    · rw [Int.add_mul]; omega
    · rw [Int.add_mul]; omega
  · rw [if_neg h, rnd_is (q := a / b) (by omega)]
    · omega
    · omega

theorem rnd_near (a : Int) {b : Int} (hb : 0 < b) : rnd a b = a / b ∨ rnd a b = a / b + 1 := by
  obtain ⟨h1, h2⟩ := div_in a hb
  by_cases h : 2 * (a - a / b * b) < b
  · left
    exact rnd_is hb (by omega) (by omega)
  · right
    exact rnd_is hb (by rw [Int.add_mul]; omega) (by rw [Int.add_mul]; omega)

theorem rnd_next (a : Int) {b : Int} (hb : 0 < b) : rnd (a + b) b = rnd a b + 1 := by
  obtain ⟨h1, h2⟩ := rnd_in a hb
  exact rnd_is hb (by rw [Int.add_mul]; omega) (by rw [Int.add_mul]; omega)

theorem sq_le {a b : Int} (h0 : 0 ≤ a) (h : a ≤ b) : a * a ≤ b * b := Int.mul_le_mul h h h0 (by omega)

theorem root_one {n r s : Int} (r0 : 0 ≤ r) (s0 : 0 ≤ s) (r1 : r * r ≤ n) (r2 : n < (r + 1) * (r + 1)) (s1 : s * s ≤ n) (s2 : n < (s + 1) * (s + 1)) : r = s := by
  by_cases h : r < s
  · have := sq_le (a := r + 1) (b := s) (by omega) (by omega)
    omega
  · by_cases h' : s < r
    · have := sq_le (a := s + 1) (b := r) (by omega) (by omega)
      omega
    · omega

theorem mid_le {m n : Int} (hm : 1 ≤ m) (hn : 0 ≤ n) : m ≤ Int.tdiv n m ↔ m * m ≤ n := by
  rw [Int.tdiv_eq_ediv, if_pos (Or.inl hn), Int.add_zero]
  exact Int.le_ediv_iff_mul_le (by omega)

theorem sqrt_l (d : Nat) : ∀ (k : Nat) (n lo hi : Int), d < k → hi - lo = 2 ^ d → 0 ≤ n → n ≤ 9223372036854775807 → 0 ≤ lo → hi ≤ 4294967296 → lo * lo ≤ n → n < hi * hi →
    ∃ r, fixed_Sqrt.l0 k n lo hi = some r ∧ 0 ≤ r ∧ r * r ≤ n ∧ n < (r + 1) * (r + 1) := by
  induction d with
  | zero =>
    intro k n lo hi hk e n0 n1 h0 h1 h2 h3
    obtain ⟨k, rfl⟩ : ∃ m, k = m + 1 := ⟨k - 1, by omega⟩
    have e1 : hi = lo + 1 := by have : hi - lo = 1 := e; omega
    subst e1
    refine ⟨lo, ?_, h0, h2, h3⟩
    rw [fixed_Sqrt.l0, w64 (n := lo + 1 - lo) (by omega) (by omega), if_neg (by omega)]
  | succ d ih =>
    intro k n lo hi hk e n0 n1 h0 h1 h2 h3
    obtain ⟨k, rfl⟩ : ∃ m, k = m + 1 := ⟨k - 1, by omega⟩
    have hp : (0 : Int) < 2 ^ d := Int.pow_pos (by omega)
    have e2 : hi - lo = 2 * 2 ^ d := by rw [e, Int.pow_succ]; omega
    generalize (2 : Int) ^ d = q at *
    have eh : hi = lo + 2 * q := by omega
    subst eh
    have em : wrap64 (lo + wrap64 (Int.tdiv (wrap64 (lo + 2 * q - lo)) 2)) = lo + q := by
      rw [w64 (n := lo + 2 * q - lo) (by omega) (by omega), Int.tdiv_eq_ediv, if_pos (Or.inl (by omega)), w64 (n := (lo + 2 * q - lo) / 2 + 0) (by omega) (by omega), w64 (by omega) (by omega)]
      omega
    have hdb := mid_le (m := lo + q) (n := n) (by omega) n0
    have hq : wrap64 (Int.tdiv n (lo + q)) = Int.tdiv n (lo + q) := by
      rw [Int.tdiv_eq_ediv, if_pos (Or.inl n0)]
      have := div_bd n (b := lo + q) (by omega)
      exact w64 (by omega) (by omega)
    rw [fixed_Sqrt.l0, em, hq, w64 (n := lo + 2 * q - lo) (by omega) (by omega), if_pos (by omega), if_neg (by omega)]
    by_cases hc : lo + q ≤ Int.tdiv n (lo + q)
    · rw [if_pos hc]
      exact ih k n (lo + q) (lo + 2 * q) (by omega) (by omega) n0 n1 (by omega) h1 (hdb.1 hc) h3
    · rw [if_neg hc]
      exact ih k n lo (lo + q) (by omega) (by omega) n0 n1 h0 (by omega) h2 (by
        by_cases hh : n < (lo + q) * (lo + q)
        · exact hh
        · exact absurd (hdb.2 (by omega)) hc)

theorem sqrt_f {n : Int} (n0 : 0 ≤ n) (n1 : n ≤ 9223372036854775807) (k : Nat) (hk : 32 < k) : ∃ r, fixed_Sqrt.f k n = some r ∧ 0 ≤ r ∧ r * r ≤ n ∧ n < (r + 1) * (r + 1) := by
  unfold fixed_Sqrt.f
  by_cases h : n < 1
  · rw [if_pos h]
    exact ⟨0, rfl, by omega, by omega, by omega⟩
  · rw [if_neg h]
    exact sqrt_l 32 k n 0 4294967296 hk (by omega) n0 n1 (by omega) (by omega) (by omega) (by omega)

theorem sqrt_is {n s : Int} (s0 : 0 ≤ s) (s1 : s * s ≤ n) (s2 : n < (s + 1) * (s + 1)) (n1 : n ≤ 9223372036854775807) (k : Nat) (hk : 32 < k) : fixed_Sqrt.f k n = some s := by
  have n0 : 0 ≤ n := Int.le_trans (Int.mul_nonneg s0 s0) s1
  obtain ⟨r, hr, r0, r1, r2⟩ := sqrt_f n0 n1 k hk
  rw [hr, root_one r0 s0 r1 r2 s1 s2]

theorem mul_bd {x y M N : Int} (hx0 : -M ≤ x) (hx1 : x ≤ M) (hy0 : -N ≤ y) (hy1 : y ≤ N) : -(M * N) ≤ x * y ∧ x * y ≤ M * N := by
  have h : (x * y).natAbs ≤ M.toNat * N.toNat := by
    rw [Int.natAbs_mul]
    exact Nat.mul_le_mul (by omega) (by omega)
  have e : ((M.toNat * N.toNat : Nat) : Int) = M * N := by
    rw [Int.natCast_mul, Int.toNat_of_nonneg (by omega), Int.toNat_of_nonneg (by omega)]
  omega

/-- Two numbers no farther apart than that. -/
def Nr (a b : Int) : Prop := -268435456 ≤ b - a ∧ b - a ≤ 268435456

theorem prod_bd {a b c d : Int} (h1 : Nr a b) (h2 : Nr c d) : -72057594037927936 ≤ (b - a) * (d - c) ∧ (b - a) * (d - c) ≤ 72057594037927936 := mul_bd (M := 268435456) (N := 268435456) (by have := h1.1; omega) h1.2 (by have := h2.1; omega) h2.2

def dt (ax ay bx by_ px py : Int) : Int := (bx - ax) * (px - ax) + (by_ - ay) * (py - ay)
def ln (ax ay bx by_ : Int) : Int := (bx - ax) * (bx - ax) + (by_ - ay) * (by_ - ay)

theorem sq_nonneg (x : Int) : 0 ≤ x * x := by
  rcases Int.le_total 0 x with h | h
  · exact Int.mul_nonneg h h
  · exact Int.mul_nonneg_of_nonpos_of_nonpos h h

theorem ln_nonneg (ax ay bx by_ : Int) : 0 ≤ ln ax ay bx by_ := by
  unfold ln
  have := sq_nonneg (bx - ax)
  have := sq_nonneg (by_ - ay)
  omega

theorem ln_bd {ax ay bx by_ : Int} (h1 : Nr ax bx) (h2 : Nr ay by_) : ln ax ay bx by_ ≤ 144115188075855872 := by
  unfold ln
  have := prod_bd h1 h1
  have := prod_bd h2 h2
  omega

theorem dt_bd {ax ay bx by_ px py : Int} (h1 : Nr ax bx) (h2 : Nr ay by_) (h3 : Nr ax px) (h4 : Nr ay py) : -144115188075855872 ≤ dt ax ay bx by_ px py ∧ dt ax ay bx by_ px py ≤ 144115188075855872 := by
  unfold dt
  have := prod_bd h1 h3
  have := prod_bd h2 h4
  omega

theorem sub_f {a b c d : Int} (h1 : Nr c a) (h2 : Nr d b) : plane_Sub.f a b c d = some (a - c, b - d) := by
  unfold plane_Sub.f
  rw [w64 (by have := h1.1; omega) (by have := h1.2; omega), w64 (by have := h2.1; omega) (by have := h2.2; omega)]

theorem dot_f {ax ay bx by_ px py : Int} (h1 : Nr ax bx) (h2 : Nr ay by_) (h3 : Nr ax px) (h4 : Nr ay py) : plane_Dot.f ax ay bx by_ px py = some (dt ax ay bx by_ px py) := by
  unfold plane_Dot.f
  refine bind_of (sub_f h1 h2) (bind_of (sub_f h3 h4) ?_)
  have b1 := prod_bd h1 h3
  have b2 := prod_bd h2 h4
  show some (wrap64 (wrap64 ((bx - ax) * (px - ax)) + wrap64 ((by_ - ay) * (py - ay)))) = _
  rw [w64 (n := (bx - ax) * (px - ax)) (by omega) (by omega), w64 (n := (by_ - ay) * (py - ay)) (by omega) (by omega), w64 (by omega) (by omega)]
  rfl

theorem len2_f {ax ay bx by_ : Int} (h1 : Nr ax bx) (h2 : Nr ay by_) : plane_Len2.f ax ay bx by_ = some (ln ax ay bx by_) := by
  unfold plane_Len2.f
  exact bind_of (dot_f h1 h2 h1 h2) rfl

/-- How far along, of all 65536. -/
def lin (px py qx qy x y : Int) : Int := if dt px py qx qy x y ≤ 0 ∨ ln px py qx qy ≤ 0 then 0 else if dt px py qx qy x y ≥ ln px py qx qy then 65536 else dt px py qx qy x y * 65536 / ln px py qx qy

theorem linear_f (k : Nat) (c a b : Int) {px py qx qy x y : Int} (h1 : Nr px qx) (h2 : Nr py qy) (h3 : Nr px x) (h4 : Nr py y) : paint_linear.f (k + 1) c a b px py qx qy x y = some (lin px py qx qy x y) := by
  unfold paint_linear.f lin
  refine bind_of (dot_f h1 h2 h3 h4) (bind_of (len2_f h1 h2) ?_)
  have hb := dt_bd h1 h2 h3 h4
  have hl := ln_bd h1 h2
  generalize dt px py qx qy x y = d at *
  generalize ln px py qx qy = l at *
  by_cases c1 : d ≤ 0
  · rw [if_pos c1, paint_linear.j0, if_pos rfl, if_pos (Or.inl c1)]
  · rw [if_neg c1, paint_linear.j0]
    by_cases c2 : l ≤ 0
    · rw [decide_eq_true c2, if_pos rfl, if_pos (Or.inr c2)]
    · rw [decide_eq_false c2, if_neg (by decide)]
      rw [if_neg (show ¬ (d ≤ 0 ∨ l ≤ 0) by omega)]
      by_cases c3 : d ≥ l
      · rw [if_pos c3, if_pos c3]
      · rw [if_neg c3, if_neg c3]
        have e1 : IntKind.u64.wrap d = d := by rw [IntKind.wrap_u64]; omega
        have e2 : IntKind.u64.wrap l = l := by rw [IntKind.wrap_u64]; omega
        rw [e1, e2]
        have M : bits_Mul64.f d 65536 = some (d * 65536 / 18446744073709551616, d * 65536 % 18446744073709551616) := by
          unfold bits_Mul64.f
          rw [if_pos ⟨by omega, by omega, by omega, by omega⟩]
        have hd : d * 65536 / l < 65536 := Int.ediv_lt_of_lt_mul (by omega) (by omega)
        have hd0 : 0 ≤ d * 65536 / l := Int.ediv_nonneg (by omega) (by omega)
        have D : bits_Div64.f (d * 65536 / 18446744073709551616) (d * 65536 % 18446744073709551616) l = some (d * 65536 / l, d * 65536 % l) := by
          unfold bits_Div64.f
          rw [if_pos ⟨by omega, by omega, by omega, by omega, by omega⟩, show d * 65536 / 18446744073709551616 * 18446744073709551616 + d * 65536 % 18446744073709551616 = d * 65536 by omega]
        refine bind_of M (bind_of D ?_)
        dsimp only
        rw [w64 (by omega) (by omega)]

theorem part_lin (k : Nat) (a b : Int) {px py qx qy x y : Int} (h1 : Nr px qx) (h2 : Nr py qy) (h3 : Nr px x) (h4 : Nr py y) : paint_Part.f (k + 1) 1 a b px py qx qy x y = some (lin px py qx qy x y) := by
  unfold paint_Part.f
  rw [if_pos rfl]
  exact bind_of (linear_f k 1 a b h1 h2 h3 h4) rfl

theorem lin_bd {px py qx qy x y : Int} : 0 ≤ lin px py qx qy x y ∧ lin px py qx qy x y ≤ 65536 := by
  unfold lin
  split
  · omega
  · split
    · omega
    · rename_i h h'
      have h0 : 0 ≤ dt px py qx qy x y * 65536 / ln px py qx qy := Int.ediv_nonneg (by omega) (by omega)
      have h1 : dt px py qx qy x y * 65536 / ln px py qx qy < 65536 := Int.ediv_lt_of_lt_mul (by omega) (by omega)
      omega

theorem part_rad (k : Nat) (a b q : Int) {px py r x y s : Int} (hk : 32 < k) (h3 : Nr px x) (h4 : Nr py y) (r0 : 1 ≤ r) (r1 : r ≤ 1000000) (s0 : 0 ≤ s) (s1 : s ≤ 4000000000) (hs : s * s ≤ ln px py x y * 256) (hs' : ln px py x y * 256 < (s + 1) * (s + 1)) (hl : ln px py x y ≤ 30000000000000000) :
    paint_Part.f k 2 a b px py r q x y = some (mx (mn (rnd (4096 * s) r) 65536) 0) := by
  have l0 := ln_nonneg px py x y
  unfold paint_Part.f
  rw [if_neg (by omega), if_pos rfl, if_neg (by omega)]
  refine bind_of (len2_f h3 h4) ?_
  rw [w64 (n := ln px py x y * 256) (by omega) (by omega)]
  refine bind_of (sqrt_is s0 hs hs' (by omega) k hk) ?_
  rw [w64 (n := 4096 * s) (by omega) (by omega)]
  exact bind_of (round_f (by omega) (by omega) (by omega) (by omega)) (bind_of (x := mx (mn (rnd (4096 * s) r) 65536) 0) rfl rfl)

theorem PaintLines : glyphiclaw25_PaintLines.Pure := by
  intro a0 a1 d0 d1 n0 s0 _ _ _ _ _ _
  have hf : glyphiclaw25_first.f 40 = some true := by decide +kernel
  refine ⟨40, ?_⟩
  unfold glyphiclaw25_PaintLines.f
  refine bind_of hf ?_
  rw [if_pos rfl]
  have t1 := tmod_in a0 (b := 100000) (by omega)
  have t2 := tmod_in a1 (b := 100000) (by omega)
  have t3 := tmod_in d0 (b := 300) (by omega)
  have t4 := tmod_in d1 (b := 300) (by omega)
  have t5 := tmod_in s0 (b := 100) (by omega)
  obtain ⟨n, en, n1, n2⟩ := cyc n0 (b := 257) (by omega) (by omega)
  generalize Int.tmod a0 100000 = x at *
  generalize Int.tmod a1 100000 = y at *
  generalize Int.tmod d0 300 = dx at *
  generalize Int.tmod d1 300 = dy at *
  have main : ¬ (dx = 0 ∧ dy = 0) → glyphiclaw25_PaintLines.j0 40 n0 s0 true false x y dx dy = some true := by
    intro hd
    rw [glyphiclaw25_PaintLines.j0, if_neg (by decide), if_pos rfl, en]
    generalize Int.tmod s0 100 = s at *
    have p1 := mul_bd (M := 256) (N := 300) (x := n) (y := dx) (by omega) (by omega) (by omega) (by omega)
    have p2 := mul_bd (M := 256) (N := 300) (x := n) (y := dy) (by omega) (by omega) (by omega) (by omega)
    have p3 := mul_bd (M := 100) (N := 300) (x := s) (y := dx) (by omega) (by omega) (by omega) (by omega)
    have p4 := mul_bd (M := 100) (N := 300) (x := s) (y := dy) (by omega) (by omega) (by omega) (by omega)
    have q1 := mul_bd (M := 300) (N := 300) (x := dx) (y := dx) (by omega) (by omega) (by omega) (by omega)
    have q2 := mul_bd (M := 300) (N := 300) (x := dy) (y := dy) (by omega) (by omega) (by omega) (by omega)
    rw [w64 (n := 256 * dx) (by omega) (by omega), w64 (n := 256 * dy) (by omega) (by omega), w64 (n := n * dx) (by omega) (by omega), w64 (n := n * dy) (by omega) (by omega), w64 (n := s * dx) (by omega) (by omega), w64 (n := s * dy) (by omega) (by omega), w64 (n := x + 256 * dx) (by omega) (by omega), w64 (n := y + 256 * dy) (by omega) (by omega), w64 (n := x + n * dx) (by omega) (by omega), w64 (n := y + n * dy) (by omega) (by omega), w64 (n := x + n * dx - s * dy) (by omega) (by omega), w64 (n := y + n * dy + s * dx) (by omega) (by omega), w64 (n := 256 * n) (by omega) (by omega)]
    have L0 : 0 < dx * dx + dy * dy := by
      have z1 := sq_nonneg dx
      have z2 := sq_nonneg dy
      by_cases hx : dx = 0
      · have hy : dy ≠ 0 := fun h => hd ⟨hx, h⟩
        have : 0 < dy * dy := by
          rcases Int.lt_or_gt_of_ne hy with h | h
          · exact Int.mul_pos_of_neg_of_neg h h
          · exact Int.mul_pos h h
        omega
      · have : 0 < dx * dx := by
          rcases Int.lt_or_gt_of_ne hx with h | h
          · exact Int.mul_pos_of_neg_of_neg h h
          · exact Int.mul_pos h h
        omega
    have e1 : ln x y (x + 256 * dx) (y + 256 * dy) = 65536 * (dx * dx + dy * dy) := by unfold ln; grind
    have e2 : dt x y (x + 256 * dx) (y + 256 * dy) (x + n * dx) (y + n * dy) = 256 * (n * (dx * dx + dy * dy)) := by unfold dt; grind
    have e3 : dt x y (x + 256 * dx) (y + 256 * dy) (x + n * dx - s * dy) (y + n * dy + s * dx) = 256 * (n * (dx * dx + dy * dy)) := by unfold dt; grind
    have key : ∀ d : Int, d = 256 * (n * (dx * dx + dy * dy)) → (if d ≤ 0 ∨ 65536 * (dx * dx + dy * dy) ≤ 0 then 0 else if d ≥ 65536 * (dx * dx + dy * dy) then 65536 else d * 65536 / (65536 * (dx * dx + dy * dy))) = 256 * n := by
      intro d hd
      generalize dx * dx + dy * dy = L at *
      by_cases hz : n = 0
      · subst hz
        rw [if_pos (Or.inl (by rw [hd, Int.zero_mul]; omega))]
        omega
      · have h1 : 0 < n * L := Int.mul_pos (by omega) L0
        rw [if_neg (by omega)]
        by_cases h6 : n = 256
        · rw [if_pos (by rw [hd, h6]; omega), h6]
          rfl
        · have h2 : n * L ≤ 255 * L := Int.mul_le_mul_of_nonneg_right (by omega) (by omega)
          rw [if_neg (by omega)]
          refine div_is (by omega) ?_ ?_
          · have e : 256 * n * (65536 * L) = 256 * 65536 * (n * L) := by grind
            omega
          · have e : 256 * n * (65536 * L) = 256 * 65536 * (n * L) := by grind
            omega
    refine bind_of (part_lin 38 0 0 (by unfold Nr; omega) (by unfold Nr; omega) (by unfold Nr; omega) (by unfold Nr; omega)) ?_
    have k1 : lin x y (x + 256 * dx) (y + 256 * dy) (x + n * dx) (y + n * dy) = 256 * n := by
      unfold lin
      rw [e1]
      exact key _ e2
    have k2 : lin x y (x + 256 * dx) (y + 256 * dy) (x + n * dx - s * dy) (y + n * dy + s * dx) = 256 * n := by
      unfold lin
      rw [e1]
      exact key _ e3
    rw [if_pos k1]
    refine bind_of (part_lin 38 0 0 (by unfold Nr; omega) (by unfold Nr; omega) (by unfold Nr; omega) (by unfold Nr; omega)) ?_
    rw [k2]
    simp
  by_cases hx : dx = 0
  · rw [if_pos hx]
    by_cases hy : dy = 0
    · rw [show (dy == 0) = true by simp [hy], glyphiclaw25_PaintLines.j0, if_pos rfl]
    · rw [show (dy == 0) = false by simp [hy]]
      exact main (fun h => hy h.2)
  · rw [if_neg hx]
    exact main (fun h => hx h.1)

end Go.Proofs.Ytmbcokndaaelaaa.Pure
