/- The plain law of PaintSays. -/
import Derived.Test.YtpimfacaalkmdaaQPaintSaysx1
import Derived.OpenShut
namespace Go.Proofs.Ytpimfacaalkmdaa.Pure
open Go Go.RowKit Go.Proofs.Ytpimfacaalkmdaa.QPaintSays Go.Proofs.YtpimfacaalkmdaaE Go.Proofs.YtpimfacaalkmdaaX
set_option linter.unusedVariables false

theorem bind_of {α β : Type} {o : Option α} {f : α → Option β} {x : α} {r : Option β} (h : o = some x) (h2 : f x = r) : o.bind f = r := by
  subst h
  exact h2

theorem div_is {a b q : Int} (hb : 0 < b) (h1 : q * b ≤ a) (h2 : a < q * b + b) : a / b = q := by
  apply Int.le_antisymm
  · exact Int.lt_add_one_iff.1 (Int.ediv_lt_of_lt_mul hb (by rw [Int.add_mul, Int.one_mul]; exact h2))
  · exact Int.le_ediv_of_mul_le hb h1

theorem div_in (a : Int) {b : Int} (hb : 0 < b) : a / b * b ≤ a ∧ a < a / b * b + b := by
  have h1 := Int.mul_ediv_add_emod a b
  have h2 := Int.emod_nonneg a (Int.ne_of_gt hb)
  have h3 := Int.emod_lt_of_pos a hb
  rw [Int.mul_comm] at h1
  omega

theorem div_bd (a : Int) {b : Int} (hb : 0 < b) : (0 ≤ a → 0 ≤ a / b ∧ a / b ≤ a) ∧ (a < 0 → a ≤ a / b ∧ a / b < 0) := by
  obtain ⟨h1, h2⟩ := div_in a hb
  refine ⟨fun h => ⟨Int.ediv_nonneg h (by omega), Int.ediv_le_self _ h⟩, fun h => ⟨?_, Int.ediv_neg_of_neg_of_pos h hb⟩⟩
  exact Int.le_ediv_of_mul_le hb (by
    have : a * b ≤ a * 1 := Int.mul_le_mul_of_nonpos_left (by omega) (by omega)
    omega)

theorem tmod_in (a : Int) {b : Int} (hb : 0 < b) : -b < Int.tmod a b ∧ Int.tmod a b < b := by
  rw [Int.tmod_eq_emod]
  have h2 := Int.emod_nonneg a (show b ≠ 0 by omega)
  have h3 := Int.emod_lt_of_pos a hb
  split
  · omega
  · have : ((b.natAbs : Nat) : Int) = b := by omega
    rename_i h
    have hne : a % b ≠ 0 := fun h0 => h (Or.inr (Int.dvd_of_emod_eq_zero h0))
    omega

theorem tmod_pos {a b : Int} (ha : 0 ≤ a) : Int.tmod a b = a % b := by
  rw [Int.tmod_eq_emod, if_pos (Or.inl ha)]; omega

theorem cyc (a : Int) {b : Int} (hb : 0 < b) (hb1 : b ≤ 4611686018427387903) : ∃ s, Int.tmod (wr64 (Int.tmod a b + b)) b = s ∧ 0 ≤ s ∧ s < b := by
  have h := tmod_in a hb
  refine ⟨_, rfl, ?_⟩
  rw [w64 (by omega) (by omega), tmod_pos (by omega)]
  exact ⟨Int.emod_nonneg _ (by omega), Int.emod_lt_of_pos _ hb⟩

/-- The nearest of a part, of two the greater. -/
def rnd (a b : Int) : Int := (2 * a + b) / (2 * b)

theorem rnd_is {a b q : Int} (hb : 0 < b) (h1 : 2 * (q * b) ≤ 2 * a + b) (h2 : 2 * a < 2 * (q * b) + b) : rnd a b = q := by
  unfold rnd
  apply div_is (by omega)
  · rw [Int.mul_left_comm]; omega
  · rw [Int.mul_left_comm]; omega

theorem rnd_in (a : Int) {b : Int} (hb : 0 < b) : 2 * (rnd a b * b) ≤ 2 * a + b ∧ 2 * a < 2 * (rnd a b * b) + b := by
  unfold rnd
  obtain ⟨h1, h2⟩ := div_in (2 * a + b) (b := 2 * b) (by omega)
  rw [Int.mul_left_comm] at h1 h2
  omega

theorem rnd_mono {a c b : Int} (hb : 0 < b) (h : a ≤ c) : rnd a b ≤ rnd c b := by
  unfold rnd
  exact Int.ediv_le_ediv (by omega) (by omega)

theorem down_f {a b : Int} (hb : 1 ≤ b) (ha0 : -9223372036854775808 ≤ a) (ha1 : a ≤ 9223372036854775807) : fixed_Down.f a b = some (a / b) := by
  unfold fixed_Down.f
  rw [if_neg (by omega), if_neg (by omega)]
  have hbd := div_bd a (b := b) (by omega)
  by_cases h : 0 ≤ a ∨ b ∣ a
  · have e1 : Int.tdiv a b = a / b := by rw [Int.tdiv_eq_ediv, if_pos h]; omega
    have e2 : Int.tmod a b = a % b := by rw [Int.tmod_eq_emod, if_pos h]; omega
    have h2 := Int.emod_nonneg a (show b ≠ 0 by omega)
    rw [e1, e2, if_neg (by omega), w64 (by omega) (by omega)]
  · have e1 : Int.tdiv a b = a / b + 1 := by rw [Int.tdiv_eq_ediv, if_neg h, Int.sign_eq_one_of_pos (by omega)]
    have e2 : Int.tmod a b = a % b - b := by rw [Int.tmod_eq_emod, if_neg h]; omega
    have h3 := Int.emod_lt_of_pos a (show 0 < b by omega)
    rw [e1, e2, if_pos (by omega), w64 (n := a / b + 1) (by omega) (by omega), w64 (by omega) (by omega)]
    congr 1
    omega

theorem round_f {a b : Int} (hb : 1 ≤ b) (hb1 : b ≤ 9223372036854775807) (ha0 : -9223372036854775808 ≤ a) (ha1 : a ≤ 9223372036854775807) : fixed_Round.f a b = some (rnd a b) := by
  unfold fixed_Round.f
  rw [if_neg (by omega), down_f hb ha0 ha1]
  simp only [Option.bind_some]
  obtain ⟨h1, h2⟩ := div_in a (b := b) (by omega)
  have hbd := div_bd a (b := b) (by omega)
  have e : wr64 (a - wr64 (a / b * b)) = a - a / b * b := by
    simp only [wr64_eq]
    omega
  rw [e, w64 (n := b - (a - a / b * b)) (by omega) (by omega)]
  by_cases h : a - a / b * b ≥ b - (a - a / b * b)
  · rw [if_pos h]
    have h3 : a / b + 1 ≤ 9223372036854775807 := by
      by_cases hq : a / b < 9223372036854775807
      · omega
      · by_cases h1b : b = 1
        · subst h1b; omega
        · have : a / b * 2 ≤ a / b * b := Int.mul_le_mul_of_nonneg_left (by omega) (by omega)
          omega
    rw [w64 (by omega) h3, rnd_is (q := a / b + 1) (by omega)]
    · rw [Int.add_mul]; omega
    · rw [Int.add_mul]; omega
  · rw [if_neg h, rnd_is (q := a / b) (by omega)]
    · omega
    · omega

theorem rnd_near (a : Int) {b : Int} (hb : 0 < b) : rnd a b = a / b ∨ rnd a b = a / b + 1 := by
  obtain ⟨h1, h2⟩ := div_in a hb
  by_cases h : 2 * (a - a / b * b) < b
  · left
    exact rnd_is hb (by omega) (by omega)
  · right
    exact rnd_is hb (by rw [Int.add_mul]; omega) (by rw [Int.add_mul]; omega)

theorem rnd_next (a : Int) {b : Int} (hb : 0 < b) : rnd (a + b) b = rnd a b + 1 := by
  obtain ⟨h1, h2⟩ := rnd_in a hb
  exact rnd_is hb (by rw [Int.add_mul]; omega) (by rw [Int.add_mul]; omega)

theorem sq_le {a b : Int} (h0 : 0 ≤ a) (h : a ≤ b) : a * a ≤ b * b := Int.mul_le_mul h h h0 (by omega)

theorem root_one {n r s : Int} (r0 : 0 ≤ r) (s0 : 0 ≤ s) (r1 : r * r ≤ n) (r2 : n < (r + 1) * (r + 1)) (s1 : s * s ≤ n) (s2 : n < (s + 1) * (s + 1)) : r = s := by
  by_cases h : r < s
  · have := sq_le (a := r + 1) (b := s) (by omega) (by omega)
    omega
  · by_cases h' : s < r
    · have := sq_le (a := s + 1) (b := r) (by omega) (by omega)
      omega
    · omega

theorem mid_le {m n : Int} (hm : 1 ≤ m) (hn : 0 ≤ n) : m ≤ Int.tdiv n m ↔ m * m ≤ n := by
  rw [Int.tdiv_eq_ediv, if_pos (Or.inl hn), Int.add_zero]
  exact Int.le_ediv_iff_mul_le (by omega)

theorem sqrt_l (d : Nat) : ∀ (k : Nat) (n lo hi : Int), d < k → hi - lo = 2 ^ d → 0 ≤ n → n ≤ 9223372036854775807 → 0 ≤ lo → hi ≤ 4294967296 → lo * lo ≤ n → n < hi * hi →
    ∃ r, fixed_Sqrt.l0 k n lo hi = some r ∧ 0 ≤ r ∧ r * r ≤ n ∧ n < (r + 1) * (r + 1) := by
  induction d with
  | zero =>
    intro k n lo hi hk e n0 n1 h0 h1 h2 h3
    obtain ⟨k, rfl⟩ : ∃ m, k = m + 1 := ⟨k - 1, by omega⟩
    have e1 : hi = lo + 1 := by have : hi - lo = 1 := e; omega
    subst e1
    refine ⟨lo, ?_, h0, h2, h3⟩
    rw [fixed_Sqrt.l0, w64 (n := lo + 1 - lo) (by omega) (by omega), if_neg (by omega)]
  | succ d ih =>
    intro k n lo hi hk e n0 n1 h0 h1 h2 h3
    obtain ⟨k, rfl⟩ : ∃ m, k = m + 1 := ⟨k - 1, by omega⟩
    have hp : (0 : Int) < 2 ^ d := Int.pow_pos (by omega)
    have e2 : hi - lo = 2 * 2 ^ d := by rw [e, Int.pow_succ]; omega
    generalize (2 : Int) ^ d = q at *
    have eh : hi = lo + 2 * q := by omega
    subst eh
    have em : wr64 (lo + wr64 (Int.tdiv (wr64 (lo + 2 * q - lo)) 2)) = lo + q := by
      rw [w64 (n := lo + 2 * q - lo) (by omega) (by omega), Int.tdiv_eq_ediv, if_pos (Or.inl (by omega)), w64 (n := (lo + 2 * q - lo) / 2 + 0) (by omega) (by omega), w64 (by omega) (by omega)]
      omega
    have hdb := mid_le (m := lo + q) (n := n) (by omega) n0
    have hq : wr64 (Int.tdiv n (lo + q)) = Int.tdiv n (lo + q) := by
      rw [Int.tdiv_eq_ediv, if_pos (Or.inl n0)]
      have := div_bd n (b := lo + q) (by omega)
      exact w64 (by omega) (by omega)
    rw [fixed_Sqrt.l0, em, hq, w64 (n := lo + 2 * q - lo) (by omega) (by omega), if_pos (by omega), if_neg (by omega)]
    by_cases hc : lo + q ≤ Int.tdiv n (lo + q)
    · rw [if_pos hc]
      exact ih k n (lo + q) (lo + 2 * q) (by omega) (by omega) n0 n1 (by omega) h1 (hdb.1 hc) h3
    · rw [if_neg hc]
      exact ih k n lo (lo + q) (by omega) (by omega) n0 n1 h0 (by omega) h2 (by
        by_cases hh : n < (lo + q) * (lo + q)
        · exact hh
        · exact absurd (hdb.2 (by omega)) hc)

theorem sqrt_f {n : Int} (n0 : 0 ≤ n) (n1 : n ≤ 9223372036854775807) (k : Nat) (hk : 32 < k) : ∃ r, fixed_Sqrt.f k n = some r ∧ 0 ≤ r ∧ r * r ≤ n ∧ n < (r + 1) * (r + 1) := by
  unfold fixed_Sqrt.f
  by_cases h : n < 1
  · rw [if_pos h]
    exact ⟨0, rfl, by omega, by omega, by omega⟩
  · rw [if_neg h]
    obtain ⟨r, hr, h⟩ := sqrt_l 32 k n 0 4294967296 hk (by omega) n0 n1 (by omega) (by omega) (by omega) (by omega)
    exact ⟨r, bind_of hr rfl, h⟩

theorem sqrt_is {n s : Int} (s0 : 0 ≤ s) (s1 : s * s ≤ n) (s2 : n < (s + 1) * (s + 1)) (n1 : n ≤ 9223372036854775807) (k : Nat) (hk : 32 < k) : fixed_Sqrt.f k n = some s := by
  have n0 : 0 ≤ n := Int.le_trans (Int.mul_nonneg s0 s0) s1
  obtain ⟨r, hr, r0, r1, r2⟩ := sqrt_f n0 n1 k hk
  rw [hr, root_one r0 s0 r1 r2 s1 s2]

theorem mul_bd {x y M N : Int} (hx0 : -M ≤ x) (hx1 : x ≤ M) (hy0 : -N ≤ y) (hy1 : y ≤ N) : -(M * N) ≤ x * y ∧ x * y ≤ M * N := by
  have h : (x * y).natAbs ≤ M.toNat * N.toNat := by
    rw [Int.natAbs_mul]
    exact Nat.mul_le_mul (by omega) (by omega)
  have e : ((M.toNat * N.toNat : Nat) : Int) = M * N := by
    rw [Int.natCast_mul, Int.toNat_of_nonneg (by omega), Int.toNat_of_nonneg (by omega)]
  omega

/-- Two numbers no farther apart than that. -/
def Nr (a b : Int) : Prop := -268435456 ≤ b - a ∧ b - a ≤ 268435456

theorem prod_bd {a b c d : Int} (h1 : Nr a b) (h2 : Nr c d) : -72057594037927936 ≤ (b - a) * (d - c) ∧ (b - a) * (d - c) ≤ 72057594037927936 := mul_bd (M := 268435456) (N := 268435456) (by have := h1.1; omega) h1.2 (by have := h2.1; omega) h2.2

def dt (ax ay bx by_ px py : Int) : Int := (bx - ax) * (px - ax) + (by_ - ay) * (py - ay)
def ln (ax ay bx by_ : Int) : Int := (bx - ax) * (bx - ax) + (by_ - ay) * (by_ - ay)

theorem sq_nonneg (x : Int) : 0 ≤ x * x := by
  rcases Int.le_total 0 x with h | h
  · exact Int.mul_nonneg h h
  · exact Int.mul_nonneg_of_nonpos_of_nonpos h h

theorem ln_nonneg (ax ay bx by_ : Int) : 0 ≤ ln ax ay bx by_ := by
  unfold ln
  have := sq_nonneg (bx - ax)
  have := sq_nonneg (by_ - ay)
  omega

theorem ln_bd {ax ay bx by_ : Int} (h1 : Nr ax bx) (h2 : Nr ay by_) : ln ax ay bx by_ ≤ 144115188075855872 := by
  unfold ln
  have := prod_bd h1 h1
  have := prod_bd h2 h2
  omega

theorem dt_bd {ax ay bx by_ px py : Int} (h1 : Nr ax bx) (h2 : Nr ay by_) (h3 : Nr ax px) (h4 : Nr ay py) : -144115188075855872 ≤ dt ax ay bx by_ px py ∧ dt ax ay bx by_ px py ≤ 144115188075855872 := by
  unfold dt
  have := prod_bd h1 h3
  have := prod_bd h2 h4
  omega

theorem sub_f {a b c d : Int} (h1 : Nr c a) (h2 : Nr d b) : plane_Sub.f a b c d = some (a - c, b - d) := by
  unfold plane_Sub.f
  rw [w64 (by have := h1.1; omega) (by have := h1.2; omega), w64 (by have := h2.1; omega) (by have := h2.2; omega)]

theorem dot_f {ax ay bx by_ px py : Int} (h1 : Nr ax bx) (h2 : Nr ay by_) (h3 : Nr ax px) (h4 : Nr ay py) : plane_Dot.f ax ay bx by_ px py = some (dt ax ay bx by_ px py) := by
  unfold plane_Dot.f
  refine bind_of (sub_f h1 h2) (bind_of (sub_f h3 h4) ?_)
  have b1 := prod_bd h1 h3
  have b2 := prod_bd h2 h4
  show some (wr64 (wr64 ((bx - ax) * (px - ax)) + wr64 ((by_ - ay) * (py - ay)))) = _
  rw [w64 (n := (bx - ax) * (px - ax)) (by omega) (by omega), w64 (n := (by_ - ay) * (py - ay)) (by omega) (by omega), w64 (by omega) (by omega)]
  rfl

theorem len2_f {ax ay bx by_ : Int} (h1 : Nr ax bx) (h2 : Nr ay by_) : plane_Len2.f ax ay bx by_ = some (ln ax ay bx by_) := by
  unfold plane_Len2.f
  exact bind_of (dot_f h1 h2 h1 h2) rfl

theorem lget_in {L : List Int} {i : Int} (h0 : 0 ≤ i) (h1 : i < L.length) : ∃ x, lget L i = some x := by
  unfold lget
  rw [if_neg (by omega)]
  exact ⟨L[i.toNat]'(by omega), List.getElem?_eq_getElem (by omega)⟩

theorem number_f {n b : Int} (hb : 0 < b) (hb1 : b ≤ 4611686018427387903) : ∃ v, glyphicworld_Number.f n b = some v ∧ 0 ≤ v ∧ v < b := by
  unfold glyphicworld_Number.f
  rw [if_neg (by omega)]
  have h := tmod_in n hb
  by_cases c : Int.tmod n b < 0
  · rw [if_pos c, w64 (by omega) (by omega)]
    exact ⟨_, rfl, by omega, by omega⟩
  · rw [if_neg c]
    exact ⟨_, rfl, by omega, by omega⟩

theorem next_f {b at_ : Int} (L : List Int) (hb : 0 < b) (hb1 : b ≤ 4611686018427387903) (h0 : 0 ≤ at_) (h1 : at_ ≤ 1000000000) : ∃ v, glyphicmake_Seq_Next_v1.f b L at_ = some (v, at_ + 1) ∧ 0 ≤ v ∧ v < b := by
  unfold glyphicmake_Seq_Next_v1.f
  have e : wr64 (at_ + 1) = at_ + 1 := w64 (by omega) (by omega)
  rw [e]
  by_cases c : at_ < (L.length : Int)
  · obtain ⟨x, hx⟩ := lget_in h0 c
    obtain ⟨v, hv, v0, v1⟩ := number_f (n := x) hb hb1
    rw [if_pos c]
    exact ⟨v, bind_of (bind_of hx rfl) (bind_of hv rfl), v0, v1⟩
  · obtain ⟨v, hv, v0, v1⟩ := number_f (n := 0) hb hb1
    rw [if_neg c]
    exact ⟨v, bind_of rfl (bind_of hv rfl), v0, v1⟩

theorem point_f {far at_ : Int} (L : List Int) (hb : 0 ≤ far) (hb1 : far ≤ 1000000000000000) (h0 : 0 ≤ at_) (h1 : at_ ≤ 999999999) : ∃ x y, glyphicmake_Point_v1.f far L at_ = some (x, y, at_ + 2) ∧ (-far ≤ x ∧ x ≤ far) ∧ -far ≤ y ∧ y ≤ far := by
  unfold glyphicmake_Point_v1.f
  have e : wr64 (wr64 (2 * far) + 1) = 2 * far + 1 := by
    rw [w64 (n := 2 * far) (by omega) (by omega), w64 (by omega) (by omega)]
  rw [e]
  obtain ⟨u, hu, u0, u1⟩ := next_f (b := 2 * far + 1) L (by omega) (by omega) h0 (by omega)
  obtain ⟨v, hv, v0, v1⟩ := next_f (b := 2 * far + 1) L (by omega) (by omega) (show 0 ≤ at_ + 1 by omega) (by omega)
  refine ⟨u - far, v - far, bind_of hu (bind_of hv ?_), by omega, by omega⟩
  dsimp only
  rw [w64 (n := u - far) (by omega) (by omega), w64 (n := v - far) (by omega) (by omega), show at_ + 1 + 1 = at_ + 2 by omega]

theorem color_f {at_ : Int} (L : List Int) (h0 : 0 ≤ at_) (h1 : at_ ≤ 1000000) : ∃ r g b a, glyphicmake_Color_v1.f L at_ = some (r, g, b, a, at_ + 1) ∧ (0 ≤ r ∧ r ≤ 255) ∧ (0 ≤ g ∧ g ≤ 255) ∧ (0 ≤ b ∧ b ≤ 255) ∧ 0 ≤ a ∧ a ≤ 255 := by
  unfold glyphicmake_Color_v1.f
  obtain ⟨v, hv, v0, v1⟩ := next_f (b := 7) L (by omega) (by omega) h0 (by omega)
  obtain ⟨r, g, b, a, h, hr⟩ : ∃ r g b a, (if v = 0 then (some (255, 0, 0, 255, at_ + 1)) else (if v = 1 then (some (0, 128, 0, 255, at_ + 1)) else (if v = 2 then (some (0, 0, 200, 100, at_ + 1)) else (if v = 3 then (some (10, 20, 30, 1, at_ + 1)) else (if v = 4 then (some (255, 255, 255, 255, at_ + 1)) else (if v = 5 then (some (0, 0, 0, 0, at_ + 1)) else (if v = 6 then (some (7, 0, 0, 254, at_ + 1)) else (none)))))))) = some ((r, g, b, a, at_ + 1) : Int × Int × Int × Int × Int) ∧ (0 ≤ r ∧ r ≤ 255) ∧ (0 ≤ g ∧ g ≤ 255) ∧ (0 ≤ b ∧ b ≤ 255) ∧ 0 ≤ a ∧ a ≤ 255 := by
    repeat' split
    all_goals first | exact ⟨_, _, _, _, rfl, by omega, by omega, by omega, by omega, by omega⟩ | omega
  exact ⟨r, g, b, a, bind_of hv h, hr⟩

theorem down_eq : glyphicref1_Down.f = fixed_Down.f := by
  funext a b
  unfold glyphicref1_Down.f fixed_Down.f
  rfl
theorem round_eq : glyphicref1_Round.f = fixed_Round.f := by
  funext a b
  unfold glyphicref1_Round.f fixed_Round.f
  rw [down_eq]
theorem rwide_eq : glyphicref1_Wide.f = color_Wide.f := rfl
theorem rmix_eq : glyphicref20_Mix.f = paint_Mix.f := by
  funext a b c d e f g h t
  unfold glyphicref20_Mix.f paint_Mix.f
  rw [round_eq, rwide_eq]
theorem rdot_f {ax ay bx by_ px py : Int} (h1 : Nr ax bx) (h2 : Nr ay by_) (h3 : Nr ax px) (h4 : Nr ay py) : glyphicref1_Dot.f ax ay bx by_ px py = some (dt ax ay bx by_ px py) := by
  have := dot_f h1 h2 h3 h4
  unfold plane_Dot.f plane_Sub.f at this
  exact this
theorem rlen2_f {ax ay bx by_ : Int} (h1 : Nr ax bx) (h2 : Nr ay by_) : glyphicref1_Len2.f ax ay bx by_ = some (ln ax ay bx by_) := by
  unfold glyphicref1_Len2.f
  exact bind_of (rdot_f h1 h2 h1 h2) rfl
theorem rsqrt_l (d : Nat) : ∀ (k : Nat) (n lo hi : Int), d < k → hi - lo < 2 ^ d → 0 ≤ n → n ≤ 9223372036854775807 → 0 ≤ lo → lo ≤ hi → hi ≤ 3037000499 → lo * lo ≤ n → n < (hi + 1) * (hi + 1) →
    ∃ r, glyphicref1_Sqrt.l0 k n lo hi = some r ∧ 0 ≤ r ∧ r * r ≤ n ∧ n < (r + 1) * (r + 1) := by
  induction d with
  | zero =>
    intro k n lo hi hk e n0 n1 h0 hlh h1 h2 h3
    obtain ⟨k, rfl⟩ : ∃ m, k = m + 1 := ⟨k - 1, by omega⟩
    have e1 : hi = lo := by have : hi - lo < 1 := e; omega
    subst e1
    refine ⟨hi, ?_, h0, h2, h3⟩
    rw [glyphicref1_Sqrt.l0, if_neg (by omega)]
  | succ d ih =>
    intro k n lo hi hk e n0 n1 h0 hlh h1 h2 h3
    obtain ⟨k, rfl⟩ : ∃ m, k = m + 1 := ⟨k - 1, by omega⟩
    have hp : (0 : Int) < 2 ^ d := Int.pow_pos (by omega)
    have e2 : hi - lo < 2 * 2 ^ d := by rw [Int.pow_succ] at e; omega
    generalize (2 : Int) ^ d = q at *
    rw [glyphicref1_Sqrt.l0]
    by_cases c : lo < hi
    · rw [if_pos c]
      obtain ⟨m, em, m0, m1, m2⟩ : ∃ m, wr64 (hi - wr64 (Int.tdiv (wr64 (hi - lo)) 2)) = m ∧ lo < m ∧ m ≤ hi ∧ (hi - m < q ∧ m - 1 - lo < q) := by
        rw [w64 (n := hi - lo) (by omega) (by omega), Int.tdiv_eq_ediv, if_pos (Or.inl (by omega)), w64 (n := (hi - lo) / 2 + 0) (by omega) (by omega), w64 (by omega) (by omega)]
        exact ⟨_, rfl, by omega, by omega, by omega⟩
      rw [em]
      have hdb := mid_le (m := m) (n := n) (by omega) n0
      have hq : wr64 (Int.tdiv n m) = Int.tdiv n m := by
        rw [Int.tdiv_eq_ediv, if_pos (Or.inl n0)]
        have := div_bd n (b := m) (by omega)
        exact w64 (by omega) (by omega)
      rw [if_neg (by omega), hq]
      by_cases hc : m ≤ Int.tdiv n m
      · rw [if_pos hc]
        exact ih k n m hi (by omega) m2.1 n0 n1 (by omega) m1 h1 (hdb.1 hc) h3
      · rw [if_neg hc, w64 (n := m - 1) (by omega) (by omega)]
        refine ih k n lo (m - 1) (by omega) m2.2 n0 n1 h0 (by omega) (by omega) h2 ?_
        rw [show m - 1 + 1 = m by omega]
        by_cases hh : n < m * m
        · exact hh
        · exact absurd (hdb.2 (by omega)) hc
    · rw [if_neg c]
      obtain rfl : lo = hi := by omega
      exact ⟨lo, rfl, h0, h2, h3⟩
theorem rsqrt_is {n s : Int} (s0 : 0 ≤ s) (s1 : s * s ≤ n) (s2 : n < (s + 1) * (s + 1)) (n1 : n ≤ 9223372036854775807) (k : Nat) (hk : 32 < k) : glyphicref1_Sqrt.f k n = some s := by
  have n0 : 0 ≤ n := Int.le_trans (Int.mul_nonneg s0 s0) s1
  unfold glyphicref1_Sqrt.f
  by_cases h : n < 1
  · rw [if_pos h]
    have hn : n = 0 := by omega
    subst hn
    have := root_one (n := 0) (r := 0) (s := s) (by omega) s0 (by omega) (by omega) s1 s2
    rw [this]
  · rw [if_neg h]
    obtain ⟨r, hr, r0, r1, r2⟩ := rsqrt_l 32 k n 0 3037000499 hk (by decide) n0 n1 (by omega) (by omega) (by omega) (by omega) (by omega)
    refine bind_of hr ?_
    rw [root_one r0 s0 r1 r2 s1 s2]
theorem sqrt_ex {n : Int} (n0 : 0 ≤ n) (n1 : n ≤ 9223372036854775807) : ∃ s : Int, 0 ≤ s ∧ s * s ≤ n ∧ n < (s + 1) * (s + 1) := by
  obtain ⟨r, _, h⟩ := sqrt_f n0 n1 40 (by omega)
  exact ⟨r, h⟩

/-- How far along, of all 65536. -/
def lin (px py qx qy x y : Int) : Int := if dt px py qx qy x y ≤ 0 then 0 else if ln px py qx qy ≤ 0 then 0 else if dt px py qx qy x y ≥ ln px py qx qy then 65536 else dt px py qx qy x y * 65536 / ln px py qx qy
theorem md_f {d l : Int} (h0 : 0 < d) (h1 : d < l) (h2 : l ≤ 144115188075855872) : ∃ q1, bits_Mul64.f (wru64 d) 65536 = some (d * 65536 / 18446744073709551616, d * 65536 % 18446744073709551616) ∧ bits_Div64.f (d * 65536 / 18446744073709551616) (d * 65536 % 18446744073709551616) (wru64 l) = some (d * 65536 / l, q1) ∧ wr64 (d * 65536 / l) = d * 65536 / l ∧ 0 ≤ d * 65536 / l ∧ d * 65536 / l ≤ 65536 := by
  rw [wu64 (n := d) (by omega) (by omega), wu64 (n := l) (by omega) (by omega)]
  have hd : d * 65536 / l < 65536 := Int.ediv_lt_of_lt_mul (by omega) (by omega)
  have hd0 : 0 ≤ d * 65536 / l := Int.ediv_nonneg (by omega) (by omega)
  refine ⟨d * 65536 % l, ?_, ?_, w64 (by omega) (by omega), hd0, by omega⟩
  · unfold bits_Mul64.f
    rw [if_pos ⟨by omega, by omega, by omega, by omega⟩]
  · unfold bits_Div64.f
    rw [if_pos ⟨by omega, by omega, by omega, by omega, by omega⟩, show d * 65536 / 18446744073709551616 * 18446744073709551616 + d * 65536 % 18446744073709551616 = d * 65536 by omega]
theorem part_both (k : Nat) (hk : 32 < k) (kind a b px py qx qy x y : Int) (hp : -16777216 ≤ px ∧ px ≤ 16777216) (hp2 : -16777216 ≤ py ∧ py ≤ 16777216) (hq : -16777216 ≤ qx ∧ qx ≤ 16777216) (hq2 : -16777216 ≤ qy ∧ qy ≤ 16777216) (hx : -16777216 ≤ x ∧ x ≤ 16777216) (hy : -16777216 ≤ y ∧ y ≤ 16777216) :
    ∃ v, (∀ a b, paint_Part.f k kind a b px py qx qy x y = some v ∧ glyphicref20_Part.f k kind a b px py qx qy x y = some v) ∧ 0 ≤ v ∧ v ≤ 65536 := by
  have h1 : Nr px qx := by unfold Nr; omega
  have h2 : Nr py qy := by unfold Nr; omega
  have h3 : Nr px x := by unfold Nr; omega
  have h4 : Nr py y := by unfold Nr; omega
  unfold paint_Part.f glyphicref20_Part.f
  by_cases c1 : kind = 1
  · simp only [if_pos c1]
    refine ⟨lin px py qx qy x y, fun a b => ⟨bind_of ?_ rfl, ?_⟩, ?_⟩
    · unfold paint_linear.f lin
      refine bind_of (dot_f h1 h2 h3 h4) (bind_of (len2_f h1 h2) ?_)
      have hl := ln_bd h1 h2
      generalize dt px py qx qy x y = d at *
      generalize ln px py qx qy = l at *
      by_cases d1 : d ≤ 0
      · rw [if_pos d1, if_pos d1]
      · rw [if_neg d1, if_neg d1]
        by_cases d2 : l ≤ 0
        · rw [if_pos d2, if_pos d2]
        · rw [if_neg d2, if_neg d2]
          by_cases d3 : d ≥ l
          · rw [if_pos d3, if_pos d3]
          · rw [if_neg d3, if_neg d3]
            obtain ⟨q1, m1, m2, m3, _⟩ := md_f (d := d) (l := l) (by omega) (by omega) hl
            exact bind_of m1 (bind_of m2 (by dsimp only; rw [m3]))
    · unfold lin
      refine bind_of (rlen2_f h1 h2) (bind_of (rdot_f h1 h2 h3 h4) ?_)
      have hl := ln_bd h1 h2
      have h0 := ln_nonneg px py qx qy
      generalize dt px py qx qy x y = d at *
      generalize ln px py qx qy = l at *
      by_cases d0 : l = 0
      · rw [if_pos d0]
        by_cases d1 : d ≤ 0
        · rw [if_pos d1]
        · rw [if_neg d1, if_pos (by omega)]
      · rw [if_neg d0]
        by_cases d1 : d ≤ 0
        · rw [if_pos d1, if_pos d1]
        · rw [if_neg d1, if_neg d1, if_neg (show ¬ l ≤ 0 by omega)]
          by_cases d3 : d ≥ l
          · rw [if_pos d3, if_pos d3]
          · rw [if_neg d3, if_neg d3]
            obtain ⟨q1, m1, m2, m3, _⟩ := md_f (d := d) (l := l) (by omega) (by omega) hl
            exact bind_of m1 (bind_of m2 (by dsimp only; rw [m3]))
    · unfold lin
      have hl := ln_bd h1 h2
      generalize dt px py qx qy x y = d at *
      generalize ln px py qx qy = l at *
      split
      · omega
      · split
        · omega
        · split
          · omega
          · obtain ⟨q1, m1, m2, m3, m4⟩ := md_f (d := d) (l := l) (by omega) (by omega) hl
            exact m4
  · simp only [if_neg c1]
    by_cases c2 : kind = 2
    · simp only [if_pos c2]
      by_cases c3 : qx < 1
      · simp only [if_pos c3]
        exact ⟨65536, fun _ _ => ⟨rfl, rfl⟩, by omega, by omega⟩
      · simp only [if_neg c3]
        have hl : ln px py x y ≤ 2251799813685248 := by
          unfold ln
          have := mul_bd (M := 33554432) (N := 33554432) (x := x - px) (y := x - px) (by omega) (by omega) (by omega) (by omega)
          have := mul_bd (M := 33554432) (N := 33554432) (x := y - py) (y := y - py) (by omega) (by omega) (by omega) (by omega)
          omega
        have h0 := ln_nonneg px py x y
        obtain ⟨s, s0, s1, s2⟩ := sqrt_ex (n := ln px py x y * 256) (by omega) (by omega)
        have s3 : s ≤ 4294967296 := by
          by_cases c : s ≤ 4294967296
          · exact c
          · have := sq_le (a := 4294967296) (b := s) (by omega) (by omega)
            omega
        refine ⟨mx (mn (rnd (4096 * s) qx) 65536) 0, fun _ _ => ⟨?_, ?_⟩, ?_⟩
        · refine bind_of (len2_f h3 h4) ?_
          rw [w64 (n := ln px py x y * 256) (by omega) (by omega)]
          refine bind_of (sqrt_is s0 s1 s2 (by omega) k hk) ?_
          rw [w64 (n := 4096 * s) (by omega) (by omega)]
          exact bind_of (round_f (by omega) (by omega) (by omega) (by omega)) (bind_of rfl rfl)
        · refine bind_of (rlen2_f h3 h4) ?_
          rw [w64 (n := ln px py x y * 256) (by omega) (by omega)]
          refine bind_of (rsqrt_is s0 s1 s2 (by omega) k hk) ?_
          rw [w64 (n := 4096 * s) (by omega) (by omega), round_eq]
          refine bind_of (round_f (by omega) (by omega) (by omega) (by omega)) (bind_of ?_ rfl)
          generalize rnd (4096 * s) qx = v
          unfold glyphicref1_Clamp.f mx mn
          repeat' split
          all_goals first | rfl | omega | (congr 1; omega)
        · unfold mx mn
          split <;> split <;> omega
    · simp only [if_neg c2]
      exact ⟨0, fun _ _ => ⟨rfl, rfl⟩, by omega, by omega⟩

theorem mix_all {a0 a1 a2 a3 b0 b1 b2 b3 t : Int} (t0 : 0 ≤ t) (t1 : t ≤ 65536) (h1 : 0 ≤ a0 ∧ a0 ≤ 255) (h2 : 0 ≤ a1 ∧ a1 ≤ 255) (h3 : 0 ≤ a2 ∧ a2 ≤ 255) (h4 : 0 ≤ a3 ∧ a3 ≤ 255) (h5 : 0 ≤ b0 ∧ b0 ≤ 255) (h6 : 0 ≤ b1 ∧ b1 ≤ 255) (h7 : 0 ≤ b2 ∧ b2 ≤ 255) (h8 : 0 ≤ b3 ∧ b3 ≤ 255) :
    ∃ r0 r1 r2 r3, paint_Mix.f a0 a1 a2 a3 b0 b1 b2 b3 t = some (r0, r1, r2, r3) := by
  have wide : ∀ {x y z v : Int}, 0 ≤ x ∧ x ≤ 255 → 0 ≤ y ∧ y ≤ 255 → 0 ≤ z ∧ z ≤ 255 → 0 ≤ v ∧ v ≤ 255 → color_Wide.f x y z v = some (257 * x, 257 * y, 257 * z, 257 * v) := by
    intro x y z v g1 g2 g3 g4
    unfold color_Wide.f
    rw [w64 (n := x) (by omega) (by omega), w64 (n := y) (by omega) (by omega), w64 (n := z) (by omega) (by omega), w64 (n := v) (by omega) (by omega), w64 (n := 257 * x) (by omega) (by omega), w64 (n := 257 * y) (by omega) (by omega), w64 (n := 257 * z) (by omega) (by omega), w64 (n := 257 * v) (by omega) (by omega)]
  have one : ∀ {x y : Int}, 0 ≤ x ∧ x ≤ 255 → 0 ≤ y ∧ y ≤ 255 → ∃ r, fixed_Round.f (wr64 (wr64 (257 * x * wr64 (65536 - t)) + wr64 (257 * y * t))) 65536 = some r := by
    intro x y g1 g2
    have p1 := mul_bd (M := 65535) (N := 65536) (x := 257 * x) (y := 65536 - t) (by omega) (by omega) (by omega) (by omega)
    have p2 := mul_bd (M := 65535) (N := 65536) (x := 257 * y) (y := t) (by omega) (by omega) (by omega) (by omega)
    rw [w64 (n := 65536 - t) (by omega) (by omega), w64 (n := 257 * x * (65536 - t)) (by omega) (by omega), w64 (n := 257 * y * t) (by omega) (by omega), w64 (n := 257 * x * (65536 - t) + 257 * y * t) (by omega) (by omega)]
    exact ⟨_, round_f (by omega) (by omega) (by omega) (by omega)⟩
  obtain ⟨r0, e0⟩ := one h1 h5
  obtain ⟨r1, e1⟩ := one h2 h6
  obtain ⟨r2, e2⟩ := one h3 h7
  obtain ⟨r3, e3⟩ := one h4 h8
  refine ⟨r0, r1, r2, r3, ?_⟩
  unfold paint_Mix.f
  refine bind_of (wide h1 h2 h3 h4) (bind_of (wide h5 h6 h7 h8) ?_)
  dsimp only
  exact bind_of e0 (bind_of e1 (bind_of e2 (bind_of e3 rfl)))

def Col (m : Int × Int × Int × Int) : Prop := (0 ≤ m.1 ∧ m.1 ≤ 255) ∧ (0 ≤ m.2.1 ∧ m.2.1 ≤ 255) ∧ (0 ≤ m.2.2.1 ∧ m.2.2.1 ≤ 255) ∧ (0 ≤ m.2.2.2 ∧ m.2.2.2 ≤ 255)

theorem pick_eq : glyphicref20_color_v1.f = paint_At_1_v1.f := rfl
theorem pick_f (i m0 m1 m2 m3 m4 m5 m6 m7 m8 m9 m10 m11 : Int) (h1 : Col (m0, m1, m2, m3)) (h2 : Col (m4, m5, m6, m7)) (h3 : Col (m8, m9, m10, m11)) :
    ∃ a b c d, paint_At_1_v1.f i m0 m1 m2 m3 m4 m5 m6 m7 m8 m9 m10 m11 = some (a, b, c, d) ∧ Col (a, b, c, d) := by
  unfold paint_At_1_v1.f
  repeat' split
  all_goals first | exact ⟨_, _, _, _, rfl, by assumption⟩ | exact ⟨_, _, _, _, rfl, by unfold Col; dsimp only; omega⟩ | omega

theorem at_both (k : Nat) (hk : 32 < k) (kind a b px py qx qy x y m0 m1 m2 m3 m4 m5 m6 m7 m8 m9 m10 m11 : Int) (hp : -16777216 ≤ px ∧ px ≤ 16777216) (hp2 : -16777216 ≤ py ∧ py ≤ 16777216) (hq : -16777216 ≤ qx ∧ qx ≤ 16777216) (hq2 : -16777216 ≤ qy ∧ qy ≤ 16777216) (hx : -16777216 ≤ x ∧ x ≤ 16777216) (hy : -16777216 ≤ y ∧ y ≤ 16777216)
    (h1 : Col (m0, m1, m2, m3)) (h2 : Col (m4, m5, m6, m7)) (h3 : Col (m8, m9, m10, m11)) : ∃ r0 r1 r2 r3, paint_At_v1.f k kind a b px py qx qy x y m0 m1 m2 m3 m4 m5 m6 m7 m8 m9 m10 m11 = some (r0, r1, r2, r3) ∧ glyphicref20_PaintAt_v1.f k kind a b px py qx qy x y m0 m1 m2 m3 m4 m5 m6 m7 m8 m9 m10 m11 = some (r0, r1, r2, r3) := by
  obtain ⟨v, hv, v0, v1⟩ := part_both k hk kind a b px py qx qy x y hp hp2 hq hq2 hx hy
  obtain ⟨a0, a1, a2, a3, ha, c1⟩ := pick_f a m0 m1 m2 m3 m4 m5 m6 m7 m8 m9 m10 m11 h1 h2 h3
  obtain ⟨b0, b1, b2, b3, hb, c2⟩ := pick_f b m0 m1 m2 m3 m4 m5 m6 m7 m8 m9 m10 m11 h1 h2 h3
  unfold paint_At_v1.f glyphicref20_PaintAt_v1.f
  rw [pick_eq, rmix_eq]
  by_cases c : kind = 0
  · obtain ⟨r0, r1, r2, r3, hm⟩ := mix_all v0 v1 c1.1 c1.2.1 c1.2.2.1 c1.2.2.2 c1.1 c1.2.1 c1.2.2.1 c1.2.2.2
    refine ⟨r0, r1, r2, r3, ?_, ?_⟩
    · rw [if_pos c]
      exact bind_of rfl (bind_of ha (bind_of ha (bind_of (hv _ _).1 (bind_of hm rfl))))
    · refine bind_of ha (bind_of hb ?_)
      dsimp only
      rw [if_pos c]
      exact bind_of (hv _ _).2 (bind_of hm rfl)
  · obtain ⟨r0, r1, r2, r3, hm⟩ := mix_all v0 v1 c1.1 c1.2.1 c1.2.2.1 c1.2.2.2 c2.1 c2.2.1 c2.2.2.1 c2.2.2.2
    refine ⟨r0, r1, r2, r3, ?_, ?_⟩
    · rw [if_neg c]
      exact bind_of rfl (bind_of ha (bind_of hb (bind_of (hv _ _).1 (bind_of hm rfl))))
    · refine bind_of ha (bind_of hb ?_)
      dsimp only
      rw [if_neg c]
      exact bind_of (hv _ _).2 (bind_of hm rfl)

theorem cut_f (x y : Int) : ∃ a b, glyphiclaw25_cut.f x y = some (a, b) ∧ (-16777216 ≤ a ∧ a ≤ 16777216) ∧ (-16777216 ≤ b ∧ b ≤ 16777216) := by
  have h1 := tmod_in x (b := 16777217) (by omega)
  have h2 := tmod_in y (b := 16777217) (by omega)
  exact ⟨_, _, rfl, by omega, by omega⟩

theorem PaintSays : glyphiclaw25_PaintSays.Pure := by
  intro kind a b px py qx qy x y a0 a1 a2 a3 b0 b1 b2 b3 t L _ _ _ _ _ _ _ _ _ h1 h2 h3 h4 h5 h6 h7 h8 _
  have hf : glyphiclaw25_first.f = some true := by decide +kernel
  have h1 := bounds_u8 h1
  have h2 := bounds_u8 h2
  have h3 := bounds_u8 h3
  have h4 := bounds_u8 h4
  have h5 := bounds_u8 h5
  have h6 := bounds_u8 h6
  have h7 := bounds_u8 h7
  have h8 := bounds_u8 h8
  refine ⟨40, ?_⟩
  unfold glyphiclaw25_PaintSays.f
  refine bind_of hf ?_
  rw [if_pos rfl]
  by_cases hl : (L.length : Int) > 30
  · rw [if_pos hl]
  · rw [if_neg hl]
    obtain ⟨px, py, hp, p1, p2⟩ := cut_f px py
    obtain ⟨qx, qy, hq, q1, q2⟩ := cut_f qx qy
    obtain ⟨x, y, hx, x1, x2⟩ := cut_f x y
    obtain ⟨c0, c1, c2, c3, hc, g1, g2, g3, g4⟩ := color_f (at_ := 0) L (by omega) (by omega)
    obtain ⟨ux, uy, hu, u1, u2⟩ := point_f (far := 600) (at_ := 0 + 1) L (by omega) (by omega) (by omega) (by omega)
    obtain ⟨vx, vy, hv, v1, v2⟩ := point_f (far := 600) (at_ := 0 + 1 + 2) L (by omega) (by omega) (by omega) (by omega)
    obtain ⟨zx, zy, hz, z1, z2⟩ := point_f (far := 700) (at_ := 0 + 1 + 2 + 2) L (by omega) (by omega) (by omega) (by omega)
    obtain ⟨s, hs, s0, s1⟩ := cyc kind (b := 3) (by omega) (by omega)
    obtain ⟨t', ht, t0, t1⟩ := cyc t (b := 65537) (by omega) (by omega)
    rw [hs, ht]
    generalize Int.tmod a 4 = a
    generalize Int.tmod b 4 = b
    obtain ⟨m, hm, _⟩ := part_both 40 (by omega) s a b px py qx qy x y p1 p2 q1 q2 x1 x2
    obtain ⟨n, hn, _⟩ := part_both 40 (by omega) s a b ux uy vx vy zx zy (by omega) (by omega) (by omega) (by omega) (by omega) (by omega)
    obtain ⟨r0, r1, r2, r3, hr⟩ := mix_all (t := t') t0 (by omega) h1 h2 h3 h4 h5 h6 h7 h8
    obtain ⟨w0, w1, w2, w3, hw, hw'⟩ := at_both 40 (by omega) s a b px py qx qy x y a0 a1 a2 a3 b0 b1 b2 b3 c0 c1 c2 c3 p1 p2 q1 q2 x1 x2 ⟨h1, h2, h3, h4⟩ ⟨h5, h6, h7, h8⟩ ⟨g1, g2, g3, g4⟩
    obtain ⟨y0, y1, y2, y3, hy, hy'⟩ := at_both 40 (by omega) s a b ux uy vx vy zx zy a0 a1 a2 a3 b0 b1 b2 b3 c0 c1 c2 c3 (by omega) (by omega) (by omega) (by omega) (by omega) (by omega) ⟨h1, h2, h3, h4⟩ ⟨h5, h6, h7, h8⟩ ⟨g1, g2, g3, g4⟩
    refine bind_of hp (bind_of hq (bind_of hx (bind_of hc (bind_of hu (bind_of hv (bind_of hz (bind_of (hm _ _).1 (bind_of (hm _ _).2 ?_))))))))
    rw [if_pos rfl]
    refine bind_of (hn _ _).1 (bind_of (hn _ _).2 ?_)
    rw [if_pos rfl, rmix_eq]
    refine bind_of hr (bind_of hr ?_)
    dsimp only
    rw [if_pos (by simp)]
    refine bind_of hw (bind_of hw' ?_)
    dsimp only
    rw [if_pos (by simp)]
    refine bind_of hy (bind_of hy' ?_)
    simp

end Go.Proofs.Ytpimfacaalkmdaa.Pure
