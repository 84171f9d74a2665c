/- Proved: PaintMixes is true for every input. -/
import Derived.Test.YtmbcokndaaelaaaQPaintMixesx0
import Derived.OpenShut
namespace Go.Proofs.Ytmbcokndaaelaaa.Pure
open Go Go.RowKit Go.Proofs.Ytmbcokndaaelaaa.QPaintMixes Go.Proofs.YtmbcokndaaelaaaE

theorem bind_of {α β : Type} {o : Option α} {f : α → Option β} {x : α} {r : Option β} (h : o = some x) (h2 : f x = r) : o.bind f = r := by
  subst h
  exact h2

theorem div_is {a b q : Int} (hb : 0 < b) (h1 : q * b ≤ a) (h2 : a < q * b + b) : a / b = q := by
  apply Int.le_antisymm
  · exact Int.lt_add_one_iff.1 (Int.ediv_lt_of_lt_mul hb (by rw [Int.add_mul, Int.one_mul]; exact h2))
  · exact Int.le_ediv_of_mul_le hb h1

theorem div_in (a : Int) {b : Int} (hb : 0 < b) : a / b * b ≤ a ∧ a < a / b * b + b := by
  have h1 := Int.mul_ediv_add_emod a b
  have h2 := Int.emod_nonneg a (Int.ne_of_gt hb)
  have h3 := Int.emod_lt_of_pos a hb
  rw [Int.mul_comm] at h1
  omega

theorem div_bd (a : Int) {b : Int} (hb : 0 < b) : (0 ≤ a → 0 ≤ a / b ∧ a / b ≤ a) ∧ (a < 0 → a ≤ a / b ∧ a / b < 0) := by
  obtain ⟨h1, h2⟩ := div_in a hb
  refine ⟨fun h => ⟨Int.ediv_nonneg h (by omega), Int.ediv_le_self _ h⟩, fun h => ⟨?_, Int.ediv_neg_of_neg_of_pos h hb⟩⟩
  exact Int.le_ediv_of_mul_le hb (by
    have : a * b ≤ a * 1 := Int.mul_le_mul_of_nonpos_left (by omega) (by omega)
    omega)

theorem tmod_in (a : Int) {b : Int} (hb : 0 < b) : -b < Int.tmod a b ∧ Int.tmod a b < b := by
  rw [Int.tmod_eq_emod]
  have h2 := Int.emod_nonneg a (show b ≠ 0 by omega)
  have h3 := Int.emod_lt_of_pos a hb
  split
  · omega
  · have : ((b.natAbs : Nat) : Int) = b := by omega
    rename_i h
    have hne : a % b ≠ 0 := fun h0 => h (Or.inr (Int.dvd_of_emod_eq_zero h0))
    omega

theorem tmod_pos {a b : Int} (ha : 0 ≤ a) : Int.tmod a b = a % b := by
  rw [Int.tmod_eq_emod, if_pos (Or.inl ha)]; omega

theorem cyc (a : Int) {b : Int} (hb : 0 < b) (hb1 : b ≤ 4611686018427387903) : ∃ s, Int.tmod (wr64 (Int.tmod a b + b)) b = s ∧ 0 ≤ s ∧ s < b := by
  have h := tmod_in a hb
  refine ⟨_, rfl, ?_⟩
  rw [w64 (by omega) (by omega), tmod_pos (by omega)]
  exact ⟨Int.emod_nonneg _ (by omega), Int.emod_lt_of_pos _ hb⟩

/-- The nearest of a part, of two the greater. -/
def rnd (a b : Int) : Int := (2 * a + b) / (2 * b)

theorem rnd_is {a b q : Int} (hb : 0 < b) (h1 : 2 * (q * b) ≤ 2 * a + b) (h2 : 2 * a < 2 * (q * b) + b) : rnd a b = q := by
  unfold rnd
  apply div_is (by omega)
  · rw [Int.mul_left_comm]; omega
  · rw [Int.mul_left_comm]; omega

theorem rnd_in (a : Int) {b : Int} (hb : 0 < b) : 2 * (rnd a b * b) ≤ 2 * a + b ∧ 2 * a < 2 * (rnd a b * b) + b := by
  unfold rnd
  obtain ⟨h1, h2⟩ := div_in (2 * a + b) (b := 2 * b) (by omega)
  rw [Int.mul_left_comm] at h1 h2
  omega

theorem rnd_mono {a c b : Int} (hb : 0 < b) (h : a ≤ c) : rnd a b ≤ rnd c b := by
  unfold rnd
  exact Int.ediv_le_ediv (by omega) (by omega)

theorem down_f {a b : Int} (hb : 1 ≤ b) (ha0 : -9223372036854775808 ≤ a) (ha1 : a ≤ 9223372036854775807) : fixed_Down.f a b = some (a / b) := by
  unfold fixed_Down.f
  rw [if_neg (by omega), if_neg (by omega)]
  have hbd := div_bd a (b := b) (by omega)
  by_cases h : 0 ≤ a ∨ b ∣ a
  · have e1 : Int.tdiv a b = a / b := by rw [Int.tdiv_eq_ediv, if_pos h]; omega
    have e2 : Int.tmod a b = a % b := by rw [Int.tmod_eq_emod, if_pos h]; omega
    have h2 := Int.emod_nonneg a (show b ≠ 0 by omega)
    rw [e1, e2, if_neg (by omega), w64 (by omega) (by omega)]
  · have e1 : Int.tdiv a b = a / b + 1 := by rw [Int.tdiv_eq_ediv, if_neg h, Int.sign_eq_one_of_pos (by omega)]
    have e2 : Int.tmod a b = a % b - b := by rw [Int.tmod_eq_emod, if_neg h]; omega
    have h3 := Int.emod_lt_of_pos a (show 0 < b by omega)
    rw [e1, e2, if_pos (by omega), w64 (n := a / b + 1) (by omega) (by omega), w64 (by omega) (by omega)]
    congr 1
    omega

theorem round_f {a b : Int} (hb : 1 ≤ b) (hb1 : b ≤ 9223372036854775807) (ha0 : -9223372036854775808 ≤ a) (ha1 : a ≤ 9223372036854775807) : fixed_Round.f a b = some (rnd a b) := by
  unfold fixed_Round.f
  rw [if_neg (by omega), down_f hb ha0 ha1]
  simp only [Option.bind_some]
  obtain ⟨h1, h2⟩ := div_in a (b := b) (by omega)
  have hbd := div_bd a (b := b) (by omega)
  have e : wr64 (a - wr64 (a / b * b)) = a - a / b * b := by
    simp only [wr64_eq]
    omega
  rw [e, w64 (n := b - (a - a / b * b)) (by omega) (by omega)]
  by_cases h : a - a / b * b ≥ b - (a - a / b * b)
  · rw [if_pos h]
    have h3 : a / b + 1 ≤ 9223372036854775807 := by
      by_cases hq : a / b < 9223372036854775807
      · omega
      · by_cases h1b : b = 1
        · subst h1b; omega
        · have : a / b * 2 ≤ a / b * b := Int.mul_le_mul_of_nonneg_left (by omega) (by omega)
          omega
    rw [w64 (by omega) h3, rnd_is (q := a / b + 1) (by omega)]
    · rw [Int.add_mul]; omega
    · rw [Int.add_mul]; omega
  · rw [if_neg h, rnd_is (q := a / b) (by omega)]
    · omega
    · omega

theorem rnd_near (a : Int) {b : Int} (hb : 0 < b) : rnd a b = a / b ∨ rnd a b = a / b + 1 := by
  obtain ⟨h1, h2⟩ := div_in a hb
  by_cases h : 2 * (a - a / b * b) < b
  · left
    exact rnd_is hb (by omega) (by omega)
  · right
    exact rnd_is hb (by rw [Int.add_mul]; omega) (by rw [Int.add_mul]; omega)

theorem rnd_next (a : Int) {b : Int} (hb : 0 < b) : rnd (a + b) b = rnd a b + 1 := by
  obtain ⟨h1, h2⟩ := rnd_in a hb
  exact rnd_is hb (by rw [Int.add_mul]; omega) (by rw [Int.add_mul]; omega)

theorem mul_bd {x y M N : Int} (hx0 : -M ≤ x) (hx1 : x ≤ M) (hy0 : -N ≤ y) (hy1 : y ≤ N) : -(M * N) ≤ x * y ∧ x * y ≤ M * N := by
  have h : (x * y).natAbs ≤ M.toNat * N.toNat := by
    rw [Int.natAbs_mul]
    exact Nat.mul_le_mul (by omega) (by omega)
  have e : ((M.toNat * N.toNat : Nat) : Int) = M * N := by
    rw [Int.natCast_mul, Int.toNat_of_nonneg (by omega), Int.toNat_of_nonneg (by omega)]
  omega

/-- Two numbers no farther apart than that. -/
def Nr (a b : Int) : Prop := -268435456 ≤ b - a ∧ b - a ≤ 268435456

theorem prod_bd {a b c d : Int} (h1 : Nr a b) (h2 : Nr c d) : -72057594037927936 ≤ (b - a) * (d - c) ∧ (b - a) * (d - c) ≤ 72057594037927936 := mul_bd (M := 268435456) (N := 268435456) (by have := h1.1; omega) h1.2 (by have := h2.1; omega) h2.2

def dt (ax ay bx by_ px py : Int) : Int := (bx - ax) * (px - ax) + (by_ - ay) * (py - ay)
def ln (ax ay bx by_ : Int) : Int := (bx - ax) * (bx - ax) + (by_ - ay) * (by_ - ay)

theorem sq_nonneg (x : Int) : 0 ≤ x * x := by
  rcases Int.le_total 0 x with h | h
  · exact Int.mul_nonneg h h
  · exact Int.mul_nonneg_of_nonpos_of_nonpos h h

theorem ln_nonneg (ax ay bx by_ : Int) : 0 ≤ ln ax ay bx by_ := by
  unfold ln
  have := sq_nonneg (bx - ax)
  have := sq_nonneg (by_ - ay)
  omega

theorem ln_bd {ax ay bx by_ : Int} (h1 : Nr ax bx) (h2 : Nr ay by_) : ln ax ay bx by_ ≤ 144115188075855872 := by
  unfold ln
  have := prod_bd h1 h1
  have := prod_bd h2 h2
  omega

theorem dt_bd {ax ay bx by_ px py : Int} (h1 : Nr ax bx) (h2 : Nr ay by_) (h3 : Nr ax px) (h4 : Nr ay py) : -144115188075855872 ≤ dt ax ay bx by_ px py ∧ dt ax ay bx by_ px py ≤ 144115188075855872 := by
  unfold dt
  have := prod_bd h1 h3
  have := prod_bd h2 h4
  omega

theorem sub_f {a b c d : Int} (h1 : Nr c a) (h2 : Nr d b) : plane_Sub.f a b c d = some (a - c, b - d) := by
  unfold plane_Sub.f
  rw [w64 (by have := h1.1; omega) (by have := h1.2; omega), w64 (by have := h2.1; omega) (by have := h2.2; omega)]

theorem dot_f {ax ay bx by_ px py : Int} (h1 : Nr ax bx) (h2 : Nr ay by_) (h3 : Nr ax px) (h4 : Nr ay py) : plane_Dot.f ax ay bx by_ px py = some (dt ax ay bx by_ px py) := by
  unfold plane_Dot.f
  refine bind_of (sub_f h1 h2) (bind_of (sub_f h3 h4) ?_)
  have b1 := prod_bd h1 h3
  have b2 := prod_bd h2 h4
  show some (wr64 (wr64 ((bx - ax) * (px - ax)) + wr64 ((by_ - ay) * (py - ay)))) = _
  rw [w64 (n := (bx - ax) * (px - ax)) (by omega) (by omega), w64 (n := (by_ - ay) * (py - ay)) (by omega) (by omega), w64 (by omega) (by omega)]
  rfl

theorem len2_f {ax ay bx by_ : Int} (h1 : Nr ax bx) (h2 : Nr ay by_) : plane_Len2.f ax ay bx by_ = some (ln ax ay bx by_) := by
  unfold plane_Len2.f
  exact bind_of (dot_f h1 h2 h1 h2) rfl

def mixv (a b t : Int) : Int := rnd (257 * a * (65536 - t) + 257 * b * t) 65536

theorem mix_lo {a b l t : Int} (t0 : 0 ≤ t) (t1 : t ≤ 65536) (h1 : l ≤ a) (h2 : l ≤ b) : 257 * l ≤ mixv a b t := by
  have e1 := Int.mul_le_mul_of_nonneg_right (show 257 * l ≤ 257 * a by omega) (show 0 ≤ 65536 - t by omega)
  have e2 := Int.mul_le_mul_of_nonneg_right (show 257 * l ≤ 257 * b by omega) t0
  have e3 : 257 * l * (65536 - t) + 257 * l * t = 257 * l * 65536 := by grind
  have h : rnd (257 * l * 65536) 65536 = 257 * l := rnd_is (by omega) (by omega) (by omega)
  have m : rnd (257 * l * 65536) 65536 ≤ mixv a b t := rnd_mono (by omega) (by omega)
  omega

theorem mix_hi {a b l t : Int} (t0 : 0 ≤ t) (t1 : t ≤ 65536) (h1 : a ≤ l) (h2 : b ≤ l) : mixv a b t ≤ 257 * l := by
  have e1 := Int.mul_le_mul_of_nonneg_right (show 257 * a ≤ 257 * l by omega) (show 0 ≤ 65536 - t by omega)
  have e2 := Int.mul_le_mul_of_nonneg_right (show 257 * b ≤ 257 * l by omega) t0
  have e3 : 257 * l * (65536 - t) + 257 * l * t = 257 * l * 65536 := by grind
  have h : rnd (257 * l * 65536) 65536 = 257 * l := rnd_is (by omega) (by omega) (by omega)
  have m : mixv a b t ≤ rnd (257 * l * 65536) 65536 := rnd_mono (by omega) (by omega)
  omega

theorem mix_same {a t : Int} : mixv a a t = 257 * a := by
  have e3 : 257 * a * (65536 - t) + 257 * a * t = 257 * a * 65536 := by grind
  unfold mixv
  rw [e3]
  exact rnd_is (by omega) (by omega) (by omega)

theorem mix_0 {a b : Int} : mixv a b 0 = 257 * a := by
  unfold mixv
  exact rnd_is (by omega) (by omega) (by omega)

theorem mix_1 {a b : Int} : mixv a b 65536 = 257 * b := by
  unfold mixv
  exact rnd_is (by omega) (by omega) (by omega)

theorem mix_turn {a b t : Int} : mixv b a (65536 - t) = mixv a b t := by
  unfold mixv
  rw [show 257 * b * (65536 - (65536 - t)) + 257 * a * (65536 - t) = 257 * a * (65536 - t) + 257 * b * t by grind]

theorem mix_f {a0 a1 a2 a3 b0 b1 b2 b3 t : Int} (t0 : 0 ≤ t) (t1 : t ≤ 65536) (h1 : 0 ≤ a0 ∧ a0 ≤ 255) (h2 : 0 ≤ a1 ∧ a1 ≤ 255) (h3 : 0 ≤ a2 ∧ a2 ≤ 255) (h4 : 0 ≤ a3 ∧ a3 ≤ 255) (h5 : 0 ≤ b0 ∧ b0 ≤ 255) (h6 : 0 ≤ b1 ∧ b1 ≤ 255) (h7 : 0 ≤ b2 ∧ b2 ≤ 255) (h8 : 0 ≤ b3 ∧ b3 ≤ 255) :
    paint_Mix.f a0 a1 a2 a3 b0 b1 b2 b3 t = some (mixv a0 b0 t, mixv a1 b1 t, mixv a2 b2 t, mixv a3 b3 t) := by
  have wide : ∀ {x y z v : Int}, 0 ≤ x ∧ x ≤ 255 → 0 ≤ y ∧ y ≤ 255 → 0 ≤ z ∧ z ≤ 255 → 0 ≤ v ∧ v ≤ 255 → color_Wide.f x y z v = some (257 * x, 257 * y, 257 * z, 257 * v) := by
    intro x y z v g1 g2 g3 g4
    unfold color_Wide.f
    rw [w64 (n := x) (by omega) (by omega), w64 (n := y) (by omega) (by omega), w64 (n := z) (by omega) (by omega), w64 (n := v) (by omega) (by omega), w64 (n := 257 * x) (by omega) (by omega), w64 (n := 257 * y) (by omega) (by omega), w64 (n := 257 * z) (by omega) (by omega), w64 (n := 257 * v) (by omega) (by omega)]
  have one : ∀ {x y : Int}, 0 ≤ x ∧ x ≤ 255 → 0 ≤ y ∧ y ≤ 255 → fixed_Round.f (wr64 (wr64 (257 * x * wr64 (65536 - t)) + wr64 (257 * y * t))) 65536 = some (mixv x y t) := by
    intro x y g1 g2
    have p1 := mul_bd (M := 65535) (N := 65536) (x := 257 * x) (y := 65536 - t) (by omega) (by omega) (by omega) (by omega)
    have p2 := mul_bd (M := 65535) (N := 65536) (x := 257 * y) (y := t) (by omega) (by omega) (by omega) (by omega)
    rw [w64 (n := 65536 - t) (by omega) (by omega), w64 (n := 257 * x * (65536 - t)) (by omega) (by omega), w64 (n := 257 * y * t) (by omega) (by omega), w64 (n := 257 * x * (65536 - t) + 257 * y * t) (by omega) (by omega)]
    exact round_f (by omega) (by omega) (by omega) (by omega)
  unfold paint_Mix.f
  refine bind_of (wide h1 h2 h3 h4) (bind_of (wide h5 h6 h7 h8) ?_)
  dsimp only
  exact bind_of (one h1 h5) (bind_of (one h2 h6) (bind_of (one h3 h7) (bind_of (one h4 h8) rfl)))

theorem mix_in {a b t : Int} (t0 : 0 ≤ t) (t1 : t ≤ 65536) (ha : 0 ≤ a ∧ a ≤ 255) (hb : 0 ≤ b ∧ b ≤ 255) : ¬ (mixv a b t < wr64 (257 * mn (wr64 a) (wr64 b))) ∧ ¬ (mixv a b t > wr64 (257 * mx (wr64 a) (wr64 b))) ∧ wr64 (257 * wr64 a) = 257 * a ∧ wr64 (257 * wr64 b) = 257 * b := by
  rw [w64 (n := a) (by omega) (by omega), w64 (n := b) (by omega) (by omega), w64 (n := 257 * a) (by omega) (by omega), w64 (n := 257 * b) (by omega) (by omega)]
  have hn : mn a b ≤ a ∧ mn a b ≤ b ∧ 0 ≤ mn a b := by
    unfold mn
    split <;> omega
  have hm : a ≤ mx a b ∧ b ≤ mx a b ∧ mx a b ≤ 255 := by
    unfold mx
    split <;> omega
  rw [w64 (n := 257 * mn a b) (by omega) (by omega), w64 (n := 257 * mx a b) (by omega) (by omega)]
  have l := mix_lo t0 t1 hn.1 hn.2.1
  have h := mix_hi t0 t1 hm.1 hm.2.1
  exact ⟨by omega, by omega, rfl, rfl⟩

theorem PaintMixes : glyphiclaw25_PaintMixes.Pure := by
  intro a0 a1 a2 a3 b0 b1 b2 b3 t0 h1 h2 h3 h4 h5 h6 h7 h8 _
  have hf : glyphiclaw25_first.f 40 = some true := by decide +kernel
  have h1 := bounds_u8 h1
  have h2 := bounds_u8 h2
  have h3 := bounds_u8 h3
  have h4 := bounds_u8 h4
  have h5 := bounds_u8 h5
  have h6 := bounds_u8 h6
  have h7 := bounds_u8 h7
  have h8 := bounds_u8 h8
  refine ⟨40, ?_⟩
  unfold glyphiclaw25_PaintMixes.f
  refine bind_of hf ?_
  rw [if_pos rfl]
  obtain ⟨t, et, n1, n2⟩ := cyc t0 (b := 65537) (by omega) (by omega)
  rw [et, w64 (n := 65536 - t) (by omega) (by omega)]
  refine bind_of (mix_f n1 (by omega) h1 h2 h3 h4 h5 h6 h7 h8) (bind_of (mix_f (by omega) (by omega) h5 h6 h7 h8 h1 h2 h3 h4) (bind_of (mix_f n1 (by omega) h1 h2 h3 h4 h1 h2 h3 h4) (bind_of (mix_f (by omega) (by omega) h1 h2 h3 h4 h5 h6 h7 h8) (bind_of (mix_f (by omega) (by omega) h1 h2 h3 h4 h5 h6 h7 h8) ?_))))
  dsimp only
  have i1 := mix_in n1 (by omega) h1 h5
  have i2 := mix_in n1 (by omega) h2 h6
  have i3 := mix_in n1 (by omega) h3 h7
  have i4 := mix_in n1 (by omega) h4 h8
  rw [i1.2.2.1, i1.2.2.2, i2.2.2.1, i2.2.2.2, i3.2.2.1, i3.2.2.2, i4.2.2.1, i4.2.2.2]
  rw [if_neg i1.1, if_neg i1.2.1, if_pos mix_turn.symm, if_pos mix_same, if_pos mix_0, if_pos mix_1]
  rw [if_neg i2.1, if_neg i2.2.1, if_pos mix_turn.symm, if_pos mix_same, if_pos mix_0, if_pos mix_1]
  rw [if_neg i3.1, if_neg i3.2.1, if_pos mix_turn.symm, if_pos mix_same, if_pos mix_0, if_pos mix_1]
  rw [if_neg i4.1, if_neg i4.2.1, if_pos mix_turn.symm, if_pos mix_same, if_pos mix_0, if_pos mix_1]

end Go.Proofs.Ytmbcokndaaelaaa.Pure
