/- Proved: FlattenCounts is true for every input. -/
import Derived.Test.YtijjgmkhgcofiaaQFlattenCountsx1
import Derived.OpenShut
namespace Go.Proofs.Ytijjgmkhgcofiaa.Pure
open Go Go.RowKit Go.Proofs.Ytijjgmkhgcofiaa.QFlattenCounts Go.Proofs.YtijjgmkhgcofiaaE

theorem bind_of {α β : Type} {o : Option α} {f : α → Option β} {x : α} {r : Option β} (h : o = some x) (h2 : f x = r) : o.bind f = r := by
  subst h
  exact h2

theorem div_is {a b q : Int} (hb : 0 < b) (h1 : q * b ≤ a) (h2 : a < q * b + b) : a / b = q := by
  apply Int.le_antisymm
  · exact Int.lt_add_one_iff.1 (Int.ediv_lt_of_lt_mul hb (by rw [Int.add_mul, Int.one_mul]; exact h2))
  · exact Int.le_ediv_of_mul_le hb h1

theorem div_in (a : Int) {b : Int} (hb : 0 < b) : a / b * b ≤ a ∧ a < a / b * b + b := by
  have h1 := Int.mul_ediv_add_emod a b
  have h2 := Int.emod_nonneg a (Int.ne_of_gt hb)
  have h3 := Int.emod_lt_of_pos a hb
  rw [Int.mul_comm] at h1
  omega

theorem div_bd (a : Int) {b : Int} (hb : 0 < b) : (0 ≤ a → 0 ≤ a / b ∧ a / b ≤ a) ∧ (a < 0 → a ≤ a / b ∧ a / b < 0) := by
  obtain ⟨h1, h2⟩ := div_in a hb
  refine ⟨fun h => ⟨Int.ediv_nonneg h (by omega), Int.ediv_le_self _ h⟩, fun h => ⟨?_, Int.ediv_neg_of_neg_of_pos h hb⟩⟩
  exact Int.le_ediv_of_mul_le hb (by
    have : a * b ≤ a * 1 := Int.mul_le_mul_of_nonpos_left (by omega) (by omega)
    omega)

theorem tmod_in (a : Int) {b : Int} (hb : 0 < b) : -b < Int.tmod a b ∧ Int.tmod a b < b := by
  rw [Int.tmod_eq_emod]
  have h2 := Int.emod_nonneg a (show b ≠ 0 by omega)
  have h3 := Int.emod_lt_of_pos a hb
  split
  · omega
  · have : ((b.natAbs : Nat) : Int) = b := by omega
    rename_i h
    have hne : a % b ≠ 0 := fun h0 => h (Or.inr (Int.dvd_of_emod_eq_zero h0))
    omega

theorem tmod_pos {a b : Int} (ha : 0 ≤ a) : Int.tmod a b = a % b := by
  rw [Int.tmod_eq_emod, if_pos (Or.inl ha)]; omega

theorem cyc (a : Int) {b : Int} (hb : 0 < b) (hb1 : b ≤ 4611686018427387903) : ∃ s, Int.tmod (wr64 (Int.tmod a b + b)) b = s ∧ 0 ≤ s ∧ s < b := by
  have h := tmod_in a hb
  refine ⟨_, rfl, ?_⟩
  rw [w64 (by omega) (by omega), tmod_pos (by omega)]
  exact ⟨Int.emod_nonneg _ (by omega), Int.emod_lt_of_pos _ hb⟩

def bd (a b c : Int) : Int := (a - 2 * b + c).natAbs
theorem bd_le {a b c : Int} (a0 : -16777217 < a) (a1 : a < 16777217) (b0 : -16777217 < b) (b1 : b < 16777217) (c0 : -16777217 < c) (c1 : c < 16777217) : 0 ≤ bd a b c ∧ bd a b c ≤ 67108864 := by
  unfold bd
  omega
theorem wsum {a b c : Int} (a0 : -16777217 < a) (a1 : a < 16777217) (b0 : -16777217 < b) (b1 : b < 16777217) (c0 : -16777217 < c) (c1 : c < 16777217) : wr64 (wr64 (a - wr64 (2 * b)) + c) = a - 2 * b + c := by
  rw [w64 (n := 2 * b) (by omega) (by omega), w64 (n := a - 2 * b) (by omega) (by omega), w64 (by omega) (by omega)]
theorem size_f {ax ay bx by_ cx cy : Int} (h1 : -16777217 < ax) (h2 : ax < 16777217) (h3 : -16777217 < ay) (h4 : ay < 16777217) (h5 : -16777217 < bx) (h6 : bx < 16777217) (h7 : -16777217 < by_) (h8 : by_ < 16777217) (h9 : -16777217 < cx) (h10 : cx < 16777217) (h11 : -16777217 < cy) (h12 : cy < 16777217) :
    glyphiclaw21_size.f ax ay bx by_ cx cy = some (bd ax bx cx + bd ay by_ cy) := by
  unfold glyphiclaw21_size.f
  rw [wsum h1 h2 h5 h6 h9 h10, wsum h3 h4 h7 h8 h11 h12]
  unfold bd
  generalize hx : ax - 2 * bx + cx = x
  generalize hy : ay - 2 * by_ + cy = y
  have x0 : -67108868 ≤ x ∧ x ≤ 67108868 := by omega
  have y0 : -67108868 ≤ y ∧ y ≤ 67108868 := by omega
  clear hx hy
  by_cases c1 : x < 0
  · rw [if_pos c1, w64 (n := 0 - x) (by omega) (by omega)]
    by_cases c2 : y < 0
    · rw [if_pos c2, w64 (n := 0 - y) (by omega) (by omega), w64 (by omega) (by omega)]; congr 1; omega
    · rw [if_neg c2, w64 (by omega) (by omega)]; congr 1; omega
  · rw [if_neg c1]
    by_cases c2 : y < 0
    · rw [if_pos c2, w64 (n := 0 - y) (by omega) (by omega), w64 (by omega) (by omega)]; congr 1; omega
    · rw [if_neg c2, w64 (by omega) (by omega)]; congr 1; omega
theorem bend_f {ax ay bx by_ cx cy : Int} (h1 : -16777217 < ax) (h2 : ax < 16777217) (h3 : -16777217 < ay) (h4 : ay < 16777217) (h5 : -16777217 < bx) (h6 : bx < 16777217) (h7 : -16777217 < by_) (h8 : by_ < 16777217) (h9 : -16777217 < cx) (h10 : cx < 16777217) (h11 : -16777217 < cy) (h12 : cy < 16777217) :
    flatten_bend.f ax ay bx by_ cx cy = some (bd ax bx cx + bd ay by_ cy) := by
  unfold flatten_bend.f
  rw [wsum h1 h2 h5 h6 h9 h10, wsum h3 h4 h7 h8 h11 h12]
  unfold bd mx
  generalize hx : ax - 2 * bx + cx = x
  generalize hy : ay - 2 * by_ + cy = y
  have x0 : -67108868 ≤ x ∧ x ≤ 67108868 := by omega
  have y0 : -67108868 ≤ y ∧ y ≤ 67108868 := by omega
  clear hx hy
  rw [w64 (n := 0 - x) (by omega) (by omega), w64 (n := 0 - y) (by omega) (by omega)]
  split <;> split <;> (rw [w64 (by omega) (by omega)]; congr 1; omega)

/-- The first of the powers of two that is enough. -/
theorem count_go {far : Int} (f0 : 0 ≤ far) (f1 : far ≤ 402653184) : ∃ n : Int, flatten_Count.l0 20 far 1 = some n ∧ 1 ≤ n ∧ n ≤ 8192 ∧ bits .and .i64 n (wr64 (n - 1)) = 0 ∧ far ≤ 32 * n * n ∧ (n = 1 ∨ far > 8 * n * n) := by
  have stop : ∀ (k : Nat) (n : Int), 1 ≤ n → n ≤ 8192 → far ≤ 32 * n * n → flatten_Count.l0 (k + 1) far n = some n := by
    intro k n h1 h2 h3
    have h4 : 32 * n * n ≤ 32 * n * 8192 := Int.mul_le_mul_of_nonneg_left h2 (by omega)
    have h5 : 0 ≤ 32 * n * n := Int.mul_nonneg (by omega) (by omega)
    rw [flatten_Count.l0, w64 (n := 32 * n) (by omega) (by omega), w64 (n := 32 * n * n) (by omega) (by omega), if_neg (by omega)]
  have go : ∀ (k : Nat) (n : Int), 1 ≤ n → n ≤ 8192 → ¬ far ≤ 32 * n * n → flatten_Count.l0 (k + 1) far n = flatten_Count.l0 k far (2 * n) := by
    intro k n h1 h2 h3
    have h4 : 32 * n * n ≤ 32 * n * 8192 := Int.mul_le_mul_of_nonneg_left h2 (by omega)
    have h5 : 0 ≤ 32 * n * n := Int.mul_nonneg (by omega) (by omega)
    rw [flatten_Count.l0, w64 (n := 32 * n) (by omega) (by omega), w64 (n := 32 * n * n) (by omega) (by omega), if_pos (by omega), w64 (n := n * 2) (by omega) (by omega), Int.mul_comm n 2]
  by_cases c0 : far ≤ 32 * 1 * 1
  · exact ⟨1, stop 19 1 (by omega) (by omega) c0, by decide, by decide, by decide +kernel, c0, Or.inl rfl⟩
  rw [go 19 1 (by omega) (by omega) c0]
  by_cases c1 : far ≤ 32 * 2 * 2
  · exact ⟨2, stop 18 2 (by omega) (by omega) c1, by decide, by decide, by decide +kernel, c1, Or.inr (by omega)⟩
  rw [show (2 : Int) * 1 = 2 from rfl, go 18 2 (by omega) (by omega) c1]
  by_cases c2 : far ≤ 32 * 4 * 4
  · exact ⟨4, stop 17 4 (by omega) (by omega) c2, by decide, by decide, by decide +kernel, c2, Or.inr (by omega)⟩
  rw [show (2 : Int) * 2 = 4 from rfl, go 17 4 (by omega) (by omega) c2]
  by_cases c3 : far ≤ 32 * 8 * 8
  · exact ⟨8, stop 16 8 (by omega) (by omega) c3, by decide, by decide, by decide +kernel, c3, Or.inr (by omega)⟩
  rw [show (2 : Int) * 4 = 8 from rfl, go 16 8 (by omega) (by omega) c3]
  by_cases c4 : far ≤ 32 * 16 * 16
  · exact ⟨16, stop 15 16 (by omega) (by omega) c4, by decide, by decide, by decide +kernel, c4, Or.inr (by omega)⟩
  rw [show (2 : Int) * 8 = 16 from rfl, go 15 16 (by omega) (by omega) c4]
  by_cases c5 : far ≤ 32 * 32 * 32
  · exact ⟨32, stop 14 32 (by omega) (by omega) c5, by decide, by decide, by decide +kernel, c5, Or.inr (by omega)⟩
  rw [show (2 : Int) * 16 = 32 from rfl, go 14 32 (by omega) (by omega) c5]
  by_cases c6 : far ≤ 32 * 64 * 64
  · exact ⟨64, stop 13 64 (by omega) (by omega) c6, by decide, by decide, by decide +kernel, c6, Or.inr (by omega)⟩
  rw [show (2 : Int) * 32 = 64 from rfl, go 13 64 (by omega) (by omega) c6]
  by_cases c7 : far ≤ 32 * 128 * 128
  · exact ⟨128, stop 12 128 (by omega) (by omega) c7, by decide, by decide, by decide +kernel, c7, Or.inr (by omega)⟩
  rw [show (2 : Int) * 64 = 128 from rfl, go 12 128 (by omega) (by omega) c7]
  by_cases c8 : far ≤ 32 * 256 * 256
  · exact ⟨256, stop 11 256 (by omega) (by omega) c8, by decide, by decide, by decide +kernel, c8, Or.inr (by omega)⟩
  rw [show (2 : Int) * 128 = 256 from rfl, go 11 256 (by omega) (by omega) c8]
  by_cases c9 : far ≤ 32 * 512 * 512
  · exact ⟨512, stop 10 512 (by omega) (by omega) c9, by decide, by decide, by decide +kernel, c9, Or.inr (by omega)⟩
  rw [show (2 : Int) * 256 = 512 from rfl, go 10 512 (by omega) (by omega) c9]
  by_cases c10 : far ≤ 32 * 1024 * 1024
  · exact ⟨1024, stop 9 1024 (by omega) (by omega) c10, by decide, by decide, by decide +kernel, c10, Or.inr (by omega)⟩
  rw [show (2 : Int) * 512 = 1024 from rfl, go 9 1024 (by omega) (by omega) c10]
  by_cases c11 : far ≤ 32 * 2048 * 2048
  · exact ⟨2048, stop 8 2048 (by omega) (by omega) c11, by decide, by decide, by decide +kernel, c11, Or.inr (by omega)⟩
  rw [show (2 : Int) * 1024 = 2048 from rfl, go 8 2048 (by omega) (by omega) c11]
  by_cases c12 : far ≤ 32 * 4096 * 4096
  · exact ⟨4096, stop 7 4096 (by omega) (by omega) c12, by decide, by decide, by decide +kernel, c12, Or.inr (by omega)⟩
  exact absurd c12 (by omega)

theorem FlattenCounts : glyphiclaw21_FlattenCounts.Pure := by
  intro a0 a1 b0 b1 c0 c1 d0 d1 cubic _ _ _ _ _ _ _ _
  refine ⟨20, ?_⟩
  have hf : glyphiclaw21_first.f = some true := by decide +kernel
  unfold glyphiclaw21_FlattenCounts.f
  refine bind_of hf ?_
  rw [if_pos rfl]
  unfold glyphiclaw21_cut.f
  refine bind_of rfl (bind_of rfl (bind_of rfl (bind_of rfl ?_)))
  dsimp only
  have ha0 := tmod_in a0 (b := 16777217) (by omega)
  have ha1 := tmod_in a1 (b := 16777217) (by omega)
  have hb0 := tmod_in b0 (b := 16777217) (by omega)
  have hb1 := tmod_in b1 (b := 16777217) (by omega)
  have hc0 := tmod_in c0 (b := 16777217) (by omega)
  have hc1 := tmod_in c1 (b := 16777217) (by omega)
  have hd0 := tmod_in d0 (b := 16777217) (by omega)
  have hd1 := tmod_in d1 (b := 16777217) (by omega)
  generalize Int.tmod a0 16777217 = a0 at *
  generalize Int.tmod a1 16777217 = a1 at *
  generalize Int.tmod b0 16777217 = b0 at *
  generalize Int.tmod b1 16777217 = b1 at *
  generalize Int.tmod c0 16777217 = c0 at *
  generalize Int.tmod c1 16777217 = c1 at *
  generalize Int.tmod d0 16777217 = d0 at *
  generalize Int.tmod d1 16777217 = d1 at *
  have p0 := bd_le ha0.1 ha0.2 hb0.1 hb0.2 hc0.1 hc0.2
  have p1 := bd_le ha1.1 ha1.2 hb1.1 hb1.2 hc1.1 hc1.2
  have q0 := bd_le hb0.1 hb0.2 hc0.1 hc0.2 hd0.1 hd0.2
  have q1 := bd_le hb1.1 hb1.2 hc1.1 hc1.2 hd1.1 hd1.2
  have S1 := size_f ha0.1 ha0.2 ha1.1 ha1.2 hb0.1 hb0.2 hb1.1 hb1.2 hc0.1 hc0.2 hc1.1 hc1.2
  have S2 := size_f hb0.1 hb0.2 hb1.1 hb1.2 hc0.1 hc0.2 hc1.1 hc1.2 hd0.1 hd0.2 hd1.1 hd1.2
  have B1 := bend_f ha0.1 ha0.2 ha1.1 ha1.2 hb0.1 hb0.2 hb1.1 hb1.2 hc0.1 hc0.2 hc1.1 hc1.2
  have B2 := bend_f hb0.1 hb0.2 hb1.1 hb1.2 hc0.1 hc0.2 hc1.1 hc1.2 hd0.1 hd0.2 hd1.1 hd1.2
  have s0 : 0 ≤ bd a0 b0 c0 + bd a1 b1 c1 ∧ bd a0 b0 c0 + bd a1 b1 c1 ≤ 134217728 := by omega
  have t0 : 0 ≤ bd b0 c0 d0 + bd b1 c1 d1 ∧ bd b0 c0 d0 + bd b1 c1 d1 ≤ 134217728 := by omega
  generalize bd a0 b0 c0 + bd a1 b1 c1 = s at *
  generalize bd b0 c0 d0 + bd b1 c1 d1 = t at *
  have line : flatten_Count.f 20 a0 a1 1 b0 b1 0 0 0 0 = some 1 := by
    unfold flatten_Count.f
    rw [if_pos rfl]
    refine bind_of rfl ?_
    dsimp only
    exact bind_of (x := 1) (by decide +kernel) rfl
  have T : ∀ (F n : Int), 1 ≤ n → n ≤ 8192 → bits .and .i64 n (wr64 (n - 1)) = 0 → F ≤ 32 * n * n → (n = 1 ∨ F > 8 * n * n) →
      (if n < 1 then (some false) else (if n > 8192 then (some false) else (if (bits .and .i64 n (wr64 (n - 1))) = 0 then (if true = true then (if F ≤ (wr64 ((wr64 (32 * n)) * n)) then (if n = 1 then ((flatten_Count.f 20 a0 a1 1 b0 b1 0 0 0 0).bind fun t112 => (some (t112 == 1))) else (if F > (wr64 ((wr64 (8 * n)) * n)) then ((flatten_Count.f 20 a0 a1 1 b0 b1 0 0 0 0).bind fun t115 => (some (t115 == 1))) else (some false))) else (some false)) else (some false)) else (some false)))) = some true := by
    intro F n n0 n1 hb h1 h2
    have e1 : 32 * n * n ≤ 32 * n * 8192 := Int.mul_le_mul_of_nonneg_left n1 (by omega)
    have e2 : 8 * n * n ≤ 8 * n * 8192 := Int.mul_le_mul_of_nonneg_left n1 (by omega)
    have e3 : 0 ≤ 8 * n * n := Int.mul_nonneg (by omega) (by omega)
    have e4 : 0 ≤ 32 * n * n := Int.mul_nonneg (by omega) (by omega)
    rw [if_neg (by omega), if_neg (by omega), if_pos hb, if_pos rfl, w64 (n := 32 * n) (by omega) (by omega), w64 (n := 32 * n * n) (by omega) (by omega), w64 (n := 8 * n) (by omega) (by omega), w64 (n := 8 * n * n) (by omega) (by omega), if_pos h1, line]
    by_cases hn : n = 1
    · rw [if_pos hn]; rfl
    · rw [if_neg hn, if_pos (h2.resolve_left hn)]; rfl
  refine bind_of S1 ?_
  cases cubic with
  | true =>
    have m0 : 0 ≤ mx s t ∧ mx s t ≤ 134217728 := by
      unfold mx
      split <;> omega
    refine bind_of (x := (true, wr64 (3 * mx s t), 3, d0, d1)) ?_ ?_
    · rw [if_pos rfl]
      exact bind_of S1 (bind_of S2 rfl)
    dsimp only
    rw [w64 (n := 3 * mx s t) (by omega) (by omega)]
    obtain ⟨n, hl, n0, n1, hb, h1, h2⟩ := count_go (far := 3 * mx s t) (by omega) (by omega)
    have hc : flatten_Count.f 20 a0 a1 3 b0 b1 c0 c1 d0 d1 = some n := by
      unfold flatten_Count.f
      rw [if_neg (by decide), if_neg (by decide), if_pos rfl]
      refine bind_of (bind_of B1 (bind_of B2 rfl)) ?_
      dsimp only
      rw [w64 (n := 3 * mx s t) (by omega) (by omega)]
      exact bind_of hl rfl
    refine bind_of hc ?_
    exact T _ n n0 n1 hb h1 h2
  | false =>
    refine bind_of (x := (true, s, 2, 0, 0)) (by rw [if_neg (by decide)]) ?_
    dsimp only
    obtain ⟨n, hl, n0, n1, hb, h1, h2⟩ := count_go (far := s) (by omega) (by omega)
    have hc : flatten_Count.f 20 a0 a1 2 b0 b1 c0 c1 0 0 = some n := by
      unfold flatten_Count.f
      rw [if_neg (by decide), if_pos rfl]
      refine bind_of (bind_of B1 rfl) ?_
      dsimp only
      exact bind_of hl rfl
    refine bind_of hc ?_
    exact T _ n n0 n1 hb h1 h2

end Go.Proofs.Ytijjgmkhgcofiaa.Pure
