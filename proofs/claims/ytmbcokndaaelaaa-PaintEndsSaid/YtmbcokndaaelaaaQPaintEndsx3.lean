/- Functions of a Go program as Lean functions, each with its walk, or the row of a law. Written by a program of this session after the pattern of the print. -/
import Derived.Test.YtmbcokndaaelaaaQPaintEndsx0
import Derived.Test.YtmbcokndaaelaaaQPaintEndsx2
namespace Go.Proofs.Ytmbcokndaaelaaa.QPaintEnds
open Go.RowKit Go.Proofs.YtmbcokndaaelaaaW.PrintWords Go.Proofs.YtmbcokndaaelaaaW.PrintLast Go.Proofs.YtmbcokndaaelaaaW.PrintMore
attribute [local go_sem] max2_int min2_int max_two min_two max_three min_three max_four min_four   -- for this text's walks alone
set_option linter.unusedVariables false
set_option linter.unusedSimpArgs false

/-! ### plane_Len2: function 48 -/
def plane_Len2.f (a0_0 : Int) (a0_1 : Int) (a1_0 : Int) (a1_1 : Int) : Option (Int) := (plane_Dot.f a0_0 a0_1 a1_0 a1_1 a1_0 a1_1).bind fun t116 => (some t116)
set_option maxHeartbeats 8000000 in
set_option maxRecDepth 100000 in
theorem plane_Len2.calls (a0_0 : Int) (a0_1 : Int) (a1_0 : Int) (a1_1 : Int) (r : Int) (w : World) (h : plane_Len2.f a0_0 a0_1 a1_0 a1_1 = some r) :
    Calls Try.prog 48 #[.agg #[.int .i64 a0_0, .int .i64 a0_1], .agg #[.int .i64 a1_0, .int .i64 a1_1]] w fun e w' => e = .returned (.int .i64 r) ∧ Below w.heap.size w w' := by
  have hu24 := Try.underlying24
  have HB := Aside0.mk (Below.refl w.heap.size w)
  have H : ((plane_Dot.f a0_0 a0_1 a1_0 a1_1 a1_0 a1_1).bind fun t116 => (some t116)) = some r := h
  clear h
  replace H := Option.bind_eq_some_iff.mp H
  obtain ⟨t116, A30, H⟩ := H
  replace H : (some t116) = some r := H
  have A3 := Aside0.mk A30
  clear A30
  obtain rfl := Option.some.inj H
  go_enter Try.func48, Try.ntmps48
  go_wp2_with (first | ((with_reducible refine gate_dst (N := 2) rfl ?_); refine box_event ?hg (N := 2) ?hd (cs := #[.int .i64 a0_0, .int .i64 a0_1]) (t := 24) ?hr ?_; (case hd => rfl); (case hg => rfl); (case hr => first | (go_simp; done) | (go_simp; rfl)); intro gb114 hg w4 hbox hb; have n0_ := Aside0.mk (below_step (by repeat (first | (with_reducible first | exact HB.out | apply below_alloc | apply pw_below_drewN | apply below_drew1) | exact HB.out)) hb); have n1_ := Aside0.mk (hbox); have n2_ := Aside0.mk ((by rw [hg]; exact (below_size (by repeat (first | (with_reducible first | exact HB.out | apply below_alloc | apply pw_below_drewN | apply below_drew1) | exact HB.out))) : w.heap.size ≤ gb114)); have n3_ := Aside0.mk ((by rw [hg]; exact (below_size (by repeat (first | (with_reducible first | exact HB.out | apply below_alloc | apply pw_below_drewN | apply below_drew1) | exact HB.out))) : w.heap.size ≤ gb114)); clear HB; have HB := n0_; have BK114 := n1_; have GW114 := n2_; have GE114 := n3_; clear n0_ n1_ n2_ n3_; clear hb hbox hg) | ((with_reducible refine gate_dst (N := 3) rfl ?_); refine box_event ?hg (N := 3) ?hd (cs := #[.int .i64 a1_0, .int .i64 a1_1]) (t := 24) ?hr ?_; (case hd => rfl); (case hg => rfl); (case hr => first | (go_simp; done) | (go_simp; rfl)); intro gb115 hg w5 hbox hb; have n0_ := Aside0.mk (blk_below (g := gb114) (o := .cells #[.int .i64 a0_0, .int .i64 a0_1] 24 (0, 0)) (by (with_reducible repeat (first | refine blk_drewN ?_ _ | refine blk_drew ?_ | refine blk_alloc ?_ _)); exact BK114.out) hb); have n1_ := Aside0.mk (below_step (by repeat (first | (with_reducible first | exact HB.out | apply below_alloc | apply pw_below_drewN | apply below_drew1 | refine below_set ?_ GE114.out) | exact HB.out)) hb); have n2_ := Aside0.mk (hbox); have n3_ := Aside0.mk ((by rw [hg]; exact (below_size (by repeat (first | (with_reducible first | exact HB.out | apply below_alloc | apply pw_below_drewN | apply below_drew1 | refine below_set ?_ GE114.out) | exact HB.out))) : w.heap.size ≤ gb115)); have n4_ := Aside0.mk ((by rw [hg]; exact (below_size (by repeat (first | (with_reducible first | exact HB.out | apply below_alloc | apply pw_below_drewN | apply below_drew1 | refine below_set ?_ GE114.out) | exact HB.out))) : w.heap.size ≤ gb115)); have n5_ := Aside0.mk ((by rw [hg]; exact Nat.ne_of_lt (blk_lt (g := gb114) (o := .cells #[.int .i64 a0_0, .int .i64 a0_1] 24 (0, 0)) (by (with_reducible repeat (first | refine blk_drewN ?_ _ | refine blk_drew ?_ | refine blk_alloc ?_ _)); exact BK114.out)) : gb114 ≠ gb115)); have n6_ := Aside0.mk ((by rw [hg]; exact Nat.ne_of_gt (blk_lt (g := gb114) (o := .cells #[.int .i64 a0_0, .int .i64 a0_1] 24 (0, 0)) (by (with_reducible repeat (first | refine blk_drewN ?_ _ | refine blk_drew ?_ | refine blk_alloc ?_ _)); exact BK114.out)) : gb115 ≠ gb114)); clear BK114; clear HB; have BK114 := n0_; have HB := n1_; have BK115 := n2_; have GW115 := n3_; have GE115 := n4_; have NB114_115 := n5_; have NB115_114 := n6_; clear n0_ n1_ n2_ n3_ n4_ n5_ n6_; clear hb hbox hg; have hnb6 := NB114_115.out; have hnc6 := NB115_114.out; have hcz7_0 : w5.cell? ⟨gb114, 0, none⟩ = some (.int .i64 a0_0) := (blk_cell BK114.out 0).trans rfl; have hcz7_1 : w5.cell? ⟨gb114, 1, none⟩ = some (.int .i64 a0_1) := (blk_cell BK114.out 1).trans rfl; have hfz7_0 := blk_frozen BK114.out 0; have hfz7_1 := blk_frozen BK114.out 1; have hcz8_0 : w5.cell? ⟨gb115, 0, none⟩ = some (.int .i64 a1_0) := (blk_cell BK115.out 0).trans rfl; have hcz8_1 : w5.cell? ⟨gb115, 1, none⟩ = some (.int .i64 a1_1) := (blk_cell BK115.out 1).trans rfl; have hfz8_0 := blk_frozen BK115.out 0; have hfz8_1 := blk_frozen BK115.out 1) | ((with_reducible refine gate_callee (f := 63) rfl ?_); refine goesL_ (some 8) rfl rfl Try.func63 (by kernel_rfl) rfl #[.agg #[.int .i64 a0_0, .int .i64 a0_1], .agg #[.int .i64 a1_0, .int .i64 a1_1], .agg #[.int .i64 a1_0, .int .i64 a1_1]] rfl (by (try simp only [List.map_toArray, List.map_cons, List.map_nil]); first | done | rfl | (simp only [List.length_drop, List.length_take]; rfl)) ?_; (with_reducible refine (plane_Dot.calls a0_0 a0_1 a1_0 a1_1 a1_0 a1_1 t116 _ A3.out).mono ?_); rintro e w9 ⟨rfl, hb⟩; refine ⟨_, rfl, ?_⟩; have n0_ := Aside0.mk (blk_below (g := gb114) (o := .cells #[.int .i64 a0_0, .int .i64 a0_1] 24 (0, 0)) (by (with_reducible repeat (first | refine blk_drewN ?_ _ | refine blk_drew ?_ | refine blk_alloc ?_ _)); exact BK114.out) hb); have n1_ := Aside0.mk (blk_below (g := gb115) (o := .cells #[.int .i64 a1_0, .int .i64 a1_1] 24 (0, 0)) (by (with_reducible repeat (first | refine blk_drewN ?_ _ | refine blk_drew ?_ | refine blk_alloc ?_ _)); exact BK115.out) hb); have n2_ := Aside0.mk (below_step (by repeat (first | (with_reducible first | exact HB.out | apply below_alloc | apply pw_below_drewN | apply below_drew1 | refine below_set ?_ GE114.out | refine below_set ?_ GE115.out) | exact HB.out)) hb); clear BK114; clear BK115; clear HB; have BK114 := n0_; have BK115 := n1_; have HB := n2_; clear n0_ n1_ n2_; (try clear hb); (try clear hb2); (try clear hk); (try clear hi)))
  go_ret
  exact ⟨by first | rfl | (simp [errW_none, errW_some] <;> rfl) | (simp [*, errW_none, errW_some] <;> rfl), by repeat (first | (with_reducible first | exact HB.out | apply below_alloc | apply pw_below_drewN | apply below_drew1 | refine below_set ?_ GE114.out | refine below_set ?_ GE115.out) | exact HB.out)⟩

/-! ### bits_Mul64: function 54 -/
def bits_Mul64.f (a0 : Int) (a1 : Int) : Option (Int × Int) := if 0 ≤ a0 ∧ a0 ≤ 18446744073709551615 ∧ 0 ≤ a1 ∧ a1 ≤ 18446744073709551615 then some (a0 * a1 / 18446744073709551616, a0 * a1 % 18446744073709551616) else none
theorem bits_Mul64.maskN (a : Nat) (ha : a < 18446744073709551616) : Go.bits .and .u64 (a : Int) 4294967295 = ((a % 4294967296 : Nat) : Int) := by
  have h := bits_and_u64_nat a 4294967295 ha (by omega)
  have e : a &&& 4294967295 = a % 4294967296 := Nat.and_two_pow_sub_one_eq_mod a 32
  rw [e] at h
  exact h
theorem bits_Mul64.divN (a : Nat) : (a : Int) / 4294967296 = ((a / 4294967296 : Nat) : Int) := by omega
theorem bits_Mul64.mulN (a b : Nat) : (a : Int) * (b : Int) = ((a * b : Nat) : Int) := (Int.natCast_mul a b).symm
theorem bits_Mul64.addN (a b : Nat) : (a : Int) + (b : Int) = ((a + b : Nat) : Int) := (Int.natCast_add a b).symm
theorem bits_Mul64.wrapN (a : Nat) (ha : a < 18446744073709551616) : IntKind.u64.wrap (a : Int) = (a : Int) := by rw [IntKind.wrap_u64]; omega
theorem bits_Mul64.wrapM (a : Nat) : IntKind.u64.wrap (a : Int) = ((a % 18446744073709551616 : Nat) : Int) := by rw [IntKind.wrap_u64]; omega
set_option maxHeartbeats 1000000 in
theorem bits_Mul64.core (x y : Nat) (hx : x < 18446744073709551616) (hy : y < 18446744073709551616) (w : World) :
    Calls Try.prog 54 #[.int .u64 x, .int .u64 y] w fun e w' => e = .returned (.tuple #[.int .u64 ((x * y / 18446744073709551616 : Nat) : Int), .int .u64 ((x * y % 18446744073709551616 : Nat) : Int)]) ∧ Drawn0 w w' := by
  obtain ⟨bd, bt, bw, hhi⟩ := Lib.mul64_hi x y hx hy
  have ba := Lib.half_mul_le (a := x / 4294967296) (b := y / 4294967296) (by omega) (by omega)
  have bb := Lib.half_mul_le (a := x / 4294967296) (b := y % 4294967296) (by omega) (by omega)
  have bc := Lib.half_mul_le (a := x % 4294967296) (b := y / 4294967296) (by omega) (by omega)
  have ba' : x / 4294967296 * (y / 4294967296) < 18446744073709551616 := by omega
  have bb' : x / 4294967296 * (y % 4294967296) < 18446744073709551616 := by omega
  have bc' : x % 4294967296 * (y / 4294967296) < 18446744073709551616 := by omega
  have bh1 : x / 4294967296 * (y / 4294967296) + (x / 4294967296 * (y % 4294967296) + x % 4294967296 * (y % 4294967296) / 4294967296) / 4294967296 < 18446744073709551616 := by omega
  have bh : x / 4294967296 * (y / 4294967296) + (x / 4294967296 * (y % 4294967296) + x % 4294967296 * (y % 4294967296) / 4294967296) / 4294967296 + ((x / 4294967296 * (y % 4294967296) + x % 4294967296 * (y % 4294967296) / 4294967296) % 4294967296 + x % 4294967296 * (y / 4294967296)) / 4294967296 < 18446744073709551616 := by omega
  go_enter Try.func54, Try.ntmps54
  go_wp2
  simp only [bits_Mul64.maskN x hx, bits_Mul64.maskN y hy, bits_Mul64.divN, bits_Mul64.mulN, bits_Mul64.addN, bits_Mul64.wrapN _ bd, bits_Mul64.wrapN _ bb', bits_Mul64.wrapN _ bt, bits_Mul64.maskN _ bt, bits_Mul64.wrapN _ bc', bits_Mul64.wrapN _ bw, bits_Mul64.wrapN _ ba', bits_Mul64.wrapN _ bh1, bits_Mul64.wrapN _ bh, bits_Mul64.wrapM (x * y)]
  rw [hhi]
  go_ret2
  exact ⟨rfl, by repeat (first | exact Drawn0.refl _ | apply Drawn0.step)⟩
theorem bits_Mul64.calls (a0 : Int) (a1 : Int) (r1 : Int) (r2 : Int) (w : World) (h : bits_Mul64.f a0 a1 = some (r1, r2)) :
    Calls Try.prog 54 #[.int .u64 a0, .int .u64 a1] w fun e w' => e = .returned (.tuple #[.int .u64 r1, .int .u64 r2]) ∧ Drawn0 w w' := by
  unfold bits_Mul64.f at h
  split at h
  case isFalse => exact absurd h (by simp)
  case isTrue hc =>
  obtain ⟨h0, h1, h2, h3⟩ := hc
  simp only [Option.some.injEq, Prod.mk.injEq] at h
  obtain ⟨rfl, rfl⟩ := h
  obtain ⟨x, rfl⟩ := Int.eq_ofNat_of_zero_le h0
  obtain ⟨y, rfl⟩ := Int.eq_ofNat_of_zero_le h2
  exact bits_Mul64.core x y (by omega) (by omega) w

/-! ### bits_Len64: function 68 -/
def bits_Len64.f (a0 : Int) : Option (Int) := if 0 ≤ a0 ∧ a0 ≤ 18446744073709551615 then some ((Lib.bitLen a0.toNat : Int)) else none
theorem bits_Len64.calls (a0 : Int) (r : Int) (w : World) (h : bits_Len64.f a0 = some r) :
    Calls Try.prog 68 #[.int .u64 a0] w fun e w' => e = .returned (.int .i64 r) ∧ Drawn0 w w' := by
  unfold bits_Len64.f at h
  split at h
  case isFalse => exact absurd h (by simp)
  case isTrue hc =>
  obtain rfl := Option.some.inj h
  refine (Try.bits_Len64 a0 w hc.1 hc.2).mono ?_
  rintro e w' ⟨rfl, rfl⟩
  exact ⟨rfl, Drawn0.refl _⟩
/-! ### bits_LeadingZeros64: function 65 -/
def bits_LeadingZeros64.f (a0 : Int) : Option (Int) := if 0 ≤ a0 ∧ a0 ≤ 18446744073709551615 then some (64 - (Lib.bitLen a0.toNat : Int)) else none
theorem bits_LeadingZeros64.calls (a0 : Int) (r : Int) (w : World) (h : bits_LeadingZeros64.f a0 = some r) :
    Calls Try.prog 65 #[.int .u64 a0] w fun e w' => e = .returned (.int .i64 r) ∧ Drawn0 w w' := by
  unfold bits_LeadingZeros64.f at h
  split at h
  case isFalse => exact absurd h (by simp)
  case isTrue hc =>
  obtain rfl := Option.some.inj h
  refine (Try.bits_LeadingZeros64 a0 w hc.1 hc.2).mono ?_
  rintro e w' ⟨rfl, rfl⟩
  exact ⟨rfl, Drawn0.refl _⟩
/-! ### bits_Div64: function 55 -/
def bits_Div64.f (a0 a1 a2 : Int) : Option (Int × Int) := if 0 ≤ a0 ∧ a0 < a2 ∧ 0 ≤ a1 ∧ a1 ≤ 18446744073709551615 ∧ a2 ≤ 18446744073709551615 then some ((a0 * 18446744073709551616 + a1) / a2, (a0 * 18446744073709551616 + a1) % a2) else none
set_option maxHeartbeats 1000000 in
theorem bits_Div64.div0 (lo y : Int) (l0 : 0 ≤ lo) (l1 : lo ≤ 18446744073709551615) (y0 : 1 ≤ y) (y1 : y ≤ 18446744073709551615) (w : World) :
    Calls Try.prog 55 #[.int .u64 0, .int .u64 lo, .int .u64 y] w fun e w' => e = .returned (.tuple #[.int .u64 (lo / y), .int .u64 (lo % y)]) ∧ Drawn0 w w' := by
  have h1 : (y == 0) = false := beq_eq_false_iff_ne.mpr (by omega)
  have h2 : decide (y ≤ 0) = false := decide_eq_false (by omega)
  go_enter Try.func55, Try.ntmps55
  go_wp2
  go_quiet (fail)
  go_wp2
  go_ret2
  exact ⟨rfl, by repeat (first | exact Drawn0.refl _ | apply Drawn0.step)⟩

theorem bits_Div64.shift_of {y : Int} (y0 : 1 ≤ y) (y1 : y ≤ 18446744073709551615) : ∃ s : Nat, (64 - (Lib.bitLen y.toNat : Int)) = (s : Int) ∧ s ≤ 63 ∧ 9223372036854775808 ≤ y * 2 ^ s ∧ y * 2 ^ s ≤ 18446744073709551615 := by
  obtain ⟨n, rfl⟩ := Int.eq_ofNat_of_zero_le (show 0 ≤ y by omega)
  rw [Int.toNat_natCast]
  obtain ⟨h1, h2, h3⟩ := Lib.bitLenAux_bounds 64 n (by omega) (by omega)
  have h4 := Lib.bitLen_le n 64 (by omega) (by omega)
  have e : Lib.bitLen n = Lib.bitLenAux 64 n := rfl
  rw [← e] at h1 h2 h3
  generalize Lib.bitLen n = b at *
  refine ⟨64 - b, by omega, by omega, ?_⟩
  have p1 : 2 ^ (b - 1) * 2 ^ (64 - b) = 2 ^ 63 := by rw [← Nat.pow_add]; congr 1; omega
  have p2 : 2 ^ b * 2 ^ (64 - b) = 2 ^ 64 := by rw [← Nat.pow_add]; congr 1; omega
  have q1 : 2 ^ (b - 1) * 2 ^ (64 - b) ≤ n * 2 ^ (64 - b) := Nat.mul_le_mul_right _ h2
  have q2 : (n + 1) * 2 ^ (64 - b) ≤ 2 ^ b * 2 ^ (64 - b) := Nat.mul_le_mul_right _ h3
  have q3 : 0 < 2 ^ (64 - b) := Nat.pow_pos (by omega)
  rw [Nat.add_mul] at q2
  have e3 : (n : Int) * 2 ^ (64 - b) = ((n * 2 ^ (64 - b) : Nat) : Int) := by simp
  rw [e3]
  omega

theorem bits_Div64.pow_split {s : Nat} (h : s ≤ 63) : (2 : Int) ^ (64 - s) * 2 ^ s = 18446744073709551616 ∧ (1 : Int) ≤ 2 ^ s ∧ (1 : Int) ≤ 2 ^ (64 - s) := by
  have e : (2 : Int) ^ (64 - s) * 2 ^ s = 2 ^ 64 := by rw [← Int.pow_add]; congr 1; omega
  exact ⟨e, Int.pow_pos (by omega), Int.pow_pos (by omega)⟩

/-- The numerator, bits_Div64.moved: its upper and its lower word. -/
theorem bits_Div64.moved {hi lo y : Int} {s : Nat} (h0 : 0 ≤ hi) (h1 : hi < y) (l0 : 0 ≤ lo) (l1 : lo ≤ 18446744073709551615) (s1 : s ≤ 63) (s3 : y * 2 ^ s ≤ 18446744073709551615) :
    ∃ u L : Int, Go.bits .or .u64 (IntKind.u64.wrap (hi * 2 ^ s)) (lo / 2 ^ (64 - s)) = u ∧ IntKind.u64.wrap (lo * 2 ^ s) = L ∧ 0 ≤ u ∧ u < y * 2 ^ s ∧ 0 ≤ L ∧ L ≤ 18446744073709551615 ∧ u * 18446744073709551616 + L = (hi * 18446744073709551616 + lo) * 2 ^ s := by
  obtain ⟨p, p1, p2⟩ := bits_Div64.pow_split s1
  have k1 : hi * 2 ^ s ≤ y * 2 ^ s - 2 ^ s := by
    have := Int.mul_le_mul_of_nonneg_right (show hi + 1 ≤ y by omega) (show 0 ≤ (2 : Int) ^ s by omega)
    rw [Int.add_mul] at this
    omega
  have k0 : 0 ≤ hi * 2 ^ s := Int.mul_nonneg h0 (by omega)
  have j0 : 0 ≤ lo / 2 ^ (64 - s) := Int.ediv_nonneg l0 (by omega)
  have j1 : lo / 2 ^ (64 - s) < 2 ^ s := Int.ediv_lt_of_lt_mul (by omega) (by rw [Int.mul_comm]; omega)
  have hor : Go.bits .or .u64 (IntKind.u64.wrap (hi * 2 ^ s)) (lo / 2 ^ (64 - s)) = hi * 2 ^ s + lo / 2 ^ (64 - s) := by
    rw [show IntKind.u64.wrap (hi * 2 ^ s) = hi * 2 ^ s by rw [IntKind.wrap_u64]; omega]
    obtain ⟨n, rfl⟩ := Int.eq_ofNat_of_zero_le h0
    obtain ⟨m, hm⟩ := Int.eq_ofNat_of_zero_le j0
    rw [hm] at j1 ⊢
    have e1 : (n : Int) * 2 ^ s = ((n * 2 ^ s : Nat) : Int) := by simp
    have j2 : m < 2 ^ s := by
      have : ((m : Nat) : Int) < ((2 ^ s : Nat) : Int) := by simpa using j1
      omega
    rw [e1] at k1 ⊢
    have e2 : ((2 ^ s : Nat) : Int) = (2 : Int) ^ s := by simp
    rw [bits_or_u64_nat _ _ (by omega) (by omega), ← Nat.shiftLeft_eq, ← Nat.shiftLeft_add_eq_or_of_lt j2 n]
    simp
  refine ⟨_, _, hor, by rw [IntKind.wrap_u64], by omega, by omega, by omega, by omega, ?_⟩
  have e3 := Int.mul_ediv_add_emod lo (2 ^ (64 - s))
  have e4 := Int.emod_nonneg lo (show (2 : Int) ^ (64 - s) ≠ 0 by omega)
  have e5 := Int.emod_lt_of_pos lo (show (0 : Int) < 2 ^ (64 - s) by omega)
  generalize lo / 2 ^ (64 - s) = a at *
  generalize lo % 2 ^ (64 - s) = b at *
  have e6 : b * 2 ^ s < 18446744073709551616 := by
    rw [← p]
    exact Int.mul_lt_mul_of_pos_right e5 (by omega)
  have e7 : 0 ≤ b * 2 ^ s := Int.mul_nonneg e4 (by omega)
  have e8 : lo * 2 ^ s = a * 18446744073709551616 + b * 2 ^ s := by
    rw [← e3, Int.add_mul, ← p, Int.mul_comm (2 ^ (64 - s)) a, Int.mul_assoc]
  rw [e8, show (a * 18446744073709551616 + b * 2 ^ s) % 18446744073709551616 = b * 2 ^ s by omega, Int.add_mul, Int.add_mul, e8]
  rw [Int.mul_assoc, Int.mul_comm (2 ^ s), ← Int.mul_assoc]
  omega
theorem bits_Div64.maskI {a : Int} (h0 : 0 ≤ a) (h1 : a ≤ 18446744073709551615) : Go.bits .and .u64 a 4294967295 = a % 4294967296 := by
  obtain ⟨n, rfl⟩ := Int.eq_ofNat_of_zero_le h0
  have h := bits_and_u64_nat n 4294967295 (by omega) (by omega)
  have e : n &&& 4294967295 = n % 4294967296 := Nat.and_two_pow_sub_one_eq_mod n 32
  rw [e] at h
  exact h

set_option maxHeartbeats 2000000 in
theorem bits_Div64.div1 (hi lo y : Int) (h0 : 1 ≤ hi) (h1 : hi < y) (l0 : 0 ≤ lo) (l1 : lo ≤ 18446744073709551615) (y1 : y ≤ 18446744073709551615) (w : World) :
    Calls Try.prog 55 #[.int .u64 hi, .int .u64 lo, .int .u64 y] w fun e w' => e = .returned (.tuple #[.int .u64 ((hi * 18446744073709551616 + lo) / y), .int .u64 ((hi * 18446744073709551616 + lo) % y)]) ∧ Drawn0 w w' := by
  have t1 : (y == 0) = false := beq_eq_false_iff_ne.mpr (by omega)
  have t2 : decide (y ≤ hi) = false := decide_eq_false (by omega)
  have t3 : (hi == 0) = false := beq_eq_false_iff_ne.mpr (by omega)
  obtain ⟨s, hs, s1, s2, s3⟩ := bits_Div64.shift_of (y := y) (by omega) y1
  obtain ⟨u, L, hu, hL, u0, u1, L0, L1, hU⟩ := bits_Div64.moved (s := s) (show 0 ≤ hi by omega) h1 l0 l1 s1 s3
  have C0 := fun W => (Try.bits_LeadingZeros64 y W (by omega) y1).mono (fun e w1 (h : _ ∧ _) => (⟨h.1, h.2.symm⟩ : _ ∧ W = w1))
  rw [hs] at C0
  have C := Aside0.mk C0
  have HU := Aside0.mk hu
  have HL := Aside0.mk hL
  have HUU := Aside0.mk hU
  clear C0 hs hu hL hU
  go_enter Try.func55, Try.ntmps55
  go_upto_block 0 with ((go_at_call 65; refine (C.out _).mono ?_; rintro e w' ⟨rfl, rfl⟩))
  rw [HU.out, HL.out]
  obtain ⟨Y, hY⟩ : ∃ Y, Y = y * 2 ^ s := ⟨_, rfl⟩
  rw [← hY] at s2 s3 u1 ⊢
  have HY := Aside0.mk hY
  have e15 : IntKind.u64.wrap (u.tdiv (Y / 4294967296)) = u / (Y / 4294967296) := by
    rw [Int.tdiv_eq_ediv, if_pos (Or.inl u0), IntKind.wrap_u64]
    have d0 := Int.ediv_nonneg u0 (show 0 ≤ Y / 4294967296 by omega)
    have d1 := Int.ediv_le_self (Y / 4294967296) u0
    omega
  have e16 : IntKind.u64.wrap (u - IntKind.u64.wrap (u / (Y / 4294967296) * (Y / 4294967296))) = u - u / (Y / 4294967296) * (Y / 4294967296) := by
    have e := Int.mul_ediv_add_emod u (Y / 4294967296)
    have m0 := Int.emod_nonneg u (show Y / 4294967296 ≠ 0 by omega)
    have m1 := Int.emod_lt_of_pos u (show 0 < Y / 4294967296 by omega)
    rw [Int.mul_comm] at e
    rw [IntKind.wrap_u64, IntKind.wrap_u64]
    omega
  rw [bits_Div64.maskI (a := Y) (by omega) (by omega), bits_Div64.maskI L0 L1, e15, e16]
  clear e15 e16 hY
  have ok1 : Aside0 (Dv.Ok u (L / 4294967296) (Y / 4294967296) (Y % 4294967296)) := ⟨⟨u0, by omega, by omega, by omega, by omega, by omega, by omega, by omega⟩⟩
  have eY : Y / 4294967296 * 4294967296 + Y % 4294967296 = Y := by omega
  have eL : L / 4294967296 * 4294967296 + L % 4294967296 = L := by omega
  have ba : 2147483648 ≤ Y / 4294967296 ∧ Y / 4294967296 ≤ 4294967295 := by omega
  have bb : 0 ≤ Y % 4294967296 ∧ Y % 4294967296 ≤ 4294967295 := by omega
  have bc : 0 ≤ L / 4294967296 ∧ L / 4294967296 ≤ 4294967295 := by omega
  have bd : 0 ≤ L % 4294967296 ∧ L % 4294967296 ≤ 4294967295 := by omega
  generalize Y / 4294967296 = a at *
  generalize Y % 4294967296 = b at *
  generalize L / 4294967296 = c at *
  generalize L % 4294967296 = d at *
  obtain ⟨a0, a1⟩ := ba
  obtain ⟨b0, b1⟩ := bb
  obtain ⟨c0, c1⟩ := bc
  obtain ⟨d0, d1⟩ := bd
  have EY := Aside0.mk eY
  have EL := Aside0.mk eL
  clear eY eL
  go_cut [15] (fun v15 wc => ∃ q : Int, v15 = .int .u64 q ∧ Aside0 (q = (u * 4294967296 + c) / (a * 4294967296 + b)) ∧ Aside0 (Drawn0 w wc))
  case first =>
    go_wp2_with fail
    go_loop [15, 16] (fun v15 v16 => ∃ q rh : Int, v15 = .int .u64 q ∧ v16 = .int .u64 rh ∧ Aside0 (Dv.Inv u c a b q rh)) (fun v15 _ => (intOf v15 - (u * 4294967296 + c) / (a * 4294967296 + b)).toNat)
    case atStart => exact ⟨_, _, rfl, rfl, ⟨Dv.start ok1.out⟩⟩
    case round =>
      obtain ⟨q, rh, rfl, rfl, I⟩ := hrel
      have r0 := I.out.r0
      have r1 := I.out.r1
      have q1 := I.out.q1
      have qq := Int.le_trans ok1.out.Q0 I.out.q0
      by_cases k1 : 4294967296 ≤ q
      · have hm := (I.out.test ok1.out).2 (Or.inl k1)
        have T1 : decide (4294967296 ≤ q) = true := decide_eq_true k1
        have q2 : 1 ≤ q := by omega
        by_cases k2 : rh + a < 4294967296
        · have T2 : decide (4294967296 ≤ rh + a) = false := decide_eq_false (by omega)
          have J := Aside0.mk ((I.out.next ok1.out hm).1 k2)
          have HM := Aside0.mk hm
          clear hm
          go_wp2
          go_round
          case rel => exact ⟨q - 1, rh + a, rfl, rfl, J⟩
          case measure => have := HM.out; simp [intOf]; omega
        · have T2 : decide (4294967296 ≤ rh + a) = true := decide_eq_true (by omega)
          have J := Aside0.mk ((I.out.next ok1.out hm).2 k2)
          clear hm
          go_wp2
          go_meet
          case rel => exact ⟨q - 1, rfl, J, ⟨by repeat (first | exact Drawn0.refl _ | apply Drawn0.step)⟩⟩
      · have T1 : decide (4294967296 ≤ q) = false := decide_eq_false k1
        obtain ⟨_, p0, p1⟩ := I.out.prod ok1.out k1
        by_cases k3 : 4294967296 * rh + c < q * b
        · have hm := (I.out.test ok1.out).2 (Or.inr k3)
          have T3 : decide (4294967296 * rh + c < q * b) = true := decide_eq_true k3
          have q2 : 1 ≤ q := by have := ok1.out.Q0; omega
          by_cases k2 : rh + a < 4294967296
          · have T2 : decide (4294967296 ≤ rh + a) = false := decide_eq_false (by omega)
            have J := Aside0.mk ((I.out.next ok1.out hm).1 k2)
            have HM := Aside0.mk hm
            clear hm
            go_wp2
            go_round
            case rel => exact ⟨q - 1, rh + a, rfl, rfl, J⟩
            case measure => have := HM.out; simp [intOf]; omega
          · have T2 : decide (4294967296 ≤ rh + a) = true := decide_eq_true (by omega)
            have J := Aside0.mk ((I.out.next ok1.out hm).2 k2)
            clear hm
            go_wp2
            go_meet
            case rel => exact ⟨q - 1, rfl, J, ⟨by repeat (first | exact Drawn0.refl _ | apply Drawn0.step)⟩⟩
        · have T3 : decide (4294967296 * rh + c < q * b) = false := decide_eq_false k3
          have J := Aside0.mk (I.out.done ok1.out k1 k3)
          go_wp2
          go_meet
          case rel => exact ⟨q, rfl, J, ⟨by repeat (first | exact Drawn0.refl _ | apply Drawn0.step)⟩⟩
  case rest =>
    obtain ⟨q, rfl, HQ, HD⟩ := hcut
    have bq : 0 ≤ q ∧ q ≤ 4294967295 := by
      have h1 := ok1.out.Q0
      have h2 := Dv.lt_b ok1.out.u1 ok1.out.d1 ok1.out.pos
      rw [HQ.out]
      omega
    obtain ⟨r, hr, r0, r1, hr2⟩ : ∃ r : Int, (u * 4294967296 + c) % (a * 4294967296 + b) = r ∧ 0 ≤ r ∧ r < Y ∧ q * Y + r = u * 4294967296 + c := by
      refine ⟨_, rfl, Int.emod_nonneg _ (by have := ok1.out.pos; omega), ?_, ?_⟩
      · have := Int.emod_lt_of_pos (u * 4294967296 + c) ok1.out.pos
        rw [EY.out] at this ⊢
        exact this
      · rw [HQ.out, EY.out, Int.mul_comm]
        exact Int.mul_ediv_add_emod _ _
    obtain ⟨bq0, bq1⟩ := bq
    have HR := Aside0.mk hr
    have HR2 := Aside0.mk hr2
    have ok2 : Aside0 (Dv.Ok r d a b) := ⟨⟨r0, by rw [EY.out]; exact r1, d0, by omega, a0, by omega, b0, by omega⟩⟩
    have e17 : IntKind.u64.wrap (IntKind.u64.wrap (IntKind.u64.wrap (u * 4294967296) + c) - IntKind.u64.wrap (q * Y)) = r := by
      rw [IntKind.wrap_u64, IntKind.wrap_u64, IntKind.wrap_u64, IntKind.wrap_u64]
      omega
    have e18 : IntKind.u64.wrap (r.tdiv a) = r / a := by
      rw [Int.tdiv_eq_ediv, if_pos (Or.inl r0), IntKind.wrap_u64]
      have d0 := Int.ediv_nonneg r0 (show 0 ≤ a by omega)
      have d1 := Int.ediv_le_self a r0
      omega
    have e16 : IntKind.u64.wrap (r - IntKind.u64.wrap (r / a * a)) = r - r / a * a := by
      have e := Int.mul_ediv_add_emod r a
      have m0 := Int.emod_nonneg r (show a ≠ 0 by omega)
      have m1 := Int.emod_lt_of_pos r (show 0 < a by omega)
      rw [Int.mul_comm] at e
      rw [IntKind.wrap_u64, IntKind.wrap_u64]
      omega
    have E17 := Aside0.mk e17
    have E18 := Aside0.mk e18
    have E16 := Aside0.mk e16
    clear hr hr2 e17 e18 e16
    go_upto_block 2 with (fail)
    rw [E17.out, E18.out, E16.out]
    clear E17 E18 E16
    go_cut [18] (fun v18 wc => ∃ z : Int, v18 = .int .u64 z ∧ Aside0 (z = (r * 4294967296 + d) / (a * 4294967296 + b)) ∧ Aside0 (Drawn0 w wc))
    case first =>
      go_wp2_with fail
      go_loop [18, 16] (fun v18 v16 => ∃ v rh : Int, v18 = .int .u64 v ∧ v16 = .int .u64 rh ∧ Aside0 (Dv.Inv r d a b v rh)) (fun v18 _ => (intOf v18 - (r * 4294967296 + d) / (a * 4294967296 + b)).toNat)
      case atStart => exact ⟨_, _, rfl, rfl, ⟨Dv.start ok2.out⟩⟩
      case round =>
        obtain ⟨v, rh, rfl, rfl, I⟩ := hrel
        have rh0 := I.out.r0
        have rh1 := I.out.r1
        have v1 := I.out.q1
        have vv := Int.le_trans ok2.out.Q0 I.out.q0
        by_cases k1 : 4294967296 ≤ v
        · have hm := (I.out.test ok2.out).2 (Or.inl k1)
          have T1 : decide (4294967296 ≤ v) = true := decide_eq_true k1
          have q2 : 1 ≤ v := by omega
          by_cases k2 : rh + a < 4294967296
          · have T2 : decide (4294967296 ≤ rh + a) = false := decide_eq_false (by omega)
            have J := Aside0.mk ((I.out.next ok2.out hm).1 k2)
            have HM := Aside0.mk hm
            clear hm
            go_wp2
            go_round
            case rel => exact ⟨v - 1, rh + a, rfl, rfl, J⟩
            case measure => have := HM.out; simp [intOf]; omega
          · have T2 : decide (4294967296 ≤ rh + a) = true := decide_eq_true (by omega)
            have J := Aside0.mk ((I.out.next ok2.out hm).2 k2)
            clear hm
            go_wp2
            go_meet
            case rel => exact ⟨v - 1, rfl, J, ⟨by repeat (first | exact HD.out | apply Drawn0.step)⟩⟩
        · have T1 : decide (4294967296 ≤ v) = false := decide_eq_false k1
          obtain ⟨_, p0, p1⟩ := I.out.prod ok2.out k1
          by_cases k3 : 4294967296 * rh + d < v * b
          · have hm := (I.out.test ok2.out).2 (Or.inr k3)
            have T3 : decide (4294967296 * rh + d < v * b) = true := decide_eq_true k3
            have q2 : 1 ≤ v := by have := ok2.out.Q0; omega
            by_cases k2 : rh + a < 4294967296
            · have T2 : decide (4294967296 ≤ rh + a) = false := decide_eq_false (by omega)
              have J := Aside0.mk ((I.out.next ok2.out hm).1 k2)
              have HM := Aside0.mk hm
              clear hm
              go_wp2
              go_round
              case rel => exact ⟨v - 1, rh + a, rfl, rfl, J⟩
              case measure => have := HM.out; simp [intOf]; omega
            · have T2 : decide (4294967296 ≤ rh + a) = true := decide_eq_true (by omega)
              have J := Aside0.mk ((I.out.next ok2.out hm).2 k2)
              clear hm
              go_wp2
              go_meet
              case rel => exact ⟨v - 1, rfl, J, ⟨by repeat (first | exact HD.out | apply Drawn0.step)⟩⟩
          · have T3 : decide (4294967296 * rh + d < v * b) = false := decide_eq_false k3
            have J := Aside0.mk (I.out.done ok2.out k1 k3)
            go_wp2
            go_meet
            case rel => exact ⟨v, rfl, J, ⟨by repeat (first | exact HD.out | apply Drawn0.step)⟩⟩
    case rest =>
      obtain ⟨z, rfl, HZ, HE⟩ := hcut
      have bz : 0 ≤ z ∧ z ≤ 4294967295 := by
        have h1 := ok2.out.Q0
        have h2 := Dv.lt_b ok2.out.u1 ok2.out.d1 ok2.out.pos
        rw [HZ.out]
        omega
      obtain ⟨bz0, bz1⟩ := bz
      have fin : q * 4294967296 + z = (hi * 18446744073709551616 + lo) / y ∧ IntKind.u64.wrap (IntKind.u64.wrap (IntKind.u64.wrap (r * 4294967296) + d) - IntKind.u64.wrap (z * Y)) / 2 ^ s = (hi * 18446744073709551616 + lo) % y := by
        obtain ⟨p, p1, _⟩ := bits_Div64.pow_split s1
        have t := Dv.two (u := u) (d1 := c) (d0 := d) (y := a * 4294967296 + b) ok1.out.pos
        rw [← HQ.out, HR.out, ← HZ.out] at t
        have e1 : (u * 4294967296 + c) * 4294967296 + d = (hi * 18446744073709551616 + lo) * 2 ^ s := by
          have := HUU.out
          have := EL.out
          omega
        have e2 := Int.mul_ediv_add_emod (r * 4294967296 + d) (a * 4294967296 + b)
        have e3 := Int.emod_nonneg (r * 4294967296 + d) (show a * 4294967296 + b ≠ 0 by omega)
        have e4 := Int.emod_lt_of_pos (r * 4294967296 + d) (show 0 < a * 4294967296 + b by omega)
        rw [← HZ.out, EY.out, Int.mul_comm] at e2
        rw [EY.out] at e3 e4
        rw [e1, EY.out, HY.out, Int.mul_ediv_mul_of_pos_left _ _ (by omega), Int.mul_comm y, Int.mul_comm _ (2 ^ s), Int.mul_emod_mul_of_pos _ _ (by omega)] at t
        refine ⟨t.1, ?_⟩
        have e5 : IntKind.u64.wrap (IntKind.u64.wrap (IntKind.u64.wrap (r * 4294967296) + d) - IntKind.u64.wrap (z * Y)) = (r * 4294967296 + d) % Y := by
          rw [IntKind.wrap_u64, IntKind.wrap_u64, IntKind.wrap_u64, IntKind.wrap_u64]
          omega
        rw [e5, HY.out, Int.mul_comm y, t.2, Int.mul_comm, Int.mul_ediv_cancel _ (by omega)]
      have FIN := Aside0.mk fin
      clear fin
      go_wp2
      go_ret2
      exact ⟨by rw [← FIN.out.1, ← FIN.out.2]; rfl, by repeat (first | exact HE.out | apply Drawn0.step)⟩
theorem bits_Div64.calls (a0 : Int) (a1 : Int) (a2 : Int) (r1 : Int) (r2 : Int) (w : World) (h : bits_Div64.f a0 a1 a2 = some (r1, r2)) :
    Calls Try.prog 55 #[.int .u64 a0, .int .u64 a1, .int .u64 a2] w fun e w' => e = .returned (.tuple #[.int .u64 r1, .int .u64 r2]) ∧ Drawn0 w w' := by
  unfold bits_Div64.f at h
  split at h
  case isFalse => exact absurd h (by simp)
  case isTrue hc =>
  obtain ⟨h0, h1, h2, h3, h4⟩ := hc
  simp only [Option.some.injEq, Prod.mk.injEq] at h
  obtain ⟨rfl, rfl⟩ := h
  by_cases hz : a0 = 0
  · subst hz
    rw [Int.zero_mul, Int.zero_add]
    exact bits_Div64.div0 a1 a2 h2 h3 (by omega) h4 w
  · exact bits_Div64.div1 a0 a1 a2 (by omega) h1 h2 h3 h4 w

/-! ### paint_linear: function 46 -/
def paint_linear.j0 : Nat → Int → Int → Bool → Option (Int)
  | 0, _, _, _ => none
  | k + 1, x5, x6, x22 => if x22 = true then (some 0) else (if x5 ≥ x6 then (some 65536) else ((bits_Mul64.f (IntKind.u64.wrap (x5)) 65536).bind fun bt121 => ((bits_Div64.f bt121.1 bt121.2 (IntKind.u64.wrap (x6))).bind fun bt123 => (some (wrap64 (bt123.1))))))
def paint_linear.f (k : Nat) (a0_0 : Int) (a0_1 : Int) (a0_2 : Int) (a0_3 : Int) (a0_4 : Int) (a0_5 : Int) (a0_6 : Int) (a1_0 : Int) (a1_1 : Int) : Option (Int) := (plane_Dot.f a0_3 a0_4 a0_5 a0_6 a1_0 a1_1).bind fun t119 => ((plane_Len2.f a0_3 a0_4 a0_5 a0_6).bind fun t120 => (if t119 ≤ 0 then (paint_linear.j0 k t119 t120 true) else (paint_linear.j0 k t119 t120 (decide (t120 ≤ 0)))))
theorem paint_linear.mono_l : ∀ k, (∀ y0 y1 y2, LeO (paint_linear.j0 k y0 y1 y2) (paint_linear.j0 (k + 1) y0 y1 y2))
  | 0 => fun _ _ _ r h => by simp [paint_linear.j0] at h
  | k + 1 => by
    have ih0 := paint_linear.mono_l k
    · intro y0 y1 y2
      unfold paint_linear.j0
      repeat' first
      | (with_reducible exact ih0 _ _ _)
      | (with_reducible exact LeO.refl _)
      | (with_reducible exact LeO.none _)
      | (with_reducible refine LeO.ite ?_ ?_)
      | (with_reducible refine LeO.bind ?_ (fun _ => ?_))
      | exact ih0 _ _ _
      | exact LeO.none _
      | refine LeO.ite ?_ ?_
      | refine LeO.bind ?_ (fun _ => ?_)
theorem paint_linear.mono : ∀ a0 a1 a2 a3 a4 a5 a6 a7 a8 k, LeO (paint_linear.f k a0 a1 a2 a3 a4 a5 a6 a7 a8) (paint_linear.f (k + 1) a0 a1 a2 a3 a4 a5 a6 a7 a8) := by
  intro a0 a1 a2 a3 a4 a5 a6 a7 a8 k
  have ih0 := paint_linear.mono_l k
  unfold paint_linear.f
  repeat' first
      | (with_reducible exact ih0 _ _ _)
      | (with_reducible exact LeO.refl _)
      | (with_reducible exact LeO.none _)
      | (with_reducible refine LeO.ite ?_ ?_)
      | (with_reducible refine LeO.bind ?_ (fun _ => ?_))
      | exact ih0 _ _ _
      | exact LeO.none _
      | refine LeO.ite ?_ ?_
      | refine LeO.bind ?_ (fun _ => ?_)
def paint_linear.T1 : Bool × List (List Nat × List Nat) := (true, [([], []), ([0], [0]), ([], []), ([2], [2]), ([], []), ([1, 3, 4], [1, 3, 4]), ([], []), ([6], [6]), ([], []), ([8], [8]), ([7, 9, 5], [7, 9]), ([5, 10, 0, 1, 2, 3, 4, 5], [5]), ([10, 11, 0, 1, 2, 3, 4, 5, 6, 7, 8, 9, 10, 11], [10])])
def paint_linear.B1 : List Nat := [0, 1, 0, 4, 0, 31, 0, 64, 0, 256, 1023, 2047, 4095]
theorem paint_linear.tab1 : rtab .any (opsOf Try.f46 1) = paint_linear.T1 := by kernel_rfl
theorem paint_linear.bits1 : waitsOk paint_linear.T1.2 paint_linear.B1 = true := by kernel_rfl
set_option maxHeartbeats 8000000 in
set_option maxRecDepth 100000 in
theorem paint_linear.calls (k : Nat) (a0_0 : Int) (a0_1 : Int) (a0_2 : Int) (a0_3 : Int) (a0_4 : Int) (a0_5 : Int) (a0_6 : Int) (a1_0 : Int) (a1_1 : Int) (r : Int) (w : World) (h : paint_linear.f k a0_0 a0_1 a0_2 a0_3 a0_4 a0_5 a0_6 a1_0 a1_1 = some r) :
    Calls Try.prog 46 #[.agg #[.int .i64 a0_0, .int .i64 a0_1, .int .i64 a0_2, .int .i64 a0_3, .int .i64 a0_4, .int .i64 a0_5, .int .i64 a0_6], .agg #[.int .i64 a1_0, .int .i64 a1_1]] w fun e w' => e = .returned (.int .i64 r) ∧ Below w.heap.size w w' := by
  have hu41 := Try.underlying41
  have hu24 := Try.underlying24
  have HB := Aside0.mk (Below.refl w.heap.size w)
  have H : ((plane_Dot.f a0_3 a0_4 a0_5 a0_6 a1_0 a1_1).bind fun t119 => ((plane_Len2.f a0_3 a0_4 a0_5 a0_6).bind fun t120 => (if t119 ≤ 0 then (paint_linear.j0 k t119 t120 true) else (paint_linear.j0 k t119 t120 (decide (t120 ≤ 0)))))) = some r := h
  clear h
  replace H := Option.bind_eq_some_iff.mp H
  obtain ⟨t119, A30, H⟩ := H
  replace H : ((plane_Len2.f a0_3 a0_4 a0_5 a0_6).bind fun t120 => (if t119 ≤ 0 then (paint_linear.j0 k t119 t120 true) else (paint_linear.j0 k t119 t120 (decide (t120 ≤ 0))))) = some r := H
  have A3 := Aside0.mk A30
  clear A30
  replace H := Option.bind_eq_some_iff.mp H
  obtain ⟨t120, A40, H⟩ := H
  replace H : (if t119 ≤ 0 then (paint_linear.j0 k t119 t120 true) else (paint_linear.j0 k t119 t120 (decide (t120 ≤ 0)))) = some r := H
  have A4 := Aside0.mk A40
  clear A40
  have HC5 := Aside0.mk H
  clear H
  go_enter Try.func46, Try.ntmps46
  try go_wp2_with (first | ((with_reducible refine gate_dst (N := 2) rfl ?_); refine box_event ?hg (N := 2) ?hd (cs := #[.int .i64 a0_0, .int .i64 a0_1, .int .i64 a0_2, .int .i64 a0_3, .int .i64 a0_4, .int .i64 a0_5, .int .i64 a0_6]) (t := 41) ?hr ?_; (case hd => rfl); (case hg => rfl); (case hr => first | (go_simp; done) | (go_simp; rfl)); intro gb117 hg w6 hbox hb; have n0_ := Aside0.mk (below_step (by repeat (first | (with_reducible first | exact HB.out | apply below_alloc | apply pw_below_drewN | apply below_drew1) | exact HB.out)) hb); have n1_ := Aside0.mk (hbox); have n2_ := Aside0.mk ((by rw [hg]; exact (below_size (by repeat (first | (with_reducible first | exact HB.out | apply below_alloc | apply pw_below_drewN | apply below_drew1) | exact HB.out))) : w.heap.size ≤ gb117)); have n3_ := Aside0.mk ((by rw [hg]; exact (below_size (by repeat (first | (with_reducible first | exact HB.out | apply below_alloc | apply pw_below_drewN | apply below_drew1) | exact HB.out))) : w.heap.size ≤ gb117)); clear HB; have HB := n0_; have BK117 := n1_; have GW117 := n2_; have GE117 := n3_; clear n0_ n1_ n2_ n3_; clear hb hbox hg) | ((with_reducible refine gate_dst (N := 3) rfl ?_); refine box_event ?hg (N := 3) ?hd (cs := #[.int .i64 a1_0, .int .i64 a1_1]) (t := 24) ?hr ?_; (case hd => rfl); (case hg => rfl); (case hr => first | (go_simp; done) | (go_simp; rfl)); intro gb118 hg w7 hbox hb; have n0_ := Aside0.mk (blk_below (g := gb117) (o := .cells #[.int .i64 a0_0, .int .i64 a0_1, .int .i64 a0_2, .int .i64 a0_3, .int .i64 a0_4, .int .i64 a0_5, .int .i64 a0_6] 41 (0, 0)) (by (with_reducible repeat (first | refine blk_drewN ?_ _ | refine blk_drew ?_ | refine blk_alloc ?_ _)); exact BK117.out) hb); have n1_ := Aside0.mk (below_step (by repeat (first | (with_reducible first | exact HB.out | apply below_alloc | apply pw_below_drewN | apply below_drew1 | refine below_set ?_ GE117.out) | exact HB.out)) hb); have n2_ := Aside0.mk (hbox); have n3_ := Aside0.mk ((by rw [hg]; exact (below_size (by repeat (first | (with_reducible first | exact HB.out | apply below_alloc | apply pw_below_drewN | apply below_drew1 | refine below_set ?_ GE117.out) | exact HB.out))) : w.heap.size ≤ gb118)); have n4_ := Aside0.mk ((by rw [hg]; exact (below_size (by repeat (first | (with_reducible first | exact HB.out | apply below_alloc | apply pw_below_drewN | apply below_drew1 | refine below_set ?_ GE117.out) | exact HB.out))) : w.heap.size ≤ gb118)); have n5_ := Aside0.mk ((by rw [hg]; exact Nat.ne_of_lt (blk_lt (g := gb117) (o := .cells #[.int .i64 a0_0, .int .i64 a0_1, .int .i64 a0_2, .int .i64 a0_3, .int .i64 a0_4, .int .i64 a0_5, .int .i64 a0_6] 41 (0, 0)) (by (with_reducible repeat (first | refine blk_drewN ?_ _ | refine blk_drew ?_ | refine blk_alloc ?_ _)); exact BK117.out)) : gb117 ≠ gb118)); have n6_ := Aside0.mk ((by rw [hg]; exact Nat.ne_of_gt (blk_lt (g := gb117) (o := .cells #[.int .i64 a0_0, .int .i64 a0_1, .int .i64 a0_2, .int .i64 a0_3, .int .i64 a0_4, .int .i64 a0_5, .int .i64 a0_6] 41 (0, 0)) (by (with_reducible repeat (first | refine blk_drewN ?_ _ | refine blk_drew ?_ | refine blk_alloc ?_ _)); exact BK117.out)) : gb118 ≠ gb117)); clear BK117; clear HB; have BK117 := n0_; have HB := n1_; have BK118 := n2_; have GW118 := n3_; have GE118 := n4_; have NB117_118 := n5_; have NB118_117 := n6_; clear n0_ n1_ n2_ n3_ n4_ n5_ n6_; clear hb hbox hg))
  have n0_ := Aside0.mk (blk_drew BK117.out)
  have n1_ := Aside0.mk (blk_drew BK118.out)
  have n2_ := Aside0.mk (below_drew1 HB.out)
  clear BK117
  clear BK118
  clear HB
  have BK117 := n0_
  have BK118 := n1_
  have HB := n2_
  clear n0_ n1_ n2_
  refine start_ (n := 13) (S := fun w' => w'.cell? ⟨gb117, 0, none⟩ = some (.int .i64 a0_0) ∧ w'.cell? ⟨gb117, 1, none⟩ = some (.int .i64 a0_1) ∧ w'.cell? ⟨gb117, 2, none⟩ = some (.int .i64 a0_2) ∧ w'.cell? ⟨gb117, 3, none⟩ = some (.int .i64 a0_3) ∧ w'.cell? ⟨gb117, 4, none⟩ = some (.int .i64 a0_4) ∧ w'.cell? ⟨gb117, 5, none⟩ = some (.int .i64 a0_5) ∧ w'.cell? ⟨gb117, 6, none⟩ = some (.int .i64 a0_6) ∧ w'.cell? ⟨gb118, 0, none⟩ = some (.int .i64 a1_0) ∧ w'.cell? ⟨gb118, 1, none⟩ = some (.int .i64 a1_1)) (ds := []) #[false, false, false, false, false, false, false, false, false, false, false, false, false] (by kernel_rfl) rfl rfl ⟨(blk_cell BK117.out 0).trans rfl, (blk_cell BK117.out 1).trans rfl, (blk_cell BK117.out 2).trans rfl, (blk_cell BK117.out 3).trans rfl, (blk_cell BK117.out 4).trans rfl, (blk_cell BK117.out 5).trans rfl, (blk_cell BK117.out 6).trans rfl, (blk_cell BK118.out 0).trans rfl, (blk_cell BK118.out 1).trans rfl⟩ (fun hHeld => ?_); refine with_tabW paint_linear.tab1 paint_linear.bits1 (fun HT_ HW_ => ?_)
  generalize w7.drew = w8 at BK117 BK118 HB hHeld ⊢
  refine pure_ (i := 0) (N := some 11) (v := ?_) (a' := ?_) #[true, false, false, false, false, false, false, false, false, false, false, false, false] rfl rfl (any_of HT_.out (by kernel_rfl)) (fun _ _ _ h => h) (Or.inl ⟨by rfl, ?_⟩) ?_ ?_
  rotate_left
  · intro w'
    go_simp
    with_reducible rfl
  rotate_left
  · simp only [Act.put, List.setIfInBounds_toArray, List.set_cons_zero, List.set_cons_succ, i64_w, i32_w]
    rfl
  refine pure_ (i := 2) (N := some 13) (v := ?_) (a' := ?_) #[true, false, true, false, false, false, false, false, false, false, false, false, false] rfl rfl (any_of HT_.out (by kernel_rfl)) (fun _ _ _ h => h) (Or.inl ⟨by rfl, ?_⟩) ?_ ?_
  rotate_left
  · intro w'
    go_simp
    with_reducible rfl
  rotate_left
  · simp only [Act.put, List.setIfInBounds_toArray, List.set_cons_zero, List.set_cons_succ, i64_w, i32_w]
    rfl
  refine pure_ (i := 6) (N := some 17) (v := ?_) (a' := ?_) #[true, false, true, false, false, false, true, false, false, false, false, false, false] rfl rfl (any_of HT_.out (by kernel_rfl)) (fun _ _ _ h => h) (Or.inl ⟨by rfl, ?_⟩) ?_ ?_
  rotate_left
  · intro w'
    go_simp
    with_reducible rfl
  rotate_left
  · simp only [Act.put, List.setIfInBounds_toArray, List.set_cons_zero, List.set_cons_succ, i64_w, i32_w]
    rfl
  refine pure_ (i := 8) (N := some 19) (v := ?_) (a' := ?_) #[true, false, true, false, false, false, true, false, true, false, false, false, false] rfl rfl (any_of HT_.out (by kernel_rfl)) (fun _ _ _ h => h) (Or.inl ⟨by rfl, ?_⟩) ?_ ?_
  rotate_left
  · intro w'
    go_simp
    with_reducible rfl
  rotate_left
  · simp only [Act.put, List.setIfInBounds_toArray, List.set_cons_zero, List.set_cons_succ, i64_w, i32_w]
    rfl
  refine take_ (i := 1) (N := some 12) (v := ?_) (a' := ?_) #[true, true, true, false, false, false, true, false, true, false, false, false, false] rfl rfl (take_ofW HT_.out HW_.out (by kernel_rfl)) (fun _ _ _ h => h) (Or.inl ⟨by rfl, ?_⟩) hHeld ?_ ?_
  rotate_left
  · rintro w' ⟨s0, s1, s2, s3, s4, s5, s6, s7, s8⟩
    go_simp
    with_reducible rfl
  rotate_left
  · simp only [Act.put, List.setIfInBounds_toArray, List.set_cons_zero, List.set_cons_succ, i64_w, i32_w]
    rfl
  refine take_ (i := 3) (N := some 14) (v := ?_) (a' := ?_) #[true, true, true, true, false, false, true, false, true, false, false, false, false] rfl rfl (take_ofW HT_.out HW_.out (by kernel_rfl)) (fun _ _ _ h => h) (Or.inl ⟨by rfl, ?_⟩) hHeld ?_ ?_
  rotate_left
  · rintro w' ⟨s0, s1, s2, s3, s4, s5, s6, s7, s8⟩
    go_simp
    with_reducible rfl
  rotate_left
  · simp only [Act.put, List.setIfInBounds_toArray, List.set_cons_zero, List.set_cons_succ, i64_w, i32_w]
    rfl
  refine take_ (i := 4) (N := some 15) (v := ?_) (a' := ?_) #[true, true, true, true, true, false, true, false, true, false, false, false, false] rfl rfl (take_ofW HT_.out HW_.out (by kernel_rfl)) (fun _ _ _ h => h) (Or.inl ⟨by rfl, ?_⟩) hHeld ?_ ?_
  rotate_left
  · rintro w' ⟨s0, s1, s2, s3, s4, s5, s6, s7, s8⟩
    go_simp
    with_reducible rfl
  rotate_left
  · simp only [Act.put, List.setIfInBounds_toArray, List.set_cons_zero, List.set_cons_succ, i64_w, i32_w]
    rfl
  refine take_ (i := 7) (N := some 18) (v := ?_) (a' := ?_) #[true, true, true, true, true, false, true, true, true, false, false, false, false] rfl rfl (take_ofW HT_.out HW_.out (by kernel_rfl)) (fun _ _ _ h => h) (Or.inl ⟨by rfl, ?_⟩) hHeld ?_ ?_
  rotate_left
  · rintro w' ⟨s0, s1, s2, s3, s4, s5, s6, s7, s8⟩
    go_simp
    with_reducible rfl
  rotate_left
  · simp only [Act.put, List.setIfInBounds_toArray, List.set_cons_zero, List.set_cons_succ, i64_w, i32_w]
    rfl
  refine take_ (i := 9) (N := some 20) (v := ?_) (a' := ?_) #[true, true, true, true, true, false, true, true, true, true, false, false, false] rfl rfl (take_ofW HT_.out HW_.out (by kernel_rfl)) (fun _ _ _ h => h) (Or.inl ⟨by rfl, ?_⟩) hHeld ?_ ?_
  rotate_left
  · rintro w' ⟨s0, s1, s2, s3, s4, s5, s6, s7, s8⟩
    go_simp
    with_reducible rfl
  rotate_left
  · simp only [Act.put, List.setIfInBounds_toArray, List.set_cons_zero, List.set_cons_succ, i64_w, i32_w]
    rfl
  refine one_ (i := 5) (N := some 16) #[true, true, true, true, true, true, true, true, true, true, false, false, false] rfl rfl (one_of HT_.out (by kernel_rfl)) (by decide) (fun K hK => ?_)
  refine goes_ Try.func63 (by kernel_rfl) rfl #[.agg #[.int .i64 a0_3, .int .i64 a0_4], .agg #[.int .i64 a0_5, .int .i64 a0_6], .agg #[.int .i64 a1_0, .int .i64 a1_1]] (by rfl) rfl rfl (by (try simp only [List.map_toArray, List.map_cons, List.map_nil]); first | done | rfl | (simp only [List.length_drop, List.length_take]; rfl)) ?_
  with_reducible refine (plane_Dot.calls a0_3 a0_4 a0_5 a0_6 a1_0 a1_1 t119 _ A3.out).mono ?_
  rintro e w9 ⟨rfl, hb⟩
  refine ⟨_, rfl, ?_⟩
  have n0_ := Aside0.mk (blk_below (g := gb117) (o := .cells #[.int .i64 a0_0, .int .i64 a0_1, .int .i64 a0_2, .int .i64 a0_3, .int .i64 a0_4, .int .i64 a0_5, .int .i64 a0_6] 41 (0, 0)) (by (with_reducible repeat (first | refine blk_drewN ?_ _ | refine blk_drew ?_ | refine blk_alloc ?_ _)); exact BK117.out) hb)
  have n1_ := Aside0.mk (blk_below (g := gb118) (o := .cells #[.int .i64 a1_0, .int .i64 a1_1] 24 (0, 0)) (by (with_reducible repeat (first | refine blk_drewN ?_ _ | refine blk_drew ?_ | refine blk_alloc ?_ _)); exact BK118.out) hb)
  have n2_ := Aside0.mk (below_step (by repeat (first | (with_reducible first | exact HB.out | apply below_alloc | apply pw_below_drewN | apply below_drew1 | refine below_set ?_ GE117.out | refine below_set ?_ GE118.out) | exact HB.out)) hb)
  clear BK117
  clear BK118
  clear HB
  have BK117 := n0_
  have BK118 := n1_
  have HB := n2_
  clear n0_ n1_ n2_
  (try clear hb)
  (try clear hb2)
  (try clear hk)
  (try clear hi)
  refine hK.out _ _ ⟨(blk_cell BK117.out 0).trans rfl, (blk_cell BK117.out 1).trans rfl, (blk_cell BK117.out 2).trans rfl, (blk_cell BK117.out 3).trans rfl, (blk_cell BK117.out 4).trans rfl, (blk_cell BK117.out 5).trans rfl, (blk_cell BK117.out 6).trans rfl, (blk_cell BK118.out 0).trans rfl, (blk_cell BK118.out 1).trans rfl⟩ (fun hHeld => ?_)
  clear hK K
  refine norm_ (a' := ?_) ?_ ?_
  rotate_left
  · show Act.put _ (some 16) _ = _
    simp only [Act.put, List.setIfInBounds_toArray, List.set_cons_zero, List.set_cons_succ, i64_w, i32_w]
    rfl
  refine one_ (i := 10) (N := some 21) #[true, true, true, true, true, true, true, true, true, true, true, false, false] rfl rfl (one_of HT_.out (by kernel_rfl)) (by decide) (fun K hK => ?_)
  refine goes_ Try.func48 (by kernel_rfl) rfl #[.agg #[.int .i64 a0_3, .int .i64 a0_4], .agg #[.int .i64 a0_5, .int .i64 a0_6]] (by rfl) rfl rfl (by (try simp only [List.map_toArray, List.map_cons, List.map_nil]); first | done | rfl | (simp only [List.length_drop, List.length_take]; rfl)) ?_
  with_reducible refine (plane_Len2.calls a0_3 a0_4 a0_5 a0_6 t120 _ A4.out).mono ?_
  rintro e w10 ⟨rfl, hb⟩
  refine ⟨_, rfl, ?_⟩
  have n0_ := Aside0.mk (blk_below (g := gb117) (o := .cells #[.int .i64 a0_0, .int .i64 a0_1, .int .i64 a0_2, .int .i64 a0_3, .int .i64 a0_4, .int .i64 a0_5, .int .i64 a0_6] 41 (0, 0)) (by (with_reducible repeat (first | refine blk_drewN ?_ _ | refine blk_drew ?_ | refine blk_alloc ?_ _)); exact BK117.out) hb)
  have n1_ := Aside0.mk (blk_below (g := gb118) (o := .cells #[.int .i64 a1_0, .int .i64 a1_1] 24 (0, 0)) (by (with_reducible repeat (first | refine blk_drewN ?_ _ | refine blk_drew ?_ | refine blk_alloc ?_ _)); exact BK118.out) hb)
  have n2_ := Aside0.mk (below_step (by repeat (first | (with_reducible first | exact HB.out | apply below_alloc | apply pw_below_drewN | apply below_drew1 | refine below_set ?_ GE117.out | refine below_set ?_ GE118.out) | exact HB.out)) hb)
  clear BK117
  clear BK118
  clear HB
  have BK117 := n0_
  have BK118 := n1_
  have HB := n2_
  clear n0_ n1_ n2_
  (try clear hb)
  (try clear hb2)
  (try clear hk)
  (try clear hi)
  refine hK.out _ _ ⟨(blk_cell BK117.out 0).trans rfl, (blk_cell BK117.out 1).trans rfl, (blk_cell BK117.out 2).trans rfl, (blk_cell BK117.out 3).trans rfl, (blk_cell BK117.out 4).trans rfl, (blk_cell BK117.out 5).trans rfl, (blk_cell BK117.out 6).trans rfl, (blk_cell BK118.out 0).trans rfl, (blk_cell BK118.out 1).trans rfl⟩ (fun hHeld => ?_)
  clear hK K
  refine norm_ (a' := ?_) ?_ ?_
  rotate_left
  · show Act.put _ (some 21) _ = _
    simp only [Act.put, List.setIfInBounds_toArray, List.set_cons_zero, List.set_cons_succ, i64_w, i32_w]
    rfl
  refine pure_ (i := 11) (N := some 5) (v := ?_) (a' := ?_) #[true, true, true, true, true, true, true, true, true, true, true, true, false] rfl rfl (any_of HT_.out (by kernel_rfl)) (fun _ _ _ h => h) (Or.inl ⟨by rfl, ?_⟩) ?_ ?_
  rotate_left
  · intro w'
    go_simp
    with_reducible rfl
  rotate_left
  · simp only [Act.put, List.setIfInBounds_toArray, List.set_cons_zero, List.set_cons_succ, i64_w, i32_w]
    rfl
  refine pure_ (i := 12) (N := some 6) (v := ?_) (a' := ?_) #[true, true, true, true, true, true, true, true, true, true, true, true, true] rfl rfl (any_of HT_.out (by kernel_rfl)) (fun _ _ _ h => h) (Or.inl ⟨by rfl, ?_⟩) ?_ ?_
  rotate_left
  · intro w'
    go_simp
    with_reducible rfl
  rotate_left
  · simp only [Act.put, List.setIfInBounds_toArray, List.set_cons_zero, List.set_cons_succ, i64_w, i32_w]
    rfl
  refine done_ (done_of HT_.out (by kernel_rfl)) ?_
  go_upto_region 2 with (fail)
  go_cut [22] (fun v22 wc => ∃ (kq : Nat) (x22_4 : Bool), v22 = .bool x22_4 ∧ Aside0 (paint_linear.j0 kq t119 t120 x22_4 = some r) ∧ Aside0 (kq ≤ k) ∧ Aside0 (wc.heap[gb117]? = some (.cells #[.int .i64 a0_0, .int .i64 a0_1, .int .i64 a0_2, .int .i64 a0_3, .int .i64 a0_4, .int .i64 a0_5, .int .i64 a0_6] 41 (0, 0))) ∧ Aside0 (wc.heap[gb118]? = some (.cells #[.int .i64 a1_0, .int .i64 a1_1] 24 (0, 0))) ∧ Aside0 (Below w.heap.size w wc))
  case first =>
    have H := HC5.out
    clear HC5
    by_cases c11 : t119 ≤ 0
    · rw [if_pos c11] at H
      have c11b0 : decide (t119 ≤ 0) = true := decide_eq_true c11
      clear c11
      (first | rw [c11b0] | (simp only [i64_w, i32_w]; rw [c11b0]) | skip)
      have H' := Aside0.mk H
      clear H
      go_wp2
      go_meet
      case rel => exact ⟨_, (true), (by first | rfl | (simp; done) | (simp [*]; done) | (simp [bne]; done)), H', ⟨by first | omega | exact Nat.le_refl _⟩, ⟨by (with_reducible repeat (first | refine blk_drewN ?_ _ | refine blk_drew ?_ | refine blk_alloc ?_ _)); exact BK117.out⟩, ⟨by (with_reducible repeat (first | refine blk_drewN ?_ _ | refine blk_drew ?_ | refine blk_alloc ?_ _)); exact BK118.out⟩, ⟨by repeat (first | (with_reducible first | exact HB.out | apply below_alloc | apply pw_below_drewN | apply below_drew1 | refine below_set ?_ GE117.out | refine below_set ?_ GE118.out) | exact HB.out)⟩⟩
    · rw [if_neg c11] at H
      have c11b0 : decide (t119 ≤ 0) = false := decide_eq_false c11
      clear c11
      (first | rw [c11b0] | (simp only [i64_w, i32_w]; rw [c11b0]) | skip)
      have H' := Aside0.mk H
      clear H
      go_wp2
      go_meet
      case rel => exact ⟨_, (decide (t120 ≤ 0)), (by first | rfl | (simp; done) | (simp [*]; done) | (simp [bne]; done)), H', ⟨by first | omega | exact Nat.le_refl _⟩, ⟨by (with_reducible repeat (first | refine blk_drewN ?_ _ | refine blk_drew ?_ | refine blk_alloc ?_ _)); exact BK117.out⟩, ⟨by (with_reducible repeat (first | refine blk_drewN ?_ _ | refine blk_drew ?_ | refine blk_alloc ?_ _)); exact BK118.out⟩, ⟨by repeat (first | (with_reducible first | exact HB.out | apply below_alloc | apply pw_below_drewN | apply below_drew1 | refine below_set ?_ GE117.out | refine below_set ?_ GE118.out) | exact HB.out)⟩⟩
  case rest =>
    clear HC5
    try clear c1
    try clear p2
    try clear c4
    try clear c6
    try clear c11
    try clear c11b0
    obtain ⟨kq, x22_4, rfl, HA, HJ4, BK117, BK118, HB⟩ := hcut
    cases kq with
    | zero => exact absurd HA.out (by simp [paint_linear.j0])
    | succ kj4 =>
      have H := HA.out
      clear HA
      simp only [paint_linear.j0] at H
      by_cases c12 : x22_4 = true
      · subst c12
        have H1 : (some 0) = some r := by rw [if_pos rfl] at H; exact H
        clear H
        have H := H1
        clear H1
        obtain rfl := Option.some.inj H
        go_wp2
        go_ret
        exact ⟨by first | rfl | (simp [errW_none, errW_some] <;> rfl) | (simp [*, errW_none, errW_some] <;> rfl), by repeat (first | (with_reducible first | exact HB.out | apply below_alloc | apply pw_below_drewN | apply below_drew1 | refine below_set ?_ GE117.out | refine below_set ?_ GE118.out) | exact HB.out)⟩
      · replace c12 := Bool.eq_false_iff.mpr c12
        subst c12
        have H1 : (if t119 ≥ t120 then (some 65536) else ((bits_Mul64.f (IntKind.u64.wrap (t119)) 65536).bind fun bt121 => ((bits_Div64.f bt121.1 bt121.2 (IntKind.u64.wrap (t120))).bind fun bt123 => (some (wrap64 (bt123.1)))))) = some r := by rw [if_neg (show ¬ (false = true) by decide)] at H; exact H
        clear H
        have H := H1
        clear H1
        by_cases c13 : t119 ≥ t120
        · rw [if_pos c13] at H
          have c13b0 : decide (t120 ≤ t119) = true := decide_eq_true c13
          clear c13
          obtain rfl := Option.some.inj H
          go_wp2
          go_ret
          exact ⟨by first | rfl | (simp [errW_none, errW_some] <;> rfl) | (simp [*, errW_none, errW_some] <;> rfl), by repeat (first | (with_reducible first | exact HB.out | apply below_alloc | apply pw_below_drewN | apply below_drew1 | refine below_set ?_ GE117.out | refine below_set ?_ GE118.out) | exact HB.out)⟩
        · rw [if_neg c13] at H
          have c13b0 : decide (t120 ≤ t119) = false := decide_eq_false c13
          clear c13
          replace H := Option.bind_eq_some_iff.mp H
          obtain ⟨⟨t121, t122⟩, A140, H⟩ := H
          replace H : ((bits_Div64.f t121 t122 (IntKind.u64.wrap (t120))).bind fun bt123 => (some (wrap64 (bt123.1)))) = some r := H
          have A14 := Aside0.mk A140
          clear A140
          replace H := Option.bind_eq_some_iff.mp H
          obtain ⟨⟨t123, t124⟩, A150, H⟩ := H
          replace H : (some (wrap64 (t123))) = some r := H
          have A15 := Aside0.mk A150
          clear A150
          obtain rfl := Option.some.inj H
          go_wp2_with (first | ((with_reducible refine gate_callee (f := 54) rfl ?_); refine goesL_ (some 36) rfl rfl Try.func54 (by kernel_rfl) rfl #[.int .u64 (IntKind.u64.wrap (t119)), .int .u64 65536] rfl (by (try simp only [List.map_toArray, List.map_cons, List.map_nil]); first | done | rfl | (simp only [List.length_drop, List.length_take]; rfl)) ?_; (with_reducible refine (bits_Mul64.calls (IntKind.u64.wrap (t119)) 65536 t121 t122 _ A14.out).mono ?_); rintro e w' ⟨rfl, ⟨nd, rfl⟩⟩; refine ⟨_, rfl, ?_⟩) | ((with_reducible refine gate_callee (f := 55) rfl ?_); refine goesL_ (some 44) rfl rfl Try.func55 (by kernel_rfl) rfl #[.int .u64 t121, .int .u64 t122, .int .u64 (IntKind.u64.wrap (t120))] rfl (by (try simp only [List.map_toArray, List.map_cons, List.map_nil]); first | done | rfl | (simp only [List.length_drop, List.length_take]; rfl)) ?_; (with_reducible refine (bits_Div64.calls t121 t122 (IntKind.u64.wrap (t120)) t123 t124 _ A15.out).mono ?_); rintro e w' ⟨rfl, ⟨nd, rfl⟩⟩; refine ⟨_, rfl, ?_⟩))
          go_ret
          exact ⟨by first | rfl | (simp [errW_none, errW_some] <;> rfl) | (simp [*, errW_none, errW_some] <;> rfl), by repeat (first | (with_reducible first | exact HB.out | apply below_alloc | apply pw_below_drewN | apply below_drew1 | refine below_set ?_ GE117.out | refine below_set ?_ GE118.out) | exact HB.out)⟩

/-! ### fixed_Sqrt: function 47 -/
def fixed_Sqrt.l0 : Nat → Int → Int → Int → Option (Int)
  | 0, _, _, _ => none
  | k + 1, x0, x3, x4 => if (wrap64 (x4 - x3)) > 1 then (if (wrap64 (x3 + (wrap64 (Int.tdiv (wrap64 (x4 - x3)) 2)))) = 0 then (none) else (if (wrap64 (x3 + (wrap64 (Int.tdiv (wrap64 (x4 - x3)) 2)))) ≤ (wrap64 (Int.tdiv x0 (wrap64 (x3 + (wrap64 (Int.tdiv (wrap64 (x4 - x3)) 2)))))) then (fixed_Sqrt.l0 k x0 (wrap64 (x3 + (wrap64 (Int.tdiv (wrap64 (x4 - x3)) 2)))) x4) else (fixed_Sqrt.l0 k x0 x3 (wrap64 (x3 + (wrap64 (Int.tdiv (wrap64 (x4 - x3)) 2))))))) else (some x3)
def fixed_Sqrt.f (k : Nat) (a0 : Int) : Option (Int) := if a0 < 1 then (some 0) else (fixed_Sqrt.l0 k a0 0 4294967296)
theorem fixed_Sqrt.mono_l : ∀ k, (∀ y0 y1 y2, LeO (fixed_Sqrt.l0 k y0 y1 y2) (fixed_Sqrt.l0 (k + 1) y0 y1 y2))
  | 0 => fun _ _ _ r h => by simp [fixed_Sqrt.l0] at h
  | k + 1 => by
    have ih0 := fixed_Sqrt.mono_l k
    · intro y0 y1 y2
      unfold fixed_Sqrt.l0
      repeat' first
      | (with_reducible exact ih0 _ _ _)
      | (with_reducible exact LeO.refl _)
      | (with_reducible exact LeO.none _)
      | (with_reducible refine LeO.ite ?_ ?_)
      | (with_reducible refine LeO.bind ?_ (fun _ => ?_))
      | exact ih0 _ _ _
      | exact LeO.none _
      | refine LeO.ite ?_ ?_
      | refine LeO.bind ?_ (fun _ => ?_)
theorem fixed_Sqrt.mono : ∀ a0 k, LeO (fixed_Sqrt.f k a0) (fixed_Sqrt.f (k + 1) a0) := by
  intro a0 k
  have ih0 := fixed_Sqrt.mono_l k
  unfold fixed_Sqrt.f
  repeat' first
      | (with_reducible exact ih0 _ _ _)
      | (with_reducible exact LeO.refl _)
      | (with_reducible exact LeO.none _)
      | (with_reducible refine LeO.ite ?_ ?_)
      | (with_reducible refine LeO.bind ?_ (fun _ => ?_))
      | exact ih0 _ _ _
      | exact LeO.none _
      | refine LeO.ite ?_ ?_
      | refine LeO.bind ?_ (fun _ => ?_)
set_option maxHeartbeats 8000000 in
set_option maxRecDepth 100000 in
theorem fixed_Sqrt.calls (k : Nat) (a0 : Int) (r : Int) (w : World) (h : fixed_Sqrt.f k a0 = some r) :
    Calls Try.prog 47 #[.int .i64 a0] w fun e w' => e = .returned (.int .i64 r) ∧ Drawn0 w w' := by
  have H : (if a0 < 1 then (some 0) else (fixed_Sqrt.l0 k a0 0 4294967296)) = some r := h
  clear h
  by_cases c2 : a0 < 1
  · rw [if_pos c2] at H
    have c2b0 : decide (a0 < 1) = true := decide_eq_true c2
    clear c2
    obtain rfl := Option.some.inj H
    go_enter Try.func47, Try.ntmps47
    go_wp2
    go_ret
    exact ⟨by first | rfl | (simp; done) | (simp [*]; done), by repeat (first | exact Drawn0.refl _ | apply Drawn0.step)⟩
  · rw [if_neg c2] at H
    have c2b0 : decide (a0 < 1) = false := decide_eq_false c2
    clear c2
    have H' := Aside0.mk H
    clear H
    go_enter Try.func47, Try.ntmps47
    go_wp2
    go_loopg [3, 4] k (fun kq v3 v4 w' => ∃ (x3_1 : Int) (x4_1 : Int), v3 = .int .i64 x3_1 ∧ v4 = .int .i64 x4_1 ∧ Aside0 (fixed_Sqrt.l0 kq a0 x3_1 x4_1 = some r) ∧ Aside0 (kq ≤ k) ∧ Drawn0 w w')
    case atStart => exact ⟨(0), (4294967296), (by first | rfl | (simp; done) | (simp [*]; done) | (simp [bne]; done)), (by first | rfl | (simp; done) | (simp [*]; done) | (simp [bne]; done)), H', ⟨Nat.le_refl _⟩, by repeat (first | exact Drawn0.refl _ | apply Drawn0.step)⟩
    case round =>
      clear H'
      try clear c2
      try clear c2b0
      try clear p2
      obtain ⟨x3_1, x4_1, rfl, rfl, HA, HK1, ⟨m1, rfl⟩⟩ := hrel
      cases gk with
      | zero => exact absurd HA.out (by simp [fixed_Sqrt.l0])
      | succ k1 =>
        have H := HA.out
        clear HA
        simp only [fixed_Sqrt.l0] at H
        by_cases c3 : (wrap64 (x4_1 - x3_1)) > 1
        · rw [if_pos c3] at H
          have c3b0 : decide (1 < (wrap64 (x4_1 - x3_1))) = true := decide_eq_true c3
          clear c3
          by_cases c4 : (wrap64 (x3_1 + (wrap64 (Int.tdiv (wrap64 (x4_1 - x3_1)) 2)))) = 0
          · rw [if_pos c4] at H
            exact absurd H (by simp)
          · rw [if_neg c4] at H
            have c4b0 : ((wrap64 (x3_1 + (wrap64 (Int.tdiv (wrap64 (x4_1 - x3_1)) 2)))) == 0) = false := beq_eq_false_iff_ne.mpr c4
            have c4b1 : ((wrap64 (x3_1 + (wrap64 (Int.tdiv (wrap64 (x4_1 - x3_1)) 2)))) != 0) = true := bne_iff_ne.mpr c4
            by_cases c5 : (wrap64 (x3_1 + (wrap64 (Int.tdiv (wrap64 (x4_1 - x3_1)) 2)))) ≤ (wrap64 (Int.tdiv a0 (wrap64 (x3_1 + (wrap64 (Int.tdiv (wrap64 (x4_1 - x3_1)) 2))))))
            · rw [if_pos c5] at H
              have c5b0 : decide ((wrap64 (x3_1 + (wrap64 (Int.tdiv (wrap64 (x4_1 - x3_1)) 2)))) ≤ (wrap64 (Int.tdiv a0 (wrap64 (x3_1 + (wrap64 (Int.tdiv (wrap64 (x4_1 - x3_1)) 2))))))) = true := decide_eq_true c5
              clear c5
              have H' := Aside0.mk H
              clear H
              go_wp2
              go_roundg k1
              case measure => have := HK1.out; omega
              case rel => exact ⟨(wrap64 (x3_1 + (wrap64 (Int.tdiv (wrap64 (x4_1 - x3_1)) 2)))), (x4_1), (by first | rfl | (simp; done) | (simp [*]; done) | (simp [bne]; done)), (by first | rfl | (simp; done) | (simp [*]; done) | (simp [bne]; done)), H', ⟨by have := HK1.out; omega⟩, by repeat (first | exact Drawn0.refl _ | apply Drawn0.step)⟩
            · rw [if_neg c5] at H
              have c5b0 : decide ((wrap64 (x3_1 + (wrap64 (Int.tdiv (wrap64 (x4_1 - x3_1)) 2)))) ≤ (wrap64 (Int.tdiv a0 (wrap64 (x3_1 + (wrap64 (Int.tdiv (wrap64 (x4_1 - x3_1)) 2))))))) = false := decide_eq_false c5
              clear c5
              have H' := Aside0.mk H
              clear H
              go_wp2
              go_roundg k1
              case measure => have := HK1.out; omega
              case rel => exact ⟨(x3_1), (wrap64 (x3_1 + (wrap64 (Int.tdiv (wrap64 (x4_1 - x3_1)) 2)))), (by first | rfl | (simp; done) | (simp [*]; done) | (simp [bne]; done)), (by first | rfl | (simp; done) | (simp [*]; done) | (simp [bne]; done)), H', ⟨by have := HK1.out; omega⟩, by repeat (first | exact Drawn0.refl _ | apply Drawn0.step)⟩
        · rw [if_neg c3] at H
          have c3b0 : decide (1 < (wrap64 (x4_1 - x3_1))) = false := decide_eq_false c3
          clear c3
          obtain rfl := Option.some.inj H
          go_wp2
          go_ret
          exact ⟨by first | rfl | (simp; done) | (simp [*]; done), by repeat (first | exact Drawn0.refl _ | apply Drawn0.step)⟩

/-! ### fixed_Clamp: function 49 -/
def fixed_Clamp.f (a0 : Int) (a1 : Int) (a2 : Int) : Option (Int) := some (mx (mn a0 a2) a1)
set_option maxHeartbeats 8000000 in
set_option maxRecDepth 100000 in
theorem fixed_Clamp.calls (a0 : Int) (a1 : Int) (a2 : Int) (r : Int) (w : World) (h : fixed_Clamp.f a0 a1 a2 = some r) :
    Calls Try.prog 49 #[.int .i64 a0, .int .i64 a1, .int .i64 a2] w fun e w' => e = .returned (.int .i64 r) ∧ Below w.heap.size w w' := by
  have HB := Aside0.mk (Below.refl w.heap.size w)
  have H : (some (mx (mn a0 a2) a1)) = some r := h
  clear h
  obtain ⟨ji4, hji4⟩ : ∃ j_ : Int, (mn a0 a2) = j_ := ⟨_, rfl⟩
  replace H : (some (mx (ji4) a1)) = some r := by first | (rw [hji4] at H; exact H) | (simp only [hji4] at H ⊢; exact H)
  have hji4_ : (if a2 < a0 then a2 else a0) = ji4 := hji4
  obtain ⟨ji5, hji5⟩ : ∃ j_ : Int, (mx (ji4) a1) = j_ := ⟨_, rfl⟩
  replace H : (some ji5) = some r := by first | (rw [hji5] at H; exact H) | (simp only [hji5] at H ⊢; exact H)
  have hji5_ : (if (ji4) < a1 then a1 else (ji4)) = ji5 := hji5
  obtain rfl := Option.some.inj H
  go_enter Try.func49, Try.ntmps49
  go_wp2
  go_ret
  exact ⟨by first | rfl | (simp [errW_none, errW_some] <;> rfl) | (simp only [← hji4, ← hji5]; first | rfl | (simp [errW_none, errW_some] <;> rfl)) | (simp [*, errW_none, errW_some] <;> rfl), by repeat (first | (with_reducible first | exact HB.out | apply below_alloc | apply pw_below_drewN | apply below_drew1) | exact HB.out)⟩

end Go.Proofs.Ytmbcokndaaelaaa.QPaintEnds
