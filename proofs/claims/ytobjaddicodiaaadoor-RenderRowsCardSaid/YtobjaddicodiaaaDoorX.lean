/- math/bits' functions by contracts. Own work of these sessions. -/
import Derived.Test.YtobjaddicodiaaaDoorE
import Derived.Test.YtobjaddicodiaaaDoorProg
import Derived.Test.YtobjaddicodiaaaDoorDiv
import Derived.Test.YtobjaddicodiaaaDoorShelf
import Derived.Below
import Derived.Deep.Draws
import Derived.Deep.AppendLies
import Derived.Maps.AppendAt
import Derived.OwnWalk
import Derived.Laws.BytesArg
import Derived.Laws.MakeOwn
import Derived.Laws.OwnMore
import Derived.Deep.OwnRows
import Derived.Tactics
import Derived.Lib.ConvBytes
import Derived.Laws.Slices
import Derived.WalkKit
import Derived.KernelRfl
import Derived.RowKit3
import Derived.Deep.LoopGhost
import Derived.Deep.QuietTactic
import Derived.BigQuiet
import Derived.WideLaws
import Derived.Deep.DeepCutAuto
import Derived.Deep.CutBlock
import Derived.Deep.RegionHeld3
import Derived.Laws.Rows
import Derived.Lib.AppendStr
import Derived.ArgAppend
import Derived.Laws.IdiomCopy
import Derived.RowKit
import Derived.Lib.Mul64
import Derived.Laws.Bits64b
import Derived.Lib.ItoaNum
import Derived.Lib.BitFns
import Derived.Outline
import Derived.ChangeKeysEq
import Derived.LoopN
import Derived.OrdersHeld
import Derived.Laws.BitsLemmas
set_option linter.unusedVariables false
set_option linter.unusedSimpArgs false
set_option maxRecDepth 100000
namespace Go.Proofs.YtobjaddicodiaaaDoorX
open Go Go.RowKit Go.Proofs.YtobjaddicodiaaaDoorE
structure Aside0 (p : Prop) : Prop where mk :: (out : p)
structure Drawn0 (w w' : World) : Prop where mk :: (out : ∃ n, w' = w.drewN n)
theorem Drawn0.refl (w : World) : Drawn0 w w := ⟨⟨0, rfl⟩⟩
theorem Drawn0.step {w w' : World} (h : Drawn0 w w') (n : Nat) : Drawn0 w (w'.drewN n) := by
  obtain ⟨m, rfl⟩ := h
  exact ⟨⟨m + n, World.drewN_drewN ..⟩⟩
theorem step_drawn (S : Seal) : ∀ (n : Nat) (w : World), HOK [] S w → HOK [] S (w.drewN n) ∧ Step [] S w [] S (w.drewN n)
  | 0, w, h => ⟨h, Step.refl _ _ _⟩
  | n + 1, w, h => by
    obtain ⟨a, b⟩ := step_drawn S n { w with drawn := w.drawn + 1 } h.drew
    have e : ({ w with drawn := w.drawn + 1 } : World).drewN n = w.drewN (n + 1) := by
      show World.drewN (World.drewN w 1) n = _
      rw [World.drewN_drewN, Nat.add_comm]
    rw [e] at a b
    exact ⟨a, b.drew⟩
theorem cal_drawn {P : Program} {f : FuncId} {args : List Value} {S : Seal} {u : Value} (h : ∀ w, Calls P f args.toArray w fun e w' => e = .returned u ∧ ∃ n, w' = w.drewN n) : Cal P f args [] S fun v H' S' => v = u ∧ H' = [] ∧ S' = S :=
  fun w hw => (h w).mono fun e w' ⟨he, n, hn⟩ => by subst hn; exact ⟨u, [], S, he, ⟨rfl, rfl, rfl⟩, (step_drawn S n w hw).1, (step_drawn S n w hw).2⟩
def bits_Mul64.f (a0 : Int) (a1 : Int) : Option (Int × Int) := if 0 ≤ a0 ∧ a0 ≤ 18446744073709551615 ∧ 0 ≤ a1 ∧ a1 ≤ 18446744073709551615 then some (a0 * a1 / 18446744073709551616, a0 * a1 % 18446744073709551616) else none
theorem bits_Mul64.maskN (a : Nat) (ha : a < 18446744073709551616) : Go.bits .and .u64 (a : Int) 4294967295 = ((a % 4294967296 : Nat) : Int) := by
  have h := bits_and_u64_nat a 4294967295 ha (by omega)
  have e : a &&& 4294967295 = a % 4294967296 := Nat.and_two_pow_sub_one_eq_mod a 32
  rw [e] at h
  exact h
theorem bits_Mul64.divN (a : Nat) : (a : Int) / 4294967296 = ((a / 4294967296 : Nat) : Int) := by omega
theorem bits_Mul64.mulN (a b : Nat) : (a : Int) * (b : Int) = ((a * b : Nat) : Int) := (Int.natCast_mul a b).symm
theorem bits_Mul64.addN (a b : Nat) : (a : Int) + (b : Int) = ((a + b : Nat) : Int) := (Int.natCast_add a b).symm
theorem bits_Mul64.wrapN (a : Nat) (ha : a < 18446744073709551616) : IntKind.u64.wrap (a : Int) = (a : Int) := by rw [IntKind.wrap_u64]; omega
theorem bits_Mul64.wrapM (a : Nat) : IntKind.u64.wrap (a : Int) = ((a % 18446744073709551616 : Nat) : Int) := by rw [IntKind.wrap_u64]; omega
set_option maxHeartbeats 1000000 in
theorem bits_Mul64.core (x y : Nat) (hx : x < 18446744073709551616) (hy : y < 18446744073709551616) (w : World) :
    Calls Tryd.prog 82 #[.int .u64 x, .int .u64 y] w fun e w' => e = .returned (.tuple #[.int .u64 ((x * y / 18446744073709551616 : Nat) : Int), .int .u64 ((x * y % 18446744073709551616 : Nat) : Int)]) ∧ Drawn0 w w' := by
  obtain ⟨bd, bt, bw, hhi⟩ := Lib.mul64_hi x y hx hy
  have ba := Lib.half_mul_le (a := x / 4294967296) (b := y / 4294967296) (by omega) (by omega)
  have bb := Lib.half_mul_le (a := x / 4294967296) (b := y % 4294967296) (by omega) (by omega)
  have bc := Lib.half_mul_le (a := x % 4294967296) (b := y / 4294967296) (by omega) (by omega)
  have ba' : x / 4294967296 * (y / 4294967296) < 18446744073709551616 := by omega
  have bb' : x / 4294967296 * (y % 4294967296) < 18446744073709551616 := by omega
  have bc' : x % 4294967296 * (y / 4294967296) < 18446744073709551616 := by omega
  have bh1 : x / 4294967296 * (y / 4294967296) + (x / 4294967296 * (y % 4294967296) + x % 4294967296 * (y % 4294967296) / 4294967296) / 4294967296 < 18446744073709551616 := by omega
  have bh : x / 4294967296 * (y / 4294967296) + (x / 4294967296 * (y % 4294967296) + x % 4294967296 * (y % 4294967296) / 4294967296) / 4294967296 + ((x / 4294967296 * (y % 4294967296) + x % 4294967296 * (y % 4294967296) / 4294967296) % 4294967296 + x % 4294967296 * (y / 4294967296)) / 4294967296 < 18446744073709551616 := by omega
  go_enter Tryd.func82, Tryd.ntmps82
  go_wp2
  simp only [bits_Mul64.maskN x hx, bits_Mul64.maskN y hy, bits_Mul64.divN, bits_Mul64.mulN, bits_Mul64.addN, bits_Mul64.wrapN _ bd, bits_Mul64.wrapN _ bb', bits_Mul64.wrapN _ bt, bits_Mul64.maskN _ bt, bits_Mul64.wrapN _ bc', bits_Mul64.wrapN _ bw, bits_Mul64.wrapN _ ba', bits_Mul64.wrapN _ bh1, bits_Mul64.wrapN _ bh, bits_Mul64.wrapM (x * y)]
  rw [hhi]
  go_ret2
  exact ⟨rfl, by repeat (first | exact Drawn0.refl _ | apply Drawn0.step)⟩
theorem bits_Mul64.calls (a0 : Int) (a1 : Int) (r1 : Int) (r2 : Int) (w : World) (h : bits_Mul64.f a0 a1 = some (r1, r2)) :
    Calls Tryd.prog 82 #[.int .u64 a0, .int .u64 a1] w fun e w' => e = .returned (.tuple #[.int .u64 r1, .int .u64 r2]) ∧ Drawn0 w w' := by
  unfold bits_Mul64.f at h
  split at h
  case isFalse => exact absurd h (by simp)
  case isTrue hc =>
  obtain ⟨h0, h1, h2, h3⟩ := hc
  simp only [Option.some.injEq, Prod.mk.injEq] at h
  obtain ⟨rfl, rfl⟩ := h
  obtain ⟨x, rfl⟩ := Int.eq_ofNat_of_zero_le h0
  obtain ⟨y, rfl⟩ := Int.eq_ofNat_of_zero_le h2
  exact bits_Mul64.core x y (by omega) (by omega) w
theorem bits_Mul64.ok {S : Seal} {a0 a1 r0 r1 : Int} (e : bits_Mul64.f a0 a1 = some (r0, r1)) :
    Cal Tryd.prog 82 [.int .u64 a0, .int .u64 a1] [] S fun v H' S' => v = .tuple #[.int .u64 r0, .int .u64 r1] ∧ H' = [] ∧ S' = S := cal_drawn fun w => (bits_Mul64.calls _ _ _ _ w e).mono fun _ _ ⟨h1, h2⟩ => ⟨h1, h2.out⟩

def bits_Len64.f (a0 : Int) : Option (Int) := if 0 ≤ a0 ∧ a0 ≤ 18446744073709551615 then some ((Lib.bitLen a0.toNat : Int)) else none
theorem bits_Len64.calls (a0 : Int) (r : Int) (w : World) (h : bits_Len64.f a0 = some r) :
    Calls Tryd.prog 92 #[.int .u64 a0] w fun e w' => e = .returned (.int .i64 r) ∧ Drawn0 w w' := by
  unfold bits_Len64.f at h
  split at h
  case isFalse => exact absurd h (by simp)
  case isTrue hc =>
  obtain rfl := Option.some.inj h
  refine (Tryd.bits_Len64 a0 w hc.1 hc.2).mono ?_
  rintro e w' ⟨rfl, rfl⟩
  exact ⟨rfl, Drawn0.refl _⟩
theorem bits_Len64.ok {S : Seal} {a0 r0 : Int} (e : bits_Len64.f a0 = some r0) :
    Cal Tryd.prog 92 [.int .u64 a0] [] S fun v H' S' => v = .int .i64 r0 ∧ H' = [] ∧ S' = S := cal_drawn fun w => (bits_Len64.calls _ _ w e).mono fun _ _ ⟨h1, h2⟩ => ⟨h1, h2.out⟩

def bits_LeadingZeros64.f (a0 : Int) : Option (Int) := if 0 ≤ a0 ∧ a0 ≤ 18446744073709551615 then some (64 - (Lib.bitLen a0.toNat : Int)) else none
theorem bits_LeadingZeros64.calls (a0 : Int) (r : Int) (w : World) (h : bits_LeadingZeros64.f a0 = some r) :
    Calls Tryd.prog 90 #[.int .u64 a0] w fun e w' => e = .returned (.int .i64 r) ∧ Drawn0 w w' := by
  unfold bits_LeadingZeros64.f at h
  split at h
  case isFalse => exact absurd h (by simp)
  case isTrue hc =>
  obtain rfl := Option.some.inj h
  refine (Tryd.bits_LeadingZeros64 a0 w hc.1 hc.2).mono ?_
  rintro e w' ⟨rfl, rfl⟩
  exact ⟨rfl, Drawn0.refl _⟩
theorem bits_LeadingZeros64.ok {S : Seal} {a0 r0 : Int} (e : bits_LeadingZeros64.f a0 = some r0) :
    Cal Tryd.prog 90 [.int .u64 a0] [] S fun v H' S' => v = .int .i64 r0 ∧ H' = [] ∧ S' = S := cal_drawn fun w => (bits_LeadingZeros64.calls _ _ w e).mono fun _ _ ⟨h1, h2⟩ => ⟨h1, h2.out⟩

def bits_Div64.f (a0 a1 a2 : Int) : Option (Int × Int) := if 0 ≤ a0 ∧ a0 < a2 ∧ 0 ≤ a1 ∧ a1 ≤ 18446744073709551615 ∧ a2 ≤ 18446744073709551615 then some ((a0 * 18446744073709551616 + a1) / a2, (a0 * 18446744073709551616 + a1) % a2) else none
set_option maxHeartbeats 1000000 in
theorem bits_Div64.div0 (lo y : Int) (l0 : 0 ≤ lo) (l1 : lo ≤ 18446744073709551615) (y0 : 1 ≤ y) (y1 : y ≤ 18446744073709551615) (w : World) :
    Calls Tryd.prog 83 #[.int .u64 0, .int .u64 lo, .int .u64 y] w fun e w' => e = .returned (.tuple #[.int .u64 (lo / y), .int .u64 (lo % y)]) ∧ Drawn0 w w' := by
  have h1 : (y == 0) = false := beq_eq_false_iff_ne.mpr (by omega)
  have h2 : decide (y ≤ 0) = false := decide_eq_false (by omega)
  go_enter Tryd.func83, Tryd.ntmps83
  go_wp2
  go_quiet (fail)
  go_wp2
  go_ret2
  exact ⟨rfl, by repeat (first | exact Drawn0.refl _ | apply Drawn0.step)⟩

theorem bits_Div64.shift_of {y : Int} (y0 : 1 ≤ y) (y1 : y ≤ 18446744073709551615) : ∃ s : Nat, (64 - (Lib.bitLen y.toNat : Int)) = (s : Int) ∧ s ≤ 63 ∧ 9223372036854775808 ≤ y * 2 ^ s ∧ y * 2 ^ s ≤ 18446744073709551615 := by
  obtain ⟨n, rfl⟩ := Int.eq_ofNat_of_zero_le (show 0 ≤ y by omega)
  rw [Int.toNat_natCast]
  obtain ⟨h1, h2, h3⟩ := Lib.bitLenAux_bounds 64 n (by omega) (by omega)
  have h4 := Lib.bitLen_le n 64 (by omega) (by omega)
  have e : Lib.bitLen n = Lib.bitLenAux 64 n := rfl
  rw [← e] at h1 h2 h3
  generalize Lib.bitLen n = b at *
  refine ⟨64 - b, by omega, by omega, ?_⟩
  have p1 : 2 ^ (b - 1) * 2 ^ (64 - b) = 2 ^ 63 := by rw [← Nat.pow_add]; congr 1; omega
  have p2 : 2 ^ b * 2 ^ (64 - b) = 2 ^ 64 := by rw [← Nat.pow_add]; congr 1; omega
  have q1 : 2 ^ (b - 1) * 2 ^ (64 - b) ≤ n * 2 ^ (64 - b) := Nat.mul_le_mul_right _ h2
  have q2 : (n + 1) * 2 ^ (64 - b) ≤ 2 ^ b * 2 ^ (64 - b) := Nat.mul_le_mul_right _ h3
  have q3 : 0 < 2 ^ (64 - b) := Nat.pow_pos (by omega)
  rw [Nat.add_mul] at q2
  have e3 : (n : Int) * 2 ^ (64 - b) = ((n * 2 ^ (64 - b) : Nat) : Int) := by simp
  rw [e3]
  omega

theorem bits_Div64.pow_split {s : Nat} (h : s ≤ 63) : (2 : Int) ^ (64 - s) * 2 ^ s = 18446744073709551616 ∧ (1 : Int) ≤ 2 ^ s ∧ (1 : Int) ≤ 2 ^ (64 - s) := by
  have e : (2 : Int) ^ (64 - s) * 2 ^ s = 2 ^ 64 := by rw [← Int.pow_add]; congr 1; omega
  exact ⟨e, Int.pow_pos (by omega), Int.pow_pos (by omega)⟩

/-- The numerator, bits_Div64.moved: its upper and its lower word. -/
theorem bits_Div64.moved {hi lo y : Int} {s : Nat} (h0 : 0 ≤ hi) (h1 : hi < y) (l0 : 0 ≤ lo) (l1 : lo ≤ 18446744073709551615) (s1 : s ≤ 63) (s3 : y * 2 ^ s ≤ 18446744073709551615) :
    ∃ u L : Int, Go.bits .or .u64 (IntKind.u64.wrap (hi * 2 ^ s)) (lo / 2 ^ (64 - s)) = u ∧ IntKind.u64.wrap (lo * 2 ^ s) = L ∧ 0 ≤ u ∧ u < y * 2 ^ s ∧ 0 ≤ L ∧ L ≤ 18446744073709551615 ∧ u * 18446744073709551616 + L = (hi * 18446744073709551616 + lo) * 2 ^ s := by
  obtain ⟨p, p1, p2⟩ := bits_Div64.pow_split s1
  have k1 : hi * 2 ^ s ≤ y * 2 ^ s - 2 ^ s := by
    have := Int.mul_le_mul_of_nonneg_right (show hi + 1 ≤ y by omega) (show 0 ≤ (2 : Int) ^ s by omega)
    rw [Int.add_mul] at this
    omega
  have k0 : 0 ≤ hi * 2 ^ s := Int.mul_nonneg h0 (by omega)
  have j0 : 0 ≤ lo / 2 ^ (64 - s) := Int.ediv_nonneg l0 (by omega)
  have j1 : lo / 2 ^ (64 - s) < 2 ^ s := Int.ediv_lt_of_lt_mul (by omega) (by rw [Int.mul_comm]; omega)
  have hor : Go.bits .or .u64 (IntKind.u64.wrap (hi * 2 ^ s)) (lo / 2 ^ (64 - s)) = hi * 2 ^ s + lo / 2 ^ (64 - s) := by
    rw [show IntKind.u64.wrap (hi * 2 ^ s) = hi * 2 ^ s by rw [IntKind.wrap_u64]; omega]
    obtain ⟨n, rfl⟩ := Int.eq_ofNat_of_zero_le h0
    obtain ⟨m, hm⟩ := Int.eq_ofNat_of_zero_le j0
    rw [hm] at j1 ⊢
    have e1 : (n : Int) * 2 ^ s = ((n * 2 ^ s : Nat) : Int) := by simp
    have j2 : m < 2 ^ s := by
      have : ((m : Nat) : Int) < ((2 ^ s : Nat) : Int) := by simpa using j1
      omega
    rw [e1] at k1 ⊢
    have e2 : ((2 ^ s : Nat) : Int) = (2 : Int) ^ s := by simp
    rw [bits_or_u64_nat _ _ (by omega) (by omega), ← Nat.shiftLeft_eq, ← Nat.shiftLeft_add_eq_or_of_lt j2 n]
    simp
  refine ⟨_, _, hor, by rw [IntKind.wrap_u64], by omega, by omega, by omega, by omega, ?_⟩
  have e3 := Int.mul_ediv_add_emod lo (2 ^ (64 - s))
  have e4 := Int.emod_nonneg lo (show (2 : Int) ^ (64 - s) ≠ 0 by omega)
  have e5 := Int.emod_lt_of_pos lo (show (0 : Int) < 2 ^ (64 - s) by omega)
  generalize lo / 2 ^ (64 - s) = a at *
  generalize lo % 2 ^ (64 - s) = b at *
  have e6 : b * 2 ^ s < 18446744073709551616 := by
    rw [← p]
    exact Int.mul_lt_mul_of_pos_right e5 (by omega)
  have e7 : 0 ≤ b * 2 ^ s := Int.mul_nonneg e4 (by omega)
  have e8 : lo * 2 ^ s = a * 18446744073709551616 + b * 2 ^ s := by
    rw [← e3, Int.add_mul, ← p, Int.mul_comm (2 ^ (64 - s)) a, Int.mul_assoc]
  rw [e8, show (a * 18446744073709551616 + b * 2 ^ s) % 18446744073709551616 = b * 2 ^ s by omega, Int.add_mul, Int.add_mul, e8]
  rw [Int.mul_assoc, Int.mul_comm (2 ^ s), ← Int.mul_assoc]
  omega
theorem bits_Div64.maskI {a : Int} (h0 : 0 ≤ a) (h1 : a ≤ 18446744073709551615) : Go.bits .and .u64 a 4294967295 = a % 4294967296 := by
  obtain ⟨n, rfl⟩ := Int.eq_ofNat_of_zero_le h0
  have h := bits_and_u64_nat n 4294967295 (by omega) (by omega)
  have e : n &&& 4294967295 = n % 4294967296 := Nat.and_two_pow_sub_one_eq_mod n 32
  rw [e] at h
  exact h

set_option maxHeartbeats 2000000 in
theorem bits_Div64.div1 (hi lo y : Int) (h0 : 1 ≤ hi) (h1 : hi < y) (l0 : 0 ≤ lo) (l1 : lo ≤ 18446744073709551615) (y1 : y ≤ 18446744073709551615) (w : World) :
    Calls Tryd.prog 83 #[.int .u64 hi, .int .u64 lo, .int .u64 y] w fun e w' => e = .returned (.tuple #[.int .u64 ((hi * 18446744073709551616 + lo) / y), .int .u64 ((hi * 18446744073709551616 + lo) % y)]) ∧ Drawn0 w w' := by
  have t1 : (y == 0) = false := beq_eq_false_iff_ne.mpr (by omega)
  have t2 : decide (y ≤ hi) = false := decide_eq_false (by omega)
  have t3 : (hi == 0) = false := beq_eq_false_iff_ne.mpr (by omega)
  obtain ⟨s, hs, s1, s2, s3⟩ := bits_Div64.shift_of (y := y) (by omega) y1
  obtain ⟨u, L, hu, hL, u0, u1, L0, L1, hU⟩ := bits_Div64.moved (s := s) (show 0 ≤ hi by omega) h1 l0 l1 s1 s3
  have C0 := fun W => (Tryd.bits_LeadingZeros64 y W (by omega) y1).mono (fun e w1 (h : _ ∧ _) => (⟨h.1, h.2.symm⟩ : _ ∧ W = w1))
  rw [hs] at C0
  have C := Aside0.mk C0
  have HU := Aside0.mk hu
  have HL := Aside0.mk hL
  have HUU := Aside0.mk hU
  clear C0 hs hu hL hU
  go_enter Tryd.func83, Tryd.ntmps83
  go_upto_block 0 with ((go_at_call 90; refine (C.out _).mono ?_; rintro e w' ⟨rfl, rfl⟩))
  rw [HU.out, HL.out]
  obtain ⟨Y, hY⟩ : ∃ Y, Y = y * 2 ^ s := ⟨_, rfl⟩
  rw [← hY] at s2 s3 u1 ⊢
  have HY := Aside0.mk hY
  have e15 : IntKind.u64.wrap (u.tdiv (Y / 4294967296)) = u / (Y / 4294967296) := by
    rw [Int.tdiv_eq_ediv, if_pos (Or.inl u0), IntKind.wrap_u64]
    have d0 := Int.ediv_nonneg u0 (show 0 ≤ Y / 4294967296 by omega)
    have d1 := Int.ediv_le_self (Y / 4294967296) u0
    omega
  have e16 : IntKind.u64.wrap (u - IntKind.u64.wrap (u / (Y / 4294967296) * (Y / 4294967296))) = u - u / (Y / 4294967296) * (Y / 4294967296) := by
    have e := Int.mul_ediv_add_emod u (Y / 4294967296)
    have m0 := Int.emod_nonneg u (show Y / 4294967296 ≠ 0 by omega)
    have m1 := Int.emod_lt_of_pos u (show 0 < Y / 4294967296 by omega)
    rw [Int.mul_comm] at e
    rw [IntKind.wrap_u64, IntKind.wrap_u64]
    omega
  rw [bits_Div64.maskI (a := Y) (by omega) (by omega), bits_Div64.maskI L0 L1, e15, e16]
  clear e15 e16 hY
  have ok1 : Aside0 (Dv.Ok u (L / 4294967296) (Y / 4294967296) (Y % 4294967296)) := ⟨⟨u0, by omega, by omega, by omega, by omega, by omega, by omega, by omega⟩⟩
  have eY : Y / 4294967296 * 4294967296 + Y % 4294967296 = Y := by omega
  have eL : L / 4294967296 * 4294967296 + L % 4294967296 = L := by omega
  have ba : 2147483648 ≤ Y / 4294967296 ∧ Y / 4294967296 ≤ 4294967295 := by omega
  have bb : 0 ≤ Y % 4294967296 ∧ Y % 4294967296 ≤ 4294967295 := by omega
  have bc : 0 ≤ L / 4294967296 ∧ L / 4294967296 ≤ 4294967295 := by omega
  have bd : 0 ≤ L % 4294967296 ∧ L % 4294967296 ≤ 4294967295 := by omega
  generalize Y / 4294967296 = a at *
  generalize Y % 4294967296 = b at *
  generalize L / 4294967296 = c at *
  generalize L % 4294967296 = d at *
  obtain ⟨a0, a1⟩ := ba
  obtain ⟨b0, b1⟩ := bb
  obtain ⟨c0, c1⟩ := bc
  obtain ⟨d0, d1⟩ := bd
  have EY := Aside0.mk eY
  have EL := Aside0.mk eL
  clear eY eL
  go_cut [15] (fun v15 wc => ∃ q : Int, v15 = .int .u64 q ∧ Aside0 (q = (u * 4294967296 + c) / (a * 4294967296 + b)) ∧ Aside0 (Drawn0 w wc))
  case first =>
    go_wp2_with fail
    go_loop [15, 16] (fun v15 v16 => ∃ q rh : Int, v15 = .int .u64 q ∧ v16 = .int .u64 rh ∧ Aside0 (Dv.Inv u c a b q rh)) (fun v15 _ => (intOf v15 - (u * 4294967296 + c) / (a * 4294967296 + b)).toNat)
    case atStart => exact ⟨_, _, rfl, rfl, ⟨Dv.start ok1.out⟩⟩
    case round =>
      obtain ⟨q, rh, rfl, rfl, I⟩ := hrel
      have r0 := I.out.r0
      have r1 := I.out.r1
      have q1 := I.out.q1
      have qq := Int.le_trans ok1.out.Q0 I.out.q0
      by_cases k1 : 4294967296 ≤ q
      · have hm := (I.out.test ok1.out).2 (Or.inl k1)
        have T1 : decide (4294967296 ≤ q) = true := decide_eq_true k1
        have q2 : 1 ≤ q := by omega
        by_cases k2 : rh + a < 4294967296
        · have T2 : decide (4294967296 ≤ rh + a) = false := decide_eq_false (by omega)
          have J := Aside0.mk ((I.out.next ok1.out hm).1 k2)
          have HM := Aside0.mk hm
          clear hm
          go_wp2
          go_round
          case rel => exact ⟨q - 1, rh + a, rfl, rfl, J⟩
          case measure => have := HM.out; simp [intOf]; omega
        · have T2 : decide (4294967296 ≤ rh + a) = true := decide_eq_true (by omega)
          have J := Aside0.mk ((I.out.next ok1.out hm).2 k2)
          clear hm
          go_wp2
          go_meet
          case rel => exact ⟨q - 1, rfl, J, ⟨by repeat (first | exact Drawn0.refl _ | apply Drawn0.step)⟩⟩
      · have T1 : decide (4294967296 ≤ q) = false := decide_eq_false k1
        obtain ⟨_, p0, p1⟩ := I.out.prod ok1.out k1
        by_cases k3 : 4294967296 * rh + c < q * b
        · have hm := (I.out.test ok1.out).2 (Or.inr k3)
          have T3 : decide (4294967296 * rh + c < q * b) = true := decide_eq_true k3
          have q2 : 1 ≤ q := by have := ok1.out.Q0; omega
          by_cases k2 : rh + a < 4294967296
          · have T2 : decide (4294967296 ≤ rh + a) = false := decide_eq_false (by omega)
            have J := Aside0.mk ((I.out.next ok1.out hm).1 k2)
            have HM := Aside0.mk hm
            clear hm
            go_wp2
            go_round
            case rel => exact ⟨q - 1, rh + a, rfl, rfl, J⟩
            case measure => have := HM.out; simp [intOf]; omega
          · have T2 : decide (4294967296 ≤ rh + a) = true := decide_eq_true (by omega)
            have J := Aside0.mk ((I.out.next ok1.out hm).2 k2)
            clear hm
            go_wp2
            go_meet
            case rel => exact ⟨q - 1, rfl, J, ⟨by repeat (first | exact Drawn0.refl _ | apply Drawn0.step)⟩⟩
        · have T3 : decide (4294967296 * rh + c < q * b) = false := decide_eq_false k3
          have J := Aside0.mk (I.out.done ok1.out k1 k3)
          go_wp2
          go_meet
          case rel => exact ⟨q, rfl, J, ⟨by repeat (first | exact Drawn0.refl _ | apply Drawn0.step)⟩⟩
  case rest =>
    obtain ⟨q, rfl, HQ, HD⟩ := hcut
    have bq : 0 ≤ q ∧ q ≤ 4294967295 := by
      have h1 := ok1.out.Q0
      have h2 := Dv.lt_b ok1.out.u1 ok1.out.d1 ok1.out.pos
      rw [HQ.out]
      omega
    obtain ⟨r, hr, r0, r1, hr2⟩ : ∃ r : Int, (u * 4294967296 + c) % (a * 4294967296 + b) = r ∧ 0 ≤ r ∧ r < Y ∧ q * Y + r = u * 4294967296 + c := by
      refine ⟨_, rfl, Int.emod_nonneg _ (by have := ok1.out.pos; omega), ?_, ?_⟩
      · have := Int.emod_lt_of_pos (u * 4294967296 + c) ok1.out.pos
        rw [EY.out] at this ⊢
        exact this
      · rw [HQ.out, EY.out, Int.mul_comm]
        exact Int.mul_ediv_add_emod _ _
    obtain ⟨bq0, bq1⟩ := bq
    have HR := Aside0.mk hr
    have HR2 := Aside0.mk hr2
    have ok2 : Aside0 (Dv.Ok r d a b) := ⟨⟨r0, by rw [EY.out]; exact r1, d0, by omega, a0, by omega, b0, by omega⟩⟩
    have e17 : IntKind.u64.wrap (IntKind.u64.wrap (IntKind.u64.wrap (u * 4294967296) + c) - IntKind.u64.wrap (q * Y)) = r := by
      rw [IntKind.wrap_u64, IntKind.wrap_u64, IntKind.wrap_u64, IntKind.wrap_u64]
      omega
    have e18 : IntKind.u64.wrap (r.tdiv a) = r / a := by
      rw [Int.tdiv_eq_ediv, if_pos (Or.inl r0), IntKind.wrap_u64]
      have d0 := Int.ediv_nonneg r0 (show 0 ≤ a by omega)
      have d1 := Int.ediv_le_self a r0
      omega
    have e16 : IntKind.u64.wrap (r - IntKind.u64.wrap (r / a * a)) = r - r / a * a := by
      have e := Int.mul_ediv_add_emod r a
      have m0 := Int.emod_nonneg r (show a ≠ 0 by omega)
      have m1 := Int.emod_lt_of_pos r (show 0 < a by omega)
      rw [Int.mul_comm] at e
      rw [IntKind.wrap_u64, IntKind.wrap_u64]
      omega
    have E17 := Aside0.mk e17
    have E18 := Aside0.mk e18
    have E16 := Aside0.mk e16
    clear hr hr2 e17 e18 e16
    go_upto_block 2 with (fail)
    rw [E17.out, E18.out, E16.out]
    clear E17 E18 E16
    go_cut [18] (fun v18 wc => ∃ z : Int, v18 = .int .u64 z ∧ Aside0 (z = (r * 4294967296 + d) / (a * 4294967296 + b)) ∧ Aside0 (Drawn0 w wc))
    case first =>
      go_wp2_with fail
      go_loop [18, 16] (fun v18 v16 => ∃ v rh : Int, v18 = .int .u64 v ∧ v16 = .int .u64 rh ∧ Aside0 (Dv.Inv r d a b v rh)) (fun v18 _ => (intOf v18 - (r * 4294967296 + d) / (a * 4294967296 + b)).toNat)
      case atStart => exact ⟨_, _, rfl, rfl, ⟨Dv.start ok2.out⟩⟩
      case round =>
        obtain ⟨v, rh, rfl, rfl, I⟩ := hrel
        have rh0 := I.out.r0
        have rh1 := I.out.r1
        have v1 := I.out.q1
        have vv := Int.le_trans ok2.out.Q0 I.out.q0
        by_cases k1 : 4294967296 ≤ v
        · have hm := (I.out.test ok2.out).2 (Or.inl k1)
          have T1 : decide (4294967296 ≤ v) = true := decide_eq_true k1
          have q2 : 1 ≤ v := by omega
          by_cases k2 : rh + a < 4294967296
          · have T2 : decide (4294967296 ≤ rh + a) = false := decide_eq_false (by omega)
            have J := Aside0.mk ((I.out.next ok2.out hm).1 k2)
            have HM := Aside0.mk hm
            clear hm
            go_wp2
            go_round
            case rel => exact ⟨v - 1, rh + a, rfl, rfl, J⟩
            case measure => have := HM.out; simp [intOf]; omega
          · have T2 : decide (4294967296 ≤ rh + a) = true := decide_eq_true (by omega)
            have J := Aside0.mk ((I.out.next ok2.out hm).2 k2)
            clear hm
            go_wp2
            go_meet
            case rel => exact ⟨v - 1, rfl, J, ⟨by repeat (first | exact HD.out | apply Drawn0.step)⟩⟩
        · have T1 : decide (4294967296 ≤ v) = false := decide_eq_false k1
          obtain ⟨_, p0, p1⟩ := I.out.prod ok2.out k1
          by_cases k3 : 4294967296 * rh + d < v * b
          · have hm := (I.out.test ok2.out).2 (Or.inr k3)
            have T3 : decide (4294967296 * rh + d < v * b) = true := decide_eq_true k3
            have q2 : 1 ≤ v := by have := ok2.out.Q0; omega
            by_cases k2 : rh + a < 4294967296
            · have T2 : decide (4294967296 ≤ rh + a) = false := decide_eq_false (by omega)
              have J := Aside0.mk ((I.out.next ok2.out hm).1 k2)
              have HM := Aside0.mk hm
              clear hm
              go_wp2
              go_round
              case rel => exact ⟨v - 1, rh + a, rfl, rfl, J⟩
              case measure => have := HM.out; simp [intOf]; omega
            · have T2 : decide (4294967296 ≤ rh + a) = true := decide_eq_true (by omega)
              have J := Aside0.mk ((I.out.next ok2.out hm).2 k2)
              clear hm
              go_wp2
              go_meet
              case rel => exact ⟨v - 1, rfl, J, ⟨by repeat (first | exact HD.out | apply Drawn0.step)⟩⟩
          · have T3 : decide (4294967296 * rh + d < v * b) = false := decide_eq_false k3
            have J := Aside0.mk (I.out.done ok2.out k1 k3)
            go_wp2
            go_meet
            case rel => exact ⟨v, rfl, J, ⟨by repeat (first | exact HD.out | apply Drawn0.step)⟩⟩
    case rest =>
      obtain ⟨z, rfl, HZ, HE⟩ := hcut
      have bz : 0 ≤ z ∧ z ≤ 4294967295 := by
        have h1 := ok2.out.Q0
        have h2 := Dv.lt_b ok2.out.u1 ok2.out.d1 ok2.out.pos
        rw [HZ.out]
        omega
      obtain ⟨bz0, bz1⟩ := bz
      have fin : q * 4294967296 + z = (hi * 18446744073709551616 + lo) / y ∧ IntKind.u64.wrap (IntKind.u64.wrap (IntKind.u64.wrap (r * 4294967296) + d) - IntKind.u64.wrap (z * Y)) / 2 ^ s = (hi * 18446744073709551616 + lo) % y := by
        obtain ⟨p, p1, _⟩ := bits_Div64.pow_split s1
        have t := Dv.two (u := u) (d1 := c) (d0 := d) (y := a * 4294967296 + b) ok1.out.pos
        rw [← HQ.out, HR.out, ← HZ.out] at t
        have e1 : (u * 4294967296 + c) * 4294967296 + d = (hi * 18446744073709551616 + lo) * 2 ^ s := by
          have := HUU.out
          have := EL.out
          omega
        have e2 := Int.mul_ediv_add_emod (r * 4294967296 + d) (a * 4294967296 + b)
        have e3 := Int.emod_nonneg (r * 4294967296 + d) (show a * 4294967296 + b ≠ 0 by omega)
        have e4 := Int.emod_lt_of_pos (r * 4294967296 + d) (show 0 < a * 4294967296 + b by omega)
        rw [← HZ.out, EY.out, Int.mul_comm] at e2
        rw [EY.out] at e3 e4
        rw [e1, EY.out, HY.out, Int.mul_ediv_mul_of_pos_left _ _ (by omega), Int.mul_comm y, Int.mul_comm _ (2 ^ s), Int.mul_emod_mul_of_pos _ _ (by omega)] at t
        refine ⟨t.1, ?_⟩
        have e5 : IntKind.u64.wrap (IntKind.u64.wrap (IntKind.u64.wrap (r * 4294967296) + d) - IntKind.u64.wrap (z * Y)) = (r * 4294967296 + d) % Y := by
          rw [IntKind.wrap_u64, IntKind.wrap_u64, IntKind.wrap_u64, IntKind.wrap_u64]
          omega
        rw [e5, HY.out, Int.mul_comm y, t.2, Int.mul_comm, Int.mul_ediv_cancel _ (by omega)]
      have FIN := Aside0.mk fin
      clear fin
      go_wp2
      go_ret2
      exact ⟨by rw [← FIN.out.1, ← FIN.out.2]; rfl, by repeat (first | exact HE.out | apply Drawn0.step)⟩
theorem bits_Div64.calls (a0 : Int) (a1 : Int) (a2 : Int) (r1 : Int) (r2 : Int) (w : World) (h : bits_Div64.f a0 a1 a2 = some (r1, r2)) :
    Calls Tryd.prog 83 #[.int .u64 a0, .int .u64 a1, .int .u64 a2] w fun e w' => e = .returned (.tuple #[.int .u64 r1, .int .u64 r2]) ∧ Drawn0 w w' := by
  unfold bits_Div64.f at h
  split at h
  case isFalse => exact absurd h (by simp)
  case isTrue hc =>
  obtain ⟨h0, h1, h2, h3, h4⟩ := hc
  simp only [Option.some.injEq, Prod.mk.injEq] at h
  obtain ⟨rfl, rfl⟩ := h
  by_cases hz : a0 = 0
  · subst hz
    rw [Int.zero_mul, Int.zero_add]
    exact bits_Div64.div0 a1 a2 h2 h3 (by omega) h4 w
  · exact bits_Div64.div1 a0 a1 a2 (by omega) h1 h2 h3 h4 w
theorem bits_Div64.ok {S : Seal} {a0 a1 a2 r0 r1 : Int} (e : bits_Div64.f a0 a1 a2 = some (r0, r1)) :
    Cal Tryd.prog 83 [.int .u64 a0, .int .u64 a1, .int .u64 a2] [] S fun v H' S' => v = .tuple #[.int .u64 r0, .int .u64 r1] ∧ H' = [] ∧ S' = S := cal_drawn fun w => (bits_Div64.calls _ _ _ _ _ w e).mono fun _ _ ⟨h1, h2⟩ => ⟨h1, h2.out⟩
end Go.Proofs.YtobjaddicodiaaaDoorX
