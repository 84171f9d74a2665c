/- math/bits' functions by contracts. Own work of these sessions. -/
import Derived.Test.YtijjgmkhgcofiaaE
import Derived.Test.YtijjgmkhgcofiaaProg
import Derived.Below
import Derived.Deep.Draws
import Derived.Deep.AppendLies
import Derived.Maps.AppendAt
import Derived.OwnWalk
import Derived.Laws.BytesArg
import Derived.Laws.MakeOwn
import Derived.Laws.OwnMore
import Derived.Deep.OwnRows
import Derived.Tactics
import Derived.Lib.ConvBytes
import Derived.Laws.Slices
import Derived.WalkKit
import Derived.KernelRfl
import Derived.RowKit3
import Derived.Deep.LoopGhost
import Derived.Deep.QuietTactic
import Derived.BigQuiet
import Derived.WideLaws
import Derived.Deep.DeepCutAuto
import Derived.Deep.CutBlock
import Derived.Deep.RegionHeld3
import Derived.Laws.Rows
import Derived.Lib.AppendStr
import Derived.ArgAppend
import Derived.Laws.IdiomCopy
import Derived.RowKit
import Derived.Lib.Mul64
import Derived.Laws.Bits64b
import Derived.Lib.ItoaNum
import Derived.Lib.BitFns
import Derived.Outline
import Derived.ChangeKeysEq
import Derived.LoopN
import Derived.OrdersHeld
import Derived.Laws.BitsLemmas
set_option linter.unusedVariables false
set_option linter.unusedSimpArgs false
set_option maxRecDepth 100000
namespace Go.Proofs.YtijjgmkhgcofiaaX
open Go Go.RowKit Go.Proofs.YtijjgmkhgcofiaaE
structure Aside0 (p : Prop) : Prop where mk :: (out : p)
structure Drawn0 (w w' : World) : Prop where mk :: (out : ∃ n, w' = w.drewN n)
theorem Drawn0.refl (w : World) : Drawn0 w w := ⟨⟨0, rfl⟩⟩
theorem Drawn0.step {w w' : World} (h : Drawn0 w w') (n : Nat) : Drawn0 w (w'.drewN n) := by
  obtain ⟨m, rfl⟩ := h
  exact ⟨⟨m + n, World.drewN_drewN ..⟩⟩
theorem step_drawn (S : Seal) : ∀ (n : Nat) (w : World), HOK [] S w → HOK [] S (w.drewN n) ∧ Step [] S w [] S (w.drewN n)
  | 0, w, h => ⟨h, Step.refl _ _ _⟩
  | n + 1, w, h => by
    obtain ⟨a, b⟩ := step_drawn S n { w with drawn := w.drawn + 1 } h.drew
    have e : ({ w with drawn := w.drawn + 1 } : World).drewN n = w.drewN (n + 1) := by
      show World.drewN (World.drewN w 1) n = _
      rw [World.drewN_drewN, Nat.add_comm]
    rw [e] at a b
    exact ⟨a, b.drew⟩
theorem cal_drawn {P : Program} {f : FuncId} {args : List Value} {S : Seal} {u : Value} (h : ∀ w, Calls P f args.toArray w fun e w' => e = .returned u ∧ ∃ n, w' = w.drewN n) : Cal P f args [] S fun v H' S' => v = u ∧ H' = [] ∧ S' = S :=
  fun w hw => (h w).mono fun e w' ⟨he, n, hn⟩ => by subst hn; exact ⟨u, [], S, he, ⟨rfl, rfl, rfl⟩, (step_drawn S n w hw).1, (step_drawn S n w hw).2⟩
def bits_Mul64.f (a0 : Int) (a1 : Int) : Option (Int × Int) := if 0 ≤ a0 ∧ a0 ≤ 18446744073709551615 ∧ 0 ≤ a1 ∧ a1 ≤ 18446744073709551615 then some (a0 * a1 / 18446744073709551616, a0 * a1 % 18446744073709551616) else none
theorem bits_Mul64.maskN (a : Nat) (ha : a < 18446744073709551616) : Go.bits .and .u64 (a : Int) 4294967295 = ((a % 4294967296 : Nat) : Int) := by
  have h := bits_and_u64_nat a 4294967295 ha (by omega)
  have e : a &&& 4294967295 = a % 4294967296 := Nat.and_two_pow_sub_one_eq_mod a 32
  rw [e] at h
  exact h
theorem bits_Mul64.divN (a : Nat) : (a : Int) / 4294967296 = ((a / 4294967296 : Nat) : Int) := by omega
theorem bits_Mul64.mulN (a b : Nat) : (a : Int) * (b : Int) = ((a * b : Nat) : Int) := (Int.natCast_mul a b).symm
theorem bits_Mul64.addN (a b : Nat) : (a : Int) + (b : Int) = ((a + b : Nat) : Int) := (Int.natCast_add a b).symm
theorem bits_Mul64.wrapN (a : Nat) (ha : a < 18446744073709551616) : IntKind.u64.wrap (a : Int) = (a : Int) := by rw [IntKind.wrap_u64]; omega
theorem bits_Mul64.wrapM (a : Nat) : IntKind.u64.wrap (a : Int) = ((a % 18446744073709551616 : Nat) : Int) := by rw [IntKind.wrap_u64]; omega
set_option maxHeartbeats 1000000 in
theorem bits_Mul64.core (x y : Nat) (hx : x < 18446744073709551616) (hy : y < 18446744073709551616) (w : World) :
    Calls Try.prog 58 #[.int .u64 x, .int .u64 y] w fun e w' => e = .returned (.tuple #[.int .u64 ((x * y / 18446744073709551616 : Nat) : Int), .int .u64 ((x * y % 18446744073709551616 : Nat) : Int)]) ∧ Drawn0 w w' := by
  obtain ⟨bd, bt, bw, hhi⟩ := Lib.mul64_hi x y hx hy
  have ba := Lib.half_mul_le (a := x / 4294967296) (b := y / 4294967296) (by omega) (by omega)
  have bb := Lib.half_mul_le (a := x / 4294967296) (b := y % 4294967296) (by omega) (by omega)
  have bc := Lib.half_mul_le (a := x % 4294967296) (b := y / 4294967296) (by omega) (by omega)
  have ba' : x / 4294967296 * (y / 4294967296) < 18446744073709551616 := by omega
  have bb' : x / 4294967296 * (y % 4294967296) < 18446744073709551616 := by omega
  have bc' : x % 4294967296 * (y / 4294967296) < 18446744073709551616 := by omega
  have bh1 : x / 4294967296 * (y / 4294967296) + (x / 4294967296 * (y % 4294967296) + x % 4294967296 * (y % 4294967296) / 4294967296) / 4294967296 < 18446744073709551616 := by omega
  have bh : x / 4294967296 * (y / 4294967296) + (x / 4294967296 * (y % 4294967296) + x % 4294967296 * (y % 4294967296) / 4294967296) / 4294967296 + ((x / 4294967296 * (y % 4294967296) + x % 4294967296 * (y % 4294967296) / 4294967296) % 4294967296 + x % 4294967296 * (y / 4294967296)) / 4294967296 < 18446744073709551616 := by omega
  go_enter Try.func58, Try.ntmps58
  go_wp2
  simp only [bits_Mul64.maskN x hx, bits_Mul64.maskN y hy, bits_Mul64.divN, bits_Mul64.mulN, bits_Mul64.addN, bits_Mul64.wrapN _ bd, bits_Mul64.wrapN _ bb', bits_Mul64.wrapN _ bt, bits_Mul64.maskN _ bt, bits_Mul64.wrapN _ bc', bits_Mul64.wrapN _ bw, bits_Mul64.wrapN _ ba', bits_Mul64.wrapN _ bh1, bits_Mul64.wrapN _ bh, bits_Mul64.wrapM (x * y)]
  rw [hhi]
  go_ret2
  exact ⟨rfl, by repeat (first | exact Drawn0.refl _ | apply Drawn0.step)⟩
theorem bits_Mul64.calls (a0 : Int) (a1 : Int) (r1 : Int) (r2 : Int) (w : World) (h : bits_Mul64.f a0 a1 = some (r1, r2)) :
    Calls Try.prog 58 #[.int .u64 a0, .int .u64 a1] w fun e w' => e = .returned (.tuple #[.int .u64 r1, .int .u64 r2]) ∧ Drawn0 w w' := by
  unfold bits_Mul64.f at h
  split at h
  case isFalse => exact absurd h (by simp)
  case isTrue hc =>
  obtain ⟨h0, h1, h2, h3⟩ := hc
  simp only [Option.some.injEq, Prod.mk.injEq] at h
  obtain ⟨rfl, rfl⟩ := h
  obtain ⟨x, rfl⟩ := Int.eq_ofNat_of_zero_le h0
  obtain ⟨y, rfl⟩ := Int.eq_ofNat_of_zero_le h2
  exact bits_Mul64.core x y (by omega) (by omega) w
theorem bits_Mul64.ok {S : Seal} {a0 a1 r0 r1 : Int} (e : bits_Mul64.f a0 a1 = some (r0, r1)) :
    Cal Try.prog 58 [.int .u64 a0, .int .u64 a1] [] S fun v H' S' => v = .tuple #[.int .u64 r0, .int .u64 r1] ∧ H' = [] ∧ S' = S := cal_drawn fun w => (bits_Mul64.calls _ _ _ _ w e).mono fun _ _ ⟨h1, h2⟩ => ⟨h1, h2.out⟩
end Go.Proofs.YtijjgmkhgcofiaaX
