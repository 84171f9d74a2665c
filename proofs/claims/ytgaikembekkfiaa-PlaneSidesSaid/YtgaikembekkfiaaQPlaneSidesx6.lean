/- Functions of a Go program as Lean functions, each with its walk, or the row of a law. Written by a program of this session after the pattern of the print. -/
import Derived.Test.YtgaikembekkfiaaQPlaneSidesx0
import Derived.Test.YtgaikembekkfiaaQPlaneSidesx1
import Derived.Test.YtgaikembekkfiaaQPlaneSidesx2
import Derived.Test.YtgaikembekkfiaaQPlaneSidesx3
import Derived.Test.YtgaikembekkfiaaQPlaneSidesx4
import Derived.Test.YtgaikembekkfiaaQPlaneSidesx5
namespace Go.Proofs.Ytgaikembekkfiaa.QPlaneSides
open Go.RowKit Go.Proofs.YtgaikembekkfiaaW.PrintWords Go.Proofs.YtgaikembekkfiaaW.PrintLast Go.Proofs.YtgaikembekkfiaaW.PrintMore
attribute [local go_sem] max2_int min2_int max_two min_two max_three min_three max_four min_four   -- for this text's walks alone
set_option linter.unusedVariables false
set_option linter.unusedSimpArgs false

attribute [local go_sem high] eqA28
/-! ### glyphiclaw4_PlaneSides: function 14 -/
def glyphiclaw4_PlaneSides.f (a0_0 : Int) (a0_1 : Int) (a1_0 : Int) (a1_1 : Int) (a2 : Int) (a3 : Int) : Option (Bool) := (glyphiclaw4_first.f).bind fun t145 => (if t145 = true then ((plane_Add.f (Int.tmod a0_0 1000000) (Int.tmod a0_1 1000000) (Int.tmod a1_0 10000) (Int.tmod a1_1 10000)).bind fun bt146 => ((plane_Cross.f (Int.tmod a0_0 1000000) (Int.tmod a0_1 1000000) bt146.1 bt146.2 (wrap64 ((Int.tmod a0_0 1000000) + (wrap64 ((Int.tmod a2 100) * (Int.tmod a1_0 10000))))) (wrap64 ((Int.tmod a0_1 1000000) + (wrap64 ((Int.tmod a2 100) * (Int.tmod a1_1 10000)))))).bind fun t151 => (if t151 = 0 then ((plane_Cross.f (Int.tmod a0_0 1000000) (Int.tmod a0_1 1000000) bt146.1 bt146.2 (wrap64 ((wrap64 ((Int.tmod a0_0 1000000) + (wrap64 ((Int.tmod a2 100) * (Int.tmod a1_0 10000))))) - (wrap64 ((Int.tmod a3 1000) * (Int.tmod a1_1 10000))))) (wrap64 ((wrap64 ((Int.tmod a0_1 1000000) + (wrap64 ((Int.tmod a2 100) * (Int.tmod a1_1 10000))))) + (wrap64 ((Int.tmod a3 1000) * (Int.tmod a1_0 10000)))))).bind fun t152 => ((plane_Len2.f (Int.tmod a0_0 1000000) (Int.tmod a0_1 1000000) bt146.1 bt146.2).bind fun t153 => (if t152 = (wrap64 ((Int.tmod a3 1000) * t153)) then ((plane_Dot.f (Int.tmod a0_0 1000000) (Int.tmod a0_1 1000000) bt146.1 bt146.2 (wrap64 ((wrap64 ((Int.tmod a0_0 1000000) + (wrap64 ((Int.tmod a2 100) * (Int.tmod a1_0 10000))))) - (wrap64 ((Int.tmod a3 1000) * (Int.tmod a1_1 10000))))) (wrap64 ((wrap64 ((Int.tmod a0_1 1000000) + (wrap64 ((Int.tmod a2 100) * (Int.tmod a1_1 10000))))) + (wrap64 ((Int.tmod a3 1000) * (Int.tmod a1_0 10000)))))).bind fun t154 => ((plane_Len2.f (Int.tmod a0_0 1000000) (Int.tmod a0_1 1000000) bt146.1 bt146.2).bind fun t155 => (if t154 = (wrap64 ((Int.tmod a2 100) * t155)) then ((plane_Len2.f (Int.tmod a0_0 1000000) (Int.tmod a0_1 1000000) (Int.tmod a0_0 1000000) (Int.tmod a0_1 1000000)).bind fun t156 => (if t156 = 0 then ((plane_Sub.f bt146.1 bt146.2 (Int.tmod a0_0 1000000) (Int.tmod a0_1 1000000)).bind fun bt157 => (some (bt157.1 == (Int.tmod a1_0 10000) && (bt157.2 == (Int.tmod a1_1 10000))))) else (some false))) else (some false)))) else (some false)))) else (some false)))) else (some false))
def glyphiclaw4_PlaneSides.T11 : Bool × List (List Nat × List Nat) := (true, [([], []), ([0], [0]), ([1], [1]), ([1], [1]), ([1], [1]), ([2, 3, 4, 1, 1], [1, 2, 3, 4]), ([5, 1], [1, 5]), ([1, 6], [1, 6]), ([7, 5], [7]), ([8], [8]), ([8], [8]), ([8], [8]), ([9, 10, 11, 8, 8], [8, 9, 10, 11]), ([8], [8]), ([8], [8]), ([8], [8]), ([14, 15, 12, 8], [8, 14, 15]), ([13, 16, 8], [8, 13, 16]), ([12, 17, 8], [8, 12, 17]), ([8, 18], [8, 18]), ([19, 16], [19]), ([20], [20]), ([20], [20]), ([20], [20]), ([21, 22, 23, 20, 20], [20, 21, 22, 23]), ([20], [20]), ([20], [20]), ([20], [20]), ([26, 27, 24, 20], [20, 26, 27]), ([25, 28, 20], [20, 25, 28]), ([24, 29, 20], [20, 24, 29]), ([20, 30], [20, 30]), ([31, 28], [31]), ([32], [32]), ([32], [32]), ([33, 34, 32, 32], [32, 33, 34]), ([35, 32], [32, 35]), ([32, 36], [32, 36]), ([37, 35], [37]), ([38], [38]), ([38], [38]), ([39, 40, 38, 38], [38, 39, 40]), ([38], [38]), ([41, 42, 38], [38, 41, 42]), ([38, 43], [38, 43]), ([44, 41, 0, 1, 2, 3, 4, 5, 6, 7, 8, 9, 10, 11, 12, 13, 14, 15, 16, 17, 18, 19, 20, 21, 22, 23, 24, 25, 26, 27, 28, 29, 30, 31, 32, 33, 34, 35, 36, 37, 38, 39, 40, 41, 42, 43, 44], [44])])
def glyphiclaw4_PlaneSides.B11 : List Nat := [0, 1, 3, 3, 3, 31, 63, 127, 255, 511, 511, 511, 4095, 511, 511, 511, 57343, 131071, 262143, 524287, 1048575, 2097151, 2097151, 2097151, 16777215, 2097151, 2097151, 2097151, 234881023, 536870911, 1073741823, 2147483647, 4294967295, 8589934591, 8589934591, 34359738367, 68719476735, 137438953471, 274877906943, 549755813887, 549755813887, 2199023255551, 549755813887, 8796093022207, 17592186044415, 35184372088831]
theorem glyphiclaw4_PlaneSides.tab11 : rtab .any (opsOf Try.f14 11) = glyphiclaw4_PlaneSides.T11 := by kernel_rfl
theorem glyphiclaw4_PlaneSides.bits11 : waitsOk glyphiclaw4_PlaneSides.T11.2 glyphiclaw4_PlaneSides.B11 = true := by kernel_rfl
set_option maxHeartbeats 8000000 in
set_option maxRecDepth 100000 in
theorem glyphiclaw4_PlaneSides.calls (a0_0 : Int) (a0_1 : Int) (a1_0 : Int) (a1_1 : Int) (a2 : Int) (a3 : Int) (r : Bool) (w : World) (hr0_ : Aside0 (r = true)) (h : glyphiclaw4_PlaneSides.f a0_0 a0_1 a1_0 a1_1 a2 a3 = some r) :
    Calls Try.prog 14 #[.agg #[.int .i64 a0_0, .int .i64 a0_1], .agg #[.int .i64 a1_0, .int .i64 a1_1], .int .i64 a2, .int .i64 a3] w fun e w' => e = .returned (.bool r) ∧ Below w.heap.size w w' := by
  have hu28 := Try.underlying28
  have HB := Aside0.mk (Below.refl w.heap.size w)
  have H : ((glyphiclaw4_first.f).bind fun t145 => (if t145 = true then ((plane_Add.f (Int.tmod a0_0 1000000) (Int.tmod a0_1 1000000) (Int.tmod a1_0 10000) (Int.tmod a1_1 10000)).bind fun bt146 => ((plane_Cross.f (Int.tmod a0_0 1000000) (Int.tmod a0_1 1000000) bt146.1 bt146.2 (wrap64 ((Int.tmod a0_0 1000000) + (wrap64 ((Int.tmod a2 100) * (Int.tmod a1_0 10000))))) (wrap64 ((Int.tmod a0_1 1000000) + (wrap64 ((Int.tmod a2 100) * (Int.tmod a1_1 10000)))))).bind fun t151 => (if t151 = 0 then ((plane_Cross.f (Int.tmod a0_0 1000000) (Int.tmod a0_1 1000000) bt146.1 bt146.2 (wrap64 ((wrap64 ((Int.tmod a0_0 1000000) + (wrap64 ((Int.tmod a2 100) * (Int.tmod a1_0 10000))))) - (wrap64 ((Int.tmod a3 1000) * (Int.tmod a1_1 10000))))) (wrap64 ((wrap64 ((Int.tmod a0_1 1000000) + (wrap64 ((Int.tmod a2 100) * (Int.tmod a1_1 10000))))) + (wrap64 ((Int.tmod a3 1000) * (Int.tmod a1_0 10000)))))).bind fun t152 => ((plane_Len2.f (Int.tmod a0_0 1000000) (Int.tmod a0_1 1000000) bt146.1 bt146.2).bind fun t153 => (if t152 = (wrap64 ((Int.tmod a3 1000) * t153)) then ((plane_Dot.f (Int.tmod a0_0 1000000) (Int.tmod a0_1 1000000) bt146.1 bt146.2 (wrap64 ((wrap64 ((Int.tmod a0_0 1000000) + (wrap64 ((Int.tmod a2 100) * (Int.tmod a1_0 10000))))) - (wrap64 ((Int.tmod a3 1000) * (Int.tmod a1_1 10000))))) (wrap64 ((wrap64 ((Int.tmod a0_1 1000000) + (wrap64 ((Int.tmod a2 100) * (Int.tmod a1_1 10000))))) + (wrap64 ((Int.tmod a3 1000) * (Int.tmod a1_0 10000)))))).bind fun t154 => ((plane_Len2.f (Int.tmod a0_0 1000000) (Int.tmod a0_1 1000000) bt146.1 bt146.2).bind fun t155 => (if t154 = (wrap64 ((Int.tmod a2 100) * t155)) then ((plane_Len2.f (Int.tmod a0_0 1000000) (Int.tmod a0_1 1000000) (Int.tmod a0_0 1000000) (Int.tmod a0_1 1000000)).bind fun t156 => (if t156 = 0 then ((plane_Sub.f bt146.1 bt146.2 (Int.tmod a0_0 1000000) (Int.tmod a0_1 1000000)).bind fun bt157 => (some (bt157.1 == (Int.tmod a1_0 10000) && (bt157.2 == (Int.tmod a1_1 10000))))) else (some false))) else (some false)))) else (some false)))) else (some false)))) else (some false))) = some r := h
  clear h
  replace H := Option.bind_eq_some_iff.mp H
  obtain ⟨t145, A50, H⟩ := H
  replace H : (if t145 = true then ((plane_Add.f (Int.tmod a0_0 1000000) (Int.tmod a0_1 1000000) (Int.tmod a1_0 10000) (Int.tmod a1_1 10000)).bind fun bt146 => ((plane_Cross.f (Int.tmod a0_0 1000000) (Int.tmod a0_1 1000000) bt146.1 bt146.2 (wrap64 ((Int.tmod a0_0 1000000) + (wrap64 ((Int.tmod a2 100) * (Int.tmod a1_0 10000))))) (wrap64 ((Int.tmod a0_1 1000000) + (wrap64 ((Int.tmod a2 100) * (Int.tmod a1_1 10000)))))).bind fun t151 => (if t151 = 0 then ((plane_Cross.f (Int.tmod a0_0 1000000) (Int.tmod a0_1 1000000) bt146.1 bt146.2 (wrap64 ((wrap64 ((Int.tmod a0_0 1000000) + (wrap64 ((Int.tmod a2 100) * (Int.tmod a1_0 10000))))) - (wrap64 ((Int.tmod a3 1000) * (Int.tmod a1_1 10000))))) (wrap64 ((wrap64 ((Int.tmod a0_1 1000000) + (wrap64 ((Int.tmod a2 100) * (Int.tmod a1_1 10000))))) + (wrap64 ((Int.tmod a3 1000) * (Int.tmod a1_0 10000)))))).bind fun t152 => ((plane_Len2.f (Int.tmod a0_0 1000000) (Int.tmod a0_1 1000000) bt146.1 bt146.2).bind fun t153 => (if t152 = (wrap64 ((Int.tmod a3 1000) * t153)) then ((plane_Dot.f (Int.tmod a0_0 1000000) (Int.tmod a0_1 1000000) bt146.1 bt146.2 (wrap64 ((wrap64 ((Int.tmod a0_0 1000000) + (wrap64 ((Int.tmod a2 100) * (Int.tmod a1_0 10000))))) - (wrap64 ((Int.tmod a3 1000) * (Int.tmod a1_1 10000))))) (wrap64 ((wrap64 ((Int.tmod a0_1 1000000) + (wrap64 ((Int.tmod a2 100) * (Int.tmod a1_1 10000))))) + (wrap64 ((Int.tmod a3 1000) * (Int.tmod a1_0 10000)))))).bind fun t154 => ((plane_Len2.f (Int.tmod a0_0 1000000) (Int.tmod a0_1 1000000) bt146.1 bt146.2).bind fun t155 => (if t154 = (wrap64 ((Int.tmod a2 100) * t155)) then ((plane_Len2.f (Int.tmod a0_0 1000000) (Int.tmod a0_1 1000000) (Int.tmod a0_0 1000000) (Int.tmod a0_1 1000000)).bind fun t156 => (if t156 = 0 then ((plane_Sub.f bt146.1 bt146.2 (Int.tmod a0_0 1000000) (Int.tmod a0_1 1000000)).bind fun bt157 => (some (bt157.1 == (Int.tmod a1_0 10000) && (bt157.2 == (Int.tmod a1_1 10000))))) else (some false))) else (some false)))) else (some false)))) else (some false)))) else (some false)) = some r := H
  have A5 := Aside0.mk A50
  clear A50
  by_cases c6 : t145 = true
  · subst c6
    have H1 : ((plane_Add.f (Int.tmod a0_0 1000000) (Int.tmod a0_1 1000000) (Int.tmod a1_0 10000) (Int.tmod a1_1 10000)).bind fun bt146 => ((plane_Cross.f (Int.tmod a0_0 1000000) (Int.tmod a0_1 1000000) bt146.1 bt146.2 (wrap64 ((Int.tmod a0_0 1000000) + (wrap64 ((Int.tmod a2 100) * (Int.tmod a1_0 10000))))) (wrap64 ((Int.tmod a0_1 1000000) + (wrap64 ((Int.tmod a2 100) * (Int.tmod a1_1 10000)))))).bind fun t151 => (if t151 = 0 then ((plane_Cross.f (Int.tmod a0_0 1000000) (Int.tmod a0_1 1000000) bt146.1 bt146.2 (wrap64 ((wrap64 ((Int.tmod a0_0 1000000) + (wrap64 ((Int.tmod a2 100) * (Int.tmod a1_0 10000))))) - (wrap64 ((Int.tmod a3 1000) * (Int.tmod a1_1 10000))))) (wrap64 ((wrap64 ((Int.tmod a0_1 1000000) + (wrap64 ((Int.tmod a2 100) * (Int.tmod a1_1 10000))))) + (wrap64 ((Int.tmod a3 1000) * (Int.tmod a1_0 10000)))))).bind fun t152 => ((plane_Len2.f (Int.tmod a0_0 1000000) (Int.tmod a0_1 1000000) bt146.1 bt146.2).bind fun t153 => (if t152 = (wrap64 ((Int.tmod a3 1000) * t153)) then ((plane_Dot.f (Int.tmod a0_0 1000000) (Int.tmod a0_1 1000000) bt146.1 bt146.2 (wrap64 ((wrap64 ((Int.tmod a0_0 1000000) + (wrap64 ((Int.tmod a2 100) * (Int.tmod a1_0 10000))))) - (wrap64 ((Int.tmod a3 1000) * (Int.tmod a1_1 10000))))) (wrap64 ((wrap64 ((Int.tmod a0_1 1000000) + (wrap64 ((Int.tmod a2 100) * (Int.tmod a1_1 10000))))) + (wrap64 ((Int.tmod a3 1000) * (Int.tmod a1_0 10000)))))).bind fun t154 => ((plane_Len2.f (Int.tmod a0_0 1000000) (Int.tmod a0_1 1000000) bt146.1 bt146.2).bind fun t155 => (if t154 = (wrap64 ((Int.tmod a2 100) * t155)) then ((plane_Len2.f (Int.tmod a0_0 1000000) (Int.tmod a0_1 1000000) (Int.tmod a0_0 1000000) (Int.tmod a0_1 1000000)).bind fun t156 => (if t156 = 0 then ((plane_Sub.f bt146.1 bt146.2 (Int.tmod a0_0 1000000) (Int.tmod a0_1 1000000)).bind fun bt157 => (some (bt157.1 == (Int.tmod a1_0 10000) && (bt157.2 == (Int.tmod a1_1 10000))))) else (some false))) else (some false)))) else (some false)))) else (some false)))) = some r := by rw [if_pos rfl] at H; exact H
    clear H
    have H := H1
    clear H1
    replace H := Option.bind_eq_some_iff.mp H
    obtain ⟨⟨t146, t147⟩, A70, H⟩ := H
    replace H : ((plane_Cross.f (Int.tmod a0_0 1000000) (Int.tmod a0_1 1000000) t146 t147 (wrap64 ((Int.tmod a0_0 1000000) + (wrap64 ((Int.tmod a2 100) * (Int.tmod a1_0 10000))))) (wrap64 ((Int.tmod a0_1 1000000) + (wrap64 ((Int.tmod a2 100) * (Int.tmod a1_1 10000)))))).bind fun t151 => (if t151 = 0 then ((plane_Cross.f (Int.tmod a0_0 1000000) (Int.tmod a0_1 1000000) t146 t147 (wrap64 ((wrap64 ((Int.tmod a0_0 1000000) + (wrap64 ((Int.tmod a2 100) * (Int.tmod a1_0 10000))))) - (wrap64 ((Int.tmod a3 1000) * (Int.tmod a1_1 10000))))) (wrap64 ((wrap64 ((Int.tmod a0_1 1000000) + (wrap64 ((Int.tmod a2 100) * (Int.tmod a1_1 10000))))) + (wrap64 ((Int.tmod a3 1000) * (Int.tmod a1_0 10000)))))).bind fun t152 => ((plane_Len2.f (Int.tmod a0_0 1000000) (Int.tmod a0_1 1000000) t146 t147).bind fun t153 => (if t152 = (wrap64 ((Int.tmod a3 1000) * t153)) then ((plane_Dot.f (Int.tmod a0_0 1000000) (Int.tmod a0_1 1000000) t146 t147 (wrap64 ((wrap64 ((Int.tmod a0_0 1000000) + (wrap64 ((Int.tmod a2 100) * (Int.tmod a1_0 10000))))) - (wrap64 ((Int.tmod a3 1000) * (Int.tmod a1_1 10000))))) (wrap64 ((wrap64 ((Int.tmod a0_1 1000000) + (wrap64 ((Int.tmod a2 100) * (Int.tmod a1_1 10000))))) + (wrap64 ((Int.tmod a3 1000) * (Int.tmod a1_0 10000)))))).bind fun t154 => ((plane_Len2.f (Int.tmod a0_0 1000000) (Int.tmod a0_1 1000000) t146 t147).bind fun t155 => (if t154 = (wrap64 ((Int.tmod a2 100) * t155)) then ((plane_Len2.f (Int.tmod a0_0 1000000) (Int.tmod a0_1 1000000) (Int.tmod a0_0 1000000) (Int.tmod a0_1 1000000)).bind fun t156 => (if t156 = 0 then ((plane_Sub.f t146 t147 (Int.tmod a0_0 1000000) (Int.tmod a0_1 1000000)).bind fun bt157 => (some (bt157.1 == (Int.tmod a1_0 10000) && (bt157.2 == (Int.tmod a1_1 10000))))) else (some false))) else (some false)))) else (some false)))) else (some false))) = some r := H
    have A7 := Aside0.mk A70
    clear A70
    replace H := Option.bind_eq_some_iff.mp H
    obtain ⟨t151, A80, H⟩ := H
    replace H : (if t151 = 0 then ((plane_Cross.f (Int.tmod a0_0 1000000) (Int.tmod a0_1 1000000) t146 t147 (wrap64 ((wrap64 ((Int.tmod a0_0 1000000) + (wrap64 ((Int.tmod a2 100) * (Int.tmod a1_0 10000))))) - (wrap64 ((Int.tmod a3 1000) * (Int.tmod a1_1 10000))))) (wrap64 ((wrap64 ((Int.tmod a0_1 1000000) + (wrap64 ((Int.tmod a2 100) * (Int.tmod a1_1 10000))))) + (wrap64 ((Int.tmod a3 1000) * (Int.tmod a1_0 10000)))))).bind fun t152 => ((plane_Len2.f (Int.tmod a0_0 1000000) (Int.tmod a0_1 1000000) t146 t147).bind fun t153 => (if t152 = (wrap64 ((Int.tmod a3 1000) * t153)) then ((plane_Dot.f (Int.tmod a0_0 1000000) (Int.tmod a0_1 1000000) t146 t147 (wrap64 ((wrap64 ((Int.tmod a0_0 1000000) + (wrap64 ((Int.tmod a2 100) * (Int.tmod a1_0 10000))))) - (wrap64 ((Int.tmod a3 1000) * (Int.tmod a1_1 10000))))) (wrap64 ((wrap64 ((Int.tmod a0_1 1000000) + (wrap64 ((Int.tmod a2 100) * (Int.tmod a1_1 10000))))) + (wrap64 ((Int.tmod a3 1000) * (Int.tmod a1_0 10000)))))).bind fun t154 => ((plane_Len2.f (Int.tmod a0_0 1000000) (Int.tmod a0_1 1000000) t146 t147).bind fun t155 => (if t154 = (wrap64 ((Int.tmod a2 100) * t155)) then ((plane_Len2.f (Int.tmod a0_0 1000000) (Int.tmod a0_1 1000000) (Int.tmod a0_0 1000000) (Int.tmod a0_1 1000000)).bind fun t156 => (if t156 = 0 then ((plane_Sub.f t146 t147 (Int.tmod a0_0 1000000) (Int.tmod a0_1 1000000)).bind fun bt157 => (some (bt157.1 == (Int.tmod a1_0 10000) && (bt157.2 == (Int.tmod a1_1 10000))))) else (some false))) else (some false)))) else (some false)))) else (some false)) = some r := H
    have A8 := Aside0.mk A80
    clear A80
    by_cases c9 : t151 = 0
    · rw [if_pos c9] at H
      have c9b0 : (t151 == 0) = true := beq_iff_eq.mpr c9
      have c9b1 : (t151 != 0) = false := bne_eq_false_iff_eq.mpr c9
      clear c9
      replace H := Option.bind_eq_some_iff.mp H
      obtain ⟨t152, A100, H⟩ := H
      replace H : ((plane_Len2.f (Int.tmod a0_0 1000000) (Int.tmod a0_1 1000000) t146 t147).bind fun t153 => (if t152 = (wrap64 ((Int.tmod a3 1000) * t153)) then ((plane_Dot.f (Int.tmod a0_0 1000000) (Int.tmod a0_1 1000000) t146 t147 (wrap64 ((wrap64 ((Int.tmod a0_0 1000000) + (wrap64 ((Int.tmod a2 100) * (Int.tmod a1_0 10000))))) - (wrap64 ((Int.tmod a3 1000) * (Int.tmod a1_1 10000))))) (wrap64 ((wrap64 ((Int.tmod a0_1 1000000) + (wrap64 ((Int.tmod a2 100) * (Int.tmod a1_1 10000))))) + (wrap64 ((Int.tmod a3 1000) * (Int.tmod a1_0 10000)))))).bind fun t154 => ((plane_Len2.f (Int.tmod a0_0 1000000) (Int.tmod a0_1 1000000) t146 t147).bind fun t155 => (if t154 = (wrap64 ((Int.tmod a2 100) * t155)) then ((plane_Len2.f (Int.tmod a0_0 1000000) (Int.tmod a0_1 1000000) (Int.tmod a0_0 1000000) (Int.tmod a0_1 1000000)).bind fun t156 => (if t156 = 0 then ((plane_Sub.f t146 t147 (Int.tmod a0_0 1000000) (Int.tmod a0_1 1000000)).bind fun bt157 => (some (bt157.1 == (Int.tmod a1_0 10000) && (bt157.2 == (Int.tmod a1_1 10000))))) else (some false))) else (some false)))) else (some false))) = some r := H
      have A10 := Aside0.mk A100
      clear A100
      replace H := Option.bind_eq_some_iff.mp H
      obtain ⟨t153, A110, H⟩ := H
      replace H : (if t152 = (wrap64 ((Int.tmod a3 1000) * t153)) then ((plane_Dot.f (Int.tmod a0_0 1000000) (Int.tmod a0_1 1000000) t146 t147 (wrap64 ((wrap64 ((Int.tmod a0_0 1000000) + (wrap64 ((Int.tmod a2 100) * (Int.tmod a1_0 10000))))) - (wrap64 ((Int.tmod a3 1000) * (Int.tmod a1_1 10000))))) (wrap64 ((wrap64 ((Int.tmod a0_1 1000000) + (wrap64 ((Int.tmod a2 100) * (Int.tmod a1_1 10000))))) + (wrap64 ((Int.tmod a3 1000) * (Int.tmod a1_0 10000)))))).bind fun t154 => ((plane_Len2.f (Int.tmod a0_0 1000000) (Int.tmod a0_1 1000000) t146 t147).bind fun t155 => (if t154 = (wrap64 ((Int.tmod a2 100) * t155)) then ((plane_Len2.f (Int.tmod a0_0 1000000) (Int.tmod a0_1 1000000) (Int.tmod a0_0 1000000) (Int.tmod a0_1 1000000)).bind fun t156 => (if t156 = 0 then ((plane_Sub.f t146 t147 (Int.tmod a0_0 1000000) (Int.tmod a0_1 1000000)).bind fun bt157 => (some (bt157.1 == (Int.tmod a1_0 10000) && (bt157.2 == (Int.tmod a1_1 10000))))) else (some false))) else (some false)))) else (some false)) = some r := H
      have A11 := Aside0.mk A110
      clear A110
      by_cases c12 : t152 = (wrap64 ((Int.tmod a3 1000) * t153))
      · rw [if_pos c12] at H
        have c12b0 : (t152 == (wrap64 ((Int.tmod a3 1000) * t153))) = true := beq_iff_eq.mpr c12
        have c12b1 : (t152 != (wrap64 ((Int.tmod a3 1000) * t153))) = false := bne_eq_false_iff_eq.mpr c12
        clear c12
        replace H := Option.bind_eq_some_iff.mp H
        obtain ⟨t154, A130, H⟩ := H
        replace H : ((plane_Len2.f (Int.tmod a0_0 1000000) (Int.tmod a0_1 1000000) t146 t147).bind fun t155 => (if t154 = (wrap64 ((Int.tmod a2 100) * t155)) then ((plane_Len2.f (Int.tmod a0_0 1000000) (Int.tmod a0_1 1000000) (Int.tmod a0_0 1000000) (Int.tmod a0_1 1000000)).bind fun t156 => (if t156 = 0 then ((plane_Sub.f t146 t147 (Int.tmod a0_0 1000000) (Int.tmod a0_1 1000000)).bind fun bt157 => (some (bt157.1 == (Int.tmod a1_0 10000) && (bt157.2 == (Int.tmod a1_1 10000))))) else (some false))) else (some false))) = some r := H
        have A13 := Aside0.mk A130
        clear A130
        replace H := Option.bind_eq_some_iff.mp H
        obtain ⟨t155, A140, H⟩ := H
        replace H : (if t154 = (wrap64 ((Int.tmod a2 100) * t155)) then ((plane_Len2.f (Int.tmod a0_0 1000000) (Int.tmod a0_1 1000000) (Int.tmod a0_0 1000000) (Int.tmod a0_1 1000000)).bind fun t156 => (if t156 = 0 then ((plane_Sub.f t146 t147 (Int.tmod a0_0 1000000) (Int.tmod a0_1 1000000)).bind fun bt157 => (some (bt157.1 == (Int.tmod a1_0 10000) && (bt157.2 == (Int.tmod a1_1 10000))))) else (some false))) else (some false)) = some r := H
        have A14 := Aside0.mk A140
        clear A140
        by_cases c15 : t154 = (wrap64 ((Int.tmod a2 100) * t155))
        · rw [if_pos c15] at H
          have c15b0 : (t154 == (wrap64 ((Int.tmod a2 100) * t155))) = true := beq_iff_eq.mpr c15
          have c15b1 : (t154 != (wrap64 ((Int.tmod a2 100) * t155))) = false := bne_eq_false_iff_eq.mpr c15
          clear c15
          replace H := Option.bind_eq_some_iff.mp H
          obtain ⟨t156, A160, H⟩ := H
          replace H : (if t156 = 0 then ((plane_Sub.f t146 t147 (Int.tmod a0_0 1000000) (Int.tmod a0_1 1000000)).bind fun bt157 => (some (bt157.1 == (Int.tmod a1_0 10000) && (bt157.2 == (Int.tmod a1_1 10000))))) else (some false)) = some r := H
          have A16 := Aside0.mk A160
          clear A160
          by_cases c17 : t156 = 0
          · rw [if_pos c17] at H
            have c17b0 : (t156 == 0) = true := beq_iff_eq.mpr c17
            have c17b1 : (t156 != 0) = false := bne_eq_false_iff_eq.mpr c17
            clear c17
            replace H := Option.bind_eq_some_iff.mp H
            obtain ⟨⟨t157, t158⟩, A180, H⟩ := H
            replace H : (some (t157 == (Int.tmod a1_0 10000) && (t158 == (Int.tmod a1_1 10000)))) = some r := H
            have A18 := Aside0.mk A180
            clear A180
            obtain rfl := Option.some.inj H
            go_enter Try.func14, Try.ntmps14
            try go_wp2_with (first | ((with_reducible refine gate_dst (N := 4) rfl ?_); refine box_event ?hg (N := 4) ?hd (cs := #[.int .i64 a0_0, .int .i64 a0_1]) (t := 28) ?hr ?_; (case hd => rfl); (case hg => rfl); (case hr => first | (go_simp; done) | (go_simp; rfl)); intro gb143 hg w19 hbox hb; have n0_ := Aside0.mk (below_step (by repeat (first | (with_reducible first | exact HB.out | apply below_alloc | apply pw_below_drewN | apply below_drew1) | exact HB.out)) hb); have n1_ := Aside0.mk (hbox); have n2_ := Aside0.mk ((by rw [hg]; exact (below_size (by repeat (first | (with_reducible first | exact HB.out | apply below_alloc | apply pw_below_drewN | apply below_drew1) | exact HB.out))) : w.heap.size ≤ gb143)); have n3_ := Aside0.mk ((by rw [hg]; exact (below_size (by repeat (first | (with_reducible first | exact HB.out | apply below_alloc | apply pw_below_drewN | apply below_drew1) | exact HB.out))) : w.heap.size ≤ gb143)); clear HB; have HB := n0_; have BK143 := n1_; have GW143 := n2_; have GE143 := n3_; clear n0_ n1_ n2_ n3_; clear hb hbox hg) | ((with_reducible refine gate_dst (N := 5) rfl ?_); refine box_event ?hg (N := 5) ?hd (cs := #[.int .i64 a1_0, .int .i64 a1_1]) (t := 28) ?hr ?_; (case hd => rfl); (case hg => rfl); (case hr => first | (go_simp; done) | (go_simp; rfl)); intro gb144 hg w20 hbox hb; have n0_ := Aside0.mk (blk_below (g := gb143) (o := .cells #[.int .i64 a0_0, .int .i64 a0_1] 28 (0, 0)) (by (with_reducible repeat (first | refine blk_drewN ?_ _ | refine blk_drew ?_ | refine blk_alloc ?_ _)); exact BK143.out) hb); have n1_ := Aside0.mk (below_step (by repeat (first | (with_reducible first | exact HB.out | apply below_alloc | apply pw_below_drewN | apply below_drew1 | refine below_set ?_ GE143.out) | exact HB.out)) hb); have n2_ := Aside0.mk (hbox); have n3_ := Aside0.mk ((by rw [hg]; exact (below_size (by repeat (first | (with_reducible first | exact HB.out | apply below_alloc | apply pw_below_drewN | apply below_drew1 | refine below_set ?_ GE143.out) | exact HB.out))) : w.heap.size ≤ gb144)); have n4_ := Aside0.mk ((by rw [hg]; exact (below_size (by repeat (first | (with_reducible first | exact HB.out | apply below_alloc | apply pw_below_drewN | apply below_drew1 | refine below_set ?_ GE143.out) | exact HB.out))) : w.heap.size ≤ gb144)); have n5_ := Aside0.mk ((by rw [hg]; exact Nat.ne_of_lt (blk_lt (g := gb143) (o := .cells #[.int .i64 a0_0, .int .i64 a0_1] 28 (0, 0)) (by (with_reducible repeat (first | refine blk_drewN ?_ _ | refine blk_drew ?_ | refine blk_alloc ?_ _)); exact BK143.out)) : gb143 ≠ gb144)); have n6_ := Aside0.mk ((by rw [hg]; exact Nat.ne_of_gt (blk_lt (g := gb143) (o := .cells #[.int .i64 a0_0, .int .i64 a0_1] 28 (0, 0)) (by (with_reducible repeat (first | refine blk_drewN ?_ _ | refine blk_drew ?_ | refine blk_alloc ?_ _)); exact BK143.out)) : gb144 ≠ gb143)); clear BK143; clear HB; have BK143 := n0_; have HB := n1_; have BK144 := n2_; have GW144 := n3_; have GE144 := n4_; have NB143_144 := n5_; have NB144_143 := n6_; clear n0_ n1_ n2_ n3_ n4_ n5_ n6_; clear hb hbox hg) | ((with_reducible refine gate_callee (f := 35) rfl ?_); refine goesL_ (some 13) rfl rfl Try.func35 (by kernel_rfl) rfl #[] rfl (by (try simp only [List.map_toArray, List.map_cons, List.map_nil]); first | done | rfl | (simp only [List.length_drop, List.length_take]; rfl)) ?_; (with_reducible refine (glyphiclaw4_first.calls  true _ A5.out).mono ?_); rintro e w21 ⟨rfl, hb⟩; refine ⟨_, rfl, ?_⟩; have n0_ := Aside0.mk (blk_below (g := gb143) (o := .cells #[.int .i64 a0_0, .int .i64 a0_1] 28 (0, 0)) (by (with_reducible repeat (first | refine blk_drewN ?_ _ | refine blk_drew ?_ | refine blk_alloc ?_ _)); exact BK143.out) hb); have n1_ := Aside0.mk (blk_below (g := gb144) (o := .cells #[.int .i64 a1_0, .int .i64 a1_1] 28 (0, 0)) (by (with_reducible repeat (first | refine blk_drewN ?_ _ | refine blk_drew ?_ | refine blk_alloc ?_ _)); exact BK144.out) hb); have n2_ := Aside0.mk (below_step (by repeat (first | (with_reducible first | exact HB.out | apply below_alloc | apply pw_below_drewN | apply below_drew1 | refine below_set ?_ GE143.out | refine below_set ?_ GE144.out) | exact HB.out)) hb); clear BK143; clear BK144; clear HB; have BK143 := n0_; have BK144 := n1_; have HB := n2_; clear n0_ n1_ n2_; (try clear hb); (try clear hb2); (try clear hk); (try clear hi); have hnb22 := NB143_144.out; have hnc22 := NB144_143.out; have hcz23_0 : w21.cell? ⟨gb143, 0, none⟩ = some (.int .i64 a0_0) := (blk_cell BK143.out 0).trans rfl; have hcz23_1 : w21.cell? ⟨gb143, 1, none⟩ = some (.int .i64 a0_1) := (blk_cell BK143.out 1).trans rfl; have hfz23_0 := blk_frozen BK143.out 0; have hfz23_1 := blk_frozen BK143.out 1; have hcz24_0 : w21.cell? ⟨gb144, 0, none⟩ = some (.int .i64 a1_0) := (blk_cell BK144.out 0).trans rfl; have hcz24_1 : w21.cell? ⟨gb144, 1, none⟩ = some (.int .i64 a1_1) := (blk_cell BK144.out 1).trans rfl; have hfz24_0 := blk_frozen BK144.out 0; have hfz24_1 := blk_frozen BK144.out 1) | ((with_reducible refine gate_callee (f := 47) rfl ?_); refine goesL_ (some 36) rfl rfl Try.func47 (by kernel_rfl) rfl #[.agg #[.int .i64 (Int.tmod a0_0 1000000), .int .i64 (Int.tmod a0_1 1000000)], .agg #[.int .i64 (Int.tmod a1_0 10000), .int .i64 (Int.tmod a1_1 10000)]] rfl (by (try simp only [List.map_toArray, List.map_cons, List.map_nil]); first | done | rfl | (simp only [List.length_drop, List.length_take]; rfl)) ?_; (with_reducible refine (plane_Add.calls (Int.tmod a0_0 1000000) (Int.tmod a0_1 1000000) (Int.tmod a1_0 10000) (Int.tmod a1_1 10000) t146 t147 _ A7.out).mono ?_); rintro e w25 ⟨rfl, hb⟩; refine ⟨_, rfl, ?_⟩; have n0_ := Aside0.mk (blk_below (g := gb143) (o := .cells #[.int .i64 (Int.tmod a0_0 1000000), .int .i64 (Int.tmod a0_1 1000000)] 28 (0, 0)) (by (with_reducible repeat (first | refine blk_drewN ?_ _ | refine blk_drew ?_ | refine blk_alloc ?_ _)); refine blk_far ?_ NB143_144.out _; (with_reducible repeat (first | refine blk_drewN ?_ _ | refine blk_drew ?_ | refine blk_alloc ?_ _)); refine blk_far ?_ NB143_144.out _; (with_reducible repeat (first | refine blk_drewN ?_ _ | refine blk_drew ?_ | refine blk_alloc ?_ _)); refine blk_put (cs := #[.int .i64 (Int.tmod a0_0 1000000), .int .i64 a0_1]) ?_ 1 _ rfl; (with_reducible repeat (first | refine blk_drewN ?_ _ | refine blk_drew ?_ | refine blk_alloc ?_ _)); refine blk_put (cs := #[.int .i64 a0_0, .int .i64 a0_1]) ?_ 0 _ rfl; (with_reducible repeat (first | refine blk_drewN ?_ _ | refine blk_drew ?_ | refine blk_alloc ?_ _)); exact BK143.out) hb); have n1_ := Aside0.mk (blk_below (g := gb144) (o := .cells #[.int .i64 (Int.tmod a1_0 10000), .int .i64 (Int.tmod a1_1 10000)] 28 (0, 0)) (by (with_reducible repeat (first | refine blk_drewN ?_ _ | refine blk_drew ?_ | refine blk_alloc ?_ _)); refine blk_put (cs := #[.int .i64 (Int.tmod a1_0 10000), .int .i64 a1_1]) ?_ 1 _ rfl; (with_reducible repeat (first | refine blk_drewN ?_ _ | refine blk_drew ?_ | refine blk_alloc ?_ _)); refine blk_put (cs := #[.int .i64 a1_0, .int .i64 a1_1]) ?_ 0 _ rfl; (with_reducible repeat (first | refine blk_drewN ?_ _ | refine blk_drew ?_ | refine blk_alloc ?_ _)); refine blk_far ?_ NB144_143.out _; (with_reducible repeat (first | refine blk_drewN ?_ _ | refine blk_drew ?_ | refine blk_alloc ?_ _)); refine blk_far ?_ NB144_143.out _; (with_reducible repeat (first | refine blk_drewN ?_ _ | refine blk_drew ?_ | refine blk_alloc ?_ _)); exact BK144.out) hb); have n2_ := Aside0.mk (below_step (by repeat (first | (with_reducible first | exact HB.out | apply below_alloc | apply pw_below_drewN | apply below_drew1 | refine below_set ?_ GE143.out | refine below_set ?_ GE144.out) | exact HB.out)) hb); clear BK143; clear BK144; clear HB; have BK143 := n0_; have BK144 := n1_; have HB := n2_; clear n0_ n1_ n2_; (try clear hb); (try clear hb2); (try clear hk); (try clear hi)) | ((with_reducible refine gate_dst (N := 10) rfl ?_); refine box_event ?hg (N := 10) ?hd (cs := #[.int .i64 0, .int .i64 0]) (t := 28) ?hr ?_; (case hd => rfl); (case hg => rfl); (case hr => first | (go_simp; done) | (go_simp; rfl)); intro gb148 hg w26 hbox hb; have n0_ := Aside0.mk (blk_below (g := gb143) (o := .cells #[.int .i64 (Int.tmod a0_0 1000000), .int .i64 (Int.tmod a0_1 1000000)] 28 (0, 0)) (by (with_reducible repeat (first | refine blk_drewN ?_ _ | refine blk_drew ?_ | refine blk_alloc ?_ _)); exact BK143.out) hb); have n1_ := Aside0.mk (blk_below (g := gb144) (o := .cells #[.int .i64 (Int.tmod a1_0 10000), .int .i64 (Int.tmod a1_1 10000)] 28 (0, 0)) (by (with_reducible repeat (first | refine blk_drewN ?_ _ | refine blk_drew ?_ | refine blk_alloc ?_ _)); exact BK144.out) hb); have n2_ := Aside0.mk (below_step (by repeat (first | (with_reducible first | exact HB.out | apply below_alloc | apply pw_below_drewN | apply below_drew1 | refine below_set ?_ GE143.out | refine below_set ?_ GE144.out) | exact HB.out)) hb); have n3_ := Aside0.mk (hbox); have n4_ := Aside0.mk ((by rw [hg]; exact (below_size (by repeat (first | (with_reducible first | exact HB.out | apply below_alloc | apply pw_below_drewN | apply below_drew1 | refine below_set ?_ GE143.out | refine below_set ?_ GE144.out) | exact HB.out))) : w.heap.size ≤ gb148)); have n5_ := Aside0.mk ((by rw [hg]; exact (below_size (by repeat (first | (with_reducible first | exact HB.out | apply below_alloc | apply pw_below_drewN | apply below_drew1 | refine below_set ?_ GE143.out | refine below_set ?_ GE144.out) | exact HB.out))) : w.heap.size ≤ gb148)); have n6_ := Aside0.mk ((by rw [hg]; exact Nat.ne_of_lt (blk_lt (g := gb143) (o := .cells #[.int .i64 (Int.tmod a0_0 1000000), .int .i64 (Int.tmod a0_1 1000000)] 28 (0, 0)) (by (with_reducible repeat (first | refine blk_drewN ?_ _ | refine blk_drew ?_ | refine blk_alloc ?_ _)); exact BK143.out)) : gb143 ≠ gb148)); have n7_ := Aside0.mk ((by rw [hg]; exact Nat.ne_of_gt (blk_lt (g := gb143) (o := .cells #[.int .i64 (Int.tmod a0_0 1000000), .int .i64 (Int.tmod a0_1 1000000)] 28 (0, 0)) (by (with_reducible repeat (first | refine blk_drewN ?_ _ | refine blk_drew ?_ | refine blk_alloc ?_ _)); exact BK143.out)) : gb148 ≠ gb143)); have n8_ := Aside0.mk ((by rw [hg]; exact Nat.ne_of_lt (blk_lt (g := gb144) (o := .cells #[.int .i64 (Int.tmod a1_0 10000), .int .i64 (Int.tmod a1_1 10000)] 28 (0, 0)) (by (with_reducible repeat (first | refine blk_drewN ?_ _ | refine blk_drew ?_ | refine blk_alloc ?_ _)); exact BK144.out)) : gb144 ≠ gb148)); have n9_ := Aside0.mk ((by rw [hg]; exact Nat.ne_of_gt (blk_lt (g := gb144) (o := .cells #[.int .i64 (Int.tmod a1_0 10000), .int .i64 (Int.tmod a1_1 10000)] 28 (0, 0)) (by (with_reducible repeat (first | refine blk_drewN ?_ _ | refine blk_drew ?_ | refine blk_alloc ?_ _)); exact BK144.out)) : gb148 ≠ gb144)); clear BK143; clear BK144; clear HB; have BK143 := n0_; have BK144 := n1_; have HB := n2_; have BK148 := n3_; have GW148 := n4_; have GE148 := n5_; have NB143_148 := n6_; have NB148_143 := n7_; have NB144_148 := n8_; have NB148_144 := n9_; clear n0_ n1_ n2_ n3_ n4_ n5_ n6_ n7_ n8_ n9_; clear hb hbox hg; have hnb27 := NB148_143.out; have hnc27 := NB143_148.out; have hnb28 := NB148_144.out; have hnc28 := NB144_148.out; have hcz29_0 : w26.cell? ⟨gb148, 0, none⟩ = some (.int .i64 0) := (blk_cell BK148.out 0).trans rfl; have hcz29_1 : w26.cell? ⟨gb148, 1, none⟩ = some (.int .i64 0) := (blk_cell BK148.out 1).trans rfl; have hfz29_0 := blk_frozen BK148.out 0; have hfz29_1 := blk_frozen BK148.out 1; have hcz30_0 : w26.cell? ⟨gb143, 0, none⟩ = some (.int .i64 (Int.tmod a0_0 1000000)) := (blk_cell BK143.out 0).trans rfl; have hcz30_1 : w26.cell? ⟨gb143, 1, none⟩ = some (.int .i64 (Int.tmod a0_1 1000000)) := (blk_cell BK143.out 1).trans rfl; have hfz30_0 := blk_frozen BK143.out 0; have hfz30_1 := blk_frozen BK143.out 1; have hcz31_0 : w26.cell? ⟨gb144, 0, none⟩ = some (.int .i64 (Int.tmod a1_0 10000)) := (blk_cell BK144.out 0).trans rfl; have hcz31_1 : w26.cell? ⟨gb144, 1, none⟩ = some (.int .i64 (Int.tmod a1_1 10000)) := (blk_cell BK144.out 1).trans rfl; have hfz31_0 := blk_frozen BK144.out 0; have hfz31_1 := blk_frozen BK144.out 1) | ((with_reducible refine gate_dst (N := 11) rfl ?_); refine box_event ?hg (N := 11) ?hd (cs := #[.int .i64 0, .int .i64 0]) (t := 28) ?hr ?_; (case hd => rfl); (case hg => rfl); (case hr => first | (go_simp; done) | (go_simp; rfl)); intro gb149 hg w32 hbox hb; have n0_ := Aside0.mk (blk_below (g := gb143) (o := .cells #[.int .i64 (Int.tmod a0_0 1000000), .int .i64 (Int.tmod a0_1 1000000)] 28 (0, 0)) (by (with_reducible repeat (first | refine blk_drewN ?_ _ | refine blk_drew ?_ | refine blk_alloc ?_ _)); refine blk_far ?_ NB143_148.out _; (with_reducible repeat (first | refine blk_drewN ?_ _ | refine blk_drew ?_ | refine blk_alloc ?_ _)); refine blk_far ?_ NB143_148.out _; (with_reducible repeat (first | refine blk_drewN ?_ _ | refine blk_drew ?_ | refine blk_alloc ?_ _)); exact BK143.out) hb); have n1_ := Aside0.mk (blk_below (g := gb144) (o := .cells #[.int .i64 (Int.tmod a1_0 10000), .int .i64 (Int.tmod a1_1 10000)] 28 (0, 0)) (by (with_reducible repeat (first | refine blk_drewN ?_ _ | refine blk_drew ?_ | refine blk_alloc ?_ _)); refine blk_far ?_ NB144_148.out _; (with_reducible repeat (first | refine blk_drewN ?_ _ | refine blk_drew ?_ | refine blk_alloc ?_ _)); refine blk_far ?_ NB144_148.out _; (with_reducible repeat (first | refine blk_drewN ?_ _ | refine blk_drew ?_ | refine blk_alloc ?_ _)); exact BK144.out) hb); have n2_ := Aside0.mk (blk_below (g := gb148) (o := .cells #[.int .i64 t146, .int .i64 t147] 28 (0, 0)) (by (with_reducible repeat (first | refine blk_drewN ?_ _ | refine blk_drew ?_ | refine blk_alloc ?_ _)); refine blk_put (cs := #[.int .i64 t146, .int .i64 0]) ?_ 1 _ rfl; (with_reducible repeat (first | refine blk_drewN ?_ _ | refine blk_drew ?_ | refine blk_alloc ?_ _)); refine blk_put (cs := #[.int .i64 0, .int .i64 0]) ?_ 0 _ rfl; (with_reducible repeat (first | refine blk_drewN ?_ _ | refine blk_drew ?_ | refine blk_alloc ?_ _)); exact BK148.out) hb); have n3_ := Aside0.mk (below_step (by repeat (first | (with_reducible first | exact HB.out | apply below_alloc | apply pw_below_drewN | apply below_drew1 | refine below_set ?_ GE143.out | refine below_set ?_ GE144.out | refine below_set ?_ GE148.out) | exact HB.out)) hb); have n4_ := Aside0.mk (hbox); have n5_ := Aside0.mk ((by rw [hg]; exact (below_size (by repeat (first | (with_reducible first | exact HB.out | apply below_alloc | apply pw_below_drewN | apply below_drew1 | refine below_set ?_ GE143.out | refine below_set ?_ GE144.out | refine below_set ?_ GE148.out) | exact HB.out))) : w.heap.size ≤ gb149)); have n6_ := Aside0.mk ((by rw [hg]; exact (below_size (by repeat (first | (with_reducible first | exact HB.out | apply below_alloc | apply pw_below_drewN | apply below_drew1 | refine below_set ?_ GE143.out | refine below_set ?_ GE144.out | refine below_set ?_ GE148.out) | exact HB.out))) : w.heap.size ≤ gb149)); have n7_ := Aside0.mk ((by rw [hg]; exact Nat.ne_of_lt (blk_lt (g := gb143) (o := .cells #[.int .i64 (Int.tmod a0_0 1000000), .int .i64 (Int.tmod a0_1 1000000)] 28 (0, 0)) (by (with_reducible repeat (first | refine blk_drewN ?_ _ | refine blk_drew ?_ | refine blk_alloc ?_ _)); refine blk_far ?_ NB143_148.out _; (with_reducible repeat (first | refine blk_drewN ?_ _ | refine blk_drew ?_ | refine blk_alloc ?_ _)); refine blk_far ?_ NB143_148.out _; (with_reducible repeat (first | refine blk_drewN ?_ _ | refine blk_drew ?_ | refine blk_alloc ?_ _)); exact BK143.out)) : gb143 ≠ gb149)); have n8_ := Aside0.mk ((by rw [hg]; exact Nat.ne_of_gt (blk_lt (g := gb143) (o := .cells #[.int .i64 (Int.tmod a0_0 1000000), .int .i64 (Int.tmod a0_1 1000000)] 28 (0, 0)) (by (with_reducible repeat (first | refine blk_drewN ?_ _ | refine blk_drew ?_ | refine blk_alloc ?_ _)); refine blk_far ?_ NB143_148.out _; (with_reducible repeat (first | refine blk_drewN ?_ _ | refine blk_drew ?_ | refine blk_alloc ?_ _)); refine blk_far ?_ NB143_148.out _; (with_reducible repeat (first | refine blk_drewN ?_ _ | refine blk_drew ?_ | refine blk_alloc ?_ _)); exact BK143.out)) : gb149 ≠ gb143)); have n9_ := Aside0.mk ((by rw [hg]; exact Nat.ne_of_lt (blk_lt (g := gb144) (o := .cells #[.int .i64 (Int.tmod a1_0 10000), .int .i64 (Int.tmod a1_1 10000)] 28 (0, 0)) (by (with_reducible repeat (first | refine blk_drewN ?_ _ | refine blk_drew ?_ | refine blk_alloc ?_ _)); refine blk_far ?_ NB144_148.out _; (with_reducible repeat (first | refine blk_drewN ?_ _ | refine blk_drew ?_ | refine blk_alloc ?_ _)); refine blk_far ?_ NB144_148.out _; (with_reducible repeat (first | refine blk_drewN ?_ _ | refine blk_drew ?_ | refine blk_alloc ?_ _)); exact BK144.out)) : gb144 ≠ gb149)); have n10_ := Aside0.mk ((by rw [hg]; exact Nat.ne_of_gt (blk_lt (g := gb144) (o := .cells #[.int .i64 (Int.tmod a1_0 10000), .int .i64 (Int.tmod a1_1 10000)] 28 (0, 0)) (by (with_reducible repeat (first | refine blk_drewN ?_ _ | refine blk_drew ?_ | refine blk_alloc ?_ _)); refine blk_far ?_ NB144_148.out _; (with_reducible repeat (first | refine blk_drewN ?_ _ | refine blk_drew ?_ | refine blk_alloc ?_ _)); refine blk_far ?_ NB144_148.out _; (with_reducible repeat (first | refine blk_drewN ?_ _ | refine blk_drew ?_ | refine blk_alloc ?_ _)); exact BK144.out)) : gb149 ≠ gb144)); have n11_ := Aside0.mk ((by rw [hg]; exact Nat.ne_of_lt (blk_lt (g := gb148) (o := .cells #[.int .i64 t146, .int .i64 t147] 28 (0, 0)) (by (with_reducible repeat (first | refine blk_drewN ?_ _ | refine blk_drew ?_ | refine blk_alloc ?_ _)); refine blk_put (cs := #[.int .i64 t146, .int .i64 0]) ?_ 1 _ rfl; (with_reducible repeat (first | refine blk_drewN ?_ _ | refine blk_drew ?_ | refine blk_alloc ?_ _)); refine blk_put (cs := #[.int .i64 0, .int .i64 0]) ?_ 0 _ rfl; (with_reducible repeat (first | refine blk_drewN ?_ _ | refine blk_drew ?_ | refine blk_alloc ?_ _)); exact BK148.out)) : gb148 ≠ gb149)); have n12_ := Aside0.mk ((by rw [hg]; exact Nat.ne_of_gt (blk_lt (g := gb148) (o := .cells #[.int .i64 t146, .int .i64 t147] 28 (0, 0)) (by (with_reducible repeat (first | refine blk_drewN ?_ _ | refine blk_drew ?_ | refine blk_alloc ?_ _)); refine blk_put (cs := #[.int .i64 t146, .int .i64 0]) ?_ 1 _ rfl; (with_reducible repeat (first | refine blk_drewN ?_ _ | refine blk_drew ?_ | refine blk_alloc ?_ _)); refine blk_put (cs := #[.int .i64 0, .int .i64 0]) ?_ 0 _ rfl; (with_reducible repeat (first | refine blk_drewN ?_ _ | refine blk_drew ?_ | refine blk_alloc ?_ _)); exact BK148.out)) : gb149 ≠ gb148)); clear BK143; clear BK144; clear BK148; clear HB; have BK143 := n0_; have BK144 := n1_; have BK148 := n2_; have HB := n3_; have BK149 := n4_; have GW149 := n5_; have GE149 := n6_; have NB143_149 := n7_; have NB149_143 := n8_; have NB144_149 := n9_; have NB149_144 := n10_; have NB148_149 := n11_; have NB149_148 := n12_; clear n0_ n1_ n2_ n3_ n4_ n5_ n6_ n7_ n8_ n9_ n10_ n11_ n12_; clear hb hbox hg; have hnb33 := NB149_143.out; have hnc33 := NB143_149.out; have hnb34 := NB149_144.out; have hnc34 := NB144_149.out; have hnb35 := NB149_148.out; have hnc35 := NB148_149.out; have hcz36_0 : w32.cell? ⟨gb149, 0, none⟩ = some (.int .i64 0) := (blk_cell BK149.out 0).trans rfl; have hcz36_1 : w32.cell? ⟨gb149, 1, none⟩ = some (.int .i64 0) := (blk_cell BK149.out 1).trans rfl; have hfz36_0 := blk_frozen BK149.out 0; have hfz36_1 := blk_frozen BK149.out 1; have hcz37_0 : w32.cell? ⟨gb144, 0, none⟩ = some (.int .i64 (Int.tmod a1_0 10000)) := (blk_cell BK144.out 0).trans rfl; have hcz37_1 : w32.cell? ⟨gb144, 1, none⟩ = some (.int .i64 (Int.tmod a1_1 10000)) := (blk_cell BK144.out 1).trans rfl; have hfz37_0 := blk_frozen BK144.out 0; have hfz37_1 := blk_frozen BK144.out 1) | ((with_reducible refine gate_dst (N := 12) rfl ?_); refine box_event ?hg (N := 12) ?hd (cs := #[.int .i64 0, .int .i64 0]) (t := 28) ?hr ?_; (case hd => rfl); (case hg => rfl); (case hr => first | (go_simp; done) | (go_simp; rfl)); intro gb150 hg w38 hbox hb; have n0_ := Aside0.mk (blk_below (g := gb143) (o := .cells #[.int .i64 (Int.tmod a0_0 1000000), .int .i64 (Int.tmod a0_1 1000000)] 28 (0, 0)) (by (with_reducible repeat (first | refine blk_drewN ?_ _ | refine blk_drew ?_ | refine blk_alloc ?_ _)); refine blk_far ?_ NB143_149.out _; (with_reducible repeat (first | refine blk_drewN ?_ _ | refine blk_drew ?_ | refine blk_alloc ?_ _)); refine blk_far ?_ NB143_149.out _; (with_reducible repeat (first | refine blk_drewN ?_ _ | refine blk_drew ?_ | refine blk_alloc ?_ _)); exact BK143.out) hb); have n1_ := Aside0.mk (blk_below (g := gb144) (o := .cells #[.int .i64 (Int.tmod a1_0 10000), .int .i64 (Int.tmod a1_1 10000)] 28 (0, 0)) (by (with_reducible repeat (first | refine blk_drewN ?_ _ | refine blk_drew ?_ | refine blk_alloc ?_ _)); refine blk_far ?_ NB144_149.out _; (with_reducible repeat (first | refine blk_drewN ?_ _ | refine blk_drew ?_ | refine blk_alloc ?_ _)); refine blk_far ?_ NB144_149.out _; (with_reducible repeat (first | refine blk_drewN ?_ _ | refine blk_drew ?_ | refine blk_alloc ?_ _)); exact BK144.out) hb); have n2_ := Aside0.mk (blk_below (g := gb148) (o := .cells #[.int .i64 t146, .int .i64 t147] 28 (0, 0)) (by (with_reducible repeat (first | refine blk_drewN ?_ _ | refine blk_drew ?_ | refine blk_alloc ?_ _)); refine blk_far ?_ NB148_149.out _; (with_reducible repeat (first | refine blk_drewN ?_ _ | refine blk_drew ?_ | refine blk_alloc ?_ _)); refine blk_far ?_ NB148_149.out _; (with_reducible repeat (first | refine blk_drewN ?_ _ | refine blk_drew ?_ | refine blk_alloc ?_ _)); exact BK148.out) hb); have n3_ := Aside0.mk (blk_below (g := gb149) (o := .cells #[.int .i64 (wrap64 ((Int.tmod a0_0 1000000) + (wrap64 ((Int.tmod a2 100) * (Int.tmod a1_0 10000))))), .int .i64 (wrap64 ((Int.tmod a0_1 1000000) + (wrap64 ((Int.tmod a2 100) * (Int.tmod a1_1 10000)))))] 28 (0, 0)) (by (with_reducible repeat (first | refine blk_drewN ?_ _ | refine blk_drew ?_ | refine blk_alloc ?_ _)); refine blk_put (cs := #[.int .i64 (wrap64 ((Int.tmod a0_0 1000000) + (wrap64 ((Int.tmod a2 100) * (Int.tmod a1_0 10000))))), .int .i64 0]) ?_ 1 _ rfl; (with_reducible repeat (first | refine blk_drewN ?_ _ | refine blk_drew ?_ | refine blk_alloc ?_ _)); refine blk_put (cs := #[.int .i64 0, .int .i64 0]) ?_ 0 _ rfl; (with_reducible repeat (first | refine blk_drewN ?_ _ | refine blk_drew ?_ | refine blk_alloc ?_ _)); exact BK149.out) hb); have n4_ := Aside0.mk (below_step (by repeat (first | (with_reducible first | exact HB.out | apply below_alloc | apply pw_below_drewN | apply below_drew1 | refine below_set ?_ GE143.out | refine below_set ?_ GE144.out | refine below_set ?_ GE148.out | refine below_set ?_ GE149.out) | exact HB.out)) hb); have n5_ := Aside0.mk (hbox); have n6_ := Aside0.mk ((by rw [hg]; exact (below_size (by repeat (first | (with_reducible first | exact HB.out | apply below_alloc | apply pw_below_drewN | apply below_drew1 | refine below_set ?_ GE143.out | refine below_set ?_ GE144.out | refine below_set ?_ GE148.out | refine below_set ?_ GE149.out) | exact HB.out))) : w.heap.size ≤ gb150)); have n7_ := Aside0.mk ((by rw [hg]; exact (below_size (by repeat (first | (with_reducible first | exact HB.out | apply below_alloc | apply pw_below_drewN | apply below_drew1 | refine below_set ?_ GE143.out | refine below_set ?_ GE144.out | refine below_set ?_ GE148.out | refine below_set ?_ GE149.out) | exact HB.out))) : w.heap.size ≤ gb150)); have n8_ := Aside0.mk ((by rw [hg]; exact Nat.ne_of_lt (blk_lt (g := gb143) (o := .cells #[.int .i64 (Int.tmod a0_0 1000000), .int .i64 (Int.tmod a0_1 1000000)] 28 (0, 0)) (by (with_reducible repeat (first | refine blk_drewN ?_ _ | refine blk_drew ?_ | refine blk_alloc ?_ _)); refine blk_far ?_ NB143_149.out _; (with_reducible repeat (first | refine blk_drewN ?_ _ | refine blk_drew ?_ | refine blk_alloc ?_ _)); refine blk_far ?_ NB143_149.out _; (with_reducible repeat (first | refine blk_drewN ?_ _ | refine blk_drew ?_ | refine blk_alloc ?_ _)); exact BK143.out)) : gb143 ≠ gb150)); have n9_ := Aside0.mk ((by rw [hg]; exact Nat.ne_of_gt (blk_lt (g := gb143) (o := .cells #[.int .i64 (Int.tmod a0_0 1000000), .int .i64 (Int.tmod a0_1 1000000)] 28 (0, 0)) (by (with_reducible repeat (first | refine blk_drewN ?_ _ | refine blk_drew ?_ | refine blk_alloc ?_ _)); refine blk_far ?_ NB143_149.out _; (with_reducible repeat (first | refine blk_drewN ?_ _ | refine blk_drew ?_ | refine blk_alloc ?_ _)); refine blk_far ?_ NB143_149.out _; (with_reducible repeat (first | refine blk_drewN ?_ _ | refine blk_drew ?_ | refine blk_alloc ?_ _)); exact BK143.out)) : gb150 ≠ gb143)); have n10_ := Aside0.mk ((by rw [hg]; exact Nat.ne_of_lt (blk_lt (g := gb144) (o := .cells #[.int .i64 (Int.tmod a1_0 10000), .int .i64 (Int.tmod a1_1 10000)] 28 (0, 0)) (by (with_reducible repeat (first | refine blk_drewN ?_ _ | refine blk_drew ?_ | refine blk_alloc ?_ _)); refine blk_far ?_ NB144_149.out _; (with_reducible repeat (first | refine blk_drewN ?_ _ | refine blk_drew ?_ | refine blk_alloc ?_ _)); refine blk_far ?_ NB144_149.out _; (with_reducible repeat (first | refine blk_drewN ?_ _ | refine blk_drew ?_ | refine blk_alloc ?_ _)); exact BK144.out)) : gb144 ≠ gb150)); have n11_ := Aside0.mk ((by rw [hg]; exact Nat.ne_of_gt (blk_lt (g := gb144) (o := .cells #[.int .i64 (Int.tmod a1_0 10000), .int .i64 (Int.tmod a1_1 10000)] 28 (0, 0)) (by (with_reducible repeat (first | refine blk_drewN ?_ _ | refine blk_drew ?_ | refine blk_alloc ?_ _)); refine blk_far ?_ NB144_149.out _; (with_reducible repeat (first | refine blk_drewN ?_ _ | refine blk_drew ?_ | refine blk_alloc ?_ _)); refine blk_far ?_ NB144_149.out _; (with_reducible repeat (first | refine blk_drewN ?_ _ | refine blk_drew ?_ | refine blk_alloc ?_ _)); exact BK144.out)) : gb150 ≠ gb144)); have n12_ := Aside0.mk ((by rw [hg]; exact Nat.ne_of_lt (blk_lt (g := gb148) (o := .cells #[.int .i64 t146, .int .i64 t147] 28 (0, 0)) (by (with_reducible repeat (first | refine blk_drewN ?_ _ | refine blk_drew ?_ | refine blk_alloc ?_ _)); refine blk_far ?_ NB148_149.out _; (with_reducible repeat (first | refine blk_drewN ?_ _ | refine blk_drew ?_ | refine blk_alloc ?_ _)); refine blk_far ?_ NB148_149.out _; (with_reducible repeat (first | refine blk_drewN ?_ _ | refine blk_drew ?_ | refine blk_alloc ?_ _)); exact BK148.out)) : gb148 ≠ gb150)); have n13_ := Aside0.mk ((by rw [hg]; exact Nat.ne_of_gt (blk_lt (g := gb148) (o := .cells #[.int .i64 t146, .int .i64 t147] 28 (0, 0)) (by (with_reducible repeat (first | refine blk_drewN ?_ _ | refine blk_drew ?_ | refine blk_alloc ?_ _)); refine blk_far ?_ NB148_149.out _; (with_reducible repeat (first | refine blk_drewN ?_ _ | refine blk_drew ?_ | refine blk_alloc ?_ _)); refine blk_far ?_ NB148_149.out _; (with_reducible repeat (first | refine blk_drewN ?_ _ | refine blk_drew ?_ | refine blk_alloc ?_ _)); exact BK148.out)) : gb150 ≠ gb148)); have n14_ := Aside0.mk ((by rw [hg]; exact Nat.ne_of_lt (blk_lt (g := gb149) (o := .cells #[.int .i64 (wrap64 ((Int.tmod a0_0 1000000) + (wrap64 ((Int.tmod a2 100) * (Int.tmod a1_0 10000))))), .int .i64 (wrap64 ((Int.tmod a0_1 1000000) + (wrap64 ((Int.tmod a2 100) * (Int.tmod a1_1 10000)))))] 28 (0, 0)) (by (with_reducible repeat (first | refine blk_drewN ?_ _ | refine blk_drew ?_ | refine blk_alloc ?_ _)); refine blk_put (cs := #[.int .i64 (wrap64 ((Int.tmod a0_0 1000000) + (wrap64 ((Int.tmod a2 100) * (Int.tmod a1_0 10000))))), .int .i64 0]) ?_ 1 _ rfl; (with_reducible repeat (first | refine blk_drewN ?_ _ | refine blk_drew ?_ | refine blk_alloc ?_ _)); refine blk_put (cs := #[.int .i64 0, .int .i64 0]) ?_ 0 _ rfl; (with_reducible repeat (first | refine blk_drewN ?_ _ | refine blk_drew ?_ | refine blk_alloc ?_ _)); exact BK149.out)) : gb149 ≠ gb150)); have n15_ := Aside0.mk ((by rw [hg]; exact Nat.ne_of_gt (blk_lt (g := gb149) (o := .cells #[.int .i64 (wrap64 ((Int.tmod a0_0 1000000) + (wrap64 ((Int.tmod a2 100) * (Int.tmod a1_0 10000))))), .int .i64 (wrap64 ((Int.tmod a0_1 1000000) + (wrap64 ((Int.tmod a2 100) * (Int.tmod a1_1 10000)))))] 28 (0, 0)) (by (with_reducible repeat (first | refine blk_drewN ?_ _ | refine blk_drew ?_ | refine blk_alloc ?_ _)); refine blk_put (cs := #[.int .i64 (wrap64 ((Int.tmod a0_0 1000000) + (wrap64 ((Int.tmod a2 100) * (Int.tmod a1_0 10000))))), .int .i64 0]) ?_ 1 _ rfl; (with_reducible repeat (first | refine blk_drewN ?_ _ | refine blk_drew ?_ | refine blk_alloc ?_ _)); refine blk_put (cs := #[.int .i64 0, .int .i64 0]) ?_ 0 _ rfl; (with_reducible repeat (first | refine blk_drewN ?_ _ | refine blk_drew ?_ | refine blk_alloc ?_ _)); exact BK149.out)) : gb150 ≠ gb149)); clear BK143; clear BK144; clear BK148; clear BK149; clear HB; have BK143 := n0_; have BK144 := n1_; have BK148 := n2_; have BK149 := n3_; have HB := n4_; have BK150 := n5_; have GW150 := n6_; have GE150 := n7_; have NB143_150 := n8_; have NB150_143 := n9_; have NB144_150 := n10_; have NB150_144 := n11_; have NB148_150 := n12_; have NB150_148 := n13_; have NB149_150 := n14_; have NB150_149 := n15_; clear n0_ n1_ n2_ n3_ n4_ n5_ n6_ n7_ n8_ n9_ n10_ n11_ n12_ n13_ n14_ n15_; clear hb hbox hg; have hnb39 := NB150_143.out; have hnc39 := NB143_150.out; have hnb40 := NB150_144.out; have hnc40 := NB144_150.out; have hnb41 := NB150_148.out; have hnc41 := NB148_150.out; have hnb42 := NB150_149.out; have hnc42 := NB149_150.out; have hcz43_0 : w38.cell? ⟨gb150, 0, none⟩ = some (.int .i64 0) := (blk_cell BK150.out 0).trans rfl; have hcz43_1 : w38.cell? ⟨gb150, 1, none⟩ = some (.int .i64 0) := (blk_cell BK150.out 1).trans rfl; have hfz43_0 := blk_frozen BK150.out 0; have hfz43_1 := blk_frozen BK150.out 1))
            have n0_ : Aside0 (((w38.setCell ⟨gb150, 0, none⟩ (.int .i64 (wrap64 ((wrap64 ((Int.tmod a0_0 1000000) + (wrap64 ((Int.tmod a2 100) * (Int.tmod a1_0 10000))))) - (wrap64 ((Int.tmod a3 1000) * (Int.tmod a1_1 10000))))))).setCell ⟨gb150, 1, none⟩ (.int .i64 (wrap64 ((wrap64 ((Int.tmod a0_1 1000000) + (wrap64 ((Int.tmod a2 100) * (Int.tmod a1_1 10000))))) + (wrap64 ((Int.tmod a3 1000) * (Int.tmod a1_0 10000))))))).heap[gb143]? = some (.cells #[.int .i64 (Int.tmod a0_0 1000000), .int .i64 (Int.tmod a0_1 1000000)] 28 (0, 0))) := ⟨by (with_reducible repeat (first | refine blk_drewN ?_ _ | refine blk_drew ?_ | refine blk_alloc ?_ _)); refine blk_far ?_ NB143_150.out _; (with_reducible repeat (first | refine blk_drewN ?_ _ | refine blk_drew ?_ | refine blk_alloc ?_ _)); refine blk_far ?_ NB143_150.out _; (with_reducible repeat (first | refine blk_drewN ?_ _ | refine blk_drew ?_ | refine blk_alloc ?_ _)); exact BK143.out⟩
            have n1_ : Aside0 (((w38.setCell ⟨gb150, 0, none⟩ (.int .i64 (wrap64 ((wrap64 ((Int.tmod a0_0 1000000) + (wrap64 ((Int.tmod a2 100) * (Int.tmod a1_0 10000))))) - (wrap64 ((Int.tmod a3 1000) * (Int.tmod a1_1 10000))))))).setCell ⟨gb150, 1, none⟩ (.int .i64 (wrap64 ((wrap64 ((Int.tmod a0_1 1000000) + (wrap64 ((Int.tmod a2 100) * (Int.tmod a1_1 10000))))) + (wrap64 ((Int.tmod a3 1000) * (Int.tmod a1_0 10000))))))).heap[gb144]? = some (.cells #[.int .i64 (Int.tmod a1_0 10000), .int .i64 (Int.tmod a1_1 10000)] 28 (0, 0))) := ⟨by (with_reducible repeat (first | refine blk_drewN ?_ _ | refine blk_drew ?_ | refine blk_alloc ?_ _)); refine blk_far ?_ NB144_150.out _; (with_reducible repeat (first | refine blk_drewN ?_ _ | refine blk_drew ?_ | refine blk_alloc ?_ _)); refine blk_far ?_ NB144_150.out _; (with_reducible repeat (first | refine blk_drewN ?_ _ | refine blk_drew ?_ | refine blk_alloc ?_ _)); exact BK144.out⟩
            have n2_ : Aside0 (((w38.setCell ⟨gb150, 0, none⟩ (.int .i64 (wrap64 ((wrap64 ((Int.tmod a0_0 1000000) + (wrap64 ((Int.tmod a2 100) * (Int.tmod a1_0 10000))))) - (wrap64 ((Int.tmod a3 1000) * (Int.tmod a1_1 10000))))))).setCell ⟨gb150, 1, none⟩ (.int .i64 (wrap64 ((wrap64 ((Int.tmod a0_1 1000000) + (wrap64 ((Int.tmod a2 100) * (Int.tmod a1_1 10000))))) + (wrap64 ((Int.tmod a3 1000) * (Int.tmod a1_0 10000))))))).heap[gb148]? = some (.cells #[.int .i64 t146, .int .i64 t147] 28 (0, 0))) := ⟨by (with_reducible repeat (first | refine blk_drewN ?_ _ | refine blk_drew ?_ | refine blk_alloc ?_ _)); refine blk_far ?_ NB148_150.out _; (with_reducible repeat (first | refine blk_drewN ?_ _ | refine blk_drew ?_ | refine blk_alloc ?_ _)); refine blk_far ?_ NB148_150.out _; (with_reducible repeat (first | refine blk_drewN ?_ _ | refine blk_drew ?_ | refine blk_alloc ?_ _)); exact BK148.out⟩
            have n3_ : Aside0 (((w38.setCell ⟨gb150, 0, none⟩ (.int .i64 (wrap64 ((wrap64 ((Int.tmod a0_0 1000000) + (wrap64 ((Int.tmod a2 100) * (Int.tmod a1_0 10000))))) - (wrap64 ((Int.tmod a3 1000) * (Int.tmod a1_1 10000))))))).setCell ⟨gb150, 1, none⟩ (.int .i64 (wrap64 ((wrap64 ((Int.tmod a0_1 1000000) + (wrap64 ((Int.tmod a2 100) * (Int.tmod a1_1 10000))))) + (wrap64 ((Int.tmod a3 1000) * (Int.tmod a1_0 10000))))))).heap[gb149]? = some (.cells #[.int .i64 (wrap64 ((Int.tmod a0_0 1000000) + (wrap64 ((Int.tmod a2 100) * (Int.tmod a1_0 10000))))), .int .i64 (wrap64 ((Int.tmod a0_1 1000000) + (wrap64 ((Int.tmod a2 100) * (Int.tmod a1_1 10000)))))] 28 (0, 0))) := ⟨by (with_reducible repeat (first | refine blk_drewN ?_ _ | refine blk_drew ?_ | refine blk_alloc ?_ _)); refine blk_far ?_ NB149_150.out _; (with_reducible repeat (first | refine blk_drewN ?_ _ | refine blk_drew ?_ | refine blk_alloc ?_ _)); refine blk_far ?_ NB149_150.out _; (with_reducible repeat (first | refine blk_drewN ?_ _ | refine blk_drew ?_ | refine blk_alloc ?_ _)); exact BK149.out⟩
            have n4_ : Aside0 (((w38.setCell ⟨gb150, 0, none⟩ (.int .i64 (wrap64 ((wrap64 ((Int.tmod a0_0 1000000) + (wrap64 ((Int.tmod a2 100) * (Int.tmod a1_0 10000))))) - (wrap64 ((Int.tmod a3 1000) * (Int.tmod a1_1 10000))))))).setCell ⟨gb150, 1, none⟩ (.int .i64 (wrap64 ((wrap64 ((Int.tmod a0_1 1000000) + (wrap64 ((Int.tmod a2 100) * (Int.tmod a1_1 10000))))) + (wrap64 ((Int.tmod a3 1000) * (Int.tmod a1_0 10000))))))).heap[gb150]? = some (.cells #[.int .i64 (wrap64 ((wrap64 ((Int.tmod a0_0 1000000) + (wrap64 ((Int.tmod a2 100) * (Int.tmod a1_0 10000))))) - (wrap64 ((Int.tmod a3 1000) * (Int.tmod a1_1 10000))))), .int .i64 (wrap64 ((wrap64 ((Int.tmod a0_1 1000000) + (wrap64 ((Int.tmod a2 100) * (Int.tmod a1_1 10000))))) + (wrap64 ((Int.tmod a3 1000) * (Int.tmod a1_0 10000)))))] 28 (0, 0))) := ⟨by (with_reducible repeat (first | refine blk_drewN ?_ _ | refine blk_drew ?_ | refine blk_alloc ?_ _)); refine blk_put (cs := #[.int .i64 (wrap64 ((wrap64 ((Int.tmod a0_0 1000000) + (wrap64 ((Int.tmod a2 100) * (Int.tmod a1_0 10000))))) - (wrap64 ((Int.tmod a3 1000) * (Int.tmod a1_1 10000))))), .int .i64 0]) ?_ 1 _ rfl; (with_reducible repeat (first | refine blk_drewN ?_ _ | refine blk_drew ?_ | refine blk_alloc ?_ _)); refine blk_put (cs := #[.int .i64 0, .int .i64 0]) ?_ 0 _ rfl; (with_reducible repeat (first | refine blk_drewN ?_ _ | refine blk_drew ?_ | refine blk_alloc ?_ _)); exact BK150.out⟩
            have n5_ : Aside0 (Below w.heap.size w ((w38.setCell ⟨gb150, 0, none⟩ (.int .i64 (wrap64 ((wrap64 ((Int.tmod a0_0 1000000) + (wrap64 ((Int.tmod a2 100) * (Int.tmod a1_0 10000))))) - (wrap64 ((Int.tmod a3 1000) * (Int.tmod a1_1 10000))))))).setCell ⟨gb150, 1, none⟩ (.int .i64 (wrap64 ((wrap64 ((Int.tmod a0_1 1000000) + (wrap64 ((Int.tmod a2 100) * (Int.tmod a1_1 10000))))) + (wrap64 ((Int.tmod a3 1000) * (Int.tmod a1_0 10000)))))))) := ⟨by repeat (first | (with_reducible first | exact HB.out | apply below_alloc | apply pw_below_drewN | apply below_drew1 | refine below_set ?_ GE143.out | refine below_set ?_ GE144.out | refine below_set ?_ GE148.out | refine below_set ?_ GE149.out | refine below_set ?_ GE150.out) | exact HB.out)⟩
            (try clear BK143)
            (try clear BK144)
            (try clear BK148)
            (try clear BK149)
            (try clear BK150)
            (try clear HB)
            generalize ((w38.setCell ⟨gb150, 0, none⟩ (.int .i64 (wrap64 ((wrap64 ((Int.tmod a0_0 1000000) + (wrap64 ((Int.tmod a2 100) * (Int.tmod a1_0 10000))))) - (wrap64 ((Int.tmod a3 1000) * (Int.tmod a1_1 10000))))))).setCell ⟨gb150, 1, none⟩ (.int .i64 (wrap64 ((wrap64 ((Int.tmod a0_1 1000000) + (wrap64 ((Int.tmod a2 100) * (Int.tmod a1_1 10000))))) + (wrap64 ((Int.tmod a3 1000) * (Int.tmod a1_0 10000))))))) = w44 at n0_ n1_ n2_ n3_ n4_ n5_ ⊢
            have BK143 := n0_
            have BK144 := n1_
            have BK148 := n2_
            have BK149 := n3_
            have BK150 := n4_
            have HB := n5_
            clear n0_ n1_ n2_ n3_ n4_ n5_
            have n0_ := Aside0.mk (blk_drew BK143.out)
            have n1_ := Aside0.mk (blk_drew BK144.out)
            have n2_ := Aside0.mk (blk_drew BK148.out)
            have n3_ := Aside0.mk (blk_drew BK149.out)
            have n4_ := Aside0.mk (blk_drew BK150.out)
            have n5_ := Aside0.mk (below_drew1 HB.out)
            clear BK143
            clear BK144
            clear BK148
            clear BK149
            clear BK150
            clear HB
            have BK143 := n0_
            have BK144 := n1_
            have BK148 := n2_
            have BK149 := n3_
            have BK150 := n4_
            have HB := n5_
            clear n0_ n1_ n2_ n3_ n4_ n5_
            refine start_ (n := 46) (S := fun w' => w'.cell? ⟨gb143, 0, none⟩ = some (.int .i64 (Int.tmod a0_0 1000000)) ∧ w'.cell? ⟨gb143, 1, none⟩ = some (.int .i64 (Int.tmod a0_1 1000000)) ∧ w'.cell? ⟨gb148, 0, none⟩ = some (.int .i64 t146) ∧ w'.cell? ⟨gb148, 1, none⟩ = some (.int .i64 t147) ∧ w'.cell? ⟨gb149, 0, none⟩ = some (.int .i64 (wrap64 ((Int.tmod a0_0 1000000) + (wrap64 ((Int.tmod a2 100) * (Int.tmod a1_0 10000)))))) ∧ w'.cell? ⟨gb149, 1, none⟩ = some (.int .i64 (wrap64 ((Int.tmod a0_1 1000000) + (wrap64 ((Int.tmod a2 100) * (Int.tmod a1_1 10000)))))) ∧ w'.cell? ⟨gb150, 0, none⟩ = some (.int .i64 (wrap64 ((wrap64 ((Int.tmod a0_0 1000000) + (wrap64 ((Int.tmod a2 100) * (Int.tmod a1_0 10000))))) - (wrap64 ((Int.tmod a3 1000) * (Int.tmod a1_1 10000)))))) ∧ w'.cell? ⟨gb150, 1, none⟩ = some (.int .i64 (wrap64 ((wrap64 ((Int.tmod a0_1 1000000) + (wrap64 ((Int.tmod a2 100) * (Int.tmod a1_1 10000))))) + (wrap64 ((Int.tmod a3 1000) * (Int.tmod a1_0 10000)))))) ∧ w'.cell? ⟨gb144, 0, none⟩ = some (.int .i64 (Int.tmod a1_0 10000)) ∧ w'.cell? ⟨gb144, 1, none⟩ = some (.int .i64 (Int.tmod a1_1 10000))) (ds := []) #[false, false, false, false, false, false, false, false, false, false, false, false, false, false, false, false, false, false, false, false, false, false, false, false, false, false, false, false, false, false, false, false, false, false, false, false, false, false, false, false, false, false, false, false, false, false] (by kernel_rfl) rfl rfl ⟨(blk_cell BK143.out 0).trans rfl, (blk_cell BK143.out 1).trans rfl, (blk_cell BK148.out 0).trans rfl, (blk_cell BK148.out 1).trans rfl, (blk_cell BK149.out 0).trans rfl, (blk_cell BK149.out 1).trans rfl, (blk_cell BK150.out 0).trans rfl, (blk_cell BK150.out 1).trans rfl, (blk_cell BK144.out 0).trans rfl, (blk_cell BK144.out 1).trans rfl⟩ (fun hHeld => ?_); refine with_tabW glyphiclaw4_PlaneSides.tab11 glyphiclaw4_PlaneSides.bits11 (fun HT_ HW_ => ?_)
            generalize w44.drew = w45 at BK143 BK144 BK148 BK149 BK150 HB hHeld ⊢
            refine pure_ (i := 0) (N := some 67) (v := ?_) (a' := ?_) #[true, false, false, false, false, false, false, false, false, false, false, false, false, false, false, false, false, false, false, false, false, false, false, false, false, false, false, false, false, false, false, false, false, false, false, false, false, false, false, false, false, false, false, false, false, false] rfl rfl (any_of HT_.out (by kernel_rfl)) (fun _ _ _ h => h) (Or.inl ⟨by rfl, ?_⟩) ?_ ?_
            rotate_left
            · intro w'
              go_simp
              with_reducible rfl
            rotate_left
            · simp only [Act.put, List.setIfInBounds_toArray, List.set_cons_zero, List.set_cons_succ, i64_w, i32_w]
              rfl
            refine pure_ (i := 1) (N := some 68) (v := ?_) (a' := ?_) #[true, true, false, false, false, false, false, false, false, false, false, false, false, false, false, false, false, false, false, false, false, false, false, false, false, false, false, false, false, false, false, false, false, false, false, false, false, false, false, false, false, false, false, false, false, false] rfl rfl (any_of HT_.out (by kernel_rfl)) (fun _ _ _ h => h) (Or.inl ⟨by rfl, ?_⟩) ?_ ?_
            rotate_left
            · intro w'
              go_simp
              with_reducible rfl
            rotate_left
            · simp only [Act.put, List.setIfInBounds_toArray, List.set_cons_zero, List.set_cons_succ, i64_w, i32_w]
              rfl
            refine take_ (i := 2) (N := some 69) (v := ?_) (a' := ?_) #[true, true, true, false, false, false, false, false, false, false, false, false, false, false, false, false, false, false, false, false, false, false, false, false, false, false, false, false, false, false, false, false, false, false, false, false, false, false, false, false, false, false, false, false, false, false] rfl rfl (take_ofW HT_.out HW_.out (by kernel_rfl)) (fun _ _ _ h => h) (Or.inl ⟨by rfl, ?_⟩) hHeld ?_ ?_
            rotate_left
            · rintro w' ⟨s0, s1, s2, s3, s4, s5, s6, s7, s8, s9⟩
              go_simp
              with_reducible rfl
            rotate_left
            · simp only [Act.put, List.setIfInBounds_toArray, List.set_cons_zero, List.set_cons_succ, i64_w, i32_w]
              rfl
            refine take_ (i := 3) (N := some 70) (v := ?_) (a' := ?_) #[true, true, true, true, false, false, false, false, false, false, false, false, false, false, false, false, false, false, false, false, false, false, false, false, false, false, false, false, false, false, false, false, false, false, false, false, false, false, false, false, false, false, false, false, false, false] rfl rfl (take_ofW HT_.out HW_.out (by kernel_rfl)) (fun _ _ _ h => h) (Or.inl ⟨by rfl, ?_⟩) hHeld ?_ ?_
            rotate_left
            · rintro w' ⟨s0, s1, s2, s3, s4, s5, s6, s7, s8, s9⟩
              go_simp
              with_reducible rfl
            rotate_left
            · simp only [Act.put, List.setIfInBounds_toArray, List.set_cons_zero, List.set_cons_succ, i64_w, i32_w]
              rfl
            refine take_ (i := 4) (N := some 71) (v := ?_) (a' := ?_) #[true, true, true, true, true, false, false, false, false, false, false, false, false, false, false, false, false, false, false, false, false, false, false, false, false, false, false, false, false, false, false, false, false, false, false, false, false, false, false, false, false, false, false, false, false, false] rfl rfl (take_ofW HT_.out HW_.out (by kernel_rfl)) (fun _ _ _ h => h) (Or.inl ⟨by rfl, ?_⟩) hHeld ?_ ?_
            rotate_left
            · rintro w' ⟨s0, s1, s2, s3, s4, s5, s6, s7, s8, s9⟩
              go_simp
              with_reducible rfl
            rotate_left
            · simp only [Act.put, List.setIfInBounds_toArray, List.set_cons_zero, List.set_cons_succ, i64_w, i32_w]
              rfl
            refine one_ (i := 5) (N := some 72) #[true, true, true, true, true, true, false, false, false, false, false, false, false, false, false, false, false, false, false, false, false, false, false, false, false, false, false, false, false, false, false, false, false, false, false, false, false, false, false, false, false, false, false, false, false, false] rfl rfl (one_of HT_.out (by kernel_rfl)) (by decide) (fun K hK => ?_)
            refine goes_ Try.func41 (by kernel_rfl) rfl #[.agg #[.int .i64 (Int.tmod a0_0 1000000), .int .i64 (Int.tmod a0_1 1000000)], .agg #[.int .i64 t146, .int .i64 t147], .agg #[.int .i64 (wrap64 ((Int.tmod a0_0 1000000) + (wrap64 ((Int.tmod a2 100) * (Int.tmod a1_0 10000))))), .int .i64 (wrap64 ((Int.tmod a0_1 1000000) + (wrap64 ((Int.tmod a2 100) * (Int.tmod a1_1 10000)))))]] (by rfl) rfl rfl (by (try simp only [List.map_toArray, List.map_cons, List.map_nil]); first | done | rfl | (simp only [List.length_drop, List.length_take]; rfl)) ?_
            with_reducible refine (plane_Cross.calls (Int.tmod a0_0 1000000) (Int.tmod a0_1 1000000) t146 t147 (wrap64 ((Int.tmod a0_0 1000000) + (wrap64 ((Int.tmod a2 100) * (Int.tmod a1_0 10000))))) (wrap64 ((Int.tmod a0_1 1000000) + (wrap64 ((Int.tmod a2 100) * (Int.tmod a1_1 10000))))) t151 _ A8.out).mono ?_
            rintro e w46 ⟨rfl, hb⟩
            refine ⟨_, rfl, ?_⟩
            have n0_ := Aside0.mk (blk_below (g := gb143) (o := .cells #[.int .i64 (Int.tmod a0_0 1000000), .int .i64 (Int.tmod a0_1 1000000)] 28 (0, 0)) (by (with_reducible repeat (first | refine blk_drewN ?_ _ | refine blk_drew ?_ | refine blk_alloc ?_ _)); exact BK143.out) hb)
            have n1_ := Aside0.mk (blk_below (g := gb144) (o := .cells #[.int .i64 (Int.tmod a1_0 10000), .int .i64 (Int.tmod a1_1 10000)] 28 (0, 0)) (by (with_reducible repeat (first | refine blk_drewN ?_ _ | refine blk_drew ?_ | refine blk_alloc ?_ _)); exact BK144.out) hb)
            have n2_ := Aside0.mk (blk_below (g := gb148) (o := .cells #[.int .i64 t146, .int .i64 t147] 28 (0, 0)) (by (with_reducible repeat (first | refine blk_drewN ?_ _ | refine blk_drew ?_ | refine blk_alloc ?_ _)); exact BK148.out) hb)
            have n3_ := Aside0.mk (blk_below (g := gb149) (o := .cells #[.int .i64 (wrap64 ((Int.tmod a0_0 1000000) + (wrap64 ((Int.tmod a2 100) * (Int.tmod a1_0 10000))))), .int .i64 (wrap64 ((Int.tmod a0_1 1000000) + (wrap64 ((Int.tmod a2 100) * (Int.tmod a1_1 10000)))))] 28 (0, 0)) (by (with_reducible repeat (first | refine blk_drewN ?_ _ | refine blk_drew ?_ | refine blk_alloc ?_ _)); exact BK149.out) hb)
            have n4_ := Aside0.mk (blk_below (g := gb150) (o := .cells #[.int .i64 (wrap64 ((wrap64 ((Int.tmod a0_0 1000000) + (wrap64 ((Int.tmod a2 100) * (Int.tmod a1_0 10000))))) - (wrap64 ((Int.tmod a3 1000) * (Int.tmod a1_1 10000))))), .int .i64 (wrap64 ((wrap64 ((Int.tmod a0_1 1000000) + (wrap64 ((Int.tmod a2 100) * (Int.tmod a1_1 10000))))) + (wrap64 ((Int.tmod a3 1000) * (Int.tmod a1_0 10000)))))] 28 (0, 0)) (by (with_reducible repeat (first | refine blk_drewN ?_ _ | refine blk_drew ?_ | refine blk_alloc ?_ _)); exact BK150.out) hb)
            have n5_ := Aside0.mk (below_step (by repeat (first | (with_reducible first | exact HB.out | apply below_alloc | apply pw_below_drewN | apply below_drew1 | refine below_set ?_ GE143.out | refine below_set ?_ GE144.out | refine below_set ?_ GE148.out | refine below_set ?_ GE149.out | refine below_set ?_ GE150.out) | exact HB.out)) hb)
            clear BK143
            clear BK144
            clear BK148
            clear BK149
            clear BK150
            clear HB
            have BK143 := n0_
            have BK144 := n1_
            have BK148 := n2_
            have BK149 := n3_
            have BK150 := n4_
            have HB := n5_
            clear n0_ n1_ n2_ n3_ n4_ n5_
            (try clear hb)
            (try clear hb2)
            (try clear hk)
            (try clear hi)
            refine hK.out _ _ ⟨(blk_cell BK143.out 0).trans rfl, (blk_cell BK143.out 1).trans rfl, (blk_cell BK148.out 0).trans rfl, (blk_cell BK148.out 1).trans rfl, (blk_cell BK149.out 0).trans rfl, (blk_cell BK149.out 1).trans rfl, (blk_cell BK150.out 0).trans rfl, (blk_cell BK150.out 1).trans rfl, (blk_cell BK144.out 0).trans rfl, (blk_cell BK144.out 1).trans rfl⟩ (fun hHeld => ?_)
            clear hK K
            refine norm_ (a' := ?_) ?_ ?_
            rotate_left
            · show Act.put _ (some 72) _ = _
              simp only [Act.put, List.setIfInBounds_toArray, List.set_cons_zero, List.set_cons_succ, i64_w, i32_w]
              rfl
            refine pure_ (i := 6) (N := some 73) (v := ?_) (a' := ?_) #[true, true, true, true, true, true, true, false, false, false, false, false, false, false, false, false, false, false, false, false, false, false, false, false, false, false, false, false, false, false, false, false, false, false, false, false, false, false, false, false, false, false, false, false, false, false] rfl rfl (any_of HT_.out (by kernel_rfl)) (fun _ _ _ h => h) (Or.inl ⟨by rfl, ?_⟩) ?_ ?_
            rotate_left
            · intro w'
              go_simp
              with_reducible rfl
            rotate_left
            · simp only [Act.put, List.setIfInBounds_toArray, List.set_cons_zero, List.set_cons_succ, i64_w, i32_w]
              rfl
            refine pure_ (i := 7) (N := some 74) (v := ?_) (a' := ?_) #[true, true, true, true, true, true, true, true, false, false, false, false, false, false, false, false, false, false, false, false, false, false, false, false, false, false, false, false, false, false, false, false, false, false, false, false, false, false, false, false, false, false, false, false, false, false] rfl rfl (any_of HT_.out (by kernel_rfl)) (fun _ _ _ h => h) (Or.inl ⟨by rfl, ?_⟩) ?_ ?_
            rotate_left
            · intro w'
              go_simp
              with_reducible rfl
            rotate_left
            · simp only [Act.put, List.setIfInBounds_toArray, List.set_cons_zero, List.set_cons_succ, i64_w, i32_w]
              rfl
            refine pure_ (i := 8) (N := some 75) (v := ?_) (a' := ?_) #[true, true, true, true, true, true, true, true, true, false, false, false, false, false, false, false, false, false, false, false, false, false, false, false, false, false, false, false, false, false, false, false, false, false, false, false, false, false, false, false, false, false, false, false, false, false] rfl rfl (any_of HT_.out (by kernel_rfl)) (fun _ _ _ h => h) (Or.inl ⟨by rfl, ?_⟩) ?_ ?_
            rotate_left
            · intro w'
              go_simp
              with_reducible rfl
            rotate_left
            · simp only [Act.put, List.setIfInBounds_toArray, List.set_cons_zero, List.set_cons_succ, i64_w, i32_w]
              rfl
            refine pure_ (i := 13) (N := some 80) (v := ?_) (a' := ?_) #[true, true, true, true, true, true, true, true, true, false, false, false, false, true, false, false, false, false, false, false, false, false, false, false, false, false, false, false, false, false, false, false, false, false, false, false, false, false, false, false, false, false, false, false, false, false] rfl rfl (any_of HT_.out (by kernel_rfl)) (fun _ _ _ h => h) (Or.inl ⟨by rfl, ?_⟩) ?_ ?_
            rotate_left
            · intro w'
              go_simp
              with_reducible rfl
            rotate_left
            · simp only [Act.put, List.setIfInBounds_toArray, List.set_cons_zero, List.set_cons_succ, i64_w, i32_w]
              rfl
            refine take_ (i := 9) (N := some 76) (v := ?_) (a' := ?_) #[true, true, true, true, true, true, true, true, true, true, false, false, false, true, false, false, false, false, false, false, false, false, false, false, false, false, false, false, false, false, false, false, false, false, false, false, false, false, false, false, false, false, false, false, false, false] rfl rfl (take_ofW HT_.out HW_.out (by kernel_rfl)) (fun _ _ _ h => h) (Or.inl ⟨by rfl, ?_⟩) hHeld ?_ ?_
            rotate_left
            · rintro w' ⟨s0, s1, s2, s3, s4, s5, s6, s7, s8, s9⟩
              go_simp
              with_reducible rfl
            rotate_left
            · simp only [Act.put, List.setIfInBounds_toArray, List.set_cons_zero, List.set_cons_succ, i64_w, i32_w]
              rfl
            refine take_ (i := 10) (N := some 77) (v := ?_) (a' := ?_) #[true, true, true, true, true, true, true, true, true, true, true, false, false, true, false, false, false, false, false, false, false, false, false, false, false, false, false, false, false, false, false, false, false, false, false, false, false, false, false, false, false, false, false, false, false, false] rfl rfl (take_ofW HT_.out HW_.out (by kernel_rfl)) (fun _ _ _ h => h) (Or.inl ⟨by rfl, ?_⟩) hHeld ?_ ?_
            rotate_left
            · rintro w' ⟨s0, s1, s2, s3, s4, s5, s6, s7, s8, s9⟩
              go_simp
              with_reducible rfl
            rotate_left
            · simp only [Act.put, List.setIfInBounds_toArray, List.set_cons_zero, List.set_cons_succ, i64_w, i32_w]
              rfl
            refine take_ (i := 11) (N := some 78) (v := ?_) (a' := ?_) #[true, true, true, true, true, true, true, true, true, true, true, true, false, true, false, false, false, false, false, false, false, false, false, false, false, false, false, false, false, false, false, false, false, false, false, false, false, false, false, false, false, false, false, false, false, false] rfl rfl (take_ofW HT_.out HW_.out (by kernel_rfl)) (fun _ _ _ h => h) (Or.inl ⟨by rfl, ?_⟩) hHeld ?_ ?_
            rotate_left
            · rintro w' ⟨s0, s1, s2, s3, s4, s5, s6, s7, s8, s9⟩
              go_simp
              with_reducible rfl
            rotate_left
            · simp only [Act.put, List.setIfInBounds_toArray, List.set_cons_zero, List.set_cons_succ, i64_w, i32_w]
              rfl
            refine take_ (i := 14) (N := some 81) (v := ?_) (a' := ?_) #[true, true, true, true, true, true, true, true, true, true, true, true, false, true, true, false, false, false, false, false, false, false, false, false, false, false, false, false, false, false, false, false, false, false, false, false, false, false, false, false, false, false, false, false, false, false] rfl rfl (take_ofW HT_.out HW_.out (by kernel_rfl)) (fun _ _ _ h => h) (Or.inl ⟨by rfl, ?_⟩) hHeld ?_ ?_
            rotate_left
            · rintro w' ⟨s0, s1, s2, s3, s4, s5, s6, s7, s8, s9⟩
              go_simp
              with_reducible rfl
            rotate_left
            · simp only [Act.put, List.setIfInBounds_toArray, List.set_cons_zero, List.set_cons_succ, i64_w, i32_w]
              rfl
            refine take_ (i := 15) (N := some 82) (v := ?_) (a' := ?_) #[true, true, true, true, true, true, true, true, true, true, true, true, false, true, true, true, false, false, false, false, false, false, false, false, false, false, false, false, false, false, false, false, false, false, false, false, false, false, false, false, false, false, false, false, false, false] rfl rfl (take_ofW HT_.out HW_.out (by kernel_rfl)) (fun _ _ _ h => h) (Or.inl ⟨by rfl, ?_⟩) hHeld ?_ ?_
            rotate_left
            · rintro w' ⟨s0, s1, s2, s3, s4, s5, s6, s7, s8, s9⟩
              go_simp
              with_reducible rfl
            rotate_left
            · simp only [Act.put, List.setIfInBounds_toArray, List.set_cons_zero, List.set_cons_succ, i64_w, i32_w]
              rfl
            refine one_ (i := 12) (N := some 79) #[true, true, true, true, true, true, true, true, true, true, true, true, true, true, true, true, false, false, false, false, false, false, false, false, false, false, false, false, false, false, false, false, false, false, false, false, false, false, false, false, false, false, false, false, false, false] rfl rfl (one_of HT_.out (by kernel_rfl)) (by decide) (fun K hK => ?_)
            refine goes_ Try.func41 (by kernel_rfl) rfl #[.agg #[.int .i64 (Int.tmod a0_0 1000000), .int .i64 (Int.tmod a0_1 1000000)], .agg #[.int .i64 t146, .int .i64 t147], .agg #[.int .i64 (wrap64 ((wrap64 ((Int.tmod a0_0 1000000) + (wrap64 ((Int.tmod a2 100) * (Int.tmod a1_0 10000))))) - (wrap64 ((Int.tmod a3 1000) * (Int.tmod a1_1 10000))))), .int .i64 (wrap64 ((wrap64 ((Int.tmod a0_1 1000000) + (wrap64 ((Int.tmod a2 100) * (Int.tmod a1_1 10000))))) + (wrap64 ((Int.tmod a3 1000) * (Int.tmod a1_0 10000)))))]] (by rfl) rfl rfl (by (try simp only [List.map_toArray, List.map_cons, List.map_nil]); first | done | rfl | (simp only [List.length_drop, List.length_take]; rfl)) ?_
            with_reducible refine (plane_Cross.calls (Int.tmod a0_0 1000000) (Int.tmod a0_1 1000000) t146 t147 (wrap64 ((wrap64 ((Int.tmod a0_0 1000000) + (wrap64 ((Int.tmod a2 100) * (Int.tmod a1_0 10000))))) - (wrap64 ((Int.tmod a3 1000) * (Int.tmod a1_1 10000))))) (wrap64 ((wrap64 ((Int.tmod a0_1 1000000) + (wrap64 ((Int.tmod a2 100) * (Int.tmod a1_1 10000))))) + (wrap64 ((Int.tmod a3 1000) * (Int.tmod a1_0 10000))))) t152 _ A10.out).mono ?_
            rintro e w47 ⟨rfl, hb⟩
            refine ⟨_, rfl, ?_⟩
            have n0_ := Aside0.mk (blk_below (g := gb143) (o := .cells #[.int .i64 (Int.tmod a0_0 1000000), .int .i64 (Int.tmod a0_1 1000000)] 28 (0, 0)) (by (with_reducible repeat (first | refine blk_drewN ?_ _ | refine blk_drew ?_ | refine blk_alloc ?_ _)); exact BK143.out) hb)
            have n1_ := Aside0.mk (blk_below (g := gb144) (o := .cells #[.int .i64 (Int.tmod a1_0 10000), .int .i64 (Int.tmod a1_1 10000)] 28 (0, 0)) (by (with_reducible repeat (first | refine blk_drewN ?_ _ | refine blk_drew ?_ | refine blk_alloc ?_ _)); exact BK144.out) hb)
            have n2_ := Aside0.mk (blk_below (g := gb148) (o := .cells #[.int .i64 t146, .int .i64 t147] 28 (0, 0)) (by (with_reducible repeat (first | refine blk_drewN ?_ _ | refine blk_drew ?_ | refine blk_alloc ?_ _)); exact BK148.out) hb)
            have n3_ := Aside0.mk (blk_below (g := gb149) (o := .cells #[.int .i64 (wrap64 ((Int.tmod a0_0 1000000) + (wrap64 ((Int.tmod a2 100) * (Int.tmod a1_0 10000))))), .int .i64 (wrap64 ((Int.tmod a0_1 1000000) + (wrap64 ((Int.tmod a2 100) * (Int.tmod a1_1 10000)))))] 28 (0, 0)) (by (with_reducible repeat (first | refine blk_drewN ?_ _ | refine blk_drew ?_ | refine blk_alloc ?_ _)); exact BK149.out) hb)
            have n4_ := Aside0.mk (blk_below (g := gb150) (o := .cells #[.int .i64 (wrap64 ((wrap64 ((Int.tmod a0_0 1000000) + (wrap64 ((Int.tmod a2 100) * (Int.tmod a1_0 10000))))) - (wrap64 ((Int.tmod a3 1000) * (Int.tmod a1_1 10000))))), .int .i64 (wrap64 ((wrap64 ((Int.tmod a0_1 1000000) + (wrap64 ((Int.tmod a2 100) * (Int.tmod a1_1 10000))))) + (wrap64 ((Int.tmod a3 1000) * (Int.tmod a1_0 10000)))))] 28 (0, 0)) (by (with_reducible repeat (first | refine blk_drewN ?_ _ | refine blk_drew ?_ | refine blk_alloc ?_ _)); exact BK150.out) hb)
            have n5_ := Aside0.mk (below_step (by repeat (first | (with_reducible first | exact HB.out | apply below_alloc | apply pw_below_drewN | apply below_drew1 | refine below_set ?_ GE143.out | refine below_set ?_ GE144.out | refine below_set ?_ GE148.out | refine below_set ?_ GE149.out | refine below_set ?_ GE150.out) | exact HB.out)) hb)
            clear BK143
            clear BK144
            clear BK148
            clear BK149
            clear BK150
            clear HB
            have BK143 := n0_
            have BK144 := n1_
            have BK148 := n2_
            have BK149 := n3_
            have BK150 := n4_
            have HB := n5_
            clear n0_ n1_ n2_ n3_ n4_ n5_
            (try clear hb)
            (try clear hb2)
            (try clear hk)
            (try clear hi)
            refine hK.out _ _ ⟨(blk_cell BK143.out 0).trans rfl, (blk_cell BK143.out 1).trans rfl, (blk_cell BK148.out 0).trans rfl, (blk_cell BK148.out 1).trans rfl, (blk_cell BK149.out 0).trans rfl, (blk_cell BK149.out 1).trans rfl, (blk_cell BK150.out 0).trans rfl, (blk_cell BK150.out 1).trans rfl, (blk_cell BK144.out 0).trans rfl, (blk_cell BK144.out 1).trans rfl⟩ (fun hHeld => ?_)
            clear hK K
            refine norm_ (a' := ?_) ?_ ?_
            rotate_left
            · show Act.put _ (some 79) _ = _
              simp only [Act.put, List.setIfInBounds_toArray, List.set_cons_zero, List.set_cons_succ, i64_w, i32_w]
              rfl
            refine one_ (i := 16) (N := some 83) #[true, true, true, true, true, true, true, true, true, true, true, true, true, true, true, true, true, false, false, false, false, false, false, false, false, false, false, false, false, false, false, false, false, false, false, false, false, false, false, false, false, false, false, false, false, false] rfl rfl (one_of HT_.out (by kernel_rfl)) (by decide) (fun K hK => ?_)
            refine goes_ Try.func45 (by kernel_rfl) rfl #[.agg #[.int .i64 (Int.tmod a0_0 1000000), .int .i64 (Int.tmod a0_1 1000000)], .agg #[.int .i64 t146, .int .i64 t147]] (by rfl) rfl rfl (by (try simp only [List.map_toArray, List.map_cons, List.map_nil]); first | done | rfl | (simp only [List.length_drop, List.length_take]; rfl)) ?_
            with_reducible refine (plane_Len2.calls (Int.tmod a0_0 1000000) (Int.tmod a0_1 1000000) t146 t147 t153 _ A11.out).mono ?_
            rintro e w48 ⟨rfl, hb⟩
            refine ⟨_, rfl, ?_⟩
            have n0_ := Aside0.mk (blk_below (g := gb143) (o := .cells #[.int .i64 (Int.tmod a0_0 1000000), .int .i64 (Int.tmod a0_1 1000000)] 28 (0, 0)) (by (with_reducible repeat (first | refine blk_drewN ?_ _ | refine blk_drew ?_ | refine blk_alloc ?_ _)); exact BK143.out) hb)
            have n1_ := Aside0.mk (blk_below (g := gb144) (o := .cells #[.int .i64 (Int.tmod a1_0 10000), .int .i64 (Int.tmod a1_1 10000)] 28 (0, 0)) (by (with_reducible repeat (first | refine blk_drewN ?_ _ | refine blk_drew ?_ | refine blk_alloc ?_ _)); exact BK144.out) hb)
            have n2_ := Aside0.mk (blk_below (g := gb148) (o := .cells #[.int .i64 t146, .int .i64 t147] 28 (0, 0)) (by (with_reducible repeat (first | refine blk_drewN ?_ _ | refine blk_drew ?_ | refine blk_alloc ?_ _)); exact BK148.out) hb)
            have n3_ := Aside0.mk (blk_below (g := gb149) (o := .cells #[.int .i64 (wrap64 ((Int.tmod a0_0 1000000) + (wrap64 ((Int.tmod a2 100) * (Int.tmod a1_0 10000))))), .int .i64 (wrap64 ((Int.tmod a0_1 1000000) + (wrap64 ((Int.tmod a2 100) * (Int.tmod a1_1 10000)))))] 28 (0, 0)) (by (with_reducible repeat (first | refine blk_drewN ?_ _ | refine blk_drew ?_ | refine blk_alloc ?_ _)); exact BK149.out) hb)
            have n4_ := Aside0.mk (blk_below (g := gb150) (o := .cells #[.int .i64 (wrap64 ((wrap64 ((Int.tmod a0_0 1000000) + (wrap64 ((Int.tmod a2 100) * (Int.tmod a1_0 10000))))) - (wrap64 ((Int.tmod a3 1000) * (Int.tmod a1_1 10000))))), .int .i64 (wrap64 ((wrap64 ((Int.tmod a0_1 1000000) + (wrap64 ((Int.tmod a2 100) * (Int.tmod a1_1 10000))))) + (wrap64 ((Int.tmod a3 1000) * (Int.tmod a1_0 10000)))))] 28 (0, 0)) (by (with_reducible repeat (first | refine blk_drewN ?_ _ | refine blk_drew ?_ | refine blk_alloc ?_ _)); exact BK150.out) hb)
            have n5_ := Aside0.mk (below_step (by repeat (first | (with_reducible first | exact HB.out | apply below_alloc | apply pw_below_drewN | apply below_drew1 | refine below_set ?_ GE143.out | refine below_set ?_ GE144.out | refine below_set ?_ GE148.out | refine below_set ?_ GE149.out | refine below_set ?_ GE150.out) | exact HB.out)) hb)
            clear BK143
            clear BK144
            clear BK148
            clear BK149
            clear BK150
            clear HB
            have BK143 := n0_
            have BK144 := n1_
            have BK148 := n2_
            have BK149 := n3_
            have BK150 := n4_
            have HB := n5_
            clear n0_ n1_ n2_ n3_ n4_ n5_
            (try clear hb)
            (try clear hb2)
            (try clear hk)
            (try clear hi)
            refine hK.out _ _ ⟨(blk_cell BK143.out 0).trans rfl, (blk_cell BK143.out 1).trans rfl, (blk_cell BK148.out 0).trans rfl, (blk_cell BK148.out 1).trans rfl, (blk_cell BK149.out 0).trans rfl, (blk_cell BK149.out 1).trans rfl, (blk_cell BK150.out 0).trans rfl, (blk_cell BK150.out 1).trans rfl, (blk_cell BK144.out 0).trans rfl, (blk_cell BK144.out 1).trans rfl⟩ (fun hHeld => ?_)
            clear hK K
            refine norm_ (a' := ?_) ?_ ?_
            rotate_left
            · show Act.put _ (some 83) _ = _
              simp only [Act.put, List.setIfInBounds_toArray, List.set_cons_zero, List.set_cons_succ, i64_w, i32_w]
              rfl
            refine pure_ (i := 17) (N := some 84) (v := ?_) (a' := ?_) #[true, true, true, true, true, true, true, true, true, true, true, true, true, true, true, true, true, true, false, false, false, false, false, false, false, false, false, false, false, false, false, false, false, false, false, false, false, false, false, false, false, false, false, false, false, false] rfl rfl (any_of HT_.out (by kernel_rfl)) (fun _ _ _ h => h) (Or.inl ⟨by rfl, ?_⟩) ?_ ?_
            rotate_left
            · intro w'
              go_simp
              with_reducible rfl
            rotate_left
            · simp only [Act.put, List.setIfInBounds_toArray, List.set_cons_zero, List.set_cons_succ, i64_w, i32_w]
              rfl
            refine pure_ (i := 18) (N := some 85) (v := ?_) (a' := ?_) #[true, true, true, true, true, true, true, true, true, true, true, true, true, true, true, true, true, true, true, false, false, false, false, false, false, false, false, false, false, false, false, false, false, false, false, false, false, false, false, false, false, false, false, false, false, false] rfl rfl (any_of HT_.out (by kernel_rfl)) (fun _ _ _ h => h) (Or.inl ⟨by rfl, ?_⟩) ?_ ?_
            rotate_left
            · intro w'
              go_simp
              with_reducible rfl
            rotate_left
            · simp only [Act.put, List.setIfInBounds_toArray, List.set_cons_zero, List.set_cons_succ, i64_w, i32_w]
              rfl
            refine pure_ (i := 19) (N := some 86) (v := ?_) (a' := ?_) #[true, true, true, true, true, true, true, true, true, true, true, true, true, true, true, true, true, true, true, true, false, false, false, false, false, false, false, false, false, false, false, false, false, false, false, false, false, false, false, false, false, false, false, false, false, false] rfl rfl (any_of HT_.out (by kernel_rfl)) (fun _ _ _ h => h) (Or.inl ⟨by rfl, ?_⟩) ?_ ?_
            rotate_left
            · intro w'
              go_simp
              with_reducible rfl
            rotate_left
            · simp only [Act.put, List.setIfInBounds_toArray, List.set_cons_zero, List.set_cons_succ, i64_w, i32_w]
              rfl
            refine pure_ (i := 20) (N := some 87) (v := ?_) (a' := ?_) #[true, true, true, true, true, true, true, true, true, true, true, true, true, true, true, true, true, true, true, true, true, false, false, false, false, false, false, false, false, false, false, false, false, false, false, false, false, false, false, false, false, false, false, false, false, false] rfl rfl (any_of HT_.out (by kernel_rfl)) (fun _ _ _ h => h) (Or.inl ⟨by rfl, ?_⟩) ?_ ?_
            rotate_left
            · intro w'
              go_simp
              with_reducible rfl
            rotate_left
            · simp only [Act.put, List.setIfInBounds_toArray, List.set_cons_zero, List.set_cons_succ, i64_w, i32_w]
              rfl
            refine pure_ (i := 25) (N := some 92) (v := ?_) (a' := ?_) #[true, true, true, true, true, true, true, true, true, true, true, true, true, true, true, true, true, true, true, true, true, false, false, false, false, true, false, false, false, false, false, false, false, false, false, false, false, false, false, false, false, false, false, false, false, false] rfl rfl (any_of HT_.out (by kernel_rfl)) (fun _ _ _ h => h) (Or.inl ⟨by rfl, ?_⟩) ?_ ?_
            rotate_left
            · intro w'
              go_simp
              with_reducible rfl
            rotate_left
            · simp only [Act.put, List.setIfInBounds_toArray, List.set_cons_zero, List.set_cons_succ, i64_w, i32_w]
              rfl
            refine take_ (i := 21) (N := some 88) (v := ?_) (a' := ?_) #[true, true, true, true, true, true, true, true, true, true, true, true, true, true, true, true, true, true, true, true, true, true, false, false, false, true, false, false, false, false, false, false, false, false, false, false, false, false, false, false, false, false, false, false, false, false] rfl rfl (take_ofW HT_.out HW_.out (by kernel_rfl)) (fun _ _ _ h => h) (Or.inl ⟨by rfl, ?_⟩) hHeld ?_ ?_
            rotate_left
            · rintro w' ⟨s0, s1, s2, s3, s4, s5, s6, s7, s8, s9⟩
              go_simp
              with_reducible rfl
            rotate_left
            · simp only [Act.put, List.setIfInBounds_toArray, List.set_cons_zero, List.set_cons_succ, i64_w, i32_w]
              rfl
            refine take_ (i := 22) (N := some 89) (v := ?_) (a' := ?_) #[true, true, true, true, true, true, true, true, true, true, true, true, true, true, true, true, true, true, true, true, true, true, true, false, false, true, false, false, false, false, false, false, false, false, false, false, false, false, false, false, false, false, false, false, false, false] rfl rfl (take_ofW HT_.out HW_.out (by kernel_rfl)) (fun _ _ _ h => h) (Or.inl ⟨by rfl, ?_⟩) hHeld ?_ ?_
            rotate_left
            · rintro w' ⟨s0, s1, s2, s3, s4, s5, s6, s7, s8, s9⟩
              go_simp
              with_reducible rfl
            rotate_left
            · simp only [Act.put, List.setIfInBounds_toArray, List.set_cons_zero, List.set_cons_succ, i64_w, i32_w]
              rfl
            refine take_ (i := 23) (N := some 90) (v := ?_) (a' := ?_) #[true, true, true, true, true, true, true, true, true, true, true, true, true, true, true, true, true, true, true, true, true, true, true, true, false, true, false, false, false, false, false, false, false, false, false, false, false, false, false, false, false, false, false, false, false, false] rfl rfl (take_ofW HT_.out HW_.out (by kernel_rfl)) (fun _ _ _ h => h) (Or.inl ⟨by rfl, ?_⟩) hHeld ?_ ?_
            rotate_left
            · rintro w' ⟨s0, s1, s2, s3, s4, s5, s6, s7, s8, s9⟩
              go_simp
              with_reducible rfl
            rotate_left
            · simp only [Act.put, List.setIfInBounds_toArray, List.set_cons_zero, List.set_cons_succ, i64_w, i32_w]
              rfl
            refine take_ (i := 26) (N := some 93) (v := ?_) (a' := ?_) #[true, true, true, true, true, true, true, true, true, true, true, true, true, true, true, true, true, true, true, true, true, true, true, true, false, true, true, false, false, false, false, false, false, false, false, false, false, false, false, false, false, false, false, false, false, false] rfl rfl (take_ofW HT_.out HW_.out (by kernel_rfl)) (fun _ _ _ h => h) (Or.inl ⟨by rfl, ?_⟩) hHeld ?_ ?_
            rotate_left
            · rintro w' ⟨s0, s1, s2, s3, s4, s5, s6, s7, s8, s9⟩
              go_simp
              with_reducible rfl
            rotate_left
            · simp only [Act.put, List.setIfInBounds_toArray, List.set_cons_zero, List.set_cons_succ, i64_w, i32_w]
              rfl
            refine take_ (i := 27) (N := some 94) (v := ?_) (a' := ?_) #[true, true, true, true, true, true, true, true, true, true, true, true, true, true, true, true, true, true, true, true, true, true, true, true, false, true, true, true, false, false, false, false, false, false, false, false, false, false, false, false, false, false, false, false, false, false] rfl rfl (take_ofW HT_.out HW_.out (by kernel_rfl)) (fun _ _ _ h => h) (Or.inl ⟨by rfl, ?_⟩) hHeld ?_ ?_
            rotate_left
            · rintro w' ⟨s0, s1, s2, s3, s4, s5, s6, s7, s8, s9⟩
              go_simp
              with_reducible rfl
            rotate_left
            · simp only [Act.put, List.setIfInBounds_toArray, List.set_cons_zero, List.set_cons_succ, i64_w, i32_w]
              rfl
            refine one_ (i := 24) (N := some 91) #[true, true, true, true, true, true, true, true, true, true, true, true, true, true, true, true, true, true, true, true, true, true, true, true, true, true, true, true, false, false, false, false, false, false, false, false, false, false, false, false, false, false, false, false, false, false] rfl rfl (one_of HT_.out (by kernel_rfl)) (by decide) (fun K hK => ?_)
            refine goes_ Try.func43 (by kernel_rfl) rfl #[.agg #[.int .i64 (Int.tmod a0_0 1000000), .int .i64 (Int.tmod a0_1 1000000)], .agg #[.int .i64 t146, .int .i64 t147], .agg #[.int .i64 (wrap64 ((wrap64 ((Int.tmod a0_0 1000000) + (wrap64 ((Int.tmod a2 100) * (Int.tmod a1_0 10000))))) - (wrap64 ((Int.tmod a3 1000) * (Int.tmod a1_1 10000))))), .int .i64 (wrap64 ((wrap64 ((Int.tmod a0_1 1000000) + (wrap64 ((Int.tmod a2 100) * (Int.tmod a1_1 10000))))) + (wrap64 ((Int.tmod a3 1000) * (Int.tmod a1_0 10000)))))]] (by rfl) rfl rfl (by (try simp only [List.map_toArray, List.map_cons, List.map_nil]); first | done | rfl | (simp only [List.length_drop, List.length_take]; rfl)) ?_
            with_reducible refine (plane_Dot.calls (Int.tmod a0_0 1000000) (Int.tmod a0_1 1000000) t146 t147 (wrap64 ((wrap64 ((Int.tmod a0_0 1000000) + (wrap64 ((Int.tmod a2 100) * (Int.tmod a1_0 10000))))) - (wrap64 ((Int.tmod a3 1000) * (Int.tmod a1_1 10000))))) (wrap64 ((wrap64 ((Int.tmod a0_1 1000000) + (wrap64 ((Int.tmod a2 100) * (Int.tmod a1_1 10000))))) + (wrap64 ((Int.tmod a3 1000) * (Int.tmod a1_0 10000))))) t154 _ A13.out).mono ?_
            rintro e w49 ⟨rfl, hb⟩
            refine ⟨_, rfl, ?_⟩
            have n0_ := Aside0.mk (blk_below (g := gb143) (o := .cells #[.int .i64 (Int.tmod a0_0 1000000), .int .i64 (Int.tmod a0_1 1000000)] 28 (0, 0)) (by (with_reducible repeat (first | refine blk_drewN ?_ _ | refine blk_drew ?_ | refine blk_alloc ?_ _)); exact BK143.out) hb)
            have n1_ := Aside0.mk (blk_below (g := gb144) (o := .cells #[.int .i64 (Int.tmod a1_0 10000), .int .i64 (Int.tmod a1_1 10000)] 28 (0, 0)) (by (with_reducible repeat (first | refine blk_drewN ?_ _ | refine blk_drew ?_ | refine blk_alloc ?_ _)); exact BK144.out) hb)
            have n2_ := Aside0.mk (blk_below (g := gb148) (o := .cells #[.int .i64 t146, .int .i64 t147] 28 (0, 0)) (by (with_reducible repeat (first | refine blk_drewN ?_ _ | refine blk_drew ?_ | refine blk_alloc ?_ _)); exact BK148.out) hb)
            have n3_ := Aside0.mk (blk_below (g := gb149) (o := .cells #[.int .i64 (wrap64 ((Int.tmod a0_0 1000000) + (wrap64 ((Int.tmod a2 100) * (Int.tmod a1_0 10000))))), .int .i64 (wrap64 ((Int.tmod a0_1 1000000) + (wrap64 ((Int.tmod a2 100) * (Int.tmod a1_1 10000)))))] 28 (0, 0)) (by (with_reducible repeat (first | refine blk_drewN ?_ _ | refine blk_drew ?_ | refine blk_alloc ?_ _)); exact BK149.out) hb)
            have n4_ := Aside0.mk (blk_below (g := gb150) (o := .cells #[.int .i64 (wrap64 ((wrap64 ((Int.tmod a0_0 1000000) + (wrap64 ((Int.tmod a2 100) * (Int.tmod a1_0 10000))))) - (wrap64 ((Int.tmod a3 1000) * (Int.tmod a1_1 10000))))), .int .i64 (wrap64 ((wrap64 ((Int.tmod a0_1 1000000) + (wrap64 ((Int.tmod a2 100) * (Int.tmod a1_1 10000))))) + (wrap64 ((Int.tmod a3 1000) * (Int.tmod a1_0 10000)))))] 28 (0, 0)) (by (with_reducible repeat (first | refine blk_drewN ?_ _ | refine blk_drew ?_ | refine blk_alloc ?_ _)); exact BK150.out) hb)
            have n5_ := Aside0.mk (below_step (by repeat (first | (with_reducible first | exact HB.out | apply below_alloc | apply pw_below_drewN | apply below_drew1 | refine below_set ?_ GE143.out | refine below_set ?_ GE144.out | refine below_set ?_ GE148.out | refine below_set ?_ GE149.out | refine below_set ?_ GE150.out) | exact HB.out)) hb)
            clear BK143
            clear BK144
            clear BK148
            clear BK149
            clear BK150
            clear HB
            have BK143 := n0_
            have BK144 := n1_
            have BK148 := n2_
            have BK149 := n3_
            have BK150 := n4_
            have HB := n5_
            clear n0_ n1_ n2_ n3_ n4_ n5_
            (try clear hb)
            (try clear hb2)
            (try clear hk)
            (try clear hi)
            refine hK.out _ _ ⟨(blk_cell BK143.out 0).trans rfl, (blk_cell BK143.out 1).trans rfl, (blk_cell BK148.out 0).trans rfl, (blk_cell BK148.out 1).trans rfl, (blk_cell BK149.out 0).trans rfl, (blk_cell BK149.out 1).trans rfl, (blk_cell BK150.out 0).trans rfl, (blk_cell BK150.out 1).trans rfl, (blk_cell BK144.out 0).trans rfl, (blk_cell BK144.out 1).trans rfl⟩ (fun hHeld => ?_)
            clear hK K
            refine norm_ (a' := ?_) ?_ ?_
            rotate_left
            · show Act.put _ (some 91) _ = _
              simp only [Act.put, List.setIfInBounds_toArray, List.set_cons_zero, List.set_cons_succ, i64_w, i32_w]
              rfl
            refine one_ (i := 28) (N := some 95) #[true, true, true, true, true, true, true, true, true, true, true, true, true, true, true, true, true, true, true, true, true, true, true, true, true, true, true, true, true, false, false, false, false, false, false, false, false, false, false, false, false, false, false, false, false, false] rfl rfl (one_of HT_.out (by kernel_rfl)) (by decide) (fun K hK => ?_)
            refine goes_ Try.func45 (by kernel_rfl) rfl #[.agg #[.int .i64 (Int.tmod a0_0 1000000), .int .i64 (Int.tmod a0_1 1000000)], .agg #[.int .i64 t146, .int .i64 t147]] (by rfl) rfl rfl (by (try simp only [List.map_toArray, List.map_cons, List.map_nil]); first | done | rfl | (simp only [List.length_drop, List.length_take]; rfl)) ?_
            with_reducible refine (plane_Len2.calls (Int.tmod a0_0 1000000) (Int.tmod a0_1 1000000) t146 t147 t155 _ A14.out).mono ?_
            rintro e w50 ⟨rfl, hb⟩
            refine ⟨_, rfl, ?_⟩
            have n0_ := Aside0.mk (blk_below (g := gb143) (o := .cells #[.int .i64 (Int.tmod a0_0 1000000), .int .i64 (Int.tmod a0_1 1000000)] 28 (0, 0)) (by (with_reducible repeat (first | refine blk_drewN ?_ _ | refine blk_drew ?_ | refine blk_alloc ?_ _)); exact BK143.out) hb)
            have n1_ := Aside0.mk (blk_below (g := gb144) (o := .cells #[.int .i64 (Int.tmod a1_0 10000), .int .i64 (Int.tmod a1_1 10000)] 28 (0, 0)) (by (with_reducible repeat (first | refine blk_drewN ?_ _ | refine blk_drew ?_ | refine blk_alloc ?_ _)); exact BK144.out) hb)
            have n2_ := Aside0.mk (blk_below (g := gb148) (o := .cells #[.int .i64 t146, .int .i64 t147] 28 (0, 0)) (by (with_reducible repeat (first | refine blk_drewN ?_ _ | refine blk_drew ?_ | refine blk_alloc ?_ _)); exact BK148.out) hb)
            have n3_ := Aside0.mk (blk_below (g := gb149) (o := .cells #[.int .i64 (wrap64 ((Int.tmod a0_0 1000000) + (wrap64 ((Int.tmod a2 100) * (Int.tmod a1_0 10000))))), .int .i64 (wrap64 ((Int.tmod a0_1 1000000) + (wrap64 ((Int.tmod a2 100) * (Int.tmod a1_1 10000)))))] 28 (0, 0)) (by (with_reducible repeat (first | refine blk_drewN ?_ _ | refine blk_drew ?_ | refine blk_alloc ?_ _)); exact BK149.out) hb)
            have n4_ := Aside0.mk (blk_below (g := gb150) (o := .cells #[.int .i64 (wrap64 ((wrap64 ((Int.tmod a0_0 1000000) + (wrap64 ((Int.tmod a2 100) * (Int.tmod a1_0 10000))))) - (wrap64 ((Int.tmod a3 1000) * (Int.tmod a1_1 10000))))), .int .i64 (wrap64 ((wrap64 ((Int.tmod a0_1 1000000) + (wrap64 ((Int.tmod a2 100) * (Int.tmod a1_1 10000))))) + (wrap64 ((Int.tmod a3 1000) * (Int.tmod a1_0 10000)))))] 28 (0, 0)) (by (with_reducible repeat (first | refine blk_drewN ?_ _ | refine blk_drew ?_ | refine blk_alloc ?_ _)); exact BK150.out) hb)
            have n5_ := Aside0.mk (below_step (by repeat (first | (with_reducible first | exact HB.out | apply below_alloc | apply pw_below_drewN | apply below_drew1 | refine below_set ?_ GE143.out | refine below_set ?_ GE144.out | refine below_set ?_ GE148.out | refine below_set ?_ GE149.out | refine below_set ?_ GE150.out) | exact HB.out)) hb)
            clear BK143
            clear BK144
            clear BK148
            clear BK149
            clear BK150
            clear HB
            have BK143 := n0_
            have BK144 := n1_
            have BK148 := n2_
            have BK149 := n3_
            have BK150 := n4_
            have HB := n5_
            clear n0_ n1_ n2_ n3_ n4_ n5_
            (try clear hb)
            (try clear hb2)
            (try clear hk)
            (try clear hi)
            refine hK.out _ _ ⟨(blk_cell BK143.out 0).trans rfl, (blk_cell BK143.out 1).trans rfl, (blk_cell BK148.out 0).trans rfl, (blk_cell BK148.out 1).trans rfl, (blk_cell BK149.out 0).trans rfl, (blk_cell BK149.out 1).trans rfl, (blk_cell BK150.out 0).trans rfl, (blk_cell BK150.out 1).trans rfl, (blk_cell BK144.out 0).trans rfl, (blk_cell BK144.out 1).trans rfl⟩ (fun hHeld => ?_)
            clear hK K
            refine norm_ (a' := ?_) ?_ ?_
            rotate_left
            · show Act.put _ (some 95) _ = _
              simp only [Act.put, List.setIfInBounds_toArray, List.set_cons_zero, List.set_cons_succ, i64_w, i32_w]
              rfl
            refine pure_ (i := 29) (N := some 96) (v := ?_) (a' := ?_) #[true, true, true, true, true, true, true, true, true, true, true, true, true, true, true, true, true, true, true, true, true, true, true, true, true, true, true, true, true, true, false, false, false, false, false, false, false, false, false, false, false, false, false, false, false, false] rfl rfl (any_of HT_.out (by kernel_rfl)) (fun _ _ _ h => h) (Or.inl ⟨by rfl, ?_⟩) ?_ ?_
            rotate_left
            · intro w'
              go_simp
              with_reducible rfl
            rotate_left
            · simp only [Act.put, List.setIfInBounds_toArray, List.set_cons_zero, List.set_cons_succ, i64_w, i32_w]
              rfl
            refine pure_ (i := 30) (N := some 97) (v := ?_) (a' := ?_) #[true, true, true, true, true, true, true, true, true, true, true, true, true, true, true, true, true, true, true, true, true, true, true, true, true, true, true, true, true, true, true, false, false, false, false, false, false, false, false, false, false, false, false, false, false, false] rfl rfl (any_of HT_.out (by kernel_rfl)) (fun _ _ _ h => h) (Or.inl ⟨by rfl, ?_⟩) ?_ ?_
            rotate_left
            · intro w'
              go_simp
              with_reducible rfl
            rotate_left
            · simp only [Act.put, List.setIfInBounds_toArray, List.set_cons_zero, List.set_cons_succ, i64_w, i32_w]
              rfl
            refine pure_ (i := 31) (N := some 98) (v := ?_) (a' := ?_) #[true, true, true, true, true, true, true, true, true, true, true, true, true, true, true, true, true, true, true, true, true, true, true, true, true, true, true, true, true, true, true, true, false, false, false, false, false, false, false, false, false, false, false, false, false, false] rfl rfl (any_of HT_.out (by kernel_rfl)) (fun _ _ _ h => h) (Or.inl ⟨by rfl, ?_⟩) ?_ ?_
            rotate_left
            · intro w'
              go_simp
              with_reducible rfl
            rotate_left
            · simp only [Act.put, List.setIfInBounds_toArray, List.set_cons_zero, List.set_cons_succ, i64_w, i32_w]
              rfl
            refine pure_ (i := 32) (N := some 99) (v := ?_) (a' := ?_) #[true, true, true, true, true, true, true, true, true, true, true, true, true, true, true, true, true, true, true, true, true, true, true, true, true, true, true, true, true, true, true, true, true, false, false, false, false, false, false, false, false, false, false, false, false, false] rfl rfl (any_of HT_.out (by kernel_rfl)) (fun _ _ _ h => h) (Or.inl ⟨by rfl, ?_⟩) ?_ ?_
            rotate_left
            · intro w'
              go_simp
              with_reducible rfl
            rotate_left
            · simp only [Act.put, List.setIfInBounds_toArray, List.set_cons_zero, List.set_cons_succ, i64_w, i32_w]
              rfl
            refine take_ (i := 33) (N := some 100) (v := ?_) (a' := ?_) #[true, true, true, true, true, true, true, true, true, true, true, true, true, true, true, true, true, true, true, true, true, true, true, true, true, true, true, true, true, true, true, true, true, true, false, false, false, false, false, false, false, false, false, false, false, false] rfl rfl (take_ofW HT_.out HW_.out (by kernel_rfl)) (fun _ _ _ h => h) (Or.inl ⟨by rfl, ?_⟩) hHeld ?_ ?_
            rotate_left
            · rintro w' ⟨s0, s1, s2, s3, s4, s5, s6, s7, s8, s9⟩
              go_simp
              with_reducible rfl
            rotate_left
            · simp only [Act.put, List.setIfInBounds_toArray, List.set_cons_zero, List.set_cons_succ, i64_w, i32_w]
              rfl
            refine take_ (i := 34) (N := some 101) (v := ?_) (a' := ?_) #[true, true, true, true, true, true, true, true, true, true, true, true, true, true, true, true, true, true, true, true, true, true, true, true, true, true, true, true, true, true, true, true, true, true, true, false, false, false, false, false, false, false, false, false, false, false] rfl rfl (take_ofW HT_.out HW_.out (by kernel_rfl)) (fun _ _ _ h => h) (Or.inl ⟨by rfl, ?_⟩) hHeld ?_ ?_
            rotate_left
            · rintro w' ⟨s0, s1, s2, s3, s4, s5, s6, s7, s8, s9⟩
              go_simp
              with_reducible rfl
            rotate_left
            · simp only [Act.put, List.setIfInBounds_toArray, List.set_cons_zero, List.set_cons_succ, i64_w, i32_w]
              rfl
            refine one_ (i := 35) (N := some 102) #[true, true, true, true, true, true, true, true, true, true, true, true, true, true, true, true, true, true, true, true, true, true, true, true, true, true, true, true, true, true, true, true, true, true, true, true, false, false, false, false, false, false, false, false, false, false] rfl rfl (one_of HT_.out (by kernel_rfl)) (by decide) (fun K hK => ?_)
            refine goes_ Try.func45 (by kernel_rfl) rfl #[.agg #[.int .i64 (Int.tmod a0_0 1000000), .int .i64 (Int.tmod a0_1 1000000)], .agg #[.int .i64 (Int.tmod a0_0 1000000), .int .i64 (Int.tmod a0_1 1000000)]] (by rfl) rfl rfl (by (try simp only [List.map_toArray, List.map_cons, List.map_nil]); first | done | rfl | (simp only [List.length_drop, List.length_take]; rfl)) ?_
            with_reducible refine (plane_Len2.calls (Int.tmod a0_0 1000000) (Int.tmod a0_1 1000000) (Int.tmod a0_0 1000000) (Int.tmod a0_1 1000000) t156 _ A16.out).mono ?_
            rintro e w51 ⟨rfl, hb⟩
            refine ⟨_, rfl, ?_⟩
            have n0_ := Aside0.mk (blk_below (g := gb143) (o := .cells #[.int .i64 (Int.tmod a0_0 1000000), .int .i64 (Int.tmod a0_1 1000000)] 28 (0, 0)) (by (with_reducible repeat (first | refine blk_drewN ?_ _ | refine blk_drew ?_ | refine blk_alloc ?_ _)); exact BK143.out) hb)
            have n1_ := Aside0.mk (blk_below (g := gb144) (o := .cells #[.int .i64 (Int.tmod a1_0 10000), .int .i64 (Int.tmod a1_1 10000)] 28 (0, 0)) (by (with_reducible repeat (first | refine blk_drewN ?_ _ | refine blk_drew ?_ | refine blk_alloc ?_ _)); exact BK144.out) hb)
            have n2_ := Aside0.mk (blk_below (g := gb148) (o := .cells #[.int .i64 t146, .int .i64 t147] 28 (0, 0)) (by (with_reducible repeat (first | refine blk_drewN ?_ _ | refine blk_drew ?_ | refine blk_alloc ?_ _)); exact BK148.out) hb)
            have n3_ := Aside0.mk (blk_below (g := gb149) (o := .cells #[.int .i64 (wrap64 ((Int.tmod a0_0 1000000) + (wrap64 ((Int.tmod a2 100) * (Int.tmod a1_0 10000))))), .int .i64 (wrap64 ((Int.tmod a0_1 1000000) + (wrap64 ((Int.tmod a2 100) * (Int.tmod a1_1 10000)))))] 28 (0, 0)) (by (with_reducible repeat (first | refine blk_drewN ?_ _ | refine blk_drew ?_ | refine blk_alloc ?_ _)); exact BK149.out) hb)
            have n4_ := Aside0.mk (blk_below (g := gb150) (o := .cells #[.int .i64 (wrap64 ((wrap64 ((Int.tmod a0_0 1000000) + (wrap64 ((Int.tmod a2 100) * (Int.tmod a1_0 10000))))) - (wrap64 ((Int.tmod a3 1000) * (Int.tmod a1_1 10000))))), .int .i64 (wrap64 ((wrap64 ((Int.tmod a0_1 1000000) + (wrap64 ((Int.tmod a2 100) * (Int.tmod a1_1 10000))))) + (wrap64 ((Int.tmod a3 1000) * (Int.tmod a1_0 10000)))))] 28 (0, 0)) (by (with_reducible repeat (first | refine blk_drewN ?_ _ | refine blk_drew ?_ | refine blk_alloc ?_ _)); exact BK150.out) hb)
            have n5_ := Aside0.mk (below_step (by repeat (first | (with_reducible first | exact HB.out | apply below_alloc | apply pw_below_drewN | apply below_drew1 | refine below_set ?_ GE143.out | refine below_set ?_ GE144.out | refine below_set ?_ GE148.out | refine below_set ?_ GE149.out | refine below_set ?_ GE150.out) | exact HB.out)) hb)
            clear BK143
            clear BK144
            clear BK148
            clear BK149
            clear BK150
            clear HB
            have BK143 := n0_
            have BK144 := n1_
            have BK148 := n2_
            have BK149 := n3_
            have BK150 := n4_
            have HB := n5_
            clear n0_ n1_ n2_ n3_ n4_ n5_
            (try clear hb)
            (try clear hb2)
            (try clear hk)
            (try clear hi)
            refine hK.out _ _ ⟨(blk_cell BK143.out 0).trans rfl, (blk_cell BK143.out 1).trans rfl, (blk_cell BK148.out 0).trans rfl, (blk_cell BK148.out 1).trans rfl, (blk_cell BK149.out 0).trans rfl, (blk_cell BK149.out 1).trans rfl, (blk_cell BK150.out 0).trans rfl, (blk_cell BK150.out 1).trans rfl, (blk_cell BK144.out 0).trans rfl, (blk_cell BK144.out 1).trans rfl⟩ (fun hHeld => ?_)
            clear hK K
            refine norm_ (a' := ?_) ?_ ?_
            rotate_left
            · show Act.put _ (some 102) _ = _
              simp only [Act.put, List.setIfInBounds_toArray, List.set_cons_zero, List.set_cons_succ, i64_w, i32_w]
              rfl
            refine pure_ (i := 36) (N := some 103) (v := ?_) (a' := ?_) #[true, true, true, true, true, true, true, true, true, true, true, true, true, true, true, true, true, true, true, true, true, true, true, true, true, true, true, true, true, true, true, true, true, true, true, true, true, false, false, false, false, false, false, false, false, false] rfl rfl (any_of HT_.out (by kernel_rfl)) (fun _ _ _ h => h) (Or.inl ⟨by rfl, ?_⟩) ?_ ?_
            rotate_left
            · intro w'
              go_simp
              with_reducible rfl
            rotate_left
            · simp only [Act.put, List.setIfInBounds_toArray, List.set_cons_zero, List.set_cons_succ, i64_w, i32_w]
              rfl
            refine pure_ (i := 37) (N := some 104) (v := ?_) (a' := ?_) #[true, true, true, true, true, true, true, true, true, true, true, true, true, true, true, true, true, true, true, true, true, true, true, true, true, true, true, true, true, true, true, true, true, true, true, true, true, true, false, false, false, false, false, false, false, false] rfl rfl (any_of HT_.out (by kernel_rfl)) (fun _ _ _ h => h) (Or.inl ⟨by rfl, ?_⟩) ?_ ?_
            rotate_left
            · intro w'
              go_simp
              with_reducible rfl
            rotate_left
            · simp only [Act.put, List.setIfInBounds_toArray, List.set_cons_zero, List.set_cons_succ, i64_w, i32_w]
              rfl
            refine pure_ (i := 38) (N := some 105) (v := ?_) (a' := ?_) #[true, true, true, true, true, true, true, true, true, true, true, true, true, true, true, true, true, true, true, true, true, true, true, true, true, true, true, true, true, true, true, true, true, true, true, true, true, true, true, false, false, false, false, false, false, false] rfl rfl (any_of HT_.out (by kernel_rfl)) (fun _ _ _ h => h) (Or.inl ⟨by rfl, ?_⟩) ?_ ?_
            rotate_left
            · intro w'
              go_simp
              with_reducible rfl
            rotate_left
            · simp only [Act.put, List.setIfInBounds_toArray, List.set_cons_zero, List.set_cons_succ, i64_w, i32_w]
              rfl
            refine take_ (i := 39) (N := some 106) (v := ?_) (a' := ?_) #[true, true, true, true, true, true, true, true, true, true, true, true, true, true, true, true, true, true, true, true, true, true, true, true, true, true, true, true, true, true, true, true, true, true, true, true, true, true, true, true, false, false, false, false, false, false] rfl rfl (take_ofW HT_.out HW_.out (by kernel_rfl)) (fun _ _ _ h => h) (Or.inl ⟨by rfl, ?_⟩) hHeld ?_ ?_
            rotate_left
            · rintro w' ⟨s0, s1, s2, s3, s4, s5, s6, s7, s8, s9⟩
              go_simp
              with_reducible rfl
            rotate_left
            · simp only [Act.put, List.setIfInBounds_toArray, List.set_cons_zero, List.set_cons_succ, i64_w, i32_w]
              rfl
            refine take_ (i := 40) (N := some 107) (v := ?_) (a' := ?_) #[true, true, true, true, true, true, true, true, true, true, true, true, true, true, true, true, true, true, true, true, true, true, true, true, true, true, true, true, true, true, true, true, true, true, true, true, true, true, true, true, true, false, false, false, false, false] rfl rfl (take_ofW HT_.out HW_.out (by kernel_rfl)) (fun _ _ _ h => h) (Or.inl ⟨by rfl, ?_⟩) hHeld ?_ ?_
            rotate_left
            · rintro w' ⟨s0, s1, s2, s3, s4, s5, s6, s7, s8, s9⟩
              go_simp
              with_reducible rfl
            rotate_left
            · simp only [Act.put, List.setIfInBounds_toArray, List.set_cons_zero, List.set_cons_succ, i64_w, i32_w]
              rfl
            refine take_ (i := 42) (N := some 109) (v := ?_) (a' := ?_) #[true, true, true, true, true, true, true, true, true, true, true, true, true, true, true, true, true, true, true, true, true, true, true, true, true, true, true, true, true, true, true, true, true, true, true, true, true, true, true, true, true, false, true, false, false, false] rfl rfl (take_ofW HT_.out HW_.out (by kernel_rfl)) (fun _ _ _ h => h) (Or.inl ⟨by rfl, ?_⟩) hHeld ?_ ?_
            rotate_left
            · rintro w' ⟨s0, s1, s2, s3, s4, s5, s6, s7, s8, s9⟩
              go_simp
              with_reducible rfl
            rotate_left
            · simp only [Act.put, List.setIfInBounds_toArray, List.set_cons_zero, List.set_cons_succ, i64_w, i32_w]
              rfl
            refine one_ (i := 41) (N := some 108) #[true, true, true, true, true, true, true, true, true, true, true, true, true, true, true, true, true, true, true, true, true, true, true, true, true, true, true, true, true, true, true, true, true, true, true, true, true, true, true, true, true, true, true, false, false, false] rfl rfl (one_of HT_.out (by kernel_rfl)) (by decide) (fun K hK => ?_)
            refine goes_ Try.func48 (by kernel_rfl) rfl #[.agg #[.int .i64 t146, .int .i64 t147], .agg #[.int .i64 (Int.tmod a0_0 1000000), .int .i64 (Int.tmod a0_1 1000000)]] (by rfl) rfl rfl (by (try simp only [List.map_toArray, List.map_cons, List.map_nil]); first | done | rfl | (simp only [List.length_drop, List.length_take]; rfl)) ?_
            with_reducible refine (plane_Sub.calls t146 t147 (Int.tmod a0_0 1000000) (Int.tmod a0_1 1000000) t157 t158 _ A18.out).mono ?_
            rintro e w52 ⟨rfl, hb⟩
            refine ⟨_, rfl, ?_⟩
            have n0_ := Aside0.mk (blk_below (g := gb143) (o := .cells #[.int .i64 (Int.tmod a0_0 1000000), .int .i64 (Int.tmod a0_1 1000000)] 28 (0, 0)) (by (with_reducible repeat (first | refine blk_drewN ?_ _ | refine blk_drew ?_ | refine blk_alloc ?_ _)); exact BK143.out) hb)
            have n1_ := Aside0.mk (blk_below (g := gb144) (o := .cells #[.int .i64 (Int.tmod a1_0 10000), .int .i64 (Int.tmod a1_1 10000)] 28 (0, 0)) (by (with_reducible repeat (first | refine blk_drewN ?_ _ | refine blk_drew ?_ | refine blk_alloc ?_ _)); exact BK144.out) hb)
            have n2_ := Aside0.mk (blk_below (g := gb148) (o := .cells #[.int .i64 t146, .int .i64 t147] 28 (0, 0)) (by (with_reducible repeat (first | refine blk_drewN ?_ _ | refine blk_drew ?_ | refine blk_alloc ?_ _)); exact BK148.out) hb)
            have n3_ := Aside0.mk (blk_below (g := gb149) (o := .cells #[.int .i64 (wrap64 ((Int.tmod a0_0 1000000) + (wrap64 ((Int.tmod a2 100) * (Int.tmod a1_0 10000))))), .int .i64 (wrap64 ((Int.tmod a0_1 1000000) + (wrap64 ((Int.tmod a2 100) * (Int.tmod a1_1 10000)))))] 28 (0, 0)) (by (with_reducible repeat (first | refine blk_drewN ?_ _ | refine blk_drew ?_ | refine blk_alloc ?_ _)); exact BK149.out) hb)
            have n4_ := Aside0.mk (blk_below (g := gb150) (o := .cells #[.int .i64 (wrap64 ((wrap64 ((Int.tmod a0_0 1000000) + (wrap64 ((Int.tmod a2 100) * (Int.tmod a1_0 10000))))) - (wrap64 ((Int.tmod a3 1000) * (Int.tmod a1_1 10000))))), .int .i64 (wrap64 ((wrap64 ((Int.tmod a0_1 1000000) + (wrap64 ((Int.tmod a2 100) * (Int.tmod a1_1 10000))))) + (wrap64 ((Int.tmod a3 1000) * (Int.tmod a1_0 10000)))))] 28 (0, 0)) (by (with_reducible repeat (first | refine blk_drewN ?_ _ | refine blk_drew ?_ | refine blk_alloc ?_ _)); exact BK150.out) hb)
            have n5_ := Aside0.mk (below_step (by repeat (first | (with_reducible first | exact HB.out | apply below_alloc | apply pw_below_drewN | apply below_drew1 | refine below_set ?_ GE143.out | refine below_set ?_ GE144.out | refine below_set ?_ GE148.out | refine below_set ?_ GE149.out | refine below_set ?_ GE150.out) | exact HB.out)) hb)
            clear BK143
            clear BK144
            clear BK148
            clear BK149
            clear BK150
            clear HB
            have BK143 := n0_
            have BK144 := n1_
            have BK148 := n2_
            have BK149 := n3_
            have BK150 := n4_
            have HB := n5_
            clear n0_ n1_ n2_ n3_ n4_ n5_
            (try clear hb)
            (try clear hb2)
            (try clear hk)
            (try clear hi)
            refine hK.out _ _ ⟨(blk_cell BK143.out 0).trans rfl, (blk_cell BK143.out 1).trans rfl, (blk_cell BK148.out 0).trans rfl, (blk_cell BK148.out 1).trans rfl, (blk_cell BK149.out 0).trans rfl, (blk_cell BK149.out 1).trans rfl, (blk_cell BK150.out 0).trans rfl, (blk_cell BK150.out 1).trans rfl, (blk_cell BK144.out 0).trans rfl, (blk_cell BK144.out 1).trans rfl⟩ (fun hHeld => ?_)
            clear hK K
            refine norm_ (a' := ?_) ?_ ?_
            rotate_left
            · show Act.put _ (some 108) _ = _
              simp only [Act.put, List.setIfInBounds_toArray, List.set_cons_zero, List.set_cons_succ, i64_w, i32_w]
              rfl
            refine pure_ (i := 43) (N := some 110) (v := ?_) (a' := ?_) #[true, true, true, true, true, true, true, true, true, true, true, true, true, true, true, true, true, true, true, true, true, true, true, true, true, true, true, true, true, true, true, true, true, true, true, true, true, true, true, true, true, true, true, true, false, false] rfl rfl (any_of HT_.out (by kernel_rfl)) (fun _ _ _ h => h) (Or.inl ⟨by rfl, ?_⟩) ?_ ?_
            rotate_left
            · intro w'
              go_simp
              with_reducible rfl
            rotate_left
            · simp only [Act.put, List.setIfInBounds_toArray, List.set_cons_zero, List.set_cons_succ, i64_w, i32_w]
              rfl
            refine pure_ (i := 44) (N := some 111) (v := ?_) (a' := ?_) #[true, true, true, true, true, true, true, true, true, true, true, true, true, true, true, true, true, true, true, true, true, true, true, true, true, true, true, true, true, true, true, true, true, true, true, true, true, true, true, true, true, true, true, true, true, false] rfl rfl (any_of HT_.out (by kernel_rfl)) (fun _ _ _ h => h) (Or.inl ⟨by rfl, ?_⟩) ?_ ?_
            rotate_left
            · intro w'
              go_simp
              with_reducible rfl
            rotate_left
            · simp only [Act.put, List.setIfInBounds_toArray, List.set_cons_zero, List.set_cons_succ, i64_w, i32_w]
              rfl
            refine pure_ (i := 45) (N := some 8) (v := ?_) (a' := ?_) #[true, true, true, true, true, true, true, true, true, true, true, true, true, true, true, true, true, true, true, true, true, true, true, true, true, true, true, true, true, true, true, true, true, true, true, true, true, true, true, true, true, true, true, true, true, true] rfl rfl (any_of HT_.out (by kernel_rfl)) (fun _ _ _ h => h) (Or.inl ⟨by rfl, ?_⟩) ?_ ?_
            rotate_left
            · intro w'
              go_simp
              with_reducible rfl
            rotate_left
            · simp only [Act.put, List.setIfInBounds_toArray, List.set_cons_zero, List.set_cons_succ, i64_w, i32_w]
              rfl
            refine done_ (done_of HT_.out (by kernel_rfl)) ?_
            try go_wp2
            go_ret
            exact ⟨by first | rfl | (simp [errW_none, errW_some] <;> rfl) | (simp [*, errW_none, errW_some] <;> rfl), by repeat (first | (with_reducible first | exact HB.out | apply below_alloc | apply pw_below_drewN | apply below_drew1 | refine below_set ?_ GE143.out | refine below_set ?_ GE144.out | refine below_set ?_ GE148.out | refine below_set ?_ GE149.out | refine below_set ?_ GE150.out) | exact HB.out)⟩
          · rw [if_neg c17] at H
            have c17b0 : (t156 == 0) = false := beq_eq_false_iff_ne.mpr c17
            have c17b1 : (t156 != 0) = true := bne_iff_ne.mpr c17
            exact absurd ((Option.some.inj H).trans hr0_.out) (by decide)
        · rw [if_neg c15] at H
          have c15b0 : (t154 == (wrap64 ((Int.tmod a2 100) * t155))) = false := beq_eq_false_iff_ne.mpr c15
          have c15b1 : (t154 != (wrap64 ((Int.tmod a2 100) * t155))) = true := bne_iff_ne.mpr c15
          exact absurd ((Option.some.inj H).trans hr0_.out) (by decide)
      · rw [if_neg c12] at H
        have c12b0 : (t152 == (wrap64 ((Int.tmod a3 1000) * t153))) = false := beq_eq_false_iff_ne.mpr c12
        have c12b1 : (t152 != (wrap64 ((Int.tmod a3 1000) * t153))) = true := bne_iff_ne.mpr c12
        exact absurd ((Option.some.inj H).trans hr0_.out) (by decide)
    · rw [if_neg c9] at H
      have c9b0 : (t151 == 0) = false := beq_eq_false_iff_ne.mpr c9
      have c9b1 : (t151 != 0) = true := bne_iff_ne.mpr c9
      exact absurd ((Option.some.inj H).trans hr0_.out) (by decide)
  · replace c6 := Bool.eq_false_iff.mpr c6
    subst c6
    have H1 : (some false) = some r := by rw [if_neg (show ¬ (false = true) by decide)] at H; exact H
    clear H
    have H := H1
    clear H1
    exact absurd ((Option.some.inj H).trans hr0_.out) (by decide)

/-- THE ONE PURE STATEMENT of glyphiclaw4_PlaneSides: yours. -/
def glyphiclaw4_PlaneSides.Pure : Prop := ∀ (a0_0 : Int) (a0_1 : Int) (a1_0 : Int) (a1_1 : Int) (a2 : Int) (a3 : Int), (Lit.int .i64 a0_0).wf = true → (Lit.int .i64 a0_1).wf = true → (Lit.int .i64 a1_0).wf = true → (Lit.int .i64 a1_1).wf = true → (Lit.int .i64 a2).wf = true → (Lit.int .i64 a3).wf = true → glyphiclaw4_PlaneSides.f a0_0 a0_1 a1_0 a1_1 a2 a3 = some true
theorem glyphiclaw4_PlaneSides.walk (P : glyphiclaw4_PlaneSides.Pure) (a0_0 : Int) (a0_1 : Int) (a1_0 : Int) (a1_1 : Int) (a2 : Int) (a3 : Int) (w : World) (w0_0 : (Lit.int .i64 a0_0).wf = true) (w0_1 : (Lit.int .i64 a0_1).wf = true) (w1_0 : (Lit.int .i64 a1_0).wf = true) (w1_1 : (Lit.int .i64 a1_1).wf = true) (w2 : (Lit.int .i64 a2).wf = true) (w3 : (Lit.int .i64 a3).wf = true) :
    Calls Try.prog 14 #[.agg #[.int .i64 a0_0, .int .i64 a0_1], .agg #[.int .i64 a1_0, .int .i64 a1_1], .int .i64 a2, .int .i64 a3] w fun e w' => e = .returned (.bool true) ∧ Below w.heap.size w w' := by
  have h := P a0_0 a0_1 a1_0 a1_1 a2 a3 w0_0 w0_1 w1_0 w1_1 w2 w3
  refine (glyphiclaw4_PlaneSides.calls a0_0 a0_1 a1_0 a1_1 a2 a3 true w (Aside0.mk rfl) h).mono ?_
  rintro e w' ⟨rfl, hd⟩
  exact ⟨rfl, hd⟩

end Go.Proofs.Ytgaikembekkfiaa.QPlaneSides
