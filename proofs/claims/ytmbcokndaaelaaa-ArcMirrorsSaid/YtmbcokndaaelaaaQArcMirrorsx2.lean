/- Functions of a Go program as Lean functions, each with its walk, or the row of a law. Written by a program of this session after the pattern of the print. -/
import Derived.Test.YtmbcokndaaelaaaQArcMirrorsx0
import Derived.Test.YtmbcokndaaelaaaQArcMirrorsx1
namespace Go.Proofs.Ytmbcokndaaelaaa.QArcMirrors
open Go.RowKit Go.Proofs.YtmbcokndaaelaaaW.PrintWords Go.Proofs.YtmbcokndaaelaaaW.PrintLast Go.Proofs.YtmbcokndaaelaaaW.PrintMore
attribute [local go_sem] max2_int min2_int max_two min_two max_three min_three max_four min_four   -- for this text's walks alone
set_option linter.unusedVariables false
set_option linter.unusedSimpArgs false

/-! ### glyphiclaw14_ArcMirrors: function 4 -/
def glyphiclaw14_ArcMirrors.f (a0_0 : Int) (a0_1 : Int) (a1_0 : Int) (a1_1 : Int) (a2 : Bool) : Option (Bool) := (glyphiclaw14_first.f).bind fun t129 => (if t129 = true then ((arc_Cubic.f (Int.tmod a0_0 1000000000) (Int.tmod a0_1 1000000000) (Int.tmod a1_0 1000000000) (Int.tmod a1_1 1000000000) a2).bind fun bt130 => ((arc_Cubic.f (Int.tmod a1_0 1000000000) (Int.tmod a1_1 1000000000) (Int.tmod a0_0 1000000000) (Int.tmod a0_1 1000000000) (!a2)).bind fun bt135 => ((glyphiclaw14_swap.f (Int.tmod a0_0 1000000000) (Int.tmod a0_1 1000000000)).bind fun bt140 => ((glyphiclaw14_swap.f (Int.tmod a1_0 1000000000) (Int.tmod a1_1 1000000000)).bind fun bt142 => ((arc_Cubic.f bt140.1 bt140.2 bt142.1 bt142.2 (!a2)).bind fun bt144 => ((glyphiclaw14_close.f bt130.1 bt130.2.1 bt135.2.2.1 bt135.2.2.2).bind fun t149 => (if t149 = true then ((glyphiclaw14_close.f bt130.2.2.1 bt130.2.2.2 bt135.1 bt135.2.1).bind fun t150 => (if t150 = true then ((glyphiclaw14_swap.f bt144.1 bt144.2.1).bind fun bt151 => ((glyphicref_SamePoint.f bt151.1 bt151.2 bt130.1 bt130.2.1).bind fun t153 => (if t153 = true then ((glyphiclaw14_swap.f bt144.2.2.1 bt144.2.2.2).bind fun bt154 => ((glyphicref_SamePoint.f bt154.1 bt154.2 bt130.2.2.1 bt130.2.2.2).bind fun t156 => (some t156))) else (some false)))) else (some false))) else (some false)))))))) else (some false))
def glyphiclaw14_ArcMirrors.T8 : Bool × List (List Nat × List Nat) := (true, [([], []), ([0], [0]), ([], []), ([2, 1], [2]), ([], []), ([4], [4]), ([1, 3, 5, 3], [1, 3, 5]), ([], []), ([7, 6, 6, 0, 1, 2, 3, 4, 5, 6, 7], [6, 7])])
def glyphiclaw14_ArcMirrors.B8 : List Nat := [0, 1, 0, 7, 0, 16, 63, 0, 255]
theorem glyphiclaw14_ArcMirrors.tab8 : rtab .any (opsOf Try.f4 8) = glyphiclaw14_ArcMirrors.T8 := by kernel_rfl
theorem glyphiclaw14_ArcMirrors.bits8 : waitsOk glyphiclaw14_ArcMirrors.T8.2 glyphiclaw14_ArcMirrors.B8 = true := by kernel_rfl
def glyphiclaw14_ArcMirrors.T9 : Bool × List (List Nat × List Nat) := (true, [([], []), ([0], [0]), ([1], [1]), ([2, 1], [1, 2]), ([1], [1]), ([4, 1], [1, 4]), ([3, 5, 1, 1], [1, 3, 5]), ([1, 6], [1, 6]), ([7, 6], [7]), ([8], [8]), ([9, 8], [8, 9]), ([8], [8]), ([11, 8], [8, 11]), ([10, 12, 8, 8], [8, 10, 12]), ([8, 13], [8, 13]), ([14, 13], [14]), ([15], [15]), ([16, 15], [15, 16]), ([17, 15, 15], [15, 17]), ([15], [15]), ([19, 15], [15, 19]), ([18, 20, 18, 15], [15, 18, 20]), ([15, 21], [15, 21]), ([22, 21], [22]), ([23], [23]), ([24, 23], [23, 24]), ([25, 23, 23], [23, 25]), ([23], [23]), ([27, 23], [23, 27]), ([26, 28, 26, 23], [23, 26, 28]), ([23, 29], [23, 29]), ([30, 29, 0, 1, 2, 3, 4, 5, 6, 7, 8, 9, 10, 11, 12, 13, 14, 15, 16, 17, 18, 19, 20, 21, 22, 23, 24, 25, 26, 27, 28, 29, 30], [30])])
def glyphiclaw14_ArcMirrors.B9 : List Nat := [0, 1, 3, 7, 3, 19, 63, 127, 255, 511, 1023, 511, 2559, 8191, 16383, 32767, 65535, 131071, 262143, 65535, 589823, 2097151, 4194303, 8388607, 16777215, 33554431, 67108863, 16777215, 150994943, 536870911, 1073741823, 2147483647]
theorem glyphiclaw14_ArcMirrors.tab9 : rtab .any (opsOf Try.f4 9) = glyphiclaw14_ArcMirrors.T9 := by kernel_rfl
theorem glyphiclaw14_ArcMirrors.bits9 : waitsOk glyphiclaw14_ArcMirrors.T9.2 glyphiclaw14_ArcMirrors.B9 = true := by kernel_rfl
set_option maxHeartbeats 8000000 in
set_option maxRecDepth 100000 in
theorem glyphiclaw14_ArcMirrors.calls (a0_0 : Int) (a0_1 : Int) (a1_0 : Int) (a1_1 : Int) (a2 : Bool) (r : Bool) (w : World) (hr0_ : Aside0 (r = true)) (h : glyphiclaw14_ArcMirrors.f a0_0 a0_1 a1_0 a1_1 a2 = some r) :
    Calls Try.prog 4 #[.agg #[.int .i64 a0_0, .int .i64 a0_1], .agg #[.int .i64 a1_0, .int .i64 a1_1], .bool a2] w fun e w' => e = .returned (.bool r) ∧ Below w.heap.size w w' := by
  have hu24 := Try.underlying24
  have hu25 := Try.underlying25
  have HB := Aside0.mk (Below.refl w.heap.size w)
  have H : ((glyphiclaw14_first.f).bind fun t129 => (if t129 = true then ((arc_Cubic.f (Int.tmod a0_0 1000000000) (Int.tmod a0_1 1000000000) (Int.tmod a1_0 1000000000) (Int.tmod a1_1 1000000000) a2).bind fun bt130 => ((arc_Cubic.f (Int.tmod a1_0 1000000000) (Int.tmod a1_1 1000000000) (Int.tmod a0_0 1000000000) (Int.tmod a0_1 1000000000) (!a2)).bind fun bt135 => ((glyphiclaw14_swap.f (Int.tmod a0_0 1000000000) (Int.tmod a0_1 1000000000)).bind fun bt140 => ((glyphiclaw14_swap.f (Int.tmod a1_0 1000000000) (Int.tmod a1_1 1000000000)).bind fun bt142 => ((arc_Cubic.f bt140.1 bt140.2 bt142.1 bt142.2 (!a2)).bind fun bt144 => ((glyphiclaw14_close.f bt130.1 bt130.2.1 bt135.2.2.1 bt135.2.2.2).bind fun t149 => (if t149 = true then ((glyphiclaw14_close.f bt130.2.2.1 bt130.2.2.2 bt135.1 bt135.2.1).bind fun t150 => (if t150 = true then ((glyphiclaw14_swap.f bt144.1 bt144.2.1).bind fun bt151 => ((glyphicref_SamePoint.f bt151.1 bt151.2 bt130.1 bt130.2.1).bind fun t153 => (if t153 = true then ((glyphiclaw14_swap.f bt144.2.2.1 bt144.2.2.2).bind fun bt154 => ((glyphicref_SamePoint.f bt154.1 bt154.2 bt130.2.2.1 bt130.2.2.2).bind fun t156 => (some t156))) else (some false)))) else (some false))) else (some false)))))))) else (some false))) = some r := h
  clear h
  replace H := Option.bind_eq_some_iff.mp H
  obtain ⟨t129, A40, H⟩ := H
  replace H : (if t129 = true then ((arc_Cubic.f (Int.tmod a0_0 1000000000) (Int.tmod a0_1 1000000000) (Int.tmod a1_0 1000000000) (Int.tmod a1_1 1000000000) a2).bind fun bt130 => ((arc_Cubic.f (Int.tmod a1_0 1000000000) (Int.tmod a1_1 1000000000) (Int.tmod a0_0 1000000000) (Int.tmod a0_1 1000000000) (!a2)).bind fun bt135 => ((glyphiclaw14_swap.f (Int.tmod a0_0 1000000000) (Int.tmod a0_1 1000000000)).bind fun bt140 => ((glyphiclaw14_swap.f (Int.tmod a1_0 1000000000) (Int.tmod a1_1 1000000000)).bind fun bt142 => ((arc_Cubic.f bt140.1 bt140.2 bt142.1 bt142.2 (!a2)).bind fun bt144 => ((glyphiclaw14_close.f bt130.1 bt130.2.1 bt135.2.2.1 bt135.2.2.2).bind fun t149 => (if t149 = true then ((glyphiclaw14_close.f bt130.2.2.1 bt130.2.2.2 bt135.1 bt135.2.1).bind fun t150 => (if t150 = true then ((glyphiclaw14_swap.f bt144.1 bt144.2.1).bind fun bt151 => ((glyphicref_SamePoint.f bt151.1 bt151.2 bt130.1 bt130.2.1).bind fun t153 => (if t153 = true then ((glyphiclaw14_swap.f bt144.2.2.1 bt144.2.2.2).bind fun bt154 => ((glyphicref_SamePoint.f bt154.1 bt154.2 bt130.2.2.1 bt130.2.2.2).bind fun t156 => (some t156))) else (some false)))) else (some false))) else (some false)))))))) else (some false)) = some r := H
  have A4 := Aside0.mk A40
  clear A40
  by_cases c5 : t129 = true
  · subst c5
    have H1 : ((arc_Cubic.f (Int.tmod a0_0 1000000000) (Int.tmod a0_1 1000000000) (Int.tmod a1_0 1000000000) (Int.tmod a1_1 1000000000) a2).bind fun bt130 => ((arc_Cubic.f (Int.tmod a1_0 1000000000) (Int.tmod a1_1 1000000000) (Int.tmod a0_0 1000000000) (Int.tmod a0_1 1000000000) (!a2)).bind fun bt135 => ((glyphiclaw14_swap.f (Int.tmod a0_0 1000000000) (Int.tmod a0_1 1000000000)).bind fun bt140 => ((glyphiclaw14_swap.f (Int.tmod a1_0 1000000000) (Int.tmod a1_1 1000000000)).bind fun bt142 => ((arc_Cubic.f bt140.1 bt140.2 bt142.1 bt142.2 (!a2)).bind fun bt144 => ((glyphiclaw14_close.f bt130.1 bt130.2.1 bt135.2.2.1 bt135.2.2.2).bind fun t149 => (if t149 = true then ((glyphiclaw14_close.f bt130.2.2.1 bt130.2.2.2 bt135.1 bt135.2.1).bind fun t150 => (if t150 = true then ((glyphiclaw14_swap.f bt144.1 bt144.2.1).bind fun bt151 => ((glyphicref_SamePoint.f bt151.1 bt151.2 bt130.1 bt130.2.1).bind fun t153 => (if t153 = true then ((glyphiclaw14_swap.f bt144.2.2.1 bt144.2.2.2).bind fun bt154 => ((glyphicref_SamePoint.f bt154.1 bt154.2 bt130.2.2.1 bt130.2.2.2).bind fun t156 => (some t156))) else (some false)))) else (some false))) else (some false)))))))) = some r := by rw [if_pos rfl] at H; exact H
    clear H
    have H := H1
    clear H1
    replace H := Option.bind_eq_some_iff.mp H
    obtain ⟨⟨t130, t131, t132, t133⟩, A60, H⟩ := H
    replace H : ((arc_Cubic.f (Int.tmod a1_0 1000000000) (Int.tmod a1_1 1000000000) (Int.tmod a0_0 1000000000) (Int.tmod a0_1 1000000000) (!a2)).bind fun bt135 => ((glyphiclaw14_swap.f (Int.tmod a0_0 1000000000) (Int.tmod a0_1 1000000000)).bind fun bt140 => ((glyphiclaw14_swap.f (Int.tmod a1_0 1000000000) (Int.tmod a1_1 1000000000)).bind fun bt142 => ((arc_Cubic.f bt140.1 bt140.2 bt142.1 bt142.2 (!a2)).bind fun bt144 => ((glyphiclaw14_close.f t130 t131 bt135.2.2.1 bt135.2.2.2).bind fun t149 => (if t149 = true then ((glyphiclaw14_close.f t132 t133 bt135.1 bt135.2.1).bind fun t150 => (if t150 = true then ((glyphiclaw14_swap.f bt144.1 bt144.2.1).bind fun bt151 => ((glyphicref_SamePoint.f bt151.1 bt151.2 t130 t131).bind fun t153 => (if t153 = true then ((glyphiclaw14_swap.f bt144.2.2.1 bt144.2.2.2).bind fun bt154 => ((glyphicref_SamePoint.f bt154.1 bt154.2 t132 t133).bind fun t156 => (some t156))) else (some false)))) else (some false))) else (some false))))))) = some r := H
    have A6 := Aside0.mk A60
    clear A60
    replace H := Option.bind_eq_some_iff.mp H
    obtain ⟨⟨t135, t136, t137, t138⟩, A70, H⟩ := H
    replace H : ((glyphiclaw14_swap.f (Int.tmod a0_0 1000000000) (Int.tmod a0_1 1000000000)).bind fun bt140 => ((glyphiclaw14_swap.f (Int.tmod a1_0 1000000000) (Int.tmod a1_1 1000000000)).bind fun bt142 => ((arc_Cubic.f bt140.1 bt140.2 bt142.1 bt142.2 (!a2)).bind fun bt144 => ((glyphiclaw14_close.f t130 t131 t137 t138).bind fun t149 => (if t149 = true then ((glyphiclaw14_close.f t132 t133 t135 t136).bind fun t150 => (if t150 = true then ((glyphiclaw14_swap.f bt144.1 bt144.2.1).bind fun bt151 => ((glyphicref_SamePoint.f bt151.1 bt151.2 t130 t131).bind fun t153 => (if t153 = true then ((glyphiclaw14_swap.f bt144.2.2.1 bt144.2.2.2).bind fun bt154 => ((glyphicref_SamePoint.f bt154.1 bt154.2 t132 t133).bind fun t156 => (some t156))) else (some false)))) else (some false))) else (some false)))))) = some r := H
    have A7 := Aside0.mk A70
    clear A70
    replace H := Option.bind_eq_some_iff.mp H
    obtain ⟨⟨t140, t141⟩, A80, H⟩ := H
    replace H : ((glyphiclaw14_swap.f (Int.tmod a1_0 1000000000) (Int.tmod a1_1 1000000000)).bind fun bt142 => ((arc_Cubic.f t140 t141 bt142.1 bt142.2 (!a2)).bind fun bt144 => ((glyphiclaw14_close.f t130 t131 t137 t138).bind fun t149 => (if t149 = true then ((glyphiclaw14_close.f t132 t133 t135 t136).bind fun t150 => (if t150 = true then ((glyphiclaw14_swap.f bt144.1 bt144.2.1).bind fun bt151 => ((glyphicref_SamePoint.f bt151.1 bt151.2 t130 t131).bind fun t153 => (if t153 = true then ((glyphiclaw14_swap.f bt144.2.2.1 bt144.2.2.2).bind fun bt154 => ((glyphicref_SamePoint.f bt154.1 bt154.2 t132 t133).bind fun t156 => (some t156))) else (some false)))) else (some false))) else (some false))))) = some r := H
    have A8 := Aside0.mk A80
    clear A80
    replace H := Option.bind_eq_some_iff.mp H
    obtain ⟨⟨t142, t143⟩, A90, H⟩ := H
    replace H : ((arc_Cubic.f t140 t141 t142 t143 (!a2)).bind fun bt144 => ((glyphiclaw14_close.f t130 t131 t137 t138).bind fun t149 => (if t149 = true then ((glyphiclaw14_close.f t132 t133 t135 t136).bind fun t150 => (if t150 = true then ((glyphiclaw14_swap.f bt144.1 bt144.2.1).bind fun bt151 => ((glyphicref_SamePoint.f bt151.1 bt151.2 t130 t131).bind fun t153 => (if t153 = true then ((glyphiclaw14_swap.f bt144.2.2.1 bt144.2.2.2).bind fun bt154 => ((glyphicref_SamePoint.f bt154.1 bt154.2 t132 t133).bind fun t156 => (some t156))) else (some false)))) else (some false))) else (some false)))) = some r := H
    have A9 := Aside0.mk A90
    clear A90
    replace H := Option.bind_eq_some_iff.mp H
    obtain ⟨⟨t144, t145, t146, t147⟩, A100, H⟩ := H
    replace H : ((glyphiclaw14_close.f t130 t131 t137 t138).bind fun t149 => (if t149 = true then ((glyphiclaw14_close.f t132 t133 t135 t136).bind fun t150 => (if t150 = true then ((glyphiclaw14_swap.f t144 t145).bind fun bt151 => ((glyphicref_SamePoint.f bt151.1 bt151.2 t130 t131).bind fun t153 => (if t153 = true then ((glyphiclaw14_swap.f t146 t147).bind fun bt154 => ((glyphicref_SamePoint.f bt154.1 bt154.2 t132 t133).bind fun t156 => (some t156))) else (some false)))) else (some false))) else (some false))) = some r := H
    have A10 := Aside0.mk A100
    clear A100
    replace H := Option.bind_eq_some_iff.mp H
    obtain ⟨t149, A110, H⟩ := H
    replace H : (if t149 = true then ((glyphiclaw14_close.f t132 t133 t135 t136).bind fun t150 => (if t150 = true then ((glyphiclaw14_swap.f t144 t145).bind fun bt151 => ((glyphicref_SamePoint.f bt151.1 bt151.2 t130 t131).bind fun t153 => (if t153 = true then ((glyphiclaw14_swap.f t146 t147).bind fun bt154 => ((glyphicref_SamePoint.f bt154.1 bt154.2 t132 t133).bind fun t156 => (some t156))) else (some false)))) else (some false))) else (some false)) = some r := H
    have A11 := Aside0.mk A110
    clear A110
    by_cases c12 : t149 = true
    · subst c12
      have H1 : ((glyphiclaw14_close.f t132 t133 t135 t136).bind fun t150 => (if t150 = true then ((glyphiclaw14_swap.f t144 t145).bind fun bt151 => ((glyphicref_SamePoint.f bt151.1 bt151.2 t130 t131).bind fun t153 => (if t153 = true then ((glyphiclaw14_swap.f t146 t147).bind fun bt154 => ((glyphicref_SamePoint.f bt154.1 bt154.2 t132 t133).bind fun t156 => (some t156))) else (some false)))) else (some false))) = some r := by rw [if_pos rfl] at H; exact H
      clear H
      have H := H1
      clear H1
      replace H := Option.bind_eq_some_iff.mp H
      obtain ⟨t150, A130, H⟩ := H
      replace H : (if t150 = true then ((glyphiclaw14_swap.f t144 t145).bind fun bt151 => ((glyphicref_SamePoint.f bt151.1 bt151.2 t130 t131).bind fun t153 => (if t153 = true then ((glyphiclaw14_swap.f t146 t147).bind fun bt154 => ((glyphicref_SamePoint.f bt154.1 bt154.2 t132 t133).bind fun t156 => (some t156))) else (some false)))) else (some false)) = some r := H
      have A13 := Aside0.mk A130
      clear A130
      by_cases c14 : t150 = true
      · subst c14
        have H1 : ((glyphiclaw14_swap.f t144 t145).bind fun bt151 => ((glyphicref_SamePoint.f bt151.1 bt151.2 t130 t131).bind fun t153 => (if t153 = true then ((glyphiclaw14_swap.f t146 t147).bind fun bt154 => ((glyphicref_SamePoint.f bt154.1 bt154.2 t132 t133).bind fun t156 => (some t156))) else (some false)))) = some r := by rw [if_pos rfl] at H; exact H
        clear H
        have H := H1
        clear H1
        replace H := Option.bind_eq_some_iff.mp H
        obtain ⟨⟨t151, t152⟩, A150, H⟩ := H
        replace H : ((glyphicref_SamePoint.f t151 t152 t130 t131).bind fun t153 => (if t153 = true then ((glyphiclaw14_swap.f t146 t147).bind fun bt154 => ((glyphicref_SamePoint.f bt154.1 bt154.2 t132 t133).bind fun t156 => (some t156))) else (some false))) = some r := H
        have A15 := Aside0.mk A150
        clear A150
        replace H := Option.bind_eq_some_iff.mp H
        obtain ⟨t153, A160, H⟩ := H
        replace H : (if t153 = true then ((glyphiclaw14_swap.f t146 t147).bind fun bt154 => ((glyphicref_SamePoint.f bt154.1 bt154.2 t132 t133).bind fun t156 => (some t156))) else (some false)) = some r := H
        have A16 := Aside0.mk A160
        clear A160
        by_cases c17 : t153 = true
        · subst c17
          have H1 : ((glyphiclaw14_swap.f t146 t147).bind fun bt154 => ((glyphicref_SamePoint.f bt154.1 bt154.2 t132 t133).bind fun t156 => (some t156))) = some r := by rw [if_pos rfl] at H; exact H
          clear H
          have H := H1
          clear H1
          replace H := Option.bind_eq_some_iff.mp H
          obtain ⟨⟨t154, t155⟩, A180, H⟩ := H
          replace H : ((glyphicref_SamePoint.f t154 t155 t132 t133).bind fun t156 => (some t156)) = some r := H
          have A18 := Aside0.mk A180
          clear A180
          replace H := Option.bind_eq_some_iff.mp H
          obtain ⟨t156, A190, H⟩ := H
          replace H : (some t156) = some r := H
          have A19 := Aside0.mk A190
          clear A190
          obtain rfl := Option.some.inj H
          go_enter Try.func4, Try.ntmps4
          try go_wp2_with (first | ((with_reducible refine gate_dst (N := 3) rfl ?_); refine box_event ?hg (N := 3) ?hd (cs := #[.int .i64 a0_0, .int .i64 a0_1]) (t := 24) ?hr ?_; (case hd => rfl); (case hg => rfl); (case hr => first | (go_simp; done) | (go_simp; rfl)); intro gb127 hg w20 hbox hb; have n0_ := Aside0.mk (below_step (by repeat (first | (with_reducible first | exact HB.out | apply below_alloc | apply pw_below_drewN | apply below_drew1) | exact HB.out)) hb); have n1_ := Aside0.mk (hbox); have n2_ := Aside0.mk ((by rw [hg]; exact (below_size (by repeat (first | (with_reducible first | exact HB.out | apply below_alloc | apply pw_below_drewN | apply below_drew1) | exact HB.out))) : w.heap.size ≤ gb127)); have n3_ := Aside0.mk ((by rw [hg]; exact (below_size (by repeat (first | (with_reducible first | exact HB.out | apply below_alloc | apply pw_below_drewN | apply below_drew1) | exact HB.out))) : w.heap.size ≤ gb127)); clear HB; have HB := n0_; have BK127 := n1_; have GW127 := n2_; have GE127 := n3_; clear n0_ n1_ n2_ n3_; clear hb hbox hg) | ((with_reducible refine gate_dst (N := 4) rfl ?_); refine box_event ?hg (N := 4) ?hd (cs := #[.int .i64 a1_0, .int .i64 a1_1]) (t := 24) ?hr ?_; (case hd => rfl); (case hg => rfl); (case hr => first | (go_simp; done) | (go_simp; rfl)); intro gb128 hg w21 hbox hb; have n0_ := Aside0.mk (blk_below (g := gb127) (o := .cells #[.int .i64 a0_0, .int .i64 a0_1] 24 (0, 0)) (by (with_reducible repeat (first | refine blk_drewN ?_ _ | refine blk_drew ?_ | refine blk_alloc ?_ _)); exact BK127.out) hb); have n1_ := Aside0.mk (below_step (by repeat (first | (with_reducible first | exact HB.out | apply below_alloc | apply pw_below_drewN | apply below_drew1 | refine below_set ?_ GE127.out) | exact HB.out)) hb); have n2_ := Aside0.mk (hbox); have n3_ := Aside0.mk ((by rw [hg]; exact (below_size (by repeat (first | (with_reducible first | exact HB.out | apply below_alloc | apply pw_below_drewN | apply below_drew1 | refine below_set ?_ GE127.out) | exact HB.out))) : w.heap.size ≤ gb128)); have n4_ := Aside0.mk ((by rw [hg]; exact (below_size (by repeat (first | (with_reducible first | exact HB.out | apply below_alloc | apply pw_below_drewN | apply below_drew1 | refine below_set ?_ GE127.out) | exact HB.out))) : w.heap.size ≤ gb128)); have n5_ := Aside0.mk ((by rw [hg]; exact Nat.ne_of_lt (blk_lt (g := gb127) (o := .cells #[.int .i64 a0_0, .int .i64 a0_1] 24 (0, 0)) (by (with_reducible repeat (first | refine blk_drewN ?_ _ | refine blk_drew ?_ | refine blk_alloc ?_ _)); exact BK127.out)) : gb127 ≠ gb128)); have n6_ := Aside0.mk ((by rw [hg]; exact Nat.ne_of_gt (blk_lt (g := gb127) (o := .cells #[.int .i64 a0_0, .int .i64 a0_1] 24 (0, 0)) (by (with_reducible repeat (first | refine blk_drewN ?_ _ | refine blk_drew ?_ | refine blk_alloc ?_ _)); exact BK127.out)) : gb128 ≠ gb127)); clear BK127; clear HB; have BK127 := n0_; have HB := n1_; have BK128 := n2_; have GW128 := n3_; have GE128 := n4_; have NB127_128 := n5_; have NB128_127 := n6_; clear n0_ n1_ n2_ n3_ n4_ n5_ n6_; clear hb hbox hg) | ((with_reducible refine gate_callee (f := 16) rfl ?_); refine goesL_ (some 11) rfl rfl Try.func16 (by kernel_rfl) rfl #[] rfl (by (try simp only [List.map_toArray, List.map_cons, List.map_nil]); first | done | rfl | (simp only [List.length_drop, List.length_take]; rfl)) ?_; (with_reducible refine (glyphiclaw14_first.calls  true _ A4.out).mono ?_); rintro e w22 ⟨rfl, hb⟩; refine ⟨_, rfl, ?_⟩; have n0_ := Aside0.mk (blk_below (g := gb127) (o := .cells #[.int .i64 a0_0, .int .i64 a0_1] 24 (0, 0)) (by (with_reducible repeat (first | refine blk_drewN ?_ _ | refine blk_drew ?_ | refine blk_alloc ?_ _)); exact BK127.out) hb); have n1_ := Aside0.mk (blk_below (g := gb128) (o := .cells #[.int .i64 a1_0, .int .i64 a1_1] 24 (0, 0)) (by (with_reducible repeat (first | refine blk_drewN ?_ _ | refine blk_drew ?_ | refine blk_alloc ?_ _)); exact BK128.out) hb); have n2_ := Aside0.mk (below_step (by repeat (first | (with_reducible first | exact HB.out | apply below_alloc | apply pw_below_drewN | apply below_drew1 | refine below_set ?_ GE127.out | refine below_set ?_ GE128.out) | exact HB.out)) hb); clear BK127; clear BK128; clear HB; have BK127 := n0_; have BK128 := n1_; have HB := n2_; clear n0_ n1_ n2_; (try clear hb); (try clear hb2); (try clear hk); (try clear hi); have hnb23 := NB127_128.out; have hnc23 := NB128_127.out; have hcz24_0 : w22.cell? ⟨gb127, 0, none⟩ = some (.int .i64 a0_0) := (blk_cell BK127.out 0).trans rfl; have hcz24_1 : w22.cell? ⟨gb127, 1, none⟩ = some (.int .i64 a0_1) := (blk_cell BK127.out 1).trans rfl; have hfz24_0 := blk_frozen BK127.out 0; have hfz24_1 := blk_frozen BK127.out 1; have hcz25_0 : w22.cell? ⟨gb128, 0, none⟩ = some (.int .i64 a1_0) := (blk_cell BK128.out 0).trans rfl; have hcz25_1 : w22.cell? ⟨gb128, 1, none⟩ = some (.int .i64 a1_1) := (blk_cell BK128.out 1).trans rfl; have hfz25_0 := blk_frozen BK128.out 0; have hfz25_1 := blk_frozen BK128.out 1) | ((with_reducible refine gate_callee (f := 17) rfl ?_); refine goesL_ (some 31) rfl rfl Try.func17 (by kernel_rfl) rfl #[.agg #[.int .i64 (Int.tmod a0_0 1000000000), .int .i64 (Int.tmod a0_1 1000000000)], .agg #[.int .i64 (Int.tmod a1_0 1000000000), .int .i64 (Int.tmod a1_1 1000000000)], .bool a2] rfl (by (try simp only [List.map_toArray, List.map_cons, List.map_nil]); first | done | rfl | (simp only [List.length_drop, List.length_take]; rfl)) ?_; (with_reducible refine (arc_Cubic.calls (Int.tmod a0_0 1000000000) (Int.tmod a0_1 1000000000) (Int.tmod a1_0 1000000000) (Int.tmod a1_1 1000000000) a2 t130 t131 t132 t133 _ A6.out).mono ?_); rintro e w26 ⟨rfl, hb⟩; refine ⟨_, rfl, ?_⟩; have n0_ := Aside0.mk (blk_below (g := gb127) (o := .cells #[.int .i64 (Int.tmod a0_0 1000000000), .int .i64 (Int.tmod a0_1 1000000000)] 24 (0, 0)) (by (with_reducible repeat (first | refine blk_drewN ?_ _ | refine blk_drew ?_ | refine blk_alloc ?_ _)); refine blk_far ?_ NB127_128.out _; (with_reducible repeat (first | refine blk_drewN ?_ _ | refine blk_drew ?_ | refine blk_alloc ?_ _)); refine blk_far ?_ NB127_128.out _; (with_reducible repeat (first | refine blk_drewN ?_ _ | refine blk_drew ?_ | refine blk_alloc ?_ _)); refine blk_put (cs := #[.int .i64 (Int.tmod a0_0 1000000000), .int .i64 a0_1]) ?_ 1 _ rfl; (with_reducible repeat (first | refine blk_drewN ?_ _ | refine blk_drew ?_ | refine blk_alloc ?_ _)); refine blk_put (cs := #[.int .i64 a0_0, .int .i64 a0_1]) ?_ 0 _ rfl; (with_reducible repeat (first | refine blk_drewN ?_ _ | refine blk_drew ?_ | refine blk_alloc ?_ _)); exact BK127.out) hb); have n1_ := Aside0.mk (blk_below (g := gb128) (o := .cells #[.int .i64 (Int.tmod a1_0 1000000000), .int .i64 (Int.tmod a1_1 1000000000)] 24 (0, 0)) (by (with_reducible repeat (first | refine blk_drewN ?_ _ | refine blk_drew ?_ | refine blk_alloc ?_ _)); refine blk_put (cs := #[.int .i64 (Int.tmod a1_0 1000000000), .int .i64 a1_1]) ?_ 1 _ rfl; (with_reducible repeat (first | refine blk_drewN ?_ _ | refine blk_drew ?_ | refine blk_alloc ?_ _)); refine blk_put (cs := #[.int .i64 a1_0, .int .i64 a1_1]) ?_ 0 _ rfl; (with_reducible repeat (first | refine blk_drewN ?_ _ | refine blk_drew ?_ | refine blk_alloc ?_ _)); refine blk_far ?_ NB128_127.out _; (with_reducible repeat (first | refine blk_drewN ?_ _ | refine blk_drew ?_ | refine blk_alloc ?_ _)); refine blk_far ?_ NB128_127.out _; (with_reducible repeat (first | refine blk_drewN ?_ _ | refine blk_drew ?_ | refine blk_alloc ?_ _)); exact BK128.out) hb); have n2_ := Aside0.mk (below_step (by repeat (first | (with_reducible first | exact HB.out | apply below_alloc | apply pw_below_drewN | apply below_drew1 | refine below_set ?_ GE127.out | refine below_set ?_ GE128.out) | exact HB.out)) hb); clear BK127; clear BK128; clear HB; have BK127 := n0_; have BK128 := n1_; have HB := n2_; clear n0_ n1_ n2_; (try clear hb); (try clear hb2); (try clear hk); (try clear hi)) | ((with_reducible refine gate_dst (N := 8) rfl ?_); refine box_event ?hg (N := 8) ?hd (cs := #[.int .i64 0, .int .i64 0, .int .i64 0, .int .i64 0]) (t := 25) ?hr ?_; (case hd => rfl); (case hg => rfl); (case hr => first | (go_simp; done) | (go_simp; rfl)); intro gb134 hg w27 hbox hb; have n0_ := Aside0.mk (blk_below (g := gb127) (o := .cells #[.int .i64 (Int.tmod a0_0 1000000000), .int .i64 (Int.tmod a0_1 1000000000)] 24 (0, 0)) (by (with_reducible repeat (first | refine blk_drewN ?_ _ | refine blk_drew ?_ | refine blk_alloc ?_ _)); exact BK127.out) hb); have n1_ := Aside0.mk (blk_below (g := gb128) (o := .cells #[.int .i64 (Int.tmod a1_0 1000000000), .int .i64 (Int.tmod a1_1 1000000000)] 24 (0, 0)) (by (with_reducible repeat (first | refine blk_drewN ?_ _ | refine blk_drew ?_ | refine blk_alloc ?_ _)); exact BK128.out) hb); have n2_ := Aside0.mk (below_step (by repeat (first | (with_reducible first | exact HB.out | apply below_alloc | apply pw_below_drewN | apply below_drew1 | refine below_set ?_ GE127.out | refine below_set ?_ GE128.out) | exact HB.out)) hb); have n3_ := Aside0.mk (hbox); have n4_ := Aside0.mk ((by rw [hg]; exact (below_size (by repeat (first | (with_reducible first | exact HB.out | apply below_alloc | apply pw_below_drewN | apply below_drew1 | refine below_set ?_ GE127.out | refine below_set ?_ GE128.out) | exact HB.out))) : w.heap.size ≤ gb134)); have n5_ := Aside0.mk ((by rw [hg]; exact (below_size (by repeat (first | (with_reducible first | exact HB.out | apply below_alloc | apply pw_below_drewN | apply below_drew1 | refine below_set ?_ GE127.out | refine below_set ?_ GE128.out) | exact HB.out))) : w.heap.size ≤ gb134)); have n6_ := Aside0.mk ((by rw [hg]; exact Nat.ne_of_lt (blk_lt (g := gb127) (o := .cells #[.int .i64 (Int.tmod a0_0 1000000000), .int .i64 (Int.tmod a0_1 1000000000)] 24 (0, 0)) (by (with_reducible repeat (first | refine blk_drewN ?_ _ | refine blk_drew ?_ | refine blk_alloc ?_ _)); exact BK127.out)) : gb127 ≠ gb134)); have n7_ := Aside0.mk ((by rw [hg]; exact Nat.ne_of_gt (blk_lt (g := gb127) (o := .cells #[.int .i64 (Int.tmod a0_0 1000000000), .int .i64 (Int.tmod a0_1 1000000000)] 24 (0, 0)) (by (with_reducible repeat (first | refine blk_drewN ?_ _ | refine blk_drew ?_ | refine blk_alloc ?_ _)); exact BK127.out)) : gb134 ≠ gb127)); have n8_ := Aside0.mk ((by rw [hg]; exact Nat.ne_of_lt (blk_lt (g := gb128) (o := .cells #[.int .i64 (Int.tmod a1_0 1000000000), .int .i64 (Int.tmod a1_1 1000000000)] 24 (0, 0)) (by (with_reducible repeat (first | refine blk_drewN ?_ _ | refine blk_drew ?_ | refine blk_alloc ?_ _)); exact BK128.out)) : gb128 ≠ gb134)); have n9_ := Aside0.mk ((by rw [hg]; exact Nat.ne_of_gt (blk_lt (g := gb128) (o := .cells #[.int .i64 (Int.tmod a1_0 1000000000), .int .i64 (Int.tmod a1_1 1000000000)] 24 (0, 0)) (by (with_reducible repeat (first | refine blk_drewN ?_ _ | refine blk_drew ?_ | refine blk_alloc ?_ _)); exact BK128.out)) : gb134 ≠ gb128)); clear BK127; clear BK128; clear HB; have BK127 := n0_; have BK128 := n1_; have HB := n2_; have BK134 := n3_; have GW134 := n4_; have GE134 := n5_; have NB127_134 := n6_; have NB134_127 := n7_; have NB128_134 := n8_; have NB134_128 := n9_; clear n0_ n1_ n2_ n3_ n4_ n5_ n6_ n7_ n8_ n9_; clear hb hbox hg; have hnb28 := NB134_127.out; have hnc28 := NB127_134.out; have hnb29 := NB134_128.out; have hnc29 := NB128_134.out; have hcz30_0 : w27.cell? ⟨gb134, 0, none⟩ = some (.int .i64 0) := (blk_cell BK134.out 0).trans rfl; have hcz30_1 : w27.cell? ⟨gb134, 1, none⟩ = some (.int .i64 0) := (blk_cell BK134.out 1).trans rfl; have hcz30_2 : w27.cell? ⟨gb134, 2, none⟩ = some (.int .i64 0) := (blk_cell BK134.out 2).trans rfl; have hcz30_3 : w27.cell? ⟨gb134, 3, none⟩ = some (.int .i64 0) := (blk_cell BK134.out 3).trans rfl; have hfz30_0 := blk_frozen BK134.out 0; have hfz30_1 := blk_frozen BK134.out 1; have hfz30_2 := blk_frozen BK134.out 2; have hfz30_3 := blk_frozen BK134.out 3; have hcz31_0 : w27.cell? ⟨gb128, 0, none⟩ = some (.int .i64 (Int.tmod a1_0 1000000000)) := (blk_cell BK128.out 0).trans rfl; have hcz31_1 : w27.cell? ⟨gb128, 1, none⟩ = some (.int .i64 (Int.tmod a1_1 1000000000)) := (blk_cell BK128.out 1).trans rfl; have hfz31_0 := blk_frozen BK128.out 0; have hfz31_1 := blk_frozen BK128.out 1; have hcz32_0 : w27.cell? ⟨gb127, 0, none⟩ = some (.int .i64 (Int.tmod a0_0 1000000000)) := (blk_cell BK127.out 0).trans rfl; have hcz32_1 : w27.cell? ⟨gb127, 1, none⟩ = some (.int .i64 (Int.tmod a0_1 1000000000)) := (blk_cell BK127.out 1).trans rfl; have hfz32_0 := blk_frozen BK127.out 0; have hfz32_1 := blk_frozen BK127.out 1) | ((with_reducible refine gate_callee (f := 17) rfl ?_); refine goesL_ (some 36) rfl rfl Try.func17 (by kernel_rfl) rfl #[.agg #[.int .i64 (Int.tmod a1_0 1000000000), .int .i64 (Int.tmod a1_1 1000000000)], .agg #[.int .i64 (Int.tmod a0_0 1000000000), .int .i64 (Int.tmod a0_1 1000000000)], .bool (!a2)] rfl (by (try simp only [List.map_toArray, List.map_cons, List.map_nil]); first | done | rfl | (simp only [List.length_drop, List.length_take]; rfl)) ?_; (with_reducible refine (arc_Cubic.calls (Int.tmod a1_0 1000000000) (Int.tmod a1_1 1000000000) (Int.tmod a0_0 1000000000) (Int.tmod a0_1 1000000000) (!a2) t135 t136 t137 t138 _ A7.out).mono ?_); rintro e w33 ⟨rfl, hb⟩; refine ⟨_, rfl, ?_⟩; have n0_ := Aside0.mk (blk_below (g := gb127) (o := .cells #[.int .i64 (Int.tmod a0_0 1000000000), .int .i64 (Int.tmod a0_1 1000000000)] 24 (0, 0)) (by (with_reducible repeat (first | refine blk_drewN ?_ _ | refine blk_drew ?_ | refine blk_alloc ?_ _)); refine blk_far ?_ NB127_134.out _; (with_reducible repeat (first | refine blk_drewN ?_ _ | refine blk_drew ?_ | refine blk_alloc ?_ _)); refine blk_far ?_ NB127_134.out _; (with_reducible repeat (first | refine blk_drewN ?_ _ | refine blk_drew ?_ | refine blk_alloc ?_ _)); refine blk_far ?_ NB127_134.out _; (with_reducible repeat (first | refine blk_drewN ?_ _ | refine blk_drew ?_ | refine blk_alloc ?_ _)); refine blk_far ?_ NB127_134.out _; (with_reducible repeat (first | refine blk_drewN ?_ _ | refine blk_drew ?_ | refine blk_alloc ?_ _)); exact BK127.out) hb); have n1_ := Aside0.mk (blk_below (g := gb128) (o := .cells #[.int .i64 (Int.tmod a1_0 1000000000), .int .i64 (Int.tmod a1_1 1000000000)] 24 (0, 0)) (by (with_reducible repeat (first | refine blk_drewN ?_ _ | refine blk_drew ?_ | refine blk_alloc ?_ _)); refine blk_far ?_ NB128_134.out _; (with_reducible repeat (first | refine blk_drewN ?_ _ | refine blk_drew ?_ | refine blk_alloc ?_ _)); refine blk_far ?_ NB128_134.out _; (with_reducible repeat (first | refine blk_drewN ?_ _ | refine blk_drew ?_ | refine blk_alloc ?_ _)); refine blk_far ?_ NB128_134.out _; (with_reducible repeat (first | refine blk_drewN ?_ _ | refine blk_drew ?_ | refine blk_alloc ?_ _)); refine blk_far ?_ NB128_134.out _; (with_reducible repeat (first | refine blk_drewN ?_ _ | refine blk_drew ?_ | refine blk_alloc ?_ _)); exact BK128.out) hb); have n2_ := Aside0.mk (blk_below (g := gb134) (o := .cells #[.int .i64 t130, .int .i64 t131, .int .i64 t132, .int .i64 t133] 25 (0, 0)) (by (with_reducible repeat (first | refine blk_drewN ?_ _ | refine blk_drew ?_ | refine blk_alloc ?_ _)); refine blk_put (cs := #[.int .i64 t130, .int .i64 t131, .int .i64 t132, .int .i64 0]) ?_ 3 _ rfl; (with_reducible repeat (first | refine blk_drewN ?_ _ | refine blk_drew ?_ | refine blk_alloc ?_ _)); refine blk_put (cs := #[.int .i64 t130, .int .i64 t131, .int .i64 0, .int .i64 0]) ?_ 2 _ rfl; (with_reducible repeat (first | refine blk_drewN ?_ _ | refine blk_drew ?_ | refine blk_alloc ?_ _)); refine blk_put (cs := #[.int .i64 t130, .int .i64 0, .int .i64 0, .int .i64 0]) ?_ 1 _ rfl; (with_reducible repeat (first | refine blk_drewN ?_ _ | refine blk_drew ?_ | refine blk_alloc ?_ _)); refine blk_put (cs := #[.int .i64 0, .int .i64 0, .int .i64 0, .int .i64 0]) ?_ 0 _ rfl; (with_reducible repeat (first | refine blk_drewN ?_ _ | refine blk_drew ?_ | refine blk_alloc ?_ _)); exact BK134.out) hb); have n3_ := Aside0.mk (below_step (by repeat (first | (with_reducible first | exact HB.out | apply below_alloc | apply pw_below_drewN | apply below_drew1 | refine below_set ?_ GE127.out | refine below_set ?_ GE128.out | refine below_set ?_ GE134.out) | exact HB.out)) hb); clear BK127; clear BK128; clear BK134; clear HB; have BK127 := n0_; have BK128 := n1_; have BK134 := n2_; have HB := n3_; clear n0_ n1_ n2_ n3_; (try clear hb); (try clear hb2); (try clear hk); (try clear hi)) | ((with_reducible refine gate_dst (N := 9) rfl ?_); refine box_event ?hg (N := 9) ?hd (cs := #[.int .i64 0, .int .i64 0, .int .i64 0, .int .i64 0]) (t := 25) ?hr ?_; (case hd => rfl); (case hg => rfl); (case hr => first | (go_simp; done) | (go_simp; rfl)); intro gb139 hg w34 hbox hb; have n0_ := Aside0.mk (blk_below (g := gb127) (o := .cells #[.int .i64 (Int.tmod a0_0 1000000000), .int .i64 (Int.tmod a0_1 1000000000)] 24 (0, 0)) (by (with_reducible repeat (first | refine blk_drewN ?_ _ | refine blk_drew ?_ | refine blk_alloc ?_ _)); exact BK127.out) hb); have n1_ := Aside0.mk (blk_below (g := gb128) (o := .cells #[.int .i64 (Int.tmod a1_0 1000000000), .int .i64 (Int.tmod a1_1 1000000000)] 24 (0, 0)) (by (with_reducible repeat (first | refine blk_drewN ?_ _ | refine blk_drew ?_ | refine blk_alloc ?_ _)); exact BK128.out) hb); have n2_ := Aside0.mk (blk_below (g := gb134) (o := .cells #[.int .i64 t130, .int .i64 t131, .int .i64 t132, .int .i64 t133] 25 (0, 0)) (by (with_reducible repeat (first | refine blk_drewN ?_ _ | refine blk_drew ?_ | refine blk_alloc ?_ _)); exact BK134.out) hb); have n3_ := Aside0.mk (below_step (by repeat (first | (with_reducible first | exact HB.out | apply below_alloc | apply pw_below_drewN | apply below_drew1 | refine below_set ?_ GE127.out | refine below_set ?_ GE128.out | refine below_set ?_ GE134.out) | exact HB.out)) hb); have n4_ := Aside0.mk (hbox); have n5_ := Aside0.mk ((by rw [hg]; exact (below_size (by repeat (first | (with_reducible first | exact HB.out | apply below_alloc | apply pw_below_drewN | apply below_drew1 | refine below_set ?_ GE127.out | refine below_set ?_ GE128.out | refine below_set ?_ GE134.out) | exact HB.out))) : w.heap.size ≤ gb139)); have n6_ := Aside0.mk ((by rw [hg]; exact (below_size (by repeat (first | (with_reducible first | exact HB.out | apply below_alloc | apply pw_below_drewN | apply below_drew1 | refine below_set ?_ GE127.out | refine below_set ?_ GE128.out | refine below_set ?_ GE134.out) | exact HB.out))) : w.heap.size ≤ gb139)); have n7_ := Aside0.mk ((by rw [hg]; exact Nat.ne_of_lt (blk_lt (g := gb127) (o := .cells #[.int .i64 (Int.tmod a0_0 1000000000), .int .i64 (Int.tmod a0_1 1000000000)] 24 (0, 0)) (by (with_reducible repeat (first | refine blk_drewN ?_ _ | refine blk_drew ?_ | refine blk_alloc ?_ _)); exact BK127.out)) : gb127 ≠ gb139)); have n8_ := Aside0.mk ((by rw [hg]; exact Nat.ne_of_gt (blk_lt (g := gb127) (o := .cells #[.int .i64 (Int.tmod a0_0 1000000000), .int .i64 (Int.tmod a0_1 1000000000)] 24 (0, 0)) (by (with_reducible repeat (first | refine blk_drewN ?_ _ | refine blk_drew ?_ | refine blk_alloc ?_ _)); exact BK127.out)) : gb139 ≠ gb127)); have n9_ := Aside0.mk ((by rw [hg]; exact Nat.ne_of_lt (blk_lt (g := gb128) (o := .cells #[.int .i64 (Int.tmod a1_0 1000000000), .int .i64 (Int.tmod a1_1 1000000000)] 24 (0, 0)) (by (with_reducible repeat (first | refine blk_drewN ?_ _ | refine blk_drew ?_ | refine blk_alloc ?_ _)); exact BK128.out)) : gb128 ≠ gb139)); have n10_ := Aside0.mk ((by rw [hg]; exact Nat.ne_of_gt (blk_lt (g := gb128) (o := .cells #[.int .i64 (Int.tmod a1_0 1000000000), .int .i64 (Int.tmod a1_1 1000000000)] 24 (0, 0)) (by (with_reducible repeat (first | refine blk_drewN ?_ _ | refine blk_drew ?_ | refine blk_alloc ?_ _)); exact BK128.out)) : gb139 ≠ gb128)); have n11_ := Aside0.mk ((by rw [hg]; exact Nat.ne_of_lt (blk_lt (g := gb134) (o := .cells #[.int .i64 t130, .int .i64 t131, .int .i64 t132, .int .i64 t133] 25 (0, 0)) (by (with_reducible repeat (first | refine blk_drewN ?_ _ | refine blk_drew ?_ | refine blk_alloc ?_ _)); exact BK134.out)) : gb134 ≠ gb139)); have n12_ := Aside0.mk ((by rw [hg]; exact Nat.ne_of_gt (blk_lt (g := gb134) (o := .cells #[.int .i64 t130, .int .i64 t131, .int .i64 t132, .int .i64 t133] 25 (0, 0)) (by (with_reducible repeat (first | refine blk_drewN ?_ _ | refine blk_drew ?_ | refine blk_alloc ?_ _)); exact BK134.out)) : gb139 ≠ gb134)); clear BK127; clear BK128; clear BK134; clear HB; have BK127 := n0_; have BK128 := n1_; have BK134 := n2_; have HB := n3_; have BK139 := n4_; have GW139 := n5_; have GE139 := n6_; have NB127_139 := n7_; have NB139_127 := n8_; have NB128_139 := n9_; have NB139_128 := n10_; have NB134_139 := n11_; have NB139_134 := n12_; clear n0_ n1_ n2_ n3_ n4_ n5_ n6_ n7_ n8_ n9_ n10_ n11_ n12_; clear hb hbox hg; have hnb35 := NB139_127.out; have hnc35 := NB127_139.out; have hnb36 := NB139_128.out; have hnc36 := NB128_139.out; have hnb37 := NB139_134.out; have hnc37 := NB134_139.out; have hcz38_0 : w34.cell? ⟨gb139, 0, none⟩ = some (.int .i64 0) := (blk_cell BK139.out 0).trans rfl; have hcz38_1 : w34.cell? ⟨gb139, 1, none⟩ = some (.int .i64 0) := (blk_cell BK139.out 1).trans rfl; have hcz38_2 : w34.cell? ⟨gb139, 2, none⟩ = some (.int .i64 0) := (blk_cell BK139.out 2).trans rfl; have hcz38_3 : w34.cell? ⟨gb139, 3, none⟩ = some (.int .i64 0) := (blk_cell BK139.out 3).trans rfl; have hfz38_0 := blk_frozen BK139.out 0; have hfz38_1 := blk_frozen BK139.out 1; have hfz38_2 := blk_frozen BK139.out 2; have hfz38_3 := blk_frozen BK139.out 3))
          have n0_ : Aside0 (((((w34.setCell ⟨gb139, 0, none⟩ (.int .i64 t135)).setCell ⟨gb139, 1, none⟩ (.int .i64 t136)).setCell ⟨gb139, 2, none⟩ (.int .i64 t137)).setCell ⟨gb139, 3, none⟩ (.int .i64 t138)).heap[gb127]? = some (.cells #[.int .i64 (Int.tmod a0_0 1000000000), .int .i64 (Int.tmod a0_1 1000000000)] 24 (0, 0))) := ⟨by (with_reducible repeat (first | refine blk_drewN ?_ _ | refine blk_drew ?_ | refine blk_alloc ?_ _)); refine blk_far ?_ NB127_139.out _; (with_reducible repeat (first | refine blk_drewN ?_ _ | refine blk_drew ?_ | refine blk_alloc ?_ _)); refine blk_far ?_ NB127_139.out _; (with_reducible repeat (first | refine blk_drewN ?_ _ | refine blk_drew ?_ | refine blk_alloc ?_ _)); refine blk_far ?_ NB127_139.out _; (with_reducible repeat (first | refine blk_drewN ?_ _ | refine blk_drew ?_ | refine blk_alloc ?_ _)); refine blk_far ?_ NB127_139.out _; (with_reducible repeat (first | refine blk_drewN ?_ _ | refine blk_drew ?_ | refine blk_alloc ?_ _)); exact BK127.out⟩
          have n1_ : Aside0 (((((w34.setCell ⟨gb139, 0, none⟩ (.int .i64 t135)).setCell ⟨gb139, 1, none⟩ (.int .i64 t136)).setCell ⟨gb139, 2, none⟩ (.int .i64 t137)).setCell ⟨gb139, 3, none⟩ (.int .i64 t138)).heap[gb128]? = some (.cells #[.int .i64 (Int.tmod a1_0 1000000000), .int .i64 (Int.tmod a1_1 1000000000)] 24 (0, 0))) := ⟨by (with_reducible repeat (first | refine blk_drewN ?_ _ | refine blk_drew ?_ | refine blk_alloc ?_ _)); refine blk_far ?_ NB128_139.out _; (with_reducible repeat (first | refine blk_drewN ?_ _ | refine blk_drew ?_ | refine blk_alloc ?_ _)); refine blk_far ?_ NB128_139.out _; (with_reducible repeat (first | refine blk_drewN ?_ _ | refine blk_drew ?_ | refine blk_alloc ?_ _)); refine blk_far ?_ NB128_139.out _; (with_reducible repeat (first | refine blk_drewN ?_ _ | refine blk_drew ?_ | refine blk_alloc ?_ _)); refine blk_far ?_ NB128_139.out _; (with_reducible repeat (first | refine blk_drewN ?_ _ | refine blk_drew ?_ | refine blk_alloc ?_ _)); exact BK128.out⟩
          have n2_ : Aside0 (((((w34.setCell ⟨gb139, 0, none⟩ (.int .i64 t135)).setCell ⟨gb139, 1, none⟩ (.int .i64 t136)).setCell ⟨gb139, 2, none⟩ (.int .i64 t137)).setCell ⟨gb139, 3, none⟩ (.int .i64 t138)).heap[gb134]? = some (.cells #[.int .i64 t130, .int .i64 t131, .int .i64 t132, .int .i64 t133] 25 (0, 0))) := ⟨by (with_reducible repeat (first | refine blk_drewN ?_ _ | refine blk_drew ?_ | refine blk_alloc ?_ _)); refine blk_far ?_ NB134_139.out _; (with_reducible repeat (first | refine blk_drewN ?_ _ | refine blk_drew ?_ | refine blk_alloc ?_ _)); refine blk_far ?_ NB134_139.out _; (with_reducible repeat (first | refine blk_drewN ?_ _ | refine blk_drew ?_ | refine blk_alloc ?_ _)); refine blk_far ?_ NB134_139.out _; (with_reducible repeat (first | refine blk_drewN ?_ _ | refine blk_drew ?_ | refine blk_alloc ?_ _)); refine blk_far ?_ NB134_139.out _; (with_reducible repeat (first | refine blk_drewN ?_ _ | refine blk_drew ?_ | refine blk_alloc ?_ _)); exact BK134.out⟩
          have n3_ : Aside0 (((((w34.setCell ⟨gb139, 0, none⟩ (.int .i64 t135)).setCell ⟨gb139, 1, none⟩ (.int .i64 t136)).setCell ⟨gb139, 2, none⟩ (.int .i64 t137)).setCell ⟨gb139, 3, none⟩ (.int .i64 t138)).heap[gb139]? = some (.cells #[.int .i64 t135, .int .i64 t136, .int .i64 t137, .int .i64 t138] 25 (0, 0))) := ⟨by (with_reducible repeat (first | refine blk_drewN ?_ _ | refine blk_drew ?_ | refine blk_alloc ?_ _)); refine blk_put (cs := #[.int .i64 t135, .int .i64 t136, .int .i64 t137, .int .i64 0]) ?_ 3 _ rfl; (with_reducible repeat (first | refine blk_drewN ?_ _ | refine blk_drew ?_ | refine blk_alloc ?_ _)); refine blk_put (cs := #[.int .i64 t135, .int .i64 t136, .int .i64 0, .int .i64 0]) ?_ 2 _ rfl; (with_reducible repeat (first | refine blk_drewN ?_ _ | refine blk_drew ?_ | refine blk_alloc ?_ _)); refine blk_put (cs := #[.int .i64 t135, .int .i64 0, .int .i64 0, .int .i64 0]) ?_ 1 _ rfl; (with_reducible repeat (first | refine blk_drewN ?_ _ | refine blk_drew ?_ | refine blk_alloc ?_ _)); refine blk_put (cs := #[.int .i64 0, .int .i64 0, .int .i64 0, .int .i64 0]) ?_ 0 _ rfl; (with_reducible repeat (first | refine blk_drewN ?_ _ | refine blk_drew ?_ | refine blk_alloc ?_ _)); exact BK139.out⟩
          have n4_ : Aside0 (Below w.heap.size w ((((w34.setCell ⟨gb139, 0, none⟩ (.int .i64 t135)).setCell ⟨gb139, 1, none⟩ (.int .i64 t136)).setCell ⟨gb139, 2, none⟩ (.int .i64 t137)).setCell ⟨gb139, 3, none⟩ (.int .i64 t138))) := ⟨by repeat (first | (with_reducible first | exact HB.out | apply below_alloc | apply pw_below_drewN | apply below_drew1 | refine below_set ?_ GE127.out | refine below_set ?_ GE128.out | refine below_set ?_ GE134.out | refine below_set ?_ GE139.out) | exact HB.out)⟩
          (try clear BK127)
          (try clear BK128)
          (try clear BK134)
          (try clear BK139)
          (try clear HB)
          generalize ((((w34.setCell ⟨gb139, 0, none⟩ (.int .i64 t135)).setCell ⟨gb139, 1, none⟩ (.int .i64 t136)).setCell ⟨gb139, 2, none⟩ (.int .i64 t137)).setCell ⟨gb139, 3, none⟩ (.int .i64 t138)) = w39 at n0_ n1_ n2_ n3_ n4_ ⊢
          have BK127 := n0_
          have BK128 := n1_
          have BK134 := n2_
          have BK139 := n3_
          have HB := n4_
          clear n0_ n1_ n2_ n3_ n4_
          have n0_ := Aside0.mk (blk_drew BK127.out)
          have n1_ := Aside0.mk (blk_drew BK128.out)
          have n2_ := Aside0.mk (blk_drew BK134.out)
          have n3_ := Aside0.mk (blk_drew BK139.out)
          have n4_ := Aside0.mk (below_drew1 HB.out)
          clear BK127
          clear BK128
          clear BK134
          clear BK139
          clear HB
          have BK127 := n0_
          have BK128 := n1_
          have BK134 := n2_
          have BK139 := n3_
          have HB := n4_
          clear n0_ n1_ n2_ n3_ n4_
          refine start_ (n := 9) (S := fun w' => w'.cell? ⟨gb127, 0, none⟩ = some (.int .i64 (Int.tmod a0_0 1000000000)) ∧ w'.cell? ⟨gb127, 1, none⟩ = some (.int .i64 (Int.tmod a0_1 1000000000)) ∧ w'.cell? ⟨gb128, 0, none⟩ = some (.int .i64 (Int.tmod a1_0 1000000000)) ∧ w'.cell? ⟨gb128, 1, none⟩ = some (.int .i64 (Int.tmod a1_1 1000000000))) (ds := []) #[false, false, false, false, false, false, false, false, false] (by kernel_rfl) rfl rfl ⟨(blk_cell BK127.out 0).trans rfl, (blk_cell BK127.out 1).trans rfl, (blk_cell BK128.out 0).trans rfl, (blk_cell BK128.out 1).trans rfl⟩ (fun hHeld => ?_); refine with_tabW glyphiclaw14_ArcMirrors.tab8 glyphiclaw14_ArcMirrors.bits8 (fun HT_ HW_ => ?_)
          generalize w39.drew = w40 at BK127 BK128 BK134 BK139 HB hHeld ⊢
          refine pure_ (i := 4) (N := some 41) (v := ?_) (a' := ?_) #[false, false, false, false, true, false, false, false, false] rfl rfl (any_of HT_.out (by kernel_rfl)) (fun _ _ _ h => h) (Or.inl ⟨by rfl, ?_⟩) ?_ ?_
          rotate_left
          · intro w'
            go_simp
            with_reducible rfl
          rotate_left
          · simp only [Act.put, List.setIfInBounds_toArray, List.set_cons_zero, List.set_cons_succ, i64_w, i32_w]
            rfl
          refine pure_ (i := 5) (N := some 42) (v := ?_) (a' := ?_) #[false, false, false, false, true, true, false, false, false] rfl rfl (any_of HT_.out (by kernel_rfl)) (fun _ _ _ h => h) (Or.inl ⟨by rfl, ?_⟩) ?_ ?_
          rotate_left
          · intro w'
            go_simp
            with_reducible rfl
          rotate_left
          · simp only [Act.put, List.setIfInBounds_toArray, List.set_cons_zero, List.set_cons_succ, i64_w, i32_w]
            rfl
          refine take_ (i := 0) (N := some 37) (v := ?_) (a' := ?_) #[true, false, false, false, true, true, false, false, false] rfl rfl (take_ofW HT_.out HW_.out (by kernel_rfl)) (fun _ _ _ h => h) (Or.inl ⟨by rfl, ?_⟩) hHeld ?_ ?_
          rotate_left
          · rintro w' ⟨s0, s1, s2, s3⟩
            go_simp
            with_reducible rfl
          rotate_left
          · simp only [Act.put, List.setIfInBounds_toArray, List.set_cons_zero, List.set_cons_succ, i64_w, i32_w]
            rfl
          refine take_ (i := 2) (N := some 39) (v := ?_) (a' := ?_) #[true, false, true, false, true, true, false, false, false] rfl rfl (take_ofW HT_.out HW_.out (by kernel_rfl)) (fun _ _ _ h => h) (Or.inl ⟨by rfl, ?_⟩) hHeld ?_ ?_
          rotate_left
          · rintro w' ⟨s0, s1, s2, s3⟩
            go_simp
            with_reducible rfl
          rotate_left
          · simp only [Act.put, List.setIfInBounds_toArray, List.set_cons_zero, List.set_cons_succ, i64_w, i32_w]
            rfl
          refine join_ (σ := Nat) 1 #[true, true, true, true, true, true, true, true, false] (fun s_ => [(38, .agg #[.int .i64 t140, .int .i64 t141]), (40, .agg #[.int .i64 t142, .int .i64 t143]), (43, .agg #[.int .i64 t144, .int .i64 t145, .int .i64 t146, .int .i64 t147]), (10, .pointer (some ⟨s_, 0, none⟩))]) (fun s_ w' => (w'.cell? ⟨gb127, 0, none⟩ = some (.int .i64 (Int.tmod a0_0 1000000000)) ∧ w'.cell? ⟨gb127, 1, none⟩ = some (.int .i64 (Int.tmod a0_1 1000000000)) ∧ w'.cell? ⟨gb128, 0, none⟩ = some (.int .i64 (Int.tmod a1_0 1000000000)) ∧ w'.cell? ⟨gb128, 1, none⟩ = some (.int .i64 (Int.tmod a1_1 1000000000))) ∧ (w'.heap[gb127]? = some (.cells #[.int .i64 (Int.tmod a0_0 1000000000), .int .i64 (Int.tmod a0_1 1000000000)] 24 (0, 0))) ∧ (w'.heap[gb128]? = some (.cells #[.int .i64 (Int.tmod a1_0 1000000000), .int .i64 (Int.tmod a1_1 1000000000)] 24 (0, 0))) ∧ (w'.heap[gb134]? = some (.cells #[.int .i64 t130, .int .i64 t131, .int .i64 t132, .int .i64 t133] 25 (0, 0))) ∧ (w'.heap[gb139]? = some (.cells #[.int .i64 t135, .int .i64 t136, .int .i64 t137, .int .i64 t138] 25 (0, 0))) ∧ (w'.heap[s_]? = some (.cells #[.int .i64 0, .int .i64 0, .int .i64 0, .int .i64 0] 25 (0, 0))) ∧ (w.heap.size ≤ s_) ∧ (w.heap.size ≤ s_) ∧ (gb127 ≠ s_) ∧ (s_ ≠ gb127) ∧ (gb128 ≠ s_) ∧ (s_ ≠ gb128) ∧ (gb134 ≠ s_) ∧ (s_ ≠ gb134) ∧ (gb139 ≠ s_) ∧ (s_ ≠ gb139) ∧ (Below w.heap.size w w')) ?_ ?_
          rotate_left
          · intro hCont
            refine two_ (i := 1) (j := 7) (Ni := some 38) (Nj := some 10) #[true, true, true, false, true, true, false, false, false] #[true, false, true, false, true, true, false, true, false] rfl rfl rfl rfl (two_of HT_.out (by kernel_rfl)) (by decide) (by decide) (fun K hK => ?_) (fun K hK => ?_)
            · skip
              refine goes_ Try.func18 (by kernel_rfl) rfl #[.agg #[.int .i64 (Int.tmod a0_0 1000000000), .int .i64 (Int.tmod a0_1 1000000000)]] (by rfl) rfl rfl (by (try simp only [List.map_toArray, List.map_cons, List.map_nil]); first | done | rfl | (simp only [List.length_drop, List.length_take]; rfl)) ?_
              with_reducible refine (glyphiclaw14_swap.calls (Int.tmod a0_0 1000000000) (Int.tmod a0_1 1000000000) t140 t141 _ A8.out).mono ?_
              rintro e w41 ⟨rfl, hb⟩
              refine ⟨_, rfl, ?_⟩
              have n0_ := Aside0.mk (blk_below (g := gb127) (o := .cells #[.int .i64 (Int.tmod a0_0 1000000000), .int .i64 (Int.tmod a0_1 1000000000)] 24 (0, 0)) (by (with_reducible repeat (first | refine blk_drewN ?_ _ | refine blk_drew ?_ | refine blk_alloc ?_ _)); exact BK127.out) hb)
              have n1_ := Aside0.mk (blk_below (g := gb128) (o := .cells #[.int .i64 (Int.tmod a1_0 1000000000), .int .i64 (Int.tmod a1_1 1000000000)] 24 (0, 0)) (by (with_reducible repeat (first | refine blk_drewN ?_ _ | refine blk_drew ?_ | refine blk_alloc ?_ _)); exact BK128.out) hb)
              have n2_ := Aside0.mk (blk_below (g := gb134) (o := .cells #[.int .i64 t130, .int .i64 t131, .int .i64 t132, .int .i64 t133] 25 (0, 0)) (by (with_reducible repeat (first | refine blk_drewN ?_ _ | refine blk_drew ?_ | refine blk_alloc ?_ _)); exact BK134.out) hb)
              have n3_ := Aside0.mk (blk_below (g := gb139) (o := .cells #[.int .i64 t135, .int .i64 t136, .int .i64 t137, .int .i64 t138] 25 (0, 0)) (by (with_reducible repeat (first | refine blk_drewN ?_ _ | refine blk_drew ?_ | refine blk_alloc ?_ _)); exact BK139.out) hb)
              have n4_ := Aside0.mk (below_step (by repeat (first | (with_reducible first | exact HB.out | apply below_alloc | apply pw_below_drewN | apply below_drew1 | refine below_set ?_ GE127.out | refine below_set ?_ GE128.out | refine below_set ?_ GE134.out | refine below_set ?_ GE139.out) | exact HB.out)) hb)
              clear BK127
              clear BK128
              clear BK134
              clear BK139
              clear HB
              have BK127 := n0_
              have BK128 := n1_
              have BK134 := n2_
              have BK139 := n3_
              have HB := n4_
              clear n0_ n1_ n2_ n3_ n4_
              (try clear hb)
              (try clear hb2)
              (try clear hk)
              (try clear hi)
              refine hK.out _ _ ⟨(blk_cell BK127.out 0).trans rfl, (blk_cell BK127.out 1).trans rfl, (blk_cell BK128.out 0).trans rfl, (blk_cell BK128.out 1).trans rfl⟩ (fun hHeld => ?_)
              clear hK K
              refine norm_ (a' := ?_) ?_ ?_
              rotate_left
              · show Act.put _ (some 38) _ = _
                simp only [Act.put, List.setIfInBounds_toArray, List.set_cons_zero, List.set_cons_succ, i64_w, i32_w]
                rfl
              refine two_ (i := 3) (j := 7) (Ni := some 40) (Nj := some 10) #[true, true, true, true, true, true, false, false, false] #[true, true, true, false, true, true, false, true, false] rfl rfl rfl rfl (two_of HT_.out (by kernel_rfl)) (by decide) (by decide) (fun K hK => ?_) (fun K hK => ?_)
              · skip
                refine goes_ Try.func18 (by kernel_rfl) rfl #[.agg #[.int .i64 (Int.tmod a1_0 1000000000), .int .i64 (Int.tmod a1_1 1000000000)]] (by rfl) rfl rfl (by (try simp only [List.map_toArray, List.map_cons, List.map_nil]); first | done | rfl | (simp only [List.length_drop, List.length_take]; rfl)) ?_
                with_reducible refine (glyphiclaw14_swap.calls (Int.tmod a1_0 1000000000) (Int.tmod a1_1 1000000000) t142 t143 _ A9.out).mono ?_
                rintro e w42 ⟨rfl, hb⟩
                refine ⟨_, rfl, ?_⟩
                have n0_ := Aside0.mk (blk_below (g := gb127) (o := .cells #[.int .i64 (Int.tmod a0_0 1000000000), .int .i64 (Int.tmod a0_1 1000000000)] 24 (0, 0)) (by (with_reducible repeat (first | refine blk_drewN ?_ _ | refine blk_drew ?_ | refine blk_alloc ?_ _)); exact BK127.out) hb)
                have n1_ := Aside0.mk (blk_below (g := gb128) (o := .cells #[.int .i64 (Int.tmod a1_0 1000000000), .int .i64 (Int.tmod a1_1 1000000000)] 24 (0, 0)) (by (with_reducible repeat (first | refine blk_drewN ?_ _ | refine blk_drew ?_ | refine blk_alloc ?_ _)); exact BK128.out) hb)
                have n2_ := Aside0.mk (blk_below (g := gb134) (o := .cells #[.int .i64 t130, .int .i64 t131, .int .i64 t132, .int .i64 t133] 25 (0, 0)) (by (with_reducible repeat (first | refine blk_drewN ?_ _ | refine blk_drew ?_ | refine blk_alloc ?_ _)); exact BK134.out) hb)
                have n3_ := Aside0.mk (blk_below (g := gb139) (o := .cells #[.int .i64 t135, .int .i64 t136, .int .i64 t137, .int .i64 t138] 25 (0, 0)) (by (with_reducible repeat (first | refine blk_drewN ?_ _ | refine blk_drew ?_ | refine blk_alloc ?_ _)); exact BK139.out) hb)
                have n4_ := Aside0.mk (below_step (by repeat (first | (with_reducible first | exact HB.out | apply below_alloc | apply pw_below_drewN | apply below_drew1 | refine below_set ?_ GE127.out | refine below_set ?_ GE128.out | refine below_set ?_ GE134.out | refine below_set ?_ GE139.out) | exact HB.out)) hb)
                clear BK127
                clear BK128
                clear BK134
                clear BK139
                clear HB
                have BK127 := n0_
                have BK128 := n1_
                have BK134 := n2_
                have BK139 := n3_
                have HB := n4_
                clear n0_ n1_ n2_ n3_ n4_
                (try clear hb)
                (try clear hb2)
                (try clear hk)
                (try clear hi)
                refine hK.out _ _ ⟨(blk_cell BK127.out 0).trans rfl, (blk_cell BK127.out 1).trans rfl, (blk_cell BK128.out 0).trans rfl, (blk_cell BK128.out 1).trans rfl⟩ (fun hHeld => ?_)
                clear hK K
                refine norm_ (a' := ?_) ?_ ?_
                rotate_left
                · show Act.put _ (some 40) _ = _
                  simp only [Act.put, List.setIfInBounds_toArray, List.set_cons_zero, List.set_cons_succ, i64_w, i32_w]
                  rfl
                refine two_ (i := 6) (j := 7) (Ni := some 43) (Nj := some 10) #[true, true, true, true, true, true, true, false, false] #[true, true, true, true, true, true, false, true, false] rfl rfl rfl rfl (two_of HT_.out (by kernel_rfl)) (by decide) (by decide) (fun K hK => ?_) (fun K hK => ?_)
                · skip
                  refine goes_ Try.func17 (by kernel_rfl) rfl #[.agg #[.int .i64 t140, .int .i64 t141], .agg #[.int .i64 t142, .int .i64 t143], .bool (!a2)] (by rfl) rfl rfl (by (try simp only [List.map_toArray, List.map_cons, List.map_nil]); first | done | rfl | (simp only [List.length_drop, List.length_take]; rfl)) ?_
                  with_reducible refine (arc_Cubic.calls t140 t141 t142 t143 (!a2) t144 t145 t146 t147 _ A10.out).mono ?_
                  rintro e w43 ⟨rfl, hb⟩
                  refine ⟨_, rfl, ?_⟩
                  have n0_ := Aside0.mk (blk_below (g := gb127) (o := .cells #[.int .i64 (Int.tmod a0_0 1000000000), .int .i64 (Int.tmod a0_1 1000000000)] 24 (0, 0)) (by (with_reducible repeat (first | refine blk_drewN ?_ _ | refine blk_drew ?_ | refine blk_alloc ?_ _)); exact BK127.out) hb)
                  have n1_ := Aside0.mk (blk_below (g := gb128) (o := .cells #[.int .i64 (Int.tmod a1_0 1000000000), .int .i64 (Int.tmod a1_1 1000000000)] 24 (0, 0)) (by (with_reducible repeat (first | refine blk_drewN ?_ _ | refine blk_drew ?_ | refine blk_alloc ?_ _)); exact BK128.out) hb)
                  have n2_ := Aside0.mk (blk_below (g := gb134) (o := .cells #[.int .i64 t130, .int .i64 t131, .int .i64 t132, .int .i64 t133] 25 (0, 0)) (by (with_reducible repeat (first | refine blk_drewN ?_ _ | refine blk_drew ?_ | refine blk_alloc ?_ _)); exact BK134.out) hb)
                  have n3_ := Aside0.mk (blk_below (g := gb139) (o := .cells #[.int .i64 t135, .int .i64 t136, .int .i64 t137, .int .i64 t138] 25 (0, 0)) (by (with_reducible repeat (first | refine blk_drewN ?_ _ | refine blk_drew ?_ | refine blk_alloc ?_ _)); exact BK139.out) hb)
                  have n4_ := Aside0.mk (below_step (by repeat (first | (with_reducible first | exact HB.out | apply below_alloc | apply pw_below_drewN | apply below_drew1 | refine below_set ?_ GE127.out | refine below_set ?_ GE128.out | refine below_set ?_ GE134.out | refine below_set ?_ GE139.out) | exact HB.out)) hb)
                  clear BK127
                  clear BK128
                  clear BK134
                  clear BK139
                  clear HB
                  have BK127 := n0_
                  have BK128 := n1_
                  have BK134 := n2_
                  have BK139 := n3_
                  have HB := n4_
                  clear n0_ n1_ n2_ n3_ n4_
                  (try clear hb)
                  (try clear hb2)
                  (try clear hk)
                  (try clear hi)
                  refine hK.out _ _ ⟨(blk_cell BK127.out 0).trans rfl, (blk_cell BK127.out 1).trans rfl, (blk_cell BK128.out 0).trans rfl, (blk_cell BK128.out 1).trans rfl⟩ (fun hHeld => ?_)
                  clear hK K
                  refine norm_ (a' := ?_) ?_ ?_
                  rotate_left
                  · show Act.put _ (some 43) _ = _
                    simp only [Act.put, List.setIfInBounds_toArray, List.set_cons_zero, List.set_cons_succ, i64_w, i32_w]
                    rfl
                  refine one_ (i := 7) (N := some 10) #[true, true, true, true, true, true, true, true, false] rfl rfl (one_of HT_.out (by kernel_rfl)) (by decide) (fun K hK => ?_)
                  refine box_step ?hg (N := 10) ?hd (cs := #[.int .i64 0, .int .i64 0, .int .i64 0, .int .i64 0]) (t := 25) ?hr ?_; (case hd => rfl); (case hg => rfl); (case hr => first | (go_simp; done) | (go_simp; rfl))
                  intro gb148 hg w44 hbox hb
                  have n0_ := Aside0.mk (blk_below (g := gb127) (o := .cells #[.int .i64 (Int.tmod a0_0 1000000000), .int .i64 (Int.tmod a0_1 1000000000)] 24 (0, 0)) (by (with_reducible repeat (first | refine blk_drewN ?_ _ | refine blk_drew ?_ | refine blk_alloc ?_ _)); exact BK127.out) hb)
                  have n1_ := Aside0.mk (blk_below (g := gb128) (o := .cells #[.int .i64 (Int.tmod a1_0 1000000000), .int .i64 (Int.tmod a1_1 1000000000)] 24 (0, 0)) (by (with_reducible repeat (first | refine blk_drewN ?_ _ | refine blk_drew ?_ | refine blk_alloc ?_ _)); exact BK128.out) hb)
                  have n2_ := Aside0.mk (blk_below (g := gb134) (o := .cells #[.int .i64 t130, .int .i64 t131, .int .i64 t132, .int .i64 t133] 25 (0, 0)) (by (with_reducible repeat (first | refine blk_drewN ?_ _ | refine blk_drew ?_ | refine blk_alloc ?_ _)); exact BK134.out) hb)
                  have n3_ := Aside0.mk (blk_below (g := gb139) (o := .cells #[.int .i64 t135, .int .i64 t136, .int .i64 t137, .int .i64 t138] 25 (0, 0)) (by (with_reducible repeat (first | refine blk_drewN ?_ _ | refine blk_drew ?_ | refine blk_alloc ?_ _)); exact BK139.out) hb)
                  have n4_ := Aside0.mk (below_step (by repeat (first | (with_reducible first | exact HB.out | apply below_alloc | apply pw_below_drewN | apply below_drew1 | refine below_set ?_ GE127.out | refine below_set ?_ GE128.out | refine below_set ?_ GE134.out | refine below_set ?_ GE139.out) | exact HB.out)) hb)
                  have n5_ := Aside0.mk (hbox)
                  have n6_ := Aside0.mk ((by rw [hg]; exact (below_size (by repeat (first | (with_reducible first | exact HB.out | apply below_alloc | apply pw_below_drewN | apply below_drew1 | refine below_set ?_ GE127.out | refine below_set ?_ GE128.out | refine below_set ?_ GE134.out | refine below_set ?_ GE139.out) | exact HB.out))) : w.heap.size ≤ gb148))
                  have n7_ := Aside0.mk ((by rw [hg]; exact (below_size (by repeat (first | (with_reducible first | exact HB.out | apply below_alloc | apply pw_below_drewN | apply below_drew1 | refine below_set ?_ GE127.out | refine below_set ?_ GE128.out | refine below_set ?_ GE134.out | refine below_set ?_ GE139.out) | exact HB.out))) : w.heap.size ≤ gb148))
                  have n8_ := Aside0.mk ((by rw [hg]; exact Nat.ne_of_lt (blk_lt (g := gb127) (o := .cells #[.int .i64 (Int.tmod a0_0 1000000000), .int .i64 (Int.tmod a0_1 1000000000)] 24 (0, 0)) (by (with_reducible repeat (first | refine blk_drewN ?_ _ | refine blk_drew ?_ | refine blk_alloc ?_ _)); exact BK127.out)) : gb127 ≠ gb148))
                  have n9_ := Aside0.mk ((by rw [hg]; exact Nat.ne_of_gt (blk_lt (g := gb127) (o := .cells #[.int .i64 (Int.tmod a0_0 1000000000), .int .i64 (Int.tmod a0_1 1000000000)] 24 (0, 0)) (by (with_reducible repeat (first | refine blk_drewN ?_ _ | refine blk_drew ?_ | refine blk_alloc ?_ _)); exact BK127.out)) : gb148 ≠ gb127))
                  have n10_ := Aside0.mk ((by rw [hg]; exact Nat.ne_of_lt (blk_lt (g := gb128) (o := .cells #[.int .i64 (Int.tmod a1_0 1000000000), .int .i64 (Int.tmod a1_1 1000000000)] 24 (0, 0)) (by (with_reducible repeat (first | refine blk_drewN ?_ _ | refine blk_drew ?_ | refine blk_alloc ?_ _)); exact BK128.out)) : gb128 ≠ gb148))
                  have n11_ := Aside0.mk ((by rw [hg]; exact Nat.ne_of_gt (blk_lt (g := gb128) (o := .cells #[.int .i64 (Int.tmod a1_0 1000000000), .int .i64 (Int.tmod a1_1 1000000000)] 24 (0, 0)) (by (with_reducible repeat (first | refine blk_drewN ?_ _ | refine blk_drew ?_ | refine blk_alloc ?_ _)); exact BK128.out)) : gb148 ≠ gb128))
                  have n12_ := Aside0.mk ((by rw [hg]; exact Nat.ne_of_lt (blk_lt (g := gb134) (o := .cells #[.int .i64 t130, .int .i64 t131, .int .i64 t132, .int .i64 t133] 25 (0, 0)) (by (with_reducible repeat (first | refine blk_drewN ?_ _ | refine blk_drew ?_ | refine blk_alloc ?_ _)); exact BK134.out)) : gb134 ≠ gb148))
                  have n13_ := Aside0.mk ((by rw [hg]; exact Nat.ne_of_gt (blk_lt (g := gb134) (o := .cells #[.int .i64 t130, .int .i64 t131, .int .i64 t132, .int .i64 t133] 25 (0, 0)) (by (with_reducible repeat (first | refine blk_drewN ?_ _ | refine blk_drew ?_ | refine blk_alloc ?_ _)); exact BK134.out)) : gb148 ≠ gb134))
                  have n14_ := Aside0.mk ((by rw [hg]; exact Nat.ne_of_lt (blk_lt (g := gb139) (o := .cells #[.int .i64 t135, .int .i64 t136, .int .i64 t137, .int .i64 t138] 25 (0, 0)) (by (with_reducible repeat (first | refine blk_drewN ?_ _ | refine blk_drew ?_ | refine blk_alloc ?_ _)); exact BK139.out)) : gb139 ≠ gb148))
                  have n15_ := Aside0.mk ((by rw [hg]; exact Nat.ne_of_gt (blk_lt (g := gb139) (o := .cells #[.int .i64 t135, .int .i64 t136, .int .i64 t137, .int .i64 t138] 25 (0, 0)) (by (with_reducible repeat (first | refine blk_drewN ?_ _ | refine blk_drew ?_ | refine blk_alloc ?_ _)); exact BK139.out)) : gb148 ≠ gb139))
                  clear BK127
                  clear BK128
                  clear BK134
                  clear BK139
                  clear HB
                  have BK127 := n0_
                  have BK128 := n1_
                  have BK134 := n2_
                  have BK139 := n3_
                  have HB := n4_
                  have BK148 := n5_
                  have GW148 := n6_
                  have GE148 := n7_
                  have NB127_148 := n8_
                  have NB148_127 := n9_
                  have NB128_148 := n10_
                  have NB148_128 := n11_
                  have NB134_148 := n12_
                  have NB148_134 := n13_
                  have NB139_148 := n14_
                  have NB148_139 := n15_
                  clear n0_ n1_ n2_ n3_ n4_ n5_ n6_ n7_ n8_ n9_ n10_ n11_ n12_ n13_ n14_ n15_
                  clear hb hbox hg
                  refine hK.out _ _ ⟨(blk_cell BK127.out 0).trans rfl, (blk_cell BK127.out 1).trans rfl, (blk_cell BK128.out 0).trans rfl, (blk_cell BK128.out 1).trans rfl⟩ (fun hHeld => ?_)
                  clear hK K
                  refine norm_ (a' := ?_) ?_ ?_
                  rotate_left
                  · show Act.put _ (some 10) _ = _
                    simp only [Act.put, List.setIfInBounds_toArray, List.set_cons_zero, List.set_cons_succ, i64_w, i32_w]
                    rfl
                  exact norm_ (by simp only [putAll, Act.put, List.setIfInBounds_toArray, List.set_cons_zero, List.set_cons_succ]) (hCont (gb148) _ ⟨hHeld, (by (with_reducible repeat (first | refine blk_drewN ?_ _ | refine blk_drew ?_ | refine blk_alloc ?_ _)); exact BK127.out), (by (with_reducible repeat (first | refine blk_drewN ?_ _ | refine blk_drew ?_ | refine blk_alloc ?_ _)); exact BK128.out), (by (with_reducible repeat (first | refine blk_drewN ?_ _ | refine blk_drew ?_ | refine blk_alloc ?_ _)); exact BK134.out), (by (with_reducible repeat (first | refine blk_drewN ?_ _ | refine blk_drew ?_ | refine blk_alloc ?_ _)); exact BK139.out), (by (with_reducible repeat (first | refine blk_drewN ?_ _ | refine blk_drew ?_ | refine blk_alloc ?_ _)); exact BK148.out), GW148.out, GE148.out, NB127_148.out, NB148_127.out, NB128_148.out, NB148_128.out, NB134_148.out, NB148_134.out, NB139_148.out, NB148_139.out, (by repeat (first | (with_reducible first | exact HB.out | apply below_alloc | apply pw_below_drewN | apply below_drew1 | refine below_set ?_ GE127.out | refine below_set ?_ GE128.out | refine below_set ?_ GE134.out | refine below_set ?_ GE139.out | refine below_set ?_ GE148.out) | exact HB.out))⟩)
                · skip
                  refine box_step ?hg (N := 10) ?hd (cs := #[.int .i64 0, .int .i64 0, .int .i64 0, .int .i64 0]) (t := 25) ?hr ?_; (case hd => rfl); (case hg => rfl); (case hr => first | (go_simp; done) | (go_simp; rfl))
                  intro gb148 hg w43 hbox hb
                  have n0_ := Aside0.mk (blk_below (g := gb127) (o := .cells #[.int .i64 (Int.tmod a0_0 1000000000), .int .i64 (Int.tmod a0_1 1000000000)] 24 (0, 0)) (by (with_reducible repeat (first | refine blk_drewN ?_ _ | refine blk_drew ?_ | refine blk_alloc ?_ _)); exact BK127.out) hb)
                  have n1_ := Aside0.mk (blk_below (g := gb128) (o := .cells #[.int .i64 (Int.tmod a1_0 1000000000), .int .i64 (Int.tmod a1_1 1000000000)] 24 (0, 0)) (by (with_reducible repeat (first | refine blk_drewN ?_ _ | refine blk_drew ?_ | refine blk_alloc ?_ _)); exact BK128.out) hb)
                  have n2_ := Aside0.mk (blk_below (g := gb134) (o := .cells #[.int .i64 t130, .int .i64 t131, .int .i64 t132, .int .i64 t133] 25 (0, 0)) (by (with_reducible repeat (first | refine blk_drewN ?_ _ | refine blk_drew ?_ | refine blk_alloc ?_ _)); exact BK134.out) hb)
                  have n3_ := Aside0.mk (blk_below (g := gb139) (o := .cells #[.int .i64 t135, .int .i64 t136, .int .i64 t137, .int .i64 t138] 25 (0, 0)) (by (with_reducible repeat (first | refine blk_drewN ?_ _ | refine blk_drew ?_ | refine blk_alloc ?_ _)); exact BK139.out) hb)
                  have n4_ := Aside0.mk (below_step (by repeat (first | (with_reducible first | exact HB.out | apply below_alloc | apply pw_below_drewN | apply below_drew1 | refine below_set ?_ GE127.out | refine below_set ?_ GE128.out | refine below_set ?_ GE134.out | refine below_set ?_ GE139.out) | exact HB.out)) hb)
                  have n5_ := Aside0.mk (hbox)
                  have n6_ := Aside0.mk ((by rw [hg]; exact (below_size (by repeat (first | (with_reducible first | exact HB.out | apply below_alloc | apply pw_below_drewN | apply below_drew1 | refine below_set ?_ GE127.out | refine below_set ?_ GE128.out | refine below_set ?_ GE134.out | refine below_set ?_ GE139.out) | exact HB.out))) : w.heap.size ≤ gb148))
                  have n7_ := Aside0.mk ((by rw [hg]; exact (below_size (by repeat (first | (with_reducible first | exact HB.out | apply below_alloc | apply pw_below_drewN | apply below_drew1 | refine below_set ?_ GE127.out | refine below_set ?_ GE128.out | refine below_set ?_ GE134.out | refine below_set ?_ GE139.out) | exact HB.out))) : w.heap.size ≤ gb148))
                  have n8_ := Aside0.mk ((by rw [hg]; exact Nat.ne_of_lt (blk_lt (g := gb127) (o := .cells #[.int .i64 (Int.tmod a0_0 1000000000), .int .i64 (Int.tmod a0_1 1000000000)] 24 (0, 0)) (by (with_reducible repeat (first | refine blk_drewN ?_ _ | refine blk_drew ?_ | refine blk_alloc ?_ _)); exact BK127.out)) : gb127 ≠ gb148))
                  have n9_ := Aside0.mk ((by rw [hg]; exact Nat.ne_of_gt (blk_lt (g := gb127) (o := .cells #[.int .i64 (Int.tmod a0_0 1000000000), .int .i64 (Int.tmod a0_1 1000000000)] 24 (0, 0)) (by (with_reducible repeat (first | refine blk_drewN ?_ _ | refine blk_drew ?_ | refine blk_alloc ?_ _)); exact BK127.out)) : gb148 ≠ gb127))
                  have n10_ := Aside0.mk ((by rw [hg]; exact Nat.ne_of_lt (blk_lt (g := gb128) (o := .cells #[.int .i64 (Int.tmod a1_0 1000000000), .int .i64 (Int.tmod a1_1 1000000000)] 24 (0, 0)) (by (with_reducible repeat (first | refine blk_drewN ?_ _ | refine blk_drew ?_ | refine blk_alloc ?_ _)); exact BK128.out)) : gb128 ≠ gb148))
                  have n11_ := Aside0.mk ((by rw [hg]; exact Nat.ne_of_gt (blk_lt (g := gb128) (o := .cells #[.int .i64 (Int.tmod a1_0 1000000000), .int .i64 (Int.tmod a1_1 1000000000)] 24 (0, 0)) (by (with_reducible repeat (first | refine blk_drewN ?_ _ | refine blk_drew ?_ | refine blk_alloc ?_ _)); exact BK128.out)) : gb148 ≠ gb128))
                  have n12_ := Aside0.mk ((by rw [hg]; exact Nat.ne_of_lt (blk_lt (g := gb134) (o := .cells #[.int .i64 t130, .int .i64 t131, .int .i64 t132, .int .i64 t133] 25 (0, 0)) (by (with_reducible repeat (first | refine blk_drewN ?_ _ | refine blk_drew ?_ | refine blk_alloc ?_ _)); exact BK134.out)) : gb134 ≠ gb148))
                  have n13_ := Aside0.mk ((by rw [hg]; exact Nat.ne_of_gt (blk_lt (g := gb134) (o := .cells #[.int .i64 t130, .int .i64 t131, .int .i64 t132, .int .i64 t133] 25 (0, 0)) (by (with_reducible repeat (first | refine blk_drewN ?_ _ | refine blk_drew ?_ | refine blk_alloc ?_ _)); exact BK134.out)) : gb148 ≠ gb134))
                  have n14_ := Aside0.mk ((by rw [hg]; exact Nat.ne_of_lt (blk_lt (g := gb139) (o := .cells #[.int .i64 t135, .int .i64 t136, .int .i64 t137, .int .i64 t138] 25 (0, 0)) (by (with_reducible repeat (first | refine blk_drewN ?_ _ | refine blk_drew ?_ | refine blk_alloc ?_ _)); exact BK139.out)) : gb139 ≠ gb148))
                  have n15_ := Aside0.mk ((by rw [hg]; exact Nat.ne_of_gt (blk_lt (g := gb139) (o := .cells #[.int .i64 t135, .int .i64 t136, .int .i64 t137, .int .i64 t138] 25 (0, 0)) (by (with_reducible repeat (first | refine blk_drewN ?_ _ | refine blk_drew ?_ | refine blk_alloc ?_ _)); exact BK139.out)) : gb148 ≠ gb139))
                  clear BK127
                  clear BK128
                  clear BK134
                  clear BK139
                  clear HB
                  have BK127 := n0_
                  have BK128 := n1_
                  have BK134 := n2_
                  have BK139 := n3_
                  have HB := n4_
                  have BK148 := n5_
                  have GW148 := n6_
                  have GE148 := n7_
                  have NB127_148 := n8_
                  have NB148_127 := n9_
                  have NB128_148 := n10_
                  have NB148_128 := n11_
                  have NB134_148 := n12_
                  have NB148_134 := n13_
                  have NB139_148 := n14_
                  have NB148_139 := n15_
                  clear n0_ n1_ n2_ n3_ n4_ n5_ n6_ n7_ n8_ n9_ n10_ n11_ n12_ n13_ n14_ n15_
                  clear hb hbox hg
                  refine hK.out _ _ ⟨(blk_cell BK127.out 0).trans rfl, (blk_cell BK127.out 1).trans rfl, (blk_cell BK128.out 0).trans rfl, (blk_cell BK128.out 1).trans rfl⟩ (fun hHeld => ?_)
                  clear hK K
                  refine norm_ (a' := ?_) ?_ ?_
                  rotate_left
                  · show Act.put _ (some 10) _ = _
                    simp only [Act.put, List.setIfInBounds_toArray, List.set_cons_zero, List.set_cons_succ, i64_w, i32_w]
                    rfl
                  refine one_ (i := 6) (N := some 43) #[true, true, true, true, true, true, true, true, false] rfl rfl (one_of HT_.out (by kernel_rfl)) (by decide) (fun K hK => ?_)
                  refine goes_ Try.func17 (by kernel_rfl) rfl #[.agg #[.int .i64 t140, .int .i64 t141], .agg #[.int .i64 t142, .int .i64 t143], .bool (!a2)] (by rfl) rfl rfl (by (try simp only [List.map_toArray, List.map_cons, List.map_nil]); first | done | rfl | (simp only [List.length_drop, List.length_take]; rfl)) ?_
                  with_reducible refine (arc_Cubic.calls t140 t141 t142 t143 (!a2) t144 t145 t146 t147 _ A10.out).mono ?_
                  rintro e w44 ⟨rfl, hb⟩
                  refine ⟨_, rfl, ?_⟩
                  have n0_ := Aside0.mk (blk_below (g := gb127) (o := .cells #[.int .i64 (Int.tmod a0_0 1000000000), .int .i64 (Int.tmod a0_1 1000000000)] 24 (0, 0)) (by (with_reducible repeat (first | refine blk_drewN ?_ _ | refine blk_drew ?_ | refine blk_alloc ?_ _)); exact BK127.out) hb)
                  have n1_ := Aside0.mk (blk_below (g := gb128) (o := .cells #[.int .i64 (Int.tmod a1_0 1000000000), .int .i64 (Int.tmod a1_1 1000000000)] 24 (0, 0)) (by (with_reducible repeat (first | refine blk_drewN ?_ _ | refine blk_drew ?_ | refine blk_alloc ?_ _)); exact BK128.out) hb)
                  have n2_ := Aside0.mk (blk_below (g := gb134) (o := .cells #[.int .i64 t130, .int .i64 t131, .int .i64 t132, .int .i64 t133] 25 (0, 0)) (by (with_reducible repeat (first | refine blk_drewN ?_ _ | refine blk_drew ?_ | refine blk_alloc ?_ _)); exact BK134.out) hb)
                  have n3_ := Aside0.mk (blk_below (g := gb139) (o := .cells #[.int .i64 t135, .int .i64 t136, .int .i64 t137, .int .i64 t138] 25 (0, 0)) (by (with_reducible repeat (first | refine blk_drewN ?_ _ | refine blk_drew ?_ | refine blk_alloc ?_ _)); exact BK139.out) hb)
                  have n4_ := Aside0.mk (blk_below (g := gb148) (o := .cells #[.int .i64 0, .int .i64 0, .int .i64 0, .int .i64 0] 25 (0, 0)) (by (with_reducible repeat (first | refine blk_drewN ?_ _ | refine blk_drew ?_ | refine blk_alloc ?_ _)); exact BK148.out) hb)
                  have n5_ := Aside0.mk (below_step (by repeat (first | (with_reducible first | exact HB.out | apply below_alloc | apply pw_below_drewN | apply below_drew1 | refine below_set ?_ GE127.out | refine below_set ?_ GE128.out | refine below_set ?_ GE134.out | refine below_set ?_ GE139.out | refine below_set ?_ GE148.out) | exact HB.out)) hb)
                  clear BK127
                  clear BK128
                  clear BK134
                  clear BK139
                  clear BK148
                  clear HB
                  have BK127 := n0_
                  have BK128 := n1_
                  have BK134 := n2_
                  have BK139 := n3_
                  have BK148 := n4_
                  have HB := n5_
                  clear n0_ n1_ n2_ n3_ n4_ n5_
                  (try clear hb)
                  (try clear hb2)
                  (try clear hk)
                  (try clear hi)
                  refine hK.out _ _ ⟨(blk_cell BK127.out 0).trans rfl, (blk_cell BK127.out 1).trans rfl, (blk_cell BK128.out 0).trans rfl, (blk_cell BK128.out 1).trans rfl⟩ (fun hHeld => ?_)
                  clear hK K
                  refine norm_ (a' := ?_) ?_ ?_
                  rotate_left
                  · show Act.put _ (some 43) _ = _
                    simp only [Act.put, List.setIfInBounds_toArray, List.set_cons_zero, List.set_cons_succ, i64_w, i32_w]
                    rfl
                  exact norm_ (by simp only [putAll, Act.put, List.setIfInBounds_toArray, List.set_cons_zero, List.set_cons_succ]) (hCont (gb148) _ ⟨hHeld, (by (with_reducible repeat (first | refine blk_drewN ?_ _ | refine blk_drew ?_ | refine blk_alloc ?_ _)); exact BK127.out), (by (with_reducible repeat (first | refine blk_drewN ?_ _ | refine blk_drew ?_ | refine blk_alloc ?_ _)); exact BK128.out), (by (with_reducible repeat (first | refine blk_drewN ?_ _ | refine blk_drew ?_ | refine blk_alloc ?_ _)); exact BK134.out), (by (with_reducible repeat (first | refine blk_drewN ?_ _ | refine blk_drew ?_ | refine blk_alloc ?_ _)); exact BK139.out), (by (with_reducible repeat (first | refine blk_drewN ?_ _ | refine blk_drew ?_ | refine blk_alloc ?_ _)); exact BK148.out), GW148.out, GE148.out, NB127_148.out, NB148_127.out, NB128_148.out, NB148_128.out, NB134_148.out, NB148_134.out, NB139_148.out, NB148_139.out, (by repeat (first | (with_reducible first | exact HB.out | apply below_alloc | apply pw_below_drewN | apply below_drew1 | refine below_set ?_ GE127.out | refine below_set ?_ GE128.out | refine below_set ?_ GE134.out | refine below_set ?_ GE139.out | refine below_set ?_ GE148.out) | exact HB.out))⟩)
              · skip
                refine box_step ?hg (N := 10) ?hd (cs := #[.int .i64 0, .int .i64 0, .int .i64 0, .int .i64 0]) (t := 25) ?hr ?_; (case hd => rfl); (case hg => rfl); (case hr => first | (go_simp; done) | (go_simp; rfl))
                intro gb148 hg w42 hbox hb
                have n0_ := Aside0.mk (blk_below (g := gb127) (o := .cells #[.int .i64 (Int.tmod a0_0 1000000000), .int .i64 (Int.tmod a0_1 1000000000)] 24 (0, 0)) (by (with_reducible repeat (first | refine blk_drewN ?_ _ | refine blk_drew ?_ | refine blk_alloc ?_ _)); exact BK127.out) hb)
                have n1_ := Aside0.mk (blk_below (g := gb128) (o := .cells #[.int .i64 (Int.tmod a1_0 1000000000), .int .i64 (Int.tmod a1_1 1000000000)] 24 (0, 0)) (by (with_reducible repeat (first | refine blk_drewN ?_ _ | refine blk_drew ?_ | refine blk_alloc ?_ _)); exact BK128.out) hb)
                have n2_ := Aside0.mk (blk_below (g := gb134) (o := .cells #[.int .i64 t130, .int .i64 t131, .int .i64 t132, .int .i64 t133] 25 (0, 0)) (by (with_reducible repeat (first | refine blk_drewN ?_ _ | refine blk_drew ?_ | refine blk_alloc ?_ _)); exact BK134.out) hb)
                have n3_ := Aside0.mk (blk_below (g := gb139) (o := .cells #[.int .i64 t135, .int .i64 t136, .int .i64 t137, .int .i64 t138] 25 (0, 0)) (by (with_reducible repeat (first | refine blk_drewN ?_ _ | refine blk_drew ?_ | refine blk_alloc ?_ _)); exact BK139.out) hb)
                have n4_ := Aside0.mk (below_step (by repeat (first | (with_reducible first | exact HB.out | apply below_alloc | apply pw_below_drewN | apply below_drew1 | refine below_set ?_ GE127.out | refine below_set ?_ GE128.out | refine below_set ?_ GE134.out | refine below_set ?_ GE139.out) | exact HB.out)) hb)
                have n5_ := Aside0.mk (hbox)
                have n6_ := Aside0.mk ((by rw [hg]; exact (below_size (by repeat (first | (with_reducible first | exact HB.out | apply below_alloc | apply pw_below_drewN | apply below_drew1 | refine below_set ?_ GE127.out | refine below_set ?_ GE128.out | refine below_set ?_ GE134.out | refine below_set ?_ GE139.out) | exact HB.out))) : w.heap.size ≤ gb148))
                have n7_ := Aside0.mk ((by rw [hg]; exact (below_size (by repeat (first | (with_reducible first | exact HB.out | apply below_alloc | apply pw_below_drewN | apply below_drew1 | refine below_set ?_ GE127.out | refine below_set ?_ GE128.out | refine below_set ?_ GE134.out | refine below_set ?_ GE139.out) | exact HB.out))) : w.heap.size ≤ gb148))
                have n8_ := Aside0.mk ((by rw [hg]; exact Nat.ne_of_lt (blk_lt (g := gb127) (o := .cells #[.int .i64 (Int.tmod a0_0 1000000000), .int .i64 (Int.tmod a0_1 1000000000)] 24 (0, 0)) (by (with_reducible repeat (first | refine blk_drewN ?_ _ | refine blk_drew ?_ | refine blk_alloc ?_ _)); exact BK127.out)) : gb127 ≠ gb148))
                have n9_ := Aside0.mk ((by rw [hg]; exact Nat.ne_of_gt (blk_lt (g := gb127) (o := .cells #[.int .i64 (Int.tmod a0_0 1000000000), .int .i64 (Int.tmod a0_1 1000000000)] 24 (0, 0)) (by (with_reducible repeat (first | refine blk_drewN ?_ _ | refine blk_drew ?_ | refine blk_alloc ?_ _)); exact BK127.out)) : gb148 ≠ gb127))
                have n10_ := Aside0.mk ((by rw [hg]; exact Nat.ne_of_lt (blk_lt (g := gb128) (o := .cells #[.int .i64 (Int.tmod a1_0 1000000000), .int .i64 (Int.tmod a1_1 1000000000)] 24 (0, 0)) (by (with_reducible repeat (first | refine blk_drewN ?_ _ | refine blk_drew ?_ | refine blk_alloc ?_ _)); exact BK128.out)) : gb128 ≠ gb148))
                have n11_ := Aside0.mk ((by rw [hg]; exact Nat.ne_of_gt (blk_lt (g := gb128) (o := .cells #[.int .i64 (Int.tmod a1_0 1000000000), .int .i64 (Int.tmod a1_1 1000000000)] 24 (0, 0)) (by (with_reducible repeat (first | refine blk_drewN ?_ _ | refine blk_drew ?_ | refine blk_alloc ?_ _)); exact BK128.out)) : gb148 ≠ gb128))
                have n12_ := Aside0.mk ((by rw [hg]; exact Nat.ne_of_lt (blk_lt (g := gb134) (o := .cells #[.int .i64 t130, .int .i64 t131, .int .i64 t132, .int .i64 t133] 25 (0, 0)) (by (with_reducible repeat (first | refine blk_drewN ?_ _ | refine blk_drew ?_ | refine blk_alloc ?_ _)); exact BK134.out)) : gb134 ≠ gb148))
                have n13_ := Aside0.mk ((by rw [hg]; exact Nat.ne_of_gt (blk_lt (g := gb134) (o := .cells #[.int .i64 t130, .int .i64 t131, .int .i64 t132, .int .i64 t133] 25 (0, 0)) (by (with_reducible repeat (first | refine blk_drewN ?_ _ | refine blk_drew ?_ | refine blk_alloc ?_ _)); exact BK134.out)) : gb148 ≠ gb134))
                have n14_ := Aside0.mk ((by rw [hg]; exact Nat.ne_of_lt (blk_lt (g := gb139) (o := .cells #[.int .i64 t135, .int .i64 t136, .int .i64 t137, .int .i64 t138] 25 (0, 0)) (by (with_reducible repeat (first | refine blk_drewN ?_ _ | refine blk_drew ?_ | refine blk_alloc ?_ _)); exact BK139.out)) : gb139 ≠ gb148))
                have n15_ := Aside0.mk ((by rw [hg]; exact Nat.ne_of_gt (blk_lt (g := gb139) (o := .cells #[.int .i64 t135, .int .i64 t136, .int .i64 t137, .int .i64 t138] 25 (0, 0)) (by (with_reducible repeat (first | refine blk_drewN ?_ _ | refine blk_drew ?_ | refine blk_alloc ?_ _)); exact BK139.out)) : gb148 ≠ gb139))
                clear BK127
                clear BK128
                clear BK134
                clear BK139
                clear HB
                have BK127 := n0_
                have BK128 := n1_
                have BK134 := n2_
                have BK139 := n3_
                have HB := n4_
                have BK148 := n5_
                have GW148 := n6_
                have GE148 := n7_
                have NB127_148 := n8_
                have NB148_127 := n9_
                have NB128_148 := n10_
                have NB148_128 := n11_
                have NB134_148 := n12_
                have NB148_134 := n13_
                have NB139_148 := n14_
                have NB148_139 := n15_
                clear n0_ n1_ n2_ n3_ n4_ n5_ n6_ n7_ n8_ n9_ n10_ n11_ n12_ n13_ n14_ n15_
                clear hb hbox hg
                refine hK.out _ _ ⟨(blk_cell BK127.out 0).trans rfl, (blk_cell BK127.out 1).trans rfl, (blk_cell BK128.out 0).trans rfl, (blk_cell BK128.out 1).trans rfl⟩ (fun hHeld => ?_)
                clear hK K
                refine norm_ (a' := ?_) ?_ ?_
                rotate_left
                · show Act.put _ (some 10) _ = _
                  simp only [Act.put, List.setIfInBounds_toArray, List.set_cons_zero, List.set_cons_succ, i64_w, i32_w]
                  rfl
                refine one_ (i := 3) (N := some 40) #[true, true, true, true, true, true, false, true, false] rfl rfl (one_of HT_.out (by kernel_rfl)) (by decide) (fun K hK => ?_)
                refine goes_ Try.func18 (by kernel_rfl) rfl #[.agg #[.int .i64 (Int.tmod a1_0 1000000000), .int .i64 (Int.tmod a1_1 1000000000)]] (by rfl) rfl rfl (by (try simp only [List.map_toArray, List.map_cons, List.map_nil]); first | done | rfl | (simp only [List.length_drop, List.length_take]; rfl)) ?_
                with_reducible refine (glyphiclaw14_swap.calls (Int.tmod a1_0 1000000000) (Int.tmod a1_1 1000000000) t142 t143 _ A9.out).mono ?_
                rintro e w43 ⟨rfl, hb⟩
                refine ⟨_, rfl, ?_⟩
                have n0_ := Aside0.mk (blk_below (g := gb127) (o := .cells #[.int .i64 (Int.tmod a0_0 1000000000), .int .i64 (Int.tmod a0_1 1000000000)] 24 (0, 0)) (by (with_reducible repeat (first | refine blk_drewN ?_ _ | refine blk_drew ?_ | refine blk_alloc ?_ _)); exact BK127.out) hb)
                have n1_ := Aside0.mk (blk_below (g := gb128) (o := .cells #[.int .i64 (Int.tmod a1_0 1000000000), .int .i64 (Int.tmod a1_1 1000000000)] 24 (0, 0)) (by (with_reducible repeat (first | refine blk_drewN ?_ _ | refine blk_drew ?_ | refine blk_alloc ?_ _)); exact BK128.out) hb)
                have n2_ := Aside0.mk (blk_below (g := gb134) (o := .cells #[.int .i64 t130, .int .i64 t131, .int .i64 t132, .int .i64 t133] 25 (0, 0)) (by (with_reducible repeat (first | refine blk_drewN ?_ _ | refine blk_drew ?_ | refine blk_alloc ?_ _)); exact BK134.out) hb)
                have n3_ := Aside0.mk (blk_below (g := gb139) (o := .cells #[.int .i64 t135, .int .i64 t136, .int .i64 t137, .int .i64 t138] 25 (0, 0)) (by (with_reducible repeat (first | refine blk_drewN ?_ _ | refine blk_drew ?_ | refine blk_alloc ?_ _)); exact BK139.out) hb)
                have n4_ := Aside0.mk (blk_below (g := gb148) (o := .cells #[.int .i64 0, .int .i64 0, .int .i64 0, .int .i64 0] 25 (0, 0)) (by (with_reducible repeat (first | refine blk_drewN ?_ _ | refine blk_drew ?_ | refine blk_alloc ?_ _)); exact BK148.out) hb)
                have n5_ := Aside0.mk (below_step (by repeat (first | (with_reducible first | exact HB.out | apply below_alloc | apply pw_below_drewN | apply below_drew1 | refine below_set ?_ GE127.out | refine below_set ?_ GE128.out | refine below_set ?_ GE134.out | refine below_set ?_ GE139.out | refine below_set ?_ GE148.out) | exact HB.out)) hb)
                clear BK127
                clear BK128
                clear BK134
                clear BK139
                clear BK148
                clear HB
                have BK127 := n0_
                have BK128 := n1_
                have BK134 := n2_
                have BK139 := n3_
                have BK148 := n4_
                have HB := n5_
                clear n0_ n1_ n2_ n3_ n4_ n5_
                (try clear hb)
                (try clear hb2)
                (try clear hk)
                (try clear hi)
                refine hK.out _ _ ⟨(blk_cell BK127.out 0).trans rfl, (blk_cell BK127.out 1).trans rfl, (blk_cell BK128.out 0).trans rfl, (blk_cell BK128.out 1).trans rfl⟩ (fun hHeld => ?_)
                clear hK K
                refine norm_ (a' := ?_) ?_ ?_
                rotate_left
                · show Act.put _ (some 40) _ = _
                  simp only [Act.put, List.setIfInBounds_toArray, List.set_cons_zero, List.set_cons_succ, i64_w, i32_w]
                  rfl
                refine one_ (i := 6) (N := some 43) #[true, true, true, true, true, true, true, true, false] rfl rfl (one_of HT_.out (by kernel_rfl)) (by decide) (fun K hK => ?_)
                refine goes_ Try.func17 (by kernel_rfl) rfl #[.agg #[.int .i64 t140, .int .i64 t141], .agg #[.int .i64 t142, .int .i64 t143], .bool (!a2)] (by rfl) rfl rfl (by (try simp only [List.map_toArray, List.map_cons, List.map_nil]); first | done | rfl | (simp only [List.length_drop, List.length_take]; rfl)) ?_
                with_reducible refine (arc_Cubic.calls t140 t141 t142 t143 (!a2) t144 t145 t146 t147 _ A10.out).mono ?_
                rintro e w44 ⟨rfl, hb⟩
                refine ⟨_, rfl, ?_⟩
                have n0_ := Aside0.mk (blk_below (g := gb127) (o := .cells #[.int .i64 (Int.tmod a0_0 1000000000), .int .i64 (Int.tmod a0_1 1000000000)] 24 (0, 0)) (by (with_reducible repeat (first | refine blk_drewN ?_ _ | refine blk_drew ?_ | refine blk_alloc ?_ _)); exact BK127.out) hb)
                have n1_ := Aside0.mk (blk_below (g := gb128) (o := .cells #[.int .i64 (Int.tmod a1_0 1000000000), .int .i64 (Int.tmod a1_1 1000000000)] 24 (0, 0)) (by (with_reducible repeat (first | refine blk_drewN ?_ _ | refine blk_drew ?_ | refine blk_alloc ?_ _)); exact BK128.out) hb)
                have n2_ := Aside0.mk (blk_below (g := gb134) (o := .cells #[.int .i64 t130, .int .i64 t131, .int .i64 t132, .int .i64 t133] 25 (0, 0)) (by (with_reducible repeat (first | refine blk_drewN ?_ _ | refine blk_drew ?_ | refine blk_alloc ?_ _)); exact BK134.out) hb)
                have n3_ := Aside0.mk (blk_below (g := gb139) (o := .cells #[.int .i64 t135, .int .i64 t136, .int .i64 t137, .int .i64 t138] 25 (0, 0)) (by (with_reducible repeat (first | refine blk_drewN ?_ _ | refine blk_drew ?_ | refine blk_alloc ?_ _)); exact BK139.out) hb)
                have n4_ := Aside0.mk (blk_below (g := gb148) (o := .cells #[.int .i64 0, .int .i64 0, .int .i64 0, .int .i64 0] 25 (0, 0)) (by (with_reducible repeat (first | refine blk_drewN ?_ _ | refine blk_drew ?_ | refine blk_alloc ?_ _)); exact BK148.out) hb)
                have n5_ := Aside0.mk (below_step (by repeat (first | (with_reducible first | exact HB.out | apply below_alloc | apply pw_below_drewN | apply below_drew1 | refine below_set ?_ GE127.out | refine below_set ?_ GE128.out | refine below_set ?_ GE134.out | refine below_set ?_ GE139.out | refine below_set ?_ GE148.out) | exact HB.out)) hb)
                clear BK127
                clear BK128
                clear BK134
                clear BK139
                clear BK148
                clear HB
                have BK127 := n0_
                have BK128 := n1_
                have BK134 := n2_
                have BK139 := n3_
                have BK148 := n4_
                have HB := n5_
                clear n0_ n1_ n2_ n3_ n4_ n5_
                (try clear hb)
                (try clear hb2)
                (try clear hk)
                (try clear hi)
                refine hK.out _ _ ⟨(blk_cell BK127.out 0).trans rfl, (blk_cell BK127.out 1).trans rfl, (blk_cell BK128.out 0).trans rfl, (blk_cell BK128.out 1).trans rfl⟩ (fun hHeld => ?_)
                clear hK K
                refine norm_ (a' := ?_) ?_ ?_
                rotate_left
                · show Act.put _ (some 43) _ = _
                  simp only [Act.put, List.setIfInBounds_toArray, List.set_cons_zero, List.set_cons_succ, i64_w, i32_w]
                  rfl
                exact norm_ (by simp only [putAll, Act.put, List.setIfInBounds_toArray, List.set_cons_zero, List.set_cons_succ]) (hCont (gb148) _ ⟨hHeld, (by (with_reducible repeat (first | refine blk_drewN ?_ _ | refine blk_drew ?_ | refine blk_alloc ?_ _)); exact BK127.out), (by (with_reducible repeat (first | refine blk_drewN ?_ _ | refine blk_drew ?_ | refine blk_alloc ?_ _)); exact BK128.out), (by (with_reducible repeat (first | refine blk_drewN ?_ _ | refine blk_drew ?_ | refine blk_alloc ?_ _)); exact BK134.out), (by (with_reducible repeat (first | refine blk_drewN ?_ _ | refine blk_drew ?_ | refine blk_alloc ?_ _)); exact BK139.out), (by (with_reducible repeat (first | refine blk_drewN ?_ _ | refine blk_drew ?_ | refine blk_alloc ?_ _)); exact BK148.out), GW148.out, GE148.out, NB127_148.out, NB148_127.out, NB128_148.out, NB148_128.out, NB134_148.out, NB148_134.out, NB139_148.out, NB148_139.out, (by repeat (first | (with_reducible first | exact HB.out | apply below_alloc | apply pw_below_drewN | apply below_drew1 | refine below_set ?_ GE127.out | refine below_set ?_ GE128.out | refine below_set ?_ GE134.out | refine below_set ?_ GE139.out | refine below_set ?_ GE148.out) | exact HB.out))⟩)
            · skip
              refine box_step ?hg (N := 10) ?hd (cs := #[.int .i64 0, .int .i64 0, .int .i64 0, .int .i64 0]) (t := 25) ?hr ?_; (case hd => rfl); (case hg => rfl); (case hr => first | (go_simp; done) | (go_simp; rfl))
              intro gb148 hg w41 hbox hb
              have n0_ := Aside0.mk (blk_below (g := gb127) (o := .cells #[.int .i64 (Int.tmod a0_0 1000000000), .int .i64 (Int.tmod a0_1 1000000000)] 24 (0, 0)) (by (with_reducible repeat (first | refine blk_drewN ?_ _ | refine blk_drew ?_ | refine blk_alloc ?_ _)); exact BK127.out) hb)
              have n1_ := Aside0.mk (blk_below (g := gb128) (o := .cells #[.int .i64 (Int.tmod a1_0 1000000000), .int .i64 (Int.tmod a1_1 1000000000)] 24 (0, 0)) (by (with_reducible repeat (first | refine blk_drewN ?_ _ | refine blk_drew ?_ | refine blk_alloc ?_ _)); exact BK128.out) hb)
              have n2_ := Aside0.mk (blk_below (g := gb134) (o := .cells #[.int .i64 t130, .int .i64 t131, .int .i64 t132, .int .i64 t133] 25 (0, 0)) (by (with_reducible repeat (first | refine blk_drewN ?_ _ | refine blk_drew ?_ | refine blk_alloc ?_ _)); exact BK134.out) hb)
              have n3_ := Aside0.mk (blk_below (g := gb139) (o := .cells #[.int .i64 t135, .int .i64 t136, .int .i64 t137, .int .i64 t138] 25 (0, 0)) (by (with_reducible repeat (first | refine blk_drewN ?_ _ | refine blk_drew ?_ | refine blk_alloc ?_ _)); exact BK139.out) hb)
              have n4_ := Aside0.mk (below_step (by repeat (first | (with_reducible first | exact HB.out | apply below_alloc | apply pw_below_drewN | apply below_drew1 | refine below_set ?_ GE127.out | refine below_set ?_ GE128.out | refine below_set ?_ GE134.out | refine below_set ?_ GE139.out) | exact HB.out)) hb)
              have n5_ := Aside0.mk (hbox)
              have n6_ := Aside0.mk ((by rw [hg]; exact (below_size (by repeat (first | (with_reducible first | exact HB.out | apply below_alloc | apply pw_below_drewN | apply below_drew1 | refine below_set ?_ GE127.out | refine below_set ?_ GE128.out | refine below_set ?_ GE134.out | refine below_set ?_ GE139.out) | exact HB.out))) : w.heap.size ≤ gb148))
              have n7_ := Aside0.mk ((by rw [hg]; exact (below_size (by repeat (first | (with_reducible first | exact HB.out | apply below_alloc | apply pw_below_drewN | apply below_drew1 | refine below_set ?_ GE127.out | refine below_set ?_ GE128.out | refine below_set ?_ GE134.out | refine below_set ?_ GE139.out) | exact HB.out))) : w.heap.size ≤ gb148))
              have n8_ := Aside0.mk ((by rw [hg]; exact Nat.ne_of_lt (blk_lt (g := gb127) (o := .cells #[.int .i64 (Int.tmod a0_0 1000000000), .int .i64 (Int.tmod a0_1 1000000000)] 24 (0, 0)) (by (with_reducible repeat (first | refine blk_drewN ?_ _ | refine blk_drew ?_ | refine blk_alloc ?_ _)); exact BK127.out)) : gb127 ≠ gb148))
              have n9_ := Aside0.mk ((by rw [hg]; exact Nat.ne_of_gt (blk_lt (g := gb127) (o := .cells #[.int .i64 (Int.tmod a0_0 1000000000), .int .i64 (Int.tmod a0_1 1000000000)] 24 (0, 0)) (by (with_reducible repeat (first | refine blk_drewN ?_ _ | refine blk_drew ?_ | refine blk_alloc ?_ _)); exact BK127.out)) : gb148 ≠ gb127))
              have n10_ := Aside0.mk ((by rw [hg]; exact Nat.ne_of_lt (blk_lt (g := gb128) (o := .cells #[.int .i64 (Int.tmod a1_0 1000000000), .int .i64 (Int.tmod a1_1 1000000000)] 24 (0, 0)) (by (with_reducible repeat (first | refine blk_drewN ?_ _ | refine blk_drew ?_ | refine blk_alloc ?_ _)); exact BK128.out)) : gb128 ≠ gb148))
              have n11_ := Aside0.mk ((by rw [hg]; exact Nat.ne_of_gt (blk_lt (g := gb128) (o := .cells #[.int .i64 (Int.tmod a1_0 1000000000), .int .i64 (Int.tmod a1_1 1000000000)] 24 (0, 0)) (by (with_reducible repeat (first | refine blk_drewN ?_ _ | refine blk_drew ?_ | refine blk_alloc ?_ _)); exact BK128.out)) : gb148 ≠ gb128))
              have n12_ := Aside0.mk ((by rw [hg]; exact Nat.ne_of_lt (blk_lt (g := gb134) (o := .cells #[.int .i64 t130, .int .i64 t131, .int .i64 t132, .int .i64 t133] 25 (0, 0)) (by (with_reducible repeat (first | refine blk_drewN ?_ _ | refine blk_drew ?_ | refine blk_alloc ?_ _)); exact BK134.out)) : gb134 ≠ gb148))
              have n13_ := Aside0.mk ((by rw [hg]; exact Nat.ne_of_gt (blk_lt (g := gb134) (o := .cells #[.int .i64 t130, .int .i64 t131, .int .i64 t132, .int .i64 t133] 25 (0, 0)) (by (with_reducible repeat (first | refine blk_drewN ?_ _ | refine blk_drew ?_ | refine blk_alloc ?_ _)); exact BK134.out)) : gb148 ≠ gb134))
              have n14_ := Aside0.mk ((by rw [hg]; exact Nat.ne_of_lt (blk_lt (g := gb139) (o := .cells #[.int .i64 t135, .int .i64 t136, .int .i64 t137, .int .i64 t138] 25 (0, 0)) (by (with_reducible repeat (first | refine blk_drewN ?_ _ | refine blk_drew ?_ | refine blk_alloc ?_ _)); exact BK139.out)) : gb139 ≠ gb148))
              have n15_ := Aside0.mk ((by rw [hg]; exact Nat.ne_of_gt (blk_lt (g := gb139) (o := .cells #[.int .i64 t135, .int .i64 t136, .int .i64 t137, .int .i64 t138] 25 (0, 0)) (by (with_reducible repeat (first | refine blk_drewN ?_ _ | refine blk_drew ?_ | refine blk_alloc ?_ _)); exact BK139.out)) : gb148 ≠ gb139))
              clear BK127
              clear BK128
              clear BK134
              clear BK139
              clear HB
              have BK127 := n0_
              have BK128 := n1_
              have BK134 := n2_
              have BK139 := n3_
              have HB := n4_
              have BK148 := n5_
              have GW148 := n6_
              have GE148 := n7_
              have NB127_148 := n8_
              have NB148_127 := n9_
              have NB128_148 := n10_
              have NB148_128 := n11_
              have NB134_148 := n12_
              have NB148_134 := n13_
              have NB139_148 := n14_
              have NB148_139 := n15_
              clear n0_ n1_ n2_ n3_ n4_ n5_ n6_ n7_ n8_ n9_ n10_ n11_ n12_ n13_ n14_ n15_
              clear hb hbox hg
              refine hK.out _ _ ⟨(blk_cell BK127.out 0).trans rfl, (blk_cell BK127.out 1).trans rfl, (blk_cell BK128.out 0).trans rfl, (blk_cell BK128.out 1).trans rfl⟩ (fun hHeld => ?_)
              clear hK K
              refine norm_ (a' := ?_) ?_ ?_
              rotate_left
              · show Act.put _ (some 10) _ = _
                simp only [Act.put, List.setIfInBounds_toArray, List.set_cons_zero, List.set_cons_succ, i64_w, i32_w]
                rfl
              refine one_ (i := 1) (N := some 38) #[true, true, true, false, true, true, false, true, false] rfl rfl (one_of HT_.out (by kernel_rfl)) (by decide) (fun K hK => ?_)
              refine goes_ Try.func18 (by kernel_rfl) rfl #[.agg #[.int .i64 (Int.tmod a0_0 1000000000), .int .i64 (Int.tmod a0_1 1000000000)]] (by rfl) rfl rfl (by (try simp only [List.map_toArray, List.map_cons, List.map_nil]); first | done | rfl | (simp only [List.length_drop, List.length_take]; rfl)) ?_
              with_reducible refine (glyphiclaw14_swap.calls (Int.tmod a0_0 1000000000) (Int.tmod a0_1 1000000000) t140 t141 _ A8.out).mono ?_
              rintro e w42 ⟨rfl, hb⟩
              refine ⟨_, rfl, ?_⟩
              have n0_ := Aside0.mk (blk_below (g := gb127) (o := .cells #[.int .i64 (Int.tmod a0_0 1000000000), .int .i64 (Int.tmod a0_1 1000000000)] 24 (0, 0)) (by (with_reducible repeat (first | refine blk_drewN ?_ _ | refine blk_drew ?_ | refine blk_alloc ?_ _)); exact BK127.out) hb)
              have n1_ := Aside0.mk (blk_below (g := gb128) (o := .cells #[.int .i64 (Int.tmod a1_0 1000000000), .int .i64 (Int.tmod a1_1 1000000000)] 24 (0, 0)) (by (with_reducible repeat (first | refine blk_drewN ?_ _ | refine blk_drew ?_ | refine blk_alloc ?_ _)); exact BK128.out) hb)
              have n2_ := Aside0.mk (blk_below (g := gb134) (o := .cells #[.int .i64 t130, .int .i64 t131, .int .i64 t132, .int .i64 t133] 25 (0, 0)) (by (with_reducible repeat (first | refine blk_drewN ?_ _ | refine blk_drew ?_ | refine blk_alloc ?_ _)); exact BK134.out) hb)
              have n3_ := Aside0.mk (blk_below (g := gb139) (o := .cells #[.int .i64 t135, .int .i64 t136, .int .i64 t137, .int .i64 t138] 25 (0, 0)) (by (with_reducible repeat (first | refine blk_drewN ?_ _ | refine blk_drew ?_ | refine blk_alloc ?_ _)); exact BK139.out) hb)
              have n4_ := Aside0.mk (blk_below (g := gb148) (o := .cells #[.int .i64 0, .int .i64 0, .int .i64 0, .int .i64 0] 25 (0, 0)) (by (with_reducible repeat (first | refine blk_drewN ?_ _ | refine blk_drew ?_ | refine blk_alloc ?_ _)); exact BK148.out) hb)
              have n5_ := Aside0.mk (below_step (by repeat (first | (with_reducible first | exact HB.out | apply below_alloc | apply pw_below_drewN | apply below_drew1 | refine below_set ?_ GE127.out | refine below_set ?_ GE128.out | refine below_set ?_ GE134.out | refine below_set ?_ GE139.out | refine below_set ?_ GE148.out) | exact HB.out)) hb)
              clear BK127
              clear BK128
              clear BK134
              clear BK139
              clear BK148
              clear HB
              have BK127 := n0_
              have BK128 := n1_
              have BK134 := n2_
              have BK139 := n3_
              have BK148 := n4_
              have HB := n5_
              clear n0_ n1_ n2_ n3_ n4_ n5_
              (try clear hb)
              (try clear hb2)
              (try clear hk)
              (try clear hi)
              refine hK.out _ _ ⟨(blk_cell BK127.out 0).trans rfl, (blk_cell BK127.out 1).trans rfl, (blk_cell BK128.out 0).trans rfl, (blk_cell BK128.out 1).trans rfl⟩ (fun hHeld => ?_)
              clear hK K
              refine norm_ (a' := ?_) ?_ ?_
              rotate_left
              · show Act.put _ (some 38) _ = _
                simp only [Act.put, List.setIfInBounds_toArray, List.set_cons_zero, List.set_cons_succ, i64_w, i32_w]
                rfl
              refine one_ (i := 3) (N := some 40) #[true, true, true, true, true, true, false, true, false] rfl rfl (one_of HT_.out (by kernel_rfl)) (by decide) (fun K hK => ?_)
              refine goes_ Try.func18 (by kernel_rfl) rfl #[.agg #[.int .i64 (Int.tmod a1_0 1000000000), .int .i64 (Int.tmod a1_1 1000000000)]] (by rfl) rfl rfl (by (try simp only [List.map_toArray, List.map_cons, List.map_nil]); first | done | rfl | (simp only [List.length_drop, List.length_take]; rfl)) ?_
              with_reducible refine (glyphiclaw14_swap.calls (Int.tmod a1_0 1000000000) (Int.tmod a1_1 1000000000) t142 t143 _ A9.out).mono ?_
              rintro e w43 ⟨rfl, hb⟩
              refine ⟨_, rfl, ?_⟩
              have n0_ := Aside0.mk (blk_below (g := gb127) (o := .cells #[.int .i64 (Int.tmod a0_0 1000000000), .int .i64 (Int.tmod a0_1 1000000000)] 24 (0, 0)) (by (with_reducible repeat (first | refine blk_drewN ?_ _ | refine blk_drew ?_ | refine blk_alloc ?_ _)); exact BK127.out) hb)
              have n1_ := Aside0.mk (blk_below (g := gb128) (o := .cells #[.int .i64 (Int.tmod a1_0 1000000000), .int .i64 (Int.tmod a1_1 1000000000)] 24 (0, 0)) (by (with_reducible repeat (first | refine blk_drewN ?_ _ | refine blk_drew ?_ | refine blk_alloc ?_ _)); exact BK128.out) hb)
              have n2_ := Aside0.mk (blk_below (g := gb134) (o := .cells #[.int .i64 t130, .int .i64 t131, .int .i64 t132, .int .i64 t133] 25 (0, 0)) (by (with_reducible repeat (first | refine blk_drewN ?_ _ | refine blk_drew ?_ | refine blk_alloc ?_ _)); exact BK134.out) hb)
              have n3_ := Aside0.mk (blk_below (g := gb139) (o := .cells #[.int .i64 t135, .int .i64 t136, .int .i64 t137, .int .i64 t138] 25 (0, 0)) (by (with_reducible repeat (first | refine blk_drewN ?_ _ | refine blk_drew ?_ | refine blk_alloc ?_ _)); exact BK139.out) hb)
              have n4_ := Aside0.mk (blk_below (g := gb148) (o := .cells #[.int .i64 0, .int .i64 0, .int .i64 0, .int .i64 0] 25 (0, 0)) (by (with_reducible repeat (first | refine blk_drewN ?_ _ | refine blk_drew ?_ | refine blk_alloc ?_ _)); exact BK148.out) hb)
              have n5_ := Aside0.mk (below_step (by repeat (first | (with_reducible first | exact HB.out | apply below_alloc | apply pw_below_drewN | apply below_drew1 | refine below_set ?_ GE127.out | refine below_set ?_ GE128.out | refine below_set ?_ GE134.out | refine below_set ?_ GE139.out | refine below_set ?_ GE148.out) | exact HB.out)) hb)
              clear BK127
              clear BK128
              clear BK134
              clear BK139
              clear BK148
              clear HB
              have BK127 := n0_
              have BK128 := n1_
              have BK134 := n2_
              have BK139 := n3_
              have BK148 := n4_
              have HB := n5_
              clear n0_ n1_ n2_ n3_ n4_ n5_
              (try clear hb)
              (try clear hb2)
              (try clear hk)
              (try clear hi)
              refine hK.out _ _ ⟨(blk_cell BK127.out 0).trans rfl, (blk_cell BK127.out 1).trans rfl, (blk_cell BK128.out 0).trans rfl, (blk_cell BK128.out 1).trans rfl⟩ (fun hHeld => ?_)
              clear hK K
              refine norm_ (a' := ?_) ?_ ?_
              rotate_left
              · show Act.put _ (some 40) _ = _
                simp only [Act.put, List.setIfInBounds_toArray, List.set_cons_zero, List.set_cons_succ, i64_w, i32_w]
                rfl
              refine one_ (i := 6) (N := some 43) #[true, true, true, true, true, true, true, true, false] rfl rfl (one_of HT_.out (by kernel_rfl)) (by decide) (fun K hK => ?_)
              refine goes_ Try.func17 (by kernel_rfl) rfl #[.agg #[.int .i64 t140, .int .i64 t141], .agg #[.int .i64 t142, .int .i64 t143], .bool (!a2)] (by rfl) rfl rfl (by (try simp only [List.map_toArray, List.map_cons, List.map_nil]); first | done | rfl | (simp only [List.length_drop, List.length_take]; rfl)) ?_
              with_reducible refine (arc_Cubic.calls t140 t141 t142 t143 (!a2) t144 t145 t146 t147 _ A10.out).mono ?_
              rintro e w44 ⟨rfl, hb⟩
              refine ⟨_, rfl, ?_⟩
              have n0_ := Aside0.mk (blk_below (g := gb127) (o := .cells #[.int .i64 (Int.tmod a0_0 1000000000), .int .i64 (Int.tmod a0_1 1000000000)] 24 (0, 0)) (by (with_reducible repeat (first | refine blk_drewN ?_ _ | refine blk_drew ?_ | refine blk_alloc ?_ _)); exact BK127.out) hb)
              have n1_ := Aside0.mk (blk_below (g := gb128) (o := .cells #[.int .i64 (Int.tmod a1_0 1000000000), .int .i64 (Int.tmod a1_1 1000000000)] 24 (0, 0)) (by (with_reducible repeat (first | refine blk_drewN ?_ _ | refine blk_drew ?_ | refine blk_alloc ?_ _)); exact BK128.out) hb)
              have n2_ := Aside0.mk (blk_below (g := gb134) (o := .cells #[.int .i64 t130, .int .i64 t131, .int .i64 t132, .int .i64 t133] 25 (0, 0)) (by (with_reducible repeat (first | refine blk_drewN ?_ _ | refine blk_drew ?_ | refine blk_alloc ?_ _)); exact BK134.out) hb)
              have n3_ := Aside0.mk (blk_below (g := gb139) (o := .cells #[.int .i64 t135, .int .i64 t136, .int .i64 t137, .int .i64 t138] 25 (0, 0)) (by (with_reducible repeat (first | refine blk_drewN ?_ _ | refine blk_drew ?_ | refine blk_alloc ?_ _)); exact BK139.out) hb)
              have n4_ := Aside0.mk (blk_below (g := gb148) (o := .cells #[.int .i64 0, .int .i64 0, .int .i64 0, .int .i64 0] 25 (0, 0)) (by (with_reducible repeat (first | refine blk_drewN ?_ _ | refine blk_drew ?_ | refine blk_alloc ?_ _)); exact BK148.out) hb)
              have n5_ := Aside0.mk (below_step (by repeat (first | (with_reducible first | exact HB.out | apply below_alloc | apply pw_below_drewN | apply below_drew1 | refine below_set ?_ GE127.out | refine below_set ?_ GE128.out | refine below_set ?_ GE134.out | refine below_set ?_ GE139.out | refine below_set ?_ GE148.out) | exact HB.out)) hb)
              clear BK127
              clear BK128
              clear BK134
              clear BK139
              clear BK148
              clear HB
              have BK127 := n0_
              have BK128 := n1_
              have BK134 := n2_
              have BK139 := n3_
              have BK148 := n4_
              have HB := n5_
              clear n0_ n1_ n2_ n3_ n4_ n5_
              (try clear hb)
              (try clear hb2)
              (try clear hk)
              (try clear hi)
              refine hK.out _ _ ⟨(blk_cell BK127.out 0).trans rfl, (blk_cell BK127.out 1).trans rfl, (blk_cell BK128.out 0).trans rfl, (blk_cell BK128.out 1).trans rfl⟩ (fun hHeld => ?_)
              clear hK K
              refine norm_ (a' := ?_) ?_ ?_
              rotate_left
              · show Act.put _ (some 43) _ = _
                simp only [Act.put, List.setIfInBounds_toArray, List.set_cons_zero, List.set_cons_succ, i64_w, i32_w]
                rfl
              exact norm_ (by simp only [putAll, Act.put, List.setIfInBounds_toArray, List.set_cons_zero, List.set_cons_succ]) (hCont (gb148) _ ⟨hHeld, (by (with_reducible repeat (first | refine blk_drewN ?_ _ | refine blk_drew ?_ | refine blk_alloc ?_ _)); exact BK127.out), (by (with_reducible repeat (first | refine blk_drewN ?_ _ | refine blk_drew ?_ | refine blk_alloc ?_ _)); exact BK128.out), (by (with_reducible repeat (first | refine blk_drewN ?_ _ | refine blk_drew ?_ | refine blk_alloc ?_ _)); exact BK134.out), (by (with_reducible repeat (first | refine blk_drewN ?_ _ | refine blk_drew ?_ | refine blk_alloc ?_ _)); exact BK139.out), (by (with_reducible repeat (first | refine blk_drewN ?_ _ | refine blk_drew ?_ | refine blk_alloc ?_ _)); exact BK148.out), GW148.out, GE148.out, NB127_148.out, NB148_127.out, NB128_148.out, NB148_128.out, NB134_148.out, NB148_134.out, NB139_148.out, NB148_139.out, (by repeat (first | (with_reducible first | exact HB.out | apply below_alloc | apply pw_below_drewN | apply below_drew1 | refine below_set ?_ GE127.out | refine below_set ?_ GE128.out | refine below_set ?_ GE134.out | refine below_set ?_ GE139.out | refine below_set ?_ GE148.out) | exact HB.out))⟩)
          rintro gb148 w45 ⟨hS_, h0_, h1_, h2_, h3_, h4_, h5_, h6_, h7_, h8_, h9_, h10_, h11_, h12_, h13_, h14_, h15_⟩
          have n0_ : Aside0 (w45.heap[gb127]? = some (.cells #[.int .i64 (Int.tmod a0_0 1000000000), .int .i64 (Int.tmod a0_1 1000000000)] 24 (0, 0))) := ⟨h0_⟩
          have n1_ : Aside0 (w45.heap[gb128]? = some (.cells #[.int .i64 (Int.tmod a1_0 1000000000), .int .i64 (Int.tmod a1_1 1000000000)] 24 (0, 0))) := ⟨h1_⟩
          have n2_ : Aside0 (w45.heap[gb134]? = some (.cells #[.int .i64 t130, .int .i64 t131, .int .i64 t132, .int .i64 t133] 25 (0, 0))) := ⟨h2_⟩
          have n3_ : Aside0 (w45.heap[gb139]? = some (.cells #[.int .i64 t135, .int .i64 t136, .int .i64 t137, .int .i64 t138] 25 (0, 0))) := ⟨h3_⟩
          have n4_ : Aside0 (w45.heap[gb148]? = some (.cells #[.int .i64 0, .int .i64 0, .int .i64 0, .int .i64 0] 25 (0, 0))) := ⟨h4_⟩
          have n5_ : Aside0 (w.heap.size ≤ gb148) := ⟨h5_⟩
          have n6_ : Aside0 (w.heap.size ≤ gb148) := ⟨h6_⟩
          have n7_ : Aside0 (gb127 ≠ gb148) := ⟨h7_⟩
          have n8_ : Aside0 (gb148 ≠ gb127) := ⟨h8_⟩
          have n9_ : Aside0 (gb128 ≠ gb148) := ⟨h9_⟩
          have n10_ : Aside0 (gb148 ≠ gb128) := ⟨h10_⟩
          have n11_ : Aside0 (gb134 ≠ gb148) := ⟨h11_⟩
          have n12_ : Aside0 (gb148 ≠ gb134) := ⟨h12_⟩
          have n13_ : Aside0 (gb139 ≠ gb148) := ⟨h13_⟩
          have n14_ : Aside0 (gb148 ≠ gb139) := ⟨h14_⟩
          have n15_ : Aside0 (Below w.heap.size w w45) := ⟨h15_⟩
          clear BK127
          clear BK128
          clear BK134
          clear BK139
          clear HB
          clear h0_ h1_ h2_ h3_ h4_ h5_ h6_ h7_ h8_ h9_ h10_ h11_ h12_ h13_ h14_ h15_
          have BK127 := n0_
          have BK128 := n1_
          have BK134 := n2_
          have BK139 := n3_
          have BK148 := n4_
          have GW148 := n5_
          have GE148 := n6_
          have NB127_148 := n7_
          have NB148_127 := n8_
          have NB128_148 := n9_
          have NB148_128 := n10_
          have NB134_148 := n11_
          have NB148_134 := n12_
          have NB139_148 := n13_
          have NB148_139 := n14_
          have HB := n15_
          clear n0_ n1_ n2_ n3_ n4_ n5_ n6_ n7_ n8_ n9_ n10_ n11_ n12_ n13_ n14_ n15_
          have hHeld : w45.cell? ⟨gb127, 0, none⟩ = some (.int .i64 (Int.tmod a0_0 1000000000)) ∧ w45.cell? ⟨gb127, 1, none⟩ = some (.int .i64 (Int.tmod a0_1 1000000000)) ∧ w45.cell? ⟨gb128, 0, none⟩ = some (.int .i64 (Int.tmod a1_0 1000000000)) ∧ w45.cell? ⟨gb128, 1, none⟩ = some (.int .i64 (Int.tmod a1_1 1000000000)) := hS_
          refine norm_ (a' := ?_) ?_ ?_
          rotate_left
          · simp only [putAll, Act.put, List.setIfInBounds_toArray, List.set_cons_zero, List.set_cons_succ]
            rfl
          refine one_ (i := 8) (N := none) #[true, true, true, true, true, true, true, true, true] rfl rfl (one_of HT_.out (by kernel_rfl)) (by decide) (fun K hK => ?_)
          have hs46 : w45.cell? ⟨gb148, 0, none⟩ = some (.int .i64 0) := (blk_cell BK148.out 0).trans rfl
          have hfs46 := blk_frozen BK148.out 0
          have hns46_0 := NB127_148.out
          have hns46_1 := NB128_148.out
          have hns46_2 := NB134_148.out
          have hns46_3 := NB139_148.out
          have hms46_0 := NB148_127.out
          have hms46_1 := NB148_128.out
          have hms46_2 := NB148_134.out
          have hms46_3 := NB148_139.out
          have hs47 : w45.cell? ⟨gb148, 1, none⟩ = some (.int .i64 0) := (blk_cell BK148.out 1).trans rfl
          have hfs47 := blk_frozen BK148.out 1
          have hns47_0 := NB127_148.out
          have hns47_1 := NB128_148.out
          have hns47_2 := NB134_148.out
          have hns47_3 := NB139_148.out
          have hms47_0 := NB148_127.out
          have hms47_1 := NB148_128.out
          have hms47_2 := NB148_134.out
          have hms47_3 := NB148_139.out
          have hs48 : w45.cell? ⟨gb148, 2, none⟩ = some (.int .i64 0) := (blk_cell BK148.out 2).trans rfl
          have hfs48 := blk_frozen BK148.out 2
          have hns48_0 := NB127_148.out
          have hns48_1 := NB128_148.out
          have hns48_2 := NB134_148.out
          have hns48_3 := NB139_148.out
          have hms48_0 := NB148_127.out
          have hms48_1 := NB148_128.out
          have hms48_2 := NB148_134.out
          have hms48_3 := NB148_139.out
          have hs49 : w45.cell? ⟨gb148, 3, none⟩ = some (.int .i64 0) := (blk_cell BK148.out 3).trans rfl
          have hfs49 := blk_frozen BK148.out 3
          have hns49_0 := NB127_148.out
          have hns49_1 := NB128_148.out
          have hns49_2 := NB134_148.out
          have hns49_3 := NB139_148.out
          have hms49_0 := NB148_127.out
          have hms49_1 := NB148_128.out
          have hms49_2 := NB148_134.out
          have hms49_3 := NB148_139.out
          refine skip_ (w1 := ?_) (by rfl) rfl ?_ ?_
          rotate_left
          · go_simp
            rfl
          refine hK.out _ _ ⟨((cell_far (p := ⟨gb148, _, none⟩) NB127_148.out _).trans (((cell_far (p := ⟨gb148, _, none⟩) NB127_148.out _).trans (((cell_far (p := ⟨gb148, _, none⟩) NB127_148.out _).trans (((cell_far (p := ⟨gb148, _, none⟩) NB127_148.out _).trans (hHeld.1)))))))), ((cell_far (p := ⟨gb148, _, none⟩) NB127_148.out _).trans (((cell_far (p := ⟨gb148, _, none⟩) NB127_148.out _).trans (((cell_far (p := ⟨gb148, _, none⟩) NB127_148.out _).trans (((cell_far (p := ⟨gb148, _, none⟩) NB127_148.out _).trans (hHeld.2.1)))))))), ((cell_far (p := ⟨gb148, _, none⟩) NB128_148.out _).trans (((cell_far (p := ⟨gb148, _, none⟩) NB128_148.out _).trans (((cell_far (p := ⟨gb148, _, none⟩) NB128_148.out _).trans (((cell_far (p := ⟨gb148, _, none⟩) NB128_148.out _).trans (hHeld.2.2.1)))))))), ((cell_far (p := ⟨gb148, _, none⟩) NB128_148.out _).trans (((cell_far (p := ⟨gb148, _, none⟩) NB128_148.out _).trans (((cell_far (p := ⟨gb148, _, none⟩) NB128_148.out _).trans (((cell_far (p := ⟨gb148, _, none⟩) NB128_148.out _).trans (hHeld.2.2.2))))))))⟩ (fun hHeld => ?_)
          clear hK K
          refine done_ (done_of HT_.out (by kernel_rfl)) ?_
          try go_wp2
          have n0_ : Aside0 (((((w45.setCell ⟨gb148, 0, none⟩ (.int .i64 t144)).setCell ⟨gb148, 1, none⟩ (.int .i64 t145)).setCell ⟨gb148, 2, none⟩ (.int .i64 t146)).setCell ⟨gb148, 3, none⟩ (.int .i64 t147)).heap[gb127]? = some (.cells #[.int .i64 (Int.tmod a0_0 1000000000), .int .i64 (Int.tmod a0_1 1000000000)] 24 (0, 0))) := ⟨by (with_reducible repeat (first | refine blk_drewN ?_ _ | refine blk_drew ?_ | refine blk_alloc ?_ _)); refine blk_far ?_ NB127_148.out _; (with_reducible repeat (first | refine blk_drewN ?_ _ | refine blk_drew ?_ | refine blk_alloc ?_ _)); refine blk_far ?_ NB127_148.out _; (with_reducible repeat (first | refine blk_drewN ?_ _ | refine blk_drew ?_ | refine blk_alloc ?_ _)); refine blk_far ?_ NB127_148.out _; (with_reducible repeat (first | refine blk_drewN ?_ _ | refine blk_drew ?_ | refine blk_alloc ?_ _)); refine blk_far ?_ NB127_148.out _; (with_reducible repeat (first | refine blk_drewN ?_ _ | refine blk_drew ?_ | refine blk_alloc ?_ _)); exact BK127.out⟩
          have n1_ : Aside0 (((((w45.setCell ⟨gb148, 0, none⟩ (.int .i64 t144)).setCell ⟨gb148, 1, none⟩ (.int .i64 t145)).setCell ⟨gb148, 2, none⟩ (.int .i64 t146)).setCell ⟨gb148, 3, none⟩ (.int .i64 t147)).heap[gb128]? = some (.cells #[.int .i64 (Int.tmod a1_0 1000000000), .int .i64 (Int.tmod a1_1 1000000000)] 24 (0, 0))) := ⟨by (with_reducible repeat (first | refine blk_drewN ?_ _ | refine blk_drew ?_ | refine blk_alloc ?_ _)); refine blk_far ?_ NB128_148.out _; (with_reducible repeat (first | refine blk_drewN ?_ _ | refine blk_drew ?_ | refine blk_alloc ?_ _)); refine blk_far ?_ NB128_148.out _; (with_reducible repeat (first | refine blk_drewN ?_ _ | refine blk_drew ?_ | refine blk_alloc ?_ _)); refine blk_far ?_ NB128_148.out _; (with_reducible repeat (first | refine blk_drewN ?_ _ | refine blk_drew ?_ | refine blk_alloc ?_ _)); refine blk_far ?_ NB128_148.out _; (with_reducible repeat (first | refine blk_drewN ?_ _ | refine blk_drew ?_ | refine blk_alloc ?_ _)); exact BK128.out⟩
          have n2_ : Aside0 (((((w45.setCell ⟨gb148, 0, none⟩ (.int .i64 t144)).setCell ⟨gb148, 1, none⟩ (.int .i64 t145)).setCell ⟨gb148, 2, none⟩ (.int .i64 t146)).setCell ⟨gb148, 3, none⟩ (.int .i64 t147)).heap[gb134]? = some (.cells #[.int .i64 t130, .int .i64 t131, .int .i64 t132, .int .i64 t133] 25 (0, 0))) := ⟨by (with_reducible repeat (first | refine blk_drewN ?_ _ | refine blk_drew ?_ | refine blk_alloc ?_ _)); refine blk_far ?_ NB134_148.out _; (with_reducible repeat (first | refine blk_drewN ?_ _ | refine blk_drew ?_ | refine blk_alloc ?_ _)); refine blk_far ?_ NB134_148.out _; (with_reducible repeat (first | refine blk_drewN ?_ _ | refine blk_drew ?_ | refine blk_alloc ?_ _)); refine blk_far ?_ NB134_148.out _; (with_reducible repeat (first | refine blk_drewN ?_ _ | refine blk_drew ?_ | refine blk_alloc ?_ _)); refine blk_far ?_ NB134_148.out _; (with_reducible repeat (first | refine blk_drewN ?_ _ | refine blk_drew ?_ | refine blk_alloc ?_ _)); exact BK134.out⟩
          have n3_ : Aside0 (((((w45.setCell ⟨gb148, 0, none⟩ (.int .i64 t144)).setCell ⟨gb148, 1, none⟩ (.int .i64 t145)).setCell ⟨gb148, 2, none⟩ (.int .i64 t146)).setCell ⟨gb148, 3, none⟩ (.int .i64 t147)).heap[gb139]? = some (.cells #[.int .i64 t135, .int .i64 t136, .int .i64 t137, .int .i64 t138] 25 (0, 0))) := ⟨by (with_reducible repeat (first | refine blk_drewN ?_ _ | refine blk_drew ?_ | refine blk_alloc ?_ _)); refine blk_far ?_ NB139_148.out _; (with_reducible repeat (first | refine blk_drewN ?_ _ | refine blk_drew ?_ | refine blk_alloc ?_ _)); refine blk_far ?_ NB139_148.out _; (with_reducible repeat (first | refine blk_drewN ?_ _ | refine blk_drew ?_ | refine blk_alloc ?_ _)); refine blk_far ?_ NB139_148.out _; (with_reducible repeat (first | refine blk_drewN ?_ _ | refine blk_drew ?_ | refine blk_alloc ?_ _)); refine blk_far ?_ NB139_148.out _; (with_reducible repeat (first | refine blk_drewN ?_ _ | refine blk_drew ?_ | refine blk_alloc ?_ _)); exact BK139.out⟩
          have n4_ : Aside0 (((((w45.setCell ⟨gb148, 0, none⟩ (.int .i64 t144)).setCell ⟨gb148, 1, none⟩ (.int .i64 t145)).setCell ⟨gb148, 2, none⟩ (.int .i64 t146)).setCell ⟨gb148, 3, none⟩ (.int .i64 t147)).heap[gb148]? = some (.cells #[.int .i64 t144, .int .i64 t145, .int .i64 t146, .int .i64 t147] 25 (0, 0))) := ⟨by (with_reducible repeat (first | refine blk_drewN ?_ _ | refine blk_drew ?_ | refine blk_alloc ?_ _)); refine blk_put (cs := #[.int .i64 t144, .int .i64 t145, .int .i64 t146, .int .i64 0]) ?_ 3 _ rfl; (with_reducible repeat (first | refine blk_drewN ?_ _ | refine blk_drew ?_ | refine blk_alloc ?_ _)); refine blk_put (cs := #[.int .i64 t144, .int .i64 t145, .int .i64 0, .int .i64 0]) ?_ 2 _ rfl; (with_reducible repeat (first | refine blk_drewN ?_ _ | refine blk_drew ?_ | refine blk_alloc ?_ _)); refine blk_put (cs := #[.int .i64 t144, .int .i64 0, .int .i64 0, .int .i64 0]) ?_ 1 _ rfl; (with_reducible repeat (first | refine blk_drewN ?_ _ | refine blk_drew ?_ | refine blk_alloc ?_ _)); refine blk_put (cs := #[.int .i64 0, .int .i64 0, .int .i64 0, .int .i64 0]) ?_ 0 _ rfl; (with_reducible repeat (first | refine blk_drewN ?_ _ | refine blk_drew ?_ | refine blk_alloc ?_ _)); exact BK148.out⟩
          have n5_ : Aside0 (Below w.heap.size w ((((w45.setCell ⟨gb148, 0, none⟩ (.int .i64 t144)).setCell ⟨gb148, 1, none⟩ (.int .i64 t145)).setCell ⟨gb148, 2, none⟩ (.int .i64 t146)).setCell ⟨gb148, 3, none⟩ (.int .i64 t147))) := ⟨by repeat (first | (with_reducible first | exact HB.out | apply below_alloc | apply pw_below_drewN | apply below_drew1 | refine below_set ?_ GE127.out | refine below_set ?_ GE128.out | refine below_set ?_ GE134.out | refine below_set ?_ GE139.out | refine below_set ?_ GE148.out) | exact HB.out)⟩
          (try clear BK127)
          (try clear BK128)
          (try clear BK134)
          (try clear BK139)
          (try clear BK148)
          (try clear HB)
          generalize ((((w45.setCell ⟨gb148, 0, none⟩ (.int .i64 t144)).setCell ⟨gb148, 1, none⟩ (.int .i64 t145)).setCell ⟨gb148, 2, none⟩ (.int .i64 t146)).setCell ⟨gb148, 3, none⟩ (.int .i64 t147)) = w50 at n0_ n1_ n2_ n3_ n4_ n5_ ⊢
          have BK127 := n0_
          have BK128 := n1_
          have BK134 := n2_
          have BK139 := n3_
          have BK148 := n4_
          have HB := n5_
          clear n0_ n1_ n2_ n3_ n4_ n5_
          have n0_ := Aside0.mk (blk_drew BK127.out)
          have n1_ := Aside0.mk (blk_drew BK128.out)
          have n2_ := Aside0.mk (blk_drew BK134.out)
          have n3_ := Aside0.mk (blk_drew BK139.out)
          have n4_ := Aside0.mk (blk_drew BK148.out)
          have n5_ := Aside0.mk (below_drew1 HB.out)
          clear BK127
          clear BK128
          clear BK134
          clear BK139
          clear BK148
          clear HB
          have BK127 := n0_
          have BK128 := n1_
          have BK134 := n2_
          have BK139 := n3_
          have BK148 := n4_
          have HB := n5_
          clear n0_ n1_ n2_ n3_ n4_ n5_
          refine start_ (n := 32) (S := fun w' => w'.cell? ⟨gb134, 0, none⟩ = some (.int .i64 t130) ∧ w'.cell? ⟨gb134, 1, none⟩ = some (.int .i64 t131) ∧ w'.cell? ⟨gb134, 2, none⟩ = some (.int .i64 t132) ∧ w'.cell? ⟨gb134, 3, none⟩ = some (.int .i64 t133) ∧ w'.cell? ⟨gb139, 0, none⟩ = some (.int .i64 t135) ∧ w'.cell? ⟨gb139, 1, none⟩ = some (.int .i64 t136) ∧ w'.cell? ⟨gb139, 2, none⟩ = some (.int .i64 t137) ∧ w'.cell? ⟨gb139, 3, none⟩ = some (.int .i64 t138) ∧ w'.cell? ⟨gb148, 0, none⟩ = some (.int .i64 t144) ∧ w'.cell? ⟨gb148, 1, none⟩ = some (.int .i64 t145) ∧ w'.cell? ⟨gb148, 2, none⟩ = some (.int .i64 t146) ∧ w'.cell? ⟨gb148, 3, none⟩ = some (.int .i64 t147)) (ds := []) #[false, false, false, false, false, false, false, false, false, false, false, false, false, false, false, false, false, false, false, false, false, false, false, false, false, false, false, false, false, false, false, false] (by kernel_rfl) rfl rfl ⟨(blk_cell BK134.out 0).trans rfl, (blk_cell BK134.out 1).trans rfl, (blk_cell BK134.out 2).trans rfl, (blk_cell BK134.out 3).trans rfl, (blk_cell BK139.out 0).trans rfl, (blk_cell BK139.out 1).trans rfl, (blk_cell BK139.out 2).trans rfl, (blk_cell BK139.out 3).trans rfl, (blk_cell BK148.out 0).trans rfl, (blk_cell BK148.out 1).trans rfl, (blk_cell BK148.out 2).trans rfl, (blk_cell BK148.out 3).trans rfl⟩ (fun hHeld => ?_); refine with_tabW glyphiclaw14_ArcMirrors.tab9 glyphiclaw14_ArcMirrors.bits9 (fun HT_ HW_ => ?_)
          generalize w50.drew = w51 at BK127 BK128 BK134 BK139 BK148 HB hHeld ⊢
          refine pure_ (i := 0) (N := some 44) (v := ?_) (a' := ?_) #[true, false, false, false, false, false, false, false, false, false, false, false, false, false, false, false, false, false, false, false, false, false, false, false, false, false, false, false, false, false, false, false] rfl rfl (any_of HT_.out (by kernel_rfl)) (fun _ _ _ h => h) (Or.inl ⟨by rfl, ?_⟩) ?_ ?_
          rotate_left
          · intro w'
            go_simp
            with_reducible rfl
          rotate_left
          · simp only [Act.put, List.setIfInBounds_toArray, List.set_cons_zero, List.set_cons_succ, i64_w, i32_w]
            rfl
          refine pure_ (i := 1) (N := some 45) (v := ?_) (a' := ?_) #[true, true, false, false, false, false, false, false, false, false, false, false, false, false, false, false, false, false, false, false, false, false, false, false, false, false, false, false, false, false, false, false] rfl rfl (any_of HT_.out (by kernel_rfl)) (fun _ _ _ h => h) (Or.inl ⟨by rfl, ?_⟩) ?_ ?_
          rotate_left
          · intro w'
            go_simp
            with_reducible rfl
          rotate_left
          · simp only [Act.put, List.setIfInBounds_toArray, List.set_cons_zero, List.set_cons_succ, i64_w, i32_w]
            rfl
          refine pure_ (i := 2) (N := some 46) (v := ?_) (a' := ?_) #[true, true, true, false, false, false, false, false, false, false, false, false, false, false, false, false, false, false, false, false, false, false, false, false, false, false, false, false, false, false, false, false] rfl rfl (any_of HT_.out (by kernel_rfl)) (fun _ _ _ h => h) (Or.inl ⟨by rfl, ?_⟩) ?_ ?_
          rotate_left
          · intro w'
            go_simp
            with_reducible rfl
          rotate_left
          · simp only [Act.put, List.setIfInBounds_toArray, List.set_cons_zero, List.set_cons_succ, i64_w, i32_w]
            rfl
          refine pure_ (i := 4) (N := some 48) (v := ?_) (a' := ?_) #[true, true, true, false, true, false, false, false, false, false, false, false, false, false, false, false, false, false, false, false, false, false, false, false, false, false, false, false, false, false, false, false] rfl rfl (any_of HT_.out (by kernel_rfl)) (fun _ _ _ h => h) (Or.inl ⟨by rfl, ?_⟩) ?_ ?_
          rotate_left
          · intro w'
            go_simp
            with_reducible rfl
          rotate_left
          · simp only [Act.put, List.setIfInBounds_toArray, List.set_cons_zero, List.set_cons_succ, i64_w, i32_w]
            rfl
          refine take_ (i := 3) (N := some 47) (v := ?_) (a' := ?_) #[true, true, true, true, true, false, false, false, false, false, false, false, false, false, false, false, false, false, false, false, false, false, false, false, false, false, false, false, false, false, false, false] rfl rfl (take_ofW HT_.out HW_.out (by kernel_rfl)) (fun _ _ _ h => h) (Or.inl ⟨by rfl, ?_⟩) hHeld ?_ ?_
          rotate_left
          · rintro w' ⟨s0, s1, s2, s3, s4, s5, s6, s7, s8, s9, s10, s11⟩
            go_simp
            with_reducible rfl
          rotate_left
          · simp only [Act.put, List.setIfInBounds_toArray, List.set_cons_zero, List.set_cons_succ, i64_w, i32_w]
            rfl
          refine take_ (i := 5) (N := some 49) (v := ?_) (a' := ?_) #[true, true, true, true, true, true, false, false, false, false, false, false, false, false, false, false, false, false, false, false, false, false, false, false, false, false, false, false, false, false, false, false] rfl rfl (take_ofW HT_.out HW_.out (by kernel_rfl)) (fun _ _ _ h => h) (Or.inl ⟨by rfl, ?_⟩) hHeld ?_ ?_
          rotate_left
          · rintro w' ⟨s0, s1, s2, s3, s4, s5, s6, s7, s8, s9, s10, s11⟩
            go_simp
            with_reducible rfl
          rotate_left
          · simp only [Act.put, List.setIfInBounds_toArray, List.set_cons_zero, List.set_cons_succ, i64_w, i32_w]
            rfl
          refine one_ (i := 6) (N := some 50) #[true, true, true, true, true, true, true, false, false, false, false, false, false, false, false, false, false, false, false, false, false, false, false, false, false, false, false, false, false, false, false, false] rfl rfl (one_of HT_.out (by kernel_rfl)) (by decide) (fun K hK => ?_)
          refine goes_ Try.func19 (by kernel_rfl) rfl #[.agg #[.int .i64 t130, .int .i64 t131], .agg #[.int .i64 t137, .int .i64 t138]] (by rfl) rfl rfl (by (try simp only [List.map_toArray, List.map_cons, List.map_nil]); first | done | rfl | (simp only [List.length_drop, List.length_take]; rfl)) ?_
          with_reducible refine (glyphiclaw14_close.calls t130 t131 t137 t138 true _ A11.out).mono ?_
          rintro e w52 ⟨rfl, hb⟩
          refine ⟨_, rfl, ?_⟩
          have n0_ := Aside0.mk (blk_below (g := gb127) (o := .cells #[.int .i64 (Int.tmod a0_0 1000000000), .int .i64 (Int.tmod a0_1 1000000000)] 24 (0, 0)) (by (with_reducible repeat (first | refine blk_drewN ?_ _ | refine blk_drew ?_ | refine blk_alloc ?_ _)); exact BK127.out) hb)
          have n1_ := Aside0.mk (blk_below (g := gb128) (o := .cells #[.int .i64 (Int.tmod a1_0 1000000000), .int .i64 (Int.tmod a1_1 1000000000)] 24 (0, 0)) (by (with_reducible repeat (first | refine blk_drewN ?_ _ | refine blk_drew ?_ | refine blk_alloc ?_ _)); exact BK128.out) hb)
          have n2_ := Aside0.mk (blk_below (g := gb134) (o := .cells #[.int .i64 t130, .int .i64 t131, .int .i64 t132, .int .i64 t133] 25 (0, 0)) (by (with_reducible repeat (first | refine blk_drewN ?_ _ | refine blk_drew ?_ | refine blk_alloc ?_ _)); exact BK134.out) hb)
          have n3_ := Aside0.mk (blk_below (g := gb139) (o := .cells #[.int .i64 t135, .int .i64 t136, .int .i64 t137, .int .i64 t138] 25 (0, 0)) (by (with_reducible repeat (first | refine blk_drewN ?_ _ | refine blk_drew ?_ | refine blk_alloc ?_ _)); exact BK139.out) hb)
          have n4_ := Aside0.mk (blk_below (g := gb148) (o := .cells #[.int .i64 t144, .int .i64 t145, .int .i64 t146, .int .i64 t147] 25 (0, 0)) (by (with_reducible repeat (first | refine blk_drewN ?_ _ | refine blk_drew ?_ | refine blk_alloc ?_ _)); exact BK148.out) hb)
          have n5_ := Aside0.mk (below_step (by repeat (first | (with_reducible first | exact HB.out | apply below_alloc | apply pw_below_drewN | apply below_drew1 | refine below_set ?_ GE127.out | refine below_set ?_ GE128.out | refine below_set ?_ GE134.out | refine below_set ?_ GE139.out | refine below_set ?_ GE148.out) | exact HB.out)) hb)
          clear BK127
          clear BK128
          clear BK134
          clear BK139
          clear BK148
          clear HB
          have BK127 := n0_
          have BK128 := n1_
          have BK134 := n2_
          have BK139 := n3_
          have BK148 := n4_
          have HB := n5_
          clear n0_ n1_ n2_ n3_ n4_ n5_
          (try clear hb)
          (try clear hb2)
          (try clear hk)
          (try clear hi)
          refine hK.out _ _ ⟨(blk_cell BK134.out 0).trans rfl, (blk_cell BK134.out 1).trans rfl, (blk_cell BK134.out 2).trans rfl, (blk_cell BK134.out 3).trans rfl, (blk_cell BK139.out 0).trans rfl, (blk_cell BK139.out 1).trans rfl, (blk_cell BK139.out 2).trans rfl, (blk_cell BK139.out 3).trans rfl, (blk_cell BK148.out 0).trans rfl, (blk_cell BK148.out 1).trans rfl, (blk_cell BK148.out 2).trans rfl, (blk_cell BK148.out 3).trans rfl⟩ (fun hHeld => ?_)
          clear hK K
          refine norm_ (a' := ?_) ?_ ?_
          rotate_left
          · show Act.put _ (some 50) _ = _
            simp only [Act.put, List.setIfInBounds_toArray, List.set_cons_zero, List.set_cons_succ, i64_w, i32_w]
            rfl
          refine pure_ (i := 7) (N := some 51) (v := ?_) (a' := ?_) #[true, true, true, true, true, true, true, true, false, false, false, false, false, false, false, false, false, false, false, false, false, false, false, false, false, false, false, false, false, false, false, false] rfl rfl (any_of HT_.out (by kernel_rfl)) (fun _ _ _ h => h) (Or.inl ⟨by rfl, ?_⟩) ?_ ?_
          rotate_left
          · intro w'
            go_simp
            with_reducible rfl
          rotate_left
          · simp only [Act.put, List.setIfInBounds_toArray, List.set_cons_zero, List.set_cons_succ, i64_w, i32_w]
            rfl
          refine pure_ (i := 8) (N := some 52) (v := ?_) (a' := ?_) #[true, true, true, true, true, true, true, true, true, false, false, false, false, false, false, false, false, false, false, false, false, false, false, false, false, false, false, false, false, false, false, false] rfl rfl (any_of HT_.out (by kernel_rfl)) (fun _ _ _ h => h) (Or.inl ⟨by rfl, ?_⟩) ?_ ?_
          rotate_left
          · intro w'
            go_simp
            with_reducible rfl
          rotate_left
          · simp only [Act.put, List.setIfInBounds_toArray, List.set_cons_zero, List.set_cons_succ, i64_w, i32_w]
            rfl
          refine pure_ (i := 9) (N := some 53) (v := ?_) (a' := ?_) #[true, true, true, true, true, true, true, true, true, true, false, false, false, false, false, false, false, false, false, false, false, false, false, false, false, false, false, false, false, false, false, false] rfl rfl (any_of HT_.out (by kernel_rfl)) (fun _ _ _ h => h) (Or.inl ⟨by rfl, ?_⟩) ?_ ?_
          rotate_left
          · intro w'
            go_simp
            with_reducible rfl
          rotate_left
          · simp only [Act.put, List.setIfInBounds_toArray, List.set_cons_zero, List.set_cons_succ, i64_w, i32_w]
            rfl
          refine pure_ (i := 11) (N := some 55) (v := ?_) (a' := ?_) #[true, true, true, true, true, true, true, true, true, true, false, true, false, false, false, false, false, false, false, false, false, false, false, false, false, false, false, false, false, false, false, false] rfl rfl (any_of HT_.out (by kernel_rfl)) (fun _ _ _ h => h) (Or.inl ⟨by rfl, ?_⟩) ?_ ?_
          rotate_left
          · intro w'
            go_simp
            with_reducible rfl
          rotate_left
          · simp only [Act.put, List.setIfInBounds_toArray, List.set_cons_zero, List.set_cons_succ, i64_w, i32_w]
            rfl
          refine take_ (i := 10) (N := some 54) (v := ?_) (a' := ?_) #[true, true, true, true, true, true, true, true, true, true, true, true, false, false, false, false, false, false, false, false, false, false, false, false, false, false, false, false, false, false, false, false] rfl rfl (take_ofW HT_.out HW_.out (by kernel_rfl)) (fun _ _ _ h => h) (Or.inl ⟨by rfl, ?_⟩) hHeld ?_ ?_
          rotate_left
          · rintro w' ⟨s0, s1, s2, s3, s4, s5, s6, s7, s8, s9, s10, s11⟩
            go_simp
            with_reducible rfl
          rotate_left
          · simp only [Act.put, List.setIfInBounds_toArray, List.set_cons_zero, List.set_cons_succ, i64_w, i32_w]
            rfl
          refine take_ (i := 12) (N := some 56) (v := ?_) (a' := ?_) #[true, true, true, true, true, true, true, true, true, true, true, true, true, false, false, false, false, false, false, false, false, false, false, false, false, false, false, false, false, false, false, false] rfl rfl (take_ofW HT_.out HW_.out (by kernel_rfl)) (fun _ _ _ h => h) (Or.inl ⟨by rfl, ?_⟩) hHeld ?_ ?_
          rotate_left
          · rintro w' ⟨s0, s1, s2, s3, s4, s5, s6, s7, s8, s9, s10, s11⟩
            go_simp
            with_reducible rfl
          rotate_left
          · simp only [Act.put, List.setIfInBounds_toArray, List.set_cons_zero, List.set_cons_succ, i64_w, i32_w]
            rfl
          refine one_ (i := 13) (N := some 57) #[true, true, true, true, true, true, true, true, true, true, true, true, true, true, false, false, false, false, false, false, false, false, false, false, false, false, false, false, false, false, false, false] rfl rfl (one_of HT_.out (by kernel_rfl)) (by decide) (fun K hK => ?_)
          refine goes_ Try.func19 (by kernel_rfl) rfl #[.agg #[.int .i64 t132, .int .i64 t133], .agg #[.int .i64 t135, .int .i64 t136]] (by rfl) rfl rfl (by (try simp only [List.map_toArray, List.map_cons, List.map_nil]); first | done | rfl | (simp only [List.length_drop, List.length_take]; rfl)) ?_
          with_reducible refine (glyphiclaw14_close.calls t132 t133 t135 t136 true _ A13.out).mono ?_
          rintro e w53 ⟨rfl, hb⟩
          refine ⟨_, rfl, ?_⟩
          have n0_ := Aside0.mk (blk_below (g := gb127) (o := .cells #[.int .i64 (Int.tmod a0_0 1000000000), .int .i64 (Int.tmod a0_1 1000000000)] 24 (0, 0)) (by (with_reducible repeat (first | refine blk_drewN ?_ _ | refine blk_drew ?_ | refine blk_alloc ?_ _)); exact BK127.out) hb)
          have n1_ := Aside0.mk (blk_below (g := gb128) (o := .cells #[.int .i64 (Int.tmod a1_0 1000000000), .int .i64 (Int.tmod a1_1 1000000000)] 24 (0, 0)) (by (with_reducible repeat (first | refine blk_drewN ?_ _ | refine blk_drew ?_ | refine blk_alloc ?_ _)); exact BK128.out) hb)
          have n2_ := Aside0.mk (blk_below (g := gb134) (o := .cells #[.int .i64 t130, .int .i64 t131, .int .i64 t132, .int .i64 t133] 25 (0, 0)) (by (with_reducible repeat (first | refine blk_drewN ?_ _ | refine blk_drew ?_ | refine blk_alloc ?_ _)); exact BK134.out) hb)
          have n3_ := Aside0.mk (blk_below (g := gb139) (o := .cells #[.int .i64 t135, .int .i64 t136, .int .i64 t137, .int .i64 t138] 25 (0, 0)) (by (with_reducible repeat (first | refine blk_drewN ?_ _ | refine blk_drew ?_ | refine blk_alloc ?_ _)); exact BK139.out) hb)
          have n4_ := Aside0.mk (blk_below (g := gb148) (o := .cells #[.int .i64 t144, .int .i64 t145, .int .i64 t146, .int .i64 t147] 25 (0, 0)) (by (with_reducible repeat (first | refine blk_drewN ?_ _ | refine blk_drew ?_ | refine blk_alloc ?_ _)); exact BK148.out) hb)
          have n5_ := Aside0.mk (below_step (by repeat (first | (with_reducible first | exact HB.out | apply below_alloc | apply pw_below_drewN | apply below_drew1 | refine below_set ?_ GE127.out | refine below_set ?_ GE128.out | refine below_set ?_ GE134.out | refine below_set ?_ GE139.out | refine below_set ?_ GE148.out) | exact HB.out)) hb)
          clear BK127
          clear BK128
          clear BK134
          clear BK139
          clear BK148
          clear HB
          have BK127 := n0_
          have BK128 := n1_
          have BK134 := n2_
          have BK139 := n3_
          have BK148 := n4_
          have HB := n5_
          clear n0_ n1_ n2_ n3_ n4_ n5_
          (try clear hb)
          (try clear hb2)
          (try clear hk)
          (try clear hi)
          refine hK.out _ _ ⟨(blk_cell BK134.out 0).trans rfl, (blk_cell BK134.out 1).trans rfl, (blk_cell BK134.out 2).trans rfl, (blk_cell BK134.out 3).trans rfl, (blk_cell BK139.out 0).trans rfl, (blk_cell BK139.out 1).trans rfl, (blk_cell BK139.out 2).trans rfl, (blk_cell BK139.out 3).trans rfl, (blk_cell BK148.out 0).trans rfl, (blk_cell BK148.out 1).trans rfl, (blk_cell BK148.out 2).trans rfl, (blk_cell BK148.out 3).trans rfl⟩ (fun hHeld => ?_)
          clear hK K
          refine norm_ (a' := ?_) ?_ ?_
          rotate_left
          · show Act.put _ (some 57) _ = _
            simp only [Act.put, List.setIfInBounds_toArray, List.set_cons_zero, List.set_cons_succ, i64_w, i32_w]
            rfl
          refine pure_ (i := 14) (N := some 58) (v := ?_) (a' := ?_) #[true, true, true, true, true, true, true, true, true, true, true, true, true, true, true, false, false, false, false, false, false, false, false, false, false, false, false, false, false, false, false, false] rfl rfl (any_of HT_.out (by kernel_rfl)) (fun _ _ _ h => h) (Or.inl ⟨by rfl, ?_⟩) ?_ ?_
          rotate_left
          · intro w'
            go_simp
            with_reducible rfl
          rotate_left
          · simp only [Act.put, List.setIfInBounds_toArray, List.set_cons_zero, List.set_cons_succ, i64_w, i32_w]
            rfl
          refine pure_ (i := 15) (N := some 59) (v := ?_) (a' := ?_) #[true, true, true, true, true, true, true, true, true, true, true, true, true, true, true, true, false, false, false, false, false, false, false, false, false, false, false, false, false, false, false, false] rfl rfl (any_of HT_.out (by kernel_rfl)) (fun _ _ _ h => h) (Or.inl ⟨by rfl, ?_⟩) ?_ ?_
          rotate_left
          · intro w'
            go_simp
            with_reducible rfl
          rotate_left
          · simp only [Act.put, List.setIfInBounds_toArray, List.set_cons_zero, List.set_cons_succ, i64_w, i32_w]
            rfl
          refine pure_ (i := 16) (N := some 60) (v := ?_) (a' := ?_) #[true, true, true, true, true, true, true, true, true, true, true, true, true, true, true, true, true, false, false, false, false, false, false, false, false, false, false, false, false, false, false, false] rfl rfl (any_of HT_.out (by kernel_rfl)) (fun _ _ _ h => h) (Or.inl ⟨by rfl, ?_⟩) ?_ ?_
          rotate_left
          · intro w'
            go_simp
            with_reducible rfl
          rotate_left
          · simp only [Act.put, List.setIfInBounds_toArray, List.set_cons_zero, List.set_cons_succ, i64_w, i32_w]
            rfl
          refine pure_ (i := 19) (N := some 63) (v := ?_) (a' := ?_) #[true, true, true, true, true, true, true, true, true, true, true, true, true, true, true, true, true, false, false, true, false, false, false, false, false, false, false, false, false, false, false, false] rfl rfl (any_of HT_.out (by kernel_rfl)) (fun _ _ _ h => h) (Or.inl ⟨by rfl, ?_⟩) ?_ ?_
          rotate_left
          · intro w'
            go_simp
            with_reducible rfl
          rotate_left
          · simp only [Act.put, List.setIfInBounds_toArray, List.set_cons_zero, List.set_cons_succ, i64_w, i32_w]
            rfl
          refine take_ (i := 17) (N := some 61) (v := ?_) (a' := ?_) #[true, true, true, true, true, true, true, true, true, true, true, true, true, true, true, true, true, true, false, true, false, false, false, false, false, false, false, false, false, false, false, false] rfl rfl (take_ofW HT_.out HW_.out (by kernel_rfl)) (fun _ _ _ h => h) (Or.inl ⟨by rfl, ?_⟩) hHeld ?_ ?_
          rotate_left
          · rintro w' ⟨s0, s1, s2, s3, s4, s5, s6, s7, s8, s9, s10, s11⟩
            go_simp
            with_reducible rfl
          rotate_left
          · simp only [Act.put, List.setIfInBounds_toArray, List.set_cons_zero, List.set_cons_succ, i64_w, i32_w]
            rfl
          refine take_ (i := 20) (N := some 64) (v := ?_) (a' := ?_) #[true, true, true, true, true, true, true, true, true, true, true, true, true, true, true, true, true, true, false, true, true, false, false, false, false, false, false, false, false, false, false, false] rfl rfl (take_ofW HT_.out HW_.out (by kernel_rfl)) (fun _ _ _ h => h) (Or.inl ⟨by rfl, ?_⟩) hHeld ?_ ?_
          rotate_left
          · rintro w' ⟨s0, s1, s2, s3, s4, s5, s6, s7, s8, s9, s10, s11⟩
            go_simp
            with_reducible rfl
          rotate_left
          · simp only [Act.put, List.setIfInBounds_toArray, List.set_cons_zero, List.set_cons_succ, i64_w, i32_w]
            rfl
          refine one_ (i := 18) (N := some 62) #[true, true, true, true, true, true, true, true, true, true, true, true, true, true, true, true, true, true, true, true, true, false, false, false, false, false, false, false, false, false, false, false] rfl rfl (one_of HT_.out (by kernel_rfl)) (by decide) (fun K hK => ?_)
          refine goes_ Try.func18 (by kernel_rfl) rfl #[.agg #[.int .i64 t144, .int .i64 t145]] (by rfl) rfl rfl (by (try simp only [List.map_toArray, List.map_cons, List.map_nil]); first | done | rfl | (simp only [List.length_drop, List.length_take]; rfl)) ?_
          with_reducible refine (glyphiclaw14_swap.calls t144 t145 t151 t152 _ A15.out).mono ?_
          rintro e w54 ⟨rfl, hb⟩
          refine ⟨_, rfl, ?_⟩
          have n0_ := Aside0.mk (blk_below (g := gb127) (o := .cells #[.int .i64 (Int.tmod a0_0 1000000000), .int .i64 (Int.tmod a0_1 1000000000)] 24 (0, 0)) (by (with_reducible repeat (first | refine blk_drewN ?_ _ | refine blk_drew ?_ | refine blk_alloc ?_ _)); exact BK127.out) hb)
          have n1_ := Aside0.mk (blk_below (g := gb128) (o := .cells #[.int .i64 (Int.tmod a1_0 1000000000), .int .i64 (Int.tmod a1_1 1000000000)] 24 (0, 0)) (by (with_reducible repeat (first | refine blk_drewN ?_ _ | refine blk_drew ?_ | refine blk_alloc ?_ _)); exact BK128.out) hb)
          have n2_ := Aside0.mk (blk_below (g := gb134) (o := .cells #[.int .i64 t130, .int .i64 t131, .int .i64 t132, .int .i64 t133] 25 (0, 0)) (by (with_reducible repeat (first | refine blk_drewN ?_ _ | refine blk_drew ?_ | refine blk_alloc ?_ _)); exact BK134.out) hb)
          have n3_ := Aside0.mk (blk_below (g := gb139) (o := .cells #[.int .i64 t135, .int .i64 t136, .int .i64 t137, .int .i64 t138] 25 (0, 0)) (by (with_reducible repeat (first | refine blk_drewN ?_ _ | refine blk_drew ?_ | refine blk_alloc ?_ _)); exact BK139.out) hb)
          have n4_ := Aside0.mk (blk_below (g := gb148) (o := .cells #[.int .i64 t144, .int .i64 t145, .int .i64 t146, .int .i64 t147] 25 (0, 0)) (by (with_reducible repeat (first | refine blk_drewN ?_ _ | refine blk_drew ?_ | refine blk_alloc ?_ _)); exact BK148.out) hb)
          have n5_ := Aside0.mk (below_step (by repeat (first | (with_reducible first | exact HB.out | apply below_alloc | apply pw_below_drewN | apply below_drew1 | refine below_set ?_ GE127.out | refine below_set ?_ GE128.out | refine below_set ?_ GE134.out | refine below_set ?_ GE139.out | refine below_set ?_ GE148.out) | exact HB.out)) hb)
          clear BK127
          clear BK128
          clear BK134
          clear BK139
          clear BK148
          clear HB
          have BK127 := n0_
          have BK128 := n1_
          have BK134 := n2_
          have BK139 := n3_
          have BK148 := n4_
          have HB := n5_
          clear n0_ n1_ n2_ n3_ n4_ n5_
          (try clear hb)
          (try clear hb2)
          (try clear hk)
          (try clear hi)
          refine hK.out _ _ ⟨(blk_cell BK134.out 0).trans rfl, (blk_cell BK134.out 1).trans rfl, (blk_cell BK134.out 2).trans rfl, (blk_cell BK134.out 3).trans rfl, (blk_cell BK139.out 0).trans rfl, (blk_cell BK139.out 1).trans rfl, (blk_cell BK139.out 2).trans rfl, (blk_cell BK139.out 3).trans rfl, (blk_cell BK148.out 0).trans rfl, (blk_cell BK148.out 1).trans rfl, (blk_cell BK148.out 2).trans rfl, (blk_cell BK148.out 3).trans rfl⟩ (fun hHeld => ?_)
          clear hK K
          refine norm_ (a' := ?_) ?_ ?_
          rotate_left
          · show Act.put _ (some 62) _ = _
            simp only [Act.put, List.setIfInBounds_toArray, List.set_cons_zero, List.set_cons_succ, i64_w, i32_w]
            rfl
          refine one_ (i := 21) (N := some 65) #[true, true, true, true, true, true, true, true, true, true, true, true, true, true, true, true, true, true, true, true, true, true, false, false, false, false, false, false, false, false, false, false] rfl rfl (one_of HT_.out (by kernel_rfl)) (by decide) (fun K hK => ?_)
          refine goes_ Try.func20 (by kernel_rfl) rfl #[.agg #[.int .i64 t151, .int .i64 t152], .agg #[.int .i64 t130, .int .i64 t131]] (by rfl) rfl rfl (by (try simp only [List.map_toArray, List.map_cons, List.map_nil]); first | done | rfl | (simp only [List.length_drop, List.length_take]; rfl)) ?_
          with_reducible refine (glyphicref_SamePoint.calls t151 t152 t130 t131 true _ A16.out).mono ?_
          rintro e w55 ⟨rfl, hb⟩
          refine ⟨_, rfl, ?_⟩
          have n0_ := Aside0.mk (blk_below (g := gb127) (o := .cells #[.int .i64 (Int.tmod a0_0 1000000000), .int .i64 (Int.tmod a0_1 1000000000)] 24 (0, 0)) (by (with_reducible repeat (first | refine blk_drewN ?_ _ | refine blk_drew ?_ | refine blk_alloc ?_ _)); exact BK127.out) hb)
          have n1_ := Aside0.mk (blk_below (g := gb128) (o := .cells #[.int .i64 (Int.tmod a1_0 1000000000), .int .i64 (Int.tmod a1_1 1000000000)] 24 (0, 0)) (by (with_reducible repeat (first | refine blk_drewN ?_ _ | refine blk_drew ?_ | refine blk_alloc ?_ _)); exact BK128.out) hb)
          have n2_ := Aside0.mk (blk_below (g := gb134) (o := .cells #[.int .i64 t130, .int .i64 t131, .int .i64 t132, .int .i64 t133] 25 (0, 0)) (by (with_reducible repeat (first | refine blk_drewN ?_ _ | refine blk_drew ?_ | refine blk_alloc ?_ _)); exact BK134.out) hb)
          have n3_ := Aside0.mk (blk_below (g := gb139) (o := .cells #[.int .i64 t135, .int .i64 t136, .int .i64 t137, .int .i64 t138] 25 (0, 0)) (by (with_reducible repeat (first | refine blk_drewN ?_ _ | refine blk_drew ?_ | refine blk_alloc ?_ _)); exact BK139.out) hb)
          have n4_ := Aside0.mk (blk_below (g := gb148) (o := .cells #[.int .i64 t144, .int .i64 t145, .int .i64 t146, .int .i64 t147] 25 (0, 0)) (by (with_reducible repeat (first | refine blk_drewN ?_ _ | refine blk_drew ?_ | refine blk_alloc ?_ _)); exact BK148.out) hb)
          have n5_ := Aside0.mk (below_step (by repeat (first | (with_reducible first | exact HB.out | apply below_alloc | apply pw_below_drewN | apply below_drew1 | refine below_set ?_ GE127.out | refine below_set ?_ GE128.out | refine below_set ?_ GE134.out | refine below_set ?_ GE139.out | refine below_set ?_ GE148.out) | exact HB.out)) hb)
          clear BK127
          clear BK128
          clear BK134
          clear BK139
          clear BK148
          clear HB
          have BK127 := n0_
          have BK128 := n1_
          have BK134 := n2_
          have BK139 := n3_
          have BK148 := n4_
          have HB := n5_
          clear n0_ n1_ n2_ n3_ n4_ n5_
          (try clear hb)
          (try clear hb2)
          (try clear hk)
          (try clear hi)
          refine hK.out _ _ ⟨(blk_cell BK134.out 0).trans rfl, (blk_cell BK134.out 1).trans rfl, (blk_cell BK134.out 2).trans rfl, (blk_cell BK134.out 3).trans rfl, (blk_cell BK139.out 0).trans rfl, (blk_cell BK139.out 1).trans rfl, (blk_cell BK139.out 2).trans rfl, (blk_cell BK139.out 3).trans rfl, (blk_cell BK148.out 0).trans rfl, (blk_cell BK148.out 1).trans rfl, (blk_cell BK148.out 2).trans rfl, (blk_cell BK148.out 3).trans rfl⟩ (fun hHeld => ?_)
          clear hK K
          refine norm_ (a' := ?_) ?_ ?_
          rotate_left
          · show Act.put _ (some 65) _ = _
            simp only [Act.put, List.setIfInBounds_toArray, List.set_cons_zero, List.set_cons_succ, i64_w, i32_w]
            rfl
          refine pure_ (i := 22) (N := some 66) (v := ?_) (a' := ?_) #[true, true, true, true, true, true, true, true, true, true, true, true, true, true, true, true, true, true, true, true, true, true, true, false, false, false, false, false, false, false, false, false] rfl rfl (any_of HT_.out (by kernel_rfl)) (fun _ _ _ h => h) (Or.inl ⟨by rfl, ?_⟩) ?_ ?_
          rotate_left
          · intro w'
            go_simp
            with_reducible rfl
          rotate_left
          · simp only [Act.put, List.setIfInBounds_toArray, List.set_cons_zero, List.set_cons_succ, i64_w, i32_w]
            rfl
          refine pure_ (i := 23) (N := some 67) (v := ?_) (a' := ?_) #[true, true, true, true, true, true, true, true, true, true, true, true, true, true, true, true, true, true, true, true, true, true, true, true, false, false, false, false, false, false, false, false] rfl rfl (any_of HT_.out (by kernel_rfl)) (fun _ _ _ h => h) (Or.inl ⟨by rfl, ?_⟩) ?_ ?_
          rotate_left
          · intro w'
            go_simp
            with_reducible rfl
          rotate_left
          · simp only [Act.put, List.setIfInBounds_toArray, List.set_cons_zero, List.set_cons_succ, i64_w, i32_w]
            rfl
          refine pure_ (i := 24) (N := some 68) (v := ?_) (a' := ?_) #[true, true, true, true, true, true, true, true, true, true, true, true, true, true, true, true, true, true, true, true, true, true, true, true, true, false, false, false, false, false, false, false] rfl rfl (any_of HT_.out (by kernel_rfl)) (fun _ _ _ h => h) (Or.inl ⟨by rfl, ?_⟩) ?_ ?_
          rotate_left
          · intro w'
            go_simp
            with_reducible rfl
          rotate_left
          · simp only [Act.put, List.setIfInBounds_toArray, List.set_cons_zero, List.set_cons_succ, i64_w, i32_w]
            rfl
          refine pure_ (i := 27) (N := some 71) (v := ?_) (a' := ?_) #[true, true, true, true, true, true, true, true, true, true, true, true, true, true, true, true, true, true, true, true, true, true, true, true, true, false, false, true, false, false, false, false] rfl rfl (any_of HT_.out (by kernel_rfl)) (fun _ _ _ h => h) (Or.inl ⟨by rfl, ?_⟩) ?_ ?_
          rotate_left
          · intro w'
            go_simp
            with_reducible rfl
          rotate_left
          · simp only [Act.put, List.setIfInBounds_toArray, List.set_cons_zero, List.set_cons_succ, i64_w, i32_w]
            rfl
          refine take_ (i := 25) (N := some 69) (v := ?_) (a' := ?_) #[true, true, true, true, true, true, true, true, true, true, true, true, true, true, true, true, true, true, true, true, true, true, true, true, true, true, false, true, false, false, false, false] rfl rfl (take_ofW HT_.out HW_.out (by kernel_rfl)) (fun _ _ _ h => h) (Or.inl ⟨by rfl, ?_⟩) hHeld ?_ ?_
          rotate_left
          · rintro w' ⟨s0, s1, s2, s3, s4, s5, s6, s7, s8, s9, s10, s11⟩
            go_simp
            with_reducible rfl
          rotate_left
          · simp only [Act.put, List.setIfInBounds_toArray, List.set_cons_zero, List.set_cons_succ, i64_w, i32_w]
            rfl
          refine take_ (i := 28) (N := some 72) (v := ?_) (a' := ?_) #[true, true, true, true, true, true, true, true, true, true, true, true, true, true, true, true, true, true, true, true, true, true, true, true, true, true, false, true, true, false, false, false] rfl rfl (take_ofW HT_.out HW_.out (by kernel_rfl)) (fun _ _ _ h => h) (Or.inl ⟨by rfl, ?_⟩) hHeld ?_ ?_
          rotate_left
          · rintro w' ⟨s0, s1, s2, s3, s4, s5, s6, s7, s8, s9, s10, s11⟩
            go_simp
            with_reducible rfl
          rotate_left
          · simp only [Act.put, List.setIfInBounds_toArray, List.set_cons_zero, List.set_cons_succ, i64_w, i32_w]
            rfl
          refine one_ (i := 26) (N := some 70) #[true, true, true, true, true, true, true, true, true, true, true, true, true, true, true, true, true, true, true, true, true, true, true, true, true, true, true, true, true, false, false, false] rfl rfl (one_of HT_.out (by kernel_rfl)) (by decide) (fun K hK => ?_)
          refine goes_ Try.func18 (by kernel_rfl) rfl #[.agg #[.int .i64 t146, .int .i64 t147]] (by rfl) rfl rfl (by (try simp only [List.map_toArray, List.map_cons, List.map_nil]); first | done | rfl | (simp only [List.length_drop, List.length_take]; rfl)) ?_
          with_reducible refine (glyphiclaw14_swap.calls t146 t147 t154 t155 _ A18.out).mono ?_
          rintro e w56 ⟨rfl, hb⟩
          refine ⟨_, rfl, ?_⟩
          have n0_ := Aside0.mk (blk_below (g := gb127) (o := .cells #[.int .i64 (Int.tmod a0_0 1000000000), .int .i64 (Int.tmod a0_1 1000000000)] 24 (0, 0)) (by (with_reducible repeat (first | refine blk_drewN ?_ _ | refine blk_drew ?_ | refine blk_alloc ?_ _)); exact BK127.out) hb)
          have n1_ := Aside0.mk (blk_below (g := gb128) (o := .cells #[.int .i64 (Int.tmod a1_0 1000000000), .int .i64 (Int.tmod a1_1 1000000000)] 24 (0, 0)) (by (with_reducible repeat (first | refine blk_drewN ?_ _ | refine blk_drew ?_ | refine blk_alloc ?_ _)); exact BK128.out) hb)
          have n2_ := Aside0.mk (blk_below (g := gb134) (o := .cells #[.int .i64 t130, .int .i64 t131, .int .i64 t132, .int .i64 t133] 25 (0, 0)) (by (with_reducible repeat (first | refine blk_drewN ?_ _ | refine blk_drew ?_ | refine blk_alloc ?_ _)); exact BK134.out) hb)
          have n3_ := Aside0.mk (blk_below (g := gb139) (o := .cells #[.int .i64 t135, .int .i64 t136, .int .i64 t137, .int .i64 t138] 25 (0, 0)) (by (with_reducible repeat (first | refine blk_drewN ?_ _ | refine blk_drew ?_ | refine blk_alloc ?_ _)); exact BK139.out) hb)
          have n4_ := Aside0.mk (blk_below (g := gb148) (o := .cells #[.int .i64 t144, .int .i64 t145, .int .i64 t146, .int .i64 t147] 25 (0, 0)) (by (with_reducible repeat (first | refine blk_drewN ?_ _ | refine blk_drew ?_ | refine blk_alloc ?_ _)); exact BK148.out) hb)
          have n5_ := Aside0.mk (below_step (by repeat (first | (with_reducible first | exact HB.out | apply below_alloc | apply pw_below_drewN | apply below_drew1 | refine below_set ?_ GE127.out | refine below_set ?_ GE128.out | refine below_set ?_ GE134.out | refine below_set ?_ GE139.out | refine below_set ?_ GE148.out) | exact HB.out)) hb)
          clear BK127
          clear BK128
          clear BK134
          clear BK139
          clear BK148
          clear HB
          have BK127 := n0_
          have BK128 := n1_
          have BK134 := n2_
          have BK139 := n3_
          have BK148 := n4_
          have HB := n5_
          clear n0_ n1_ n2_ n3_ n4_ n5_
          (try clear hb)
          (try clear hb2)
          (try clear hk)
          (try clear hi)
          refine hK.out _ _ ⟨(blk_cell BK134.out 0).trans rfl, (blk_cell BK134.out 1).trans rfl, (blk_cell BK134.out 2).trans rfl, (blk_cell BK134.out 3).trans rfl, (blk_cell BK139.out 0).trans rfl, (blk_cell BK139.out 1).trans rfl, (blk_cell BK139.out 2).trans rfl, (blk_cell BK139.out 3).trans rfl, (blk_cell BK148.out 0).trans rfl, (blk_cell BK148.out 1).trans rfl, (blk_cell BK148.out 2).trans rfl, (blk_cell BK148.out 3).trans rfl⟩ (fun hHeld => ?_)
          clear hK K
          refine norm_ (a' := ?_) ?_ ?_
          rotate_left
          · show Act.put _ (some 70) _ = _
            simp only [Act.put, List.setIfInBounds_toArray, List.set_cons_zero, List.set_cons_succ, i64_w, i32_w]
            rfl
          refine one_ (i := 29) (N := some 73) #[true, true, true, true, true, true, true, true, true, true, true, true, true, true, true, true, true, true, true, true, true, true, true, true, true, true, true, true, true, true, false, false] rfl rfl (one_of HT_.out (by kernel_rfl)) (by decide) (fun K hK => ?_)
          refine goes_ Try.func20 (by kernel_rfl) rfl #[.agg #[.int .i64 t154, .int .i64 t155], .agg #[.int .i64 t132, .int .i64 t133]] (by rfl) rfl rfl (by (try simp only [List.map_toArray, List.map_cons, List.map_nil]); first | done | rfl | (simp only [List.length_drop, List.length_take]; rfl)) ?_
          with_reducible refine (glyphicref_SamePoint.calls t154 t155 t132 t133 t156 _ A19.out).mono ?_
          rintro e w57 ⟨rfl, hb⟩
          refine ⟨_, rfl, ?_⟩
          have n0_ := Aside0.mk (blk_below (g := gb127) (o := .cells #[.int .i64 (Int.tmod a0_0 1000000000), .int .i64 (Int.tmod a0_1 1000000000)] 24 (0, 0)) (by (with_reducible repeat (first | refine blk_drewN ?_ _ | refine blk_drew ?_ | refine blk_alloc ?_ _)); exact BK127.out) hb)
          have n1_ := Aside0.mk (blk_below (g := gb128) (o := .cells #[.int .i64 (Int.tmod a1_0 1000000000), .int .i64 (Int.tmod a1_1 1000000000)] 24 (0, 0)) (by (with_reducible repeat (first | refine blk_drewN ?_ _ | refine blk_drew ?_ | refine blk_alloc ?_ _)); exact BK128.out) hb)
          have n2_ := Aside0.mk (blk_below (g := gb134) (o := .cells #[.int .i64 t130, .int .i64 t131, .int .i64 t132, .int .i64 t133] 25 (0, 0)) (by (with_reducible repeat (first | refine blk_drewN ?_ _ | refine blk_drew ?_ | refine blk_alloc ?_ _)); exact BK134.out) hb)
          have n3_ := Aside0.mk (blk_below (g := gb139) (o := .cells #[.int .i64 t135, .int .i64 t136, .int .i64 t137, .int .i64 t138] 25 (0, 0)) (by (with_reducible repeat (first | refine blk_drewN ?_ _ | refine blk_drew ?_ | refine blk_alloc ?_ _)); exact BK139.out) hb)
          have n4_ := Aside0.mk (blk_below (g := gb148) (o := .cells #[.int .i64 t144, .int .i64 t145, .int .i64 t146, .int .i64 t147] 25 (0, 0)) (by (with_reducible repeat (first | refine blk_drewN ?_ _ | refine blk_drew ?_ | refine blk_alloc ?_ _)); exact BK148.out) hb)
          have n5_ := Aside0.mk (below_step (by repeat (first | (with_reducible first | exact HB.out | apply below_alloc | apply pw_below_drewN | apply below_drew1 | refine below_set ?_ GE127.out | refine below_set ?_ GE128.out | refine below_set ?_ GE134.out | refine below_set ?_ GE139.out | refine below_set ?_ GE148.out) | exact HB.out)) hb)
          clear BK127
          clear BK128
          clear BK134
          clear BK139
          clear BK148
          clear HB
          have BK127 := n0_
          have BK128 := n1_
          have BK134 := n2_
          have BK139 := n3_
          have BK148 := n4_
          have HB := n5_
          clear n0_ n1_ n2_ n3_ n4_ n5_
          (try clear hb)
          (try clear hb2)
          (try clear hk)
          (try clear hi)
          refine hK.out _ _ ⟨(blk_cell BK134.out 0).trans rfl, (blk_cell BK134.out 1).trans rfl, (blk_cell BK134.out 2).trans rfl, (blk_cell BK134.out 3).trans rfl, (blk_cell BK139.out 0).trans rfl, (blk_cell BK139.out 1).trans rfl, (blk_cell BK139.out 2).trans rfl, (blk_cell BK139.out 3).trans rfl, (blk_cell BK148.out 0).trans rfl, (blk_cell BK148.out 1).trans rfl, (blk_cell BK148.out 2).trans rfl, (blk_cell BK148.out 3).trans rfl⟩ (fun hHeld => ?_)
          clear hK K
          refine norm_ (a' := ?_) ?_ ?_
          rotate_left
          · show Act.put _ (some 73) _ = _
            simp only [Act.put, List.setIfInBounds_toArray, List.set_cons_zero, List.set_cons_succ, i64_w, i32_w]
            rfl
          refine pure_ (i := 30) (N := some 74) (v := ?_) (a' := ?_) #[true, true, true, true, true, true, true, true, true, true, true, true, true, true, true, true, true, true, true, true, true, true, true, true, true, true, true, true, true, true, true, false] rfl rfl (any_of HT_.out (by kernel_rfl)) (fun _ _ _ h => h) (Or.inl ⟨by rfl, ?_⟩) ?_ ?_
          rotate_left
          · intro w'
            go_simp
            with_reducible rfl
          rotate_left
          · simp only [Act.put, List.setIfInBounds_toArray, List.set_cons_zero, List.set_cons_succ, i64_w, i32_w]
            rfl
          refine pure_ (i := 31) (N := some 6) (v := ?_) (a' := ?_) #[true, true, true, true, true, true, true, true, true, true, true, true, true, true, true, true, true, true, true, true, true, true, true, true, true, true, true, true, true, true, true, true] rfl rfl (any_of HT_.out (by kernel_rfl)) (fun _ _ _ h => h) (Or.inl ⟨by rfl, ?_⟩) ?_ ?_
          rotate_left
          · intro w'
            go_simp
            with_reducible rfl
          rotate_left
          · simp only [Act.put, List.setIfInBounds_toArray, List.set_cons_zero, List.set_cons_succ, i64_w, i32_w]
            rfl
          refine done_ (done_of HT_.out (by kernel_rfl)) ?_
          try go_wp2
          go_ret
          exact ⟨by first | rfl | (simp [errW_none, errW_some] <;> rfl) | (simp [*, errW_none, errW_some] <;> rfl), by repeat (first | (with_reducible first | exact HB.out | apply below_alloc | apply pw_below_drewN | apply below_drew1 | refine below_set ?_ GE127.out | refine below_set ?_ GE128.out | refine below_set ?_ GE134.out | refine below_set ?_ GE139.out | refine below_set ?_ GE148.out) | exact HB.out)⟩
        · replace c17 := Bool.eq_false_iff.mpr c17
          subst c17
          have H1 : (some false) = some r := by rw [if_neg (show ¬ (false = true) by decide)] at H; exact H
          clear H
          have H := H1
          clear H1
          exact absurd ((Option.some.inj H).trans hr0_.out) (by decide)
      · replace c14 := Bool.eq_false_iff.mpr c14
        subst c14
        have H1 : (some false) = some r := by rw [if_neg (show ¬ (false = true) by decide)] at H; exact H
        clear H
        have H := H1
        clear H1
        exact absurd ((Option.some.inj H).trans hr0_.out) (by decide)
    · replace c12 := Bool.eq_false_iff.mpr c12
      subst c12
      have H1 : (some false) = some r := by rw [if_neg (show ¬ (false = true) by decide)] at H; exact H
      clear H
      have H := H1
      clear H1
      exact absurd ((Option.some.inj H).trans hr0_.out) (by decide)
  · replace c5 := Bool.eq_false_iff.mpr c5
    subst c5
    have H1 : (some false) = some r := by rw [if_neg (show ¬ (false = true) by decide)] at H; exact H
    clear H
    have H := H1
    clear H1
    exact absurd ((Option.some.inj H).trans hr0_.out) (by decide)

/-- THE ONE PURE STATEMENT of glyphiclaw14_ArcMirrors: yours. -/
def glyphiclaw14_ArcMirrors.Pure : Prop := ∀ (a0_0 : Int) (a0_1 : Int) (a1_0 : Int) (a1_1 : Int) (a2 : Bool), (Lit.int .i64 a0_0).wf = true → (Lit.int .i64 a0_1).wf = true → (Lit.int .i64 a1_0).wf = true → (Lit.int .i64 a1_1).wf = true → glyphiclaw14_ArcMirrors.f a0_0 a0_1 a1_0 a1_1 a2 = some true
theorem glyphiclaw14_ArcMirrors.walk (P : glyphiclaw14_ArcMirrors.Pure) (a0_0 : Int) (a0_1 : Int) (a1_0 : Int) (a1_1 : Int) (a2 : Bool) (w : World) (w0_0 : (Lit.int .i64 a0_0).wf = true) (w0_1 : (Lit.int .i64 a0_1).wf = true) (w1_0 : (Lit.int .i64 a1_0).wf = true) (w1_1 : (Lit.int .i64 a1_1).wf = true) :
    Calls Try.prog 4 #[.agg #[.int .i64 a0_0, .int .i64 a0_1], .agg #[.int .i64 a1_0, .int .i64 a1_1], .bool a2] w fun e w' => e = .returned (.bool true) ∧ Below w.heap.size w w' := by
  have h := P a0_0 a0_1 a1_0 a1_1 a2 w0_0 w0_1 w1_0 w1_1
  refine (glyphiclaw14_ArcMirrors.calls a0_0 a0_1 a1_0 a1_1 a2 true w (Aside0.mk rfl) h).mono ?_
  rintro e w' ⟨rfl, hd⟩
  exact ⟨rfl, hd⟩

end Go.Proofs.Ytmbcokndaaelaaa.QArcMirrors
