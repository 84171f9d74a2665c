/- Functions of a Go program as Lean functions, each with its walk, or the row of a law. Written by a program of this session after the pattern of the print. -/
import Derived.Test.YtgaikembekkfiaaQPlaneStraightx0
import Derived.Test.YtgaikembekkfiaaQPlaneStraightx4
namespace Go.Proofs.Ytgaikembekkfiaa.QPlaneStraight
open Go.RowKit Go.Proofs.YtgaikembekkfiaaW.PrintWords Go.Proofs.YtgaikembekkfiaaW.PrintLast Go.Proofs.YtgaikembekkfiaaW.PrintMore
attribute [local go_sem] max2_int min2_int max_two min_two max_three min_three max_four min_four   -- for this text's walks alone
set_option linter.unusedVariables false
set_option linter.unusedSimpArgs false

/-! ### glyphiclaw4_PlaneStraight: function 10 -/
def glyphiclaw4_PlaneStraight.j0 : Nat → Int → Int → Int → Int → Bool → Int → Int → Int → Int → Int → Int → Option (Bool)
  | 0, _, _, _, _, _, _, _, _, _, _, _ => none
  | k + 1, x1, x2, x3, x4, x13, x146000, x146001, x147000, x147001, x148000, x148001 => if x2 < 0 then (if x2 > x1 then (if x13 = true then ((plane_Near.f x146000 x146001 x147000 x147001 x148000 x148001 x4).bind fun t154 => (some (t154 == (decide ((wrap64 (4 * (wrap64 ((wrap64 ((wrap64 (x2 - x1)) * (wrap64 (x2 - x1)))) + (wrap64 (x3 * x3)))))) ≤ (wrap64 (x4 * x4))))))) else (some false)) else (if x13 = true then ((plane_Near.f x146000 x146001 x147000 x147001 x148000 x148001 x4).bind fun t155 => (some (t155 == (decide ((wrap64 (4 * (wrap64 ((wrap64 ((wrap64 (-x2)) * (wrap64 (-x2)))) + (wrap64 (x3 * x3)))))) ≤ (wrap64 (x4 * x4))))))) else (some false))) else (if x2 > x1 then (if x13 = true then ((plane_Near.f x146000 x146001 x147000 x147001 x148000 x148001 x4).bind fun t156 => (some (t156 == (decide ((wrap64 (4 * (wrap64 ((wrap64 ((wrap64 (x2 - x1)) * (wrap64 (x2 - x1)))) + (wrap64 (x3 * x3)))))) ≤ (wrap64 (x4 * x4))))))) else (some false)) else (if x13 = true then ((plane_Near.f x146000 x146001 x147000 x147001 x148000 x148001 x4).bind fun t157 => (some (t157 == (decide ((wrap64 (4 * (wrap64 ((0 * 0) + (wrap64 (x3 * x3)))))) ≤ (wrap64 (x4 * x4))))))) else (some false)))
def glyphiclaw4_PlaneStraight.f (k : Nat) (a0 : Int) (a1 : Int) (a2 : Int) (a3 : Int) (a4 : Int) (a5 : Bool) : Option (Bool) := (glyphiclaw4_first.f).bind fun t142 => (if t142 = true then ((glyphicworld_Number.f (Go.bits .and .i64 a1 16777215) 10000).bind fun t143 => ((glyphicworld_Number.f (Go.bits .and .i64 a4 16777215) 40000).bind fun t144 => (if a5 = true then ((glyphiclaw4_turn.f (Int.tmod a0 100000) 7).bind fun bt148 => ((glyphiclaw4_turn.f (wrap64 ((Int.tmod a0 100000) + (wrap64 (t143 + 1)))) 7).bind fun bt150 => ((glyphiclaw4_turn.f (wrap64 ((Int.tmod a0 100000) + (Int.tmod a2 20000))) (wrap64 (7 + (Int.tmod a3 20000)))).bind fun bt152 => (glyphiclaw4_PlaneStraight.j0 k (wrap64 (t143 + 1)) (Int.tmod a2 20000) (Int.tmod a3 20000) t144 t142 bt148.1 bt148.2 bt150.1 bt150.2 bt152.1 bt152.2)))) else (glyphiclaw4_PlaneStraight.j0 k (wrap64 (t143 + 1)) (Int.tmod a2 20000) (Int.tmod a3 20000) t144 t142 (Int.tmod a0 100000) 7 (wrap64 ((Int.tmod a0 100000) + (wrap64 (t143 + 1)))) 7 (wrap64 ((Int.tmod a0 100000) + (Int.tmod a2 20000))) (wrap64 (7 + (Int.tmod a3 20000))))))) else (some false))
theorem glyphiclaw4_PlaneStraight.mono_l : ∀ k, (∀ y0 y1 y2 y3 y4 y5 y6 y7 y8 y9 y10, LeO (glyphiclaw4_PlaneStraight.j0 k y0 y1 y2 y3 y4 y5 y6 y7 y8 y9 y10) (glyphiclaw4_PlaneStraight.j0 (k + 1) y0 y1 y2 y3 y4 y5 y6 y7 y8 y9 y10))
  | 0 => fun _ _ _ _ _ _ _ _ _ _ _ r h => by simp [glyphiclaw4_PlaneStraight.j0] at h
  | k + 1 => by
    have ih0 := glyphiclaw4_PlaneStraight.mono_l k
    · intro y0 y1 y2 y3 y4 y5 y6 y7 y8 y9 y10
      unfold glyphiclaw4_PlaneStraight.j0
      repeat' first
      | (with_reducible exact ih0 _ _ _ _ _ _ _ _ _ _ _)
      | (with_reducible exact LeO.refl _)
      | (with_reducible exact LeO.none _)
      | (with_reducible refine LeO.ite ?_ ?_)
      | (with_reducible refine LeO.bind ?_ (fun _ => ?_))
      | exact ih0 _ _ _ _ _ _ _ _ _ _ _
      | exact LeO.none _
      | refine LeO.ite ?_ ?_
      | refine LeO.bind ?_ (fun _ => ?_)
theorem glyphiclaw4_PlaneStraight.mono : ∀ a0 a1 a2 a3 a4 a5 k, LeO (glyphiclaw4_PlaneStraight.f k a0 a1 a2 a3 a4 a5) (glyphiclaw4_PlaneStraight.f (k + 1) a0 a1 a2 a3 a4 a5) := by
  intro a0 a1 a2 a3 a4 a5 k
  have ih0 := glyphiclaw4_PlaneStraight.mono_l k
  unfold glyphiclaw4_PlaneStraight.f
  repeat' first
      | (with_reducible exact ih0 _ _ _ _ _ _ _ _ _ _ _)
      | (with_reducible exact LeO.refl _)
      | (with_reducible exact LeO.none _)
      | (with_reducible refine LeO.ite ?_ ?_)
      | (with_reducible refine LeO.bind ?_ (fun _ => ?_))
      | exact ih0 _ _ _ _ _ _ _ _ _ _ _
      | exact LeO.none _
      | refine LeO.ite ?_ ?_
      | refine LeO.bind ?_ (fun _ => ?_)
def glyphiclaw4_PlaneStraight.T13 : Bool × List (List Nat × List Nat) := (true, [([], []), ([0], [0]), ([], []), ([2, 1], [2]), ([], []), ([4, 3], [4]), ([1, 5, 0, 1], [1]), ([3, 6, 0, 1, 2, 3, 6], [3]), ([5, 7, 0, 1, 2, 3, 4, 5, 6, 7], [5])])
def glyphiclaw4_PlaneStraight.B13 : List Nat := [0, 1, 0, 7, 0, 31, 63, 127, 255]
theorem glyphiclaw4_PlaneStraight.tab13 : rtab .any (opsOf Try.f10 13) = glyphiclaw4_PlaneStraight.T13 := by kernel_rfl
theorem glyphiclaw4_PlaneStraight.bits13 : waitsOk glyphiclaw4_PlaneStraight.T13.2 glyphiclaw4_PlaneStraight.B13 = true := by kernel_rfl
set_option maxHeartbeats 8000000 in
set_option maxRecDepth 100000 in
theorem glyphiclaw4_PlaneStraight.calls (k : Nat) (a0 : Int) (a1 : Int) (a2 : Int) (a3 : Int) (a4 : Int) (a5 : Bool) (r : Bool) (w : World) (hr0_ : Aside0 (r = true)) (h : glyphiclaw4_PlaneStraight.f k a0 a1 a2 a3 a4 a5 = some r) :
    Calls Try.prog 10 #[.int .i64 a0, .int .i64 a1, .int .i64 a2, .int .i64 a3, .int .i64 a4, .bool a5] w fun e w' => e = .returned (.bool r) ∧ Below w.heap.size w w' := by
  have hu28 := Try.underlying28
  have HB := Aside0.mk (Below.refl w.heap.size w)
  have H : ((glyphiclaw4_first.f).bind fun t142 => (if t142 = true then ((glyphicworld_Number.f (Go.bits .and .i64 a1 16777215) 10000).bind fun t143 => ((glyphicworld_Number.f (Go.bits .and .i64 a4 16777215) 40000).bind fun t144 => (if a5 = true then ((glyphiclaw4_turn.f (Int.tmod a0 100000) 7).bind fun bt148 => ((glyphiclaw4_turn.f (wrap64 ((Int.tmod a0 100000) + (wrap64 (t143 + 1)))) 7).bind fun bt150 => ((glyphiclaw4_turn.f (wrap64 ((Int.tmod a0 100000) + (Int.tmod a2 20000))) (wrap64 (7 + (Int.tmod a3 20000)))).bind fun bt152 => (glyphiclaw4_PlaneStraight.j0 k (wrap64 (t143 + 1)) (Int.tmod a2 20000) (Int.tmod a3 20000) t144 t142 bt148.1 bt148.2 bt150.1 bt150.2 bt152.1 bt152.2)))) else (glyphiclaw4_PlaneStraight.j0 k (wrap64 (t143 + 1)) (Int.tmod a2 20000) (Int.tmod a3 20000) t144 t142 (Int.tmod a0 100000) 7 (wrap64 ((Int.tmod a0 100000) + (wrap64 (t143 + 1)))) 7 (wrap64 ((Int.tmod a0 100000) + (Int.tmod a2 20000))) (wrap64 (7 + (Int.tmod a3 20000))))))) else (some false))) = some r := h
  clear h
  replace H := Option.bind_eq_some_iff.mp H
  obtain ⟨t142, A70, H⟩ := H
  replace H : (if t142 = true then ((glyphicworld_Number.f (Go.bits .and .i64 a1 16777215) 10000).bind fun t143 => ((glyphicworld_Number.f (Go.bits .and .i64 a4 16777215) 40000).bind fun t144 => (if a5 = true then ((glyphiclaw4_turn.f (Int.tmod a0 100000) 7).bind fun bt148 => ((glyphiclaw4_turn.f (wrap64 ((Int.tmod a0 100000) + (wrap64 (t143 + 1)))) 7).bind fun bt150 => ((glyphiclaw4_turn.f (wrap64 ((Int.tmod a0 100000) + (Int.tmod a2 20000))) (wrap64 (7 + (Int.tmod a3 20000)))).bind fun bt152 => (glyphiclaw4_PlaneStraight.j0 k (wrap64 (t143 + 1)) (Int.tmod a2 20000) (Int.tmod a3 20000) t144 t142 bt148.1 bt148.2 bt150.1 bt150.2 bt152.1 bt152.2)))) else (glyphiclaw4_PlaneStraight.j0 k (wrap64 (t143 + 1)) (Int.tmod a2 20000) (Int.tmod a3 20000) t144 t142 (Int.tmod a0 100000) 7 (wrap64 ((Int.tmod a0 100000) + (wrap64 (t143 + 1)))) 7 (wrap64 ((Int.tmod a0 100000) + (Int.tmod a2 20000))) (wrap64 (7 + (Int.tmod a3 20000))))))) else (some false)) = some r := H
  have A7 := Aside0.mk A70
  clear A70
  by_cases c8 : t142 = true
  · subst c8
    have H1 : ((glyphicworld_Number.f (Go.bits .and .i64 a1 16777215) 10000).bind fun t143 => ((glyphicworld_Number.f (Go.bits .and .i64 a4 16777215) 40000).bind fun t144 => (if a5 = true then ((glyphiclaw4_turn.f (Int.tmod a0 100000) 7).bind fun bt148 => ((glyphiclaw4_turn.f (wrap64 ((Int.tmod a0 100000) + (wrap64 (t143 + 1)))) 7).bind fun bt150 => ((glyphiclaw4_turn.f (wrap64 ((Int.tmod a0 100000) + (Int.tmod a2 20000))) (wrap64 (7 + (Int.tmod a3 20000)))).bind fun bt152 => (glyphiclaw4_PlaneStraight.j0 k (wrap64 (t143 + 1)) (Int.tmod a2 20000) (Int.tmod a3 20000) t144 true bt148.1 bt148.2 bt150.1 bt150.2 bt152.1 bt152.2)))) else (glyphiclaw4_PlaneStraight.j0 k (wrap64 (t143 + 1)) (Int.tmod a2 20000) (Int.tmod a3 20000) t144 true (Int.tmod a0 100000) 7 (wrap64 ((Int.tmod a0 100000) + (wrap64 (t143 + 1)))) 7 (wrap64 ((Int.tmod a0 100000) + (Int.tmod a2 20000))) (wrap64 (7 + (Int.tmod a3 20000))))))) = some r := by rw [if_pos rfl] at H; exact H
    clear H
    have H := H1
    clear H1
    replace H := Option.bind_eq_some_iff.mp H
    obtain ⟨t143, A90, H⟩ := H
    replace H : ((glyphicworld_Number.f (Go.bits .and .i64 a4 16777215) 40000).bind fun t144 => (if a5 = true then ((glyphiclaw4_turn.f (Int.tmod a0 100000) 7).bind fun bt148 => ((glyphiclaw4_turn.f (wrap64 ((Int.tmod a0 100000) + (wrap64 (t143 + 1)))) 7).bind fun bt150 => ((glyphiclaw4_turn.f (wrap64 ((Int.tmod a0 100000) + (Int.tmod a2 20000))) (wrap64 (7 + (Int.tmod a3 20000)))).bind fun bt152 => (glyphiclaw4_PlaneStraight.j0 k (wrap64 (t143 + 1)) (Int.tmod a2 20000) (Int.tmod a3 20000) t144 true bt148.1 bt148.2 bt150.1 bt150.2 bt152.1 bt152.2)))) else (glyphiclaw4_PlaneStraight.j0 k (wrap64 (t143 + 1)) (Int.tmod a2 20000) (Int.tmod a3 20000) t144 true (Int.tmod a0 100000) 7 (wrap64 ((Int.tmod a0 100000) + (wrap64 (t143 + 1)))) 7 (wrap64 ((Int.tmod a0 100000) + (Int.tmod a2 20000))) (wrap64 (7 + (Int.tmod a3 20000)))))) = some r := H
    have A9 := Aside0.mk A90
    clear A90
    replace H := Option.bind_eq_some_iff.mp H
    obtain ⟨t144, A100, H⟩ := H
    replace H : (if a5 = true then ((glyphiclaw4_turn.f (Int.tmod a0 100000) 7).bind fun bt148 => ((glyphiclaw4_turn.f (wrap64 ((Int.tmod a0 100000) + (wrap64 (t143 + 1)))) 7).bind fun bt150 => ((glyphiclaw4_turn.f (wrap64 ((Int.tmod a0 100000) + (Int.tmod a2 20000))) (wrap64 (7 + (Int.tmod a3 20000)))).bind fun bt152 => (glyphiclaw4_PlaneStraight.j0 k (wrap64 (t143 + 1)) (Int.tmod a2 20000) (Int.tmod a3 20000) t144 true bt148.1 bt148.2 bt150.1 bt150.2 bt152.1 bt152.2)))) else (glyphiclaw4_PlaneStraight.j0 k (wrap64 (t143 + 1)) (Int.tmod a2 20000) (Int.tmod a3 20000) t144 true (Int.tmod a0 100000) 7 (wrap64 ((Int.tmod a0 100000) + (wrap64 (t143 + 1)))) 7 (wrap64 ((Int.tmod a0 100000) + (Int.tmod a2 20000))) (wrap64 (7 + (Int.tmod a3 20000))))) = some r := H
    have A10 := Aside0.mk A100
    clear A100
    have HC11 := Aside0.mk H
    clear H
    go_enter Try.func10, Try.ntmps10
    go_upto_if 46 with (first | ((with_reducible refine gate_callee (f := 35) rfl ?_); refine goesL_ (some 18) rfl rfl Try.func35 (by kernel_rfl) rfl #[] rfl (by (try simp only [List.map_toArray, List.map_cons, List.map_nil]); first | done | rfl | (simp only [List.length_drop, List.length_take]; rfl)) ?_; (with_reducible refine (glyphiclaw4_first.calls  true _ A7.out).mono ?_); rintro e w12 ⟨rfl, hb⟩; refine ⟨_, rfl, ?_⟩; have n0_ := Aside0.mk (below_step (by repeat (first | (with_reducible first | exact HB.out | apply below_alloc | apply pw_below_drewN | apply below_drew1) | exact HB.out)) hb); clear HB; have HB := n0_; clear n0_; (try clear hb); (try clear hb2); (try clear hk); (try clear hi)) | ((with_reducible refine gate_callee (f := 36) rfl ?_); refine goesL_ (some 25) rfl rfl Try.func36 (by kernel_rfl) rfl #[.int .i64 (Go.bits .and .i64 a1 16777215), .int .i64 10000] rfl (by (try simp only [List.map_toArray, List.map_cons, List.map_nil]); first | done | rfl | (simp only [List.length_drop, List.length_take]; rfl)) ?_; (with_reducible refine (glyphicworld_Number.calls (Go.bits .and .i64 a1 16777215) 10000 t143 _ A9.out).mono ?_); rintro e w' ⟨rfl, ⟨nd, rfl⟩⟩; refine ⟨_, rfl, ?_⟩; (try (rw [drewN_self w12]; generalize hq_ : World.drewN w12 _ = w12; have n0_ : Aside0 (Below w.heap.size w w12) := ⟨by rw [← hq_]; exact (by repeat (first | (with_reducible first | exact HB.out | apply below_alloc | apply pw_below_drewN | apply below_drew1) | exact HB.out))⟩; clear HB hq_; have HB := n0_; clear n0_))) | ((with_reducible refine gate_callee (f := 36) rfl ?_); refine goesL_ (some 33) rfl rfl Try.func36 (by kernel_rfl) rfl #[.int .i64 (Go.bits .and .i64 a4 16777215), .int .i64 40000] rfl (by (try simp only [List.map_toArray, List.map_cons, List.map_nil]); first | done | rfl | (simp only [List.length_drop, List.length_take]; rfl)) ?_; (with_reducible refine (glyphicworld_Number.calls (Go.bits .and .i64 a4 16777215) 40000 t144 _ A10.out).mono ?_); rintro e w' ⟨rfl, ⟨nd, rfl⟩⟩; refine ⟨_, rfl, ?_⟩; (try (rw [drewN_self w12]; generalize hq_ : World.drewN w12 _ = w12; have n0_ : Aside0 (Below w.heap.size w w12) := ⟨by rw [← hq_]; exact (by repeat (first | (with_reducible first | exact HB.out | apply below_alloc | apply pw_below_drewN | apply below_drew1) | exact HB.out))⟩; clear HB hq_; have HB := n0_; clear n0_))) | ((with_reducible refine gate_dst (N := 14) rfl ?_); refine box_event ?hg (N := 14) ?hd (cs := #[.int .i64 0, .int .i64 0]) (t := 28) ?hr ?_; (case hd => rfl); (case hg => rfl); (case hr => first | (go_simp; done) | (go_simp; rfl)); intro gb145 hg w13 hbox hb; have n0_ := Aside0.mk (below_step (by repeat (first | (with_reducible first | exact HB.out | apply below_alloc | apply pw_below_drewN | apply below_drew1) | exact HB.out)) hb); have n1_ := Aside0.mk (hbox); have n2_ := Aside0.mk ((by rw [hg]; exact (below_size (by repeat (first | (with_reducible first | exact HB.out | apply below_alloc | apply pw_below_drewN | apply below_drew1) | exact HB.out))) : w.heap.size ≤ gb145)); have n3_ := Aside0.mk ((by rw [hg]; exact (below_size (by repeat (first | (with_reducible first | exact HB.out | apply below_alloc | apply pw_below_drewN | apply below_drew1) | exact HB.out))) : w.heap.size ≤ gb145)); clear HB; have HB := n0_; have BK145 := n1_; have GW145 := n2_; have GE145 := n3_; clear n0_ n1_ n2_ n3_; clear hb hbox hg; have hcz14_0 : w13.cell? ⟨gb145, 0, none⟩ = some (.int .i64 0) := (blk_cell BK145.out 0).trans rfl; have hcz14_1 : w13.cell? ⟨gb145, 1, none⟩ = some (.int .i64 0) := (blk_cell BK145.out 1).trans rfl; have hfz14_0 := blk_frozen BK145.out 0; have hfz14_1 := blk_frozen BK145.out 1) | ((with_reducible refine gate_dst (N := 15) rfl ?_); refine box_event ?hg (N := 15) ?hd (cs := #[.int .i64 0, .int .i64 0]) (t := 28) ?hr ?_; (case hd => rfl); (case hg => rfl); (case hr => first | (go_simp; done) | (go_simp; rfl)); intro gb146 hg w15 hbox hb; have n0_ := Aside0.mk (blk_below (g := gb145) (o := .cells #[.int .i64 (Int.tmod a0 100000), .int .i64 7] 28 (0, 0)) (by (with_reducible repeat (first | refine blk_drewN ?_ _ | refine blk_drew ?_ | refine blk_alloc ?_ _)); refine blk_put (cs := #[.int .i64 (Int.tmod a0 100000), .int .i64 0]) ?_ 1 _ rfl; (with_reducible repeat (first | refine blk_drewN ?_ _ | refine blk_drew ?_ | refine blk_alloc ?_ _)); refine blk_put (cs := #[.int .i64 0, .int .i64 0]) ?_ 0 _ rfl; (with_reducible repeat (first | refine blk_drewN ?_ _ | refine blk_drew ?_ | refine blk_alloc ?_ _)); exact BK145.out) hb); have n1_ := Aside0.mk (below_step (by repeat (first | (with_reducible first | exact HB.out | apply below_alloc | apply pw_below_drewN | apply below_drew1 | refine below_set ?_ GE145.out) | exact HB.out)) hb); have n2_ := Aside0.mk (hbox); have n3_ := Aside0.mk ((by rw [hg]; exact (below_size (by repeat (first | (with_reducible first | exact HB.out | apply below_alloc | apply pw_below_drewN | apply below_drew1 | refine below_set ?_ GE145.out) | exact HB.out))) : w.heap.size ≤ gb146)); have n4_ := Aside0.mk ((by rw [hg]; exact (below_size (by repeat (first | (with_reducible first | exact HB.out | apply below_alloc | apply pw_below_drewN | apply below_drew1 | refine below_set ?_ GE145.out) | exact HB.out))) : w.heap.size ≤ gb146)); have n5_ := Aside0.mk ((by rw [hg]; exact Nat.ne_of_lt (blk_lt (g := gb145) (o := .cells #[.int .i64 (Int.tmod a0 100000), .int .i64 7] 28 (0, 0)) (by (with_reducible repeat (first | refine blk_drewN ?_ _ | refine blk_drew ?_ | refine blk_alloc ?_ _)); refine blk_put (cs := #[.int .i64 (Int.tmod a0 100000), .int .i64 0]) ?_ 1 _ rfl; (with_reducible repeat (first | refine blk_drewN ?_ _ | refine blk_drew ?_ | refine blk_alloc ?_ _)); refine blk_put (cs := #[.int .i64 0, .int .i64 0]) ?_ 0 _ rfl; (with_reducible repeat (first | refine blk_drewN ?_ _ | refine blk_drew ?_ | refine blk_alloc ?_ _)); exact BK145.out)) : gb145 ≠ gb146)); have n6_ := Aside0.mk ((by rw [hg]; exact Nat.ne_of_gt (blk_lt (g := gb145) (o := .cells #[.int .i64 (Int.tmod a0 100000), .int .i64 7] 28 (0, 0)) (by (with_reducible repeat (first | refine blk_drewN ?_ _ | refine blk_drew ?_ | refine blk_alloc ?_ _)); refine blk_put (cs := #[.int .i64 (Int.tmod a0 100000), .int .i64 0]) ?_ 1 _ rfl; (with_reducible repeat (first | refine blk_drewN ?_ _ | refine blk_drew ?_ | refine blk_alloc ?_ _)); refine blk_put (cs := #[.int .i64 0, .int .i64 0]) ?_ 0 _ rfl; (with_reducible repeat (first | refine blk_drewN ?_ _ | refine blk_drew ?_ | refine blk_alloc ?_ _)); exact BK145.out)) : gb146 ≠ gb145)); clear BK145; clear HB; have BK145 := n0_; have HB := n1_; have BK146 := n2_; have GW146 := n3_; have GE146 := n4_; have NB145_146 := n5_; have NB146_145 := n6_; clear n0_ n1_ n2_ n3_ n4_ n5_ n6_; clear hb hbox hg; have hnb16 := NB146_145.out; have hnc16 := NB145_146.out; have hcz17_0 : w15.cell? ⟨gb146, 0, none⟩ = some (.int .i64 0) := (blk_cell BK146.out 0).trans rfl; have hcz17_1 : w15.cell? ⟨gb146, 1, none⟩ = some (.int .i64 0) := (blk_cell BK146.out 1).trans rfl; have hfz17_0 := blk_frozen BK146.out 0; have hfz17_1 := blk_frozen BK146.out 1) | ((with_reducible refine gate_dst (N := 16) rfl ?_); refine box_event ?hg (N := 16) ?hd (cs := #[.int .i64 0, .int .i64 0]) (t := 28) ?hr ?_; (case hd => rfl); (case hg => rfl); (case hr => first | (go_simp; done) | (go_simp; rfl)); intro gb147 hg w18 hbox hb; have n0_ := Aside0.mk (blk_below (g := gb145) (o := .cells #[.int .i64 (Int.tmod a0 100000), .int .i64 7] 28 (0, 0)) (by (with_reducible repeat (first | refine blk_drewN ?_ _ | refine blk_drew ?_ | refine blk_alloc ?_ _)); refine blk_far ?_ NB145_146.out _; (with_reducible repeat (first | refine blk_drewN ?_ _ | refine blk_drew ?_ | refine blk_alloc ?_ _)); refine blk_far ?_ NB145_146.out _; (with_reducible repeat (first | refine blk_drewN ?_ _ | refine blk_drew ?_ | refine blk_alloc ?_ _)); exact BK145.out) hb); have n1_ := Aside0.mk (blk_below (g := gb146) (o := .cells #[.int .i64 (wrap64 ((Int.tmod a0 100000) + (wrap64 (t143 + 1)))), .int .i64 7] 28 (0, 0)) (by (with_reducible repeat (first | refine blk_drewN ?_ _ | refine blk_drew ?_ | refine blk_alloc ?_ _)); refine blk_put (cs := #[.int .i64 (wrap64 ((Int.tmod a0 100000) + (wrap64 (t143 + 1)))), .int .i64 0]) ?_ 1 _ rfl; (with_reducible repeat (first | refine blk_drewN ?_ _ | refine blk_drew ?_ | refine blk_alloc ?_ _)); refine blk_put (cs := #[.int .i64 0, .int .i64 0]) ?_ 0 _ rfl; (with_reducible repeat (first | refine blk_drewN ?_ _ | refine blk_drew ?_ | refine blk_alloc ?_ _)); exact BK146.out) hb); have n2_ := Aside0.mk (below_step (by repeat (first | (with_reducible first | exact HB.out | apply below_alloc | apply pw_below_drewN | apply below_drew1 | refine below_set ?_ GE145.out | refine below_set ?_ GE146.out) | exact HB.out)) hb); have n3_ := Aside0.mk (hbox); have n4_ := Aside0.mk ((by rw [hg]; exact (below_size (by repeat (first | (with_reducible first | exact HB.out | apply below_alloc | apply pw_below_drewN | apply below_drew1 | refine below_set ?_ GE145.out | refine below_set ?_ GE146.out) | exact HB.out))) : w.heap.size ≤ gb147)); have n5_ := Aside0.mk ((by rw [hg]; exact (below_size (by repeat (first | (with_reducible first | exact HB.out | apply below_alloc | apply pw_below_drewN | apply below_drew1 | refine below_set ?_ GE145.out | refine below_set ?_ GE146.out) | exact HB.out))) : w.heap.size ≤ gb147)); have n6_ := Aside0.mk ((by rw [hg]; exact Nat.ne_of_lt (blk_lt (g := gb145) (o := .cells #[.int .i64 (Int.tmod a0 100000), .int .i64 7] 28 (0, 0)) (by (with_reducible repeat (first | refine blk_drewN ?_ _ | refine blk_drew ?_ | refine blk_alloc ?_ _)); refine blk_far ?_ NB145_146.out _; (with_reducible repeat (first | refine blk_drewN ?_ _ | refine blk_drew ?_ | refine blk_alloc ?_ _)); refine blk_far ?_ NB145_146.out _; (with_reducible repeat (first | refine blk_drewN ?_ _ | refine blk_drew ?_ | refine blk_alloc ?_ _)); exact BK145.out)) : gb145 ≠ gb147)); have n7_ := Aside0.mk ((by rw [hg]; exact Nat.ne_of_gt (blk_lt (g := gb145) (o := .cells #[.int .i64 (Int.tmod a0 100000), .int .i64 7] 28 (0, 0)) (by (with_reducible repeat (first | refine blk_drewN ?_ _ | refine blk_drew ?_ | refine blk_alloc ?_ _)); refine blk_far ?_ NB145_146.out _; (with_reducible repeat (first | refine blk_drewN ?_ _ | refine blk_drew ?_ | refine blk_alloc ?_ _)); refine blk_far ?_ NB145_146.out _; (with_reducible repeat (first | refine blk_drewN ?_ _ | refine blk_drew ?_ | refine blk_alloc ?_ _)); exact BK145.out)) : gb147 ≠ gb145)); have n8_ := Aside0.mk ((by rw [hg]; exact Nat.ne_of_lt (blk_lt (g := gb146) (o := .cells #[.int .i64 (wrap64 ((Int.tmod a0 100000) + (wrap64 (t143 + 1)))), .int .i64 7] 28 (0, 0)) (by (with_reducible repeat (first | refine blk_drewN ?_ _ | refine blk_drew ?_ | refine blk_alloc ?_ _)); refine blk_put (cs := #[.int .i64 (wrap64 ((Int.tmod a0 100000) + (wrap64 (t143 + 1)))), .int .i64 0]) ?_ 1 _ rfl; (with_reducible repeat (first | refine blk_drewN ?_ _ | refine blk_drew ?_ | refine blk_alloc ?_ _)); refine blk_put (cs := #[.int .i64 0, .int .i64 0]) ?_ 0 _ rfl; (with_reducible repeat (first | refine blk_drewN ?_ _ | refine blk_drew ?_ | refine blk_alloc ?_ _)); exact BK146.out)) : gb146 ≠ gb147)); have n9_ := Aside0.mk ((by rw [hg]; exact Nat.ne_of_gt (blk_lt (g := gb146) (o := .cells #[.int .i64 (wrap64 ((Int.tmod a0 100000) + (wrap64 (t143 + 1)))), .int .i64 7] 28 (0, 0)) (by (with_reducible repeat (first | refine blk_drewN ?_ _ | refine blk_drew ?_ | refine blk_alloc ?_ _)); refine blk_put (cs := #[.int .i64 (wrap64 ((Int.tmod a0 100000) + (wrap64 (t143 + 1)))), .int .i64 0]) ?_ 1 _ rfl; (with_reducible repeat (first | refine blk_drewN ?_ _ | refine blk_drew ?_ | refine blk_alloc ?_ _)); refine blk_put (cs := #[.int .i64 0, .int .i64 0]) ?_ 0 _ rfl; (with_reducible repeat (first | refine blk_drewN ?_ _ | refine blk_drew ?_ | refine blk_alloc ?_ _)); exact BK146.out)) : gb147 ≠ gb146)); clear BK145; clear BK146; clear HB; have BK145 := n0_; have BK146 := n1_; have HB := n2_; have BK147 := n3_; have GW147 := n4_; have GE147 := n5_; have NB145_147 := n6_; have NB147_145 := n7_; have NB146_147 := n8_; have NB147_146 := n9_; clear n0_ n1_ n2_ n3_ n4_ n5_ n6_ n7_ n8_ n9_; clear hb hbox hg; have hnb19 := NB147_145.out; have hnc19 := NB145_147.out; have hnb20 := NB147_146.out; have hnc20 := NB146_147.out; have hcz21_0 : w18.cell? ⟨gb147, 0, none⟩ = some (.int .i64 0) := (blk_cell BK147.out 0).trans rfl; have hcz21_1 : w18.cell? ⟨gb147, 1, none⟩ = some (.int .i64 0) := (blk_cell BK147.out 1).trans rfl; have hfz21_0 := blk_frozen BK147.out 0; have hfz21_1 := blk_frozen BK147.out 1))
    (try simp only [Act.put, List.setIfInBounds_toArray, List.set_cons_zero, List.set_cons_succ])
    go_cut [] (fun wc => ∃ (kq : Nat) (x146000_10 : Int) (x146001_10 : Int) (x147000_10 : Int) (x147001_10 : Int) (x148000_10 : Int) (x148001_10 : Int), Aside0 (glyphiclaw4_PlaneStraight.j0 kq (wrap64 (t143 + 1)) (Int.tmod a2 20000) (Int.tmod a3 20000) t144 true x146000_10 x146001_10 x147000_10 x147001_10 x148000_10 x148001_10 = some r) ∧ Aside0 (kq ≤ k) ∧ Aside0 (wc.heap[gb145]? = some (.cells #[.int .i64 x146000_10, .int .i64 x146001_10] 28 (0, 0))) ∧ Aside0 (wc.heap[gb146]? = some (.cells #[.int .i64 x147000_10, .int .i64 x147001_10] 28 (0, 0))) ∧ Aside0 (wc.heap[gb147]? = some (.cells #[.int .i64 x148000_10, .int .i64 x148001_10] 28 (0, 0))) ∧ Aside0 (Below w.heap.size w wc))
    case first =>
      have H := HC11.out
      clear HC11
      by_cases c22 : a5 = true
      · subst c22
        have H1 : ((glyphiclaw4_turn.f (Int.tmod a0 100000) 7).bind fun bt148 => ((glyphiclaw4_turn.f (wrap64 ((Int.tmod a0 100000) + (wrap64 (t143 + 1)))) 7).bind fun bt150 => ((glyphiclaw4_turn.f (wrap64 ((Int.tmod a0 100000) + (Int.tmod a2 20000))) (wrap64 (7 + (Int.tmod a3 20000)))).bind fun bt152 => (glyphiclaw4_PlaneStraight.j0 k (wrap64 (t143 + 1)) (Int.tmod a2 20000) (Int.tmod a3 20000) t144 true bt148.1 bt148.2 bt150.1 bt150.2 bt152.1 bt152.2)))) = some r := by rw [if_pos rfl] at H; exact H
        clear H
        have H := H1
        clear H1
        replace H := Option.bind_eq_some_iff.mp H
        obtain ⟨⟨t148, t149⟩, A230, H⟩ := H
        replace H : ((glyphiclaw4_turn.f (wrap64 ((Int.tmod a0 100000) + (wrap64 (t143 + 1)))) 7).bind fun bt150 => ((glyphiclaw4_turn.f (wrap64 ((Int.tmod a0 100000) + (Int.tmod a2 20000))) (wrap64 (7 + (Int.tmod a3 20000)))).bind fun bt152 => (glyphiclaw4_PlaneStraight.j0 k (wrap64 (t143 + 1)) (Int.tmod a2 20000) (Int.tmod a3 20000) t144 true t148 t149 bt150.1 bt150.2 bt152.1 bt152.2))) = some r := H
        have A23 := Aside0.mk A230
        clear A230
        replace H := Option.bind_eq_some_iff.mp H
        obtain ⟨⟨t150, t151⟩, A240, H⟩ := H
        replace H : ((glyphiclaw4_turn.f (wrap64 ((Int.tmod a0 100000) + (Int.tmod a2 20000))) (wrap64 (7 + (Int.tmod a3 20000)))).bind fun bt152 => (glyphiclaw4_PlaneStraight.j0 k (wrap64 (t143 + 1)) (Int.tmod a2 20000) (Int.tmod a3 20000) t144 true t148 t149 t150 t151 bt152.1 bt152.2)) = some r := H
        have A24 := Aside0.mk A240
        clear A240
        replace H := Option.bind_eq_some_iff.mp H
        obtain ⟨⟨t152, t153⟩, A250, H⟩ := H
        replace H : (glyphiclaw4_PlaneStraight.j0 k (wrap64 (t143 + 1)) (Int.tmod a2 20000) (Int.tmod a3 20000) t144 true t148 t149 t150 t151 t152 t153) = some r := H
        have A25 := Aside0.mk A250
        clear A250
        have H' := Aside0.mk H
        clear H
        try go_wp2
        have n0_ : Aside0 (((w18.setCell ⟨gb147, 0, none⟩ (.int .i64 (wrap64 ((Int.tmod a0 100000) + (Int.tmod a2 20000))))).setCell ⟨gb147, 1, none⟩ (.int .i64 (wrap64 (7 + (Int.tmod a3 20000))))).heap[gb145]? = some (.cells #[.int .i64 (Int.tmod a0 100000), .int .i64 7] 28 (0, 0))) := ⟨by (with_reducible repeat (first | refine blk_drewN ?_ _ | refine blk_drew ?_ | refine blk_alloc ?_ _)); refine blk_far ?_ NB145_147.out _; (with_reducible repeat (first | refine blk_drewN ?_ _ | refine blk_drew ?_ | refine blk_alloc ?_ _)); refine blk_far ?_ NB145_147.out _; (with_reducible repeat (first | refine blk_drewN ?_ _ | refine blk_drew ?_ | refine blk_alloc ?_ _)); exact BK145.out⟩
        have n1_ : Aside0 (((w18.setCell ⟨gb147, 0, none⟩ (.int .i64 (wrap64 ((Int.tmod a0 100000) + (Int.tmod a2 20000))))).setCell ⟨gb147, 1, none⟩ (.int .i64 (wrap64 (7 + (Int.tmod a3 20000))))).heap[gb146]? = some (.cells #[.int .i64 (wrap64 ((Int.tmod a0 100000) + (wrap64 (t143 + 1)))), .int .i64 7] 28 (0, 0))) := ⟨by (with_reducible repeat (first | refine blk_drewN ?_ _ | refine blk_drew ?_ | refine blk_alloc ?_ _)); refine blk_far ?_ NB146_147.out _; (with_reducible repeat (first | refine blk_drewN ?_ _ | refine blk_drew ?_ | refine blk_alloc ?_ _)); refine blk_far ?_ NB146_147.out _; (with_reducible repeat (first | refine blk_drewN ?_ _ | refine blk_drew ?_ | refine blk_alloc ?_ _)); exact BK146.out⟩
        have n2_ : Aside0 (((w18.setCell ⟨gb147, 0, none⟩ (.int .i64 (wrap64 ((Int.tmod a0 100000) + (Int.tmod a2 20000))))).setCell ⟨gb147, 1, none⟩ (.int .i64 (wrap64 (7 + (Int.tmod a3 20000))))).heap[gb147]? = some (.cells #[.int .i64 (wrap64 ((Int.tmod a0 100000) + (Int.tmod a2 20000))), .int .i64 (wrap64 (7 + (Int.tmod a3 20000)))] 28 (0, 0))) := ⟨by (with_reducible repeat (first | refine blk_drewN ?_ _ | refine blk_drew ?_ | refine blk_alloc ?_ _)); refine blk_put (cs := #[.int .i64 (wrap64 ((Int.tmod a0 100000) + (Int.tmod a2 20000))), .int .i64 0]) ?_ 1 _ rfl; (with_reducible repeat (first | refine blk_drewN ?_ _ | refine blk_drew ?_ | refine blk_alloc ?_ _)); refine blk_put (cs := #[.int .i64 0, .int .i64 0]) ?_ 0 _ rfl; (with_reducible repeat (first | refine blk_drewN ?_ _ | refine blk_drew ?_ | refine blk_alloc ?_ _)); exact BK147.out⟩
        have n3_ : Aside0 (Below w.heap.size w ((w18.setCell ⟨gb147, 0, none⟩ (.int .i64 (wrap64 ((Int.tmod a0 100000) + (Int.tmod a2 20000))))).setCell ⟨gb147, 1, none⟩ (.int .i64 (wrap64 (7 + (Int.tmod a3 20000)))))) := ⟨by repeat (first | (with_reducible first | exact HB.out | apply below_alloc | apply pw_below_drewN | apply below_drew1 | refine below_set ?_ GE145.out | refine below_set ?_ GE146.out | refine below_set ?_ GE147.out) | exact HB.out)⟩
        (try clear BK145)
        (try clear BK146)
        (try clear BK147)
        (try clear HB)
        generalize ((w18.setCell ⟨gb147, 0, none⟩ (.int .i64 (wrap64 ((Int.tmod a0 100000) + (Int.tmod a2 20000))))).setCell ⟨gb147, 1, none⟩ (.int .i64 (wrap64 (7 + (Int.tmod a3 20000))))) = w26 at n0_ n1_ n2_ n3_ ⊢
        have BK145 := n0_
        have BK146 := n1_
        have BK147 := n2_
        have HB := n3_
        clear n0_ n1_ n2_ n3_
        have n0_ := Aside0.mk (blk_drew BK145.out)
        have n1_ := Aside0.mk (blk_drew BK146.out)
        have n2_ := Aside0.mk (blk_drew BK147.out)
        have n3_ := Aside0.mk (below_drew1 HB.out)
        clear BK145
        clear BK146
        clear BK147
        clear HB
        have BK145 := n0_
        have BK146 := n1_
        have BK147 := n2_
        have HB := n3_
        clear n0_ n1_ n2_ n3_
        refine start_ (n := 9) (S := fun w' => w'.cell? ⟨gb145, 0, none⟩ = some (.int .i64 (Int.tmod a0 100000)) ∧ w'.cell? ⟨gb145, 1, none⟩ = some (.int .i64 7) ∧ w'.cell? ⟨gb146, 0, none⟩ = some (.int .i64 (wrap64 ((Int.tmod a0 100000) + (wrap64 (t143 + 1))))) ∧ w'.cell? ⟨gb146, 1, none⟩ = some (.int .i64 7) ∧ w'.cell? ⟨gb147, 0, none⟩ = some (.int .i64 (wrap64 ((Int.tmod a0 100000) + (Int.tmod a2 20000)))) ∧ w'.cell? ⟨gb147, 1, none⟩ = some (.int .i64 (wrap64 (7 + (Int.tmod a3 20000))))) (ds := [6, 7, 8]) #[false, false, false, false, false, false, false, false, false] (by kernel_rfl) rfl rfl ⟨(blk_cell BK145.out 0).trans rfl, (blk_cell BK145.out 1).trans rfl, (blk_cell BK146.out 0).trans rfl, (blk_cell BK146.out 1).trans rfl, (blk_cell BK147.out 0).trans rfl, (blk_cell BK147.out 1).trans rfl⟩ (fun hHeld => ?_); refine with_tabW glyphiclaw4_PlaneStraight.tab13 glyphiclaw4_PlaneStraight.bits13 (fun HT_ HW_ => ?_)
        generalize w26.drew = w27 at BK145 BK146 BK147 HB hHeld ⊢
        refine take_ (i := 0) (N := some 47) (v := ?_) (a' := ?_) #[true, false, false, false, false, false, false, false, false] rfl rfl (take_ofW HT_.out HW_.out (by kernel_rfl)) (fun _ _ _ h => h) (Or.inl ⟨by rfl, ?_⟩) hHeld ?_ ?_
        rotate_left
        · rintro w' ⟨s0, s1, s2, s3, s4, s5⟩
          go_simp
          with_reducible rfl
        rotate_left
        · simp only [Act.put, List.setIfInBounds_toArray, List.set_cons_zero, List.set_cons_succ, i64_w, i32_w]
          rfl
        refine take_ (i := 2) (N := some 49) (v := ?_) (a' := ?_) #[true, false, true, false, false, false, false, false, false] rfl rfl (take_ofW HT_.out HW_.out (by kernel_rfl)) (fun _ _ _ h => h) (Or.inl ⟨by rfl, ?_⟩) hHeld ?_ ?_
        rotate_left
        · rintro w' ⟨s0, s1, s2, s3, s4, s5⟩
          go_simp
          with_reducible rfl
        rotate_left
        · simp only [Act.put, List.setIfInBounds_toArray, List.set_cons_zero, List.set_cons_succ, i64_w, i32_w]
          rfl
        refine take_ (i := 4) (N := some 51) (v := ?_) (a' := ?_) #[true, false, true, false, true, false, false, false, false] rfl rfl (take_ofW HT_.out HW_.out (by kernel_rfl)) (fun _ _ _ h => h) (Or.inl ⟨by rfl, ?_⟩) hHeld ?_ ?_
        rotate_left
        · rintro w' ⟨s0, s1, s2, s3, s4, s5⟩
          go_simp
          with_reducible rfl
        rotate_left
        · simp only [Act.put, List.setIfInBounds_toArray, List.set_cons_zero, List.set_cons_succ, i64_w, i32_w]
          rfl
        refine one_ (i := 1) (N := some 48) #[true, true, true, false, true, false, false, false, false] rfl rfl (one_of HT_.out (by kernel_rfl)) (by decide) (fun K hK => ?_)
        refine goes_ Try.func37 (by kernel_rfl) rfl #[.agg #[.int .i64 (Int.tmod a0 100000), .int .i64 7]] (by rfl) rfl rfl (by (try simp only [List.map_toArray, List.map_cons, List.map_nil]); first | done | rfl | (simp only [List.length_drop, List.length_take]; rfl)) ?_
        with_reducible refine (glyphiclaw4_turn.calls (Int.tmod a0 100000) 7 t148 t149 _ A23.out).mono ?_
        rintro e w28 ⟨rfl, hb⟩
        refine ⟨_, rfl, ?_⟩
        have n0_ := Aside0.mk (blk_below (g := gb145) (o := .cells #[.int .i64 (Int.tmod a0 100000), .int .i64 7] 28 (0, 0)) (by (with_reducible repeat (first | refine blk_drewN ?_ _ | refine blk_drew ?_ | refine blk_alloc ?_ _)); exact BK145.out) hb)
        have n1_ := Aside0.mk (blk_below (g := gb146) (o := .cells #[.int .i64 (wrap64 ((Int.tmod a0 100000) + (wrap64 (t143 + 1)))), .int .i64 7] 28 (0, 0)) (by (with_reducible repeat (first | refine blk_drewN ?_ _ | refine blk_drew ?_ | refine blk_alloc ?_ _)); exact BK146.out) hb)
        have n2_ := Aside0.mk (blk_below (g := gb147) (o := .cells #[.int .i64 (wrap64 ((Int.tmod a0 100000) + (Int.tmod a2 20000))), .int .i64 (wrap64 (7 + (Int.tmod a3 20000)))] 28 (0, 0)) (by (with_reducible repeat (first | refine blk_drewN ?_ _ | refine blk_drew ?_ | refine blk_alloc ?_ _)); exact BK147.out) hb)
        have n3_ := Aside0.mk (below_step (by repeat (first | (with_reducible first | exact HB.out | apply below_alloc | apply pw_below_drewN | apply below_drew1 | refine below_set ?_ GE145.out | refine below_set ?_ GE146.out | refine below_set ?_ GE147.out) | exact HB.out)) hb)
        clear BK145
        clear BK146
        clear BK147
        clear HB
        have BK145 := n0_
        have BK146 := n1_
        have BK147 := n2_
        have HB := n3_
        clear n0_ n1_ n2_ n3_
        (try clear hb)
        (try clear hb2)
        (try clear hk)
        (try clear hi)
        refine hK.out _ _ ⟨(blk_cell BK145.out 0).trans rfl, (blk_cell BK145.out 1).trans rfl, (blk_cell BK146.out 0).trans rfl, (blk_cell BK146.out 1).trans rfl, (blk_cell BK147.out 0).trans rfl, (blk_cell BK147.out 1).trans rfl⟩ (fun hHeld => ?_)
        clear hK K
        refine norm_ (a' := ?_) ?_ ?_
        rotate_left
        · show Act.put _ (some 48) _ = _
          simp only [Act.put, List.setIfInBounds_toArray, List.set_cons_zero, List.set_cons_succ, i64_w, i32_w]
          rfl
        refine one_ (i := 3) (N := some 50) #[true, true, true, true, true, false, false, false, false] rfl rfl (one_of HT_.out (by kernel_rfl)) (by decide) (fun K hK => ?_)
        refine goes_ Try.func37 (by kernel_rfl) rfl #[.agg #[.int .i64 (wrap64 ((Int.tmod a0 100000) + (wrap64 (t143 + 1)))), .int .i64 7]] (by rfl) rfl rfl (by (try simp only [List.map_toArray, List.map_cons, List.map_nil]); first | done | rfl | (simp only [List.length_drop, List.length_take]; rfl)) ?_
        with_reducible refine (glyphiclaw4_turn.calls (wrap64 ((Int.tmod a0 100000) + (wrap64 (t143 + 1)))) 7 t150 t151 _ A24.out).mono ?_
        rintro e w29 ⟨rfl, hb⟩
        refine ⟨_, rfl, ?_⟩
        have n0_ := Aside0.mk (blk_below (g := gb145) (o := .cells #[.int .i64 (Int.tmod a0 100000), .int .i64 7] 28 (0, 0)) (by (with_reducible repeat (first | refine blk_drewN ?_ _ | refine blk_drew ?_ | refine blk_alloc ?_ _)); exact BK145.out) hb)
        have n1_ := Aside0.mk (blk_below (g := gb146) (o := .cells #[.int .i64 (wrap64 ((Int.tmod a0 100000) + (wrap64 (t143 + 1)))), .int .i64 7] 28 (0, 0)) (by (with_reducible repeat (first | refine blk_drewN ?_ _ | refine blk_drew ?_ | refine blk_alloc ?_ _)); exact BK146.out) hb)
        have n2_ := Aside0.mk (blk_below (g := gb147) (o := .cells #[.int .i64 (wrap64 ((Int.tmod a0 100000) + (Int.tmod a2 20000))), .int .i64 (wrap64 (7 + (Int.tmod a3 20000)))] 28 (0, 0)) (by (with_reducible repeat (first | refine blk_drewN ?_ _ | refine blk_drew ?_ | refine blk_alloc ?_ _)); exact BK147.out) hb)
        have n3_ := Aside0.mk (below_step (by repeat (first | (with_reducible first | exact HB.out | apply below_alloc | apply pw_below_drewN | apply below_drew1 | refine below_set ?_ GE145.out | refine below_set ?_ GE146.out | refine below_set ?_ GE147.out) | exact HB.out)) hb)
        clear BK145
        clear BK146
        clear BK147
        clear HB
        have BK145 := n0_
        have BK146 := n1_
        have BK147 := n2_
        have HB := n3_
        clear n0_ n1_ n2_ n3_
        (try clear hb)
        (try clear hb2)
        (try clear hk)
        (try clear hi)
        refine hK.out _ _ ⟨(blk_cell BK145.out 0).trans rfl, (blk_cell BK145.out 1).trans rfl, (blk_cell BK146.out 0).trans rfl, (blk_cell BK146.out 1).trans rfl, (blk_cell BK147.out 0).trans rfl, (blk_cell BK147.out 1).trans rfl⟩ (fun hHeld => ?_)
        clear hK K
        refine norm_ (a' := ?_) ?_ ?_
        rotate_left
        · show Act.put _ (some 50) _ = _
          simp only [Act.put, List.setIfInBounds_toArray, List.set_cons_zero, List.set_cons_succ, i64_w, i32_w]
          rfl
        refine one_ (i := 5) (N := some 52) #[true, true, true, true, true, true, false, false, false] rfl rfl (one_of HT_.out (by kernel_rfl)) (by decide) (fun K hK => ?_)
        refine goes_ Try.func37 (by kernel_rfl) rfl #[.agg #[.int .i64 (wrap64 ((Int.tmod a0 100000) + (Int.tmod a2 20000))), .int .i64 (wrap64 (7 + (Int.tmod a3 20000)))]] (by rfl) rfl rfl (by (try simp only [List.map_toArray, List.map_cons, List.map_nil]); first | done | rfl | (simp only [List.length_drop, List.length_take]; rfl)) ?_
        with_reducible refine (glyphiclaw4_turn.calls (wrap64 ((Int.tmod a0 100000) + (Int.tmod a2 20000))) (wrap64 (7 + (Int.tmod a3 20000))) t152 t153 _ A25.out).mono ?_
        rintro e w30 ⟨rfl, hb⟩
        refine ⟨_, rfl, ?_⟩
        have n0_ := Aside0.mk (blk_below (g := gb145) (o := .cells #[.int .i64 (Int.tmod a0 100000), .int .i64 7] 28 (0, 0)) (by (with_reducible repeat (first | refine blk_drewN ?_ _ | refine blk_drew ?_ | refine blk_alloc ?_ _)); exact BK145.out) hb)
        have n1_ := Aside0.mk (blk_below (g := gb146) (o := .cells #[.int .i64 (wrap64 ((Int.tmod a0 100000) + (wrap64 (t143 + 1)))), .int .i64 7] 28 (0, 0)) (by (with_reducible repeat (first | refine blk_drewN ?_ _ | refine blk_drew ?_ | refine blk_alloc ?_ _)); exact BK146.out) hb)
        have n2_ := Aside0.mk (blk_below (g := gb147) (o := .cells #[.int .i64 (wrap64 ((Int.tmod a0 100000) + (Int.tmod a2 20000))), .int .i64 (wrap64 (7 + (Int.tmod a3 20000)))] 28 (0, 0)) (by (with_reducible repeat (first | refine blk_drewN ?_ _ | refine blk_drew ?_ | refine blk_alloc ?_ _)); exact BK147.out) hb)
        have n3_ := Aside0.mk (below_step (by repeat (first | (with_reducible first | exact HB.out | apply below_alloc | apply pw_below_drewN | apply below_drew1 | refine below_set ?_ GE145.out | refine below_set ?_ GE146.out | refine below_set ?_ GE147.out) | exact HB.out)) hb)
        clear BK145
        clear BK146
        clear BK147
        clear HB
        have BK145 := n0_
        have BK146 := n1_
        have BK147 := n2_
        have HB := n3_
        clear n0_ n1_ n2_ n3_
        (try clear hb)
        (try clear hb2)
        (try clear hk)
        (try clear hi)
        refine hK.out _ _ ⟨(blk_cell BK145.out 0).trans rfl, (blk_cell BK145.out 1).trans rfl, (blk_cell BK146.out 0).trans rfl, (blk_cell BK146.out 1).trans rfl, (blk_cell BK147.out 0).trans rfl, (blk_cell BK147.out 1).trans rfl⟩ (fun hHeld => ?_)
        clear hK K
        refine norm_ (a' := ?_) ?_ ?_
        rotate_left
        · show Act.put _ (some 52) _ = _
          simp only [Act.put, List.setIfInBounds_toArray, List.set_cons_zero, List.set_cons_succ, i64_w, i32_w]
          rfl
        refine last_ (i := 6) (N := none) #[true, true, true, true, true, true, true, false, false] rfl rfl (one_of HT_.out (by kernel_rfl)) (by decide) (fun K hK => ?_)
        have hs31 : w30.cell? ⟨gb145, 0, none⟩ = some (.int .i64 (Int.tmod a0 100000)) := (blk_cell BK145.out 0).trans rfl
        have hfs31 := blk_frozen BK145.out 0
        have hns31_1 := NB146_145.out
        have hns31_2 := NB147_145.out
        have hms31_1 := NB145_146.out
        have hms31_2 := NB145_147.out
        have hs32 : w30.cell? ⟨gb145, 1, none⟩ = some (.int .i64 7) := (blk_cell BK145.out 1).trans rfl
        have hfs32 := blk_frozen BK145.out 1
        have hns32_1 := NB146_145.out
        have hns32_2 := NB147_145.out
        have hms32_1 := NB145_146.out
        have hms32_2 := NB145_147.out
        refine skip_ (w1 := ?_) (by rfl) rfl ?_ ?_
        rotate_left
        · go_simp
          rfl
        refine hK.out _ _ ?_
        clear hK K
        refine last_ (i := 7) (N := none) #[true, true, true, true, true, true, true, true, false] rfl rfl (one_of HT_.out (by kernel_rfl)) (by decide) (fun K hK => ?_)
        have hs33 : w30.cell? ⟨gb146, 0, none⟩ = some (.int .i64 (wrap64 ((Int.tmod a0 100000) + (wrap64 (t143 + 1))))) := (blk_cell BK146.out 0).trans rfl
        have hfs33 := blk_frozen BK146.out 0
        have hns33_0 := NB145_146.out
        have hns33_2 := NB147_146.out
        have hms33_0 := NB146_145.out
        have hms33_2 := NB146_147.out
        have hs34 : w30.cell? ⟨gb146, 1, none⟩ = some (.int .i64 7) := (blk_cell BK146.out 1).trans rfl
        have hfs34 := blk_frozen BK146.out 1
        have hns34_0 := NB145_146.out
        have hns34_2 := NB147_146.out
        have hms34_0 := NB146_145.out
        have hms34_2 := NB146_147.out
        refine skip_ (w1 := ?_) (by rfl) rfl ?_ ?_
        rotate_left
        · go_simp
          rfl
        refine hK.out _ _ ?_
        clear hK K
        refine last_ (i := 8) (N := none) #[true, true, true, true, true, true, true, true, true] rfl rfl (one_of HT_.out (by kernel_rfl)) (by decide) (fun K hK => ?_)
        have hs35 : w30.cell? ⟨gb147, 0, none⟩ = some (.int .i64 (wrap64 ((Int.tmod a0 100000) + (Int.tmod a2 20000)))) := (blk_cell BK147.out 0).trans rfl
        have hfs35 := blk_frozen BK147.out 0
        have hns35_0 := NB145_147.out
        have hns35_1 := NB146_147.out
        have hms35_0 := NB147_145.out
        have hms35_1 := NB147_146.out
        have hs36 : w30.cell? ⟨gb147, 1, none⟩ = some (.int .i64 (wrap64 (7 + (Int.tmod a3 20000)))) := (blk_cell BK147.out 1).trans rfl
        have hfs36 := blk_frozen BK147.out 1
        have hns36_0 := NB145_147.out
        have hns36_1 := NB146_147.out
        have hms36_0 := NB147_145.out
        have hms36_1 := NB147_146.out
        refine skip_ (w1 := ?_) (by rfl) rfl ?_ ?_
        rotate_left
        · go_simp
          rfl
        refine hK.out _ _ ?_
        clear hK K
        refine done_ (done_of HT_.out (by kernel_rfl)) ?_
        try go_wp2
        go_meet
        case rel => exact ⟨_, (t148), (t149), (t150), (t151), (t152), (t153), H', ⟨by first | omega | exact Nat.le_refl _⟩, ⟨by (with_reducible repeat (first | refine blk_drewN ?_ _ | refine blk_drew ?_ | refine blk_alloc ?_ _)); refine blk_far ?_ NB145_147.out _; (with_reducible repeat (first | refine blk_drewN ?_ _ | refine blk_drew ?_ | refine blk_alloc ?_ _)); refine blk_far ?_ NB145_147.out _; (with_reducible repeat (first | refine blk_drewN ?_ _ | refine blk_drew ?_ | refine blk_alloc ?_ _)); refine blk_far ?_ NB145_146.out _; (with_reducible repeat (first | refine blk_drewN ?_ _ | refine blk_drew ?_ | refine blk_alloc ?_ _)); refine blk_far ?_ NB145_146.out _; (with_reducible repeat (first | refine blk_drewN ?_ _ | refine blk_drew ?_ | refine blk_alloc ?_ _)); refine blk_put (cs := #[.int .i64 t148, .int .i64 7]) ?_ 1 _ rfl; (with_reducible repeat (first | refine blk_drewN ?_ _ | refine blk_drew ?_ | refine blk_alloc ?_ _)); refine blk_put (cs := #[.int .i64 (Int.tmod a0 100000), .int .i64 7]) ?_ 0 _ rfl; (with_reducible repeat (first | refine blk_drewN ?_ _ | refine blk_drew ?_ | refine blk_alloc ?_ _)); exact BK145.out⟩, ⟨by (with_reducible repeat (first | refine blk_drewN ?_ _ | refine blk_drew ?_ | refine blk_alloc ?_ _)); refine blk_far ?_ NB146_147.out _; (with_reducible repeat (first | refine blk_drewN ?_ _ | refine blk_drew ?_ | refine blk_alloc ?_ _)); refine blk_far ?_ NB146_147.out _; (with_reducible repeat (first | refine blk_drewN ?_ _ | refine blk_drew ?_ | refine blk_alloc ?_ _)); refine blk_put (cs := #[.int .i64 t150, .int .i64 7]) ?_ 1 _ rfl; (with_reducible repeat (first | refine blk_drewN ?_ _ | refine blk_drew ?_ | refine blk_alloc ?_ _)); refine blk_put (cs := #[.int .i64 (wrap64 ((Int.tmod a0 100000) + (wrap64 (t143 + 1)))), .int .i64 7]) ?_ 0 _ rfl; (with_reducible repeat (first | refine blk_drewN ?_ _ | refine blk_drew ?_ | refine blk_alloc ?_ _)); refine blk_far ?_ NB146_145.out _; (with_reducible repeat (first | refine blk_drewN ?_ _ | refine blk_drew ?_ | refine blk_alloc ?_ _)); refine blk_far ?_ NB146_145.out _; (with_reducible repeat (first | refine blk_drewN ?_ _ | refine blk_drew ?_ | refine blk_alloc ?_ _)); exact BK146.out⟩, ⟨by (with_reducible repeat (first | refine blk_drewN ?_ _ | refine blk_drew ?_ | refine blk_alloc ?_ _)); refine blk_put (cs := #[.int .i64 t152, .int .i64 (wrap64 (7 + (Int.tmod a3 20000)))]) ?_ 1 _ rfl; (with_reducible repeat (first | refine blk_drewN ?_ _ | refine blk_drew ?_ | refine blk_alloc ?_ _)); refine blk_put (cs := #[.int .i64 (wrap64 ((Int.tmod a0 100000) + (Int.tmod a2 20000))), .int .i64 (wrap64 (7 + (Int.tmod a3 20000)))]) ?_ 0 _ rfl; (with_reducible repeat (first | refine blk_drewN ?_ _ | refine blk_drew ?_ | refine blk_alloc ?_ _)); refine blk_far ?_ NB147_146.out _; (with_reducible repeat (first | refine blk_drewN ?_ _ | refine blk_drew ?_ | refine blk_alloc ?_ _)); refine blk_far ?_ NB147_146.out _; (with_reducible repeat (first | refine blk_drewN ?_ _ | refine blk_drew ?_ | refine blk_alloc ?_ _)); refine blk_far ?_ NB147_145.out _; (with_reducible repeat (first | refine blk_drewN ?_ _ | refine blk_drew ?_ | refine blk_alloc ?_ _)); refine blk_far ?_ NB147_145.out _; (with_reducible repeat (first | refine blk_drewN ?_ _ | refine blk_drew ?_ | refine blk_alloc ?_ _)); exact BK147.out⟩, ⟨by repeat (first | (with_reducible first | exact HB.out | apply below_alloc | apply pw_below_drewN | apply below_drew1 | refine below_set ?_ GE145.out | refine below_set ?_ GE146.out | refine below_set ?_ GE147.out) | exact HB.out)⟩⟩
      · replace c22 := Bool.eq_false_iff.mpr c22
        subst c22
        have H1 : (glyphiclaw4_PlaneStraight.j0 k (wrap64 (t143 + 1)) (Int.tmod a2 20000) (Int.tmod a3 20000) t144 true (Int.tmod a0 100000) 7 (wrap64 ((Int.tmod a0 100000) + (wrap64 (t143 + 1)))) 7 (wrap64 ((Int.tmod a0 100000) + (Int.tmod a2 20000))) (wrap64 (7 + (Int.tmod a3 20000)))) = some r := by rw [if_neg (show ¬ (false = true) by decide)] at H; exact H
        clear H
        have H := H1
        clear H1
        have H' := Aside0.mk H
        clear H
        go_wp2
        go_meet
        case rel => exact ⟨_, (Int.tmod a0 100000), (7), (wrap64 ((Int.tmod a0 100000) + (wrap64 (t143 + 1)))), (7), (wrap64 ((Int.tmod a0 100000) + (Int.tmod a2 20000))), (wrap64 (7 + (Int.tmod a3 20000))), H', ⟨by first | omega | exact Nat.le_refl _⟩, ⟨by (with_reducible repeat (first | refine blk_drewN ?_ _ | refine blk_drew ?_ | refine blk_alloc ?_ _)); refine blk_far ?_ NB145_147.out _; (with_reducible repeat (first | refine blk_drewN ?_ _ | refine blk_drew ?_ | refine blk_alloc ?_ _)); refine blk_far ?_ NB145_147.out _; (with_reducible repeat (first | refine blk_drewN ?_ _ | refine blk_drew ?_ | refine blk_alloc ?_ _)); exact BK145.out⟩, ⟨by (with_reducible repeat (first | refine blk_drewN ?_ _ | refine blk_drew ?_ | refine blk_alloc ?_ _)); refine blk_far ?_ NB146_147.out _; (with_reducible repeat (first | refine blk_drewN ?_ _ | refine blk_drew ?_ | refine blk_alloc ?_ _)); refine blk_far ?_ NB146_147.out _; (with_reducible repeat (first | refine blk_drewN ?_ _ | refine blk_drew ?_ | refine blk_alloc ?_ _)); exact BK146.out⟩, ⟨by (with_reducible repeat (first | refine blk_drewN ?_ _ | refine blk_drew ?_ | refine blk_alloc ?_ _)); refine blk_put (cs := #[.int .i64 (wrap64 ((Int.tmod a0 100000) + (Int.tmod a2 20000))), .int .i64 0]) ?_ 1 _ rfl; (with_reducible repeat (first | refine blk_drewN ?_ _ | refine blk_drew ?_ | refine blk_alloc ?_ _)); refine blk_put (cs := #[.int .i64 0, .int .i64 0]) ?_ 0 _ rfl; (with_reducible repeat (first | refine blk_drewN ?_ _ | refine blk_drew ?_ | refine blk_alloc ?_ _)); exact BK147.out⟩, ⟨by repeat (first | (with_reducible first | exact HB.out | apply below_alloc | apply pw_below_drewN | apply below_drew1 | refine below_set ?_ GE145.out | refine below_set ?_ GE146.out | refine below_set ?_ GE147.out) | exact HB.out)⟩⟩
    case rest =>
      clear HC11
      try clear c1
      try clear c2
      try clear p2
      try clear c3
      try clear p6
      try clear c8
      try clear c10
      try clear c16
      try clear c19
      try clear c20
      try clear c22
      try clear c35
      try clear c36
      try clear hcz14_0
      try clear hcz14_1
      try clear hcz17_0
      try clear hcz17_1
      try clear hcz21_0
      try clear hcz21_1
      try clear hfz14_0
      try clear hfz14_1
      try clear hfz17_0
      try clear hfz17_1
      try clear hfz21_0
      try clear hfz21_1
      obtain ⟨kq, x146000_10, x146001_10, x147000_10, x147001_10, x148000_10, x148001_10, HA, HJ10, BK145, BK146, BK147, HB⟩ := hcut
      cases kq with
      | zero => exact absurd HA.out (by simp [glyphiclaw4_PlaneStraight.j0])
      | succ kj10 =>
        have H := HA.out
        clear HA
        simp only [glyphiclaw4_PlaneStraight.j0] at H
        by_cases c37 : (Int.tmod a2 20000) < 0
        · rw [if_pos c37] at H
          have c37b0 : decide ((Int.tmod a2 20000) < 0) = true := decide_eq_true c37
          clear c37
          by_cases c38 : (Int.tmod a2 20000) > (wrap64 (t143 + 1))
          · rw [if_pos c38] at H
            have c38b0 : decide ((wrap64 (t143 + 1)) < (Int.tmod a2 20000)) = true := decide_eq_true c38
            clear c38
            have H1 : ((plane_Near.f x146000_10 x146001_10 x147000_10 x147001_10 x148000_10 x148001_10 t144).bind fun t154 => (some (t154 == (decide ((wrap64 (4 * (wrap64 ((wrap64 ((wrap64 ((Int.tmod a2 20000) - (wrap64 (t143 + 1)))) * (wrap64 ((Int.tmod a2 20000) - (wrap64 (t143 + 1)))))) + (wrap64 ((Int.tmod a3 20000) * (Int.tmod a3 20000))))))) ≤ (wrap64 (t144 * t144))))))) = some r := by first | (rw [if_pos rfl] at H; exact H) | (rw [if_pos trivial] at H; exact H) | exact H
            clear H
            have H := H1
            clear H1
            replace H := Option.bind_eq_some_iff.mp H
            obtain ⟨t154, A390, H⟩ := H
            replace H : (some (t154 == (decide ((wrap64 (4 * (wrap64 ((wrap64 ((wrap64 ((Int.tmod a2 20000) - (wrap64 (t143 + 1)))) * (wrap64 ((Int.tmod a2 20000) - (wrap64 (t143 + 1)))))) + (wrap64 ((Int.tmod a3 20000) * (Int.tmod a3 20000))))))) ≤ (wrap64 (t144 * t144)))))) = some r := H
            have A39 := Aside0.mk A390
            clear A390
            obtain rfl := Option.some.inj H
            have hnb40 := NB145_146.out
            have hnc40 := NB146_145.out
            have hnb41 := NB145_147.out
            have hnc41 := NB147_145.out
            have hcz42_0 : wc.cell? ⟨gb145, 0, none⟩ = some (.int .i64 x146000_10) := (blk_cell BK145.out 0).trans rfl
            have hcz42_1 : wc.cell? ⟨gb145, 1, none⟩ = some (.int .i64 x146001_10) := (blk_cell BK145.out 1).trans rfl
            have hfz42_0 := blk_frozen BK145.out 0
            have hfz42_1 := blk_frozen BK145.out 1
            have hnb43 := NB146_147.out
            have hnc43 := NB147_146.out
            have hcz44_0 : wc.cell? ⟨gb146, 0, none⟩ = some (.int .i64 x147000_10) := (blk_cell BK146.out 0).trans rfl
            have hcz44_1 : wc.cell? ⟨gb146, 1, none⟩ = some (.int .i64 x147001_10) := (blk_cell BK146.out 1).trans rfl
            have hfz44_0 := blk_frozen BK146.out 0
            have hfz44_1 := blk_frozen BK146.out 1
            have hcz45_0 : wc.cell? ⟨gb147, 0, none⟩ = some (.int .i64 x148000_10) := (blk_cell BK147.out 0).trans rfl
            have hcz45_1 : wc.cell? ⟨gb147, 1, none⟩ = some (.int .i64 x148001_10) := (blk_cell BK147.out 1).trans rfl
            have hfz45_0 := blk_frozen BK147.out 0
            have hfz45_1 := blk_frozen BK147.out 1
            go_wp2_with (first | (go_at_call 38; (with_reducible refine (plane_Near.calls x146000_10 x146001_10 x147000_10 x147001_10 x148000_10 x148001_10 t144 t154 _ A39.out).mono ?_); rintro e w46 ⟨rfl, hb⟩; have n0_ := Aside0.mk (blk_below (g := gb145) (o := .cells #[.int .i64 x146000_10, .int .i64 x146001_10] 28 (0, 0)) (by (with_reducible repeat (first | refine blk_drewN ?_ _ | refine blk_drew ?_ | refine blk_alloc ?_ _)); exact BK145.out) hb); have n1_ := Aside0.mk (blk_below (g := gb146) (o := .cells #[.int .i64 x147000_10, .int .i64 x147001_10] 28 (0, 0)) (by (with_reducible repeat (first | refine blk_drewN ?_ _ | refine blk_drew ?_ | refine blk_alloc ?_ _)); exact BK146.out) hb); have n2_ := Aside0.mk (blk_below (g := gb147) (o := .cells #[.int .i64 x148000_10, .int .i64 x148001_10] 28 (0, 0)) (by (with_reducible repeat (first | refine blk_drewN ?_ _ | refine blk_drew ?_ | refine blk_alloc ?_ _)); exact BK147.out) hb); have n3_ := Aside0.mk (below_step (by repeat (first | (with_reducible first | exact HB.out | apply below_alloc | apply pw_below_drewN | apply below_drew1 | refine below_set ?_ GE145.out | refine below_set ?_ GE146.out | refine below_set ?_ GE147.out) | exact HB.out)) hb); clear BK145; clear BK146; clear BK147; clear HB; have BK145 := n0_; have BK146 := n1_; have BK147 := n2_; have HB := n3_; clear n0_ n1_ n2_ n3_; (try clear hb); (try clear hb2); (try clear hk); (try clear hi)))
            go_ret
            exact ⟨by first | rfl | (simp [errW_none, errW_some] <;> rfl) | (simp [*, errW_none, errW_some] <;> rfl), by repeat (first | (with_reducible first | exact HB.out | apply below_alloc | apply pw_below_drewN | apply below_drew1 | refine below_set ?_ GE145.out | refine below_set ?_ GE146.out | refine below_set ?_ GE147.out) | exact HB.out)⟩
          · rw [if_neg c38] at H
            have c38b0 : decide ((wrap64 (t143 + 1)) < (Int.tmod a2 20000)) = false := decide_eq_false c38
            clear c38
            have H1 : ((plane_Near.f x146000_10 x146001_10 x147000_10 x147001_10 x148000_10 x148001_10 t144).bind fun t155 => (some (t155 == (decide ((wrap64 (4 * (wrap64 ((wrap64 ((wrap64 (-(Int.tmod a2 20000))) * (wrap64 (-(Int.tmod a2 20000))))) + (wrap64 ((Int.tmod a3 20000) * (Int.tmod a3 20000))))))) ≤ (wrap64 (t144 * t144))))))) = some r := by first | (rw [if_pos rfl] at H; exact H) | (rw [if_pos trivial] at H; exact H) | exact H
            clear H
            have H := H1
            clear H1
            replace H := Option.bind_eq_some_iff.mp H
            obtain ⟨t155, A470, H⟩ := H
            replace H : (some (t155 == (decide ((wrap64 (4 * (wrap64 ((wrap64 ((wrap64 (-(Int.tmod a2 20000))) * (wrap64 (-(Int.tmod a2 20000))))) + (wrap64 ((Int.tmod a3 20000) * (Int.tmod a3 20000))))))) ≤ (wrap64 (t144 * t144)))))) = some r := H
            have A47 := Aside0.mk A470
            clear A470
            obtain rfl := Option.some.inj H
            have hnb48 := NB145_146.out
            have hnc48 := NB146_145.out
            have hnb49 := NB145_147.out
            have hnc49 := NB147_145.out
            have hcz50_0 : wc.cell? ⟨gb145, 0, none⟩ = some (.int .i64 x146000_10) := (blk_cell BK145.out 0).trans rfl
            have hcz50_1 : wc.cell? ⟨gb145, 1, none⟩ = some (.int .i64 x146001_10) := (blk_cell BK145.out 1).trans rfl
            have hfz50_0 := blk_frozen BK145.out 0
            have hfz50_1 := blk_frozen BK145.out 1
            have hnb51 := NB146_147.out
            have hnc51 := NB147_146.out
            have hcz52_0 : wc.cell? ⟨gb146, 0, none⟩ = some (.int .i64 x147000_10) := (blk_cell BK146.out 0).trans rfl
            have hcz52_1 : wc.cell? ⟨gb146, 1, none⟩ = some (.int .i64 x147001_10) := (blk_cell BK146.out 1).trans rfl
            have hfz52_0 := blk_frozen BK146.out 0
            have hfz52_1 := blk_frozen BK146.out 1
            have hcz53_0 : wc.cell? ⟨gb147, 0, none⟩ = some (.int .i64 x148000_10) := (blk_cell BK147.out 0).trans rfl
            have hcz53_1 : wc.cell? ⟨gb147, 1, none⟩ = some (.int .i64 x148001_10) := (blk_cell BK147.out 1).trans rfl
            have hfz53_0 := blk_frozen BK147.out 0
            have hfz53_1 := blk_frozen BK147.out 1
            go_wp2_with (first | (go_at_call 38; (with_reducible refine (plane_Near.calls x146000_10 x146001_10 x147000_10 x147001_10 x148000_10 x148001_10 t144 t155 _ A47.out).mono ?_); rintro e w54 ⟨rfl, hb⟩; have n0_ := Aside0.mk (blk_below (g := gb145) (o := .cells #[.int .i64 x146000_10, .int .i64 x146001_10] 28 (0, 0)) (by (with_reducible repeat (first | refine blk_drewN ?_ _ | refine blk_drew ?_ | refine blk_alloc ?_ _)); exact BK145.out) hb); have n1_ := Aside0.mk (blk_below (g := gb146) (o := .cells #[.int .i64 x147000_10, .int .i64 x147001_10] 28 (0, 0)) (by (with_reducible repeat (first | refine blk_drewN ?_ _ | refine blk_drew ?_ | refine blk_alloc ?_ _)); exact BK146.out) hb); have n2_ := Aside0.mk (blk_below (g := gb147) (o := .cells #[.int .i64 x148000_10, .int .i64 x148001_10] 28 (0, 0)) (by (with_reducible repeat (first | refine blk_drewN ?_ _ | refine blk_drew ?_ | refine blk_alloc ?_ _)); exact BK147.out) hb); have n3_ := Aside0.mk (below_step (by repeat (first | (with_reducible first | exact HB.out | apply below_alloc | apply pw_below_drewN | apply below_drew1 | refine below_set ?_ GE145.out | refine below_set ?_ GE146.out | refine below_set ?_ GE147.out) | exact HB.out)) hb); clear BK145; clear BK146; clear BK147; clear HB; have BK145 := n0_; have BK146 := n1_; have BK147 := n2_; have HB := n3_; clear n0_ n1_ n2_ n3_; (try clear hb); (try clear hb2); (try clear hk); (try clear hi)))
            go_ret
            exact ⟨by first | rfl | (simp [errW_none, errW_some] <;> rfl) | (simp [*, errW_none, errW_some] <;> rfl), by repeat (first | (with_reducible first | exact HB.out | apply below_alloc | apply pw_below_drewN | apply below_drew1 | refine below_set ?_ GE145.out | refine below_set ?_ GE146.out | refine below_set ?_ GE147.out) | exact HB.out)⟩
        · rw [if_neg c37] at H
          have c37b0 : decide ((Int.tmod a2 20000) < 0) = false := decide_eq_false c37
          clear c37
          by_cases c55 : (Int.tmod a2 20000) > (wrap64 (t143 + 1))
          · rw [if_pos c55] at H
            have c55b0 : decide ((wrap64 (t143 + 1)) < (Int.tmod a2 20000)) = true := decide_eq_true c55
            clear c55
            have H1 : ((plane_Near.f x146000_10 x146001_10 x147000_10 x147001_10 x148000_10 x148001_10 t144).bind fun t156 => (some (t156 == (decide ((wrap64 (4 * (wrap64 ((wrap64 ((wrap64 ((Int.tmod a2 20000) - (wrap64 (t143 + 1)))) * (wrap64 ((Int.tmod a2 20000) - (wrap64 (t143 + 1)))))) + (wrap64 ((Int.tmod a3 20000) * (Int.tmod a3 20000))))))) ≤ (wrap64 (t144 * t144))))))) = some r := by first | (rw [if_pos rfl] at H; exact H) | (rw [if_pos trivial] at H; exact H) | exact H
            clear H
            have H := H1
            clear H1
            replace H := Option.bind_eq_some_iff.mp H
            obtain ⟨t156, A560, H⟩ := H
            replace H : (some (t156 == (decide ((wrap64 (4 * (wrap64 ((wrap64 ((wrap64 ((Int.tmod a2 20000) - (wrap64 (t143 + 1)))) * (wrap64 ((Int.tmod a2 20000) - (wrap64 (t143 + 1)))))) + (wrap64 ((Int.tmod a3 20000) * (Int.tmod a3 20000))))))) ≤ (wrap64 (t144 * t144)))))) = some r := H
            have A56 := Aside0.mk A560
            clear A560
            obtain rfl := Option.some.inj H
            have hnb57 := NB145_146.out
            have hnc57 := NB146_145.out
            have hnb58 := NB145_147.out
            have hnc58 := NB147_145.out
            have hcz59_0 : wc.cell? ⟨gb145, 0, none⟩ = some (.int .i64 x146000_10) := (blk_cell BK145.out 0).trans rfl
            have hcz59_1 : wc.cell? ⟨gb145, 1, none⟩ = some (.int .i64 x146001_10) := (blk_cell BK145.out 1).trans rfl
            have hfz59_0 := blk_frozen BK145.out 0
            have hfz59_1 := blk_frozen BK145.out 1
            have hnb60 := NB146_147.out
            have hnc60 := NB147_146.out
            have hcz61_0 : wc.cell? ⟨gb146, 0, none⟩ = some (.int .i64 x147000_10) := (blk_cell BK146.out 0).trans rfl
            have hcz61_1 : wc.cell? ⟨gb146, 1, none⟩ = some (.int .i64 x147001_10) := (blk_cell BK146.out 1).trans rfl
            have hfz61_0 := blk_frozen BK146.out 0
            have hfz61_1 := blk_frozen BK146.out 1
            have hcz62_0 : wc.cell? ⟨gb147, 0, none⟩ = some (.int .i64 x148000_10) := (blk_cell BK147.out 0).trans rfl
            have hcz62_1 : wc.cell? ⟨gb147, 1, none⟩ = some (.int .i64 x148001_10) := (blk_cell BK147.out 1).trans rfl
            have hfz62_0 := blk_frozen BK147.out 0
            have hfz62_1 := blk_frozen BK147.out 1
            go_wp2_with (first | (go_at_call 38; (with_reducible refine (plane_Near.calls x146000_10 x146001_10 x147000_10 x147001_10 x148000_10 x148001_10 t144 t156 _ A56.out).mono ?_); rintro e w63 ⟨rfl, hb⟩; have n0_ := Aside0.mk (blk_below (g := gb145) (o := .cells #[.int .i64 x146000_10, .int .i64 x146001_10] 28 (0, 0)) (by (with_reducible repeat (first | refine blk_drewN ?_ _ | refine blk_drew ?_ | refine blk_alloc ?_ _)); exact BK145.out) hb); have n1_ := Aside0.mk (blk_below (g := gb146) (o := .cells #[.int .i64 x147000_10, .int .i64 x147001_10] 28 (0, 0)) (by (with_reducible repeat (first | refine blk_drewN ?_ _ | refine blk_drew ?_ | refine blk_alloc ?_ _)); exact BK146.out) hb); have n2_ := Aside0.mk (blk_below (g := gb147) (o := .cells #[.int .i64 x148000_10, .int .i64 x148001_10] 28 (0, 0)) (by (with_reducible repeat (first | refine blk_drewN ?_ _ | refine blk_drew ?_ | refine blk_alloc ?_ _)); exact BK147.out) hb); have n3_ := Aside0.mk (below_step (by repeat (first | (with_reducible first | exact HB.out | apply below_alloc | apply pw_below_drewN | apply below_drew1 | refine below_set ?_ GE145.out | refine below_set ?_ GE146.out | refine below_set ?_ GE147.out) | exact HB.out)) hb); clear BK145; clear BK146; clear BK147; clear HB; have BK145 := n0_; have BK146 := n1_; have BK147 := n2_; have HB := n3_; clear n0_ n1_ n2_ n3_; (try clear hb); (try clear hb2); (try clear hk); (try clear hi)))
            go_ret
            exact ⟨by first | rfl | (simp [errW_none, errW_some] <;> rfl) | (simp [*, errW_none, errW_some] <;> rfl), by repeat (first | (with_reducible first | exact HB.out | apply below_alloc | apply pw_below_drewN | apply below_drew1 | refine below_set ?_ GE145.out | refine below_set ?_ GE146.out | refine below_set ?_ GE147.out) | exact HB.out)⟩
          · rw [if_neg c55] at H
            have c55b0 : decide ((wrap64 (t143 + 1)) < (Int.tmod a2 20000)) = false := decide_eq_false c55
            clear c55
            have H1 : ((plane_Near.f x146000_10 x146001_10 x147000_10 x147001_10 x148000_10 x148001_10 t144).bind fun t157 => (some (t157 == (decide ((wrap64 (4 * (wrap64 ((0 * 0) + (wrap64 ((Int.tmod a3 20000) * (Int.tmod a3 20000))))))) ≤ (wrap64 (t144 * t144))))))) = some r := by first | (rw [if_pos rfl] at H; exact H) | (rw [if_pos trivial] at H; exact H) | exact H
            clear H
            have H := H1
            clear H1
            replace H := Option.bind_eq_some_iff.mp H
            obtain ⟨t157, A640, H⟩ := H
            replace H : (some (t157 == (decide ((wrap64 (4 * (wrap64 ((0 * 0) + (wrap64 ((Int.tmod a3 20000) * (Int.tmod a3 20000))))))) ≤ (wrap64 (t144 * t144)))))) = some r := H
            have A64 := Aside0.mk A640
            clear A640
            obtain rfl := Option.some.inj H
            have hnb65 := NB145_146.out
            have hnc65 := NB146_145.out
            have hnb66 := NB145_147.out
            have hnc66 := NB147_145.out
            have hcz67_0 : wc.cell? ⟨gb145, 0, none⟩ = some (.int .i64 x146000_10) := (blk_cell BK145.out 0).trans rfl
            have hcz67_1 : wc.cell? ⟨gb145, 1, none⟩ = some (.int .i64 x146001_10) := (blk_cell BK145.out 1).trans rfl
            have hfz67_0 := blk_frozen BK145.out 0
            have hfz67_1 := blk_frozen BK145.out 1
            have hnb68 := NB146_147.out
            have hnc68 := NB147_146.out
            have hcz69_0 : wc.cell? ⟨gb146, 0, none⟩ = some (.int .i64 x147000_10) := (blk_cell BK146.out 0).trans rfl
            have hcz69_1 : wc.cell? ⟨gb146, 1, none⟩ = some (.int .i64 x147001_10) := (blk_cell BK146.out 1).trans rfl
            have hfz69_0 := blk_frozen BK146.out 0
            have hfz69_1 := blk_frozen BK146.out 1
            have hcz70_0 : wc.cell? ⟨gb147, 0, none⟩ = some (.int .i64 x148000_10) := (blk_cell BK147.out 0).trans rfl
            have hcz70_1 : wc.cell? ⟨gb147, 1, none⟩ = some (.int .i64 x148001_10) := (blk_cell BK147.out 1).trans rfl
            have hfz70_0 := blk_frozen BK147.out 0
            have hfz70_1 := blk_frozen BK147.out 1
            go_wp2_with (first | (go_at_call 38; (with_reducible refine (plane_Near.calls x146000_10 x146001_10 x147000_10 x147001_10 x148000_10 x148001_10 t144 t157 _ A64.out).mono ?_); rintro e w71 ⟨rfl, hb⟩; have n0_ := Aside0.mk (blk_below (g := gb145) (o := .cells #[.int .i64 x146000_10, .int .i64 x146001_10] 28 (0, 0)) (by (with_reducible repeat (first | refine blk_drewN ?_ _ | refine blk_drew ?_ | refine blk_alloc ?_ _)); exact BK145.out) hb); have n1_ := Aside0.mk (blk_below (g := gb146) (o := .cells #[.int .i64 x147000_10, .int .i64 x147001_10] 28 (0, 0)) (by (with_reducible repeat (first | refine blk_drewN ?_ _ | refine blk_drew ?_ | refine blk_alloc ?_ _)); exact BK146.out) hb); have n2_ := Aside0.mk (blk_below (g := gb147) (o := .cells #[.int .i64 x148000_10, .int .i64 x148001_10] 28 (0, 0)) (by (with_reducible repeat (first | refine blk_drewN ?_ _ | refine blk_drew ?_ | refine blk_alloc ?_ _)); exact BK147.out) hb); have n3_ := Aside0.mk (below_step (by repeat (first | (with_reducible first | exact HB.out | apply below_alloc | apply pw_below_drewN | apply below_drew1 | refine below_set ?_ GE145.out | refine below_set ?_ GE146.out | refine below_set ?_ GE147.out) | exact HB.out)) hb); clear BK145; clear BK146; clear BK147; clear HB; have BK145 := n0_; have BK146 := n1_; have BK147 := n2_; have HB := n3_; clear n0_ n1_ n2_ n3_; (try clear hb); (try clear hb2); (try clear hk); (try clear hi)))
            go_ret
            exact ⟨by first | rfl | (simp [errW_none, errW_some] <;> rfl) | (simp [*, errW_none, errW_some] <;> rfl), by repeat (first | (with_reducible first | exact HB.out | apply below_alloc | apply pw_below_drewN | apply below_drew1 | refine below_set ?_ GE145.out | refine below_set ?_ GE146.out | refine below_set ?_ GE147.out) | exact HB.out)⟩
  · replace c8 := Bool.eq_false_iff.mpr c8
    subst c8
    have H1 : (some false) = some r := by rw [if_neg (show ¬ (false = true) by decide)] at H; exact H
    clear H
    have H := H1
    clear H1
    exact absurd ((Option.some.inj H).trans hr0_.out) (by decide)

/-- THE ONE PURE STATEMENT of glyphiclaw4_PlaneStraight: yours. -/
def glyphiclaw4_PlaneStraight.Pure : Prop := ∀ (a0 : Int) (a1 : Int) (a2 : Int) (a3 : Int) (a4 : Int) (a5 : Bool), (Lit.int .i64 a0).wf = true → (Lit.int .i64 a1).wf = true → (Lit.int .i64 a2).wf = true → (Lit.int .i64 a3).wf = true → (Lit.int .i64 a4).wf = true → ∃ k, glyphiclaw4_PlaneStraight.f k a0 a1 a2 a3 a4 a5 = some true
theorem glyphiclaw4_PlaneStraight.walk (P : glyphiclaw4_PlaneStraight.Pure) (a0 : Int) (a1 : Int) (a2 : Int) (a3 : Int) (a4 : Int) (a5 : Bool) (w : World) (w0 : (Lit.int .i64 a0).wf = true) (w1 : (Lit.int .i64 a1).wf = true) (w2 : (Lit.int .i64 a2).wf = true) (w3 : (Lit.int .i64 a3).wf = true) (w4 : (Lit.int .i64 a4).wf = true) :
    Calls Try.prog 10 #[.int .i64 a0, .int .i64 a1, .int .i64 a2, .int .i64 a3, .int .i64 a4, .bool a5] w fun e w' => e = .returned (.bool true) ∧ Below w.heap.size w w' := by
  obtain ⟨k, h⟩ := P a0 a1 a2 a3 a4 a5 w0 w1 w2 w3 w4
  refine (glyphiclaw4_PlaneStraight.calls k a0 a1 a2 a3 a4 a5 true w (Aside0.mk rfl) h).mono ?_
  rintro e w' ⟨rfl, hd⟩
  exact ⟨rfl, hd⟩

end Go.Proofs.Ytgaikembekkfiaa.QPlaneStraight
