/- Functions of the program as Lean functions, each with the proof of its walk. Written by gen.py, a program of these sessions. -/
import Derived.Test.YtijjgmkhgcofiaaQStrokeDotsx0
namespace Go.Proofs.Ytijjgmkhgcofiaa.QStrokeDots
open Go Go.RowKit Go.Proofs.YtijjgmkhgcofiaaE Go.Proofs.YtijjgmkhgcofiaaX
set_option linter.unusedVariables false
set_option maxRecDepth 100000
set_option maxHeartbeats 8000000
/-- stroke.Box -/
def c18 : C :=
  (.seq (.reg [⟨(some 4), .new [(.int .i64 0), (.int .i64 0)], none⟩,
     ⟨(some 5), .new [(.int .i64 0), (.int .i64 0)], none⟩,
     ⟨(some 6), .mv (.const (.bool false)), none⟩])
  (.seq (.seq (.reg [⟨(some 14), .mv (.tmp 0), none⟩,
      ⟨(some 15), .lns (.tmp 14), none⟩,
      ⟨(some 16), .bin .eql (.tmp 15) (.const (.int .i64 0)), none⟩])
   (.cond (.tmp 16)
    (.seq (.reg [⟨(some 17), .bld [(.int .i64 0), (.int .i64 0)] [], none⟩,
        ⟨(some 18), .bld [(.int .i64 0), (.int .i64 0)] [], none⟩,
        ⟨none, .st 2 (.tmp 4) (.tmp 17), none⟩,
        ⟨none, .st 2 (.tmp 5) (.tmp 18), none⟩,
        ⟨(some 6), .mv (.const (.bool false)), none⟩])
     .ret)
    .skip))
  (.seq (.drw [⟨(some 19), .mv (.tmp 0), none⟩,
     ⟨(some 20), .ixs 4 (.tmp 19) (.const (.int .i64 0)), none⟩,
     ⟨(some 21), .pad 0 (.tmp 20), none⟩,
     ⟨(some 22), .ld (some 2) (.tmp 21), none⟩,
     ⟨(some 23), .mv (.tmp 0), none⟩,
     ⟨(some 24), .ixs 4 (.tmp 23) (.const (.int .i64 0)), none⟩,
     ⟨(some 25), .pad 0 (.tmp 24), none⟩,
     ⟨(some 26), .ld (some 2) (.tmp 25), none⟩,
     ⟨(some 7), .new [(.int .i64 0), (.int .i64 0)], none⟩,
     ⟨(some 8), .new [(.int .i64 0), (.int .i64 0)], none⟩,
     ⟨none, .st 2 (.tmp 7) (.tmp 22), none⟩,
     ⟨none, .st 2 (.tmp 8) (.tmp 26), none⟩] [[], [0], [1], [2], [], [4], [5], [6], [], [], [8, 3, 0, 1, 2, 3, 8, 9], [9, 7, 10, 0, 1, 2, 3, 4, 5, 6, 7, 8, 9, 10]])
  (.seq (.seq (.reg [⟨(some 27), .mv (.tmp 0), none⟩,
      ⟨(some 28), .lns (.tmp 27), none⟩,
      ⟨(some 29), .mv (.const (.int .i64 0)), none⟩])
   (.block 0 (.loop (.seq (.reg [⟨(some 30), .bin .lss (.tmp 29) (.tmp 28), none⟩])
     (.seq (.cond (.tmp 30)
       .skip
       (.exit 0))
     (.seq (.block 1 (.seq (.reg [⟨(some 31), .ixs 4 (.tmp 27) (.tmp 29), none⟩,
          ⟨(some 32), .ld (some 4) (.tmp 31), none⟩,
          ⟨(some 10), .new [(.int .i64 0), (.int .i64 0), (.int .i64 0), (.int .i64 0)], none⟩,
          ⟨none, .st 4 (.tmp 10) (.tmp 32), none⟩])
       (.seq (.reg [⟨(some 33), .pad 0 (.tmp 10), none⟩,
          ⟨(some 34), .ld (some 2) (.tmp 33), none⟩,
          ⟨(some 35), .pad 2 (.tmp 10), none⟩,
          ⟨(some 36), .ld (some 2) (.tmp 35), none⟩,
          ⟨(some 37), .bld [(.int .i64 0), (.int .i64 0), (.int .i64 0), (.int .i64 0)] [(0, 2, (.tmp 34)), (2, 2, (.tmp 36))], none⟩,
          ⟨(some 38), .mv (.const (.int .i64 0)), none⟩])
       (.block 2 (.loop (.seq (.reg [⟨(some 39), .bin .lss (.tmp 38) (.const (.int .i64 2)), none⟩])
         (.seq (.cond (.tmp 39)
           .skip
           (.exit 2))
         (.seq (.block 3 (.seq (.reg [⟨(some 40), .ixv (some 2) 2 2 (.tmp 37) (.tmp 38), none⟩,
              ⟨(some 12), .new [(.int .i64 0), (.int .i64 0)], none⟩,
              ⟨none, .st 2 (.tmp 12) (.tmp 40), none⟩])
           (.seq (.reg [⟨(some 41), .pad 0 (.tmp 7), none⟩,
              ⟨(some 42), .ld none (.tmp 41), none⟩,
              ⟨(some 43), .pad 0 (.tmp 12), none⟩,
              ⟨(some 44), .ld none (.tmp 43), none⟩,
              ⟨(some 45), .mm false [(.tmp 42), (.tmp 44)], none⟩,
              ⟨(some 46), .pad 1 (.tmp 7), none⟩,
              ⟨(some 47), .ld none (.tmp 46), none⟩,
              ⟨(some 48), .pad 1 (.tmp 12), none⟩,
              ⟨(some 49), .ld none (.tmp 48), none⟩,
              ⟨(some 50), .mm false [(.tmp 47), (.tmp 49)], none⟩,
              ⟨(some 51), .bld [(.int .i64 0), (.int .i64 0)] [(0, 1, (.tmp 45)), (1, 1, (.tmp 50))], none⟩,
              ⟨none, .st 2 (.tmp 7) (.tmp 51), none⟩])
           (.reg [⟨(some 52), .pad 0 (.tmp 8), none⟩,
             ⟨(some 53), .ld none (.tmp 52), none⟩,
             ⟨(some 54), .pad 0 (.tmp 12), none⟩,
             ⟨(some 55), .ld none (.tmp 54), none⟩,
             ⟨(some 56), .mm true [(.tmp 53), (.tmp 55)], none⟩,
             ⟨(some 57), .pad 1 (.tmp 8), none⟩,
             ⟨(some 58), .ld none (.tmp 57), none⟩,
             ⟨(some 59), .pad 1 (.tmp 12), none⟩,
             ⟨(some 60), .ld none (.tmp 59), none⟩,
             ⟨(some 61), .mm true [(.tmp 58), (.tmp 60)], none⟩,
             ⟨(some 62), .bld [(.int .i64 0), (.int .i64 0)] [(0, 1, (.tmp 56)), (1, 1, (.tmp 61))], none⟩,
             ⟨none, .st 2 (.tmp 8) (.tmp 62), none⟩]))))
         (.reg [⟨(some 63), .bin .add (.tmp 38) (.const (.int .i64 1)), none⟩,
           ⟨(some 38), .mv (.tmp 63), none⟩])))))))))
     (.reg [⟨(some 64), .bin .add (.tmp 29) (.const (.int .i64 1)), none⟩,
       ⟨(some 29), .mv (.tmp 64), none⟩])))))))
  (.seq (.reg [⟨(some 65), .mv (.tmp 1), none⟩,
     ⟨(some 66), .bin .add (.tmp 65) (.const (.int .i64 1)), none⟩,
     ⟨(some 67), .bin .quo (.tmp 66) (.const (.int .i64 2)), none⟩,
     ⟨(some 13), .mv (.tmp 67), none⟩])
  (.seq (.drw [⟨(some 68), .pad 0 (.tmp 7), none⟩,
     ⟨(some 69), .ld none (.tmp 68), none⟩,
     ⟨(some 70), .mv (.tmp 13), none⟩,
     ⟨(some 71), .bin .sub (.tmp 69) (.tmp 70), none⟩,
     ⟨(some 72), .pad 1 (.tmp 7), none⟩,
     ⟨(some 73), .ld none (.tmp 72), none⟩,
     ⟨(some 74), .mv (.tmp 13), none⟩,
     ⟨(some 75), .bin .sub (.tmp 73) (.tmp 74), none⟩,
     ⟨(some 76), .bld [(.int .i64 0), (.int .i64 0)] [(0, 1, (.tmp 71)), (1, 1, (.tmp 75))], none⟩,
     ⟨(some 77), .pad 0 (.tmp 8), none⟩,
     ⟨(some 78), .ld none (.tmp 77), none⟩,
     ⟨(some 79), .mv (.tmp 13), none⟩,
     ⟨(some 80), .bin .add (.tmp 78) (.tmp 79), none⟩,
     ⟨(some 81), .pad 1 (.tmp 8), none⟩,
     ⟨(some 82), .ld none (.tmp 81), none⟩,
     ⟨(some 83), .mv (.tmp 13), none⟩,
     ⟨(some 84), .bin .add (.tmp 82) (.tmp 83), none⟩,
     ⟨(some 85), .bld [(.int .i64 0), (.int .i64 0)] [(0, 1, (.tmp 80)), (1, 1, (.tmp 84))], none⟩,
     ⟨none, .st 2 (.tmp 4) (.tmp 76), none⟩,
     ⟨none, .st 2 (.tmp 5) (.tmp 85), none⟩,
     ⟨(some 6), .mv (.const (.bool true)), none⟩] [[], [0], [], [1, 2], [], [4], [], [5, 6], [3, 7], [], [9], [], [10, 11], [], [13], [], [14, 15], [12, 16], [8, 0, 1, 2, 3, 4, 5, 6, 7, 8], [17, 18, 0, 1, 2, 3, 4, 5, 6, 7, 8, 9, 10, 11, 12, 13, 14, 15, 16, 17, 18], [19, 0, 1, 2, 3, 4, 5, 6, 7, 8, 9, 10, 11, 12, 13, 14, 15, 16, 17, 18, 19]])
  .ret))))))
def stroke_Box_v1.f (w1 : Int) (m0_0 : Int) (m0_1 : Int) (m0_2 : Int) (m0_3 : Int) : Option (Int × Int × Int × Int × Bool) := some (wr64 ((mn (mn m0_0 m0_0) m0_2) - (wr64 (Int.tdiv (wr64 (w1 + 1)) 2))), wr64 ((mn (mn m0_1 m0_1) m0_3) - (wr64 (Int.tdiv (wr64 (w1 + 1)) 2))), wr64 ((mx (mx m0_0 m0_0) m0_2) + (wr64 (Int.tdiv (wr64 (w1 + 1)) 2))), wr64 ((mx (mx m0_1 m0_1) m0_3) + (wr64 (Int.tdiv (wr64 (w1 + 1)) 2))), true)
theorem stroke_Box_v1.ok {S : Seal} {B0 : Nat} {w1 : Int} {m0_0 : Int} {m0_1 : Int} {m0_2 : Int} {m0_3 : Int} {r0_ : Int} {r1_ : Int} {r2_ : Int} {r3_ : Int} {r4_ : Bool} (e : stroke_Box_v1.f w1 m0_0 m0_1 m0_2 m0_3 = some (r0_, r1_, r2_, r3_, r4_)) :
    Cal Try.prog 18 [.slice (some ⟨B0, 0, none⟩) 1 1, .int .i64 w1] ([⟨B0, [.int .i64 m0_0, .int .i64 m0_1, .int .i64 m0_2, .int .i64 m0_3], 4⟩] : List Own) S fun v H' S' => v = .tuple #[.agg #[.int .i64 r0_, .int .i64 r1_], .agg #[.int .i64 r2_, .int .i64 r3_], .bool r4_] ∧ H' = ([⟨B0, [.int .i64 m0_0, .int .i64 m0_1, .int .i64 m0_2, .int .i64 m0_3], 4⟩] : List Own) ∧ S' = S := by
  unfold stroke_Box_v1.f at e
  refine cal_of (c := c18) (N := 86) Try.func18 rfl rfl (by kernel_rfl) (rs := [.cn 2 4, .cn 2 5, .t 6]) (by kernel_rfl) (Nat.le_of_ble_eq_true rfl) ?_
  unfold c18
  refine w_seq ?_
  refine w_reg fun all => ?_
  refine t_a (.new rfl rfl) fun b39 fb39 sb39 => ?_
  refine t_a (.new rfl rfl) fun b40 fb40 sb40 => ?_
  refine t_qz 1 [0, 1, 4, 5] (σ' := [(0, .slice (some ⟨B0, 0, none⟩) 1 1), (1, .int .i64 w1), (4, .pointer (some ⟨b39, 0, none⟩)), (5, .pointer (some ⟨b40, 0, none⟩))]) (by kernel_rfl) ?_
  refine t_end ?_
  show W _ _ _ _ _ _ _
  refine w_seq ?_
  refine w_seq ?_
  refine w_reg fun all => ?_
  refine t_qz 3 [0, 1, 4, 5, 16] (σ' := [(0, .slice (some ⟨B0, 0, none⟩) 1 1), (1, .int .i64 w1), (4, .pointer (some ⟨b39, 0, none⟩)), (5, .pointer (some ⟨b40, 0, none⟩)), (16, .bool false)]) (by kernel_rfl) ?_
  refine t_end ?_
  show W _ _ _ _ _ _ _
  refine w_cond rfl (fun c_ => by cases c_) (fun _ => ?_)
  show W _ _ _ _ _ _ _
  refine w_skip ?_
  show W _ _ _ _ _ _ _
  refine w_seq ?_
  refine w_kp [0, 1, 4, 5] (σ' := [(0, .slice (some ⟨B0, 0, none⟩) 1 1), (1, .int .i64 w1), (4, .pointer (some ⟨b39, 0, none⟩)), (5, .pointer (some ⟨b40, 0, none⟩))]) (by kernel_rfl) ?_
  refine w_gameQ mixed (by kernel_rfl) fun all G hend hstep hqf => ?_
  have hg_fff : ∀ (g42 g41 : Nat), G [true, true, true, true, true, true, true, true, true, true, true, true] [(0, .slice (some ⟨B0, 0, none⟩) 1 1), (1, .int .i64 w1), (4, .pointer (some ⟨b39, 0, none⟩)), (5, .pointer (some ⟨b40, 0, none⟩)), (7, .pointer (some ⟨g41, 0, none⟩)), (8, .pointer (some ⟨g42, 0, none⟩))] ([⟨g42, [.int .i64 m0_0, .int .i64 m0_1], 2⟩, ⟨g41, [.int .i64 m0_0, .int .i64 m0_1], 2⟩, ⟨b40, [.int .i64 0, .int .i64 0], 2⟩, ⟨b39, [.int .i64 0, .int .i64 0], 2⟩, ⟨B0, [.int .i64 m0_0, .int .i64 m0_1, .int .i64 m0_2, .int .i64 m0_3], 4⟩] : List Own) := by
    intro g42 g41
    refine hend _ _ _ (by kernel_rfl) ?_
    show W _ _ _ _ _ _ _
    refine w_seq ?_
    refine w_seq ?_
    refine w_reg fun all => ?_
    refine t_qz 3 [1, 4, 5, 7, 8, 27, 28, 29] (σ' := [(1, .int .i64 w1), (4, .pointer (some ⟨b39, 0, none⟩)), (5, .pointer (some ⟨b40, 0, none⟩)), (7, .pointer (some ⟨g41, 0, none⟩)), (8, .pointer (some ⟨g42, 0, none⟩)), (27, .slice (some ⟨B0, 0, none⟩) 1 1), (28, .int .i64 1), (29, .int .i64 0)]) (by kernel_rfl) ?_
    refine t_end ?_
    show W _ _ _ _ _ _ _
    refine w_block ?_
    refine w_lun 10 ?_
    refine wl_step ?_
    refine w_seq ?_
    refine w_reg fun all => ?_
    refine t_qz 1 [1, 4, 5, 7, 8, 27, 28, 29, 30] (σ' := [(1, .int .i64 w1), (4, .pointer (some ⟨b39, 0, none⟩)), (5, .pointer (some ⟨b40, 0, none⟩)), (7, .pointer (some ⟨g41, 0, none⟩)), (8, .pointer (some ⟨g42, 0, none⟩)), (27, .slice (some ⟨B0, 0, none⟩) 1 1), (28, .int .i64 1), (29, .int .i64 0), (30, .bool true)]) (by kernel_rfl) ?_
    refine t_end ?_
    show W _ _ _ _ _ _ _
    refine w_seq ?_
    refine w_cond rfl (fun _ => ?_) (fun c_ => by cases c_)
    show W _ _ _ _ _ _ _
    refine w_skip ?_
    show W _ _ _ _ _ _ _
    refine w_seq ?_
    refine w_block ?_
    refine w_seq ?_
    refine w_reg fun all => ?_
    refine t_qz 1 [1, 4, 5, 7, 8, 27, 28, 29, 31] (σ' := [(1, .int .i64 w1), (4, .pointer (some ⟨b39, 0, none⟩)), (5, .pointer (some ⟨b40, 0, none⟩)), (7, .pointer (some ⟨g41, 0, none⟩)), (8, .pointer (some ⟨g42, 0, none⟩)), (27, .slice (some ⟨B0, 0, none⟩) 1 1), (28, .int .i64 1), (29, .int .i64 0), (31, .pointer (some ⟨B0, 0, none⟩))]) (by kernel_rfl) ?_
    refine t_v (.ldn rfl rfl rfl (.at 4 rfl rfl)) ?_
    refine t_a (.new rfl rfl) fun b43 fb43 sb43 => ?_
    refine t_sti 0 (cs := [.int .i64 m0_0, .int .i64 m0_1, .int .i64 m0_2, .int .i64 m0_3]) rfl rfl rfl rfl rfl rfl rfl rfl rfl ?_
    refine t_keep [1, 4, 5, 7, 8, 10, 27, 28, 29] (σ' := [(1, .int .i64 w1), (4, .pointer (some ⟨b39, 0, none⟩)), (5, .pointer (some ⟨b40, 0, none⟩)), (7, .pointer (some ⟨g41, 0, none⟩)), (8, .pointer (some ⟨g42, 0, none⟩)), (10, .pointer (some ⟨b43, 0, none⟩)), (27, .slice (some ⟨B0, 0, none⟩) 1 1), (28, .int .i64 1), (29, .int .i64 0)]) (by kernel_rfl) ?_
    refine t_end ?_
    show W _ _ _ _ _ _ _
    refine w_seq ?_
    refine w_reg fun all => ?_
    refine t_qz 1 [1, 4, 5, 7, 8, 10, 27, 28, 29, 33] (σ' := [(1, .int .i64 w1), (4, .pointer (some ⟨b39, 0, none⟩)), (5, .pointer (some ⟨b40, 0, none⟩)), (7, .pointer (some ⟨g41, 0, none⟩)), (8, .pointer (some ⟨g42, 0, none⟩)), (10, .pointer (some ⟨b43, 0, none⟩)), (27, .slice (some ⟨B0, 0, none⟩) 1 1), (28, .int .i64 1), (29, .int .i64 0), (33, .pointer (some ⟨b43, 0, none⟩))]) (by kernel_rfl) ?_
    refine t_v (.ldn rfl rfl rfl (.at 0 rfl rfl)) ?_
    refine t_qz 1 [1, 4, 5, 7, 8, 27, 28, 29, 34, 35] (σ' := [(1, .int .i64 w1), (4, .pointer (some ⟨b39, 0, none⟩)), (5, .pointer (some ⟨b40, 0, none⟩)), (7, .pointer (some ⟨g41, 0, none⟩)), (8, .pointer (some ⟨g42, 0, none⟩)), (27, .slice (some ⟨B0, 0, none⟩) 1 1), (28, .int .i64 1), (29, .int .i64 0), (34, .agg #[.int .i64 m0_0, .int .i64 m0_1]), (35, .pointer (some ⟨b43, 2, none⟩))]) (by kernel_rfl) ?_
    refine t_v (.ldn rfl rfl rfl (.at 0 rfl rfl)) ?_
    refine t_qz 2 [1, 4, 5, 7, 8, 27, 28, 29, 37, 38] (σ' := [(1, .int .i64 w1), (4, .pointer (some ⟨b39, 0, none⟩)), (5, .pointer (some ⟨b40, 0, none⟩)), (7, .pointer (some ⟨g41, 0, none⟩)), (8, .pointer (some ⟨g42, 0, none⟩)), (27, .slice (some ⟨B0, 0, none⟩) 1 1), (28, .int .i64 1), (29, .int .i64 0), (37, .agg #[.int .i64 m0_0, .int .i64 m0_1, .int .i64 m0_2, .int .i64 m0_3]), (38, .int .i64 0)]) (by kernel_rfl) ?_
    refine t_end ?_
    show W _ _ _ _ _ _ _
    refine w_block ?_
    refine w_lun 10 ?_
    refine wl_step ?_
    refine w_seq ?_
    refine w_reg fun all => ?_
    refine t_qz 1 [1, 4, 5, 7, 8, 27, 28, 29, 37, 38, 39] (σ' := [(1, .int .i64 w1), (4, .pointer (some ⟨b39, 0, none⟩)), (5, .pointer (some ⟨b40, 0, none⟩)), (7, .pointer (some ⟨g41, 0, none⟩)), (8, .pointer (some ⟨g42, 0, none⟩)), (27, .slice (some ⟨B0, 0, none⟩) 1 1), (28, .int .i64 1), (29, .int .i64 0), (37, .agg #[.int .i64 m0_0, .int .i64 m0_1, .int .i64 m0_2, .int .i64 m0_3]), (38, .int .i64 0), (39, .bool true)]) (by kernel_rfl) ?_
    refine t_end ?_
    show W _ _ _ _ _ _ _
    refine w_seq ?_
    refine w_cond rfl (fun _ => ?_) (fun c_ => by cases c_)
    show W _ _ _ _ _ _ _
    refine w_skip ?_
    show W _ _ _ _ _ _ _
    refine w_seq ?_
    refine w_block ?_
    refine w_seq ?_
    refine w_reg fun all => ?_
    refine t_qz 1 [1, 4, 5, 7, 8, 27, 28, 29, 37, 38, 40] (σ' := [(1, .int .i64 w1), (4, .pointer (some ⟨b39, 0, none⟩)), (5, .pointer (some ⟨b40, 0, none⟩)), (7, .pointer (some ⟨g41, 0, none⟩)), (8, .pointer (some ⟨g42, 0, none⟩)), (27, .slice (some ⟨B0, 0, none⟩) 1 1), (28, .int .i64 1), (29, .int .i64 0), (37, .agg #[.int .i64 m0_0, .int .i64 m0_1, .int .i64 m0_2, .int .i64 m0_3]), (38, .int .i64 0), (40, .agg #[.int .i64 m0_0, .int .i64 m0_1])]) (by kernel_rfl) ?_
    refine t_a (.new rfl rfl) fun b44 fb44 sb44 => ?_
    refine t_sti 0 (cs := [.int .i64 m0_0, .int .i64 m0_1]) rfl rfl rfl rfl rfl rfl rfl rfl rfl ?_
    refine t_keep [1, 4, 5, 7, 8, 12, 27, 28, 29, 37, 38] (σ' := [(1, .int .i64 w1), (4, .pointer (some ⟨b39, 0, none⟩)), (5, .pointer (some ⟨b40, 0, none⟩)), (7, .pointer (some ⟨g41, 0, none⟩)), (8, .pointer (some ⟨g42, 0, none⟩)), (12, .pointer (some ⟨b44, 0, none⟩)), (27, .slice (some ⟨B0, 0, none⟩) 1 1), (28, .int .i64 1), (29, .int .i64 0), (37, .agg #[.int .i64 m0_0, .int .i64 m0_1, .int .i64 m0_2, .int .i64 m0_3]), (38, .int .i64 0)]) (by kernel_rfl) ?_
    refine t_end ?_
    show W _ _ _ _ _ _ _
    refine w_seq ?_
    refine w_reg fun all => ?_
    refine t_qz 1 [1, 4, 5, 7, 8, 12, 27, 28, 29, 37, 38, 41] (σ' := [(1, .int .i64 w1), (4, .pointer (some ⟨b39, 0, none⟩)), (5, .pointer (some ⟨b40, 0, none⟩)), (7, .pointer (some ⟨g41, 0, none⟩)), (8, .pointer (some ⟨g42, 0, none⟩)), (12, .pointer (some ⟨b44, 0, none⟩)), (27, .slice (some ⟨B0, 0, none⟩) 1 1), (28, .int .i64 1), (29, .int .i64 0), (37, .agg #[.int .i64 m0_0, .int .i64 m0_1, .int .i64 m0_2, .int .i64 m0_3]), (38, .int .i64 0), (41, .pointer (some ⟨g41, 0, none⟩))]) (by kernel_rfl) ?_
    refine t_v (.ld1 rfl rfl rfl (.at 3 rfl rfl)) ?_
    refine t_qz 1 [1, 4, 5, 7, 8, 12, 27, 28, 29, 37, 38, 42, 43] (σ' := [(1, .int .i64 w1), (4, .pointer (some ⟨b39, 0, none⟩)), (5, .pointer (some ⟨b40, 0, none⟩)), (7, .pointer (some ⟨g41, 0, none⟩)), (8, .pointer (some ⟨g42, 0, none⟩)), (12, .pointer (some ⟨b44, 0, none⟩)), (27, .slice (some ⟨B0, 0, none⟩) 1 1), (28, .int .i64 1), (29, .int .i64 0), (37, .agg #[.int .i64 m0_0, .int .i64 m0_1, .int .i64 m0_2, .int .i64 m0_3]), (38, .int .i64 0), (42, .int .i64 m0_0), (43, .pointer (some ⟨b44, 0, none⟩))]) (by kernel_rfl) ?_
    refine t_v (.ld1 rfl rfl rfl (.at 0 rfl rfl)) ?_
    refine t_qz 2 [1, 4, 5, 7, 8, 12, 27, 28, 29, 37, 38, 45, 46] (σ' := [(1, .int .i64 w1), (4, .pointer (some ⟨b39, 0, none⟩)), (5, .pointer (some ⟨b40, 0, none⟩)), (7, .pointer (some ⟨g41, 0, none⟩)), (8, .pointer (some ⟨g42, 0, none⟩)), (12, .pointer (some ⟨b44, 0, none⟩)), (27, .slice (some ⟨B0, 0, none⟩) 1 1), (28, .int .i64 1), (29, .int .i64 0), (37, .agg #[.int .i64 m0_0, .int .i64 m0_1, .int .i64 m0_2, .int .i64 m0_3]), (38, .int .i64 0), (45, .int .i64 (mn m0_0 m0_0)), (46, .pointer (some ⟨g41, 1, none⟩))]) (by kernel_rfl) ?_
    refine t_v (.ld1 rfl rfl rfl (.at 3 rfl rfl)) ?_
    refine t_qz 1 [1, 4, 5, 7, 8, 12, 27, 28, 29, 37, 38, 45, 47, 48] (σ' := [(1, .int .i64 w1), (4, .pointer (some ⟨b39, 0, none⟩)), (5, .pointer (some ⟨b40, 0, none⟩)), (7, .pointer (some ⟨g41, 0, none⟩)), (8, .pointer (some ⟨g42, 0, none⟩)), (12, .pointer (some ⟨b44, 0, none⟩)), (27, .slice (some ⟨B0, 0, none⟩) 1 1), (28, .int .i64 1), (29, .int .i64 0), (37, .agg #[.int .i64 m0_0, .int .i64 m0_1, .int .i64 m0_2, .int .i64 m0_3]), (38, .int .i64 0), (45, .int .i64 (mn m0_0 m0_0)), (47, .int .i64 m0_1), (48, .pointer (some ⟨b44, 1, none⟩))]) (by kernel_rfl) ?_
    refine t_v (.ld1 rfl rfl rfl (.at 0 rfl rfl)) ?_
    refine t_qz 2 [1, 4, 5, 7, 8, 12, 27, 28, 29, 37, 38, 51] (σ' := [(1, .int .i64 w1), (4, .pointer (some ⟨b39, 0, none⟩)), (5, .pointer (some ⟨b40, 0, none⟩)), (7, .pointer (some ⟨g41, 0, none⟩)), (8, .pointer (some ⟨g42, 0, none⟩)), (12, .pointer (some ⟨b44, 0, none⟩)), (27, .slice (some ⟨B0, 0, none⟩) 1 1), (28, .int .i64 1), (29, .int .i64 0), (37, .agg #[.int .i64 m0_0, .int .i64 m0_1, .int .i64 m0_2, .int .i64 m0_3]), (38, .int .i64 0), (51, .agg #[.int .i64 (mn m0_0 m0_0), .int .i64 (mn m0_1 m0_1)])]) (by kernel_rfl) ?_
    refine t_sti 3 (cs := [.int .i64 (mn m0_0 m0_0), .int .i64 (mn m0_1 m0_1)]) rfl rfl rfl rfl rfl rfl rfl rfl rfl ?_
    refine t_keep [1, 4, 5, 7, 8, 12, 27, 28, 29, 37, 38] (σ' := [(1, .int .i64 w1), (4, .pointer (some ⟨b39, 0, none⟩)), (5, .pointer (some ⟨b40, 0, none⟩)), (7, .pointer (some ⟨g41, 0, none⟩)), (8, .pointer (some ⟨g42, 0, none⟩)), (12, .pointer (some ⟨b44, 0, none⟩)), (27, .slice (some ⟨B0, 0, none⟩) 1 1), (28, .int .i64 1), (29, .int .i64 0), (37, .agg #[.int .i64 m0_0, .int .i64 m0_1, .int .i64 m0_2, .int .i64 m0_3]), (38, .int .i64 0)]) (by kernel_rfl) ?_
    refine t_end ?_
    show W _ _ _ _ _ _ _
    refine w_reg fun all => ?_
    refine t_qz 1 [1, 4, 5, 7, 8, 12, 27, 28, 29, 37, 38, 52] (σ' := [(1, .int .i64 w1), (4, .pointer (some ⟨b39, 0, none⟩)), (5, .pointer (some ⟨b40, 0, none⟩)), (7, .pointer (some ⟨g41, 0, none⟩)), (8, .pointer (some ⟨g42, 0, none⟩)), (12, .pointer (some ⟨b44, 0, none⟩)), (27, .slice (some ⟨B0, 0, none⟩) 1 1), (28, .int .i64 1), (29, .int .i64 0), (37, .agg #[.int .i64 m0_0, .int .i64 m0_1, .int .i64 m0_2, .int .i64 m0_3]), (38, .int .i64 0), (52, .pointer (some ⟨g42, 0, none⟩))]) (by kernel_rfl) ?_
    refine t_v (.ld1 rfl rfl rfl (.at 2 rfl rfl)) ?_
    refine t_qz 1 [1, 4, 5, 7, 8, 12, 27, 28, 29, 37, 38, 53, 54] (σ' := [(1, .int .i64 w1), (4, .pointer (some ⟨b39, 0, none⟩)), (5, .pointer (some ⟨b40, 0, none⟩)), (7, .pointer (some ⟨g41, 0, none⟩)), (8, .pointer (some ⟨g42, 0, none⟩)), (12, .pointer (some ⟨b44, 0, none⟩)), (27, .slice (some ⟨B0, 0, none⟩) 1 1), (28, .int .i64 1), (29, .int .i64 0), (37, .agg #[.int .i64 m0_0, .int .i64 m0_1, .int .i64 m0_2, .int .i64 m0_3]), (38, .int .i64 0), (53, .int .i64 m0_0), (54, .pointer (some ⟨b44, 0, none⟩))]) (by kernel_rfl) ?_
    refine t_v (.ld1 rfl rfl rfl (.at 0 rfl rfl)) ?_
    refine t_qz 2 [1, 4, 5, 7, 8, 12, 27, 28, 29, 37, 38, 56, 57] (σ' := [(1, .int .i64 w1), (4, .pointer (some ⟨b39, 0, none⟩)), (5, .pointer (some ⟨b40, 0, none⟩)), (7, .pointer (some ⟨g41, 0, none⟩)), (8, .pointer (some ⟨g42, 0, none⟩)), (12, .pointer (some ⟨b44, 0, none⟩)), (27, .slice (some ⟨B0, 0, none⟩) 1 1), (28, .int .i64 1), (29, .int .i64 0), (37, .agg #[.int .i64 m0_0, .int .i64 m0_1, .int .i64 m0_2, .int .i64 m0_3]), (38, .int .i64 0), (56, .int .i64 (mx m0_0 m0_0)), (57, .pointer (some ⟨g42, 1, none⟩))]) (by kernel_rfl) ?_
    refine t_v (.ld1 rfl rfl rfl (.at 2 rfl rfl)) ?_
    refine t_qz 1 [1, 4, 5, 7, 8, 27, 28, 29, 37, 38, 56, 58, 59] (σ' := [(1, .int .i64 w1), (4, .pointer (some ⟨b39, 0, none⟩)), (5, .pointer (some ⟨b40, 0, none⟩)), (7, .pointer (some ⟨g41, 0, none⟩)), (8, .pointer (some ⟨g42, 0, none⟩)), (27, .slice (some ⟨B0, 0, none⟩) 1 1), (28, .int .i64 1), (29, .int .i64 0), (37, .agg #[.int .i64 m0_0, .int .i64 m0_1, .int .i64 m0_2, .int .i64 m0_3]), (38, .int .i64 0), (56, .int .i64 (mx m0_0 m0_0)), (58, .int .i64 m0_1), (59, .pointer (some ⟨b44, 1, none⟩))]) (by kernel_rfl) ?_
    refine t_v (.ld1 rfl rfl rfl (.at 0 rfl rfl)) ?_
    refine t_qz 2 [1, 4, 5, 7, 8, 27, 28, 29, 37, 38, 62] (σ' := [(1, .int .i64 w1), (4, .pointer (some ⟨b39, 0, none⟩)), (5, .pointer (some ⟨b40, 0, none⟩)), (7, .pointer (some ⟨g41, 0, none⟩)), (8, .pointer (some ⟨g42, 0, none⟩)), (27, .slice (some ⟨B0, 0, none⟩) 1 1), (28, .int .i64 1), (29, .int .i64 0), (37, .agg #[.int .i64 m0_0, .int .i64 m0_1, .int .i64 m0_2, .int .i64 m0_3]), (38, .int .i64 0), (62, .agg #[.int .i64 (mx m0_0 m0_0), .int .i64 (mx m0_1 m0_1)])]) (by kernel_rfl) ?_
    refine t_sti 2 (cs := [.int .i64 (mx m0_0 m0_0), .int .i64 (mx m0_1 m0_1)]) rfl rfl rfl rfl rfl rfl rfl rfl rfl ?_
    refine t_keep [1, 4, 5, 7, 8, 27, 28, 29, 37, 38] (σ' := [(1, .int .i64 w1), (4, .pointer (some ⟨b39, 0, none⟩)), (5, .pointer (some ⟨b40, 0, none⟩)), (7, .pointer (some ⟨g41, 0, none⟩)), (8, .pointer (some ⟨g42, 0, none⟩)), (27, .slice (some ⟨B0, 0, none⟩) 1 1), (28, .int .i64 1), (29, .int .i64 0), (37, .agg #[.int .i64 m0_0, .int .i64 m0_1, .int .i64 m0_2, .int .i64 m0_3]), (38, .int .i64 0)]) (by kernel_rfl) ?_
    refine t_end ?_
    show W _ _ _ _ _ _ _
    refine w_reg fun all => ?_
    refine t_qz 2 [1, 4, 5, 7, 8, 27, 28, 29, 37, 38] (σ' := [(1, .int .i64 w1), (4, .pointer (some ⟨b39, 0, none⟩)), (5, .pointer (some ⟨b40, 0, none⟩)), (7, .pointer (some ⟨g41, 0, none⟩)), (8, .pointer (some ⟨g42, 0, none⟩)), (27, .slice (some ⟨B0, 0, none⟩) 1 1), (28, .int .i64 1), (29, .int .i64 0), (37, .agg #[.int .i64 m0_0, .int .i64 m0_1, .int .i64 m0_2, .int .i64 m0_3]), (38, .int .i64 1)]) (by kernel_rfl) ?_
    refine t_end ?_
    show WL _ _ _ _ _ _ _ _
    refine wl_step ?_
    refine w_seq ?_
    refine w_reg fun all => ?_
    refine t_qz 1 [1, 4, 5, 7, 8, 27, 28, 29, 37, 38, 39] (σ' := [(1, .int .i64 w1), (4, .pointer (some ⟨b39, 0, none⟩)), (5, .pointer (some ⟨b40, 0, none⟩)), (7, .pointer (some ⟨g41, 0, none⟩)), (8, .pointer (some ⟨g42, 0, none⟩)), (27, .slice (some ⟨B0, 0, none⟩) 1 1), (28, .int .i64 1), (29, .int .i64 0), (37, .agg #[.int .i64 m0_0, .int .i64 m0_1, .int .i64 m0_2, .int .i64 m0_3]), (38, .int .i64 1), (39, .bool true)]) (by kernel_rfl) ?_
    refine t_end ?_
    show W _ _ _ _ _ _ _
    refine w_seq ?_
    refine w_cond rfl (fun _ => ?_) (fun c_ => by cases c_)
    show W _ _ _ _ _ _ _
    refine w_skip ?_
    show W _ _ _ _ _ _ _
    refine w_seq ?_
    refine w_block ?_
    refine w_seq ?_
    refine w_reg fun all => ?_
    refine t_qz 1 [1, 4, 5, 7, 8, 27, 28, 29, 37, 38, 40] (σ' := [(1, .int .i64 w1), (4, .pointer (some ⟨b39, 0, none⟩)), (5, .pointer (some ⟨b40, 0, none⟩)), (7, .pointer (some ⟨g41, 0, none⟩)), (8, .pointer (some ⟨g42, 0, none⟩)), (27, .slice (some ⟨B0, 0, none⟩) 1 1), (28, .int .i64 1), (29, .int .i64 0), (37, .agg #[.int .i64 m0_0, .int .i64 m0_1, .int .i64 m0_2, .int .i64 m0_3]), (38, .int .i64 1), (40, .agg #[.int .i64 m0_2, .int .i64 m0_3])]) (by kernel_rfl) ?_
    refine t_a (.new rfl rfl) fun b45 fb45 sb45 => ?_
    refine t_sti 0 (cs := [.int .i64 m0_2, .int .i64 m0_3]) rfl rfl rfl rfl rfl rfl rfl rfl rfl ?_
    refine t_keep [1, 4, 5, 7, 8, 12, 27, 28, 29, 37, 38] (σ' := [(1, .int .i64 w1), (4, .pointer (some ⟨b39, 0, none⟩)), (5, .pointer (some ⟨b40, 0, none⟩)), (7, .pointer (some ⟨g41, 0, none⟩)), (8, .pointer (some ⟨g42, 0, none⟩)), (12, .pointer (some ⟨b45, 0, none⟩)), (27, .slice (some ⟨B0, 0, none⟩) 1 1), (28, .int .i64 1), (29, .int .i64 0), (37, .agg #[.int .i64 m0_0, .int .i64 m0_1, .int .i64 m0_2, .int .i64 m0_3]), (38, .int .i64 1)]) (by kernel_rfl) ?_
    refine t_end ?_
    show W _ _ _ _ _ _ _
    refine w_seq ?_
    refine w_reg fun all => ?_
    refine t_qz 1 [1, 4, 5, 7, 8, 12, 27, 28, 29, 37, 38, 41] (σ' := [(1, .int .i64 w1), (4, .pointer (some ⟨b39, 0, none⟩)), (5, .pointer (some ⟨b40, 0, none⟩)), (7, .pointer (some ⟨g41, 0, none⟩)), (8, .pointer (some ⟨g42, 0, none⟩)), (12, .pointer (some ⟨b45, 0, none⟩)), (27, .slice (some ⟨B0, 0, none⟩) 1 1), (28, .int .i64 1), (29, .int .i64 0), (37, .agg #[.int .i64 m0_0, .int .i64 m0_1, .int .i64 m0_2, .int .i64 m0_3]), (38, .int .i64 1), (41, .pointer (some ⟨g41, 0, none⟩))]) (by kernel_rfl) ?_
    refine t_v (.ld1 rfl rfl rfl (.at 4 rfl rfl)) ?_
    refine t_qz 1 [1, 4, 5, 7, 8, 12, 27, 28, 29, 37, 38, 42, 43] (σ' := [(1, .int .i64 w1), (4, .pointer (some ⟨b39, 0, none⟩)), (5, .pointer (some ⟨b40, 0, none⟩)), (7, .pointer (some ⟨g41, 0, none⟩)), (8, .pointer (some ⟨g42, 0, none⟩)), (12, .pointer (some ⟨b45, 0, none⟩)), (27, .slice (some ⟨B0, 0, none⟩) 1 1), (28, .int .i64 1), (29, .int .i64 0), (37, .agg #[.int .i64 m0_0, .int .i64 m0_1, .int .i64 m0_2, .int .i64 m0_3]), (38, .int .i64 1), (42, .int .i64 (mn m0_0 m0_0)), (43, .pointer (some ⟨b45, 0, none⟩))]) (by kernel_rfl) ?_
    refine t_v (.ld1 rfl rfl rfl (.at 0 rfl rfl)) ?_
    refine t_qz 2 [1, 4, 5, 7, 8, 12, 27, 28, 29, 37, 38, 45, 46] (σ' := [(1, .int .i64 w1), (4, .pointer (some ⟨b39, 0, none⟩)), (5, .pointer (some ⟨b40, 0, none⟩)), (7, .pointer (some ⟨g41, 0, none⟩)), (8, .pointer (some ⟨g42, 0, none⟩)), (12, .pointer (some ⟨b45, 0, none⟩)), (27, .slice (some ⟨B0, 0, none⟩) 1 1), (28, .int .i64 1), (29, .int .i64 0), (37, .agg #[.int .i64 m0_0, .int .i64 m0_1, .int .i64 m0_2, .int .i64 m0_3]), (38, .int .i64 1), (45, .int .i64 (mn (mn m0_0 m0_0) m0_2)), (46, .pointer (some ⟨g41, 1, none⟩))]) (by kernel_rfl) ?_
    refine t_v (.ld1 rfl rfl rfl (.at 4 rfl rfl)) ?_
    refine t_qz 1 [1, 4, 5, 7, 8, 12, 27, 28, 29, 37, 38, 45, 47, 48] (σ' := [(1, .int .i64 w1), (4, .pointer (some ⟨b39, 0, none⟩)), (5, .pointer (some ⟨b40, 0, none⟩)), (7, .pointer (some ⟨g41, 0, none⟩)), (8, .pointer (some ⟨g42, 0, none⟩)), (12, .pointer (some ⟨b45, 0, none⟩)), (27, .slice (some ⟨B0, 0, none⟩) 1 1), (28, .int .i64 1), (29, .int .i64 0), (37, .agg #[.int .i64 m0_0, .int .i64 m0_1, .int .i64 m0_2, .int .i64 m0_3]), (38, .int .i64 1), (45, .int .i64 (mn (mn m0_0 m0_0) m0_2)), (47, .int .i64 (mn m0_1 m0_1)), (48, .pointer (some ⟨b45, 1, none⟩))]) (by kernel_rfl) ?_
    refine t_v (.ld1 rfl rfl rfl (.at 0 rfl rfl)) ?_
    refine t_qz 2 [1, 4, 5, 7, 8, 12, 27, 28, 29, 37, 38, 51] (σ' := [(1, .int .i64 w1), (4, .pointer (some ⟨b39, 0, none⟩)), (5, .pointer (some ⟨b40, 0, none⟩)), (7, .pointer (some ⟨g41, 0, none⟩)), (8, .pointer (some ⟨g42, 0, none⟩)), (12, .pointer (some ⟨b45, 0, none⟩)), (27, .slice (some ⟨B0, 0, none⟩) 1 1), (28, .int .i64 1), (29, .int .i64 0), (37, .agg #[.int .i64 m0_0, .int .i64 m0_1, .int .i64 m0_2, .int .i64 m0_3]), (38, .int .i64 1), (51, .agg #[.int .i64 (mn (mn m0_0 m0_0) m0_2), .int .i64 (mn (mn m0_1 m0_1) m0_3)])]) (by kernel_rfl) ?_
    refine t_sti 4 (cs := [.int .i64 (mn (mn m0_0 m0_0) m0_2), .int .i64 (mn (mn m0_1 m0_1) m0_3)]) rfl rfl rfl rfl rfl rfl rfl rfl rfl ?_
    refine t_keep [1, 4, 5, 7, 8, 12, 27, 28, 29, 37, 38] (σ' := [(1, .int .i64 w1), (4, .pointer (some ⟨b39, 0, none⟩)), (5, .pointer (some ⟨b40, 0, none⟩)), (7, .pointer (some ⟨g41, 0, none⟩)), (8, .pointer (some ⟨g42, 0, none⟩)), (12, .pointer (some ⟨b45, 0, none⟩)), (27, .slice (some ⟨B0, 0, none⟩) 1 1), (28, .int .i64 1), (29, .int .i64 0), (37, .agg #[.int .i64 m0_0, .int .i64 m0_1, .int .i64 m0_2, .int .i64 m0_3]), (38, .int .i64 1)]) (by kernel_rfl) ?_
    refine t_end ?_
    show W _ _ _ _ _ _ _
    refine w_reg fun all => ?_
    refine t_qz 1 [1, 4, 5, 7, 8, 12, 27, 28, 29, 37, 38, 52] (σ' := [(1, .int .i64 w1), (4, .pointer (some ⟨b39, 0, none⟩)), (5, .pointer (some ⟨b40, 0, none⟩)), (7, .pointer (some ⟨g41, 0, none⟩)), (8, .pointer (some ⟨g42, 0, none⟩)), (12, .pointer (some ⟨b45, 0, none⟩)), (27, .slice (some ⟨B0, 0, none⟩) 1 1), (28, .int .i64 1), (29, .int .i64 0), (37, .agg #[.int .i64 m0_0, .int .i64 m0_1, .int .i64 m0_2, .int .i64 m0_3]), (38, .int .i64 1), (52, .pointer (some ⟨g42, 0, none⟩))]) (by kernel_rfl) ?_
    refine t_v (.ld1 rfl rfl rfl (.at 3 rfl rfl)) ?_
    refine t_qz 1 [1, 4, 5, 7, 8, 12, 27, 28, 29, 37, 38, 53, 54] (σ' := [(1, .int .i64 w1), (4, .pointer (some ⟨b39, 0, none⟩)), (5, .pointer (some ⟨b40, 0, none⟩)), (7, .pointer (some ⟨g41, 0, none⟩)), (8, .pointer (some ⟨g42, 0, none⟩)), (12, .pointer (some ⟨b45, 0, none⟩)), (27, .slice (some ⟨B0, 0, none⟩) 1 1), (28, .int .i64 1), (29, .int .i64 0), (37, .agg #[.int .i64 m0_0, .int .i64 m0_1, .int .i64 m0_2, .int .i64 m0_3]), (38, .int .i64 1), (53, .int .i64 (mx m0_0 m0_0)), (54, .pointer (some ⟨b45, 0, none⟩))]) (by kernel_rfl) ?_
    refine t_v (.ld1 rfl rfl rfl (.at 0 rfl rfl)) ?_
    refine t_qz 2 [1, 4, 5, 7, 8, 12, 27, 28, 29, 37, 38, 56, 57] (σ' := [(1, .int .i64 w1), (4, .pointer (some ⟨b39, 0, none⟩)), (5, .pointer (some ⟨b40, 0, none⟩)), (7, .pointer (some ⟨g41, 0, none⟩)), (8, .pointer (some ⟨g42, 0, none⟩)), (12, .pointer (some ⟨b45, 0, none⟩)), (27, .slice (some ⟨B0, 0, none⟩) 1 1), (28, .int .i64 1), (29, .int .i64 0), (37, .agg #[.int .i64 m0_0, .int .i64 m0_1, .int .i64 m0_2, .int .i64 m0_3]), (38, .int .i64 1), (56, .int .i64 (mx (mx m0_0 m0_0) m0_2)), (57, .pointer (some ⟨g42, 1, none⟩))]) (by kernel_rfl) ?_
    refine t_v (.ld1 rfl rfl rfl (.at 3 rfl rfl)) ?_
    refine t_qz 1 [1, 4, 5, 7, 8, 27, 28, 29, 37, 38, 56, 58, 59] (σ' := [(1, .int .i64 w1), (4, .pointer (some ⟨b39, 0, none⟩)), (5, .pointer (some ⟨b40, 0, none⟩)), (7, .pointer (some ⟨g41, 0, none⟩)), (8, .pointer (some ⟨g42, 0, none⟩)), (27, .slice (some ⟨B0, 0, none⟩) 1 1), (28, .int .i64 1), (29, .int .i64 0), (37, .agg #[.int .i64 m0_0, .int .i64 m0_1, .int .i64 m0_2, .int .i64 m0_3]), (38, .int .i64 1), (56, .int .i64 (mx (mx m0_0 m0_0) m0_2)), (58, .int .i64 (mx m0_1 m0_1)), (59, .pointer (some ⟨b45, 1, none⟩))]) (by kernel_rfl) ?_
    refine t_v (.ld1 rfl rfl rfl (.at 0 rfl rfl)) ?_
    refine t_qz 2 [1, 4, 5, 7, 8, 27, 28, 29, 37, 38, 62] (σ' := [(1, .int .i64 w1), (4, .pointer (some ⟨b39, 0, none⟩)), (5, .pointer (some ⟨b40, 0, none⟩)), (7, .pointer (some ⟨g41, 0, none⟩)), (8, .pointer (some ⟨g42, 0, none⟩)), (27, .slice (some ⟨B0, 0, none⟩) 1 1), (28, .int .i64 1), (29, .int .i64 0), (37, .agg #[.int .i64 m0_0, .int .i64 m0_1, .int .i64 m0_2, .int .i64 m0_3]), (38, .int .i64 1), (62, .agg #[.int .i64 (mx (mx m0_0 m0_0) m0_2), .int .i64 (mx (mx m0_1 m0_1) m0_3)])]) (by kernel_rfl) ?_
    refine t_sti 3 (cs := [.int .i64 (mx (mx m0_0 m0_0) m0_2), .int .i64 (mx (mx m0_1 m0_1) m0_3)]) rfl rfl rfl rfl rfl rfl rfl rfl rfl ?_
    refine t_keep [1, 4, 5, 7, 8, 27, 28, 29, 37, 38] (σ' := [(1, .int .i64 w1), (4, .pointer (some ⟨b39, 0, none⟩)), (5, .pointer (some ⟨b40, 0, none⟩)), (7, .pointer (some ⟨g41, 0, none⟩)), (8, .pointer (some ⟨g42, 0, none⟩)), (27, .slice (some ⟨B0, 0, none⟩) 1 1), (28, .int .i64 1), (29, .int .i64 0), (37, .agg #[.int .i64 m0_0, .int .i64 m0_1, .int .i64 m0_2, .int .i64 m0_3]), (38, .int .i64 1)]) (by kernel_rfl) ?_
    refine t_end ?_
    show W _ _ _ _ _ _ _
    refine w_reg fun all => ?_
    refine t_qz 2 [1, 4, 5, 7, 8, 27, 28, 29, 37, 38] (σ' := [(1, .int .i64 w1), (4, .pointer (some ⟨b39, 0, none⟩)), (5, .pointer (some ⟨b40, 0, none⟩)), (7, .pointer (some ⟨g41, 0, none⟩)), (8, .pointer (some ⟨g42, 0, none⟩)), (27, .slice (some ⟨B0, 0, none⟩) 1 1), (28, .int .i64 1), (29, .int .i64 0), (37, .agg #[.int .i64 m0_0, .int .i64 m0_1, .int .i64 m0_2, .int .i64 m0_3]), (38, .int .i64 2)]) (by kernel_rfl) ?_
    refine t_end ?_
    show WL _ _ _ _ _ _ _ _
    refine wl_step ?_
    refine w_seq ?_
    refine w_reg fun all => ?_
    refine t_qz 1 [1, 4, 5, 7, 8, 27, 28, 29, 37, 38, 39] (σ' := [(1, .int .i64 w1), (4, .pointer (some ⟨b39, 0, none⟩)), (5, .pointer (some ⟨b40, 0, none⟩)), (7, .pointer (some ⟨g41, 0, none⟩)), (8, .pointer (some ⟨g42, 0, none⟩)), (27, .slice (some ⟨B0, 0, none⟩) 1 1), (28, .int .i64 1), (29, .int .i64 0), (37, .agg #[.int .i64 m0_0, .int .i64 m0_1, .int .i64 m0_2, .int .i64 m0_3]), (38, .int .i64 2), (39, .bool false)]) (by kernel_rfl) ?_
    refine t_end ?_
    show W _ _ _ _ _ _ _
    refine w_seq ?_
    refine w_cond rfl (fun c_ => by cases c_) (fun _ => ?_)
    show W _ _ _ _ _ _ _
    refine w_exit ?_
    show W _ _ _ _ _ _ _
    refine w_reg fun all => ?_
    refine t_qz 2 [1, 4, 5, 7, 8, 27, 28, 29] (σ' := [(1, .int .i64 w1), (4, .pointer (some ⟨b39, 0, none⟩)), (5, .pointer (some ⟨b40, 0, none⟩)), (7, .pointer (some ⟨g41, 0, none⟩)), (8, .pointer (some ⟨g42, 0, none⟩)), (27, .slice (some ⟨B0, 0, none⟩) 1 1), (28, .int .i64 1), (29, .int .i64 1)]) (by kernel_rfl) ?_
    refine t_end ?_
    show WL _ _ _ _ _ _ _ _
    refine wl_step ?_
    refine w_seq ?_
    refine w_reg fun all => ?_
    refine t_qz 1 [1, 4, 5, 7, 8, 27, 28, 29, 30] (σ' := [(1, .int .i64 w1), (4, .pointer (some ⟨b39, 0, none⟩)), (5, .pointer (some ⟨b40, 0, none⟩)), (7, .pointer (some ⟨g41, 0, none⟩)), (8, .pointer (some ⟨g42, 0, none⟩)), (27, .slice (some ⟨B0, 0, none⟩) 1 1), (28, .int .i64 1), (29, .int .i64 1), (30, .bool false)]) (by kernel_rfl) ?_
    refine t_end ?_
    show W _ _ _ _ _ _ _
    refine w_seq ?_
    refine w_cond rfl (fun c_ => by cases c_) (fun _ => ?_)
    show W _ _ _ _ _ _ _
    refine w_exit ?_
    show W _ _ _ _ _ _ _
    refine w_seq ?_
    refine w_reg fun all => ?_
    refine t_qz 4 [4, 5, 7, 8, 13] (σ' := [(4, .pointer (some ⟨b39, 0, none⟩)), (5, .pointer (some ⟨b40, 0, none⟩)), (7, .pointer (some ⟨g41, 0, none⟩)), (8, .pointer (some ⟨g42, 0, none⟩)), (13, .int .i64 (wr64 (Int.tdiv (wr64 (w1 + 1)) 2)))]) (by kernel_rfl) ?_
    refine t_end ?_
    show W _ _ _ _ _ _ _
    refine w_seq ?_
    refine w_kp [4, 5, 7, 8, 13] (σ' := [(4, .pointer (some ⟨b39, 0, none⟩)), (5, .pointer (some ⟨b40, 0, none⟩)), (7, .pointer (some ⟨g41, 0, none⟩)), (8, .pointer (some ⟨g42, 0, none⟩)), (13, .int .i64 (wr64 (Int.tdiv (wr64 (w1 + 1)) 2)))]) (by kernel_rfl) ?_
    refine w_gameQ mixed (by kernel_rfl) fun all G hend hstep hqf => ?_
    have hg_1fffff : G [true, true, true, true, true, true, true, true, true, true, true, true, true, true, true, true, true, true, true, true, true] [(4, .pointer (some ⟨b39, 0, none⟩)), (5, .pointer (some ⟨b40, 0, none⟩)), (6, .bool true)] ([⟨b45, [.int .i64 m0_2, .int .i64 m0_3], 2⟩, ⟨b44, [.int .i64 m0_0, .int .i64 m0_1], 2⟩, ⟨b43, [.int .i64 m0_0, .int .i64 m0_1, .int .i64 m0_2, .int .i64 m0_3], 4⟩, ⟨g42, [.int .i64 (mx (mx m0_0 m0_0) m0_2), .int .i64 (mx (mx m0_1 m0_1) m0_3)], 2⟩, ⟨g41, [.int .i64 (mn (mn m0_0 m0_0) m0_2), .int .i64 (mn (mn m0_1 m0_1) m0_3)], 2⟩, ⟨b40, [.int .i64 (wr64 ((mx (mx m0_0 m0_0) m0_2) + (wr64 (Int.tdiv (wr64 (w1 + 1)) 2)))), .int .i64 (wr64 ((mx (mx m0_1 m0_1) m0_3) + (wr64 (Int.tdiv (wr64 (w1 + 1)) 2))))], 2⟩, ⟨b39, [.int .i64 (wr64 ((mn (mn m0_0 m0_0) m0_2) - (wr64 (Int.tdiv (wr64 (w1 + 1)) 2)))), .int .i64 (wr64 ((mn (mn m0_1 m0_1) m0_3) - (wr64 (Int.tdiv (wr64 (w1 + 1)) 2))))], 2⟩, ⟨B0, [.int .i64 m0_0, .int .i64 m0_1, .int .i64 m0_2, .int .i64 m0_3], 4⟩] : List Own) := by
      refine hend _ _ _ (by kernel_rfl) ?_
      show W _ _ _ _ _ _ _
      refine w_ret ?_
      simp only [Option.some.injEq, Prod.mk.injEq] at e
      obtain ⟨rfl, rfl, rfl, rfl, rfl⟩ := e
      exact ⟨[.agg #[.int .i64 (wr64 ((mn (mn m0_0 m0_0) m0_2) - (wr64 (Int.tdiv (wr64 (w1 + 1)) 2)))), .int .i64 (wr64 ((mn (mn m0_1 m0_1) m0_3) - (wr64 (Int.tdiv (wr64 (w1 + 1)) 2))))], .agg #[.int .i64 (wr64 ((mx (mx m0_0 m0_0) m0_2) + (wr64 (Int.tdiv (wr64 (w1 + 1)) 2)))), .int .i64 (wr64 ((mx (mx m0_1 m0_1) m0_3) + (wr64 (Int.tdiv (wr64 (w1 + 1)) 2))))], .bool true], ([⟨B0, [.int .i64 m0_0, .int .i64 m0_1, .int .i64 m0_2, .int .i64 m0_3], 4⟩] : List Own), S, ⟨⟨_, _, _, rfl, .at 6 rfl rfl, rfl⟩, ⟨_, _, _, rfl, .at 5 rfl rfl, rfl⟩, rfl, trivial⟩, VS.sel [7] (by kernel_rfl), rfl, rfl, rfl⟩
    have hg_fffff : G [true, true, true, true, true, true, true, true, true, true, true, true, true, true, true, true, true, true, true, true, false] [(4, .pointer (some ⟨b39, 0, none⟩)), (5, .pointer (some ⟨b40, 0, none⟩))] ([⟨b45, [.int .i64 m0_2, .int .i64 m0_3], 2⟩, ⟨b44, [.int .i64 m0_0, .int .i64 m0_1], 2⟩, ⟨b43, [.int .i64 m0_0, .int .i64 m0_1, .int .i64 m0_2, .int .i64 m0_3], 4⟩, ⟨g42, [.int .i64 (mx (mx m0_0 m0_0) m0_2), .int .i64 (mx (mx m0_1 m0_1) m0_3)], 2⟩, ⟨g41, [.int .i64 (mn (mn m0_0 m0_0) m0_2), .int .i64 (mn (mn m0_1 m0_1) m0_3)], 2⟩, ⟨b40, [.int .i64 (wr64 ((mx (mx m0_0 m0_0) m0_2) + (wr64 (Int.tdiv (wr64 (w1 + 1)) 2)))), .int .i64 (wr64 ((mx (mx m0_1 m0_1) m0_3) + (wr64 (Int.tdiv (wr64 (w1 + 1)) 2))))], 2⟩, ⟨b39, [.int .i64 (wr64 ((mn (mn m0_0 m0_0) m0_2) - (wr64 (Int.tdiv (wr64 (w1 + 1)) 2)))), .int .i64 (wr64 ((mn (mn m0_1 m0_1) m0_3) - (wr64 (Int.tdiv (wr64 (w1 + 1)) 2))))], 2⟩, ⟨B0, [.int .i64 m0_0, .int .i64 m0_1, .int .i64 m0_2, .int .i64 m0_3], 4⟩] : List Own) := by
      exact hqf 20 [4, 5, 6] _ _ _ [(4, .pointer (some ⟨b39, 0, none⟩)), (5, .pointer (some ⟨b40, 0, none⟩)), (6, .bool true)] (by kernel_rfl) (by kernel_rfl) hg_1fffff
    have hg_7ffff : G [true, true, true, true, true, true, true, true, true, true, true, true, true, true, true, true, true, true, true, false, false] [(4, .pointer (some ⟨b39, 0, none⟩)), (5, .pointer (some ⟨b40, 0, none⟩)), (85, .agg #[.int .i64 (wr64 ((mx (mx m0_0 m0_0) m0_2) + (wr64 (Int.tdiv (wr64 (w1 + 1)) 2)))), .int .i64 (wr64 ((mx (mx m0_1 m0_1) m0_3) + (wr64 (Int.tdiv (wr64 (w1 + 1)) 2))))])] ([⟨b45, [.int .i64 m0_2, .int .i64 m0_3], 2⟩, ⟨b44, [.int .i64 m0_0, .int .i64 m0_1], 2⟩, ⟨b43, [.int .i64 m0_0, .int .i64 m0_1, .int .i64 m0_2, .int .i64 m0_3], 4⟩, ⟨g42, [.int .i64 (mx (mx m0_0 m0_0) m0_2), .int .i64 (mx (mx m0_1 m0_1) m0_3)], 2⟩, ⟨g41, [.int .i64 (mn (mn m0_0 m0_0) m0_2), .int .i64 (mn (mn m0_1 m0_1) m0_3)], 2⟩, ⟨b40, [.int .i64 0, .int .i64 0], 2⟩, ⟨b39, [.int .i64 (wr64 ((mn (mn m0_0 m0_0) m0_2) - (wr64 (Int.tdiv (wr64 (w1 + 1)) 2)))), .int .i64 (wr64 ((mn (mn m0_1 m0_1) m0_3) - (wr64 (Int.tdiv (wr64 (w1 + 1)) 2))))], 2⟩, ⟨B0, [.int .i64 m0_0, .int .i64 m0_1, .int .i64 m0_2, .int .i64 m0_3], 4⟩] : List Own) := by
      refine hstep [19] _ _ _ (by kernel_rfl) (List.cons_ne_nil _ _) ⟨?_, trivial⟩
      · show T _ _ _ _ _ _ _ _
        refine t_sti 5 (cs := [.int .i64 (wr64 ((mx (mx m0_0 m0_0) m0_2) + (wr64 (Int.tdiv (wr64 (w1 + 1)) 2)))), .int .i64 (wr64 ((mx (mx m0_1 m0_1) m0_3) + (wr64 (Int.tdiv (wr64 (w1 + 1)) 2))))]) rfl rfl rfl rfl rfl rfl rfl rfl rfl ?_
        refine t_keep [4, 5] (σ' := [(4, .pointer (some ⟨b39, 0, none⟩)), (5, .pointer (some ⟨b40, 0, none⟩))]) (by kernel_rfl) ?_
        refine t_end ?_
        exact ⟨hg_fffff, rfl⟩
    have hg_5ffff : G [true, true, true, true, true, true, true, true, true, true, true, true, true, true, true, true, true, false, true, false, false] [(4, .pointer (some ⟨b39, 0, none⟩)), (5, .pointer (some ⟨b40, 0, none⟩)), (80, .int .i64 (wr64 ((mx (mx m0_0 m0_0) m0_2) + (wr64 (Int.tdiv (wr64 (w1 + 1)) 2))))), (84, .int .i64 (wr64 ((mx (mx m0_1 m0_1) m0_3) + (wr64 (Int.tdiv (wr64 (w1 + 1)) 2)))))] ([⟨b45, [.int .i64 m0_2, .int .i64 m0_3], 2⟩, ⟨b44, [.int .i64 m0_0, .int .i64 m0_1], 2⟩, ⟨b43, [.int .i64 m0_0, .int .i64 m0_1, .int .i64 m0_2, .int .i64 m0_3], 4⟩, ⟨g42, [.int .i64 (mx (mx m0_0 m0_0) m0_2), .int .i64 (mx (mx m0_1 m0_1) m0_3)], 2⟩, ⟨g41, [.int .i64 (mn (mn m0_0 m0_0) m0_2), .int .i64 (mn (mn m0_1 m0_1) m0_3)], 2⟩, ⟨b40, [.int .i64 0, .int .i64 0], 2⟩, ⟨b39, [.int .i64 (wr64 ((mn (mn m0_0 m0_0) m0_2) - (wr64 (Int.tdiv (wr64 (w1 + 1)) 2)))), .int .i64 (wr64 ((mn (mn m0_1 m0_1) m0_3) - (wr64 (Int.tdiv (wr64 (w1 + 1)) 2))))], 2⟩, ⟨B0, [.int .i64 m0_0, .int .i64 m0_1, .int .i64 m0_2, .int .i64 m0_3], 4⟩] : List Own) := by
      exact hqf 17 [4, 5, 85] _ _ _ [(4, .pointer (some ⟨b39, 0, none⟩)), (5, .pointer (some ⟨b40, 0, none⟩)), (85, .agg #[.int .i64 (wr64 ((mx (mx m0_0 m0_0) m0_2) + (wr64 (Int.tdiv (wr64 (w1 + 1)) 2)))), .int .i64 (wr64 ((mx (mx m0_1 m0_1) m0_3) + (wr64 (Int.tdiv (wr64 (w1 + 1)) 2))))])] (by kernel_rfl) (by kernel_rfl) hg_7ffff
    have hg_3ffff : G [true, true, true, true, true, true, true, true, true, true, true, true, true, true, true, true, true, true, false, false, false] [(4, .pointer (some ⟨b39, 0, none⟩)), (5, .pointer (some ⟨b40, 0, none⟩)), (76, .agg #[.int .i64 (wr64 ((mn (mn m0_0 m0_0) m0_2) - (wr64 (Int.tdiv (wr64 (w1 + 1)) 2)))), .int .i64 (wr64 ((mn (mn m0_1 m0_1) m0_3) - (wr64 (Int.tdiv (wr64 (w1 + 1)) 2))))]), (85, .agg #[.int .i64 (wr64 ((mx (mx m0_0 m0_0) m0_2) + (wr64 (Int.tdiv (wr64 (w1 + 1)) 2)))), .int .i64 (wr64 ((mx (mx m0_1 m0_1) m0_3) + (wr64 (Int.tdiv (wr64 (w1 + 1)) 2))))])] ([⟨b45, [.int .i64 m0_2, .int .i64 m0_3], 2⟩, ⟨b44, [.int .i64 m0_0, .int .i64 m0_1], 2⟩, ⟨b43, [.int .i64 m0_0, .int .i64 m0_1, .int .i64 m0_2, .int .i64 m0_3], 4⟩, ⟨g42, [.int .i64 (mx (mx m0_0 m0_0) m0_2), .int .i64 (mx (mx m0_1 m0_1) m0_3)], 2⟩, ⟨g41, [.int .i64 (mn (mn m0_0 m0_0) m0_2), .int .i64 (mn (mn m0_1 m0_1) m0_3)], 2⟩, ⟨b40, [.int .i64 0, .int .i64 0], 2⟩, ⟨b39, [.int .i64 0, .int .i64 0], 2⟩, ⟨B0, [.int .i64 m0_0, .int .i64 m0_1, .int .i64 m0_2, .int .i64 m0_3], 4⟩] : List Own) := by
      refine hstep [18] _ _ _ (by kernel_rfl) (List.cons_ne_nil _ _) ⟨?_, trivial⟩
      · show T _ _ _ _ _ _ _ _
        refine t_sti 6 (cs := [.int .i64 (wr64 ((mn (mn m0_0 m0_0) m0_2) - (wr64 (Int.tdiv (wr64 (w1 + 1)) 2)))), .int .i64 (wr64 ((mn (mn m0_1 m0_1) m0_3) - (wr64 (Int.tdiv (wr64 (w1 + 1)) 2))))]) rfl rfl rfl rfl rfl rfl rfl rfl rfl ?_
        refine t_keep [4, 5, 85] (σ' := [(4, .pointer (some ⟨b39, 0, none⟩)), (5, .pointer (some ⟨b40, 0, none⟩)), (85, .agg #[.int .i64 (wr64 ((mx (mx m0_0 m0_0) m0_2) + (wr64 (Int.tdiv (wr64 (w1 + 1)) 2)))), .int .i64 (wr64 ((mx (mx m0_1 m0_1) m0_3) + (wr64 (Int.tdiv (wr64 (w1 + 1)) 2))))])]) (by kernel_rfl) ?_
        refine t_end ?_
        exact ⟨hg_7ffff, rfl⟩
    have hg_4ffff : G [true, true, true, true, true, true, true, true, true, true, true, true, true, true, true, true, false, false, true, false, false] [(4, .pointer (some ⟨b39, 0, none⟩)), (5, .pointer (some ⟨b40, 0, none⟩)), (80, .int .i64 (wr64 ((mx (mx m0_0 m0_0) m0_2) + (wr64 (Int.tdiv (wr64 (w1 + 1)) 2))))), (82, .int .i64 (mx (mx m0_1 m0_1) m0_3)), (83, .int .i64 (wr64 (Int.tdiv (wr64 (w1 + 1)) 2)))] ([⟨b45, [.int .i64 m0_2, .int .i64 m0_3], 2⟩, ⟨b44, [.int .i64 m0_0, .int .i64 m0_1], 2⟩, ⟨b43, [.int .i64 m0_0, .int .i64 m0_1, .int .i64 m0_2, .int .i64 m0_3], 4⟩, ⟨g42, [.int .i64 (mx (mx m0_0 m0_0) m0_2), .int .i64 (mx (mx m0_1 m0_1) m0_3)], 2⟩, ⟨g41, [.int .i64 (mn (mn m0_0 m0_0) m0_2), .int .i64 (mn (mn m0_1 m0_1) m0_3)], 2⟩, ⟨b40, [.int .i64 0, .int .i64 0], 2⟩, ⟨b39, [.int .i64 (wr64 ((mn (mn m0_0 m0_0) m0_2) - (wr64 (Int.tdiv (wr64 (w1 + 1)) 2)))), .int .i64 (wr64 ((mn (mn m0_1 m0_1) m0_3) - (wr64 (Int.tdiv (wr64 (w1 + 1)) 2))))], 2⟩, ⟨B0, [.int .i64 m0_0, .int .i64 m0_1, .int .i64 m0_2, .int .i64 m0_3], 4⟩] : List Own) := by
      exact hqf 16 [4, 5, 80, 84] _ _ _ [(4, .pointer (some ⟨b39, 0, none⟩)), (5, .pointer (some ⟨b40, 0, none⟩)), (80, .int .i64 (wr64 ((mx (mx m0_0 m0_0) m0_2) + (wr64 (Int.tdiv (wr64 (w1 + 1)) 2))))), (84, .int .i64 (wr64 ((mx (mx m0_1 m0_1) m0_3) + (wr64 (Int.tdiv (wr64 (w1 + 1)) 2)))))] (by kernel_rfl) (by kernel_rfl) hg_5ffff
    have hg_5efff : G [true, true, true, true, true, true, true, true, true, true, true, true, false, true, true, true, true, false, true, false, false] [(4, .pointer (some ⟨b39, 0, none⟩)), (5, .pointer (some ⟨b40, 0, none⟩)), (78, .int .i64 (mx (mx m0_0 m0_0) m0_2)), (79, .int .i64 (wr64 (Int.tdiv (wr64 (w1 + 1)) 2))), (84, .int .i64 (wr64 ((mx (mx m0_1 m0_1) m0_3) + (wr64 (Int.tdiv (wr64 (w1 + 1)) 2)))))] ([⟨b45, [.int .i64 m0_2, .int .i64 m0_3], 2⟩, ⟨b44, [.int .i64 m0_0, .int .i64 m0_1], 2⟩, ⟨b43, [.int .i64 m0_0, .int .i64 m0_1, .int .i64 m0_2, .int .i64 m0_3], 4⟩, ⟨g42, [.int .i64 (mx (mx m0_0 m0_0) m0_2), .int .i64 (mx (mx m0_1 m0_1) m0_3)], 2⟩, ⟨g41, [.int .i64 (mn (mn m0_0 m0_0) m0_2), .int .i64 (mn (mn m0_1 m0_1) m0_3)], 2⟩, ⟨b40, [.int .i64 0, .int .i64 0], 2⟩, ⟨b39, [.int .i64 (wr64 ((mn (mn m0_0 m0_0) m0_2) - (wr64 (Int.tdiv (wr64 (w1 + 1)) 2)))), .int .i64 (wr64 ((mn (mn m0_1 m0_1) m0_3) - (wr64 (Int.tdiv (wr64 (w1 + 1)) 2))))], 2⟩, ⟨B0, [.int .i64 m0_0, .int .i64 m0_1, .int .i64 m0_2, .int .i64 m0_3], 4⟩] : List Own) := by
      exact hqf 12 [4, 5, 80, 84] _ _ _ [(4, .pointer (some ⟨b39, 0, none⟩)), (5, .pointer (some ⟨b40, 0, none⟩)), (80, .int .i64 (wr64 ((mx (mx m0_0 m0_0) m0_2) + (wr64 (Int.tdiv (wr64 (w1 + 1)) 2))))), (84, .int .i64 (wr64 ((mx (mx m0_1 m0_1) m0_3) + (wr64 (Int.tdiv (wr64 (w1 + 1)) 2)))))] (by kernel_rfl) (by kernel_rfl) hg_5ffff
    have hg_1ffff : G [true, true, true, true, true, true, true, true, true, true, true, true, true, true, true, true, true, false, false, false, false] [(4, .pointer (some ⟨b39, 0, none⟩)), (5, .pointer (some ⟨b40, 0, none⟩)), (76, .agg #[.int .i64 (wr64 ((mn (mn m0_0 m0_0) m0_2) - (wr64 (Int.tdiv (wr64 (w1 + 1)) 2)))), .int .i64 (wr64 ((mn (mn m0_1 m0_1) m0_3) - (wr64 (Int.tdiv (wr64 (w1 + 1)) 2))))]), (80, .int .i64 (wr64 ((mx (mx m0_0 m0_0) m0_2) + (wr64 (Int.tdiv (wr64 (w1 + 1)) 2))))), (84, .int .i64 (wr64 ((mx (mx m0_1 m0_1) m0_3) + (wr64 (Int.tdiv (wr64 (w1 + 1)) 2)))))] ([⟨b45, [.int .i64 m0_2, .int .i64 m0_3], 2⟩, ⟨b44, [.int .i64 m0_0, .int .i64 m0_1], 2⟩, ⟨b43, [.int .i64 m0_0, .int .i64 m0_1, .int .i64 m0_2, .int .i64 m0_3], 4⟩, ⟨g42, [.int .i64 (mx (mx m0_0 m0_0) m0_2), .int .i64 (mx (mx m0_1 m0_1) m0_3)], 2⟩, ⟨g41, [.int .i64 (mn (mn m0_0 m0_0) m0_2), .int .i64 (mn (mn m0_1 m0_1) m0_3)], 2⟩, ⟨b40, [.int .i64 0, .int .i64 0], 2⟩, ⟨b39, [.int .i64 0, .int .i64 0], 2⟩, ⟨B0, [.int .i64 m0_0, .int .i64 m0_1, .int .i64 m0_2, .int .i64 m0_3], 4⟩] : List Own) := by
      exact hqf 17 [4, 5, 76, 85] _ _ _ [(4, .pointer (some ⟨b39, 0, none⟩)), (5, .pointer (some ⟨b40, 0, none⟩)), (76, .agg #[.int .i64 (wr64 ((mn (mn m0_0 m0_0) m0_2) - (wr64 (Int.tdiv (wr64 (w1 + 1)) 2)))), .int .i64 (wr64 ((mn (mn m0_1 m0_1) m0_3) - (wr64 (Int.tdiv (wr64 (w1 + 1)) 2))))]), (85, .agg #[.int .i64 (wr64 ((mx (mx m0_0 m0_0) m0_2) + (wr64 (Int.tdiv (wr64 (w1 + 1)) 2)))), .int .i64 (wr64 ((mx (mx m0_1 m0_1) m0_3) + (wr64 (Int.tdiv (wr64 (w1 + 1)) 2))))])] (by kernel_rfl) (by kernel_rfl) hg_3ffff
    have hg_3feff : G [true, true, true, true, true, true, true, true, false, true, true, true, true, true, true, true, true, true, false, false, false] [(4, .pointer (some ⟨b39, 0, none⟩)), (5, .pointer (some ⟨b40, 0, none⟩)), (71, .int .i64 (wr64 ((mn (mn m0_0 m0_0) m0_2) - (wr64 (Int.tdiv (wr64 (w1 + 1)) 2))))), (75, .int .i64 (wr64 ((mn (mn m0_1 m0_1) m0_3) - (wr64 (Int.tdiv (wr64 (w1 + 1)) 2))))), (85, .agg #[.int .i64 (wr64 ((mx (mx m0_0 m0_0) m0_2) + (wr64 (Int.tdiv (wr64 (w1 + 1)) 2)))), .int .i64 (wr64 ((mx (mx m0_1 m0_1) m0_3) + (wr64 (Int.tdiv (wr64 (w1 + 1)) 2))))])] ([⟨b45, [.int .i64 m0_2, .int .i64 m0_3], 2⟩, ⟨b44, [.int .i64 m0_0, .int .i64 m0_1], 2⟩, ⟨b43, [.int .i64 m0_0, .int .i64 m0_1, .int .i64 m0_2, .int .i64 m0_3], 4⟩, ⟨g42, [.int .i64 (mx (mx m0_0 m0_0) m0_2), .int .i64 (mx (mx m0_1 m0_1) m0_3)], 2⟩, ⟨g41, [.int .i64 (mn (mn m0_0 m0_0) m0_2), .int .i64 (mn (mn m0_1 m0_1) m0_3)], 2⟩, ⟨b40, [.int .i64 0, .int .i64 0], 2⟩, ⟨b39, [.int .i64 0, .int .i64 0], 2⟩, ⟨B0, [.int .i64 m0_0, .int .i64 m0_1, .int .i64 m0_2, .int .i64 m0_3], 4⟩] : List Own) := by
      exact hqf 8 [4, 5, 76, 85] _ _ _ [(4, .pointer (some ⟨b39, 0, none⟩)), (5, .pointer (some ⟨b40, 0, none⟩)), (76, .agg #[.int .i64 (wr64 ((mn (mn m0_0 m0_0) m0_2) - (wr64 (Int.tdiv (wr64 (w1 + 1)) 2)))), .int .i64 (wr64 ((mn (mn m0_1 m0_1) m0_3) - (wr64 (Int.tdiv (wr64 (w1 + 1)) 2))))]), (85, .agg #[.int .i64 (wr64 ((mx (mx m0_0 m0_0) m0_2) + (wr64 (Int.tdiv (wr64 (w1 + 1)) 2)))), .int .i64 (wr64 ((mx (mx m0_1 m0_1) m0_3) + (wr64 (Int.tdiv (wr64 (w1 + 1)) 2))))])] (by kernel_rfl) (by kernel_rfl) hg_3ffff
    have hg_4bfff : G [true, true, true, true, true, true, true, true, true, true, true, true, true, true, false, true, false, false, true, false, false] [(4, .pointer (some ⟨b39, 0, none⟩)), (5, .pointer (some ⟨b40, 0, none⟩)), (80, .int .i64 (wr64 ((mx (mx m0_0 m0_0) m0_2) + (wr64 (Int.tdiv (wr64 (w1 + 1)) 2))))), (81, .pointer (some ⟨g42, 1, none⟩)), (83, .int .i64 (wr64 (Int.tdiv (wr64 (w1 + 1)) 2)))] ([⟨b45, [.int .i64 m0_2, .int .i64 m0_3], 2⟩, ⟨b44, [.int .i64 m0_0, .int .i64 m0_1], 2⟩, ⟨b43, [.int .i64 m0_0, .int .i64 m0_1, .int .i64 m0_2, .int .i64 m0_3], 4⟩, ⟨g42, [.int .i64 (mx (mx m0_0 m0_0) m0_2), .int .i64 (mx (mx m0_1 m0_1) m0_3)], 2⟩, ⟨g41, [.int .i64 (mn (mn m0_0 m0_0) m0_2), .int .i64 (mn (mn m0_1 m0_1) m0_3)], 2⟩, ⟨b40, [.int .i64 0, .int .i64 0], 2⟩, ⟨b39, [.int .i64 (wr64 ((mn (mn m0_0 m0_0) m0_2) - (wr64 (Int.tdiv (wr64 (w1 + 1)) 2)))), .int .i64 (wr64 ((mn (mn m0_1 m0_1) m0_3) - (wr64 (Int.tdiv (wr64 (w1 + 1)) 2))))], 2⟩, ⟨B0, [.int .i64 m0_0, .int .i64 m0_1, .int .i64 m0_2, .int .i64 m0_3], 4⟩] : List Own) := by
      refine hstep [14] _ _ _ (by kernel_rfl) (List.cons_ne_nil _ _) ⟨?_, trivial⟩
      · show T _ _ _ _ _ _ _ _
        refine t_v (.ld1 rfl rfl rfl (.at 3 rfl rfl)) ?_
        refine t_keep [4, 5, 80, 82, 83] (σ' := [(4, .pointer (some ⟨b39, 0, none⟩)), (5, .pointer (some ⟨b40, 0, none⟩)), (80, .int .i64 (wr64 ((mx (mx m0_0 m0_0) m0_2) + (wr64 (Int.tdiv (wr64 (w1 + 1)) 2))))), (82, .int .i64 (mx (mx m0_1 m0_1) m0_3)), (83, .int .i64 (wr64 (Int.tdiv (wr64 (w1 + 1)) 2)))]) (by kernel_rfl) ?_
        refine t_end ?_
        exact ⟨hg_4ffff, rfl⟩
    have hg_ffff : G [true, true, true, true, true, true, true, true, true, true, true, true, true, true, true, true, false, false, false, false, false] [(4, .pointer (some ⟨b39, 0, none⟩)), (5, .pointer (some ⟨b40, 0, none⟩)), (76, .agg #[.int .i64 (wr64 ((mn (mn m0_0 m0_0) m0_2) - (wr64 (Int.tdiv (wr64 (w1 + 1)) 2)))), .int .i64 (wr64 ((mn (mn m0_1 m0_1) m0_3) - (wr64 (Int.tdiv (wr64 (w1 + 1)) 2))))]), (80, .int .i64 (wr64 ((mx (mx m0_0 m0_0) m0_2) + (wr64 (Int.tdiv (wr64 (w1 + 1)) 2))))), (82, .int .i64 (mx (mx m0_1 m0_1) m0_3)), (83, .int .i64 (wr64 (Int.tdiv (wr64 (w1 + 1)) 2)))] ([⟨b45, [.int .i64 m0_2, .int .i64 m0_3], 2⟩, ⟨b44, [.int .i64 m0_0, .int .i64 m0_1], 2⟩, ⟨b43, [.int .i64 m0_0, .int .i64 m0_1, .int .i64 m0_2, .int .i64 m0_3], 4⟩, ⟨g42, [.int .i64 (mx (mx m0_0 m0_0) m0_2), .int .i64 (mx (mx m0_1 m0_1) m0_3)], 2⟩, ⟨g41, [.int .i64 (mn (mn m0_0 m0_0) m0_2), .int .i64 (mn (mn m0_1 m0_1) m0_3)], 2⟩, ⟨b40, [.int .i64 0, .int .i64 0], 2⟩, ⟨b39, [.int .i64 0, .int .i64 0], 2⟩, ⟨B0, [.int .i64 m0_0, .int .i64 m0_1, .int .i64 m0_2, .int .i64 m0_3], 4⟩] : List Own) := by
      exact hqf 16 [4, 5, 76, 80, 84] _ _ _ [(4, .pointer (some ⟨b39, 0, none⟩)), (5, .pointer (some ⟨b40, 0, none⟩)), (76, .agg #[.int .i64 (wr64 ((mn (mn m0_0 m0_0) m0_2) - (wr64 (Int.tdiv (wr64 (w1 + 1)) 2)))), .int .i64 (wr64 ((mn (mn m0_1 m0_1) m0_3) - (wr64 (Int.tdiv (wr64 (w1 + 1)) 2))))]), (80, .int .i64 (wr64 ((mx (mx m0_0 m0_0) m0_2) + (wr64 (Int.tdiv (wr64 (w1 + 1)) 2))))), (84, .int .i64 (wr64 ((mx (mx m0_1 m0_1) m0_3) + (wr64 (Int.tdiv (wr64 (w1 + 1)) 2)))))] (by kernel_rfl) (by kernel_rfl) hg_1ffff
    have hg_3fef7 : G [true, true, true, false, true, true, true, true, false, true, true, true, true, true, true, true, true, true, false, false, false] [(4, .pointer (some ⟨b39, 0, none⟩)), (5, .pointer (some ⟨b40, 0, none⟩)), (69, .int .i64 (mn (mn m0_0 m0_0) m0_2)), (70, .int .i64 (wr64 (Int.tdiv (wr64 (w1 + 1)) 2))), (75, .int .i64 (wr64 ((mn (mn m0_1 m0_1) m0_3) - (wr64 (Int.tdiv (wr64 (w1 + 1)) 2))))), (85, .agg #[.int .i64 (wr64 ((mx (mx m0_0 m0_0) m0_2) + (wr64 (Int.tdiv (wr64 (w1 + 1)) 2)))), .int .i64 (wr64 ((mx (mx m0_1 m0_1) m0_3) + (wr64 (Int.tdiv (wr64 (w1 + 1)) 2))))])] ([⟨b45, [.int .i64 m0_2, .int .i64 m0_3], 2⟩, ⟨b44, [.int .i64 m0_0, .int .i64 m0_1], 2⟩, ⟨b43, [.int .i64 m0_0, .int .i64 m0_1, .int .i64 m0_2, .int .i64 m0_3], 4⟩, ⟨g42, [.int .i64 (mx (mx m0_0 m0_0) m0_2), .int .i64 (mx (mx m0_1 m0_1) m0_3)], 2⟩, ⟨g41, [.int .i64 (mn (mn m0_0 m0_0) m0_2), .int .i64 (mn (mn m0_1 m0_1) m0_3)], 2⟩, ⟨b40, [.int .i64 0, .int .i64 0], 2⟩, ⟨b39, [.int .i64 0, .int .i64 0], 2⟩, ⟨B0, [.int .i64 m0_0, .int .i64 m0_1, .int .i64 m0_2, .int .i64 m0_3], 4⟩] : List Own) := by
      exact hqf 3 [4, 5, 71, 75, 85] _ _ _ [(4, .pointer (some ⟨b39, 0, none⟩)), (5, .pointer (some ⟨b40, 0, none⟩)), (71, .int .i64 (wr64 ((mn (mn m0_0 m0_0) m0_2) - (wr64 (Int.tdiv (wr64 (w1 + 1)) 2))))), (75, .int .i64 (wr64 ((mn (mn m0_1 m0_1) m0_3) - (wr64 (Int.tdiv (wr64 (w1 + 1)) 2))))), (85, .agg #[.int .i64 (wr64 ((mx (mx m0_0 m0_0) m0_2) + (wr64 (Int.tdiv (wr64 (w1 + 1)) 2)))), .int .i64 (wr64 ((mx (mx m0_1 m0_1) m0_3) + (wr64 (Int.tdiv (wr64 (w1 + 1)) 2))))])] (by kernel_rfl) (by kernel_rfl) hg_3feff
    have hg_5ebff : G [true, true, true, true, true, true, true, true, true, true, false, true, false, true, true, true, true, false, true, false, false] [(4, .pointer (some ⟨b39, 0, none⟩)), (5, .pointer (some ⟨b40, 0, none⟩)), (77, .pointer (some ⟨g42, 0, none⟩)), (79, .int .i64 (wr64 (Int.tdiv (wr64 (w1 + 1)) 2))), (84, .int .i64 (wr64 ((mx (mx m0_1 m0_1) m0_3) + (wr64 (Int.tdiv (wr64 (w1 + 1)) 2)))))] ([⟨b45, [.int .i64 m0_2, .int .i64 m0_3], 2⟩, ⟨b44, [.int .i64 m0_0, .int .i64 m0_1], 2⟩, ⟨b43, [.int .i64 m0_0, .int .i64 m0_1, .int .i64 m0_2, .int .i64 m0_3], 4⟩, ⟨g42, [.int .i64 (mx (mx m0_0 m0_0) m0_2), .int .i64 (mx (mx m0_1 m0_1) m0_3)], 2⟩, ⟨g41, [.int .i64 (mn (mn m0_0 m0_0) m0_2), .int .i64 (mn (mn m0_1 m0_1) m0_3)], 2⟩, ⟨b40, [.int .i64 0, .int .i64 0], 2⟩, ⟨b39, [.int .i64 (wr64 ((mn (mn m0_0 m0_0) m0_2) - (wr64 (Int.tdiv (wr64 (w1 + 1)) 2)))), .int .i64 (wr64 ((mn (mn m0_1 m0_1) m0_3) - (wr64 (Int.tdiv (wr64 (w1 + 1)) 2))))], 2⟩, ⟨B0, [.int .i64 m0_0, .int .i64 m0_1, .int .i64 m0_2, .int .i64 m0_3], 4⟩] : List Own) := by
      refine hstep [10] _ _ _ (by kernel_rfl) (List.cons_ne_nil _ _) ⟨?_, trivial⟩
      · show T _ _ _ _ _ _ _ _
        refine t_v (.ld1 rfl rfl rfl (.at 3 rfl rfl)) ?_
        refine t_keep [4, 5, 78, 79, 84] (σ' := [(4, .pointer (some ⟨b39, 0, none⟩)), (5, .pointer (some ⟨b40, 0, none⟩)), (78, .int .i64 (mx (mx m0_0 m0_0) m0_2)), (79, .int .i64 (wr64 (Int.tdiv (wr64 (w1 + 1)) 2))), (84, .int .i64 (wr64 ((mx (mx m0_1 m0_1) m0_3) + (wr64 (Int.tdiv (wr64 (w1 + 1)) 2)))))]) (by kernel_rfl) ?_
        refine t_end ?_
        exact ⟨hg_5efff, rfl⟩
    have hg_1efff : G [true, true, true, true, true, true, true, true, true, true, true, true, false, true, true, true, true, false, false, false, false] [(4, .pointer (some ⟨b39, 0, none⟩)), (5, .pointer (some ⟨b40, 0, none⟩)), (76, .agg #[.int .i64 (wr64 ((mn (mn m0_0 m0_0) m0_2) - (wr64 (Int.tdiv (wr64 (w1 + 1)) 2)))), .int .i64 (wr64 ((mn (mn m0_1 m0_1) m0_3) - (wr64 (Int.tdiv (wr64 (w1 + 1)) 2))))]), (78, .int .i64 (mx (mx m0_0 m0_0) m0_2)), (79, .int .i64 (wr64 (Int.tdiv (wr64 (w1 + 1)) 2))), (84, .int .i64 (wr64 ((mx (mx m0_1 m0_1) m0_3) + (wr64 (Int.tdiv (wr64 (w1 + 1)) 2)))))] ([⟨b45, [.int .i64 m0_2, .int .i64 m0_3], 2⟩, ⟨b44, [.int .i64 m0_0, .int .i64 m0_1], 2⟩, ⟨b43, [.int .i64 m0_0, .int .i64 m0_1, .int .i64 m0_2, .int .i64 m0_3], 4⟩, ⟨g42, [.int .i64 (mx (mx m0_0 m0_0) m0_2), .int .i64 (mx (mx m0_1 m0_1) m0_3)], 2⟩, ⟨g41, [.int .i64 (mn (mn m0_0 m0_0) m0_2), .int .i64 (mn (mn m0_1 m0_1) m0_3)], 2⟩, ⟨b40, [.int .i64 0, .int .i64 0], 2⟩, ⟨b39, [.int .i64 0, .int .i64 0], 2⟩, ⟨B0, [.int .i64 m0_0, .int .i64 m0_1, .int .i64 m0_2, .int .i64 m0_3], 4⟩] : List Own) := by
      exact hqf 12 [4, 5, 76, 80, 84] _ _ _ [(4, .pointer (some ⟨b39, 0, none⟩)), (5, .pointer (some ⟨b40, 0, none⟩)), (76, .agg #[.int .i64 (wr64 ((mn (mn m0_0 m0_0) m0_2) - (wr64 (Int.tdiv (wr64 (w1 + 1)) 2)))), .int .i64 (wr64 ((mn (mn m0_1 m0_1) m0_3) - (wr64 (Int.tdiv (wr64 (w1 + 1)) 2))))]), (80, .int .i64 (wr64 ((mx (mx m0_0 m0_0) m0_2) + (wr64 (Int.tdiv (wr64 (w1 + 1)) 2))))), (84, .int .i64 (wr64 ((mx (mx m0_1 m0_1) m0_3) + (wr64 (Int.tdiv (wr64 (w1 + 1)) 2)))))] (by kernel_rfl) (by kernel_rfl) hg_1ffff
    have hg_3fe7f : G [true, true, true, true, true, true, true, false, false, true, true, true, true, true, true, true, true, true, false, false, false] [(4, .pointer (some ⟨b39, 0, none⟩)), (5, .pointer (some ⟨b40, 0, none⟩)), (71, .int .i64 (wr64 ((mn (mn m0_0 m0_0) m0_2) - (wr64 (Int.tdiv (wr64 (w1 + 1)) 2))))), (73, .int .i64 (mn (mn m0_1 m0_1) m0_3)), (74, .int .i64 (wr64 (Int.tdiv (wr64 (w1 + 1)) 2))), (85, .agg #[.int .i64 (wr64 ((mx (mx m0_0 m0_0) m0_2) + (wr64 (Int.tdiv (wr64 (w1 + 1)) 2)))), .int .i64 (wr64 ((mx (mx m0_1 m0_1) m0_3) + (wr64 (Int.tdiv (wr64 (w1 + 1)) 2))))])] ([⟨b45, [.int .i64 m0_2, .int .i64 m0_3], 2⟩, ⟨b44, [.int .i64 m0_0, .int .i64 m0_1], 2⟩, ⟨b43, [.int .i64 m0_0, .int .i64 m0_1, .int .i64 m0_2, .int .i64 m0_3], 4⟩, ⟨g42, [.int .i64 (mx (mx m0_0 m0_0) m0_2), .int .i64 (mx (mx m0_1 m0_1) m0_3)], 2⟩, ⟨g41, [.int .i64 (mn (mn m0_0 m0_0) m0_2), .int .i64 (mn (mn m0_1 m0_1) m0_3)], 2⟩, ⟨b40, [.int .i64 0, .int .i64 0], 2⟩, ⟨b39, [.int .i64 0, .int .i64 0], 2⟩, ⟨B0, [.int .i64 m0_0, .int .i64 m0_1, .int .i64 m0_2, .int .i64 m0_3], 4⟩] : List Own) := by
      exact hqf 7 [4, 5, 71, 75, 85] _ _ _ [(4, .pointer (some ⟨b39, 0, none⟩)), (5, .pointer (some ⟨b40, 0, none⟩)), (71, .int .i64 (wr64 ((mn (mn m0_0 m0_0) m0_2) - (wr64 (Int.tdiv (wr64 (w1 + 1)) 2))))), (75, .int .i64 (wr64 ((mn (mn m0_1 m0_1) m0_3) - (wr64 (Int.tdiv (wr64 (w1 + 1)) 2))))), (85, .agg #[.int .i64 (wr64 ((mx (mx m0_0 m0_0) m0_2) + (wr64 (Int.tdiv (wr64 (w1 + 1)) 2)))), .int .i64 (wr64 ((mx (mx m0_1 m0_1) m0_3) + (wr64 (Int.tdiv (wr64 (w1 + 1)) 2))))])] (by kernel_rfl) (by kernel_rfl) hg_3feff
    have hg_4ebff : G [true, true, true, true, true, true, true, true, true, true, false, true, false, true, true, true, false, false, true, false, false] [(4, .pointer (some ⟨b39, 0, none⟩)), (5, .pointer (some ⟨b40, 0, none⟩)), (77, .pointer (some ⟨g42, 0, none⟩)), (79, .int .i64 (wr64 (Int.tdiv (wr64 (w1 + 1)) 2))), (82, .int .i64 (mx (mx m0_1 m0_1) m0_3)), (83, .int .i64 (wr64 (Int.tdiv (wr64 (w1 + 1)) 2)))] ([⟨b45, [.int .i64 m0_2, .int .i64 m0_3], 2⟩, ⟨b44, [.int .i64 m0_0, .int .i64 m0_1], 2⟩, ⟨b43, [.int .i64 m0_0, .int .i64 m0_1, .int .i64 m0_2, .int .i64 m0_3], 4⟩, ⟨g42, [.int .i64 (mx (mx m0_0 m0_0) m0_2), .int .i64 (mx (mx m0_1 m0_1) m0_3)], 2⟩, ⟨g41, [.int .i64 (mn (mn m0_0 m0_0) m0_2), .int .i64 (mn (mn m0_1 m0_1) m0_3)], 2⟩, ⟨b40, [.int .i64 0, .int .i64 0], 2⟩, ⟨b39, [.int .i64 (wr64 ((mn (mn m0_0 m0_0) m0_2) - (wr64 (Int.tdiv (wr64 (w1 + 1)) 2)))), .int .i64 (wr64 ((mn (mn m0_1 m0_1) m0_3) - (wr64 (Int.tdiv (wr64 (w1 + 1)) 2))))], 2⟩, ⟨B0, [.int .i64 m0_0, .int .i64 m0_1, .int .i64 m0_2, .int .i64 m0_3], 4⟩] : List Own) := by
      exact hqf 16 [4, 5, 77, 79, 84] _ _ _ [(4, .pointer (some ⟨b39, 0, none⟩)), (5, .pointer (some ⟨b40, 0, none⟩)), (77, .pointer (some ⟨g42, 0, none⟩)), (79, .int .i64 (wr64 (Int.tdiv (wr64 (w1 + 1)) 2))), (84, .int .i64 (wr64 ((mx (mx m0_1 m0_1) m0_3) + (wr64 (Int.tdiv (wr64 (w1 + 1)) 2)))))] (by kernel_rfl) (by kernel_rfl) hg_5ebff
    have hg_4afff : G [true, true, true, true, true, true, true, true, true, true, true, true, false, true, false, true, false, false, true, false, false] [(4, .pointer (some ⟨b39, 0, none⟩)), (5, .pointer (some ⟨b40, 0, none⟩)), (78, .int .i64 (mx (mx m0_0 m0_0) m0_2)), (79, .int .i64 (wr64 (Int.tdiv (wr64 (w1 + 1)) 2))), (81, .pointer (some ⟨g42, 1, none⟩)), (83, .int .i64 (wr64 (Int.tdiv (wr64 (w1 + 1)) 2)))] ([⟨b45, [.int .i64 m0_2, .int .i64 m0_3], 2⟩, ⟨b44, [.int .i64 m0_0, .int .i64 m0_1], 2⟩, ⟨b43, [.int .i64 m0_0, .int .i64 m0_1, .int .i64 m0_2, .int .i64 m0_3], 4⟩, ⟨g42, [.int .i64 (mx (mx m0_0 m0_0) m0_2), .int .i64 (mx (mx m0_1 m0_1) m0_3)], 2⟩, ⟨g41, [.int .i64 (mn (mn m0_0 m0_0) m0_2), .int .i64 (mn (mn m0_1 m0_1) m0_3)], 2⟩, ⟨b40, [.int .i64 0, .int .i64 0], 2⟩, ⟨b39, [.int .i64 (wr64 ((mn (mn m0_0 m0_0) m0_2) - (wr64 (Int.tdiv (wr64 (w1 + 1)) 2)))), .int .i64 (wr64 ((mn (mn m0_1 m0_1) m0_3) - (wr64 (Int.tdiv (wr64 (w1 + 1)) 2))))], 2⟩, ⟨B0, [.int .i64 m0_0, .int .i64 m0_1, .int .i64 m0_2, .int .i64 m0_3], 4⟩] : List Own) := by
      exact hqf 12 [4, 5, 80, 81, 83] _ _ _ [(4, .pointer (some ⟨b39, 0, none⟩)), (5, .pointer (some ⟨b40, 0, none⟩)), (80, .int .i64 (wr64 ((mx (mx m0_0 m0_0) m0_2) + (wr64 (Int.tdiv (wr64 (w1 + 1)) 2))))), (81, .pointer (some ⟨g42, 1, none⟩)), (83, .int .i64 (wr64 (Int.tdiv (wr64 (w1 + 1)) 2)))] (by kernel_rfl) (by kernel_rfl) hg_4bfff
    have hg_bfff : G [true, true, true, true, true, true, true, true, true, true, true, true, true, true, false, true, false, false, false, false, false] [(4, .pointer (some ⟨b39, 0, none⟩)), (5, .pointer (some ⟨b40, 0, none⟩)), (76, .agg #[.int .i64 (wr64 ((mn (mn m0_0 m0_0) m0_2) - (wr64 (Int.tdiv (wr64 (w1 + 1)) 2)))), .int .i64 (wr64 ((mn (mn m0_1 m0_1) m0_3) - (wr64 (Int.tdiv (wr64 (w1 + 1)) 2))))]), (80, .int .i64 (wr64 ((mx (mx m0_0 m0_0) m0_2) + (wr64 (Int.tdiv (wr64 (w1 + 1)) 2))))), (81, .pointer (some ⟨g42, 1, none⟩)), (83, .int .i64 (wr64 (Int.tdiv (wr64 (w1 + 1)) 2)))] ([⟨b45, [.int .i64 m0_2, .int .i64 m0_3], 2⟩, ⟨b44, [.int .i64 m0_0, .int .i64 m0_1], 2⟩, ⟨b43, [.int .i64 m0_0, .int .i64 m0_1, .int .i64 m0_2, .int .i64 m0_3], 4⟩, ⟨g42, [.int .i64 (mx (mx m0_0 m0_0) m0_2), .int .i64 (mx (mx m0_1 m0_1) m0_3)], 2⟩, ⟨g41, [.int .i64 (mn (mn m0_0 m0_0) m0_2), .int .i64 (mn (mn m0_1 m0_1) m0_3)], 2⟩, ⟨b40, [.int .i64 0, .int .i64 0], 2⟩, ⟨b39, [.int .i64 0, .int .i64 0], 2⟩, ⟨B0, [.int .i64 m0_0, .int .i64 m0_1, .int .i64 m0_2, .int .i64 m0_3], 4⟩] : List Own) := by
      refine hstep [14, 18] _ _ _ (by kernel_rfl) (List.cons_ne_nil _ _) ⟨?_, ?_, trivial⟩
      · show T _ _ _ _ _ _ _ _
        refine t_v (.ld1 rfl rfl rfl (.at 3 rfl rfl)) ?_
        refine t_keep [4, 5, 76, 80, 82, 83] (σ' := [(4, .pointer (some ⟨b39, 0, none⟩)), (5, .pointer (some ⟨b40, 0, none⟩)), (76, .agg #[.int .i64 (wr64 ((mn (mn m0_0 m0_0) m0_2) - (wr64 (Int.tdiv (wr64 (w1 + 1)) 2)))), .int .i64 (wr64 ((mn (mn m0_1 m0_1) m0_3) - (wr64 (Int.tdiv (wr64 (w1 + 1)) 2))))]), (80, .int .i64 (wr64 ((mx (mx m0_0 m0_0) m0_2) + (wr64 (Int.tdiv (wr64 (w1 + 1)) 2))))), (82, .int .i64 (mx (mx m0_1 m0_1) m0_3)), (83, .int .i64 (wr64 (Int.tdiv (wr64 (w1 + 1)) 2)))]) (by kernel_rfl) ?_
        refine t_end ?_
        exact ⟨hg_ffff, rfl⟩
      · show T _ _ _ _ _ _ _ _
        refine t_sti 6 (cs := [.int .i64 (wr64 ((mn (mn m0_0 m0_0) m0_2) - (wr64 (Int.tdiv (wr64 (w1 + 1)) 2)))), .int .i64 (wr64 ((mn (mn m0_1 m0_1) m0_3) - (wr64 (Int.tdiv (wr64 (w1 + 1)) 2))))]) rfl rfl rfl rfl rfl rfl rfl rfl rfl ?_
        refine t_keep [4, 5, 80, 81, 83] (σ' := [(4, .pointer (some ⟨b39, 0, none⟩)), (5, .pointer (some ⟨b40, 0, none⟩)), (80, .int .i64 (wr64 ((mx (mx m0_0 m0_0) m0_2) + (wr64 (Int.tdiv (wr64 (w1 + 1)) 2))))), (81, .pointer (some ⟨g42, 1, none⟩)), (83, .int .i64 (wr64 (Int.tdiv (wr64 (w1 + 1)) 2)))]) (by kernel_rfl) ?_
        refine t_end ?_
        exact ⟨hg_4bfff, rfl⟩
    have hg_3fe5f : G [true, true, true, true, true, false, true, false, false, true, true, true, true, true, true, true, true, true, false, false, false] [(4, .pointer (some ⟨b39, 0, none⟩)), (5, .pointer (some ⟨b40, 0, none⟩)), (71, .int .i64 (wr64 ((mn (mn m0_0 m0_0) m0_2) - (wr64 (Int.tdiv (wr64 (w1 + 1)) 2))))), (72, .pointer (some ⟨g41, 1, none⟩)), (74, .int .i64 (wr64 (Int.tdiv (wr64 (w1 + 1)) 2))), (85, .agg #[.int .i64 (wr64 ((mx (mx m0_0 m0_0) m0_2) + (wr64 (Int.tdiv (wr64 (w1 + 1)) 2)))), .int .i64 (wr64 ((mx (mx m0_1 m0_1) m0_3) + (wr64 (Int.tdiv (wr64 (w1 + 1)) 2))))])] ([⟨b45, [.int .i64 m0_2, .int .i64 m0_3], 2⟩, ⟨b44, [.int .i64 m0_0, .int .i64 m0_1], 2⟩, ⟨b43, [.int .i64 m0_0, .int .i64 m0_1, .int .i64 m0_2, .int .i64 m0_3], 4⟩, ⟨g42, [.int .i64 (mx (mx m0_0 m0_0) m0_2), .int .i64 (mx (mx m0_1 m0_1) m0_3)], 2⟩, ⟨g41, [.int .i64 (mn (mn m0_0 m0_0) m0_2), .int .i64 (mn (mn m0_1 m0_1) m0_3)], 2⟩, ⟨b40, [.int .i64 0, .int .i64 0], 2⟩, ⟨b39, [.int .i64 0, .int .i64 0], 2⟩, ⟨B0, [.int .i64 m0_0, .int .i64 m0_1, .int .i64 m0_2, .int .i64 m0_3], 4⟩] : List Own) := by
      refine hstep [5] _ _ _ (by kernel_rfl) (List.cons_ne_nil _ _) ⟨?_, trivial⟩
      · show T _ _ _ _ _ _ _ _
        refine t_v (.ld1 rfl rfl rfl (.at 4 rfl rfl)) ?_
        refine t_keep [4, 5, 71, 73, 74, 85] (σ' := [(4, .pointer (some ⟨b39, 0, none⟩)), (5, .pointer (some ⟨b40, 0, none⟩)), (71, .int .i64 (wr64 ((mn (mn m0_0 m0_0) m0_2) - (wr64 (Int.tdiv (wr64 (w1 + 1)) 2))))), (73, .int .i64 (mn (mn m0_1 m0_1) m0_3)), (74, .int .i64 (wr64 (Int.tdiv (wr64 (w1 + 1)) 2))), (85, .agg #[.int .i64 (wr64 ((mx (mx m0_0 m0_0) m0_2) + (wr64 (Int.tdiv (wr64 (w1 + 1)) 2)))), .int .i64 (wr64 ((mx (mx m0_1 m0_1) m0_3) + (wr64 (Int.tdiv (wr64 (w1 + 1)) 2))))])]) (by kernel_rfl) ?_
        refine t_end ?_
        exact ⟨hg_3fe7f, rfl⟩
    have hg_1ebff : G [true, true, true, true, true, true, true, true, true, true, false, true, false, true, true, true, true, false, false, false, false] [(4, .pointer (some ⟨b39, 0, none⟩)), (5, .pointer (some ⟨b40, 0, none⟩)), (76, .agg #[.int .i64 (wr64 ((mn (mn m0_0 m0_0) m0_2) - (wr64 (Int.tdiv (wr64 (w1 + 1)) 2)))), .int .i64 (wr64 ((mn (mn m0_1 m0_1) m0_3) - (wr64 (Int.tdiv (wr64 (w1 + 1)) 2))))]), (77, .pointer (some ⟨g42, 0, none⟩)), (79, .int .i64 (wr64 (Int.tdiv (wr64 (w1 + 1)) 2))), (84, .int .i64 (wr64 ((mx (mx m0_1 m0_1) m0_3) + (wr64 (Int.tdiv (wr64 (w1 + 1)) 2)))))] ([⟨b45, [.int .i64 m0_2, .int .i64 m0_3], 2⟩, ⟨b44, [.int .i64 m0_0, .int .i64 m0_1], 2⟩, ⟨b43, [.int .i64 m0_0, .int .i64 m0_1, .int .i64 m0_2, .int .i64 m0_3], 4⟩, ⟨g42, [.int .i64 (mx (mx m0_0 m0_0) m0_2), .int .i64 (mx (mx m0_1 m0_1) m0_3)], 2⟩, ⟨g41, [.int .i64 (mn (mn m0_0 m0_0) m0_2), .int .i64 (mn (mn m0_1 m0_1) m0_3)], 2⟩, ⟨b40, [.int .i64 0, .int .i64 0], 2⟩, ⟨b39, [.int .i64 0, .int .i64 0], 2⟩, ⟨B0, [.int .i64 m0_0, .int .i64 m0_1, .int .i64 m0_2, .int .i64 m0_3], 4⟩] : List Own) := by
      refine hstep [10, 18] _ _ _ (by kernel_rfl) (List.cons_ne_nil _ _) ⟨?_, ?_, trivial⟩
      · show T _ _ _ _ _ _ _ _
        refine t_v (.ld1 rfl rfl rfl (.at 3 rfl rfl)) ?_
        refine t_keep [4, 5, 76, 78, 79, 84] (σ' := [(4, .pointer (some ⟨b39, 0, none⟩)), (5, .pointer (some ⟨b40, 0, none⟩)), (76, .agg #[.int .i64 (wr64 ((mn (mn m0_0 m0_0) m0_2) - (wr64 (Int.tdiv (wr64 (w1 + 1)) 2)))), .int .i64 (wr64 ((mn (mn m0_1 m0_1) m0_3) - (wr64 (Int.tdiv (wr64 (w1 + 1)) 2))))]), (78, .int .i64 (mx (mx m0_0 m0_0) m0_2)), (79, .int .i64 (wr64 (Int.tdiv (wr64 (w1 + 1)) 2))), (84, .int .i64 (wr64 ((mx (mx m0_1 m0_1) m0_3) + (wr64 (Int.tdiv (wr64 (w1 + 1)) 2)))))]) (by kernel_rfl) ?_
        refine t_end ?_
        exact ⟨hg_1efff, rfl⟩
      · show T _ _ _ _ _ _ _ _
        refine t_sti 6 (cs := [.int .i64 (wr64 ((mn (mn m0_0 m0_0) m0_2) - (wr64 (Int.tdiv (wr64 (w1 + 1)) 2)))), .int .i64 (wr64 ((mn (mn m0_1 m0_1) m0_3) - (wr64 (Int.tdiv (wr64 (w1 + 1)) 2))))]) rfl rfl rfl rfl rfl rfl rfl rfl rfl ?_
        refine t_keep [4, 5, 77, 79, 84] (σ' := [(4, .pointer (some ⟨b39, 0, none⟩)), (5, .pointer (some ⟨b40, 0, none⟩)), (77, .pointer (some ⟨g42, 0, none⟩)), (79, .int .i64 (wr64 (Int.tdiv (wr64 (w1 + 1)) 2))), (84, .int .i64 (wr64 ((mx (mx m0_1 m0_1) m0_3) + (wr64 (Int.tdiv (wr64 (w1 + 1)) 2)))))]) (by kernel_rfl) ?_
        refine t_end ?_
        exact ⟨hg_5ebff, rfl⟩
    have hg_3fef5 : G [true, false, true, false, true, true, true, true, false, true, true, true, true, true, true, true, true, true, false, false, false] [(4, .pointer (some ⟨b39, 0, none⟩)), (5, .pointer (some ⟨b40, 0, none⟩)), (68, .pointer (some ⟨g41, 0, none⟩)), (70, .int .i64 (wr64 (Int.tdiv (wr64 (w1 + 1)) 2))), (75, .int .i64 (wr64 ((mn (mn m0_1 m0_1) m0_3) - (wr64 (Int.tdiv (wr64 (w1 + 1)) 2))))), (85, .agg #[.int .i64 (wr64 ((mx (mx m0_0 m0_0) m0_2) + (wr64 (Int.tdiv (wr64 (w1 + 1)) 2)))), .int .i64 (wr64 ((mx (mx m0_1 m0_1) m0_3) + (wr64 (Int.tdiv (wr64 (w1 + 1)) 2))))])] ([⟨b45, [.int .i64 m0_2, .int .i64 m0_3], 2⟩, ⟨b44, [.int .i64 m0_0, .int .i64 m0_1], 2⟩, ⟨b43, [.int .i64 m0_0, .int .i64 m0_1, .int .i64 m0_2, .int .i64 m0_3], 4⟩, ⟨g42, [.int .i64 (mx (mx m0_0 m0_0) m0_2), .int .i64 (mx (mx m0_1 m0_1) m0_3)], 2⟩, ⟨g41, [.int .i64 (mn (mn m0_0 m0_0) m0_2), .int .i64 (mn (mn m0_1 m0_1) m0_3)], 2⟩, ⟨b40, [.int .i64 0, .int .i64 0], 2⟩, ⟨b39, [.int .i64 0, .int .i64 0], 2⟩, ⟨B0, [.int .i64 m0_0, .int .i64 m0_1, .int .i64 m0_2, .int .i64 m0_3], 4⟩] : List Own) := by
      refine hstep [1] _ _ _ (by kernel_rfl) (List.cons_ne_nil _ _) ⟨?_, trivial⟩
      · show T _ _ _ _ _ _ _ _
        refine t_v (.ld1 rfl rfl rfl (.at 4 rfl rfl)) ?_
        refine t_keep [4, 5, 69, 70, 75, 85] (σ' := [(4, .pointer (some ⟨b39, 0, none⟩)), (5, .pointer (some ⟨b40, 0, none⟩)), (69, .int .i64 (mn (mn m0_0 m0_0) m0_2)), (70, .int .i64 (wr64 (Int.tdiv (wr64 (w1 + 1)) 2))), (75, .int .i64 (wr64 ((mn (mn m0_1 m0_1) m0_3) - (wr64 (Int.tdiv (wr64 (w1 + 1)) 2))))), (85, .agg #[.int .i64 (wr64 ((mx (mx m0_0 m0_0) m0_2) + (wr64 (Int.tdiv (wr64 (w1 + 1)) 2)))), .int .i64 (wr64 ((mx (mx m0_1 m0_1) m0_3) + (wr64 (Int.tdiv (wr64 (w1 + 1)) 2))))])]) (by kernel_rfl) ?_
        refine t_end ?_
        exact ⟨hg_3fef7, rfl⟩
    have hg_ebff : G [true, true, true, true, true, true, true, true, true, true, false, true, false, true, true, true, false, false, false, false, false] [(4, .pointer (some ⟨b39, 0, none⟩)), (5, .pointer (some ⟨b40, 0, none⟩)), (76, .agg #[.int .i64 (wr64 ((mn (mn m0_0 m0_0) m0_2) - (wr64 (Int.tdiv (wr64 (w1 + 1)) 2)))), .int .i64 (wr64 ((mn (mn m0_1 m0_1) m0_3) - (wr64 (Int.tdiv (wr64 (w1 + 1)) 2))))]), (77, .pointer (some ⟨g42, 0, none⟩)), (79, .int .i64 (wr64 (Int.tdiv (wr64 (w1 + 1)) 2))), (82, .int .i64 (mx (mx m0_1 m0_1) m0_3)), (83, .int .i64 (wr64 (Int.tdiv (wr64 (w1 + 1)) 2)))] ([⟨b45, [.int .i64 m0_2, .int .i64 m0_3], 2⟩, ⟨b44, [.int .i64 m0_0, .int .i64 m0_1], 2⟩, ⟨b43, [.int .i64 m0_0, .int .i64 m0_1, .int .i64 m0_2, .int .i64 m0_3], 4⟩, ⟨g42, [.int .i64 (mx (mx m0_0 m0_0) m0_2), .int .i64 (mx (mx m0_1 m0_1) m0_3)], 2⟩, ⟨g41, [.int .i64 (mn (mn m0_0 m0_0) m0_2), .int .i64 (mn (mn m0_1 m0_1) m0_3)], 2⟩, ⟨b40, [.int .i64 0, .int .i64 0], 2⟩, ⟨b39, [.int .i64 0, .int .i64 0], 2⟩, ⟨B0, [.int .i64 m0_0, .int .i64 m0_1, .int .i64 m0_2, .int .i64 m0_3], 4⟩] : List Own) := by
      exact hqf 16 [4, 5, 76, 77, 79, 84] _ _ _ [(4, .pointer (some ⟨b39, 0, none⟩)), (5, .pointer (some ⟨b40, 0, none⟩)), (76, .agg #[.int .i64 (wr64 ((mn (mn m0_0 m0_0) m0_2) - (wr64 (Int.tdiv (wr64 (w1 + 1)) 2)))), .int .i64 (wr64 ((mn (mn m0_1 m0_1) m0_3) - (wr64 (Int.tdiv (wr64 (w1 + 1)) 2))))]), (77, .pointer (some ⟨g42, 0, none⟩)), (79, .int .i64 (wr64 (Int.tdiv (wr64 (w1 + 1)) 2))), (84, .int .i64 (wr64 ((mx (mx m0_1 m0_1) m0_3) + (wr64 (Int.tdiv (wr64 (w1 + 1)) 2)))))] (by kernel_rfl) (by kernel_rfl) hg_1ebff
    have hg_afff : G [true, true, true, true, true, true, true, true, true, true, true, true, false, true, false, true, false, false, false, false, false] [(4, .pointer (some ⟨b39, 0, none⟩)), (5, .pointer (some ⟨b40, 0, none⟩)), (76, .agg #[.int .i64 (wr64 ((mn (mn m0_0 m0_0) m0_2) - (wr64 (Int.tdiv (wr64 (w1 + 1)) 2)))), .int .i64 (wr64 ((mn (mn m0_1 m0_1) m0_3) - (wr64 (Int.tdiv (wr64 (w1 + 1)) 2))))]), (78, .int .i64 (mx (mx m0_0 m0_0) m0_2)), (79, .int .i64 (wr64 (Int.tdiv (wr64 (w1 + 1)) 2))), (81, .pointer (some ⟨g42, 1, none⟩)), (83, .int .i64 (wr64 (Int.tdiv (wr64 (w1 + 1)) 2)))] ([⟨b45, [.int .i64 m0_2, .int .i64 m0_3], 2⟩, ⟨b44, [.int .i64 m0_0, .int .i64 m0_1], 2⟩, ⟨b43, [.int .i64 m0_0, .int .i64 m0_1, .int .i64 m0_2, .int .i64 m0_3], 4⟩, ⟨g42, [.int .i64 (mx (mx m0_0 m0_0) m0_2), .int .i64 (mx (mx m0_1 m0_1) m0_3)], 2⟩, ⟨g41, [.int .i64 (mn (mn m0_0 m0_0) m0_2), .int .i64 (mn (mn m0_1 m0_1) m0_3)], 2⟩, ⟨b40, [.int .i64 0, .int .i64 0], 2⟩, ⟨b39, [.int .i64 0, .int .i64 0], 2⟩, ⟨B0, [.int .i64 m0_0, .int .i64 m0_1, .int .i64 m0_2, .int .i64 m0_3], 4⟩] : List Own) := by
      exact hqf 12 [4, 5, 76, 80, 81, 83] _ _ _ [(4, .pointer (some ⟨b39, 0, none⟩)), (5, .pointer (some ⟨b40, 0, none⟩)), (76, .agg #[.int .i64 (wr64 ((mn (mn m0_0 m0_0) m0_2) - (wr64 (Int.tdiv (wr64 (w1 + 1)) 2)))), .int .i64 (wr64 ((mn (mn m0_1 m0_1) m0_3) - (wr64 (Int.tdiv (wr64 (w1 + 1)) 2))))]), (80, .int .i64 (wr64 ((mx (mx m0_0 m0_0) m0_2) + (wr64 (Int.tdiv (wr64 (w1 + 1)) 2))))), (81, .pointer (some ⟨g42, 1, none⟩)), (83, .int .i64 (wr64 (Int.tdiv (wr64 (w1 + 1)) 2)))] (by kernel_rfl) (by kernel_rfl) hg_bfff
    have hg_1fe5f : G [true, true, true, true, true, false, true, false, false, true, true, true, true, true, true, true, true, false, false, false, false] [(4, .pointer (some ⟨b39, 0, none⟩)), (5, .pointer (some ⟨b40, 0, none⟩)), (71, .int .i64 (wr64 ((mn (mn m0_0 m0_0) m0_2) - (wr64 (Int.tdiv (wr64 (w1 + 1)) 2))))), (72, .pointer (some ⟨g41, 1, none⟩)), (74, .int .i64 (wr64 (Int.tdiv (wr64 (w1 + 1)) 2))), (80, .int .i64 (wr64 ((mx (mx m0_0 m0_0) m0_2) + (wr64 (Int.tdiv (wr64 (w1 + 1)) 2))))), (84, .int .i64 (wr64 ((mx (mx m0_1 m0_1) m0_3) + (wr64 (Int.tdiv (wr64 (w1 + 1)) 2)))))] ([⟨b45, [.int .i64 m0_2, .int .i64 m0_3], 2⟩, ⟨b44, [.int .i64 m0_0, .int .i64 m0_1], 2⟩, ⟨b43, [.int .i64 m0_0, .int .i64 m0_1, .int .i64 m0_2, .int .i64 m0_3], 4⟩, ⟨g42, [.int .i64 (mx (mx m0_0 m0_0) m0_2), .int .i64 (mx (mx m0_1 m0_1) m0_3)], 2⟩, ⟨g41, [.int .i64 (mn (mn m0_0 m0_0) m0_2), .int .i64 (mn (mn m0_1 m0_1) m0_3)], 2⟩, ⟨b40, [.int .i64 0, .int .i64 0], 2⟩, ⟨b39, [.int .i64 0, .int .i64 0], 2⟩, ⟨B0, [.int .i64 m0_0, .int .i64 m0_1, .int .i64 m0_2, .int .i64 m0_3], 4⟩] : List Own) := by
      exact hqf 17 [4, 5, 71, 72, 74, 85] _ _ _ [(4, .pointer (some ⟨b39, 0, none⟩)), (5, .pointer (some ⟨b40, 0, none⟩)), (71, .int .i64 (wr64 ((mn (mn m0_0 m0_0) m0_2) - (wr64 (Int.tdiv (wr64 (w1 + 1)) 2))))), (72, .pointer (some ⟨g41, 1, none⟩)), (74, .int .i64 (wr64 (Int.tdiv (wr64 (w1 + 1)) 2))), (85, .agg #[.int .i64 (wr64 ((mx (mx m0_0 m0_0) m0_2) + (wr64 (Int.tdiv (wr64 (w1 + 1)) 2)))), .int .i64 (wr64 ((mx (mx m0_1 m0_1) m0_3) + (wr64 (Int.tdiv (wr64 (w1 + 1)) 2))))])] (by kernel_rfl) (by kernel_rfl) hg_3fe5f
    have hg_1eaff : G [true, true, true, true, true, true, true, true, false, true, false, true, false, true, true, true, true, false, false, false, false] [(4, .pointer (some ⟨b39, 0, none⟩)), (5, .pointer (some ⟨b40, 0, none⟩)), (71, .int .i64 (wr64 ((mn (mn m0_0 m0_0) m0_2) - (wr64 (Int.tdiv (wr64 (w1 + 1)) 2))))), (75, .int .i64 (wr64 ((mn (mn m0_1 m0_1) m0_3) - (wr64 (Int.tdiv (wr64 (w1 + 1)) 2))))), (77, .pointer (some ⟨g42, 0, none⟩)), (79, .int .i64 (wr64 (Int.tdiv (wr64 (w1 + 1)) 2))), (84, .int .i64 (wr64 ((mx (mx m0_1 m0_1) m0_3) + (wr64 (Int.tdiv (wr64 (w1 + 1)) 2)))))] ([⟨b45, [.int .i64 m0_2, .int .i64 m0_3], 2⟩, ⟨b44, [.int .i64 m0_0, .int .i64 m0_1], 2⟩, ⟨b43, [.int .i64 m0_0, .int .i64 m0_1, .int .i64 m0_2, .int .i64 m0_3], 4⟩, ⟨g42, [.int .i64 (mx (mx m0_0 m0_0) m0_2), .int .i64 (mx (mx m0_1 m0_1) m0_3)], 2⟩, ⟨g41, [.int .i64 (mn (mn m0_0 m0_0) m0_2), .int .i64 (mn (mn m0_1 m0_1) m0_3)], 2⟩, ⟨b40, [.int .i64 0, .int .i64 0], 2⟩, ⟨b39, [.int .i64 0, .int .i64 0], 2⟩, ⟨B0, [.int .i64 m0_0, .int .i64 m0_1, .int .i64 m0_2, .int .i64 m0_3], 4⟩] : List Own) := by
      exact hqf 8 [4, 5, 76, 77, 79, 84] _ _ _ [(4, .pointer (some ⟨b39, 0, none⟩)), (5, .pointer (some ⟨b40, 0, none⟩)), (76, .agg #[.int .i64 (wr64 ((mn (mn m0_0 m0_0) m0_2) - (wr64 (Int.tdiv (wr64 (w1 + 1)) 2)))), .int .i64 (wr64 ((mn (mn m0_1 m0_1) m0_3) - (wr64 (Int.tdiv (wr64 (w1 + 1)) 2))))]), (77, .pointer (some ⟨g42, 0, none⟩)), (79, .int .i64 (wr64 (Int.tdiv (wr64 (w1 + 1)) 2))), (84, .int .i64 (wr64 ((mx (mx m0_1 m0_1) m0_3) + (wr64 (Int.tdiv (wr64 (w1 + 1)) 2)))))] (by kernel_rfl) (by kernel_rfl) hg_1ebff
    have hg_3fe57 : G [true, true, true, false, true, false, true, false, false, true, true, true, true, true, true, true, true, true, false, false, false] [(4, .pointer (some ⟨b39, 0, none⟩)), (5, .pointer (some ⟨b40, 0, none⟩)), (69, .int .i64 (mn (mn m0_0 m0_0) m0_2)), (70, .int .i64 (wr64 (Int.tdiv (wr64 (w1 + 1)) 2))), (72, .pointer (some ⟨g41, 1, none⟩)), (74, .int .i64 (wr64 (Int.tdiv (wr64 (w1 + 1)) 2))), (85, .agg #[.int .i64 (wr64 ((mx (mx m0_0 m0_0) m0_2) + (wr64 (Int.tdiv (wr64 (w1 + 1)) 2)))), .int .i64 (wr64 ((mx (mx m0_1 m0_1) m0_3) + (wr64 (Int.tdiv (wr64 (w1 + 1)) 2))))])] ([⟨b45, [.int .i64 m0_2, .int .i64 m0_3], 2⟩, ⟨b44, [.int .i64 m0_0, .int .i64 m0_1], 2⟩, ⟨b43, [.int .i64 m0_0, .int .i64 m0_1, .int .i64 m0_2, .int .i64 m0_3], 4⟩, ⟨g42, [.int .i64 (mx (mx m0_0 m0_0) m0_2), .int .i64 (mx (mx m0_1 m0_1) m0_3)], 2⟩, ⟨g41, [.int .i64 (mn (mn m0_0 m0_0) m0_2), .int .i64 (mn (mn m0_1 m0_1) m0_3)], 2⟩, ⟨b40, [.int .i64 0, .int .i64 0], 2⟩, ⟨b39, [.int .i64 0, .int .i64 0], 2⟩, ⟨B0, [.int .i64 m0_0, .int .i64 m0_1, .int .i64 m0_2, .int .i64 m0_3], 4⟩] : List Own) := by
      exact hqf 3 [4, 5, 71, 72, 74, 85] _ _ _ [(4, .pointer (some ⟨b39, 0, none⟩)), (5, .pointer (some ⟨b40, 0, none⟩)), (71, .int .i64 (wr64 ((mn (mn m0_0 m0_0) m0_2) - (wr64 (Int.tdiv (wr64 (w1 + 1)) 2))))), (72, .pointer (some ⟨g41, 1, none⟩)), (74, .int .i64 (wr64 (Int.tdiv (wr64 (w1 + 1)) 2))), (85, .agg #[.int .i64 (wr64 ((mx (mx m0_0 m0_0) m0_2) + (wr64 (Int.tdiv (wr64 (w1 + 1)) 2)))), .int .i64 (wr64 ((mx (mx m0_1 m0_1) m0_3) + (wr64 (Int.tdiv (wr64 (w1 + 1)) 2))))])] (by kernel_rfl) (by kernel_rfl) hg_3fe5f
    have hg_beff : G [true, true, true, true, true, true, true, true, false, true, true, true, true, true, false, true, false, false, false, false, false] [(4, .pointer (some ⟨b39, 0, none⟩)), (5, .pointer (some ⟨b40, 0, none⟩)), (71, .int .i64 (wr64 ((mn (mn m0_0 m0_0) m0_2) - (wr64 (Int.tdiv (wr64 (w1 + 1)) 2))))), (75, .int .i64 (wr64 ((mn (mn m0_1 m0_1) m0_3) - (wr64 (Int.tdiv (wr64 (w1 + 1)) 2))))), (80, .int .i64 (wr64 ((mx (mx m0_0 m0_0) m0_2) + (wr64 (Int.tdiv (wr64 (w1 + 1)) 2))))), (81, .pointer (some ⟨g42, 1, none⟩)), (83, .int .i64 (wr64 (Int.tdiv (wr64 (w1 + 1)) 2)))] ([⟨b45, [.int .i64 m0_2, .int .i64 m0_3], 2⟩, ⟨b44, [.int .i64 m0_0, .int .i64 m0_1], 2⟩, ⟨b43, [.int .i64 m0_0, .int .i64 m0_1, .int .i64 m0_2, .int .i64 m0_3], 4⟩, ⟨g42, [.int .i64 (mx (mx m0_0 m0_0) m0_2), .int .i64 (mx (mx m0_1 m0_1) m0_3)], 2⟩, ⟨g41, [.int .i64 (mn (mn m0_0 m0_0) m0_2), .int .i64 (mn (mn m0_1 m0_1) m0_3)], 2⟩, ⟨b40, [.int .i64 0, .int .i64 0], 2⟩, ⟨b39, [.int .i64 0, .int .i64 0], 2⟩, ⟨B0, [.int .i64 m0_0, .int .i64 m0_1, .int .i64 m0_2, .int .i64 m0_3], 4⟩] : List Own) := by
      exact hqf 8 [4, 5, 76, 80, 81, 83] _ _ _ [(4, .pointer (some ⟨b39, 0, none⟩)), (5, .pointer (some ⟨b40, 0, none⟩)), (76, .agg #[.int .i64 (wr64 ((mn (mn m0_0 m0_0) m0_2) - (wr64 (Int.tdiv (wr64 (w1 + 1)) 2)))), .int .i64 (wr64 ((mn (mn m0_1 m0_1) m0_3) - (wr64 (Int.tdiv (wr64 (w1 + 1)) 2))))]), (80, .int .i64 (wr64 ((mx (mx m0_0 m0_0) m0_2) + (wr64 (Int.tdiv (wr64 (w1 + 1)) 2))))), (81, .pointer (some ⟨g42, 1, none⟩)), (83, .int .i64 (wr64 (Int.tdiv (wr64 (w1 + 1)) 2)))] (by kernel_rfl) (by kernel_rfl) hg_bfff
    have hg_4abff : G [true, true, true, true, true, true, true, true, true, true, false, true, false, true, false, true, false, false, true, false, false] [(4, .pointer (some ⟨b39, 0, none⟩)), (5, .pointer (some ⟨b40, 0, none⟩)), (77, .pointer (some ⟨g42, 0, none⟩)), (79, .int .i64 (wr64 (Int.tdiv (wr64 (w1 + 1)) 2))), (81, .pointer (some ⟨g42, 1, none⟩)), (83, .int .i64 (wr64 (Int.tdiv (wr64 (w1 + 1)) 2)))] ([⟨b45, [.int .i64 m0_2, .int .i64 m0_3], 2⟩, ⟨b44, [.int .i64 m0_0, .int .i64 m0_1], 2⟩, ⟨b43, [.int .i64 m0_0, .int .i64 m0_1, .int .i64 m0_2, .int .i64 m0_3], 4⟩, ⟨g42, [.int .i64 (mx (mx m0_0 m0_0) m0_2), .int .i64 (mx (mx m0_1 m0_1) m0_3)], 2⟩, ⟨g41, [.int .i64 (mn (mn m0_0 m0_0) m0_2), .int .i64 (mn (mn m0_1 m0_1) m0_3)], 2⟩, ⟨b40, [.int .i64 0, .int .i64 0], 2⟩, ⟨b39, [.int .i64 (wr64 ((mn (mn m0_0 m0_0) m0_2) - (wr64 (Int.tdiv (wr64 (w1 + 1)) 2)))), .int .i64 (wr64 ((mn (mn m0_1 m0_1) m0_3) - (wr64 (Int.tdiv (wr64 (w1 + 1)) 2))))], 2⟩, ⟨B0, [.int .i64 m0_0, .int .i64 m0_1, .int .i64 m0_2, .int .i64 m0_3], 4⟩] : List Own) := by
      refine hstep [10, 14] _ _ _ (by kernel_rfl) (List.cons_ne_nil _ _) ⟨?_, ?_, trivial⟩
      · show T _ _ _ _ _ _ _ _
        refine t_v (.ld1 rfl rfl rfl (.at 3 rfl rfl)) ?_
        refine t_keep [4, 5, 78, 79, 81, 83] (σ' := [(4, .pointer (some ⟨b39, 0, none⟩)), (5, .pointer (some ⟨b40, 0, none⟩)), (78, .int .i64 (mx (mx m0_0 m0_0) m0_2)), (79, .int .i64 (wr64 (Int.tdiv (wr64 (w1 + 1)) 2))), (81, .pointer (some ⟨g42, 1, none⟩)), (83, .int .i64 (wr64 (Int.tdiv (wr64 (w1 + 1)) 2)))]) (by kernel_rfl) ?_
        refine t_end ?_
        exact ⟨hg_4afff, rfl⟩
      · show T _ _ _ _ _ _ _ _
        refine t_v (.ld1 rfl rfl rfl (.at 3 rfl rfl)) ?_
        refine t_keep [4, 5, 77, 79, 82, 83] (σ' := [(4, .pointer (some ⟨b39, 0, none⟩)), (5, .pointer (some ⟨b40, 0, none⟩)), (77, .pointer (some ⟨g42, 0, none⟩)), (79, .int .i64 (wr64 (Int.tdiv (wr64 (w1 + 1)) 2))), (82, .int .i64 (mx (mx m0_1 m0_1) m0_3)), (83, .int .i64 (wr64 (Int.tdiv (wr64 (w1 + 1)) 2)))]) (by kernel_rfl) ?_
        refine t_end ?_
        exact ⟨hg_4ebff, rfl⟩
    have hg_3fe75 : G [true, false, true, false, true, true, true, false, false, true, true, true, true, true, true, true, true, true, false, false, false] [(4, .pointer (some ⟨b39, 0, none⟩)), (5, .pointer (some ⟨b40, 0, none⟩)), (68, .pointer (some ⟨g41, 0, none⟩)), (70, .int .i64 (wr64 (Int.tdiv (wr64 (w1 + 1)) 2))), (73, .int .i64 (mn (mn m0_1 m0_1) m0_3)), (74, .int .i64 (wr64 (Int.tdiv (wr64 (w1 + 1)) 2))), (85, .agg #[.int .i64 (wr64 ((mx (mx m0_0 m0_0) m0_2) + (wr64 (Int.tdiv (wr64 (w1 + 1)) 2)))), .int .i64 (wr64 ((mx (mx m0_1 m0_1) m0_3) + (wr64 (Int.tdiv (wr64 (w1 + 1)) 2))))])] ([⟨b45, [.int .i64 m0_2, .int .i64 m0_3], 2⟩, ⟨b44, [.int .i64 m0_0, .int .i64 m0_1], 2⟩, ⟨b43, [.int .i64 m0_0, .int .i64 m0_1, .int .i64 m0_2, .int .i64 m0_3], 4⟩, ⟨g42, [.int .i64 (mx (mx m0_0 m0_0) m0_2), .int .i64 (mx (mx m0_1 m0_1) m0_3)], 2⟩, ⟨g41, [.int .i64 (mn (mn m0_0 m0_0) m0_2), .int .i64 (mn (mn m0_1 m0_1) m0_3)], 2⟩, ⟨b40, [.int .i64 0, .int .i64 0], 2⟩, ⟨b39, [.int .i64 0, .int .i64 0], 2⟩, ⟨B0, [.int .i64 m0_0, .int .i64 m0_1, .int .i64 m0_2, .int .i64 m0_3], 4⟩] : List Own) := by
      exact hqf 7 [4, 5, 68, 70, 75, 85] _ _ _ [(4, .pointer (some ⟨b39, 0, none⟩)), (5, .pointer (some ⟨b40, 0, none⟩)), (68, .pointer (some ⟨g41, 0, none⟩)), (70, .int .i64 (wr64 (Int.tdiv (wr64 (w1 + 1)) 2))), (75, .int .i64 (wr64 ((mn (mn m0_1 m0_1) m0_3) - (wr64 (Int.tdiv (wr64 (w1 + 1)) 2))))), (85, .agg #[.int .i64 (wr64 ((mx (mx m0_0 m0_0) m0_2) + (wr64 (Int.tdiv (wr64 (w1 + 1)) 2)))), .int .i64 (wr64 ((mx (mx m0_1 m0_1) m0_3) + (wr64 (Int.tdiv (wr64 (w1 + 1)) 2))))])] (by kernel_rfl) (by kernel_rfl) hg_3fef5
    have hg_1fef5 : G [true, false, true, false, true, true, true, true, false, true, true, true, true, true, true, true, true, false, false, false, false] [(4, .pointer (some ⟨b39, 0, none⟩)), (5, .pointer (some ⟨b40, 0, none⟩)), (68, .pointer (some ⟨g41, 0, none⟩)), (70, .int .i64 (wr64 (Int.tdiv (wr64 (w1 + 1)) 2))), (75, .int .i64 (wr64 ((mn (mn m0_1 m0_1) m0_3) - (wr64 (Int.tdiv (wr64 (w1 + 1)) 2))))), (80, .int .i64 (wr64 ((mx (mx m0_0 m0_0) m0_2) + (wr64 (Int.tdiv (wr64 (w1 + 1)) 2))))), (84, .int .i64 (wr64 ((mx (mx m0_1 m0_1) m0_3) + (wr64 (Int.tdiv (wr64 (w1 + 1)) 2)))))] ([⟨b45, [.int .i64 m0_2, .int .i64 m0_3], 2⟩, ⟨b44, [.int .i64 m0_0, .int .i64 m0_1], 2⟩, ⟨b43, [.int .i64 m0_0, .int .i64 m0_1, .int .i64 m0_2, .int .i64 m0_3], 4⟩, ⟨g42, [.int .i64 (mx (mx m0_0 m0_0) m0_2), .int .i64 (mx (mx m0_1 m0_1) m0_3)], 2⟩, ⟨g41, [.int .i64 (mn (mn m0_0 m0_0) m0_2), .int .i64 (mn (mn m0_1 m0_1) m0_3)], 2⟩, ⟨b40, [.int .i64 0, .int .i64 0], 2⟩, ⟨b39, [.int .i64 0, .int .i64 0], 2⟩, ⟨B0, [.int .i64 m0_0, .int .i64 m0_1, .int .i64 m0_2, .int .i64 m0_3], 4⟩] : List Own) := by
      exact hqf 17 [4, 5, 68, 70, 75, 85] _ _ _ [(4, .pointer (some ⟨b39, 0, none⟩)), (5, .pointer (some ⟨b40, 0, none⟩)), (68, .pointer (some ⟨g41, 0, none⟩)), (70, .int .i64 (wr64 (Int.tdiv (wr64 (w1 + 1)) 2))), (75, .int .i64 (wr64 ((mn (mn m0_1 m0_1) m0_3) - (wr64 (Int.tdiv (wr64 (w1 + 1)) 2))))), (85, .agg #[.int .i64 (wr64 ((mx (mx m0_0 m0_0) m0_2) + (wr64 (Int.tdiv (wr64 (w1 + 1)) 2)))), .int .i64 (wr64 ((mx (mx m0_1 m0_1) m0_3) + (wr64 (Int.tdiv (wr64 (w1 + 1)) 2))))])] (by kernel_rfl) (by kernel_rfl) hg_3fef5
    have hg_1eaf7 : G [true, true, true, false, true, true, true, true, false, true, false, true, false, true, true, true, true, false, false, false, false] [(4, .pointer (some ⟨b39, 0, none⟩)), (5, .pointer (some ⟨b40, 0, none⟩)), (69, .int .i64 (mn (mn m0_0 m0_0) m0_2)), (70, .int .i64 (wr64 (Int.tdiv (wr64 (w1 + 1)) 2))), (75, .int .i64 (wr64 ((mn (mn m0_1 m0_1) m0_3) - (wr64 (Int.tdiv (wr64 (w1 + 1)) 2))))), (77, .pointer (some ⟨g42, 0, none⟩)), (79, .int .i64 (wr64 (Int.tdiv (wr64 (w1 + 1)) 2))), (84, .int .i64 (wr64 ((mx (mx m0_1 m0_1) m0_3) + (wr64 (Int.tdiv (wr64 (w1 + 1)) 2)))))] ([⟨b45, [.int .i64 m0_2, .int .i64 m0_3], 2⟩, ⟨b44, [.int .i64 m0_0, .int .i64 m0_1], 2⟩, ⟨b43, [.int .i64 m0_0, .int .i64 m0_1, .int .i64 m0_2, .int .i64 m0_3], 4⟩, ⟨g42, [.int .i64 (mx (mx m0_0 m0_0) m0_2), .int .i64 (mx (mx m0_1 m0_1) m0_3)], 2⟩, ⟨g41, [.int .i64 (mn (mn m0_0 m0_0) m0_2), .int .i64 (mn (mn m0_1 m0_1) m0_3)], 2⟩, ⟨b40, [.int .i64 0, .int .i64 0], 2⟩, ⟨b39, [.int .i64 0, .int .i64 0], 2⟩, ⟨B0, [.int .i64 m0_0, .int .i64 m0_1, .int .i64 m0_2, .int .i64 m0_3], 4⟩] : List Own) := by
      exact hqf 3 [4, 5, 71, 75, 77, 79, 84] _ _ _ [(4, .pointer (some ⟨b39, 0, none⟩)), (5, .pointer (some ⟨b40, 0, none⟩)), (71, .int .i64 (wr64 ((mn (mn m0_0 m0_0) m0_2) - (wr64 (Int.tdiv (wr64 (w1 + 1)) 2))))), (75, .int .i64 (wr64 ((mn (mn m0_1 m0_1) m0_3) - (wr64 (Int.tdiv (wr64 (w1 + 1)) 2))))), (77, .pointer (some ⟨g42, 0, none⟩)), (79, .int .i64 (wr64 (Int.tdiv (wr64 (w1 + 1)) 2))), (84, .int .i64 (wr64 ((mx (mx m0_1 m0_1) m0_3) + (wr64 (Int.tdiv (wr64 (w1 + 1)) 2)))))] (by kernel_rfl) (by kernel_rfl) hg_1eaff
    have hg_fef5 : G [true, false, true, false, true, true, true, true, false, true, true, true, true, true, true, true, false, false, false, false, false] [(4, .pointer (some ⟨b39, 0, none⟩)), (5, .pointer (some ⟨b40, 0, none⟩)), (68, .pointer (some ⟨g41, 0, none⟩)), (70, .int .i64 (wr64 (Int.tdiv (wr64 (w1 + 1)) 2))), (75, .int .i64 (wr64 ((mn (mn m0_1 m0_1) m0_3) - (wr64 (Int.tdiv (wr64 (w1 + 1)) 2))))), (80, .int .i64 (wr64 ((mx (mx m0_0 m0_0) m0_2) + (wr64 (Int.tdiv (wr64 (w1 + 1)) 2))))), (82, .int .i64 (mx (mx m0_1 m0_1) m0_3)), (83, .int .i64 (wr64 (Int.tdiv (wr64 (w1 + 1)) 2)))] ([⟨b45, [.int .i64 m0_2, .int .i64 m0_3], 2⟩, ⟨b44, [.int .i64 m0_0, .int .i64 m0_1], 2⟩, ⟨b43, [.int .i64 m0_0, .int .i64 m0_1, .int .i64 m0_2, .int .i64 m0_3], 4⟩, ⟨g42, [.int .i64 (mx (mx m0_0 m0_0) m0_2), .int .i64 (mx (mx m0_1 m0_1) m0_3)], 2⟩, ⟨g41, [.int .i64 (mn (mn m0_0 m0_0) m0_2), .int .i64 (mn (mn m0_1 m0_1) m0_3)], 2⟩, ⟨b40, [.int .i64 0, .int .i64 0], 2⟩, ⟨b39, [.int .i64 0, .int .i64 0], 2⟩, ⟨B0, [.int .i64 m0_0, .int .i64 m0_1, .int .i64 m0_2, .int .i64 m0_3], 4⟩] : List Own) := by
      exact hqf 16 [4, 5, 68, 70, 75, 80, 84] _ _ _ [(4, .pointer (some ⟨b39, 0, none⟩)), (5, .pointer (some ⟨b40, 0, none⟩)), (68, .pointer (some ⟨g41, 0, none⟩)), (70, .int .i64 (wr64 (Int.tdiv (wr64 (w1 + 1)) 2))), (75, .int .i64 (wr64 ((mn (mn m0_1 m0_1) m0_3) - (wr64 (Int.tdiv (wr64 (w1 + 1)) 2))))), (80, .int .i64 (wr64 ((mx (mx m0_0 m0_0) m0_2) + (wr64 (Int.tdiv (wr64 (w1 + 1)) 2))))), (84, .int .i64 (wr64 ((mx (mx m0_1 m0_1) m0_3) + (wr64 (Int.tdiv (wr64 (w1 + 1)) 2)))))] (by kernel_rfl) (by kernel_rfl) hg_1fef5
    have hg_bef7 : G [true, true, true, false, true, true, true, true, false, true, true, true, true, true, false, true, false, false, false, false, false] [(4, .pointer (some ⟨b39, 0, none⟩)), (5, .pointer (some ⟨b40, 0, none⟩)), (69, .int .i64 (mn (mn m0_0 m0_0) m0_2)), (70, .int .i64 (wr64 (Int.tdiv (wr64 (w1 + 1)) 2))), (75, .int .i64 (wr64 ((mn (mn m0_1 m0_1) m0_3) - (wr64 (Int.tdiv (wr64 (w1 + 1)) 2))))), (80, .int .i64 (wr64 ((mx (mx m0_0 m0_0) m0_2) + (wr64 (Int.tdiv (wr64 (w1 + 1)) 2))))), (81, .pointer (some ⟨g42, 1, none⟩)), (83, .int .i64 (wr64 (Int.tdiv (wr64 (w1 + 1)) 2)))] ([⟨b45, [.int .i64 m0_2, .int .i64 m0_3], 2⟩, ⟨b44, [.int .i64 m0_0, .int .i64 m0_1], 2⟩, ⟨b43, [.int .i64 m0_0, .int .i64 m0_1, .int .i64 m0_2, .int .i64 m0_3], 4⟩, ⟨g42, [.int .i64 (mx (mx m0_0 m0_0) m0_2), .int .i64 (mx (mx m0_1 m0_1) m0_3)], 2⟩, ⟨g41, [.int .i64 (mn (mn m0_0 m0_0) m0_2), .int .i64 (mn (mn m0_1 m0_1) m0_3)], 2⟩, ⟨b40, [.int .i64 0, .int .i64 0], 2⟩, ⟨b39, [.int .i64 0, .int .i64 0], 2⟩, ⟨B0, [.int .i64 m0_0, .int .i64 m0_1, .int .i64 m0_2, .int .i64 m0_3], 4⟩] : List Own) := by
      exact hqf 3 [4, 5, 71, 75, 80, 81, 83] _ _ _ [(4, .pointer (some ⟨b39, 0, none⟩)), (5, .pointer (some ⟨b40, 0, none⟩)), (71, .int .i64 (wr64 ((mn (mn m0_0 m0_0) m0_2) - (wr64 (Int.tdiv (wr64 (w1 + 1)) 2))))), (75, .int .i64 (wr64 ((mn (mn m0_1 m0_1) m0_3) - (wr64 (Int.tdiv (wr64 (w1 + 1)) 2))))), (80, .int .i64 (wr64 ((mx (mx m0_0 m0_0) m0_2) + (wr64 (Int.tdiv (wr64 (w1 + 1)) 2))))), (81, .pointer (some ⟨g42, 1, none⟩)), (83, .int .i64 (wr64 (Int.tdiv (wr64 (w1 + 1)) 2)))] (by kernel_rfl) (by kernel_rfl) hg_beff
    have hg_1ea7f : G [true, true, true, true, true, true, true, false, false, true, false, true, false, true, true, true, true, false, false, false, false] [(4, .pointer (some ⟨b39, 0, none⟩)), (5, .pointer (some ⟨b40, 0, none⟩)), (71, .int .i64 (wr64 ((mn (mn m0_0 m0_0) m0_2) - (wr64 (Int.tdiv (wr64 (w1 + 1)) 2))))), (73, .int .i64 (mn (mn m0_1 m0_1) m0_3)), (74, .int .i64 (wr64 (Int.tdiv (wr64 (w1 + 1)) 2))), (77, .pointer (some ⟨g42, 0, none⟩)), (79, .int .i64 (wr64 (Int.tdiv (wr64 (w1 + 1)) 2))), (84, .int .i64 (wr64 ((mx (mx m0_1 m0_1) m0_3) + (wr64 (Int.tdiv (wr64 (w1 + 1)) 2)))))] ([⟨b45, [.int .i64 m0_2, .int .i64 m0_3], 2⟩, ⟨b44, [.int .i64 m0_0, .int .i64 m0_1], 2⟩, ⟨b43, [.int .i64 m0_0, .int .i64 m0_1, .int .i64 m0_2, .int .i64 m0_3], 4⟩, ⟨g42, [.int .i64 (mx (mx m0_0 m0_0) m0_2), .int .i64 (mx (mx m0_1 m0_1) m0_3)], 2⟩, ⟨g41, [.int .i64 (mn (mn m0_0 m0_0) m0_2), .int .i64 (mn (mn m0_1 m0_1) m0_3)], 2⟩, ⟨b40, [.int .i64 0, .int .i64 0], 2⟩, ⟨b39, [.int .i64 0, .int .i64 0], 2⟩, ⟨B0, [.int .i64 m0_0, .int .i64 m0_1, .int .i64 m0_2, .int .i64 m0_3], 4⟩] : List Own) := by
      exact hqf 7 [4, 5, 71, 75, 77, 79, 84] _ _ _ [(4, .pointer (some ⟨b39, 0, none⟩)), (5, .pointer (some ⟨b40, 0, none⟩)), (71, .int .i64 (wr64 ((mn (mn m0_0 m0_0) m0_2) - (wr64 (Int.tdiv (wr64 (w1 + 1)) 2))))), (75, .int .i64 (wr64 ((mn (mn m0_1 m0_1) m0_3) - (wr64 (Int.tdiv (wr64 (w1 + 1)) 2))))), (77, .pointer (some ⟨g42, 0, none⟩)), (79, .int .i64 (wr64 (Int.tdiv (wr64 (w1 + 1)) 2))), (84, .int .i64 (wr64 ((mx (mx m0_1 m0_1) m0_3) + (wr64 (Int.tdiv (wr64 (w1 + 1)) 2)))))] (by kernel_rfl) (by kernel_rfl) hg_1eaff
    have hg_fe5f : G [true, true, true, true, true, false, true, false, false, true, true, true, true, true, true, true, false, false, false, false, false] [(4, .pointer (some ⟨b39, 0, none⟩)), (5, .pointer (some ⟨b40, 0, none⟩)), (71, .int .i64 (wr64 ((mn (mn m0_0 m0_0) m0_2) - (wr64 (Int.tdiv (wr64 (w1 + 1)) 2))))), (72, .pointer (some ⟨g41, 1, none⟩)), (74, .int .i64 (wr64 (Int.tdiv (wr64 (w1 + 1)) 2))), (80, .int .i64 (wr64 ((mx (mx m0_0 m0_0) m0_2) + (wr64 (Int.tdiv (wr64 (w1 + 1)) 2))))), (82, .int .i64 (mx (mx m0_1 m0_1) m0_3)), (83, .int .i64 (wr64 (Int.tdiv (wr64 (w1 + 1)) 2)))] ([⟨b45, [.int .i64 m0_2, .int .i64 m0_3], 2⟩, ⟨b44, [.int .i64 m0_0, .int .i64 m0_1], 2⟩, ⟨b43, [.int .i64 m0_0, .int .i64 m0_1, .int .i64 m0_2, .int .i64 m0_3], 4⟩, ⟨g42, [.int .i64 (mx (mx m0_0 m0_0) m0_2), .int .i64 (mx (mx m0_1 m0_1) m0_3)], 2⟩, ⟨g41, [.int .i64 (mn (mn m0_0 m0_0) m0_2), .int .i64 (mn (mn m0_1 m0_1) m0_3)], 2⟩, ⟨b40, [.int .i64 0, .int .i64 0], 2⟩, ⟨b39, [.int .i64 0, .int .i64 0], 2⟩, ⟨B0, [.int .i64 m0_0, .int .i64 m0_1, .int .i64 m0_2, .int .i64 m0_3], 4⟩] : List Own) := by
      exact hqf 16 [4, 5, 71, 72, 74, 80, 84] _ _ _ [(4, .pointer (some ⟨b39, 0, none⟩)), (5, .pointer (some ⟨b40, 0, none⟩)), (71, .int .i64 (wr64 ((mn (mn m0_0 m0_0) m0_2) - (wr64 (Int.tdiv (wr64 (w1 + 1)) 2))))), (72, .pointer (some ⟨g41, 1, none⟩)), (74, .int .i64 (wr64 (Int.tdiv (wr64 (w1 + 1)) 2))), (80, .int .i64 (wr64 ((mx (mx m0_0 m0_0) m0_2) + (wr64 (Int.tdiv (wr64 (w1 + 1)) 2))))), (84, .int .i64 (wr64 ((mx (mx m0_1 m0_1) m0_3) + (wr64 (Int.tdiv (wr64 (w1 + 1)) 2)))))] (by kernel_rfl) (by kernel_rfl) hg_1fe5f
    have hg_3fe55 : G [true, false, true, false, true, false, true, false, false, true, true, true, true, true, true, true, true, true, false, false, false] [(4, .pointer (some ⟨b39, 0, none⟩)), (5, .pointer (some ⟨b40, 0, none⟩)), (68, .pointer (some ⟨g41, 0, none⟩)), (70, .int .i64 (wr64 (Int.tdiv (wr64 (w1 + 1)) 2))), (72, .pointer (some ⟨g41, 1, none⟩)), (74, .int .i64 (wr64 (Int.tdiv (wr64 (w1 + 1)) 2))), (85, .agg #[.int .i64 (wr64 ((mx (mx m0_0 m0_0) m0_2) + (wr64 (Int.tdiv (wr64 (w1 + 1)) 2)))), .int .i64 (wr64 ((mx (mx m0_1 m0_1) m0_3) + (wr64 (Int.tdiv (wr64 (w1 + 1)) 2))))])] ([⟨b45, [.int .i64 m0_2, .int .i64 m0_3], 2⟩, ⟨b44, [.int .i64 m0_0, .int .i64 m0_1], 2⟩, ⟨b43, [.int .i64 m0_0, .int .i64 m0_1, .int .i64 m0_2, .int .i64 m0_3], 4⟩, ⟨g42, [.int .i64 (mx (mx m0_0 m0_0) m0_2), .int .i64 (mx (mx m0_1 m0_1) m0_3)], 2⟩, ⟨g41, [.int .i64 (mn (mn m0_0 m0_0) m0_2), .int .i64 (mn (mn m0_1 m0_1) m0_3)], 2⟩, ⟨b40, [.int .i64 0, .int .i64 0], 2⟩, ⟨b39, [.int .i64 0, .int .i64 0], 2⟩, ⟨B0, [.int .i64 m0_0, .int .i64 m0_1, .int .i64 m0_2, .int .i64 m0_3], 4⟩] : List Own) := by
      refine hstep [1, 5] _ _ _ (by kernel_rfl) (List.cons_ne_nil _ _) ⟨?_, ?_, trivial⟩
      · show T _ _ _ _ _ _ _ _
        refine t_v (.ld1 rfl rfl rfl (.at 4 rfl rfl)) ?_
        refine t_keep [4, 5, 69, 70, 72, 74, 85] (σ' := [(4, .pointer (some ⟨b39, 0, none⟩)), (5, .pointer (some ⟨b40, 0, none⟩)), (69, .int .i64 (mn (mn m0_0 m0_0) m0_2)), (70, .int .i64 (wr64 (Int.tdiv (wr64 (w1 + 1)) 2))), (72, .pointer (some ⟨g41, 1, none⟩)), (74, .int .i64 (wr64 (Int.tdiv (wr64 (w1 + 1)) 2))), (85, .agg #[.int .i64 (wr64 ((mx (mx m0_0 m0_0) m0_2) + (wr64 (Int.tdiv (wr64 (w1 + 1)) 2)))), .int .i64 (wr64 ((mx (mx m0_1 m0_1) m0_3) + (wr64 (Int.tdiv (wr64 (w1 + 1)) 2))))])]) (by kernel_rfl) ?_
        refine t_end ?_
        exact ⟨hg_3fe57, rfl⟩
      · show T _ _ _ _ _ _ _ _
        refine t_v (.ld1 rfl rfl rfl (.at 4 rfl rfl)) ?_
        refine t_keep [4, 5, 68, 70, 73, 74, 85] (σ' := [(4, .pointer (some ⟨b39, 0, none⟩)), (5, .pointer (some ⟨b40, 0, none⟩)), (68, .pointer (some ⟨g41, 0, none⟩)), (70, .int .i64 (wr64 (Int.tdiv (wr64 (w1 + 1)) 2))), (73, .int .i64 (mn (mn m0_1 m0_1) m0_3)), (74, .int .i64 (wr64 (Int.tdiv (wr64 (w1 + 1)) 2))), (85, .agg #[.int .i64 (wr64 ((mx (mx m0_0 m0_0) m0_2) + (wr64 (Int.tdiv (wr64 (w1 + 1)) 2)))), .int .i64 (wr64 ((mx (mx m0_1 m0_1) m0_3) + (wr64 (Int.tdiv (wr64 (w1 + 1)) 2))))])]) (by kernel_rfl) ?_
        refine t_end ?_
        exact ⟨hg_3fe75, rfl⟩
    have hg_1ee5f : G [true, true, true, true, true, false, true, false, false, true, true, true, false, true, true, true, true, false, false, false, false] [(4, .pointer (some ⟨b39, 0, none⟩)), (5, .pointer (some ⟨b40, 0, none⟩)), (71, .int .i64 (wr64 ((mn (mn m0_0 m0_0) m0_2) - (wr64 (Int.tdiv (wr64 (w1 + 1)) 2))))), (72, .pointer (some ⟨g41, 1, none⟩)), (74, .int .i64 (wr64 (Int.tdiv (wr64 (w1 + 1)) 2))), (78, .int .i64 (mx (mx m0_0 m0_0) m0_2)), (79, .int .i64 (wr64 (Int.tdiv (wr64 (w1 + 1)) 2))), (84, .int .i64 (wr64 ((mx (mx m0_1 m0_1) m0_3) + (wr64 (Int.tdiv (wr64 (w1 + 1)) 2)))))] ([⟨b45, [.int .i64 m0_2, .int .i64 m0_3], 2⟩, ⟨b44, [.int .i64 m0_0, .int .i64 m0_1], 2⟩, ⟨b43, [.int .i64 m0_0, .int .i64 m0_1, .int .i64 m0_2, .int .i64 m0_3], 4⟩, ⟨g42, [.int .i64 (mx (mx m0_0 m0_0) m0_2), .int .i64 (mx (mx m0_1 m0_1) m0_3)], 2⟩, ⟨g41, [.int .i64 (mn (mn m0_0 m0_0) m0_2), .int .i64 (mn (mn m0_1 m0_1) m0_3)], 2⟩, ⟨b40, [.int .i64 0, .int .i64 0], 2⟩, ⟨b39, [.int .i64 0, .int .i64 0], 2⟩, ⟨B0, [.int .i64 m0_0, .int .i64 m0_1, .int .i64 m0_2, .int .i64 m0_3], 4⟩] : List Own) := by
      exact hqf 12 [4, 5, 71, 72, 74, 80, 84] _ _ _ [(4, .pointer (some ⟨b39, 0, none⟩)), (5, .pointer (some ⟨b40, 0, none⟩)), (71, .int .i64 (wr64 ((mn (mn m0_0 m0_0) m0_2) - (wr64 (Int.tdiv (wr64 (w1 + 1)) 2))))), (72, .pointer (some ⟨g41, 1, none⟩)), (74, .int .i64 (wr64 (Int.tdiv (wr64 (w1 + 1)) 2))), (80, .int .i64 (wr64 ((mx (mx m0_0 m0_0) m0_2) + (wr64 (Int.tdiv (wr64 (w1 + 1)) 2))))), (84, .int .i64 (wr64 ((mx (mx m0_1 m0_1) m0_3) + (wr64 (Int.tdiv (wr64 (w1 + 1)) 2)))))] (by kernel_rfl) (by kernel_rfl) hg_1fe5f
    have hg_be7f : G [true, true, true, true, true, true, true, false, false, true, true, true, true, true, false, true, false, false, false, false, false] [(4, .pointer (some ⟨b39, 0, none⟩)), (5, .pointer (some ⟨b40, 0, none⟩)), (71, .int .i64 (wr64 ((mn (mn m0_0 m0_0) m0_2) - (wr64 (Int.tdiv (wr64 (w1 + 1)) 2))))), (73, .int .i64 (mn (mn m0_1 m0_1) m0_3)), (74, .int .i64 (wr64 (Int.tdiv (wr64 (w1 + 1)) 2))), (80, .int .i64 (wr64 ((mx (mx m0_0 m0_0) m0_2) + (wr64 (Int.tdiv (wr64 (w1 + 1)) 2))))), (81, .pointer (some ⟨g42, 1, none⟩)), (83, .int .i64 (wr64 (Int.tdiv (wr64 (w1 + 1)) 2)))] ([⟨b45, [.int .i64 m0_2, .int .i64 m0_3], 2⟩, ⟨b44, [.int .i64 m0_0, .int .i64 m0_1], 2⟩, ⟨b43, [.int .i64 m0_0, .int .i64 m0_1, .int .i64 m0_2, .int .i64 m0_3], 4⟩, ⟨g42, [.int .i64 (mx (mx m0_0 m0_0) m0_2), .int .i64 (mx (mx m0_1 m0_1) m0_3)], 2⟩, ⟨g41, [.int .i64 (mn (mn m0_0 m0_0) m0_2), .int .i64 (mn (mn m0_1 m0_1) m0_3)], 2⟩, ⟨b40, [.int .i64 0, .int .i64 0], 2⟩, ⟨b39, [.int .i64 0, .int .i64 0], 2⟩, ⟨B0, [.int .i64 m0_0, .int .i64 m0_1, .int .i64 m0_2, .int .i64 m0_3], 4⟩] : List Own) := by
      exact hqf 7 [4, 5, 71, 75, 80, 81, 83] _ _ _ [(4, .pointer (some ⟨b39, 0, none⟩)), (5, .pointer (some ⟨b40, 0, none⟩)), (71, .int .i64 (wr64 ((mn (mn m0_0 m0_0) m0_2) - (wr64 (Int.tdiv (wr64 (w1 + 1)) 2))))), (75, .int .i64 (wr64 ((mn (mn m0_1 m0_1) m0_3) - (wr64 (Int.tdiv (wr64 (w1 + 1)) 2))))), (80, .int .i64 (wr64 ((mx (mx m0_0 m0_0) m0_2) + (wr64 (Int.tdiv (wr64 (w1 + 1)) 2))))), (81, .pointer (some ⟨g42, 1, none⟩)), (83, .int .i64 (wr64 (Int.tdiv (wr64 (w1 + 1)) 2)))] (by kernel_rfl) (by kernel_rfl) hg_beff
    have hg_abff : G [true, true, true, true, true, true, true, true, true, true, false, true, false, true, false, true, false, false, false, false, false] [(4, .pointer (some ⟨b39, 0, none⟩)), (5, .pointer (some ⟨b40, 0, none⟩)), (76, .agg #[.int .i64 (wr64 ((mn (mn m0_0 m0_0) m0_2) - (wr64 (Int.tdiv (wr64 (w1 + 1)) 2)))), .int .i64 (wr64 ((mn (mn m0_1 m0_1) m0_3) - (wr64 (Int.tdiv (wr64 (w1 + 1)) 2))))]), (77, .pointer (some ⟨g42, 0, none⟩)), (79, .int .i64 (wr64 (Int.tdiv (wr64 (w1 + 1)) 2))), (81, .pointer (some ⟨g42, 1, none⟩)), (83, .int .i64 (wr64 (Int.tdiv (wr64 (w1 + 1)) 2)))] ([⟨b45, [.int .i64 m0_2, .int .i64 m0_3], 2⟩, ⟨b44, [.int .i64 m0_0, .int .i64 m0_1], 2⟩, ⟨b43, [.int .i64 m0_0, .int .i64 m0_1, .int .i64 m0_2, .int .i64 m0_3], 4⟩, ⟨g42, [.int .i64 (mx (mx m0_0 m0_0) m0_2), .int .i64 (mx (mx m0_1 m0_1) m0_3)], 2⟩, ⟨g41, [.int .i64 (mn (mn m0_0 m0_0) m0_2), .int .i64 (mn (mn m0_1 m0_1) m0_3)], 2⟩, ⟨b40, [.int .i64 0, .int .i64 0], 2⟩, ⟨b39, [.int .i64 0, .int .i64 0], 2⟩, ⟨B0, [.int .i64 m0_0, .int .i64 m0_1, .int .i64 m0_2, .int .i64 m0_3], 4⟩] : List Own) := by
      refine hstep [10, 14, 18] _ _ _ (by kernel_rfl) (List.cons_ne_nil _ _) ⟨?_, ?_, ?_, trivial⟩
      · show T _ _ _ _ _ _ _ _
        refine t_v (.ld1 rfl rfl rfl (.at 3 rfl rfl)) ?_
        refine t_keep [4, 5, 76, 78, 79, 81, 83] (σ' := [(4, .pointer (some ⟨b39, 0, none⟩)), (5, .pointer (some ⟨b40, 0, none⟩)), (76, .agg #[.int .i64 (wr64 ((mn (mn m0_0 m0_0) m0_2) - (wr64 (Int.tdiv (wr64 (w1 + 1)) 2)))), .int .i64 (wr64 ((mn (mn m0_1 m0_1) m0_3) - (wr64 (Int.tdiv (wr64 (w1 + 1)) 2))))]), (78, .int .i64 (mx (mx m0_0 m0_0) m0_2)), (79, .int .i64 (wr64 (Int.tdiv (wr64 (w1 + 1)) 2))), (81, .pointer (some ⟨g42, 1, none⟩)), (83, .int .i64 (wr64 (Int.tdiv (wr64 (w1 + 1)) 2)))]) (by kernel_rfl) ?_
        refine t_end ?_
        exact ⟨hg_afff, rfl⟩
      · show T _ _ _ _ _ _ _ _
        refine t_v (.ld1 rfl rfl rfl (.at 3 rfl rfl)) ?_
        refine t_keep [4, 5, 76, 77, 79, 82, 83] (σ' := [(4, .pointer (some ⟨b39, 0, none⟩)), (5, .pointer (some ⟨b40, 0, none⟩)), (76, .agg #[.int .i64 (wr64 ((mn (mn m0_0 m0_0) m0_2) - (wr64 (Int.tdiv (wr64 (w1 + 1)) 2)))), .int .i64 (wr64 ((mn (mn m0_1 m0_1) m0_3) - (wr64 (Int.tdiv (wr64 (w1 + 1)) 2))))]), (77, .pointer (some ⟨g42, 0, none⟩)), (79, .int .i64 (wr64 (Int.tdiv (wr64 (w1 + 1)) 2))), (82, .int .i64 (mx (mx m0_1 m0_1) m0_3)), (83, .int .i64 (wr64 (Int.tdiv (wr64 (w1 + 1)) 2)))]) (by kernel_rfl) ?_
        refine t_end ?_
        exact ⟨hg_ebff, rfl⟩
      · show T _ _ _ _ _ _ _ _
        refine t_sti 6 (cs := [.int .i64 (wr64 ((mn (mn m0_0 m0_0) m0_2) - (wr64 (Int.tdiv (wr64 (w1 + 1)) 2)))), .int .i64 (wr64 ((mn (mn m0_1 m0_1) m0_3) - (wr64 (Int.tdiv (wr64 (w1 + 1)) 2))))]) rfl rfl rfl rfl rfl rfl rfl rfl rfl ?_
        refine t_keep [4, 5, 77, 79, 81, 83] (σ' := [(4, .pointer (some ⟨b39, 0, none⟩)), (5, .pointer (some ⟨b40, 0, none⟩)), (77, .pointer (some ⟨g42, 0, none⟩)), (79, .int .i64 (wr64 (Int.tdiv (wr64 (w1 + 1)) 2))), (81, .pointer (some ⟨g42, 1, none⟩)), (83, .int .i64 (wr64 (Int.tdiv (wr64 (w1 + 1)) 2)))]) (by kernel_rfl) ?_
        refine t_end ?_
        exact ⟨hg_4abff, rfl⟩
    have hg_1eef5 : G [true, false, true, false, true, true, true, true, false, true, true, true, false, true, true, true, true, false, false, false, false] [(4, .pointer (some ⟨b39, 0, none⟩)), (5, .pointer (some ⟨b40, 0, none⟩)), (68, .pointer (some ⟨g41, 0, none⟩)), (70, .int .i64 (wr64 (Int.tdiv (wr64 (w1 + 1)) 2))), (75, .int .i64 (wr64 ((mn (mn m0_1 m0_1) m0_3) - (wr64 (Int.tdiv (wr64 (w1 + 1)) 2))))), (78, .int .i64 (mx (mx m0_0 m0_0) m0_2)), (79, .int .i64 (wr64 (Int.tdiv (wr64 (w1 + 1)) 2))), (84, .int .i64 (wr64 ((mx (mx m0_1 m0_1) m0_3) + (wr64 (Int.tdiv (wr64 (w1 + 1)) 2)))))] ([⟨b45, [.int .i64 m0_2, .int .i64 m0_3], 2⟩, ⟨b44, [.int .i64 m0_0, .int .i64 m0_1], 2⟩, ⟨b43, [.int .i64 m0_0, .int .i64 m0_1, .int .i64 m0_2, .int .i64 m0_3], 4⟩, ⟨g42, [.int .i64 (mx (mx m0_0 m0_0) m0_2), .int .i64 (mx (mx m0_1 m0_1) m0_3)], 2⟩, ⟨g41, [.int .i64 (mn (mn m0_0 m0_0) m0_2), .int .i64 (mn (mn m0_1 m0_1) m0_3)], 2⟩, ⟨b40, [.int .i64 0, .int .i64 0], 2⟩, ⟨b39, [.int .i64 0, .int .i64 0], 2⟩, ⟨B0, [.int .i64 m0_0, .int .i64 m0_1, .int .i64 m0_2, .int .i64 m0_3], 4⟩] : List Own) := by
      exact hqf 12 [4, 5, 68, 70, 75, 80, 84] _ _ _ [(4, .pointer (some ⟨b39, 0, none⟩)), (5, .pointer (some ⟨b40, 0, none⟩)), (68, .pointer (some ⟨g41, 0, none⟩)), (70, .int .i64 (wr64 (Int.tdiv (wr64 (w1 + 1)) 2))), (75, .int .i64 (wr64 ((mn (mn m0_1 m0_1) m0_3) - (wr64 (Int.tdiv (wr64 (w1 + 1)) 2))))), (80, .int .i64 (wr64 ((mx (mx m0_0 m0_0) m0_2) + (wr64 (Int.tdiv (wr64 (w1 + 1)) 2))))), (84, .int .i64 (wr64 ((mx (mx m0_1 m0_1) m0_3) + (wr64 (Int.tdiv (wr64 (w1 + 1)) 2)))))] (by kernel_rfl) (by kernel_rfl) hg_1fef5
    have hg_bef5 : G [true, false, true, false, true, true, true, true, false, true, true, true, true, true, false, true, false, false, false, false, false] [(4, .pointer (some ⟨b39, 0, none⟩)), (5, .pointer (some ⟨b40, 0, none⟩)), (68, .pointer (some ⟨g41, 0, none⟩)), (70, .int .i64 (wr64 (Int.tdiv (wr64 (w1 + 1)) 2))), (75, .int .i64 (wr64 ((mn (mn m0_1 m0_1) m0_3) - (wr64 (Int.tdiv (wr64 (w1 + 1)) 2))))), (80, .int .i64 (wr64 ((mx (mx m0_0 m0_0) m0_2) + (wr64 (Int.tdiv (wr64 (w1 + 1)) 2))))), (81, .pointer (some ⟨g42, 1, none⟩)), (83, .int .i64 (wr64 (Int.tdiv (wr64 (w1 + 1)) 2)))] ([⟨b45, [.int .i64 m0_2, .int .i64 m0_3], 2⟩, ⟨b44, [.int .i64 m0_0, .int .i64 m0_1], 2⟩, ⟨b43, [.int .i64 m0_0, .int .i64 m0_1, .int .i64 m0_2, .int .i64 m0_3], 4⟩, ⟨g42, [.int .i64 (mx (mx m0_0 m0_0) m0_2), .int .i64 (mx (mx m0_1 m0_1) m0_3)], 2⟩, ⟨g41, [.int .i64 (mn (mn m0_0 m0_0) m0_2), .int .i64 (mn (mn m0_1 m0_1) m0_3)], 2⟩, ⟨b40, [.int .i64 0, .int .i64 0], 2⟩, ⟨b39, [.int .i64 0, .int .i64 0], 2⟩, ⟨B0, [.int .i64 m0_0, .int .i64 m0_1, .int .i64 m0_2, .int .i64 m0_3], 4⟩] : List Own) := by
      refine hstep [1, 14] _ _ _ (by kernel_rfl) (List.cons_ne_nil _ _) ⟨?_, ?_, trivial⟩
      · show T _ _ _ _ _ _ _ _
        refine t_v (.ld1 rfl rfl rfl (.at 4 rfl rfl)) ?_
        refine t_keep [4, 5, 69, 70, 75, 80, 81, 83] (σ' := [(4, .pointer (some ⟨b39, 0, none⟩)), (5, .pointer (some ⟨b40, 0, none⟩)), (69, .int .i64 (mn (mn m0_0 m0_0) m0_2)), (70, .int .i64 (wr64 (Int.tdiv (wr64 (w1 + 1)) 2))), (75, .int .i64 (wr64 ((mn (mn m0_1 m0_1) m0_3) - (wr64 (Int.tdiv (wr64 (w1 + 1)) 2))))), (80, .int .i64 (wr64 ((mx (mx m0_0 m0_0) m0_2) + (wr64 (Int.tdiv (wr64 (w1 + 1)) 2))))), (81, .pointer (some ⟨g42, 1, none⟩)), (83, .int .i64 (wr64 (Int.tdiv (wr64 (w1 + 1)) 2)))]) (by kernel_rfl) ?_
        refine t_end ?_
        exact ⟨hg_bef7, rfl⟩
      · show T _ _ _ _ _ _ _ _
        refine t_v (.ld1 rfl rfl rfl (.at 3 rfl rfl)) ?_
        refine t_keep [4, 5, 68, 70, 75, 80, 82, 83] (σ' := [(4, .pointer (some ⟨b39, 0, none⟩)), (5, .pointer (some ⟨b40, 0, none⟩)), (68, .pointer (some ⟨g41, 0, none⟩)), (70, .int .i64 (wr64 (Int.tdiv (wr64 (w1 + 1)) 2))), (75, .int .i64 (wr64 ((mn (mn m0_1 m0_1) m0_3) - (wr64 (Int.tdiv (wr64 (w1 + 1)) 2))))), (80, .int .i64 (wr64 ((mx (mx m0_0 m0_0) m0_2) + (wr64 (Int.tdiv (wr64 (w1 + 1)) 2))))), (82, .int .i64 (mx (mx m0_1 m0_1) m0_3)), (83, .int .i64 (wr64 (Int.tdiv (wr64 (w1 + 1)) 2)))]) (by kernel_rfl) ?_
        refine t_end ?_
        exact ⟨hg_fef5, rfl⟩
    have hg_be5f : G [true, true, true, true, true, false, true, false, false, true, true, true, true, true, false, true, false, false, false, false, false] [(4, .pointer (some ⟨b39, 0, none⟩)), (5, .pointer (some ⟨b40, 0, none⟩)), (71, .int .i64 (wr64 ((mn (mn m0_0 m0_0) m0_2) - (wr64 (Int.tdiv (wr64 (w1 + 1)) 2))))), (72, .pointer (some ⟨g41, 1, none⟩)), (74, .int .i64 (wr64 (Int.tdiv (wr64 (w1 + 1)) 2))), (80, .int .i64 (wr64 ((mx (mx m0_0 m0_0) m0_2) + (wr64 (Int.tdiv (wr64 (w1 + 1)) 2))))), (81, .pointer (some ⟨g42, 1, none⟩)), (83, .int .i64 (wr64 (Int.tdiv (wr64 (w1 + 1)) 2)))] ([⟨b45, [.int .i64 m0_2, .int .i64 m0_3], 2⟩, ⟨b44, [.int .i64 m0_0, .int .i64 m0_1], 2⟩, ⟨b43, [.int .i64 m0_0, .int .i64 m0_1, .int .i64 m0_2, .int .i64 m0_3], 4⟩, ⟨g42, [.int .i64 (mx (mx m0_0 m0_0) m0_2), .int .i64 (mx (mx m0_1 m0_1) m0_3)], 2⟩, ⟨g41, [.int .i64 (mn (mn m0_0 m0_0) m0_2), .int .i64 (mn (mn m0_1 m0_1) m0_3)], 2⟩, ⟨b40, [.int .i64 0, .int .i64 0], 2⟩, ⟨b39, [.int .i64 0, .int .i64 0], 2⟩, ⟨B0, [.int .i64 m0_0, .int .i64 m0_1, .int .i64 m0_2, .int .i64 m0_3], 4⟩] : List Own) := by
      refine hstep [5, 14] _ _ _ (by kernel_rfl) (List.cons_ne_nil _ _) ⟨?_, ?_, trivial⟩
      · show T _ _ _ _ _ _ _ _
        refine t_v (.ld1 rfl rfl rfl (.at 4 rfl rfl)) ?_
        refine t_keep [4, 5, 71, 73, 74, 80, 81, 83] (σ' := [(4, .pointer (some ⟨b39, 0, none⟩)), (5, .pointer (some ⟨b40, 0, none⟩)), (71, .int .i64 (wr64 ((mn (mn m0_0 m0_0) m0_2) - (wr64 (Int.tdiv (wr64 (w1 + 1)) 2))))), (73, .int .i64 (mn (mn m0_1 m0_1) m0_3)), (74, .int .i64 (wr64 (Int.tdiv (wr64 (w1 + 1)) 2))), (80, .int .i64 (wr64 ((mx (mx m0_0 m0_0) m0_2) + (wr64 (Int.tdiv (wr64 (w1 + 1)) 2))))), (81, .pointer (some ⟨g42, 1, none⟩)), (83, .int .i64 (wr64 (Int.tdiv (wr64 (w1 + 1)) 2)))]) (by kernel_rfl) ?_
        refine t_end ?_
        exact ⟨hg_be7f, rfl⟩
      · show T _ _ _ _ _ _ _ _
        refine t_v (.ld1 rfl rfl rfl (.at 3 rfl rfl)) ?_
        refine t_keep [4, 5, 71, 72, 74, 80, 82, 83] (σ' := [(4, .pointer (some ⟨b39, 0, none⟩)), (5, .pointer (some ⟨b40, 0, none⟩)), (71, .int .i64 (wr64 ((mn (mn m0_0 m0_0) m0_2) - (wr64 (Int.tdiv (wr64 (w1 + 1)) 2))))), (72, .pointer (some ⟨g41, 1, none⟩)), (74, .int .i64 (wr64 (Int.tdiv (wr64 (w1 + 1)) 2))), (80, .int .i64 (wr64 ((mx (mx m0_0 m0_0) m0_2) + (wr64 (Int.tdiv (wr64 (w1 + 1)) 2))))), (82, .int .i64 (mx (mx m0_1 m0_1) m0_3)), (83, .int .i64 (wr64 (Int.tdiv (wr64 (w1 + 1)) 2)))]) (by kernel_rfl) ?_
        refine t_end ?_
        exact ⟨hg_fe5f, rfl⟩
    have hg_aaff : G [true, true, true, true, true, true, true, true, false, true, false, true, false, true, false, true, false, false, false, false, false] [(4, .pointer (some ⟨b39, 0, none⟩)), (5, .pointer (some ⟨b40, 0, none⟩)), (71, .int .i64 (wr64 ((mn (mn m0_0 m0_0) m0_2) - (wr64 (Int.tdiv (wr64 (w1 + 1)) 2))))), (75, .int .i64 (wr64 ((mn (mn m0_1 m0_1) m0_3) - (wr64 (Int.tdiv (wr64 (w1 + 1)) 2))))), (77, .pointer (some ⟨g42, 0, none⟩)), (79, .int .i64 (wr64 (Int.tdiv (wr64 (w1 + 1)) 2))), (81, .pointer (some ⟨g42, 1, none⟩)), (83, .int .i64 (wr64 (Int.tdiv (wr64 (w1 + 1)) 2)))] ([⟨b45, [.int .i64 m0_2, .int .i64 m0_3], 2⟩, ⟨b44, [.int .i64 m0_0, .int .i64 m0_1], 2⟩, ⟨b43, [.int .i64 m0_0, .int .i64 m0_1, .int .i64 m0_2, .int .i64 m0_3], 4⟩, ⟨g42, [.int .i64 (mx (mx m0_0 m0_0) m0_2), .int .i64 (mx (mx m0_1 m0_1) m0_3)], 2⟩, ⟨g41, [.int .i64 (mn (mn m0_0 m0_0) m0_2), .int .i64 (mn (mn m0_1 m0_1) m0_3)], 2⟩, ⟨b40, [.int .i64 0, .int .i64 0], 2⟩, ⟨b39, [.int .i64 0, .int .i64 0], 2⟩, ⟨B0, [.int .i64 m0_0, .int .i64 m0_1, .int .i64 m0_2, .int .i64 m0_3], 4⟩] : List Own) := by
      exact hqf 8 [4, 5, 76, 77, 79, 81, 83] _ _ _ [(4, .pointer (some ⟨b39, 0, none⟩)), (5, .pointer (some ⟨b40, 0, none⟩)), (76, .agg #[.int .i64 (wr64 ((mn (mn m0_0 m0_0) m0_2) - (wr64 (Int.tdiv (wr64 (w1 + 1)) 2)))), .int .i64 (wr64 ((mn (mn m0_1 m0_1) m0_3) - (wr64 (Int.tdiv (wr64 (w1 + 1)) 2))))]), (77, .pointer (some ⟨g42, 0, none⟩)), (79, .int .i64 (wr64 (Int.tdiv (wr64 (w1 + 1)) 2))), (81, .pointer (some ⟨g42, 1, none⟩)), (83, .int .i64 (wr64 (Int.tdiv (wr64 (w1 + 1)) 2)))] (by kernel_rfl) (by kernel_rfl) hg_abff
    have hg_1fe55 : G [true, false, true, false, true, false, true, false, false, true, true, true, true, true, true, true, true, false, false, false, false] [(4, .pointer (some ⟨b39, 0, none⟩)), (5, .pointer (some ⟨b40, 0, none⟩)), (68, .pointer (some ⟨g41, 0, none⟩)), (70, .int .i64 (wr64 (Int.tdiv (wr64 (w1 + 1)) 2))), (72, .pointer (some ⟨g41, 1, none⟩)), (74, .int .i64 (wr64 (Int.tdiv (wr64 (w1 + 1)) 2))), (80, .int .i64 (wr64 ((mx (mx m0_0 m0_0) m0_2) + (wr64 (Int.tdiv (wr64 (w1 + 1)) 2))))), (84, .int .i64 (wr64 ((mx (mx m0_1 m0_1) m0_3) + (wr64 (Int.tdiv (wr64 (w1 + 1)) 2)))))] ([⟨b45, [.int .i64 m0_2, .int .i64 m0_3], 2⟩, ⟨b44, [.int .i64 m0_0, .int .i64 m0_1], 2⟩, ⟨b43, [.int .i64 m0_0, .int .i64 m0_1, .int .i64 m0_2, .int .i64 m0_3], 4⟩, ⟨g42, [.int .i64 (mx (mx m0_0 m0_0) m0_2), .int .i64 (mx (mx m0_1 m0_1) m0_3)], 2⟩, ⟨g41, [.int .i64 (mn (mn m0_0 m0_0) m0_2), .int .i64 (mn (mn m0_1 m0_1) m0_3)], 2⟩, ⟨b40, [.int .i64 0, .int .i64 0], 2⟩, ⟨b39, [.int .i64 0, .int .i64 0], 2⟩, ⟨B0, [.int .i64 m0_0, .int .i64 m0_1, .int .i64 m0_2, .int .i64 m0_3], 4⟩] : List Own) := by
      exact hqf 17 [4, 5, 68, 70, 72, 74, 85] _ _ _ [(4, .pointer (some ⟨b39, 0, none⟩)), (5, .pointer (some ⟨b40, 0, none⟩)), (68, .pointer (some ⟨g41, 0, none⟩)), (70, .int .i64 (wr64 (Int.tdiv (wr64 (w1 + 1)) 2))), (72, .pointer (some ⟨g41, 1, none⟩)), (74, .int .i64 (wr64 (Int.tdiv (wr64 (w1 + 1)) 2))), (85, .agg #[.int .i64 (wr64 ((mx (mx m0_0 m0_0) m0_2) + (wr64 (Int.tdiv (wr64 (w1 + 1)) 2)))), .int .i64 (wr64 ((mx (mx m0_1 m0_1) m0_3) + (wr64 (Int.tdiv (wr64 (w1 + 1)) 2))))])] (by kernel_rfl) (by kernel_rfl) hg_3fe55
    have hg_1ea5f : G [true, true, true, true, true, false, true, false, false, true, false, true, false, true, true, true, true, false, false, false, false] [(4, .pointer (some ⟨b39, 0, none⟩)), (5, .pointer (some ⟨b40, 0, none⟩)), (71, .int .i64 (wr64 ((mn (mn m0_0 m0_0) m0_2) - (wr64 (Int.tdiv (wr64 (w1 + 1)) 2))))), (72, .pointer (some ⟨g41, 1, none⟩)), (74, .int .i64 (wr64 (Int.tdiv (wr64 (w1 + 1)) 2))), (77, .pointer (some ⟨g42, 0, none⟩)), (79, .int .i64 (wr64 (Int.tdiv (wr64 (w1 + 1)) 2))), (84, .int .i64 (wr64 ((mx (mx m0_1 m0_1) m0_3) + (wr64 (Int.tdiv (wr64 (w1 + 1)) 2)))))] ([⟨b45, [.int .i64 m0_2, .int .i64 m0_3], 2⟩, ⟨b44, [.int .i64 m0_0, .int .i64 m0_1], 2⟩, ⟨b43, [.int .i64 m0_0, .int .i64 m0_1, .int .i64 m0_2, .int .i64 m0_3], 4⟩, ⟨g42, [.int .i64 (mx (mx m0_0 m0_0) m0_2), .int .i64 (mx (mx m0_1 m0_1) m0_3)], 2⟩, ⟨g41, [.int .i64 (mn (mn m0_0 m0_0) m0_2), .int .i64 (mn (mn m0_1 m0_1) m0_3)], 2⟩, ⟨b40, [.int .i64 0, .int .i64 0], 2⟩, ⟨b39, [.int .i64 0, .int .i64 0], 2⟩, ⟨B0, [.int .i64 m0_0, .int .i64 m0_1, .int .i64 m0_2, .int .i64 m0_3], 4⟩] : List Own) := by
      refine hstep [5, 10] _ _ _ (by kernel_rfl) (List.cons_ne_nil _ _) ⟨?_, ?_, trivial⟩
      · show T _ _ _ _ _ _ _ _
        refine t_v (.ld1 rfl rfl rfl (.at 4 rfl rfl)) ?_
        refine t_keep [4, 5, 71, 73, 74, 77, 79, 84] (σ' := [(4, .pointer (some ⟨b39, 0, none⟩)), (5, .pointer (some ⟨b40, 0, none⟩)), (71, .int .i64 (wr64 ((mn (mn m0_0 m0_0) m0_2) - (wr64 (Int.tdiv (wr64 (w1 + 1)) 2))))), (73, .int .i64 (mn (mn m0_1 m0_1) m0_3)), (74, .int .i64 (wr64 (Int.tdiv (wr64 (w1 + 1)) 2))), (77, .pointer (some ⟨g42, 0, none⟩)), (79, .int .i64 (wr64 (Int.tdiv (wr64 (w1 + 1)) 2))), (84, .int .i64 (wr64 ((mx (mx m0_1 m0_1) m0_3) + (wr64 (Int.tdiv (wr64 (w1 + 1)) 2)))))]) (by kernel_rfl) ?_
        refine t_end ?_
        exact ⟨hg_1ea7f, rfl⟩
      · show T _ _ _ _ _ _ _ _
        refine t_v (.ld1 rfl rfl rfl (.at 3 rfl rfl)) ?_
        refine t_keep [4, 5, 71, 72, 74, 78, 79, 84] (σ' := [(4, .pointer (some ⟨b39, 0, none⟩)), (5, .pointer (some ⟨b40, 0, none⟩)), (71, .int .i64 (wr64 ((mn (mn m0_0 m0_0) m0_2) - (wr64 (Int.tdiv (wr64 (w1 + 1)) 2))))), (72, .pointer (some ⟨g41, 1, none⟩)), (74, .int .i64 (wr64 (Int.tdiv (wr64 (w1 + 1)) 2))), (78, .int .i64 (mx (mx m0_0 m0_0) m0_2)), (79, .int .i64 (wr64 (Int.tdiv (wr64 (w1 + 1)) 2))), (84, .int .i64 (wr64 ((mx (mx m0_1 m0_1) m0_3) + (wr64 (Int.tdiv (wr64 (w1 + 1)) 2)))))]) (by kernel_rfl) ?_
        refine t_end ?_
        exact ⟨hg_1ee5f, rfl⟩
    have hg_1eaf5 : G [true, false, true, false, true, true, true, true, false, true, false, true, false, true, true, true, true, false, false, false, false] [(4, .pointer (some ⟨b39, 0, none⟩)), (5, .pointer (some ⟨b40, 0, none⟩)), (68, .pointer (some ⟨g41, 0, none⟩)), (70, .int .i64 (wr64 (Int.tdiv (wr64 (w1 + 1)) 2))), (75, .int .i64 (wr64 ((mn (mn m0_1 m0_1) m0_3) - (wr64 (Int.tdiv (wr64 (w1 + 1)) 2))))), (77, .pointer (some ⟨g42, 0, none⟩)), (79, .int .i64 (wr64 (Int.tdiv (wr64 (w1 + 1)) 2))), (84, .int .i64 (wr64 ((mx (mx m0_1 m0_1) m0_3) + (wr64 (Int.tdiv (wr64 (w1 + 1)) 2)))))] ([⟨b45, [.int .i64 m0_2, .int .i64 m0_3], 2⟩, ⟨b44, [.int .i64 m0_0, .int .i64 m0_1], 2⟩, ⟨b43, [.int .i64 m0_0, .int .i64 m0_1, .int .i64 m0_2, .int .i64 m0_3], 4⟩, ⟨g42, [.int .i64 (mx (mx m0_0 m0_0) m0_2), .int .i64 (mx (mx m0_1 m0_1) m0_3)], 2⟩, ⟨g41, [.int .i64 (mn (mn m0_0 m0_0) m0_2), .int .i64 (mn (mn m0_1 m0_1) m0_3)], 2⟩, ⟨b40, [.int .i64 0, .int .i64 0], 2⟩, ⟨b39, [.int .i64 0, .int .i64 0], 2⟩, ⟨B0, [.int .i64 m0_0, .int .i64 m0_1, .int .i64 m0_2, .int .i64 m0_3], 4⟩] : List Own) := by
      refine hstep [1, 10] _ _ _ (by kernel_rfl) (List.cons_ne_nil _ _) ⟨?_, ?_, trivial⟩
      · show T _ _ _ _ _ _ _ _
        refine t_v (.ld1 rfl rfl rfl (.at 4 rfl rfl)) ?_
        refine t_keep [4, 5, 69, 70, 75, 77, 79, 84] (σ' := [(4, .pointer (some ⟨b39, 0, none⟩)), (5, .pointer (some ⟨b40, 0, none⟩)), (69, .int .i64 (mn (mn m0_0 m0_0) m0_2)), (70, .int .i64 (wr64 (Int.tdiv (wr64 (w1 + 1)) 2))), (75, .int .i64 (wr64 ((mn (mn m0_1 m0_1) m0_3) - (wr64 (Int.tdiv (wr64 (w1 + 1)) 2))))), (77, .pointer (some ⟨g42, 0, none⟩)), (79, .int .i64 (wr64 (Int.tdiv (wr64 (w1 + 1)) 2))), (84, .int .i64 (wr64 ((mx (mx m0_1 m0_1) m0_3) + (wr64 (Int.tdiv (wr64 (w1 + 1)) 2)))))]) (by kernel_rfl) ?_
        refine t_end ?_
        exact ⟨hg_1eaf7, rfl⟩
      · show T _ _ _ _ _ _ _ _
        refine t_v (.ld1 rfl rfl rfl (.at 3 rfl rfl)) ?_
        refine t_keep [4, 5, 68, 70, 75, 78, 79, 84] (σ' := [(4, .pointer (some ⟨b39, 0, none⟩)), (5, .pointer (some ⟨b40, 0, none⟩)), (68, .pointer (some ⟨g41, 0, none⟩)), (70, .int .i64 (wr64 (Int.tdiv (wr64 (w1 + 1)) 2))), (75, .int .i64 (wr64 ((mn (mn m0_1 m0_1) m0_3) - (wr64 (Int.tdiv (wr64 (w1 + 1)) 2))))), (78, .int .i64 (mx (mx m0_0 m0_0) m0_2)), (79, .int .i64 (wr64 (Int.tdiv (wr64 (w1 + 1)) 2))), (84, .int .i64 (wr64 ((mx (mx m0_1 m0_1) m0_3) + (wr64 (Int.tdiv (wr64 (w1 + 1)) 2)))))]) (by kernel_rfl) ?_
        refine t_end ?_
        exact ⟨hg_1eef5, rfl⟩
    have hg_fe55 : G [true, false, true, false, true, false, true, false, false, true, true, true, true, true, true, true, false, false, false, false, false] [(4, .pointer (some ⟨b39, 0, none⟩)), (5, .pointer (some ⟨b40, 0, none⟩)), (68, .pointer (some ⟨g41, 0, none⟩)), (70, .int .i64 (wr64 (Int.tdiv (wr64 (w1 + 1)) 2))), (72, .pointer (some ⟨g41, 1, none⟩)), (74, .int .i64 (wr64 (Int.tdiv (wr64 (w1 + 1)) 2))), (80, .int .i64 (wr64 ((mx (mx m0_0 m0_0) m0_2) + (wr64 (Int.tdiv (wr64 (w1 + 1)) 2))))), (82, .int .i64 (mx (mx m0_1 m0_1) m0_3)), (83, .int .i64 (wr64 (Int.tdiv (wr64 (w1 + 1)) 2)))] ([⟨b45, [.int .i64 m0_2, .int .i64 m0_3], 2⟩, ⟨b44, [.int .i64 m0_0, .int .i64 m0_1], 2⟩, ⟨b43, [.int .i64 m0_0, .int .i64 m0_1, .int .i64 m0_2, .int .i64 m0_3], 4⟩, ⟨g42, [.int .i64 (mx (mx m0_0 m0_0) m0_2), .int .i64 (mx (mx m0_1 m0_1) m0_3)], 2⟩, ⟨g41, [.int .i64 (mn (mn m0_0 m0_0) m0_2), .int .i64 (mn (mn m0_1 m0_1) m0_3)], 2⟩, ⟨b40, [.int .i64 0, .int .i64 0], 2⟩, ⟨b39, [.int .i64 0, .int .i64 0], 2⟩, ⟨B0, [.int .i64 m0_0, .int .i64 m0_1, .int .i64 m0_2, .int .i64 m0_3], 4⟩] : List Own) := by
      exact hqf 16 [4, 5, 68, 70, 72, 74, 80, 84] _ _ _ [(4, .pointer (some ⟨b39, 0, none⟩)), (5, .pointer (some ⟨b40, 0, none⟩)), (68, .pointer (some ⟨g41, 0, none⟩)), (70, .int .i64 (wr64 (Int.tdiv (wr64 (w1 + 1)) 2))), (72, .pointer (some ⟨g41, 1, none⟩)), (74, .int .i64 (wr64 (Int.tdiv (wr64 (w1 + 1)) 2))), (80, .int .i64 (wr64 ((mx (mx m0_0 m0_0) m0_2) + (wr64 (Int.tdiv (wr64 (w1 + 1)) 2))))), (84, .int .i64 (wr64 ((mx (mx m0_1 m0_1) m0_3) + (wr64 (Int.tdiv (wr64 (w1 + 1)) 2)))))] (by kernel_rfl) (by kernel_rfl) hg_1fe55
    have hg_eaf5 : G [true, false, true, false, true, true, true, true, false, true, false, true, false, true, true, true, false, false, false, false, false] [(4, .pointer (some ⟨b39, 0, none⟩)), (5, .pointer (some ⟨b40, 0, none⟩)), (68, .pointer (some ⟨g41, 0, none⟩)), (70, .int .i64 (wr64 (Int.tdiv (wr64 (w1 + 1)) 2))), (75, .int .i64 (wr64 ((mn (mn m0_1 m0_1) m0_3) - (wr64 (Int.tdiv (wr64 (w1 + 1)) 2))))), (77, .pointer (some ⟨g42, 0, none⟩)), (79, .int .i64 (wr64 (Int.tdiv (wr64 (w1 + 1)) 2))), (82, .int .i64 (mx (mx m0_1 m0_1) m0_3)), (83, .int .i64 (wr64 (Int.tdiv (wr64 (w1 + 1)) 2)))] ([⟨b45, [.int .i64 m0_2, .int .i64 m0_3], 2⟩, ⟨b44, [.int .i64 m0_0, .int .i64 m0_1], 2⟩, ⟨b43, [.int .i64 m0_0, .int .i64 m0_1, .int .i64 m0_2, .int .i64 m0_3], 4⟩, ⟨g42, [.int .i64 (mx (mx m0_0 m0_0) m0_2), .int .i64 (mx (mx m0_1 m0_1) m0_3)], 2⟩, ⟨g41, [.int .i64 (mn (mn m0_0 m0_0) m0_2), .int .i64 (mn (mn m0_1 m0_1) m0_3)], 2⟩, ⟨b40, [.int .i64 0, .int .i64 0], 2⟩, ⟨b39, [.int .i64 0, .int .i64 0], 2⟩, ⟨B0, [.int .i64 m0_0, .int .i64 m0_1, .int .i64 m0_2, .int .i64 m0_3], 4⟩] : List Own) := by
      exact hqf 16 [4, 5, 68, 70, 75, 77, 79, 84] _ _ _ [(4, .pointer (some ⟨b39, 0, none⟩)), (5, .pointer (some ⟨b40, 0, none⟩)), (68, .pointer (some ⟨g41, 0, none⟩)), (70, .int .i64 (wr64 (Int.tdiv (wr64 (w1 + 1)) 2))), (75, .int .i64 (wr64 ((mn (mn m0_1 m0_1) m0_3) - (wr64 (Int.tdiv (wr64 (w1 + 1)) 2))))), (77, .pointer (some ⟨g42, 0, none⟩)), (79, .int .i64 (wr64 (Int.tdiv (wr64 (w1 + 1)) 2))), (84, .int .i64 (wr64 ((mx (mx m0_1 m0_1) m0_3) + (wr64 (Int.tdiv (wr64 (w1 + 1)) 2)))))] (by kernel_rfl) (by kernel_rfl) hg_1eaf5
    have hg_be57 : G [true, true, true, false, true, false, true, false, false, true, true, true, true, true, false, true, false, false, false, false, false] [(4, .pointer (some ⟨b39, 0, none⟩)), (5, .pointer (some ⟨b40, 0, none⟩)), (69, .int .i64 (mn (mn m0_0 m0_0) m0_2)), (70, .int .i64 (wr64 (Int.tdiv (wr64 (w1 + 1)) 2))), (72, .pointer (some ⟨g41, 1, none⟩)), (74, .int .i64 (wr64 (Int.tdiv (wr64 (w1 + 1)) 2))), (80, .int .i64 (wr64 ((mx (mx m0_0 m0_0) m0_2) + (wr64 (Int.tdiv (wr64 (w1 + 1)) 2))))), (81, .pointer (some ⟨g42, 1, none⟩)), (83, .int .i64 (wr64 (Int.tdiv (wr64 (w1 + 1)) 2)))] ([⟨b45, [.int .i64 m0_2, .int .i64 m0_3], 2⟩, ⟨b44, [.int .i64 m0_0, .int .i64 m0_1], 2⟩, ⟨b43, [.int .i64 m0_0, .int .i64 m0_1, .int .i64 m0_2, .int .i64 m0_3], 4⟩, ⟨g42, [.int .i64 (mx (mx m0_0 m0_0) m0_2), .int .i64 (mx (mx m0_1 m0_1) m0_3)], 2⟩, ⟨g41, [.int .i64 (mn (mn m0_0 m0_0) m0_2), .int .i64 (mn (mn m0_1 m0_1) m0_3)], 2⟩, ⟨b40, [.int .i64 0, .int .i64 0], 2⟩, ⟨b39, [.int .i64 0, .int .i64 0], 2⟩, ⟨B0, [.int .i64 m0_0, .int .i64 m0_1, .int .i64 m0_2, .int .i64 m0_3], 4⟩] : List Own) := by
      exact hqf 3 [4, 5, 71, 72, 74, 80, 81, 83] _ _ _ [(4, .pointer (some ⟨b39, 0, none⟩)), (5, .pointer (some ⟨b40, 0, none⟩)), (71, .int .i64 (wr64 ((mn (mn m0_0 m0_0) m0_2) - (wr64 (Int.tdiv (wr64 (w1 + 1)) 2))))), (72, .pointer (some ⟨g41, 1, none⟩)), (74, .int .i64 (wr64 (Int.tdiv (wr64 (w1 + 1)) 2))), (80, .int .i64 (wr64 ((mx (mx m0_0 m0_0) m0_2) + (wr64 (Int.tdiv (wr64 (w1 + 1)) 2))))), (81, .pointer (some ⟨g42, 1, none⟩)), (83, .int .i64 (wr64 (Int.tdiv (wr64 (w1 + 1)) 2)))] (by kernel_rfl) (by kernel_rfl) hg_be5f
    have hg_aaf7 : G [true, true, true, false, true, true, true, true, false, true, false, true, false, true, false, true, false, false, false, false, false] [(4, .pointer (some ⟨b39, 0, none⟩)), (5, .pointer (some ⟨b40, 0, none⟩)), (69, .int .i64 (mn (mn m0_0 m0_0) m0_2)), (70, .int .i64 (wr64 (Int.tdiv (wr64 (w1 + 1)) 2))), (75, .int .i64 (wr64 ((mn (mn m0_1 m0_1) m0_3) - (wr64 (Int.tdiv (wr64 (w1 + 1)) 2))))), (77, .pointer (some ⟨g42, 0, none⟩)), (79, .int .i64 (wr64 (Int.tdiv (wr64 (w1 + 1)) 2))), (81, .pointer (some ⟨g42, 1, none⟩)), (83, .int .i64 (wr64 (Int.tdiv (wr64 (w1 + 1)) 2)))] ([⟨b45, [.int .i64 m0_2, .int .i64 m0_3], 2⟩, ⟨b44, [.int .i64 m0_0, .int .i64 m0_1], 2⟩, ⟨b43, [.int .i64 m0_0, .int .i64 m0_1, .int .i64 m0_2, .int .i64 m0_3], 4⟩, ⟨g42, [.int .i64 (mx (mx m0_0 m0_0) m0_2), .int .i64 (mx (mx m0_1 m0_1) m0_3)], 2⟩, ⟨g41, [.int .i64 (mn (mn m0_0 m0_0) m0_2), .int .i64 (mn (mn m0_1 m0_1) m0_3)], 2⟩, ⟨b40, [.int .i64 0, .int .i64 0], 2⟩, ⟨b39, [.int .i64 0, .int .i64 0], 2⟩, ⟨B0, [.int .i64 m0_0, .int .i64 m0_1, .int .i64 m0_2, .int .i64 m0_3], 4⟩] : List Own) := by
      exact hqf 3 [4, 5, 71, 75, 77, 79, 81, 83] _ _ _ [(4, .pointer (some ⟨b39, 0, none⟩)), (5, .pointer (some ⟨b40, 0, none⟩)), (71, .int .i64 (wr64 ((mn (mn m0_0 m0_0) m0_2) - (wr64 (Int.tdiv (wr64 (w1 + 1)) 2))))), (75, .int .i64 (wr64 ((mn (mn m0_1 m0_1) m0_3) - (wr64 (Int.tdiv (wr64 (w1 + 1)) 2))))), (77, .pointer (some ⟨g42, 0, none⟩)), (79, .int .i64 (wr64 (Int.tdiv (wr64 (w1 + 1)) 2))), (81, .pointer (some ⟨g42, 1, none⟩)), (83, .int .i64 (wr64 (Int.tdiv (wr64 (w1 + 1)) 2)))] (by kernel_rfl) (by kernel_rfl) hg_aaff
    have hg_ea5f : G [true, true, true, true, true, false, true, false, false, true, false, true, false, true, true, true, false, false, false, false, false] [(4, .pointer (some ⟨b39, 0, none⟩)), (5, .pointer (some ⟨b40, 0, none⟩)), (71, .int .i64 (wr64 ((mn (mn m0_0 m0_0) m0_2) - (wr64 (Int.tdiv (wr64 (w1 + 1)) 2))))), (72, .pointer (some ⟨g41, 1, none⟩)), (74, .int .i64 (wr64 (Int.tdiv (wr64 (w1 + 1)) 2))), (77, .pointer (some ⟨g42, 0, none⟩)), (79, .int .i64 (wr64 (Int.tdiv (wr64 (w1 + 1)) 2))), (82, .int .i64 (mx (mx m0_1 m0_1) m0_3)), (83, .int .i64 (wr64 (Int.tdiv (wr64 (w1 + 1)) 2)))] ([⟨b45, [.int .i64 m0_2, .int .i64 m0_3], 2⟩, ⟨b44, [.int .i64 m0_0, .int .i64 m0_1], 2⟩, ⟨b43, [.int .i64 m0_0, .int .i64 m0_1, .int .i64 m0_2, .int .i64 m0_3], 4⟩, ⟨g42, [.int .i64 (mx (mx m0_0 m0_0) m0_2), .int .i64 (mx (mx m0_1 m0_1) m0_3)], 2⟩, ⟨g41, [.int .i64 (mn (mn m0_0 m0_0) m0_2), .int .i64 (mn (mn m0_1 m0_1) m0_3)], 2⟩, ⟨b40, [.int .i64 0, .int .i64 0], 2⟩, ⟨b39, [.int .i64 0, .int .i64 0], 2⟩, ⟨B0, [.int .i64 m0_0, .int .i64 m0_1, .int .i64 m0_2, .int .i64 m0_3], 4⟩] : List Own) := by
      exact hqf 16 [4, 5, 71, 72, 74, 77, 79, 84] _ _ _ [(4, .pointer (some ⟨b39, 0, none⟩)), (5, .pointer (some ⟨b40, 0, none⟩)), (71, .int .i64 (wr64 ((mn (mn m0_0 m0_0) m0_2) - (wr64 (Int.tdiv (wr64 (w1 + 1)) 2))))), (72, .pointer (some ⟨g41, 1, none⟩)), (74, .int .i64 (wr64 (Int.tdiv (wr64 (w1 + 1)) 2))), (77, .pointer (some ⟨g42, 0, none⟩)), (79, .int .i64 (wr64 (Int.tdiv (wr64 (w1 + 1)) 2))), (84, .int .i64 (wr64 ((mx (mx m0_1 m0_1) m0_3) + (wr64 (Int.tdiv (wr64 (w1 + 1)) 2)))))] (by kernel_rfl) (by kernel_rfl) hg_1ea5f
    have hg_ae5f : G [true, true, true, true, true, false, true, false, false, true, true, true, false, true, false, true, false, false, false, false, false] [(4, .pointer (some ⟨b39, 0, none⟩)), (5, .pointer (some ⟨b40, 0, none⟩)), (71, .int .i64 (wr64 ((mn (mn m0_0 m0_0) m0_2) - (wr64 (Int.tdiv (wr64 (w1 + 1)) 2))))), (72, .pointer (some ⟨g41, 1, none⟩)), (74, .int .i64 (wr64 (Int.tdiv (wr64 (w1 + 1)) 2))), (78, .int .i64 (mx (mx m0_0 m0_0) m0_2)), (79, .int .i64 (wr64 (Int.tdiv (wr64 (w1 + 1)) 2))), (81, .pointer (some ⟨g42, 1, none⟩)), (83, .int .i64 (wr64 (Int.tdiv (wr64 (w1 + 1)) 2)))] ([⟨b45, [.int .i64 m0_2, .int .i64 m0_3], 2⟩, ⟨b44, [.int .i64 m0_0, .int .i64 m0_1], 2⟩, ⟨b43, [.int .i64 m0_0, .int .i64 m0_1, .int .i64 m0_2, .int .i64 m0_3], 4⟩, ⟨g42, [.int .i64 (mx (mx m0_0 m0_0) m0_2), .int .i64 (mx (mx m0_1 m0_1) m0_3)], 2⟩, ⟨g41, [.int .i64 (mn (mn m0_0 m0_0) m0_2), .int .i64 (mn (mn m0_1 m0_1) m0_3)], 2⟩, ⟨b40, [.int .i64 0, .int .i64 0], 2⟩, ⟨b39, [.int .i64 0, .int .i64 0], 2⟩, ⟨B0, [.int .i64 m0_0, .int .i64 m0_1, .int .i64 m0_2, .int .i64 m0_3], 4⟩] : List Own) := by
      exact hqf 12 [4, 5, 71, 72, 74, 80, 81, 83] _ _ _ [(4, .pointer (some ⟨b39, 0, none⟩)), (5, .pointer (some ⟨b40, 0, none⟩)), (71, .int .i64 (wr64 ((mn (mn m0_0 m0_0) m0_2) - (wr64 (Int.tdiv (wr64 (w1 + 1)) 2))))), (72, .pointer (some ⟨g41, 1, none⟩)), (74, .int .i64 (wr64 (Int.tdiv (wr64 (w1 + 1)) 2))), (80, .int .i64 (wr64 ((mx (mx m0_0 m0_0) m0_2) + (wr64 (Int.tdiv (wr64 (w1 + 1)) 2))))), (81, .pointer (some ⟨g42, 1, none⟩)), (83, .int .i64 (wr64 (Int.tdiv (wr64 (w1 + 1)) 2)))] (by kernel_rfl) (by kernel_rfl) hg_be5f
    have hg_aef5 : G [true, false, true, false, true, true, true, true, false, true, true, true, false, true, false, true, false, false, false, false, false] [(4, .pointer (some ⟨b39, 0, none⟩)), (5, .pointer (some ⟨b40, 0, none⟩)), (68, .pointer (some ⟨g41, 0, none⟩)), (70, .int .i64 (wr64 (Int.tdiv (wr64 (w1 + 1)) 2))), (75, .int .i64 (wr64 ((mn (mn m0_1 m0_1) m0_3) - (wr64 (Int.tdiv (wr64 (w1 + 1)) 2))))), (78, .int .i64 (mx (mx m0_0 m0_0) m0_2)), (79, .int .i64 (wr64 (Int.tdiv (wr64 (w1 + 1)) 2))), (81, .pointer (some ⟨g42, 1, none⟩)), (83, .int .i64 (wr64 (Int.tdiv (wr64 (w1 + 1)) 2)))] ([⟨b45, [.int .i64 m0_2, .int .i64 m0_3], 2⟩, ⟨b44, [.int .i64 m0_0, .int .i64 m0_1], 2⟩, ⟨b43, [.int .i64 m0_0, .int .i64 m0_1, .int .i64 m0_2, .int .i64 m0_3], 4⟩, ⟨g42, [.int .i64 (mx (mx m0_0 m0_0) m0_2), .int .i64 (mx (mx m0_1 m0_1) m0_3)], 2⟩, ⟨g41, [.int .i64 (mn (mn m0_0 m0_0) m0_2), .int .i64 (mn (mn m0_1 m0_1) m0_3)], 2⟩, ⟨b40, [.int .i64 0, .int .i64 0], 2⟩, ⟨b39, [.int .i64 0, .int .i64 0], 2⟩, ⟨B0, [.int .i64 m0_0, .int .i64 m0_1, .int .i64 m0_2, .int .i64 m0_3], 4⟩] : List Own) := by
      exact hqf 12 [4, 5, 68, 70, 75, 80, 81, 83] _ _ _ [(4, .pointer (some ⟨b39, 0, none⟩)), (5, .pointer (some ⟨b40, 0, none⟩)), (68, .pointer (some ⟨g41, 0, none⟩)), (70, .int .i64 (wr64 (Int.tdiv (wr64 (w1 + 1)) 2))), (75, .int .i64 (wr64 ((mn (mn m0_1 m0_1) m0_3) - (wr64 (Int.tdiv (wr64 (w1 + 1)) 2))))), (80, .int .i64 (wr64 ((mx (mx m0_0 m0_0) m0_2) + (wr64 (Int.tdiv (wr64 (w1 + 1)) 2))))), (81, .pointer (some ⟨g42, 1, none⟩)), (83, .int .i64 (wr64 (Int.tdiv (wr64 (w1 + 1)) 2)))] (by kernel_rfl) (by kernel_rfl) hg_bef5
    have hg_aa7f : G [true, true, true, true, true, true, true, false, false, true, false, true, false, true, false, true, false, false, false, false, false] [(4, .pointer (some ⟨b39, 0, none⟩)), (5, .pointer (some ⟨b40, 0, none⟩)), (71, .int .i64 (wr64 ((mn (mn m0_0 m0_0) m0_2) - (wr64 (Int.tdiv (wr64 (w1 + 1)) 2))))), (73, .int .i64 (mn (mn m0_1 m0_1) m0_3)), (74, .int .i64 (wr64 (Int.tdiv (wr64 (w1 + 1)) 2))), (77, .pointer (some ⟨g42, 0, none⟩)), (79, .int .i64 (wr64 (Int.tdiv (wr64 (w1 + 1)) 2))), (81, .pointer (some ⟨g42, 1, none⟩)), (83, .int .i64 (wr64 (Int.tdiv (wr64 (w1 + 1)) 2)))] ([⟨b45, [.int .i64 m0_2, .int .i64 m0_3], 2⟩, ⟨b44, [.int .i64 m0_0, .int .i64 m0_1], 2⟩, ⟨b43, [.int .i64 m0_0, .int .i64 m0_1, .int .i64 m0_2, .int .i64 m0_3], 4⟩, ⟨g42, [.int .i64 (mx (mx m0_0 m0_0) m0_2), .int .i64 (mx (mx m0_1 m0_1) m0_3)], 2⟩, ⟨g41, [.int .i64 (mn (mn m0_0 m0_0) m0_2), .int .i64 (mn (mn m0_1 m0_1) m0_3)], 2⟩, ⟨b40, [.int .i64 0, .int .i64 0], 2⟩, ⟨b39, [.int .i64 0, .int .i64 0], 2⟩, ⟨B0, [.int .i64 m0_0, .int .i64 m0_1, .int .i64 m0_2, .int .i64 m0_3], 4⟩] : List Own) := by
      exact hqf 7 [4, 5, 71, 75, 77, 79, 81, 83] _ _ _ [(4, .pointer (some ⟨b39, 0, none⟩)), (5, .pointer (some ⟨b40, 0, none⟩)), (71, .int .i64 (wr64 ((mn (mn m0_0 m0_0) m0_2) - (wr64 (Int.tdiv (wr64 (w1 + 1)) 2))))), (75, .int .i64 (wr64 ((mn (mn m0_1 m0_1) m0_3) - (wr64 (Int.tdiv (wr64 (w1 + 1)) 2))))), (77, .pointer (some ⟨g42, 0, none⟩)), (79, .int .i64 (wr64 (Int.tdiv (wr64 (w1 + 1)) 2))), (81, .pointer (some ⟨g42, 1, none⟩)), (83, .int .i64 (wr64 (Int.tdiv (wr64 (w1 + 1)) 2)))] (by kernel_rfl) (by kernel_rfl) hg_aaff
    have hg_1ee55 : G [true, false, true, false, true, false, true, false, false, true, true, true, false, true, true, true, true, false, false, false, false] [(4, .pointer (some ⟨b39, 0, none⟩)), (5, .pointer (some ⟨b40, 0, none⟩)), (68, .pointer (some ⟨g41, 0, none⟩)), (70, .int .i64 (wr64 (Int.tdiv (wr64 (w1 + 1)) 2))), (72, .pointer (some ⟨g41, 1, none⟩)), (74, .int .i64 (wr64 (Int.tdiv (wr64 (w1 + 1)) 2))), (78, .int .i64 (mx (mx m0_0 m0_0) m0_2)), (79, .int .i64 (wr64 (Int.tdiv (wr64 (w1 + 1)) 2))), (84, .int .i64 (wr64 ((mx (mx m0_1 m0_1) m0_3) + (wr64 (Int.tdiv (wr64 (w1 + 1)) 2)))))] ([⟨b45, [.int .i64 m0_2, .int .i64 m0_3], 2⟩, ⟨b44, [.int .i64 m0_0, .int .i64 m0_1], 2⟩, ⟨b43, [.int .i64 m0_0, .int .i64 m0_1, .int .i64 m0_2, .int .i64 m0_3], 4⟩, ⟨g42, [.int .i64 (mx (mx m0_0 m0_0) m0_2), .int .i64 (mx (mx m0_1 m0_1) m0_3)], 2⟩, ⟨g41, [.int .i64 (mn (mn m0_0 m0_0) m0_2), .int .i64 (mn (mn m0_1 m0_1) m0_3)], 2⟩, ⟨b40, [.int .i64 0, .int .i64 0], 2⟩, ⟨b39, [.int .i64 0, .int .i64 0], 2⟩, ⟨B0, [.int .i64 m0_0, .int .i64 m0_1, .int .i64 m0_2, .int .i64 m0_3], 4⟩] : List Own) := by
      exact hqf 12 [4, 5, 68, 70, 72, 74, 80, 84] _ _ _ [(4, .pointer (some ⟨b39, 0, none⟩)), (5, .pointer (some ⟨b40, 0, none⟩)), (68, .pointer (some ⟨g41, 0, none⟩)), (70, .int .i64 (wr64 (Int.tdiv (wr64 (w1 + 1)) 2))), (72, .pointer (some ⟨g41, 1, none⟩)), (74, .int .i64 (wr64 (Int.tdiv (wr64 (w1 + 1)) 2))), (80, .int .i64 (wr64 ((mx (mx m0_0 m0_0) m0_2) + (wr64 (Int.tdiv (wr64 (w1 + 1)) 2))))), (84, .int .i64 (wr64 ((mx (mx m0_1 m0_1) m0_3) + (wr64 (Int.tdiv (wr64 (w1 + 1)) 2)))))] (by kernel_rfl) (by kernel_rfl) hg_1fe55
    have hg_1ea57 : G [true, true, true, false, true, false, true, false, false, true, false, true, false, true, true, true, true, false, false, false, false] [(4, .pointer (some ⟨b39, 0, none⟩)), (5, .pointer (some ⟨b40, 0, none⟩)), (69, .int .i64 (mn (mn m0_0 m0_0) m0_2)), (70, .int .i64 (wr64 (Int.tdiv (wr64 (w1 + 1)) 2))), (72, .pointer (some ⟨g41, 1, none⟩)), (74, .int .i64 (wr64 (Int.tdiv (wr64 (w1 + 1)) 2))), (77, .pointer (some ⟨g42, 0, none⟩)), (79, .int .i64 (wr64 (Int.tdiv (wr64 (w1 + 1)) 2))), (84, .int .i64 (wr64 ((mx (mx m0_1 m0_1) m0_3) + (wr64 (Int.tdiv (wr64 (w1 + 1)) 2)))))] ([⟨b45, [.int .i64 m0_2, .int .i64 m0_3], 2⟩, ⟨b44, [.int .i64 m0_0, .int .i64 m0_1], 2⟩, ⟨b43, [.int .i64 m0_0, .int .i64 m0_1, .int .i64 m0_2, .int .i64 m0_3], 4⟩, ⟨g42, [.int .i64 (mx (mx m0_0 m0_0) m0_2), .int .i64 (mx (mx m0_1 m0_1) m0_3)], 2⟩, ⟨g41, [.int .i64 (mn (mn m0_0 m0_0) m0_2), .int .i64 (mn (mn m0_1 m0_1) m0_3)], 2⟩, ⟨b40, [.int .i64 0, .int .i64 0], 2⟩, ⟨b39, [.int .i64 0, .int .i64 0], 2⟩, ⟨B0, [.int .i64 m0_0, .int .i64 m0_1, .int .i64 m0_2, .int .i64 m0_3], 4⟩] : List Own) := by
      exact hqf 3 [4, 5, 71, 72, 74, 77, 79, 84] _ _ _ [(4, .pointer (some ⟨b39, 0, none⟩)), (5, .pointer (some ⟨b40, 0, none⟩)), (71, .int .i64 (wr64 ((mn (mn m0_0 m0_0) m0_2) - (wr64 (Int.tdiv (wr64 (w1 + 1)) 2))))), (72, .pointer (some ⟨g41, 1, none⟩)), (74, .int .i64 (wr64 (Int.tdiv (wr64 (w1 + 1)) 2))), (77, .pointer (some ⟨g42, 0, none⟩)), (79, .int .i64 (wr64 (Int.tdiv (wr64 (w1 + 1)) 2))), (84, .int .i64 (wr64 ((mx (mx m0_1 m0_1) m0_3) + (wr64 (Int.tdiv (wr64 (w1 + 1)) 2)))))] (by kernel_rfl) (by kernel_rfl) hg_1ea5f
    have hg_1ea75 : G [true, false, true, false, true, true, true, false, false, true, false, true, false, true, true, true, true, false, false, false, false] [(4, .pointer (some ⟨b39, 0, none⟩)), (5, .pointer (some ⟨b40, 0, none⟩)), (68, .pointer (some ⟨g41, 0, none⟩)), (70, .int .i64 (wr64 (Int.tdiv (wr64 (w1 + 1)) 2))), (73, .int .i64 (mn (mn m0_1 m0_1) m0_3)), (74, .int .i64 (wr64 (Int.tdiv (wr64 (w1 + 1)) 2))), (77, .pointer (some ⟨g42, 0, none⟩)), (79, .int .i64 (wr64 (Int.tdiv (wr64 (w1 + 1)) 2))), (84, .int .i64 (wr64 ((mx (mx m0_1 m0_1) m0_3) + (wr64 (Int.tdiv (wr64 (w1 + 1)) 2)))))] ([⟨b45, [.int .i64 m0_2, .int .i64 m0_3], 2⟩, ⟨b44, [.int .i64 m0_0, .int .i64 m0_1], 2⟩, ⟨b43, [.int .i64 m0_0, .int .i64 m0_1, .int .i64 m0_2, .int .i64 m0_3], 4⟩, ⟨g42, [.int .i64 (mx (mx m0_0 m0_0) m0_2), .int .i64 (mx (mx m0_1 m0_1) m0_3)], 2⟩, ⟨g41, [.int .i64 (mn (mn m0_0 m0_0) m0_2), .int .i64 (mn (mn m0_1 m0_1) m0_3)], 2⟩, ⟨b40, [.int .i64 0, .int .i64 0], 2⟩, ⟨b39, [.int .i64 0, .int .i64 0], 2⟩, ⟨B0, [.int .i64 m0_0, .int .i64 m0_1, .int .i64 m0_2, .int .i64 m0_3], 4⟩] : List Own) := by
      exact hqf 7 [4, 5, 68, 70, 75, 77, 79, 84] _ _ _ [(4, .pointer (some ⟨b39, 0, none⟩)), (5, .pointer (some ⟨b40, 0, none⟩)), (68, .pointer (some ⟨g41, 0, none⟩)), (70, .int .i64 (wr64 (Int.tdiv (wr64 (w1 + 1)) 2))), (75, .int .i64 (wr64 ((mn (mn m0_1 m0_1) m0_3) - (wr64 (Int.tdiv (wr64 (w1 + 1)) 2))))), (77, .pointer (some ⟨g42, 0, none⟩)), (79, .int .i64 (wr64 (Int.tdiv (wr64 (w1 + 1)) 2))), (84, .int .i64 (wr64 ((mx (mx m0_1 m0_1) m0_3) + (wr64 (Int.tdiv (wr64 (w1 + 1)) 2)))))] (by kernel_rfl) (by kernel_rfl) hg_1eaf5
    have hg_be75 : G [true, false, true, false, true, true, true, false, false, true, true, true, true, true, false, true, false, false, false, false, false] [(4, .pointer (some ⟨b39, 0, none⟩)), (5, .pointer (some ⟨b40, 0, none⟩)), (68, .pointer (some ⟨g41, 0, none⟩)), (70, .int .i64 (wr64 (Int.tdiv (wr64 (w1 + 1)) 2))), (73, .int .i64 (mn (mn m0_1 m0_1) m0_3)), (74, .int .i64 (wr64 (Int.tdiv (wr64 (w1 + 1)) 2))), (80, .int .i64 (wr64 ((mx (mx m0_0 m0_0) m0_2) + (wr64 (Int.tdiv (wr64 (w1 + 1)) 2))))), (81, .pointer (some ⟨g42, 1, none⟩)), (83, .int .i64 (wr64 (Int.tdiv (wr64 (w1 + 1)) 2)))] ([⟨b45, [.int .i64 m0_2, .int .i64 m0_3], 2⟩, ⟨b44, [.int .i64 m0_0, .int .i64 m0_1], 2⟩, ⟨b43, [.int .i64 m0_0, .int .i64 m0_1, .int .i64 m0_2, .int .i64 m0_3], 4⟩, ⟨g42, [.int .i64 (mx (mx m0_0 m0_0) m0_2), .int .i64 (mx (mx m0_1 m0_1) m0_3)], 2⟩, ⟨g41, [.int .i64 (mn (mn m0_0 m0_0) m0_2), .int .i64 (mn (mn m0_1 m0_1) m0_3)], 2⟩, ⟨b40, [.int .i64 0, .int .i64 0], 2⟩, ⟨b39, [.int .i64 0, .int .i64 0], 2⟩, ⟨B0, [.int .i64 m0_0, .int .i64 m0_1, .int .i64 m0_2, .int .i64 m0_3], 4⟩] : List Own) := by
      exact hqf 7 [4, 5, 68, 70, 75, 80, 81, 83] _ _ _ [(4, .pointer (some ⟨b39, 0, none⟩)), (5, .pointer (some ⟨b40, 0, none⟩)), (68, .pointer (some ⟨g41, 0, none⟩)), (70, .int .i64 (wr64 (Int.tdiv (wr64 (w1 + 1)) 2))), (75, .int .i64 (wr64 ((mn (mn m0_1 m0_1) m0_3) - (wr64 (Int.tdiv (wr64 (w1 + 1)) 2))))), (80, .int .i64 (wr64 ((mx (mx m0_0 m0_0) m0_2) + (wr64 (Int.tdiv (wr64 (w1 + 1)) 2))))), (81, .pointer (some ⟨g42, 1, none⟩)), (83, .int .i64 (wr64 (Int.tdiv (wr64 (w1 + 1)) 2)))] (by kernel_rfl) (by kernel_rfl) hg_bef5
    have hg_be55 : G [true, false, true, false, true, false, true, false, false, true, true, true, true, true, false, true, false, false, false, false, false] [(4, .pointer (some ⟨b39, 0, none⟩)), (5, .pointer (some ⟨b40, 0, none⟩)), (68, .pointer (some ⟨g41, 0, none⟩)), (70, .int .i64 (wr64 (Int.tdiv (wr64 (w1 + 1)) 2))), (72, .pointer (some ⟨g41, 1, none⟩)), (74, .int .i64 (wr64 (Int.tdiv (wr64 (w1 + 1)) 2))), (80, .int .i64 (wr64 ((mx (mx m0_0 m0_0) m0_2) + (wr64 (Int.tdiv (wr64 (w1 + 1)) 2))))), (81, .pointer (some ⟨g42, 1, none⟩)), (83, .int .i64 (wr64 (Int.tdiv (wr64 (w1 + 1)) 2)))] ([⟨b45, [.int .i64 m0_2, .int .i64 m0_3], 2⟩, ⟨b44, [.int .i64 m0_0, .int .i64 m0_1], 2⟩, ⟨b43, [.int .i64 m0_0, .int .i64 m0_1, .int .i64 m0_2, .int .i64 m0_3], 4⟩, ⟨g42, [.int .i64 (mx (mx m0_0 m0_0) m0_2), .int .i64 (mx (mx m0_1 m0_1) m0_3)], 2⟩, ⟨g41, [.int .i64 (mn (mn m0_0 m0_0) m0_2), .int .i64 (mn (mn m0_1 m0_1) m0_3)], 2⟩, ⟨b40, [.int .i64 0, .int .i64 0], 2⟩, ⟨b39, [.int .i64 0, .int .i64 0], 2⟩, ⟨B0, [.int .i64 m0_0, .int .i64 m0_1, .int .i64 m0_2, .int .i64 m0_3], 4⟩] : List Own) := by
      refine hstep [1, 5, 14] _ _ _ (by kernel_rfl) (List.cons_ne_nil _ _) ⟨?_, ?_, ?_, trivial⟩
      · show T _ _ _ _ _ _ _ _
        refine t_v (.ld1 rfl rfl rfl (.at 4 rfl rfl)) ?_
        refine t_keep [4, 5, 69, 70, 72, 74, 80, 81, 83] (σ' := [(4, .pointer (some ⟨b39, 0, none⟩)), (5, .pointer (some ⟨b40, 0, none⟩)), (69, .int .i64 (mn (mn m0_0 m0_0) m0_2)), (70, .int .i64 (wr64 (Int.tdiv (wr64 (w1 + 1)) 2))), (72, .pointer (some ⟨g41, 1, none⟩)), (74, .int .i64 (wr64 (Int.tdiv (wr64 (w1 + 1)) 2))), (80, .int .i64 (wr64 ((mx (mx m0_0 m0_0) m0_2) + (wr64 (Int.tdiv (wr64 (w1 + 1)) 2))))), (81, .pointer (some ⟨g42, 1, none⟩)), (83, .int .i64 (wr64 (Int.tdiv (wr64 (w1 + 1)) 2)))]) (by kernel_rfl) ?_
        refine t_end ?_
        exact ⟨hg_be57, rfl⟩
      · show T _ _ _ _ _ _ _ _
        refine t_v (.ld1 rfl rfl rfl (.at 4 rfl rfl)) ?_
        refine t_keep [4, 5, 68, 70, 73, 74, 80, 81, 83] (σ' := [(4, .pointer (some ⟨b39, 0, none⟩)), (5, .pointer (some ⟨b40, 0, none⟩)), (68, .pointer (some ⟨g41, 0, none⟩)), (70, .int .i64 (wr64 (Int.tdiv (wr64 (w1 + 1)) 2))), (73, .int .i64 (mn (mn m0_1 m0_1) m0_3)), (74, .int .i64 (wr64 (Int.tdiv (wr64 (w1 + 1)) 2))), (80, .int .i64 (wr64 ((mx (mx m0_0 m0_0) m0_2) + (wr64 (Int.tdiv (wr64 (w1 + 1)) 2))))), (81, .pointer (some ⟨g42, 1, none⟩)), (83, .int .i64 (wr64 (Int.tdiv (wr64 (w1 + 1)) 2)))]) (by kernel_rfl) ?_
        refine t_end ?_
        exact ⟨hg_be75, rfl⟩
      · show T _ _ _ _ _ _ _ _
        refine t_v (.ld1 rfl rfl rfl (.at 3 rfl rfl)) ?_
        refine t_keep [4, 5, 68, 70, 72, 74, 80, 82, 83] (σ' := [(4, .pointer (some ⟨b39, 0, none⟩)), (5, .pointer (some ⟨b40, 0, none⟩)), (68, .pointer (some ⟨g41, 0, none⟩)), (70, .int .i64 (wr64 (Int.tdiv (wr64 (w1 + 1)) 2))), (72, .pointer (some ⟨g41, 1, none⟩)), (74, .int .i64 (wr64 (Int.tdiv (wr64 (w1 + 1)) 2))), (80, .int .i64 (wr64 ((mx (mx m0_0 m0_0) m0_2) + (wr64 (Int.tdiv (wr64 (w1 + 1)) 2))))), (82, .int .i64 (mx (mx m0_1 m0_1) m0_3)), (83, .int .i64 (wr64 (Int.tdiv (wr64 (w1 + 1)) 2)))]) (by kernel_rfl) ?_
        refine t_end ?_
        exact ⟨hg_fe55, rfl⟩
    have hg_aaf5 : G [true, false, true, false, true, true, true, true, false, true, false, true, false, true, false, true, false, false, false, false, false] [(4, .pointer (some ⟨b39, 0, none⟩)), (5, .pointer (some ⟨b40, 0, none⟩)), (68, .pointer (some ⟨g41, 0, none⟩)), (70, .int .i64 (wr64 (Int.tdiv (wr64 (w1 + 1)) 2))), (75, .int .i64 (wr64 ((mn (mn m0_1 m0_1) m0_3) - (wr64 (Int.tdiv (wr64 (w1 + 1)) 2))))), (77, .pointer (some ⟨g42, 0, none⟩)), (79, .int .i64 (wr64 (Int.tdiv (wr64 (w1 + 1)) 2))), (81, .pointer (some ⟨g42, 1, none⟩)), (83, .int .i64 (wr64 (Int.tdiv (wr64 (w1 + 1)) 2)))] ([⟨b45, [.int .i64 m0_2, .int .i64 m0_3], 2⟩, ⟨b44, [.int .i64 m0_0, .int .i64 m0_1], 2⟩, ⟨b43, [.int .i64 m0_0, .int .i64 m0_1, .int .i64 m0_2, .int .i64 m0_3], 4⟩, ⟨g42, [.int .i64 (mx (mx m0_0 m0_0) m0_2), .int .i64 (mx (mx m0_1 m0_1) m0_3)], 2⟩, ⟨g41, [.int .i64 (mn (mn m0_0 m0_0) m0_2), .int .i64 (mn (mn m0_1 m0_1) m0_3)], 2⟩, ⟨b40, [.int .i64 0, .int .i64 0], 2⟩, ⟨b39, [.int .i64 0, .int .i64 0], 2⟩, ⟨B0, [.int .i64 m0_0, .int .i64 m0_1, .int .i64 m0_2, .int .i64 m0_3], 4⟩] : List Own) := by
      refine hstep [1, 10, 14] _ _ _ (by kernel_rfl) (List.cons_ne_nil _ _) ⟨?_, ?_, ?_, trivial⟩
      · show T _ _ _ _ _ _ _ _
        refine t_v (.ld1 rfl rfl rfl (.at 4 rfl rfl)) ?_
        refine t_keep [4, 5, 69, 70, 75, 77, 79, 81, 83] (σ' := [(4, .pointer (some ⟨b39, 0, none⟩)), (5, .pointer (some ⟨b40, 0, none⟩)), (69, .int .i64 (mn (mn m0_0 m0_0) m0_2)), (70, .int .i64 (wr64 (Int.tdiv (wr64 (w1 + 1)) 2))), (75, .int .i64 (wr64 ((mn (mn m0_1 m0_1) m0_3) - (wr64 (Int.tdiv (wr64 (w1 + 1)) 2))))), (77, .pointer (some ⟨g42, 0, none⟩)), (79, .int .i64 (wr64 (Int.tdiv (wr64 (w1 + 1)) 2))), (81, .pointer (some ⟨g42, 1, none⟩)), (83, .int .i64 (wr64 (Int.tdiv (wr64 (w1 + 1)) 2)))]) (by kernel_rfl) ?_
        refine t_end ?_
        exact ⟨hg_aaf7, rfl⟩
      · show T _ _ _ _ _ _ _ _
        refine t_v (.ld1 rfl rfl rfl (.at 3 rfl rfl)) ?_
        refine t_keep [4, 5, 68, 70, 75, 78, 79, 81, 83] (σ' := [(4, .pointer (some ⟨b39, 0, none⟩)), (5, .pointer (some ⟨b40, 0, none⟩)), (68, .pointer (some ⟨g41, 0, none⟩)), (70, .int .i64 (wr64 (Int.tdiv (wr64 (w1 + 1)) 2))), (75, .int .i64 (wr64 ((mn (mn m0_1 m0_1) m0_3) - (wr64 (Int.tdiv (wr64 (w1 + 1)) 2))))), (78, .int .i64 (mx (mx m0_0 m0_0) m0_2)), (79, .int .i64 (wr64 (Int.tdiv (wr64 (w1 + 1)) 2))), (81, .pointer (some ⟨g42, 1, none⟩)), (83, .int .i64 (wr64 (Int.tdiv (wr64 (w1 + 1)) 2)))]) (by kernel_rfl) ?_
        refine t_end ?_
        exact ⟨hg_aef5, rfl⟩
      · show T _ _ _ _ _ _ _ _
        refine t_v (.ld1 rfl rfl rfl (.at 3 rfl rfl)) ?_
        refine t_keep [4, 5, 68, 70, 75, 77, 79, 82, 83] (σ' := [(4, .pointer (some ⟨b39, 0, none⟩)), (5, .pointer (some ⟨b40, 0, none⟩)), (68, .pointer (some ⟨g41, 0, none⟩)), (70, .int .i64 (wr64 (Int.tdiv (wr64 (w1 + 1)) 2))), (75, .int .i64 (wr64 ((mn (mn m0_1 m0_1) m0_3) - (wr64 (Int.tdiv (wr64 (w1 + 1)) 2))))), (77, .pointer (some ⟨g42, 0, none⟩)), (79, .int .i64 (wr64 (Int.tdiv (wr64 (w1 + 1)) 2))), (82, .int .i64 (mx (mx m0_1 m0_1) m0_3)), (83, .int .i64 (wr64 (Int.tdiv (wr64 (w1 + 1)) 2)))]) (by kernel_rfl) ?_
        refine t_end ?_
        exact ⟨hg_eaf5, rfl⟩
    have hg_aa5f : G [true, true, true, true, true, false, true, false, false, true, false, true, false, true, false, true, false, false, false, false, false] [(4, .pointer (some ⟨b39, 0, none⟩)), (5, .pointer (some ⟨b40, 0, none⟩)), (71, .int .i64 (wr64 ((mn (mn m0_0 m0_0) m0_2) - (wr64 (Int.tdiv (wr64 (w1 + 1)) 2))))), (72, .pointer (some ⟨g41, 1, none⟩)), (74, .int .i64 (wr64 (Int.tdiv (wr64 (w1 + 1)) 2))), (77, .pointer (some ⟨g42, 0, none⟩)), (79, .int .i64 (wr64 (Int.tdiv (wr64 (w1 + 1)) 2))), (81, .pointer (some ⟨g42, 1, none⟩)), (83, .int .i64 (wr64 (Int.tdiv (wr64 (w1 + 1)) 2)))] ([⟨b45, [.int .i64 m0_2, .int .i64 m0_3], 2⟩, ⟨b44, [.int .i64 m0_0, .int .i64 m0_1], 2⟩, ⟨b43, [.int .i64 m0_0, .int .i64 m0_1, .int .i64 m0_2, .int .i64 m0_3], 4⟩, ⟨g42, [.int .i64 (mx (mx m0_0 m0_0) m0_2), .int .i64 (mx (mx m0_1 m0_1) m0_3)], 2⟩, ⟨g41, [.int .i64 (mn (mn m0_0 m0_0) m0_2), .int .i64 (mn (mn m0_1 m0_1) m0_3)], 2⟩, ⟨b40, [.int .i64 0, .int .i64 0], 2⟩, ⟨b39, [.int .i64 0, .int .i64 0], 2⟩, ⟨B0, [.int .i64 m0_0, .int .i64 m0_1, .int .i64 m0_2, .int .i64 m0_3], 4⟩] : List Own) := by
      refine hstep [5, 10, 14] _ _ _ (by kernel_rfl) (List.cons_ne_nil _ _) ⟨?_, ?_, ?_, trivial⟩
      · show T _ _ _ _ _ _ _ _
        refine t_v (.ld1 rfl rfl rfl (.at 4 rfl rfl)) ?_
        refine t_keep [4, 5, 71, 73, 74, 77, 79, 81, 83] (σ' := [(4, .pointer (some ⟨b39, 0, none⟩)), (5, .pointer (some ⟨b40, 0, none⟩)), (71, .int .i64 (wr64 ((mn (mn m0_0 m0_0) m0_2) - (wr64 (Int.tdiv (wr64 (w1 + 1)) 2))))), (73, .int .i64 (mn (mn m0_1 m0_1) m0_3)), (74, .int .i64 (wr64 (Int.tdiv (wr64 (w1 + 1)) 2))), (77, .pointer (some ⟨g42, 0, none⟩)), (79, .int .i64 (wr64 (Int.tdiv (wr64 (w1 + 1)) 2))), (81, .pointer (some ⟨g42, 1, none⟩)), (83, .int .i64 (wr64 (Int.tdiv (wr64 (w1 + 1)) 2)))]) (by kernel_rfl) ?_
        refine t_end ?_
        exact ⟨hg_aa7f, rfl⟩
      · show T _ _ _ _ _ _ _ _
        refine t_v (.ld1 rfl rfl rfl (.at 3 rfl rfl)) ?_
        refine t_keep [4, 5, 71, 72, 74, 78, 79, 81, 83] (σ' := [(4, .pointer (some ⟨b39, 0, none⟩)), (5, .pointer (some ⟨b40, 0, none⟩)), (71, .int .i64 (wr64 ((mn (mn m0_0 m0_0) m0_2) - (wr64 (Int.tdiv (wr64 (w1 + 1)) 2))))), (72, .pointer (some ⟨g41, 1, none⟩)), (74, .int .i64 (wr64 (Int.tdiv (wr64 (w1 + 1)) 2))), (78, .int .i64 (mx (mx m0_0 m0_0) m0_2)), (79, .int .i64 (wr64 (Int.tdiv (wr64 (w1 + 1)) 2))), (81, .pointer (some ⟨g42, 1, none⟩)), (83, .int .i64 (wr64 (Int.tdiv (wr64 (w1 + 1)) 2)))]) (by kernel_rfl) ?_
        refine t_end ?_
        exact ⟨hg_ae5f, rfl⟩
      · show T _ _ _ _ _ _ _ _
        refine t_v (.ld1 rfl rfl rfl (.at 3 rfl rfl)) ?_
        refine t_keep [4, 5, 71, 72, 74, 77, 79, 82, 83] (σ' := [(4, .pointer (some ⟨b39, 0, none⟩)), (5, .pointer (some ⟨b40, 0, none⟩)), (71, .int .i64 (wr64 ((mn (mn m0_0 m0_0) m0_2) - (wr64 (Int.tdiv (wr64 (w1 + 1)) 2))))), (72, .pointer (some ⟨g41, 1, none⟩)), (74, .int .i64 (wr64 (Int.tdiv (wr64 (w1 + 1)) 2))), (77, .pointer (some ⟨g42, 0, none⟩)), (79, .int .i64 (wr64 (Int.tdiv (wr64 (w1 + 1)) 2))), (82, .int .i64 (mx (mx m0_1 m0_1) m0_3)), (83, .int .i64 (wr64 (Int.tdiv (wr64 (w1 + 1)) 2)))]) (by kernel_rfl) ?_
        refine t_end ?_
        exact ⟨hg_ea5f, rfl⟩
    have hg_1ea55 : G [true, false, true, false, true, false, true, false, false, true, false, true, false, true, true, true, true, false, false, false, false] [(4, .pointer (some ⟨b39, 0, none⟩)), (5, .pointer (some ⟨b40, 0, none⟩)), (68, .pointer (some ⟨g41, 0, none⟩)), (70, .int .i64 (wr64 (Int.tdiv (wr64 (w1 + 1)) 2))), (72, .pointer (some ⟨g41, 1, none⟩)), (74, .int .i64 (wr64 (Int.tdiv (wr64 (w1 + 1)) 2))), (77, .pointer (some ⟨g42, 0, none⟩)), (79, .int .i64 (wr64 (Int.tdiv (wr64 (w1 + 1)) 2))), (84, .int .i64 (wr64 ((mx (mx m0_1 m0_1) m0_3) + (wr64 (Int.tdiv (wr64 (w1 + 1)) 2)))))] ([⟨b45, [.int .i64 m0_2, .int .i64 m0_3], 2⟩, ⟨b44, [.int .i64 m0_0, .int .i64 m0_1], 2⟩, ⟨b43, [.int .i64 m0_0, .int .i64 m0_1, .int .i64 m0_2, .int .i64 m0_3], 4⟩, ⟨g42, [.int .i64 (mx (mx m0_0 m0_0) m0_2), .int .i64 (mx (mx m0_1 m0_1) m0_3)], 2⟩, ⟨g41, [.int .i64 (mn (mn m0_0 m0_0) m0_2), .int .i64 (mn (mn m0_1 m0_1) m0_3)], 2⟩, ⟨b40, [.int .i64 0, .int .i64 0], 2⟩, ⟨b39, [.int .i64 0, .int .i64 0], 2⟩, ⟨B0, [.int .i64 m0_0, .int .i64 m0_1, .int .i64 m0_2, .int .i64 m0_3], 4⟩] : List Own) := by
      refine hstep [1, 5, 10] _ _ _ (by kernel_rfl) (List.cons_ne_nil _ _) ⟨?_, ?_, ?_, trivial⟩
      · show T _ _ _ _ _ _ _ _
        refine t_v (.ld1 rfl rfl rfl (.at 4 rfl rfl)) ?_
        refine t_keep [4, 5, 69, 70, 72, 74, 77, 79, 84] (σ' := [(4, .pointer (some ⟨b39, 0, none⟩)), (5, .pointer (some ⟨b40, 0, none⟩)), (69, .int .i64 (mn (mn m0_0 m0_0) m0_2)), (70, .int .i64 (wr64 (Int.tdiv (wr64 (w1 + 1)) 2))), (72, .pointer (some ⟨g41, 1, none⟩)), (74, .int .i64 (wr64 (Int.tdiv (wr64 (w1 + 1)) 2))), (77, .pointer (some ⟨g42, 0, none⟩)), (79, .int .i64 (wr64 (Int.tdiv (wr64 (w1 + 1)) 2))), (84, .int .i64 (wr64 ((mx (mx m0_1 m0_1) m0_3) + (wr64 (Int.tdiv (wr64 (w1 + 1)) 2)))))]) (by kernel_rfl) ?_
        refine t_end ?_
        exact ⟨hg_1ea57, rfl⟩
      · show T _ _ _ _ _ _ _ _
        refine t_v (.ld1 rfl rfl rfl (.at 4 rfl rfl)) ?_
        refine t_keep [4, 5, 68, 70, 73, 74, 77, 79, 84] (σ' := [(4, .pointer (some ⟨b39, 0, none⟩)), (5, .pointer (some ⟨b40, 0, none⟩)), (68, .pointer (some ⟨g41, 0, none⟩)), (70, .int .i64 (wr64 (Int.tdiv (wr64 (w1 + 1)) 2))), (73, .int .i64 (mn (mn m0_1 m0_1) m0_3)), (74, .int .i64 (wr64 (Int.tdiv (wr64 (w1 + 1)) 2))), (77, .pointer (some ⟨g42, 0, none⟩)), (79, .int .i64 (wr64 (Int.tdiv (wr64 (w1 + 1)) 2))), (84, .int .i64 (wr64 ((mx (mx m0_1 m0_1) m0_3) + (wr64 (Int.tdiv (wr64 (w1 + 1)) 2)))))]) (by kernel_rfl) ?_
        refine t_end ?_
        exact ⟨hg_1ea75, rfl⟩
      · show T _ _ _ _ _ _ _ _
        refine t_v (.ld1 rfl rfl rfl (.at 3 rfl rfl)) ?_
        refine t_keep [4, 5, 68, 70, 72, 74, 78, 79, 84] (σ' := [(4, .pointer (some ⟨b39, 0, none⟩)), (5, .pointer (some ⟨b40, 0, none⟩)), (68, .pointer (some ⟨g41, 0, none⟩)), (70, .int .i64 (wr64 (Int.tdiv (wr64 (w1 + 1)) 2))), (72, .pointer (some ⟨g41, 1, none⟩)), (74, .int .i64 (wr64 (Int.tdiv (wr64 (w1 + 1)) 2))), (78, .int .i64 (mx (mx m0_0 m0_0) m0_2)), (79, .int .i64 (wr64 (Int.tdiv (wr64 (w1 + 1)) 2))), (84, .int .i64 (wr64 ((mx (mx m0_1 m0_1) m0_3) + (wr64 (Int.tdiv (wr64 (w1 + 1)) 2)))))]) (by kernel_rfl) ?_
        refine t_end ?_
        exact ⟨hg_1ee55, rfl⟩
    have hg_ae55 : G [true, false, true, false, true, false, true, false, false, true, true, true, false, true, false, true, false, false, false, false, false] [(4, .pointer (some ⟨b39, 0, none⟩)), (5, .pointer (some ⟨b40, 0, none⟩)), (68, .pointer (some ⟨g41, 0, none⟩)), (70, .int .i64 (wr64 (Int.tdiv (wr64 (w1 + 1)) 2))), (72, .pointer (some ⟨g41, 1, none⟩)), (74, .int .i64 (wr64 (Int.tdiv (wr64 (w1 + 1)) 2))), (78, .int .i64 (mx (mx m0_0 m0_0) m0_2)), (79, .int .i64 (wr64 (Int.tdiv (wr64 (w1 + 1)) 2))), (81, .pointer (some ⟨g42, 1, none⟩)), (83, .int .i64 (wr64 (Int.tdiv (wr64 (w1 + 1)) 2)))] ([⟨b45, [.int .i64 m0_2, .int .i64 m0_3], 2⟩, ⟨b44, [.int .i64 m0_0, .int .i64 m0_1], 2⟩, ⟨b43, [.int .i64 m0_0, .int .i64 m0_1, .int .i64 m0_2, .int .i64 m0_3], 4⟩, ⟨g42, [.int .i64 (mx (mx m0_0 m0_0) m0_2), .int .i64 (mx (mx m0_1 m0_1) m0_3)], 2⟩, ⟨g41, [.int .i64 (mn (mn m0_0 m0_0) m0_2), .int .i64 (mn (mn m0_1 m0_1) m0_3)], 2⟩, ⟨b40, [.int .i64 0, .int .i64 0], 2⟩, ⟨b39, [.int .i64 0, .int .i64 0], 2⟩, ⟨B0, [.int .i64 m0_0, .int .i64 m0_1, .int .i64 m0_2, .int .i64 m0_3], 4⟩] : List Own) := by
      exact hqf 12 [4, 5, 68, 70, 72, 74, 80, 81, 83] _ _ _ [(4, .pointer (some ⟨b39, 0, none⟩)), (5, .pointer (some ⟨b40, 0, none⟩)), (68, .pointer (some ⟨g41, 0, none⟩)), (70, .int .i64 (wr64 (Int.tdiv (wr64 (w1 + 1)) 2))), (72, .pointer (some ⟨g41, 1, none⟩)), (74, .int .i64 (wr64 (Int.tdiv (wr64 (w1 + 1)) 2))), (80, .int .i64 (wr64 ((mx (mx m0_0 m0_0) m0_2) + (wr64 (Int.tdiv (wr64 (w1 + 1)) 2))))), (81, .pointer (some ⟨g42, 1, none⟩)), (83, .int .i64 (wr64 (Int.tdiv (wr64 (w1 + 1)) 2)))] (by kernel_rfl) (by kernel_rfl) hg_be55
    have hg_aa57 : G [true, true, true, false, true, false, true, false, false, true, false, true, false, true, false, true, false, false, false, false, false] [(4, .pointer (some ⟨b39, 0, none⟩)), (5, .pointer (some ⟨b40, 0, none⟩)), (69, .int .i64 (mn (mn m0_0 m0_0) m0_2)), (70, .int .i64 (wr64 (Int.tdiv (wr64 (w1 + 1)) 2))), (72, .pointer (some ⟨g41, 1, none⟩)), (74, .int .i64 (wr64 (Int.tdiv (wr64 (w1 + 1)) 2))), (77, .pointer (some ⟨g42, 0, none⟩)), (79, .int .i64 (wr64 (Int.tdiv (wr64 (w1 + 1)) 2))), (81, .pointer (some ⟨g42, 1, none⟩)), (83, .int .i64 (wr64 (Int.tdiv (wr64 (w1 + 1)) 2)))] ([⟨b45, [.int .i64 m0_2, .int .i64 m0_3], 2⟩, ⟨b44, [.int .i64 m0_0, .int .i64 m0_1], 2⟩, ⟨b43, [.int .i64 m0_0, .int .i64 m0_1, .int .i64 m0_2, .int .i64 m0_3], 4⟩, ⟨g42, [.int .i64 (mx (mx m0_0 m0_0) m0_2), .int .i64 (mx (mx m0_1 m0_1) m0_3)], 2⟩, ⟨g41, [.int .i64 (mn (mn m0_0 m0_0) m0_2), .int .i64 (mn (mn m0_1 m0_1) m0_3)], 2⟩, ⟨b40, [.int .i64 0, .int .i64 0], 2⟩, ⟨b39, [.int .i64 0, .int .i64 0], 2⟩, ⟨B0, [.int .i64 m0_0, .int .i64 m0_1, .int .i64 m0_2, .int .i64 m0_3], 4⟩] : List Own) := by
      exact hqf 3 [4, 5, 71, 72, 74, 77, 79, 81, 83] _ _ _ [(4, .pointer (some ⟨b39, 0, none⟩)), (5, .pointer (some ⟨b40, 0, none⟩)), (71, .int .i64 (wr64 ((mn (mn m0_0 m0_0) m0_2) - (wr64 (Int.tdiv (wr64 (w1 + 1)) 2))))), (72, .pointer (some ⟨g41, 1, none⟩)), (74, .int .i64 (wr64 (Int.tdiv (wr64 (w1 + 1)) 2))), (77, .pointer (some ⟨g42, 0, none⟩)), (79, .int .i64 (wr64 (Int.tdiv (wr64 (w1 + 1)) 2))), (81, .pointer (some ⟨g42, 1, none⟩)), (83, .int .i64 (wr64 (Int.tdiv (wr64 (w1 + 1)) 2)))] (by kernel_rfl) (by kernel_rfl) hg_aa5f
    have hg_aa75 : G [true, false, true, false, true, true, true, false, false, true, false, true, false, true, false, true, false, false, false, false, false] [(4, .pointer (some ⟨b39, 0, none⟩)), (5, .pointer (some ⟨b40, 0, none⟩)), (68, .pointer (some ⟨g41, 0, none⟩)), (70, .int .i64 (wr64 (Int.tdiv (wr64 (w1 + 1)) 2))), (73, .int .i64 (mn (mn m0_1 m0_1) m0_3)), (74, .int .i64 (wr64 (Int.tdiv (wr64 (w1 + 1)) 2))), (77, .pointer (some ⟨g42, 0, none⟩)), (79, .int .i64 (wr64 (Int.tdiv (wr64 (w1 + 1)) 2))), (81, .pointer (some ⟨g42, 1, none⟩)), (83, .int .i64 (wr64 (Int.tdiv (wr64 (w1 + 1)) 2)))] ([⟨b45, [.int .i64 m0_2, .int .i64 m0_3], 2⟩, ⟨b44, [.int .i64 m0_0, .int .i64 m0_1], 2⟩, ⟨b43, [.int .i64 m0_0, .int .i64 m0_1, .int .i64 m0_2, .int .i64 m0_3], 4⟩, ⟨g42, [.int .i64 (mx (mx m0_0 m0_0) m0_2), .int .i64 (mx (mx m0_1 m0_1) m0_3)], 2⟩, ⟨g41, [.int .i64 (mn (mn m0_0 m0_0) m0_2), .int .i64 (mn (mn m0_1 m0_1) m0_3)], 2⟩, ⟨b40, [.int .i64 0, .int .i64 0], 2⟩, ⟨b39, [.int .i64 0, .int .i64 0], 2⟩, ⟨B0, [.int .i64 m0_0, .int .i64 m0_1, .int .i64 m0_2, .int .i64 m0_3], 4⟩] : List Own) := by
      exact hqf 7 [4, 5, 68, 70, 75, 77, 79, 81, 83] _ _ _ [(4, .pointer (some ⟨b39, 0, none⟩)), (5, .pointer (some ⟨b40, 0, none⟩)), (68, .pointer (some ⟨g41, 0, none⟩)), (70, .int .i64 (wr64 (Int.tdiv (wr64 (w1 + 1)) 2))), (75, .int .i64 (wr64 ((mn (mn m0_1 m0_1) m0_3) - (wr64 (Int.tdiv (wr64 (w1 + 1)) 2))))), (77, .pointer (some ⟨g42, 0, none⟩)), (79, .int .i64 (wr64 (Int.tdiv (wr64 (w1 + 1)) 2))), (81, .pointer (some ⟨g42, 1, none⟩)), (83, .int .i64 (wr64 (Int.tdiv (wr64 (w1 + 1)) 2)))] (by kernel_rfl) (by kernel_rfl) hg_aaf5
    have hg_ea55 : G [true, false, true, false, true, false, true, false, false, true, false, true, false, true, true, true, false, false, false, false, false] [(4, .pointer (some ⟨b39, 0, none⟩)), (5, .pointer (some ⟨b40, 0, none⟩)), (68, .pointer (some ⟨g41, 0, none⟩)), (70, .int .i64 (wr64 (Int.tdiv (wr64 (w1 + 1)) 2))), (72, .pointer (some ⟨g41, 1, none⟩)), (74, .int .i64 (wr64 (Int.tdiv (wr64 (w1 + 1)) 2))), (77, .pointer (some ⟨g42, 0, none⟩)), (79, .int .i64 (wr64 (Int.tdiv (wr64 (w1 + 1)) 2))), (82, .int .i64 (mx (mx m0_1 m0_1) m0_3)), (83, .int .i64 (wr64 (Int.tdiv (wr64 (w1 + 1)) 2)))] ([⟨b45, [.int .i64 m0_2, .int .i64 m0_3], 2⟩, ⟨b44, [.int .i64 m0_0, .int .i64 m0_1], 2⟩, ⟨b43, [.int .i64 m0_0, .int .i64 m0_1, .int .i64 m0_2, .int .i64 m0_3], 4⟩, ⟨g42, [.int .i64 (mx (mx m0_0 m0_0) m0_2), .int .i64 (mx (mx m0_1 m0_1) m0_3)], 2⟩, ⟨g41, [.int .i64 (mn (mn m0_0 m0_0) m0_2), .int .i64 (mn (mn m0_1 m0_1) m0_3)], 2⟩, ⟨b40, [.int .i64 0, .int .i64 0], 2⟩, ⟨b39, [.int .i64 0, .int .i64 0], 2⟩, ⟨B0, [.int .i64 m0_0, .int .i64 m0_1, .int .i64 m0_2, .int .i64 m0_3], 4⟩] : List Own) := by
      exact hqf 16 [4, 5, 68, 70, 72, 74, 77, 79, 84] _ _ _ [(4, .pointer (some ⟨b39, 0, none⟩)), (5, .pointer (some ⟨b40, 0, none⟩)), (68, .pointer (some ⟨g41, 0, none⟩)), (70, .int .i64 (wr64 (Int.tdiv (wr64 (w1 + 1)) 2))), (72, .pointer (some ⟨g41, 1, none⟩)), (74, .int .i64 (wr64 (Int.tdiv (wr64 (w1 + 1)) 2))), (77, .pointer (some ⟨g42, 0, none⟩)), (79, .int .i64 (wr64 (Int.tdiv (wr64 (w1 + 1)) 2))), (84, .int .i64 (wr64 ((mx (mx m0_1 m0_1) m0_3) + (wr64 (Int.tdiv (wr64 (w1 + 1)) 2)))))] (by kernel_rfl) (by kernel_rfl) hg_1ea55
    have hg_aa55 : G [true, false, true, false, true, false, true, false, false, true, false, true, false, true, false, true, false, false, false, false, false] [(4, .pointer (some ⟨b39, 0, none⟩)), (5, .pointer (some ⟨b40, 0, none⟩)), (68, .pointer (some ⟨g41, 0, none⟩)), (70, .int .i64 (wr64 (Int.tdiv (wr64 (w1 + 1)) 2))), (72, .pointer (some ⟨g41, 1, none⟩)), (74, .int .i64 (wr64 (Int.tdiv (wr64 (w1 + 1)) 2))), (77, .pointer (some ⟨g42, 0, none⟩)), (79, .int .i64 (wr64 (Int.tdiv (wr64 (w1 + 1)) 2))), (81, .pointer (some ⟨g42, 1, none⟩)), (83, .int .i64 (wr64 (Int.tdiv (wr64 (w1 + 1)) 2)))] ([⟨b45, [.int .i64 m0_2, .int .i64 m0_3], 2⟩, ⟨b44, [.int .i64 m0_0, .int .i64 m0_1], 2⟩, ⟨b43, [.int .i64 m0_0, .int .i64 m0_1, .int .i64 m0_2, .int .i64 m0_3], 4⟩, ⟨g42, [.int .i64 (mx (mx m0_0 m0_0) m0_2), .int .i64 (mx (mx m0_1 m0_1) m0_3)], 2⟩, ⟨g41, [.int .i64 (mn (mn m0_0 m0_0) m0_2), .int .i64 (mn (mn m0_1 m0_1) m0_3)], 2⟩, ⟨b40, [.int .i64 0, .int .i64 0], 2⟩, ⟨b39, [.int .i64 0, .int .i64 0], 2⟩, ⟨B0, [.int .i64 m0_0, .int .i64 m0_1, .int .i64 m0_2, .int .i64 m0_3], 4⟩] : List Own) := by
      refine hstep [1, 5, 10, 14] _ _ _ (by kernel_rfl) (List.cons_ne_nil _ _) ⟨?_, ?_, ?_, ?_, trivial⟩
      · show T _ _ _ _ _ _ _ _
        refine t_v (.ld1 rfl rfl rfl (.at 4 rfl rfl)) ?_
        refine t_keep [4, 5, 69, 70, 72, 74, 77, 79, 81, 83] (σ' := [(4, .pointer (some ⟨b39, 0, none⟩)), (5, .pointer (some ⟨b40, 0, none⟩)), (69, .int .i64 (mn (mn m0_0 m0_0) m0_2)), (70, .int .i64 (wr64 (Int.tdiv (wr64 (w1 + 1)) 2))), (72, .pointer (some ⟨g41, 1, none⟩)), (74, .int .i64 (wr64 (Int.tdiv (wr64 (w1 + 1)) 2))), (77, .pointer (some ⟨g42, 0, none⟩)), (79, .int .i64 (wr64 (Int.tdiv (wr64 (w1 + 1)) 2))), (81, .pointer (some ⟨g42, 1, none⟩)), (83, .int .i64 (wr64 (Int.tdiv (wr64 (w1 + 1)) 2)))]) (by kernel_rfl) ?_
        refine t_end ?_
        exact ⟨hg_aa57, rfl⟩
      · show T _ _ _ _ _ _ _ _
        refine t_v (.ld1 rfl rfl rfl (.at 4 rfl rfl)) ?_
        refine t_keep [4, 5, 68, 70, 73, 74, 77, 79, 81, 83] (σ' := [(4, .pointer (some ⟨b39, 0, none⟩)), (5, .pointer (some ⟨b40, 0, none⟩)), (68, .pointer (some ⟨g41, 0, none⟩)), (70, .int .i64 (wr64 (Int.tdiv (wr64 (w1 + 1)) 2))), (73, .int .i64 (mn (mn m0_1 m0_1) m0_3)), (74, .int .i64 (wr64 (Int.tdiv (wr64 (w1 + 1)) 2))), (77, .pointer (some ⟨g42, 0, none⟩)), (79, .int .i64 (wr64 (Int.tdiv (wr64 (w1 + 1)) 2))), (81, .pointer (some ⟨g42, 1, none⟩)), (83, .int .i64 (wr64 (Int.tdiv (wr64 (w1 + 1)) 2)))]) (by kernel_rfl) ?_
        refine t_end ?_
        exact ⟨hg_aa75, rfl⟩
      · show T _ _ _ _ _ _ _ _
        refine t_v (.ld1 rfl rfl rfl (.at 3 rfl rfl)) ?_
        refine t_keep [4, 5, 68, 70, 72, 74, 78, 79, 81, 83] (σ' := [(4, .pointer (some ⟨b39, 0, none⟩)), (5, .pointer (some ⟨b40, 0, none⟩)), (68, .pointer (some ⟨g41, 0, none⟩)), (70, .int .i64 (wr64 (Int.tdiv (wr64 (w1 + 1)) 2))), (72, .pointer (some ⟨g41, 1, none⟩)), (74, .int .i64 (wr64 (Int.tdiv (wr64 (w1 + 1)) 2))), (78, .int .i64 (mx (mx m0_0 m0_0) m0_2)), (79, .int .i64 (wr64 (Int.tdiv (wr64 (w1 + 1)) 2))), (81, .pointer (some ⟨g42, 1, none⟩)), (83, .int .i64 (wr64 (Int.tdiv (wr64 (w1 + 1)) 2)))]) (by kernel_rfl) ?_
        refine t_end ?_
        exact ⟨hg_ae55, rfl⟩
      · show T _ _ _ _ _ _ _ _
        refine t_v (.ld1 rfl rfl rfl (.at 3 rfl rfl)) ?_
        refine t_keep [4, 5, 68, 70, 72, 74, 77, 79, 82, 83] (σ' := [(4, .pointer (some ⟨b39, 0, none⟩)), (5, .pointer (some ⟨b40, 0, none⟩)), (68, .pointer (some ⟨g41, 0, none⟩)), (70, .int .i64 (wr64 (Int.tdiv (wr64 (w1 + 1)) 2))), (72, .pointer (some ⟨g41, 1, none⟩)), (74, .int .i64 (wr64 (Int.tdiv (wr64 (w1 + 1)) 2))), (77, .pointer (some ⟨g42, 0, none⟩)), (79, .int .i64 (wr64 (Int.tdiv (wr64 (w1 + 1)) 2))), (82, .int .i64 (mx (mx m0_1 m0_1) m0_3)), (83, .int .i64 (wr64 (Int.tdiv (wr64 (w1 + 1)) 2)))]) (by kernel_rfl) ?_
        refine t_end ?_
        exact ⟨hg_ea55, rfl⟩
    have hg_2a55 : G [true, false, true, false, true, false, true, false, false, true, false, true, false, true, false, false, false, false, false, false, false] [(4, .pointer (some ⟨b39, 0, none⟩)), (5, .pointer (some ⟨b40, 0, none⟩)), (13, .int .i64 (wr64 (Int.tdiv (wr64 (w1 + 1)) 2))), (68, .pointer (some ⟨g41, 0, none⟩)), (70, .int .i64 (wr64 (Int.tdiv (wr64 (w1 + 1)) 2))), (72, .pointer (some ⟨g41, 1, none⟩)), (74, .int .i64 (wr64 (Int.tdiv (wr64 (w1 + 1)) 2))), (77, .pointer (some ⟨g42, 0, none⟩)), (79, .int .i64 (wr64 (Int.tdiv (wr64 (w1 + 1)) 2))), (81, .pointer (some ⟨g42, 1, none⟩))] ([⟨b45, [.int .i64 m0_2, .int .i64 m0_3], 2⟩, ⟨b44, [.int .i64 m0_0, .int .i64 m0_1], 2⟩, ⟨b43, [.int .i64 m0_0, .int .i64 m0_1, .int .i64 m0_2, .int .i64 m0_3], 4⟩, ⟨g42, [.int .i64 (mx (mx m0_0 m0_0) m0_2), .int .i64 (mx (mx m0_1 m0_1) m0_3)], 2⟩, ⟨g41, [.int .i64 (mn (mn m0_0 m0_0) m0_2), .int .i64 (mn (mn m0_1 m0_1) m0_3)], 2⟩, ⟨b40, [.int .i64 0, .int .i64 0], 2⟩, ⟨b39, [.int .i64 0, .int .i64 0], 2⟩, ⟨B0, [.int .i64 m0_0, .int .i64 m0_1, .int .i64 m0_2, .int .i64 m0_3], 4⟩] : List Own) := by
      exact hqf 15 [4, 5, 68, 70, 72, 74, 77, 79, 81, 83] _ _ _ [(4, .pointer (some ⟨b39, 0, none⟩)), (5, .pointer (some ⟨b40, 0, none⟩)), (68, .pointer (some ⟨g41, 0, none⟩)), (70, .int .i64 (wr64 (Int.tdiv (wr64 (w1 + 1)) 2))), (72, .pointer (some ⟨g41, 1, none⟩)), (74, .int .i64 (wr64 (Int.tdiv (wr64 (w1 + 1)) 2))), (77, .pointer (some ⟨g42, 0, none⟩)), (79, .int .i64 (wr64 (Int.tdiv (wr64 (w1 + 1)) 2))), (81, .pointer (some ⟨g42, 1, none⟩)), (83, .int .i64 (wr64 (Int.tdiv (wr64 (w1 + 1)) 2)))] (by kernel_rfl) (by kernel_rfl) hg_aa55
    have hg_a55 : G [true, false, true, false, true, false, true, false, false, true, false, true, false, false, false, false, false, false, false, false, false] [(4, .pointer (some ⟨b39, 0, none⟩)), (5, .pointer (some ⟨b40, 0, none⟩)), (8, .pointer (some ⟨g42, 0, none⟩)), (13, .int .i64 (wr64 (Int.tdiv (wr64 (w1 + 1)) 2))), (68, .pointer (some ⟨g41, 0, none⟩)), (70, .int .i64 (wr64 (Int.tdiv (wr64 (w1 + 1)) 2))), (72, .pointer (some ⟨g41, 1, none⟩)), (74, .int .i64 (wr64 (Int.tdiv (wr64 (w1 + 1)) 2))), (77, .pointer (some ⟨g42, 0, none⟩)), (79, .int .i64 (wr64 (Int.tdiv (wr64 (w1 + 1)) 2)))] ([⟨b45, [.int .i64 m0_2, .int .i64 m0_3], 2⟩, ⟨b44, [.int .i64 m0_0, .int .i64 m0_1], 2⟩, ⟨b43, [.int .i64 m0_0, .int .i64 m0_1, .int .i64 m0_2, .int .i64 m0_3], 4⟩, ⟨g42, [.int .i64 (mx (mx m0_0 m0_0) m0_2), .int .i64 (mx (mx m0_1 m0_1) m0_3)], 2⟩, ⟨g41, [.int .i64 (mn (mn m0_0 m0_0) m0_2), .int .i64 (mn (mn m0_1 m0_1) m0_3)], 2⟩, ⟨b40, [.int .i64 0, .int .i64 0], 2⟩, ⟨b39, [.int .i64 0, .int .i64 0], 2⟩, ⟨B0, [.int .i64 m0_0, .int .i64 m0_1, .int .i64 m0_2, .int .i64 m0_3], 4⟩] : List Own) := by
      exact hqf 13 [4, 5, 13, 68, 70, 72, 74, 77, 79, 81] _ _ _ [(4, .pointer (some ⟨b39, 0, none⟩)), (5, .pointer (some ⟨b40, 0, none⟩)), (13, .int .i64 (wr64 (Int.tdiv (wr64 (w1 + 1)) 2))), (68, .pointer (some ⟨g41, 0, none⟩)), (70, .int .i64 (wr64 (Int.tdiv (wr64 (w1 + 1)) 2))), (72, .pointer (some ⟨g41, 1, none⟩)), (74, .int .i64 (wr64 (Int.tdiv (wr64 (w1 + 1)) 2))), (77, .pointer (some ⟨g42, 0, none⟩)), (79, .int .i64 (wr64 (Int.tdiv (wr64 (w1 + 1)) 2))), (81, .pointer (some ⟨g42, 1, none⟩))] (by kernel_rfl) (by kernel_rfl) hg_2a55
    have hg_255 : G [true, false, true, false, true, false, true, false, false, true, false, false, false, false, false, false, false, false, false, false, false] [(4, .pointer (some ⟨b39, 0, none⟩)), (5, .pointer (some ⟨b40, 0, none⟩)), (8, .pointer (some ⟨g42, 0, none⟩)), (13, .int .i64 (wr64 (Int.tdiv (wr64 (w1 + 1)) 2))), (68, .pointer (some ⟨g41, 0, none⟩)), (70, .int .i64 (wr64 (Int.tdiv (wr64 (w1 + 1)) 2))), (72, .pointer (some ⟨g41, 1, none⟩)), (74, .int .i64 (wr64 (Int.tdiv (wr64 (w1 + 1)) 2))), (77, .pointer (some ⟨g42, 0, none⟩))] ([⟨b45, [.int .i64 m0_2, .int .i64 m0_3], 2⟩, ⟨b44, [.int .i64 m0_0, .int .i64 m0_1], 2⟩, ⟨b43, [.int .i64 m0_0, .int .i64 m0_1, .int .i64 m0_2, .int .i64 m0_3], 4⟩, ⟨g42, [.int .i64 (mx (mx m0_0 m0_0) m0_2), .int .i64 (mx (mx m0_1 m0_1) m0_3)], 2⟩, ⟨g41, [.int .i64 (mn (mn m0_0 m0_0) m0_2), .int .i64 (mn (mn m0_1 m0_1) m0_3)], 2⟩, ⟨b40, [.int .i64 0, .int .i64 0], 2⟩, ⟨b39, [.int .i64 0, .int .i64 0], 2⟩, ⟨B0, [.int .i64 m0_0, .int .i64 m0_1, .int .i64 m0_2, .int .i64 m0_3], 4⟩] : List Own) := by
      exact hqf 11 [4, 5, 8, 13, 68, 70, 72, 74, 77, 79] _ _ _ [(4, .pointer (some ⟨b39, 0, none⟩)), (5, .pointer (some ⟨b40, 0, none⟩)), (8, .pointer (some ⟨g42, 0, none⟩)), (13, .int .i64 (wr64 (Int.tdiv (wr64 (w1 + 1)) 2))), (68, .pointer (some ⟨g41, 0, none⟩)), (70, .int .i64 (wr64 (Int.tdiv (wr64 (w1 + 1)) 2))), (72, .pointer (some ⟨g41, 1, none⟩)), (74, .int .i64 (wr64 (Int.tdiv (wr64 (w1 + 1)) 2))), (77, .pointer (some ⟨g42, 0, none⟩)), (79, .int .i64 (wr64 (Int.tdiv (wr64 (w1 + 1)) 2)))] (by kernel_rfl) (by kernel_rfl) hg_a55
    have hg_55 : G [true, false, true, false, true, false, true, false, false, false, false, false, false, false, false, false, false, false, false, false, false] [(4, .pointer (some ⟨b39, 0, none⟩)), (5, .pointer (some ⟨b40, 0, none⟩)), (8, .pointer (some ⟨g42, 0, none⟩)), (13, .int .i64 (wr64 (Int.tdiv (wr64 (w1 + 1)) 2))), (68, .pointer (some ⟨g41, 0, none⟩)), (70, .int .i64 (wr64 (Int.tdiv (wr64 (w1 + 1)) 2))), (72, .pointer (some ⟨g41, 1, none⟩)), (74, .int .i64 (wr64 (Int.tdiv (wr64 (w1 + 1)) 2)))] ([⟨b45, [.int .i64 m0_2, .int .i64 m0_3], 2⟩, ⟨b44, [.int .i64 m0_0, .int .i64 m0_1], 2⟩, ⟨b43, [.int .i64 m0_0, .int .i64 m0_1, .int .i64 m0_2, .int .i64 m0_3], 4⟩, ⟨g42, [.int .i64 (mx (mx m0_0 m0_0) m0_2), .int .i64 (mx (mx m0_1 m0_1) m0_3)], 2⟩, ⟨g41, [.int .i64 (mn (mn m0_0 m0_0) m0_2), .int .i64 (mn (mn m0_1 m0_1) m0_3)], 2⟩, ⟨b40, [.int .i64 0, .int .i64 0], 2⟩, ⟨b39, [.int .i64 0, .int .i64 0], 2⟩, ⟨B0, [.int .i64 m0_0, .int .i64 m0_1, .int .i64 m0_2, .int .i64 m0_3], 4⟩] : List Own) := by
      exact hqf 9 [4, 5, 8, 13, 68, 70, 72, 74, 77] _ _ _ [(4, .pointer (some ⟨b39, 0, none⟩)), (5, .pointer (some ⟨b40, 0, none⟩)), (8, .pointer (some ⟨g42, 0, none⟩)), (13, .int .i64 (wr64 (Int.tdiv (wr64 (w1 + 1)) 2))), (68, .pointer (some ⟨g41, 0, none⟩)), (70, .int .i64 (wr64 (Int.tdiv (wr64 (w1 + 1)) 2))), (72, .pointer (some ⟨g41, 1, none⟩)), (74, .int .i64 (wr64 (Int.tdiv (wr64 (w1 + 1)) 2))), (77, .pointer (some ⟨g42, 0, none⟩))] (by kernel_rfl) (by kernel_rfl) hg_255
    have hg_15 : G [true, false, true, false, true, false, false, false, false, false, false, false, false, false, false, false, false, false, false, false, false] [(4, .pointer (some ⟨b39, 0, none⟩)), (5, .pointer (some ⟨b40, 0, none⟩)), (8, .pointer (some ⟨g42, 0, none⟩)), (13, .int .i64 (wr64 (Int.tdiv (wr64 (w1 + 1)) 2))), (68, .pointer (some ⟨g41, 0, none⟩)), (70, .int .i64 (wr64 (Int.tdiv (wr64 (w1 + 1)) 2))), (72, .pointer (some ⟨g41, 1, none⟩))] ([⟨b45, [.int .i64 m0_2, .int .i64 m0_3], 2⟩, ⟨b44, [.int .i64 m0_0, .int .i64 m0_1], 2⟩, ⟨b43, [.int .i64 m0_0, .int .i64 m0_1, .int .i64 m0_2, .int .i64 m0_3], 4⟩, ⟨g42, [.int .i64 (mx (mx m0_0 m0_0) m0_2), .int .i64 (mx (mx m0_1 m0_1) m0_3)], 2⟩, ⟨g41, [.int .i64 (mn (mn m0_0 m0_0) m0_2), .int .i64 (mn (mn m0_1 m0_1) m0_3)], 2⟩, ⟨b40, [.int .i64 0, .int .i64 0], 2⟩, ⟨b39, [.int .i64 0, .int .i64 0], 2⟩, ⟨B0, [.int .i64 m0_0, .int .i64 m0_1, .int .i64 m0_2, .int .i64 m0_3], 4⟩] : List Own) := by
      exact hqf 6 [4, 5, 8, 13, 68, 70, 72, 74] _ _ _ [(4, .pointer (some ⟨b39, 0, none⟩)), (5, .pointer (some ⟨b40, 0, none⟩)), (8, .pointer (some ⟨g42, 0, none⟩)), (13, .int .i64 (wr64 (Int.tdiv (wr64 (w1 + 1)) 2))), (68, .pointer (some ⟨g41, 0, none⟩)), (70, .int .i64 (wr64 (Int.tdiv (wr64 (w1 + 1)) 2))), (72, .pointer (some ⟨g41, 1, none⟩)), (74, .int .i64 (wr64 (Int.tdiv (wr64 (w1 + 1)) 2)))] (by kernel_rfl) (by kernel_rfl) hg_55
    have hg_5 : G [true, false, true, false, false, false, false, false, false, false, false, false, false, false, false, false, false, false, false, false, false] [(4, .pointer (some ⟨b39, 0, none⟩)), (5, .pointer (some ⟨b40, 0, none⟩)), (7, .pointer (some ⟨g41, 0, none⟩)), (8, .pointer (some ⟨g42, 0, none⟩)), (13, .int .i64 (wr64 (Int.tdiv (wr64 (w1 + 1)) 2))), (68, .pointer (some ⟨g41, 0, none⟩)), (70, .int .i64 (wr64 (Int.tdiv (wr64 (w1 + 1)) 2)))] ([⟨b45, [.int .i64 m0_2, .int .i64 m0_3], 2⟩, ⟨b44, [.int .i64 m0_0, .int .i64 m0_1], 2⟩, ⟨b43, [.int .i64 m0_0, .int .i64 m0_1, .int .i64 m0_2, .int .i64 m0_3], 4⟩, ⟨g42, [.int .i64 (mx (mx m0_0 m0_0) m0_2), .int .i64 (mx (mx m0_1 m0_1) m0_3)], 2⟩, ⟨g41, [.int .i64 (mn (mn m0_0 m0_0) m0_2), .int .i64 (mn (mn m0_1 m0_1) m0_3)], 2⟩, ⟨b40, [.int .i64 0, .int .i64 0], 2⟩, ⟨b39, [.int .i64 0, .int .i64 0], 2⟩, ⟨B0, [.int .i64 m0_0, .int .i64 m0_1, .int .i64 m0_2, .int .i64 m0_3], 4⟩] : List Own) := by
      exact hqf 4 [4, 5, 8, 13, 68, 70, 72] _ _ _ [(4, .pointer (some ⟨b39, 0, none⟩)), (5, .pointer (some ⟨b40, 0, none⟩)), (8, .pointer (some ⟨g42, 0, none⟩)), (13, .int .i64 (wr64 (Int.tdiv (wr64 (w1 + 1)) 2))), (68, .pointer (some ⟨g41, 0, none⟩)), (70, .int .i64 (wr64 (Int.tdiv (wr64 (w1 + 1)) 2))), (72, .pointer (some ⟨g41, 1, none⟩))] (by kernel_rfl) (by kernel_rfl) hg_15
    have hg_1 : G [true, false, false, false, false, false, false, false, false, false, false, false, false, false, false, false, false, false, false, false, false] [(4, .pointer (some ⟨b39, 0, none⟩)), (5, .pointer (some ⟨b40, 0, none⟩)), (7, .pointer (some ⟨g41, 0, none⟩)), (8, .pointer (some ⟨g42, 0, none⟩)), (13, .int .i64 (wr64 (Int.tdiv (wr64 (w1 + 1)) 2))), (68, .pointer (some ⟨g41, 0, none⟩))] ([⟨b45, [.int .i64 m0_2, .int .i64 m0_3], 2⟩, ⟨b44, [.int .i64 m0_0, .int .i64 m0_1], 2⟩, ⟨b43, [.int .i64 m0_0, .int .i64 m0_1, .int .i64 m0_2, .int .i64 m0_3], 4⟩, ⟨g42, [.int .i64 (mx (mx m0_0 m0_0) m0_2), .int .i64 (mx (mx m0_1 m0_1) m0_3)], 2⟩, ⟨g41, [.int .i64 (mn (mn m0_0 m0_0) m0_2), .int .i64 (mn (mn m0_1 m0_1) m0_3)], 2⟩, ⟨b40, [.int .i64 0, .int .i64 0], 2⟩, ⟨b39, [.int .i64 0, .int .i64 0], 2⟩, ⟨B0, [.int .i64 m0_0, .int .i64 m0_1, .int .i64 m0_2, .int .i64 m0_3], 4⟩] : List Own) := by
      exact hqf 2 [4, 5, 7, 8, 13, 68, 70] _ _ _ [(4, .pointer (some ⟨b39, 0, none⟩)), (5, .pointer (some ⟨b40, 0, none⟩)), (7, .pointer (some ⟨g41, 0, none⟩)), (8, .pointer (some ⟨g42, 0, none⟩)), (13, .int .i64 (wr64 (Int.tdiv (wr64 (w1 + 1)) 2))), (68, .pointer (some ⟨g41, 0, none⟩)), (70, .int .i64 (wr64 (Int.tdiv (wr64 (w1 + 1)) 2)))] (by kernel_rfl) (by kernel_rfl) hg_5
    have hg_0 : G [false, false, false, false, false, false, false, false, false, false, false, false, false, false, false, false, false, false, false, false, false] [(4, .pointer (some ⟨b39, 0, none⟩)), (5, .pointer (some ⟨b40, 0, none⟩)), (7, .pointer (some ⟨g41, 0, none⟩)), (8, .pointer (some ⟨g42, 0, none⟩)), (13, .int .i64 (wr64 (Int.tdiv (wr64 (w1 + 1)) 2)))] ([⟨b45, [.int .i64 m0_2, .int .i64 m0_3], 2⟩, ⟨b44, [.int .i64 m0_0, .int .i64 m0_1], 2⟩, ⟨b43, [.int .i64 m0_0, .int .i64 m0_1, .int .i64 m0_2, .int .i64 m0_3], 4⟩, ⟨g42, [.int .i64 (mx (mx m0_0 m0_0) m0_2), .int .i64 (mx (mx m0_1 m0_1) m0_3)], 2⟩, ⟨g41, [.int .i64 (mn (mn m0_0 m0_0) m0_2), .int .i64 (mn (mn m0_1 m0_1) m0_3)], 2⟩, ⟨b40, [.int .i64 0, .int .i64 0], 2⟩, ⟨b39, [.int .i64 0, .int .i64 0], 2⟩, ⟨B0, [.int .i64 m0_0, .int .i64 m0_1, .int .i64 m0_2, .int .i64 m0_3], 4⟩] : List Own) := by
      exact hqf 0 [4, 5, 7, 8, 13, 68] _ _ _ [(4, .pointer (some ⟨b39, 0, none⟩)), (5, .pointer (some ⟨b40, 0, none⟩)), (7, .pointer (some ⟨g41, 0, none⟩)), (8, .pointer (some ⟨g42, 0, none⟩)), (13, .int .i64 (wr64 (Int.tdiv (wr64 (w1 + 1)) 2))), (68, .pointer (some ⟨g41, 0, none⟩))] (by kernel_rfl) (by kernel_rfl) hg_1
    exact hg_0
  have hg_7ff : ∀ (g42 g41 : Nat), G [true, true, true, true, true, true, true, true, true, true, true, false] [(0, .slice (some ⟨B0, 0, none⟩) 1 1), (1, .int .i64 w1), (4, .pointer (some ⟨b39, 0, none⟩)), (5, .pointer (some ⟨b40, 0, none⟩)), (7, .pointer (some ⟨g41, 0, none⟩)), (8, .pointer (some ⟨g42, 0, none⟩)), (26, .agg #[.int .i64 m0_0, .int .i64 m0_1])] ([⟨g42, [.int .i64 0, .int .i64 0], 2⟩, ⟨g41, [.int .i64 m0_0, .int .i64 m0_1], 2⟩, ⟨b40, [.int .i64 0, .int .i64 0], 2⟩, ⟨b39, [.int .i64 0, .int .i64 0], 2⟩, ⟨B0, [.int .i64 m0_0, .int .i64 m0_1, .int .i64 m0_2, .int .i64 m0_3], 4⟩] : List Own) := by
    intro g42 g41
    refine hstep [11] _ _ _ (by kernel_rfl) (List.cons_ne_nil _ _) ⟨?_, trivial⟩
    · show T _ _ _ _ _ _ _ _
      refine t_sti 0 (cs := [.int .i64 m0_0, .int .i64 m0_1]) rfl rfl rfl rfl rfl rfl rfl rfl rfl ?_
      refine t_keep [0, 1, 4, 5, 7, 8] (σ' := [(0, .slice (some ⟨B0, 0, none⟩) 1 1), (1, .int .i64 w1), (4, .pointer (some ⟨b39, 0, none⟩)), (5, .pointer (some ⟨b40, 0, none⟩)), (7, .pointer (some ⟨g41, 0, none⟩)), (8, .pointer (some ⟨g42, 0, none⟩))]) (by kernel_rfl) ?_
      refine t_end ?_
      exact ⟨hg_fff g42 g41, rfl⟩
  have hg_77f : ∀ (g42 g41 : Nat), G [true, true, true, true, true, true, true, false, true, true, true, false] [(0, .slice (some ⟨B0, 0, none⟩) 1 1), (1, .int .i64 w1), (4, .pointer (some ⟨b39, 0, none⟩)), (5, .pointer (some ⟨b40, 0, none⟩)), (7, .pointer (some ⟨g41, 0, none⟩)), (8, .pointer (some ⟨g42, 0, none⟩)), (25, .pointer (some ⟨B0, 0, none⟩))] ([⟨g42, [.int .i64 0, .int .i64 0], 2⟩, ⟨g41, [.int .i64 m0_0, .int .i64 m0_1], 2⟩, ⟨b40, [.int .i64 0, .int .i64 0], 2⟩, ⟨b39, [.int .i64 0, .int .i64 0], 2⟩, ⟨B0, [.int .i64 m0_0, .int .i64 m0_1, .int .i64 m0_2, .int .i64 m0_3], 4⟩] : List Own) := by
    intro g42 g41
    refine hstep [7] _ _ _ (by kernel_rfl) (List.cons_ne_nil _ _) ⟨?_, trivial⟩
    · show T _ _ _ _ _ _ _ _
      refine t_v (.ldn rfl rfl rfl (.at 4 rfl rfl)) ?_
      refine t_keep [0, 1, 4, 5, 7, 8, 26] (σ' := [(0, .slice (some ⟨B0, 0, none⟩) 1 1), (1, .int .i64 w1), (4, .pointer (some ⟨b39, 0, none⟩)), (5, .pointer (some ⟨b40, 0, none⟩)), (7, .pointer (some ⟨g41, 0, none⟩)), (8, .pointer (some ⟨g42, 0, none⟩)), (26, .agg #[.int .i64 m0_0, .int .i64 m0_1])]) (by kernel_rfl) ?_
      refine t_end ?_
      exact ⟨hg_7ff g42 g41, rfl⟩
  have hg_3ff : ∀ (g42 g41 : Nat), G [true, true, true, true, true, true, true, true, true, true, false, false] [(0, .slice (some ⟨B0, 0, none⟩) 1 1), (1, .int .i64 w1), (4, .pointer (some ⟨b39, 0, none⟩)), (5, .pointer (some ⟨b40, 0, none⟩)), (7, .pointer (some ⟨g41, 0, none⟩)), (8, .pointer (some ⟨g42, 0, none⟩)), (22, .agg #[.int .i64 m0_0, .int .i64 m0_1]), (26, .agg #[.int .i64 m0_0, .int .i64 m0_1])] ([⟨g42, [.int .i64 0, .int .i64 0], 2⟩, ⟨g41, [.int .i64 0, .int .i64 0], 2⟩, ⟨b40, [.int .i64 0, .int .i64 0], 2⟩, ⟨b39, [.int .i64 0, .int .i64 0], 2⟩, ⟨B0, [.int .i64 m0_0, .int .i64 m0_1, .int .i64 m0_2, .int .i64 m0_3], 4⟩] : List Own) := by
    intro g42 g41
    refine hstep [10] _ _ _ (by kernel_rfl) (List.cons_ne_nil _ _) ⟨?_, trivial⟩
    · show T _ _ _ _ _ _ _ _
      refine t_sti 1 (cs := [.int .i64 m0_0, .int .i64 m0_1]) rfl rfl rfl rfl rfl rfl rfl rfl rfl ?_
      refine t_keep [0, 1, 4, 5, 7, 8, 26] (σ' := [(0, .slice (some ⟨B0, 0, none⟩) 1 1), (1, .int .i64 w1), (4, .pointer (some ⟨b39, 0, none⟩)), (5, .pointer (some ⟨b40, 0, none⟩)), (7, .pointer (some ⟨g41, 0, none⟩)), (8, .pointer (some ⟨g42, 0, none⟩)), (26, .agg #[.int .i64 m0_0, .int .i64 m0_1])]) (by kernel_rfl) ?_
      refine t_end ?_
      exact ⟨hg_7ff g42 g41, rfl⟩
  have hg_1ff : ∀ (g41 : Nat), G [true, true, true, true, true, true, true, true, true, false, false, false] [(0, .slice (some ⟨B0, 0, none⟩) 1 1), (1, .int .i64 w1), (4, .pointer (some ⟨b39, 0, none⟩)), (5, .pointer (some ⟨b40, 0, none⟩)), (7, .pointer (some ⟨g41, 0, none⟩)), (22, .agg #[.int .i64 m0_0, .int .i64 m0_1]), (26, .agg #[.int .i64 m0_0, .int .i64 m0_1])] ([⟨g41, [.int .i64 0, .int .i64 0], 2⟩, ⟨b40, [.int .i64 0, .int .i64 0], 2⟩, ⟨b39, [.int .i64 0, .int .i64 0], 2⟩, ⟨B0, [.int .i64 m0_0, .int .i64 m0_1, .int .i64 m0_2, .int .i64 m0_3], 4⟩] : List Own) := by
    intro g41
    refine hstep [9] _ _ _ (by kernel_rfl) (List.cons_ne_nil _ _) ⟨?_, trivial⟩
    · show T _ _ _ _ _ _ _ _
      refine t_a (.new rfl rfl) fun g42 fg42 sg42 => ?_
      refine t_keep [0, 1, 4, 5, 7, 8, 22, 26] (σ' := [(0, .slice (some ⟨B0, 0, none⟩) 1 1), (1, .int .i64 w1), (4, .pointer (some ⟨b39, 0, none⟩)), (5, .pointer (some ⟨b40, 0, none⟩)), (7, .pointer (some ⟨g41, 0, none⟩)), (8, .pointer (some ⟨g42, 0, none⟩)), (22, .agg #[.int .i64 m0_0, .int .i64 m0_1]), (26, .agg #[.int .i64 m0_0, .int .i64 m0_1])]) (by kernel_rfl) ?_
      refine t_end ?_
      exact ⟨hg_3ff g42 g41, rfl⟩
  have hg_2ff : ∀ (g42 : Nat), G [true, true, true, true, true, true, true, true, false, true, false, false] [(0, .slice (some ⟨B0, 0, none⟩) 1 1), (1, .int .i64 w1), (4, .pointer (some ⟨b39, 0, none⟩)), (5, .pointer (some ⟨b40, 0, none⟩)), (8, .pointer (some ⟨g42, 0, none⟩)), (22, .agg #[.int .i64 m0_0, .int .i64 m0_1]), (26, .agg #[.int .i64 m0_0, .int .i64 m0_1])] ([⟨g42, [.int .i64 0, .int .i64 0], 2⟩, ⟨b40, [.int .i64 0, .int .i64 0], 2⟩, ⟨b39, [.int .i64 0, .int .i64 0], 2⟩, ⟨B0, [.int .i64 m0_0, .int .i64 m0_1, .int .i64 m0_2, .int .i64 m0_3], 4⟩] : List Own) := by
    intro g42
    refine hstep [8] _ _ _ (by kernel_rfl) (List.cons_ne_nil _ _) ⟨?_, trivial⟩
    · show T _ _ _ _ _ _ _ _
      refine t_a (.new rfl rfl) fun g41 fg41 sg41 => ?_
      refine t_keep [0, 1, 4, 5, 7, 8, 22, 26] (σ' := [(0, .slice (some ⟨B0, 0, none⟩) 1 1), (1, .int .i64 w1), (4, .pointer (some ⟨b39, 0, none⟩)), (5, .pointer (some ⟨b40, 0, none⟩)), (7, .pointer (some ⟨g41, 0, none⟩)), (8, .pointer (some ⟨g42, 0, none⟩)), (22, .agg #[.int .i64 m0_0, .int .i64 m0_1]), (26, .agg #[.int .i64 m0_0, .int .i64 m0_1])]) (by kernel_rfl) ?_
      refine t_vs (H' := ([⟨g42, [.int .i64 0, .int .i64 0], 2⟩, ⟨g41, [.int .i64 0, .int .i64 0], 2⟩, ⟨b40, [.int .i64 0, .int .i64 0], 2⟩, ⟨b39, [.int .i64 0, .int .i64 0], 2⟩, ⟨B0, [.int .i64 m0_0, .int .i64 m0_1, .int .i64 m0_2, .int .i64 m0_3], 4⟩] : List Own)) (S' := S) (VS.sel [1, 0, 0, 0, 0] (by kernel_rfl)) ?_
      refine t_end ?_
      exact ⟨hg_3ff g42 g41, rfl⟩
  have hg_37f : ∀ (g42 g41 : Nat), G [true, true, true, true, true, true, true, false, true, true, false, false] [(0, .slice (some ⟨B0, 0, none⟩) 1 1), (1, .int .i64 w1), (4, .pointer (some ⟨b39, 0, none⟩)), (5, .pointer (some ⟨b40, 0, none⟩)), (7, .pointer (some ⟨g41, 0, none⟩)), (8, .pointer (some ⟨g42, 0, none⟩)), (22, .agg #[.int .i64 m0_0, .int .i64 m0_1]), (25, .pointer (some ⟨B0, 0, none⟩))] ([⟨g42, [.int .i64 0, .int .i64 0], 2⟩, ⟨g41, [.int .i64 0, .int .i64 0], 2⟩, ⟨b40, [.int .i64 0, .int .i64 0], 2⟩, ⟨b39, [.int .i64 0, .int .i64 0], 2⟩, ⟨B0, [.int .i64 m0_0, .int .i64 m0_1, .int .i64 m0_2, .int .i64 m0_3], 4⟩] : List Own) := by
    intro g42 g41
    refine hstep [7, 10] _ _ _ (by kernel_rfl) (List.cons_ne_nil _ _) ⟨?_, ?_, trivial⟩
    · show T _ _ _ _ _ _ _ _
      refine t_v (.ldn rfl rfl rfl (.at 4 rfl rfl)) ?_
      refine t_keep [0, 1, 4, 5, 7, 8, 22, 26] (σ' := [(0, .slice (some ⟨B0, 0, none⟩) 1 1), (1, .int .i64 w1), (4, .pointer (some ⟨b39, 0, none⟩)), (5, .pointer (some ⟨b40, 0, none⟩)), (7, .pointer (some ⟨g41, 0, none⟩)), (8, .pointer (some ⟨g42, 0, none⟩)), (22, .agg #[.int .i64 m0_0, .int .i64 m0_1]), (26, .agg #[.int .i64 m0_0, .int .i64 m0_1])]) (by kernel_rfl) ?_
      refine t_end ?_
      exact ⟨hg_3ff g42 g41, rfl⟩
    · show T _ _ _ _ _ _ _ _
      refine t_sti 1 (cs := [.int .i64 m0_0, .int .i64 m0_1]) rfl rfl rfl rfl rfl rfl rfl rfl rfl ?_
      refine t_keep [0, 1, 4, 5, 7, 8, 25] (σ' := [(0, .slice (some ⟨B0, 0, none⟩) 1 1), (1, .int .i64 w1), (4, .pointer (some ⟨b39, 0, none⟩)), (5, .pointer (some ⟨b40, 0, none⟩)), (7, .pointer (some ⟨g41, 0, none⟩)), (8, .pointer (some ⟨g42, 0, none⟩)), (25, .pointer (some ⟨B0, 0, none⟩))]) (by kernel_rfl) ?_
      refine t_end ?_
      exact ⟨hg_77f g42 g41, rfl⟩
  have hg_3f7 : ∀ (g42 g41 : Nat), G [true, true, true, false, true, true, true, true, true, true, false, false] [(0, .slice (some ⟨B0, 0, none⟩) 1 1), (1, .int .i64 w1), (4, .pointer (some ⟨b39, 0, none⟩)), (5, .pointer (some ⟨b40, 0, none⟩)), (7, .pointer (some ⟨g41, 0, none⟩)), (8, .pointer (some ⟨g42, 0, none⟩)), (21, .pointer (some ⟨B0, 0, none⟩)), (26, .agg #[.int .i64 m0_0, .int .i64 m0_1])] ([⟨g42, [.int .i64 0, .int .i64 0], 2⟩, ⟨g41, [.int .i64 0, .int .i64 0], 2⟩, ⟨b40, [.int .i64 0, .int .i64 0], 2⟩, ⟨b39, [.int .i64 0, .int .i64 0], 2⟩, ⟨B0, [.int .i64 m0_0, .int .i64 m0_1, .int .i64 m0_2, .int .i64 m0_3], 4⟩] : List Own) := by
    intro g42 g41
    refine hstep [3] _ _ _ (by kernel_rfl) (List.cons_ne_nil _ _) ⟨?_, trivial⟩
    · show T _ _ _ _ _ _ _ _
      refine t_v (.ldn rfl rfl rfl (.at 4 rfl rfl)) ?_
      refine t_keep [0, 1, 4, 5, 7, 8, 22, 26] (σ' := [(0, .slice (some ⟨B0, 0, none⟩) 1 1), (1, .int .i64 w1), (4, .pointer (some ⟨b39, 0, none⟩)), (5, .pointer (some ⟨b40, 0, none⟩)), (7, .pointer (some ⟨g41, 0, none⟩)), (8, .pointer (some ⟨g42, 0, none⟩)), (22, .agg #[.int .i64 m0_0, .int .i64 m0_1]), (26, .agg #[.int .i64 m0_0, .int .i64 m0_1])]) (by kernel_rfl) ?_
      refine t_end ?_
      exact ⟨hg_3ff g42 g41, rfl⟩
  have hg_ff : G [true, true, true, true, true, true, true, true, false, false, false, false] [(0, .slice (some ⟨B0, 0, none⟩) 1 1), (1, .int .i64 w1), (4, .pointer (some ⟨b39, 0, none⟩)), (5, .pointer (some ⟨b40, 0, none⟩)), (22, .agg #[.int .i64 m0_0, .int .i64 m0_1]), (26, .agg #[.int .i64 m0_0, .int .i64 m0_1])] ([⟨b40, [.int .i64 0, .int .i64 0], 2⟩, ⟨b39, [.int .i64 0, .int .i64 0], 2⟩, ⟨B0, [.int .i64 m0_0, .int .i64 m0_1, .int .i64 m0_2, .int .i64 m0_3], 4⟩] : List Own) := by
    refine hstep [8, 9] _ _ _ (by kernel_rfl) (List.cons_ne_nil _ _) ⟨?_, ?_, trivial⟩
    · show T _ _ _ _ _ _ _ _
      refine t_a (.new rfl rfl) fun g41 fg41 sg41 => ?_
      refine t_keep [0, 1, 4, 5, 7, 22, 26] (σ' := [(0, .slice (some ⟨B0, 0, none⟩) 1 1), (1, .int .i64 w1), (4, .pointer (some ⟨b39, 0, none⟩)), (5, .pointer (some ⟨b40, 0, none⟩)), (7, .pointer (some ⟨g41, 0, none⟩)), (22, .agg #[.int .i64 m0_0, .int .i64 m0_1]), (26, .agg #[.int .i64 m0_0, .int .i64 m0_1])]) (by kernel_rfl) ?_
      refine t_end ?_
      exact ⟨hg_1ff g41, rfl⟩
    · show T _ _ _ _ _ _ _ _
      refine t_a (.new rfl rfl) fun g42 fg42 sg42 => ?_
      refine t_keep [0, 1, 4, 5, 8, 22, 26] (σ' := [(0, .slice (some ⟨B0, 0, none⟩) 1 1), (1, .int .i64 w1), (4, .pointer (some ⟨b39, 0, none⟩)), (5, .pointer (some ⟨b40, 0, none⟩)), (8, .pointer (some ⟨g42, 0, none⟩)), (22, .agg #[.int .i64 m0_0, .int .i64 m0_1]), (26, .agg #[.int .i64 m0_0, .int .i64 m0_1])]) (by kernel_rfl) ?_
      refine t_end ?_
      exact ⟨hg_2ff g42, rfl⟩
  have hg_17f : ∀ (g41 : Nat), G [true, true, true, true, true, true, true, false, true, false, false, false] [(0, .slice (some ⟨B0, 0, none⟩) 1 1), (1, .int .i64 w1), (4, .pointer (some ⟨b39, 0, none⟩)), (5, .pointer (some ⟨b40, 0, none⟩)), (7, .pointer (some ⟨g41, 0, none⟩)), (22, .agg #[.int .i64 m0_0, .int .i64 m0_1]), (25, .pointer (some ⟨B0, 0, none⟩))] ([⟨g41, [.int .i64 0, .int .i64 0], 2⟩, ⟨b40, [.int .i64 0, .int .i64 0], 2⟩, ⟨b39, [.int .i64 0, .int .i64 0], 2⟩, ⟨B0, [.int .i64 m0_0, .int .i64 m0_1, .int .i64 m0_2, .int .i64 m0_3], 4⟩] : List Own) := by
    intro g41
    refine hstep [7, 9] _ _ _ (by kernel_rfl) (List.cons_ne_nil _ _) ⟨?_, ?_, trivial⟩
    · show T _ _ _ _ _ _ _ _
      refine t_v (.ldn rfl rfl rfl (.at 3 rfl rfl)) ?_
      refine t_keep [0, 1, 4, 5, 7, 22, 26] (σ' := [(0, .slice (some ⟨B0, 0, none⟩) 1 1), (1, .int .i64 w1), (4, .pointer (some ⟨b39, 0, none⟩)), (5, .pointer (some ⟨b40, 0, none⟩)), (7, .pointer (some ⟨g41, 0, none⟩)), (22, .agg #[.int .i64 m0_0, .int .i64 m0_1]), (26, .agg #[.int .i64 m0_0, .int .i64 m0_1])]) (by kernel_rfl) ?_
      refine t_end ?_
      exact ⟨hg_1ff g41, rfl⟩
    · show T _ _ _ _ _ _ _ _
      refine t_a (.new rfl rfl) fun g42 fg42 sg42 => ?_
      refine t_keep [0, 1, 4, 5, 7, 8, 22, 25] (σ' := [(0, .slice (some ⟨B0, 0, none⟩) 1 1), (1, .int .i64 w1), (4, .pointer (some ⟨b39, 0, none⟩)), (5, .pointer (some ⟨b40, 0, none⟩)), (7, .pointer (some ⟨g41, 0, none⟩)), (8, .pointer (some ⟨g42, 0, none⟩)), (22, .agg #[.int .i64 m0_0, .int .i64 m0_1]), (25, .pointer (some ⟨B0, 0, none⟩))]) (by kernel_rfl) ?_
      refine t_end ?_
      exact ⟨hg_37f g42 g41, rfl⟩
  have hg_27f : ∀ (g42 : Nat), G [true, true, true, true, true, true, true, false, false, true, false, false] [(0, .slice (some ⟨B0, 0, none⟩) 1 1), (1, .int .i64 w1), (4, .pointer (some ⟨b39, 0, none⟩)), (5, .pointer (some ⟨b40, 0, none⟩)), (8, .pointer (some ⟨g42, 0, none⟩)), (22, .agg #[.int .i64 m0_0, .int .i64 m0_1]), (25, .pointer (some ⟨B0, 0, none⟩))] ([⟨g42, [.int .i64 0, .int .i64 0], 2⟩, ⟨b40, [.int .i64 0, .int .i64 0], 2⟩, ⟨b39, [.int .i64 0, .int .i64 0], 2⟩, ⟨B0, [.int .i64 m0_0, .int .i64 m0_1, .int .i64 m0_2, .int .i64 m0_3], 4⟩] : List Own) := by
    intro g42
    refine hstep [7, 8] _ _ _ (by kernel_rfl) (List.cons_ne_nil _ _) ⟨?_, ?_, trivial⟩
    · show T _ _ _ _ _ _ _ _
      refine t_v (.ldn rfl rfl rfl (.at 3 rfl rfl)) ?_
      refine t_keep [0, 1, 4, 5, 8, 22, 26] (σ' := [(0, .slice (some ⟨B0, 0, none⟩) 1 1), (1, .int .i64 w1), (4, .pointer (some ⟨b39, 0, none⟩)), (5, .pointer (some ⟨b40, 0, none⟩)), (8, .pointer (some ⟨g42, 0, none⟩)), (22, .agg #[.int .i64 m0_0, .int .i64 m0_1]), (26, .agg #[.int .i64 m0_0, .int .i64 m0_1])]) (by kernel_rfl) ?_
      refine t_end ?_
      exact ⟨hg_2ff g42, rfl⟩
    · show T _ _ _ _ _ _ _ _
      refine t_a (.new rfl rfl) fun g41 fg41 sg41 => ?_
      refine t_keep [0, 1, 4, 5, 7, 8, 22, 25] (σ' := [(0, .slice (some ⟨B0, 0, none⟩) 1 1), (1, .int .i64 w1), (4, .pointer (some ⟨b39, 0, none⟩)), (5, .pointer (some ⟨b40, 0, none⟩)), (7, .pointer (some ⟨g41, 0, none⟩)), (8, .pointer (some ⟨g42, 0, none⟩)), (22, .agg #[.int .i64 m0_0, .int .i64 m0_1]), (25, .pointer (some ⟨B0, 0, none⟩))]) (by kernel_rfl) ?_
      refine t_vs (H' := ([⟨g42, [.int .i64 0, .int .i64 0], 2⟩, ⟨g41, [.int .i64 0, .int .i64 0], 2⟩, ⟨b40, [.int .i64 0, .int .i64 0], 2⟩, ⟨b39, [.int .i64 0, .int .i64 0], 2⟩, ⟨B0, [.int .i64 m0_0, .int .i64 m0_1, .int .i64 m0_2, .int .i64 m0_3], 4⟩] : List Own)) (S' := S) (VS.sel [1, 0, 0, 0, 0] (by kernel_rfl)) ?_
      refine t_end ?_
      exact ⟨hg_37f g42 g41, rfl⟩
  have hg_1f7 : ∀ (g41 : Nat), G [true, true, true, false, true, true, true, true, true, false, false, false] [(0, .slice (some ⟨B0, 0, none⟩) 1 1), (1, .int .i64 w1), (4, .pointer (some ⟨b39, 0, none⟩)), (5, .pointer (some ⟨b40, 0, none⟩)), (7, .pointer (some ⟨g41, 0, none⟩)), (21, .pointer (some ⟨B0, 0, none⟩)), (26, .agg #[.int .i64 m0_0, .int .i64 m0_1])] ([⟨g41, [.int .i64 0, .int .i64 0], 2⟩, ⟨b40, [.int .i64 0, .int .i64 0], 2⟩, ⟨b39, [.int .i64 0, .int .i64 0], 2⟩, ⟨B0, [.int .i64 m0_0, .int .i64 m0_1, .int .i64 m0_2, .int .i64 m0_3], 4⟩] : List Own) := by
    intro g41
    refine hstep [3, 9] _ _ _ (by kernel_rfl) (List.cons_ne_nil _ _) ⟨?_, ?_, trivial⟩
    · show T _ _ _ _ _ _ _ _
      refine t_v (.ldn rfl rfl rfl (.at 3 rfl rfl)) ?_
      refine t_keep [0, 1, 4, 5, 7, 22, 26] (σ' := [(0, .slice (some ⟨B0, 0, none⟩) 1 1), (1, .int .i64 w1), (4, .pointer (some ⟨b39, 0, none⟩)), (5, .pointer (some ⟨b40, 0, none⟩)), (7, .pointer (some ⟨g41, 0, none⟩)), (22, .agg #[.int .i64 m0_0, .int .i64 m0_1]), (26, .agg #[.int .i64 m0_0, .int .i64 m0_1])]) (by kernel_rfl) ?_
      refine t_end ?_
      exact ⟨hg_1ff g41, rfl⟩
    · show T _ _ _ _ _ _ _ _
      refine t_a (.new rfl rfl) fun g42 fg42 sg42 => ?_
      refine t_keep [0, 1, 4, 5, 7, 8, 21, 26] (σ' := [(0, .slice (some ⟨B0, 0, none⟩) 1 1), (1, .int .i64 w1), (4, .pointer (some ⟨b39, 0, none⟩)), (5, .pointer (some ⟨b40, 0, none⟩)), (7, .pointer (some ⟨g41, 0, none⟩)), (8, .pointer (some ⟨g42, 0, none⟩)), (21, .pointer (some ⟨B0, 0, none⟩)), (26, .agg #[.int .i64 m0_0, .int .i64 m0_1])]) (by kernel_rfl) ?_
      refine t_end ?_
      exact ⟨hg_3f7 g42 g41, rfl⟩
  have hg_2f7 : ∀ (g42 : Nat), G [true, true, true, false, true, true, true, true, false, true, false, false] [(0, .slice (some ⟨B0, 0, none⟩) 1 1), (1, .int .i64 w1), (4, .pointer (some ⟨b39, 0, none⟩)), (5, .pointer (some ⟨b40, 0, none⟩)), (8, .pointer (some ⟨g42, 0, none⟩)), (21, .pointer (some ⟨B0, 0, none⟩)), (26, .agg #[.int .i64 m0_0, .int .i64 m0_1])] ([⟨g42, [.int .i64 0, .int .i64 0], 2⟩, ⟨b40, [.int .i64 0, .int .i64 0], 2⟩, ⟨b39, [.int .i64 0, .int .i64 0], 2⟩, ⟨B0, [.int .i64 m0_0, .int .i64 m0_1, .int .i64 m0_2, .int .i64 m0_3], 4⟩] : List Own) := by
    intro g42
    refine hstep [3, 8] _ _ _ (by kernel_rfl) (List.cons_ne_nil _ _) ⟨?_, ?_, trivial⟩
    · show T _ _ _ _ _ _ _ _
      refine t_v (.ldn rfl rfl rfl (.at 3 rfl rfl)) ?_
      refine t_keep [0, 1, 4, 5, 8, 22, 26] (σ' := [(0, .slice (some ⟨B0, 0, none⟩) 1 1), (1, .int .i64 w1), (4, .pointer (some ⟨b39, 0, none⟩)), (5, .pointer (some ⟨b40, 0, none⟩)), (8, .pointer (some ⟨g42, 0, none⟩)), (22, .agg #[.int .i64 m0_0, .int .i64 m0_1]), (26, .agg #[.int .i64 m0_0, .int .i64 m0_1])]) (by kernel_rfl) ?_
      refine t_end ?_
      exact ⟨hg_2ff g42, rfl⟩
    · show T _ _ _ _ _ _ _ _
      refine t_a (.new rfl rfl) fun g41 fg41 sg41 => ?_
      refine t_keep [0, 1, 4, 5, 7, 8, 21, 26] (σ' := [(0, .slice (some ⟨B0, 0, none⟩) 1 1), (1, .int .i64 w1), (4, .pointer (some ⟨b39, 0, none⟩)), (5, .pointer (some ⟨b40, 0, none⟩)), (7, .pointer (some ⟨g41, 0, none⟩)), (8, .pointer (some ⟨g42, 0, none⟩)), (21, .pointer (some ⟨B0, 0, none⟩)), (26, .agg #[.int .i64 m0_0, .int .i64 m0_1])]) (by kernel_rfl) ?_
      refine t_vs (H' := ([⟨g42, [.int .i64 0, .int .i64 0], 2⟩, ⟨g41, [.int .i64 0, .int .i64 0], 2⟩, ⟨b40, [.int .i64 0, .int .i64 0], 2⟩, ⟨b39, [.int .i64 0, .int .i64 0], 2⟩, ⟨B0, [.int .i64 m0_0, .int .i64 m0_1, .int .i64 m0_2, .int .i64 m0_3], 4⟩] : List Own)) (S' := S) (VS.sel [1, 0, 0, 0, 0] (by kernel_rfl)) ?_
      refine t_end ?_
      exact ⟨hg_3f7 g42 g41, rfl⟩
  have hg_377 : ∀ (g42 g41 : Nat), G [true, true, true, false, true, true, true, false, true, true, false, false] [(0, .slice (some ⟨B0, 0, none⟩) 1 1), (1, .int .i64 w1), (4, .pointer (some ⟨b39, 0, none⟩)), (5, .pointer (some ⟨b40, 0, none⟩)), (7, .pointer (some ⟨g41, 0, none⟩)), (8, .pointer (some ⟨g42, 0, none⟩)), (21, .pointer (some ⟨B0, 0, none⟩)), (25, .pointer (some ⟨B0, 0, none⟩))] ([⟨g42, [.int .i64 0, .int .i64 0], 2⟩, ⟨g41, [.int .i64 0, .int .i64 0], 2⟩, ⟨b40, [.int .i64 0, .int .i64 0], 2⟩, ⟨b39, [.int .i64 0, .int .i64 0], 2⟩, ⟨B0, [.int .i64 m0_0, .int .i64 m0_1, .int .i64 m0_2, .int .i64 m0_3], 4⟩] : List Own) := by
    intro g42 g41
    refine hstep [3, 7] _ _ _ (by kernel_rfl) (List.cons_ne_nil _ _) ⟨?_, ?_, trivial⟩
    · show T _ _ _ _ _ _ _ _
      refine t_v (.ldn rfl rfl rfl (.at 4 rfl rfl)) ?_
      refine t_keep [0, 1, 4, 5, 7, 8, 22, 25] (σ' := [(0, .slice (some ⟨B0, 0, none⟩) 1 1), (1, .int .i64 w1), (4, .pointer (some ⟨b39, 0, none⟩)), (5, .pointer (some ⟨b40, 0, none⟩)), (7, .pointer (some ⟨g41, 0, none⟩)), (8, .pointer (some ⟨g42, 0, none⟩)), (22, .agg #[.int .i64 m0_0, .int .i64 m0_1]), (25, .pointer (some ⟨B0, 0, none⟩))]) (by kernel_rfl) ?_
      refine t_end ?_
      exact ⟨hg_37f g42 g41, rfl⟩
    · show T _ _ _ _ _ _ _ _
      refine t_v (.ldn rfl rfl rfl (.at 4 rfl rfl)) ?_
      refine t_keep [0, 1, 4, 5, 7, 8, 21, 26] (σ' := [(0, .slice (some ⟨B0, 0, none⟩) 1 1), (1, .int .i64 w1), (4, .pointer (some ⟨b39, 0, none⟩)), (5, .pointer (some ⟨b40, 0, none⟩)), (7, .pointer (some ⟨g41, 0, none⟩)), (8, .pointer (some ⟨g42, 0, none⟩)), (21, .pointer (some ⟨B0, 0, none⟩)), (26, .agg #[.int .i64 m0_0, .int .i64 m0_1])]) (by kernel_rfl) ?_
      refine t_end ?_
      exact ⟨hg_3f7 g42 g41, rfl⟩
  have hg_f7 : G [true, true, true, false, true, true, true, true, false, false, false, false] [(0, .slice (some ⟨B0, 0, none⟩) 1 1), (1, .int .i64 w1), (4, .pointer (some ⟨b39, 0, none⟩)), (5, .pointer (some ⟨b40, 0, none⟩)), (21, .pointer (some ⟨B0, 0, none⟩)), (26, .agg #[.int .i64 m0_0, .int .i64 m0_1])] ([⟨b40, [.int .i64 0, .int .i64 0], 2⟩, ⟨b39, [.int .i64 0, .int .i64 0], 2⟩, ⟨B0, [.int .i64 m0_0, .int .i64 m0_1, .int .i64 m0_2, .int .i64 m0_3], 4⟩] : List Own) := by
    refine hstep [3, 8, 9] _ _ _ (by kernel_rfl) (List.cons_ne_nil _ _) ⟨?_, ?_, ?_, trivial⟩
    · show T _ _ _ _ _ _ _ _
      refine t_v (.ldn rfl rfl rfl (.at 2 rfl rfl)) ?_
      refine t_keep [0, 1, 4, 5, 22, 26] (σ' := [(0, .slice (some ⟨B0, 0, none⟩) 1 1), (1, .int .i64 w1), (4, .pointer (some ⟨b39, 0, none⟩)), (5, .pointer (some ⟨b40, 0, none⟩)), (22, .agg #[.int .i64 m0_0, .int .i64 m0_1]), (26, .agg #[.int .i64 m0_0, .int .i64 m0_1])]) (by kernel_rfl) ?_
      refine t_end ?_
      exact ⟨hg_ff, rfl⟩
    · show T _ _ _ _ _ _ _ _
      refine t_a (.new rfl rfl) fun g41 fg41 sg41 => ?_
      refine t_keep [0, 1, 4, 5, 7, 21, 26] (σ' := [(0, .slice (some ⟨B0, 0, none⟩) 1 1), (1, .int .i64 w1), (4, .pointer (some ⟨b39, 0, none⟩)), (5, .pointer (some ⟨b40, 0, none⟩)), (7, .pointer (some ⟨g41, 0, none⟩)), (21, .pointer (some ⟨B0, 0, none⟩)), (26, .agg #[.int .i64 m0_0, .int .i64 m0_1])]) (by kernel_rfl) ?_
      refine t_end ?_
      exact ⟨hg_1f7 g41, rfl⟩
    · show T _ _ _ _ _ _ _ _
      refine t_a (.new rfl rfl) fun g42 fg42 sg42 => ?_
      refine t_keep [0, 1, 4, 5, 8, 21, 26] (σ' := [(0, .slice (some ⟨B0, 0, none⟩) 1 1), (1, .int .i64 w1), (4, .pointer (some ⟨b39, 0, none⟩)), (5, .pointer (some ⟨b40, 0, none⟩)), (8, .pointer (some ⟨g42, 0, none⟩)), (21, .pointer (some ⟨B0, 0, none⟩)), (26, .agg #[.int .i64 m0_0, .int .i64 m0_1])]) (by kernel_rfl) ?_
      refine t_end ?_
      exact ⟨hg_2f7 g42, rfl⟩
  have hg_177 : ∀ (g41 : Nat), G [true, true, true, false, true, true, true, false, true, false, false, false] [(0, .slice (some ⟨B0, 0, none⟩) 1 1), (1, .int .i64 w1), (4, .pointer (some ⟨b39, 0, none⟩)), (5, .pointer (some ⟨b40, 0, none⟩)), (7, .pointer (some ⟨g41, 0, none⟩)), (21, .pointer (some ⟨B0, 0, none⟩)), (25, .pointer (some ⟨B0, 0, none⟩))] ([⟨g41, [.int .i64 0, .int .i64 0], 2⟩, ⟨b40, [.int .i64 0, .int .i64 0], 2⟩, ⟨b39, [.int .i64 0, .int .i64 0], 2⟩, ⟨B0, [.int .i64 m0_0, .int .i64 m0_1, .int .i64 m0_2, .int .i64 m0_3], 4⟩] : List Own) := by
    intro g41
    refine hstep [3, 7, 9] _ _ _ (by kernel_rfl) (List.cons_ne_nil _ _) ⟨?_, ?_, ?_, trivial⟩
    · show T _ _ _ _ _ _ _ _
      refine t_v (.ldn rfl rfl rfl (.at 3 rfl rfl)) ?_
      refine t_keep [0, 1, 4, 5, 7, 22, 25] (σ' := [(0, .slice (some ⟨B0, 0, none⟩) 1 1), (1, .int .i64 w1), (4, .pointer (some ⟨b39, 0, none⟩)), (5, .pointer (some ⟨b40, 0, none⟩)), (7, .pointer (some ⟨g41, 0, none⟩)), (22, .agg #[.int .i64 m0_0, .int .i64 m0_1]), (25, .pointer (some ⟨B0, 0, none⟩))]) (by kernel_rfl) ?_
      refine t_end ?_
      exact ⟨hg_17f g41, rfl⟩
    · show T _ _ _ _ _ _ _ _
      refine t_v (.ldn rfl rfl rfl (.at 3 rfl rfl)) ?_
      refine t_keep [0, 1, 4, 5, 7, 21, 26] (σ' := [(0, .slice (some ⟨B0, 0, none⟩) 1 1), (1, .int .i64 w1), (4, .pointer (some ⟨b39, 0, none⟩)), (5, .pointer (some ⟨b40, 0, none⟩)), (7, .pointer (some ⟨g41, 0, none⟩)), (21, .pointer (some ⟨B0, 0, none⟩)), (26, .agg #[.int .i64 m0_0, .int .i64 m0_1])]) (by kernel_rfl) ?_
      refine t_end ?_
      exact ⟨hg_1f7 g41, rfl⟩
    · show T _ _ _ _ _ _ _ _
      refine t_a (.new rfl rfl) fun g42 fg42 sg42 => ?_
      refine t_keep [0, 1, 4, 5, 7, 8, 21, 25] (σ' := [(0, .slice (some ⟨B0, 0, none⟩) 1 1), (1, .int .i64 w1), (4, .pointer (some ⟨b39, 0, none⟩)), (5, .pointer (some ⟨b40, 0, none⟩)), (7, .pointer (some ⟨g41, 0, none⟩)), (8, .pointer (some ⟨g42, 0, none⟩)), (21, .pointer (some ⟨B0, 0, none⟩)), (25, .pointer (some ⟨B0, 0, none⟩))]) (by kernel_rfl) ?_
      refine t_end ?_
      exact ⟨hg_377 g42 g41, rfl⟩
  have hg_277 : ∀ (g42 : Nat), G [true, true, true, false, true, true, true, false, false, true, false, false] [(0, .slice (some ⟨B0, 0, none⟩) 1 1), (1, .int .i64 w1), (4, .pointer (some ⟨b39, 0, none⟩)), (5, .pointer (some ⟨b40, 0, none⟩)), (8, .pointer (some ⟨g42, 0, none⟩)), (21, .pointer (some ⟨B0, 0, none⟩)), (25, .pointer (some ⟨B0, 0, none⟩))] ([⟨g42, [.int .i64 0, .int .i64 0], 2⟩, ⟨b40, [.int .i64 0, .int .i64 0], 2⟩, ⟨b39, [.int .i64 0, .int .i64 0], 2⟩, ⟨B0, [.int .i64 m0_0, .int .i64 m0_1, .int .i64 m0_2, .int .i64 m0_3], 4⟩] : List Own) := by
    intro g42
    refine hstep [3, 7, 8] _ _ _ (by kernel_rfl) (List.cons_ne_nil _ _) ⟨?_, ?_, ?_, trivial⟩
    · show T _ _ _ _ _ _ _ _
      refine t_v (.ldn rfl rfl rfl (.at 3 rfl rfl)) ?_
      refine t_keep [0, 1, 4, 5, 8, 22, 25] (σ' := [(0, .slice (some ⟨B0, 0, none⟩) 1 1), (1, .int .i64 w1), (4, .pointer (some ⟨b39, 0, none⟩)), (5, .pointer (some ⟨b40, 0, none⟩)), (8, .pointer (some ⟨g42, 0, none⟩)), (22, .agg #[.int .i64 m0_0, .int .i64 m0_1]), (25, .pointer (some ⟨B0, 0, none⟩))]) (by kernel_rfl) ?_
      refine t_end ?_
      exact ⟨hg_27f g42, rfl⟩
    · show T _ _ _ _ _ _ _ _
      refine t_v (.ldn rfl rfl rfl (.at 3 rfl rfl)) ?_
      refine t_keep [0, 1, 4, 5, 8, 21, 26] (σ' := [(0, .slice (some ⟨B0, 0, none⟩) 1 1), (1, .int .i64 w1), (4, .pointer (some ⟨b39, 0, none⟩)), (5, .pointer (some ⟨b40, 0, none⟩)), (8, .pointer (some ⟨g42, 0, none⟩)), (21, .pointer (some ⟨B0, 0, none⟩)), (26, .agg #[.int .i64 m0_0, .int .i64 m0_1])]) (by kernel_rfl) ?_
      refine t_end ?_
      exact ⟨hg_2f7 g42, rfl⟩
    · show T _ _ _ _ _ _ _ _
      refine t_a (.new rfl rfl) fun g41 fg41 sg41 => ?_
      refine t_keep [0, 1, 4, 5, 7, 8, 21, 25] (σ' := [(0, .slice (some ⟨B0, 0, none⟩) 1 1), (1, .int .i64 w1), (4, .pointer (some ⟨b39, 0, none⟩)), (5, .pointer (some ⟨b40, 0, none⟩)), (7, .pointer (some ⟨g41, 0, none⟩)), (8, .pointer (some ⟨g42, 0, none⟩)), (21, .pointer (some ⟨B0, 0, none⟩)), (25, .pointer (some ⟨B0, 0, none⟩))]) (by kernel_rfl) ?_
      refine t_vs (H' := ([⟨g42, [.int .i64 0, .int .i64 0], 2⟩, ⟨g41, [.int .i64 0, .int .i64 0], 2⟩, ⟨b40, [.int .i64 0, .int .i64 0], 2⟩, ⟨b39, [.int .i64 0, .int .i64 0], 2⟩, ⟨B0, [.int .i64 m0_0, .int .i64 m0_1, .int .i64 m0_2, .int .i64 m0_3], 4⟩] : List Own)) (S' := S) (VS.sel [1, 0, 0, 0, 0] (by kernel_rfl)) ?_
      refine t_end ?_
      exact ⟨hg_377 g42 g41, rfl⟩
  have hg_7f : G [true, true, true, true, true, true, true, false, false, false, false, false] [(0, .slice (some ⟨B0, 0, none⟩) 1 1), (1, .int .i64 w1), (4, .pointer (some ⟨b39, 0, none⟩)), (5, .pointer (some ⟨b40, 0, none⟩)), (22, .agg #[.int .i64 m0_0, .int .i64 m0_1]), (25, .pointer (some ⟨B0, 0, none⟩))] ([⟨b40, [.int .i64 0, .int .i64 0], 2⟩, ⟨b39, [.int .i64 0, .int .i64 0], 2⟩, ⟨B0, [.int .i64 m0_0, .int .i64 m0_1, .int .i64 m0_2, .int .i64 m0_3], 4⟩] : List Own) := by
    refine hstep [7, 8, 9] _ _ _ (by kernel_rfl) (List.cons_ne_nil _ _) ⟨?_, ?_, ?_, trivial⟩
    · show T _ _ _ _ _ _ _ _
      refine t_v (.ldn rfl rfl rfl (.at 2 rfl rfl)) ?_
      refine t_keep [0, 1, 4, 5, 22, 26] (σ' := [(0, .slice (some ⟨B0, 0, none⟩) 1 1), (1, .int .i64 w1), (4, .pointer (some ⟨b39, 0, none⟩)), (5, .pointer (some ⟨b40, 0, none⟩)), (22, .agg #[.int .i64 m0_0, .int .i64 m0_1]), (26, .agg #[.int .i64 m0_0, .int .i64 m0_1])]) (by kernel_rfl) ?_
      refine t_end ?_
      exact ⟨hg_ff, rfl⟩
    · show T _ _ _ _ _ _ _ _
      refine t_a (.new rfl rfl) fun g41 fg41 sg41 => ?_
      refine t_keep [0, 1, 4, 5, 7, 22, 25] (σ' := [(0, .slice (some ⟨B0, 0, none⟩) 1 1), (1, .int .i64 w1), (4, .pointer (some ⟨b39, 0, none⟩)), (5, .pointer (some ⟨b40, 0, none⟩)), (7, .pointer (some ⟨g41, 0, none⟩)), (22, .agg #[.int .i64 m0_0, .int .i64 m0_1]), (25, .pointer (some ⟨B0, 0, none⟩))]) (by kernel_rfl) ?_
      refine t_end ?_
      exact ⟨hg_17f g41, rfl⟩
    · show T _ _ _ _ _ _ _ _
      refine t_a (.new rfl rfl) fun g42 fg42 sg42 => ?_
      refine t_keep [0, 1, 4, 5, 8, 22, 25] (σ' := [(0, .slice (some ⟨B0, 0, none⟩) 1 1), (1, .int .i64 w1), (4, .pointer (some ⟨b39, 0, none⟩)), (5, .pointer (some ⟨b40, 0, none⟩)), (8, .pointer (some ⟨g42, 0, none⟩)), (22, .agg #[.int .i64 m0_0, .int .i64 m0_1]), (25, .pointer (some ⟨B0, 0, none⟩))]) (by kernel_rfl) ?_
      refine t_end ?_
      exact ⟨hg_27f g42, rfl⟩
  have hg_77 : G [true, true, true, false, true, true, true, false, false, false, false, false] [(0, .slice (some ⟨B0, 0, none⟩) 1 1), (1, .int .i64 w1), (4, .pointer (some ⟨b39, 0, none⟩)), (5, .pointer (some ⟨b40, 0, none⟩)), (21, .pointer (some ⟨B0, 0, none⟩)), (25, .pointer (some ⟨B0, 0, none⟩))] ([⟨b40, [.int .i64 0, .int .i64 0], 2⟩, ⟨b39, [.int .i64 0, .int .i64 0], 2⟩, ⟨B0, [.int .i64 m0_0, .int .i64 m0_1, .int .i64 m0_2, .int .i64 m0_3], 4⟩] : List Own) := by
    refine hstep [3, 7, 8, 9] _ _ _ (by kernel_rfl) (List.cons_ne_nil _ _) ⟨?_, ?_, ?_, ?_, trivial⟩
    · show T _ _ _ _ _ _ _ _
      refine t_v (.ldn rfl rfl rfl (.at 2 rfl rfl)) ?_
      refine t_keep [0, 1, 4, 5, 22, 25] (σ' := [(0, .slice (some ⟨B0, 0, none⟩) 1 1), (1, .int .i64 w1), (4, .pointer (some ⟨b39, 0, none⟩)), (5, .pointer (some ⟨b40, 0, none⟩)), (22, .agg #[.int .i64 m0_0, .int .i64 m0_1]), (25, .pointer (some ⟨B0, 0, none⟩))]) (by kernel_rfl) ?_
      refine t_end ?_
      exact ⟨hg_7f, rfl⟩
    · show T _ _ _ _ _ _ _ _
      refine t_v (.ldn rfl rfl rfl (.at 2 rfl rfl)) ?_
      refine t_keep [0, 1, 4, 5, 21, 26] (σ' := [(0, .slice (some ⟨B0, 0, none⟩) 1 1), (1, .int .i64 w1), (4, .pointer (some ⟨b39, 0, none⟩)), (5, .pointer (some ⟨b40, 0, none⟩)), (21, .pointer (some ⟨B0, 0, none⟩)), (26, .agg #[.int .i64 m0_0, .int .i64 m0_1])]) (by kernel_rfl) ?_
      refine t_end ?_
      exact ⟨hg_f7, rfl⟩
    · show T _ _ _ _ _ _ _ _
      refine t_a (.new rfl rfl) fun g41 fg41 sg41 => ?_
      refine t_keep [0, 1, 4, 5, 7, 21, 25] (σ' := [(0, .slice (some ⟨B0, 0, none⟩) 1 1), (1, .int .i64 w1), (4, .pointer (some ⟨b39, 0, none⟩)), (5, .pointer (some ⟨b40, 0, none⟩)), (7, .pointer (some ⟨g41, 0, none⟩)), (21, .pointer (some ⟨B0, 0, none⟩)), (25, .pointer (some ⟨B0, 0, none⟩))]) (by kernel_rfl) ?_
      refine t_end ?_
      exact ⟨hg_177 g41, rfl⟩
    · show T _ _ _ _ _ _ _ _
      refine t_a (.new rfl rfl) fun g42 fg42 sg42 => ?_
      refine t_keep [0, 1, 4, 5, 8, 21, 25] (σ' := [(0, .slice (some ⟨B0, 0, none⟩) 1 1), (1, .int .i64 w1), (4, .pointer (some ⟨b39, 0, none⟩)), (5, .pointer (some ⟨b40, 0, none⟩)), (8, .pointer (some ⟨g42, 0, none⟩)), (21, .pointer (some ⟨B0, 0, none⟩)), (25, .pointer (some ⟨B0, 0, none⟩))]) (by kernel_rfl) ?_
      refine t_end ?_
      exact ⟨hg_277 g42, rfl⟩
  have hg_37 : G [true, true, true, false, true, true, false, false, false, false, false, false] [(0, .slice (some ⟨B0, 0, none⟩) 1 1), (1, .int .i64 w1), (4, .pointer (some ⟨b39, 0, none⟩)), (5, .pointer (some ⟨b40, 0, none⟩)), (21, .pointer (some ⟨B0, 0, none⟩)), (24, .pointer (some ⟨B0, 0, none⟩))] ([⟨b40, [.int .i64 0, .int .i64 0], 2⟩, ⟨b39, [.int .i64 0, .int .i64 0], 2⟩, ⟨B0, [.int .i64 m0_0, .int .i64 m0_1, .int .i64 m0_2, .int .i64 m0_3], 4⟩] : List Own) := by
    exact hqf 6 [0, 1, 4, 5, 21, 25] _ _ _ [(0, .slice (some ⟨B0, 0, none⟩) 1 1), (1, .int .i64 w1), (4, .pointer (some ⟨b39, 0, none⟩)), (5, .pointer (some ⟨b40, 0, none⟩)), (21, .pointer (some ⟨B0, 0, none⟩)), (25, .pointer (some ⟨B0, 0, none⟩))] (by kernel_rfl) (by kernel_rfl) hg_77
  have hg_17 : G [true, true, true, false, true, false, false, false, false, false, false, false] [(0, .slice (some ⟨B0, 0, none⟩) 1 1), (1, .int .i64 w1), (4, .pointer (some ⟨b39, 0, none⟩)), (5, .pointer (some ⟨b40, 0, none⟩)), (21, .pointer (some ⟨B0, 0, none⟩)), (23, .slice (some ⟨B0, 0, none⟩) 1 1)] ([⟨b40, [.int .i64 0, .int .i64 0], 2⟩, ⟨b39, [.int .i64 0, .int .i64 0], 2⟩, ⟨B0, [.int .i64 m0_0, .int .i64 m0_1, .int .i64 m0_2, .int .i64 m0_3], 4⟩] : List Own) := by
    exact hqf 5 [0, 1, 4, 5, 21, 24] _ _ _ [(0, .slice (some ⟨B0, 0, none⟩) 1 1), (1, .int .i64 w1), (4, .pointer (some ⟨b39, 0, none⟩)), (5, .pointer (some ⟨b40, 0, none⟩)), (21, .pointer (some ⟨B0, 0, none⟩)), (24, .pointer (some ⟨B0, 0, none⟩))] (by kernel_rfl) (by kernel_rfl) hg_37
  have hg_7 : G [true, true, true, false, false, false, false, false, false, false, false, false] [(0, .slice (some ⟨B0, 0, none⟩) 1 1), (1, .int .i64 w1), (4, .pointer (some ⟨b39, 0, none⟩)), (5, .pointer (some ⟨b40, 0, none⟩)), (21, .pointer (some ⟨B0, 0, none⟩))] ([⟨b40, [.int .i64 0, .int .i64 0], 2⟩, ⟨b39, [.int .i64 0, .int .i64 0], 2⟩, ⟨B0, [.int .i64 m0_0, .int .i64 m0_1, .int .i64 m0_2, .int .i64 m0_3], 4⟩] : List Own) := by
    exact hqf 4 [0, 1, 4, 5, 21, 23] _ _ _ [(0, .slice (some ⟨B0, 0, none⟩) 1 1), (1, .int .i64 w1), (4, .pointer (some ⟨b39, 0, none⟩)), (5, .pointer (some ⟨b40, 0, none⟩)), (21, .pointer (some ⟨B0, 0, none⟩)), (23, .slice (some ⟨B0, 0, none⟩) 1 1)] (by kernel_rfl) (by kernel_rfl) hg_17
  have hg_3 : G [true, true, false, false, false, false, false, false, false, false, false, false] [(0, .slice (some ⟨B0, 0, none⟩) 1 1), (1, .int .i64 w1), (4, .pointer (some ⟨b39, 0, none⟩)), (5, .pointer (some ⟨b40, 0, none⟩)), (20, .pointer (some ⟨B0, 0, none⟩))] ([⟨b40, [.int .i64 0, .int .i64 0], 2⟩, ⟨b39, [.int .i64 0, .int .i64 0], 2⟩, ⟨B0, [.int .i64 m0_0, .int .i64 m0_1, .int .i64 m0_2, .int .i64 m0_3], 4⟩] : List Own) := by
    exact hqf 2 [0, 1, 4, 5, 21] _ _ _ [(0, .slice (some ⟨B0, 0, none⟩) 1 1), (1, .int .i64 w1), (4, .pointer (some ⟨b39, 0, none⟩)), (5, .pointer (some ⟨b40, 0, none⟩)), (21, .pointer (some ⟨B0, 0, none⟩))] (by kernel_rfl) (by kernel_rfl) hg_7
  have hg_1 : G [true, false, false, false, false, false, false, false, false, false, false, false] [(0, .slice (some ⟨B0, 0, none⟩) 1 1), (1, .int .i64 w1), (4, .pointer (some ⟨b39, 0, none⟩)), (5, .pointer (some ⟨b40, 0, none⟩)), (19, .slice (some ⟨B0, 0, none⟩) 1 1)] ([⟨b40, [.int .i64 0, .int .i64 0], 2⟩, ⟨b39, [.int .i64 0, .int .i64 0], 2⟩, ⟨B0, [.int .i64 m0_0, .int .i64 m0_1, .int .i64 m0_2, .int .i64 m0_3], 4⟩] : List Own) := by
    exact hqf 1 [0, 1, 4, 5, 20] _ _ _ [(0, .slice (some ⟨B0, 0, none⟩) 1 1), (1, .int .i64 w1), (4, .pointer (some ⟨b39, 0, none⟩)), (5, .pointer (some ⟨b40, 0, none⟩)), (20, .pointer (some ⟨B0, 0, none⟩))] (by kernel_rfl) (by kernel_rfl) hg_3
  have hg_0 : G [false, false, false, false, false, false, false, false, false, false, false, false] [(0, .slice (some ⟨B0, 0, none⟩) 1 1), (1, .int .i64 w1), (4, .pointer (some ⟨b39, 0, none⟩)), (5, .pointer (some ⟨b40, 0, none⟩))] ([⟨b40, [.int .i64 0, .int .i64 0], 2⟩, ⟨b39, [.int .i64 0, .int .i64 0], 2⟩, ⟨B0, [.int .i64 m0_0, .int .i64 m0_1, .int .i64 m0_2, .int .i64 m0_3], 4⟩] : List Own) := by
    exact hqf 0 [0, 1, 4, 5, 19] _ _ _ [(0, .slice (some ⟨B0, 0, none⟩) 1 1), (1, .int .i64 w1), (4, .pointer (some ⟨b39, 0, none⟩)), (5, .pointer (some ⟨b40, 0, none⟩)), (19, .slice (some ⟨B0, 0, none⟩) 1 1)] (by kernel_rfl) (by kernel_rfl) hg_1
  exact hg_0

def plane_Sub.f (a0_X : Int) (a0_Y : Int) (b1_X : Int) (b1_Y : Int) : Option (Int × Int) := some (wr64 (a0_X - b1_X), wr64 (a0_Y - b1_Y))
theorem plane_Sub.ok {S : Seal} {a0_X : Int} {a0_Y : Int} {b1_X : Int} {b1_Y : Int} {r0_ : Int} {r1_ : Int} (e : plane_Sub.f a0_X a0_Y b1_X b1_Y = some (r0_, r1_)) :
    Cal Try.prog 67 [.agg #[.int .i64 a0_X, .int .i64 a0_Y], .agg #[.int .i64 b1_X, .int .i64 b1_Y]] [] S fun v H' S' => v = .agg #[.int .i64 r0_, .int .i64 r1_] ∧ H' = [] ∧ S' = S := by
  unfold plane_Sub.f at e
  refine cal_of (c := c67) (N := 16) Try.func67 rfl rfl (by kernel_rfl) (rs := [.cn 2 4]) (by kernel_rfl) (Nat.le_of_ble_eq_true rfl) ?_
  unfold c67
  refine w_seq ?_
  refine w_reg fun all => ?_
  refine t_a (.box rfl rfl rfl) fun b64 fb64 sb64 => ?_
  refine t_a (.box rfl rfl rfl) fun b65 fb65 sb65 => ?_
  refine t_a (.new rfl rfl) fun b66 fb66 sb66 => ?_
  refine t_keep [2, 3, 4] (σ' := [(2, .pointer (some ⟨b64, 0, none⟩)), (3, .pointer (some ⟨b65, 0, none⟩)), (4, .pointer (some ⟨b66, 0, none⟩))]) (by kernel_rfl) ?_
  refine t_end ?_
  show W _ _ _ _ _ _ _
  refine w_seq ?_
  refine w_reg fun all => ?_
  refine t_qz 1 [2, 3, 4, 5] (σ' := [(2, .pointer (some ⟨b64, 0, none⟩)), (3, .pointer (some ⟨b65, 0, none⟩)), (4, .pointer (some ⟨b66, 0, none⟩)), (5, .pointer (some ⟨b64, 0, none⟩))]) (by kernel_rfl) ?_
  refine t_v (.ld1 rfl rfl rfl (.at 2 rfl rfl)) ?_
  refine t_qz 1 [2, 3, 4, 6, 7] (σ' := [(2, .pointer (some ⟨b64, 0, none⟩)), (3, .pointer (some ⟨b65, 0, none⟩)), (4, .pointer (some ⟨b66, 0, none⟩)), (6, .int .i64 a0_X), (7, .pointer (some ⟨b65, 0, none⟩))]) (by kernel_rfl) ?_
  refine t_v (.ld1 rfl rfl rfl (.at 1 rfl rfl)) ?_
  refine t_qz 2 [3, 4, 9, 10] (σ' := [(3, .pointer (some ⟨b65, 0, none⟩)), (4, .pointer (some ⟨b66, 0, none⟩)), (9, .int .i64 (wr64 (a0_X - b1_X))), (10, .pointer (some ⟨b64, 1, none⟩))]) (by kernel_rfl) ?_
  refine t_v (.ld1 rfl rfl rfl (.at 2 rfl rfl)) ?_
  refine t_qz 1 [4, 9, 11, 12] (σ' := [(4, .pointer (some ⟨b66, 0, none⟩)), (9, .int .i64 (wr64 (a0_X - b1_X))), (11, .int .i64 a0_Y), (12, .pointer (some ⟨b65, 1, none⟩))]) (by kernel_rfl) ?_
  refine t_v (.ld1 rfl rfl rfl (.at 1 rfl rfl)) ?_
  refine t_qz 2 [4, 15] (σ' := [(4, .pointer (some ⟨b66, 0, none⟩)), (15, .agg #[.int .i64 (wr64 (a0_X - b1_X)), .int .i64 (wr64 (a0_Y - b1_Y))])]) (by kernel_rfl) ?_
  refine t_sti 0 (cs := [.int .i64 (wr64 (a0_X - b1_X)), .int .i64 (wr64 (a0_Y - b1_Y))]) rfl rfl rfl rfl rfl rfl rfl rfl rfl ?_
  refine t_keep [4] (σ' := [(4, .pointer (some ⟨b66, 0, none⟩))]) (by kernel_rfl) ?_
  refine t_end ?_
  show W _ _ _ _ _ _ _
  refine w_ret ?_
  simp only [Option.some.injEq, Prod.mk.injEq] at e
  obtain ⟨rfl, rfl⟩ := e
  exact ⟨[.agg #[.int .i64 (wr64 (a0_X - b1_X)), .int .i64 (wr64 (a0_Y - b1_Y))]], [], S, ⟨⟨_, _, _, rfl, .at 0 rfl rfl, rfl⟩, trivial⟩, VS.none, rfl, rfl, rfl⟩

def plane_Dot.f (a0_X : Int) (a0_Y : Int) (b1_X : Int) (b1_Y : Int) (p2_X : Int) (p2_Y : Int) : Option (Int) := (plane_Sub.f b1_X b1_Y a0_X a0_Y).bind fun (t64, t65) => ((plane_Sub.f p2_X p2_Y a0_X a0_Y).bind fun (t67, t68) => (some (wr64 ((wr64 (t64 * t67)) + (wr64 (t65 * t68))))))
theorem plane_Dot.ok {S : Seal} {a0_X : Int} {a0_Y : Int} {b1_X : Int} {b1_Y : Int} {p2_X : Int} {p2_Y : Int} {r0_ : Int} (e : plane_Dot.f a0_X a0_Y b1_X b1_Y p2_X p2_Y = some r0_) :
    Cal Try.prog 60 [.agg #[.int .i64 a0_X, .int .i64 a0_Y], .agg #[.int .i64 b1_X, .int .i64 b1_Y], .agg #[.int .i64 p2_X, .int .i64 p2_Y]] [] S fun v H' S' => v = .int .i64 r0_ ∧ H' = [] ∧ S' = S := by
  unfold plane_Dot.f at e
  refine cal_of (c := c60) (N := 26) Try.func60 rfl rfl (by kernel_rfl) (rs := [.t 6]) (by kernel_rfl) (Nat.le_of_ble_eq_true rfl) ?_
  unfold c60
  refine w_seq ?_
  refine w_reg fun all => ?_
  refine t_a (.box rfl rfl rfl) fun b61 fb61 sb61 => ?_
  refine t_a (.box rfl rfl rfl) fun b62 fb62 sb62 => ?_
  refine t_a (.box rfl rfl rfl) fun b63 fb63 sb63 => ?_
  refine t_qz 1 [3, 4, 5] (σ' := [(3, .pointer (some ⟨b61, 0, none⟩)), (4, .pointer (some ⟨b62, 0, none⟩)), (5, .pointer (some ⟨b63, 0, none⟩))]) (by kernel_rfl) ?_
  refine t_end ?_
  show W _ _ _ _ _ _ _
  refine w_seq ?_
  obtain ⟨⟨t64, t65⟩, h66, e⟩ := bind_of e
  try dsimp only at e
  obtain ⟨⟨t67, t68⟩, h69, e⟩ := bind_of e
  try dsimp only at e
  refine w_drwE mixed 8 [.v (.agg #[.int .i64 b1_X, .int .i64 b1_Y]), .v (.agg #[.int .i64 a0_X, .int .i64 a0_Y]), .v (.agg #[.int .i64 t64, .int .i64 t65]), .v (.agg #[.int .i64 p2_X, .int .i64 p2_Y]), .v (.agg #[.int .i64 a0_X, .int .i64 a0_Y]), .v (.agg #[.int .i64 t67, .int .i64 t68]), .a [.int .i64 0, .int .i64 0] ptrTo, .a [.int .i64 0, .int .i64 0] ptrTo] (by kernel_rfl) ?_ ?_
  · refine .cons (.ldn rfl rfl rfl (.at 1 rfl rfl)) ?_
    refine .cons (.ldn rfl rfl rfl (.at 2 rfl rfl)) ?_
    refine .cons (.call (vs := [.agg #[.int .i64 b1_X, .int .i64 b1_Y], .agg #[.int .i64 a0_X, .int .i64 a0_Y]]) rfl rfl (by kernel_rfl) (plane_Sub.ok h66)) ?_
    refine .cons (.ldn rfl rfl rfl (.at 0 rfl rfl)) ?_
    refine .cons (.ldn rfl rfl rfl (.at 2 rfl rfl)) ?_
    refine .cons (.call (vs := [.agg #[.int .i64 p2_X, .int .i64 p2_Y], .agg #[.int .i64 a0_X, .int .i64 a0_Y]]) rfl rfl (by kernel_rfl) (plane_Sub.ok h69)) ?_
    refine .cons (.new rfl rfl) ?_
    refine .cons (.new rfl rfl) ?_
    exact .nil
  refine fk_q 6 [11, 14] (σ' := [(11, .agg #[.int .i64 t64, .int .i64 t65]), (14, .agg #[.int .i64 t67, .int .i64 t68])]) t_more (by kernel_rfl) ?_
  refine fk_a fun b70 fb70 sb70 => ?_
  refine fk_a fun b71 fb71 sb71 => ?_
  refine fk_nil fun all => ?_
  refine t_sti 1 (cs := [.int .i64 t64, .int .i64 t65]) rfl rfl rfl rfl rfl rfl rfl rfl rfl ?_
  refine t_sti 0 (cs := [.int .i64 t67, .int .i64 t68]) rfl rfl rfl rfl rfl rfl rfl rfl rfl ?_
  refine t_keep [7, 8] (σ' := [(7, .pointer (some ⟨b70, 0, none⟩)), (8, .pointer (some ⟨b71, 0, none⟩))]) (by kernel_rfl) ?_
  refine t_end ?_
  show W _ _ _ _ _ _ _
  refine w_seq ?_
  refine w_reg fun all => ?_
  refine t_qz 1 [7, 8, 15] (σ' := [(7, .pointer (some ⟨b70, 0, none⟩)), (8, .pointer (some ⟨b71, 0, none⟩)), (15, .pointer (some ⟨b70, 0, none⟩))]) (by kernel_rfl) ?_
  refine t_v (.ld1 rfl rfl rfl (.at 1 rfl rfl)) ?_
  refine t_qz 1 [7, 8, 16, 17] (σ' := [(7, .pointer (some ⟨b70, 0, none⟩)), (8, .pointer (some ⟨b71, 0, none⟩)), (16, .int .i64 t64), (17, .pointer (some ⟨b71, 0, none⟩))]) (by kernel_rfl) ?_
  refine t_v (.ld1 rfl rfl rfl (.at 0 rfl rfl)) ?_
  refine t_qz 2 [8, 19, 20] (σ' := [(8, .pointer (some ⟨b71, 0, none⟩)), (19, .int .i64 (wr64 (t64 * t67))), (20, .pointer (some ⟨b70, 1, none⟩))]) (by kernel_rfl) ?_
  refine t_v (.ld1 rfl rfl rfl (.at 1 rfl rfl)) ?_
  refine t_qz 1 [19, 21, 22] (σ' := [(19, .int .i64 (wr64 (t64 * t67))), (21, .int .i64 t65), (22, .pointer (some ⟨b71, 1, none⟩))]) (by kernel_rfl) ?_
  refine t_v (.ld1 rfl rfl rfl (.at 0 rfl rfl)) ?_
  refine t_qz 3 [6] (σ' := [(6, .int .i64 (wr64 ((wr64 (t64 * t67)) + (wr64 (t65 * t68)))))]) (by kernel_rfl) ?_
  refine t_end ?_
  show W _ _ _ _ _ _ _
  refine w_ret ?_
  obtain rfl := Option.some.inj e
  exact ⟨[.int .i64 (wr64 ((wr64 (t64 * t67)) + (wr64 (t65 * t68))))], [], S, ⟨rfl, trivial⟩, VS.none, rfl, rfl, rfl⟩

def plane_Len2.f (a0_X : Int) (a0_Y : Int) (b1_X : Int) (b1_Y : Int) : Option (Int) := (plane_Dot.f a0_X a0_Y b1_X b1_Y b1_X b1_Y).bind fun t76 => (some t76)
theorem plane_Len2.ok {S : Seal} {a0_X : Int} {a0_Y : Int} {b1_X : Int} {b1_Y : Int} {r0_ : Int} (e : plane_Len2.f a0_X a0_Y b1_X b1_Y = some r0_) :
    Cal Try.prog 61 [.agg #[.int .i64 a0_X, .int .i64 a0_Y], .agg #[.int .i64 b1_X, .int .i64 b1_Y]] [] S fun v H' S' => v = .int .i64 r0_ ∧ H' = [] ∧ S' = S := by
  unfold plane_Len2.f at e
  refine cal_of (c := c61) (N := 9) Try.func61 rfl rfl (by kernel_rfl) (rs := [.t 4]) (by kernel_rfl) (Nat.le_of_ble_eq_true rfl) ?_
  unfold c61
  refine w_seq ?_
  refine w_reg fun all => ?_
  refine t_a (.box rfl rfl rfl) fun b74 fb74 sb74 => ?_
  refine t_a (.box rfl rfl rfl) fun b75 fb75 sb75 => ?_
  refine t_qz 1 [2, 3] (σ' := [(2, .pointer (some ⟨b74, 0, none⟩)), (3, .pointer (some ⟨b75, 0, none⟩))]) (by kernel_rfl) ?_
  refine t_end ?_
  show W _ _ _ _ _ _ _
  refine w_seq ?_
  refine w_reg fun all => ?_
  refine t_v (.ldn rfl rfl rfl (.at 1 rfl rfl)) ?_
  refine t_v (.ldn rfl rfl rfl (.at 0 rfl rfl)) ?_
  refine t_v (.ldn rfl rfl rfl (.at 0 rfl rfl)) ?_
  obtain ⟨t76, h77, e⟩ := bind_of e
  refine t_v (.call (vs := [.agg #[.int .i64 a0_X, .int .i64 a0_Y], .agg #[.int .i64 b1_X, .int .i64 b1_Y], .agg #[.int .i64 b1_X, .int .i64 b1_Y]]) rfl rfl (by kernel_rfl) (plane_Dot.ok h77)) ?_
  refine t_qz 1 [4] (σ' := [(4, .int .i64 t76)]) (by kernel_rfl) ?_
  refine t_end ?_
  show W _ _ _ _ _ _ _
  refine w_ret ?_
  obtain rfl := Option.some.inj e
  exact ⟨[.int .i64 t76], [], S, ⟨rfl, trivial⟩, VS.none, rfl, rfl, rfl⟩

def plane_within_1.f (n0 : Int) : Option (Int) := some (wru64 (mx n0 (wr64 (0 - n0))))
theorem plane_within_1.ok {S : Seal} {n0 : Int} {r0_ : Int} (e : plane_within_1.f n0 = some r0_) :
    Cal Try.prog 68 [.int .i64 n0] [] S fun v H' S' => v = .int .u64 r0_ ∧ H' = [] ∧ S' = S := by
  unfold plane_within_1.f at e
  refine cal_of (c := c68) (N := 8) Try.func68 rfl rfl (by kernel_rfl) (rs := [.t 2]) (by kernel_rfl) (Nat.le_of_ble_eq_true rfl) ?_
  unfold c68
  refine w_seq ?_
  refine w_reg fun all => ?_
  refine t_qz 1 [0] (σ' := [(0, .int .i64 n0)]) (by kernel_rfl) ?_
  refine t_end ?_
  show W _ _ _ _ _ _ _
  refine w_seq ?_
  refine w_reg fun all => ?_
  refine t_qz 6 [2] (σ' := [(2, .int .u64 (wru64 (mx n0 (wr64 (0 - n0)))))]) (by kernel_rfl) ?_
  refine t_end ?_
  show W _ _ _ _ _ _ _
  refine w_ret ?_
  obtain rfl := Option.some.inj e
  exact ⟨[.int .u64 (wru64 (mx n0 (wr64 (0 - n0))))], [], S, ⟨rfl, trivial⟩, VS.none, rfl, rfl, rfl⟩

def plane_within.f (a0 : Int) (b1 : Int) (c2 : Int) (d3 : Int) : Option (Bool) := (plane_within_1.f a0).bind fun t68 => ((plane_within_1.f b1).bind fun t70 => ((bits_Mul64.f t68 t70).bind fun (t72, t73) => ((plane_within_1.f c2).bind fun t75 => ((plane_within_1.f d3).bind fun t77 => ((bits_Mul64.f t75 t77).bind fun (t79, t80) => (if t72 < t79 then (some true) else (if t72 = t79 then (some (decide (t73 ≤ t80))) else (some false))))))))
theorem plane_within.ok {S : Seal} {a0 : Int} {b1 : Int} {c2 : Int} {d3 : Int} {r0_ : Bool} (e : plane_within.f a0 b1 c2 d3 = some r0_) :
    Cal Try.prog 62 [.int .i64 a0, .int .i64 b1, .int .i64 c2, .int .i64 d3] [] S fun v H' S' => v = .bool r0_ ∧ H' = [] ∧ S' = S := by
  unfold plane_within.f at e
  refine cal_of (c := c62) (N := 47) Try.func62 rfl rfl (by kernel_rfl) (rs := [.t 8]) (by kernel_rfl) (Nat.le_of_ble_eq_true rfl) ?_
  unfold c62
  refine w_seq ?_
  refine w_reg fun all => ?_
  refine t_qz 1 [0, 1, 2, 3] (σ' := [(0, .int .i64 a0), (1, .int .i64 b1), (2, .int .i64 c2), (3, .int .i64 d3)]) (by kernel_rfl) ?_
  refine t_end ?_
  show W _ _ _ _ _ _ _
  refine w_seq ?_
  refine w_reg fun all => ?_
  refine t_qz 1 [0, 1, 2, 3, 9] (σ' := [(0, .int .i64 a0), (1, .int .i64 b1), (2, .int .i64 c2), (3, .int .i64 d3), (9, .func (.func 68) #[] #[])]) (by kernel_rfl) ?_
  refine t_end ?_
  show W _ _ _ _ _ _ _
  refine w_seq ?_
  refine w_reg fun all => ?_
  obtain ⟨t68, h69, e⟩ := bind_of e
  refine t_qz 2 [1, 2, 3, 9, 15, 16] (σ' := [(1, .int .i64 b1), (2, .int .i64 c2), (3, .int .i64 d3), (9, .func (.func 68) #[] #[]), (15, .func (.func 68) #[] #[]), (16, .int .i64 a0)]) (by kernel_rfl) ?_
  refine t_v (.clor (vs := [.int .i64 a0]) (caps := #[]) (A := ([] : List Own)) (F0 := ([] : List Own)) rfl rfl rfl (by kernel_rfl) (by kernel_rfl) (sel_perm (is := []) (by kernel_rfl)) (plane_within_1.ok h69)) ?_
  obtain ⟨t70, h71, e⟩ := bind_of e
  refine t_qz 2 [2, 3, 9, 17, 18, 19] (σ' := [(2, .int .i64 c2), (3, .int .i64 d3), (9, .func (.func 68) #[] #[]), (17, .int .u64 t68), (18, .func (.func 68) #[] #[]), (19, .int .i64 b1)]) (by kernel_rfl) ?_
  refine t_v (.clor (vs := [.int .i64 b1]) (caps := #[]) (A := ([] : List Own)) (F0 := ([] : List Own)) rfl rfl rfl (by kernel_rfl) (by kernel_rfl) (sel_perm (is := []) (by kernel_rfl)) (plane_within_1.ok h71)) ?_
  obtain ⟨⟨t72, t73⟩, h74, e⟩ := bind_of e
  try dsimp only at e
  refine t_v (.call (vs := [.int .u64 t68, .int .u64 t70]) rfl rfl (by kernel_rfl) (bits_Mul64.ok h74)) ?_
  refine t_qz 5 [2, 3, 9, 10, 11] (σ' := [(2, .int .i64 c2), (3, .int .i64 d3), (9, .func (.func 68) #[] #[]), (10, .int .u64 t72), (11, .int .u64 t73)]) (by kernel_rfl) ?_
  refine t_end ?_
  show W _ _ _ _ _ _ _
  refine w_seq ?_
  refine w_reg fun all => ?_
  obtain ⟨t75, h76, e⟩ := bind_of e
  refine t_qz 2 [3, 9, 10, 11, 25, 26] (σ' := [(3, .int .i64 d3), (9, .func (.func 68) #[] #[]), (10, .int .u64 t72), (11, .int .u64 t73), (25, .func (.func 68) #[] #[]), (26, .int .i64 c2)]) (by kernel_rfl) ?_
  refine t_v (.clor (vs := [.int .i64 c2]) (caps := #[]) (A := ([] : List Own)) (F0 := ([] : List Own)) rfl rfl rfl (by kernel_rfl) (by kernel_rfl) (sel_perm (is := []) (by kernel_rfl)) (plane_within_1.ok h76)) ?_
  obtain ⟨t77, h78, e⟩ := bind_of e
  refine t_qz 2 [10, 11, 27, 28, 29] (σ' := [(10, .int .u64 t72), (11, .int .u64 t73), (27, .int .u64 t75), (28, .func (.func 68) #[] #[]), (29, .int .i64 d3)]) (by kernel_rfl) ?_
  refine t_v (.clor (vs := [.int .i64 d3]) (caps := #[]) (A := ([] : List Own)) (F0 := ([] : List Own)) rfl rfl rfl (by kernel_rfl) (by kernel_rfl) (sel_perm (is := []) (by kernel_rfl)) (plane_within_1.ok h78)) ?_
  obtain ⟨⟨t79, t80⟩, h81, e⟩ := bind_of e
  try dsimp only at e
  refine t_v (.call (vs := [.int .u64 t75, .int .u64 t77]) rfl rfl (by kernel_rfl) (bits_Mul64.ok h81)) ?_
  refine t_qz 5 [10, 11, 12, 13] (σ' := [(10, .int .u64 t72), (11, .int .u64 t73), (12, .int .u64 t79), (13, .int .u64 t80)]) (by kernel_rfl) ?_
  refine t_end ?_
  show W _ _ _ _ _ _ _
  refine w_seq ?_
  refine w_reg fun all => ?_
  by_cases c82 : t72 < t79
  · rw [if_pos c82] at e
    have c82b : (decide (t72 < t79)) = true := decide_eq_true c82
    refine t_qz 2 [10, 11, 12, 13, 34, 35] (σ' := [(10, .int .u64 t72), (11, .int .u64 t73), (12, .int .u64 t79), (13, .int .u64 t80), (34, .int .u64 t72), (35, .int .u64 t79)]) (by kernel_rfl) ?_
    refine t_v (dv_quiet rfl (congrArg (fun t => some (Value.bool t)) c82b)) ?_
    refine t_qz 11 [8] (σ' := [(8, .bool true)]) (by kernel_rfl) ?_
    refine t_end ?_
    show W _ _ _ _ _ _ _
    refine w_ret ?_
    obtain rfl := Option.some.inj e
    exact ⟨[.bool true], [], S, ⟨rfl, trivial⟩, VS.none, rfl, rfl, rfl⟩
  · rw [if_neg c82] at e
    have c82b : (decide (t72 < t79)) = false := decide_eq_false c82
    refine t_qz 2 [10, 11, 12, 13, 34, 35] (σ' := [(10, .int .u64 t72), (11, .int .u64 t73), (12, .int .u64 t79), (13, .int .u64 t80), (34, .int .u64 t72), (35, .int .u64 t79)]) (by kernel_rfl) ?_
    refine t_v (dv_quiet rfl (congrArg (fun t => some (Value.bool t)) c82b)) ?_
    by_cases c83 : t72 = t79
    · rw [if_pos c83] at e
      have c83b : (t72 == t79) = true := beq_iff_eq.mpr c83
      refine t_qz 3 [11, 13, 37, 38, 39] (σ' := [(11, .int .u64 t73), (13, .int .u64 t80), (37, .bool false), (38, .int .u64 t72), (39, .int .u64 t79)]) (by kernel_rfl) ?_
      refine t_v (dv_quiet rfl (congrArg (fun t => some (Value.bool t)) c83b)) ?_
      refine t_qz 7 [8] (σ' := [(8, .bool (decide (t73 ≤ t80)))]) (by kernel_rfl) ?_
      refine t_end ?_
      show W _ _ _ _ _ _ _
      refine w_ret ?_
      obtain rfl := Option.some.inj e
      exact ⟨[.bool (decide (t73 ≤ t80))], [], S, ⟨rfl, trivial⟩, VS.none, rfl, rfl, rfl⟩
    · rw [if_neg c83] at e
      have c83b : (t72 == t79) = false := beq_eq_false_iff_ne.mpr c83
      refine t_qz 3 [11, 13, 37, 38, 39] (σ' := [(11, .int .u64 t73), (13, .int .u64 t80), (37, .bool false), (38, .int .u64 t72), (39, .int .u64 t79)]) (by kernel_rfl) ?_
      refine t_v (dv_quiet rfl (congrArg (fun t => some (Value.bool t)) c83b)) ?_
      refine t_qz 7 [8] (σ' := [(8, .bool false)]) (by kernel_rfl) ?_
      refine t_end ?_
      show W _ _ _ _ _ _ _
      refine w_ret ?_
      obtain rfl := Option.some.inj e
      exact ⟨[.bool false], [], S, ⟨rfl, trivial⟩, VS.none, rfl, rfl, rfl⟩

def plane_Cross.f (a0_X : Int) (a0_Y : Int) (b1_X : Int) (b1_Y : Int) (p2_X : Int) (p2_Y : Int) : Option (Int) := (plane_Sub.f b1_X b1_Y a0_X a0_Y).bind fun (t78, t79) => ((plane_Sub.f p2_X p2_Y a0_X a0_Y).bind fun (t81, t82) => (some (wr64 ((wr64 (t78 * t82)) - (wr64 (t79 * t81))))))
theorem plane_Cross.ok {S : Seal} {a0_X : Int} {a0_Y : Int} {b1_X : Int} {b1_Y : Int} {p2_X : Int} {p2_Y : Int} {r0_ : Int} (e : plane_Cross.f a0_X a0_Y b1_X b1_Y p2_X p2_Y = some r0_) :
    Cal Try.prog 63 [.agg #[.int .i64 a0_X, .int .i64 a0_Y], .agg #[.int .i64 b1_X, .int .i64 b1_Y], .agg #[.int .i64 p2_X, .int .i64 p2_Y]] [] S fun v H' S' => v = .int .i64 r0_ ∧ H' = [] ∧ S' = S := by
  unfold plane_Cross.f at e
  refine cal_of (c := c63) (N := 26) Try.func63 rfl rfl (by kernel_rfl) (rs := [.t 6]) (by kernel_rfl) (Nat.le_of_ble_eq_true rfl) ?_
  unfold c63
  refine w_seq ?_
  refine w_reg fun all => ?_
  refine t_a (.box rfl rfl rfl) fun b75 fb75 sb75 => ?_
  refine t_a (.box rfl rfl rfl) fun b76 fb76 sb76 => ?_
  refine t_a (.box rfl rfl rfl) fun b77 fb77 sb77 => ?_
  refine t_qz 1 [3, 4, 5] (σ' := [(3, .pointer (some ⟨b75, 0, none⟩)), (4, .pointer (some ⟨b76, 0, none⟩)), (5, .pointer (some ⟨b77, 0, none⟩))]) (by kernel_rfl) ?_
  refine t_end ?_
  show W _ _ _ _ _ _ _
  refine w_seq ?_
  obtain ⟨⟨t78, t79⟩, h80, e⟩ := bind_of e
  try dsimp only at e
  obtain ⟨⟨t81, t82⟩, h83, e⟩ := bind_of e
  try dsimp only at e
  refine w_drwE mixed 8 [.v (.agg #[.int .i64 b1_X, .int .i64 b1_Y]), .v (.agg #[.int .i64 a0_X, .int .i64 a0_Y]), .v (.agg #[.int .i64 t78, .int .i64 t79]), .v (.agg #[.int .i64 p2_X, .int .i64 p2_Y]), .v (.agg #[.int .i64 a0_X, .int .i64 a0_Y]), .v (.agg #[.int .i64 t81, .int .i64 t82]), .a [.int .i64 0, .int .i64 0] ptrTo, .a [.int .i64 0, .int .i64 0] ptrTo] (by kernel_rfl) ?_ ?_
  · refine .cons (.ldn rfl rfl rfl (.at 1 rfl rfl)) ?_
    refine .cons (.ldn rfl rfl rfl (.at 2 rfl rfl)) ?_
    refine .cons (.call (vs := [.agg #[.int .i64 b1_X, .int .i64 b1_Y], .agg #[.int .i64 a0_X, .int .i64 a0_Y]]) rfl rfl (by kernel_rfl) (plane_Sub.ok h80)) ?_
    refine .cons (.ldn rfl rfl rfl (.at 0 rfl rfl)) ?_
    refine .cons (.ldn rfl rfl rfl (.at 2 rfl rfl)) ?_
    refine .cons (.call (vs := [.agg #[.int .i64 p2_X, .int .i64 p2_Y], .agg #[.int .i64 a0_X, .int .i64 a0_Y]]) rfl rfl (by kernel_rfl) (plane_Sub.ok h83)) ?_
    refine .cons (.new rfl rfl) ?_
    refine .cons (.new rfl rfl) ?_
    exact .nil
  refine fk_q 6 [11, 14] (σ' := [(11, .agg #[.int .i64 t78, .int .i64 t79]), (14, .agg #[.int .i64 t81, .int .i64 t82])]) t_more (by kernel_rfl) ?_
  refine fk_a fun b84 fb84 sb84 => ?_
  refine fk_a fun b85 fb85 sb85 => ?_
  refine fk_nil fun all => ?_
  refine t_sti 1 (cs := [.int .i64 t78, .int .i64 t79]) rfl rfl rfl rfl rfl rfl rfl rfl rfl ?_
  refine t_sti 0 (cs := [.int .i64 t81, .int .i64 t82]) rfl rfl rfl rfl rfl rfl rfl rfl rfl ?_
  refine t_keep [7, 8] (σ' := [(7, .pointer (some ⟨b84, 0, none⟩)), (8, .pointer (some ⟨b85, 0, none⟩))]) (by kernel_rfl) ?_
  refine t_end ?_
  show W _ _ _ _ _ _ _
  refine w_seq ?_
  refine w_reg fun all => ?_
  refine t_qz 1 [7, 8, 15] (σ' := [(7, .pointer (some ⟨b84, 0, none⟩)), (8, .pointer (some ⟨b85, 0, none⟩)), (15, .pointer (some ⟨b84, 0, none⟩))]) (by kernel_rfl) ?_
  refine t_v (.ld1 rfl rfl rfl (.at 1 rfl rfl)) ?_
  refine t_qz 1 [7, 8, 16, 17] (σ' := [(7, .pointer (some ⟨b84, 0, none⟩)), (8, .pointer (some ⟨b85, 0, none⟩)), (16, .int .i64 t78), (17, .pointer (some ⟨b85, 1, none⟩))]) (by kernel_rfl) ?_
  refine t_v (.ld1 rfl rfl rfl (.at 0 rfl rfl)) ?_
  refine t_qz 2 [8, 19, 20] (σ' := [(8, .pointer (some ⟨b85, 0, none⟩)), (19, .int .i64 (wr64 (t78 * t82))), (20, .pointer (some ⟨b84, 1, none⟩))]) (by kernel_rfl) ?_
  refine t_v (.ld1 rfl rfl rfl (.at 1 rfl rfl)) ?_
  refine t_qz 1 [19, 21, 22] (σ' := [(19, .int .i64 (wr64 (t78 * t82))), (21, .int .i64 t79), (22, .pointer (some ⟨b85, 0, none⟩))]) (by kernel_rfl) ?_
  refine t_v (.ld1 rfl rfl rfl (.at 0 rfl rfl)) ?_
  refine t_qz 3 [6] (σ' := [(6, .int .i64 (wr64 ((wr64 (t78 * t82)) - (wr64 (t79 * t81)))))]) (by kernel_rfl) ?_
  refine t_end ?_
  show W _ _ _ _ _ _ _
  refine w_ret ?_
  obtain rfl := Option.some.inj e
  exact ⟨[.int .i64 (wr64 ((wr64 (t78 * t82)) - (wr64 (t79 * t81))))], [], S, ⟨rfl, trivial⟩, VS.none, rfl, rfl, rfl⟩

def plane_Near.f (a0_X : Int) (a0_Y : Int) (b1_X : Int) (b1_Y : Int) (p2_X : Int) (p2_Y : Int) (w3 : Int) : Option (Bool) := (plane_Dot.f a0_X a0_Y b1_X b1_Y p2_X p2_Y).bind fun t61 => ((plane_Len2.f a0_X a0_Y b1_X b1_Y).bind fun t63 => (if t61 ≤ 0 then ((plane_Len2.f a0_X a0_Y p2_X p2_Y).bind fun t66 => ((plane_within.f 4 t66 w3 w3).bind fun t68 => (some t68))) else (if t61 ≥ t63 then ((plane_Len2.f b1_X b1_Y p2_X p2_Y).bind fun t71 => ((plane_within.f 4 t71 w3 w3).bind fun t73 => (some t73))) else ((plane_Cross.f a0_X a0_Y b1_X b1_Y p2_X p2_Y).bind fun t86 => ((plane_within.f (wr64 (2 * t86)) (wr64 (2 * t86)) (wr64 (w3 * w3)) t63).bind fun t88 => (some t88))))))
theorem plane_Near.ok {S : Seal} {a0_X : Int} {a0_Y : Int} {b1_X : Int} {b1_Y : Int} {p2_X : Int} {p2_Y : Int} {w3 : Int} {r0_ : Bool} (e : plane_Near.f a0_X a0_Y b1_X b1_Y p2_X p2_Y w3 = some r0_) :
    Cal Try.prog 41 [.agg #[.int .i64 a0_X, .int .i64 a0_Y], .agg #[.int .i64 b1_X, .int .i64 b1_Y], .agg #[.int .i64 p2_X, .int .i64 p2_Y], .int .i64 w3] [] S fun v H' S' => v = .bool r0_ ∧ H' = [] ∧ S' = S := by
  unfold plane_Near.f at e
  refine cal_of (c := c41) (N := 50) Try.func41 rfl rfl (by kernel_rfl) (rs := [.t 8]) (by kernel_rfl) (Nat.le_of_ble_eq_true rfl) ?_
  unfold c41
  refine w_seq ?_
  refine w_reg fun all => ?_
  refine t_a (.box rfl rfl rfl) fun b58 fb58 sb58 => ?_
  refine t_a (.box rfl rfl rfl) fun b59 fb59 sb59 => ?_
  refine t_a (.box rfl rfl rfl) fun b60 fb60 sb60 => ?_
  refine t_qz 1 [3, 4, 5, 6] (σ' := [(3, .int .i64 w3), (4, .pointer (some ⟨b58, 0, none⟩)), (5, .pointer (some ⟨b59, 0, none⟩)), (6, .pointer (some ⟨b60, 0, none⟩))]) (by kernel_rfl) ?_
  refine t_end ?_
  show W _ _ _ _ _ _ _
  refine w_seq ?_
  obtain ⟨t61, h62, e⟩ := bind_of e
  obtain ⟨t63, h64, e⟩ := bind_of e
  refine w_drwE mixed 9 [.v (.agg #[.int .i64 a0_X, .int .i64 a0_Y]), .v (.agg #[.int .i64 b1_X, .int .i64 b1_Y]), .v (.agg #[.int .i64 p2_X, .int .i64 p2_Y]), .v (.int .i64 t61), .v (.agg #[.int .i64 a0_X, .int .i64 a0_Y]), .v (.agg #[.int .i64 b1_X, .int .i64 b1_Y]), .v (.int .i64 t63), .v (.int .i64 t61), .v (.int .i64 t63)] (by kernel_rfl) ?_ ?_
  · refine .cons (.ldn rfl rfl rfl (.at 2 rfl rfl)) ?_
    refine .cons (.ldn rfl rfl rfl (.at 1 rfl rfl)) ?_
    refine .cons (.ldn rfl rfl rfl (.at 0 rfl rfl)) ?_
    refine .cons (.call (vs := [.agg #[.int .i64 a0_X, .int .i64 a0_Y], .agg #[.int .i64 b1_X, .int .i64 b1_Y], .agg #[.int .i64 p2_X, .int .i64 p2_Y]]) rfl rfl (by kernel_rfl) (plane_Dot.ok h62)) ?_
    refine .cons (.ldn rfl rfl rfl (.at 2 rfl rfl)) ?_
    refine .cons (.ldn rfl rfl rfl (.at 1 rfl rfl)) ?_
    refine .cons (.call (vs := [.agg #[.int .i64 a0_X, .int .i64 a0_Y], .agg #[.int .i64 b1_X, .int .i64 b1_Y]]) rfl rfl (by kernel_rfl) (plane_Len2.ok h64)) ?_
    refine DI.sq 2 (by kernel_rfl) rfl ?_
    exact .nil
  refine fk_q 9 [3, 4, 5, 6, 9, 10] (σ' := [(3, .int .i64 w3), (4, .pointer (some ⟨b58, 0, none⟩)), (5, .pointer (some ⟨b59, 0, none⟩)), (6, .pointer (some ⟨b60, 0, none⟩)), (9, .int .i64 t61), (10, .int .i64 t63)]) t_more (by kernel_rfl) ?_
  refine fk_nil fun all => ?_
  refine t_keep [3, 4, 5, 6, 9, 10] (σ' := [(3, .int .i64 w3), (4, .pointer (some ⟨b58, 0, none⟩)), (5, .pointer (some ⟨b59, 0, none⟩)), (6, .pointer (some ⟨b60, 0, none⟩)), (9, .int .i64 t61), (10, .int .i64 t63)]) (by kernel_rfl) ?_
  refine t_end ?_
  show W _ _ _ _ _ _ _
  refine w_seq ?_
  refine w_block ?_
  refine w_seq ?_
  refine w_reg fun all => ?_
  by_cases c65 : t61 ≤ 0
  · rw [if_pos c65] at e
    have c65b : (decide (t61 ≤ 0)) = true := decide_eq_true c65
    refine t_qz 1 [3, 4, 5, 6, 9, 10, 20] (σ' := [(3, .int .i64 w3), (4, .pointer (some ⟨b58, 0, none⟩)), (5, .pointer (some ⟨b59, 0, none⟩)), (6, .pointer (some ⟨b60, 0, none⟩)), (9, .int .i64 t61), (10, .int .i64 t63), (20, .int .i64 t61)]) (by kernel_rfl) ?_
    refine t_v (dv_quiet rfl (congrArg (fun t => some (Value.bool t)) c65b)) ?_
    refine t_qz 1 [3, 4, 5, 6, 9, 10, 19] (σ' := [(3, .int .i64 w3), (4, .pointer (some ⟨b58, 0, none⟩)), (5, .pointer (some ⟨b59, 0, none⟩)), (6, .pointer (some ⟨b60, 0, none⟩)), (9, .int .i64 t61), (10, .int .i64 t63), (19, .bool true)]) (by kernel_rfl) ?_
    refine t_end ?_
    show W _ _ _ _ _ _ _
    refine w_cond rfl (fun _ => ?_) (fun c_ => by cases c_)
    show W _ _ _ _ _ _ _
    refine w_seq ?_
    refine w_reg fun all => ?_
    refine t_v (.ldn rfl rfl rfl (.at 2 rfl rfl)) ?_
    refine t_v (.ldn rfl rfl rfl (.at 0 rfl rfl)) ?_
    obtain ⟨t66, h67, e⟩ := bind_of e
    refine t_v (.call (vs := [.agg #[.int .i64 a0_X, .int .i64 a0_Y], .agg #[.int .i64 p2_X, .int .i64 p2_Y]]) rfl rfl (by kernel_rfl) (plane_Len2.ok h67)) ?_
    obtain ⟨t68, h69, e⟩ := bind_of e
    refine t_qz 2 [24, 25, 26] (σ' := [(24, .int .i64 t66), (25, .int .i64 w3), (26, .int .i64 w3)]) (by kernel_rfl) ?_
    refine t_v (.call (vs := [.int .i64 4, .int .i64 t66, .int .i64 w3, .int .i64 w3]) rfl rfl (by kernel_rfl) (plane_within.ok h69)) ?_
    refine t_qz 1 [8] (σ' := [(8, .bool t68)]) (by kernel_rfl) ?_
    refine t_end ?_
    show W _ _ _ _ _ _ _
    refine w_ret ?_
    obtain rfl := Option.some.inj e
    exact ⟨[.bool t68], [], S, ⟨rfl, trivial⟩, VS.none, rfl, rfl, rfl⟩
  · rw [if_neg c65] at e
    have c65b : (decide (t61 ≤ 0)) = false := decide_eq_false c65
    refine t_qz 1 [3, 4, 5, 6, 9, 10, 20] (σ' := [(3, .int .i64 w3), (4, .pointer (some ⟨b58, 0, none⟩)), (5, .pointer (some ⟨b59, 0, none⟩)), (6, .pointer (some ⟨b60, 0, none⟩)), (9, .int .i64 t61), (10, .int .i64 t63), (20, .int .i64 t61)]) (by kernel_rfl) ?_
    refine t_v (dv_quiet rfl (congrArg (fun t => some (Value.bool t)) c65b)) ?_
    refine t_qz 1 [3, 4, 5, 6, 9, 10, 19] (σ' := [(3, .int .i64 w3), (4, .pointer (some ⟨b58, 0, none⟩)), (5, .pointer (some ⟨b59, 0, none⟩)), (6, .pointer (some ⟨b60, 0, none⟩)), (9, .int .i64 t61), (10, .int .i64 t63), (19, .bool false)]) (by kernel_rfl) ?_
    refine t_end ?_
    show W _ _ _ _ _ _ _
    refine w_cond rfl (fun c_ => by cases c_) (fun _ => ?_)
    show W _ _ _ _ _ _ _
    refine w_seq ?_
    refine w_reg fun all => ?_
    by_cases c70 : t61 ≥ t63
    · rw [if_pos c70] at e
      have c70b : (decide (t61 ≥ t63)) = true := decide_eq_true c70
      refine t_qz 2 [3, 4, 5, 6, 10, 29, 30] (σ' := [(3, .int .i64 w3), (4, .pointer (some ⟨b58, 0, none⟩)), (5, .pointer (some ⟨b59, 0, none⟩)), (6, .pointer (some ⟨b60, 0, none⟩)), (10, .int .i64 t63), (29, .int .i64 t61), (30, .int .i64 t63)]) (by kernel_rfl) ?_
      refine t_v (dv_quiet rfl (congrArg (fun t => some (Value.bool t)) c70b)) ?_
      refine t_qz 1 [3, 4, 5, 6, 10, 28] (σ' := [(3, .int .i64 w3), (4, .pointer (some ⟨b58, 0, none⟩)), (5, .pointer (some ⟨b59, 0, none⟩)), (6, .pointer (some ⟨b60, 0, none⟩)), (10, .int .i64 t63), (28, .bool true)]) (by kernel_rfl) ?_
      refine t_end ?_
      show W _ _ _ _ _ _ _
      refine w_cond rfl (fun _ => ?_) (fun c_ => by cases c_)
      show W _ _ _ _ _ _ _
      refine w_seq ?_
      refine w_reg fun all => ?_
      refine t_v (.ldn rfl rfl rfl (.at 1 rfl rfl)) ?_
      refine t_v (.ldn rfl rfl rfl (.at 0 rfl rfl)) ?_
      obtain ⟨t71, h72, e⟩ := bind_of e
      refine t_v (.call (vs := [.agg #[.int .i64 b1_X, .int .i64 b1_Y], .agg #[.int .i64 p2_X, .int .i64 p2_Y]]) rfl rfl (by kernel_rfl) (plane_Len2.ok h72)) ?_
      obtain ⟨t73, h74, e⟩ := bind_of e
      refine t_qz 2 [34, 35, 36] (σ' := [(34, .int .i64 t71), (35, .int .i64 w3), (36, .int .i64 w3)]) (by kernel_rfl) ?_
      refine t_v (.call (vs := [.int .i64 4, .int .i64 t71, .int .i64 w3, .int .i64 w3]) rfl rfl (by kernel_rfl) (plane_within.ok h74)) ?_
      refine t_qz 1 [8] (σ' := [(8, .bool t73)]) (by kernel_rfl) ?_
      refine t_end ?_
      show W _ _ _ _ _ _ _
      refine w_ret ?_
      obtain rfl := Option.some.inj e
      exact ⟨[.bool t73], [], S, ⟨rfl, trivial⟩, VS.none, rfl, rfl, rfl⟩
    · rw [if_neg c70] at e
      have c70b : (decide (t61 ≥ t63)) = false := decide_eq_false c70
      refine t_qz 2 [3, 4, 5, 6, 10, 29, 30] (σ' := [(3, .int .i64 w3), (4, .pointer (some ⟨b58, 0, none⟩)), (5, .pointer (some ⟨b59, 0, none⟩)), (6, .pointer (some ⟨b60, 0, none⟩)), (10, .int .i64 t63), (29, .int .i64 t61), (30, .int .i64 t63)]) (by kernel_rfl) ?_
      refine t_v (dv_quiet rfl (congrArg (fun t => some (Value.bool t)) c70b)) ?_
      refine t_qz 1 [3, 4, 5, 6, 10, 28] (σ' := [(3, .int .i64 w3), (4, .pointer (some ⟨b58, 0, none⟩)), (5, .pointer (some ⟨b59, 0, none⟩)), (6, .pointer (some ⟨b60, 0, none⟩)), (10, .int .i64 t63), (28, .bool false)]) (by kernel_rfl) ?_
      refine t_end ?_
      show W _ _ _ _ _ _ _
      refine w_cond rfl (fun c_ => by cases c_) (fun _ => ?_)
      show W _ _ _ _ _ _ _
      refine w_skip ?_
      show W _ _ _ _ _ _ _
      refine w_seq ?_
      refine w_reg fun all => ?_
      refine t_v (.ldn rfl rfl rfl (.at 2 rfl rfl)) ?_
      refine t_v (.ldn rfl rfl rfl (.at 1 rfl rfl)) ?_
      refine t_v (.ldn rfl rfl rfl (.at 0 rfl rfl)) ?_
      obtain ⟨t86, h87, e⟩ := bind_of e
      refine t_v (.call (vs := [.agg #[.int .i64 a0_X, .int .i64 a0_Y], .agg #[.int .i64 b1_X, .int .i64 b1_Y], .agg #[.int .i64 p2_X, .int .i64 p2_Y]]) rfl rfl (by kernel_rfl) (plane_Cross.ok h87)) ?_
      refine t_qz 2 [3, 10, 11] (σ' := [(3, .int .i64 w3), (10, .int .i64 t63), (11, .int .i64 (wr64 (2 * t86)))]) (by kernel_rfl) ?_
      refine t_end ?_
      show W _ _ _ _ _ _ _
      refine w_seq ?_
      refine w_reg fun all => ?_
      obtain ⟨t88, h89, e⟩ := bind_of e
      refine t_qz 6 [43, 44, 47, 48] (σ' := [(43, .int .i64 (wr64 (2 * t86))), (44, .int .i64 (wr64 (2 * t86))), (47, .int .i64 (wr64 (w3 * w3))), (48, .int .i64 t63)]) (by kernel_rfl) ?_
      refine t_v (.call (vs := [.int .i64 (wr64 (2 * t86)), .int .i64 (wr64 (2 * t86)), .int .i64 (wr64 (w3 * w3)), .int .i64 t63]) rfl rfl (by kernel_rfl) (plane_within.ok h89)) ?_
      refine t_qz 1 [8] (σ' := [(8, .bool t88)]) (by kernel_rfl) ?_
      refine t_end ?_
      show W _ _ _ _ _ _ _
      refine w_ret ?_
      obtain rfl := Option.some.inj e
      exact ⟨[.bool t88], [], S, ⟨rfl, trivial⟩, VS.none, rfl, rfl, rfl⟩

def stroke_Near_1_v2.f (e0_0 : Int) (e0_1 : Int) (e0_2 : Int) (e0_3 : Int) (m0_0 : Int) (m0_1 : Int) (m1_0 : Int) : Option (Bool) := (plane_Near.f e0_0 e0_1 e0_2 e0_3 m0_0 m0_1 m1_0).bind fun t90 => (some t90)
theorem stroke_Near_1_v2.ok {S : Seal} {B0 B1 : Nat} {e0_0 : Int} {e0_1 : Int} {e0_2 : Int} {e0_3 : Int} {m0_0 : Int} {m0_1 : Int} {m1_0 : Int} {r0_ : Bool} (e : stroke_Near_1_v2.f e0_0 e0_1 e0_2 e0_3 m0_0 m0_1 m1_0 = some r0_) :
    Cal Try.prog 40 [.agg #[.int .i64 e0_0, .int .i64 e0_1, .int .i64 e0_2, .int .i64 e0_3], .pointer (some ⟨B0, 0, none⟩), .pointer (some ⟨B1, 0, none⟩)] ([⟨B0, [.int .i64 m0_0, .int .i64 m0_1], 2⟩, ⟨B1, [.int .i64 m1_0], 1⟩] : List Own) S fun v H' S' => v = .bool r0_ ∧ H' = ([⟨B0, [.int .i64 m0_0, .int .i64 m0_1], 2⟩, ⟨B1, [.int .i64 m1_0], 1⟩] : List Own) ∧ S' = S := by
  unfold stroke_Near_1_v2.f at e
  refine cal_of (c := c40) (N := 12) Try.func40 rfl rfl (by kernel_rfl) (rs := [.t 4]) (by kernel_rfl) (Nat.le_of_ble_eq_true rfl) ?_
  unfold c40
  refine w_seq ?_
  refine w_reg fun all => ?_
  refine t_a (.box rfl rfl rfl) fun b57 fb57 sb57 => ?_
  refine t_qz 1 [1, 2, 3] (σ' := [(1, .pointer (some ⟨B0, 0, none⟩)), (2, .pointer (some ⟨B1, 0, none⟩)), (3, .pointer (some ⟨b57, 0, none⟩))]) (by kernel_rfl) ?_
  refine t_end ?_
  show W _ _ _ _ _ _ _
  refine w_seq ?_
  refine w_reg fun all => ?_
  refine t_qz 1 [1, 2, 3, 5] (σ' := [(1, .pointer (some ⟨B0, 0, none⟩)), (2, .pointer (some ⟨B1, 0, none⟩)), (3, .pointer (some ⟨b57, 0, none⟩)), (5, .pointer (some ⟨b57, 0, none⟩))]) (by kernel_rfl) ?_
  refine t_v (.ldn rfl rfl rfl (.at 0 rfl rfl)) ?_
  refine t_qz 1 [1, 2, 6, 7] (σ' := [(1, .pointer (some ⟨B0, 0, none⟩)), (2, .pointer (some ⟨B1, 0, none⟩)), (6, .agg #[.int .i64 e0_0, .int .i64 e0_1]), (7, .pointer (some ⟨b57, 2, none⟩))]) (by kernel_rfl) ?_
  refine t_v (.ldn rfl rfl rfl (.at 0 rfl rfl)) ?_
  refine t_v (.ldn rfl rfl rfl (.at 1 rfl rfl)) ?_
  refine t_v (.ld1 rfl rfl rfl (.at 2 rfl rfl)) ?_
  obtain ⟨t90, h91, e⟩ := bind_of e
  refine t_v (.call (vs := [.agg #[.int .i64 e0_0, .int .i64 e0_1], .agg #[.int .i64 e0_2, .int .i64 e0_3], .agg #[.int .i64 m0_0, .int .i64 m0_1], .int .i64 m1_0]) rfl rfl (by kernel_rfl) (plane_Near.ok h91)) ?_
  refine t_qz 1 [4] (σ' := [(4, .bool t90)]) (by kernel_rfl) ?_
  refine t_end ?_
  show W _ _ _ _ _ _ _
  refine w_ret ?_
  obtain rfl := Option.some.inj e
  exact ⟨[.bool t90], ([⟨B0, [.int .i64 m0_0, .int .i64 m0_1], 2⟩, ⟨B1, [.int .i64 m1_0], 1⟩] : List Own), S, ⟨rfl, trivial⟩, VS.sel [1, 1] (by kernel_rfl), rfl, rfl, rfl⟩

def api_Edge_v6.f (m0_0 : Int) (m0_1 : Int) (m0_2 : Int) (m0_3 : Int) (m1_0 : Int) (m1_1 : Int) (m2_0 : Int) : Option (Int) := (stroke_Near_1_v2.f m0_0 m0_1 m0_2 m0_3 m1_0 m1_1 m2_0).bind fun t92 => (if t92 = true then (some 0) else (some (-1)))
theorem api_Edge_v6.ok {S : Seal} {B0 B1 B2 : Nat} {m0_0 : Int} {m0_1 : Int} {m0_2 : Int} {m0_3 : Int} {m1_0 : Int} {m1_1 : Int} {m2_0 : Int} {r0_ : Int} (e : api_Edge_v6.f m0_0 m0_1 m0_2 m0_3 m1_0 m1_1 m2_0 = some r0_) :
    Cal Try.prog 59 [.slice (some ⟨B0, 0, none⟩) 1 1, .func (.func 40) #[] #[.pointer (some ⟨B1, 0, none⟩), .pointer (some ⟨B2, 0, none⟩)]] ([⟨B0, [.int .i64 m0_0, .int .i64 m0_1, .int .i64 m0_2, .int .i64 m0_3], 4⟩, ⟨B1, [.int .i64 m1_0, .int .i64 m1_1], 2⟩, ⟨B2, [.int .i64 m2_0], 1⟩] : List Own) S fun v H' S' => v = .int .i64 r0_ ∧ H' = ([⟨B0, [.int .i64 m0_0, .int .i64 m0_1, .int .i64 m0_2, .int .i64 m0_3], 4⟩, ⟨B1, [.int .i64 m1_0, .int .i64 m1_1], 2⟩, ⟨B2, [.int .i64 m2_0], 1⟩] : List Own) ∧ S' = S := by
  unfold api_Edge_v6.f at e
  refine cal_of (c := c59) (N := 19) Try.func59 rfl rfl (by kernel_rfl) (rs := [.t 4]) (by kernel_rfl) (Nat.le_of_ble_eq_true rfl) ?_
  unfold c59
  refine w_seq ?_
  refine w_reg fun all => ?_
  refine t_qz 1 [0, 1] (σ' := [(0, .slice (some ⟨B0, 0, none⟩) 1 1), (1, .func (.func 40) #[] #[.pointer (some ⟨B1, 0, none⟩), .pointer (some ⟨B2, 0, none⟩)])]) (by kernel_rfl) ?_
  refine t_end ?_
  show W _ _ _ _ _ _ _
  refine w_seq ?_
  refine w_seq ?_
  refine w_reg fun all => ?_
  refine t_qz 3 [0, 1, 7, 8] (σ' := [(0, .slice (some ⟨B0, 0, none⟩) 1 1), (1, .func (.func 40) #[] #[.pointer (some ⟨B1, 0, none⟩), .pointer (some ⟨B2, 0, none⟩)]), (7, .int .i64 1), (8, .int .i64 0)]) (by kernel_rfl) ?_
  refine t_end ?_
  show W _ _ _ _ _ _ _
  refine w_block ?_
  refine w_lun 10 ?_
  refine wl_step ?_
  refine w_seq ?_
  refine w_reg fun all => ?_
  refine t_qz 1 [0, 1, 7, 8, 9] (σ' := [(0, .slice (some ⟨B0, 0, none⟩) 1 1), (1, .func (.func 40) #[] #[.pointer (some ⟨B1, 0, none⟩), .pointer (some ⟨B2, 0, none⟩)]), (7, .int .i64 1), (8, .int .i64 0), (9, .bool true)]) (by kernel_rfl) ?_
  refine t_end ?_
  show W _ _ _ _ _ _ _
  refine w_seq ?_
  refine w_cond rfl (fun _ => ?_) (fun c_ => by cases c_)
  show W _ _ _ _ _ _ _
  refine w_skip ?_
  show W _ _ _ _ _ _ _
  refine w_seq ?_
  refine w_block ?_
  refine w_seq ?_
  refine w_reg fun all => ?_
  refine t_qz 2 [0, 1, 5, 7, 8] (σ' := [(0, .slice (some ⟨B0, 0, none⟩) 1 1), (1, .func (.func 40) #[] #[.pointer (some ⟨B1, 0, none⟩), .pointer (some ⟨B2, 0, none⟩)]), (5, .int .i64 0), (7, .int .i64 1), (8, .int .i64 0)]) (by kernel_rfl) ?_
  refine t_end ?_
  show W _ _ _ _ _ _ _
  refine w_seq ?_
  refine w_reg fun all => ?_
  refine t_qz 4 [0, 1, 5, 7, 8, 11, 14] (σ' := [(0, .slice (some ⟨B0, 0, none⟩) 1 1), (1, .func (.func 40) #[] #[.pointer (some ⟨B1, 0, none⟩), .pointer (some ⟨B2, 0, none⟩)]), (5, .int .i64 0), (7, .int .i64 1), (8, .int .i64 0), (11, .func (.func 40) #[] #[.pointer (some ⟨B1, 0, none⟩), .pointer (some ⟨B2, 0, none⟩)]), (14, .pointer (some ⟨B0, 0, none⟩))]) (by kernel_rfl) ?_
  refine t_v (.ldn rfl rfl rfl (.at 0 rfl rfl)) ?_
  obtain ⟨t92, h93, e⟩ := bind_of e
  cases t92 with
  | true =>
    rw [if_pos rfl] at e
    refine t_v (.clor (vs := [.agg #[.int .i64 m0_0, .int .i64 m0_1, .int .i64 m0_2, .int .i64 m0_3]]) (caps := #[.pointer (some ⟨B1, 0, none⟩), .pointer (some ⟨B2, 0, none⟩)]) (A := ([⟨B1, [.int .i64 m1_0, .int .i64 m1_1], 2⟩, ⟨B2, [.int .i64 m2_0], 1⟩] : List Own)) (F0 := ([⟨B0, [.int .i64 m0_0, .int .i64 m0_1, .int .i64 m0_2, .int .i64 m0_3], 4⟩] : List Own)) rfl rfl rfl (by kernel_rfl) (by kernel_rfl) (sel_perm (is := [1, 1]) (by kernel_rfl)) (stroke_Near_1_v2.ok h93)) ?_
    refine t_keep [0, 1, 5, 7, 8, 16] (σ' := [(0, .slice (some ⟨B0, 0, none⟩) 1 1), (1, .func (.func 40) #[] #[.pointer (some ⟨B1, 0, none⟩), .pointer (some ⟨B2, 0, none⟩)]), (5, .int .i64 0), (7, .int .i64 1), (8, .int .i64 0), (16, .bool true)]) (by kernel_rfl) ?_
    refine t_end ?_
    show W _ _ _ _ _ _ _
    refine w_cond rfl (fun _ => ?_) (fun c_ => by cases c_)
    show W _ _ _ _ _ _ _
    refine w_seq ?_
    refine w_reg fun all => ?_
    refine t_qz 2 [4] (σ' := [(4, .int .i64 0)]) (by kernel_rfl) ?_
    refine t_end ?_
    show W _ _ _ _ _ _ _
    refine w_ret ?_
    obtain rfl := Option.some.inj e
    exact ⟨[.int .i64 0], ([⟨B0, [.int .i64 m0_0, .int .i64 m0_1, .int .i64 m0_2, .int .i64 m0_3], 4⟩, ⟨B1, [.int .i64 m1_0, .int .i64 m1_1], 2⟩, ⟨B2, [.int .i64 m2_0], 1⟩] : List Own), S, ⟨rfl, trivial⟩, VS.sel [0, 0, 0] (by kernel_rfl), rfl, rfl, rfl⟩
  | false =>
    rw [if_neg (by decide)] at e
    refine t_v (.clor (vs := [.agg #[.int .i64 m0_0, .int .i64 m0_1, .int .i64 m0_2, .int .i64 m0_3]]) (caps := #[.pointer (some ⟨B1, 0, none⟩), .pointer (some ⟨B2, 0, none⟩)]) (A := ([⟨B1, [.int .i64 m1_0, .int .i64 m1_1], 2⟩, ⟨B2, [.int .i64 m2_0], 1⟩] : List Own)) (F0 := ([⟨B0, [.int .i64 m0_0, .int .i64 m0_1, .int .i64 m0_2, .int .i64 m0_3], 4⟩] : List Own)) rfl rfl rfl (by kernel_rfl) (by kernel_rfl) (sel_perm (is := [1, 1]) (by kernel_rfl)) (stroke_Near_1_v2.ok h93)) ?_
    refine t_keep [0, 1, 5, 7, 8, 16] (σ' := [(0, .slice (some ⟨B0, 0, none⟩) 1 1), (1, .func (.func 40) #[] #[.pointer (some ⟨B1, 0, none⟩), .pointer (some ⟨B2, 0, none⟩)]), (5, .int .i64 0), (7, .int .i64 1), (8, .int .i64 0), (16, .bool false)]) (by kernel_rfl) ?_
    refine t_end ?_
    show W _ _ _ _ _ _ _
    refine w_cond rfl (fun c_ => by cases c_) (fun _ => ?_)
    show W _ _ _ _ _ _ _
    refine w_skip ?_
    show W _ _ _ _ _ _ _
    refine w_reg fun all => ?_
    refine t_qz 2 [0, 1, 7, 8] (σ' := [(0, .slice (some ⟨B0, 0, none⟩) 1 1), (1, .func (.func 40) #[] #[.pointer (some ⟨B1, 0, none⟩), .pointer (some ⟨B2, 0, none⟩)]), (7, .int .i64 1), (8, .int .i64 1)]) (by kernel_rfl) ?_
    refine t_end ?_
    show WL _ _ _ _ _ _ _ _
    refine wl_step ?_
    refine w_seq ?_
    refine w_reg fun all => ?_
    refine t_qz 1 [0, 1, 7, 8, 9] (σ' := [(0, .slice (some ⟨B0, 0, none⟩) 1 1), (1, .func (.func 40) #[] #[.pointer (some ⟨B1, 0, none⟩), .pointer (some ⟨B2, 0, none⟩)]), (7, .int .i64 1), (8, .int .i64 1), (9, .bool false)]) (by kernel_rfl) ?_
    refine t_end ?_
    show W _ _ _ _ _ _ _
    refine w_seq ?_
    refine w_cond rfl (fun c_ => by cases c_) (fun _ => ?_)
    show W _ _ _ _ _ _ _
    refine w_exit ?_
    show W _ _ _ _ _ _ _
    refine w_seq ?_
    refine w_reg fun all => ?_
    refine t_qz 1 [4] (σ' := [(4, .int .i64 (-1))]) (by kernel_rfl) ?_
    refine t_end ?_
    show W _ _ _ _ _ _ _
    refine w_ret ?_
    obtain rfl := Option.some.inj e
    exact ⟨[.int .i64 (-1)], ([⟨B0, [.int .i64 m0_0, .int .i64 m0_1, .int .i64 m0_2, .int .i64 m0_3], 4⟩, ⟨B1, [.int .i64 m1_0, .int .i64 m1_1], 2⟩, ⟨B2, [.int .i64 m2_0], 1⟩] : List Own), S, ⟨rfl, trivial⟩, VS.sel [0, 0, 0] (by kernel_rfl), rfl, rfl, rfl⟩

def api_Edge_v5.f (m0_0 : Int) (m0_1 : Int) (m0_2 : Int) (m0_3 : Int) (m1_0 : Int) (m1_1 : Int) (m2_0 : Int) : Option (Bool) := (api_Edge_v6.f m0_0 m0_1 m0_2 m0_3 m1_0 m1_1 m2_0).bind fun t94 => (some (decide (t94 ≥ 0)))
theorem api_Edge_v5.ok {S : Seal} {B0 B1 B2 : Nat} {m0_0 : Int} {m0_1 : Int} {m0_2 : Int} {m0_3 : Int} {m1_0 : Int} {m1_1 : Int} {m2_0 : Int} {r0_ : Bool} (e : api_Edge_v5.f m0_0 m0_1 m0_2 m0_3 m1_0 m1_1 m2_0 = some r0_) :
    Cal Try.prog 39 [.slice (some ⟨B0, 0, none⟩) 1 1, .func (.func 40) #[] #[.pointer (some ⟨B1, 0, none⟩), .pointer (some ⟨B2, 0, none⟩)]] ([⟨B0, [.int .i64 m0_0, .int .i64 m0_1, .int .i64 m0_2, .int .i64 m0_3], 4⟩, ⟨B1, [.int .i64 m1_0, .int .i64 m1_1], 2⟩, ⟨B2, [.int .i64 m2_0], 1⟩] : List Own) S fun v H' S' => v = .bool r0_ ∧ H' = ([⟨B0, [.int .i64 m0_0, .int .i64 m0_1, .int .i64 m0_2, .int .i64 m0_3], 4⟩, ⟨B1, [.int .i64 m1_0, .int .i64 m1_1], 2⟩, ⟨B2, [.int .i64 m2_0], 1⟩] : List Own) ∧ S' = S := by
  unfold api_Edge_v5.f at e
  refine cal_of (c := c39) (N := 9) Try.func39 rfl rfl (by kernel_rfl) (rs := [.t 4]) (by kernel_rfl) (Nat.le_of_ble_eq_true rfl) ?_
  unfold c39
  refine w_seq ?_
  refine w_reg fun all => ?_
  refine t_qz 1 [0, 1] (σ' := [(0, .slice (some ⟨B0, 0, none⟩) 1 1), (1, .func (.func 40) #[] #[.pointer (some ⟨B1, 0, none⟩), .pointer (some ⟨B2, 0, none⟩)])]) (by kernel_rfl) ?_
  refine t_end ?_
  show W _ _ _ _ _ _ _
  refine w_seq ?_
  refine w_reg fun all => ?_
  obtain ⟨t94, h95, e⟩ := bind_of e
  refine t_qz 2 [5, 6] (σ' := [(5, .slice (some ⟨B0, 0, none⟩) 1 1), (6, .func (.func 40) #[] #[.pointer (some ⟨B1, 0, none⟩), .pointer (some ⟨B2, 0, none⟩)])]) (by kernel_rfl) ?_
  refine t_v (.callr (vs := [.slice (some ⟨B0, 0, none⟩) 1 1, .func (.func 40) #[] #[.pointer (some ⟨B1, 0, none⟩), .pointer (some ⟨B2, 0, none⟩)]]) (A := ([⟨B0, [.int .i64 m0_0, .int .i64 m0_1, .int .i64 m0_2, .int .i64 m0_3], 4⟩, ⟨B1, [.int .i64 m1_0, .int .i64 m1_1], 2⟩, ⟨B2, [.int .i64 m2_0], 1⟩] : List Own)) (F0 := ([] : List Own)) rfl rfl (by kernel_rfl) (sel_perm (is := [0, 0, 0]) (by kernel_rfl)) (api_Edge_v6.ok h95)) ?_
  refine t_qz 2 [4] (σ' := [(4, .bool (decide (t94 ≥ 0)))]) (by kernel_rfl) ?_
  refine t_end ?_
  show W _ _ _ _ _ _ _
  refine w_ret ?_
  obtain rfl := Option.some.inj e
  exact ⟨[.bool (decide (t94 ≥ 0))], ([⟨B0, [.int .i64 m0_0, .int .i64 m0_1, .int .i64 m0_2, .int .i64 m0_3], 4⟩, ⟨B1, [.int .i64 m1_0, .int .i64 m1_1], 2⟩, ⟨B2, [.int .i64 m2_0], 1⟩] : List Own), S, ⟨rfl, trivial⟩, VS.sel [0, 0, 0] (by kernel_rfl), rfl, rfl, rfl⟩

def stroke_Near_v3.f (w1 : Int) (p2_0 : Int) (p2_1 : Int) (m0_0 : Int) (m0_1 : Int) (m0_2 : Int) (m0_3 : Int) : Option (Bool) := (api_Edge_v5.f m0_0 m0_1 m0_2 m0_3 p2_0 p2_1 w1).bind fun t96 => (some t96)
theorem stroke_Near_v3.ok {S : Seal} {B0 : Nat} {w1 : Int} {p2_0 : Int} {p2_1 : Int} {m0_0 : Int} {m0_1 : Int} {m0_2 : Int} {m0_3 : Int} {r0_ : Bool} (e : stroke_Near_v3.f w1 p2_0 p2_1 m0_0 m0_1 m0_2 m0_3 = some r0_) :
    Cal Try.prog 15 [.slice (some ⟨B0, 0, none⟩) 1 1, .int .i64 w1, .agg #[.int .i64 p2_0, .int .i64 p2_1]] ([⟨B0, [.int .i64 m0_0, .int .i64 m0_1, .int .i64 m0_2, .int .i64 m0_3], 4⟩] : List Own) S fun v H' S' => v = .bool r0_ ∧ H' = ([⟨B0, [.int .i64 m0_0, .int .i64 m0_1, .int .i64 m0_2, .int .i64 m0_3], 4⟩] : List Own) ∧ S' = S := by
  unfold stroke_Near_v3.f at e
  refine cal_of (c := c15) (N := 10) Try.func15 rfl rfl (by kernel_rfl) (rs := [.t 6]) (by kernel_rfl) (Nat.le_of_ble_eq_true rfl) ?_
  unfold c15
  refine w_seq ?_
  refine w_reg fun all => ?_
  refine t_a (.box rfl rfl rfl) fun b55 fb55 sb55 => ?_
  refine t_a (.box rfl rfl rfl) fun b56 fb56 sb56 => ?_
  refine t_qz 1 [0, 4, 5] (σ' := [(0, .slice (some ⟨B0, 0, none⟩) 1 1), (4, .pointer (some ⟨b55, 0, none⟩)), (5, .pointer (some ⟨b56, 0, none⟩))]) (by kernel_rfl) ?_
  refine t_end ?_
  show W _ _ _ _ _ _ _
  refine w_seq ?_
  refine w_reg fun all => ?_
  obtain ⟨t96, h97, e⟩ := bind_of e
  refine t_qz 2 [7, 8] (σ' := [(7, .slice (some ⟨B0, 0, none⟩) 1 1), (8, .func (.func 40) #[] #[.pointer (some ⟨b56, 0, none⟩), .pointer (some ⟨b55, 0, none⟩)])]) (by kernel_rfl) ?_
  refine t_v (.callr (vs := [.slice (some ⟨B0, 0, none⟩) 1 1, .func (.func 40) #[] #[.pointer (some ⟨b56, 0, none⟩), .pointer (some ⟨b55, 0, none⟩)]]) (A := ([⟨B0, [.int .i64 m0_0, .int .i64 m0_1, .int .i64 m0_2, .int .i64 m0_3], 4⟩, ⟨b56, [.int .i64 p2_0, .int .i64 p2_1], 2⟩, ⟨b55, [.int .i64 w1], 1⟩] : List Own)) (F0 := ([] : List Own)) rfl rfl (by kernel_rfl) (sel_perm (is := [2, 0, 0]) (by kernel_rfl)) (api_Edge_v5.ok h97)) ?_
  refine t_qz 1 [6] (σ' := [(6, .bool t96)]) (by kernel_rfl) ?_
  refine t_end ?_
  show W _ _ _ _ _ _ _
  refine w_ret ?_
  obtain rfl := Option.some.inj e
  exact ⟨[.bool t96], ([⟨B0, [.int .i64 m0_0, .int .i64 m0_1, .int .i64 m0_2, .int .i64 m0_3], 4⟩] : List Own), S, ⟨rfl, trivial⟩, VS.sel [2] (by kernel_rfl), rfl, rfl, rfl⟩
end Go.Proofs.Ytijjgmkhgcofiaa.QStrokeDots
