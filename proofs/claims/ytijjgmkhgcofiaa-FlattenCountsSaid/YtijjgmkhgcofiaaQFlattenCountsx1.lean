/- Functions of the program as Lean functions, each with the proof of its walk. Written by gen.py, a program of these sessions. -/
import Derived.Test.YtijjgmkhgcofiaaQFlattenCountsx0
namespace Go.Proofs.Ytijjgmkhgcofiaa.QFlattenCounts
open Go Go.RowKit Go.Proofs.YtijjgmkhgcofiaaE
set_option linter.unusedVariables false
set_option maxRecDepth 100000
set_option maxHeartbeats 8000000
/-- flatten.Path -/
def c24 : C :=
  (.seq (.reg [⟨(some 2), .box (.tmp 0), none⟩,
     ⟨(some 4), .mv (.const (.slice none 0 0)), none⟩])
  (.seq (.reg [⟨(some 5), .new [(.slice none 0 0)], none⟩])
  (.seq (.reg [⟨(some 13), .pad 0 (.tmp 2), none⟩,
     ⟨(some 14), .ld (some 2) (.tmp 13), none⟩,
     ⟨(some 6), .new [(.int .i64 0), (.int .i64 0)], none⟩,
     ⟨none, .st 2 (.tmp 6) (.tmp 14), none⟩])
  (.seq (.reg [⟨(some 15), .mkf 43 [(.tmp 6), (.tmp 5)], none⟩,
     ⟨(some 7), .mv (.tmp 15), none⟩])
  (.seq (.seq (.reg [⟨(some 16), .pad 2 (.tmp 2), none⟩,
      ⟨(some 17), .ld none (.tmp 16), none⟩,
      ⟨(some 18), .lns (.tmp 17), none⟩,
      ⟨(some 19), .mv (.const (.int .i64 0)), none⟩])
   (.block 0 (.loop (.seq (.reg [⟨(some 20), .bin .lss (.tmp 19) (.tmp 18), none⟩])
     (.seq (.cond (.tmp 20)
       .skip
       (.exit 0))
     (.seq (.block 1 (.seq (.reg [⟨(some 21), .ixs 7 (.tmp 17) (.tmp 19), none⟩,
          ⟨(some 22), .ld (some 7) (.tmp 21), none⟩,
          ⟨(some 9), .new [(.int .i64 0), (.int .i64 0), (.int .i64 0), (.int .i64 0), (.int .i64 0), (.int .i64 0), (.int .i64 0)], none⟩,
          ⟨none, .st 7 (.tmp 9) (.tmp 22), none⟩])
       (.seq (.drw [⟨(some 23), .ld (some 2) (.tmp 6), none⟩,
          ⟨(some 24), .ld (some 2) (.tmp 6), none⟩,
          ⟨(some 25), .ld (some 7) (.tmp 9), none⟩,
          ⟨(some 26), .call 27 [(.tmp 24), (.tmp 25)], none⟩,
          ⟨(some 10), .new [(.int .i64 0), (.int .i64 0)], none⟩,
          ⟨none, .st 2 (.tmp 10) (.tmp 23), none⟩,
          ⟨(some 11), .mv (.tmp 26), none⟩] [[], [], [], [1, 2], [], [4, 0, 3, 0, 4], [3, 5, 0, 1, 2, 3, 4, 5]])
       (.seq (.reg [⟨(some 12), .mv (.const (.int .i64 1)), none⟩])
       (.block 2 (.loop (.seq (.seq (.reg [⟨(some 27), .mv (.tmp 12), none⟩,
             ⟨(some 28), .mv (.tmp 11), none⟩,
             ⟨(some 29), .bin .leq (.tmp 27) (.tmp 28), none⟩])
          (.cond (.tmp 29)
           .skip
           (.exit 2)))
         (.seq (.block 3 (.reg [⟨(some 32), .mv (.tmp 7), none⟩,
             ⟨(some 33), .ld (some 2) (.tmp 10), none⟩,
             ⟨(some 34), .ld (some 7) (.tmp 9), none⟩,
             ⟨(some 35), .mv (.tmp 12), none⟩,
             ⟨(some 36), .mv (.tmp 11), none⟩,
             ⟨(some 37), .call 28 [(.tmp 33), (.tmp 34), (.tmp 35), (.tmp 36)], none⟩,
             ⟨(some 38), .clo (.tmp 32) [(.tmp 37)], none⟩]))
         (.reg [⟨(some 30), .mv (.tmp 12), none⟩,
           ⟨(some 31), .bin .add (.tmp 30) (.const (.int .i64 1)), none⟩,
           ⟨(some 12), .mv (.tmp 31), none⟩])))))))))
     (.reg [⟨(some 39), .bin .add (.tmp 19) (.const (.int .i64 1)), none⟩,
       ⟨(some 19), .mv (.tmp 39), none⟩])))))))
  (.seq (.seq (.reg [⟨(some 40), .mv (.tmp 1), none⟩,
      ⟨(some 41), .mv (.tmp 40), none⟩,
      ⟨(some 42), .pad 3 (.tmp 2), (some (41, false))⟩,
      ⟨(some 43), .ld none (.tmp 42), (some (41, false))⟩,
      ⟨(some 44), .pk (.tmp 41) (.const (.bool true)) (.tmp 43), none⟩])
   (.cond (.tmp 44)
    (.reg [⟨(some 45), .mv (.tmp 7), none⟩,
       ⟨(some 46), .pad 0 (.tmp 2), none⟩,
       ⟨(some 47), .ld (some 2) (.tmp 46), none⟩,
       ⟨(some 48), .clo (.tmp 45) [(.tmp 47)], none⟩])
    .skip))
  (.seq (.reg [⟨(some 49), .ld none (.tmp 5), none⟩,
     ⟨(some 4), .mv (.tmp 49), none⟩])
  .ret)))))))
def flatten_Path_v1.f  : Option (Unit) := (flatten_Count_v1.f).bind fun _ => ((flatten_Point_v1.f).bind fun _ => ((flatten_Path_1_v1.f).bind fun _ => (some ())))
theorem flatten_Path_v1.ok {S : Seal} {B0 : Nat}   (e : flatten_Path_v1.f  = some ()) :
    Cal Try.prog 24 [.agg #[.int .i64 0, .int .i64 0, .slice (some ⟨B0, 0, none⟩) 1 1, .bool false], .bool false] ([⟨B0, [.int .i64 1, .int .i64 5, .int .i64 0, .int .i64 0, .int .i64 0, .int .i64 0, .int .i64 0], 7⟩] : List Own) S fun v H' S' => ∃ N0_ nN0_ : Nat, v = .slice (some ⟨N0_, 0, none⟩) 1 (nN0_ / 4) ∧ H' = ([⟨N0_, [.int .i64 0, .int .i64 0, .int .i64 5, .int .i64 0], nN0_⟩, ⟨B0, [.int .i64 1, .int .i64 5, .int .i64 0, .int .i64 0, .int .i64 0, .int .i64 0, .int .i64 0], 7⟩] : List Own) ∧ S' = S := by
  unfold flatten_Path_v1.f at e
  refine cal_of (c := c24) (N := 50) Try.func24 rfl rfl (by kernel_rfl) (rs := [.t 4]) (by kernel_rfl) (Nat.le_of_ble_eq_true rfl) ?_
  unfold c24
  refine w_seq ?_
  refine w_reg fun all => ?_
  refine t_a (.box rfl rfl rfl) fun b10 fb10 sb10 => ?_
  refine t_qz 1 [1, 2] (σ' := [(1, .bool false), (2, .pointer (some ⟨b10, 0, none⟩))]) (by kernel_rfl) ?_
  refine t_end ?_
  show W _ _ _ _ _ _ _
  refine w_seq ?_
  refine w_reg fun all => ?_
  refine t_a (.new rfl rfl) fun b11 fb11 sb11 => ?_
  refine t_keep [1, 2, 5] (σ' := [(1, .bool false), (2, .pointer (some ⟨b10, 0, none⟩)), (5, .pointer (some ⟨b11, 0, none⟩))]) (by kernel_rfl) ?_
  refine t_end ?_
  show W _ _ _ _ _ _ _
  refine w_seq ?_
  refine w_reg fun all => ?_
  refine t_qz 1 [1, 2, 5, 13] (σ' := [(1, .bool false), (2, .pointer (some ⟨b10, 0, none⟩)), (5, .pointer (some ⟨b11, 0, none⟩)), (13, .pointer (some ⟨b10, 0, none⟩))]) (by kernel_rfl) ?_
  refine t_v (.ldn rfl rfl rfl (.at 1 rfl rfl)) ?_
  refine t_a (.new rfl rfl) fun b12 fb12 sb12 => ?_
  refine t_sti 0 (cs := [.int .i64 0, .int .i64 0]) rfl rfl rfl rfl rfl rfl rfl rfl rfl ?_
  refine t_keep [1, 2, 5, 6] (σ' := [(1, .bool false), (2, .pointer (some ⟨b10, 0, none⟩)), (5, .pointer (some ⟨b11, 0, none⟩)), (6, .pointer (some ⟨b12, 0, none⟩))]) (by kernel_rfl) ?_
  refine t_end ?_
  show W _ _ _ _ _ _ _
  refine w_seq ?_
  refine w_reg fun all => ?_
  refine t_qz 2 [1, 2, 5, 6, 7] (σ' := [(1, .bool false), (2, .pointer (some ⟨b10, 0, none⟩)), (5, .pointer (some ⟨b11, 0, none⟩)), (6, .pointer (some ⟨b12, 0, none⟩)), (7, .func (.func 43) #[] #[.pointer (some ⟨b12, 0, none⟩), .pointer (some ⟨b11, 0, none⟩)])]) (by kernel_rfl) ?_
  refine t_end ?_
  show W _ _ _ _ _ _ _
  refine w_seq ?_
  refine w_seq ?_
  refine w_reg fun all => ?_
  refine t_qz 1 [1, 2, 5, 6, 7, 16] (σ' := [(1, .bool false), (2, .pointer (some ⟨b10, 0, none⟩)), (5, .pointer (some ⟨b11, 0, none⟩)), (6, .pointer (some ⟨b12, 0, none⟩)), (7, .func (.func 43) #[] #[.pointer (some ⟨b12, 0, none⟩), .pointer (some ⟨b11, 0, none⟩)]), (16, .pointer (some ⟨b10, 2, none⟩))]) (by kernel_rfl) ?_
  refine t_v (.ld1 rfl rfl rfl (.at 2 rfl rfl)) ?_
  refine t_qz 2 [1, 2, 5, 6, 7, 17, 18, 19] (σ' := [(1, .bool false), (2, .pointer (some ⟨b10, 0, none⟩)), (5, .pointer (some ⟨b11, 0, none⟩)), (6, .pointer (some ⟨b12, 0, none⟩)), (7, .func (.func 43) #[] #[.pointer (some ⟨b12, 0, none⟩), .pointer (some ⟨b11, 0, none⟩)]), (17, .slice (some ⟨B0, 0, none⟩) 1 1), (18, .int .i64 1), (19, .int .i64 0)]) (by kernel_rfl) ?_
  refine t_end ?_
  show W _ _ _ _ _ _ _
  refine w_block ?_
  refine w_lun 10 ?_
  refine wl_step ?_
  refine w_seq ?_
  refine w_reg fun all => ?_
  refine t_qz 1 [1, 2, 5, 6, 7, 17, 18, 19, 20] (σ' := [(1, .bool false), (2, .pointer (some ⟨b10, 0, none⟩)), (5, .pointer (some ⟨b11, 0, none⟩)), (6, .pointer (some ⟨b12, 0, none⟩)), (7, .func (.func 43) #[] #[.pointer (some ⟨b12, 0, none⟩), .pointer (some ⟨b11, 0, none⟩)]), (17, .slice (some ⟨B0, 0, none⟩) 1 1), (18, .int .i64 1), (19, .int .i64 0), (20, .bool true)]) (by kernel_rfl) ?_
  refine t_end ?_
  show W _ _ _ _ _ _ _
  refine w_seq ?_
  refine w_cond rfl (fun _ => ?_) (fun c_ => by cases c_)
  show W _ _ _ _ _ _ _
  refine w_skip ?_
  show W _ _ _ _ _ _ _
  refine w_seq ?_
  refine w_block ?_
  refine w_seq ?_
  refine w_reg fun all => ?_
  refine t_qz 1 [1, 2, 5, 6, 7, 17, 18, 19, 21] (σ' := [(1, .bool false), (2, .pointer (some ⟨b10, 0, none⟩)), (5, .pointer (some ⟨b11, 0, none⟩)), (6, .pointer (some ⟨b12, 0, none⟩)), (7, .func (.func 43) #[] #[.pointer (some ⟨b12, 0, none⟩), .pointer (some ⟨b11, 0, none⟩)]), (17, .slice (some ⟨B0, 0, none⟩) 1 1), (18, .int .i64 1), (19, .int .i64 0), (21, .pointer (some ⟨B0, 0, none⟩))]) (by kernel_rfl) ?_
  refine t_v (.ldn rfl rfl rfl (.at 3 rfl rfl)) ?_
  refine t_a (.new rfl rfl) fun b13 fb13 sb13 => ?_
  refine t_sti 0 (cs := [.int .i64 1, .int .i64 5, .int .i64 0, .int .i64 0, .int .i64 0, .int .i64 0, .int .i64 0]) rfl rfl rfl rfl rfl rfl rfl rfl rfl ?_
  refine t_keep [1, 2, 5, 6, 7, 9, 17, 18, 19] (σ' := [(1, .bool false), (2, .pointer (some ⟨b10, 0, none⟩)), (5, .pointer (some ⟨b11, 0, none⟩)), (6, .pointer (some ⟨b12, 0, none⟩)), (7, .func (.func 43) #[] #[.pointer (some ⟨b12, 0, none⟩), .pointer (some ⟨b11, 0, none⟩)]), (9, .pointer (some ⟨b13, 0, none⟩)), (17, .slice (some ⟨B0, 0, none⟩) 1 1), (18, .int .i64 1), (19, .int .i64 0)]) (by kernel_rfl) ?_
  refine t_end ?_
  show W _ _ _ _ _ _ _
  refine w_seq ?_
  obtain ⟨u_, h14, e⟩ := bind_of e
  refine w_drwE mixed 5 [.v (.agg #[.int .i64 0, .int .i64 0]), .v (.agg #[.int .i64 0, .int .i64 0]), .v (.agg #[.int .i64 1, .int .i64 5, .int .i64 0, .int .i64 0, .int .i64 0, .int .i64 0, .int .i64 0]), .v (.int .i64 1), .a [.int .i64 0, .int .i64 0] ptrTo] (by kernel_rfl) ?_ ?_
  · refine .cons (.ldn rfl rfl rfl (.at 1 rfl rfl)) ?_
    refine .cons (.ldn rfl rfl rfl (.at 1 rfl rfl)) ?_
    refine .cons (.ldn rfl rfl rfl (.at 0 rfl rfl)) ?_
    refine .cons (.call (vs := [.agg #[.int .i64 0, .int .i64 0], .agg #[.int .i64 1, .int .i64 5, .int .i64 0, .int .i64 0, .int .i64 0, .int .i64 0, .int .i64 0]]) rfl rfl (by kernel_rfl) (flatten_Count_v1.ok h14)) ?_
    refine .cons (.new rfl rfl) ?_
    exact .nil
  refine fk_q 4 [1, 2, 5, 6, 7, 9, 17, 18, 19, 23, 26] (σ' := [(1, .bool false), (2, .pointer (some ⟨b10, 0, none⟩)), (5, .pointer (some ⟨b11, 0, none⟩)), (6, .pointer (some ⟨b12, 0, none⟩)), (7, .func (.func 43) #[] #[.pointer (some ⟨b12, 0, none⟩), .pointer (some ⟨b11, 0, none⟩)]), (9, .pointer (some ⟨b13, 0, none⟩)), (17, .slice (some ⟨B0, 0, none⟩) 1 1), (18, .int .i64 1), (19, .int .i64 0), (23, .agg #[.int .i64 0, .int .i64 0]), (26, .int .i64 1)]) t_more (by kernel_rfl) ?_
  refine fk_a fun b15 fb15 sb15 => ?_
  refine fk_nil fun all => ?_
  refine t_sti 0 (cs := [.int .i64 0, .int .i64 0]) rfl rfl rfl rfl rfl rfl rfl rfl rfl ?_
  refine t_qz 1 [1, 2, 5, 6, 7, 9, 10, 11, 17, 18, 19] (σ' := [(1, .bool false), (2, .pointer (some ⟨b10, 0, none⟩)), (5, .pointer (some ⟨b11, 0, none⟩)), (6, .pointer (some ⟨b12, 0, none⟩)), (7, .func (.func 43) #[] #[.pointer (some ⟨b12, 0, none⟩), .pointer (some ⟨b11, 0, none⟩)]), (9, .pointer (some ⟨b13, 0, none⟩)), (10, .pointer (some ⟨b15, 0, none⟩)), (11, .int .i64 1), (17, .slice (some ⟨B0, 0, none⟩) 1 1), (18, .int .i64 1), (19, .int .i64 0)]) (by kernel_rfl) ?_
  refine t_end ?_
  show W _ _ _ _ _ _ _
  refine w_seq ?_
  refine w_reg fun all => ?_
  refine t_qz 1 [1, 2, 5, 6, 7, 9, 10, 11, 12, 17, 18, 19] (σ' := [(1, .bool false), (2, .pointer (some ⟨b10, 0, none⟩)), (5, .pointer (some ⟨b11, 0, none⟩)), (6, .pointer (some ⟨b12, 0, none⟩)), (7, .func (.func 43) #[] #[.pointer (some ⟨b12, 0, none⟩), .pointer (some ⟨b11, 0, none⟩)]), (9, .pointer (some ⟨b13, 0, none⟩)), (10, .pointer (some ⟨b15, 0, none⟩)), (11, .int .i64 1), (12, .int .i64 1), (17, .slice (some ⟨B0, 0, none⟩) 1 1), (18, .int .i64 1), (19, .int .i64 0)]) (by kernel_rfl) ?_
  refine t_end ?_
  show W _ _ _ _ _ _ _
  refine w_block ?_
  refine w_lun 10 ?_
  refine wl_step ?_
  refine w_seq ?_
  refine w_seq ?_
  refine w_reg fun all => ?_
  refine t_qz 3 [1, 2, 5, 6, 7, 9, 10, 11, 12, 17, 18, 19, 29] (σ' := [(1, .bool false), (2, .pointer (some ⟨b10, 0, none⟩)), (5, .pointer (some ⟨b11, 0, none⟩)), (6, .pointer (some ⟨b12, 0, none⟩)), (7, .func (.func 43) #[] #[.pointer (some ⟨b12, 0, none⟩), .pointer (some ⟨b11, 0, none⟩)]), (9, .pointer (some ⟨b13, 0, none⟩)), (10, .pointer (some ⟨b15, 0, none⟩)), (11, .int .i64 1), (12, .int .i64 1), (17, .slice (some ⟨B0, 0, none⟩) 1 1), (18, .int .i64 1), (19, .int .i64 0), (29, .bool true)]) (by kernel_rfl) ?_
  refine t_end ?_
  show W _ _ _ _ _ _ _
  refine w_cond rfl (fun _ => ?_) (fun c_ => by cases c_)
  show W _ _ _ _ _ _ _
  refine w_skip ?_
  show W _ _ _ _ _ _ _
  refine w_seq ?_
  refine w_block ?_
  refine w_reg fun all => ?_
  refine t_qz 1 [1, 2, 5, 6, 7, 9, 10, 11, 12, 17, 18, 19, 32] (σ' := [(1, .bool false), (2, .pointer (some ⟨b10, 0, none⟩)), (5, .pointer (some ⟨b11, 0, none⟩)), (6, .pointer (some ⟨b12, 0, none⟩)), (7, .func (.func 43) #[] #[.pointer (some ⟨b12, 0, none⟩), .pointer (some ⟨b11, 0, none⟩)]), (9, .pointer (some ⟨b13, 0, none⟩)), (10, .pointer (some ⟨b15, 0, none⟩)), (11, .int .i64 1), (12, .int .i64 1), (17, .slice (some ⟨B0, 0, none⟩) 1 1), (18, .int .i64 1), (19, .int .i64 0), (32, .func (.func 43) #[] #[.pointer (some ⟨b12, 0, none⟩), .pointer (some ⟨b11, 0, none⟩)])]) (by kernel_rfl) ?_
  refine t_v (.ldn rfl rfl rfl (.at 0 rfl rfl)) ?_
  refine t_v (.ldn rfl rfl rfl (.at 1 rfl rfl)) ?_
  obtain ⟨u_, h33, e⟩ := bind_of e
  refine t_qz 2 [1, 2, 5, 6, 7, 9, 10, 11, 12, 17, 18, 19, 32, 33, 34, 35, 36] (σ' := [(1, .bool false), (2, .pointer (some ⟨b10, 0, none⟩)), (5, .pointer (some ⟨b11, 0, none⟩)), (6, .pointer (some ⟨b12, 0, none⟩)), (7, .func (.func 43) #[] #[.pointer (some ⟨b12, 0, none⟩), .pointer (some ⟨b11, 0, none⟩)]), (9, .pointer (some ⟨b13, 0, none⟩)), (10, .pointer (some ⟨b15, 0, none⟩)), (11, .int .i64 1), (12, .int .i64 1), (17, .slice (some ⟨B0, 0, none⟩) 1 1), (18, .int .i64 1), (19, .int .i64 0), (32, .func (.func 43) #[] #[.pointer (some ⟨b12, 0, none⟩), .pointer (some ⟨b11, 0, none⟩)]), (33, .agg #[.int .i64 0, .int .i64 0]), (34, .agg #[.int .i64 1, .int .i64 5, .int .i64 0, .int .i64 0, .int .i64 0, .int .i64 0, .int .i64 0]), (35, .int .i64 1), (36, .int .i64 1)]) (by kernel_rfl) ?_
  refine t_v (.call (vs := [.agg #[.int .i64 0, .int .i64 0], .agg #[.int .i64 1, .int .i64 5, .int .i64 0, .int .i64 0, .int .i64 0, .int .i64 0, .int .i64 0], .int .i64 1, .int .i64 1]) rfl rfl (by kernel_rfl) (flatten_Point_v1.ok h33)) ?_
  obtain ⟨u_, h40, e⟩ := bind_of e
  refine t_clo (caps := #[.pointer (some ⟨b12, 0, none⟩), .pointer (some ⟨b11, 0, none⟩)]) (vs := [.agg #[.int .i64 5, .int .i64 0]]) (H1 := ([⟨b12, [.int .i64 0, .int .i64 0], 2⟩, ⟨b11, [.slice none 0 0], 1⟩] : List Own)) (F := ([⟨b15, [.int .i64 0, .int .i64 0], 2⟩, ⟨b13, [.int .i64 1, .int .i64 5, .int .i64 0, .int .i64 0, .int .i64 0, .int .i64 0, .int .i64 0], 7⟩, ⟨b10, [.int .i64 0, .int .i64 0, .slice (some ⟨B0, 0, none⟩) 1 1, .bool false], 4⟩, ⟨B0, [.int .i64 1, .int .i64 5, .int .i64 0, .int .i64 0, .int .i64 0, .int .i64 0, .int .i64 0], 7⟩] : List Own)) rfl rfl rfl (by kernel_rfl) (by kernel_rfl) (sel_perm (is := [2, 2]) (by kernel_rfl)) (flatten_Path_1_v1.ok h40) ?_
  rintro _ _ S_ ⟨N41, nN41, rfl, rfl, hS_⟩
  obtain rfl := hS_.symm
  refine t_keep [1, 2, 5, 6, 7, 9, 10, 11, 12, 17, 18, 19] (σ' := [(1, .bool false), (2, .pointer (some ⟨b10, 0, none⟩)), (5, .pointer (some ⟨b11, 0, none⟩)), (6, .pointer (some ⟨b12, 0, none⟩)), (7, .func (.func 43) #[] #[.pointer (some ⟨b12, 0, none⟩), .pointer (some ⟨b11, 0, none⟩)]), (9, .pointer (some ⟨b13, 0, none⟩)), (10, .pointer (some ⟨b15, 0, none⟩)), (11, .int .i64 1), (12, .int .i64 1), (17, .slice (some ⟨B0, 0, none⟩) 1 1), (18, .int .i64 1), (19, .int .i64 0)]) (by kernel_rfl) ?_
  refine t_end ?_
  show W _ _ _ _ _ _ _
  refine w_reg fun all => ?_
  refine t_qz 3 [1, 2, 5, 6, 7, 9, 10, 11, 12, 17, 18, 19] (σ' := [(1, .bool false), (2, .pointer (some ⟨b10, 0, none⟩)), (5, .pointer (some ⟨b11, 0, none⟩)), (6, .pointer (some ⟨b12, 0, none⟩)), (7, .func (.func 43) #[] #[.pointer (some ⟨b12, 0, none⟩), .pointer (some ⟨b11, 0, none⟩)]), (9, .pointer (some ⟨b13, 0, none⟩)), (10, .pointer (some ⟨b15, 0, none⟩)), (11, .int .i64 1), (12, .int .i64 2), (17, .slice (some ⟨B0, 0, none⟩) 1 1), (18, .int .i64 1), (19, .int .i64 0)]) (by kernel_rfl) ?_
  refine t_end ?_
  show WL _ _ _ _ _ _ _ _
  refine wl_step ?_
  refine w_seq ?_
  refine w_seq ?_
  refine w_reg fun all => ?_
  refine t_qz 3 [1, 2, 5, 6, 7, 9, 10, 11, 12, 17, 18, 19, 29] (σ' := [(1, .bool false), (2, .pointer (some ⟨b10, 0, none⟩)), (5, .pointer (some ⟨b11, 0, none⟩)), (6, .pointer (some ⟨b12, 0, none⟩)), (7, .func (.func 43) #[] #[.pointer (some ⟨b12, 0, none⟩), .pointer (some ⟨b11, 0, none⟩)]), (9, .pointer (some ⟨b13, 0, none⟩)), (10, .pointer (some ⟨b15, 0, none⟩)), (11, .int .i64 1), (12, .int .i64 2), (17, .slice (some ⟨B0, 0, none⟩) 1 1), (18, .int .i64 1), (19, .int .i64 0), (29, .bool false)]) (by kernel_rfl) ?_
  refine t_end ?_
  show W _ _ _ _ _ _ _
  refine w_cond rfl (fun c_ => by cases c_) (fun _ => ?_)
  show W _ _ _ _ _ _ _
  refine w_exit ?_
  show W _ _ _ _ _ _ _
  refine w_reg fun all => ?_
  refine t_qz 2 [1, 2, 5, 6, 7, 17, 18, 19] (σ' := [(1, .bool false), (2, .pointer (some ⟨b10, 0, none⟩)), (5, .pointer (some ⟨b11, 0, none⟩)), (6, .pointer (some ⟨b12, 0, none⟩)), (7, .func (.func 43) #[] #[.pointer (some ⟨b12, 0, none⟩), .pointer (some ⟨b11, 0, none⟩)]), (17, .slice (some ⟨B0, 0, none⟩) 1 1), (18, .int .i64 1), (19, .int .i64 1)]) (by kernel_rfl) ?_
  refine t_end ?_
  show WL _ _ _ _ _ _ _ _
  refine wl_step ?_
  refine w_seq ?_
  refine w_reg fun all => ?_
  refine t_qz 1 [1, 2, 5, 6, 7, 17, 18, 19, 20] (σ' := [(1, .bool false), (2, .pointer (some ⟨b10, 0, none⟩)), (5, .pointer (some ⟨b11, 0, none⟩)), (6, .pointer (some ⟨b12, 0, none⟩)), (7, .func (.func 43) #[] #[.pointer (some ⟨b12, 0, none⟩), .pointer (some ⟨b11, 0, none⟩)]), (17, .slice (some ⟨B0, 0, none⟩) 1 1), (18, .int .i64 1), (19, .int .i64 1), (20, .bool false)]) (by kernel_rfl) ?_
  refine t_end ?_
  show W _ _ _ _ _ _ _
  refine w_seq ?_
  refine w_cond rfl (fun c_ => by cases c_) (fun _ => ?_)
  show W _ _ _ _ _ _ _
  refine w_exit ?_
  show W _ _ _ _ _ _ _
  refine w_seq ?_
  refine w_seq ?_
  refine w_reg fun all => ?_
  refine t_qz 3 [2, 5, 7, 41, 42] (σ' := [(2, .pointer (some ⟨b10, 0, none⟩)), (5, .pointer (some ⟨b11, 0, none⟩)), (7, .func (.func 43) #[] #[.pointer (some ⟨b12, 0, none⟩), .pointer (some ⟨b11, 0, none⟩)]), (41, .bool false), (42, .pointer (some ⟨b10, 3, none⟩))]) (by kernel_rfl) ?_
  refine t_v (.ld1 rfl rfl rfl (.at 5 rfl rfl)) ?_
  refine t_qz 1 [2, 5, 7, 44] (σ' := [(2, .pointer (some ⟨b10, 0, none⟩)), (5, .pointer (some ⟨b11, 0, none⟩)), (7, .func (.func 43) #[] #[.pointer (some ⟨b12, 0, none⟩), .pointer (some ⟨b11, 0, none⟩)]), (44, .bool false)]) (by kernel_rfl) ?_
  refine t_end ?_
  show W _ _ _ _ _ _ _
  refine w_cond rfl (fun c_ => by cases c_) (fun _ => ?_)
  show W _ _ _ _ _ _ _
  refine w_skip ?_
  show W _ _ _ _ _ _ _
  refine w_seq ?_
  refine w_reg fun all => ?_
  refine t_v (.ld1 rfl rfl rfl (.at 2 rfl rfl)) ?_
  refine t_qz 1 [4] (σ' := [(4, .slice (some ⟨N41, 0, none⟩) 1 (nN41 / 4))]) (by kernel_rfl) ?_
  refine t_end ?_
  show W _ _ _ _ _ _ _
  refine w_ret ?_
  exact ⟨[.slice (some ⟨N41, 0, none⟩) 1 (nN41 / 4)], ([⟨N41, [.int .i64 0, .int .i64 0, .int .i64 5, .int .i64 0], nN41⟩, ⟨B0, [.int .i64 1, .int .i64 5, .int .i64 0, .int .i64 0, .int .i64 0, .int .i64 0, .int .i64 0], 7⟩] : List Own), S, ⟨rfl, trivial⟩, VS.sel [0, 5] (by kernel_rfl), N41, nN41, rfl, rfl, rfl⟩

/-- glyphiclaw21.first -/
def c22 : C :=
  (.seq (.reg [⟨(some 0), .mv (.const (.bool false)), none⟩])
  (.seq (.reg [⟨(some 2), .bld [(.int .i64 0), (.int .i64 0)] [(0, 1, (.const (.int .i64 5)))], none⟩,
     ⟨(some 3), .bld [(.int .i64 0), (.int .i64 0), (.int .i64 0), (.int .i64 0), (.int .i64 0), (.int .i64 0)] [(0, 2, (.tmp 2))], none⟩,
     ⟨(some 4), .bld [(.int .i64 0), (.int .i64 0), (.int .i64 0), (.int .i64 0), (.int .i64 0), (.int .i64 0), (.int .i64 0)] [(0, 1, (.const (.int .i64 1))), (1, 6, (.tmp 3))], none⟩,
     ⟨(some 1), .new [(.int .i64 0), (.int .i64 0), (.int .i64 0), (.int .i64 0), (.int .i64 0), (.int .i64 0), (.int .i64 0)], none⟩,
     ⟨none, .st 7 (.tmp 1) (.tmp 4), none⟩])
  (.seq (.reg [⟨(some 5), .bld [(.int .i64 0), (.int .i64 0)] [], none⟩,
     ⟨(some 6), .ld (some 7) (.tmp 1), none⟩,
     ⟨(some 7), .call 27 [(.tmp 5), (.tmp 6)], none⟩,
     ⟨(some 8), .bin .eql (.tmp 7) (.const (.int .i64 1)), none⟩,
     ⟨(some 9), .mv (.tmp 8), none⟩,
     ⟨(some 10), .ld (some 7) (.tmp 1), (some (9, true))⟩,
     ⟨(some 11), .bsl [(.int .i64 0), (.int .i64 0), (.int .i64 0), (.int .i64 0), (.int .i64 0), (.int .i64 0), (.int .i64 0)] 1 [(0, 7, (.tmp 10))], (some (9, true))⟩,
     ⟨(some 12), .bld [(.int .i64 0), (.int .i64 0), (.slice none 0 0), (.bool false)] [(2, 1, (.tmp 11))], (some (9, true))⟩,
     ⟨(some 13), .call 24 [(.tmp 12), (.const (.bool false))], (some (9, true))⟩,
     ⟨(some 14), .lns (.tmp 13), (some (9, true))⟩,
     ⟨(some 15), .bin .eql (.tmp 14) (.const (.int .i64 1)), (some (9, true))⟩,
     ⟨(some 16), .pk (.tmp 9) (.tmp 15) (.const (.bool false)), none⟩,
     ⟨(some 0), .mv (.tmp 16), none⟩])
  .ret)))
def glyphiclaw21_first.f  : Option (Bool) := (flatten_Count_v1.f).bind fun _ => ((flatten_Path_v1.f).bind fun _ => (some true))
theorem glyphiclaw21_first.ok {S : Seal}  {r0_ : Bool} (e : glyphiclaw21_first.f  = some r0_) :
    Cal Try.prog 22 [] [] S fun v H' S' => v = .bool r0_ ∧ H' = [] ∧ S' = S := by
  unfold glyphiclaw21_first.f at e
  refine cal_of (c := c22) (N := 17) Try.func22 rfl rfl (by kernel_rfl) (rs := [.t 0]) (by kernel_rfl) (Nat.le_of_ble_eq_true rfl) ?_
  unfold c22
  refine w_seq ?_
  refine w_reg fun all => ?_
  refine t_qz 1 [] (σ' := []) (by kernel_rfl) ?_
  refine t_end ?_
  show W _ _ _ _ _ _ _
  refine w_seq ?_
  refine w_reg fun all => ?_
  refine t_qz 3 [4] (σ' := [(4, .agg #[.int .i64 1, .int .i64 5, .int .i64 0, .int .i64 0, .int .i64 0, .int .i64 0, .int .i64 0])]) (by kernel_rfl) ?_
  refine t_a (.new rfl rfl) fun b5 fb5 sb5 => ?_
  refine t_sti 0 (cs := [.int .i64 1, .int .i64 5, .int .i64 0, .int .i64 0, .int .i64 0, .int .i64 0, .int .i64 0]) rfl rfl rfl rfl rfl rfl rfl rfl rfl ?_
  refine t_keep [1] (σ' := [(1, .pointer (some ⟨b5, 0, none⟩))]) (by kernel_rfl) ?_
  refine t_end ?_
  show W _ _ _ _ _ _ _
  refine w_seq ?_
  refine w_reg fun all => ?_
  refine t_qz 1 [1, 5] (σ' := [(1, .pointer (some ⟨b5, 0, none⟩)), (5, .agg #[.int .i64 0, .int .i64 0])]) (by kernel_rfl) ?_
  refine t_v (.ldn rfl rfl rfl (.at 0 rfl rfl)) ?_
  obtain ⟨u_, h8, e⟩ := bind_of e
  refine t_v (.call (vs := [.agg #[.int .i64 0, .int .i64 0], .agg #[.int .i64 1, .int .i64 5, .int .i64 0, .int .i64 0, .int .i64 0, .int .i64 0, .int .i64 0]]) rfl rfl (by kernel_rfl) (flatten_Count_v1.ok h8)) ?_
  refine t_qz 2 [1, 9] (σ' := [(1, .pointer (some ⟨b5, 0, none⟩)), (9, .bool true)]) (by kernel_rfl) ?_
  refine t_v (.ldn rfl rfl rfl (.at 0 rfl rfl)) ?_
  refine t_a (.bsl rfl rfl rfl rfl) fun b9 fb9 sb9 => ?_
  obtain ⟨u_, h42, e⟩ := bind_of e
  refine t_qz 1 [9, 12] (σ' := [(9, .bool true), (12, .agg #[.int .i64 0, .int .i64 0, .slice (some ⟨b9, 0, none⟩) 1 1, .bool false])]) (by kernel_rfl) ?_
  refine t_call (vs := [.agg #[.int .i64 0, .int .i64 0, .slice (some ⟨b9, 0, none⟩) 1 1, .bool false], .bool false]) (H1 := ([⟨b9, [.int .i64 1, .int .i64 5, .int .i64 0, .int .i64 0, .int .i64 0, .int .i64 0, .int .i64 0], 7⟩] : List Own)) (F := ([⟨b5, [.int .i64 1, .int .i64 5, .int .i64 0, .int .i64 0, .int .i64 0, .int .i64 0, .int .i64 0], 7⟩] : List Own)) rfl rfl (by kernel_rfl) (sel_perm (is := [0]) (by kernel_rfl)) (flatten_Path_v1.ok h42) ?_
  rintro _ _ S_ ⟨N43, nN43, rfl, rfl, hS_⟩
  obtain rfl := hS_.symm
  refine t_qz 4 [0] (σ' := [(0, .bool true)]) (by kernel_rfl) ?_
  refine t_end ?_
  show W _ _ _ _ _ _ _
  refine w_ret ?_
  obtain rfl := Option.some.inj e
  exact ⟨[.bool true], [], S, ⟨rfl, trivial⟩, VS.none, rfl, rfl, rfl⟩

/-- glyphiclaw21.cut -/
def c25 : C :=
  (.seq (.reg [⟨(some 1), .box (.tmp 0), none⟩,
     ⟨(some 2), .new [(.int .i64 0), (.int .i64 0)], none⟩])
  (.seq (.reg [⟨(some 3), .pad 0 (.tmp 1), none⟩,
     ⟨(some 4), .ld none (.tmp 3), none⟩,
     ⟨(some 5), .bin .rem (.tmp 4) (.const (.int .i64 16777217)), none⟩,
     ⟨(some 6), .pad 1 (.tmp 1), none⟩,
     ⟨(some 7), .ld none (.tmp 6), none⟩,
     ⟨(some 8), .bin .rem (.tmp 7) (.const (.int .i64 16777217)), none⟩,
     ⟨(some 9), .bld [(.int .i64 0), (.int .i64 0)] [(0, 1, (.tmp 5)), (1, 1, (.tmp 8))], none⟩,
     ⟨none, .st 2 (.tmp 2) (.tmp 9), none⟩])
  .ret))
def glyphiclaw21_cut.f (p0_X : Int) (p0_Y : Int) : Option (Int × Int) := some (Int.tmod p0_X 16777217, Int.tmod p0_Y 16777217)
theorem glyphiclaw21_cut.ok {S : Seal} {p0_X : Int} {p0_Y : Int} {r0_ : Int} {r1_ : Int} (e : glyphiclaw21_cut.f p0_X p0_Y = some (r0_, r1_)) :
    Cal Try.prog 25 [.agg #[.int .i64 p0_X, .int .i64 p0_Y]] [] S fun v H' S' => v = .agg #[.int .i64 r0_, .int .i64 r1_] ∧ H' = [] ∧ S' = S := by
  unfold glyphiclaw21_cut.f at e
  refine cal_of (c := c25) (N := 10) Try.func25 rfl rfl (by kernel_rfl) (rs := [.cn 2 2]) (by kernel_rfl) (Nat.le_of_ble_eq_true rfl) ?_
  unfold c25
  refine w_seq ?_
  refine w_reg fun all => ?_
  refine t_a (.box rfl rfl rfl) fun b46 fb46 sb46 => ?_
  refine t_a (.new rfl rfl) fun b47 fb47 sb47 => ?_
  refine t_keep [1, 2] (σ' := [(1, .pointer (some ⟨b46, 0, none⟩)), (2, .pointer (some ⟨b47, 0, none⟩))]) (by kernel_rfl) ?_
  refine t_end ?_
  show W _ _ _ _ _ _ _
  refine w_seq ?_
  refine w_reg fun all => ?_
  refine t_qz 1 [1, 2, 3] (σ' := [(1, .pointer (some ⟨b46, 0, none⟩)), (2, .pointer (some ⟨b47, 0, none⟩)), (3, .pointer (some ⟨b46, 0, none⟩))]) (by kernel_rfl) ?_
  refine t_v (.ld1 rfl rfl rfl (.at 1 rfl rfl)) ?_
  refine t_qz 2 [2, 5, 6] (σ' := [(2, .pointer (some ⟨b47, 0, none⟩)), (5, .int .i64 (Int.tmod p0_X 16777217)), (6, .pointer (some ⟨b46, 1, none⟩))]) (by kernel_rfl) ?_
  refine t_v (.ld1 rfl rfl rfl (.at 1 rfl rfl)) ?_
  refine t_qz 2 [2, 9] (σ' := [(2, .pointer (some ⟨b47, 0, none⟩)), (9, .agg #[.int .i64 (Int.tmod p0_X 16777217), .int .i64 (Int.tmod p0_Y 16777217)])]) (by kernel_rfl) ?_
  refine t_sti 0 (cs := [.int .i64 (Int.tmod p0_X 16777217), .int .i64 (Int.tmod p0_Y 16777217)]) rfl rfl rfl rfl rfl rfl rfl rfl rfl ?_
  refine t_keep [2] (σ' := [(2, .pointer (some ⟨b47, 0, none⟩))]) (by kernel_rfl) ?_
  refine t_end ?_
  show W _ _ _ _ _ _ _
  refine w_ret ?_
  simp only [Option.some.injEq, Prod.mk.injEq] at e
  obtain ⟨rfl, rfl⟩ := e
  exact ⟨[.agg #[.int .i64 (Int.tmod p0_X 16777217), .int .i64 (Int.tmod p0_Y 16777217)]], [], S, ⟨⟨_, _, _, rfl, .at 0 rfl rfl, rfl⟩, trivial⟩, VS.none, rfl, rfl, rfl⟩

/-- glyphiclaw21.size -/
def c26 : C :=
  (.seq (.reg [⟨(some 3), .box (.tmp 0), none⟩,
     ⟨(some 4), .box (.tmp 1), none⟩,
     ⟨(some 5), .box (.tmp 2), none⟩,
     ⟨(some 6), .mv (.const (.int .i64 0)), none⟩])
  (.seq (.reg [⟨(some 9), .pad 0 (.tmp 3), none⟩,
     ⟨(some 10), .ld none (.tmp 9), none⟩,
     ⟨(some 11), .pad 0 (.tmp 4), none⟩,
     ⟨(some 12), .ld none (.tmp 11), none⟩,
     ⟨(some 13), .bin .mul (.const (.int .i64 2)) (.tmp 12), none⟩,
     ⟨(some 14), .bin .sub (.tmp 10) (.tmp 13), none⟩,
     ⟨(some 15), .pad 0 (.tmp 5), none⟩,
     ⟨(some 16), .ld none (.tmp 15), none⟩,
     ⟨(some 17), .bin .add (.tmp 14) (.tmp 16), none⟩,
     ⟨(some 7), .mv (.tmp 17), none⟩])
  (.seq (.reg [⟨(some 18), .pad 1 (.tmp 3), none⟩,
     ⟨(some 19), .ld none (.tmp 18), none⟩,
     ⟨(some 20), .pad 1 (.tmp 4), none⟩,
     ⟨(some 21), .ld none (.tmp 20), none⟩,
     ⟨(some 22), .bin .mul (.const (.int .i64 2)) (.tmp 21), none⟩,
     ⟨(some 23), .bin .sub (.tmp 19) (.tmp 22), none⟩,
     ⟨(some 24), .pad 1 (.tmp 5), none⟩,
     ⟨(some 25), .ld none (.tmp 24), none⟩,
     ⟨(some 26), .bin .add (.tmp 23) (.tmp 25), none⟩,
     ⟨(some 8), .mv (.tmp 26), none⟩])
  (.seq (.seq (.reg [⟨(some 27), .mv (.tmp 7), none⟩,
      ⟨(some 28), .bin .lss (.tmp 27) (.const (.int .i64 0)), none⟩])
   (.cond (.tmp 28)
    (.reg [⟨(some 29), .mv (.tmp 7), none⟩,
       ⟨(some 30), .un .neg (.tmp 29), none⟩,
       ⟨(some 7), .mv (.tmp 30), none⟩])
    .skip))
  (.seq (.seq (.reg [⟨(some 31), .mv (.tmp 8), none⟩,
      ⟨(some 32), .bin .lss (.tmp 31) (.const (.int .i64 0)), none⟩])
   (.cond (.tmp 32)
    (.reg [⟨(some 33), .mv (.tmp 8), none⟩,
       ⟨(some 34), .un .neg (.tmp 33), none⟩,
       ⟨(some 8), .mv (.tmp 34), none⟩])
    .skip))
  (.seq (.reg [⟨(some 35), .mv (.tmp 7), none⟩,
     ⟨(some 36), .mv (.tmp 8), none⟩,
     ⟨(some 37), .bin .add (.tmp 35) (.tmp 36), none⟩,
     ⟨(some 6), .mv (.tmp 37), none⟩])
  .ret))))))
def glyphiclaw21_size.f (a0_X : Int) (a0_Y : Int) (b1_X : Int) (b1_Y : Int) (c2_X : Int) (c2_Y : Int) : Option (Int) := if (wr64 ((wr64 (a0_X - (wr64 (2 * b1_X)))) + c2_X)) < 0 then (if (wr64 ((wr64 (a0_Y - (wr64 (2 * b1_Y)))) + c2_Y)) < 0 then (some (wr64 ((wr64 (0 - (wr64 ((wr64 (a0_X - (wr64 (2 * b1_X)))) + c2_X)))) + (wr64 (0 - (wr64 ((wr64 (a0_Y - (wr64 (2 * b1_Y)))) + c2_Y))))))) else (some (wr64 ((wr64 (0 - (wr64 ((wr64 (a0_X - (wr64 (2 * b1_X)))) + c2_X)))) + (wr64 ((wr64 (a0_Y - (wr64 (2 * b1_Y)))) + c2_Y)))))) else (if (wr64 ((wr64 (a0_Y - (wr64 (2 * b1_Y)))) + c2_Y)) < 0 then (some (wr64 ((wr64 ((wr64 (a0_X - (wr64 (2 * b1_X)))) + c2_X)) + (wr64 (0 - (wr64 ((wr64 (a0_Y - (wr64 (2 * b1_Y)))) + c2_Y))))))) else (some (wr64 ((wr64 ((wr64 (a0_X - (wr64 (2 * b1_X)))) + c2_X)) + (wr64 ((wr64 (a0_Y - (wr64 (2 * b1_Y)))) + c2_Y))))))
theorem glyphiclaw21_size.ok {S : Seal} {a0_X : Int} {a0_Y : Int} {b1_X : Int} {b1_Y : Int} {c2_X : Int} {c2_Y : Int} {r0_ : Int} (e : glyphiclaw21_size.f a0_X a0_Y b1_X b1_Y c2_X c2_Y = some r0_) :
    Cal Try.prog 26 [.agg #[.int .i64 a0_X, .int .i64 a0_Y], .agg #[.int .i64 b1_X, .int .i64 b1_Y], .agg #[.int .i64 c2_X, .int .i64 c2_Y]] [] S fun v H' S' => v = .int .i64 r0_ ∧ H' = [] ∧ S' = S := by
  unfold glyphiclaw21_size.f at e
  refine cal_of (c := c26) (N := 38) Try.func26 rfl rfl (by kernel_rfl) (rs := [.t 6]) (by kernel_rfl) (Nat.le_of_ble_eq_true rfl) ?_
  unfold c26
  refine w_seq ?_
  refine w_reg fun all => ?_
  refine t_a (.box rfl rfl rfl) fun b59 fb59 sb59 => ?_
  refine t_a (.box rfl rfl rfl) fun b60 fb60 sb60 => ?_
  refine t_a (.box rfl rfl rfl) fun b61 fb61 sb61 => ?_
  refine t_qz 1 [3, 4, 5] (σ' := [(3, .pointer (some ⟨b59, 0, none⟩)), (4, .pointer (some ⟨b60, 0, none⟩)), (5, .pointer (some ⟨b61, 0, none⟩))]) (by kernel_rfl) ?_
  refine t_end ?_
  show W _ _ _ _ _ _ _
  refine w_seq ?_
  refine w_reg fun all => ?_
  refine t_qz 1 [3, 4, 5, 9] (σ' := [(3, .pointer (some ⟨b59, 0, none⟩)), (4, .pointer (some ⟨b60, 0, none⟩)), (5, .pointer (some ⟨b61, 0, none⟩)), (9, .pointer (some ⟨b59, 0, none⟩))]) (by kernel_rfl) ?_
  refine t_v (.ld1 rfl rfl rfl (.at 2 rfl rfl)) ?_
  refine t_qz 1 [3, 4, 5, 10, 11] (σ' := [(3, .pointer (some ⟨b59, 0, none⟩)), (4, .pointer (some ⟨b60, 0, none⟩)), (5, .pointer (some ⟨b61, 0, none⟩)), (10, .int .i64 a0_X), (11, .pointer (some ⟨b60, 0, none⟩))]) (by kernel_rfl) ?_
  refine t_v (.ld1 rfl rfl rfl (.at 1 rfl rfl)) ?_
  refine t_qz 3 [3, 4, 5, 14, 15] (σ' := [(3, .pointer (some ⟨b59, 0, none⟩)), (4, .pointer (some ⟨b60, 0, none⟩)), (5, .pointer (some ⟨b61, 0, none⟩)), (14, .int .i64 (wr64 (a0_X - (wr64 (2 * b1_X))))), (15, .pointer (some ⟨b61, 0, none⟩))]) (by kernel_rfl) ?_
  refine t_v (.ld1 rfl rfl rfl (.at 0 rfl rfl)) ?_
  refine t_qz 2 [3, 4, 5, 7] (σ' := [(3, .pointer (some ⟨b59, 0, none⟩)), (4, .pointer (some ⟨b60, 0, none⟩)), (5, .pointer (some ⟨b61, 0, none⟩)), (7, .int .i64 (wr64 ((wr64 (a0_X - (wr64 (2 * b1_X)))) + c2_X)))]) (by kernel_rfl) ?_
  refine t_end ?_
  show W _ _ _ _ _ _ _
  refine w_seq ?_
  refine w_reg fun all => ?_
  refine t_qz 1 [4, 5, 7, 18] (σ' := [(4, .pointer (some ⟨b60, 0, none⟩)), (5, .pointer (some ⟨b61, 0, none⟩)), (7, .int .i64 (wr64 ((wr64 (a0_X - (wr64 (2 * b1_X)))) + c2_X))), (18, .pointer (some ⟨b59, 1, none⟩))]) (by kernel_rfl) ?_
  refine t_v (.ld1 rfl rfl rfl (.at 2 rfl rfl)) ?_
  refine t_qz 1 [5, 7, 19, 20] (σ' := [(5, .pointer (some ⟨b61, 0, none⟩)), (7, .int .i64 (wr64 ((wr64 (a0_X - (wr64 (2 * b1_X)))) + c2_X))), (19, .int .i64 a0_Y), (20, .pointer (some ⟨b60, 1, none⟩))]) (by kernel_rfl) ?_
  refine t_v (.ld1 rfl rfl rfl (.at 1 rfl rfl)) ?_
  refine t_qz 3 [7, 23, 24] (σ' := [(7, .int .i64 (wr64 ((wr64 (a0_X - (wr64 (2 * b1_X)))) + c2_X))), (23, .int .i64 (wr64 (a0_Y - (wr64 (2 * b1_Y))))), (24, .pointer (some ⟨b61, 1, none⟩))]) (by kernel_rfl) ?_
  refine t_v (.ld1 rfl rfl rfl (.at 0 rfl rfl)) ?_
  refine t_qz 2 [7, 8] (σ' := [(7, .int .i64 (wr64 ((wr64 (a0_X - (wr64 (2 * b1_X)))) + c2_X))), (8, .int .i64 (wr64 ((wr64 (a0_Y - (wr64 (2 * b1_Y)))) + c2_Y)))]) (by kernel_rfl) ?_
  refine t_end ?_
  show W _ _ _ _ _ _ _
  refine w_seq ?_
  refine w_seq ?_
  refine w_reg fun all => ?_
  by_cases c62 : (wr64 ((wr64 (a0_X - (wr64 (2 * b1_X)))) + c2_X)) < 0
  · rw [if_pos c62] at e
    have c62b : (decide ((wr64 ((wr64 (a0_X - (wr64 (2 * b1_X)))) + c2_X)) < 0)) = true := decide_eq_true c62
    refine t_qz 1 [7, 8, 27] (σ' := [(7, .int .i64 (wr64 ((wr64 (a0_X - (wr64 (2 * b1_X)))) + c2_X))), (8, .int .i64 (wr64 ((wr64 (a0_Y - (wr64 (2 * b1_Y)))) + c2_Y))), (27, .int .i64 (wr64 ((wr64 (a0_X - (wr64 (2 * b1_X)))) + c2_X)))]) (by kernel_rfl) ?_
    refine t_v (dv_quiet rfl (congrArg (fun t => some (Value.bool t)) c62b)) ?_
    refine t_keep [7, 8, 28] (σ' := [(7, .int .i64 (wr64 ((wr64 (a0_X - (wr64 (2 * b1_X)))) + c2_X))), (8, .int .i64 (wr64 ((wr64 (a0_Y - (wr64 (2 * b1_Y)))) + c2_Y))), (28, .bool true)]) (by kernel_rfl) ?_
    refine t_end ?_
    show W _ _ _ _ _ _ _
    refine w_cond rfl (fun _ => ?_) (fun c_ => by cases c_)
    show W _ _ _ _ _ _ _
    refine w_reg fun all => ?_
    refine t_qz 3 [7, 8] (σ' := [(7, .int .i64 (wr64 (0 - (wr64 ((wr64 (a0_X - (wr64 (2 * b1_X)))) + c2_X))))), (8, .int .i64 (wr64 ((wr64 (a0_Y - (wr64 (2 * b1_Y)))) + c2_Y)))]) (by kernel_rfl) ?_
    refine t_end ?_
    show W _ _ _ _ _ _ _
    refine w_seq ?_
    refine w_seq ?_
    refine w_reg fun all => ?_
    by_cases c63 : (wr64 ((wr64 (a0_Y - (wr64 (2 * b1_Y)))) + c2_Y)) < 0
    · rw [if_pos c63] at e
      have c63b : (decide ((wr64 ((wr64 (a0_Y - (wr64 (2 * b1_Y)))) + c2_Y)) < 0)) = true := decide_eq_true c63
      refine t_qz 1 [7, 8, 31] (σ' := [(7, .int .i64 (wr64 (0 - (wr64 ((wr64 (a0_X - (wr64 (2 * b1_X)))) + c2_X))))), (8, .int .i64 (wr64 ((wr64 (a0_Y - (wr64 (2 * b1_Y)))) + c2_Y))), (31, .int .i64 (wr64 ((wr64 (a0_Y - (wr64 (2 * b1_Y)))) + c2_Y)))]) (by kernel_rfl) ?_
      refine t_v (dv_quiet rfl (congrArg (fun t => some (Value.bool t)) c63b)) ?_
      refine t_keep [7, 8, 32] (σ' := [(7, .int .i64 (wr64 (0 - (wr64 ((wr64 (a0_X - (wr64 (2 * b1_X)))) + c2_X))))), (8, .int .i64 (wr64 ((wr64 (a0_Y - (wr64 (2 * b1_Y)))) + c2_Y))), (32, .bool true)]) (by kernel_rfl) ?_
      refine t_end ?_
      show W _ _ _ _ _ _ _
      refine w_cond rfl (fun _ => ?_) (fun c_ => by cases c_)
      show W _ _ _ _ _ _ _
      refine w_reg fun all => ?_
      refine t_qz 3 [7, 8] (σ' := [(7, .int .i64 (wr64 (0 - (wr64 ((wr64 (a0_X - (wr64 (2 * b1_X)))) + c2_X))))), (8, .int .i64 (wr64 (0 - (wr64 ((wr64 (a0_Y - (wr64 (2 * b1_Y)))) + c2_Y)))))]) (by kernel_rfl) ?_
      refine t_end ?_
      show W _ _ _ _ _ _ _
      refine w_seq ?_
      refine w_reg fun all => ?_
      refine t_qz 4 [6] (σ' := [(6, .int .i64 (wr64 ((wr64 (0 - (wr64 ((wr64 (a0_X - (wr64 (2 * b1_X)))) + c2_X)))) + (wr64 (0 - (wr64 ((wr64 (a0_Y - (wr64 (2 * b1_Y)))) + c2_Y)))))))]) (by kernel_rfl) ?_
      refine t_end ?_
      show W _ _ _ _ _ _ _
      refine w_ret ?_
      obtain rfl := Option.some.inj e
      exact ⟨[.int .i64 (wr64 ((wr64 (0 - (wr64 ((wr64 (a0_X - (wr64 (2 * b1_X)))) + c2_X)))) + (wr64 (0 - (wr64 ((wr64 (a0_Y - (wr64 (2 * b1_Y)))) + c2_Y))))))], [], S, ⟨rfl, trivial⟩, VS.none, rfl, rfl, rfl⟩
    · rw [if_neg c63] at e
      have c63b : (decide ((wr64 ((wr64 (a0_Y - (wr64 (2 * b1_Y)))) + c2_Y)) < 0)) = false := decide_eq_false c63
      refine t_qz 1 [7, 8, 31] (σ' := [(7, .int .i64 (wr64 (0 - (wr64 ((wr64 (a0_X - (wr64 (2 * b1_X)))) + c2_X))))), (8, .int .i64 (wr64 ((wr64 (a0_Y - (wr64 (2 * b1_Y)))) + c2_Y))), (31, .int .i64 (wr64 ((wr64 (a0_Y - (wr64 (2 * b1_Y)))) + c2_Y)))]) (by kernel_rfl) ?_
      refine t_v (dv_quiet rfl (congrArg (fun t => some (Value.bool t)) c63b)) ?_
      refine t_keep [7, 8, 32] (σ' := [(7, .int .i64 (wr64 (0 - (wr64 ((wr64 (a0_X - (wr64 (2 * b1_X)))) + c2_X))))), (8, .int .i64 (wr64 ((wr64 (a0_Y - (wr64 (2 * b1_Y)))) + c2_Y))), (32, .bool false)]) (by kernel_rfl) ?_
      refine t_end ?_
      show W _ _ _ _ _ _ _
      refine w_cond rfl (fun c_ => by cases c_) (fun _ => ?_)
      show W _ _ _ _ _ _ _
      refine w_skip ?_
      show W _ _ _ _ _ _ _
      refine w_seq ?_
      refine w_reg fun all => ?_
      refine t_qz 4 [6] (σ' := [(6, .int .i64 (wr64 ((wr64 (0 - (wr64 ((wr64 (a0_X - (wr64 (2 * b1_X)))) + c2_X)))) + (wr64 ((wr64 (a0_Y - (wr64 (2 * b1_Y)))) + c2_Y)))))]) (by kernel_rfl) ?_
      refine t_end ?_
      show W _ _ _ _ _ _ _
      refine w_ret ?_
      obtain rfl := Option.some.inj e
      exact ⟨[.int .i64 (wr64 ((wr64 (0 - (wr64 ((wr64 (a0_X - (wr64 (2 * b1_X)))) + c2_X)))) + (wr64 ((wr64 (a0_Y - (wr64 (2 * b1_Y)))) + c2_Y))))], [], S, ⟨rfl, trivial⟩, VS.none, rfl, rfl, rfl⟩
  · rw [if_neg c62] at e
    have c62b : (decide ((wr64 ((wr64 (a0_X - (wr64 (2 * b1_X)))) + c2_X)) < 0)) = false := decide_eq_false c62
    refine t_qz 1 [7, 8, 27] (σ' := [(7, .int .i64 (wr64 ((wr64 (a0_X - (wr64 (2 * b1_X)))) + c2_X))), (8, .int .i64 (wr64 ((wr64 (a0_Y - (wr64 (2 * b1_Y)))) + c2_Y))), (27, .int .i64 (wr64 ((wr64 (a0_X - (wr64 (2 * b1_X)))) + c2_X)))]) (by kernel_rfl) ?_
    refine t_v (dv_quiet rfl (congrArg (fun t => some (Value.bool t)) c62b)) ?_
    refine t_keep [7, 8, 28] (σ' := [(7, .int .i64 (wr64 ((wr64 (a0_X - (wr64 (2 * b1_X)))) + c2_X))), (8, .int .i64 (wr64 ((wr64 (a0_Y - (wr64 (2 * b1_Y)))) + c2_Y))), (28, .bool false)]) (by kernel_rfl) ?_
    refine t_end ?_
    show W _ _ _ _ _ _ _
    refine w_cond rfl (fun c_ => by cases c_) (fun _ => ?_)
    show W _ _ _ _ _ _ _
    refine w_skip ?_
    show W _ _ _ _ _ _ _
    refine w_seq ?_
    refine w_seq ?_
    refine w_reg fun all => ?_
    by_cases c64 : (wr64 ((wr64 (a0_Y - (wr64 (2 * b1_Y)))) + c2_Y)) < 0
    · rw [if_pos c64] at e
      have c64b : (decide ((wr64 ((wr64 (a0_Y - (wr64 (2 * b1_Y)))) + c2_Y)) < 0)) = true := decide_eq_true c64
      refine t_qz 1 [7, 8, 31] (σ' := [(7, .int .i64 (wr64 ((wr64 (a0_X - (wr64 (2 * b1_X)))) + c2_X))), (8, .int .i64 (wr64 ((wr64 (a0_Y - (wr64 (2 * b1_Y)))) + c2_Y))), (31, .int .i64 (wr64 ((wr64 (a0_Y - (wr64 (2 * b1_Y)))) + c2_Y)))]) (by kernel_rfl) ?_
      refine t_v (dv_quiet rfl (congrArg (fun t => some (Value.bool t)) c64b)) ?_
      refine t_keep [7, 8, 32] (σ' := [(7, .int .i64 (wr64 ((wr64 (a0_X - (wr64 (2 * b1_X)))) + c2_X))), (8, .int .i64 (wr64 ((wr64 (a0_Y - (wr64 (2 * b1_Y)))) + c2_Y))), (32, .bool true)]) (by kernel_rfl) ?_
      refine t_end ?_
      show W _ _ _ _ _ _ _
      refine w_cond rfl (fun _ => ?_) (fun c_ => by cases c_)
      show W _ _ _ _ _ _ _
      refine w_reg fun all => ?_
      refine t_qz 3 [7, 8] (σ' := [(7, .int .i64 (wr64 ((wr64 (a0_X - (wr64 (2 * b1_X)))) + c2_X))), (8, .int .i64 (wr64 (0 - (wr64 ((wr64 (a0_Y - (wr64 (2 * b1_Y)))) + c2_Y)))))]) (by kernel_rfl) ?_
      refine t_end ?_
      show W _ _ _ _ _ _ _
      refine w_seq ?_
      refine w_reg fun all => ?_
      refine t_qz 4 [6] (σ' := [(6, .int .i64 (wr64 ((wr64 ((wr64 (a0_X - (wr64 (2 * b1_X)))) + c2_X)) + (wr64 (0 - (wr64 ((wr64 (a0_Y - (wr64 (2 * b1_Y)))) + c2_Y)))))))]) (by kernel_rfl) ?_
      refine t_end ?_
      show W _ _ _ _ _ _ _
      refine w_ret ?_
      obtain rfl := Option.some.inj e
      exact ⟨[.int .i64 (wr64 ((wr64 ((wr64 (a0_X - (wr64 (2 * b1_X)))) + c2_X)) + (wr64 (0 - (wr64 ((wr64 (a0_Y - (wr64 (2 * b1_Y)))) + c2_Y))))))], [], S, ⟨rfl, trivial⟩, VS.none, rfl, rfl, rfl⟩
    · rw [if_neg c64] at e
      have c64b : (decide ((wr64 ((wr64 (a0_Y - (wr64 (2 * b1_Y)))) + c2_Y)) < 0)) = false := decide_eq_false c64
      refine t_qz 1 [7, 8, 31] (σ' := [(7, .int .i64 (wr64 ((wr64 (a0_X - (wr64 (2 * b1_X)))) + c2_X))), (8, .int .i64 (wr64 ((wr64 (a0_Y - (wr64 (2 * b1_Y)))) + c2_Y))), (31, .int .i64 (wr64 ((wr64 (a0_Y - (wr64 (2 * b1_Y)))) + c2_Y)))]) (by kernel_rfl) ?_
      refine t_v (dv_quiet rfl (congrArg (fun t => some (Value.bool t)) c64b)) ?_
      refine t_keep [7, 8, 32] (σ' := [(7, .int .i64 (wr64 ((wr64 (a0_X - (wr64 (2 * b1_X)))) + c2_X))), (8, .int .i64 (wr64 ((wr64 (a0_Y - (wr64 (2 * b1_Y)))) + c2_Y))), (32, .bool false)]) (by kernel_rfl) ?_
      refine t_end ?_
      show W _ _ _ _ _ _ _
      refine w_cond rfl (fun c_ => by cases c_) (fun _ => ?_)
      show W _ _ _ _ _ _ _
      refine w_skip ?_
      show W _ _ _ _ _ _ _
      refine w_seq ?_
      refine w_reg fun all => ?_
      refine t_qz 4 [6] (σ' := [(6, .int .i64 (wr64 ((wr64 ((wr64 (a0_X - (wr64 (2 * b1_X)))) + c2_X)) + (wr64 ((wr64 (a0_Y - (wr64 (2 * b1_Y)))) + c2_Y)))))]) (by kernel_rfl) ?_
      refine t_end ?_
      show W _ _ _ _ _ _ _
      refine w_ret ?_
      obtain rfl := Option.some.inj e
      exact ⟨[.int .i64 (wr64 ((wr64 ((wr64 (a0_X - (wr64 (2 * b1_X)))) + c2_X)) + (wr64 ((wr64 (a0_Y - (wr64 (2 * b1_Y)))) + c2_Y))))], [], S, ⟨rfl, trivial⟩, VS.none, rfl, rfl, rfl⟩

/-- flatten.bend -/
def c44 : C :=
  (.seq (.reg [⟨(some 3), .box (.tmp 0), none⟩,
     ⟨(some 4), .box (.tmp 1), none⟩,
     ⟨(some 5), .box (.tmp 2), none⟩,
     ⟨(some 6), .mv (.const (.int .i64 0)), none⟩])
  (.seq (.drw [⟨(some 9), .pad 0 (.tmp 3), none⟩,
     ⟨(some 10), .ld none (.tmp 9), none⟩,
     ⟨(some 11), .pad 0 (.tmp 4), none⟩,
     ⟨(some 12), .ld none (.tmp 11), none⟩,
     ⟨(some 13), .bin .mul (.const (.int .i64 2)) (.tmp 12), none⟩,
     ⟨(some 14), .bin .sub (.tmp 10) (.tmp 13), none⟩,
     ⟨(some 15), .pad 0 (.tmp 5), none⟩,
     ⟨(some 16), .ld none (.tmp 15), none⟩,
     ⟨(some 17), .bin .add (.tmp 14) (.tmp 16), none⟩,
     ⟨(some 18), .pad 1 (.tmp 3), none⟩,
     ⟨(some 19), .ld none (.tmp 18), none⟩,
     ⟨(some 20), .pad 1 (.tmp 4), none⟩,
     ⟨(some 21), .ld none (.tmp 20), none⟩,
     ⟨(some 22), .bin .mul (.const (.int .i64 2)) (.tmp 21), none⟩,
     ⟨(some 23), .bin .sub (.tmp 19) (.tmp 22), none⟩,
     ⟨(some 24), .pad 1 (.tmp 5), none⟩,
     ⟨(some 25), .ld none (.tmp 24), none⟩,
     ⟨(some 26), .bin .add (.tmp 23) (.tmp 25), none⟩,
     ⟨(some 7), .mv (.tmp 17), none⟩,
     ⟨(some 8), .mv (.tmp 26), none⟩] [[], [0], [], [2], [3], [1, 4], [], [6], [5, 7], [], [9], [], [11], [12], [10, 13], [], [15], [14, 16], [8, 0, 1, 2, 3, 4, 5, 6, 7, 8], [17, 18, 0, 1, 2, 3, 4, 5, 6, 7, 8, 9, 10, 11, 12, 13, 14, 15, 16, 17, 18]])
  (.seq (.reg [⟨(some 27), .mv (.tmp 7), none⟩,
     ⟨(some 28), .mv (.tmp 7), none⟩,
     ⟨(some 29), .un .neg (.tmp 28), none⟩,
     ⟨(some 30), .mm true [(.tmp 27), (.tmp 29)], none⟩,
     ⟨(some 31), .mv (.tmp 8), none⟩,
     ⟨(some 32), .mv (.tmp 8), none⟩,
     ⟨(some 33), .un .neg (.tmp 32), none⟩,
     ⟨(some 34), .mm true [(.tmp 31), (.tmp 33)], none⟩,
     ⟨(some 35), .bin .add (.tmp 30) (.tmp 34), none⟩,
     ⟨(some 6), .mv (.tmp 35), none⟩])
  .ret)))
def flatten_bend.f (a0_X : Int) (a0_Y : Int) (b1_X : Int) (b1_Y : Int) (c2_X : Int) (c2_Y : Int) : Option (Int) := some (wr64 ((mx (wr64 ((wr64 (a0_X - (wr64 (2 * b1_X)))) + c2_X)) (wr64 (0 - (wr64 ((wr64 (a0_X - (wr64 (2 * b1_X)))) + c2_X))))) + (mx (wr64 ((wr64 (a0_Y - (wr64 (2 * b1_Y)))) + c2_Y)) (wr64 (0 - (wr64 ((wr64 (a0_Y - (wr64 (2 * b1_Y)))) + c2_Y)))))))
theorem flatten_bend.ok {S : Seal} {a0_X : Int} {a0_Y : Int} {b1_X : Int} {b1_Y : Int} {c2_X : Int} {c2_Y : Int} {r0_ : Int} (e : flatten_bend.f a0_X a0_Y b1_X b1_Y c2_X c2_Y = some r0_) :
    Cal Try.prog 44 [.agg #[.int .i64 a0_X, .int .i64 a0_Y], .agg #[.int .i64 b1_X, .int .i64 b1_Y], .agg #[.int .i64 c2_X, .int .i64 c2_Y]] [] S fun v H' S' => v = .int .i64 r0_ ∧ H' = [] ∧ S' = S := by
  unfold flatten_bend.f at e
  refine cal_of (c := c44) (N := 36) Try.func44 rfl rfl (by kernel_rfl) (rs := [.t 6]) (by kernel_rfl) (Nat.le_of_ble_eq_true rfl) ?_
  unfold c44
  refine w_seq ?_
  refine w_reg fun all => ?_
  refine t_a (.box rfl rfl rfl) fun b84 fb84 sb84 => ?_
  refine t_a (.box rfl rfl rfl) fun b85 fb85 sb85 => ?_
  refine t_a (.box rfl rfl rfl) fun b86 fb86 sb86 => ?_
  refine t_qz 1 [3, 4, 5] (σ' := [(3, .pointer (some ⟨b84, 0, none⟩)), (4, .pointer (some ⟨b85, 0, none⟩)), (5, .pointer (some ⟨b86, 0, none⟩))]) (by kernel_rfl) ?_
  refine t_end ?_
  show W _ _ _ _ _ _ _
  refine w_seq ?_
  refine w_drwE mixed 20 [.v (.pointer (some ⟨b84, 0, none⟩)), .v (.int .i64 a0_X), .v (.pointer (some ⟨b85, 0, none⟩)), .v (.int .i64 b1_X), .v (.int .i64 (wr64 (2 * b1_X))), .v (.int .i64 (wr64 (a0_X - (wr64 (2 * b1_X))))), .v (.pointer (some ⟨b86, 0, none⟩)), .v (.int .i64 c2_X), .v (.int .i64 (wr64 ((wr64 (a0_X - (wr64 (2 * b1_X)))) + c2_X))), .v (.pointer (some ⟨b84, 1, none⟩)), .v (.int .i64 a0_Y), .v (.pointer (some ⟨b85, 1, none⟩)), .v (.int .i64 b1_Y), .v (.int .i64 (wr64 (2 * b1_Y))), .v (.int .i64 (wr64 (a0_Y - (wr64 (2 * b1_Y))))), .v (.pointer (some ⟨b86, 1, none⟩)), .v (.int .i64 c2_Y), .v (.int .i64 (wr64 ((wr64 (a0_Y - (wr64 (2 * b1_Y)))) + c2_Y))), .v (.int .i64 (wr64 ((wr64 (a0_X - (wr64 (2 * b1_X)))) + c2_X))), .v (.int .i64 (wr64 ((wr64 (a0_Y - (wr64 (2 * b1_Y)))) + c2_Y)))] (by kernel_rfl) ?_ ?_
  · refine DI.sq 1 (by kernel_rfl) rfl ?_
    refine .cons (.ld1 rfl rfl rfl (.at 2 rfl rfl)) ?_
    refine DI.sq 1 (by kernel_rfl) rfl ?_
    refine .cons (.ld1 rfl rfl rfl (.at 1 rfl rfl)) ?_
    refine DI.sq 3 (by kernel_rfl) rfl ?_
    refine .cons (.ld1 rfl rfl rfl (.at 0 rfl rfl)) ?_
    refine DI.sq 2 (by kernel_rfl) rfl ?_
    refine .cons (.ld1 rfl rfl rfl (.at 2 rfl rfl)) ?_
    refine DI.sq 1 (by kernel_rfl) rfl ?_
    refine .cons (.ld1 rfl rfl rfl (.at 1 rfl rfl)) ?_
    refine DI.sq 3 (by kernel_rfl) rfl ?_
    refine .cons (.ld1 rfl rfl rfl (.at 0 rfl rfl)) ?_
    refine DI.sq 3 (by kernel_rfl) rfl ?_
    exact .nil
  refine fk_q 20 [7, 8] (σ' := [(7, .int .i64 (wr64 ((wr64 (a0_X - (wr64 (2 * b1_X)))) + c2_X))), (8, .int .i64 (wr64 ((wr64 (a0_Y - (wr64 (2 * b1_Y)))) + c2_Y)))]) t_more (by kernel_rfl) ?_
  refine fk_nil fun all => ?_
  refine t_keep [7, 8] (σ' := [(7, .int .i64 (wr64 ((wr64 (a0_X - (wr64 (2 * b1_X)))) + c2_X))), (8, .int .i64 (wr64 ((wr64 (a0_Y - (wr64 (2 * b1_Y)))) + c2_Y)))]) (by kernel_rfl) ?_
  refine t_end ?_
  show W _ _ _ _ _ _ _
  refine w_seq ?_
  refine w_reg fun all => ?_
  refine t_qz 10 [6] (σ' := [(6, .int .i64 (wr64 ((mx (wr64 ((wr64 (a0_X - (wr64 (2 * b1_X)))) + c2_X)) (wr64 (0 - (wr64 ((wr64 (a0_X - (wr64 (2 * b1_X)))) + c2_X))))) + (mx (wr64 ((wr64 (a0_Y - (wr64 (2 * b1_Y)))) + c2_Y)) (wr64 (0 - (wr64 ((wr64 (a0_Y - (wr64 (2 * b1_Y)))) + c2_Y))))))))]) (by kernel_rfl) ?_
  refine t_end ?_
  show W _ _ _ _ _ _ _
  refine w_ret ?_
  obtain rfl := Option.some.inj e
  exact ⟨[.int .i64 (wr64 ((mx (wr64 ((wr64 (a0_X - (wr64 (2 * b1_X)))) + c2_X)) (wr64 (0 - (wr64 ((wr64 (a0_X - (wr64 (2 * b1_X)))) + c2_X))))) + (mx (wr64 ((wr64 (a0_Y - (wr64 (2 * b1_Y)))) + c2_Y)) (wr64 (0 - (wr64 ((wr64 (a0_Y - (wr64 (2 * b1_Y)))) + c2_Y)))))))], [], S, ⟨rfl, trivial⟩, VS.none, rfl, rfl, rfl⟩

def flatten_Count.l0 : Nat → Int → Int → Option (Int)
  | 0, _, _ => none
  | k + 1, x94, x98 => if x94 > (wr64 ((wr64 (32 * x98)) * x98)) then (flatten_Count.l0 k x94 (wr64 (x98 * 2))) else (some x98)
def flatten_Count.f (k : Nat) (a0_X : Int) (a0_Y : Int) (s1_Kind : Int) (s1_P_0_X : Int) (s1_P_0_Y : Int) (s1_P_1_X : Int) (s1_P_1_Y : Int) (s1_P_2_X : Int) (s1_P_2_Y : Int) : Option (Int) := (if s1_Kind = 1 then (some (.inr 0)) else (if s1_Kind = 2 then ((flatten_bend.f a0_X a0_Y s1_P_0_X s1_P_0_Y s1_P_1_X s1_P_1_Y).bind fun t87 => (some (.inr t87))) else (if s1_Kind = 3 then ((flatten_bend.f a0_X a0_Y s1_P_0_X s1_P_0_Y s1_P_1_X s1_P_1_Y).bind fun t90 => ((flatten_bend.f s1_P_0_X s1_P_0_Y s1_P_1_X s1_P_1_Y s1_P_2_X s1_P_2_Y).bind fun t92 => (some (.inr (wr64 (3 * (mx t90 t92))))))) else (some (.inl 0)))) : Option ((Int) ⊕ (Int))).bind fun s_ => match s_ with | .inl q103 => some q103 | .inr x94 => ((flatten_Count.l0 k x94 1 : Option (Int)).bind fun x102 => (some x102))
theorem flatten_Count.ok {S : Seal} {k : Nat} {a0_X : Int} {a0_Y : Int} {s1_Kind : Int} {s1_P_0_X : Int} {s1_P_0_Y : Int} {s1_P_1_X : Int} {s1_P_1_Y : Int} {s1_P_2_X : Int} {s1_P_2_Y : Int} {r0_ : Int} (e : flatten_Count.f k a0_X a0_Y s1_Kind s1_P_0_X s1_P_0_Y s1_P_1_X s1_P_1_Y s1_P_2_X s1_P_2_Y = some r0_) :
    Cal Try.prog 27 [.agg #[.int .i64 a0_X, .int .i64 a0_Y], .agg #[.int .i64 s1_Kind, .int .i64 s1_P_0_X, .int .i64 s1_P_0_Y, .int .i64 s1_P_1_X, .int .i64 s1_P_1_Y, .int .i64 s1_P_2_X, .int .i64 s1_P_2_Y]] [] S fun v H' S' => v = .int .i64 r0_ ∧ H' = [] ∧ S' = S := by
  unfold flatten_Count.f at e
  refine cal_of (c := c27) (N := 52) Try.func27 rfl rfl (by kernel_rfl) (rs := [.t 4]) (by kernel_rfl) (Nat.le_of_ble_eq_true rfl) ?_
  unfold c27
  refine w_seq ?_
  refine w_reg fun all => ?_
  refine t_a (.box rfl rfl rfl) fun b80 fb80 sb80 => ?_
  refine t_a (.box rfl rfl rfl) fun b81 fb81 sb81 => ?_
  refine t_qz 1 [2, 3] (σ' := [(2, .pointer (some ⟨b80, 0, none⟩)), (3, .pointer (some ⟨b81, 0, none⟩))]) (by kernel_rfl) ?_
  refine t_end ?_
  show W _ _ _ _ _ _ _
  refine w_seq ?_
  refine w_reg fun all => ?_
  refine t_qz 1 [2, 3, 5] (σ' := [(2, .pointer (some ⟨b80, 0, none⟩)), (3, .pointer (some ⟨b81, 0, none⟩)), (5, .int .i64 0)]) (by kernel_rfl) ?_
  refine t_end ?_
  show W _ _ _ _ _ _ _
  obtain ⟨s84, e83, e⟩ := bind_of e
  refine w_cut [5] (fun σ_ H_ S_ => ∃ x94, s84 = .inr x94 ∧ [(5, .int .i64 x94)] = σ_ ∧ ([⟨b81, [.int .i64 s1_Kind, .int .i64 s1_P_0_X, .int .i64 s1_P_0_Y, .int .i64 s1_P_1_X, .int .i64 s1_P_1_Y, .int .i64 s1_P_2_X, .int .i64 s1_P_2_Y], 7⟩, ⟨b80, [.int .i64 a0_X, .int .i64 a0_Y], 2⟩] : List Own) = H_ ∧ S = S_) ?_ ?_
  · show W _ _ _ _ _ _ _
    refine w_seq ?_
    refine w_reg fun all => ?_
    refine t_qz 1 [2, 3, 5, 7] (σ' := [(2, .pointer (some ⟨b80, 0, none⟩)), (3, .pointer (some ⟨b81, 0, none⟩)), (5, .int .i64 0), (7, .pointer (some ⟨b81, 0, none⟩))]) (by kernel_rfl) ?_
    refine t_v (.ld1 rfl rfl rfl (.at 0 rfl rfl)) ?_
    refine t_keep [2, 3, 5, 8] (σ' := [(2, .pointer (some ⟨b80, 0, none⟩)), (3, .pointer (some ⟨b81, 0, none⟩)), (5, .int .i64 0), (8, .int .i64 s1_Kind)]) (by kernel_rfl) ?_
    refine t_end ?_
    show W _ _ _ _ _ _ _
    refine w_block ?_
    refine w_seq ?_
    refine w_reg fun all => ?_
    by_cases c85 : s1_Kind = 1
    · rw [if_pos c85] at e83
      have c85b : (s1_Kind == 1) = true := beq_iff_eq.mpr c85
      refine t_v (dv_quiet rfl (congrArg (fun t => some (Value.bool t)) c85b)) ?_
      refine t_qz 1 [2, 3, 5, 8, 9] (σ' := [(2, .pointer (some ⟨b80, 0, none⟩)), (3, .pointer (some ⟨b81, 0, none⟩)), (5, .int .i64 0), (8, .int .i64 s1_Kind), (9, .bool true)]) (by kernel_rfl) ?_
      refine t_end ?_
      show W _ _ _ _ _ _ _
      refine w_cond rfl (fun _ => ?_) (fun c_ => by cases c_)
      show W _ _ _ _ _ _ _
      refine w_skip ?_
      obtain rfl := Option.some.inj e83
      exact ⟨([⟨b81, [.int .i64 s1_Kind, .int .i64 s1_P_0_X, .int .i64 s1_P_0_Y, .int .i64 s1_P_1_X, .int .i64 s1_P_1_Y, .int .i64 s1_P_2_X, .int .i64 s1_P_2_Y], 7⟩, ⟨b80, [.int .i64 a0_X, .int .i64 a0_Y], 2⟩] : List Own), S, VS.sel [0, 0] (by kernel_rfl), 0, rfl, by kernel_rfl, rfl, rfl⟩
    · rw [if_neg c85] at e83
      have c85b : (s1_Kind == 1) = false := beq_eq_false_iff_ne.mpr c85
      refine t_v (dv_quiet rfl (congrArg (fun t => some (Value.bool t)) c85b)) ?_
      refine t_qz 1 [2, 3, 5, 8, 9] (σ' := [(2, .pointer (some ⟨b80, 0, none⟩)), (3, .pointer (some ⟨b81, 0, none⟩)), (5, .int .i64 0), (8, .int .i64 s1_Kind), (9, .bool false)]) (by kernel_rfl) ?_
      refine t_end ?_
      show W _ _ _ _ _ _ _
      refine w_cond rfl (fun c_ => by cases c_) (fun _ => ?_)
      show W _ _ _ _ _ _ _
      refine w_seq ?_
      refine w_reg fun all => ?_
      by_cases c86 : s1_Kind = 2
      · rw [if_pos c86] at e83
        have c86b : (s1_Kind == 2) = true := beq_iff_eq.mpr c86
        refine t_v (dv_quiet rfl (congrArg (fun t => some (Value.bool t)) c86b)) ?_
        refine t_qz 1 [2, 3, 8, 11] (σ' := [(2, .pointer (some ⟨b80, 0, none⟩)), (3, .pointer (some ⟨b81, 0, none⟩)), (8, .int .i64 s1_Kind), (11, .bool true)]) (by kernel_rfl) ?_
        refine t_end ?_
        show W _ _ _ _ _ _ _
        refine w_cond rfl (fun _ => ?_) (fun c_ => by cases c_)
        show W _ _ _ _ _ _ _
        refine w_reg fun all => ?_
        refine t_v (.ldn rfl rfl rfl (.at 1 rfl rfl)) ?_
        refine t_qz 2 [3, 13, 15] (σ' := [(3, .pointer (some ⟨b81, 0, none⟩)), (13, .agg #[.int .i64 a0_X, .int .i64 a0_Y]), (15, .pointer (some ⟨b81, 1, none⟩))]) (by kernel_rfl) ?_
        refine t_v (.ldn rfl rfl rfl (.at 0 rfl rfl)) ?_
        refine t_qz 2 [13, 16, 18] (σ' := [(13, .agg #[.int .i64 a0_X, .int .i64 a0_Y]), (16, .agg #[.int .i64 s1_P_0_X, .int .i64 s1_P_0_Y]), (18, .pointer (some ⟨b81, 3, none⟩))]) (by kernel_rfl) ?_
        refine t_v (.ldn rfl rfl rfl (.at 0 rfl rfl)) ?_
        obtain ⟨t87, h88, e83⟩ := bind_of e83
        refine t_v (.call (vs := [.agg #[.int .i64 a0_X, .int .i64 a0_Y], .agg #[.int .i64 s1_P_0_X, .int .i64 s1_P_0_Y], .agg #[.int .i64 s1_P_1_X, .int .i64 s1_P_1_Y]]) rfl rfl (by kernel_rfl) (flatten_bend.ok h88)) ?_
        refine t_qz 1 [5] (σ' := [(5, .int .i64 t87)]) (by kernel_rfl) ?_
        refine t_end ?_
        obtain rfl := Option.some.inj e83
        exact ⟨([⟨b81, [.int .i64 s1_Kind, .int .i64 s1_P_0_X, .int .i64 s1_P_0_Y, .int .i64 s1_P_1_X, .int .i64 s1_P_1_Y, .int .i64 s1_P_2_X, .int .i64 s1_P_2_Y], 7⟩, ⟨b80, [.int .i64 a0_X, .int .i64 a0_Y], 2⟩] : List Own), S, VS.sel [0, 0] (by kernel_rfl), t87, rfl, by kernel_rfl, rfl, rfl⟩
      · rw [if_neg c86] at e83
        have c86b : (s1_Kind == 2) = false := beq_eq_false_iff_ne.mpr c86
        refine t_v (dv_quiet rfl (congrArg (fun t => some (Value.bool t)) c86b)) ?_
        refine t_qz 1 [2, 3, 8, 11] (σ' := [(2, .pointer (some ⟨b80, 0, none⟩)), (3, .pointer (some ⟨b81, 0, none⟩)), (8, .int .i64 s1_Kind), (11, .bool false)]) (by kernel_rfl) ?_
        refine t_end ?_
        show W _ _ _ _ _ _ _
        refine w_cond rfl (fun c_ => by cases c_) (fun _ => ?_)
        show W _ _ _ _ _ _ _
        refine w_seq ?_
        refine w_reg fun all => ?_
        by_cases c89 : s1_Kind = 3
        · rw [if_pos c89] at e83
          have c89b : (s1_Kind == 3) = true := beq_iff_eq.mpr c89
          refine t_v (dv_quiet rfl (congrArg (fun t => some (Value.bool t)) c89b)) ?_
          refine t_qz 1 [2, 3, 21] (σ' := [(2, .pointer (some ⟨b80, 0, none⟩)), (3, .pointer (some ⟨b81, 0, none⟩)), (21, .bool true)]) (by kernel_rfl) ?_
          refine t_end ?_
          show W _ _ _ _ _ _ _
          refine w_cond rfl (fun _ => ?_) (fun c_ => by cases c_)
          show W _ _ _ _ _ _ _
          obtain ⟨t90, h91, e83⟩ := bind_of e83
          obtain ⟨t92, h93, e83⟩ := bind_of e83
          refine w_drwE mixed 21 [.v (.agg #[.int .i64 a0_X, .int .i64 a0_Y]), .v (.pointer (some ⟨b81, 1, none⟩)), .v (.pointer (some ⟨b81, 1, none⟩)), .v (.agg #[.int .i64 s1_P_0_X, .int .i64 s1_P_0_Y]), .v (.pointer (some ⟨b81, 1, none⟩)), .v (.pointer (some ⟨b81, 3, none⟩)), .v (.agg #[.int .i64 s1_P_1_X, .int .i64 s1_P_1_Y]), .v (.int .i64 t90), .v (.pointer (some ⟨b81, 1, none⟩)), .v (.pointer (some ⟨b81, 1, none⟩)), .v (.agg #[.int .i64 s1_P_0_X, .int .i64 s1_P_0_Y]), .v (.pointer (some ⟨b81, 1, none⟩)), .v (.pointer (some ⟨b81, 3, none⟩)), .v (.agg #[.int .i64 s1_P_1_X, .int .i64 s1_P_1_Y]), .v (.pointer (some ⟨b81, 1, none⟩)), .v (.pointer (some ⟨b81, 5, none⟩)), .v (.agg #[.int .i64 s1_P_2_X, .int .i64 s1_P_2_Y]), .v (.int .i64 t92), .v (.int .i64 (mx t90 t92)), .v (.int .i64 (wr64 (3 * (mx t90 t92)))), .v (.int .i64 (wr64 (3 * (mx t90 t92))))] (by kernel_rfl) ?_ ?_
          · refine .cons (.ldn rfl rfl rfl (.at 1 rfl rfl)) ?_
            refine DI.sq 2 (by kernel_rfl) rfl ?_
            refine .cons (.ldn rfl rfl rfl (.at 0 rfl rfl)) ?_
            refine DI.sq 2 (by kernel_rfl) rfl ?_
            refine .cons (.ldn rfl rfl rfl (.at 0 rfl rfl)) ?_
            refine .cons (.call (vs := [.agg #[.int .i64 a0_X, .int .i64 a0_Y], .agg #[.int .i64 s1_P_0_X, .int .i64 s1_P_0_Y], .agg #[.int .i64 s1_P_1_X, .int .i64 s1_P_1_Y]]) rfl rfl (by kernel_rfl) (flatten_bend.ok h91)) ?_
            refine DI.sq 2 (by kernel_rfl) rfl ?_
            refine .cons (.ldn rfl rfl rfl (.at 0 rfl rfl)) ?_
            refine DI.sq 2 (by kernel_rfl) rfl ?_
            refine .cons (.ldn rfl rfl rfl (.at 0 rfl rfl)) ?_
            refine DI.sq 2 (by kernel_rfl) rfl ?_
            refine .cons (.ldn rfl rfl rfl (.at 0 rfl rfl)) ?_
            refine .cons (.call (vs := [.agg #[.int .i64 s1_P_0_X, .int .i64 s1_P_0_Y], .agg #[.int .i64 s1_P_1_X, .int .i64 s1_P_1_Y], .agg #[.int .i64 s1_P_2_X, .int .i64 s1_P_2_Y]]) rfl rfl (by kernel_rfl) (flatten_bend.ok h93)) ?_
            refine DI.sq 3 (by kernel_rfl) rfl ?_
            exact .nil
          refine fk_q 21 [5] (σ' := [(5, .int .i64 (wr64 (3 * (mx t90 t92))))]) t_more (by kernel_rfl) ?_
          refine fk_nil fun all => ?_
          refine t_keep [5] (σ' := [(5, .int .i64 (wr64 (3 * (mx t90 t92))))]) (by kernel_rfl) ?_
          refine t_end ?_
          obtain rfl := Option.some.inj e83
          exact ⟨([⟨b81, [.int .i64 s1_Kind, .int .i64 s1_P_0_X, .int .i64 s1_P_0_Y, .int .i64 s1_P_1_X, .int .i64 s1_P_1_Y, .int .i64 s1_P_2_X, .int .i64 s1_P_2_Y], 7⟩, ⟨b80, [.int .i64 a0_X, .int .i64 a0_Y], 2⟩] : List Own), S, VS.sel [0, 0] (by kernel_rfl), wr64 (3 * (mx t90 t92)), rfl, by kernel_rfl, rfl, rfl⟩
        · rw [if_neg c89] at e83
          have c89b : (s1_Kind == 3) = false := beq_eq_false_iff_ne.mpr c89
          refine t_v (dv_quiet rfl (congrArg (fun t => some (Value.bool t)) c89b)) ?_
          refine t_qz 1 [2, 3, 21] (σ' := [(2, .pointer (some ⟨b80, 0, none⟩)), (3, .pointer (some ⟨b81, 0, none⟩)), (21, .bool false)]) (by kernel_rfl) ?_
          refine t_end ?_
          show W _ _ _ _ _ _ _
          refine w_cond rfl (fun c_ => by cases c_) (fun _ => ?_)
          show W _ _ _ _ _ _ _
          refine w_seq ?_
          refine w_reg fun all => ?_
          refine t_qz 1 [4] (σ' := [(4, .int .i64 0)]) (by kernel_rfl) ?_
          refine t_end ?_
          show W _ _ _ _ _ _ _
          refine w_ret ?_
          obtain rfl := Option.some.inj e83
          obtain rfl := Option.some.inj e
          exact ⟨[.int .i64 0], [], S, ⟨rfl, trivial⟩, VS.none, rfl, rfl, rfl⟩
  · rintro σ_ H_ S_ ⟨x94, rfl, rfl, rfl, rfl⟩
    dsimp only at e
    refine w_seq ?_
    refine w_reg fun all => ?_
    refine t_qz 1 [5, 6] (σ' := [(5, .int .i64 x94), (6, .int .i64 1)]) (by kernel_rfl) ?_
    refine t_end ?_
    show W _ _ _ _ _ _ _
    obtain ⟨x102, e96, e⟩ := bind_of e
    refine w_cut [6] (fun σ_ H_ S_ => [(6, .int .i64 x102)] = σ_ ∧ ([⟨b81, [.int .i64 s1_Kind, .int .i64 s1_P_0_X, .int .i64 s1_P_0_Y, .int .i64 s1_P_1_X, .int .i64 s1_P_1_Y, .int .i64 s1_P_2_X, .int .i64 s1_P_2_Y], 7⟩, ⟨b80, [.int .i64 a0_X, .int .i64 a0_Y], 2⟩] : List Own) = H_ ∧ S = S_) ?_ ?_
    · show W _ _ _ _ _ _ _
      refine w_block ?_
      refine w_kp [5, 6] (σ' := [(5, .int .i64 x94), (6, .int .i64 1)]) (by kernel_rfl) ?_
      refine w_loop (fun n_ σ_ H_ S_ => ∃ x98, [(5, .int .i64 x94), (6, .int .i64 x98)] = σ_ ∧ ([⟨b81, [.int .i64 s1_Kind, .int .i64 s1_P_0_X, .int .i64 s1_P_0_Y, .int .i64 s1_P_1_X, .int .i64 s1_P_1_Y, .int .i64 s1_P_2_X, .int .i64 s1_P_2_Y], 7⟩, ⟨b80, [.int .i64 a0_X, .int .i64 a0_Y], 2⟩] : List Own) = H_ ∧ S = S_ ∧ flatten_Count.l0 n_ x94 x98 = some x102) _ ⟨1, rfl, rfl, rfl, e96⟩ ?_
      rintro n101 σ_ H_ S_ ⟨x98, rfl, rfl, rfl, e96⟩
      cases n101 with
      | zero => rw [flatten_Count.l0.eq_1] at e96; cases e96
      | succ k_ =>
        rw [flatten_Count.l0.eq_2] at e96
        refine w_seq ?_
        refine w_seq ?_
        refine w_reg fun all => ?_
        by_cases c99 : x94 > (wr64 ((wr64 (32 * x98)) * x98))
        · rw [if_pos c99] at e96
          have c99b : (decide (x94 > (wr64 ((wr64 (32 * x98)) * x98)))) = true := decide_eq_true c99
          refine t_qz 5 [5, 6, 43, 47] (σ' := [(5, .int .i64 x94), (6, .int .i64 x98), (43, .int .i64 x94), (47, .int .i64 (wr64 ((wr64 (32 * x98)) * x98)))]) (by kernel_rfl) ?_
          refine t_v (dv_quiet rfl (congrArg (fun t => some (Value.bool t)) c99b)) ?_
          refine t_keep [5, 6, 48] (σ' := [(5, .int .i64 x94), (6, .int .i64 x98), (48, .bool true)]) (by kernel_rfl) ?_
          refine t_end ?_
          show W _ _ _ _ _ _ _
          refine w_cond rfl (fun _ => ?_) (fun c_ => by cases c_)
          show W _ _ _ _ _ _ _
          refine w_skip ?_
          show W _ _ _ _ _ _ _
          refine w_block ?_
          refine w_reg fun all => ?_
          refine t_qz 3 [5, 6] (σ' := [(5, .int .i64 x94), (6, .int .i64 (wr64 (x98 * 2)))]) (by kernel_rfl) ?_
          refine t_end ?_
          exact ⟨k_, Nat.lt_succ_self _, [(5, .int .i64 x94), (6, .int .i64 (wr64 (x98 * 2)))], ([⟨b81, [.int .i64 s1_Kind, .int .i64 s1_P_0_X, .int .i64 s1_P_0_Y, .int .i64 s1_P_1_X, .int .i64 s1_P_1_Y, .int .i64 s1_P_2_X, .int .i64 s1_P_2_Y], 7⟩, ⟨b80, [.int .i64 a0_X, .int .i64 a0_Y], 2⟩] : List Own), S, keep_sub [5, 6] (by kernel_rfl), VS.sel [0, 0] (by kernel_rfl), wr64 (x98 * 2), rfl, rfl, rfl, e96⟩
        · rw [if_neg c99] at e96
          have c99b : (decide (x94 > (wr64 ((wr64 (32 * x98)) * x98)))) = false := decide_eq_false c99
          refine t_qz 5 [5, 6, 43, 47] (σ' := [(5, .int .i64 x94), (6, .int .i64 x98), (43, .int .i64 x94), (47, .int .i64 (wr64 ((wr64 (32 * x98)) * x98)))]) (by kernel_rfl) ?_
          refine t_v (dv_quiet rfl (congrArg (fun t => some (Value.bool t)) c99b)) ?_
          refine t_keep [5, 6, 48] (σ' := [(5, .int .i64 x94), (6, .int .i64 x98), (48, .bool false)]) (by kernel_rfl) ?_
          refine t_end ?_
          show W _ _ _ _ _ _ _
          refine w_cond rfl (fun c_ => by cases c_) (fun _ => ?_)
          show W _ _ _ _ _ _ _
          refine w_exit ?_
          obtain rfl := Option.some.inj e96
          exact ⟨([⟨b81, [.int .i64 s1_Kind, .int .i64 s1_P_0_X, .int .i64 s1_P_0_Y, .int .i64 s1_P_1_X, .int .i64 s1_P_1_Y, .int .i64 s1_P_2_X, .int .i64 s1_P_2_Y], 7⟩, ⟨b80, [.int .i64 a0_X, .int .i64 a0_Y], 2⟩] : List Own), S, VS.sel [0, 0] (by kernel_rfl), by kernel_rfl, rfl, rfl⟩
    · rintro σ_ H_ S_ ⟨rfl, rfl, rfl⟩
      refine w_seq ?_
      refine w_reg fun all => ?_
      refine t_qz 2 [4] (σ' := [(4, .int .i64 x102)]) (by kernel_rfl) ?_
      refine t_end ?_
      show W _ _ _ _ _ _ _
      refine w_ret ?_
      obtain rfl := Option.some.inj e
      exact ⟨[.int .i64 x102], [], S, ⟨rfl, trivial⟩, VS.none, rfl, rfl, rfl⟩

/-- glyphiclaw21.FlattenCounts -/
def c8 : C :=
  (.seq (.reg [⟨(some 5), .box (.tmp 0), none⟩,
     ⟨(some 6), .box (.tmp 1), none⟩,
     ⟨(some 7), .box (.tmp 2), none⟩,
     ⟨(some 8), .box (.tmp 3), none⟩,
     ⟨(some 10), .mv (.const (.bool false)), none⟩])
  (.seq (.reg [⟨(some 15), .call 22 [], none⟩,
     ⟨(some 11), .mv (.tmp 15), none⟩])
  (.seq (.seq (.reg [⟨(some 16), .mv (.tmp 11), none⟩,
      ⟨(some 17), .un .not (.tmp 16), none⟩])
   (.cond (.tmp 17)
    (.seq (.reg [⟨(some 10), .mv (.const (.bool false)), none⟩])
     .ret)
    .skip))
  (.seq (.drw [⟨(some 18), .ld (some 2) (.tmp 5), none⟩,
     ⟨(some 19), .call 25 [(.tmp 18)], none⟩,
     ⟨(some 20), .ld (some 2) (.tmp 6), none⟩,
     ⟨(some 21), .call 25 [(.tmp 20)], none⟩,
     ⟨(some 22), .ld (some 2) (.tmp 7), none⟩,
     ⟨(some 23), .call 25 [(.tmp 22)], none⟩,
     ⟨(some 24), .ld (some 2) (.tmp 8), none⟩,
     ⟨(some 25), .call 25 [(.tmp 24)], none⟩,
     ⟨none, .st 2 (.tmp 5) (.tmp 19), none⟩,
     ⟨none, .st 2 (.tmp 6) (.tmp 21), none⟩,
     ⟨none, .st 2 (.tmp 7) (.tmp 23), none⟩,
     ⟨none, .st 2 (.tmp 8) (.tmp 25), none⟩] [[], [0], [], [2, 1], [], [4, 3], [], [6, 5], [1, 7, 0, 1], [3, 8, 0, 1, 2, 3, 8], [5, 9, 0, 1, 2, 3, 4, 5, 8, 9], [7, 10, 0, 1, 2, 3, 4, 5, 6, 7, 8, 9, 10]])
  (.seq (.reg [⟨(some 26), .ld (some 2) (.tmp 6), none⟩,
     ⟨(some 27), .ld (some 2) (.tmp 7), none⟩,
     ⟨(some 28), .bld [(.int .i64 0), (.int .i64 0), (.int .i64 0), (.int .i64 0), (.int .i64 0), (.int .i64 0)] [(0, 2, (.tmp 26)), (2, 2, (.tmp 27))], none⟩,
     ⟨(some 29), .bld [(.int .i64 0), (.int .i64 0), (.int .i64 0), (.int .i64 0), (.int .i64 0), (.int .i64 0), (.int .i64 0)] [(0, 1, (.const (.int .i64 2))), (1, 6, (.tmp 28))], none⟩,
     ⟨(some 12), .new [(.int .i64 0), (.int .i64 0), (.int .i64 0), (.int .i64 0), (.int .i64 0), (.int .i64 0), (.int .i64 0)], none⟩,
     ⟨none, .st 7 (.tmp 12) (.tmp 29), none⟩])
  (.seq (.reg [⟨(some 30), .ld (some 2) (.tmp 5), none⟩,
     ⟨(some 31), .ld (some 2) (.tmp 6), none⟩,
     ⟨(some 32), .ld (some 2) (.tmp 7), none⟩,
     ⟨(some 33), .call 26 [(.tmp 30), (.tmp 31), (.tmp 32)], none⟩,
     ⟨(some 13), .mv (.tmp 33), none⟩])
  (.seq (.seq (.reg [⟨(some 34), .mv (.tmp 4), none⟩])
   (.cond (.tmp 34)
    (.seq (.reg [⟨(some 35), .ld (some 2) (.tmp 6), none⟩,
        ⟨(some 36), .ld (some 2) (.tmp 7), none⟩,
        ⟨(some 37), .ld (some 2) (.tmp 8), none⟩,
        ⟨(some 38), .bld [(.int .i64 0), (.int .i64 0), (.int .i64 0), (.int .i64 0), (.int .i64 0), (.int .i64 0)] [(0, 2, (.tmp 35)), (2, 2, (.tmp 36)), (4, 2, (.tmp 37))], none⟩,
        ⟨(some 39), .bld [(.int .i64 0), (.int .i64 0), (.int .i64 0), (.int .i64 0), (.int .i64 0), (.int .i64 0), (.int .i64 0)] [(0, 1, (.const (.int .i64 3))), (1, 6, (.tmp 38))], none⟩,
        ⟨none, .st 7 (.tmp 12) (.tmp 39), none⟩])
     (.drw [⟨(some 40), .ld (some 2) (.tmp 5), none⟩,
       ⟨(some 41), .ld (some 2) (.tmp 6), none⟩,
       ⟨(some 42), .ld (some 2) (.tmp 7), none⟩,
       ⟨(some 43), .call 26 [(.tmp 40), (.tmp 41), (.tmp 42)], none⟩,
       ⟨(some 44), .ld (some 2) (.tmp 6), none⟩,
       ⟨(some 45), .ld (some 2) (.tmp 7), none⟩,
       ⟨(some 46), .ld (some 2) (.tmp 8), none⟩,
       ⟨(some 47), .call 26 [(.tmp 44), (.tmp 45), (.tmp 46)], none⟩,
       ⟨(some 48), .mm true [(.tmp 43), (.tmp 47)], none⟩,
       ⟨(some 49), .bin .mul (.const (.int .i64 3)) (.tmp 48), none⟩,
       ⟨(some 13), .mv (.tmp 49), none⟩] [[], [], [], [0, 1, 2], [], [], [], [4, 5, 6, 3], [3, 7], [8], [9, 7, 0, 1, 2, 3, 4, 5, 6, 7, 8, 9]]))
    .skip))
  (.seq (.reg [⟨(some 50), .ld (some 2) (.tmp 5), none⟩,
     ⟨(some 51), .ld (some 7) (.tmp 12), none⟩,
     ⟨(some 52), .call 27 [(.tmp 50), (.tmp 51)], none⟩,
     ⟨(some 14), .mv (.tmp 52), none⟩])
  (.seq (.seq (.reg [⟨(some 53), .mv (.tmp 14), none⟩,
      ⟨(some 54), .bin .lss (.tmp 53) (.const (.int .i64 1)), none⟩,
      ⟨(some 55), .mv (.tmp 54), none⟩,
      ⟨(some 56), .mv (.tmp 14), (some (55, false))⟩,
      ⟨(some 57), .bin .gtr (.tmp 56) (.const (.int .i64 8192)), (some (55, false))⟩,
      ⟨(some 58), .pk (.tmp 55) (.const (.bool true)) (.tmp 57), none⟩,
      ⟨(some 59), .mv (.tmp 58), none⟩,
      ⟨(some 60), .mv (.tmp 14), (some (59, false))⟩,
      ⟨(some 61), .mv (.tmp 14), (some (59, false))⟩,
      ⟨(some 62), .bin .sub (.tmp 61) (.const (.int .i64 1)), (some (59, false))⟩,
      ⟨(some 63), .bin .and (.tmp 60) (.tmp 62), (some (59, false))⟩,
      ⟨(some 64), .bin .neq (.tmp 63) (.const (.int .i64 0)), (some (59, false))⟩,
      ⟨(some 65), .pk (.tmp 59) (.const (.bool true)) (.tmp 64), none⟩])
   (.cond (.tmp 65)
    (.seq (.reg [⟨(some 10), .mv (.const (.bool false)), none⟩])
     .ret)
    .skip))
  (.seq (.reg [⟨(some 66), .mv (.tmp 11), none⟩,
     ⟨(some 67), .mv (.tmp 66), none⟩,
     ⟨(some 68), .mv (.tmp 13), (some (67, true))⟩,
     ⟨(some 69), .mv (.tmp 14), (some (67, true))⟩,
     ⟨(some 70), .bin .mul (.const (.int .i64 32)) (.tmp 69), (some (67, true))⟩,
     ⟨(some 71), .mv (.tmp 14), (some (67, true))⟩,
     ⟨(some 72), .bin .mul (.tmp 70) (.tmp 71), (some (67, true))⟩,
     ⟨(some 73), .bin .leq (.tmp 68) (.tmp 72), (some (67, true))⟩,
     ⟨(some 74), .pk (.tmp 67) (.tmp 73) (.const (.bool false)), none⟩,
     ⟨(some 75), .mv (.tmp 74), none⟩,
     ⟨(some 76), .mv (.tmp 14), (some (75, true))⟩,
     ⟨(some 77), .bin .eql (.tmp 76) (.const (.int .i64 1)), (some (75, true))⟩,
     ⟨(some 78), .mv (.tmp 77), (some (75, true))⟩,
     ⟨(some 79), .mv (.tmp 13), (some (78, false))⟩,
     ⟨(some 80), .mv (.tmp 14), (some (78, false))⟩,
     ⟨(some 81), .bin .mul (.const (.int .i64 8)) (.tmp 80), (some (78, false))⟩,
     ⟨(some 82), .mv (.tmp 14), (some (78, false))⟩,
     ⟨(some 83), .bin .mul (.tmp 81) (.tmp 82), (some (78, false))⟩,
     ⟨(some 84), .bin .gtr (.tmp 79) (.tmp 83), (some (78, false))⟩,
     ⟨(some 85), .pk (.tmp 78) (.const (.bool true)) (.tmp 84), (some (75, true))⟩,
     ⟨(some 86), .pk (.tmp 75) (.tmp 85) (.const (.bool false)), none⟩,
     ⟨(some 87), .mv (.tmp 86), none⟩,
     ⟨(some 88), .ld (some 2) (.tmp 5), (some (87, true))⟩,
     ⟨(some 89), .ld (some 2) (.tmp 6), (some (87, true))⟩,
     ⟨(some 90), .bld [(.int .i64 0), (.int .i64 0), (.int .i64 0), (.int .i64 0), (.int .i64 0), (.int .i64 0)] [(0, 2, (.tmp 89))], (some (87, true))⟩,
     ⟨(some 91), .bld [(.int .i64 0), (.int .i64 0), (.int .i64 0), (.int .i64 0), (.int .i64 0), (.int .i64 0), (.int .i64 0)] [(0, 1, (.const (.int .i64 1))), (1, 6, (.tmp 90))], (some (87, true))⟩,
     ⟨(some 92), .call 27 [(.tmp 88), (.tmp 91)], (some (87, true))⟩,
     ⟨(some 93), .bin .eql (.tmp 92) (.const (.int .i64 1)), (some (87, true))⟩,
     ⟨(some 94), .pk (.tmp 87) (.tmp 93) (.const (.bool false)), none⟩,
     ⟨(some 10), .mv (.tmp 94), none⟩])
  .ret))))))))))
def glyphiclaw21_FlattenCounts.f (k : Nat) (a0_X : Int) (a0_Y : Int) (b1_X : Int) (b1_Y : Int) (c2_X : Int) (c2_Y : Int) (d3_X : Int) (d3_Y : Int) (cubic4 : Bool) : Option (Bool) := (glyphiclaw21_first.f).bind fun t44 => (if t44 = true then ((glyphiclaw21_cut.f a0_X a0_Y).bind fun (t46, t47) => ((glyphiclaw21_cut.f b1_X b1_Y).bind fun (t49, t50) => ((glyphiclaw21_cut.f c2_X c2_Y).bind fun (t52, t53) => ((glyphiclaw21_cut.f d3_X d3_Y).bind fun (t55, t56) => ((glyphiclaw21_size.f t46 t47 t49 t50 t52 t53).bind fun t65 => ((if cubic4 = true then ((glyphiclaw21_size.f t46 t47 t49 t50 t52 t53).bind fun t71 => ((glyphiclaw21_size.f t49 t50 t52 t53 t55 t56).bind fun t73 => (some (true, wr64 (3 * (mx t71 t73)), 3, t55, t56)))) else (some (true, t65, 2, 0, 0)) : Option (Bool × Int × Int × Int × Int)).bind fun (x75, x76, x77, x78, x79) => ((flatten_Count.f k t46 t47 x77 t49 t50 t52 t53 x78 x79).bind fun t104 => (if t104 < 1 then (some false) else (if t104 > 8192 then (some false) else (if (bits .and .i64 t104 (wr64 (t104 - 1))) = 0 then (if x75 = true then (if x76 ≤ (wr64 ((wr64 (32 * t104)) * t104)) then (if t104 = 1 then ((flatten_Count.f k t46 t47 1 t49 t50 0 0 0 0).bind fun t112 => (some (t112 == 1))) else (if x76 > (wr64 ((wr64 (8 * t104)) * t104)) then ((flatten_Count.f k t46 t47 1 t49 t50 0 0 0 0).bind fun t115 => (some (t115 == 1))) else (some false))) else (some false)) else (some false)) else (some false))))))))))) else (some false))
theorem glyphiclaw21_FlattenCounts.ok {S : Seal} {k : Nat} {a0_X : Int} {a0_Y : Int} {b1_X : Int} {b1_Y : Int} {c2_X : Int} {c2_Y : Int} {d3_X : Int} {d3_Y : Int} {cubic4 : Bool}  (e : glyphiclaw21_FlattenCounts.f k a0_X a0_Y b1_X b1_Y c2_X c2_Y d3_X d3_Y cubic4 = some true) :
    Cal Try.prog 8 [.agg #[.int .i64 a0_X, .int .i64 a0_Y], .agg #[.int .i64 b1_X, .int .i64 b1_Y], .agg #[.int .i64 c2_X, .int .i64 c2_Y], .agg #[.int .i64 d3_X, .int .i64 d3_Y], .bool cubic4] [] S fun v H' S' => v = .bool true ∧ H' = [] ∧ S' = S := by
  unfold glyphiclaw21_FlattenCounts.f at e
  refine cal_of (c := c8) (N := 95) Try.func8 rfl rfl (by kernel_rfl) (rs := [.t 10]) (by kernel_rfl) (Nat.le_of_ble_eq_true rfl) ?_
  unfold c8
  refine w_seq ?_
  refine w_reg fun all => ?_
  refine t_a (.box rfl rfl rfl) fun b1 fb1 sb1 => ?_
  refine t_a (.box rfl rfl rfl) fun b2 fb2 sb2 => ?_
  refine t_a (.box rfl rfl rfl) fun b3 fb3 sb3 => ?_
  refine t_a (.box rfl rfl rfl) fun b4 fb4 sb4 => ?_
  refine t_qz 1 [4, 5, 6, 7, 8] (σ' := [(4, .bool cubic4), (5, .pointer (some ⟨b1, 0, none⟩)), (6, .pointer (some ⟨b2, 0, none⟩)), (7, .pointer (some ⟨b3, 0, none⟩)), (8, .pointer (some ⟨b4, 0, none⟩))]) (by kernel_rfl) ?_
  refine t_end ?_
  show W _ _ _ _ _ _ _
  refine w_seq ?_
  refine w_reg fun all => ?_
  obtain ⟨t44, h45, e⟩ := bind_of e
  cases t44 with
  | true =>
    rw [if_pos rfl] at e
    refine t_v (.call (vs := []) rfl rfl (by kernel_rfl) (glyphiclaw21_first.ok h45)) ?_
    refine t_qz 1 [4, 5, 6, 7, 8, 11] (σ' := [(4, .bool cubic4), (5, .pointer (some ⟨b1, 0, none⟩)), (6, .pointer (some ⟨b2, 0, none⟩)), (7, .pointer (some ⟨b3, 0, none⟩)), (8, .pointer (some ⟨b4, 0, none⟩)), (11, .bool true)]) (by kernel_rfl) ?_
    refine t_end ?_
    show W _ _ _ _ _ _ _
    refine w_seq ?_
    refine w_seq ?_
    refine w_reg fun all => ?_
    refine t_qz 2 [4, 5, 6, 7, 8, 11, 17] (σ' := [(4, .bool cubic4), (5, .pointer (some ⟨b1, 0, none⟩)), (6, .pointer (some ⟨b2, 0, none⟩)), (7, .pointer (some ⟨b3, 0, none⟩)), (8, .pointer (some ⟨b4, 0, none⟩)), (11, .bool true), (17, .bool false)]) (by kernel_rfl) ?_
    refine t_end ?_
    show W _ _ _ _ _ _ _
    refine w_cond rfl (fun c_ => by cases c_) (fun _ => ?_)
    show W _ _ _ _ _ _ _
    refine w_skip ?_
    show W _ _ _ _ _ _ _
    refine w_seq ?_
    obtain ⟨⟨t46, t47⟩, h48, e⟩ := bind_of e
    try dsimp only at e
    obtain ⟨⟨t49, t50⟩, h51, e⟩ := bind_of e
    try dsimp only at e
    obtain ⟨⟨t52, t53⟩, h54, e⟩ := bind_of e
    try dsimp only at e
    obtain ⟨⟨t55, t56⟩, h57, e⟩ := bind_of e
    try dsimp only at e
    refine w_drwE mixed 8 [.v (.agg #[.int .i64 a0_X, .int .i64 a0_Y]), .v (.agg #[.int .i64 t46, .int .i64 t47]), .v (.agg #[.int .i64 b1_X, .int .i64 b1_Y]), .v (.agg #[.int .i64 t49, .int .i64 t50]), .v (.agg #[.int .i64 c2_X, .int .i64 c2_Y]), .v (.agg #[.int .i64 t52, .int .i64 t53]), .v (.agg #[.int .i64 d3_X, .int .i64 d3_Y]), .v (.agg #[.int .i64 t55, .int .i64 t56])] (by kernel_rfl) ?_ ?_
    · refine .cons (.ldn rfl rfl rfl (.at 3 rfl rfl)) ?_
      refine .cons (.call (vs := [.agg #[.int .i64 a0_X, .int .i64 a0_Y]]) rfl rfl (by kernel_rfl) (glyphiclaw21_cut.ok h48)) ?_
      refine .cons (.ldn rfl rfl rfl (.at 2 rfl rfl)) ?_
      refine .cons (.call (vs := [.agg #[.int .i64 b1_X, .int .i64 b1_Y]]) rfl rfl (by kernel_rfl) (glyphiclaw21_cut.ok h51)) ?_
      refine .cons (.ldn rfl rfl rfl (.at 1 rfl rfl)) ?_
      refine .cons (.call (vs := [.agg #[.int .i64 c2_X, .int .i64 c2_Y]]) rfl rfl (by kernel_rfl) (glyphiclaw21_cut.ok h54)) ?_
      refine .cons (.ldn rfl rfl rfl (.at 0 rfl rfl)) ?_
      refine .cons (.call (vs := [.agg #[.int .i64 d3_X, .int .i64 d3_Y]]) rfl rfl (by kernel_rfl) (glyphiclaw21_cut.ok h57)) ?_
      exact .nil
    refine fk_q 8 [4, 5, 6, 7, 8, 11, 19, 21, 23, 25] (σ' := [(4, .bool cubic4), (5, .pointer (some ⟨b1, 0, none⟩)), (6, .pointer (some ⟨b2, 0, none⟩)), (7, .pointer (some ⟨b3, 0, none⟩)), (8, .pointer (some ⟨b4, 0, none⟩)), (11, .bool true), (19, .agg #[.int .i64 t46, .int .i64 t47]), (21, .agg #[.int .i64 t49, .int .i64 t50]), (23, .agg #[.int .i64 t52, .int .i64 t53]), (25, .agg #[.int .i64 t55, .int .i64 t56])]) t_more (by kernel_rfl) ?_
    refine fk_nil fun all => ?_
    refine t_sti 3 (cs := [.int .i64 t46, .int .i64 t47]) rfl rfl rfl rfl rfl rfl rfl rfl rfl ?_
    refine t_sti 2 (cs := [.int .i64 t49, .int .i64 t50]) rfl rfl rfl rfl rfl rfl rfl rfl rfl ?_
    refine t_sti 1 (cs := [.int .i64 t52, .int .i64 t53]) rfl rfl rfl rfl rfl rfl rfl rfl rfl ?_
    refine t_sti 0 (cs := [.int .i64 t55, .int .i64 t56]) rfl rfl rfl rfl rfl rfl rfl rfl rfl ?_
    refine t_keep [4, 5, 6, 7, 8, 11] (σ' := [(4, .bool cubic4), (5, .pointer (some ⟨b1, 0, none⟩)), (6, .pointer (some ⟨b2, 0, none⟩)), (7, .pointer (some ⟨b3, 0, none⟩)), (8, .pointer (some ⟨b4, 0, none⟩)), (11, .bool true)]) (by kernel_rfl) ?_
    refine t_end ?_
    show W _ _ _ _ _ _ _
    refine w_seq ?_
    refine w_reg fun all => ?_
    refine t_v (.ldn rfl rfl rfl (.at 2 rfl rfl)) ?_
    refine t_v (.ldn rfl rfl rfl (.at 1 rfl rfl)) ?_
    refine t_qz 2 [4, 5, 6, 7, 8, 11, 29] (σ' := [(4, .bool cubic4), (5, .pointer (some ⟨b1, 0, none⟩)), (6, .pointer (some ⟨b2, 0, none⟩)), (7, .pointer (some ⟨b3, 0, none⟩)), (8, .pointer (some ⟨b4, 0, none⟩)), (11, .bool true), (29, .agg #[.int .i64 2, .int .i64 t49, .int .i64 t50, .int .i64 t52, .int .i64 t53, .int .i64 0, .int .i64 0])]) (by kernel_rfl) ?_
    refine t_a (.new rfl rfl) fun b58 fb58 sb58 => ?_
    refine t_sti 0 (cs := [.int .i64 2, .int .i64 t49, .int .i64 t50, .int .i64 t52, .int .i64 t53, .int .i64 0, .int .i64 0]) rfl rfl rfl rfl rfl rfl rfl rfl rfl ?_
    refine t_keep [4, 5, 6, 7, 8, 11, 12] (σ' := [(4, .bool cubic4), (5, .pointer (some ⟨b1, 0, none⟩)), (6, .pointer (some ⟨b2, 0, none⟩)), (7, .pointer (some ⟨b3, 0, none⟩)), (8, .pointer (some ⟨b4, 0, none⟩)), (11, .bool true), (12, .pointer (some ⟨b58, 0, none⟩))]) (by kernel_rfl) ?_
    refine t_end ?_
    show W _ _ _ _ _ _ _
    refine w_seq ?_
    refine w_reg fun all => ?_
    refine t_v (.ldn rfl rfl rfl (.at 4 rfl rfl)) ?_
    refine t_v (.ldn rfl rfl rfl (.at 3 rfl rfl)) ?_
    refine t_v (.ldn rfl rfl rfl (.at 2 rfl rfl)) ?_
    obtain ⟨t65, h66, e⟩ := bind_of e
    refine t_v (.call (vs := [.agg #[.int .i64 t46, .int .i64 t47], .agg #[.int .i64 t49, .int .i64 t50], .agg #[.int .i64 t52, .int .i64 t53]]) rfl rfl (by kernel_rfl) (glyphiclaw21_size.ok h66)) ?_
    refine t_qz 1 [4, 5, 6, 7, 8, 11, 12, 13] (σ' := [(4, .bool cubic4), (5, .pointer (some ⟨b1, 0, none⟩)), (6, .pointer (some ⟨b2, 0, none⟩)), (7, .pointer (some ⟨b3, 0, none⟩)), (8, .pointer (some ⟨b4, 0, none⟩)), (11, .bool true), (12, .pointer (some ⟨b58, 0, none⟩)), (13, .int .i64 t65)]) (by kernel_rfl) ?_
    refine t_end ?_
    show W _ _ _ _ _ _ _
    obtain ⟨⟨x75, x76, x77, x78, x79⟩, e68, e⟩ := bind_of e
    try dsimp only at e
    refine w_cut [5, 6, 11, 12, 13] (fun σ_ H_ S_ => [(5, .pointer (some ⟨b1, 0, none⟩)), (6, .pointer (some ⟨b2, 0, none⟩)), (11, .bool x75), (12, .pointer (some ⟨b58, 0, none⟩)), (13, .int .i64 x76)] = σ_ ∧ ([⟨b58, [.int .i64 x77, .int .i64 t49, .int .i64 t50, .int .i64 t52, .int .i64 t53, .int .i64 x78, .int .i64 x79], 7⟩, ⟨b4, [.int .i64 t55, .int .i64 t56], 2⟩, ⟨b3, [.int .i64 t52, .int .i64 t53], 2⟩, ⟨b2, [.int .i64 t49, .int .i64 t50], 2⟩, ⟨b1, [.int .i64 t46, .int .i64 t47], 2⟩] : List Own) = H_ ∧ S = S_) ?_ ?_
    · show W _ _ _ _ _ _ _
      refine w_seq ?_
      refine w_reg fun all => ?_
      by_cases c70 : cubic4 = true
      · rw [if_pos c70] at e68
        have c70b : cubic4 = true := c70
        refine t_v (dv_quiet rfl (congrArg (fun t => some (Value.bool t)) c70b)) ?_
        refine t_keep [5, 6, 7, 8, 11, 12, 13, 34] (σ' := [(5, .pointer (some ⟨b1, 0, none⟩)), (6, .pointer (some ⟨b2, 0, none⟩)), (7, .pointer (some ⟨b3, 0, none⟩)), (8, .pointer (some ⟨b4, 0, none⟩)), (11, .bool true), (12, .pointer (some ⟨b58, 0, none⟩)), (13, .int .i64 t65), (34, .bool true)]) (by kernel_rfl) ?_
        refine t_end ?_
        show W _ _ _ _ _ _ _
        refine w_cond rfl (fun _ => ?_) (fun c_ => by cases c_)
        show W _ _ _ _ _ _ _
        refine w_seq ?_
        refine w_reg fun all => ?_
        refine t_v (.ldn rfl rfl rfl (.at 3 rfl rfl)) ?_
        refine t_v (.ldn rfl rfl rfl (.at 2 rfl rfl)) ?_
        refine t_v (.ldn rfl rfl rfl (.at 1 rfl rfl)) ?_
        refine t_qz 2 [5, 6, 7, 8, 11, 12, 39] (σ' := [(5, .pointer (some ⟨b1, 0, none⟩)), (6, .pointer (some ⟨b2, 0, none⟩)), (7, .pointer (some ⟨b3, 0, none⟩)), (8, .pointer (some ⟨b4, 0, none⟩)), (11, .bool true), (12, .pointer (some ⟨b58, 0, none⟩)), (39, .agg #[.int .i64 3, .int .i64 t49, .int .i64 t50, .int .i64 t52, .int .i64 t53, .int .i64 t55, .int .i64 t56])]) (by kernel_rfl) ?_
        refine t_sti 0 (cs := [.int .i64 3, .int .i64 t49, .int .i64 t50, .int .i64 t52, .int .i64 t53, .int .i64 t55, .int .i64 t56]) rfl rfl rfl rfl rfl rfl rfl rfl rfl ?_
        refine t_keep [5, 6, 7, 8, 11, 12] (σ' := [(5, .pointer (some ⟨b1, 0, none⟩)), (6, .pointer (some ⟨b2, 0, none⟩)), (7, .pointer (some ⟨b3, 0, none⟩)), (8, .pointer (some ⟨b4, 0, none⟩)), (11, .bool true), (12, .pointer (some ⟨b58, 0, none⟩))]) (by kernel_rfl) ?_
        refine t_end ?_
        show W _ _ _ _ _ _ _
        obtain ⟨t71, h72, e68⟩ := bind_of e68
        obtain ⟨t73, h74, e68⟩ := bind_of e68
        refine w_drwE mixed 11 [.v (.agg #[.int .i64 t46, .int .i64 t47]), .v (.agg #[.int .i64 t49, .int .i64 t50]), .v (.agg #[.int .i64 t52, .int .i64 t53]), .v (.int .i64 t71), .v (.agg #[.int .i64 t49, .int .i64 t50]), .v (.agg #[.int .i64 t52, .int .i64 t53]), .v (.agg #[.int .i64 t55, .int .i64 t56]), .v (.int .i64 t73), .v (.int .i64 (mx t71 t73)), .v (.int .i64 (wr64 (3 * (mx t71 t73)))), .v (.int .i64 (wr64 (3 * (mx t71 t73))))] (by kernel_rfl) ?_ ?_
        · refine .cons (.ldn rfl rfl rfl (.at 4 rfl rfl)) ?_
          refine .cons (.ldn rfl rfl rfl (.at 3 rfl rfl)) ?_
          refine .cons (.ldn rfl rfl rfl (.at 2 rfl rfl)) ?_
          refine .cons (.call (vs := [.agg #[.int .i64 t46, .int .i64 t47], .agg #[.int .i64 t49, .int .i64 t50], .agg #[.int .i64 t52, .int .i64 t53]]) rfl rfl (by kernel_rfl) (glyphiclaw21_size.ok h72)) ?_
          refine .cons (.ldn rfl rfl rfl (.at 3 rfl rfl)) ?_
          refine .cons (.ldn rfl rfl rfl (.at 2 rfl rfl)) ?_
          refine .cons (.ldn rfl rfl rfl (.at 1 rfl rfl)) ?_
          refine .cons (.call (vs := [.agg #[.int .i64 t49, .int .i64 t50], .agg #[.int .i64 t52, .int .i64 t53], .agg #[.int .i64 t55, .int .i64 t56]]) rfl rfl (by kernel_rfl) (glyphiclaw21_size.ok h74)) ?_
          refine DI.sq 3 (by kernel_rfl) rfl ?_
          exact .nil
        refine fk_q 11 [5, 6, 11, 12, 13] (σ' := [(5, .pointer (some ⟨b1, 0, none⟩)), (6, .pointer (some ⟨b2, 0, none⟩)), (11, .bool true), (12, .pointer (some ⟨b58, 0, none⟩)), (13, .int .i64 (wr64 (3 * (mx t71 t73))))]) t_more (by kernel_rfl) ?_
        refine fk_nil fun all => ?_
        refine t_keep [5, 6, 11, 12, 13] (σ' := [(5, .pointer (some ⟨b1, 0, none⟩)), (6, .pointer (some ⟨b2, 0, none⟩)), (11, .bool true), (12, .pointer (some ⟨b58, 0, none⟩)), (13, .int .i64 (wr64 (3 * (mx t71 t73))))]) (by kernel_rfl) ?_
        refine t_end ?_
        simp only [Option.some.injEq, Prod.mk.injEq] at e68
        obtain ⟨rfl, rfl, rfl, rfl, rfl⟩ := e68
        exact ⟨([⟨b58, [.int .i64 3, .int .i64 t49, .int .i64 t50, .int .i64 t52, .int .i64 t53, .int .i64 t55, .int .i64 t56], 7⟩, ⟨b4, [.int .i64 t55, .int .i64 t56], 2⟩, ⟨b3, [.int .i64 t52, .int .i64 t53], 2⟩, ⟨b2, [.int .i64 t49, .int .i64 t50], 2⟩, ⟨b1, [.int .i64 t46, .int .i64 t47], 2⟩] : List Own), S, VS.sel [0, 0, 0, 0, 0] (by kernel_rfl), by kernel_rfl, rfl, rfl⟩
      · rw [if_neg c70] at e68
        have c70b : cubic4 = false := Bool.eq_false_iff.mpr c70
        refine t_v (dv_quiet rfl (congrArg (fun t => some (Value.bool t)) c70b)) ?_
        refine t_keep [5, 6, 7, 8, 11, 12, 13, 34] (σ' := [(5, .pointer (some ⟨b1, 0, none⟩)), (6, .pointer (some ⟨b2, 0, none⟩)), (7, .pointer (some ⟨b3, 0, none⟩)), (8, .pointer (some ⟨b4, 0, none⟩)), (11, .bool true), (12, .pointer (some ⟨b58, 0, none⟩)), (13, .int .i64 t65), (34, .bool false)]) (by kernel_rfl) ?_
        refine t_end ?_
        show W _ _ _ _ _ _ _
        refine w_cond rfl (fun c_ => by cases c_) (fun _ => ?_)
        show W _ _ _ _ _ _ _
        refine w_skip ?_
        simp only [Option.some.injEq, Prod.mk.injEq] at e68
        obtain ⟨rfl, rfl, rfl, rfl, rfl⟩ := e68
        exact ⟨([⟨b58, [.int .i64 2, .int .i64 t49, .int .i64 t50, .int .i64 t52, .int .i64 t53, .int .i64 0, .int .i64 0], 7⟩, ⟨b4, [.int .i64 t55, .int .i64 t56], 2⟩, ⟨b3, [.int .i64 t52, .int .i64 t53], 2⟩, ⟨b2, [.int .i64 t49, .int .i64 t50], 2⟩, ⟨b1, [.int .i64 t46, .int .i64 t47], 2⟩] : List Own), S, VS.sel [0, 0, 0, 0, 0] (by kernel_rfl), by kernel_rfl, rfl, rfl⟩
    · rintro σ_ H_ S_ ⟨rfl, rfl, rfl⟩
      refine w_seq ?_
      refine w_reg fun all => ?_
      refine t_v (.ldn rfl rfl rfl (.at 4 rfl rfl)) ?_
      refine t_v (.ldn rfl rfl rfl (.at 0 rfl rfl)) ?_
      obtain ⟨t104, h105, e⟩ := bind_of e
      refine t_v (.call (vs := [.agg #[.int .i64 t46, .int .i64 t47], .agg #[.int .i64 x77, .int .i64 t49, .int .i64 t50, .int .i64 t52, .int .i64 t53, .int .i64 x78, .int .i64 x79]]) rfl rfl (by kernel_rfl) (flatten_Count.ok h105)) ?_
      refine t_qz 1 [5, 6, 11, 13, 14] (σ' := [(5, .pointer (some ⟨b1, 0, none⟩)), (6, .pointer (some ⟨b2, 0, none⟩)), (11, .bool x75), (13, .int .i64 x76), (14, .int .i64 t104)]) (by kernel_rfl) ?_
      refine t_end ?_
      show W _ _ _ _ _ _ _
      refine w_seq ?_
      refine w_seq ?_
      refine w_reg fun all => ?_
      by_cases c106 : t104 < 1
      · rw [if_pos c106] at e
        exact absurd (Option.some.inj e) (by decide)
      · rw [if_neg c106] at e
        have c106b : (decide (t104 < 1)) = false := decide_eq_false c106
        refine t_qz 1 [5, 6, 11, 13, 14, 53] (σ' := [(5, .pointer (some ⟨b1, 0, none⟩)), (6, .pointer (some ⟨b2, 0, none⟩)), (11, .bool x75), (13, .int .i64 x76), (14, .int .i64 t104), (53, .int .i64 t104)]) (by kernel_rfl) ?_
        refine t_v (dv_quiet rfl (congrArg (fun t => some (Value.bool t)) c106b)) ?_
        by_cases c107 : t104 > 8192
        · rw [if_pos c107] at e
          exact absurd (Option.some.inj e) (by decide)
        · rw [if_neg c107] at e
          have c107b : (decide (t104 > 8192)) = false := decide_eq_false c107
          refine t_qz 2 [5, 6, 11, 13, 14, 55, 56] (σ' := [(5, .pointer (some ⟨b1, 0, none⟩)), (6, .pointer (some ⟨b2, 0, none⟩)), (11, .bool x75), (13, .int .i64 x76), (14, .int .i64 t104), (55, .bool false), (56, .int .i64 t104)]) (by kernel_rfl) ?_
          refine t_v (dv_quiet rfl (congrArg (fun t => some (Value.bool t)) c107b)) ?_
          by_cases c108 : (bits .and .i64 t104 (wr64 (t104 - 1))) = 0
          · rw [if_pos c108] at e
            have c108b : ((bits .and .i64 t104 (wr64 (t104 - 1))) == 0) = true := beq_iff_eq.mpr c108
            refine t_qz 6 [5, 6, 11, 13, 14, 59, 63] (σ' := [(5, .pointer (some ⟨b1, 0, none⟩)), (6, .pointer (some ⟨b2, 0, none⟩)), (11, .bool x75), (13, .int .i64 x76), (14, .int .i64 t104), (59, .bool false), (63, .int .i64 (bits .and .i64 t104 (wr64 (t104 - 1))))]) (by kernel_rfl) ?_
            refine t_v (dv_quiet rfl (congrArg (fun t => some (Value.bool (!t))) c108b)) ?_
            refine t_qz 1 [5, 6, 11, 13, 14, 65] (σ' := [(5, .pointer (some ⟨b1, 0, none⟩)), (6, .pointer (some ⟨b2, 0, none⟩)), (11, .bool x75), (13, .int .i64 x76), (14, .int .i64 t104), (65, .bool false)]) (by kernel_rfl) ?_
            refine t_end ?_
            show W _ _ _ _ _ _ _
            refine w_cond rfl (fun c_ => by cases c_) (fun _ => ?_)
            show W _ _ _ _ _ _ _
            refine w_skip ?_
            show W _ _ _ _ _ _ _
            refine w_seq ?_
            refine w_reg fun all => ?_
            by_cases c109 : x75 = true
            · rw [if_pos c109] at e
              have c109b : x75 = true := c109
              refine t_v (dv_quiet rfl (congrArg (fun t => some (Value.bool t)) c109b)) ?_
              by_cases c110 : x76 ≤ (wr64 ((wr64 (32 * t104)) * t104))
              · rw [if_pos c110] at e
                have c110b : (decide (x76 ≤ (wr64 ((wr64 (32 * t104)) * t104)))) = true := decide_eq_true c110
                refine t_qz 6 [5, 6, 13, 14, 67, 68, 72] (σ' := [(5, .pointer (some ⟨b1, 0, none⟩)), (6, .pointer (some ⟨b2, 0, none⟩)), (13, .int .i64 x76), (14, .int .i64 t104), (67, .bool true), (68, .int .i64 x76), (72, .int .i64 (wr64 ((wr64 (32 * t104)) * t104)))]) (by kernel_rfl) ?_
                refine t_v (dv_quiet rfl (congrArg (fun t => some (Value.bool t)) c110b)) ?_
                by_cases c111 : t104 = 1
                · rw [if_pos c111] at e
                  have c111b : (t104 == 1) = true := beq_iff_eq.mpr c111
                  refine t_qz 3 [5, 6, 13, 14, 75, 76] (σ' := [(5, .pointer (some ⟨b1, 0, none⟩)), (6, .pointer (some ⟨b2, 0, none⟩)), (13, .int .i64 x76), (14, .int .i64 t104), (75, .bool true), (76, .int .i64 t104)]) (by kernel_rfl) ?_
                  refine t_v (dv_quiet rfl (congrArg (fun t => some (Value.bool t)) c111b)) ?_
                  refine t_qz 10 [5, 6, 87] (σ' := [(5, .pointer (some ⟨b1, 0, none⟩)), (6, .pointer (some ⟨b2, 0, none⟩)), (87, .bool true)]) (by kernel_rfl) ?_
                  refine t_v (.ldn rfl rfl rfl (.at 4 rfl rfl)) ?_
                  refine t_v (.ldn rfl rfl rfl (.at 3 rfl rfl)) ?_
                  obtain ⟨t112, h113, e⟩ := bind_of e
                  refine t_qz 2 [87, 88, 91] (σ' := [(87, .bool true), (88, .agg #[.int .i64 t46, .int .i64 t47]), (91, .agg #[.int .i64 1, .int .i64 t49, .int .i64 t50, .int .i64 0, .int .i64 0, .int .i64 0, .int .i64 0])]) (by kernel_rfl) ?_
                  refine t_v (.call (vs := [.agg #[.int .i64 t46, .int .i64 t47], .agg #[.int .i64 1, .int .i64 t49, .int .i64 t50, .int .i64 0, .int .i64 0, .int .i64 0, .int .i64 0]]) rfl rfl (by kernel_rfl) (flatten_Count.ok h113)) ?_
                  refine t_qz 3 [10] (σ' := [(10, .bool (t112 == 1))]) (by kernel_rfl) ?_
                  refine t_end ?_
                  show W _ _ _ _ _ _ _
                  refine w_ret ?_
                  have hr_ := Option.some.inj e
                  exact ⟨[.bool (t112 == 1)], [], S, ⟨rfl, trivial⟩, VS.none, congrArg Value.bool hr_, rfl, rfl⟩
                · rw [if_neg c111] at e
                  have c111b : (t104 == 1) = false := beq_eq_false_iff_ne.mpr c111
                  refine t_qz 3 [5, 6, 13, 14, 75, 76] (σ' := [(5, .pointer (some ⟨b1, 0, none⟩)), (6, .pointer (some ⟨b2, 0, none⟩)), (13, .int .i64 x76), (14, .int .i64 t104), (75, .bool true), (76, .int .i64 t104)]) (by kernel_rfl) ?_
                  refine t_v (dv_quiet rfl (congrArg (fun t => some (Value.bool t)) c111b)) ?_
                  by_cases c114 : x76 > (wr64 ((wr64 (8 * t104)) * t104))
                  · rw [if_pos c114] at e
                    have c114b : (decide (x76 > (wr64 ((wr64 (8 * t104)) * t104)))) = true := decide_eq_true c114
                    refine t_qz 6 [5, 6, 75, 78, 79, 83] (σ' := [(5, .pointer (some ⟨b1, 0, none⟩)), (6, .pointer (some ⟨b2, 0, none⟩)), (75, .bool true), (78, .bool false), (79, .int .i64 x76), (83, .int .i64 (wr64 ((wr64 (8 * t104)) * t104)))]) (by kernel_rfl) ?_
                    refine t_v (dv_quiet rfl (congrArg (fun t => some (Value.bool t)) c114b)) ?_
                    refine t_qz 3 [5, 6, 87] (σ' := [(5, .pointer (some ⟨b1, 0, none⟩)), (6, .pointer (some ⟨b2, 0, none⟩)), (87, .bool true)]) (by kernel_rfl) ?_
                    refine t_v (.ldn rfl rfl rfl (.at 4 rfl rfl)) ?_
                    refine t_v (.ldn rfl rfl rfl (.at 3 rfl rfl)) ?_
                    obtain ⟨t115, h116, e⟩ := bind_of e
                    refine t_qz 2 [87, 88, 91] (σ' := [(87, .bool true), (88, .agg #[.int .i64 t46, .int .i64 t47]), (91, .agg #[.int .i64 1, .int .i64 t49, .int .i64 t50, .int .i64 0, .int .i64 0, .int .i64 0, .int .i64 0])]) (by kernel_rfl) ?_
                    refine t_v (.call (vs := [.agg #[.int .i64 t46, .int .i64 t47], .agg #[.int .i64 1, .int .i64 t49, .int .i64 t50, .int .i64 0, .int .i64 0, .int .i64 0, .int .i64 0]]) rfl rfl (by kernel_rfl) (flatten_Count.ok h116)) ?_
                    refine t_qz 3 [10] (σ' := [(10, .bool (t115 == 1))]) (by kernel_rfl) ?_
                    refine t_end ?_
                    show W _ _ _ _ _ _ _
                    refine w_ret ?_
                    have hr_ := Option.some.inj e
                    exact ⟨[.bool (t115 == 1)], [], S, ⟨rfl, trivial⟩, VS.none, congrArg Value.bool hr_, rfl, rfl⟩
                  · rw [if_neg c114] at e
                    exact absurd (Option.some.inj e) (by decide)
              · rw [if_neg c110] at e
                exact absurd (Option.some.inj e) (by decide)
            · rw [if_neg c109] at e
              exact absurd (Option.some.inj e) (by decide)
          · rw [if_neg c108] at e
            exact absurd (Option.some.inj e) (by decide)
  | false =>
    rw [if_neg (by decide)] at e
    exact absurd (Option.some.inj e) (by decide)

def glyphiclaw21_FlattenCounts.Pure : Prop := ∀ (a0_X : Int) (a0_Y : Int) (b1_X : Int) (b1_Y : Int) (c2_X : Int) (c2_Y : Int) (d3_X : Int) (d3_Y : Int) (cubic4 : Bool), (Lit.int .i64 a0_X).wf = true → (Lit.int .i64 a0_Y).wf = true → (Lit.int .i64 b1_X).wf = true → (Lit.int .i64 b1_Y).wf = true → (Lit.int .i64 c2_X).wf = true → (Lit.int .i64 c2_Y).wf = true → (Lit.int .i64 d3_X).wf = true → (Lit.int .i64 d3_Y).wf = true → ∃ k, glyphiclaw21_FlattenCounts.f k a0_X a0_Y b1_X b1_Y c2_X c2_Y d3_X d3_Y cubic4 = some true
theorem glyphiclaw21_FlattenCounts.walk (P : glyphiclaw21_FlattenCounts.Pure) (a0_X : Int) (a0_Y : Int) (b1_X : Int) (b1_Y : Int) (c2_X : Int) (c2_Y : Int) (d3_X : Int) (d3_Y : Int) (cubic4 : Bool) (w : World) (ha0_X : (Lit.int .i64 a0_X).wf = true) (ha0_Y : (Lit.int .i64 a0_Y).wf = true) (hb1_X : (Lit.int .i64 b1_X).wf = true) (hb1_Y : (Lit.int .i64 b1_Y).wf = true) (hc2_X : (Lit.int .i64 c2_X).wf = true) (hc2_Y : (Lit.int .i64 c2_Y).wf = true) (hd3_X : (Lit.int .i64 d3_X).wf = true) (hd3_Y : (Lit.int .i64 d3_Y).wf = true) :
    Calls Try.prog 8 #[.agg #[.int .i64 a0_X, .int .i64 a0_Y], .agg #[.int .i64 b1_X, .int .i64 b1_Y], .agg #[.int .i64 c2_X, .int .i64 c2_Y], .agg #[.int .i64 d3_X, .int .i64 d3_Y], .bool cubic4] w fun e w' => e = .returned (.bool true) ∧ Below w.heap.size w w' := let ⟨k, h⟩ := P a0_X a0_Y b1_X b1_Y c2_X c2_Y d3_X d3_Y cubic4 ha0_X ha0_Y hb1_X hb1_Y hc2_X hc2_Y hd3_X hd3_Y; law_w (hok0 w) (glyphiclaw21_FlattenCounts.ok (k := k) h)
end Go.Proofs.Ytijjgmkhgcofiaa.QFlattenCounts
