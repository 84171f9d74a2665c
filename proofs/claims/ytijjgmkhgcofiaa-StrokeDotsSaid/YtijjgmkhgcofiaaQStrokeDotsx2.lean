/- Functions of the program as Lean functions, each with the proof of its walk. Written by gen.py, a program of these sessions. -/
import Derived.Test.YtijjgmkhgcofiaaQStrokeDotsx1
namespace Go.Proofs.Ytijjgmkhgcofiaa.QStrokeDots
open Go Go.RowKit Go.Proofs.YtijjgmkhgcofiaaE Go.Proofs.YtijjgmkhgcofiaaX
set_option linter.unusedVariables false
set_option maxRecDepth 100000
set_option maxHeartbeats 8000000
/-- glyphiclaw23.StrokeDots -/
def c6 : C :=
  (.seq (.reg [⟨(some 7), .box (.tmp 3), none⟩,
     ⟨(some 8), .mv (.const (.bool false)), none⟩])
  (.seq (.reg [⟨(some 15), .call 12 [], none⟩,
     ⟨(some 9), .mv (.tmp 15), none⟩])
  (.seq (.seq (.reg [⟨(some 16), .mv (.tmp 9), none⟩,
      ⟨(some 17), .un .not (.tmp 16), none⟩])
   (.cond (.tmp 17)
    (.seq (.reg [⟨(some 8), .mv (.const (.bool false)), none⟩])
     .ret)
    .skip))
  (.seq (.reg [⟨(some 18), .mv (.tmp 0), none⟩,
     ⟨(some 19), .bin .rem (.tmp 18) (.const (.int .i64 200)), none⟩,
     ⟨(some 0), .mv (.tmp 19), none⟩])
  (.seq (.reg [⟨(some 20), .mv (.tmp 1), none⟩,
     ⟨(some 21), .bin .rem (.tmp 20) (.const (.int .i64 200)), none⟩,
     ⟨(some 1), .mv (.tmp 21), none⟩])
  (.seq (.reg [⟨(some 22), .mv (.tmp 2), none⟩,
     ⟨(some 23), .bin .rem (.tmp 22) (.const (.int .i64 400)), none⟩,
     ⟨(some 24), .bin .add (.tmp 23) (.const (.int .i64 400)), none⟩,
     ⟨(some 25), .bin .rem (.tmp 24) (.const (.int .i64 400)), none⟩,
     ⟨(some 2), .mv (.tmp 25), none⟩])
  (.seq (.reg [⟨(some 26), .pad 0 (.tmp 7), none⟩,
     ⟨(some 27), .ld none (.tmp 26), none⟩,
     ⟨(some 28), .bin .rem (.tmp 27) (.const (.int .i64 100000)), none⟩,
     ⟨(some 29), .pad 1 (.tmp 7), none⟩,
     ⟨(some 30), .ld none (.tmp 29), none⟩,
     ⟨(some 31), .bin .rem (.tmp 30) (.const (.int .i64 100000)), none⟩,
     ⟨(some 32), .bld [(.int .i64 0), (.int .i64 0)] [(0, 1, (.tmp 28)), (1, 1, (.tmp 31))], none⟩,
     ⟨none, .st 2 (.tmp 7) (.tmp 32), none⟩])
  (.seq (.reg [⟨(some 33), .ld (some 2) (.tmp 7), none⟩,
     ⟨(some 34), .ld (some 2) (.tmp 7), none⟩,
     ⟨(some 35), .bld [(.int .i64 0), (.int .i64 0), (.int .i64 0), (.int .i64 0)] [(0, 2, (.tmp 33)), (2, 2, (.tmp 34))], none⟩,
     ⟨(some 36), .bsl [(.int .i64 0), (.int .i64 0), (.int .i64 0), (.int .i64 0)] 1 [(0, 4, (.tmp 35))], none⟩,
     ⟨(some 10), .mv (.tmp 36), none⟩])
  (.seq (.reg [⟨(some 38), .mv (.tmp 10), none⟩,
     ⟨(some 39), .mv (.tmp 2), none⟩,
     ⟨(some 40), .call 18 [(.tmp 38), (.tmp 39)], none⟩,
     ⟨(some 37), .mv (.tmp 40), none⟩,
     ⟨(some 41), .xt 0 (.tmp 37), none⟩,
     ⟨(some 42), .xt 1 (.tmp 37), none⟩,
     ⟨(some 43), .xt 2 (.tmp 37), none⟩,
     ⟨(some 11), .new [(.int .i64 0), (.int .i64 0)], none⟩,
     ⟨(some 12), .new [(.int .i64 0), (.int .i64 0)], none⟩,
     ⟨none, .st 2 (.tmp 11) (.tmp 41), none⟩,
     ⟨none, .st 2 (.tmp 12) (.tmp 42), none⟩,
     ⟨(some 13), .mv (.tmp 43), none⟩])
  (.seq (.reg [⟨(some 44), .mv (.tmp 2), none⟩,
     ⟨(some 45), .bin .add (.tmp 44) (.const (.int .i64 1)), none⟩,
     ⟨(some 46), .bin .quo (.tmp 45) (.const (.int .i64 2)), none⟩,
     ⟨(some 14), .mv (.tmp 46), none⟩])
  (.seq (.reg [⟨(some 47), .mv (.tmp 9), none⟩,
     ⟨(some 48), .mv (.tmp 47), none⟩,
     ⟨(some 49), .mv (.tmp 10), (some (48, true))⟩,
     ⟨(some 50), .mv (.tmp 2), (some (48, true))⟩,
     ⟨(some 51), .pad 0 (.tmp 7), (some (48, true))⟩,
     ⟨(some 52), .ld none (.tmp 51), (some (48, true))⟩,
     ⟨(some 53), .mv (.tmp 0), (some (48, true))⟩,
     ⟨(some 54), .bin .add (.tmp 52) (.tmp 53), (some (48, true))⟩,
     ⟨(some 55), .pad 1 (.tmp 7), (some (48, true))⟩,
     ⟨(some 56), .ld none (.tmp 55), (some (48, true))⟩,
     ⟨(some 57), .mv (.tmp 1), (some (48, true))⟩,
     ⟨(some 58), .bin .add (.tmp 56) (.tmp 57), (some (48, true))⟩,
     ⟨(some 59), .bld [(.int .i64 0), (.int .i64 0)] [(0, 1, (.tmp 54)), (1, 1, (.tmp 58))], (some (48, true))⟩,
     ⟨(some 60), .call 15 [(.tmp 49), (.tmp 50), (.tmp 59)], (some (48, true))⟩,
     ⟨(some 61), .mv (.tmp 0), (some (48, true))⟩,
     ⟨(some 62), .mv (.tmp 0), (some (48, true))⟩,
     ⟨(some 63), .bin .mul (.tmp 61) (.tmp 62), (some (48, true))⟩,
     ⟨(some 64), .mv (.tmp 1), (some (48, true))⟩,
     ⟨(some 65), .mv (.tmp 1), (some (48, true))⟩,
     ⟨(some 66), .bin .mul (.tmp 64) (.tmp 65), (some (48, true))⟩,
     ⟨(some 67), .bin .add (.tmp 63) (.tmp 66), (some (48, true))⟩,
     ⟨(some 68), .bin .mul (.const (.int .i64 4)) (.tmp 67), (some (48, true))⟩,
     ⟨(some 69), .mv (.tmp 2), (some (48, true))⟩,
     ⟨(some 70), .mv (.tmp 2), (some (48, true))⟩,
     ⟨(some 71), .bin .mul (.tmp 69) (.tmp 70), (some (48, true))⟩,
     ⟨(some 72), .bin .leq (.tmp 68) (.tmp 71), (some (48, true))⟩,
     ⟨(some 73), .beq false (.tmp 60) (.tmp 72), (some (48, true))⟩,
     ⟨(some 74), .pk (.tmp 48) (.tmp 73) (.const (.bool false)), none⟩,
     ⟨(some 75), .mv (.tmp 74), none⟩,
     ⟨(some 76), .mv (.tmp 13), (some (75, true))⟩,
     ⟨(some 77), .pk (.tmp 75) (.tmp 76) (.const (.bool false)), none⟩,
     ⟨(some 78), .mv (.tmp 77), none⟩,
     ⟨(some 79), .pad 0 (.tmp 11), (some (78, true))⟩,
     ⟨(some 80), .ld none (.tmp 79), (some (78, true))⟩,
     ⟨(some 81), .pad 0 (.tmp 7), (some (78, true))⟩,
     ⟨(some 82), .ld none (.tmp 81), (some (78, true))⟩,
     ⟨(some 83), .mv (.tmp 14), (some (78, true))⟩,
     ⟨(some 84), .bin .sub (.tmp 82) (.tmp 83), (some (78, true))⟩,
     ⟨(some 85), .bin .eql (.tmp 80) (.tmp 84), (some (78, true))⟩,
     ⟨(some 86), .pk (.tmp 78) (.tmp 85) (.const (.bool false)), none⟩,
     ⟨(some 87), .mv (.tmp 86), none⟩,
     ⟨(some 88), .pad 1 (.tmp 12), (some (87, true))⟩,
     ⟨(some 89), .ld none (.tmp 88), (some (87, true))⟩,
     ⟨(some 90), .pad 1 (.tmp 7), (some (87, true))⟩,
     ⟨(some 91), .ld none (.tmp 90), (some (87, true))⟩,
     ⟨(some 92), .mv (.tmp 14), (some (87, true))⟩,
     ⟨(some 93), .bin .add (.tmp 91) (.tmp 92), (some (87, true))⟩,
     ⟨(some 94), .bin .eql (.tmp 89) (.tmp 93), (some (87, true))⟩,
     ⟨(some 95), .pk (.tmp 87) (.tmp 94) (.const (.bool false)), none⟩,
     ⟨(some 8), .mv (.tmp 95), none⟩])
  .ret)))))))))))
def glyphiclaw23_StrokeDots.f (x0 : Int) (y1 : Int) (w2 : Int) (c3_X : Int) (c3_Y : Int) : Option (Bool) := (glyphiclaw23_first.f).bind fun t36 => (if t36 = true then ((stroke_Box_v1.f (Int.tmod (wr64 ((Int.tmod w2 400) + 400)) 400) (Int.tmod c3_X 100000) (Int.tmod c3_Y 100000) (Int.tmod c3_X 100000) (Int.tmod c3_Y 100000)).bind fun (t46, t47, t48, t49, t50) => (if t50 = true then ((stroke_Near_v3.f (Int.tmod (wr64 ((Int.tmod w2 400) + 400)) 400) (wr64 ((Int.tmod c3_X 100000) + (Int.tmod x0 200))) (wr64 ((Int.tmod c3_Y 100000) + (Int.tmod y1 200))) (Int.tmod c3_X 100000) (Int.tmod c3_Y 100000) (Int.tmod c3_X 100000) (Int.tmod c3_Y 100000)).bind fun t98 => (if t98 = (decide ((wr64 (4 * (wr64 ((wr64 ((Int.tmod x0 200) * (Int.tmod x0 200))) + (wr64 ((Int.tmod y1 200) * (Int.tmod y1 200))))))) ≤ (wr64 ((Int.tmod (wr64 ((Int.tmod w2 400) + 400)) 400) * (Int.tmod (wr64 ((Int.tmod w2 400) + 400)) 400))))) then (if t46 = (wr64 ((Int.tmod c3_X 100000) - (wr64 (Int.tdiv (wr64 ((Int.tmod (wr64 ((Int.tmod w2 400) + 400)) 400) + 1)) 2)))) then (some (t49 == (wr64 ((Int.tmod c3_Y 100000) + (wr64 (Int.tdiv (wr64 ((Int.tmod (wr64 ((Int.tmod w2 400) + 400)) 400) + 1)) 2)))))) else (some false)) else (some false))) else ((stroke_Near_v3.f (Int.tmod (wr64 ((Int.tmod w2 400) + 400)) 400) (wr64 ((Int.tmod c3_X 100000) + (Int.tmod x0 200))) (wr64 ((Int.tmod c3_Y 100000) + (Int.tmod y1 200))) (Int.tmod c3_X 100000) (Int.tmod c3_Y 100000) (Int.tmod c3_X 100000) (Int.tmod c3_Y 100000)).bind fun t104 => (if t104 = (decide ((wr64 (4 * (wr64 ((wr64 ((Int.tmod x0 200) * (Int.tmod x0 200))) + (wr64 ((Int.tmod y1 200) * (Int.tmod y1 200))))))) ≤ (wr64 ((Int.tmod (wr64 ((Int.tmod w2 400) + 400)) 400) * (Int.tmod (wr64 ((Int.tmod w2 400) + 400)) 400))))) then (some false) else (some false))))) else (some false))
theorem glyphiclaw23_StrokeDots.ok {S : Seal} {x0 : Int} {y1 : Int} {w2 : Int} {c3_X : Int} {c3_Y : Int}  (e : glyphiclaw23_StrokeDots.f x0 y1 w2 c3_X c3_Y = some true) :
    Cal Try.prog 6 [.int .i64 x0, .int .i64 y1, .int .i64 w2, .agg #[.int .i64 c3_X, .int .i64 c3_Y]] [] S fun v H' S' => v = .bool true ∧ H' = [] ∧ S' = S := by
  unfold glyphiclaw23_StrokeDots.f at e
  refine cal_of (c := c6) (N := 96) Try.func6 rfl rfl (by kernel_rfl) (rs := [.t 8]) (by kernel_rfl) (Nat.le_of_ble_eq_true rfl) ?_
  unfold c6
  refine w_seq ?_
  refine w_reg fun all => ?_
  refine t_a (.box rfl rfl rfl) fun b1 fb1 sb1 => ?_
  refine t_qz 1 [0, 1, 2, 7] (σ' := [(0, .int .i64 x0), (1, .int .i64 y1), (2, .int .i64 w2), (7, .pointer (some ⟨b1, 0, none⟩))]) (by kernel_rfl) ?_
  refine t_end ?_
  show W _ _ _ _ _ _ _
  refine w_seq ?_
  refine w_reg fun all => ?_
  obtain ⟨t36, h37, e⟩ := bind_of e
  cases t36 with
  | true =>
    rw [if_pos rfl] at e
    refine t_v (.call (vs := []) rfl rfl (by kernel_rfl) (glyphiclaw23_first.ok h37)) ?_
    refine t_qz 1 [0, 1, 2, 7, 9] (σ' := [(0, .int .i64 x0), (1, .int .i64 y1), (2, .int .i64 w2), (7, .pointer (some ⟨b1, 0, none⟩)), (9, .bool true)]) (by kernel_rfl) ?_
    refine t_end ?_
    show W _ _ _ _ _ _ _
    refine w_seq ?_
    refine w_seq ?_
    refine w_reg fun all => ?_
    refine t_qz 2 [0, 1, 2, 7, 9, 17] (σ' := [(0, .int .i64 x0), (1, .int .i64 y1), (2, .int .i64 w2), (7, .pointer (some ⟨b1, 0, none⟩)), (9, .bool true), (17, .bool false)]) (by kernel_rfl) ?_
    refine t_end ?_
    show W _ _ _ _ _ _ _
    refine w_cond rfl (fun c_ => by cases c_) (fun _ => ?_)
    show W _ _ _ _ _ _ _
    refine w_skip ?_
    show W _ _ _ _ _ _ _
    refine w_seq ?_
    refine w_reg fun all => ?_
    refine t_qz 3 [0, 1, 2, 7, 9] (σ' := [(0, .int .i64 (Int.tmod x0 200)), (1, .int .i64 y1), (2, .int .i64 w2), (7, .pointer (some ⟨b1, 0, none⟩)), (9, .bool true)]) (by kernel_rfl) ?_
    refine t_end ?_
    show W _ _ _ _ _ _ _
    refine w_seq ?_
    refine w_reg fun all => ?_
    refine t_qz 3 [0, 1, 2, 7, 9] (σ' := [(0, .int .i64 (Int.tmod x0 200)), (1, .int .i64 (Int.tmod y1 200)), (2, .int .i64 w2), (7, .pointer (some ⟨b1, 0, none⟩)), (9, .bool true)]) (by kernel_rfl) ?_
    refine t_end ?_
    show W _ _ _ _ _ _ _
    refine w_seq ?_
    refine w_reg fun all => ?_
    refine t_qz 5 [0, 1, 2, 7, 9] (σ' := [(0, .int .i64 (Int.tmod x0 200)), (1, .int .i64 (Int.tmod y1 200)), (2, .int .i64 (Int.tmod (wr64 ((Int.tmod w2 400) + 400)) 400)), (7, .pointer (some ⟨b1, 0, none⟩)), (9, .bool true)]) (by kernel_rfl) ?_
    refine t_end ?_
    show W _ _ _ _ _ _ _
    refine w_seq ?_
    refine w_reg fun all => ?_
    refine t_qz 1 [0, 1, 2, 7, 9, 26] (σ' := [(0, .int .i64 (Int.tmod x0 200)), (1, .int .i64 (Int.tmod y1 200)), (2, .int .i64 (Int.tmod (wr64 ((Int.tmod w2 400) + 400)) 400)), (7, .pointer (some ⟨b1, 0, none⟩)), (9, .bool true), (26, .pointer (some ⟨b1, 0, none⟩))]) (by kernel_rfl) ?_
    refine t_v (.ld1 rfl rfl rfl (.at 0 rfl rfl)) ?_
    refine t_qz 2 [0, 1, 2, 7, 9, 28, 29] (σ' := [(0, .int .i64 (Int.tmod x0 200)), (1, .int .i64 (Int.tmod y1 200)), (2, .int .i64 (Int.tmod (wr64 ((Int.tmod w2 400) + 400)) 400)), (7, .pointer (some ⟨b1, 0, none⟩)), (9, .bool true), (28, .int .i64 (Int.tmod c3_X 100000)), (29, .pointer (some ⟨b1, 1, none⟩))]) (by kernel_rfl) ?_
    refine t_v (.ld1 rfl rfl rfl (.at 0 rfl rfl)) ?_
    refine t_qz 2 [0, 1, 2, 7, 9, 32] (σ' := [(0, .int .i64 (Int.tmod x0 200)), (1, .int .i64 (Int.tmod y1 200)), (2, .int .i64 (Int.tmod (wr64 ((Int.tmod w2 400) + 400)) 400)), (7, .pointer (some ⟨b1, 0, none⟩)), (9, .bool true), (32, .agg #[.int .i64 (Int.tmod c3_X 100000), .int .i64 (Int.tmod c3_Y 100000)])]) (by kernel_rfl) ?_
    refine t_sti 0 (cs := [.int .i64 (Int.tmod c3_X 100000), .int .i64 (Int.tmod c3_Y 100000)]) rfl rfl rfl rfl rfl rfl rfl rfl rfl ?_
    refine t_keep [0, 1, 2, 7, 9] (σ' := [(0, .int .i64 (Int.tmod x0 200)), (1, .int .i64 (Int.tmod y1 200)), (2, .int .i64 (Int.tmod (wr64 ((Int.tmod w2 400) + 400)) 400)), (7, .pointer (some ⟨b1, 0, none⟩)), (9, .bool true)]) (by kernel_rfl) ?_
    refine t_end ?_
    show W _ _ _ _ _ _ _
    refine w_seq ?_
    refine w_reg fun all => ?_
    refine t_v (.ldn rfl rfl rfl (.at 0 rfl rfl)) ?_
    refine t_v (.ldn rfl rfl rfl (.at 0 rfl rfl)) ?_
    refine t_qz 1 [0, 1, 2, 7, 9, 35] (σ' := [(0, .int .i64 (Int.tmod x0 200)), (1, .int .i64 (Int.tmod y1 200)), (2, .int .i64 (Int.tmod (wr64 ((Int.tmod w2 400) + 400)) 400)), (7, .pointer (some ⟨b1, 0, none⟩)), (9, .bool true), (35, .agg #[.int .i64 (Int.tmod c3_X 100000), .int .i64 (Int.tmod c3_Y 100000), .int .i64 (Int.tmod c3_X 100000), .int .i64 (Int.tmod c3_Y 100000)])]) (by kernel_rfl) ?_
    refine t_a (.bsl rfl rfl rfl rfl) fun b38 fb38 sb38 => ?_
    refine t_qz 1 [0, 1, 2, 7, 9, 10] (σ' := [(0, .int .i64 (Int.tmod x0 200)), (1, .int .i64 (Int.tmod y1 200)), (2, .int .i64 (Int.tmod (wr64 ((Int.tmod w2 400) + 400)) 400)), (7, .pointer (some ⟨b1, 0, none⟩)), (9, .bool true), (10, .slice (some ⟨b38, 0, none⟩) 1 1)]) (by kernel_rfl) ?_
    refine t_end ?_
    show W _ _ _ _ _ _ _
    refine w_seq ?_
    refine w_reg fun all => ?_
    obtain ⟨⟨t46, t47, t48, t49, t50⟩, h51, e⟩ := bind_of e
    try dsimp only at e
    refine t_qz 2 [0, 1, 2, 7, 9, 10, 38, 39] (σ' := [(0, .int .i64 (Int.tmod x0 200)), (1, .int .i64 (Int.tmod y1 200)), (2, .int .i64 (Int.tmod (wr64 ((Int.tmod w2 400) + 400)) 400)), (7, .pointer (some ⟨b1, 0, none⟩)), (9, .bool true), (10, .slice (some ⟨b38, 0, none⟩) 1 1), (38, .slice (some ⟨b38, 0, none⟩) 1 1), (39, .int .i64 (Int.tmod (wr64 ((Int.tmod w2 400) + 400)) 400))]) (by kernel_rfl) ?_
    refine t_v (.callr (vs := [.slice (some ⟨b38, 0, none⟩) 1 1, .int .i64 (Int.tmod (wr64 ((Int.tmod w2 400) + 400)) 400)]) (A := ([⟨b38, [.int .i64 (Int.tmod c3_X 100000), .int .i64 (Int.tmod c3_Y 100000), .int .i64 (Int.tmod c3_X 100000), .int .i64 (Int.tmod c3_Y 100000)], 4⟩] : List Own)) (F0 := ([⟨b1, [.int .i64 (Int.tmod c3_X 100000), .int .i64 (Int.tmod c3_Y 100000)], 2⟩] : List Own)) rfl rfl (by kernel_rfl) (sel_perm (is := [0]) (by kernel_rfl)) (stroke_Box_v1.ok h51)) ?_
    by_cases c52 : t50 = true
    · rw [if_pos c52] at e
      have c52b : t50 = true := c52
      refine t_qz 3 [0, 1, 2, 7, 9, 10, 37, 41, 42] (σ' := [(0, .int .i64 (Int.tmod x0 200)), (1, .int .i64 (Int.tmod y1 200)), (2, .int .i64 (Int.tmod (wr64 ((Int.tmod w2 400) + 400)) 400)), (7, .pointer (some ⟨b1, 0, none⟩)), (9, .bool true), (10, .slice (some ⟨b38, 0, none⟩) 1 1), (37, .tuple #[.agg #[.int .i64 t46, .int .i64 t47], .agg #[.int .i64 t48, .int .i64 t49], .bool t50]), (41, .agg #[.int .i64 t46, .int .i64 t47]), (42, .agg #[.int .i64 t48, .int .i64 t49])]) (by kernel_rfl) ?_
      refine t_v (dv_quiet rfl (congrArg (fun t => some (Value.bool t)) c52b)) ?_
      refine t_a (.new rfl rfl) fun b53 fb53 sb53 => ?_
      refine t_a (.new rfl rfl) fun b54 fb54 sb54 => ?_
      refine t_sti 1 (cs := [.int .i64 t46, .int .i64 t47]) rfl rfl rfl rfl rfl rfl rfl rfl rfl ?_
      refine t_sti 0 (cs := [.int .i64 t48, .int .i64 t49]) rfl rfl rfl rfl rfl rfl rfl rfl rfl ?_
      refine t_qz 1 [0, 1, 2, 7, 9, 10, 11, 12, 13] (σ' := [(0, .int .i64 (Int.tmod x0 200)), (1, .int .i64 (Int.tmod y1 200)), (2, .int .i64 (Int.tmod (wr64 ((Int.tmod w2 400) + 400)) 400)), (7, .pointer (some ⟨b1, 0, none⟩)), (9, .bool true), (10, .slice (some ⟨b38, 0, none⟩) 1 1), (11, .pointer (some ⟨b53, 0, none⟩)), (12, .pointer (some ⟨b54, 0, none⟩)), (13, .bool true)]) (by kernel_rfl) ?_
      refine t_end ?_
      show W _ _ _ _ _ _ _
      refine w_seq ?_
      refine w_reg fun all => ?_
      refine t_qz 4 [0, 1, 2, 7, 9, 10, 11, 12, 13, 14] (σ' := [(0, .int .i64 (Int.tmod x0 200)), (1, .int .i64 (Int.tmod y1 200)), (2, .int .i64 (Int.tmod (wr64 ((Int.tmod w2 400) + 400)) 400)), (7, .pointer (some ⟨b1, 0, none⟩)), (9, .bool true), (10, .slice (some ⟨b38, 0, none⟩) 1 1), (11, .pointer (some ⟨b53, 0, none⟩)), (12, .pointer (some ⟨b54, 0, none⟩)), (13, .bool true), (14, .int .i64 (wr64 (Int.tdiv (wr64 ((Int.tmod (wr64 ((Int.tmod w2 400) + 400)) 400) + 1)) 2)))]) (by kernel_rfl) ?_
      refine t_end ?_
      show W _ _ _ _ _ _ _
      refine w_seq ?_
      refine w_reg fun all => ?_
      refine t_qz 5 [0, 1, 2, 7, 11, 12, 13, 14, 48, 49, 50, 51] (σ' := [(0, .int .i64 (Int.tmod x0 200)), (1, .int .i64 (Int.tmod y1 200)), (2, .int .i64 (Int.tmod (wr64 ((Int.tmod w2 400) + 400)) 400)), (7, .pointer (some ⟨b1, 0, none⟩)), (11, .pointer (some ⟨b53, 0, none⟩)), (12, .pointer (some ⟨b54, 0, none⟩)), (13, .bool true), (14, .int .i64 (wr64 (Int.tdiv (wr64 ((Int.tmod (wr64 ((Int.tmod w2 400) + 400)) 400) + 1)) 2))), (48, .bool true), (49, .slice (some ⟨b38, 0, none⟩) 1 1), (50, .int .i64 (Int.tmod (wr64 ((Int.tmod w2 400) + 400)) 400)), (51, .pointer (some ⟨b1, 0, none⟩))]) (by kernel_rfl) ?_
      refine t_v (.ld1 rfl rfl rfl (.at 3 rfl rfl)) ?_
      refine t_qz 3 [0, 1, 2, 7, 11, 12, 13, 14, 48, 49, 50, 54, 55] (σ' := [(0, .int .i64 (Int.tmod x0 200)), (1, .int .i64 (Int.tmod y1 200)), (2, .int .i64 (Int.tmod (wr64 ((Int.tmod w2 400) + 400)) 400)), (7, .pointer (some ⟨b1, 0, none⟩)), (11, .pointer (some ⟨b53, 0, none⟩)), (12, .pointer (some ⟨b54, 0, none⟩)), (13, .bool true), (14, .int .i64 (wr64 (Int.tdiv (wr64 ((Int.tmod (wr64 ((Int.tmod w2 400) + 400)) 400) + 1)) 2))), (48, .bool true), (49, .slice (some ⟨b38, 0, none⟩) 1 1), (50, .int .i64 (Int.tmod (wr64 ((Int.tmod w2 400) + 400)) 400)), (54, .int .i64 (wr64 ((Int.tmod c3_X 100000) + (Int.tmod x0 200)))), (55, .pointer (some ⟨b1, 1, none⟩))]) (by kernel_rfl) ?_
      refine t_v (.ld1 rfl rfl rfl (.at 3 rfl rfl)) ?_
      obtain ⟨t98, h99, e⟩ := bind_of e
      refine t_qz 3 [0, 1, 2, 7, 11, 12, 13, 14, 48, 49, 50, 59] (σ' := [(0, .int .i64 (Int.tmod x0 200)), (1, .int .i64 (Int.tmod y1 200)), (2, .int .i64 (Int.tmod (wr64 ((Int.tmod w2 400) + 400)) 400)), (7, .pointer (some ⟨b1, 0, none⟩)), (11, .pointer (some ⟨b53, 0, none⟩)), (12, .pointer (some ⟨b54, 0, none⟩)), (13, .bool true), (14, .int .i64 (wr64 (Int.tdiv (wr64 ((Int.tmod (wr64 ((Int.tmod w2 400) + 400)) 400) + 1)) 2))), (48, .bool true), (49, .slice (some ⟨b38, 0, none⟩) 1 1), (50, .int .i64 (Int.tmod (wr64 ((Int.tmod w2 400) + 400)) 400)), (59, .agg #[.int .i64 (wr64 ((Int.tmod c3_X 100000) + (Int.tmod x0 200))), .int .i64 (wr64 ((Int.tmod c3_Y 100000) + (Int.tmod y1 200)))])]) (by kernel_rfl) ?_
      refine t_v (.callr (vs := [.slice (some ⟨b38, 0, none⟩) 1 1, .int .i64 (Int.tmod (wr64 ((Int.tmod w2 400) + 400)) 400), .agg #[.int .i64 (wr64 ((Int.tmod c3_X 100000) + (Int.tmod x0 200))), .int .i64 (wr64 ((Int.tmod c3_Y 100000) + (Int.tmod y1 200)))]]) (A := ([⟨b38, [.int .i64 (Int.tmod c3_X 100000), .int .i64 (Int.tmod c3_Y 100000), .int .i64 (Int.tmod c3_X 100000), .int .i64 (Int.tmod c3_Y 100000)], 4⟩] : List Own)) (F0 := ([⟨b54, [.int .i64 t48, .int .i64 t49], 2⟩, ⟨b53, [.int .i64 t46, .int .i64 t47], 2⟩, ⟨b1, [.int .i64 (Int.tmod c3_X 100000), .int .i64 (Int.tmod c3_Y 100000)], 2⟩] : List Own)) rfl rfl (by kernel_rfl) (sel_perm (is := [2]) (by kernel_rfl)) (stroke_Near_v3.ok h99)) ?_
      by_cases c100 : t98 = (decide ((wr64 (4 * (wr64 ((wr64 ((Int.tmod x0 200) * (Int.tmod x0 200))) + (wr64 ((Int.tmod y1 200) * (Int.tmod y1 200))))))) ≤ (wr64 ((Int.tmod (wr64 ((Int.tmod w2 400) + 400)) 400) * (Int.tmod (wr64 ((Int.tmod w2 400) + 400)) 400)))))
      · rw [if_pos c100] at e
        have c100b : (t98 == (decide ((wr64 (4 * (wr64 ((wr64 ((Int.tmod x0 200) * (Int.tmod x0 200))) + (wr64 ((Int.tmod y1 200) * (Int.tmod y1 200))))))) ≤ (wr64 ((Int.tmod (wr64 ((Int.tmod w2 400) + 400)) 400) * (Int.tmod (wr64 ((Int.tmod w2 400) + 400)) 400)))))) = true := beq_iff_eq.mpr c100
        refine t_qz 12 [7, 11, 12, 13, 14, 48, 60, 72] (σ' := [(7, .pointer (some ⟨b1, 0, none⟩)), (11, .pointer (some ⟨b53, 0, none⟩)), (12, .pointer (some ⟨b54, 0, none⟩)), (13, .bool true), (14, .int .i64 (wr64 (Int.tdiv (wr64 ((Int.tmod (wr64 ((Int.tmod w2 400) + 400)) 400) + 1)) 2))), (48, .bool true), (60, .bool t98), (72, .bool (decide ((wr64 (4 * (wr64 ((wr64 ((Int.tmod x0 200) * (Int.tmod x0 200))) + (wr64 ((Int.tmod y1 200) * (Int.tmod y1 200))))))) ≤ (wr64 ((Int.tmod (wr64 ((Int.tmod w2 400) + 400)) 400) * (Int.tmod (wr64 ((Int.tmod w2 400) + 400)) 400))))))]) (by kernel_rfl) ?_
        refine t_v (dv_quiet rfl (congrArg (fun t => some (Value.bool t)) c100b)) ?_
        refine t_qz 6 [7, 12, 14, 78, 79] (σ' := [(7, .pointer (some ⟨b1, 0, none⟩)), (12, .pointer (some ⟨b54, 0, none⟩)), (14, .int .i64 (wr64 (Int.tdiv (wr64 ((Int.tmod (wr64 ((Int.tmod w2 400) + 400)) 400) + 1)) 2))), (78, .bool true), (79, .pointer (some ⟨b53, 0, none⟩))]) (by kernel_rfl) ?_
        refine t_v (.ld1 rfl rfl rfl (.at 1 rfl rfl)) ?_
        refine t_qz 1 [7, 12, 14, 78, 80, 81] (σ' := [(7, .pointer (some ⟨b1, 0, none⟩)), (12, .pointer (some ⟨b54, 0, none⟩)), (14, .int .i64 (wr64 (Int.tdiv (wr64 ((Int.tmod (wr64 ((Int.tmod w2 400) + 400)) 400) + 1)) 2))), (78, .bool true), (80, .int .i64 t46), (81, .pointer (some ⟨b1, 0, none⟩))]) (by kernel_rfl) ?_
        refine t_v (.ld1 rfl rfl rfl (.at 3 rfl rfl)) ?_
        by_cases c101 : t46 = (wr64 ((Int.tmod c3_X 100000) - (wr64 (Int.tdiv (wr64 ((Int.tmod (wr64 ((Int.tmod w2 400) + 400)) 400) + 1)) 2))))
        · rw [if_pos c101] at e
          have c101b : (t46 == (wr64 ((Int.tmod c3_X 100000) - (wr64 (Int.tdiv (wr64 ((Int.tmod (wr64 ((Int.tmod w2 400) + 400)) 400) + 1)) 2))))) = true := beq_iff_eq.mpr c101
          refine t_qz 2 [7, 12, 14, 78, 80, 84] (σ' := [(7, .pointer (some ⟨b1, 0, none⟩)), (12, .pointer (some ⟨b54, 0, none⟩)), (14, .int .i64 (wr64 (Int.tdiv (wr64 ((Int.tmod (wr64 ((Int.tmod w2 400) + 400)) 400) + 1)) 2))), (78, .bool true), (80, .int .i64 t46), (84, .int .i64 (wr64 ((Int.tmod c3_X 100000) - (wr64 (Int.tdiv (wr64 ((Int.tmod (wr64 ((Int.tmod w2 400) + 400)) 400) + 1)) 2)))))]) (by kernel_rfl) ?_
          refine t_v (dv_quiet rfl (congrArg (fun t => some (Value.bool t)) c101b)) ?_
          refine t_qz 3 [7, 14, 87, 88] (σ' := [(7, .pointer (some ⟨b1, 0, none⟩)), (14, .int .i64 (wr64 (Int.tdiv (wr64 ((Int.tmod (wr64 ((Int.tmod w2 400) + 400)) 400) + 1)) 2))), (87, .bool true), (88, .pointer (some ⟨b54, 1, none⟩))]) (by kernel_rfl) ?_
          refine t_v (.ld1 rfl rfl rfl (.at 0 rfl rfl)) ?_
          refine t_qz 1 [14, 87, 89, 90] (σ' := [(14, .int .i64 (wr64 (Int.tdiv (wr64 ((Int.tmod (wr64 ((Int.tmod w2 400) + 400)) 400) + 1)) 2))), (87, .bool true), (89, .int .i64 t49), (90, .pointer (some ⟨b1, 1, none⟩))]) (by kernel_rfl) ?_
          refine t_v (.ld1 rfl rfl rfl (.at 3 rfl rfl)) ?_
          refine t_qz 5 [8] (σ' := [(8, .bool (t49 == (wr64 ((Int.tmod c3_Y 100000) + (wr64 (Int.tdiv (wr64 ((Int.tmod (wr64 ((Int.tmod w2 400) + 400)) 400) + 1)) 2))))))]) (by kernel_rfl) ?_
          refine t_end ?_
          show W _ _ _ _ _ _ _
          refine w_ret ?_
          have hr_ := Option.some.inj e
          exact ⟨[.bool (t49 == (wr64 ((Int.tmod c3_Y 100000) + (wr64 (Int.tdiv (wr64 ((Int.tmod (wr64 ((Int.tmod w2 400) + 400)) 400) + 1)) 2)))))], [], S, ⟨rfl, trivial⟩, VS.none, congrArg Value.bool hr_, rfl, rfl⟩
        · rw [if_neg c101] at e
          exact absurd (Option.some.inj e) (by decide)
      · rw [if_neg c100] at e
        exact absurd (Option.some.inj e) (by decide)
    · rw [if_neg c52] at e
      have c52b : t50 = false := Bool.eq_false_iff.mpr c52
      refine t_qz 3 [0, 1, 2, 7, 9, 10, 37, 41, 42] (σ' := [(0, .int .i64 (Int.tmod x0 200)), (1, .int .i64 (Int.tmod y1 200)), (2, .int .i64 (Int.tmod (wr64 ((Int.tmod w2 400) + 400)) 400)), (7, .pointer (some ⟨b1, 0, none⟩)), (9, .bool true), (10, .slice (some ⟨b38, 0, none⟩) 1 1), (37, .tuple #[.agg #[.int .i64 t46, .int .i64 t47], .agg #[.int .i64 t48, .int .i64 t49], .bool t50]), (41, .agg #[.int .i64 t46, .int .i64 t47]), (42, .agg #[.int .i64 t48, .int .i64 t49])]) (by kernel_rfl) ?_
      refine t_v (dv_quiet rfl (congrArg (fun t => some (Value.bool t)) c52b)) ?_
      refine t_a (.new rfl rfl) fun b102 fb102 sb102 => ?_
      refine t_a (.new rfl rfl) fun b103 fb103 sb103 => ?_
      refine t_sti 1 (cs := [.int .i64 t46, .int .i64 t47]) rfl rfl rfl rfl rfl rfl rfl rfl rfl ?_
      refine t_sti 0 (cs := [.int .i64 t48, .int .i64 t49]) rfl rfl rfl rfl rfl rfl rfl rfl rfl ?_
      refine t_qz 1 [0, 1, 2, 7, 9, 10, 11, 12, 13] (σ' := [(0, .int .i64 (Int.tmod x0 200)), (1, .int .i64 (Int.tmod y1 200)), (2, .int .i64 (Int.tmod (wr64 ((Int.tmod w2 400) + 400)) 400)), (7, .pointer (some ⟨b1, 0, none⟩)), (9, .bool true), (10, .slice (some ⟨b38, 0, none⟩) 1 1), (11, .pointer (some ⟨b102, 0, none⟩)), (12, .pointer (some ⟨b103, 0, none⟩)), (13, .bool false)]) (by kernel_rfl) ?_
      refine t_end ?_
      show W _ _ _ _ _ _ _
      refine w_seq ?_
      refine w_reg fun all => ?_
      refine t_qz 4 [0, 1, 2, 7, 9, 10, 11, 12, 13, 14] (σ' := [(0, .int .i64 (Int.tmod x0 200)), (1, .int .i64 (Int.tmod y1 200)), (2, .int .i64 (Int.tmod (wr64 ((Int.tmod w2 400) + 400)) 400)), (7, .pointer (some ⟨b1, 0, none⟩)), (9, .bool true), (10, .slice (some ⟨b38, 0, none⟩) 1 1), (11, .pointer (some ⟨b102, 0, none⟩)), (12, .pointer (some ⟨b103, 0, none⟩)), (13, .bool false), (14, .int .i64 (wr64 (Int.tdiv (wr64 ((Int.tmod (wr64 ((Int.tmod w2 400) + 400)) 400) + 1)) 2)))]) (by kernel_rfl) ?_
      refine t_end ?_
      show W _ _ _ _ _ _ _
      refine w_seq ?_
      refine w_reg fun all => ?_
      refine t_qz 5 [0, 1, 2, 7, 11, 12, 13, 14, 48, 49, 50, 51] (σ' := [(0, .int .i64 (Int.tmod x0 200)), (1, .int .i64 (Int.tmod y1 200)), (2, .int .i64 (Int.tmod (wr64 ((Int.tmod w2 400) + 400)) 400)), (7, .pointer (some ⟨b1, 0, none⟩)), (11, .pointer (some ⟨b102, 0, none⟩)), (12, .pointer (some ⟨b103, 0, none⟩)), (13, .bool false), (14, .int .i64 (wr64 (Int.tdiv (wr64 ((Int.tmod (wr64 ((Int.tmod w2 400) + 400)) 400) + 1)) 2))), (48, .bool true), (49, .slice (some ⟨b38, 0, none⟩) 1 1), (50, .int .i64 (Int.tmod (wr64 ((Int.tmod w2 400) + 400)) 400)), (51, .pointer (some ⟨b1, 0, none⟩))]) (by kernel_rfl) ?_
      refine t_v (.ld1 rfl rfl rfl (.at 3 rfl rfl)) ?_
      refine t_qz 3 [0, 1, 2, 7, 11, 12, 13, 14, 48, 49, 50, 54, 55] (σ' := [(0, .int .i64 (Int.tmod x0 200)), (1, .int .i64 (Int.tmod y1 200)), (2, .int .i64 (Int.tmod (wr64 ((Int.tmod w2 400) + 400)) 400)), (7, .pointer (some ⟨b1, 0, none⟩)), (11, .pointer (some ⟨b102, 0, none⟩)), (12, .pointer (some ⟨b103, 0, none⟩)), (13, .bool false), (14, .int .i64 (wr64 (Int.tdiv (wr64 ((Int.tmod (wr64 ((Int.tmod w2 400) + 400)) 400) + 1)) 2))), (48, .bool true), (49, .slice (some ⟨b38, 0, none⟩) 1 1), (50, .int .i64 (Int.tmod (wr64 ((Int.tmod w2 400) + 400)) 400)), (54, .int .i64 (wr64 ((Int.tmod c3_X 100000) + (Int.tmod x0 200)))), (55, .pointer (some ⟨b1, 1, none⟩))]) (by kernel_rfl) ?_
      refine t_v (.ld1 rfl rfl rfl (.at 3 rfl rfl)) ?_
      obtain ⟨t104, h105, e⟩ := bind_of e
      refine t_qz 3 [0, 1, 2, 7, 11, 12, 13, 14, 48, 49, 50, 59] (σ' := [(0, .int .i64 (Int.tmod x0 200)), (1, .int .i64 (Int.tmod y1 200)), (2, .int .i64 (Int.tmod (wr64 ((Int.tmod w2 400) + 400)) 400)), (7, .pointer (some ⟨b1, 0, none⟩)), (11, .pointer (some ⟨b102, 0, none⟩)), (12, .pointer (some ⟨b103, 0, none⟩)), (13, .bool false), (14, .int .i64 (wr64 (Int.tdiv (wr64 ((Int.tmod (wr64 ((Int.tmod w2 400) + 400)) 400) + 1)) 2))), (48, .bool true), (49, .slice (some ⟨b38, 0, none⟩) 1 1), (50, .int .i64 (Int.tmod (wr64 ((Int.tmod w2 400) + 400)) 400)), (59, .agg #[.int .i64 (wr64 ((Int.tmod c3_X 100000) + (Int.tmod x0 200))), .int .i64 (wr64 ((Int.tmod c3_Y 100000) + (Int.tmod y1 200)))])]) (by kernel_rfl) ?_
      refine t_v (.callr (vs := [.slice (some ⟨b38, 0, none⟩) 1 1, .int .i64 (Int.tmod (wr64 ((Int.tmod w2 400) + 400)) 400), .agg #[.int .i64 (wr64 ((Int.tmod c3_X 100000) + (Int.tmod x0 200))), .int .i64 (wr64 ((Int.tmod c3_Y 100000) + (Int.tmod y1 200)))]]) (A := ([⟨b38, [.int .i64 (Int.tmod c3_X 100000), .int .i64 (Int.tmod c3_Y 100000), .int .i64 (Int.tmod c3_X 100000), .int .i64 (Int.tmod c3_Y 100000)], 4⟩] : List Own)) (F0 := ([⟨b103, [.int .i64 t48, .int .i64 t49], 2⟩, ⟨b102, [.int .i64 t46, .int .i64 t47], 2⟩, ⟨b1, [.int .i64 (Int.tmod c3_X 100000), .int .i64 (Int.tmod c3_Y 100000)], 2⟩] : List Own)) rfl rfl (by kernel_rfl) (sel_perm (is := [2]) (by kernel_rfl)) (stroke_Near_v3.ok h105)) ?_
      by_cases c106 : t104 = (decide ((wr64 (4 * (wr64 ((wr64 ((Int.tmod x0 200) * (Int.tmod x0 200))) + (wr64 ((Int.tmod y1 200) * (Int.tmod y1 200))))))) ≤ (wr64 ((Int.tmod (wr64 ((Int.tmod w2 400) + 400)) 400) * (Int.tmod (wr64 ((Int.tmod w2 400) + 400)) 400)))))
      · rw [if_pos c106] at e
        exact absurd (Option.some.inj e) (by decide)
      · rw [if_neg c106] at e
        exact absurd (Option.some.inj e) (by decide)
  | false =>
    rw [if_neg (by decide)] at e
    exact absurd (Option.some.inj e) (by decide)

def glyphiclaw23_StrokeDots.Pure : Prop := ∀ (x0 : Int) (y1 : Int) (w2 : Int) (c3_X : Int) (c3_Y : Int), (Lit.int .i64 x0).wf = true → (Lit.int .i64 y1).wf = true → (Lit.int .i64 w2).wf = true → (Lit.int .i64 c3_X).wf = true → (Lit.int .i64 c3_Y).wf = true → glyphiclaw23_StrokeDots.f x0 y1 w2 c3_X c3_Y = some true
theorem glyphiclaw23_StrokeDots.walk (P : glyphiclaw23_StrokeDots.Pure) (x0 : Int) (y1 : Int) (w2 : Int) (c3_X : Int) (c3_Y : Int) (w : World) (hx0 : (Lit.int .i64 x0).wf = true) (hy1 : (Lit.int .i64 y1).wf = true) (hw2 : (Lit.int .i64 w2).wf = true) (hc3_X : (Lit.int .i64 c3_X).wf = true) (hc3_Y : (Lit.int .i64 c3_Y).wf = true) :
    Calls Try.prog 6 #[.int .i64 x0, .int .i64 y1, .int .i64 w2, .agg #[.int .i64 c3_X, .int .i64 c3_Y]] w fun e w' => e = .returned (.bool true) ∧ Below w.heap.size w w' := law_w (hok0 w) (glyphiclaw23_StrokeDots.ok (P x0 y1 w2 c3_X c3_Y hx0 hy1 hw2 hc3_X hc3_Y))
end Go.Proofs.Ytijjgmkhgcofiaa.QStrokeDots
