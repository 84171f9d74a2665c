/- Functions of the program as Lean functions, each with the proof of its walk. Written by gen.py, a program of these sessions. -/
import Derived.Test.YtijjgmkhgcofiaaE
import Derived.Test.YtijjgmkhgcofiaaProg
namespace Go.Proofs.Ytijjgmkhgcofiaa.QFlattenEnds
open Go Go.RowKit Go.Proofs.YtijjgmkhgcofiaaE
set_option linter.unusedVariables false
set_option maxRecDepth 100000
set_option maxHeartbeats 8000000
theorem mixed : Try.prog.follows .mixedOrders = true := by kernel_rfl

/-- flatten.Count -/
def c27 : C :=
  (.seq (.reg [⟨(some 2), .box (.tmp 0), none⟩,
     ⟨(some 3), .box (.tmp 1), none⟩,
     ⟨(some 4), .mv (.const (.int .i64 0)), none⟩])
  (.seq (.reg [⟨(some 5), .mv (.const (.int .i64 0)), none⟩])
  (.seq (.seq (.reg [⟨(some 7), .pad 0 (.tmp 3), none⟩,
      ⟨(some 8), .ld none (.tmp 7), none⟩])
   (.block 0 (.seq (.reg [⟨(some 10), .bin .eql (.tmp 8) (.const (.int .i64 1)), none⟩,
       ⟨(some 9), .mv (.tmp 10), none⟩])
    (.cond (.tmp 9)
     .skip
     (.seq (.reg [⟨(some 12), .bin .eql (.tmp 8) (.const (.int .i64 2)), none⟩,
         ⟨(some 11), .mv (.tmp 12), none⟩])
      (.cond (.tmp 11)
       (.reg [⟨(some 13), .ld (some 2) (.tmp 2), none⟩,
          ⟨(some 14), .pad 1 (.tmp 3), none⟩,
          ⟨(some 15), .ixa 2 3 (.tmp 14) (.const (.int .i64 0)), none⟩,
          ⟨(some 16), .ld (some 2) (.tmp 15), none⟩,
          ⟨(some 17), .pad 1 (.tmp 3), none⟩,
          ⟨(some 18), .ixa 2 3 (.tmp 17) (.const (.int .i64 1)), none⟩,
          ⟨(some 19), .ld (some 2) (.tmp 18), none⟩,
          ⟨(some 20), .call 44 [(.tmp 13), (.tmp 16), (.tmp 19)], none⟩,
          ⟨(some 5), .mv (.tmp 20), none⟩])
       (.seq (.reg [⟨(some 22), .bin .eql (.tmp 8) (.const (.int .i64 3)), none⟩,
           ⟨(some 21), .mv (.tmp 22), none⟩])
        (.cond (.tmp 21)
         (.drw [⟨(some 23), .ld (some 2) (.tmp 2), none⟩,
            ⟨(some 24), .pad 1 (.tmp 3), none⟩,
            ⟨(some 25), .ixa 2 3 (.tmp 24) (.const (.int .i64 0)), none⟩,
            ⟨(some 26), .ld (some 2) (.tmp 25), none⟩,
            ⟨(some 27), .pad 1 (.tmp 3), none⟩,
            ⟨(some 28), .ixa 2 3 (.tmp 27) (.const (.int .i64 1)), none⟩,
            ⟨(some 29), .ld (some 2) (.tmp 28), none⟩,
            ⟨(some 30), .call 44 [(.tmp 23), (.tmp 26), (.tmp 29)], none⟩,
            ⟨(some 31), .pad 1 (.tmp 3), none⟩,
            ⟨(some 32), .ixa 2 3 (.tmp 31) (.const (.int .i64 0)), none⟩,
            ⟨(some 33), .ld (some 2) (.tmp 32), none⟩,
            ⟨(some 34), .pad 1 (.tmp 3), none⟩,
            ⟨(some 35), .ixa 2 3 (.tmp 34) (.const (.int .i64 1)), none⟩,
            ⟨(some 36), .ld (some 2) (.tmp 35), none⟩,
            ⟨(some 37), .pad 1 (.tmp 3), none⟩,
            ⟨(some 38), .ixa 2 3 (.tmp 37) (.const (.int .i64 2)), none⟩,
            ⟨(some 39), .ld (some 2) (.tmp 38), none⟩,
            ⟨(some 40), .call 44 [(.tmp 33), (.tmp 36), (.tmp 39)], none⟩,
            ⟨(some 41), .mm true [(.tmp 30), (.tmp 40)], none⟩,
            ⟨(some 42), .bin .mul (.const (.int .i64 3)) (.tmp 41), none⟩,
            ⟨(some 5), .mv (.tmp 42), none⟩] [[], [], [1], [2], [], [4], [5], [0, 3, 6], [], [8], [9], [], [11], [12], [], [14], [15], [10, 13, 16, 7], [7, 17], [18], [19, 17, 0, 1, 2, 3, 4, 5, 6, 7, 8, 9, 10, 11, 12, 13, 14, 15, 16, 17, 18, 19]])
         (.seq (.reg [⟨(some 4), .mv (.const (.int .i64 0)), none⟩])
          .ret)))))))))
  (.seq (.reg [⟨(some 6), .mv (.const (.int .i64 1)), none⟩])
  (.seq (.block 1 (.loop (.seq (.seq (.reg [⟨(some 43), .mv (.tmp 5), none⟩,
         ⟨(some 44), .mv (.tmp 6), none⟩,
         ⟨(some 45), .bin .mul (.const (.int .i64 32)) (.tmp 44), none⟩,
         ⟨(some 46), .mv (.tmp 6), none⟩,
         ⟨(some 47), .bin .mul (.tmp 45) (.tmp 46), none⟩,
         ⟨(some 48), .bin .gtr (.tmp 43) (.tmp 47), none⟩])
      (.cond (.tmp 48)
       .skip
       (.exit 1)))
     (.block 2 (.reg [⟨(some 49), .mv (.tmp 6), none⟩,
        ⟨(some 50), .bin .mul (.tmp 49) (.const (.int .i64 2)), none⟩,
        ⟨(some 6), .mv (.tmp 50), none⟩])))))
  (.seq (.reg [⟨(some 51), .mv (.tmp 6), none⟩,
     ⟨(some 4), .mv (.tmp 51), none⟩])
  .ret))))))
def flatten_Count_v1.f  : Option (Unit) := some ()
theorem flatten_Count_v1.ok {S : Seal}   (e : flatten_Count_v1.f  = some ()) :
    Cal Try.prog 27 [.agg #[.int .i64 0, .int .i64 0], .agg #[.int .i64 1, .int .i64 5, .int .i64 0, .int .i64 0, .int .i64 0, .int .i64 0, .int .i64 0]] [] S fun v H' S' => v = .int .i64 1 ∧ H' = [] ∧ S' = S := by
  unfold flatten_Count_v1.f at e
  refine cal_of (c := c27) (N := 52) Try.func27 rfl rfl (by kernel_rfl) (rs := [.t 4]) (by kernel_rfl) (Nat.le_of_ble_eq_true rfl) ?_
  unfold c27
  refine w_seq ?_
  refine w_reg fun all => ?_
  refine t_a (.box rfl rfl rfl) fun b6 fb6 sb6 => ?_
  refine t_a (.box rfl rfl rfl) fun b7 fb7 sb7 => ?_
  refine t_qz 1 [2, 3] (σ' := [(2, .pointer (some ⟨b6, 0, none⟩)), (3, .pointer (some ⟨b7, 0, none⟩))]) (by kernel_rfl) ?_
  refine t_end ?_
  show W _ _ _ _ _ _ _
  refine w_seq ?_
  refine w_reg fun all => ?_
  refine t_qz 1 [2, 3, 5] (σ' := [(2, .pointer (some ⟨b6, 0, none⟩)), (3, .pointer (some ⟨b7, 0, none⟩)), (5, .int .i64 0)]) (by kernel_rfl) ?_
  refine t_end ?_
  show W _ _ _ _ _ _ _
  refine w_seq ?_
  refine w_seq ?_
  refine w_reg fun all => ?_
  refine t_qz 1 [2, 3, 5, 7] (σ' := [(2, .pointer (some ⟨b6, 0, none⟩)), (3, .pointer (some ⟨b7, 0, none⟩)), (5, .int .i64 0), (7, .pointer (some ⟨b7, 0, none⟩))]) (by kernel_rfl) ?_
  refine t_v (.ld1 rfl rfl rfl (.at 0 rfl rfl)) ?_
  refine t_keep [2, 3, 5, 8] (σ' := [(2, .pointer (some ⟨b6, 0, none⟩)), (3, .pointer (some ⟨b7, 0, none⟩)), (5, .int .i64 0), (8, .int .i64 1)]) (by kernel_rfl) ?_
  refine t_end ?_
  show W _ _ _ _ _ _ _
  refine w_block ?_
  refine w_seq ?_
  refine w_reg fun all => ?_
  refine t_qz 2 [2, 3, 5, 8, 9] (σ' := [(2, .pointer (some ⟨b6, 0, none⟩)), (3, .pointer (some ⟨b7, 0, none⟩)), (5, .int .i64 0), (8, .int .i64 1), (9, .bool true)]) (by kernel_rfl) ?_
  refine t_end ?_
  show W _ _ _ _ _ _ _
  refine w_cond rfl (fun _ => ?_) (fun c_ => by cases c_)
  show W _ _ _ _ _ _ _
  refine w_skip ?_
  show W _ _ _ _ _ _ _
  refine w_seq ?_
  refine w_reg fun all => ?_
  refine t_qz 1 [5, 6] (σ' := [(5, .int .i64 0), (6, .int .i64 1)]) (by kernel_rfl) ?_
  refine t_end ?_
  show W _ _ _ _ _ _ _
  refine w_seq ?_
  refine w_block ?_
  refine w_lun 10 ?_
  refine wl_step ?_
  refine w_seq ?_
  refine w_seq ?_
  refine w_reg fun all => ?_
  refine t_qz 6 [5, 6, 48] (σ' := [(5, .int .i64 0), (6, .int .i64 1), (48, .bool false)]) (by kernel_rfl) ?_
  refine t_end ?_
  show W _ _ _ _ _ _ _
  refine w_cond rfl (fun c_ => by cases c_) (fun _ => ?_)
  show W _ _ _ _ _ _ _
  refine w_exit ?_
  show W _ _ _ _ _ _ _
  refine w_seq ?_
  refine w_reg fun all => ?_
  refine t_qz 2 [4] (σ' := [(4, .int .i64 1)]) (by kernel_rfl) ?_
  refine t_end ?_
  show W _ _ _ _ _ _ _
  refine w_ret ?_
  exact ⟨[.int .i64 1], [], S, ⟨rfl, trivial⟩, VS.none, rfl, rfl, rfl⟩

/-- flatten.points -/
def c45 : C :=
  (.seq (.reg [⟨(some 1), .box (.tmp 0), none⟩,
     ⟨(some 2), .mv (.const (.slice none 0 0)), none⟩])
  (.seq (.seq (.reg [⟨(some 3), .pad 0 (.tmp 1), none⟩,
      ⟨(some 4), .ld none (.tmp 3), none⟩,
      ⟨(some 5), .bin .lss (.tmp 4) (.const (.int .i64 1)), none⟩,
      ⟨(some 6), .mv (.tmp 5), none⟩,
      ⟨(some 7), .pad 0 (.tmp 1), (some (6, false))⟩,
      ⟨(some 8), .ld none (.tmp 7), (some (6, false))⟩,
      ⟨(some 9), .bin .gtr (.tmp 8) (.const (.int .i64 3)), (some (6, false))⟩,
      ⟨(some 10), .pk (.tmp 6) (.const (.bool true)) (.tmp 9), none⟩])
   (.cond (.tmp 10)
    (.seq (.reg [⟨(some 2), .mv (.const (.slice none 0 0)), none⟩])
     .ret)
    .skip))
  (.seq (.reg [⟨(some 11), .pad 1 (.tmp 1), none⟩,
     ⟨(some 12), .pad 0 (.tmp 1), none⟩,
     ⟨(some 13), .ld none (.tmp 12), none⟩,
     ⟨(some 14), .sla 2 3 (.tmp 11) none (some (.tmp 13)), none⟩,
     ⟨(some 2), .mv (.tmp 14), none⟩])
  .ret)))
def flatten_points_v1.f  : Option (Unit) := some ()
theorem flatten_points_v1.ok {S : Seal}   (e : flatten_points_v1.f  = some ()) :
    Cal Try.prog 45 [.agg #[.int .i64 1, .int .i64 5, .int .i64 0, .int .i64 0, .int .i64 0, .int .i64 0, .int .i64 0]] [] S fun v H' S' => ∃ N0_ : Nat, v = .slice (some ⟨N0_, 1, none⟩) 1 3 ∧ H' = ([⟨N0_, [.int .i64 1, .int .i64 5, .int .i64 0, .int .i64 0, .int .i64 0, .int .i64 0, .int .i64 0], 7⟩] : List Own) ∧ S' = S := by
  unfold flatten_points_v1.f at e
  refine cal_of (c := c45) (N := 15) Try.func45 rfl rfl (by kernel_rfl) (rs := [.t 2]) (by kernel_rfl) (Nat.le_of_ble_eq_true rfl) ?_
  unfold c45
  refine w_seq ?_
  refine w_reg fun all => ?_
  refine t_a (.box rfl rfl rfl) fun b21 fb21 sb21 => ?_
  refine t_qz 1 [1] (σ' := [(1, .pointer (some ⟨b21, 0, none⟩))]) (by kernel_rfl) ?_
  refine t_end ?_
  show W _ _ _ _ _ _ _
  refine w_seq ?_
  refine w_seq ?_
  refine w_reg fun all => ?_
  refine t_qz 1 [1, 3] (σ' := [(1, .pointer (some ⟨b21, 0, none⟩)), (3, .pointer (some ⟨b21, 0, none⟩))]) (by kernel_rfl) ?_
  refine t_v (.ld1 rfl rfl rfl (.at 0 rfl rfl)) ?_
  refine t_qz 3 [1, 6, 7] (σ' := [(1, .pointer (some ⟨b21, 0, none⟩)), (6, .bool false), (7, .pointer (some ⟨b21, 0, none⟩))]) (by kernel_rfl) ?_
  refine t_v (.ld1 rfl rfl rfl (.at 0 rfl rfl)) ?_
  refine t_qz 2 [1, 10] (σ' := [(1, .pointer (some ⟨b21, 0, none⟩)), (10, .bool false)]) (by kernel_rfl) ?_
  refine t_end ?_
  show W _ _ _ _ _ _ _
  refine w_cond rfl (fun c_ => by cases c_) (fun _ => ?_)
  show W _ _ _ _ _ _ _
  refine w_skip ?_
  show W _ _ _ _ _ _ _
  refine w_seq ?_
  refine w_reg fun all => ?_
  refine t_qz 2 [11, 12] (σ' := [(11, .pointer (some ⟨b21, 1, none⟩)), (12, .pointer (some ⟨b21, 0, none⟩))]) (by kernel_rfl) ?_
  refine t_v (.ld1 rfl rfl rfl (.at 0 rfl rfl)) ?_
  refine t_qz 2 [2] (σ' := [(2, .slice (some ⟨b21, 1, none⟩) 1 3)]) (by kernel_rfl) ?_
  refine t_end ?_
  show W _ _ _ _ _ _ _
  refine w_ret ?_
  exact ⟨[.slice (some ⟨b21, 1, none⟩) 1 3], ([⟨b21, [.int .i64 1, .int .i64 5, .int .i64 0, .int .i64 0, .int .i64 0, .int .i64 0, .int .i64 0], 7⟩] : List Own), S, ⟨rfl, trivial⟩, VS.sel [0] (by kernel_rfl), b21, rfl, rfl, rfl⟩

/-- fixed.Down -/
def c69 : C :=
  (.seq (.reg [⟨(some 4), .mv (.const (.int .i64 0)), none⟩])
  (.seq (.seq (.reg [⟨(some 6), .mv (.tmp 1), none⟩,
      ⟨(some 7), .bin .lss (.tmp 6) (.const (.int .i64 1)), none⟩])
   (.cond (.tmp 7)
    (.seq (.reg [⟨(some 4), .mv (.const (.int .i64 0)), none⟩])
     .ret)
    .skip))
  (.seq (.reg [⟨(some 8), .mv (.tmp 0), none⟩,
     ⟨(some 9), .mv (.tmp 1), none⟩,
     ⟨(some 10), .bin .quo (.tmp 8) (.tmp 9), none⟩,
     ⟨(some 5), .mv (.tmp 10), none⟩])
  (.seq (.seq (.reg [⟨(some 11), .mv (.tmp 0), none⟩,
      ⟨(some 12), .mv (.tmp 1), none⟩,
      ⟨(some 13), .bin .rem (.tmp 11) (.tmp 12), none⟩,
      ⟨(some 14), .bin .lss (.tmp 13) (.const (.int .i64 0)), none⟩])
   (.cond (.tmp 14)
    (.reg [⟨(some 15), .mv (.tmp 5), none⟩,
       ⟨(some 16), .bin .sub (.tmp 15) (.const (.int .i64 1)), none⟩,
       ⟨(some 5), .mv (.tmp 16), none⟩])
    .skip))
  (.seq (.reg [⟨(some 17), .mv (.tmp 5), none⟩,
     ⟨(some 4), .mv (.tmp 17), none⟩])
  .ret)))))
def fixed_Down_v1.f  : Option (Unit) := some ()
theorem fixed_Down_v1.ok {S : Seal}   (e : fixed_Down_v1.f  = some ()) :
    Cal Try.prog 69 [.int .i64 5, .int .i64 1] [] S fun v H' S' => v = .int .i64 5 ∧ H' = [] ∧ S' = S := by
  unfold fixed_Down_v1.f at e
  refine cal_of (c := c69) (N := 18) Try.func69 rfl rfl (by kernel_rfl) (rs := [.t 4]) (by kernel_rfl) (Nat.le_of_ble_eq_true rfl) ?_
  unfold c69
  refine w_seq ?_
  refine w_reg fun all => ?_
  refine t_qz 1 [0, 1] (σ' := [(0, .int .i64 5), (1, .int .i64 1)]) (by kernel_rfl) ?_
  refine t_end ?_
  show W _ _ _ _ _ _ _
  refine w_seq ?_
  refine w_seq ?_
  refine w_reg fun all => ?_
  refine t_qz 2 [0, 1, 7] (σ' := [(0, .int .i64 5), (1, .int .i64 1), (7, .bool false)]) (by kernel_rfl) ?_
  refine t_end ?_
  show W _ _ _ _ _ _ _
  refine w_cond rfl (fun c_ => by cases c_) (fun _ => ?_)
  show W _ _ _ _ _ _ _
  refine w_skip ?_
  show W _ _ _ _ _ _ _
  refine w_seq ?_
  refine w_reg fun all => ?_
  refine t_qz 4 [0, 1, 5] (σ' := [(0, .int .i64 5), (1, .int .i64 1), (5, .int .i64 5)]) (by kernel_rfl) ?_
  refine t_end ?_
  show W _ _ _ _ _ _ _
  refine w_seq ?_
  refine w_seq ?_
  refine w_reg fun all => ?_
  refine t_qz 4 [5, 14] (σ' := [(5, .int .i64 5), (14, .bool false)]) (by kernel_rfl) ?_
  refine t_end ?_
  show W _ _ _ _ _ _ _
  refine w_cond rfl (fun c_ => by cases c_) (fun _ => ?_)
  show W _ _ _ _ _ _ _
  refine w_skip ?_
  show W _ _ _ _ _ _ _
  refine w_seq ?_
  refine w_reg fun all => ?_
  refine t_qz 2 [4] (σ' := [(4, .int .i64 5)]) (by kernel_rfl) ?_
  refine t_end ?_
  show W _ _ _ _ _ _ _
  refine w_ret ?_
  exact ⟨[.int .i64 5], [], S, ⟨rfl, trivial⟩, VS.none, rfl, rfl, rfl⟩

/-- fixed.Round -/
def c65 : C :=
  (.seq (.reg [⟨(some 4), .mv (.const (.int .i64 0)), none⟩])
  (.seq (.seq (.reg [⟨(some 7), .mv (.tmp 1), none⟩,
      ⟨(some 8), .bin .lss (.tmp 7) (.const (.int .i64 1)), none⟩])
   (.cond (.tmp 8)
    (.seq (.reg [⟨(some 4), .mv (.const (.int .i64 0)), none⟩])
     .ret)
    .skip))
  (.seq (.reg [⟨(some 9), .mv (.tmp 0), none⟩,
     ⟨(some 10), .mv (.tmp 1), none⟩,
     ⟨(some 11), .call 69 [(.tmp 9), (.tmp 10)], none⟩,
     ⟨(some 5), .mv (.tmp 11), none⟩])
  (.seq (.seq (.reg [⟨(some 12), .mv (.tmp 0), none⟩,
      ⟨(some 13), .mv (.tmp 5), none⟩,
      ⟨(some 14), .mv (.tmp 1), none⟩,
      ⟨(some 15), .bin .mul (.tmp 13) (.tmp 14), none⟩,
      ⟨(some 16), .bin .sub (.tmp 12) (.tmp 15), none⟩,
      ⟨(some 6), .mv (.tmp 16), none⟩])
   (.seq (.reg [⟨(some 17), .mv (.tmp 6), none⟩,
      ⟨(some 18), .mv (.tmp 1), none⟩,
      ⟨(some 19), .mv (.tmp 6), none⟩,
      ⟨(some 20), .bin .sub (.tmp 18) (.tmp 19), none⟩,
      ⟨(some 21), .bin .geq (.tmp 17) (.tmp 20), none⟩])
   (.cond (.tmp 21)
    (.reg [⟨(some 22), .mv (.tmp 5), none⟩,
       ⟨(some 23), .bin .add (.tmp 22) (.const (.int .i64 1)), none⟩,
       ⟨(some 5), .mv (.tmp 23), none⟩])
    .skip)))
  (.seq (.reg [⟨(some 24), .mv (.tmp 5), none⟩,
     ⟨(some 4), .mv (.tmp 24), none⟩])
  .ret)))))
def fixed_Round_v1.f  : Option (Unit) := (fixed_Down_v1.f).bind fun _ => (some ())
theorem fixed_Round_v1.ok {S : Seal}   (e : fixed_Round_v1.f  = some ()) :
    Cal Try.prog 65 [.int .i64 5, .int .i64 1] [] S fun v H' S' => v = .int .i64 5 ∧ H' = [] ∧ S' = S := by
  unfold fixed_Round_v1.f at e
  refine cal_of (c := c65) (N := 25) Try.func65 rfl rfl (by kernel_rfl) (rs := [.t 4]) (by kernel_rfl) (Nat.le_of_ble_eq_true rfl) ?_
  unfold c65
  refine w_seq ?_
  refine w_reg fun all => ?_
  refine t_qz 1 [0, 1] (σ' := [(0, .int .i64 5), (1, .int .i64 1)]) (by kernel_rfl) ?_
  refine t_end ?_
  show W _ _ _ _ _ _ _
  refine w_seq ?_
  refine w_seq ?_
  refine w_reg fun all => ?_
  refine t_qz 2 [0, 1, 8] (σ' := [(0, .int .i64 5), (1, .int .i64 1), (8, .bool false)]) (by kernel_rfl) ?_
  refine t_end ?_
  show W _ _ _ _ _ _ _
  refine w_cond rfl (fun c_ => by cases c_) (fun _ => ?_)
  show W _ _ _ _ _ _ _
  refine w_skip ?_
  show W _ _ _ _ _ _ _
  refine w_seq ?_
  refine w_reg fun all => ?_
  obtain ⟨u_, h29, e⟩ := bind_of e
  refine t_qz 2 [0, 1, 9, 10] (σ' := [(0, .int .i64 5), (1, .int .i64 1), (9, .int .i64 5), (10, .int .i64 1)]) (by kernel_rfl) ?_
  refine t_v (.call (vs := [.int .i64 5, .int .i64 1]) rfl rfl (by kernel_rfl) (fixed_Down_v1.ok h29)) ?_
  refine t_qz 1 [0, 1, 5] (σ' := [(0, .int .i64 5), (1, .int .i64 1), (5, .int .i64 5)]) (by kernel_rfl) ?_
  refine t_end ?_
  show W _ _ _ _ _ _ _
  refine w_seq ?_
  refine w_seq ?_
  refine w_reg fun all => ?_
  refine t_qz 6 [1, 5, 6] (σ' := [(1, .int .i64 1), (5, .int .i64 5), (6, .int .i64 0)]) (by kernel_rfl) ?_
  refine t_end ?_
  show W _ _ _ _ _ _ _
  refine w_seq ?_
  refine w_reg fun all => ?_
  refine t_qz 5 [5, 21] (σ' := [(5, .int .i64 5), (21, .bool false)]) (by kernel_rfl) ?_
  refine t_end ?_
  show W _ _ _ _ _ _ _
  refine w_cond rfl (fun c_ => by cases c_) (fun _ => ?_)
  show W _ _ _ _ _ _ _
  refine w_skip ?_
  show W _ _ _ _ _ _ _
  refine w_seq ?_
  refine w_reg fun all => ?_
  refine t_qz 2 [4] (σ' := [(4, .int .i64 5)]) (by kernel_rfl) ?_
  refine t_end ?_
  show W _ _ _ _ _ _ _
  refine w_ret ?_
  exact ⟨[.int .i64 5], [], S, ⟨rfl, trivial⟩, VS.none, rfl, rfl, rfl⟩

/-- flatten.mix -/
def c46 : C :=
  (.seq (.reg [⟨(some 6), .mv (.const (.int .i64 0)), none⟩])
  (.seq (.reg [⟨(some 8), .mv (.tmp 1), none⟩,
     ⟨(some 9), .mv (.tmp 0), none⟩,
     ⟨(some 10), .bin .sub (.tmp 8) (.tmp 9), none⟩,
     ⟨(some 7), .mv (.tmp 10), none⟩])
  (.seq (.seq (.reg [⟨(some 11), .mv (.tmp 2), none⟩,
      ⟨(some 12), .lns (.tmp 11), none⟩])
   (.block 0 (.seq (.reg [⟨(some 14), .bin .eql (.tmp 12) (.const (.int .i64 1)), none⟩,
       ⟨(some 13), .mv (.tmp 14), none⟩])
    (.cond (.tmp 13)
     (.seq (.reg [⟨(some 15), .mv (.tmp 2), none⟩,
         ⟨(some 16), .ixs 1 (.tmp 15) (.const (.int .i64 0)), none⟩,
         ⟨(some 17), .ld none (.tmp 16), none⟩,
         ⟨(some 6), .mv (.tmp 17), none⟩])
      .ret)
     (.seq (.reg [⟨(some 19), .bin .eql (.tmp 12) (.const (.int .i64 2)), none⟩,
         ⟨(some 18), .mv (.tmp 19), none⟩])
      (.cond (.tmp 18)
       (.seq (.drw [⟨(some 20), .mv (.tmp 7), none⟩,
           ⟨(some 21), .mv (.tmp 2), none⟩,
           ⟨(some 22), .ixs 1 (.tmp 21) (.const (.int .i64 0)), none⟩,
           ⟨(some 23), .ld none (.tmp 22), none⟩,
           ⟨(some 24), .bin .mul (.tmp 20) (.tmp 23), none⟩,
           ⟨(some 25), .mv (.tmp 0), none⟩,
           ⟨(some 26), .mv (.tmp 2), none⟩,
           ⟨(some 27), .ixs 1 (.tmp 26) (.const (.int .i64 1)), none⟩,
           ⟨(some 28), .ld none (.tmp 27), none⟩,
           ⟨(some 29), .bin .mul (.tmp 25) (.tmp 28), none⟩,
           ⟨(some 30), .bin .add (.tmp 24) (.tmp 29), none⟩,
           ⟨(some 31), .mv (.tmp 1), none⟩,
           ⟨(some 32), .call 65 [(.tmp 30), (.tmp 31)], none⟩,
           ⟨(some 6), .mv (.tmp 32), none⟩] [[], [], [1], [2], [0, 3], [], [], [6], [7], [5, 8], [4, 9], [], [10, 11], [12, 12, 0, 1, 2, 3, 4, 5, 6, 7, 8, 9, 10, 11, 12]])
        .ret)
       (.seq (.reg [⟨(some 34), .bin .eql (.tmp 12) (.const (.int .i64 3)), none⟩,
           ⟨(some 33), .mv (.tmp 34), none⟩])
        (.cond (.tmp 33)
         (.seq (.drw [⟨(some 35), .mv (.tmp 7), none⟩,
             ⟨(some 36), .mv (.tmp 7), none⟩,
             ⟨(some 37), .bin .mul (.tmp 35) (.tmp 36), none⟩,
             ⟨(some 38), .mv (.tmp 2), none⟩,
             ⟨(some 39), .ixs 1 (.tmp 38) (.const (.int .i64 0)), none⟩,
             ⟨(some 40), .ld none (.tmp 39), none⟩,
             ⟨(some 41), .bin .mul (.tmp 37) (.tmp 40), none⟩,
             ⟨(some 42), .mv (.tmp 0), none⟩,
             ⟨(some 43), .bin .mul (.const (.int .i64 2)) (.tmp 42), none⟩,
             ⟨(some 44), .mv (.tmp 7), none⟩,
             ⟨(some 45), .bin .mul (.tmp 43) (.tmp 44), none⟩,
             ⟨(some 46), .mv (.tmp 2), none⟩,
             ⟨(some 47), .ixs 1 (.tmp 46) (.const (.int .i64 1)), none⟩,
             ⟨(some 48), .ld none (.tmp 47), none⟩,
             ⟨(some 49), .bin .mul (.tmp 45) (.tmp 48), none⟩,
             ⟨(some 50), .bin .add (.tmp 41) (.tmp 49), none⟩,
             ⟨(some 51), .mv (.tmp 0), none⟩,
             ⟨(some 52), .mv (.tmp 0), none⟩,
             ⟨(some 53), .bin .mul (.tmp 51) (.tmp 52), none⟩,
             ⟨(some 54), .mv (.tmp 2), none⟩,
             ⟨(some 55), .ixs 1 (.tmp 54) (.const (.int .i64 2)), none⟩,
             ⟨(some 56), .ld none (.tmp 55), none⟩,
             ⟨(some 57), .bin .mul (.tmp 53) (.tmp 56), none⟩,
             ⟨(some 58), .bin .add (.tmp 50) (.tmp 57), none⟩,
             ⟨(some 59), .mv (.tmp 1), none⟩,
             ⟨(some 60), .mv (.tmp 1), none⟩,
             ⟨(some 61), .bin .mul (.tmp 59) (.tmp 60), none⟩,
             ⟨(some 62), .call 65 [(.tmp 58), (.tmp 61)], none⟩,
             ⟨(some 6), .mv (.tmp 62), none⟩] [[], [], [0, 1], [], [3], [4], [2, 5], [], [7], [], [8, 9], [], [11], [12], [10, 13], [6, 14], [], [], [16, 17], [], [19], [20], [18, 21], [15, 22], [], [], [24, 25], [23, 26], [27, 27, 0, 1, 2, 3, 4, 5, 6, 7, 8, 9, 10, 11, 12, 13, 14, 15, 16, 17, 18, 19, 20, 21, 22, 23, 24, 25, 26, 27]])
          .ret)
         .skip))))))))
  (.seq (.drw [⟨(some 63), .mv (.tmp 7), none⟩,
     ⟨(some 64), .mv (.tmp 7), none⟩,
     ⟨(some 65), .bin .mul (.tmp 63) (.tmp 64), none⟩,
     ⟨(some 66), .mv (.tmp 7), none⟩,
     ⟨(some 67), .bin .mul (.tmp 65) (.tmp 66), none⟩,
     ⟨(some 68), .mv (.tmp 2), none⟩,
     ⟨(some 69), .ixs 1 (.tmp 68) (.const (.int .i64 0)), none⟩,
     ⟨(some 70), .ld none (.tmp 69), none⟩,
     ⟨(some 71), .bin .mul (.tmp 67) (.tmp 70), none⟩,
     ⟨(some 72), .mv (.tmp 0), none⟩,
     ⟨(some 73), .bin .mul (.const (.int .i64 3)) (.tmp 72), none⟩,
     ⟨(some 74), .mv (.tmp 7), none⟩,
     ⟨(some 75), .bin .mul (.tmp 73) (.tmp 74), none⟩,
     ⟨(some 76), .mv (.tmp 7), none⟩,
     ⟨(some 77), .bin .mul (.tmp 75) (.tmp 76), none⟩,
     ⟨(some 78), .mv (.tmp 2), none⟩,
     ⟨(some 79), .ixs 1 (.tmp 78) (.const (.int .i64 1)), none⟩,
     ⟨(some 80), .ld none (.tmp 79), none⟩,
     ⟨(some 81), .bin .mul (.tmp 77) (.tmp 80), none⟩,
     ⟨(some 82), .bin .add (.tmp 71) (.tmp 81), none⟩,
     ⟨(some 83), .mv (.tmp 0), none⟩,
     ⟨(some 84), .bin .mul (.const (.int .i64 3)) (.tmp 83), none⟩,
     ⟨(some 85), .mv (.tmp 0), none⟩,
     ⟨(some 86), .bin .mul (.tmp 84) (.tmp 85), none⟩,
     ⟨(some 87), .mv (.tmp 7), none⟩,
     ⟨(some 88), .bin .mul (.tmp 86) (.tmp 87), none⟩,
     ⟨(some 89), .mv (.tmp 2), none⟩,
     ⟨(some 90), .ixs 1 (.tmp 89) (.const (.int .i64 2)), none⟩,
     ⟨(some 91), .ld none (.tmp 90), none⟩,
     ⟨(some 92), .bin .mul (.tmp 88) (.tmp 91), none⟩,
     ⟨(some 93), .bin .add (.tmp 82) (.tmp 92), none⟩,
     ⟨(some 94), .mv (.tmp 0), none⟩,
     ⟨(some 95), .mv (.tmp 0), none⟩,
     ⟨(some 96), .bin .mul (.tmp 94) (.tmp 95), none⟩,
     ⟨(some 97), .mv (.tmp 0), none⟩,
     ⟨(some 98), .bin .mul (.tmp 96) (.tmp 97), none⟩,
     ⟨(some 99), .mv (.tmp 2), none⟩,
     ⟨(some 100), .ixs 1 (.tmp 99) (.const (.int .i64 3)), none⟩,
     ⟨(some 101), .ld none (.tmp 100), none⟩,
     ⟨(some 102), .bin .mul (.tmp 98) (.tmp 101), none⟩,
     ⟨(some 103), .bin .add (.tmp 93) (.tmp 102), none⟩,
     ⟨(some 104), .mv (.tmp 1), none⟩,
     ⟨(some 105), .mv (.tmp 1), none⟩,
     ⟨(some 106), .bin .mul (.tmp 104) (.tmp 105), none⟩,
     ⟨(some 107), .mv (.tmp 1), none⟩,
     ⟨(some 108), .bin .mul (.tmp 106) (.tmp 107), none⟩,
     ⟨(some 109), .call 65 [(.tmp 103), (.tmp 108)], none⟩,
     ⟨(some 6), .mv (.tmp 109), none⟩] [[], [], [0, 1], [], [2, 3], [], [5], [6], [4, 7], [], [9], [], [10, 11], [], [12, 13], [], [15], [16], [14, 17], [8, 18], [], [20], [], [21, 22], [], [23, 24], [], [26], [27], [25, 28], [19, 29], [], [], [31, 32], [], [33, 34], [], [36], [37], [35, 38], [30, 39], [], [], [41, 42], [], [43, 44], [40, 45], [46, 46, 0, 1, 2, 3, 4, 5, 6, 7, 8, 9, 10, 11, 12, 13, 14, 15, 16, 17, 18, 19, 20, 21, 22, 23, 24, 25, 26, 27, 28, 29, 30, 31, 32, 33, 34, 35, 36, 37, 38, 39, 40, 41, 42, 43, 44, 45, 46]])
  .ret))))
def flatten_mix_v1.f  : Option (Unit) := (fixed_Round_v1.f).bind fun _ => (some ())
theorem flatten_mix_v1.ok {S : Seal} {B0 nB0 : Nat}   (e : flatten_mix_v1.f  = some ()) :
    Cal Try.prog 46 [.int .i64 1, .int .i64 1, .slice (some ⟨B0, 0, none⟩) 2 (nB0 / 1)] ([⟨B0, [.int .i64 0, .int .i64 5], nB0⟩] : List Own) S fun v H' S' => v = .int .i64 5 ∧ H' = ([⟨B0, [.int .i64 0, .int .i64 5], nB0⟩] : List Own) ∧ S' = S := by
  unfold flatten_mix_v1.f at e
  refine cal_of (c := c46) (N := 110) Try.func46 rfl rfl (by kernel_rfl) (rs := [.t 6]) (by kernel_rfl) (Nat.le_of_ble_eq_true rfl) ?_
  unfold c46
  refine w_seq ?_
  refine w_reg fun all => ?_
  refine t_qz 1 [0, 1, 2] (σ' := [(0, .int .i64 1), (1, .int .i64 1), (2, .slice (some ⟨B0, 0, none⟩) 2 (nB0 / 1))]) (by kernel_rfl) ?_
  refine t_end ?_
  show W _ _ _ _ _ _ _
  refine w_seq ?_
  refine w_reg fun all => ?_
  refine t_qz 4 [0, 1, 2, 7] (σ' := [(0, .int .i64 1), (1, .int .i64 1), (2, .slice (some ⟨B0, 0, none⟩) 2 (nB0 / 1)), (7, .int .i64 0)]) (by kernel_rfl) ?_
  refine t_end ?_
  show W _ _ _ _ _ _ _
  refine w_seq ?_
  refine w_seq ?_
  refine w_reg fun all => ?_
  refine t_qz 2 [0, 1, 2, 7, 12] (σ' := [(0, .int .i64 1), (1, .int .i64 1), (2, .slice (some ⟨B0, 0, none⟩) 2 (nB0 / 1)), (7, .int .i64 0), (12, .int .i64 2)]) (by kernel_rfl) ?_
  refine t_end ?_
  show W _ _ _ _ _ _ _
  refine w_block ?_
  refine w_seq ?_
  refine w_reg fun all => ?_
  refine t_qz 2 [0, 1, 2, 7, 12, 13] (σ' := [(0, .int .i64 1), (1, .int .i64 1), (2, .slice (some ⟨B0, 0, none⟩) 2 (nB0 / 1)), (7, .int .i64 0), (12, .int .i64 2), (13, .bool false)]) (by kernel_rfl) ?_
  refine t_end ?_
  show W _ _ _ _ _ _ _
  refine w_cond rfl (fun c_ => by cases c_) (fun _ => ?_)
  show W _ _ _ _ _ _ _
  refine w_seq ?_
  refine w_reg fun all => ?_
  refine t_qz 2 [0, 1, 2, 7, 12, 18] (σ' := [(0, .int .i64 1), (1, .int .i64 1), (2, .slice (some ⟨B0, 0, none⟩) 2 (nB0 / 1)), (7, .int .i64 0), (12, .int .i64 2), (18, .bool true)]) (by kernel_rfl) ?_
  refine t_end ?_
  show W _ _ _ _ _ _ _
  refine w_cond rfl (fun _ => ?_) (fun c_ => by cases c_)
  show W _ _ _ _ _ _ _
  refine w_seq ?_
  obtain ⟨u_, h29, e⟩ := bind_of e
  refine w_drwE mixed 14 [.v (.int .i64 0), .v (.slice (some ⟨B0, 0, none⟩) 2 (nB0 / 1)), .v (.pointer (some ⟨B0, 0, none⟩)), .v (.int .i64 0), .v (.int .i64 0), .v (.int .i64 1), .v (.slice (some ⟨B0, 0, none⟩) 2 (nB0 / 1)), .v (.pointer (some ⟨B0, 1, none⟩)), .v (.int .i64 5), .v (.int .i64 5), .v (.int .i64 5), .v (.int .i64 1), .v (.int .i64 5), .v (.int .i64 5)] (by kernel_rfl) ?_ ?_
  · refine DI.sq 3 (by kernel_rfl) rfl ?_
    refine .cons (.ld1 rfl rfl rfl (.at 0 rfl rfl)) ?_
    refine DI.sq 4 (by kernel_rfl) rfl ?_
    refine .cons (.ld1 rfl rfl rfl (.at 0 rfl rfl)) ?_
    refine DI.sq 3 (by kernel_rfl) rfl ?_
    refine .cons (.call (vs := [.int .i64 5, .int .i64 1]) rfl rfl (by kernel_rfl) (fixed_Round_v1.ok h29)) ?_
    refine DI.sq 1 (by kernel_rfl) rfl ?_
    exact .nil
  refine fk_q 14 [6] (σ' := [(6, .int .i64 5)]) t_more (by kernel_rfl) ?_
  refine fk_nil fun all => ?_
  refine t_keep [6] (σ' := [(6, .int .i64 5)]) (by kernel_rfl) ?_
  refine t_end ?_
  show W _ _ _ _ _ _ _
  refine w_ret ?_
  exact ⟨[.int .i64 5], ([⟨B0, [.int .i64 0, .int .i64 5], nB0⟩] : List Own), S, ⟨rfl, trivial⟩, VS.sel [0] (by kernel_rfl), rfl, rfl, rfl⟩

def fixed_Down_v2.f  : Option (Unit) := some ()
theorem fixed_Down_v2.ok {S : Seal}   (e : fixed_Down_v2.f  = some ()) :
    Cal Try.prog 69 [.int .i64 0, .int .i64 1] [] S fun v H' S' => v = .int .i64 0 ∧ H' = [] ∧ S' = S := by
  unfold fixed_Down_v2.f at e
  refine cal_of (c := c69) (N := 18) Try.func69 rfl rfl (by kernel_rfl) (rs := [.t 4]) (by kernel_rfl) (Nat.le_of_ble_eq_true rfl) ?_
  unfold c69
  refine w_seq ?_
  refine w_reg fun all => ?_
  refine t_qz 1 [0, 1] (σ' := [(0, .int .i64 0), (1, .int .i64 1)]) (by kernel_rfl) ?_
  refine t_end ?_
  show W _ _ _ _ _ _ _
  refine w_seq ?_
  refine w_seq ?_
  refine w_reg fun all => ?_
  refine t_qz 2 [0, 1, 7] (σ' := [(0, .int .i64 0), (1, .int .i64 1), (7, .bool false)]) (by kernel_rfl) ?_
  refine t_end ?_
  show W _ _ _ _ _ _ _
  refine w_cond rfl (fun c_ => by cases c_) (fun _ => ?_)
  show W _ _ _ _ _ _ _
  refine w_skip ?_
  show W _ _ _ _ _ _ _
  refine w_seq ?_
  refine w_reg fun all => ?_
  refine t_qz 4 [0, 1, 5] (σ' := [(0, .int .i64 0), (1, .int .i64 1), (5, .int .i64 0)]) (by kernel_rfl) ?_
  refine t_end ?_
  show W _ _ _ _ _ _ _
  refine w_seq ?_
  refine w_seq ?_
  refine w_reg fun all => ?_
  refine t_qz 4 [5, 14] (σ' := [(5, .int .i64 0), (14, .bool false)]) (by kernel_rfl) ?_
  refine t_end ?_
  show W _ _ _ _ _ _ _
  refine w_cond rfl (fun c_ => by cases c_) (fun _ => ?_)
  show W _ _ _ _ _ _ _
  refine w_skip ?_
  show W _ _ _ _ _ _ _
  refine w_seq ?_
  refine w_reg fun all => ?_
  refine t_qz 2 [4] (σ' := [(4, .int .i64 0)]) (by kernel_rfl) ?_
  refine t_end ?_
  show W _ _ _ _ _ _ _
  refine w_ret ?_
  exact ⟨[.int .i64 0], [], S, ⟨rfl, trivial⟩, VS.none, rfl, rfl, rfl⟩

def fixed_Round_v2.f  : Option (Unit) := (fixed_Down_v2.f).bind fun _ => (some ())
theorem fixed_Round_v2.ok {S : Seal}   (e : fixed_Round_v2.f  = some ()) :
    Cal Try.prog 65 [.int .i64 0, .int .i64 1] [] S fun v H' S' => v = .int .i64 0 ∧ H' = [] ∧ S' = S := by
  unfold fixed_Round_v2.f at e
  refine cal_of (c := c65) (N := 25) Try.func65 rfl rfl (by kernel_rfl) (rs := [.t 4]) (by kernel_rfl) (Nat.le_of_ble_eq_true rfl) ?_
  unfold c65
  refine w_seq ?_
  refine w_reg fun all => ?_
  refine t_qz 1 [0, 1] (σ' := [(0, .int .i64 0), (1, .int .i64 1)]) (by kernel_rfl) ?_
  refine t_end ?_
  show W _ _ _ _ _ _ _
  refine w_seq ?_
  refine w_seq ?_
  refine w_reg fun all => ?_
  refine t_qz 2 [0, 1, 8] (σ' := [(0, .int .i64 0), (1, .int .i64 1), (8, .bool false)]) (by kernel_rfl) ?_
  refine t_end ?_
  show W _ _ _ _ _ _ _
  refine w_cond rfl (fun c_ => by cases c_) (fun _ => ?_)
  show W _ _ _ _ _ _ _
  refine w_skip ?_
  show W _ _ _ _ _ _ _
  refine w_seq ?_
  refine w_reg fun all => ?_
  obtain ⟨u_, h31, e⟩ := bind_of e
  refine t_qz 2 [0, 1, 9, 10] (σ' := [(0, .int .i64 0), (1, .int .i64 1), (9, .int .i64 0), (10, .int .i64 1)]) (by kernel_rfl) ?_
  refine t_v (.call (vs := [.int .i64 0, .int .i64 1]) rfl rfl (by kernel_rfl) (fixed_Down_v2.ok h31)) ?_
  refine t_qz 1 [0, 1, 5] (σ' := [(0, .int .i64 0), (1, .int .i64 1), (5, .int .i64 0)]) (by kernel_rfl) ?_
  refine t_end ?_
  show W _ _ _ _ _ _ _
  refine w_seq ?_
  refine w_seq ?_
  refine w_reg fun all => ?_
  refine t_qz 6 [1, 5, 6] (σ' := [(1, .int .i64 1), (5, .int .i64 0), (6, .int .i64 0)]) (by kernel_rfl) ?_
  refine t_end ?_
  show W _ _ _ _ _ _ _
  refine w_seq ?_
  refine w_reg fun all => ?_
  refine t_qz 5 [5, 21] (σ' := [(5, .int .i64 0), (21, .bool false)]) (by kernel_rfl) ?_
  refine t_end ?_
  show W _ _ _ _ _ _ _
  refine w_cond rfl (fun c_ => by cases c_) (fun _ => ?_)
  show W _ _ _ _ _ _ _
  refine w_skip ?_
  show W _ _ _ _ _ _ _
  refine w_seq ?_
  refine w_reg fun all => ?_
  refine t_qz 2 [4] (σ' := [(4, .int .i64 0)]) (by kernel_rfl) ?_
  refine t_end ?_
  show W _ _ _ _ _ _ _
  refine w_ret ?_
  exact ⟨[.int .i64 0], [], S, ⟨rfl, trivial⟩, VS.none, rfl, rfl, rfl⟩

def flatten_mix_v2.f  : Option (Unit) := (fixed_Round_v2.f).bind fun _ => (some ())
theorem flatten_mix_v2.ok {S : Seal} {B0 nB0 : Nat}   (e : flatten_mix_v2.f  = some ()) :
    Cal Try.prog 46 [.int .i64 1, .int .i64 1, .slice (some ⟨B0, 0, none⟩) 2 (nB0 / 1)] ([⟨B0, [.int .i64 0, .int .i64 0], nB0⟩] : List Own) S fun v H' S' => v = .int .i64 0 ∧ H' = ([⟨B0, [.int .i64 0, .int .i64 0], nB0⟩] : List Own) ∧ S' = S := by
  unfold flatten_mix_v2.f at e
  refine cal_of (c := c46) (N := 110) Try.func46 rfl rfl (by kernel_rfl) (rs := [.t 6]) (by kernel_rfl) (Nat.le_of_ble_eq_true rfl) ?_
  unfold c46
  refine w_seq ?_
  refine w_reg fun all => ?_
  refine t_qz 1 [0, 1, 2] (σ' := [(0, .int .i64 1), (1, .int .i64 1), (2, .slice (some ⟨B0, 0, none⟩) 2 (nB0 / 1))]) (by kernel_rfl) ?_
  refine t_end ?_
  show W _ _ _ _ _ _ _
  refine w_seq ?_
  refine w_reg fun all => ?_
  refine t_qz 4 [0, 1, 2, 7] (σ' := [(0, .int .i64 1), (1, .int .i64 1), (2, .slice (some ⟨B0, 0, none⟩) 2 (nB0 / 1)), (7, .int .i64 0)]) (by kernel_rfl) ?_
  refine t_end ?_
  show W _ _ _ _ _ _ _
  refine w_seq ?_
  refine w_seq ?_
  refine w_reg fun all => ?_
  refine t_qz 2 [0, 1, 2, 7, 12] (σ' := [(0, .int .i64 1), (1, .int .i64 1), (2, .slice (some ⟨B0, 0, none⟩) 2 (nB0 / 1)), (7, .int .i64 0), (12, .int .i64 2)]) (by kernel_rfl) ?_
  refine t_end ?_
  show W _ _ _ _ _ _ _
  refine w_block ?_
  refine w_seq ?_
  refine w_reg fun all => ?_
  refine t_qz 2 [0, 1, 2, 7, 12, 13] (σ' := [(0, .int .i64 1), (1, .int .i64 1), (2, .slice (some ⟨B0, 0, none⟩) 2 (nB0 / 1)), (7, .int .i64 0), (12, .int .i64 2), (13, .bool false)]) (by kernel_rfl) ?_
  refine t_end ?_
  show W _ _ _ _ _ _ _
  refine w_cond rfl (fun c_ => by cases c_) (fun _ => ?_)
  show W _ _ _ _ _ _ _
  refine w_seq ?_
  refine w_reg fun all => ?_
  refine t_qz 2 [0, 1, 2, 7, 12, 18] (σ' := [(0, .int .i64 1), (1, .int .i64 1), (2, .slice (some ⟨B0, 0, none⟩) 2 (nB0 / 1)), (7, .int .i64 0), (12, .int .i64 2), (18, .bool true)]) (by kernel_rfl) ?_
  refine t_end ?_
  show W _ _ _ _ _ _ _
  refine w_cond rfl (fun _ => ?_) (fun c_ => by cases c_)
  show W _ _ _ _ _ _ _
  refine w_seq ?_
  obtain ⟨u_, h31, e⟩ := bind_of e
  refine w_drwE mixed 14 [.v (.int .i64 0), .v (.slice (some ⟨B0, 0, none⟩) 2 (nB0 / 1)), .v (.pointer (some ⟨B0, 0, none⟩)), .v (.int .i64 0), .v (.int .i64 0), .v (.int .i64 1), .v (.slice (some ⟨B0, 0, none⟩) 2 (nB0 / 1)), .v (.pointer (some ⟨B0, 1, none⟩)), .v (.int .i64 0), .v (.int .i64 0), .v (.int .i64 0), .v (.int .i64 1), .v (.int .i64 0), .v (.int .i64 0)] (by kernel_rfl) ?_ ?_
  · refine DI.sq 3 (by kernel_rfl) rfl ?_
    refine .cons (.ld1 rfl rfl rfl (.at 0 rfl rfl)) ?_
    refine DI.sq 4 (by kernel_rfl) rfl ?_
    refine .cons (.ld1 rfl rfl rfl (.at 0 rfl rfl)) ?_
    refine DI.sq 3 (by kernel_rfl) rfl ?_
    refine .cons (.call (vs := [.int .i64 0, .int .i64 1]) rfl rfl (by kernel_rfl) (fixed_Round_v2.ok h31)) ?_
    refine DI.sq 1 (by kernel_rfl) rfl ?_
    exact .nil
  refine fk_q 14 [6] (σ' := [(6, .int .i64 0)]) t_more (by kernel_rfl) ?_
  refine fk_nil fun all => ?_
  refine t_keep [6] (σ' := [(6, .int .i64 0)]) (by kernel_rfl) ?_
  refine t_end ?_
  show W _ _ _ _ _ _ _
  refine w_ret ?_
  exact ⟨[.int .i64 0], ([⟨B0, [.int .i64 0, .int .i64 0], nB0⟩] : List Own), S, ⟨rfl, trivial⟩, VS.sel [0] (by kernel_rfl), rfl, rfl, rfl⟩

/-- flatten.Point -/
def c28 : C :=
  (.seq (.reg [⟨(some 4), .box (.tmp 0), none⟩,
     ⟨(some 5), .box (.tmp 1), none⟩,
     ⟨(some 8), .new [(.int .i64 0), (.int .i64 0)], none⟩])
  (.seq (.drw [⟨(some 13), .pad 0 (.tmp 4), none⟩,
     ⟨(some 14), .ld none (.tmp 13), none⟩,
     ⟨(some 15), .bsl [(.int .i64 0)] 1 [(0, 1, (.tmp 14))], none⟩,
     ⟨(some 16), .pad 1 (.tmp 4), none⟩,
     ⟨(some 17), .ld none (.tmp 16), none⟩,
     ⟨(some 18), .bsl [(.int .i64 0)] 1 [(0, 1, (.tmp 17))], none⟩,
     ⟨(some 9), .mv (.tmp 15), none⟩,
     ⟨(some 10), .mv (.tmp 18), none⟩] [[], [0], [1], [], [3], [4], [2, 0, 1, 2], [5, 6, 0, 1, 2, 3, 4, 5, 6]])
  (.seq (.seq (.reg [⟨(some 19), .ld (some 7) (.tmp 5), none⟩,
      ⟨(some 20), .call 45 [(.tmp 19)], none⟩,
      ⟨(some 21), .lns (.tmp 20), none⟩,
      ⟨(some 22), .mv (.const (.int .i64 0)), none⟩])
   (.block 0 (.loop (.seq (.reg [⟨(some 23), .bin .lss (.tmp 22) (.tmp 21), none⟩])
     (.seq (.cond (.tmp 23)
       .skip
       (.exit 0))
     (.seq (.block 1 (.seq (.reg [⟨(some 24), .ixs 2 (.tmp 20) (.tmp 22), none⟩,
          ⟨(some 25), .ld (some 2) (.tmp 24), none⟩,
          ⟨(some 12), .new [(.int .i64 0), (.int .i64 0)], none⟩,
          ⟨none, .st 2 (.tmp 12) (.tmp 25), none⟩])
       (.drw [⟨(some 26), .mv (.tmp 9), none⟩,
         ⟨(some 27), .pad 0 (.tmp 12), none⟩,
         ⟨(some 28), .ld none (.tmp 27), none⟩,
         ⟨(some 29), .bsl [(.int .i64 0)] 1 [(0, 1, (.tmp 28))], none⟩,
         ⟨(some 30), .app 2 1 8 [(.int .i64 0)] (.tmp 26) (.tmp 29), none⟩,
         ⟨(some 31), .mv (.tmp 10), none⟩,
         ⟨(some 32), .pad 1 (.tmp 12), none⟩,
         ⟨(some 33), .ld none (.tmp 32), none⟩,
         ⟨(some 34), .bsl [(.int .i64 0)] 1 [(0, 1, (.tmp 33))], none⟩,
         ⟨(some 35), .app 2 1 8 [(.int .i64 0)] (.tmp 31) (.tmp 34), none⟩,
         ⟨(some 9), .mv (.tmp 30), none⟩,
         ⟨(some 10), .mv (.tmp 35), none⟩] [[], [], [1], [2], [0, 3], [], [], [6], [7], [5, 8, 4], [4, 9, 0, 1, 2, 3, 4], [9, 10, 0, 1, 2, 3, 4, 5, 6, 7, 8, 9, 10]])))
     (.reg [⟨(some 36), .bin .add (.tmp 22) (.const (.int .i64 1)), none⟩,
       ⟨(some 22), .mv (.tmp 36), none⟩])))))))
  (.seq (.reg [⟨(some 37), .mv (.tmp 2), none⟩,
     ⟨(some 38), .mv (.tmp 3), none⟩,
     ⟨(some 39), .mv (.tmp 9), none⟩,
     ⟨(some 40), .call 46 [(.tmp 37), (.tmp 38), (.tmp 39)], none⟩,
     ⟨(some 41), .mv (.tmp 2), none⟩,
     ⟨(some 42), .mv (.tmp 3), none⟩,
     ⟨(some 43), .mv (.tmp 10), none⟩,
     ⟨(some 44), .call 46 [(.tmp 41), (.tmp 42), (.tmp 43)], none⟩,
     ⟨(some 45), .bld [(.int .i64 0), (.int .i64 0)] [(0, 1, (.tmp 40)), (1, 1, (.tmp 44))], none⟩,
     ⟨none, .st 2 (.tmp 8) (.tmp 45), none⟩])
  .ret))))
def flatten_Point_v1.f  : Option (Unit) := (flatten_points_v1.f).bind fun _ => ((flatten_mix_v1.f).bind fun _ => ((flatten_mix_v2.f).bind fun _ => (some ())))
theorem flatten_Point_v1.ok {S : Seal}   (e : flatten_Point_v1.f  = some ()) :
    Cal Try.prog 28 [.agg #[.int .i64 0, .int .i64 0], .agg #[.int .i64 1, .int .i64 5, .int .i64 0, .int .i64 0, .int .i64 0, .int .i64 0, .int .i64 0], .int .i64 1, .int .i64 1] [] S fun v H' S' => v = .agg #[.int .i64 5, .int .i64 0] ∧ H' = [] ∧ S' = S := by
  unfold flatten_Point_v1.f at e
  refine cal_of (c := c28) (N := 46) Try.func28 rfl rfl (by kernel_rfl) (rs := [.cn 2 8]) (by kernel_rfl) (Nat.le_of_ble_eq_true rfl) ?_
  unfold c28
  refine w_seq ?_
  refine w_reg fun all => ?_
  refine t_a (.box rfl rfl rfl) fun b16 fb16 sb16 => ?_
  refine t_a (.box rfl rfl rfl) fun b17 fb17 sb17 => ?_
  refine t_a (.new rfl rfl) fun b18 fb18 sb18 => ?_
  refine t_keep [2, 3, 4, 5, 8] (σ' := [(2, .int .i64 1), (3, .int .i64 1), (4, .pointer (some ⟨b16, 0, none⟩)), (5, .pointer (some ⟨b17, 0, none⟩)), (8, .pointer (some ⟨b18, 0, none⟩))]) (by kernel_rfl) ?_
  refine t_end ?_
  show W _ _ _ _ _ _ _
  refine w_seq ?_
  refine w_kp [2, 3, 4, 5, 8] (σ' := [(2, .int .i64 1), (3, .int .i64 1), (4, .pointer (some ⟨b16, 0, none⟩)), (5, .pointer (some ⟨b17, 0, none⟩)), (8, .pointer (some ⟨b18, 0, none⟩))]) (by kernel_rfl) ?_
  refine w_gameQ mixed (by kernel_rfl) fun all G hend hstep hqf => ?_
  have hg_ff : ∀ (g20 g19 : Nat), G [true, true, true, true, true, true, true, true] [(2, .int .i64 1), (3, .int .i64 1), (5, .pointer (some ⟨b17, 0, none⟩)), (8, .pointer (some ⟨b18, 0, none⟩)), (9, .slice (some ⟨g19, 0, none⟩) 1 1), (10, .slice (some ⟨g20, 0, none⟩) 1 1)] ([⟨g20, [.int .i64 0], 1⟩, ⟨g19, [.int .i64 0], 1⟩, ⟨b18, [.int .i64 0, .int .i64 0], 2⟩, ⟨b17, [.int .i64 1, .int .i64 5, .int .i64 0, .int .i64 0, .int .i64 0, .int .i64 0, .int .i64 0], 7⟩, ⟨b16, [.int .i64 0, .int .i64 0], 2⟩] : List Own) := by
    intro g20 g19
    refine hend _ _ _ (by kernel_rfl) ?_
    show W _ _ _ _ _ _ _
    refine w_seq ?_
    refine w_seq ?_
    refine w_reg fun all => ?_
    refine t_v (.ldn rfl rfl rfl (.at 3 rfl rfl)) ?_
    obtain ⟨u_, h22, e⟩ := bind_of e
    refine t_call (vs := [.agg #[.int .i64 1, .int .i64 5, .int .i64 0, .int .i64 0, .int .i64 0, .int .i64 0, .int .i64 0]]) (H1 := ([] : List Own)) (F := ([⟨g20, [.int .i64 0], 1⟩, ⟨g19, [.int .i64 0], 1⟩, ⟨b18, [.int .i64 0, .int .i64 0], 2⟩, ⟨b17, [.int .i64 1, .int .i64 5, .int .i64 0, .int .i64 0, .int .i64 0, .int .i64 0, .int .i64 0], 7⟩, ⟨b16, [.int .i64 0, .int .i64 0], 2⟩] : List Own)) rfl rfl (by kernel_rfl) (sel_perm (is := []) (by kernel_rfl)) (flatten_points_v1.ok h22) ?_
    rintro _ _ S_ ⟨N23, rfl, rfl, hS_⟩
    obtain rfl := hS_.symm
    refine t_qz 2 [2, 3, 8, 9, 10, 20, 21, 22] (σ' := [(2, .int .i64 1), (3, .int .i64 1), (8, .pointer (some ⟨b18, 0, none⟩)), (9, .slice (some ⟨g19, 0, none⟩) 1 1), (10, .slice (some ⟨g20, 0, none⟩) 1 1), (20, .slice (some ⟨N23, 1, none⟩) 1 3), (21, .int .i64 1), (22, .int .i64 0)]) (by kernel_rfl) ?_
    refine t_end ?_
    show W _ _ _ _ _ _ _
    refine w_block ?_
    refine w_lun 10 ?_
    refine wl_step ?_
    refine w_seq ?_
    refine w_reg fun all => ?_
    refine t_qz 1 [2, 3, 8, 9, 10, 20, 21, 22, 23] (σ' := [(2, .int .i64 1), (3, .int .i64 1), (8, .pointer (some ⟨b18, 0, none⟩)), (9, .slice (some ⟨g19, 0, none⟩) 1 1), (10, .slice (some ⟨g20, 0, none⟩) 1 1), (20, .slice (some ⟨N23, 1, none⟩) 1 3), (21, .int .i64 1), (22, .int .i64 0), (23, .bool true)]) (by kernel_rfl) ?_
    refine t_end ?_
    show W _ _ _ _ _ _ _
    refine w_seq ?_
    refine w_cond rfl (fun _ => ?_) (fun c_ => by cases c_)
    show W _ _ _ _ _ _ _
    refine w_skip ?_
    show W _ _ _ _ _ _ _
    refine w_seq ?_
    refine w_block ?_
    refine w_seq ?_
    refine w_reg fun all => ?_
    refine t_qz 1 [2, 3, 8, 9, 10, 20, 21, 22, 24] (σ' := [(2, .int .i64 1), (3, .int .i64 1), (8, .pointer (some ⟨b18, 0, none⟩)), (9, .slice (some ⟨g19, 0, none⟩) 1 1), (10, .slice (some ⟨g20, 0, none⟩) 1 1), (20, .slice (some ⟨N23, 1, none⟩) 1 3), (21, .int .i64 1), (22, .int .i64 0), (24, .pointer (some ⟨N23, 1, none⟩))]) (by kernel_rfl) ?_
    refine t_v (.ldn rfl rfl rfl (.at 0 rfl rfl)) ?_
    refine t_a (.new rfl rfl) fun b24 fb24 sb24 => ?_
    refine t_sti 0 (cs := [.int .i64 5, .int .i64 0]) rfl rfl rfl rfl rfl rfl rfl rfl rfl ?_
    refine t_keep [2, 3, 8, 9, 10, 12, 20, 21, 22] (σ' := [(2, .int .i64 1), (3, .int .i64 1), (8, .pointer (some ⟨b18, 0, none⟩)), (9, .slice (some ⟨g19, 0, none⟩) 1 1), (10, .slice (some ⟨g20, 0, none⟩) 1 1), (12, .pointer (some ⟨b24, 0, none⟩)), (20, .slice (some ⟨N23, 1, none⟩) 1 3), (21, .int .i64 1), (22, .int .i64 0)]) (by kernel_rfl) ?_
    refine t_end ?_
    show W _ _ _ _ _ _ _
    refine w_kp [2, 3, 8, 9, 10, 12, 20, 21, 22] (σ' := [(2, .int .i64 1), (3, .int .i64 1), (8, .pointer (some ⟨b18, 0, none⟩)), (9, .slice (some ⟨g19, 0, none⟩) 1 1), (10, .slice (some ⟨g20, 0, none⟩) 1 1), (12, .pointer (some ⟨b24, 0, none⟩)), (20, .slice (some ⟨N23, 1, none⟩) 1 3), (21, .int .i64 1), (22, .int .i64 0)]) (by kernel_rfl) ?_
    refine w_gameQ mixed (by kernel_rfl) fun all G hend hstep hqf => ?_
    have hg_fff : ∀ (g28 ng28 g27 g26 ng26 g25 : Nat), G [true, true, true, true, true, true, true, true, true, true, true, true] [(2, .int .i64 1), (3, .int .i64 1), (8, .pointer (some ⟨b18, 0, none⟩)), (9, .slice (some ⟨g26, 0, none⟩) 2 (ng26 / 1)), (10, .slice (some ⟨g28, 0, none⟩) 2 (ng28 / 1)), (20, .slice (some ⟨N23, 1, none⟩) 1 3), (21, .int .i64 1), (22, .int .i64 0)] ([⟨g28, [.int .i64 0, .int .i64 0], ng28⟩, ⟨g27, [.int .i64 0], 1⟩, ⟨g26, [.int .i64 0, .int .i64 5], ng26⟩, ⟨g25, [.int .i64 5], 1⟩, ⟨b24, [.int .i64 5, .int .i64 0], 2⟩, ⟨N23, [.int .i64 1, .int .i64 5, .int .i64 0, .int .i64 0, .int .i64 0, .int .i64 0, .int .i64 0], 7⟩, ⟨b18, [.int .i64 0, .int .i64 0], 2⟩, ⟨b17, [.int .i64 1, .int .i64 5, .int .i64 0, .int .i64 0, .int .i64 0, .int .i64 0, .int .i64 0], 7⟩, ⟨b16, [.int .i64 0, .int .i64 0], 2⟩] : List Own) := by
      intro g28 ng28 g27 g26 ng26 g25
      refine hend _ _ _ (by kernel_rfl) ?_
      show W _ _ _ _ _ _ _
      refine w_reg fun all => ?_
      refine t_qz 2 [2, 3, 8, 9, 10, 20, 21, 22] (σ' := [(2, .int .i64 1), (3, .int .i64 1), (8, .pointer (some ⟨b18, 0, none⟩)), (9, .slice (some ⟨g26, 0, none⟩) 2 (ng26 / 1)), (10, .slice (some ⟨g28, 0, none⟩) 2 (ng28 / 1)), (20, .slice (some ⟨N23, 1, none⟩) 1 3), (21, .int .i64 1), (22, .int .i64 1)]) (by kernel_rfl) ?_
      refine t_end ?_
      show WL _ _ _ _ _ _ _ _
      refine wl_step ?_
      refine w_seq ?_
      refine w_reg fun all => ?_
      refine t_qz 1 [2, 3, 8, 9, 10, 20, 21, 22, 23] (σ' := [(2, .int .i64 1), (3, .int .i64 1), (8, .pointer (some ⟨b18, 0, none⟩)), (9, .slice (some ⟨g26, 0, none⟩) 2 (ng26 / 1)), (10, .slice (some ⟨g28, 0, none⟩) 2 (ng28 / 1)), (20, .slice (some ⟨N23, 1, none⟩) 1 3), (21, .int .i64 1), (22, .int .i64 1), (23, .bool false)]) (by kernel_rfl) ?_
      refine t_end ?_
      show W _ _ _ _ _ _ _
      refine w_seq ?_
      refine w_cond rfl (fun c_ => by cases c_) (fun _ => ?_)
      show W _ _ _ _ _ _ _
      refine w_exit ?_
      show W _ _ _ _ _ _ _
      refine w_seq ?_
      refine w_reg fun all => ?_
      obtain ⟨u_, h30, e⟩ := bind_of e
      refine t_qz 3 [2, 3, 8, 10, 37, 38, 39] (σ' := [(2, .int .i64 1), (3, .int .i64 1), (8, .pointer (some ⟨b18, 0, none⟩)), (10, .slice (some ⟨g28, 0, none⟩) 2 (ng28 / 1)), (37, .int .i64 1), (38, .int .i64 1), (39, .slice (some ⟨g26, 0, none⟩) 2 (ng26 / 1))]) (by kernel_rfl) ?_
      refine t_v (.callr (vs := [.int .i64 1, .int .i64 1, .slice (some ⟨g26, 0, none⟩) 2 (ng26 / 1)]) (A := ([⟨g26, [.int .i64 0, .int .i64 5], ng26⟩] : List Own)) (F0 := ([⟨g28, [.int .i64 0, .int .i64 0], ng28⟩, ⟨g27, [.int .i64 0], 1⟩, ⟨g25, [.int .i64 5], 1⟩, ⟨b24, [.int .i64 5, .int .i64 0], 2⟩, ⟨N23, [.int .i64 1, .int .i64 5, .int .i64 0, .int .i64 0, .int .i64 0, .int .i64 0, .int .i64 0], 7⟩, ⟨b18, [.int .i64 0, .int .i64 0], 2⟩, ⟨b17, [.int .i64 1, .int .i64 5, .int .i64 0, .int .i64 0, .int .i64 0, .int .i64 0, .int .i64 0], 7⟩, ⟨b16, [.int .i64 0, .int .i64 0], 2⟩] : List Own)) rfl rfl (by kernel_rfl) (sel_perm (is := [2]) (by kernel_rfl)) (flatten_mix_v1.ok h30)) ?_
      obtain ⟨u_, h32, e⟩ := bind_of e
      refine t_qz 3 [8, 40, 41, 42, 43] (σ' := [(8, .pointer (some ⟨b18, 0, none⟩)), (40, .int .i64 5), (41, .int .i64 1), (42, .int .i64 1), (43, .slice (some ⟨g28, 0, none⟩) 2 (ng28 / 1))]) (by kernel_rfl) ?_
      refine t_v (.callr (vs := [.int .i64 1, .int .i64 1, .slice (some ⟨g28, 0, none⟩) 2 (ng28 / 1)]) (A := ([⟨g28, [.int .i64 0, .int .i64 0], ng28⟩] : List Own)) (F0 := ([⟨g27, [.int .i64 0], 1⟩, ⟨g26, [.int .i64 0, .int .i64 5], ng26⟩, ⟨g25, [.int .i64 5], 1⟩, ⟨b24, [.int .i64 5, .int .i64 0], 2⟩, ⟨N23, [.int .i64 1, .int .i64 5, .int .i64 0, .int .i64 0, .int .i64 0, .int .i64 0, .int .i64 0], 7⟩, ⟨b18, [.int .i64 0, .int .i64 0], 2⟩, ⟨b17, [.int .i64 1, .int .i64 5, .int .i64 0, .int .i64 0, .int .i64 0, .int .i64 0, .int .i64 0], 7⟩, ⟨b16, [.int .i64 0, .int .i64 0], 2⟩] : List Own)) rfl rfl (by kernel_rfl) (sel_perm (is := [0]) (by kernel_rfl)) (flatten_mix_v2.ok h32)) ?_
      refine t_qz 1 [8, 45] (σ' := [(8, .pointer (some ⟨b18, 0, none⟩)), (45, .agg #[.int .i64 5, .int .i64 0])]) (by kernel_rfl) ?_
      refine t_sti 6 (cs := [.int .i64 5, .int .i64 0]) rfl rfl rfl rfl rfl rfl rfl rfl rfl ?_
      refine t_keep [8] (σ' := [(8, .pointer (some ⟨b18, 0, none⟩))]) (by kernel_rfl) ?_
      refine t_end ?_
      show W _ _ _ _ _ _ _
      refine w_ret ?_
      exact ⟨[.agg #[.int .i64 5, .int .i64 0]], [], S, ⟨⟨_, _, _, rfl, .at 6 rfl rfl, rfl⟩, trivial⟩, VS.none, rfl, rfl, rfl⟩
    have hg_7ff : ∀ (g28 ng28 g27 g26 ng26 g25 : Nat), G [true, true, true, true, true, true, true, true, true, true, true, false] [(2, .int .i64 1), (3, .int .i64 1), (8, .pointer (some ⟨b18, 0, none⟩)), (9, .slice (some ⟨g26, 0, none⟩) 2 (ng26 / 1)), (10, .slice (some ⟨g20, 0, none⟩) 1 1), (20, .slice (some ⟨N23, 1, none⟩) 1 3), (21, .int .i64 1), (22, .int .i64 0), (35, .slice (some ⟨g28, 0, none⟩) 2 (ng28 / 1))] ([⟨g28, [.int .i64 0, .int .i64 0], ng28⟩, ⟨g27, [.int .i64 0], 1⟩, ⟨g26, [.int .i64 0, .int .i64 5], ng26⟩, ⟨g25, [.int .i64 5], 1⟩, ⟨b24, [.int .i64 5, .int .i64 0], 2⟩, ⟨N23, [.int .i64 1, .int .i64 5, .int .i64 0, .int .i64 0, .int .i64 0, .int .i64 0, .int .i64 0], 7⟩, ⟨b18, [.int .i64 0, .int .i64 0], 2⟩, ⟨b17, [.int .i64 1, .int .i64 5, .int .i64 0, .int .i64 0, .int .i64 0, .int .i64 0, .int .i64 0], 7⟩, ⟨b16, [.int .i64 0, .int .i64 0], 2⟩] : List Own) := by
      intro g28 ng28 g27 g26 ng26 g25
      exact hqf 11 [2, 3, 8, 9, 10, 20, 21, 22] _ _ _ [(2, .int .i64 1), (3, .int .i64 1), (8, .pointer (some ⟨b18, 0, none⟩)), (9, .slice (some ⟨g26, 0, none⟩) 2 (ng26 / 1)), (10, .slice (some ⟨g28, 0, none⟩) 2 (ng28 / 1)), (20, .slice (some ⟨N23, 1, none⟩) 1 3), (21, .int .i64 1), (22, .int .i64 0)] (by kernel_rfl) (by kernel_rfl) (hg_fff g28 ng28 g27 g26 ng26 g25)
    have hg_3ff : ∀ (g28 ng28 g27 g26 ng26 g25 : Nat), G [true, true, true, true, true, true, true, true, true, true, false, false] [(2, .int .i64 1), (3, .int .i64 1), (8, .pointer (some ⟨b18, 0, none⟩)), (9, .slice (some ⟨g19, 0, none⟩) 1 1), (10, .slice (some ⟨g20, 0, none⟩) 1 1), (20, .slice (some ⟨N23, 1, none⟩) 1 3), (21, .int .i64 1), (22, .int .i64 0), (30, .slice (some ⟨g26, 0, none⟩) 2 (ng26 / 1)), (35, .slice (some ⟨g28, 0, none⟩) 2 (ng28 / 1))] ([⟨g28, [.int .i64 0, .int .i64 0], ng28⟩, ⟨g27, [.int .i64 0], 1⟩, ⟨g26, [.int .i64 0, .int .i64 5], ng26⟩, ⟨g25, [.int .i64 5], 1⟩, ⟨b24, [.int .i64 5, .int .i64 0], 2⟩, ⟨N23, [.int .i64 1, .int .i64 5, .int .i64 0, .int .i64 0, .int .i64 0, .int .i64 0, .int .i64 0], 7⟩, ⟨b18, [.int .i64 0, .int .i64 0], 2⟩, ⟨b17, [.int .i64 1, .int .i64 5, .int .i64 0, .int .i64 0, .int .i64 0, .int .i64 0, .int .i64 0], 7⟩, ⟨b16, [.int .i64 0, .int .i64 0], 2⟩] : List Own) := by
      intro g28 ng28 g27 g26 ng26 g25
      exact hqf 10 [2, 3, 8, 9, 10, 20, 21, 22, 35] _ _ _ [(2, .int .i64 1), (3, .int .i64 1), (8, .pointer (some ⟨b18, 0, none⟩)), (9, .slice (some ⟨g26, 0, none⟩) 2 (ng26 / 1)), (10, .slice (some ⟨g20, 0, none⟩) 1 1), (20, .slice (some ⟨N23, 1, none⟩) 1 3), (21, .int .i64 1), (22, .int .i64 0), (35, .slice (some ⟨g28, 0, none⟩) 2 (ng28 / 1))] (by kernel_rfl) (by kernel_rfl) (hg_7ff g28 ng28 g27 g26 ng26 g25)
    have hg_1ff : ∀ (g27 g26 ng26 g25 : Nat), G [true, true, true, true, true, true, true, true, true, false, false, false] [(2, .int .i64 1), (3, .int .i64 1), (8, .pointer (some ⟨b18, 0, none⟩)), (9, .slice (some ⟨g19, 0, none⟩) 1 1), (10, .slice (some ⟨g20, 0, none⟩) 1 1), (20, .slice (some ⟨N23, 1, none⟩) 1 3), (21, .int .i64 1), (22, .int .i64 0), (30, .slice (some ⟨g26, 0, none⟩) 2 (ng26 / 1)), (31, .slice (some ⟨g20, 0, none⟩) 1 1), (34, .slice (some ⟨g27, 0, none⟩) 1 1)] ([⟨g27, [.int .i64 0], 1⟩, ⟨g26, [.int .i64 0, .int .i64 5], ng26⟩, ⟨g25, [.int .i64 5], 1⟩, ⟨b24, [.int .i64 5, .int .i64 0], 2⟩, ⟨N23, [.int .i64 1, .int .i64 5, .int .i64 0, .int .i64 0, .int .i64 0, .int .i64 0, .int .i64 0], 7⟩, ⟨g20, [.int .i64 0], 1⟩, ⟨b18, [.int .i64 0, .int .i64 0], 2⟩, ⟨b17, [.int .i64 1, .int .i64 5, .int .i64 0, .int .i64 0, .int .i64 0, .int .i64 0, .int .i64 0], 7⟩, ⟨b16, [.int .i64 0, .int .i64 0], 2⟩] : List Own) := by
      intro g27 g26 ng26 g25
      refine hstep [9] _ _ _ (by kernel_rfl) (List.cons_ne_nil _ _) ⟨?_, trivial⟩
      · show T _ _ _ _ _ _ _ _
        refine t_app1 (cs := [.int .i64 0]) (M := 1) (F := ([⟨g27, [.int .i64 0], 1⟩, ⟨g26, [.int .i64 0, .int .i64 5], ng26⟩, ⟨g25, [.int .i64 5], 1⟩, ⟨b24, [.int .i64 5, .int .i64 0], 2⟩, ⟨N23, [.int .i64 1, .int .i64 5, .int .i64 0, .int .i64 0, .int .i64 0, .int .i64 0, .int .i64 0], 7⟩, ⟨b18, [.int .i64 0, .int .i64 0], 2⟩, ⟨b17, [.int .i64 1, .int .i64 5, .int .i64 0, .int .i64 0, .int .i64 0, .int .i64 0, .int .i64 0], 7⟩, ⟨b16, [.int .i64 0, .int .i64 0], 2⟩] : List Own)) (news := [.int .i64 0]) rfl rfl rfl rfl (sel_perm (is := [5]) (by kernel_rfl)) (.at 0 rfl rfl) (by kernel_rfl) rfl rfl (by decide) (by decide) rfl fun g28 ng28 => ?_
        refine t_keep [2, 3, 8, 9, 10, 20, 21, 22, 30, 35] (σ' := [(2, .int .i64 1), (3, .int .i64 1), (8, .pointer (some ⟨b18, 0, none⟩)), (9, .slice (some ⟨g19, 0, none⟩) 1 1), (10, .slice (some ⟨g20, 0, none⟩) 1 1), (20, .slice (some ⟨N23, 1, none⟩) 1 3), (21, .int .i64 1), (22, .int .i64 0), (30, .slice (some ⟨g26, 0, none⟩) 2 (ng26 / 1)), (35, .slice (some ⟨g28, 0, none⟩) 2 (ng28 / 1))]) (by kernel_rfl) ?_
        refine t_end ?_
        exact ⟨hg_3ff g28 ng28 g27 g26 ng26 g25, rfl⟩
    have hg_ff : ∀ (g26 ng26 g25 : Nat), G [true, true, true, true, true, true, true, true, false, false, false, false] [(2, .int .i64 1), (3, .int .i64 1), (8, .pointer (some ⟨b18, 0, none⟩)), (9, .slice (some ⟨g19, 0, none⟩) 1 1), (10, .slice (some ⟨g20, 0, none⟩) 1 1), (20, .slice (some ⟨N23, 1, none⟩) 1 3), (21, .int .i64 1), (22, .int .i64 0), (30, .slice (some ⟨g26, 0, none⟩) 2 (ng26 / 1)), (31, .slice (some ⟨g20, 0, none⟩) 1 1), (33, .int .i64 0)] ([⟨g26, [.int .i64 0, .int .i64 5], ng26⟩, ⟨g25, [.int .i64 5], 1⟩, ⟨b24, [.int .i64 5, .int .i64 0], 2⟩, ⟨N23, [.int .i64 1, .int .i64 5, .int .i64 0, .int .i64 0, .int .i64 0, .int .i64 0, .int .i64 0], 7⟩, ⟨g20, [.int .i64 0], 1⟩, ⟨b18, [.int .i64 0, .int .i64 0], 2⟩, ⟨b17, [.int .i64 1, .int .i64 5, .int .i64 0, .int .i64 0, .int .i64 0, .int .i64 0, .int .i64 0], 7⟩, ⟨b16, [.int .i64 0, .int .i64 0], 2⟩] : List Own) := by
      intro g26 ng26 g25
      refine hstep [8] _ _ _ (by kernel_rfl) (List.cons_ne_nil _ _) ⟨?_, trivial⟩
      · show T _ _ _ _ _ _ _ _
        refine t_a (.bsl rfl rfl rfl rfl) fun g27 fg27 sg27 => ?_
        refine t_keep [2, 3, 8, 9, 10, 20, 21, 22, 30, 31, 34] (σ' := [(2, .int .i64 1), (3, .int .i64 1), (8, .pointer (some ⟨b18, 0, none⟩)), (9, .slice (some ⟨g19, 0, none⟩) 1 1), (10, .slice (some ⟨g20, 0, none⟩) 1 1), (20, .slice (some ⟨N23, 1, none⟩) 1 3), (21, .int .i64 1), (22, .int .i64 0), (30, .slice (some ⟨g26, 0, none⟩) 2 (ng26 / 1)), (31, .slice (some ⟨g20, 0, none⟩) 1 1), (34, .slice (some ⟨g27, 0, none⟩) 1 1)]) (by kernel_rfl) ?_
        refine t_end ?_
        exact ⟨hg_1ff g27 g26 ng26 g25, rfl⟩
    have hg_1ef : ∀ (g27 g25 : Nat), G [true, true, true, true, false, true, true, true, true, false, false, false] [(2, .int .i64 1), (3, .int .i64 1), (8, .pointer (some ⟨b18, 0, none⟩)), (9, .slice (some ⟨g19, 0, none⟩) 1 1), (10, .slice (some ⟨g20, 0, none⟩) 1 1), (20, .slice (some ⟨N23, 1, none⟩) 1 3), (21, .int .i64 1), (22, .int .i64 0), (26, .slice (some ⟨g19, 0, none⟩) 1 1), (29, .slice (some ⟨g25, 0, none⟩) 1 1), (31, .slice (some ⟨g20, 0, none⟩) 1 1), (34, .slice (some ⟨g27, 0, none⟩) 1 1)] ([⟨g27, [.int .i64 0], 1⟩, ⟨g25, [.int .i64 5], 1⟩, ⟨b24, [.int .i64 5, .int .i64 0], 2⟩, ⟨N23, [.int .i64 1, .int .i64 5, .int .i64 0, .int .i64 0, .int .i64 0, .int .i64 0, .int .i64 0], 7⟩, ⟨g20, [.int .i64 0], 1⟩, ⟨g19, [.int .i64 0], 1⟩, ⟨b18, [.int .i64 0, .int .i64 0], 2⟩, ⟨b17, [.int .i64 1, .int .i64 5, .int .i64 0, .int .i64 0, .int .i64 0, .int .i64 0, .int .i64 0], 7⟩, ⟨b16, [.int .i64 0, .int .i64 0], 2⟩] : List Own) := by
      intro g27 g25
      refine hstep [4] _ _ _ (by kernel_rfl) (List.cons_ne_nil _ _) ⟨?_, trivial⟩
      · show T _ _ _ _ _ _ _ _
        refine t_app1 (cs := [.int .i64 0]) (M := 1) (F := ([⟨g27, [.int .i64 0], 1⟩, ⟨g25, [.int .i64 5], 1⟩, ⟨b24, [.int .i64 5, .int .i64 0], 2⟩, ⟨N23, [.int .i64 1, .int .i64 5, .int .i64 0, .int .i64 0, .int .i64 0, .int .i64 0, .int .i64 0], 7⟩, ⟨g20, [.int .i64 0], 1⟩, ⟨b18, [.int .i64 0, .int .i64 0], 2⟩, ⟨b17, [.int .i64 1, .int .i64 5, .int .i64 0, .int .i64 0, .int .i64 0, .int .i64 0, .int .i64 0], 7⟩, ⟨b16, [.int .i64 0, .int .i64 0], 2⟩] : List Own)) (news := [.int .i64 5]) rfl rfl rfl rfl (sel_perm (is := [5]) (by kernel_rfl)) (.at 1 rfl rfl) (by kernel_rfl) rfl rfl (by decide) (by decide) rfl fun g26 ng26 => ?_
        refine t_keep [2, 3, 8, 9, 10, 20, 21, 22, 30, 31, 34] (σ' := [(2, .int .i64 1), (3, .int .i64 1), (8, .pointer (some ⟨b18, 0, none⟩)), (9, .slice (some ⟨g19, 0, none⟩) 1 1), (10, .slice (some ⟨g20, 0, none⟩) 1 1), (20, .slice (some ⟨N23, 1, none⟩) 1 3), (21, .int .i64 1), (22, .int .i64 0), (30, .slice (some ⟨g26, 0, none⟩) 2 (ng26 / 1)), (31, .slice (some ⟨g20, 0, none⟩) 1 1), (34, .slice (some ⟨g27, 0, none⟩) 1 1)]) (by kernel_rfl) ?_
        refine t_vs (H' := ([⟨g27, [.int .i64 0], 1⟩, ⟨g26, [.int .i64 0, .int .i64 5], ng26⟩, ⟨g25, [.int .i64 5], 1⟩, ⟨b24, [.int .i64 5, .int .i64 0], 2⟩, ⟨N23, [.int .i64 1, .int .i64 5, .int .i64 0, .int .i64 0, .int .i64 0, .int .i64 0, .int .i64 0], 7⟩, ⟨g20, [.int .i64 0], 1⟩, ⟨b18, [.int .i64 0, .int .i64 0], 2⟩, ⟨b17, [.int .i64 1, .int .i64 5, .int .i64 0, .int .i64 0, .int .i64 0, .int .i64 0, .int .i64 0], 7⟩, ⟨b16, [.int .i64 0, .int .i64 0], 2⟩] : List Own)) (S' := S) (VS.sel [1, 0, 0, 0, 0, 0, 0, 0, 0] (by kernel_rfl)) ?_
        refine t_end ?_
        exact ⟨hg_1ff g27 g26 ng26 g25, rfl⟩
    have hg_1e7 : ∀ (g27 : Nat), G [true, true, true, false, false, true, true, true, true, false, false, false] [(2, .int .i64 1), (3, .int .i64 1), (8, .pointer (some ⟨b18, 0, none⟩)), (9, .slice (some ⟨g19, 0, none⟩) 1 1), (10, .slice (some ⟨g20, 0, none⟩) 1 1), (20, .slice (some ⟨N23, 1, none⟩) 1 3), (21, .int .i64 1), (22, .int .i64 0), (26, .slice (some ⟨g19, 0, none⟩) 1 1), (28, .int .i64 5), (31, .slice (some ⟨g20, 0, none⟩) 1 1), (34, .slice (some ⟨g27, 0, none⟩) 1 1)] ([⟨g27, [.int .i64 0], 1⟩, ⟨b24, [.int .i64 5, .int .i64 0], 2⟩, ⟨N23, [.int .i64 1, .int .i64 5, .int .i64 0, .int .i64 0, .int .i64 0, .int .i64 0, .int .i64 0], 7⟩, ⟨g20, [.int .i64 0], 1⟩, ⟨g19, [.int .i64 0], 1⟩, ⟨b18, [.int .i64 0, .int .i64 0], 2⟩, ⟨b17, [.int .i64 1, .int .i64 5, .int .i64 0, .int .i64 0, .int .i64 0, .int .i64 0, .int .i64 0], 7⟩, ⟨b16, [.int .i64 0, .int .i64 0], 2⟩] : List Own) := by
      intro g27
      refine hstep [3] _ _ _ (by kernel_rfl) (List.cons_ne_nil _ _) ⟨?_, trivial⟩
      · show T _ _ _ _ _ _ _ _
        refine t_a (.bsl rfl rfl rfl rfl) fun g25 fg25 sg25 => ?_
        refine t_keep [2, 3, 8, 9, 10, 20, 21, 22, 26, 29, 31, 34] (σ' := [(2, .int .i64 1), (3, .int .i64 1), (8, .pointer (some ⟨b18, 0, none⟩)), (9, .slice (some ⟨g19, 0, none⟩) 1 1), (10, .slice (some ⟨g20, 0, none⟩) 1 1), (20, .slice (some ⟨N23, 1, none⟩) 1 3), (21, .int .i64 1), (22, .int .i64 0), (26, .slice (some ⟨g19, 0, none⟩) 1 1), (29, .slice (some ⟨g25, 0, none⟩) 1 1), (31, .slice (some ⟨g20, 0, none⟩) 1 1), (34, .slice (some ⟨g27, 0, none⟩) 1 1)]) (by kernel_rfl) ?_
        refine t_vs (H' := ([⟨g27, [.int .i64 0], 1⟩, ⟨g25, [.int .i64 5], 1⟩, ⟨b24, [.int .i64 5, .int .i64 0], 2⟩, ⟨N23, [.int .i64 1, .int .i64 5, .int .i64 0, .int .i64 0, .int .i64 0, .int .i64 0, .int .i64 0], 7⟩, ⟨g20, [.int .i64 0], 1⟩, ⟨g19, [.int .i64 0], 1⟩, ⟨b18, [.int .i64 0, .int .i64 0], 2⟩, ⟨b17, [.int .i64 1, .int .i64 5, .int .i64 0, .int .i64 0, .int .i64 0, .int .i64 0, .int .i64 0], 7⟩, ⟨b16, [.int .i64 0, .int .i64 0], 2⟩] : List Own)) (S' := S) (VS.sel [1, 0, 0, 0, 0, 0, 0, 0, 0] (by kernel_rfl)) ?_
        refine t_end ?_
        exact ⟨hg_1ef g27 g25, rfl⟩
    have hg_ef : ∀ (g25 : Nat), G [true, true, true, true, false, true, true, true, false, false, false, false] [(2, .int .i64 1), (3, .int .i64 1), (8, .pointer (some ⟨b18, 0, none⟩)), (9, .slice (some ⟨g19, 0, none⟩) 1 1), (10, .slice (some ⟨g20, 0, none⟩) 1 1), (20, .slice (some ⟨N23, 1, none⟩) 1 3), (21, .int .i64 1), (22, .int .i64 0), (26, .slice (some ⟨g19, 0, none⟩) 1 1), (29, .slice (some ⟨g25, 0, none⟩) 1 1), (31, .slice (some ⟨g20, 0, none⟩) 1 1), (33, .int .i64 0)] ([⟨g25, [.int .i64 5], 1⟩, ⟨b24, [.int .i64 5, .int .i64 0], 2⟩, ⟨N23, [.int .i64 1, .int .i64 5, .int .i64 0, .int .i64 0, .int .i64 0, .int .i64 0, .int .i64 0], 7⟩, ⟨g20, [.int .i64 0], 1⟩, ⟨g19, [.int .i64 0], 1⟩, ⟨b18, [.int .i64 0, .int .i64 0], 2⟩, ⟨b17, [.int .i64 1, .int .i64 5, .int .i64 0, .int .i64 0, .int .i64 0, .int .i64 0, .int .i64 0], 7⟩, ⟨b16, [.int .i64 0, .int .i64 0], 2⟩] : List Own) := by
      intro g25
      refine hstep [4, 8] _ _ _ (by kernel_rfl) (List.cons_ne_nil _ _) ⟨?_, ?_, trivial⟩
      · show T _ _ _ _ _ _ _ _
        refine t_app1 (cs := [.int .i64 0]) (M := 1) (F := ([⟨g25, [.int .i64 5], 1⟩, ⟨b24, [.int .i64 5, .int .i64 0], 2⟩, ⟨N23, [.int .i64 1, .int .i64 5, .int .i64 0, .int .i64 0, .int .i64 0, .int .i64 0, .int .i64 0], 7⟩, ⟨g20, [.int .i64 0], 1⟩, ⟨b18, [.int .i64 0, .int .i64 0], 2⟩, ⟨b17, [.int .i64 1, .int .i64 5, .int .i64 0, .int .i64 0, .int .i64 0, .int .i64 0, .int .i64 0], 7⟩, ⟨b16, [.int .i64 0, .int .i64 0], 2⟩] : List Own)) (news := [.int .i64 5]) rfl rfl rfl rfl (sel_perm (is := [4]) (by kernel_rfl)) (.at 0 rfl rfl) (by kernel_rfl) rfl rfl (by decide) (by decide) rfl fun g26 ng26 => ?_
        refine t_keep [2, 3, 8, 9, 10, 20, 21, 22, 30, 31, 33] (σ' := [(2, .int .i64 1), (3, .int .i64 1), (8, .pointer (some ⟨b18, 0, none⟩)), (9, .slice (some ⟨g19, 0, none⟩) 1 1), (10, .slice (some ⟨g20, 0, none⟩) 1 1), (20, .slice (some ⟨N23, 1, none⟩) 1 3), (21, .int .i64 1), (22, .int .i64 0), (30, .slice (some ⟨g26, 0, none⟩) 2 (ng26 / 1)), (31, .slice (some ⟨g20, 0, none⟩) 1 1), (33, .int .i64 0)]) (by kernel_rfl) ?_
        refine t_end ?_
        exact ⟨hg_ff g26 ng26 g25, rfl⟩
      · show T _ _ _ _ _ _ _ _
        refine t_a (.bsl rfl rfl rfl rfl) fun g27 fg27 sg27 => ?_
        refine t_keep [2, 3, 8, 9, 10, 20, 21, 22, 26, 29, 31, 34] (σ' := [(2, .int .i64 1), (3, .int .i64 1), (8, .pointer (some ⟨b18, 0, none⟩)), (9, .slice (some ⟨g19, 0, none⟩) 1 1), (10, .slice (some ⟨g20, 0, none⟩) 1 1), (20, .slice (some ⟨N23, 1, none⟩) 1 3), (21, .int .i64 1), (22, .int .i64 0), (26, .slice (some ⟨g19, 0, none⟩) 1 1), (29, .slice (some ⟨g25, 0, none⟩) 1 1), (31, .slice (some ⟨g20, 0, none⟩) 1 1), (34, .slice (some ⟨g27, 0, none⟩) 1 1)]) (by kernel_rfl) ?_
        refine t_end ?_
        exact ⟨hg_1ef g27 g25, rfl⟩
    have hg_7f : ∀ (g26 ng26 g25 : Nat), G [true, true, true, true, true, true, true, false, false, false, false, false] [(2, .int .i64 1), (3, .int .i64 1), (8, .pointer (some ⟨b18, 0, none⟩)), (9, .slice (some ⟨g19, 0, none⟩) 1 1), (10, .slice (some ⟨g20, 0, none⟩) 1 1), (20, .slice (some ⟨N23, 1, none⟩) 1 3), (21, .int .i64 1), (22, .int .i64 0), (30, .slice (some ⟨g26, 0, none⟩) 2 (ng26 / 1)), (31, .slice (some ⟨g20, 0, none⟩) 1 1), (32, .pointer (some ⟨b24, 1, none⟩))] ([⟨g26, [.int .i64 0, .int .i64 5], ng26⟩, ⟨g25, [.int .i64 5], 1⟩, ⟨b24, [.int .i64 5, .int .i64 0], 2⟩, ⟨N23, [.int .i64 1, .int .i64 5, .int .i64 0, .int .i64 0, .int .i64 0, .int .i64 0, .int .i64 0], 7⟩, ⟨g20, [.int .i64 0], 1⟩, ⟨b18, [.int .i64 0, .int .i64 0], 2⟩, ⟨b17, [.int .i64 1, .int .i64 5, .int .i64 0, .int .i64 0, .int .i64 0, .int .i64 0, .int .i64 0], 7⟩, ⟨b16, [.int .i64 0, .int .i64 0], 2⟩] : List Own) := by
      intro g26 ng26 g25
      refine hstep [7] _ _ _ (by kernel_rfl) (List.cons_ne_nil _ _) ⟨?_, trivial⟩
      · show T _ _ _ _ _ _ _ _
        refine t_v (.ld1 rfl rfl rfl (.at 2 rfl rfl)) ?_
        refine t_keep [2, 3, 8, 9, 10, 20, 21, 22, 30, 31, 33] (σ' := [(2, .int .i64 1), (3, .int .i64 1), (8, .pointer (some ⟨b18, 0, none⟩)), (9, .slice (some ⟨g19, 0, none⟩) 1 1), (10, .slice (some ⟨g20, 0, none⟩) 1 1), (20, .slice (some ⟨N23, 1, none⟩) 1 3), (21, .int .i64 1), (22, .int .i64 0), (30, .slice (some ⟨g26, 0, none⟩) 2 (ng26 / 1)), (31, .slice (some ⟨g20, 0, none⟩) 1 1), (33, .int .i64 0)]) (by kernel_rfl) ?_
        refine t_end ?_
        exact ⟨hg_ff g26 ng26 g25, rfl⟩
    have hg_1e3 : ∀ (g27 : Nat), G [true, true, false, false, false, true, true, true, true, false, false, false] [(2, .int .i64 1), (3, .int .i64 1), (8, .pointer (some ⟨b18, 0, none⟩)), (9, .slice (some ⟨g19, 0, none⟩) 1 1), (10, .slice (some ⟨g20, 0, none⟩) 1 1), (20, .slice (some ⟨N23, 1, none⟩) 1 3), (21, .int .i64 1), (22, .int .i64 0), (26, .slice (some ⟨g19, 0, none⟩) 1 1), (27, .pointer (some ⟨b24, 0, none⟩)), (31, .slice (some ⟨g20, 0, none⟩) 1 1), (34, .slice (some ⟨g27, 0, none⟩) 1 1)] ([⟨g27, [.int .i64 0], 1⟩, ⟨b24, [.int .i64 5, .int .i64 0], 2⟩, ⟨N23, [.int .i64 1, .int .i64 5, .int .i64 0, .int .i64 0, .int .i64 0, .int .i64 0, .int .i64 0], 7⟩, ⟨g20, [.int .i64 0], 1⟩, ⟨g19, [.int .i64 0], 1⟩, ⟨b18, [.int .i64 0, .int .i64 0], 2⟩, ⟨b17, [.int .i64 1, .int .i64 5, .int .i64 0, .int .i64 0, .int .i64 0, .int .i64 0, .int .i64 0], 7⟩, ⟨b16, [.int .i64 0, .int .i64 0], 2⟩] : List Own) := by
      intro g27
      refine hstep [2] _ _ _ (by kernel_rfl) (List.cons_ne_nil _ _) ⟨?_, trivial⟩
      · show T _ _ _ _ _ _ _ _
        refine t_v (.ld1 rfl rfl rfl (.at 1 rfl rfl)) ?_
        refine t_keep [2, 3, 8, 9, 10, 20, 21, 22, 26, 28, 31, 34] (σ' := [(2, .int .i64 1), (3, .int .i64 1), (8, .pointer (some ⟨b18, 0, none⟩)), (9, .slice (some ⟨g19, 0, none⟩) 1 1), (10, .slice (some ⟨g20, 0, none⟩) 1 1), (20, .slice (some ⟨N23, 1, none⟩) 1 3), (21, .int .i64 1), (22, .int .i64 0), (26, .slice (some ⟨g19, 0, none⟩) 1 1), (28, .int .i64 5), (31, .slice (some ⟨g20, 0, none⟩) 1 1), (34, .slice (some ⟨g27, 0, none⟩) 1 1)]) (by kernel_rfl) ?_
        refine t_end ?_
        exact ⟨hg_1e7 g27, rfl⟩
    have hg_e7 : G [true, true, true, false, false, true, true, true, false, false, false, false] [(2, .int .i64 1), (3, .int .i64 1), (8, .pointer (some ⟨b18, 0, none⟩)), (9, .slice (some ⟨g19, 0, none⟩) 1 1), (10, .slice (some ⟨g20, 0, none⟩) 1 1), (20, .slice (some ⟨N23, 1, none⟩) 1 3), (21, .int .i64 1), (22, .int .i64 0), (26, .slice (some ⟨g19, 0, none⟩) 1 1), (28, .int .i64 5), (31, .slice (some ⟨g20, 0, none⟩) 1 1), (33, .int .i64 0)] ([⟨b24, [.int .i64 5, .int .i64 0], 2⟩, ⟨N23, [.int .i64 1, .int .i64 5, .int .i64 0, .int .i64 0, .int .i64 0, .int .i64 0, .int .i64 0], 7⟩, ⟨g20, [.int .i64 0], 1⟩, ⟨g19, [.int .i64 0], 1⟩, ⟨b18, [.int .i64 0, .int .i64 0], 2⟩, ⟨b17, [.int .i64 1, .int .i64 5, .int .i64 0, .int .i64 0, .int .i64 0, .int .i64 0, .int .i64 0], 7⟩, ⟨b16, [.int .i64 0, .int .i64 0], 2⟩] : List Own) := by
      refine hstep [3, 8] _ _ _ (by kernel_rfl) (List.cons_ne_nil _ _) ⟨?_, ?_, trivial⟩
      · show T _ _ _ _ _ _ _ _
        refine t_a (.bsl rfl rfl rfl rfl) fun g25 fg25 sg25 => ?_
        refine t_keep [2, 3, 8, 9, 10, 20, 21, 22, 26, 29, 31, 33] (σ' := [(2, .int .i64 1), (3, .int .i64 1), (8, .pointer (some ⟨b18, 0, none⟩)), (9, .slice (some ⟨g19, 0, none⟩) 1 1), (10, .slice (some ⟨g20, 0, none⟩) 1 1), (20, .slice (some ⟨N23, 1, none⟩) 1 3), (21, .int .i64 1), (22, .int .i64 0), (26, .slice (some ⟨g19, 0, none⟩) 1 1), (29, .slice (some ⟨g25, 0, none⟩) 1 1), (31, .slice (some ⟨g20, 0, none⟩) 1 1), (33, .int .i64 0)]) (by kernel_rfl) ?_
        refine t_end ?_
        exact ⟨hg_ef g25, rfl⟩
      · show T _ _ _ _ _ _ _ _
        refine t_a (.bsl rfl rfl rfl rfl) fun g27 fg27 sg27 => ?_
        refine t_keep [2, 3, 8, 9, 10, 20, 21, 22, 26, 28, 31, 34] (σ' := [(2, .int .i64 1), (3, .int .i64 1), (8, .pointer (some ⟨b18, 0, none⟩)), (9, .slice (some ⟨g19, 0, none⟩) 1 1), (10, .slice (some ⟨g20, 0, none⟩) 1 1), (20, .slice (some ⟨N23, 1, none⟩) 1 3), (21, .int .i64 1), (22, .int .i64 0), (26, .slice (some ⟨g19, 0, none⟩) 1 1), (28, .int .i64 5), (31, .slice (some ⟨g20, 0, none⟩) 1 1), (34, .slice (some ⟨g27, 0, none⟩) 1 1)]) (by kernel_rfl) ?_
        refine t_end ?_
        exact ⟨hg_1e7 g27, rfl⟩
    have hg_6f : ∀ (g25 : Nat), G [true, true, true, true, false, true, true, false, false, false, false, false] [(2, .int .i64 1), (3, .int .i64 1), (8, .pointer (some ⟨b18, 0, none⟩)), (9, .slice (some ⟨g19, 0, none⟩) 1 1), (10, .slice (some ⟨g20, 0, none⟩) 1 1), (20, .slice (some ⟨N23, 1, none⟩) 1 3), (21, .int .i64 1), (22, .int .i64 0), (26, .slice (some ⟨g19, 0, none⟩) 1 1), (29, .slice (some ⟨g25, 0, none⟩) 1 1), (31, .slice (some ⟨g20, 0, none⟩) 1 1), (32, .pointer (some ⟨b24, 1, none⟩))] ([⟨g25, [.int .i64 5], 1⟩, ⟨b24, [.int .i64 5, .int .i64 0], 2⟩, ⟨N23, [.int .i64 1, .int .i64 5, .int .i64 0, .int .i64 0, .int .i64 0, .int .i64 0, .int .i64 0], 7⟩, ⟨g20, [.int .i64 0], 1⟩, ⟨g19, [.int .i64 0], 1⟩, ⟨b18, [.int .i64 0, .int .i64 0], 2⟩, ⟨b17, [.int .i64 1, .int .i64 5, .int .i64 0, .int .i64 0, .int .i64 0, .int .i64 0, .int .i64 0], 7⟩, ⟨b16, [.int .i64 0, .int .i64 0], 2⟩] : List Own) := by
      intro g25
      refine hstep [4, 7] _ _ _ (by kernel_rfl) (List.cons_ne_nil _ _) ⟨?_, ?_, trivial⟩
      · show T _ _ _ _ _ _ _ _
        refine t_app1 (cs := [.int .i64 0]) (M := 1) (F := ([⟨g25, [.int .i64 5], 1⟩, ⟨b24, [.int .i64 5, .int .i64 0], 2⟩, ⟨N23, [.int .i64 1, .int .i64 5, .int .i64 0, .int .i64 0, .int .i64 0, .int .i64 0, .int .i64 0], 7⟩, ⟨g20, [.int .i64 0], 1⟩, ⟨b18, [.int .i64 0, .int .i64 0], 2⟩, ⟨b17, [.int .i64 1, .int .i64 5, .int .i64 0, .int .i64 0, .int .i64 0, .int .i64 0, .int .i64 0], 7⟩, ⟨b16, [.int .i64 0, .int .i64 0], 2⟩] : List Own)) (news := [.int .i64 5]) rfl rfl rfl rfl (sel_perm (is := [4]) (by kernel_rfl)) (.at 0 rfl rfl) (by kernel_rfl) rfl rfl (by decide) (by decide) rfl fun g26 ng26 => ?_
        refine t_keep [2, 3, 8, 9, 10, 20, 21, 22, 30, 31, 32] (σ' := [(2, .int .i64 1), (3, .int .i64 1), (8, .pointer (some ⟨b18, 0, none⟩)), (9, .slice (some ⟨g19, 0, none⟩) 1 1), (10, .slice (some ⟨g20, 0, none⟩) 1 1), (20, .slice (some ⟨N23, 1, none⟩) 1 3), (21, .int .i64 1), (22, .int .i64 0), (30, .slice (some ⟨g26, 0, none⟩) 2 (ng26 / 1)), (31, .slice (some ⟨g20, 0, none⟩) 1 1), (32, .pointer (some ⟨b24, 1, none⟩))]) (by kernel_rfl) ?_
        refine t_end ?_
        exact ⟨hg_7f g26 ng26 g25, rfl⟩
      · show T _ _ _ _ _ _ _ _
        refine t_v (.ld1 rfl rfl rfl (.at 1 rfl rfl)) ?_
        refine t_keep [2, 3, 8, 9, 10, 20, 21, 22, 26, 29, 31, 33] (σ' := [(2, .int .i64 1), (3, .int .i64 1), (8, .pointer (some ⟨b18, 0, none⟩)), (9, .slice (some ⟨g19, 0, none⟩) 1 1), (10, .slice (some ⟨g20, 0, none⟩) 1 1), (20, .slice (some ⟨N23, 1, none⟩) 1 3), (21, .int .i64 1), (22, .int .i64 0), (26, .slice (some ⟨g19, 0, none⟩) 1 1), (29, .slice (some ⟨g25, 0, none⟩) 1 1), (31, .slice (some ⟨g20, 0, none⟩) 1 1), (33, .int .i64 0)]) (by kernel_rfl) ?_
        refine t_end ?_
        exact ⟨hg_ef g25, rfl⟩
    have hg_e3 : G [true, true, false, false, false, true, true, true, false, false, false, false] [(2, .int .i64 1), (3, .int .i64 1), (8, .pointer (some ⟨b18, 0, none⟩)), (9, .slice (some ⟨g19, 0, none⟩) 1 1), (10, .slice (some ⟨g20, 0, none⟩) 1 1), (20, .slice (some ⟨N23, 1, none⟩) 1 3), (21, .int .i64 1), (22, .int .i64 0), (26, .slice (some ⟨g19, 0, none⟩) 1 1), (27, .pointer (some ⟨b24, 0, none⟩)), (31, .slice (some ⟨g20, 0, none⟩) 1 1), (33, .int .i64 0)] ([⟨b24, [.int .i64 5, .int .i64 0], 2⟩, ⟨N23, [.int .i64 1, .int .i64 5, .int .i64 0, .int .i64 0, .int .i64 0, .int .i64 0, .int .i64 0], 7⟩, ⟨g20, [.int .i64 0], 1⟩, ⟨g19, [.int .i64 0], 1⟩, ⟨b18, [.int .i64 0, .int .i64 0], 2⟩, ⟨b17, [.int .i64 1, .int .i64 5, .int .i64 0, .int .i64 0, .int .i64 0, .int .i64 0, .int .i64 0], 7⟩, ⟨b16, [.int .i64 0, .int .i64 0], 2⟩] : List Own) := by
      refine hstep [2, 8] _ _ _ (by kernel_rfl) (List.cons_ne_nil _ _) ⟨?_, ?_, trivial⟩
      · show T _ _ _ _ _ _ _ _
        refine t_v (.ld1 rfl rfl rfl (.at 0 rfl rfl)) ?_
        refine t_keep [2, 3, 8, 9, 10, 20, 21, 22, 26, 28, 31, 33] (σ' := [(2, .int .i64 1), (3, .int .i64 1), (8, .pointer (some ⟨b18, 0, none⟩)), (9, .slice (some ⟨g19, 0, none⟩) 1 1), (10, .slice (some ⟨g20, 0, none⟩) 1 1), (20, .slice (some ⟨N23, 1, none⟩) 1 3), (21, .int .i64 1), (22, .int .i64 0), (26, .slice (some ⟨g19, 0, none⟩) 1 1), (28, .int .i64 5), (31, .slice (some ⟨g20, 0, none⟩) 1 1), (33, .int .i64 0)]) (by kernel_rfl) ?_
        refine t_end ?_
        exact ⟨hg_e7, rfl⟩
      · show T _ _ _ _ _ _ _ _
        refine t_a (.bsl rfl rfl rfl rfl) fun g27 fg27 sg27 => ?_
        refine t_keep [2, 3, 8, 9, 10, 20, 21, 22, 26, 27, 31, 34] (σ' := [(2, .int .i64 1), (3, .int .i64 1), (8, .pointer (some ⟨b18, 0, none⟩)), (9, .slice (some ⟨g19, 0, none⟩) 1 1), (10, .slice (some ⟨g20, 0, none⟩) 1 1), (20, .slice (some ⟨N23, 1, none⟩) 1 3), (21, .int .i64 1), (22, .int .i64 0), (26, .slice (some ⟨g19, 0, none⟩) 1 1), (27, .pointer (some ⟨b24, 0, none⟩)), (31, .slice (some ⟨g20, 0, none⟩) 1 1), (34, .slice (some ⟨g27, 0, none⟩) 1 1)]) (by kernel_rfl) ?_
        refine t_end ?_
        exact ⟨hg_1e3 g27, rfl⟩
    have hg_67 : G [true, true, true, false, false, true, true, false, false, false, false, false] [(2, .int .i64 1), (3, .int .i64 1), (8, .pointer (some ⟨b18, 0, none⟩)), (9, .slice (some ⟨g19, 0, none⟩) 1 1), (10, .slice (some ⟨g20, 0, none⟩) 1 1), (20, .slice (some ⟨N23, 1, none⟩) 1 3), (21, .int .i64 1), (22, .int .i64 0), (26, .slice (some ⟨g19, 0, none⟩) 1 1), (28, .int .i64 5), (31, .slice (some ⟨g20, 0, none⟩) 1 1), (32, .pointer (some ⟨b24, 1, none⟩))] ([⟨b24, [.int .i64 5, .int .i64 0], 2⟩, ⟨N23, [.int .i64 1, .int .i64 5, .int .i64 0, .int .i64 0, .int .i64 0, .int .i64 0, .int .i64 0], 7⟩, ⟨g20, [.int .i64 0], 1⟩, ⟨g19, [.int .i64 0], 1⟩, ⟨b18, [.int .i64 0, .int .i64 0], 2⟩, ⟨b17, [.int .i64 1, .int .i64 5, .int .i64 0, .int .i64 0, .int .i64 0, .int .i64 0, .int .i64 0], 7⟩, ⟨b16, [.int .i64 0, .int .i64 0], 2⟩] : List Own) := by
      refine hstep [3, 7] _ _ _ (by kernel_rfl) (List.cons_ne_nil _ _) ⟨?_, ?_, trivial⟩
      · show T _ _ _ _ _ _ _ _
        refine t_a (.bsl rfl rfl rfl rfl) fun g25 fg25 sg25 => ?_
        refine t_keep [2, 3, 8, 9, 10, 20, 21, 22, 26, 29, 31, 32] (σ' := [(2, .int .i64 1), (3, .int .i64 1), (8, .pointer (some ⟨b18, 0, none⟩)), (9, .slice (some ⟨g19, 0, none⟩) 1 1), (10, .slice (some ⟨g20, 0, none⟩) 1 1), (20, .slice (some ⟨N23, 1, none⟩) 1 3), (21, .int .i64 1), (22, .int .i64 0), (26, .slice (some ⟨g19, 0, none⟩) 1 1), (29, .slice (some ⟨g25, 0, none⟩) 1 1), (31, .slice (some ⟨g20, 0, none⟩) 1 1), (32, .pointer (some ⟨b24, 1, none⟩))]) (by kernel_rfl) ?_
        refine t_end ?_
        exact ⟨hg_6f g25, rfl⟩
      · show T _ _ _ _ _ _ _ _
        refine t_v (.ld1 rfl rfl rfl (.at 0 rfl rfl)) ?_
        refine t_keep [2, 3, 8, 9, 10, 20, 21, 22, 26, 28, 31, 33] (σ' := [(2, .int .i64 1), (3, .int .i64 1), (8, .pointer (some ⟨b18, 0, none⟩)), (9, .slice (some ⟨g19, 0, none⟩) 1 1), (10, .slice (some ⟨g20, 0, none⟩) 1 1), (20, .slice (some ⟨N23, 1, none⟩) 1 3), (21, .int .i64 1), (22, .int .i64 0), (26, .slice (some ⟨g19, 0, none⟩) 1 1), (28, .int .i64 5), (31, .slice (some ⟨g20, 0, none⟩) 1 1), (33, .int .i64 0)]) (by kernel_rfl) ?_
        refine t_end ?_
        exact ⟨hg_e7, rfl⟩
    have hg_63 : G [true, true, false, false, false, true, true, false, false, false, false, false] [(2, .int .i64 1), (3, .int .i64 1), (8, .pointer (some ⟨b18, 0, none⟩)), (9, .slice (some ⟨g19, 0, none⟩) 1 1), (10, .slice (some ⟨g20, 0, none⟩) 1 1), (20, .slice (some ⟨N23, 1, none⟩) 1 3), (21, .int .i64 1), (22, .int .i64 0), (26, .slice (some ⟨g19, 0, none⟩) 1 1), (27, .pointer (some ⟨b24, 0, none⟩)), (31, .slice (some ⟨g20, 0, none⟩) 1 1), (32, .pointer (some ⟨b24, 1, none⟩))] ([⟨b24, [.int .i64 5, .int .i64 0], 2⟩, ⟨N23, [.int .i64 1, .int .i64 5, .int .i64 0, .int .i64 0, .int .i64 0, .int .i64 0, .int .i64 0], 7⟩, ⟨g20, [.int .i64 0], 1⟩, ⟨g19, [.int .i64 0], 1⟩, ⟨b18, [.int .i64 0, .int .i64 0], 2⟩, ⟨b17, [.int .i64 1, .int .i64 5, .int .i64 0, .int .i64 0, .int .i64 0, .int .i64 0, .int .i64 0], 7⟩, ⟨b16, [.int .i64 0, .int .i64 0], 2⟩] : List Own) := by
      refine hstep [2, 7] _ _ _ (by kernel_rfl) (List.cons_ne_nil _ _) ⟨?_, ?_, trivial⟩
      · show T _ _ _ _ _ _ _ _
        refine t_v (.ld1 rfl rfl rfl (.at 0 rfl rfl)) ?_
        refine t_keep [2, 3, 8, 9, 10, 20, 21, 22, 26, 28, 31, 32] (σ' := [(2, .int .i64 1), (3, .int .i64 1), (8, .pointer (some ⟨b18, 0, none⟩)), (9, .slice (some ⟨g19, 0, none⟩) 1 1), (10, .slice (some ⟨g20, 0, none⟩) 1 1), (20, .slice (some ⟨N23, 1, none⟩) 1 3), (21, .int .i64 1), (22, .int .i64 0), (26, .slice (some ⟨g19, 0, none⟩) 1 1), (28, .int .i64 5), (31, .slice (some ⟨g20, 0, none⟩) 1 1), (32, .pointer (some ⟨b24, 1, none⟩))]) (by kernel_rfl) ?_
        refine t_end ?_
        exact ⟨hg_67, rfl⟩
      · show T _ _ _ _ _ _ _ _
        refine t_v (.ld1 rfl rfl rfl (.at 0 rfl rfl)) ?_
        refine t_keep [2, 3, 8, 9, 10, 20, 21, 22, 26, 27, 31, 33] (σ' := [(2, .int .i64 1), (3, .int .i64 1), (8, .pointer (some ⟨b18, 0, none⟩)), (9, .slice (some ⟨g19, 0, none⟩) 1 1), (10, .slice (some ⟨g20, 0, none⟩) 1 1), (20, .slice (some ⟨N23, 1, none⟩) 1 3), (21, .int .i64 1), (22, .int .i64 0), (26, .slice (some ⟨g19, 0, none⟩) 1 1), (27, .pointer (some ⟨b24, 0, none⟩)), (31, .slice (some ⟨g20, 0, none⟩) 1 1), (33, .int .i64 0)]) (by kernel_rfl) ?_
        refine t_end ?_
        exact ⟨hg_e3, rfl⟩
    have hg_23 : G [true, true, false, false, false, true, false, false, false, false, false, false] [(2, .int .i64 1), (3, .int .i64 1), (8, .pointer (some ⟨b18, 0, none⟩)), (9, .slice (some ⟨g19, 0, none⟩) 1 1), (10, .slice (some ⟨g20, 0, none⟩) 1 1), (12, .pointer (some ⟨b24, 0, none⟩)), (20, .slice (some ⟨N23, 1, none⟩) 1 3), (21, .int .i64 1), (22, .int .i64 0), (26, .slice (some ⟨g19, 0, none⟩) 1 1), (27, .pointer (some ⟨b24, 0, none⟩)), (31, .slice (some ⟨g20, 0, none⟩) 1 1)] ([⟨b24, [.int .i64 5, .int .i64 0], 2⟩, ⟨N23, [.int .i64 1, .int .i64 5, .int .i64 0, .int .i64 0, .int .i64 0, .int .i64 0, .int .i64 0], 7⟩, ⟨g20, [.int .i64 0], 1⟩, ⟨g19, [.int .i64 0], 1⟩, ⟨b18, [.int .i64 0, .int .i64 0], 2⟩, ⟨b17, [.int .i64 1, .int .i64 5, .int .i64 0, .int .i64 0, .int .i64 0, .int .i64 0, .int .i64 0], 7⟩, ⟨b16, [.int .i64 0, .int .i64 0], 2⟩] : List Own) := by
      exact hqf 6 [2, 3, 8, 9, 10, 20, 21, 22, 26, 27, 31, 32] _ _ _ [(2, .int .i64 1), (3, .int .i64 1), (8, .pointer (some ⟨b18, 0, none⟩)), (9, .slice (some ⟨g19, 0, none⟩) 1 1), (10, .slice (some ⟨g20, 0, none⟩) 1 1), (20, .slice (some ⟨N23, 1, none⟩) 1 3), (21, .int .i64 1), (22, .int .i64 0), (26, .slice (some ⟨g19, 0, none⟩) 1 1), (27, .pointer (some ⟨b24, 0, none⟩)), (31, .slice (some ⟨g20, 0, none⟩) 1 1), (32, .pointer (some ⟨b24, 1, none⟩))] (by kernel_rfl) (by kernel_rfl) hg_63
    have hg_3 : G [true, true, false, false, false, false, false, false, false, false, false, false] [(2, .int .i64 1), (3, .int .i64 1), (8, .pointer (some ⟨b18, 0, none⟩)), (9, .slice (some ⟨g19, 0, none⟩) 1 1), (10, .slice (some ⟨g20, 0, none⟩) 1 1), (12, .pointer (some ⟨b24, 0, none⟩)), (20, .slice (some ⟨N23, 1, none⟩) 1 3), (21, .int .i64 1), (22, .int .i64 0), (26, .slice (some ⟨g19, 0, none⟩) 1 1), (27, .pointer (some ⟨b24, 0, none⟩))] ([⟨b24, [.int .i64 5, .int .i64 0], 2⟩, ⟨N23, [.int .i64 1, .int .i64 5, .int .i64 0, .int .i64 0, .int .i64 0, .int .i64 0, .int .i64 0], 7⟩, ⟨g20, [.int .i64 0], 1⟩, ⟨g19, [.int .i64 0], 1⟩, ⟨b18, [.int .i64 0, .int .i64 0], 2⟩, ⟨b17, [.int .i64 1, .int .i64 5, .int .i64 0, .int .i64 0, .int .i64 0, .int .i64 0, .int .i64 0], 7⟩, ⟨b16, [.int .i64 0, .int .i64 0], 2⟩] : List Own) := by
      exact hqf 5 [2, 3, 8, 9, 10, 12, 20, 21, 22, 26, 27, 31] _ _ _ [(2, .int .i64 1), (3, .int .i64 1), (8, .pointer (some ⟨b18, 0, none⟩)), (9, .slice (some ⟨g19, 0, none⟩) 1 1), (10, .slice (some ⟨g20, 0, none⟩) 1 1), (12, .pointer (some ⟨b24, 0, none⟩)), (20, .slice (some ⟨N23, 1, none⟩) 1 3), (21, .int .i64 1), (22, .int .i64 0), (26, .slice (some ⟨g19, 0, none⟩) 1 1), (27, .pointer (some ⟨b24, 0, none⟩)), (31, .slice (some ⟨g20, 0, none⟩) 1 1)] (by kernel_rfl) (by kernel_rfl) hg_23
    have hg_1 : G [true, false, false, false, false, false, false, false, false, false, false, false] [(2, .int .i64 1), (3, .int .i64 1), (8, .pointer (some ⟨b18, 0, none⟩)), (9, .slice (some ⟨g19, 0, none⟩) 1 1), (10, .slice (some ⟨g20, 0, none⟩) 1 1), (12, .pointer (some ⟨b24, 0, none⟩)), (20, .slice (some ⟨N23, 1, none⟩) 1 3), (21, .int .i64 1), (22, .int .i64 0), (26, .slice (some ⟨g19, 0, none⟩) 1 1)] ([⟨b24, [.int .i64 5, .int .i64 0], 2⟩, ⟨N23, [.int .i64 1, .int .i64 5, .int .i64 0, .int .i64 0, .int .i64 0, .int .i64 0, .int .i64 0], 7⟩, ⟨g20, [.int .i64 0], 1⟩, ⟨g19, [.int .i64 0], 1⟩, ⟨b18, [.int .i64 0, .int .i64 0], 2⟩, ⟨b17, [.int .i64 1, .int .i64 5, .int .i64 0, .int .i64 0, .int .i64 0, .int .i64 0, .int .i64 0], 7⟩, ⟨b16, [.int .i64 0, .int .i64 0], 2⟩] : List Own) := by
      exact hqf 1 [2, 3, 8, 9, 10, 12, 20, 21, 22, 26, 27] _ _ _ [(2, .int .i64 1), (3, .int .i64 1), (8, .pointer (some ⟨b18, 0, none⟩)), (9, .slice (some ⟨g19, 0, none⟩) 1 1), (10, .slice (some ⟨g20, 0, none⟩) 1 1), (12, .pointer (some ⟨b24, 0, none⟩)), (20, .slice (some ⟨N23, 1, none⟩) 1 3), (21, .int .i64 1), (22, .int .i64 0), (26, .slice (some ⟨g19, 0, none⟩) 1 1), (27, .pointer (some ⟨b24, 0, none⟩))] (by kernel_rfl) (by kernel_rfl) hg_3
    have hg_0 : G [false, false, false, false, false, false, false, false, false, false, false, false] [(2, .int .i64 1), (3, .int .i64 1), (8, .pointer (some ⟨b18, 0, none⟩)), (9, .slice (some ⟨g19, 0, none⟩) 1 1), (10, .slice (some ⟨g20, 0, none⟩) 1 1), (12, .pointer (some ⟨b24, 0, none⟩)), (20, .slice (some ⟨N23, 1, none⟩) 1 3), (21, .int .i64 1), (22, .int .i64 0)] ([⟨b24, [.int .i64 5, .int .i64 0], 2⟩, ⟨N23, [.int .i64 1, .int .i64 5, .int .i64 0, .int .i64 0, .int .i64 0, .int .i64 0, .int .i64 0], 7⟩, ⟨g20, [.int .i64 0], 1⟩, ⟨g19, [.int .i64 0], 1⟩, ⟨b18, [.int .i64 0, .int .i64 0], 2⟩, ⟨b17, [.int .i64 1, .int .i64 5, .int .i64 0, .int .i64 0, .int .i64 0, .int .i64 0, .int .i64 0], 7⟩, ⟨b16, [.int .i64 0, .int .i64 0], 2⟩] : List Own) := by
      exact hqf 0 [2, 3, 8, 9, 10, 12, 20, 21, 22, 26] _ _ _ [(2, .int .i64 1), (3, .int .i64 1), (8, .pointer (some ⟨b18, 0, none⟩)), (9, .slice (some ⟨g19, 0, none⟩) 1 1), (10, .slice (some ⟨g20, 0, none⟩) 1 1), (12, .pointer (some ⟨b24, 0, none⟩)), (20, .slice (some ⟨N23, 1, none⟩) 1 3), (21, .int .i64 1), (22, .int .i64 0), (26, .slice (some ⟨g19, 0, none⟩) 1 1)] (by kernel_rfl) (by kernel_rfl) hg_1
    exact hg_0
  have hg_7f : ∀ (g20 g19 : Nat), G [true, true, true, true, true, true, true, false] [(2, .int .i64 1), (3, .int .i64 1), (5, .pointer (some ⟨b17, 0, none⟩)), (8, .pointer (some ⟨b18, 0, none⟩)), (9, .slice (some ⟨g19, 0, none⟩) 1 1), (18, .slice (some ⟨g20, 0, none⟩) 1 1)] ([⟨g20, [.int .i64 0], 1⟩, ⟨g19, [.int .i64 0], 1⟩, ⟨b18, [.int .i64 0, .int .i64 0], 2⟩, ⟨b17, [.int .i64 1, .int .i64 5, .int .i64 0, .int .i64 0, .int .i64 0, .int .i64 0, .int .i64 0], 7⟩, ⟨b16, [.int .i64 0, .int .i64 0], 2⟩] : List Own) := by
    intro g20 g19
    exact hqf 7 [2, 3, 5, 8, 9, 10] _ _ _ [(2, .int .i64 1), (3, .int .i64 1), (5, .pointer (some ⟨b17, 0, none⟩)), (8, .pointer (some ⟨b18, 0, none⟩)), (9, .slice (some ⟨g19, 0, none⟩) 1 1), (10, .slice (some ⟨g20, 0, none⟩) 1 1)] (by kernel_rfl) (by kernel_rfl) (hg_ff g20 g19)
  have hg_3f : ∀ (g20 g19 : Nat), G [true, true, true, true, true, true, false, false] [(2, .int .i64 1), (3, .int .i64 1), (5, .pointer (some ⟨b17, 0, none⟩)), (8, .pointer (some ⟨b18, 0, none⟩)), (15, .slice (some ⟨g19, 0, none⟩) 1 1), (18, .slice (some ⟨g20, 0, none⟩) 1 1)] ([⟨g20, [.int .i64 0], 1⟩, ⟨g19, [.int .i64 0], 1⟩, ⟨b18, [.int .i64 0, .int .i64 0], 2⟩, ⟨b17, [.int .i64 1, .int .i64 5, .int .i64 0, .int .i64 0, .int .i64 0, .int .i64 0, .int .i64 0], 7⟩, ⟨b16, [.int .i64 0, .int .i64 0], 2⟩] : List Own) := by
    intro g20 g19
    exact hqf 6 [2, 3, 5, 8, 9, 18] _ _ _ [(2, .int .i64 1), (3, .int .i64 1), (5, .pointer (some ⟨b17, 0, none⟩)), (8, .pointer (some ⟨b18, 0, none⟩)), (9, .slice (some ⟨g19, 0, none⟩) 1 1), (18, .slice (some ⟨g20, 0, none⟩) 1 1)] (by kernel_rfl) (by kernel_rfl) (hg_7f g20 g19)
  have hg_5f : ∀ (g19 : Nat), G [true, true, true, true, true, false, true, false] [(2, .int .i64 1), (3, .int .i64 1), (5, .pointer (some ⟨b17, 0, none⟩)), (8, .pointer (some ⟨b18, 0, none⟩)), (9, .slice (some ⟨g19, 0, none⟩) 1 1), (17, .int .i64 0)] ([⟨g19, [.int .i64 0], 1⟩, ⟨b18, [.int .i64 0, .int .i64 0], 2⟩, ⟨b17, [.int .i64 1, .int .i64 5, .int .i64 0, .int .i64 0, .int .i64 0, .int .i64 0, .int .i64 0], 7⟩, ⟨b16, [.int .i64 0, .int .i64 0], 2⟩] : List Own) := by
    intro g19
    refine hstep [5] _ _ _ (by kernel_rfl) (List.cons_ne_nil _ _) ⟨?_, trivial⟩
    · show T _ _ _ _ _ _ _ _
      refine t_a (.bsl rfl rfl rfl rfl) fun g20 fg20 sg20 => ?_
      refine t_keep [2, 3, 5, 8, 9, 18] (σ' := [(2, .int .i64 1), (3, .int .i64 1), (5, .pointer (some ⟨b17, 0, none⟩)), (8, .pointer (some ⟨b18, 0, none⟩)), (9, .slice (some ⟨g19, 0, none⟩) 1 1), (18, .slice (some ⟨g20, 0, none⟩) 1 1)]) (by kernel_rfl) ?_
      refine t_end ?_
      exact ⟨hg_7f g20 g19, rfl⟩
  have hg_3b : ∀ (g20 : Nat), G [true, true, false, true, true, true, false, false] [(2, .int .i64 1), (3, .int .i64 1), (5, .pointer (some ⟨b17, 0, none⟩)), (8, .pointer (some ⟨b18, 0, none⟩)), (14, .int .i64 0), (18, .slice (some ⟨g20, 0, none⟩) 1 1)] ([⟨g20, [.int .i64 0], 1⟩, ⟨b18, [.int .i64 0, .int .i64 0], 2⟩, ⟨b17, [.int .i64 1, .int .i64 5, .int .i64 0, .int .i64 0, .int .i64 0, .int .i64 0, .int .i64 0], 7⟩, ⟨b16, [.int .i64 0, .int .i64 0], 2⟩] : List Own) := by
    intro g20
    refine hstep [2] _ _ _ (by kernel_rfl) (List.cons_ne_nil _ _) ⟨?_, trivial⟩
    · show T _ _ _ _ _ _ _ _
      refine t_a (.bsl rfl rfl rfl rfl) fun g19 fg19 sg19 => ?_
      refine t_keep [2, 3, 5, 8, 15, 18] (σ' := [(2, .int .i64 1), (3, .int .i64 1), (5, .pointer (some ⟨b17, 0, none⟩)), (8, .pointer (some ⟨b18, 0, none⟩)), (15, .slice (some ⟨g19, 0, none⟩) 1 1), (18, .slice (some ⟨g20, 0, none⟩) 1 1)]) (by kernel_rfl) ?_
      refine t_vs (H' := ([⟨g20, [.int .i64 0], 1⟩, ⟨g19, [.int .i64 0], 1⟩, ⟨b18, [.int .i64 0, .int .i64 0], 2⟩, ⟨b17, [.int .i64 1, .int .i64 5, .int .i64 0, .int .i64 0, .int .i64 0, .int .i64 0, .int .i64 0], 7⟩, ⟨b16, [.int .i64 0, .int .i64 0], 2⟩] : List Own)) (S' := S) (VS.sel [1, 0, 0, 0, 0] (by kernel_rfl)) ?_
      refine t_end ?_
      exact ⟨hg_3f g20 g19, rfl⟩
  have hg_1f : ∀ (g19 : Nat), G [true, true, true, true, true, false, false, false] [(2, .int .i64 1), (3, .int .i64 1), (5, .pointer (some ⟨b17, 0, none⟩)), (8, .pointer (some ⟨b18, 0, none⟩)), (15, .slice (some ⟨g19, 0, none⟩) 1 1), (17, .int .i64 0)] ([⟨g19, [.int .i64 0], 1⟩, ⟨b18, [.int .i64 0, .int .i64 0], 2⟩, ⟨b17, [.int .i64 1, .int .i64 5, .int .i64 0, .int .i64 0, .int .i64 0, .int .i64 0, .int .i64 0], 7⟩, ⟨b16, [.int .i64 0, .int .i64 0], 2⟩] : List Own) := by
    intro g19
    exact hqf 6 [2, 3, 5, 8, 9, 17] _ _ _ [(2, .int .i64 1), (3, .int .i64 1), (5, .pointer (some ⟨b17, 0, none⟩)), (8, .pointer (some ⟨b18, 0, none⟩)), (9, .slice (some ⟨g19, 0, none⟩) 1 1), (17, .int .i64 0)] (by kernel_rfl) (by kernel_rfl) (hg_5f g19)
  have hg_4f : ∀ (g19 : Nat), G [true, true, true, true, false, false, true, false] [(2, .int .i64 1), (3, .int .i64 1), (5, .pointer (some ⟨b17, 0, none⟩)), (8, .pointer (some ⟨b18, 0, none⟩)), (9, .slice (some ⟨g19, 0, none⟩) 1 1), (16, .pointer (some ⟨b16, 1, none⟩))] ([⟨g19, [.int .i64 0], 1⟩, ⟨b18, [.int .i64 0, .int .i64 0], 2⟩, ⟨b17, [.int .i64 1, .int .i64 5, .int .i64 0, .int .i64 0, .int .i64 0, .int .i64 0, .int .i64 0], 7⟩, ⟨b16, [.int .i64 0, .int .i64 0], 2⟩] : List Own) := by
    intro g19
    refine hstep [4] _ _ _ (by kernel_rfl) (List.cons_ne_nil _ _) ⟨?_, trivial⟩
    · show T _ _ _ _ _ _ _ _
      refine t_v (.ld1 rfl rfl rfl (.at 3 rfl rfl)) ?_
      refine t_keep [2, 3, 5, 8, 9, 17] (σ' := [(2, .int .i64 1), (3, .int .i64 1), (5, .pointer (some ⟨b17, 0, none⟩)), (8, .pointer (some ⟨b18, 0, none⟩)), (9, .slice (some ⟨g19, 0, none⟩) 1 1), (17, .int .i64 0)]) (by kernel_rfl) ?_
      refine t_end ?_
      exact ⟨hg_5f g19, rfl⟩
  have hg_f : ∀ (g19 : Nat), G [true, true, true, true, false, false, false, false] [(2, .int .i64 1), (3, .int .i64 1), (5, .pointer (some ⟨b17, 0, none⟩)), (8, .pointer (some ⟨b18, 0, none⟩)), (15, .slice (some ⟨g19, 0, none⟩) 1 1), (16, .pointer (some ⟨b16, 1, none⟩))] ([⟨g19, [.int .i64 0], 1⟩, ⟨b18, [.int .i64 0, .int .i64 0], 2⟩, ⟨b17, [.int .i64 1, .int .i64 5, .int .i64 0, .int .i64 0, .int .i64 0, .int .i64 0, .int .i64 0], 7⟩, ⟨b16, [.int .i64 0, .int .i64 0], 2⟩] : List Own) := by
    intro g19
    exact hqf 6 [2, 3, 5, 8, 9, 16] _ _ _ [(2, .int .i64 1), (3, .int .i64 1), (5, .pointer (some ⟨b17, 0, none⟩)), (8, .pointer (some ⟨b18, 0, none⟩)), (9, .slice (some ⟨g19, 0, none⟩) 1 1), (16, .pointer (some ⟨b16, 1, none⟩))] (by kernel_rfl) (by kernel_rfl) (hg_4f g19)
  have hg_1b : G [true, true, false, true, true, false, false, false] [(2, .int .i64 1), (3, .int .i64 1), (5, .pointer (some ⟨b17, 0, none⟩)), (8, .pointer (some ⟨b18, 0, none⟩)), (14, .int .i64 0), (17, .int .i64 0)] ([⟨b18, [.int .i64 0, .int .i64 0], 2⟩, ⟨b17, [.int .i64 1, .int .i64 5, .int .i64 0, .int .i64 0, .int .i64 0, .int .i64 0, .int .i64 0], 7⟩, ⟨b16, [.int .i64 0, .int .i64 0], 2⟩] : List Own) := by
    refine hstep [2, 5] _ _ _ (by kernel_rfl) (List.cons_ne_nil _ _) ⟨?_, ?_, trivial⟩
    · show T _ _ _ _ _ _ _ _
      refine t_a (.bsl rfl rfl rfl rfl) fun g19 fg19 sg19 => ?_
      refine t_keep [2, 3, 5, 8, 15, 17] (σ' := [(2, .int .i64 1), (3, .int .i64 1), (5, .pointer (some ⟨b17, 0, none⟩)), (8, .pointer (some ⟨b18, 0, none⟩)), (15, .slice (some ⟨g19, 0, none⟩) 1 1), (17, .int .i64 0)]) (by kernel_rfl) ?_
      refine t_end ?_
      exact ⟨hg_1f g19, rfl⟩
    · show T _ _ _ _ _ _ _ _
      refine t_a (.bsl rfl rfl rfl rfl) fun g20 fg20 sg20 => ?_
      refine t_keep [2, 3, 5, 8, 14, 18] (σ' := [(2, .int .i64 1), (3, .int .i64 1), (5, .pointer (some ⟨b17, 0, none⟩)), (8, .pointer (some ⟨b18, 0, none⟩)), (14, .int .i64 0), (18, .slice (some ⟨g20, 0, none⟩) 1 1)]) (by kernel_rfl) ?_
      refine t_end ?_
      exact ⟨hg_3b g20, rfl⟩
  have hg_39 : ∀ (g20 : Nat), G [true, false, false, true, true, true, false, false] [(2, .int .i64 1), (3, .int .i64 1), (5, .pointer (some ⟨b17, 0, none⟩)), (8, .pointer (some ⟨b18, 0, none⟩)), (13, .pointer (some ⟨b16, 0, none⟩)), (18, .slice (some ⟨g20, 0, none⟩) 1 1)] ([⟨g20, [.int .i64 0], 1⟩, ⟨b18, [.int .i64 0, .int .i64 0], 2⟩, ⟨b17, [.int .i64 1, .int .i64 5, .int .i64 0, .int .i64 0, .int .i64 0, .int .i64 0, .int .i64 0], 7⟩, ⟨b16, [.int .i64 0, .int .i64 0], 2⟩] : List Own) := by
    intro g20
    refine hstep [1] _ _ _ (by kernel_rfl) (List.cons_ne_nil _ _) ⟨?_, trivial⟩
    · show T _ _ _ _ _ _ _ _
      refine t_v (.ld1 rfl rfl rfl (.at 3 rfl rfl)) ?_
      refine t_keep [2, 3, 5, 8, 14, 18] (σ' := [(2, .int .i64 1), (3, .int .i64 1), (5, .pointer (some ⟨b17, 0, none⟩)), (8, .pointer (some ⟨b18, 0, none⟩)), (14, .int .i64 0), (18, .slice (some ⟨g20, 0, none⟩) 1 1)]) (by kernel_rfl) ?_
      refine t_end ?_
      exact ⟨hg_3b g20, rfl⟩
  have hg_b : G [true, true, false, true, false, false, false, false] [(2, .int .i64 1), (3, .int .i64 1), (5, .pointer (some ⟨b17, 0, none⟩)), (8, .pointer (some ⟨b18, 0, none⟩)), (14, .int .i64 0), (16, .pointer (some ⟨b16, 1, none⟩))] ([⟨b18, [.int .i64 0, .int .i64 0], 2⟩, ⟨b17, [.int .i64 1, .int .i64 5, .int .i64 0, .int .i64 0, .int .i64 0, .int .i64 0, .int .i64 0], 7⟩, ⟨b16, [.int .i64 0, .int .i64 0], 2⟩] : List Own) := by
    refine hstep [2, 4] _ _ _ (by kernel_rfl) (List.cons_ne_nil _ _) ⟨?_, ?_, trivial⟩
    · show T _ _ _ _ _ _ _ _
      refine t_a (.bsl rfl rfl rfl rfl) fun g19 fg19 sg19 => ?_
      refine t_keep [2, 3, 5, 8, 15, 16] (σ' := [(2, .int .i64 1), (3, .int .i64 1), (5, .pointer (some ⟨b17, 0, none⟩)), (8, .pointer (some ⟨b18, 0, none⟩)), (15, .slice (some ⟨g19, 0, none⟩) 1 1), (16, .pointer (some ⟨b16, 1, none⟩))]) (by kernel_rfl) ?_
      refine t_end ?_
      exact ⟨hg_f g19, rfl⟩
    · show T _ _ _ _ _ _ _ _
      refine t_v (.ld1 rfl rfl rfl (.at 2 rfl rfl)) ?_
      refine t_keep [2, 3, 5, 8, 14, 17] (σ' := [(2, .int .i64 1), (3, .int .i64 1), (5, .pointer (some ⟨b17, 0, none⟩)), (8, .pointer (some ⟨b18, 0, none⟩)), (14, .int .i64 0), (17, .int .i64 0)]) (by kernel_rfl) ?_
      refine t_end ?_
      exact ⟨hg_1b, rfl⟩
  have hg_19 : G [true, false, false, true, true, false, false, false] [(2, .int .i64 1), (3, .int .i64 1), (5, .pointer (some ⟨b17, 0, none⟩)), (8, .pointer (some ⟨b18, 0, none⟩)), (13, .pointer (some ⟨b16, 0, none⟩)), (17, .int .i64 0)] ([⟨b18, [.int .i64 0, .int .i64 0], 2⟩, ⟨b17, [.int .i64 1, .int .i64 5, .int .i64 0, .int .i64 0, .int .i64 0, .int .i64 0, .int .i64 0], 7⟩, ⟨b16, [.int .i64 0, .int .i64 0], 2⟩] : List Own) := by
    refine hstep [1, 5] _ _ _ (by kernel_rfl) (List.cons_ne_nil _ _) ⟨?_, ?_, trivial⟩
    · show T _ _ _ _ _ _ _ _
      refine t_v (.ld1 rfl rfl rfl (.at 2 rfl rfl)) ?_
      refine t_keep [2, 3, 5, 8, 14, 17] (σ' := [(2, .int .i64 1), (3, .int .i64 1), (5, .pointer (some ⟨b17, 0, none⟩)), (8, .pointer (some ⟨b18, 0, none⟩)), (14, .int .i64 0), (17, .int .i64 0)]) (by kernel_rfl) ?_
      refine t_end ?_
      exact ⟨hg_1b, rfl⟩
    · show T _ _ _ _ _ _ _ _
      refine t_a (.bsl rfl rfl rfl rfl) fun g20 fg20 sg20 => ?_
      refine t_keep [2, 3, 5, 8, 13, 18] (σ' := [(2, .int .i64 1), (3, .int .i64 1), (5, .pointer (some ⟨b17, 0, none⟩)), (8, .pointer (some ⟨b18, 0, none⟩)), (13, .pointer (some ⟨b16, 0, none⟩)), (18, .slice (some ⟨g20, 0, none⟩) 1 1)]) (by kernel_rfl) ?_
      refine t_end ?_
      exact ⟨hg_39 g20, rfl⟩
  have hg_9 : G [true, false, false, true, false, false, false, false] [(2, .int .i64 1), (3, .int .i64 1), (5, .pointer (some ⟨b17, 0, none⟩)), (8, .pointer (some ⟨b18, 0, none⟩)), (13, .pointer (some ⟨b16, 0, none⟩)), (16, .pointer (some ⟨b16, 1, none⟩))] ([⟨b18, [.int .i64 0, .int .i64 0], 2⟩, ⟨b17, [.int .i64 1, .int .i64 5, .int .i64 0, .int .i64 0, .int .i64 0, .int .i64 0, .int .i64 0], 7⟩, ⟨b16, [.int .i64 0, .int .i64 0], 2⟩] : List Own) := by
    refine hstep [1, 4] _ _ _ (by kernel_rfl) (List.cons_ne_nil _ _) ⟨?_, ?_, trivial⟩
    · show T _ _ _ _ _ _ _ _
      refine t_v (.ld1 rfl rfl rfl (.at 2 rfl rfl)) ?_
      refine t_keep [2, 3, 5, 8, 14, 16] (σ' := [(2, .int .i64 1), (3, .int .i64 1), (5, .pointer (some ⟨b17, 0, none⟩)), (8, .pointer (some ⟨b18, 0, none⟩)), (14, .int .i64 0), (16, .pointer (some ⟨b16, 1, none⟩))]) (by kernel_rfl) ?_
      refine t_end ?_
      exact ⟨hg_b, rfl⟩
    · show T _ _ _ _ _ _ _ _
      refine t_v (.ld1 rfl rfl rfl (.at 2 rfl rfl)) ?_
      refine t_keep [2, 3, 5, 8, 13, 17] (σ' := [(2, .int .i64 1), (3, .int .i64 1), (5, .pointer (some ⟨b17, 0, none⟩)), (8, .pointer (some ⟨b18, 0, none⟩)), (13, .pointer (some ⟨b16, 0, none⟩)), (17, .int .i64 0)]) (by kernel_rfl) ?_
      refine t_end ?_
      exact ⟨hg_19, rfl⟩
  have hg_1 : G [true, false, false, false, false, false, false, false] [(2, .int .i64 1), (3, .int .i64 1), (4, .pointer (some ⟨b16, 0, none⟩)), (5, .pointer (some ⟨b17, 0, none⟩)), (8, .pointer (some ⟨b18, 0, none⟩)), (13, .pointer (some ⟨b16, 0, none⟩))] ([⟨b18, [.int .i64 0, .int .i64 0], 2⟩, ⟨b17, [.int .i64 1, .int .i64 5, .int .i64 0, .int .i64 0, .int .i64 0, .int .i64 0, .int .i64 0], 7⟩, ⟨b16, [.int .i64 0, .int .i64 0], 2⟩] : List Own) := by
    exact hqf 3 [2, 3, 5, 8, 13, 16] _ _ _ [(2, .int .i64 1), (3, .int .i64 1), (5, .pointer (some ⟨b17, 0, none⟩)), (8, .pointer (some ⟨b18, 0, none⟩)), (13, .pointer (some ⟨b16, 0, none⟩)), (16, .pointer (some ⟨b16, 1, none⟩))] (by kernel_rfl) (by kernel_rfl) hg_9
  have hg_0 : G [false, false, false, false, false, false, false, false] [(2, .int .i64 1), (3, .int .i64 1), (4, .pointer (some ⟨b16, 0, none⟩)), (5, .pointer (some ⟨b17, 0, none⟩)), (8, .pointer (some ⟨b18, 0, none⟩))] ([⟨b18, [.int .i64 0, .int .i64 0], 2⟩, ⟨b17, [.int .i64 1, .int .i64 5, .int .i64 0, .int .i64 0, .int .i64 0, .int .i64 0, .int .i64 0], 7⟩, ⟨b16, [.int .i64 0, .int .i64 0], 2⟩] : List Own) := by
    exact hqf 0 [2, 3, 4, 5, 8, 13] _ _ _ [(2, .int .i64 1), (3, .int .i64 1), (4, .pointer (some ⟨b16, 0, none⟩)), (5, .pointer (some ⟨b17, 0, none⟩)), (8, .pointer (some ⟨b18, 0, none⟩)), (13, .pointer (some ⟨b16, 0, none⟩))] (by kernel_rfl) (by kernel_rfl) hg_1
  exact hg_0

/-- flatten.Path$1 -/
def c43 : C :=
  (.seq (.reg [⟨(some 3), .box (.tmp 0), none⟩])
  (.seq (.seq (.reg [⟨(some 4), .ld (some 2) (.tmp 1), none⟩,
      ⟨(some 5), .ld (some 2) (.tmp 3), none⟩,
      ⟨(some 6), .eqt true 24 (.tmp 4) (.tmp 5), none⟩])
   (.cond (.tmp 6)
    (.reg [⟨(some 7), .ld none (.tmp 2), none⟩,
       ⟨(some 8), .ld (some 2) (.tmp 1), none⟩,
       ⟨(some 9), .ld (some 2) (.tmp 3), none⟩,
       ⟨(some 10), .bld [(.int .i64 0), (.int .i64 0), (.int .i64 0), (.int .i64 0)] [(0, 2, (.tmp 8)), (2, 2, (.tmp 9))], none⟩,
       ⟨(some 11), .bsl [(.int .i64 0), (.int .i64 0), (.int .i64 0), (.int .i64 0)] 1 [(0, 4, (.tmp 10))], none⟩,
       ⟨(some 12), .app 36 4 32 [(.int .i64 0), (.int .i64 0), (.int .i64 0), (.int .i64 0)] (.tmp 7) (.tmp 11), none⟩,
       ⟨none, .st 1 (.tmp 2) (.tmp 12), none⟩])
    .skip))
  (.reg [⟨(some 13), .ld (some 2) (.tmp 3), none⟩,
    ⟨none, .st 2 (.tmp 1) (.tmp 13), none⟩])))
def flatten_Path_1_v1.f  : Option (Unit) := some ()
theorem flatten_Path_1_v1.ok {S : Seal} {B0 B1 : Nat}   (e : flatten_Path_1_v1.f  = some ()) :
    Cal Try.prog 43 [.agg #[.int .i64 5, .int .i64 0], .pointer (some ⟨B0, 0, none⟩), .pointer (some ⟨B1, 0, none⟩)] ([⟨B0, [.int .i64 0, .int .i64 0], 2⟩, ⟨B1, [.slice none 0 0], 1⟩] : List Own) S fun v H' S' => ∃ N0_ nN0_ : Nat, v = .tuple #[] ∧ H' = ([⟨N0_, [.int .i64 0, .int .i64 0, .int .i64 5, .int .i64 0], nN0_⟩, ⟨B0, [.int .i64 5, .int .i64 0], 2⟩, ⟨B1, [.slice (some ⟨N0_, 0, none⟩) 1 (nN0_ / 4)], 1⟩] : List Own) ∧ S' = S := by
  unfold flatten_Path_1_v1.f at e
  refine cal_of (c := c43) (N := 14) Try.func43 rfl rfl (by kernel_rfl) (rs := []) (by kernel_rfl) (Nat.le_of_ble_eq_true rfl) ?_
  unfold c43
  refine w_seq ?_
  refine w_reg fun all => ?_
  refine t_a (.box rfl rfl rfl) fun b37 fb37 sb37 => ?_
  refine t_keep [1, 2, 3] (σ' := [(1, .pointer (some ⟨B0, 0, none⟩)), (2, .pointer (some ⟨B1, 0, none⟩)), (3, .pointer (some ⟨b37, 0, none⟩))]) (by kernel_rfl) ?_
  refine t_end ?_
  show W _ _ _ _ _ _ _
  refine w_seq ?_
  refine w_seq ?_
  refine w_reg fun all => ?_
  refine t_v (.ldn rfl rfl rfl (.at 1 rfl rfl)) ?_
  refine t_v (.ldn rfl rfl rfl (.at 0 rfl rfl)) ?_
  refine t_v (.eqt (a := .agg #[.int .i64 0, .int .i64 0]) (b := .agg #[.int .i64 5, .int .i64 0]) (r := false) rfl rfl rfl rfl (by kernel_rfl) rfl) ?_
  refine t_keep [1, 2, 3, 6] (σ' := [(1, .pointer (some ⟨B0, 0, none⟩)), (2, .pointer (some ⟨B1, 0, none⟩)), (3, .pointer (some ⟨b37, 0, none⟩)), (6, .bool true)]) (by kernel_rfl) ?_
  refine t_end ?_
  show W _ _ _ _ _ _ _
  refine w_cond rfl (fun _ => ?_) (fun c_ => by cases c_)
  show W _ _ _ _ _ _ _
  refine w_reg fun all => ?_
  refine t_v (.ld1 rfl rfl rfl (.at 2 rfl rfl)) ?_
  refine t_v (.ldn rfl rfl rfl (.at 1 rfl rfl)) ?_
  refine t_v (.ldn rfl rfl rfl (.at 0 rfl rfl)) ?_
  refine t_qz 1 [1, 2, 3, 7, 10] (σ' := [(1, .pointer (some ⟨B0, 0, none⟩)), (2, .pointer (some ⟨B1, 0, none⟩)), (3, .pointer (some ⟨b37, 0, none⟩)), (7, .slice none 0 0), (10, .agg #[.int .i64 0, .int .i64 0, .int .i64 5, .int .i64 0])]) (by kernel_rfl) ?_
  refine t_a (.bsl rfl rfl rfl rfl) fun b38 fb38 sb38 => ?_
  refine t_app0 (news := [.int .i64 0, .int .i64 0, .int .i64 5, .int .i64 0]) rfl rfl rfl rfl (.at 0 rfl rfl) (by decide) (by decide) (by decide) rfl fun b39 nb39 fb39 sb39 => ?_
  refine t_sti 4 (cs := [.slice (some ⟨b39, 0, none⟩) 1 (nb39 / 4)]) rfl rfl rfl rfl rfl rfl rfl rfl rfl ?_
  refine t_keep [1, 3] (σ' := [(1, .pointer (some ⟨B0, 0, none⟩)), (3, .pointer (some ⟨b37, 0, none⟩))]) (by kernel_rfl) ?_
  refine t_end ?_
  show W _ _ _ _ _ _ _
  refine w_reg fun all => ?_
  refine t_v (.ldn rfl rfl rfl (.at 2 rfl rfl)) ?_
  refine t_sti 3 (cs := [.int .i64 5, .int .i64 0]) rfl rfl rfl rfl rfl rfl rfl rfl rfl ?_
  refine t_keep [] (σ' := []) (by kernel_rfl) ?_
  refine t_end ?_
  exact ⟨[], ([⟨b39, [.int .i64 0, .int .i64 0, .int .i64 5, .int .i64 0], nb39⟩, ⟨B0, [.int .i64 5, .int .i64 0], 2⟩, ⟨B1, [.slice (some ⟨b39, 0, none⟩) 1 (nb39 / 4)], 1⟩] : List Own), S, trivial, VS.sel [0, 2, 2] (by kernel_rfl), b39, nb39, rfl, rfl, rfl⟩

/-- flatten.Path -/
def c24 : C :=
  (.seq (.reg [⟨(some 2), .box (.tmp 0), none⟩,
     ⟨(some 4), .mv (.const (.slice none 0 0)), none⟩])
  (.seq (.reg [⟨(some 5), .new [(.slice none 0 0)], none⟩])
  (.seq (.reg [⟨(some 13), .pad 0 (.tmp 2), none⟩,
     ⟨(some 14), .ld (some 2) (.tmp 13), none⟩,
     ⟨(some 6), .new [(.int .i64 0), (.int .i64 0)], none⟩,
     ⟨none, .st 2 (.tmp 6) (.tmp 14), none⟩])
  (.seq (.reg [⟨(some 15), .mkf 43 [(.tmp 6), (.tmp 5)], none⟩,
     ⟨(some 7), .mv (.tmp 15), none⟩])
  (.seq (.seq (.reg [⟨(some 16), .pad 2 (.tmp 2), none⟩,
      ⟨(some 17), .ld none (.tmp 16), none⟩,
      ⟨(some 18), .lns (.tmp 17), none⟩,
      ⟨(some 19), .mv (.const (.int .i64 0)), none⟩])
   (.block 0 (.loop (.seq (.reg [⟨(some 20), .bin .lss (.tmp 19) (.tmp 18), none⟩])
     (.seq (.cond (.tmp 20)
       .skip
       (.exit 0))
     (.seq (.block 1 (.seq (.reg [⟨(some 21), .ixs 7 (.tmp 17) (.tmp 19), none⟩,
          ⟨(some 22), .ld (some 7) (.tmp 21), none⟩,
          ⟨(some 9), .new [(.int .i64 0), (.int .i64 0), (.int .i64 0), (.int .i64 0), (.int .i64 0), (.int .i64 0), (.int .i64 0)], none⟩,
          ⟨none, .st 7 (.tmp 9) (.tmp 22), none⟩])
       (.seq (.drw [⟨(some 23), .ld (some 2) (.tmp 6), none⟩,
          ⟨(some 24), .ld (some 2) (.tmp 6), none⟩,
          ⟨(some 25), .ld (some 7) (.tmp 9), none⟩,
          ⟨(some 26), .call 27 [(.tmp 24), (.tmp 25)], none⟩,
          ⟨(some 10), .new [(.int .i64 0), (.int .i64 0)], none⟩,
          ⟨none, .st 2 (.tmp 10) (.tmp 23), none⟩,
          ⟨(some 11), .mv (.tmp 26), none⟩] [[], [], [], [1, 2], [], [4, 0, 3, 0, 4], [3, 5, 0, 1, 2, 3, 4, 5]])
       (.seq (.reg [⟨(some 12), .mv (.const (.int .i64 1)), none⟩])
       (.block 2 (.loop (.seq (.seq (.reg [⟨(some 27), .mv (.tmp 12), none⟩,
             ⟨(some 28), .mv (.tmp 11), none⟩,
             ⟨(some 29), .bin .leq (.tmp 27) (.tmp 28), none⟩])
          (.cond (.tmp 29)
           .skip
           (.exit 2)))
         (.seq (.block 3 (.reg [⟨(some 32), .mv (.tmp 7), none⟩,
             ⟨(some 33), .ld (some 2) (.tmp 10), none⟩,
             ⟨(some 34), .ld (some 7) (.tmp 9), none⟩,
             ⟨(some 35), .mv (.tmp 12), none⟩,
             ⟨(some 36), .mv (.tmp 11), none⟩,
             ⟨(some 37), .call 28 [(.tmp 33), (.tmp 34), (.tmp 35), (.tmp 36)], none⟩,
             ⟨(some 38), .clo (.tmp 32) [(.tmp 37)], none⟩]))
         (.reg [⟨(some 30), .mv (.tmp 12), none⟩,
           ⟨(some 31), .bin .add (.tmp 30) (.const (.int .i64 1)), none⟩,
           ⟨(some 12), .mv (.tmp 31), none⟩])))))))))
     (.reg [⟨(some 39), .bin .add (.tmp 19) (.const (.int .i64 1)), none⟩,
       ⟨(some 19), .mv (.tmp 39), none⟩])))))))
  (.seq (.seq (.reg [⟨(some 40), .mv (.tmp 1), none⟩,
      ⟨(some 41), .mv (.tmp 40), none⟩,
      ⟨(some 42), .pad 3 (.tmp 2), (some (41, false))⟩,
      ⟨(some 43), .ld none (.tmp 42), (some (41, false))⟩,
      ⟨(some 44), .pk (.tmp 41) (.const (.bool true)) (.tmp 43), none⟩])
   (.cond (.tmp 44)
    (.reg [⟨(some 45), .mv (.tmp 7), none⟩,
       ⟨(some 46), .pad 0 (.tmp 2), none⟩,
       ⟨(some 47), .ld (some 2) (.tmp 46), none⟩,
       ⟨(some 48), .clo (.tmp 45) [(.tmp 47)], none⟩])
    .skip))
  (.seq (.reg [⟨(some 49), .ld none (.tmp 5), none⟩,
     ⟨(some 4), .mv (.tmp 49), none⟩])
  .ret)))))))
def flatten_Path_v1.f  : Option (Unit) := (flatten_Count_v1.f).bind fun _ => ((flatten_Point_v1.f).bind fun _ => ((flatten_Path_1_v1.f).bind fun _ => (some ())))
theorem flatten_Path_v1.ok {S : Seal} {B0 : Nat}   (e : flatten_Path_v1.f  = some ()) :
    Cal Try.prog 24 [.agg #[.int .i64 0, .int .i64 0, .slice (some ⟨B0, 0, none⟩) 1 1, .bool false], .bool false] ([⟨B0, [.int .i64 1, .int .i64 5, .int .i64 0, .int .i64 0, .int .i64 0, .int .i64 0, .int .i64 0], 7⟩] : List Own) S fun v H' S' => ∃ N0_ nN0_ : Nat, v = .slice (some ⟨N0_, 0, none⟩) 1 (nN0_ / 4) ∧ H' = ([⟨N0_, [.int .i64 0, .int .i64 0, .int .i64 5, .int .i64 0], nN0_⟩, ⟨B0, [.int .i64 1, .int .i64 5, .int .i64 0, .int .i64 0, .int .i64 0, .int .i64 0, .int .i64 0], 7⟩] : List Own) ∧ S' = S := by
  unfold flatten_Path_v1.f at e
  refine cal_of (c := c24) (N := 50) Try.func24 rfl rfl (by kernel_rfl) (rs := [.t 4]) (by kernel_rfl) (Nat.le_of_ble_eq_true rfl) ?_
  unfold c24
  refine w_seq ?_
  refine w_reg fun all => ?_
  refine t_a (.box rfl rfl rfl) fun b10 fb10 sb10 => ?_
  refine t_qz 1 [1, 2] (σ' := [(1, .bool false), (2, .pointer (some ⟨b10, 0, none⟩))]) (by kernel_rfl) ?_
  refine t_end ?_
  show W _ _ _ _ _ _ _
  refine w_seq ?_
  refine w_reg fun all => ?_
  refine t_a (.new rfl rfl) fun b11 fb11 sb11 => ?_
  refine t_keep [1, 2, 5] (σ' := [(1, .bool false), (2, .pointer (some ⟨b10, 0, none⟩)), (5, .pointer (some ⟨b11, 0, none⟩))]) (by kernel_rfl) ?_
  refine t_end ?_
  show W _ _ _ _ _ _ _
  refine w_seq ?_
  refine w_reg fun all => ?_
  refine t_qz 1 [1, 2, 5, 13] (σ' := [(1, .bool false), (2, .pointer (some ⟨b10, 0, none⟩)), (5, .pointer (some ⟨b11, 0, none⟩)), (13, .pointer (some ⟨b10, 0, none⟩))]) (by kernel_rfl) ?_
  refine t_v (.ldn rfl rfl rfl (.at 1 rfl rfl)) ?_
  refine t_a (.new rfl rfl) fun b12 fb12 sb12 => ?_
  refine t_sti 0 (cs := [.int .i64 0, .int .i64 0]) rfl rfl rfl rfl rfl rfl rfl rfl rfl ?_
  refine t_keep [1, 2, 5, 6] (σ' := [(1, .bool false), (2, .pointer (some ⟨b10, 0, none⟩)), (5, .pointer (some ⟨b11, 0, none⟩)), (6, .pointer (some ⟨b12, 0, none⟩))]) (by kernel_rfl) ?_
  refine t_end ?_
  show W _ _ _ _ _ _ _
  refine w_seq ?_
  refine w_reg fun all => ?_
  refine t_qz 2 [1, 2, 5, 6, 7] (σ' := [(1, .bool false), (2, .pointer (some ⟨b10, 0, none⟩)), (5, .pointer (some ⟨b11, 0, none⟩)), (6, .pointer (some ⟨b12, 0, none⟩)), (7, .func (.func 43) #[] #[.pointer (some ⟨b12, 0, none⟩), .pointer (some ⟨b11, 0, none⟩)])]) (by kernel_rfl) ?_
  refine t_end ?_
  show W _ _ _ _ _ _ _
  refine w_seq ?_
  refine w_seq ?_
  refine w_reg fun all => ?_
  refine t_qz 1 [1, 2, 5, 6, 7, 16] (σ' := [(1, .bool false), (2, .pointer (some ⟨b10, 0, none⟩)), (5, .pointer (some ⟨b11, 0, none⟩)), (6, .pointer (some ⟨b12, 0, none⟩)), (7, .func (.func 43) #[] #[.pointer (some ⟨b12, 0, none⟩), .pointer (some ⟨b11, 0, none⟩)]), (16, .pointer (some ⟨b10, 2, none⟩))]) (by kernel_rfl) ?_
  refine t_v (.ld1 rfl rfl rfl (.at 2 rfl rfl)) ?_
  refine t_qz 2 [1, 2, 5, 6, 7, 17, 18, 19] (σ' := [(1, .bool false), (2, .pointer (some ⟨b10, 0, none⟩)), (5, .pointer (some ⟨b11, 0, none⟩)), (6, .pointer (some ⟨b12, 0, none⟩)), (7, .func (.func 43) #[] #[.pointer (some ⟨b12, 0, none⟩), .pointer (some ⟨b11, 0, none⟩)]), (17, .slice (some ⟨B0, 0, none⟩) 1 1), (18, .int .i64 1), (19, .int .i64 0)]) (by kernel_rfl) ?_
  refine t_end ?_
  show W _ _ _ _ _ _ _
  refine w_block ?_
  refine w_lun 10 ?_
  refine wl_step ?_
  refine w_seq ?_
  refine w_reg fun all => ?_
  refine t_qz 1 [1, 2, 5, 6, 7, 17, 18, 19, 20] (σ' := [(1, .bool false), (2, .pointer (some ⟨b10, 0, none⟩)), (5, .pointer (some ⟨b11, 0, none⟩)), (6, .pointer (some ⟨b12, 0, none⟩)), (7, .func (.func 43) #[] #[.pointer (some ⟨b12, 0, none⟩), .pointer (some ⟨b11, 0, none⟩)]), (17, .slice (some ⟨B0, 0, none⟩) 1 1), (18, .int .i64 1), (19, .int .i64 0), (20, .bool true)]) (by kernel_rfl) ?_
  refine t_end ?_
  show W _ _ _ _ _ _ _
  refine w_seq ?_
  refine w_cond rfl (fun _ => ?_) (fun c_ => by cases c_)
  show W _ _ _ _ _ _ _
  refine w_skip ?_
  show W _ _ _ _ _ _ _
  refine w_seq ?_
  refine w_block ?_
  refine w_seq ?_
  refine w_reg fun all => ?_
  refine t_qz 1 [1, 2, 5, 6, 7, 17, 18, 19, 21] (σ' := [(1, .bool false), (2, .pointer (some ⟨b10, 0, none⟩)), (5, .pointer (some ⟨b11, 0, none⟩)), (6, .pointer (some ⟨b12, 0, none⟩)), (7, .func (.func 43) #[] #[.pointer (some ⟨b12, 0, none⟩), .pointer (some ⟨b11, 0, none⟩)]), (17, .slice (some ⟨B0, 0, none⟩) 1 1), (18, .int .i64 1), (19, .int .i64 0), (21, .pointer (some ⟨B0, 0, none⟩))]) (by kernel_rfl) ?_
  refine t_v (.ldn rfl rfl rfl (.at 3 rfl rfl)) ?_
  refine t_a (.new rfl rfl) fun b13 fb13 sb13 => ?_
  refine t_sti 0 (cs := [.int .i64 1, .int .i64 5, .int .i64 0, .int .i64 0, .int .i64 0, .int .i64 0, .int .i64 0]) rfl rfl rfl rfl rfl rfl rfl rfl rfl ?_
  refine t_keep [1, 2, 5, 6, 7, 9, 17, 18, 19] (σ' := [(1, .bool false), (2, .pointer (some ⟨b10, 0, none⟩)), (5, .pointer (some ⟨b11, 0, none⟩)), (6, .pointer (some ⟨b12, 0, none⟩)), (7, .func (.func 43) #[] #[.pointer (some ⟨b12, 0, none⟩), .pointer (some ⟨b11, 0, none⟩)]), (9, .pointer (some ⟨b13, 0, none⟩)), (17, .slice (some ⟨B0, 0, none⟩) 1 1), (18, .int .i64 1), (19, .int .i64 0)]) (by kernel_rfl) ?_
  refine t_end ?_
  show W _ _ _ _ _ _ _
  refine w_seq ?_
  obtain ⟨u_, h14, e⟩ := bind_of e
  refine w_drwE mixed 5 [.v (.agg #[.int .i64 0, .int .i64 0]), .v (.agg #[.int .i64 0, .int .i64 0]), .v (.agg #[.int .i64 1, .int .i64 5, .int .i64 0, .int .i64 0, .int .i64 0, .int .i64 0, .int .i64 0]), .v (.int .i64 1), .a [.int .i64 0, .int .i64 0] ptrTo] (by kernel_rfl) ?_ ?_
  · refine .cons (.ldn rfl rfl rfl (.at 1 rfl rfl)) ?_
    refine .cons (.ldn rfl rfl rfl (.at 1 rfl rfl)) ?_
    refine .cons (.ldn rfl rfl rfl (.at 0 rfl rfl)) ?_
    refine .cons (.call (vs := [.agg #[.int .i64 0, .int .i64 0], .agg #[.int .i64 1, .int .i64 5, .int .i64 0, .int .i64 0, .int .i64 0, .int .i64 0, .int .i64 0]]) rfl rfl (by kernel_rfl) (flatten_Count_v1.ok h14)) ?_
    refine .cons (.new rfl rfl) ?_
    exact .nil
  refine fk_q 4 [1, 2, 5, 6, 7, 9, 17, 18, 19, 23, 26] (σ' := [(1, .bool false), (2, .pointer (some ⟨b10, 0, none⟩)), (5, .pointer (some ⟨b11, 0, none⟩)), (6, .pointer (some ⟨b12, 0, none⟩)), (7, .func (.func 43) #[] #[.pointer (some ⟨b12, 0, none⟩), .pointer (some ⟨b11, 0, none⟩)]), (9, .pointer (some ⟨b13, 0, none⟩)), (17, .slice (some ⟨B0, 0, none⟩) 1 1), (18, .int .i64 1), (19, .int .i64 0), (23, .agg #[.int .i64 0, .int .i64 0]), (26, .int .i64 1)]) t_more (by kernel_rfl) ?_
  refine fk_a fun b15 fb15 sb15 => ?_
  refine fk_nil fun all => ?_
  refine t_sti 0 (cs := [.int .i64 0, .int .i64 0]) rfl rfl rfl rfl rfl rfl rfl rfl rfl ?_
  refine t_qz 1 [1, 2, 5, 6, 7, 9, 10, 11, 17, 18, 19] (σ' := [(1, .bool false), (2, .pointer (some ⟨b10, 0, none⟩)), (5, .pointer (some ⟨b11, 0, none⟩)), (6, .pointer (some ⟨b12, 0, none⟩)), (7, .func (.func 43) #[] #[.pointer (some ⟨b12, 0, none⟩), .pointer (some ⟨b11, 0, none⟩)]), (9, .pointer (some ⟨b13, 0, none⟩)), (10, .pointer (some ⟨b15, 0, none⟩)), (11, .int .i64 1), (17, .slice (some ⟨B0, 0, none⟩) 1 1), (18, .int .i64 1), (19, .int .i64 0)]) (by kernel_rfl) ?_
  refine t_end ?_
  show W _ _ _ _ _ _ _
  refine w_seq ?_
  refine w_reg fun all => ?_
  refine t_qz 1 [1, 2, 5, 6, 7, 9, 10, 11, 12, 17, 18, 19] (σ' := [(1, .bool false), (2, .pointer (some ⟨b10, 0, none⟩)), (5, .pointer (some ⟨b11, 0, none⟩)), (6, .pointer (some ⟨b12, 0, none⟩)), (7, .func (.func 43) #[] #[.pointer (some ⟨b12, 0, none⟩), .pointer (some ⟨b11, 0, none⟩)]), (9, .pointer (some ⟨b13, 0, none⟩)), (10, .pointer (some ⟨b15, 0, none⟩)), (11, .int .i64 1), (12, .int .i64 1), (17, .slice (some ⟨B0, 0, none⟩) 1 1), (18, .int .i64 1), (19, .int .i64 0)]) (by kernel_rfl) ?_
  refine t_end ?_
  show W _ _ _ _ _ _ _
  refine w_block ?_
  refine w_lun 10 ?_
  refine wl_step ?_
  refine w_seq ?_
  refine w_seq ?_
  refine w_reg fun all => ?_
  refine t_qz 3 [1, 2, 5, 6, 7, 9, 10, 11, 12, 17, 18, 19, 29] (σ' := [(1, .bool false), (2, .pointer (some ⟨b10, 0, none⟩)), (5, .pointer (some ⟨b11, 0, none⟩)), (6, .pointer (some ⟨b12, 0, none⟩)), (7, .func (.func 43) #[] #[.pointer (some ⟨b12, 0, none⟩), .pointer (some ⟨b11, 0, none⟩)]), (9, .pointer (some ⟨b13, 0, none⟩)), (10, .pointer (some ⟨b15, 0, none⟩)), (11, .int .i64 1), (12, .int .i64 1), (17, .slice (some ⟨B0, 0, none⟩) 1 1), (18, .int .i64 1), (19, .int .i64 0), (29, .bool true)]) (by kernel_rfl) ?_
  refine t_end ?_
  show W _ _ _ _ _ _ _
  refine w_cond rfl (fun _ => ?_) (fun c_ => by cases c_)
  show W _ _ _ _ _ _ _
  refine w_skip ?_
  show W _ _ _ _ _ _ _
  refine w_seq ?_
  refine w_block ?_
  refine w_reg fun all => ?_
  refine t_qz 1 [1, 2, 5, 6, 7, 9, 10, 11, 12, 17, 18, 19, 32] (σ' := [(1, .bool false), (2, .pointer (some ⟨b10, 0, none⟩)), (5, .pointer (some ⟨b11, 0, none⟩)), (6, .pointer (some ⟨b12, 0, none⟩)), (7, .func (.func 43) #[] #[.pointer (some ⟨b12, 0, none⟩), .pointer (some ⟨b11, 0, none⟩)]), (9, .pointer (some ⟨b13, 0, none⟩)), (10, .pointer (some ⟨b15, 0, none⟩)), (11, .int .i64 1), (12, .int .i64 1), (17, .slice (some ⟨B0, 0, none⟩) 1 1), (18, .int .i64 1), (19, .int .i64 0), (32, .func (.func 43) #[] #[.pointer (some ⟨b12, 0, none⟩), .pointer (some ⟨b11, 0, none⟩)])]) (by kernel_rfl) ?_
  refine t_v (.ldn rfl rfl rfl (.at 0 rfl rfl)) ?_
  refine t_v (.ldn rfl rfl rfl (.at 1 rfl rfl)) ?_
  obtain ⟨u_, h33, e⟩ := bind_of e
  refine t_qz 2 [1, 2, 5, 6, 7, 9, 10, 11, 12, 17, 18, 19, 32, 33, 34, 35, 36] (σ' := [(1, .bool false), (2, .pointer (some ⟨b10, 0, none⟩)), (5, .pointer (some ⟨b11, 0, none⟩)), (6, .pointer (some ⟨b12, 0, none⟩)), (7, .func (.func 43) #[] #[.pointer (some ⟨b12, 0, none⟩), .pointer (some ⟨b11, 0, none⟩)]), (9, .pointer (some ⟨b13, 0, none⟩)), (10, .pointer (some ⟨b15, 0, none⟩)), (11, .int .i64 1), (12, .int .i64 1), (17, .slice (some ⟨B0, 0, none⟩) 1 1), (18, .int .i64 1), (19, .int .i64 0), (32, .func (.func 43) #[] #[.pointer (some ⟨b12, 0, none⟩), .pointer (some ⟨b11, 0, none⟩)]), (33, .agg #[.int .i64 0, .int .i64 0]), (34, .agg #[.int .i64 1, .int .i64 5, .int .i64 0, .int .i64 0, .int .i64 0, .int .i64 0, .int .i64 0]), (35, .int .i64 1), (36, .int .i64 1)]) (by kernel_rfl) ?_
  refine t_v (.call (vs := [.agg #[.int .i64 0, .int .i64 0], .agg #[.int .i64 1, .int .i64 5, .int .i64 0, .int .i64 0, .int .i64 0, .int .i64 0, .int .i64 0], .int .i64 1, .int .i64 1]) rfl rfl (by kernel_rfl) (flatten_Point_v1.ok h33)) ?_
  obtain ⟨u_, h40, e⟩ := bind_of e
  refine t_clo (caps := #[.pointer (some ⟨b12, 0, none⟩), .pointer (some ⟨b11, 0, none⟩)]) (vs := [.agg #[.int .i64 5, .int .i64 0]]) (H1 := ([⟨b12, [.int .i64 0, .int .i64 0], 2⟩, ⟨b11, [.slice none 0 0], 1⟩] : List Own)) (F := ([⟨b15, [.int .i64 0, .int .i64 0], 2⟩, ⟨b13, [.int .i64 1, .int .i64 5, .int .i64 0, .int .i64 0, .int .i64 0, .int .i64 0, .int .i64 0], 7⟩, ⟨b10, [.int .i64 0, .int .i64 0, .slice (some ⟨B0, 0, none⟩) 1 1, .bool false], 4⟩, ⟨B0, [.int .i64 1, .int .i64 5, .int .i64 0, .int .i64 0, .int .i64 0, .int .i64 0, .int .i64 0], 7⟩] : List Own)) rfl rfl rfl (by kernel_rfl) (by kernel_rfl) (sel_perm (is := [2, 2]) (by kernel_rfl)) (flatten_Path_1_v1.ok h40) ?_
  rintro _ _ S_ ⟨N41, nN41, rfl, rfl, hS_⟩
  obtain rfl := hS_.symm
  refine t_keep [1, 2, 5, 6, 7, 9, 10, 11, 12, 17, 18, 19] (σ' := [(1, .bool false), (2, .pointer (some ⟨b10, 0, none⟩)), (5, .pointer (some ⟨b11, 0, none⟩)), (6, .pointer (some ⟨b12, 0, none⟩)), (7, .func (.func 43) #[] #[.pointer (some ⟨b12, 0, none⟩), .pointer (some ⟨b11, 0, none⟩)]), (9, .pointer (some ⟨b13, 0, none⟩)), (10, .pointer (some ⟨b15, 0, none⟩)), (11, .int .i64 1), (12, .int .i64 1), (17, .slice (some ⟨B0, 0, none⟩) 1 1), (18, .int .i64 1), (19, .int .i64 0)]) (by kernel_rfl) ?_
  refine t_end ?_
  show W _ _ _ _ _ _ _
  refine w_reg fun all => ?_
  refine t_qz 3 [1, 2, 5, 6, 7, 9, 10, 11, 12, 17, 18, 19] (σ' := [(1, .bool false), (2, .pointer (some ⟨b10, 0, none⟩)), (5, .pointer (some ⟨b11, 0, none⟩)), (6, .pointer (some ⟨b12, 0, none⟩)), (7, .func (.func 43) #[] #[.pointer (some ⟨b12, 0, none⟩), .pointer (some ⟨b11, 0, none⟩)]), (9, .pointer (some ⟨b13, 0, none⟩)), (10, .pointer (some ⟨b15, 0, none⟩)), (11, .int .i64 1), (12, .int .i64 2), (17, .slice (some ⟨B0, 0, none⟩) 1 1), (18, .int .i64 1), (19, .int .i64 0)]) (by kernel_rfl) ?_
  refine t_end ?_
  show WL _ _ _ _ _ _ _ _
  refine wl_step ?_
  refine w_seq ?_
  refine w_seq ?_
  refine w_reg fun all => ?_
  refine t_qz 3 [1, 2, 5, 6, 7, 9, 10, 11, 12, 17, 18, 19, 29] (σ' := [(1, .bool false), (2, .pointer (some ⟨b10, 0, none⟩)), (5, .pointer (some ⟨b11, 0, none⟩)), (6, .pointer (some ⟨b12, 0, none⟩)), (7, .func (.func 43) #[] #[.pointer (some ⟨b12, 0, none⟩), .pointer (some ⟨b11, 0, none⟩)]), (9, .pointer (some ⟨b13, 0, none⟩)), (10, .pointer (some ⟨b15, 0, none⟩)), (11, .int .i64 1), (12, .int .i64 2), (17, .slice (some ⟨B0, 0, none⟩) 1 1), (18, .int .i64 1), (19, .int .i64 0), (29, .bool false)]) (by kernel_rfl) ?_
  refine t_end ?_
  show W _ _ _ _ _ _ _
  refine w_cond rfl (fun c_ => by cases c_) (fun _ => ?_)
  show W _ _ _ _ _ _ _
  refine w_exit ?_
  show W _ _ _ _ _ _ _
  refine w_reg fun all => ?_
  refine t_qz 2 [1, 2, 5, 6, 7, 17, 18, 19] (σ' := [(1, .bool false), (2, .pointer (some ⟨b10, 0, none⟩)), (5, .pointer (some ⟨b11, 0, none⟩)), (6, .pointer (some ⟨b12, 0, none⟩)), (7, .func (.func 43) #[] #[.pointer (some ⟨b12, 0, none⟩), .pointer (some ⟨b11, 0, none⟩)]), (17, .slice (some ⟨B0, 0, none⟩) 1 1), (18, .int .i64 1), (19, .int .i64 1)]) (by kernel_rfl) ?_
  refine t_end ?_
  show WL _ _ _ _ _ _ _ _
  refine wl_step ?_
  refine w_seq ?_
  refine w_reg fun all => ?_
  refine t_qz 1 [1, 2, 5, 6, 7, 17, 18, 19, 20] (σ' := [(1, .bool false), (2, .pointer (some ⟨b10, 0, none⟩)), (5, .pointer (some ⟨b11, 0, none⟩)), (6, .pointer (some ⟨b12, 0, none⟩)), (7, .func (.func 43) #[] #[.pointer (some ⟨b12, 0, none⟩), .pointer (some ⟨b11, 0, none⟩)]), (17, .slice (some ⟨B0, 0, none⟩) 1 1), (18, .int .i64 1), (19, .int .i64 1), (20, .bool false)]) (by kernel_rfl) ?_
  refine t_end ?_
  show W _ _ _ _ _ _ _
  refine w_seq ?_
  refine w_cond rfl (fun c_ => by cases c_) (fun _ => ?_)
  show W _ _ _ _ _ _ _
  refine w_exit ?_
  show W _ _ _ _ _ _ _
  refine w_seq ?_
  refine w_seq ?_
  refine w_reg fun all => ?_
  refine t_qz 3 [2, 5, 7, 41, 42] (σ' := [(2, .pointer (some ⟨b10, 0, none⟩)), (5, .pointer (some ⟨b11, 0, none⟩)), (7, .func (.func 43) #[] #[.pointer (some ⟨b12, 0, none⟩), .pointer (some ⟨b11, 0, none⟩)]), (41, .bool false), (42, .pointer (some ⟨b10, 3, none⟩))]) (by kernel_rfl) ?_
  refine t_v (.ld1 rfl rfl rfl (.at 5 rfl rfl)) ?_
  refine t_qz 1 [2, 5, 7, 44] (σ' := [(2, .pointer (some ⟨b10, 0, none⟩)), (5, .pointer (some ⟨b11, 0, none⟩)), (7, .func (.func 43) #[] #[.pointer (some ⟨b12, 0, none⟩), .pointer (some ⟨b11, 0, none⟩)]), (44, .bool false)]) (by kernel_rfl) ?_
  refine t_end ?_
  show W _ _ _ _ _ _ _
  refine w_cond rfl (fun c_ => by cases c_) (fun _ => ?_)
  show W _ _ _ _ _ _ _
  refine w_skip ?_
  show W _ _ _ _ _ _ _
  refine w_seq ?_
  refine w_reg fun all => ?_
  refine t_v (.ld1 rfl rfl rfl (.at 2 rfl rfl)) ?_
  refine t_qz 1 [4] (σ' := [(4, .slice (some ⟨N41, 0, none⟩) 1 (nN41 / 4))]) (by kernel_rfl) ?_
  refine t_end ?_
  show W _ _ _ _ _ _ _
  refine w_ret ?_
  exact ⟨[.slice (some ⟨N41, 0, none⟩) 1 (nN41 / 4)], ([⟨N41, [.int .i64 0, .int .i64 0, .int .i64 5, .int .i64 0], nN41⟩, ⟨B0, [.int .i64 1, .int .i64 5, .int .i64 0, .int .i64 0, .int .i64 0, .int .i64 0, .int .i64 0], 7⟩] : List Own), S, ⟨rfl, trivial⟩, VS.sel [0, 5] (by kernel_rfl), N41, nN41, rfl, rfl, rfl⟩

/-- glyphiclaw21.first -/
def c22 : C :=
  (.seq (.reg [⟨(some 0), .mv (.const (.bool false)), none⟩])
  (.seq (.reg [⟨(some 2), .bld [(.int .i64 0), (.int .i64 0)] [(0, 1, (.const (.int .i64 5)))], none⟩,
     ⟨(some 3), .bld [(.int .i64 0), (.int .i64 0), (.int .i64 0), (.int .i64 0), (.int .i64 0), (.int .i64 0)] [(0, 2, (.tmp 2))], none⟩,
     ⟨(some 4), .bld [(.int .i64 0), (.int .i64 0), (.int .i64 0), (.int .i64 0), (.int .i64 0), (.int .i64 0), (.int .i64 0)] [(0, 1, (.const (.int .i64 1))), (1, 6, (.tmp 3))], none⟩,
     ⟨(some 1), .new [(.int .i64 0), (.int .i64 0), (.int .i64 0), (.int .i64 0), (.int .i64 0), (.int .i64 0), (.int .i64 0)], none⟩,
     ⟨none, .st 7 (.tmp 1) (.tmp 4), none⟩])
  (.seq (.reg [⟨(some 5), .bld [(.int .i64 0), (.int .i64 0)] [], none⟩,
     ⟨(some 6), .ld (some 7) (.tmp 1), none⟩,
     ⟨(some 7), .call 27 [(.tmp 5), (.tmp 6)], none⟩,
     ⟨(some 8), .bin .eql (.tmp 7) (.const (.int .i64 1)), none⟩,
     ⟨(some 9), .mv (.tmp 8), none⟩,
     ⟨(some 10), .ld (some 7) (.tmp 1), (some (9, true))⟩,
     ⟨(some 11), .bsl [(.int .i64 0), (.int .i64 0), (.int .i64 0), (.int .i64 0), (.int .i64 0), (.int .i64 0), (.int .i64 0)] 1 [(0, 7, (.tmp 10))], (some (9, true))⟩,
     ⟨(some 12), .bld [(.int .i64 0), (.int .i64 0), (.slice none 0 0), (.bool false)] [(2, 1, (.tmp 11))], (some (9, true))⟩,
     ⟨(some 13), .call 24 [(.tmp 12), (.const (.bool false))], (some (9, true))⟩,
     ⟨(some 14), .lns (.tmp 13), (some (9, true))⟩,
     ⟨(some 15), .bin .eql (.tmp 14) (.const (.int .i64 1)), (some (9, true))⟩,
     ⟨(some 16), .pk (.tmp 9) (.tmp 15) (.const (.bool false)), none⟩,
     ⟨(some 0), .mv (.tmp 16), none⟩])
  .ret)))
def glyphiclaw21_first.f  : Option (Bool) := (flatten_Count_v1.f).bind fun _ => ((flatten_Path_v1.f).bind fun _ => (some true))
theorem glyphiclaw21_first.ok {S : Seal}  {r0_ : Bool} (e : glyphiclaw21_first.f  = some r0_) :
    Cal Try.prog 22 [] [] S fun v H' S' => v = .bool r0_ ∧ H' = [] ∧ S' = S := by
  unfold glyphiclaw21_first.f at e
  refine cal_of (c := c22) (N := 17) Try.func22 rfl rfl (by kernel_rfl) (rs := [.t 0]) (by kernel_rfl) (Nat.le_of_ble_eq_true rfl) ?_
  unfold c22
  refine w_seq ?_
  refine w_reg fun all => ?_
  refine t_qz 1 [] (σ' := []) (by kernel_rfl) ?_
  refine t_end ?_
  show W _ _ _ _ _ _ _
  refine w_seq ?_
  refine w_reg fun all => ?_
  refine t_qz 3 [4] (σ' := [(4, .agg #[.int .i64 1, .int .i64 5, .int .i64 0, .int .i64 0, .int .i64 0, .int .i64 0, .int .i64 0])]) (by kernel_rfl) ?_
  refine t_a (.new rfl rfl) fun b5 fb5 sb5 => ?_
  refine t_sti 0 (cs := [.int .i64 1, .int .i64 5, .int .i64 0, .int .i64 0, .int .i64 0, .int .i64 0, .int .i64 0]) rfl rfl rfl rfl rfl rfl rfl rfl rfl ?_
  refine t_keep [1] (σ' := [(1, .pointer (some ⟨b5, 0, none⟩))]) (by kernel_rfl) ?_
  refine t_end ?_
  show W _ _ _ _ _ _ _
  refine w_seq ?_
  refine w_reg fun all => ?_
  refine t_qz 1 [1, 5] (σ' := [(1, .pointer (some ⟨b5, 0, none⟩)), (5, .agg #[.int .i64 0, .int .i64 0])]) (by kernel_rfl) ?_
  refine t_v (.ldn rfl rfl rfl (.at 0 rfl rfl)) ?_
  obtain ⟨u_, h8, e⟩ := bind_of e
  refine t_v (.call (vs := [.agg #[.int .i64 0, .int .i64 0], .agg #[.int .i64 1, .int .i64 5, .int .i64 0, .int .i64 0, .int .i64 0, .int .i64 0, .int .i64 0]]) rfl rfl (by kernel_rfl) (flatten_Count_v1.ok h8)) ?_
  refine t_qz 2 [1, 9] (σ' := [(1, .pointer (some ⟨b5, 0, none⟩)), (9, .bool true)]) (by kernel_rfl) ?_
  refine t_v (.ldn rfl rfl rfl (.at 0 rfl rfl)) ?_
  refine t_a (.bsl rfl rfl rfl rfl) fun b9 fb9 sb9 => ?_
  obtain ⟨u_, h42, e⟩ := bind_of e
  refine t_qz 1 [9, 12] (σ' := [(9, .bool true), (12, .agg #[.int .i64 0, .int .i64 0, .slice (some ⟨b9, 0, none⟩) 1 1, .bool false])]) (by kernel_rfl) ?_
  refine t_call (vs := [.agg #[.int .i64 0, .int .i64 0, .slice (some ⟨b9, 0, none⟩) 1 1, .bool false], .bool false]) (H1 := ([⟨b9, [.int .i64 1, .int .i64 5, .int .i64 0, .int .i64 0, .int .i64 0, .int .i64 0, .int .i64 0], 7⟩] : List Own)) (F := ([⟨b5, [.int .i64 1, .int .i64 5, .int .i64 0, .int .i64 0, .int .i64 0, .int .i64 0, .int .i64 0], 7⟩] : List Own)) rfl rfl (by kernel_rfl) (sel_perm (is := [0]) (by kernel_rfl)) (flatten_Path_v1.ok h42) ?_
  rintro _ _ S_ ⟨N43, nN43, rfl, rfl, hS_⟩
  obtain rfl := hS_.symm
  refine t_qz 4 [0] (σ' := [(0, .bool true)]) (by kernel_rfl) ?_
  refine t_end ?_
  show W _ _ _ _ _ _ _
  refine w_ret ?_
  obtain rfl := Option.some.inj e
  exact ⟨[.bool true], [], S, ⟨rfl, trivial⟩, VS.none, rfl, rfl, rfl⟩

/-- glyphiclaw21.cut -/
def c25 : C :=
  (.seq (.reg [⟨(some 1), .box (.tmp 0), none⟩,
     ⟨(some 2), .new [(.int .i64 0), (.int .i64 0)], none⟩])
  (.seq (.reg [⟨(some 3), .pad 0 (.tmp 1), none⟩,
     ⟨(some 4), .ld none (.tmp 3), none⟩,
     ⟨(some 5), .bin .rem (.tmp 4) (.const (.int .i64 16777217)), none⟩,
     ⟨(some 6), .pad 1 (.tmp 1), none⟩,
     ⟨(some 7), .ld none (.tmp 6), none⟩,
     ⟨(some 8), .bin .rem (.tmp 7) (.const (.int .i64 16777217)), none⟩,
     ⟨(some 9), .bld [(.int .i64 0), (.int .i64 0)] [(0, 1, (.tmp 5)), (1, 1, (.tmp 8))], none⟩,
     ⟨none, .st 2 (.tmp 2) (.tmp 9), none⟩])
  .ret))
def glyphiclaw21_cut.f (p0_X : Int) (p0_Y : Int) : Option (Int × Int) := some (Int.tmod p0_X 16777217, Int.tmod p0_Y 16777217)
theorem glyphiclaw21_cut.ok {S : Seal} {p0_X : Int} {p0_Y : Int} {r0_ : Int} {r1_ : Int} (e : glyphiclaw21_cut.f p0_X p0_Y = some (r0_, r1_)) :
    Cal Try.prog 25 [.agg #[.int .i64 p0_X, .int .i64 p0_Y]] [] S fun v H' S' => v = .agg #[.int .i64 r0_, .int .i64 r1_] ∧ H' = [] ∧ S' = S := by
  unfold glyphiclaw21_cut.f at e
  refine cal_of (c := c25) (N := 10) Try.func25 rfl rfl (by kernel_rfl) (rs := [.cn 2 2]) (by kernel_rfl) (Nat.le_of_ble_eq_true rfl) ?_
  unfold c25
  refine w_seq ?_
  refine w_reg fun all => ?_
  refine t_a (.box rfl rfl rfl) fun b46 fb46 sb46 => ?_
  refine t_a (.new rfl rfl) fun b47 fb47 sb47 => ?_
  refine t_keep [1, 2] (σ' := [(1, .pointer (some ⟨b46, 0, none⟩)), (2, .pointer (some ⟨b47, 0, none⟩))]) (by kernel_rfl) ?_
  refine t_end ?_
  show W _ _ _ _ _ _ _
  refine w_seq ?_
  refine w_reg fun all => ?_
  refine t_qz 1 [1, 2, 3] (σ' := [(1, .pointer (some ⟨b46, 0, none⟩)), (2, .pointer (some ⟨b47, 0, none⟩)), (3, .pointer (some ⟨b46, 0, none⟩))]) (by kernel_rfl) ?_
  refine t_v (.ld1 rfl rfl rfl (.at 1 rfl rfl)) ?_
  refine t_qz 2 [2, 5, 6] (σ' := [(2, .pointer (some ⟨b47, 0, none⟩)), (5, .int .i64 (Int.tmod p0_X 16777217)), (6, .pointer (some ⟨b46, 1, none⟩))]) (by kernel_rfl) ?_
  refine t_v (.ld1 rfl rfl rfl (.at 1 rfl rfl)) ?_
  refine t_qz 2 [2, 9] (σ' := [(2, .pointer (some ⟨b47, 0, none⟩)), (9, .agg #[.int .i64 (Int.tmod p0_X 16777217), .int .i64 (Int.tmod p0_Y 16777217)])]) (by kernel_rfl) ?_
  refine t_sti 0 (cs := [.int .i64 (Int.tmod p0_X 16777217), .int .i64 (Int.tmod p0_Y 16777217)]) rfl rfl rfl rfl rfl rfl rfl rfl rfl ?_
  refine t_keep [2] (σ' := [(2, .pointer (some ⟨b47, 0, none⟩))]) (by kernel_rfl) ?_
  refine t_end ?_
  show W _ _ _ _ _ _ _
  refine w_ret ?_
  simp only [Option.some.injEq, Prod.mk.injEq] at e
  obtain ⟨rfl, rfl⟩ := e
  exact ⟨[.agg #[.int .i64 (Int.tmod p0_X 16777217), .int .i64 (Int.tmod p0_Y 16777217)]], [], S, ⟨⟨_, _, _, rfl, .at 0 rfl rfl, rfl⟩, trivial⟩, VS.none, rfl, rfl, rfl⟩

def flatten_points_v2.f (s0_1 : Int) (s0_2 : Int) (s0_3 : Int) (s0_4 : Int) : Option (Int × Int × Int × Int × Int × Int × Int) := some (2, s0_1, s0_2, s0_3, s0_4, 0, 0)
theorem flatten_points_v2.ok {S : Seal} {s0_1 : Int} {s0_2 : Int} {s0_3 : Int} {s0_4 : Int} {r0_ : Int} {r1_ : Int} {r2_ : Int} {r3_ : Int} {r4_ : Int} {r5_ : Int} {r6_ : Int} (e : flatten_points_v2.f s0_1 s0_2 s0_3 s0_4 = some (r0_, r1_, r2_, r3_, r4_, r5_, r6_)) :
    Cal Try.prog 45 [.agg #[.int .i64 2, .int .i64 s0_1, .int .i64 s0_2, .int .i64 s0_3, .int .i64 s0_4, .int .i64 0, .int .i64 0]] [] S fun v H' S' => ∃ N0_ : Nat, v = .slice (some ⟨N0_, 1, none⟩) 2 3 ∧ H' = ([⟨N0_, [.int .i64 r0_, .int .i64 r1_, .int .i64 r2_, .int .i64 r3_, .int .i64 r4_, .int .i64 r5_, .int .i64 r6_], 7⟩] : List Own) ∧ S' = S := by
  unfold flatten_points_v2.f at e
  refine cal_of (c := c45) (N := 15) Try.func45 rfl rfl (by kernel_rfl) (rs := [.t 2]) (by kernel_rfl) (Nat.le_of_ble_eq_true rfl) ?_
  unfold c45
  refine w_seq ?_
  refine w_reg fun all => ?_
  refine t_a (.box rfl rfl rfl) fun b67 fb67 sb67 => ?_
  refine t_qz 1 [1] (σ' := [(1, .pointer (some ⟨b67, 0, none⟩))]) (by kernel_rfl) ?_
  refine t_end ?_
  show W _ _ _ _ _ _ _
  refine w_seq ?_
  refine w_seq ?_
  refine w_reg fun all => ?_
  refine t_qz 1 [1, 3] (σ' := [(1, .pointer (some ⟨b67, 0, none⟩)), (3, .pointer (some ⟨b67, 0, none⟩))]) (by kernel_rfl) ?_
  refine t_v (.ld1 rfl rfl rfl (.at 0 rfl rfl)) ?_
  refine t_qz 3 [1, 6, 7] (σ' := [(1, .pointer (some ⟨b67, 0, none⟩)), (6, .bool false), (7, .pointer (some ⟨b67, 0, none⟩))]) (by kernel_rfl) ?_
  refine t_v (.ld1 rfl rfl rfl (.at 0 rfl rfl)) ?_
  refine t_qz 2 [1, 10] (σ' := [(1, .pointer (some ⟨b67, 0, none⟩)), (10, .bool false)]) (by kernel_rfl) ?_
  refine t_end ?_
  show W _ _ _ _ _ _ _
  refine w_cond rfl (fun c_ => by cases c_) (fun _ => ?_)
  show W _ _ _ _ _ _ _
  refine w_skip ?_
  show W _ _ _ _ _ _ _
  refine w_seq ?_
  refine w_reg fun all => ?_
  refine t_qz 2 [11, 12] (σ' := [(11, .pointer (some ⟨b67, 1, none⟩)), (12, .pointer (some ⟨b67, 0, none⟩))]) (by kernel_rfl) ?_
  refine t_v (.ld1 rfl rfl rfl (.at 0 rfl rfl)) ?_
  refine t_qz 2 [2] (σ' := [(2, .slice (some ⟨b67, 1, none⟩) 2 3)]) (by kernel_rfl) ?_
  refine t_end ?_
  show W _ _ _ _ _ _ _
  refine w_ret ?_
  simp only [Option.some.injEq, Prod.mk.injEq] at e
  obtain ⟨rfl, rfl, rfl, rfl, rfl, rfl, rfl⟩ := e
  exact ⟨[.slice (some ⟨b67, 1, none⟩) 2 3], ([⟨b67, [.int .i64 2, .int .i64 s0_1, .int .i64 s0_2, .int .i64 s0_3, .int .i64 s0_4, .int .i64 0, .int .i64 0], 7⟩] : List Own), S, ⟨rfl, trivial⟩, VS.sel [0] (by kernel_rfl), b67, rfl, rfl, rfl⟩

def fixed_Down.f (a0 : Int) (b1 : Int) : Option (Int) := if b1 < 1 then (some 0) else (if b1 = 0 then none else (if (Int.tmod a0 b1) < 0 then (some (wr64 ((wr64 (Int.tdiv a0 b1)) - 1))) else (some (wr64 (Int.tdiv a0 b1)))))
theorem fixed_Down.ok {S : Seal} {a0 : Int} {b1 : Int} {r0_ : Int} (e : fixed_Down.f a0 b1 = some r0_) :
    Cal Try.prog 69 [.int .i64 a0, .int .i64 b1] [] S fun v H' S' => v = .int .i64 r0_ ∧ H' = [] ∧ S' = S := by
  unfold fixed_Down.f at e
  refine cal_of (c := c69) (N := 18) Try.func69 rfl rfl (by kernel_rfl) (rs := [.t 4]) (by kernel_rfl) (Nat.le_of_ble_eq_true rfl) ?_
  unfold c69
  refine w_seq ?_
  refine w_reg fun all => ?_
  refine t_qz 1 [0, 1] (σ' := [(0, .int .i64 a0), (1, .int .i64 b1)]) (by kernel_rfl) ?_
  refine t_end ?_
  show W _ _ _ _ _ _ _
  refine w_seq ?_
  refine w_seq ?_
  refine w_reg fun all => ?_
  by_cases c88 : b1 < 1
  · rw [if_pos c88] at e
    have c88b : (decide (b1 < 1)) = true := decide_eq_true c88
    refine t_qz 1 [0, 1, 6] (σ' := [(0, .int .i64 a0), (1, .int .i64 b1), (6, .int .i64 b1)]) (by kernel_rfl) ?_
    refine t_v (dv_quiet rfl (congrArg (fun t => some (Value.bool t)) c88b)) ?_
    refine t_keep [0, 1, 7] (σ' := [(0, .int .i64 a0), (1, .int .i64 b1), (7, .bool true)]) (by kernel_rfl) ?_
    refine t_end ?_
    show W _ _ _ _ _ _ _
    refine w_cond rfl (fun _ => ?_) (fun c_ => by cases c_)
    show W _ _ _ _ _ _ _
    refine w_seq ?_
    refine w_reg fun all => ?_
    refine t_qz 1 [4] (σ' := [(4, .int .i64 0)]) (by kernel_rfl) ?_
    refine t_end ?_
    show W _ _ _ _ _ _ _
    refine w_ret ?_
    obtain rfl := Option.some.inj e
    exact ⟨[.int .i64 0], [], S, ⟨rfl, trivial⟩, VS.none, rfl, rfl, rfl⟩
  · rw [if_neg c88] at e
    have c88b : (decide (b1 < 1)) = false := decide_eq_false c88
    refine t_qz 1 [0, 1, 6] (σ' := [(0, .int .i64 a0), (1, .int .i64 b1), (6, .int .i64 b1)]) (by kernel_rfl) ?_
    refine t_v (dv_quiet rfl (congrArg (fun t => some (Value.bool t)) c88b)) ?_
    refine t_keep [0, 1, 7] (σ' := [(0, .int .i64 a0), (1, .int .i64 b1), (7, .bool false)]) (by kernel_rfl) ?_
    refine t_end ?_
    show W _ _ _ _ _ _ _
    refine w_cond rfl (fun c_ => by cases c_) (fun _ => ?_)
    show W _ _ _ _ _ _ _
    refine w_skip ?_
    show W _ _ _ _ _ _ _
    refine w_seq ?_
    refine w_reg fun all => ?_
    have c89 : ¬ b1 = 0 := by
      intro h_; rw [if_pos h_] at e; cases e
    rw [if_neg c89] at e
    refine t_qz 2 [0, 1, 8, 9] (σ' := [(0, .int .i64 a0), (1, .int .i64 b1), (8, .int .i64 a0), (9, .int .i64 b1)]) (by kernel_rfl) ?_
    refine t_v (.quiet rfl (qv_quo rfl rfl c89)) ?_
    refine t_qz 1 [0, 1, 5] (σ' := [(0, .int .i64 a0), (1, .int .i64 b1), (5, .int .i64 (wr64 (Int.tdiv a0 b1)))]) (by kernel_rfl) ?_
    refine t_end ?_
    show W _ _ _ _ _ _ _
    refine w_seq ?_
    refine w_seq ?_
    refine w_reg fun all => ?_
    refine t_qz 2 [5, 11, 12] (σ' := [(5, .int .i64 (wr64 (Int.tdiv a0 b1))), (11, .int .i64 a0), (12, .int .i64 b1)]) (by kernel_rfl) ?_
    refine t_v (.quiet rfl (qv_rem rfl rfl c89)) ?_
    by_cases c90 : (Int.tmod a0 b1) < 0
    · rw [if_pos c90] at e
      have c90b : (decide ((Int.tmod a0 b1) < 0)) = true := decide_eq_true c90
      refine t_v (dv_quiet rfl (congrArg (fun t => some (Value.bool t)) c90b)) ?_
      refine t_keep [5, 14] (σ' := [(5, .int .i64 (wr64 (Int.tdiv a0 b1))), (14, .bool true)]) (by kernel_rfl) ?_
      refine t_end ?_
      show W _ _ _ _ _ _ _
      refine w_cond rfl (fun _ => ?_) (fun c_ => by cases c_)
      show W _ _ _ _ _ _ _
      refine w_reg fun all => ?_
      refine t_qz 3 [5] (σ' := [(5, .int .i64 (wr64 ((wr64 (Int.tdiv a0 b1)) - 1)))]) (by kernel_rfl) ?_
      refine t_end ?_
      show W _ _ _ _ _ _ _
      refine w_seq ?_
      refine w_reg fun all => ?_
      refine t_qz 2 [4] (σ' := [(4, .int .i64 (wr64 ((wr64 (Int.tdiv a0 b1)) - 1)))]) (by kernel_rfl) ?_
      refine t_end ?_
      show W _ _ _ _ _ _ _
      refine w_ret ?_
      obtain rfl := Option.some.inj e
      exact ⟨[.int .i64 (wr64 ((wr64 (Int.tdiv a0 b1)) - 1))], [], S, ⟨rfl, trivial⟩, VS.none, rfl, rfl, rfl⟩
    · rw [if_neg c90] at e
      have c90b : (decide ((Int.tmod a0 b1) < 0)) = false := decide_eq_false c90
      refine t_v (dv_quiet rfl (congrArg (fun t => some (Value.bool t)) c90b)) ?_
      refine t_keep [5, 14] (σ' := [(5, .int .i64 (wr64 (Int.tdiv a0 b1))), (14, .bool false)]) (by kernel_rfl) ?_
      refine t_end ?_
      show W _ _ _ _ _ _ _
      refine w_cond rfl (fun c_ => by cases c_) (fun _ => ?_)
      show W _ _ _ _ _ _ _
      refine w_skip ?_
      show W _ _ _ _ _ _ _
      refine w_seq ?_
      refine w_reg fun all => ?_
      refine t_qz 2 [4] (σ' := [(4, .int .i64 (wr64 (Int.tdiv a0 b1)))]) (by kernel_rfl) ?_
      refine t_end ?_
      show W _ _ _ _ _ _ _
      refine w_ret ?_
      obtain rfl := Option.some.inj e
      exact ⟨[.int .i64 (wr64 (Int.tdiv a0 b1))], [], S, ⟨rfl, trivial⟩, VS.none, rfl, rfl, rfl⟩

def fixed_Round.f (a0 : Int) (b1 : Int) : Option (Int) := if b1 < 1 then (some 0) else ((fixed_Down.f a0 b1).bind fun t91 => (if (wr64 (a0 - (wr64 (t91 * b1)))) ≥ (wr64 (b1 - (wr64 (a0 - (wr64 (t91 * b1)))))) then (some (wr64 (t91 + 1))) else (some t91)))
theorem fixed_Round.ok {S : Seal} {a0 : Int} {b1 : Int} {r0_ : Int} (e : fixed_Round.f a0 b1 = some r0_) :
    Cal Try.prog 65 [.int .i64 a0, .int .i64 b1] [] S fun v H' S' => v = .int .i64 r0_ ∧ H' = [] ∧ S' = S := by
  unfold fixed_Round.f at e
  refine cal_of (c := c65) (N := 25) Try.func65 rfl rfl (by kernel_rfl) (rs := [.t 4]) (by kernel_rfl) (Nat.le_of_ble_eq_true rfl) ?_
  unfold c65
  refine w_seq ?_
  refine w_reg fun all => ?_
  refine t_qz 1 [0, 1] (σ' := [(0, .int .i64 a0), (1, .int .i64 b1)]) (by kernel_rfl) ?_
  refine t_end ?_
  show W _ _ _ _ _ _ _
  refine w_seq ?_
  refine w_seq ?_
  refine w_reg fun all => ?_
  by_cases c87 : b1 < 1
  · rw [if_pos c87] at e
    have c87b : (decide (b1 < 1)) = true := decide_eq_true c87
    refine t_qz 1 [0, 1, 7] (σ' := [(0, .int .i64 a0), (1, .int .i64 b1), (7, .int .i64 b1)]) (by kernel_rfl) ?_
    refine t_v (dv_quiet rfl (congrArg (fun t => some (Value.bool t)) c87b)) ?_
    refine t_keep [0, 1, 8] (σ' := [(0, .int .i64 a0), (1, .int .i64 b1), (8, .bool true)]) (by kernel_rfl) ?_
    refine t_end ?_
    show W _ _ _ _ _ _ _
    refine w_cond rfl (fun _ => ?_) (fun c_ => by cases c_)
    show W _ _ _ _ _ _ _
    refine w_seq ?_
    refine w_reg fun all => ?_
    refine t_qz 1 [4] (σ' := [(4, .int .i64 0)]) (by kernel_rfl) ?_
    refine t_end ?_
    show W _ _ _ _ _ _ _
    refine w_ret ?_
    obtain rfl := Option.some.inj e
    exact ⟨[.int .i64 0], [], S, ⟨rfl, trivial⟩, VS.none, rfl, rfl, rfl⟩
  · rw [if_neg c87] at e
    have c87b : (decide (b1 < 1)) = false := decide_eq_false c87
    refine t_qz 1 [0, 1, 7] (σ' := [(0, .int .i64 a0), (1, .int .i64 b1), (7, .int .i64 b1)]) (by kernel_rfl) ?_
    refine t_v (dv_quiet rfl (congrArg (fun t => some (Value.bool t)) c87b)) ?_
    refine t_keep [0, 1, 8] (σ' := [(0, .int .i64 a0), (1, .int .i64 b1), (8, .bool false)]) (by kernel_rfl) ?_
    refine t_end ?_
    show W _ _ _ _ _ _ _
    refine w_cond rfl (fun c_ => by cases c_) (fun _ => ?_)
    show W _ _ _ _ _ _ _
    refine w_skip ?_
    show W _ _ _ _ _ _ _
    refine w_seq ?_
    refine w_reg fun all => ?_
    obtain ⟨t91, h92, e⟩ := bind_of e
    refine t_qz 2 [0, 1, 9, 10] (σ' := [(0, .int .i64 a0), (1, .int .i64 b1), (9, .int .i64 a0), (10, .int .i64 b1)]) (by kernel_rfl) ?_
    refine t_v (.call (vs := [.int .i64 a0, .int .i64 b1]) rfl rfl (by kernel_rfl) (fixed_Down.ok h92)) ?_
    refine t_qz 1 [0, 1, 5] (σ' := [(0, .int .i64 a0), (1, .int .i64 b1), (5, .int .i64 t91)]) (by kernel_rfl) ?_
    refine t_end ?_
    show W _ _ _ _ _ _ _
    refine w_seq ?_
    refine w_seq ?_
    refine w_reg fun all => ?_
    refine t_qz 6 [1, 5, 6] (σ' := [(1, .int .i64 b1), (5, .int .i64 t91), (6, .int .i64 (wr64 (a0 - (wr64 (t91 * b1)))))]) (by kernel_rfl) ?_
    refine t_end ?_
    show W _ _ _ _ _ _ _
    refine w_seq ?_
    refine w_reg fun all => ?_
    by_cases c93 : (wr64 (a0 - (wr64 (t91 * b1)))) ≥ (wr64 (b1 - (wr64 (a0 - (wr64 (t91 * b1))))))
    · rw [if_pos c93] at e
      have c93b : (decide ((wr64 (a0 - (wr64 (t91 * b1)))) ≥ (wr64 (b1 - (wr64 (a0 - (wr64 (t91 * b1)))))))) = true := decide_eq_true c93
      refine t_qz 4 [5, 17, 20] (σ' := [(5, .int .i64 t91), (17, .int .i64 (wr64 (a0 - (wr64 (t91 * b1))))), (20, .int .i64 (wr64 (b1 - (wr64 (a0 - (wr64 (t91 * b1)))))))]) (by kernel_rfl) ?_
      refine t_v (dv_quiet rfl (congrArg (fun t => some (Value.bool t)) c93b)) ?_
      refine t_keep [5, 21] (σ' := [(5, .int .i64 t91), (21, .bool true)]) (by kernel_rfl) ?_
      refine t_end ?_
      show W _ _ _ _ _ _ _
      refine w_cond rfl (fun _ => ?_) (fun c_ => by cases c_)
      show W _ _ _ _ _ _ _
      refine w_reg fun all => ?_
      refine t_qz 3 [5] (σ' := [(5, .int .i64 (wr64 (t91 + 1)))]) (by kernel_rfl) ?_
      refine t_end ?_
      show W _ _ _ _ _ _ _
      refine w_seq ?_
      refine w_reg fun all => ?_
      refine t_qz 2 [4] (σ' := [(4, .int .i64 (wr64 (t91 + 1)))]) (by kernel_rfl) ?_
      refine t_end ?_
      show W _ _ _ _ _ _ _
      refine w_ret ?_
      obtain rfl := Option.some.inj e
      exact ⟨[.int .i64 (wr64 (t91 + 1))], [], S, ⟨rfl, trivial⟩, VS.none, rfl, rfl, rfl⟩
    · rw [if_neg c93] at e
      have c93b : (decide ((wr64 (a0 - (wr64 (t91 * b1)))) ≥ (wr64 (b1 - (wr64 (a0 - (wr64 (t91 * b1)))))))) = false := decide_eq_false c93
      refine t_qz 4 [5, 17, 20] (σ' := [(5, .int .i64 t91), (17, .int .i64 (wr64 (a0 - (wr64 (t91 * b1))))), (20, .int .i64 (wr64 (b1 - (wr64 (a0 - (wr64 (t91 * b1)))))))]) (by kernel_rfl) ?_
      refine t_v (dv_quiet rfl (congrArg (fun t => some (Value.bool t)) c93b)) ?_
      refine t_keep [5, 21] (σ' := [(5, .int .i64 t91), (21, .bool false)]) (by kernel_rfl) ?_
      refine t_end ?_
      show W _ _ _ _ _ _ _
      refine w_cond rfl (fun c_ => by cases c_) (fun _ => ?_)
      show W _ _ _ _ _ _ _
      refine w_skip ?_
      show W _ _ _ _ _ _ _
      refine w_seq ?_
      refine w_reg fun all => ?_
      refine t_qz 2 [4] (σ' := [(4, .int .i64 t91)]) (by kernel_rfl) ?_
      refine t_end ?_
      show W _ _ _ _ _ _ _
      refine w_ret ?_
      obtain rfl := Option.some.inj e
      exact ⟨[.int .i64 t91], [], S, ⟨rfl, trivial⟩, VS.none, rfl, rfl, rfl⟩

def flatten_mix_v3.f (i0 : Int) (n1 : Int) (m0_0 : Int) (m0_1 : Int) (m0_2 : Int) : Option (Int) := (fixed_Round.f (wr64 ((wr64 ((wr64 ((wr64 ((wr64 (n1 - i0)) * (wr64 (n1 - i0)))) * m0_0)) + (wr64 ((wr64 ((wr64 (2 * i0)) * (wr64 (n1 - i0)))) * m0_1)))) + (wr64 ((wr64 (i0 * i0)) * m0_2)))) (wr64 (n1 * n1))).bind fun t87 => (some t87)
theorem flatten_mix_v3.ok {S : Seal} {B0 nB0 : Nat} {i0 : Int} {n1 : Int} {m0_0 : Int} {m0_1 : Int} {m0_2 : Int} {r0_ : Int} (e : flatten_mix_v3.f i0 n1 m0_0 m0_1 m0_2 = some r0_) :
    Cal Try.prog 46 [.int .i64 i0, .int .i64 n1, .slice (some ⟨B0, 0, none⟩) 3 (nB0 / 1)] ([⟨B0, [.int .i64 m0_0, .int .i64 m0_1, .int .i64 m0_2], nB0⟩] : List Own) S fun v H' S' => v = .int .i64 r0_ ∧ H' = ([⟨B0, [.int .i64 m0_0, .int .i64 m0_1, .int .i64 m0_2], nB0⟩] : List Own) ∧ S' = S := by
  unfold flatten_mix_v3.f at e
  refine cal_of (c := c46) (N := 110) Try.func46 rfl rfl (by kernel_rfl) (rs := [.t 6]) (by kernel_rfl) (Nat.le_of_ble_eq_true rfl) ?_
  unfold c46
  refine w_seq ?_
  refine w_reg fun all => ?_
  refine t_qz 1 [0, 1, 2] (σ' := [(0, .int .i64 i0), (1, .int .i64 n1), (2, .slice (some ⟨B0, 0, none⟩) 3 (nB0 / 1))]) (by kernel_rfl) ?_
  refine t_end ?_
  show W _ _ _ _ _ _ _
  refine w_seq ?_
  refine w_reg fun all => ?_
  refine t_qz 4 [0, 1, 2, 7] (σ' := [(0, .int .i64 i0), (1, .int .i64 n1), (2, .slice (some ⟨B0, 0, none⟩) 3 (nB0 / 1)), (7, .int .i64 (wr64 (n1 - i0)))]) (by kernel_rfl) ?_
  refine t_end ?_
  show W _ _ _ _ _ _ _
  refine w_seq ?_
  refine w_seq ?_
  refine w_reg fun all => ?_
  refine t_qz 2 [0, 1, 2, 7, 12] (σ' := [(0, .int .i64 i0), (1, .int .i64 n1), (2, .slice (some ⟨B0, 0, none⟩) 3 (nB0 / 1)), (7, .int .i64 (wr64 (n1 - i0))), (12, .int .i64 3)]) (by kernel_rfl) ?_
  refine t_end ?_
  show W _ _ _ _ _ _ _
  refine w_block ?_
  refine w_seq ?_
  refine w_reg fun all => ?_
  refine t_qz 2 [0, 1, 2, 7, 12, 13] (σ' := [(0, .int .i64 i0), (1, .int .i64 n1), (2, .slice (some ⟨B0, 0, none⟩) 3 (nB0 / 1)), (7, .int .i64 (wr64 (n1 - i0))), (12, .int .i64 3), (13, .bool false)]) (by kernel_rfl) ?_
  refine t_end ?_
  show W _ _ _ _ _ _ _
  refine w_cond rfl (fun c_ => by cases c_) (fun _ => ?_)
  show W _ _ _ _ _ _ _
  refine w_seq ?_
  refine w_reg fun all => ?_
  refine t_qz 2 [0, 1, 2, 7, 12, 18] (σ' := [(0, .int .i64 i0), (1, .int .i64 n1), (2, .slice (some ⟨B0, 0, none⟩) 3 (nB0 / 1)), (7, .int .i64 (wr64 (n1 - i0))), (12, .int .i64 3), (18, .bool false)]) (by kernel_rfl) ?_
  refine t_end ?_
  show W _ _ _ _ _ _ _
  refine w_cond rfl (fun c_ => by cases c_) (fun _ => ?_)
  show W _ _ _ _ _ _ _
  refine w_seq ?_
  refine w_reg fun all => ?_
  refine t_qz 2 [0, 1, 2, 7, 33] (σ' := [(0, .int .i64 i0), (1, .int .i64 n1), (2, .slice (some ⟨B0, 0, none⟩) 3 (nB0 / 1)), (7, .int .i64 (wr64 (n1 - i0))), (33, .bool true)]) (by kernel_rfl) ?_
  refine t_end ?_
  show W _ _ _ _ _ _ _
  refine w_cond rfl (fun _ => ?_) (fun c_ => by cases c_)
  show W _ _ _ _ _ _ _
  refine w_seq ?_
  obtain ⟨t87, h88, e⟩ := bind_of e
  refine w_drwE mixed 29 [.v (.int .i64 (wr64 (n1 - i0))), .v (.int .i64 (wr64 (n1 - i0))), .v (.int .i64 (wr64 ((wr64 (n1 - i0)) * (wr64 (n1 - i0))))), .v (.slice (some ⟨B0, 0, none⟩) 3 (nB0 / 1)), .v (.pointer (some ⟨B0, 0, none⟩)), .v (.int .i64 m0_0), .v (.int .i64 (wr64 ((wr64 ((wr64 (n1 - i0)) * (wr64 (n1 - i0)))) * m0_0))), .v (.int .i64 i0), .v (.int .i64 (wr64 (2 * i0))), .v (.int .i64 (wr64 (n1 - i0))), .v (.int .i64 (wr64 ((wr64 (2 * i0)) * (wr64 (n1 - i0))))), .v (.slice (some ⟨B0, 0, none⟩) 3 (nB0 / 1)), .v (.pointer (some ⟨B0, 1, none⟩)), .v (.int .i64 m0_1), .v (.int .i64 (wr64 ((wr64 ((wr64 (2 * i0)) * (wr64 (n1 - i0)))) * m0_1))), .v (.int .i64 (wr64 ((wr64 ((wr64 ((wr64 (n1 - i0)) * (wr64 (n1 - i0)))) * m0_0)) + (wr64 ((wr64 ((wr64 (2 * i0)) * (wr64 (n1 - i0)))) * m0_1))))), .v (.int .i64 i0), .v (.int .i64 i0), .v (.int .i64 (wr64 (i0 * i0))), .v (.slice (some ⟨B0, 0, none⟩) 3 (nB0 / 1)), .v (.pointer (some ⟨B0, 2, none⟩)), .v (.int .i64 m0_2), .v (.int .i64 (wr64 ((wr64 (i0 * i0)) * m0_2))), .v (.int .i64 (wr64 ((wr64 ((wr64 ((wr64 ((wr64 (n1 - i0)) * (wr64 (n1 - i0)))) * m0_0)) + (wr64 ((wr64 ((wr64 (2 * i0)) * (wr64 (n1 - i0)))) * m0_1)))) + (wr64 ((wr64 (i0 * i0)) * m0_2))))), .v (.int .i64 n1), .v (.int .i64 n1), .v (.int .i64 (wr64 (n1 * n1))), .v (.int .i64 t87), .v (.int .i64 t87)] (by kernel_rfl) ?_ ?_
  · refine DI.sq 5 (by kernel_rfl) rfl ?_
    refine .cons (.ld1 rfl rfl rfl (.at 0 rfl rfl)) ?_
    refine DI.sq 7 (by kernel_rfl) rfl ?_
    refine .cons (.ld1 rfl rfl rfl (.at 0 rfl rfl)) ?_
    refine DI.sq 7 (by kernel_rfl) rfl ?_
    refine .cons (.ld1 rfl rfl rfl (.at 0 rfl rfl)) ?_
    refine DI.sq 5 (by kernel_rfl) rfl ?_
    refine .cons (.call (vs := [.int .i64 (wr64 ((wr64 ((wr64 ((wr64 ((wr64 (n1 - i0)) * (wr64 (n1 - i0)))) * m0_0)) + (wr64 ((wr64 ((wr64 (2 * i0)) * (wr64 (n1 - i0)))) * m0_1)))) + (wr64 ((wr64 (i0 * i0)) * m0_2)))), .int .i64 (wr64 (n1 * n1))]) rfl rfl (by kernel_rfl) (fixed_Round.ok h88)) ?_
    refine DI.sq 1 (by kernel_rfl) rfl ?_
    exact .nil
  refine fk_q 29 [6] (σ' := [(6, .int .i64 t87)]) t_more (by kernel_rfl) ?_
  refine fk_nil fun all => ?_
  refine t_keep [6] (σ' := [(6, .int .i64 t87)]) (by kernel_rfl) ?_
  refine t_end ?_
  show W _ _ _ _ _ _ _
  refine w_ret ?_
  obtain rfl := Option.some.inj e
  exact ⟨[.int .i64 t87], ([⟨B0, [.int .i64 m0_0, .int .i64 m0_1, .int .i64 m0_2], nB0⟩] : List Own), S, ⟨rfl, trivial⟩, VS.sel [0] (by kernel_rfl), rfl, rfl, rfl⟩

def flatten_Point_v2.f (a0_0 : Int) (a0_1 : Int) (s1_1 : Int) (s1_2 : Int) (s1_3 : Int) (s1_4 : Int) (i2 : Int) (n3 : Int) : Option (Int × Int) := (flatten_points_v2.f s1_1 s1_2 s1_3 s1_4).bind fun (t68, t69, t70, t71, t72, t73, t74) => ((flatten_mix_v3.f i2 n3 a0_0 t69 t71).bind fun t89 => ((flatten_mix_v3.f i2 n3 a0_1 t70 t72).bind fun t91 => (some (t89, t91))))
theorem flatten_Point_v2.ok {S : Seal} {a0_0 : Int} {a0_1 : Int} {s1_1 : Int} {s1_2 : Int} {s1_3 : Int} {s1_4 : Int} {i2 : Int} {n3 : Int} {r0_ : Int} {r1_ : Int} (e : flatten_Point_v2.f a0_0 a0_1 s1_1 s1_2 s1_3 s1_4 i2 n3 = some (r0_, r1_)) :
    Cal Try.prog 28 [.agg #[.int .i64 a0_0, .int .i64 a0_1], .agg #[.int .i64 2, .int .i64 s1_1, .int .i64 s1_2, .int .i64 s1_3, .int .i64 s1_4, .int .i64 0, .int .i64 0], .int .i64 i2, .int .i64 n3] [] S fun v H' S' => v = .agg #[.int .i64 r0_, .int .i64 r1_] ∧ H' = [] ∧ S' = S := by
  unfold flatten_Point_v2.f at e
  refine cal_of (c := c28) (N := 46) Try.func28 rfl rfl (by kernel_rfl) (rs := [.cn 2 8]) (by kernel_rfl) (Nat.le_of_ble_eq_true rfl) ?_
  unfold c28
  refine w_seq ?_
  refine w_reg fun all => ?_
  refine t_a (.box rfl rfl rfl) fun b62 fb62 sb62 => ?_
  refine t_a (.box rfl rfl rfl) fun b63 fb63 sb63 => ?_
  refine t_a (.new rfl rfl) fun b64 fb64 sb64 => ?_
  refine t_keep [2, 3, 4, 5, 8] (σ' := [(2, .int .i64 i2), (3, .int .i64 n3), (4, .pointer (some ⟨b62, 0, none⟩)), (5, .pointer (some ⟨b63, 0, none⟩)), (8, .pointer (some ⟨b64, 0, none⟩))]) (by kernel_rfl) ?_
  refine t_end ?_
  show W _ _ _ _ _ _ _
  refine w_seq ?_
  refine w_kp [2, 3, 4, 5, 8] (σ' := [(2, .int .i64 i2), (3, .int .i64 n3), (4, .pointer (some ⟨b62, 0, none⟩)), (5, .pointer (some ⟨b63, 0, none⟩)), (8, .pointer (some ⟨b64, 0, none⟩))]) (by kernel_rfl) ?_
  refine w_gameQ mixed (by kernel_rfl) fun all G hend hstep hqf => ?_
  have hg_ff : ∀ (g66 g65 : Nat), G [true, true, true, true, true, true, true, true] [(2, .int .i64 i2), (3, .int .i64 n3), (5, .pointer (some ⟨b63, 0, none⟩)), (8, .pointer (some ⟨b64, 0, none⟩)), (9, .slice (some ⟨g65, 0, none⟩) 1 1), (10, .slice (some ⟨g66, 0, none⟩) 1 1)] ([⟨g66, [.int .i64 a0_1], 1⟩, ⟨g65, [.int .i64 a0_0], 1⟩, ⟨b64, [.int .i64 0, .int .i64 0], 2⟩, ⟨b63, [.int .i64 2, .int .i64 s1_1, .int .i64 s1_2, .int .i64 s1_3, .int .i64 s1_4, .int .i64 0, .int .i64 0], 7⟩, ⟨b62, [.int .i64 a0_0, .int .i64 a0_1], 2⟩] : List Own) := by
    intro g66 g65
    refine hend _ _ _ (by kernel_rfl) ?_
    show W _ _ _ _ _ _ _
    refine w_seq ?_
    refine w_seq ?_
    refine w_reg fun all => ?_
    refine t_v (.ldn rfl rfl rfl (.at 3 rfl rfl)) ?_
    obtain ⟨⟨t68, t69, t70, t71, t72, t73, t74⟩, h75, e⟩ := bind_of e
    try dsimp only at e
    refine t_call (vs := [.agg #[.int .i64 2, .int .i64 s1_1, .int .i64 s1_2, .int .i64 s1_3, .int .i64 s1_4, .int .i64 0, .int .i64 0]]) (H1 := ([] : List Own)) (F := ([⟨g66, [.int .i64 a0_1], 1⟩, ⟨g65, [.int .i64 a0_0], 1⟩, ⟨b64, [.int .i64 0, .int .i64 0], 2⟩, ⟨b63, [.int .i64 2, .int .i64 s1_1, .int .i64 s1_2, .int .i64 s1_3, .int .i64 s1_4, .int .i64 0, .int .i64 0], 7⟩, ⟨b62, [.int .i64 a0_0, .int .i64 a0_1], 2⟩] : List Own)) rfl rfl (by kernel_rfl) (sel_perm (is := []) (by kernel_rfl)) (flatten_points_v2.ok h75) ?_
    rintro _ _ S_ ⟨N76, rfl, rfl, hS_⟩
    obtain rfl := hS_.symm
    refine t_qz 2 [2, 3, 8, 9, 10, 20, 21, 22] (σ' := [(2, .int .i64 i2), (3, .int .i64 n3), (8, .pointer (some ⟨b64, 0, none⟩)), (9, .slice (some ⟨g65, 0, none⟩) 1 1), (10, .slice (some ⟨g66, 0, none⟩) 1 1), (20, .slice (some ⟨N76, 1, none⟩) 2 3), (21, .int .i64 2), (22, .int .i64 0)]) (by kernel_rfl) ?_
    refine t_end ?_
    show W _ _ _ _ _ _ _
    refine w_block ?_
    refine w_lun 10 ?_
    refine wl_step ?_
    refine w_seq ?_
    refine w_reg fun all => ?_
    refine t_qz 1 [2, 3, 8, 9, 10, 20, 21, 22, 23] (σ' := [(2, .int .i64 i2), (3, .int .i64 n3), (8, .pointer (some ⟨b64, 0, none⟩)), (9, .slice (some ⟨g65, 0, none⟩) 1 1), (10, .slice (some ⟨g66, 0, none⟩) 1 1), (20, .slice (some ⟨N76, 1, none⟩) 2 3), (21, .int .i64 2), (22, .int .i64 0), (23, .bool true)]) (by kernel_rfl) ?_
    refine t_end ?_
    show W _ _ _ _ _ _ _
    refine w_seq ?_
    refine w_cond rfl (fun _ => ?_) (fun c_ => by cases c_)
    show W _ _ _ _ _ _ _
    refine w_skip ?_
    show W _ _ _ _ _ _ _
    refine w_seq ?_
    refine w_block ?_
    refine w_seq ?_
    refine w_reg fun all => ?_
    refine t_qz 1 [2, 3, 8, 9, 10, 20, 21, 22, 24] (σ' := [(2, .int .i64 i2), (3, .int .i64 n3), (8, .pointer (some ⟨b64, 0, none⟩)), (9, .slice (some ⟨g65, 0, none⟩) 1 1), (10, .slice (some ⟨g66, 0, none⟩) 1 1), (20, .slice (some ⟨N76, 1, none⟩) 2 3), (21, .int .i64 2), (22, .int .i64 0), (24, .pointer (some ⟨N76, 1, none⟩))]) (by kernel_rfl) ?_
    refine t_v (.ldn rfl rfl rfl (.at 0 rfl rfl)) ?_
    refine t_a (.new rfl rfl) fun b77 fb77 sb77 => ?_
    refine t_sti 0 (cs := [.int .i64 t69, .int .i64 t70]) rfl rfl rfl rfl rfl rfl rfl rfl rfl ?_
    refine t_keep [2, 3, 8, 9, 10, 12, 20, 21, 22] (σ' := [(2, .int .i64 i2), (3, .int .i64 n3), (8, .pointer (some ⟨b64, 0, none⟩)), (9, .slice (some ⟨g65, 0, none⟩) 1 1), (10, .slice (some ⟨g66, 0, none⟩) 1 1), (12, .pointer (some ⟨b77, 0, none⟩)), (20, .slice (some ⟨N76, 1, none⟩) 2 3), (21, .int .i64 2), (22, .int .i64 0)]) (by kernel_rfl) ?_
    refine t_end ?_
    show W _ _ _ _ _ _ _
    refine w_kp [2, 3, 8, 9, 10, 12, 20, 21, 22] (σ' := [(2, .int .i64 i2), (3, .int .i64 n3), (8, .pointer (some ⟨b64, 0, none⟩)), (9, .slice (some ⟨g65, 0, none⟩) 1 1), (10, .slice (some ⟨g66, 0, none⟩) 1 1), (12, .pointer (some ⟨b77, 0, none⟩)), (20, .slice (some ⟨N76, 1, none⟩) 2 3), (21, .int .i64 2), (22, .int .i64 0)]) (by kernel_rfl) ?_
    refine w_gameQ mixed (by kernel_rfl) fun all G hend hstep hqf => ?_
    have hg_fff : ∀ (g81 ng81 g80 g79 ng79 g78 : Nat), G [true, true, true, true, true, true, true, true, true, true, true, true] [(2, .int .i64 i2), (3, .int .i64 n3), (8, .pointer (some ⟨b64, 0, none⟩)), (9, .slice (some ⟨g79, 0, none⟩) 2 (ng79 / 1)), (10, .slice (some ⟨g81, 0, none⟩) 2 (ng81 / 1)), (20, .slice (some ⟨N76, 1, none⟩) 2 3), (21, .int .i64 2), (22, .int .i64 0)] ([⟨g81, [.int .i64 a0_1, .int .i64 t70], ng81⟩, ⟨g80, [.int .i64 t70], 1⟩, ⟨g79, [.int .i64 a0_0, .int .i64 t69], ng79⟩, ⟨g78, [.int .i64 t69], 1⟩, ⟨b77, [.int .i64 t69, .int .i64 t70], 2⟩, ⟨N76, [.int .i64 t68, .int .i64 t69, .int .i64 t70, .int .i64 t71, .int .i64 t72, .int .i64 t73, .int .i64 t74], 7⟩, ⟨b64, [.int .i64 0, .int .i64 0], 2⟩, ⟨b63, [.int .i64 2, .int .i64 s1_1, .int .i64 s1_2, .int .i64 s1_3, .int .i64 s1_4, .int .i64 0, .int .i64 0], 7⟩, ⟨b62, [.int .i64 a0_0, .int .i64 a0_1], 2⟩] : List Own) := by
      intro g81 ng81 g80 g79 ng79 g78
      refine hend _ _ _ (by kernel_rfl) ?_
      show W _ _ _ _ _ _ _
      refine w_reg fun all => ?_
      refine t_qz 2 [2, 3, 8, 9, 10, 20, 21, 22] (σ' := [(2, .int .i64 i2), (3, .int .i64 n3), (8, .pointer (some ⟨b64, 0, none⟩)), (9, .slice (some ⟨g79, 0, none⟩) 2 (ng79 / 1)), (10, .slice (some ⟨g81, 0, none⟩) 2 (ng81 / 1)), (20, .slice (some ⟨N76, 1, none⟩) 2 3), (21, .int .i64 2), (22, .int .i64 1)]) (by kernel_rfl) ?_
      refine t_end ?_
      show WL _ _ _ _ _ _ _ _
      refine wl_step ?_
      refine w_seq ?_
      refine w_reg fun all => ?_
      refine t_qz 1 [2, 3, 8, 9, 10, 20, 21, 22, 23] (σ' := [(2, .int .i64 i2), (3, .int .i64 n3), (8, .pointer (some ⟨b64, 0, none⟩)), (9, .slice (some ⟨g79, 0, none⟩) 2 (ng79 / 1)), (10, .slice (some ⟨g81, 0, none⟩) 2 (ng81 / 1)), (20, .slice (some ⟨N76, 1, none⟩) 2 3), (21, .int .i64 2), (22, .int .i64 1), (23, .bool true)]) (by kernel_rfl) ?_
      refine t_end ?_
      show W _ _ _ _ _ _ _
      refine w_seq ?_
      refine w_cond rfl (fun _ => ?_) (fun c_ => by cases c_)
      show W _ _ _ _ _ _ _
      refine w_skip ?_
      show W _ _ _ _ _ _ _
      refine w_seq ?_
      refine w_block ?_
      refine w_seq ?_
      refine w_reg fun all => ?_
      refine t_qz 1 [2, 3, 8, 9, 10, 20, 21, 22, 24] (σ' := [(2, .int .i64 i2), (3, .int .i64 n3), (8, .pointer (some ⟨b64, 0, none⟩)), (9, .slice (some ⟨g79, 0, none⟩) 2 (ng79 / 1)), (10, .slice (some ⟨g81, 0, none⟩) 2 (ng81 / 1)), (20, .slice (some ⟨N76, 1, none⟩) 2 3), (21, .int .i64 2), (22, .int .i64 1), (24, .pointer (some ⟨N76, 3, none⟩))]) (by kernel_rfl) ?_
      refine t_v (.ldn rfl rfl rfl (.at 5 rfl rfl)) ?_
      refine t_a (.new rfl rfl) fun b82 fb82 sb82 => ?_
      refine t_sti 0 (cs := [.int .i64 t71, .int .i64 t72]) rfl rfl rfl rfl rfl rfl rfl rfl rfl ?_
      refine t_keep [2, 3, 8, 9, 10, 12, 20, 21, 22] (σ' := [(2, .int .i64 i2), (3, .int .i64 n3), (8, .pointer (some ⟨b64, 0, none⟩)), (9, .slice (some ⟨g79, 0, none⟩) 2 (ng79 / 1)), (10, .slice (some ⟨g81, 0, none⟩) 2 (ng81 / 1)), (12, .pointer (some ⟨b82, 0, none⟩)), (20, .slice (some ⟨N76, 1, none⟩) 2 3), (21, .int .i64 2), (22, .int .i64 1)]) (by kernel_rfl) ?_
      refine t_end ?_
      show W _ _ _ _ _ _ _
      refine w_kp [2, 3, 8, 9, 10, 12, 20, 21, 22] (σ' := [(2, .int .i64 i2), (3, .int .i64 n3), (8, .pointer (some ⟨b64, 0, none⟩)), (9, .slice (some ⟨g79, 0, none⟩) 2 (ng79 / 1)), (10, .slice (some ⟨g81, 0, none⟩) 2 (ng81 / 1)), (12, .pointer (some ⟨b82, 0, none⟩)), (20, .slice (some ⟨N76, 1, none⟩) 2 3), (21, .int .i64 2), (22, .int .i64 1)]) (by kernel_rfl) ?_
      refine w_gameQ mixed (by kernel_rfl) fun all G hend hstep hqf => ?_
      have hg_fff : ∀ (g86 ng86 g85 g84 ng84 g83 : Nat), G [true, true, true, true, true, true, true, true, true, true, true, true] [(2, .int .i64 i2), (3, .int .i64 n3), (8, .pointer (some ⟨b64, 0, none⟩)), (9, .slice (some ⟨g84, 0, none⟩) 3 (ng84 / 1)), (10, .slice (some ⟨g86, 0, none⟩) 3 (ng86 / 1)), (20, .slice (some ⟨N76, 1, none⟩) 2 3), (21, .int .i64 2), (22, .int .i64 1)] ([⟨g86, [.int .i64 a0_1, .int .i64 t70, .int .i64 t72], ng86⟩, ⟨g85, [.int .i64 t72], 1⟩, ⟨g84, [.int .i64 a0_0, .int .i64 t69, .int .i64 t71], ng84⟩, ⟨g83, [.int .i64 t71], 1⟩, ⟨b82, [.int .i64 t71, .int .i64 t72], 2⟩, ⟨g80, [.int .i64 t70], 1⟩, ⟨g78, [.int .i64 t69], 1⟩, ⟨b77, [.int .i64 t69, .int .i64 t70], 2⟩, ⟨N76, [.int .i64 t68, .int .i64 t69, .int .i64 t70, .int .i64 t71, .int .i64 t72, .int .i64 t73, .int .i64 t74], 7⟩, ⟨b64, [.int .i64 0, .int .i64 0], 2⟩, ⟨b63, [.int .i64 2, .int .i64 s1_1, .int .i64 s1_2, .int .i64 s1_3, .int .i64 s1_4, .int .i64 0, .int .i64 0], 7⟩, ⟨b62, [.int .i64 a0_0, .int .i64 a0_1], 2⟩] : List Own) := by
        intro g86 ng86 g85 g84 ng84 g83
        refine hend _ _ _ (by kernel_rfl) ?_
        show W _ _ _ _ _ _ _
        refine w_reg fun all => ?_
        refine t_qz 2 [2, 3, 8, 9, 10, 20, 21, 22] (σ' := [(2, .int .i64 i2), (3, .int .i64 n3), (8, .pointer (some ⟨b64, 0, none⟩)), (9, .slice (some ⟨g84, 0, none⟩) 3 (ng84 / 1)), (10, .slice (some ⟨g86, 0, none⟩) 3 (ng86 / 1)), (20, .slice (some ⟨N76, 1, none⟩) 2 3), (21, .int .i64 2), (22, .int .i64 2)]) (by kernel_rfl) ?_
        refine t_end ?_
        show WL _ _ _ _ _ _ _ _
        refine wl_step ?_
        refine w_seq ?_
        refine w_reg fun all => ?_
        refine t_qz 1 [2, 3, 8, 9, 10, 20, 21, 22, 23] (σ' := [(2, .int .i64 i2), (3, .int .i64 n3), (8, .pointer (some ⟨b64, 0, none⟩)), (9, .slice (some ⟨g84, 0, none⟩) 3 (ng84 / 1)), (10, .slice (some ⟨g86, 0, none⟩) 3 (ng86 / 1)), (20, .slice (some ⟨N76, 1, none⟩) 2 3), (21, .int .i64 2), (22, .int .i64 2), (23, .bool false)]) (by kernel_rfl) ?_
        refine t_end ?_
        show W _ _ _ _ _ _ _
        refine w_seq ?_
        refine w_cond rfl (fun c_ => by cases c_) (fun _ => ?_)
        show W _ _ _ _ _ _ _
        refine w_exit ?_
        show W _ _ _ _ _ _ _
        refine w_seq ?_
        refine w_reg fun all => ?_
        obtain ⟨t89, h90, e⟩ := bind_of e
        refine t_qz 3 [2, 3, 8, 10, 37, 38, 39] (σ' := [(2, .int .i64 i2), (3, .int .i64 n3), (8, .pointer (some ⟨b64, 0, none⟩)), (10, .slice (some ⟨g86, 0, none⟩) 3 (ng86 / 1)), (37, .int .i64 i2), (38, .int .i64 n3), (39, .slice (some ⟨g84, 0, none⟩) 3 (ng84 / 1))]) (by kernel_rfl) ?_
        refine t_v (.callr (vs := [.int .i64 i2, .int .i64 n3, .slice (some ⟨g84, 0, none⟩) 3 (ng84 / 1)]) (A := ([⟨g84, [.int .i64 a0_0, .int .i64 t69, .int .i64 t71], ng84⟩] : List Own)) (F0 := ([⟨g86, [.int .i64 a0_1, .int .i64 t70, .int .i64 t72], ng86⟩, ⟨g85, [.int .i64 t72], 1⟩, ⟨g83, [.int .i64 t71], 1⟩, ⟨b82, [.int .i64 t71, .int .i64 t72], 2⟩, ⟨g80, [.int .i64 t70], 1⟩, ⟨g78, [.int .i64 t69], 1⟩, ⟨b77, [.int .i64 t69, .int .i64 t70], 2⟩, ⟨N76, [.int .i64 t68, .int .i64 t69, .int .i64 t70, .int .i64 t71, .int .i64 t72, .int .i64 t73, .int .i64 t74], 7⟩, ⟨b64, [.int .i64 0, .int .i64 0], 2⟩, ⟨b63, [.int .i64 2, .int .i64 s1_1, .int .i64 s1_2, .int .i64 s1_3, .int .i64 s1_4, .int .i64 0, .int .i64 0], 7⟩, ⟨b62, [.int .i64 a0_0, .int .i64 a0_1], 2⟩] : List Own)) rfl rfl (by kernel_rfl) (sel_perm (is := [2]) (by kernel_rfl)) (flatten_mix_v3.ok h90)) ?_
        obtain ⟨t91, h92, e⟩ := bind_of e
        refine t_qz 3 [8, 40, 41, 42, 43] (σ' := [(8, .pointer (some ⟨b64, 0, none⟩)), (40, .int .i64 t89), (41, .int .i64 i2), (42, .int .i64 n3), (43, .slice (some ⟨g86, 0, none⟩) 3 (ng86 / 1))]) (by kernel_rfl) ?_
        refine t_v (.callr (vs := [.int .i64 i2, .int .i64 n3, .slice (some ⟨g86, 0, none⟩) 3 (ng86 / 1)]) (A := ([⟨g86, [.int .i64 a0_1, .int .i64 t70, .int .i64 t72], ng86⟩] : List Own)) (F0 := ([⟨g85, [.int .i64 t72], 1⟩, ⟨g84, [.int .i64 a0_0, .int .i64 t69, .int .i64 t71], ng84⟩, ⟨g83, [.int .i64 t71], 1⟩, ⟨b82, [.int .i64 t71, .int .i64 t72], 2⟩, ⟨g80, [.int .i64 t70], 1⟩, ⟨g78, [.int .i64 t69], 1⟩, ⟨b77, [.int .i64 t69, .int .i64 t70], 2⟩, ⟨N76, [.int .i64 t68, .int .i64 t69, .int .i64 t70, .int .i64 t71, .int .i64 t72, .int .i64 t73, .int .i64 t74], 7⟩, ⟨b64, [.int .i64 0, .int .i64 0], 2⟩, ⟨b63, [.int .i64 2, .int .i64 s1_1, .int .i64 s1_2, .int .i64 s1_3, .int .i64 s1_4, .int .i64 0, .int .i64 0], 7⟩, ⟨b62, [.int .i64 a0_0, .int .i64 a0_1], 2⟩] : List Own)) rfl rfl (by kernel_rfl) (sel_perm (is := [0]) (by kernel_rfl)) (flatten_mix_v3.ok h92)) ?_
        refine t_qz 1 [8, 45] (σ' := [(8, .pointer (some ⟨b64, 0, none⟩)), (45, .agg #[.int .i64 t89, .int .i64 t91])]) (by kernel_rfl) ?_
        refine t_sti 9 (cs := [.int .i64 t89, .int .i64 t91]) rfl rfl rfl rfl rfl rfl rfl rfl rfl ?_
        refine t_keep [8] (σ' := [(8, .pointer (some ⟨b64, 0, none⟩))]) (by kernel_rfl) ?_
        refine t_end ?_
        show W _ _ _ _ _ _ _
        refine w_ret ?_
        simp only [Option.some.injEq, Prod.mk.injEq] at e
        obtain ⟨rfl, rfl⟩ := e
        exact ⟨[.agg #[.int .i64 t89, .int .i64 t91]], [], S, ⟨⟨_, _, _, rfl, .at 9 rfl rfl, rfl⟩, trivial⟩, VS.none, rfl, rfl, rfl⟩
      have hg_7ff : ∀ (g86 ng86 g85 g84 ng84 g83 : Nat), G [true, true, true, true, true, true, true, true, true, true, true, false] [(2, .int .i64 i2), (3, .int .i64 n3), (8, .pointer (some ⟨b64, 0, none⟩)), (9, .slice (some ⟨g84, 0, none⟩) 3 (ng84 / 1)), (10, .slice (some ⟨g81, 0, none⟩) 2 (ng81 / 1)), (20, .slice (some ⟨N76, 1, none⟩) 2 3), (21, .int .i64 2), (22, .int .i64 1), (35, .slice (some ⟨g86, 0, none⟩) 3 (ng86 / 1))] ([⟨g86, [.int .i64 a0_1, .int .i64 t70, .int .i64 t72], ng86⟩, ⟨g85, [.int .i64 t72], 1⟩, ⟨g84, [.int .i64 a0_0, .int .i64 t69, .int .i64 t71], ng84⟩, ⟨g83, [.int .i64 t71], 1⟩, ⟨b82, [.int .i64 t71, .int .i64 t72], 2⟩, ⟨g80, [.int .i64 t70], 1⟩, ⟨g78, [.int .i64 t69], 1⟩, ⟨b77, [.int .i64 t69, .int .i64 t70], 2⟩, ⟨N76, [.int .i64 t68, .int .i64 t69, .int .i64 t70, .int .i64 t71, .int .i64 t72, .int .i64 t73, .int .i64 t74], 7⟩, ⟨b64, [.int .i64 0, .int .i64 0], 2⟩, ⟨b63, [.int .i64 2, .int .i64 s1_1, .int .i64 s1_2, .int .i64 s1_3, .int .i64 s1_4, .int .i64 0, .int .i64 0], 7⟩, ⟨b62, [.int .i64 a0_0, .int .i64 a0_1], 2⟩] : List Own) := by
        intro g86 ng86 g85 g84 ng84 g83
        exact hqf 11 [2, 3, 8, 9, 10, 20, 21, 22] _ _ _ [(2, .int .i64 i2), (3, .int .i64 n3), (8, .pointer (some ⟨b64, 0, none⟩)), (9, .slice (some ⟨g84, 0, none⟩) 3 (ng84 / 1)), (10, .slice (some ⟨g86, 0, none⟩) 3 (ng86 / 1)), (20, .slice (some ⟨N76, 1, none⟩) 2 3), (21, .int .i64 2), (22, .int .i64 1)] (by kernel_rfl) (by kernel_rfl) (hg_fff g86 ng86 g85 g84 ng84 g83)
      have hg_3ff : ∀ (g86 ng86 g85 g84 ng84 g83 : Nat), G [true, true, true, true, true, true, true, true, true, true, false, false] [(2, .int .i64 i2), (3, .int .i64 n3), (8, .pointer (some ⟨b64, 0, none⟩)), (9, .slice (some ⟨g79, 0, none⟩) 2 (ng79 / 1)), (10, .slice (some ⟨g81, 0, none⟩) 2 (ng81 / 1)), (20, .slice (some ⟨N76, 1, none⟩) 2 3), (21, .int .i64 2), (22, .int .i64 1), (30, .slice (some ⟨g84, 0, none⟩) 3 (ng84 / 1)), (35, .slice (some ⟨g86, 0, none⟩) 3 (ng86 / 1))] ([⟨g86, [.int .i64 a0_1, .int .i64 t70, .int .i64 t72], ng86⟩, ⟨g85, [.int .i64 t72], 1⟩, ⟨g84, [.int .i64 a0_0, .int .i64 t69, .int .i64 t71], ng84⟩, ⟨g83, [.int .i64 t71], 1⟩, ⟨b82, [.int .i64 t71, .int .i64 t72], 2⟩, ⟨g80, [.int .i64 t70], 1⟩, ⟨g78, [.int .i64 t69], 1⟩, ⟨b77, [.int .i64 t69, .int .i64 t70], 2⟩, ⟨N76, [.int .i64 t68, .int .i64 t69, .int .i64 t70, .int .i64 t71, .int .i64 t72, .int .i64 t73, .int .i64 t74], 7⟩, ⟨b64, [.int .i64 0, .int .i64 0], 2⟩, ⟨b63, [.int .i64 2, .int .i64 s1_1, .int .i64 s1_2, .int .i64 s1_3, .int .i64 s1_4, .int .i64 0, .int .i64 0], 7⟩, ⟨b62, [.int .i64 a0_0, .int .i64 a0_1], 2⟩] : List Own) := by
        intro g86 ng86 g85 g84 ng84 g83
        exact hqf 10 [2, 3, 8, 9, 10, 20, 21, 22, 35] _ _ _ [(2, .int .i64 i2), (3, .int .i64 n3), (8, .pointer (some ⟨b64, 0, none⟩)), (9, .slice (some ⟨g84, 0, none⟩) 3 (ng84 / 1)), (10, .slice (some ⟨g81, 0, none⟩) 2 (ng81 / 1)), (20, .slice (some ⟨N76, 1, none⟩) 2 3), (21, .int .i64 2), (22, .int .i64 1), (35, .slice (some ⟨g86, 0, none⟩) 3 (ng86 / 1))] (by kernel_rfl) (by kernel_rfl) (hg_7ff g86 ng86 g85 g84 ng84 g83)
      have hg_1ff : ∀ (g85 g84 ng84 g83 : Nat), G [true, true, true, true, true, true, true, true, true, false, false, false] [(2, .int .i64 i2), (3, .int .i64 n3), (8, .pointer (some ⟨b64, 0, none⟩)), (9, .slice (some ⟨g79, 0, none⟩) 2 (ng79 / 1)), (10, .slice (some ⟨g81, 0, none⟩) 2 (ng81 / 1)), (20, .slice (some ⟨N76, 1, none⟩) 2 3), (21, .int .i64 2), (22, .int .i64 1), (30, .slice (some ⟨g84, 0, none⟩) 3 (ng84 / 1)), (31, .slice (some ⟨g81, 0, none⟩) 2 (ng81 / 1)), (34, .slice (some ⟨g85, 0, none⟩) 1 1)] ([⟨g85, [.int .i64 t72], 1⟩, ⟨g84, [.int .i64 a0_0, .int .i64 t69, .int .i64 t71], ng84⟩, ⟨g83, [.int .i64 t71], 1⟩, ⟨b82, [.int .i64 t71, .int .i64 t72], 2⟩, ⟨g81, [.int .i64 a0_1, .int .i64 t70], ng81⟩, ⟨g80, [.int .i64 t70], 1⟩, ⟨g78, [.int .i64 t69], 1⟩, ⟨b77, [.int .i64 t69, .int .i64 t70], 2⟩, ⟨N76, [.int .i64 t68, .int .i64 t69, .int .i64 t70, .int .i64 t71, .int .i64 t72, .int .i64 t73, .int .i64 t74], 7⟩, ⟨b64, [.int .i64 0, .int .i64 0], 2⟩, ⟨b63, [.int .i64 2, .int .i64 s1_1, .int .i64 s1_2, .int .i64 s1_3, .int .i64 s1_4, .int .i64 0, .int .i64 0], 7⟩, ⟨b62, [.int .i64 a0_0, .int .i64 a0_1], 2⟩] : List Own) := by
        intro g85 g84 ng84 g83
        refine hstep [9] _ _ _ (by kernel_rfl) (List.cons_ne_nil _ _) ⟨?_, trivial⟩
        · show T _ _ _ _ _ _ _ _
          refine t_app1 (cs := [.int .i64 a0_1, .int .i64 t70]) (M := ng81) (F := ([⟨g85, [.int .i64 t72], 1⟩, ⟨g84, [.int .i64 a0_0, .int .i64 t69, .int .i64 t71], ng84⟩, ⟨g83, [.int .i64 t71], 1⟩, ⟨b82, [.int .i64 t71, .int .i64 t72], 2⟩, ⟨g80, [.int .i64 t70], 1⟩, ⟨g78, [.int .i64 t69], 1⟩, ⟨b77, [.int .i64 t69, .int .i64 t70], 2⟩, ⟨N76, [.int .i64 t68, .int .i64 t69, .int .i64 t70, .int .i64 t71, .int .i64 t72, .int .i64 t73, .int .i64 t74], 7⟩, ⟨b64, [.int .i64 0, .int .i64 0], 2⟩, ⟨b63, [.int .i64 2, .int .i64 s1_1, .int .i64 s1_2, .int .i64 s1_3, .int .i64 s1_4, .int .i64 0, .int .i64 0], 7⟩, ⟨b62, [.int .i64 a0_0, .int .i64 a0_1], 2⟩] : List Own)) (news := [.int .i64 t72]) rfl rfl rfl rfl (sel_perm (is := [4]) (by kernel_rfl)) (.at 0 rfl rfl) (by kernel_rfl) rfl rfl (by decide) (by decide) rfl fun g86 ng86 => ?_
          refine t_keep [2, 3, 8, 9, 10, 20, 21, 22, 30, 35] (σ' := [(2, .int .i64 i2), (3, .int .i64 n3), (8, .pointer (some ⟨b64, 0, none⟩)), (9, .slice (some ⟨g79, 0, none⟩) 2 (ng79 / 1)), (10, .slice (some ⟨g81, 0, none⟩) 2 (ng81 / 1)), (20, .slice (some ⟨N76, 1, none⟩) 2 3), (21, .int .i64 2), (22, .int .i64 1), (30, .slice (some ⟨g84, 0, none⟩) 3 (ng84 / 1)), (35, .slice (some ⟨g86, 0, none⟩) 3 (ng86 / 1))]) (by kernel_rfl) ?_
          refine t_end ?_
          exact ⟨hg_3ff g86 ng86 g85 g84 ng84 g83, rfl⟩
      have hg_ff : ∀ (g84 ng84 g83 : Nat), G [true, true, true, true, true, true, true, true, false, false, false, false] [(2, .int .i64 i2), (3, .int .i64 n3), (8, .pointer (some ⟨b64, 0, none⟩)), (9, .slice (some ⟨g79, 0, none⟩) 2 (ng79 / 1)), (10, .slice (some ⟨g81, 0, none⟩) 2 (ng81 / 1)), (20, .slice (some ⟨N76, 1, none⟩) 2 3), (21, .int .i64 2), (22, .int .i64 1), (30, .slice (some ⟨g84, 0, none⟩) 3 (ng84 / 1)), (31, .slice (some ⟨g81, 0, none⟩) 2 (ng81 / 1)), (33, .int .i64 t72)] ([⟨g84, [.int .i64 a0_0, .int .i64 t69, .int .i64 t71], ng84⟩, ⟨g83, [.int .i64 t71], 1⟩, ⟨b82, [.int .i64 t71, .int .i64 t72], 2⟩, ⟨g81, [.int .i64 a0_1, .int .i64 t70], ng81⟩, ⟨g80, [.int .i64 t70], 1⟩, ⟨g78, [.int .i64 t69], 1⟩, ⟨b77, [.int .i64 t69, .int .i64 t70], 2⟩, ⟨N76, [.int .i64 t68, .int .i64 t69, .int .i64 t70, .int .i64 t71, .int .i64 t72, .int .i64 t73, .int .i64 t74], 7⟩, ⟨b64, [.int .i64 0, .int .i64 0], 2⟩, ⟨b63, [.int .i64 2, .int .i64 s1_1, .int .i64 s1_2, .int .i64 s1_3, .int .i64 s1_4, .int .i64 0, .int .i64 0], 7⟩, ⟨b62, [.int .i64 a0_0, .int .i64 a0_1], 2⟩] : List Own) := by
        intro g84 ng84 g83
        refine hstep [8] _ _ _ (by kernel_rfl) (List.cons_ne_nil _ _) ⟨?_, trivial⟩
        · show T _ _ _ _ _ _ _ _
          refine t_a (.bsl rfl rfl rfl rfl) fun g85 fg85 sg85 => ?_
          refine t_keep [2, 3, 8, 9, 10, 20, 21, 22, 30, 31, 34] (σ' := [(2, .int .i64 i2), (3, .int .i64 n3), (8, .pointer (some ⟨b64, 0, none⟩)), (9, .slice (some ⟨g79, 0, none⟩) 2 (ng79 / 1)), (10, .slice (some ⟨g81, 0, none⟩) 2 (ng81 / 1)), (20, .slice (some ⟨N76, 1, none⟩) 2 3), (21, .int .i64 2), (22, .int .i64 1), (30, .slice (some ⟨g84, 0, none⟩) 3 (ng84 / 1)), (31, .slice (some ⟨g81, 0, none⟩) 2 (ng81 / 1)), (34, .slice (some ⟨g85, 0, none⟩) 1 1)]) (by kernel_rfl) ?_
          refine t_end ?_
          exact ⟨hg_1ff g85 g84 ng84 g83, rfl⟩
      have hg_1ef : ∀ (g85 g83 : Nat), G [true, true, true, true, false, true, true, true, true, false, false, false] [(2, .int .i64 i2), (3, .int .i64 n3), (8, .pointer (some ⟨b64, 0, none⟩)), (9, .slice (some ⟨g79, 0, none⟩) 2 (ng79 / 1)), (10, .slice (some ⟨g81, 0, none⟩) 2 (ng81 / 1)), (20, .slice (some ⟨N76, 1, none⟩) 2 3), (21, .int .i64 2), (22, .int .i64 1), (26, .slice (some ⟨g79, 0, none⟩) 2 (ng79 / 1)), (29, .slice (some ⟨g83, 0, none⟩) 1 1), (31, .slice (some ⟨g81, 0, none⟩) 2 (ng81 / 1)), (34, .slice (some ⟨g85, 0, none⟩) 1 1)] ([⟨g85, [.int .i64 t72], 1⟩, ⟨g83, [.int .i64 t71], 1⟩, ⟨b82, [.int .i64 t71, .int .i64 t72], 2⟩, ⟨g81, [.int .i64 a0_1, .int .i64 t70], ng81⟩, ⟨g80, [.int .i64 t70], 1⟩, ⟨g79, [.int .i64 a0_0, .int .i64 t69], ng79⟩, ⟨g78, [.int .i64 t69], 1⟩, ⟨b77, [.int .i64 t69, .int .i64 t70], 2⟩, ⟨N76, [.int .i64 t68, .int .i64 t69, .int .i64 t70, .int .i64 t71, .int .i64 t72, .int .i64 t73, .int .i64 t74], 7⟩, ⟨b64, [.int .i64 0, .int .i64 0], 2⟩, ⟨b63, [.int .i64 2, .int .i64 s1_1, .int .i64 s1_2, .int .i64 s1_3, .int .i64 s1_4, .int .i64 0, .int .i64 0], 7⟩, ⟨b62, [.int .i64 a0_0, .int .i64 a0_1], 2⟩] : List Own) := by
        intro g85 g83
        refine hstep [4] _ _ _ (by kernel_rfl) (List.cons_ne_nil _ _) ⟨?_, trivial⟩
        · show T _ _ _ _ _ _ _ _
          refine t_app1 (cs := [.int .i64 a0_0, .int .i64 t69]) (M := ng79) (F := ([⟨g85, [.int .i64 t72], 1⟩, ⟨g83, [.int .i64 t71], 1⟩, ⟨b82, [.int .i64 t71, .int .i64 t72], 2⟩, ⟨g81, [.int .i64 a0_1, .int .i64 t70], ng81⟩, ⟨g80, [.int .i64 t70], 1⟩, ⟨g78, [.int .i64 t69], 1⟩, ⟨b77, [.int .i64 t69, .int .i64 t70], 2⟩, ⟨N76, [.int .i64 t68, .int .i64 t69, .int .i64 t70, .int .i64 t71, .int .i64 t72, .int .i64 t73, .int .i64 t74], 7⟩, ⟨b64, [.int .i64 0, .int .i64 0], 2⟩, ⟨b63, [.int .i64 2, .int .i64 s1_1, .int .i64 s1_2, .int .i64 s1_3, .int .i64 s1_4, .int .i64 0, .int .i64 0], 7⟩, ⟨b62, [.int .i64 a0_0, .int .i64 a0_1], 2⟩] : List Own)) (news := [.int .i64 t71]) rfl rfl rfl rfl (sel_perm (is := [5]) (by kernel_rfl)) (.at 1 rfl rfl) (by kernel_rfl) rfl rfl (by decide) (by decide) rfl fun g84 ng84 => ?_
          refine t_keep [2, 3, 8, 9, 10, 20, 21, 22, 30, 31, 34] (σ' := [(2, .int .i64 i2), (3, .int .i64 n3), (8, .pointer (some ⟨b64, 0, none⟩)), (9, .slice (some ⟨g79, 0, none⟩) 2 (ng79 / 1)), (10, .slice (some ⟨g81, 0, none⟩) 2 (ng81 / 1)), (20, .slice (some ⟨N76, 1, none⟩) 2 3), (21, .int .i64 2), (22, .int .i64 1), (30, .slice (some ⟨g84, 0, none⟩) 3 (ng84 / 1)), (31, .slice (some ⟨g81, 0, none⟩) 2 (ng81 / 1)), (34, .slice (some ⟨g85, 0, none⟩) 1 1)]) (by kernel_rfl) ?_
          refine t_vs (H' := ([⟨g85, [.int .i64 t72], 1⟩, ⟨g84, [.int .i64 a0_0, .int .i64 t69, .int .i64 t71], ng84⟩, ⟨g83, [.int .i64 t71], 1⟩, ⟨b82, [.int .i64 t71, .int .i64 t72], 2⟩, ⟨g81, [.int .i64 a0_1, .int .i64 t70], ng81⟩, ⟨g80, [.int .i64 t70], 1⟩, ⟨g78, [.int .i64 t69], 1⟩, ⟨b77, [.int .i64 t69, .int .i64 t70], 2⟩, ⟨N76, [.int .i64 t68, .int .i64 t69, .int .i64 t70, .int .i64 t71, .int .i64 t72, .int .i64 t73, .int .i64 t74], 7⟩, ⟨b64, [.int .i64 0, .int .i64 0], 2⟩, ⟨b63, [.int .i64 2, .int .i64 s1_1, .int .i64 s1_2, .int .i64 s1_3, .int .i64 s1_4, .int .i64 0, .int .i64 0], 7⟩, ⟨b62, [.int .i64 a0_0, .int .i64 a0_1], 2⟩] : List Own)) (S' := S) (VS.sel [1, 0, 0, 0, 0, 0, 0, 0, 0, 0, 0, 0] (by kernel_rfl)) ?_
          refine t_end ?_
          exact ⟨hg_1ff g85 g84 ng84 g83, rfl⟩
      have hg_1e7 : ∀ (g85 : Nat), G [true, true, true, false, false, true, true, true, true, false, false, false] [(2, .int .i64 i2), (3, .int .i64 n3), (8, .pointer (some ⟨b64, 0, none⟩)), (9, .slice (some ⟨g79, 0, none⟩) 2 (ng79 / 1)), (10, .slice (some ⟨g81, 0, none⟩) 2 (ng81 / 1)), (20, .slice (some ⟨N76, 1, none⟩) 2 3), (21, .int .i64 2), (22, .int .i64 1), (26, .slice (some ⟨g79, 0, none⟩) 2 (ng79 / 1)), (28, .int .i64 t71), (31, .slice (some ⟨g81, 0, none⟩) 2 (ng81 / 1)), (34, .slice (some ⟨g85, 0, none⟩) 1 1)] ([⟨g85, [.int .i64 t72], 1⟩, ⟨b82, [.int .i64 t71, .int .i64 t72], 2⟩, ⟨g81, [.int .i64 a0_1, .int .i64 t70], ng81⟩, ⟨g80, [.int .i64 t70], 1⟩, ⟨g79, [.int .i64 a0_0, .int .i64 t69], ng79⟩, ⟨g78, [.int .i64 t69], 1⟩, ⟨b77, [.int .i64 t69, .int .i64 t70], 2⟩, ⟨N76, [.int .i64 t68, .int .i64 t69, .int .i64 t70, .int .i64 t71, .int .i64 t72, .int .i64 t73, .int .i64 t74], 7⟩, ⟨b64, [.int .i64 0, .int .i64 0], 2⟩, ⟨b63, [.int .i64 2, .int .i64 s1_1, .int .i64 s1_2, .int .i64 s1_3, .int .i64 s1_4, .int .i64 0, .int .i64 0], 7⟩, ⟨b62, [.int .i64 a0_0, .int .i64 a0_1], 2⟩] : List Own) := by
        intro g85
        refine hstep [3] _ _ _ (by kernel_rfl) (List.cons_ne_nil _ _) ⟨?_, trivial⟩
        · show T _ _ _ _ _ _ _ _
          refine t_a (.bsl rfl rfl rfl rfl) fun g83 fg83 sg83 => ?_
          refine t_keep [2, 3, 8, 9, 10, 20, 21, 22, 26, 29, 31, 34] (σ' := [(2, .int .i64 i2), (3, .int .i64 n3), (8, .pointer (some ⟨b64, 0, none⟩)), (9, .slice (some ⟨g79, 0, none⟩) 2 (ng79 / 1)), (10, .slice (some ⟨g81, 0, none⟩) 2 (ng81 / 1)), (20, .slice (some ⟨N76, 1, none⟩) 2 3), (21, .int .i64 2), (22, .int .i64 1), (26, .slice (some ⟨g79, 0, none⟩) 2 (ng79 / 1)), (29, .slice (some ⟨g83, 0, none⟩) 1 1), (31, .slice (some ⟨g81, 0, none⟩) 2 (ng81 / 1)), (34, .slice (some ⟨g85, 0, none⟩) 1 1)]) (by kernel_rfl) ?_
          refine t_vs (H' := ([⟨g85, [.int .i64 t72], 1⟩, ⟨g83, [.int .i64 t71], 1⟩, ⟨b82, [.int .i64 t71, .int .i64 t72], 2⟩, ⟨g81, [.int .i64 a0_1, .int .i64 t70], ng81⟩, ⟨g80, [.int .i64 t70], 1⟩, ⟨g79, [.int .i64 a0_0, .int .i64 t69], ng79⟩, ⟨g78, [.int .i64 t69], 1⟩, ⟨b77, [.int .i64 t69, .int .i64 t70], 2⟩, ⟨N76, [.int .i64 t68, .int .i64 t69, .int .i64 t70, .int .i64 t71, .int .i64 t72, .int .i64 t73, .int .i64 t74], 7⟩, ⟨b64, [.int .i64 0, .int .i64 0], 2⟩, ⟨b63, [.int .i64 2, .int .i64 s1_1, .int .i64 s1_2, .int .i64 s1_3, .int .i64 s1_4, .int .i64 0, .int .i64 0], 7⟩, ⟨b62, [.int .i64 a0_0, .int .i64 a0_1], 2⟩] : List Own)) (S' := S) (VS.sel [1, 0, 0, 0, 0, 0, 0, 0, 0, 0, 0, 0] (by kernel_rfl)) ?_
          refine t_end ?_
          exact ⟨hg_1ef g85 g83, rfl⟩
      have hg_ef : ∀ (g83 : Nat), G [true, true, true, true, false, true, true, true, false, false, false, false] [(2, .int .i64 i2), (3, .int .i64 n3), (8, .pointer (some ⟨b64, 0, none⟩)), (9, .slice (some ⟨g79, 0, none⟩) 2 (ng79 / 1)), (10, .slice (some ⟨g81, 0, none⟩) 2 (ng81 / 1)), (20, .slice (some ⟨N76, 1, none⟩) 2 3), (21, .int .i64 2), (22, .int .i64 1), (26, .slice (some ⟨g79, 0, none⟩) 2 (ng79 / 1)), (29, .slice (some ⟨g83, 0, none⟩) 1 1), (31, .slice (some ⟨g81, 0, none⟩) 2 (ng81 / 1)), (33, .int .i64 t72)] ([⟨g83, [.int .i64 t71], 1⟩, ⟨b82, [.int .i64 t71, .int .i64 t72], 2⟩, ⟨g81, [.int .i64 a0_1, .int .i64 t70], ng81⟩, ⟨g80, [.int .i64 t70], 1⟩, ⟨g79, [.int .i64 a0_0, .int .i64 t69], ng79⟩, ⟨g78, [.int .i64 t69], 1⟩, ⟨b77, [.int .i64 t69, .int .i64 t70], 2⟩, ⟨N76, [.int .i64 t68, .int .i64 t69, .int .i64 t70, .int .i64 t71, .int .i64 t72, .int .i64 t73, .int .i64 t74], 7⟩, ⟨b64, [.int .i64 0, .int .i64 0], 2⟩, ⟨b63, [.int .i64 2, .int .i64 s1_1, .int .i64 s1_2, .int .i64 s1_3, .int .i64 s1_4, .int .i64 0, .int .i64 0], 7⟩, ⟨b62, [.int .i64 a0_0, .int .i64 a0_1], 2⟩] : List Own) := by
        intro g83
        refine hstep [4, 8] _ _ _ (by kernel_rfl) (List.cons_ne_nil _ _) ⟨?_, ?_, trivial⟩
        · show T _ _ _ _ _ _ _ _
          refine t_app1 (cs := [.int .i64 a0_0, .int .i64 t69]) (M := ng79) (F := ([⟨g83, [.int .i64 t71], 1⟩, ⟨b82, [.int .i64 t71, .int .i64 t72], 2⟩, ⟨g81, [.int .i64 a0_1, .int .i64 t70], ng81⟩, ⟨g80, [.int .i64 t70], 1⟩, ⟨g78, [.int .i64 t69], 1⟩, ⟨b77, [.int .i64 t69, .int .i64 t70], 2⟩, ⟨N76, [.int .i64 t68, .int .i64 t69, .int .i64 t70, .int .i64 t71, .int .i64 t72, .int .i64 t73, .int .i64 t74], 7⟩, ⟨b64, [.int .i64 0, .int .i64 0], 2⟩, ⟨b63, [.int .i64 2, .int .i64 s1_1, .int .i64 s1_2, .int .i64 s1_3, .int .i64 s1_4, .int .i64 0, .int .i64 0], 7⟩, ⟨b62, [.int .i64 a0_0, .int .i64 a0_1], 2⟩] : List Own)) (news := [.int .i64 t71]) rfl rfl rfl rfl (sel_perm (is := [4]) (by kernel_rfl)) (.at 0 rfl rfl) (by kernel_rfl) rfl rfl (by decide) (by decide) rfl fun g84 ng84 => ?_
          refine t_keep [2, 3, 8, 9, 10, 20, 21, 22, 30, 31, 33] (σ' := [(2, .int .i64 i2), (3, .int .i64 n3), (8, .pointer (some ⟨b64, 0, none⟩)), (9, .slice (some ⟨g79, 0, none⟩) 2 (ng79 / 1)), (10, .slice (some ⟨g81, 0, none⟩) 2 (ng81 / 1)), (20, .slice (some ⟨N76, 1, none⟩) 2 3), (21, .int .i64 2), (22, .int .i64 1), (30, .slice (some ⟨g84, 0, none⟩) 3 (ng84 / 1)), (31, .slice (some ⟨g81, 0, none⟩) 2 (ng81 / 1)), (33, .int .i64 t72)]) (by kernel_rfl) ?_
          refine t_end ?_
          exact ⟨hg_ff g84 ng84 g83, rfl⟩
        · show T _ _ _ _ _ _ _ _
          refine t_a (.bsl rfl rfl rfl rfl) fun g85 fg85 sg85 => ?_
          refine t_keep [2, 3, 8, 9, 10, 20, 21, 22, 26, 29, 31, 34] (σ' := [(2, .int .i64 i2), (3, .int .i64 n3), (8, .pointer (some ⟨b64, 0, none⟩)), (9, .slice (some ⟨g79, 0, none⟩) 2 (ng79 / 1)), (10, .slice (some ⟨g81, 0, none⟩) 2 (ng81 / 1)), (20, .slice (some ⟨N76, 1, none⟩) 2 3), (21, .int .i64 2), (22, .int .i64 1), (26, .slice (some ⟨g79, 0, none⟩) 2 (ng79 / 1)), (29, .slice (some ⟨g83, 0, none⟩) 1 1), (31, .slice (some ⟨g81, 0, none⟩) 2 (ng81 / 1)), (34, .slice (some ⟨g85, 0, none⟩) 1 1)]) (by kernel_rfl) ?_
          refine t_end ?_
          exact ⟨hg_1ef g85 g83, rfl⟩
      have hg_7f : ∀ (g84 ng84 g83 : Nat), G [true, true, true, true, true, true, true, false, false, false, false, false] [(2, .int .i64 i2), (3, .int .i64 n3), (8, .pointer (some ⟨b64, 0, none⟩)), (9, .slice (some ⟨g79, 0, none⟩) 2 (ng79 / 1)), (10, .slice (some ⟨g81, 0, none⟩) 2 (ng81 / 1)), (20, .slice (some ⟨N76, 1, none⟩) 2 3), (21, .int .i64 2), (22, .int .i64 1), (30, .slice (some ⟨g84, 0, none⟩) 3 (ng84 / 1)), (31, .slice (some ⟨g81, 0, none⟩) 2 (ng81 / 1)), (32, .pointer (some ⟨b82, 1, none⟩))] ([⟨g84, [.int .i64 a0_0, .int .i64 t69, .int .i64 t71], ng84⟩, ⟨g83, [.int .i64 t71], 1⟩, ⟨b82, [.int .i64 t71, .int .i64 t72], 2⟩, ⟨g81, [.int .i64 a0_1, .int .i64 t70], ng81⟩, ⟨g80, [.int .i64 t70], 1⟩, ⟨g78, [.int .i64 t69], 1⟩, ⟨b77, [.int .i64 t69, .int .i64 t70], 2⟩, ⟨N76, [.int .i64 t68, .int .i64 t69, .int .i64 t70, .int .i64 t71, .int .i64 t72, .int .i64 t73, .int .i64 t74], 7⟩, ⟨b64, [.int .i64 0, .int .i64 0], 2⟩, ⟨b63, [.int .i64 2, .int .i64 s1_1, .int .i64 s1_2, .int .i64 s1_3, .int .i64 s1_4, .int .i64 0, .int .i64 0], 7⟩, ⟨b62, [.int .i64 a0_0, .int .i64 a0_1], 2⟩] : List Own) := by
        intro g84 ng84 g83
        refine hstep [7] _ _ _ (by kernel_rfl) (List.cons_ne_nil _ _) ⟨?_, trivial⟩
        · show T _ _ _ _ _ _ _ _
          refine t_v (.ld1 rfl rfl rfl (.at 2 rfl rfl)) ?_
          refine t_keep [2, 3, 8, 9, 10, 20, 21, 22, 30, 31, 33] (σ' := [(2, .int .i64 i2), (3, .int .i64 n3), (8, .pointer (some ⟨b64, 0, none⟩)), (9, .slice (some ⟨g79, 0, none⟩) 2 (ng79 / 1)), (10, .slice (some ⟨g81, 0, none⟩) 2 (ng81 / 1)), (20, .slice (some ⟨N76, 1, none⟩) 2 3), (21, .int .i64 2), (22, .int .i64 1), (30, .slice (some ⟨g84, 0, none⟩) 3 (ng84 / 1)), (31, .slice (some ⟨g81, 0, none⟩) 2 (ng81 / 1)), (33, .int .i64 t72)]) (by kernel_rfl) ?_
          refine t_end ?_
          exact ⟨hg_ff g84 ng84 g83, rfl⟩
      have hg_1e3 : ∀ (g85 : Nat), G [true, true, false, false, false, true, true, true, true, false, false, false] [(2, .int .i64 i2), (3, .int .i64 n3), (8, .pointer (some ⟨b64, 0, none⟩)), (9, .slice (some ⟨g79, 0, none⟩) 2 (ng79 / 1)), (10, .slice (some ⟨g81, 0, none⟩) 2 (ng81 / 1)), (20, .slice (some ⟨N76, 1, none⟩) 2 3), (21, .int .i64 2), (22, .int .i64 1), (26, .slice (some ⟨g79, 0, none⟩) 2 (ng79 / 1)), (27, .pointer (some ⟨b82, 0, none⟩)), (31, .slice (some ⟨g81, 0, none⟩) 2 (ng81 / 1)), (34, .slice (some ⟨g85, 0, none⟩) 1 1)] ([⟨g85, [.int .i64 t72], 1⟩, ⟨b82, [.int .i64 t71, .int .i64 t72], 2⟩, ⟨g81, [.int .i64 a0_1, .int .i64 t70], ng81⟩, ⟨g80, [.int .i64 t70], 1⟩, ⟨g79, [.int .i64 a0_0, .int .i64 t69], ng79⟩, ⟨g78, [.int .i64 t69], 1⟩, ⟨b77, [.int .i64 t69, .int .i64 t70], 2⟩, ⟨N76, [.int .i64 t68, .int .i64 t69, .int .i64 t70, .int .i64 t71, .int .i64 t72, .int .i64 t73, .int .i64 t74], 7⟩, ⟨b64, [.int .i64 0, .int .i64 0], 2⟩, ⟨b63, [.int .i64 2, .int .i64 s1_1, .int .i64 s1_2, .int .i64 s1_3, .int .i64 s1_4, .int .i64 0, .int .i64 0], 7⟩, ⟨b62, [.int .i64 a0_0, .int .i64 a0_1], 2⟩] : List Own) := by
        intro g85
        refine hstep [2] _ _ _ (by kernel_rfl) (List.cons_ne_nil _ _) ⟨?_, trivial⟩
        · show T _ _ _ _ _ _ _ _
          refine t_v (.ld1 rfl rfl rfl (.at 1 rfl rfl)) ?_
          refine t_keep [2, 3, 8, 9, 10, 20, 21, 22, 26, 28, 31, 34] (σ' := [(2, .int .i64 i2), (3, .int .i64 n3), (8, .pointer (some ⟨b64, 0, none⟩)), (9, .slice (some ⟨g79, 0, none⟩) 2 (ng79 / 1)), (10, .slice (some ⟨g81, 0, none⟩) 2 (ng81 / 1)), (20, .slice (some ⟨N76, 1, none⟩) 2 3), (21, .int .i64 2), (22, .int .i64 1), (26, .slice (some ⟨g79, 0, none⟩) 2 (ng79 / 1)), (28, .int .i64 t71), (31, .slice (some ⟨g81, 0, none⟩) 2 (ng81 / 1)), (34, .slice (some ⟨g85, 0, none⟩) 1 1)]) (by kernel_rfl) ?_
          refine t_end ?_
          exact ⟨hg_1e7 g85, rfl⟩
      have hg_e7 : G [true, true, true, false, false, true, true, true, false, false, false, false] [(2, .int .i64 i2), (3, .int .i64 n3), (8, .pointer (some ⟨b64, 0, none⟩)), (9, .slice (some ⟨g79, 0, none⟩) 2 (ng79 / 1)), (10, .slice (some ⟨g81, 0, none⟩) 2 (ng81 / 1)), (20, .slice (some ⟨N76, 1, none⟩) 2 3), (21, .int .i64 2), (22, .int .i64 1), (26, .slice (some ⟨g79, 0, none⟩) 2 (ng79 / 1)), (28, .int .i64 t71), (31, .slice (some ⟨g81, 0, none⟩) 2 (ng81 / 1)), (33, .int .i64 t72)] ([⟨b82, [.int .i64 t71, .int .i64 t72], 2⟩, ⟨g81, [.int .i64 a0_1, .int .i64 t70], ng81⟩, ⟨g80, [.int .i64 t70], 1⟩, ⟨g79, [.int .i64 a0_0, .int .i64 t69], ng79⟩, ⟨g78, [.int .i64 t69], 1⟩, ⟨b77, [.int .i64 t69, .int .i64 t70], 2⟩, ⟨N76, [.int .i64 t68, .int .i64 t69, .int .i64 t70, .int .i64 t71, .int .i64 t72, .int .i64 t73, .int .i64 t74], 7⟩, ⟨b64, [.int .i64 0, .int .i64 0], 2⟩, ⟨b63, [.int .i64 2, .int .i64 s1_1, .int .i64 s1_2, .int .i64 s1_3, .int .i64 s1_4, .int .i64 0, .int .i64 0], 7⟩, ⟨b62, [.int .i64 a0_0, .int .i64 a0_1], 2⟩] : List Own) := by
        refine hstep [3, 8] _ _ _ (by kernel_rfl) (List.cons_ne_nil _ _) ⟨?_, ?_, trivial⟩
        · show T _ _ _ _ _ _ _ _
          refine t_a (.bsl rfl rfl rfl rfl) fun g83 fg83 sg83 => ?_
          refine t_keep [2, 3, 8, 9, 10, 20, 21, 22, 26, 29, 31, 33] (σ' := [(2, .int .i64 i2), (3, .int .i64 n3), (8, .pointer (some ⟨b64, 0, none⟩)), (9, .slice (some ⟨g79, 0, none⟩) 2 (ng79 / 1)), (10, .slice (some ⟨g81, 0, none⟩) 2 (ng81 / 1)), (20, .slice (some ⟨N76, 1, none⟩) 2 3), (21, .int .i64 2), (22, .int .i64 1), (26, .slice (some ⟨g79, 0, none⟩) 2 (ng79 / 1)), (29, .slice (some ⟨g83, 0, none⟩) 1 1), (31, .slice (some ⟨g81, 0, none⟩) 2 (ng81 / 1)), (33, .int .i64 t72)]) (by kernel_rfl) ?_
          refine t_end ?_
          exact ⟨hg_ef g83, rfl⟩
        · show T _ _ _ _ _ _ _ _
          refine t_a (.bsl rfl rfl rfl rfl) fun g85 fg85 sg85 => ?_
          refine t_keep [2, 3, 8, 9, 10, 20, 21, 22, 26, 28, 31, 34] (σ' := [(2, .int .i64 i2), (3, .int .i64 n3), (8, .pointer (some ⟨b64, 0, none⟩)), (9, .slice (some ⟨g79, 0, none⟩) 2 (ng79 / 1)), (10, .slice (some ⟨g81, 0, none⟩) 2 (ng81 / 1)), (20, .slice (some ⟨N76, 1, none⟩) 2 3), (21, .int .i64 2), (22, .int .i64 1), (26, .slice (some ⟨g79, 0, none⟩) 2 (ng79 / 1)), (28, .int .i64 t71), (31, .slice (some ⟨g81, 0, none⟩) 2 (ng81 / 1)), (34, .slice (some ⟨g85, 0, none⟩) 1 1)]) (by kernel_rfl) ?_
          refine t_end ?_
          exact ⟨hg_1e7 g85, rfl⟩
      have hg_6f : ∀ (g83 : Nat), G [true, true, true, true, false, true, true, false, false, false, false, false] [(2, .int .i64 i2), (3, .int .i64 n3), (8, .pointer (some ⟨b64, 0, none⟩)), (9, .slice (some ⟨g79, 0, none⟩) 2 (ng79 / 1)), (10, .slice (some ⟨g81, 0, none⟩) 2 (ng81 / 1)), (20, .slice (some ⟨N76, 1, none⟩) 2 3), (21, .int .i64 2), (22, .int .i64 1), (26, .slice (some ⟨g79, 0, none⟩) 2 (ng79 / 1)), (29, .slice (some ⟨g83, 0, none⟩) 1 1), (31, .slice (some ⟨g81, 0, none⟩) 2 (ng81 / 1)), (32, .pointer (some ⟨b82, 1, none⟩))] ([⟨g83, [.int .i64 t71], 1⟩, ⟨b82, [.int .i64 t71, .int .i64 t72], 2⟩, ⟨g81, [.int .i64 a0_1, .int .i64 t70], ng81⟩, ⟨g80, [.int .i64 t70], 1⟩, ⟨g79, [.int .i64 a0_0, .int .i64 t69], ng79⟩, ⟨g78, [.int .i64 t69], 1⟩, ⟨b77, [.int .i64 t69, .int .i64 t70], 2⟩, ⟨N76, [.int .i64 t68, .int .i64 t69, .int .i64 t70, .int .i64 t71, .int .i64 t72, .int .i64 t73, .int .i64 t74], 7⟩, ⟨b64, [.int .i64 0, .int .i64 0], 2⟩, ⟨b63, [.int .i64 2, .int .i64 s1_1, .int .i64 s1_2, .int .i64 s1_3, .int .i64 s1_4, .int .i64 0, .int .i64 0], 7⟩, ⟨b62, [.int .i64 a0_0, .int .i64 a0_1], 2⟩] : List Own) := by
        intro g83
        refine hstep [4, 7] _ _ _ (by kernel_rfl) (List.cons_ne_nil _ _) ⟨?_, ?_, trivial⟩
        · show T _ _ _ _ _ _ _ _
          refine t_app1 (cs := [.int .i64 a0_0, .int .i64 t69]) (M := ng79) (F := ([⟨g83, [.int .i64 t71], 1⟩, ⟨b82, [.int .i64 t71, .int .i64 t72], 2⟩, ⟨g81, [.int .i64 a0_1, .int .i64 t70], ng81⟩, ⟨g80, [.int .i64 t70], 1⟩, ⟨g78, [.int .i64 t69], 1⟩, ⟨b77, [.int .i64 t69, .int .i64 t70], 2⟩, ⟨N76, [.int .i64 t68, .int .i64 t69, .int .i64 t70, .int .i64 t71, .int .i64 t72, .int .i64 t73, .int .i64 t74], 7⟩, ⟨b64, [.int .i64 0, .int .i64 0], 2⟩, ⟨b63, [.int .i64 2, .int .i64 s1_1, .int .i64 s1_2, .int .i64 s1_3, .int .i64 s1_4, .int .i64 0, .int .i64 0], 7⟩, ⟨b62, [.int .i64 a0_0, .int .i64 a0_1], 2⟩] : List Own)) (news := [.int .i64 t71]) rfl rfl rfl rfl (sel_perm (is := [4]) (by kernel_rfl)) (.at 0 rfl rfl) (by kernel_rfl) rfl rfl (by decide) (by decide) rfl fun g84 ng84 => ?_
          refine t_keep [2, 3, 8, 9, 10, 20, 21, 22, 30, 31, 32] (σ' := [(2, .int .i64 i2), (3, .int .i64 n3), (8, .pointer (some ⟨b64, 0, none⟩)), (9, .slice (some ⟨g79, 0, none⟩) 2 (ng79 / 1)), (10, .slice (some ⟨g81, 0, none⟩) 2 (ng81 / 1)), (20, .slice (some ⟨N76, 1, none⟩) 2 3), (21, .int .i64 2), (22, .int .i64 1), (30, .slice (some ⟨g84, 0, none⟩) 3 (ng84 / 1)), (31, .slice (some ⟨g81, 0, none⟩) 2 (ng81 / 1)), (32, .pointer (some ⟨b82, 1, none⟩))]) (by kernel_rfl) ?_
          refine t_end ?_
          exact ⟨hg_7f g84 ng84 g83, rfl⟩
        · show T _ _ _ _ _ _ _ _
          refine t_v (.ld1 rfl rfl rfl (.at 1 rfl rfl)) ?_
          refine t_keep [2, 3, 8, 9, 10, 20, 21, 22, 26, 29, 31, 33] (σ' := [(2, .int .i64 i2), (3, .int .i64 n3), (8, .pointer (some ⟨b64, 0, none⟩)), (9, .slice (some ⟨g79, 0, none⟩) 2 (ng79 / 1)), (10, .slice (some ⟨g81, 0, none⟩) 2 (ng81 / 1)), (20, .slice (some ⟨N76, 1, none⟩) 2 3), (21, .int .i64 2), (22, .int .i64 1), (26, .slice (some ⟨g79, 0, none⟩) 2 (ng79 / 1)), (29, .slice (some ⟨g83, 0, none⟩) 1 1), (31, .slice (some ⟨g81, 0, none⟩) 2 (ng81 / 1)), (33, .int .i64 t72)]) (by kernel_rfl) ?_
          refine t_end ?_
          exact ⟨hg_ef g83, rfl⟩
      have hg_e3 : G [true, true, false, false, false, true, true, true, false, false, false, false] [(2, .int .i64 i2), (3, .int .i64 n3), (8, .pointer (some ⟨b64, 0, none⟩)), (9, .slice (some ⟨g79, 0, none⟩) 2 (ng79 / 1)), (10, .slice (some ⟨g81, 0, none⟩) 2 (ng81 / 1)), (20, .slice (some ⟨N76, 1, none⟩) 2 3), (21, .int .i64 2), (22, .int .i64 1), (26, .slice (some ⟨g79, 0, none⟩) 2 (ng79 / 1)), (27, .pointer (some ⟨b82, 0, none⟩)), (31, .slice (some ⟨g81, 0, none⟩) 2 (ng81 / 1)), (33, .int .i64 t72)] ([⟨b82, [.int .i64 t71, .int .i64 t72], 2⟩, ⟨g81, [.int .i64 a0_1, .int .i64 t70], ng81⟩, ⟨g80, [.int .i64 t70], 1⟩, ⟨g79, [.int .i64 a0_0, .int .i64 t69], ng79⟩, ⟨g78, [.int .i64 t69], 1⟩, ⟨b77, [.int .i64 t69, .int .i64 t70], 2⟩, ⟨N76, [.int .i64 t68, .int .i64 t69, .int .i64 t70, .int .i64 t71, .int .i64 t72, .int .i64 t73, .int .i64 t74], 7⟩, ⟨b64, [.int .i64 0, .int .i64 0], 2⟩, ⟨b63, [.int .i64 2, .int .i64 s1_1, .int .i64 s1_2, .int .i64 s1_3, .int .i64 s1_4, .int .i64 0, .int .i64 0], 7⟩, ⟨b62, [.int .i64 a0_0, .int .i64 a0_1], 2⟩] : List Own) := by
        refine hstep [2, 8] _ _ _ (by kernel_rfl) (List.cons_ne_nil _ _) ⟨?_, ?_, trivial⟩
        · show T _ _ _ _ _ _ _ _
          refine t_v (.ld1 rfl rfl rfl (.at 0 rfl rfl)) ?_
          refine t_keep [2, 3, 8, 9, 10, 20, 21, 22, 26, 28, 31, 33] (σ' := [(2, .int .i64 i2), (3, .int .i64 n3), (8, .pointer (some ⟨b64, 0, none⟩)), (9, .slice (some ⟨g79, 0, none⟩) 2 (ng79 / 1)), (10, .slice (some ⟨g81, 0, none⟩) 2 (ng81 / 1)), (20, .slice (some ⟨N76, 1, none⟩) 2 3), (21, .int .i64 2), (22, .int .i64 1), (26, .slice (some ⟨g79, 0, none⟩) 2 (ng79 / 1)), (28, .int .i64 t71), (31, .slice (some ⟨g81, 0, none⟩) 2 (ng81 / 1)), (33, .int .i64 t72)]) (by kernel_rfl) ?_
          refine t_end ?_
          exact ⟨hg_e7, rfl⟩
        · show T _ _ _ _ _ _ _ _
          refine t_a (.bsl rfl rfl rfl rfl) fun g85 fg85 sg85 => ?_
          refine t_keep [2, 3, 8, 9, 10, 20, 21, 22, 26, 27, 31, 34] (σ' := [(2, .int .i64 i2), (3, .int .i64 n3), (8, .pointer (some ⟨b64, 0, none⟩)), (9, .slice (some ⟨g79, 0, none⟩) 2 (ng79 / 1)), (10, .slice (some ⟨g81, 0, none⟩) 2 (ng81 / 1)), (20, .slice (some ⟨N76, 1, none⟩) 2 3), (21, .int .i64 2), (22, .int .i64 1), (26, .slice (some ⟨g79, 0, none⟩) 2 (ng79 / 1)), (27, .pointer (some ⟨b82, 0, none⟩)), (31, .slice (some ⟨g81, 0, none⟩) 2 (ng81 / 1)), (34, .slice (some ⟨g85, 0, none⟩) 1 1)]) (by kernel_rfl) ?_
          refine t_end ?_
          exact ⟨hg_1e3 g85, rfl⟩
      have hg_67 : G [true, true, true, false, false, true, true, false, false, false, false, false] [(2, .int .i64 i2), (3, .int .i64 n3), (8, .pointer (some ⟨b64, 0, none⟩)), (9, .slice (some ⟨g79, 0, none⟩) 2 (ng79 / 1)), (10, .slice (some ⟨g81, 0, none⟩) 2 (ng81 / 1)), (20, .slice (some ⟨N76, 1, none⟩) 2 3), (21, .int .i64 2), (22, .int .i64 1), (26, .slice (some ⟨g79, 0, none⟩) 2 (ng79 / 1)), (28, .int .i64 t71), (31, .slice (some ⟨g81, 0, none⟩) 2 (ng81 / 1)), (32, .pointer (some ⟨b82, 1, none⟩))] ([⟨b82, [.int .i64 t71, .int .i64 t72], 2⟩, ⟨g81, [.int .i64 a0_1, .int .i64 t70], ng81⟩, ⟨g80, [.int .i64 t70], 1⟩, ⟨g79, [.int .i64 a0_0, .int .i64 t69], ng79⟩, ⟨g78, [.int .i64 t69], 1⟩, ⟨b77, [.int .i64 t69, .int .i64 t70], 2⟩, ⟨N76, [.int .i64 t68, .int .i64 t69, .int .i64 t70, .int .i64 t71, .int .i64 t72, .int .i64 t73, .int .i64 t74], 7⟩, ⟨b64, [.int .i64 0, .int .i64 0], 2⟩, ⟨b63, [.int .i64 2, .int .i64 s1_1, .int .i64 s1_2, .int .i64 s1_3, .int .i64 s1_4, .int .i64 0, .int .i64 0], 7⟩, ⟨b62, [.int .i64 a0_0, .int .i64 a0_1], 2⟩] : List Own) := by
        refine hstep [3, 7] _ _ _ (by kernel_rfl) (List.cons_ne_nil _ _) ⟨?_, ?_, trivial⟩
        · show T _ _ _ _ _ _ _ _
          refine t_a (.bsl rfl rfl rfl rfl) fun g83 fg83 sg83 => ?_
          refine t_keep [2, 3, 8, 9, 10, 20, 21, 22, 26, 29, 31, 32] (σ' := [(2, .int .i64 i2), (3, .int .i64 n3), (8, .pointer (some ⟨b64, 0, none⟩)), (9, .slice (some ⟨g79, 0, none⟩) 2 (ng79 / 1)), (10, .slice (some ⟨g81, 0, none⟩) 2 (ng81 / 1)), (20, .slice (some ⟨N76, 1, none⟩) 2 3), (21, .int .i64 2), (22, .int .i64 1), (26, .slice (some ⟨g79, 0, none⟩) 2 (ng79 / 1)), (29, .slice (some ⟨g83, 0, none⟩) 1 1), (31, .slice (some ⟨g81, 0, none⟩) 2 (ng81 / 1)), (32, .pointer (some ⟨b82, 1, none⟩))]) (by kernel_rfl) ?_
          refine t_end ?_
          exact ⟨hg_6f g83, rfl⟩
        · show T _ _ _ _ _ _ _ _
          refine t_v (.ld1 rfl rfl rfl (.at 0 rfl rfl)) ?_
          refine t_keep [2, 3, 8, 9, 10, 20, 21, 22, 26, 28, 31, 33] (σ' := [(2, .int .i64 i2), (3, .int .i64 n3), (8, .pointer (some ⟨b64, 0, none⟩)), (9, .slice (some ⟨g79, 0, none⟩) 2 (ng79 / 1)), (10, .slice (some ⟨g81, 0, none⟩) 2 (ng81 / 1)), (20, .slice (some ⟨N76, 1, none⟩) 2 3), (21, .int .i64 2), (22, .int .i64 1), (26, .slice (some ⟨g79, 0, none⟩) 2 (ng79 / 1)), (28, .int .i64 t71), (31, .slice (some ⟨g81, 0, none⟩) 2 (ng81 / 1)), (33, .int .i64 t72)]) (by kernel_rfl) ?_
          refine t_end ?_
          exact ⟨hg_e7, rfl⟩
      have hg_63 : G [true, true, false, false, false, true, true, false, false, false, false, false] [(2, .int .i64 i2), (3, .int .i64 n3), (8, .pointer (some ⟨b64, 0, none⟩)), (9, .slice (some ⟨g79, 0, none⟩) 2 (ng79 / 1)), (10, .slice (some ⟨g81, 0, none⟩) 2 (ng81 / 1)), (20, .slice (some ⟨N76, 1, none⟩) 2 3), (21, .int .i64 2), (22, .int .i64 1), (26, .slice (some ⟨g79, 0, none⟩) 2 (ng79 / 1)), (27, .pointer (some ⟨b82, 0, none⟩)), (31, .slice (some ⟨g81, 0, none⟩) 2 (ng81 / 1)), (32, .pointer (some ⟨b82, 1, none⟩))] ([⟨b82, [.int .i64 t71, .int .i64 t72], 2⟩, ⟨g81, [.int .i64 a0_1, .int .i64 t70], ng81⟩, ⟨g80, [.int .i64 t70], 1⟩, ⟨g79, [.int .i64 a0_0, .int .i64 t69], ng79⟩, ⟨g78, [.int .i64 t69], 1⟩, ⟨b77, [.int .i64 t69, .int .i64 t70], 2⟩, ⟨N76, [.int .i64 t68, .int .i64 t69, .int .i64 t70, .int .i64 t71, .int .i64 t72, .int .i64 t73, .int .i64 t74], 7⟩, ⟨b64, [.int .i64 0, .int .i64 0], 2⟩, ⟨b63, [.int .i64 2, .int .i64 s1_1, .int .i64 s1_2, .int .i64 s1_3, .int .i64 s1_4, .int .i64 0, .int .i64 0], 7⟩, ⟨b62, [.int .i64 a0_0, .int .i64 a0_1], 2⟩] : List Own) := by
        refine hstep [2, 7] _ _ _ (by kernel_rfl) (List.cons_ne_nil _ _) ⟨?_, ?_, trivial⟩
        · show T _ _ _ _ _ _ _ _
          refine t_v (.ld1 rfl rfl rfl (.at 0 rfl rfl)) ?_
          refine t_keep [2, 3, 8, 9, 10, 20, 21, 22, 26, 28, 31, 32] (σ' := [(2, .int .i64 i2), (3, .int .i64 n3), (8, .pointer (some ⟨b64, 0, none⟩)), (9, .slice (some ⟨g79, 0, none⟩) 2 (ng79 / 1)), (10, .slice (some ⟨g81, 0, none⟩) 2 (ng81 / 1)), (20, .slice (some ⟨N76, 1, none⟩) 2 3), (21, .int .i64 2), (22, .int .i64 1), (26, .slice (some ⟨g79, 0, none⟩) 2 (ng79 / 1)), (28, .int .i64 t71), (31, .slice (some ⟨g81, 0, none⟩) 2 (ng81 / 1)), (32, .pointer (some ⟨b82, 1, none⟩))]) (by kernel_rfl) ?_
          refine t_end ?_
          exact ⟨hg_67, rfl⟩
        · show T _ _ _ _ _ _ _ _
          refine t_v (.ld1 rfl rfl rfl (.at 0 rfl rfl)) ?_
          refine t_keep [2, 3, 8, 9, 10, 20, 21, 22, 26, 27, 31, 33] (σ' := [(2, .int .i64 i2), (3, .int .i64 n3), (8, .pointer (some ⟨b64, 0, none⟩)), (9, .slice (some ⟨g79, 0, none⟩) 2 (ng79 / 1)), (10, .slice (some ⟨g81, 0, none⟩) 2 (ng81 / 1)), (20, .slice (some ⟨N76, 1, none⟩) 2 3), (21, .int .i64 2), (22, .int .i64 1), (26, .slice (some ⟨g79, 0, none⟩) 2 (ng79 / 1)), (27, .pointer (some ⟨b82, 0, none⟩)), (31, .slice (some ⟨g81, 0, none⟩) 2 (ng81 / 1)), (33, .int .i64 t72)]) (by kernel_rfl) ?_
          refine t_end ?_
          exact ⟨hg_e3, rfl⟩
      have hg_23 : G [true, true, false, false, false, true, false, false, false, false, false, false] [(2, .int .i64 i2), (3, .int .i64 n3), (8, .pointer (some ⟨b64, 0, none⟩)), (9, .slice (some ⟨g79, 0, none⟩) 2 (ng79 / 1)), (10, .slice (some ⟨g81, 0, none⟩) 2 (ng81 / 1)), (12, .pointer (some ⟨b82, 0, none⟩)), (20, .slice (some ⟨N76, 1, none⟩) 2 3), (21, .int .i64 2), (22, .int .i64 1), (26, .slice (some ⟨g79, 0, none⟩) 2 (ng79 / 1)), (27, .pointer (some ⟨b82, 0, none⟩)), (31, .slice (some ⟨g81, 0, none⟩) 2 (ng81 / 1))] ([⟨b82, [.int .i64 t71, .int .i64 t72], 2⟩, ⟨g81, [.int .i64 a0_1, .int .i64 t70], ng81⟩, ⟨g80, [.int .i64 t70], 1⟩, ⟨g79, [.int .i64 a0_0, .int .i64 t69], ng79⟩, ⟨g78, [.int .i64 t69], 1⟩, ⟨b77, [.int .i64 t69, .int .i64 t70], 2⟩, ⟨N76, [.int .i64 t68, .int .i64 t69, .int .i64 t70, .int .i64 t71, .int .i64 t72, .int .i64 t73, .int .i64 t74], 7⟩, ⟨b64, [.int .i64 0, .int .i64 0], 2⟩, ⟨b63, [.int .i64 2, .int .i64 s1_1, .int .i64 s1_2, .int .i64 s1_3, .int .i64 s1_4, .int .i64 0, .int .i64 0], 7⟩, ⟨b62, [.int .i64 a0_0, .int .i64 a0_1], 2⟩] : List Own) := by
        exact hqf 6 [2, 3, 8, 9, 10, 20, 21, 22, 26, 27, 31, 32] _ _ _ [(2, .int .i64 i2), (3, .int .i64 n3), (8, .pointer (some ⟨b64, 0, none⟩)), (9, .slice (some ⟨g79, 0, none⟩) 2 (ng79 / 1)), (10, .slice (some ⟨g81, 0, none⟩) 2 (ng81 / 1)), (20, .slice (some ⟨N76, 1, none⟩) 2 3), (21, .int .i64 2), (22, .int .i64 1), (26, .slice (some ⟨g79, 0, none⟩) 2 (ng79 / 1)), (27, .pointer (some ⟨b82, 0, none⟩)), (31, .slice (some ⟨g81, 0, none⟩) 2 (ng81 / 1)), (32, .pointer (some ⟨b82, 1, none⟩))] (by kernel_rfl) (by kernel_rfl) hg_63
      have hg_3 : G [true, true, false, false, false, false, false, false, false, false, false, false] [(2, .int .i64 i2), (3, .int .i64 n3), (8, .pointer (some ⟨b64, 0, none⟩)), (9, .slice (some ⟨g79, 0, none⟩) 2 (ng79 / 1)), (10, .slice (some ⟨g81, 0, none⟩) 2 (ng81 / 1)), (12, .pointer (some ⟨b82, 0, none⟩)), (20, .slice (some ⟨N76, 1, none⟩) 2 3), (21, .int .i64 2), (22, .int .i64 1), (26, .slice (some ⟨g79, 0, none⟩) 2 (ng79 / 1)), (27, .pointer (some ⟨b82, 0, none⟩))] ([⟨b82, [.int .i64 t71, .int .i64 t72], 2⟩, ⟨g81, [.int .i64 a0_1, .int .i64 t70], ng81⟩, ⟨g80, [.int .i64 t70], 1⟩, ⟨g79, [.int .i64 a0_0, .int .i64 t69], ng79⟩, ⟨g78, [.int .i64 t69], 1⟩, ⟨b77, [.int .i64 t69, .int .i64 t70], 2⟩, ⟨N76, [.int .i64 t68, .int .i64 t69, .int .i64 t70, .int .i64 t71, .int .i64 t72, .int .i64 t73, .int .i64 t74], 7⟩, ⟨b64, [.int .i64 0, .int .i64 0], 2⟩, ⟨b63, [.int .i64 2, .int .i64 s1_1, .int .i64 s1_2, .int .i64 s1_3, .int .i64 s1_4, .int .i64 0, .int .i64 0], 7⟩, ⟨b62, [.int .i64 a0_0, .int .i64 a0_1], 2⟩] : List Own) := by
        exact hqf 5 [2, 3, 8, 9, 10, 12, 20, 21, 22, 26, 27, 31] _ _ _ [(2, .int .i64 i2), (3, .int .i64 n3), (8, .pointer (some ⟨b64, 0, none⟩)), (9, .slice (some ⟨g79, 0, none⟩) 2 (ng79 / 1)), (10, .slice (some ⟨g81, 0, none⟩) 2 (ng81 / 1)), (12, .pointer (some ⟨b82, 0, none⟩)), (20, .slice (some ⟨N76, 1, none⟩) 2 3), (21, .int .i64 2), (22, .int .i64 1), (26, .slice (some ⟨g79, 0, none⟩) 2 (ng79 / 1)), (27, .pointer (some ⟨b82, 0, none⟩)), (31, .slice (some ⟨g81, 0, none⟩) 2 (ng81 / 1))] (by kernel_rfl) (by kernel_rfl) hg_23
      have hg_1 : G [true, false, false, false, false, false, false, false, false, false, false, false] [(2, .int .i64 i2), (3, .int .i64 n3), (8, .pointer (some ⟨b64, 0, none⟩)), (9, .slice (some ⟨g79, 0, none⟩) 2 (ng79 / 1)), (10, .slice (some ⟨g81, 0, none⟩) 2 (ng81 / 1)), (12, .pointer (some ⟨b82, 0, none⟩)), (20, .slice (some ⟨N76, 1, none⟩) 2 3), (21, .int .i64 2), (22, .int .i64 1), (26, .slice (some ⟨g79, 0, none⟩) 2 (ng79 / 1))] ([⟨b82, [.int .i64 t71, .int .i64 t72], 2⟩, ⟨g81, [.int .i64 a0_1, .int .i64 t70], ng81⟩, ⟨g80, [.int .i64 t70], 1⟩, ⟨g79, [.int .i64 a0_0, .int .i64 t69], ng79⟩, ⟨g78, [.int .i64 t69], 1⟩, ⟨b77, [.int .i64 t69, .int .i64 t70], 2⟩, ⟨N76, [.int .i64 t68, .int .i64 t69, .int .i64 t70, .int .i64 t71, .int .i64 t72, .int .i64 t73, .int .i64 t74], 7⟩, ⟨b64, [.int .i64 0, .int .i64 0], 2⟩, ⟨b63, [.int .i64 2, .int .i64 s1_1, .int .i64 s1_2, .int .i64 s1_3, .int .i64 s1_4, .int .i64 0, .int .i64 0], 7⟩, ⟨b62, [.int .i64 a0_0, .int .i64 a0_1], 2⟩] : List Own) := by
        exact hqf 1 [2, 3, 8, 9, 10, 12, 20, 21, 22, 26, 27] _ _ _ [(2, .int .i64 i2), (3, .int .i64 n3), (8, .pointer (some ⟨b64, 0, none⟩)), (9, .slice (some ⟨g79, 0, none⟩) 2 (ng79 / 1)), (10, .slice (some ⟨g81, 0, none⟩) 2 (ng81 / 1)), (12, .pointer (some ⟨b82, 0, none⟩)), (20, .slice (some ⟨N76, 1, none⟩) 2 3), (21, .int .i64 2), (22, .int .i64 1), (26, .slice (some ⟨g79, 0, none⟩) 2 (ng79 / 1)), (27, .pointer (some ⟨b82, 0, none⟩))] (by kernel_rfl) (by kernel_rfl) hg_3
      have hg_0 : G [false, false, false, false, false, false, false, false, false, false, false, false] [(2, .int .i64 i2), (3, .int .i64 n3), (8, .pointer (some ⟨b64, 0, none⟩)), (9, .slice (some ⟨g79, 0, none⟩) 2 (ng79 / 1)), (10, .slice (some ⟨g81, 0, none⟩) 2 (ng81 / 1)), (12, .pointer (some ⟨b82, 0, none⟩)), (20, .slice (some ⟨N76, 1, none⟩) 2 3), (21, .int .i64 2), (22, .int .i64 1)] ([⟨b82, [.int .i64 t71, .int .i64 t72], 2⟩, ⟨g81, [.int .i64 a0_1, .int .i64 t70], ng81⟩, ⟨g80, [.int .i64 t70], 1⟩, ⟨g79, [.int .i64 a0_0, .int .i64 t69], ng79⟩, ⟨g78, [.int .i64 t69], 1⟩, ⟨b77, [.int .i64 t69, .int .i64 t70], 2⟩, ⟨N76, [.int .i64 t68, .int .i64 t69, .int .i64 t70, .int .i64 t71, .int .i64 t72, .int .i64 t73, .int .i64 t74], 7⟩, ⟨b64, [.int .i64 0, .int .i64 0], 2⟩, ⟨b63, [.int .i64 2, .int .i64 s1_1, .int .i64 s1_2, .int .i64 s1_3, .int .i64 s1_4, .int .i64 0, .int .i64 0], 7⟩, ⟨b62, [.int .i64 a0_0, .int .i64 a0_1], 2⟩] : List Own) := by
        exact hqf 0 [2, 3, 8, 9, 10, 12, 20, 21, 22, 26] _ _ _ [(2, .int .i64 i2), (3, .int .i64 n3), (8, .pointer (some ⟨b64, 0, none⟩)), (9, .slice (some ⟨g79, 0, none⟩) 2 (ng79 / 1)), (10, .slice (some ⟨g81, 0, none⟩) 2 (ng81 / 1)), (12, .pointer (some ⟨b82, 0, none⟩)), (20, .slice (some ⟨N76, 1, none⟩) 2 3), (21, .int .i64 2), (22, .int .i64 1), (26, .slice (some ⟨g79, 0, none⟩) 2 (ng79 / 1))] (by kernel_rfl) (by kernel_rfl) hg_1
      exact hg_0
    have hg_7ff : ∀ (g81 ng81 g80 g79 ng79 g78 : Nat), G [true, true, true, true, true, true, true, true, true, true, true, false] [(2, .int .i64 i2), (3, .int .i64 n3), (8, .pointer (some ⟨b64, 0, none⟩)), (9, .slice (some ⟨g79, 0, none⟩) 2 (ng79 / 1)), (10, .slice (some ⟨g66, 0, none⟩) 1 1), (20, .slice (some ⟨N76, 1, none⟩) 2 3), (21, .int .i64 2), (22, .int .i64 0), (35, .slice (some ⟨g81, 0, none⟩) 2 (ng81 / 1))] ([⟨g81, [.int .i64 a0_1, .int .i64 t70], ng81⟩, ⟨g80, [.int .i64 t70], 1⟩, ⟨g79, [.int .i64 a0_0, .int .i64 t69], ng79⟩, ⟨g78, [.int .i64 t69], 1⟩, ⟨b77, [.int .i64 t69, .int .i64 t70], 2⟩, ⟨N76, [.int .i64 t68, .int .i64 t69, .int .i64 t70, .int .i64 t71, .int .i64 t72, .int .i64 t73, .int .i64 t74], 7⟩, ⟨b64, [.int .i64 0, .int .i64 0], 2⟩, ⟨b63, [.int .i64 2, .int .i64 s1_1, .int .i64 s1_2, .int .i64 s1_3, .int .i64 s1_4, .int .i64 0, .int .i64 0], 7⟩, ⟨b62, [.int .i64 a0_0, .int .i64 a0_1], 2⟩] : List Own) := by
      intro g81 ng81 g80 g79 ng79 g78
      exact hqf 11 [2, 3, 8, 9, 10, 20, 21, 22] _ _ _ [(2, .int .i64 i2), (3, .int .i64 n3), (8, .pointer (some ⟨b64, 0, none⟩)), (9, .slice (some ⟨g79, 0, none⟩) 2 (ng79 / 1)), (10, .slice (some ⟨g81, 0, none⟩) 2 (ng81 / 1)), (20, .slice (some ⟨N76, 1, none⟩) 2 3), (21, .int .i64 2), (22, .int .i64 0)] (by kernel_rfl) (by kernel_rfl) (hg_fff g81 ng81 g80 g79 ng79 g78)
    have hg_3ff : ∀ (g81 ng81 g80 g79 ng79 g78 : Nat), G [true, true, true, true, true, true, true, true, true, true, false, false] [(2, .int .i64 i2), (3, .int .i64 n3), (8, .pointer (some ⟨b64, 0, none⟩)), (9, .slice (some ⟨g65, 0, none⟩) 1 1), (10, .slice (some ⟨g66, 0, none⟩) 1 1), (20, .slice (some ⟨N76, 1, none⟩) 2 3), (21, .int .i64 2), (22, .int .i64 0), (30, .slice (some ⟨g79, 0, none⟩) 2 (ng79 / 1)), (35, .slice (some ⟨g81, 0, none⟩) 2 (ng81 / 1))] ([⟨g81, [.int .i64 a0_1, .int .i64 t70], ng81⟩, ⟨g80, [.int .i64 t70], 1⟩, ⟨g79, [.int .i64 a0_0, .int .i64 t69], ng79⟩, ⟨g78, [.int .i64 t69], 1⟩, ⟨b77, [.int .i64 t69, .int .i64 t70], 2⟩, ⟨N76, [.int .i64 t68, .int .i64 t69, .int .i64 t70, .int .i64 t71, .int .i64 t72, .int .i64 t73, .int .i64 t74], 7⟩, ⟨b64, [.int .i64 0, .int .i64 0], 2⟩, ⟨b63, [.int .i64 2, .int .i64 s1_1, .int .i64 s1_2, .int .i64 s1_3, .int .i64 s1_4, .int .i64 0, .int .i64 0], 7⟩, ⟨b62, [.int .i64 a0_0, .int .i64 a0_1], 2⟩] : List Own) := by
      intro g81 ng81 g80 g79 ng79 g78
      exact hqf 10 [2, 3, 8, 9, 10, 20, 21, 22, 35] _ _ _ [(2, .int .i64 i2), (3, .int .i64 n3), (8, .pointer (some ⟨b64, 0, none⟩)), (9, .slice (some ⟨g79, 0, none⟩) 2 (ng79 / 1)), (10, .slice (some ⟨g66, 0, none⟩) 1 1), (20, .slice (some ⟨N76, 1, none⟩) 2 3), (21, .int .i64 2), (22, .int .i64 0), (35, .slice (some ⟨g81, 0, none⟩) 2 (ng81 / 1))] (by kernel_rfl) (by kernel_rfl) (hg_7ff g81 ng81 g80 g79 ng79 g78)
    have hg_1ff : ∀ (g80 g79 ng79 g78 : Nat), G [true, true, true, true, true, true, true, true, true, false, false, false] [(2, .int .i64 i2), (3, .int .i64 n3), (8, .pointer (some ⟨b64, 0, none⟩)), (9, .slice (some ⟨g65, 0, none⟩) 1 1), (10, .slice (some ⟨g66, 0, none⟩) 1 1), (20, .slice (some ⟨N76, 1, none⟩) 2 3), (21, .int .i64 2), (22, .int .i64 0), (30, .slice (some ⟨g79, 0, none⟩) 2 (ng79 / 1)), (31, .slice (some ⟨g66, 0, none⟩) 1 1), (34, .slice (some ⟨g80, 0, none⟩) 1 1)] ([⟨g80, [.int .i64 t70], 1⟩, ⟨g79, [.int .i64 a0_0, .int .i64 t69], ng79⟩, ⟨g78, [.int .i64 t69], 1⟩, ⟨b77, [.int .i64 t69, .int .i64 t70], 2⟩, ⟨N76, [.int .i64 t68, .int .i64 t69, .int .i64 t70, .int .i64 t71, .int .i64 t72, .int .i64 t73, .int .i64 t74], 7⟩, ⟨g66, [.int .i64 a0_1], 1⟩, ⟨b64, [.int .i64 0, .int .i64 0], 2⟩, ⟨b63, [.int .i64 2, .int .i64 s1_1, .int .i64 s1_2, .int .i64 s1_3, .int .i64 s1_4, .int .i64 0, .int .i64 0], 7⟩, ⟨b62, [.int .i64 a0_0, .int .i64 a0_1], 2⟩] : List Own) := by
      intro g80 g79 ng79 g78
      refine hstep [9] _ _ _ (by kernel_rfl) (List.cons_ne_nil _ _) ⟨?_, trivial⟩
      · show T _ _ _ _ _ _ _ _
        refine t_app1 (cs := [.int .i64 a0_1]) (M := 1) (F := ([⟨g80, [.int .i64 t70], 1⟩, ⟨g79, [.int .i64 a0_0, .int .i64 t69], ng79⟩, ⟨g78, [.int .i64 t69], 1⟩, ⟨b77, [.int .i64 t69, .int .i64 t70], 2⟩, ⟨N76, [.int .i64 t68, .int .i64 t69, .int .i64 t70, .int .i64 t71, .int .i64 t72, .int .i64 t73, .int .i64 t74], 7⟩, ⟨b64, [.int .i64 0, .int .i64 0], 2⟩, ⟨b63, [.int .i64 2, .int .i64 s1_1, .int .i64 s1_2, .int .i64 s1_3, .int .i64 s1_4, .int .i64 0, .int .i64 0], 7⟩, ⟨b62, [.int .i64 a0_0, .int .i64 a0_1], 2⟩] : List Own)) (news := [.int .i64 t70]) rfl rfl rfl rfl (sel_perm (is := [5]) (by kernel_rfl)) (.at 0 rfl rfl) (by kernel_rfl) rfl rfl (by decide) (by decide) rfl fun g81 ng81 => ?_
        refine t_keep [2, 3, 8, 9, 10, 20, 21, 22, 30, 35] (σ' := [(2, .int .i64 i2), (3, .int .i64 n3), (8, .pointer (some ⟨b64, 0, none⟩)), (9, .slice (some ⟨g65, 0, none⟩) 1 1), (10, .slice (some ⟨g66, 0, none⟩) 1 1), (20, .slice (some ⟨N76, 1, none⟩) 2 3), (21, .int .i64 2), (22, .int .i64 0), (30, .slice (some ⟨g79, 0, none⟩) 2 (ng79 / 1)), (35, .slice (some ⟨g81, 0, none⟩) 2 (ng81 / 1))]) (by kernel_rfl) ?_
        refine t_end ?_
        exact ⟨hg_3ff g81 ng81 g80 g79 ng79 g78, rfl⟩
    have hg_ff : ∀ (g79 ng79 g78 : Nat), G [true, true, true, true, true, true, true, true, false, false, false, false] [(2, .int .i64 i2), (3, .int .i64 n3), (8, .pointer (some ⟨b64, 0, none⟩)), (9, .slice (some ⟨g65, 0, none⟩) 1 1), (10, .slice (some ⟨g66, 0, none⟩) 1 1), (20, .slice (some ⟨N76, 1, none⟩) 2 3), (21, .int .i64 2), (22, .int .i64 0), (30, .slice (some ⟨g79, 0, none⟩) 2 (ng79 / 1)), (31, .slice (some ⟨g66, 0, none⟩) 1 1), (33, .int .i64 t70)] ([⟨g79, [.int .i64 a0_0, .int .i64 t69], ng79⟩, ⟨g78, [.int .i64 t69], 1⟩, ⟨b77, [.int .i64 t69, .int .i64 t70], 2⟩, ⟨N76, [.int .i64 t68, .int .i64 t69, .int .i64 t70, .int .i64 t71, .int .i64 t72, .int .i64 t73, .int .i64 t74], 7⟩, ⟨g66, [.int .i64 a0_1], 1⟩, ⟨b64, [.int .i64 0, .int .i64 0], 2⟩, ⟨b63, [.int .i64 2, .int .i64 s1_1, .int .i64 s1_2, .int .i64 s1_3, .int .i64 s1_4, .int .i64 0, .int .i64 0], 7⟩, ⟨b62, [.int .i64 a0_0, .int .i64 a0_1], 2⟩] : List Own) := by
      intro g79 ng79 g78
      refine hstep [8] _ _ _ (by kernel_rfl) (List.cons_ne_nil _ _) ⟨?_, trivial⟩
      · show T _ _ _ _ _ _ _ _
        refine t_a (.bsl rfl rfl rfl rfl) fun g80 fg80 sg80 => ?_
        refine t_keep [2, 3, 8, 9, 10, 20, 21, 22, 30, 31, 34] (σ' := [(2, .int .i64 i2), (3, .int .i64 n3), (8, .pointer (some ⟨b64, 0, none⟩)), (9, .slice (some ⟨g65, 0, none⟩) 1 1), (10, .slice (some ⟨g66, 0, none⟩) 1 1), (20, .slice (some ⟨N76, 1, none⟩) 2 3), (21, .int .i64 2), (22, .int .i64 0), (30, .slice (some ⟨g79, 0, none⟩) 2 (ng79 / 1)), (31, .slice (some ⟨g66, 0, none⟩) 1 1), (34, .slice (some ⟨g80, 0, none⟩) 1 1)]) (by kernel_rfl) ?_
        refine t_end ?_
        exact ⟨hg_1ff g80 g79 ng79 g78, rfl⟩
    have hg_1ef : ∀ (g80 g78 : Nat), G [true, true, true, true, false, true, true, true, true, false, false, false] [(2, .int .i64 i2), (3, .int .i64 n3), (8, .pointer (some ⟨b64, 0, none⟩)), (9, .slice (some ⟨g65, 0, none⟩) 1 1), (10, .slice (some ⟨g66, 0, none⟩) 1 1), (20, .slice (some ⟨N76, 1, none⟩) 2 3), (21, .int .i64 2), (22, .int .i64 0), (26, .slice (some ⟨g65, 0, none⟩) 1 1), (29, .slice (some ⟨g78, 0, none⟩) 1 1), (31, .slice (some ⟨g66, 0, none⟩) 1 1), (34, .slice (some ⟨g80, 0, none⟩) 1 1)] ([⟨g80, [.int .i64 t70], 1⟩, ⟨g78, [.int .i64 t69], 1⟩, ⟨b77, [.int .i64 t69, .int .i64 t70], 2⟩, ⟨N76, [.int .i64 t68, .int .i64 t69, .int .i64 t70, .int .i64 t71, .int .i64 t72, .int .i64 t73, .int .i64 t74], 7⟩, ⟨g66, [.int .i64 a0_1], 1⟩, ⟨g65, [.int .i64 a0_0], 1⟩, ⟨b64, [.int .i64 0, .int .i64 0], 2⟩, ⟨b63, [.int .i64 2, .int .i64 s1_1, .int .i64 s1_2, .int .i64 s1_3, .int .i64 s1_4, .int .i64 0, .int .i64 0], 7⟩, ⟨b62, [.int .i64 a0_0, .int .i64 a0_1], 2⟩] : List Own) := by
      intro g80 g78
      refine hstep [4] _ _ _ (by kernel_rfl) (List.cons_ne_nil _ _) ⟨?_, trivial⟩
      · show T _ _ _ _ _ _ _ _
        refine t_app1 (cs := [.int .i64 a0_0]) (M := 1) (F := ([⟨g80, [.int .i64 t70], 1⟩, ⟨g78, [.int .i64 t69], 1⟩, ⟨b77, [.int .i64 t69, .int .i64 t70], 2⟩, ⟨N76, [.int .i64 t68, .int .i64 t69, .int .i64 t70, .int .i64 t71, .int .i64 t72, .int .i64 t73, .int .i64 t74], 7⟩, ⟨g66, [.int .i64 a0_1], 1⟩, ⟨b64, [.int .i64 0, .int .i64 0], 2⟩, ⟨b63, [.int .i64 2, .int .i64 s1_1, .int .i64 s1_2, .int .i64 s1_3, .int .i64 s1_4, .int .i64 0, .int .i64 0], 7⟩, ⟨b62, [.int .i64 a0_0, .int .i64 a0_1], 2⟩] : List Own)) (news := [.int .i64 t69]) rfl rfl rfl rfl (sel_perm (is := [5]) (by kernel_rfl)) (.at 1 rfl rfl) (by kernel_rfl) rfl rfl (by decide) (by decide) rfl fun g79 ng79 => ?_
        refine t_keep [2, 3, 8, 9, 10, 20, 21, 22, 30, 31, 34] (σ' := [(2, .int .i64 i2), (3, .int .i64 n3), (8, .pointer (some ⟨b64, 0, none⟩)), (9, .slice (some ⟨g65, 0, none⟩) 1 1), (10, .slice (some ⟨g66, 0, none⟩) 1 1), (20, .slice (some ⟨N76, 1, none⟩) 2 3), (21, .int .i64 2), (22, .int .i64 0), (30, .slice (some ⟨g79, 0, none⟩) 2 (ng79 / 1)), (31, .slice (some ⟨g66, 0, none⟩) 1 1), (34, .slice (some ⟨g80, 0, none⟩) 1 1)]) (by kernel_rfl) ?_
        refine t_vs (H' := ([⟨g80, [.int .i64 t70], 1⟩, ⟨g79, [.int .i64 a0_0, .int .i64 t69], ng79⟩, ⟨g78, [.int .i64 t69], 1⟩, ⟨b77, [.int .i64 t69, .int .i64 t70], 2⟩, ⟨N76, [.int .i64 t68, .int .i64 t69, .int .i64 t70, .int .i64 t71, .int .i64 t72, .int .i64 t73, .int .i64 t74], 7⟩, ⟨g66, [.int .i64 a0_1], 1⟩, ⟨b64, [.int .i64 0, .int .i64 0], 2⟩, ⟨b63, [.int .i64 2, .int .i64 s1_1, .int .i64 s1_2, .int .i64 s1_3, .int .i64 s1_4, .int .i64 0, .int .i64 0], 7⟩, ⟨b62, [.int .i64 a0_0, .int .i64 a0_1], 2⟩] : List Own)) (S' := S) (VS.sel [1, 0, 0, 0, 0, 0, 0, 0, 0] (by kernel_rfl)) ?_
        refine t_end ?_
        exact ⟨hg_1ff g80 g79 ng79 g78, rfl⟩
    have hg_1e7 : ∀ (g80 : Nat), G [true, true, true, false, false, true, true, true, true, false, false, false] [(2, .int .i64 i2), (3, .int .i64 n3), (8, .pointer (some ⟨b64, 0, none⟩)), (9, .slice (some ⟨g65, 0, none⟩) 1 1), (10, .slice (some ⟨g66, 0, none⟩) 1 1), (20, .slice (some ⟨N76, 1, none⟩) 2 3), (21, .int .i64 2), (22, .int .i64 0), (26, .slice (some ⟨g65, 0, none⟩) 1 1), (28, .int .i64 t69), (31, .slice (some ⟨g66, 0, none⟩) 1 1), (34, .slice (some ⟨g80, 0, none⟩) 1 1)] ([⟨g80, [.int .i64 t70], 1⟩, ⟨b77, [.int .i64 t69, .int .i64 t70], 2⟩, ⟨N76, [.int .i64 t68, .int .i64 t69, .int .i64 t70, .int .i64 t71, .int .i64 t72, .int .i64 t73, .int .i64 t74], 7⟩, ⟨g66, [.int .i64 a0_1], 1⟩, ⟨g65, [.int .i64 a0_0], 1⟩, ⟨b64, [.int .i64 0, .int .i64 0], 2⟩, ⟨b63, [.int .i64 2, .int .i64 s1_1, .int .i64 s1_2, .int .i64 s1_3, .int .i64 s1_4, .int .i64 0, .int .i64 0], 7⟩, ⟨b62, [.int .i64 a0_0, .int .i64 a0_1], 2⟩] : List Own) := by
      intro g80
      refine hstep [3] _ _ _ (by kernel_rfl) (List.cons_ne_nil _ _) ⟨?_, trivial⟩
      · show T _ _ _ _ _ _ _ _
        refine t_a (.bsl rfl rfl rfl rfl) fun g78 fg78 sg78 => ?_
        refine t_keep [2, 3, 8, 9, 10, 20, 21, 22, 26, 29, 31, 34] (σ' := [(2, .int .i64 i2), (3, .int .i64 n3), (8, .pointer (some ⟨b64, 0, none⟩)), (9, .slice (some ⟨g65, 0, none⟩) 1 1), (10, .slice (some ⟨g66, 0, none⟩) 1 1), (20, .slice (some ⟨N76, 1, none⟩) 2 3), (21, .int .i64 2), (22, .int .i64 0), (26, .slice (some ⟨g65, 0, none⟩) 1 1), (29, .slice (some ⟨g78, 0, none⟩) 1 1), (31, .slice (some ⟨g66, 0, none⟩) 1 1), (34, .slice (some ⟨g80, 0, none⟩) 1 1)]) (by kernel_rfl) ?_
        refine t_vs (H' := ([⟨g80, [.int .i64 t70], 1⟩, ⟨g78, [.int .i64 t69], 1⟩, ⟨b77, [.int .i64 t69, .int .i64 t70], 2⟩, ⟨N76, [.int .i64 t68, .int .i64 t69, .int .i64 t70, .int .i64 t71, .int .i64 t72, .int .i64 t73, .int .i64 t74], 7⟩, ⟨g66, [.int .i64 a0_1], 1⟩, ⟨g65, [.int .i64 a0_0], 1⟩, ⟨b64, [.int .i64 0, .int .i64 0], 2⟩, ⟨b63, [.int .i64 2, .int .i64 s1_1, .int .i64 s1_2, .int .i64 s1_3, .int .i64 s1_4, .int .i64 0, .int .i64 0], 7⟩, ⟨b62, [.int .i64 a0_0, .int .i64 a0_1], 2⟩] : List Own)) (S' := S) (VS.sel [1, 0, 0, 0, 0, 0, 0, 0, 0] (by kernel_rfl)) ?_
        refine t_end ?_
        exact ⟨hg_1ef g80 g78, rfl⟩
    have hg_ef : ∀ (g78 : Nat), G [true, true, true, true, false, true, true, true, false, false, false, false] [(2, .int .i64 i2), (3, .int .i64 n3), (8, .pointer (some ⟨b64, 0, none⟩)), (9, .slice (some ⟨g65, 0, none⟩) 1 1), (10, .slice (some ⟨g66, 0, none⟩) 1 1), (20, .slice (some ⟨N76, 1, none⟩) 2 3), (21, .int .i64 2), (22, .int .i64 0), (26, .slice (some ⟨g65, 0, none⟩) 1 1), (29, .slice (some ⟨g78, 0, none⟩) 1 1), (31, .slice (some ⟨g66, 0, none⟩) 1 1), (33, .int .i64 t70)] ([⟨g78, [.int .i64 t69], 1⟩, ⟨b77, [.int .i64 t69, .int .i64 t70], 2⟩, ⟨N76, [.int .i64 t68, .int .i64 t69, .int .i64 t70, .int .i64 t71, .int .i64 t72, .int .i64 t73, .int .i64 t74], 7⟩, ⟨g66, [.int .i64 a0_1], 1⟩, ⟨g65, [.int .i64 a0_0], 1⟩, ⟨b64, [.int .i64 0, .int .i64 0], 2⟩, ⟨b63, [.int .i64 2, .int .i64 s1_1, .int .i64 s1_2, .int .i64 s1_3, .int .i64 s1_4, .int .i64 0, .int .i64 0], 7⟩, ⟨b62, [.int .i64 a0_0, .int .i64 a0_1], 2⟩] : List Own) := by
      intro g78
      refine hstep [4, 8] _ _ _ (by kernel_rfl) (List.cons_ne_nil _ _) ⟨?_, ?_, trivial⟩
      · show T _ _ _ _ _ _ _ _
        refine t_app1 (cs := [.int .i64 a0_0]) (M := 1) (F := ([⟨g78, [.int .i64 t69], 1⟩, ⟨b77, [.int .i64 t69, .int .i64 t70], 2⟩, ⟨N76, [.int .i64 t68, .int .i64 t69, .int .i64 t70, .int .i64 t71, .int .i64 t72, .int .i64 t73, .int .i64 t74], 7⟩, ⟨g66, [.int .i64 a0_1], 1⟩, ⟨b64, [.int .i64 0, .int .i64 0], 2⟩, ⟨b63, [.int .i64 2, .int .i64 s1_1, .int .i64 s1_2, .int .i64 s1_3, .int .i64 s1_4, .int .i64 0, .int .i64 0], 7⟩, ⟨b62, [.int .i64 a0_0, .int .i64 a0_1], 2⟩] : List Own)) (news := [.int .i64 t69]) rfl rfl rfl rfl (sel_perm (is := [4]) (by kernel_rfl)) (.at 0 rfl rfl) (by kernel_rfl) rfl rfl (by decide) (by decide) rfl fun g79 ng79 => ?_
        refine t_keep [2, 3, 8, 9, 10, 20, 21, 22, 30, 31, 33] (σ' := [(2, .int .i64 i2), (3, .int .i64 n3), (8, .pointer (some ⟨b64, 0, none⟩)), (9, .slice (some ⟨g65, 0, none⟩) 1 1), (10, .slice (some ⟨g66, 0, none⟩) 1 1), (20, .slice (some ⟨N76, 1, none⟩) 2 3), (21, .int .i64 2), (22, .int .i64 0), (30, .slice (some ⟨g79, 0, none⟩) 2 (ng79 / 1)), (31, .slice (some ⟨g66, 0, none⟩) 1 1), (33, .int .i64 t70)]) (by kernel_rfl) ?_
        refine t_end ?_
        exact ⟨hg_ff g79 ng79 g78, rfl⟩
      · show T _ _ _ _ _ _ _ _
        refine t_a (.bsl rfl rfl rfl rfl) fun g80 fg80 sg80 => ?_
        refine t_keep [2, 3, 8, 9, 10, 20, 21, 22, 26, 29, 31, 34] (σ' := [(2, .int .i64 i2), (3, .int .i64 n3), (8, .pointer (some ⟨b64, 0, none⟩)), (9, .slice (some ⟨g65, 0, none⟩) 1 1), (10, .slice (some ⟨g66, 0, none⟩) 1 1), (20, .slice (some ⟨N76, 1, none⟩) 2 3), (21, .int .i64 2), (22, .int .i64 0), (26, .slice (some ⟨g65, 0, none⟩) 1 1), (29, .slice (some ⟨g78, 0, none⟩) 1 1), (31, .slice (some ⟨g66, 0, none⟩) 1 1), (34, .slice (some ⟨g80, 0, none⟩) 1 1)]) (by kernel_rfl) ?_
        refine t_end ?_
        exact ⟨hg_1ef g80 g78, rfl⟩
    have hg_7f : ∀ (g79 ng79 g78 : Nat), G [true, true, true, true, true, true, true, false, false, false, false, false] [(2, .int .i64 i2), (3, .int .i64 n3), (8, .pointer (some ⟨b64, 0, none⟩)), (9, .slice (some ⟨g65, 0, none⟩) 1 1), (10, .slice (some ⟨g66, 0, none⟩) 1 1), (20, .slice (some ⟨N76, 1, none⟩) 2 3), (21, .int .i64 2), (22, .int .i64 0), (30, .slice (some ⟨g79, 0, none⟩) 2 (ng79 / 1)), (31, .slice (some ⟨g66, 0, none⟩) 1 1), (32, .pointer (some ⟨b77, 1, none⟩))] ([⟨g79, [.int .i64 a0_0, .int .i64 t69], ng79⟩, ⟨g78, [.int .i64 t69], 1⟩, ⟨b77, [.int .i64 t69, .int .i64 t70], 2⟩, ⟨N76, [.int .i64 t68, .int .i64 t69, .int .i64 t70, .int .i64 t71, .int .i64 t72, .int .i64 t73, .int .i64 t74], 7⟩, ⟨g66, [.int .i64 a0_1], 1⟩, ⟨b64, [.int .i64 0, .int .i64 0], 2⟩, ⟨b63, [.int .i64 2, .int .i64 s1_1, .int .i64 s1_2, .int .i64 s1_3, .int .i64 s1_4, .int .i64 0, .int .i64 0], 7⟩, ⟨b62, [.int .i64 a0_0, .int .i64 a0_1], 2⟩] : List Own) := by
      intro g79 ng79 g78
      refine hstep [7] _ _ _ (by kernel_rfl) (List.cons_ne_nil _ _) ⟨?_, trivial⟩
      · show T _ _ _ _ _ _ _ _
        refine t_v (.ld1 rfl rfl rfl (.at 2 rfl rfl)) ?_
        refine t_keep [2, 3, 8, 9, 10, 20, 21, 22, 30, 31, 33] (σ' := [(2, .int .i64 i2), (3, .int .i64 n3), (8, .pointer (some ⟨b64, 0, none⟩)), (9, .slice (some ⟨g65, 0, none⟩) 1 1), (10, .slice (some ⟨g66, 0, none⟩) 1 1), (20, .slice (some ⟨N76, 1, none⟩) 2 3), (21, .int .i64 2), (22, .int .i64 0), (30, .slice (some ⟨g79, 0, none⟩) 2 (ng79 / 1)), (31, .slice (some ⟨g66, 0, none⟩) 1 1), (33, .int .i64 t70)]) (by kernel_rfl) ?_
        refine t_end ?_
        exact ⟨hg_ff g79 ng79 g78, rfl⟩
    have hg_1e3 : ∀ (g80 : Nat), G [true, true, false, false, false, true, true, true, true, false, false, false] [(2, .int .i64 i2), (3, .int .i64 n3), (8, .pointer (some ⟨b64, 0, none⟩)), (9, .slice (some ⟨g65, 0, none⟩) 1 1), (10, .slice (some ⟨g66, 0, none⟩) 1 1), (20, .slice (some ⟨N76, 1, none⟩) 2 3), (21, .int .i64 2), (22, .int .i64 0), (26, .slice (some ⟨g65, 0, none⟩) 1 1), (27, .pointer (some ⟨b77, 0, none⟩)), (31, .slice (some ⟨g66, 0, none⟩) 1 1), (34, .slice (some ⟨g80, 0, none⟩) 1 1)] ([⟨g80, [.int .i64 t70], 1⟩, ⟨b77, [.int .i64 t69, .int .i64 t70], 2⟩, ⟨N76, [.int .i64 t68, .int .i64 t69, .int .i64 t70, .int .i64 t71, .int .i64 t72, .int .i64 t73, .int .i64 t74], 7⟩, ⟨g66, [.int .i64 a0_1], 1⟩, ⟨g65, [.int .i64 a0_0], 1⟩, ⟨b64, [.int .i64 0, .int .i64 0], 2⟩, ⟨b63, [.int .i64 2, .int .i64 s1_1, .int .i64 s1_2, .int .i64 s1_3, .int .i64 s1_4, .int .i64 0, .int .i64 0], 7⟩, ⟨b62, [.int .i64 a0_0, .int .i64 a0_1], 2⟩] : List Own) := by
      intro g80
      refine hstep [2] _ _ _ (by kernel_rfl) (List.cons_ne_nil _ _) ⟨?_, trivial⟩
      · show T _ _ _ _ _ _ _ _
        refine t_v (.ld1 rfl rfl rfl (.at 1 rfl rfl)) ?_
        refine t_keep [2, 3, 8, 9, 10, 20, 21, 22, 26, 28, 31, 34] (σ' := [(2, .int .i64 i2), (3, .int .i64 n3), (8, .pointer (some ⟨b64, 0, none⟩)), (9, .slice (some ⟨g65, 0, none⟩) 1 1), (10, .slice (some ⟨g66, 0, none⟩) 1 1), (20, .slice (some ⟨N76, 1, none⟩) 2 3), (21, .int .i64 2), (22, .int .i64 0), (26, .slice (some ⟨g65, 0, none⟩) 1 1), (28, .int .i64 t69), (31, .slice (some ⟨g66, 0, none⟩) 1 1), (34, .slice (some ⟨g80, 0, none⟩) 1 1)]) (by kernel_rfl) ?_
        refine t_end ?_
        exact ⟨hg_1e7 g80, rfl⟩
    have hg_e7 : G [true, true, true, false, false, true, true, true, false, false, false, false] [(2, .int .i64 i2), (3, .int .i64 n3), (8, .pointer (some ⟨b64, 0, none⟩)), (9, .slice (some ⟨g65, 0, none⟩) 1 1), (10, .slice (some ⟨g66, 0, none⟩) 1 1), (20, .slice (some ⟨N76, 1, none⟩) 2 3), (21, .int .i64 2), (22, .int .i64 0), (26, .slice (some ⟨g65, 0, none⟩) 1 1), (28, .int .i64 t69), (31, .slice (some ⟨g66, 0, none⟩) 1 1), (33, .int .i64 t70)] ([⟨b77, [.int .i64 t69, .int .i64 t70], 2⟩, ⟨N76, [.int .i64 t68, .int .i64 t69, .int .i64 t70, .int .i64 t71, .int .i64 t72, .int .i64 t73, .int .i64 t74], 7⟩, ⟨g66, [.int .i64 a0_1], 1⟩, ⟨g65, [.int .i64 a0_0], 1⟩, ⟨b64, [.int .i64 0, .int .i64 0], 2⟩, ⟨b63, [.int .i64 2, .int .i64 s1_1, .int .i64 s1_2, .int .i64 s1_3, .int .i64 s1_4, .int .i64 0, .int .i64 0], 7⟩, ⟨b62, [.int .i64 a0_0, .int .i64 a0_1], 2⟩] : List Own) := by
      refine hstep [3, 8] _ _ _ (by kernel_rfl) (List.cons_ne_nil _ _) ⟨?_, ?_, trivial⟩
      · show T _ _ _ _ _ _ _ _
        refine t_a (.bsl rfl rfl rfl rfl) fun g78 fg78 sg78 => ?_
        refine t_keep [2, 3, 8, 9, 10, 20, 21, 22, 26, 29, 31, 33] (σ' := [(2, .int .i64 i2), (3, .int .i64 n3), (8, .pointer (some ⟨b64, 0, none⟩)), (9, .slice (some ⟨g65, 0, none⟩) 1 1), (10, .slice (some ⟨g66, 0, none⟩) 1 1), (20, .slice (some ⟨N76, 1, none⟩) 2 3), (21, .int .i64 2), (22, .int .i64 0), (26, .slice (some ⟨g65, 0, none⟩) 1 1), (29, .slice (some ⟨g78, 0, none⟩) 1 1), (31, .slice (some ⟨g66, 0, none⟩) 1 1), (33, .int .i64 t70)]) (by kernel_rfl) ?_
        refine t_end ?_
        exact ⟨hg_ef g78, rfl⟩
      · show T _ _ _ _ _ _ _ _
        refine t_a (.bsl rfl rfl rfl rfl) fun g80 fg80 sg80 => ?_
        refine t_keep [2, 3, 8, 9, 10, 20, 21, 22, 26, 28, 31, 34] (σ' := [(2, .int .i64 i2), (3, .int .i64 n3), (8, .pointer (some ⟨b64, 0, none⟩)), (9, .slice (some ⟨g65, 0, none⟩) 1 1), (10, .slice (some ⟨g66, 0, none⟩) 1 1), (20, .slice (some ⟨N76, 1, none⟩) 2 3), (21, .int .i64 2), (22, .int .i64 0), (26, .slice (some ⟨g65, 0, none⟩) 1 1), (28, .int .i64 t69), (31, .slice (some ⟨g66, 0, none⟩) 1 1), (34, .slice (some ⟨g80, 0, none⟩) 1 1)]) (by kernel_rfl) ?_
        refine t_end ?_
        exact ⟨hg_1e7 g80, rfl⟩
    have hg_6f : ∀ (g78 : Nat), G [true, true, true, true, false, true, true, false, false, false, false, false] [(2, .int .i64 i2), (3, .int .i64 n3), (8, .pointer (some ⟨b64, 0, none⟩)), (9, .slice (some ⟨g65, 0, none⟩) 1 1), (10, .slice (some ⟨g66, 0, none⟩) 1 1), (20, .slice (some ⟨N76, 1, none⟩) 2 3), (21, .int .i64 2), (22, .int .i64 0), (26, .slice (some ⟨g65, 0, none⟩) 1 1), (29, .slice (some ⟨g78, 0, none⟩) 1 1), (31, .slice (some ⟨g66, 0, none⟩) 1 1), (32, .pointer (some ⟨b77, 1, none⟩))] ([⟨g78, [.int .i64 t69], 1⟩, ⟨b77, [.int .i64 t69, .int .i64 t70], 2⟩, ⟨N76, [.int .i64 t68, .int .i64 t69, .int .i64 t70, .int .i64 t71, .int .i64 t72, .int .i64 t73, .int .i64 t74], 7⟩, ⟨g66, [.int .i64 a0_1], 1⟩, ⟨g65, [.int .i64 a0_0], 1⟩, ⟨b64, [.int .i64 0, .int .i64 0], 2⟩, ⟨b63, [.int .i64 2, .int .i64 s1_1, .int .i64 s1_2, .int .i64 s1_3, .int .i64 s1_4, .int .i64 0, .int .i64 0], 7⟩, ⟨b62, [.int .i64 a0_0, .int .i64 a0_1], 2⟩] : List Own) := by
      intro g78
      refine hstep [4, 7] _ _ _ (by kernel_rfl) (List.cons_ne_nil _ _) ⟨?_, ?_, trivial⟩
      · show T _ _ _ _ _ _ _ _
        refine t_app1 (cs := [.int .i64 a0_0]) (M := 1) (F := ([⟨g78, [.int .i64 t69], 1⟩, ⟨b77, [.int .i64 t69, .int .i64 t70], 2⟩, ⟨N76, [.int .i64 t68, .int .i64 t69, .int .i64 t70, .int .i64 t71, .int .i64 t72, .int .i64 t73, .int .i64 t74], 7⟩, ⟨g66, [.int .i64 a0_1], 1⟩, ⟨b64, [.int .i64 0, .int .i64 0], 2⟩, ⟨b63, [.int .i64 2, .int .i64 s1_1, .int .i64 s1_2, .int .i64 s1_3, .int .i64 s1_4, .int .i64 0, .int .i64 0], 7⟩, ⟨b62, [.int .i64 a0_0, .int .i64 a0_1], 2⟩] : List Own)) (news := [.int .i64 t69]) rfl rfl rfl rfl (sel_perm (is := [4]) (by kernel_rfl)) (.at 0 rfl rfl) (by kernel_rfl) rfl rfl (by decide) (by decide) rfl fun g79 ng79 => ?_
        refine t_keep [2, 3, 8, 9, 10, 20, 21, 22, 30, 31, 32] (σ' := [(2, .int .i64 i2), (3, .int .i64 n3), (8, .pointer (some ⟨b64, 0, none⟩)), (9, .slice (some ⟨g65, 0, none⟩) 1 1), (10, .slice (some ⟨g66, 0, none⟩) 1 1), (20, .slice (some ⟨N76, 1, none⟩) 2 3), (21, .int .i64 2), (22, .int .i64 0), (30, .slice (some ⟨g79, 0, none⟩) 2 (ng79 / 1)), (31, .slice (some ⟨g66, 0, none⟩) 1 1), (32, .pointer (some ⟨b77, 1, none⟩))]) (by kernel_rfl) ?_
        refine t_end ?_
        exact ⟨hg_7f g79 ng79 g78, rfl⟩
      · show T _ _ _ _ _ _ _ _
        refine t_v (.ld1 rfl rfl rfl (.at 1 rfl rfl)) ?_
        refine t_keep [2, 3, 8, 9, 10, 20, 21, 22, 26, 29, 31, 33] (σ' := [(2, .int .i64 i2), (3, .int .i64 n3), (8, .pointer (some ⟨b64, 0, none⟩)), (9, .slice (some ⟨g65, 0, none⟩) 1 1), (10, .slice (some ⟨g66, 0, none⟩) 1 1), (20, .slice (some ⟨N76, 1, none⟩) 2 3), (21, .int .i64 2), (22, .int .i64 0), (26, .slice (some ⟨g65, 0, none⟩) 1 1), (29, .slice (some ⟨g78, 0, none⟩) 1 1), (31, .slice (some ⟨g66, 0, none⟩) 1 1), (33, .int .i64 t70)]) (by kernel_rfl) ?_
        refine t_end ?_
        exact ⟨hg_ef g78, rfl⟩
    have hg_e3 : G [true, true, false, false, false, true, true, true, false, false, false, false] [(2, .int .i64 i2), (3, .int .i64 n3), (8, .pointer (some ⟨b64, 0, none⟩)), (9, .slice (some ⟨g65, 0, none⟩) 1 1), (10, .slice (some ⟨g66, 0, none⟩) 1 1), (20, .slice (some ⟨N76, 1, none⟩) 2 3), (21, .int .i64 2), (22, .int .i64 0), (26, .slice (some ⟨g65, 0, none⟩) 1 1), (27, .pointer (some ⟨b77, 0, none⟩)), (31, .slice (some ⟨g66, 0, none⟩) 1 1), (33, .int .i64 t70)] ([⟨b77, [.int .i64 t69, .int .i64 t70], 2⟩, ⟨N76, [.int .i64 t68, .int .i64 t69, .int .i64 t70, .int .i64 t71, .int .i64 t72, .int .i64 t73, .int .i64 t74], 7⟩, ⟨g66, [.int .i64 a0_1], 1⟩, ⟨g65, [.int .i64 a0_0], 1⟩, ⟨b64, [.int .i64 0, .int .i64 0], 2⟩, ⟨b63, [.int .i64 2, .int .i64 s1_1, .int .i64 s1_2, .int .i64 s1_3, .int .i64 s1_4, .int .i64 0, .int .i64 0], 7⟩, ⟨b62, [.int .i64 a0_0, .int .i64 a0_1], 2⟩] : List Own) := by
      refine hstep [2, 8] _ _ _ (by kernel_rfl) (List.cons_ne_nil _ _) ⟨?_, ?_, trivial⟩
      · show T _ _ _ _ _ _ _ _
        refine t_v (.ld1 rfl rfl rfl (.at 0 rfl rfl)) ?_
        refine t_keep [2, 3, 8, 9, 10, 20, 21, 22, 26, 28, 31, 33] (σ' := [(2, .int .i64 i2), (3, .int .i64 n3), (8, .pointer (some ⟨b64, 0, none⟩)), (9, .slice (some ⟨g65, 0, none⟩) 1 1), (10, .slice (some ⟨g66, 0, none⟩) 1 1), (20, .slice (some ⟨N76, 1, none⟩) 2 3), (21, .int .i64 2), (22, .int .i64 0), (26, .slice (some ⟨g65, 0, none⟩) 1 1), (28, .int .i64 t69), (31, .slice (some ⟨g66, 0, none⟩) 1 1), (33, .int .i64 t70)]) (by kernel_rfl) ?_
        refine t_end ?_
        exact ⟨hg_e7, rfl⟩
      · show T _ _ _ _ _ _ _ _
        refine t_a (.bsl rfl rfl rfl rfl) fun g80 fg80 sg80 => ?_
        refine t_keep [2, 3, 8, 9, 10, 20, 21, 22, 26, 27, 31, 34] (σ' := [(2, .int .i64 i2), (3, .int .i64 n3), (8, .pointer (some ⟨b64, 0, none⟩)), (9, .slice (some ⟨g65, 0, none⟩) 1 1), (10, .slice (some ⟨g66, 0, none⟩) 1 1), (20, .slice (some ⟨N76, 1, none⟩) 2 3), (21, .int .i64 2), (22, .int .i64 0), (26, .slice (some ⟨g65, 0, none⟩) 1 1), (27, .pointer (some ⟨b77, 0, none⟩)), (31, .slice (some ⟨g66, 0, none⟩) 1 1), (34, .slice (some ⟨g80, 0, none⟩) 1 1)]) (by kernel_rfl) ?_
        refine t_end ?_
        exact ⟨hg_1e3 g80, rfl⟩
    have hg_67 : G [true, true, true, false, false, true, true, false, false, false, false, false] [(2, .int .i64 i2), (3, .int .i64 n3), (8, .pointer (some ⟨b64, 0, none⟩)), (9, .slice (some ⟨g65, 0, none⟩) 1 1), (10, .slice (some ⟨g66, 0, none⟩) 1 1), (20, .slice (some ⟨N76, 1, none⟩) 2 3), (21, .int .i64 2), (22, .int .i64 0), (26, .slice (some ⟨g65, 0, none⟩) 1 1), (28, .int .i64 t69), (31, .slice (some ⟨g66, 0, none⟩) 1 1), (32, .pointer (some ⟨b77, 1, none⟩))] ([⟨b77, [.int .i64 t69, .int .i64 t70], 2⟩, ⟨N76, [.int .i64 t68, .int .i64 t69, .int .i64 t70, .int .i64 t71, .int .i64 t72, .int .i64 t73, .int .i64 t74], 7⟩, ⟨g66, [.int .i64 a0_1], 1⟩, ⟨g65, [.int .i64 a0_0], 1⟩, ⟨b64, [.int .i64 0, .int .i64 0], 2⟩, ⟨b63, [.int .i64 2, .int .i64 s1_1, .int .i64 s1_2, .int .i64 s1_3, .int .i64 s1_4, .int .i64 0, .int .i64 0], 7⟩, ⟨b62, [.int .i64 a0_0, .int .i64 a0_1], 2⟩] : List Own) := by
      refine hstep [3, 7] _ _ _ (by kernel_rfl) (List.cons_ne_nil _ _) ⟨?_, ?_, trivial⟩
      · show T _ _ _ _ _ _ _ _
        refine t_a (.bsl rfl rfl rfl rfl) fun g78 fg78 sg78 => ?_
        refine t_keep [2, 3, 8, 9, 10, 20, 21, 22, 26, 29, 31, 32] (σ' := [(2, .int .i64 i2), (3, .int .i64 n3), (8, .pointer (some ⟨b64, 0, none⟩)), (9, .slice (some ⟨g65, 0, none⟩) 1 1), (10, .slice (some ⟨g66, 0, none⟩) 1 1), (20, .slice (some ⟨N76, 1, none⟩) 2 3), (21, .int .i64 2), (22, .int .i64 0), (26, .slice (some ⟨g65, 0, none⟩) 1 1), (29, .slice (some ⟨g78, 0, none⟩) 1 1), (31, .slice (some ⟨g66, 0, none⟩) 1 1), (32, .pointer (some ⟨b77, 1, none⟩))]) (by kernel_rfl) ?_
        refine t_end ?_
        exact ⟨hg_6f g78, rfl⟩
      · show T _ _ _ _ _ _ _ _
        refine t_v (.ld1 rfl rfl rfl (.at 0 rfl rfl)) ?_
        refine t_keep [2, 3, 8, 9, 10, 20, 21, 22, 26, 28, 31, 33] (σ' := [(2, .int .i64 i2), (3, .int .i64 n3), (8, .pointer (some ⟨b64, 0, none⟩)), (9, .slice (some ⟨g65, 0, none⟩) 1 1), (10, .slice (some ⟨g66, 0, none⟩) 1 1), (20, .slice (some ⟨N76, 1, none⟩) 2 3), (21, .int .i64 2), (22, .int .i64 0), (26, .slice (some ⟨g65, 0, none⟩) 1 1), (28, .int .i64 t69), (31, .slice (some ⟨g66, 0, none⟩) 1 1), (33, .int .i64 t70)]) (by kernel_rfl) ?_
        refine t_end ?_
        exact ⟨hg_e7, rfl⟩
    have hg_63 : G [true, true, false, false, false, true, true, false, false, false, false, false] [(2, .int .i64 i2), (3, .int .i64 n3), (8, .pointer (some ⟨b64, 0, none⟩)), (9, .slice (some ⟨g65, 0, none⟩) 1 1), (10, .slice (some ⟨g66, 0, none⟩) 1 1), (20, .slice (some ⟨N76, 1, none⟩) 2 3), (21, .int .i64 2), (22, .int .i64 0), (26, .slice (some ⟨g65, 0, none⟩) 1 1), (27, .pointer (some ⟨b77, 0, none⟩)), (31, .slice (some ⟨g66, 0, none⟩) 1 1), (32, .pointer (some ⟨b77, 1, none⟩))] ([⟨b77, [.int .i64 t69, .int .i64 t70], 2⟩, ⟨N76, [.int .i64 t68, .int .i64 t69, .int .i64 t70, .int .i64 t71, .int .i64 t72, .int .i64 t73, .int .i64 t74], 7⟩, ⟨g66, [.int .i64 a0_1], 1⟩, ⟨g65, [.int .i64 a0_0], 1⟩, ⟨b64, [.int .i64 0, .int .i64 0], 2⟩, ⟨b63, [.int .i64 2, .int .i64 s1_1, .int .i64 s1_2, .int .i64 s1_3, .int .i64 s1_4, .int .i64 0, .int .i64 0], 7⟩, ⟨b62, [.int .i64 a0_0, .int .i64 a0_1], 2⟩] : List Own) := by
      refine hstep [2, 7] _ _ _ (by kernel_rfl) (List.cons_ne_nil _ _) ⟨?_, ?_, trivial⟩
      · show T _ _ _ _ _ _ _ _
        refine t_v (.ld1 rfl rfl rfl (.at 0 rfl rfl)) ?_
        refine t_keep [2, 3, 8, 9, 10, 20, 21, 22, 26, 28, 31, 32] (σ' := [(2, .int .i64 i2), (3, .int .i64 n3), (8, .pointer (some ⟨b64, 0, none⟩)), (9, .slice (some ⟨g65, 0, none⟩) 1 1), (10, .slice (some ⟨g66, 0, none⟩) 1 1), (20, .slice (some ⟨N76, 1, none⟩) 2 3), (21, .int .i64 2), (22, .int .i64 0), (26, .slice (some ⟨g65, 0, none⟩) 1 1), (28, .int .i64 t69), (31, .slice (some ⟨g66, 0, none⟩) 1 1), (32, .pointer (some ⟨b77, 1, none⟩))]) (by kernel_rfl) ?_
        refine t_end ?_
        exact ⟨hg_67, rfl⟩
      · show T _ _ _ _ _ _ _ _
        refine t_v (.ld1 rfl rfl rfl (.at 0 rfl rfl)) ?_
        refine t_keep [2, 3, 8, 9, 10, 20, 21, 22, 26, 27, 31, 33] (σ' := [(2, .int .i64 i2), (3, .int .i64 n3), (8, .pointer (some ⟨b64, 0, none⟩)), (9, .slice (some ⟨g65, 0, none⟩) 1 1), (10, .slice (some ⟨g66, 0, none⟩) 1 1), (20, .slice (some ⟨N76, 1, none⟩) 2 3), (21, .int .i64 2), (22, .int .i64 0), (26, .slice (some ⟨g65, 0, none⟩) 1 1), (27, .pointer (some ⟨b77, 0, none⟩)), (31, .slice (some ⟨g66, 0, none⟩) 1 1), (33, .int .i64 t70)]) (by kernel_rfl) ?_
        refine t_end ?_
        exact ⟨hg_e3, rfl⟩
    have hg_23 : G [true, true, false, false, false, true, false, false, false, false, false, false] [(2, .int .i64 i2), (3, .int .i64 n3), (8, .pointer (some ⟨b64, 0, none⟩)), (9, .slice (some ⟨g65, 0, none⟩) 1 1), (10, .slice (some ⟨g66, 0, none⟩) 1 1), (12, .pointer (some ⟨b77, 0, none⟩)), (20, .slice (some ⟨N76, 1, none⟩) 2 3), (21, .int .i64 2), (22, .int .i64 0), (26, .slice (some ⟨g65, 0, none⟩) 1 1), (27, .pointer (some ⟨b77, 0, none⟩)), (31, .slice (some ⟨g66, 0, none⟩) 1 1)] ([⟨b77, [.int .i64 t69, .int .i64 t70], 2⟩, ⟨N76, [.int .i64 t68, .int .i64 t69, .int .i64 t70, .int .i64 t71, .int .i64 t72, .int .i64 t73, .int .i64 t74], 7⟩, ⟨g66, [.int .i64 a0_1], 1⟩, ⟨g65, [.int .i64 a0_0], 1⟩, ⟨b64, [.int .i64 0, .int .i64 0], 2⟩, ⟨b63, [.int .i64 2, .int .i64 s1_1, .int .i64 s1_2, .int .i64 s1_3, .int .i64 s1_4, .int .i64 0, .int .i64 0], 7⟩, ⟨b62, [.int .i64 a0_0, .int .i64 a0_1], 2⟩] : List Own) := by
      exact hqf 6 [2, 3, 8, 9, 10, 20, 21, 22, 26, 27, 31, 32] _ _ _ [(2, .int .i64 i2), (3, .int .i64 n3), (8, .pointer (some ⟨b64, 0, none⟩)), (9, .slice (some ⟨g65, 0, none⟩) 1 1), (10, .slice (some ⟨g66, 0, none⟩) 1 1), (20, .slice (some ⟨N76, 1, none⟩) 2 3), (21, .int .i64 2), (22, .int .i64 0), (26, .slice (some ⟨g65, 0, none⟩) 1 1), (27, .pointer (some ⟨b77, 0, none⟩)), (31, .slice (some ⟨g66, 0, none⟩) 1 1), (32, .pointer (some ⟨b77, 1, none⟩))] (by kernel_rfl) (by kernel_rfl) hg_63
    have hg_3 : G [true, true, false, false, false, false, false, false, false, false, false, false] [(2, .int .i64 i2), (3, .int .i64 n3), (8, .pointer (some ⟨b64, 0, none⟩)), (9, .slice (some ⟨g65, 0, none⟩) 1 1), (10, .slice (some ⟨g66, 0, none⟩) 1 1), (12, .pointer (some ⟨b77, 0, none⟩)), (20, .slice (some ⟨N76, 1, none⟩) 2 3), (21, .int .i64 2), (22, .int .i64 0), (26, .slice (some ⟨g65, 0, none⟩) 1 1), (27, .pointer (some ⟨b77, 0, none⟩))] ([⟨b77, [.int .i64 t69, .int .i64 t70], 2⟩, ⟨N76, [.int .i64 t68, .int .i64 t69, .int .i64 t70, .int .i64 t71, .int .i64 t72, .int .i64 t73, .int .i64 t74], 7⟩, ⟨g66, [.int .i64 a0_1], 1⟩, ⟨g65, [.int .i64 a0_0], 1⟩, ⟨b64, [.int .i64 0, .int .i64 0], 2⟩, ⟨b63, [.int .i64 2, .int .i64 s1_1, .int .i64 s1_2, .int .i64 s1_3, .int .i64 s1_4, .int .i64 0, .int .i64 0], 7⟩, ⟨b62, [.int .i64 a0_0, .int .i64 a0_1], 2⟩] : List Own) := by
      exact hqf 5 [2, 3, 8, 9, 10, 12, 20, 21, 22, 26, 27, 31] _ _ _ [(2, .int .i64 i2), (3, .int .i64 n3), (8, .pointer (some ⟨b64, 0, none⟩)), (9, .slice (some ⟨g65, 0, none⟩) 1 1), (10, .slice (some ⟨g66, 0, none⟩) 1 1), (12, .pointer (some ⟨b77, 0, none⟩)), (20, .slice (some ⟨N76, 1, none⟩) 2 3), (21, .int .i64 2), (22, .int .i64 0), (26, .slice (some ⟨g65, 0, none⟩) 1 1), (27, .pointer (some ⟨b77, 0, none⟩)), (31, .slice (some ⟨g66, 0, none⟩) 1 1)] (by kernel_rfl) (by kernel_rfl) hg_23
    have hg_1 : G [true, false, false, false, false, false, false, false, false, false, false, false] [(2, .int .i64 i2), (3, .int .i64 n3), (8, .pointer (some ⟨b64, 0, none⟩)), (9, .slice (some ⟨g65, 0, none⟩) 1 1), (10, .slice (some ⟨g66, 0, none⟩) 1 1), (12, .pointer (some ⟨b77, 0, none⟩)), (20, .slice (some ⟨N76, 1, none⟩) 2 3), (21, .int .i64 2), (22, .int .i64 0), (26, .slice (some ⟨g65, 0, none⟩) 1 1)] ([⟨b77, [.int .i64 t69, .int .i64 t70], 2⟩, ⟨N76, [.int .i64 t68, .int .i64 t69, .int .i64 t70, .int .i64 t71, .int .i64 t72, .int .i64 t73, .int .i64 t74], 7⟩, ⟨g66, [.int .i64 a0_1], 1⟩, ⟨g65, [.int .i64 a0_0], 1⟩, ⟨b64, [.int .i64 0, .int .i64 0], 2⟩, ⟨b63, [.int .i64 2, .int .i64 s1_1, .int .i64 s1_2, .int .i64 s1_3, .int .i64 s1_4, .int .i64 0, .int .i64 0], 7⟩, ⟨b62, [.int .i64 a0_0, .int .i64 a0_1], 2⟩] : List Own) := by
      exact hqf 1 [2, 3, 8, 9, 10, 12, 20, 21, 22, 26, 27] _ _ _ [(2, .int .i64 i2), (3, .int .i64 n3), (8, .pointer (some ⟨b64, 0, none⟩)), (9, .slice (some ⟨g65, 0, none⟩) 1 1), (10, .slice (some ⟨g66, 0, none⟩) 1 1), (12, .pointer (some ⟨b77, 0, none⟩)), (20, .slice (some ⟨N76, 1, none⟩) 2 3), (21, .int .i64 2), (22, .int .i64 0), (26, .slice (some ⟨g65, 0, none⟩) 1 1), (27, .pointer (some ⟨b77, 0, none⟩))] (by kernel_rfl) (by kernel_rfl) hg_3
    have hg_0 : G [false, false, false, false, false, false, false, false, false, false, false, false] [(2, .int .i64 i2), (3, .int .i64 n3), (8, .pointer (some ⟨b64, 0, none⟩)), (9, .slice (some ⟨g65, 0, none⟩) 1 1), (10, .slice (some ⟨g66, 0, none⟩) 1 1), (12, .pointer (some ⟨b77, 0, none⟩)), (20, .slice (some ⟨N76, 1, none⟩) 2 3), (21, .int .i64 2), (22, .int .i64 0)] ([⟨b77, [.int .i64 t69, .int .i64 t70], 2⟩, ⟨N76, [.int .i64 t68, .int .i64 t69, .int .i64 t70, .int .i64 t71, .int .i64 t72, .int .i64 t73, .int .i64 t74], 7⟩, ⟨g66, [.int .i64 a0_1], 1⟩, ⟨g65, [.int .i64 a0_0], 1⟩, ⟨b64, [.int .i64 0, .int .i64 0], 2⟩, ⟨b63, [.int .i64 2, .int .i64 s1_1, .int .i64 s1_2, .int .i64 s1_3, .int .i64 s1_4, .int .i64 0, .int .i64 0], 7⟩, ⟨b62, [.int .i64 a0_0, .int .i64 a0_1], 2⟩] : List Own) := by
      exact hqf 0 [2, 3, 8, 9, 10, 12, 20, 21, 22, 26] _ _ _ [(2, .int .i64 i2), (3, .int .i64 n3), (8, .pointer (some ⟨b64, 0, none⟩)), (9, .slice (some ⟨g65, 0, none⟩) 1 1), (10, .slice (some ⟨g66, 0, none⟩) 1 1), (12, .pointer (some ⟨b77, 0, none⟩)), (20, .slice (some ⟨N76, 1, none⟩) 2 3), (21, .int .i64 2), (22, .int .i64 0), (26, .slice (some ⟨g65, 0, none⟩) 1 1)] (by kernel_rfl) (by kernel_rfl) hg_1
    exact hg_0
  have hg_7f : ∀ (g66 g65 : Nat), G [true, true, true, true, true, true, true, false] [(2, .int .i64 i2), (3, .int .i64 n3), (5, .pointer (some ⟨b63, 0, none⟩)), (8, .pointer (some ⟨b64, 0, none⟩)), (9, .slice (some ⟨g65, 0, none⟩) 1 1), (18, .slice (some ⟨g66, 0, none⟩) 1 1)] ([⟨g66, [.int .i64 a0_1], 1⟩, ⟨g65, [.int .i64 a0_0], 1⟩, ⟨b64, [.int .i64 0, .int .i64 0], 2⟩, ⟨b63, [.int .i64 2, .int .i64 s1_1, .int .i64 s1_2, .int .i64 s1_3, .int .i64 s1_4, .int .i64 0, .int .i64 0], 7⟩, ⟨b62, [.int .i64 a0_0, .int .i64 a0_1], 2⟩] : List Own) := by
    intro g66 g65
    exact hqf 7 [2, 3, 5, 8, 9, 10] _ _ _ [(2, .int .i64 i2), (3, .int .i64 n3), (5, .pointer (some ⟨b63, 0, none⟩)), (8, .pointer (some ⟨b64, 0, none⟩)), (9, .slice (some ⟨g65, 0, none⟩) 1 1), (10, .slice (some ⟨g66, 0, none⟩) 1 1)] (by kernel_rfl) (by kernel_rfl) (hg_ff g66 g65)
  have hg_3f : ∀ (g66 g65 : Nat), G [true, true, true, true, true, true, false, false] [(2, .int .i64 i2), (3, .int .i64 n3), (5, .pointer (some ⟨b63, 0, none⟩)), (8, .pointer (some ⟨b64, 0, none⟩)), (15, .slice (some ⟨g65, 0, none⟩) 1 1), (18, .slice (some ⟨g66, 0, none⟩) 1 1)] ([⟨g66, [.int .i64 a0_1], 1⟩, ⟨g65, [.int .i64 a0_0], 1⟩, ⟨b64, [.int .i64 0, .int .i64 0], 2⟩, ⟨b63, [.int .i64 2, .int .i64 s1_1, .int .i64 s1_2, .int .i64 s1_3, .int .i64 s1_4, .int .i64 0, .int .i64 0], 7⟩, ⟨b62, [.int .i64 a0_0, .int .i64 a0_1], 2⟩] : List Own) := by
    intro g66 g65
    exact hqf 6 [2, 3, 5, 8, 9, 18] _ _ _ [(2, .int .i64 i2), (3, .int .i64 n3), (5, .pointer (some ⟨b63, 0, none⟩)), (8, .pointer (some ⟨b64, 0, none⟩)), (9, .slice (some ⟨g65, 0, none⟩) 1 1), (18, .slice (some ⟨g66, 0, none⟩) 1 1)] (by kernel_rfl) (by kernel_rfl) (hg_7f g66 g65)
  have hg_5f : ∀ (g65 : Nat), G [true, true, true, true, true, false, true, false] [(2, .int .i64 i2), (3, .int .i64 n3), (5, .pointer (some ⟨b63, 0, none⟩)), (8, .pointer (some ⟨b64, 0, none⟩)), (9, .slice (some ⟨g65, 0, none⟩) 1 1), (17, .int .i64 a0_1)] ([⟨g65, [.int .i64 a0_0], 1⟩, ⟨b64, [.int .i64 0, .int .i64 0], 2⟩, ⟨b63, [.int .i64 2, .int .i64 s1_1, .int .i64 s1_2, .int .i64 s1_3, .int .i64 s1_4, .int .i64 0, .int .i64 0], 7⟩, ⟨b62, [.int .i64 a0_0, .int .i64 a0_1], 2⟩] : List Own) := by
    intro g65
    refine hstep [5] _ _ _ (by kernel_rfl) (List.cons_ne_nil _ _) ⟨?_, trivial⟩
    · show T _ _ _ _ _ _ _ _
      refine t_a (.bsl rfl rfl rfl rfl) fun g66 fg66 sg66 => ?_
      refine t_keep [2, 3, 5, 8, 9, 18] (σ' := [(2, .int .i64 i2), (3, .int .i64 n3), (5, .pointer (some ⟨b63, 0, none⟩)), (8, .pointer (some ⟨b64, 0, none⟩)), (9, .slice (some ⟨g65, 0, none⟩) 1 1), (18, .slice (some ⟨g66, 0, none⟩) 1 1)]) (by kernel_rfl) ?_
      refine t_end ?_
      exact ⟨hg_7f g66 g65, rfl⟩
  have hg_3b : ∀ (g66 : Nat), G [true, true, false, true, true, true, false, false] [(2, .int .i64 i2), (3, .int .i64 n3), (5, .pointer (some ⟨b63, 0, none⟩)), (8, .pointer (some ⟨b64, 0, none⟩)), (14, .int .i64 a0_0), (18, .slice (some ⟨g66, 0, none⟩) 1 1)] ([⟨g66, [.int .i64 a0_1], 1⟩, ⟨b64, [.int .i64 0, .int .i64 0], 2⟩, ⟨b63, [.int .i64 2, .int .i64 s1_1, .int .i64 s1_2, .int .i64 s1_3, .int .i64 s1_4, .int .i64 0, .int .i64 0], 7⟩, ⟨b62, [.int .i64 a0_0, .int .i64 a0_1], 2⟩] : List Own) := by
    intro g66
    refine hstep [2] _ _ _ (by kernel_rfl) (List.cons_ne_nil _ _) ⟨?_, trivial⟩
    · show T _ _ _ _ _ _ _ _
      refine t_a (.bsl rfl rfl rfl rfl) fun g65 fg65 sg65 => ?_
      refine t_keep [2, 3, 5, 8, 15, 18] (σ' := [(2, .int .i64 i2), (3, .int .i64 n3), (5, .pointer (some ⟨b63, 0, none⟩)), (8, .pointer (some ⟨b64, 0, none⟩)), (15, .slice (some ⟨g65, 0, none⟩) 1 1), (18, .slice (some ⟨g66, 0, none⟩) 1 1)]) (by kernel_rfl) ?_
      refine t_vs (H' := ([⟨g66, [.int .i64 a0_1], 1⟩, ⟨g65, [.int .i64 a0_0], 1⟩, ⟨b64, [.int .i64 0, .int .i64 0], 2⟩, ⟨b63, [.int .i64 2, .int .i64 s1_1, .int .i64 s1_2, .int .i64 s1_3, .int .i64 s1_4, .int .i64 0, .int .i64 0], 7⟩, ⟨b62, [.int .i64 a0_0, .int .i64 a0_1], 2⟩] : List Own)) (S' := S) (VS.sel [1, 0, 0, 0, 0] (by kernel_rfl)) ?_
      refine t_end ?_
      exact ⟨hg_3f g66 g65, rfl⟩
  have hg_1f : ∀ (g65 : Nat), G [true, true, true, true, true, false, false, false] [(2, .int .i64 i2), (3, .int .i64 n3), (5, .pointer (some ⟨b63, 0, none⟩)), (8, .pointer (some ⟨b64, 0, none⟩)), (15, .slice (some ⟨g65, 0, none⟩) 1 1), (17, .int .i64 a0_1)] ([⟨g65, [.int .i64 a0_0], 1⟩, ⟨b64, [.int .i64 0, .int .i64 0], 2⟩, ⟨b63, [.int .i64 2, .int .i64 s1_1, .int .i64 s1_2, .int .i64 s1_3, .int .i64 s1_4, .int .i64 0, .int .i64 0], 7⟩, ⟨b62, [.int .i64 a0_0, .int .i64 a0_1], 2⟩] : List Own) := by
    intro g65
    exact hqf 6 [2, 3, 5, 8, 9, 17] _ _ _ [(2, .int .i64 i2), (3, .int .i64 n3), (5, .pointer (some ⟨b63, 0, none⟩)), (8, .pointer (some ⟨b64, 0, none⟩)), (9, .slice (some ⟨g65, 0, none⟩) 1 1), (17, .int .i64 a0_1)] (by kernel_rfl) (by kernel_rfl) (hg_5f g65)
  have hg_4f : ∀ (g65 : Nat), G [true, true, true, true, false, false, true, false] [(2, .int .i64 i2), (3, .int .i64 n3), (5, .pointer (some ⟨b63, 0, none⟩)), (8, .pointer (some ⟨b64, 0, none⟩)), (9, .slice (some ⟨g65, 0, none⟩) 1 1), (16, .pointer (some ⟨b62, 1, none⟩))] ([⟨g65, [.int .i64 a0_0], 1⟩, ⟨b64, [.int .i64 0, .int .i64 0], 2⟩, ⟨b63, [.int .i64 2, .int .i64 s1_1, .int .i64 s1_2, .int .i64 s1_3, .int .i64 s1_4, .int .i64 0, .int .i64 0], 7⟩, ⟨b62, [.int .i64 a0_0, .int .i64 a0_1], 2⟩] : List Own) := by
    intro g65
    refine hstep [4] _ _ _ (by kernel_rfl) (List.cons_ne_nil _ _) ⟨?_, trivial⟩
    · show T _ _ _ _ _ _ _ _
      refine t_v (.ld1 rfl rfl rfl (.at 3 rfl rfl)) ?_
      refine t_keep [2, 3, 5, 8, 9, 17] (σ' := [(2, .int .i64 i2), (3, .int .i64 n3), (5, .pointer (some ⟨b63, 0, none⟩)), (8, .pointer (some ⟨b64, 0, none⟩)), (9, .slice (some ⟨g65, 0, none⟩) 1 1), (17, .int .i64 a0_1)]) (by kernel_rfl) ?_
      refine t_end ?_
      exact ⟨hg_5f g65, rfl⟩
  have hg_f : ∀ (g65 : Nat), G [true, true, true, true, false, false, false, false] [(2, .int .i64 i2), (3, .int .i64 n3), (5, .pointer (some ⟨b63, 0, none⟩)), (8, .pointer (some ⟨b64, 0, none⟩)), (15, .slice (some ⟨g65, 0, none⟩) 1 1), (16, .pointer (some ⟨b62, 1, none⟩))] ([⟨g65, [.int .i64 a0_0], 1⟩, ⟨b64, [.int .i64 0, .int .i64 0], 2⟩, ⟨b63, [.int .i64 2, .int .i64 s1_1, .int .i64 s1_2, .int .i64 s1_3, .int .i64 s1_4, .int .i64 0, .int .i64 0], 7⟩, ⟨b62, [.int .i64 a0_0, .int .i64 a0_1], 2⟩] : List Own) := by
    intro g65
    exact hqf 6 [2, 3, 5, 8, 9, 16] _ _ _ [(2, .int .i64 i2), (3, .int .i64 n3), (5, .pointer (some ⟨b63, 0, none⟩)), (8, .pointer (some ⟨b64, 0, none⟩)), (9, .slice (some ⟨g65, 0, none⟩) 1 1), (16, .pointer (some ⟨b62, 1, none⟩))] (by kernel_rfl) (by kernel_rfl) (hg_4f g65)
  have hg_1b : G [true, true, false, true, true, false, false, false] [(2, .int .i64 i2), (3, .int .i64 n3), (5, .pointer (some ⟨b63, 0, none⟩)), (8, .pointer (some ⟨b64, 0, none⟩)), (14, .int .i64 a0_0), (17, .int .i64 a0_1)] ([⟨b64, [.int .i64 0, .int .i64 0], 2⟩, ⟨b63, [.int .i64 2, .int .i64 s1_1, .int .i64 s1_2, .int .i64 s1_3, .int .i64 s1_4, .int .i64 0, .int .i64 0], 7⟩, ⟨b62, [.int .i64 a0_0, .int .i64 a0_1], 2⟩] : List Own) := by
    refine hstep [2, 5] _ _ _ (by kernel_rfl) (List.cons_ne_nil _ _) ⟨?_, ?_, trivial⟩
    · show T _ _ _ _ _ _ _ _
      refine t_a (.bsl rfl rfl rfl rfl) fun g65 fg65 sg65 => ?_
      refine t_keep [2, 3, 5, 8, 15, 17] (σ' := [(2, .int .i64 i2), (3, .int .i64 n3), (5, .pointer (some ⟨b63, 0, none⟩)), (8, .pointer (some ⟨b64, 0, none⟩)), (15, .slice (some ⟨g65, 0, none⟩) 1 1), (17, .int .i64 a0_1)]) (by kernel_rfl) ?_
      refine t_end ?_
      exact ⟨hg_1f g65, rfl⟩
    · show T _ _ _ _ _ _ _ _
      refine t_a (.bsl rfl rfl rfl rfl) fun g66 fg66 sg66 => ?_
      refine t_keep [2, 3, 5, 8, 14, 18] (σ' := [(2, .int .i64 i2), (3, .int .i64 n3), (5, .pointer (some ⟨b63, 0, none⟩)), (8, .pointer (some ⟨b64, 0, none⟩)), (14, .int .i64 a0_0), (18, .slice (some ⟨g66, 0, none⟩) 1 1)]) (by kernel_rfl) ?_
      refine t_end ?_
      exact ⟨hg_3b g66, rfl⟩
  have hg_39 : ∀ (g66 : Nat), G [true, false, false, true, true, true, false, false] [(2, .int .i64 i2), (3, .int .i64 n3), (5, .pointer (some ⟨b63, 0, none⟩)), (8, .pointer (some ⟨b64, 0, none⟩)), (13, .pointer (some ⟨b62, 0, none⟩)), (18, .slice (some ⟨g66, 0, none⟩) 1 1)] ([⟨g66, [.int .i64 a0_1], 1⟩, ⟨b64, [.int .i64 0, .int .i64 0], 2⟩, ⟨b63, [.int .i64 2, .int .i64 s1_1, .int .i64 s1_2, .int .i64 s1_3, .int .i64 s1_4, .int .i64 0, .int .i64 0], 7⟩, ⟨b62, [.int .i64 a0_0, .int .i64 a0_1], 2⟩] : List Own) := by
    intro g66
    refine hstep [1] _ _ _ (by kernel_rfl) (List.cons_ne_nil _ _) ⟨?_, trivial⟩
    · show T _ _ _ _ _ _ _ _
      refine t_v (.ld1 rfl rfl rfl (.at 3 rfl rfl)) ?_
      refine t_keep [2, 3, 5, 8, 14, 18] (σ' := [(2, .int .i64 i2), (3, .int .i64 n3), (5, .pointer (some ⟨b63, 0, none⟩)), (8, .pointer (some ⟨b64, 0, none⟩)), (14, .int .i64 a0_0), (18, .slice (some ⟨g66, 0, none⟩) 1 1)]) (by kernel_rfl) ?_
      refine t_end ?_
      exact ⟨hg_3b g66, rfl⟩
  have hg_b : G [true, true, false, true, false, false, false, false] [(2, .int .i64 i2), (3, .int .i64 n3), (5, .pointer (some ⟨b63, 0, none⟩)), (8, .pointer (some ⟨b64, 0, none⟩)), (14, .int .i64 a0_0), (16, .pointer (some ⟨b62, 1, none⟩))] ([⟨b64, [.int .i64 0, .int .i64 0], 2⟩, ⟨b63, [.int .i64 2, .int .i64 s1_1, .int .i64 s1_2, .int .i64 s1_3, .int .i64 s1_4, .int .i64 0, .int .i64 0], 7⟩, ⟨b62, [.int .i64 a0_0, .int .i64 a0_1], 2⟩] : List Own) := by
    refine hstep [2, 4] _ _ _ (by kernel_rfl) (List.cons_ne_nil _ _) ⟨?_, ?_, trivial⟩
    · show T _ _ _ _ _ _ _ _
      refine t_a (.bsl rfl rfl rfl rfl) fun g65 fg65 sg65 => ?_
      refine t_keep [2, 3, 5, 8, 15, 16] (σ' := [(2, .int .i64 i2), (3, .int .i64 n3), (5, .pointer (some ⟨b63, 0, none⟩)), (8, .pointer (some ⟨b64, 0, none⟩)), (15, .slice (some ⟨g65, 0, none⟩) 1 1), (16, .pointer (some ⟨b62, 1, none⟩))]) (by kernel_rfl) ?_
      refine t_end ?_
      exact ⟨hg_f g65, rfl⟩
    · show T _ _ _ _ _ _ _ _
      refine t_v (.ld1 rfl rfl rfl (.at 2 rfl rfl)) ?_
      refine t_keep [2, 3, 5, 8, 14, 17] (σ' := [(2, .int .i64 i2), (3, .int .i64 n3), (5, .pointer (some ⟨b63, 0, none⟩)), (8, .pointer (some ⟨b64, 0, none⟩)), (14, .int .i64 a0_0), (17, .int .i64 a0_1)]) (by kernel_rfl) ?_
      refine t_end ?_
      exact ⟨hg_1b, rfl⟩
  have hg_19 : G [true, false, false, true, true, false, false, false] [(2, .int .i64 i2), (3, .int .i64 n3), (5, .pointer (some ⟨b63, 0, none⟩)), (8, .pointer (some ⟨b64, 0, none⟩)), (13, .pointer (some ⟨b62, 0, none⟩)), (17, .int .i64 a0_1)] ([⟨b64, [.int .i64 0, .int .i64 0], 2⟩, ⟨b63, [.int .i64 2, .int .i64 s1_1, .int .i64 s1_2, .int .i64 s1_3, .int .i64 s1_4, .int .i64 0, .int .i64 0], 7⟩, ⟨b62, [.int .i64 a0_0, .int .i64 a0_1], 2⟩] : List Own) := by
    refine hstep [1, 5] _ _ _ (by kernel_rfl) (List.cons_ne_nil _ _) ⟨?_, ?_, trivial⟩
    · show T _ _ _ _ _ _ _ _
      refine t_v (.ld1 rfl rfl rfl (.at 2 rfl rfl)) ?_
      refine t_keep [2, 3, 5, 8, 14, 17] (σ' := [(2, .int .i64 i2), (3, .int .i64 n3), (5, .pointer (some ⟨b63, 0, none⟩)), (8, .pointer (some ⟨b64, 0, none⟩)), (14, .int .i64 a0_0), (17, .int .i64 a0_1)]) (by kernel_rfl) ?_
      refine t_end ?_
      exact ⟨hg_1b, rfl⟩
    · show T _ _ _ _ _ _ _ _
      refine t_a (.bsl rfl rfl rfl rfl) fun g66 fg66 sg66 => ?_
      refine t_keep [2, 3, 5, 8, 13, 18] (σ' := [(2, .int .i64 i2), (3, .int .i64 n3), (5, .pointer (some ⟨b63, 0, none⟩)), (8, .pointer (some ⟨b64, 0, none⟩)), (13, .pointer (some ⟨b62, 0, none⟩)), (18, .slice (some ⟨g66, 0, none⟩) 1 1)]) (by kernel_rfl) ?_
      refine t_end ?_
      exact ⟨hg_39 g66, rfl⟩
  have hg_9 : G [true, false, false, true, false, false, false, false] [(2, .int .i64 i2), (3, .int .i64 n3), (5, .pointer (some ⟨b63, 0, none⟩)), (8, .pointer (some ⟨b64, 0, none⟩)), (13, .pointer (some ⟨b62, 0, none⟩)), (16, .pointer (some ⟨b62, 1, none⟩))] ([⟨b64, [.int .i64 0, .int .i64 0], 2⟩, ⟨b63, [.int .i64 2, .int .i64 s1_1, .int .i64 s1_2, .int .i64 s1_3, .int .i64 s1_4, .int .i64 0, .int .i64 0], 7⟩, ⟨b62, [.int .i64 a0_0, .int .i64 a0_1], 2⟩] : List Own) := by
    refine hstep [1, 4] _ _ _ (by kernel_rfl) (List.cons_ne_nil _ _) ⟨?_, ?_, trivial⟩
    · show T _ _ _ _ _ _ _ _
      refine t_v (.ld1 rfl rfl rfl (.at 2 rfl rfl)) ?_
      refine t_keep [2, 3, 5, 8, 14, 16] (σ' := [(2, .int .i64 i2), (3, .int .i64 n3), (5, .pointer (some ⟨b63, 0, none⟩)), (8, .pointer (some ⟨b64, 0, none⟩)), (14, .int .i64 a0_0), (16, .pointer (some ⟨b62, 1, none⟩))]) (by kernel_rfl) ?_
      refine t_end ?_
      exact ⟨hg_b, rfl⟩
    · show T _ _ _ _ _ _ _ _
      refine t_v (.ld1 rfl rfl rfl (.at 2 rfl rfl)) ?_
      refine t_keep [2, 3, 5, 8, 13, 17] (σ' := [(2, .int .i64 i2), (3, .int .i64 n3), (5, .pointer (some ⟨b63, 0, none⟩)), (8, .pointer (some ⟨b64, 0, none⟩)), (13, .pointer (some ⟨b62, 0, none⟩)), (17, .int .i64 a0_1)]) (by kernel_rfl) ?_
      refine t_end ?_
      exact ⟨hg_19, rfl⟩
  have hg_1 : G [true, false, false, false, false, false, false, false] [(2, .int .i64 i2), (3, .int .i64 n3), (4, .pointer (some ⟨b62, 0, none⟩)), (5, .pointer (some ⟨b63, 0, none⟩)), (8, .pointer (some ⟨b64, 0, none⟩)), (13, .pointer (some ⟨b62, 0, none⟩))] ([⟨b64, [.int .i64 0, .int .i64 0], 2⟩, ⟨b63, [.int .i64 2, .int .i64 s1_1, .int .i64 s1_2, .int .i64 s1_3, .int .i64 s1_4, .int .i64 0, .int .i64 0], 7⟩, ⟨b62, [.int .i64 a0_0, .int .i64 a0_1], 2⟩] : List Own) := by
    exact hqf 3 [2, 3, 5, 8, 13, 16] _ _ _ [(2, .int .i64 i2), (3, .int .i64 n3), (5, .pointer (some ⟨b63, 0, none⟩)), (8, .pointer (some ⟨b64, 0, none⟩)), (13, .pointer (some ⟨b62, 0, none⟩)), (16, .pointer (some ⟨b62, 1, none⟩))] (by kernel_rfl) (by kernel_rfl) hg_9
  have hg_0 : G [false, false, false, false, false, false, false, false] [(2, .int .i64 i2), (3, .int .i64 n3), (4, .pointer (some ⟨b62, 0, none⟩)), (5, .pointer (some ⟨b63, 0, none⟩)), (8, .pointer (some ⟨b64, 0, none⟩))] ([⟨b64, [.int .i64 0, .int .i64 0], 2⟩, ⟨b63, [.int .i64 2, .int .i64 s1_1, .int .i64 s1_2, .int .i64 s1_3, .int .i64 s1_4, .int .i64 0, .int .i64 0], 7⟩, ⟨b62, [.int .i64 a0_0, .int .i64 a0_1], 2⟩] : List Own) := by
    exact hqf 0 [2, 3, 4, 5, 8, 13] _ _ _ [(2, .int .i64 i2), (3, .int .i64 n3), (4, .pointer (some ⟨b62, 0, none⟩)), (5, .pointer (some ⟨b63, 0, none⟩)), (8, .pointer (some ⟨b64, 0, none⟩)), (13, .pointer (some ⟨b62, 0, none⟩))] (by kernel_rfl) (by kernel_rfl) hg_1
  exact hg_0

def flatten_points_v3.f (s0_1 : Int) (s0_2 : Int) (s0_3 : Int) (s0_4 : Int) (s0_5 : Int) (s0_6 : Int) : Option (Int × Int × Int × Int × Int × Int × Int) := some (3, s0_1, s0_2, s0_3, s0_4, s0_5, s0_6)
theorem flatten_points_v3.ok {S : Seal} {s0_1 : Int} {s0_2 : Int} {s0_3 : Int} {s0_4 : Int} {s0_5 : Int} {s0_6 : Int} {r0_ : Int} {r1_ : Int} {r2_ : Int} {r3_ : Int} {r4_ : Int} {r5_ : Int} {r6_ : Int} (e : flatten_points_v3.f s0_1 s0_2 s0_3 s0_4 s0_5 s0_6 = some (r0_, r1_, r2_, r3_, r4_, r5_, r6_)) :
    Cal Try.prog 45 [.agg #[.int .i64 3, .int .i64 s0_1, .int .i64 s0_2, .int .i64 s0_3, .int .i64 s0_4, .int .i64 s0_5, .int .i64 s0_6]] [] S fun v H' S' => ∃ N0_ : Nat, v = .slice (some ⟨N0_, 1, none⟩) 3 3 ∧ H' = ([⟨N0_, [.int .i64 r0_, .int .i64 r1_, .int .i64 r2_, .int .i64 r3_, .int .i64 r4_, .int .i64 r5_, .int .i64 r6_], 7⟩] : List Own) ∧ S' = S := by
  unfold flatten_points_v3.f at e
  refine cal_of (c := c45) (N := 15) Try.func45 rfl rfl (by kernel_rfl) (rs := [.t 2]) (by kernel_rfl) (Nat.le_of_ble_eq_true rfl) ?_
  unfold c45
  refine w_seq ?_
  refine w_reg fun all => ?_
  refine t_a (.box rfl rfl rfl) fun b102 fb102 sb102 => ?_
  refine t_qz 1 [1] (σ' := [(1, .pointer (some ⟨b102, 0, none⟩))]) (by kernel_rfl) ?_
  refine t_end ?_
  show W _ _ _ _ _ _ _
  refine w_seq ?_
  refine w_seq ?_
  refine w_reg fun all => ?_
  refine t_qz 1 [1, 3] (σ' := [(1, .pointer (some ⟨b102, 0, none⟩)), (3, .pointer (some ⟨b102, 0, none⟩))]) (by kernel_rfl) ?_
  refine t_v (.ld1 rfl rfl rfl (.at 0 rfl rfl)) ?_
  refine t_qz 3 [1, 6, 7] (σ' := [(1, .pointer (some ⟨b102, 0, none⟩)), (6, .bool false), (7, .pointer (some ⟨b102, 0, none⟩))]) (by kernel_rfl) ?_
  refine t_v (.ld1 rfl rfl rfl (.at 0 rfl rfl)) ?_
  refine t_qz 2 [1, 10] (σ' := [(1, .pointer (some ⟨b102, 0, none⟩)), (10, .bool false)]) (by kernel_rfl) ?_
  refine t_end ?_
  show W _ _ _ _ _ _ _
  refine w_cond rfl (fun c_ => by cases c_) (fun _ => ?_)
  show W _ _ _ _ _ _ _
  refine w_skip ?_
  show W _ _ _ _ _ _ _
  refine w_seq ?_
  refine w_reg fun all => ?_
  refine t_qz 2 [11, 12] (σ' := [(11, .pointer (some ⟨b102, 1, none⟩)), (12, .pointer (some ⟨b102, 0, none⟩))]) (by kernel_rfl) ?_
  refine t_v (.ld1 rfl rfl rfl (.at 0 rfl rfl)) ?_
  refine t_qz 2 [2] (σ' := [(2, .slice (some ⟨b102, 1, none⟩) 3 3)]) (by kernel_rfl) ?_
  refine t_end ?_
  show W _ _ _ _ _ _ _
  refine w_ret ?_
  simp only [Option.some.injEq, Prod.mk.injEq] at e
  obtain ⟨rfl, rfl, rfl, rfl, rfl, rfl, rfl⟩ := e
  exact ⟨[.slice (some ⟨b102, 1, none⟩) 3 3], ([⟨b102, [.int .i64 3, .int .i64 s0_1, .int .i64 s0_2, .int .i64 s0_3, .int .i64 s0_4, .int .i64 s0_5, .int .i64 s0_6], 7⟩] : List Own), S, ⟨rfl, trivial⟩, VS.sel [0] (by kernel_rfl), b102, rfl, rfl, rfl⟩

def flatten_mix_v4.f (i0 : Int) (n1 : Int) (m0_0 : Int) (m0_1 : Int) (m0_2 : Int) (m0_3 : Int) : Option (Int) := (fixed_Round.f (wr64 ((wr64 ((wr64 ((wr64 ((wr64 ((wr64 ((wr64 (n1 - i0)) * (wr64 (n1 - i0)))) * (wr64 (n1 - i0)))) * m0_0)) + (wr64 ((wr64 ((wr64 ((wr64 (3 * i0)) * (wr64 (n1 - i0)))) * (wr64 (n1 - i0)))) * m0_1)))) + (wr64 ((wr64 ((wr64 ((wr64 (3 * i0)) * i0)) * (wr64 (n1 - i0)))) * m0_2)))) + (wr64 ((wr64 ((wr64 (i0 * i0)) * i0)) * m0_3)))) (wr64 ((wr64 (n1 * n1)) * n1))).bind fun t127 => (some t127)
theorem flatten_mix_v4.ok {S : Seal} {B0 nB0 : Nat} {i0 : Int} {n1 : Int} {m0_0 : Int} {m0_1 : Int} {m0_2 : Int} {m0_3 : Int} {r0_ : Int} (e : flatten_mix_v4.f i0 n1 m0_0 m0_1 m0_2 m0_3 = some r0_) :
    Cal Try.prog 46 [.int .i64 i0, .int .i64 n1, .slice (some ⟨B0, 0, none⟩) 4 (nB0 / 1)] ([⟨B0, [.int .i64 m0_0, .int .i64 m0_1, .int .i64 m0_2, .int .i64 m0_3], nB0⟩] : List Own) S fun v H' S' => v = .int .i64 r0_ ∧ H' = ([⟨B0, [.int .i64 m0_0, .int .i64 m0_1, .int .i64 m0_2, .int .i64 m0_3], nB0⟩] : List Own) ∧ S' = S := by
  unfold flatten_mix_v4.f at e
  refine cal_of (c := c46) (N := 110) Try.func46 rfl rfl (by kernel_rfl) (rs := [.t 6]) (by kernel_rfl) (Nat.le_of_ble_eq_true rfl) ?_
  unfold c46
  refine w_seq ?_
  refine w_reg fun all => ?_
  refine t_qz 1 [0, 1, 2] (σ' := [(0, .int .i64 i0), (1, .int .i64 n1), (2, .slice (some ⟨B0, 0, none⟩) 4 (nB0 / 1))]) (by kernel_rfl) ?_
  refine t_end ?_
  show W _ _ _ _ _ _ _
  refine w_seq ?_
  refine w_reg fun all => ?_
  refine t_qz 4 [0, 1, 2, 7] (σ' := [(0, .int .i64 i0), (1, .int .i64 n1), (2, .slice (some ⟨B0, 0, none⟩) 4 (nB0 / 1)), (7, .int .i64 (wr64 (n1 - i0)))]) (by kernel_rfl) ?_
  refine t_end ?_
  show W _ _ _ _ _ _ _
  refine w_seq ?_
  refine w_seq ?_
  refine w_reg fun all => ?_
  refine t_qz 2 [0, 1, 2, 7, 12] (σ' := [(0, .int .i64 i0), (1, .int .i64 n1), (2, .slice (some ⟨B0, 0, none⟩) 4 (nB0 / 1)), (7, .int .i64 (wr64 (n1 - i0))), (12, .int .i64 4)]) (by kernel_rfl) ?_
  refine t_end ?_
  show W _ _ _ _ _ _ _
  refine w_block ?_
  refine w_seq ?_
  refine w_reg fun all => ?_
  refine t_qz 2 [0, 1, 2, 7, 12, 13] (σ' := [(0, .int .i64 i0), (1, .int .i64 n1), (2, .slice (some ⟨B0, 0, none⟩) 4 (nB0 / 1)), (7, .int .i64 (wr64 (n1 - i0))), (12, .int .i64 4), (13, .bool false)]) (by kernel_rfl) ?_
  refine t_end ?_
  show W _ _ _ _ _ _ _
  refine w_cond rfl (fun c_ => by cases c_) (fun _ => ?_)
  show W _ _ _ _ _ _ _
  refine w_seq ?_
  refine w_reg fun all => ?_
  refine t_qz 2 [0, 1, 2, 7, 12, 18] (σ' := [(0, .int .i64 i0), (1, .int .i64 n1), (2, .slice (some ⟨B0, 0, none⟩) 4 (nB0 / 1)), (7, .int .i64 (wr64 (n1 - i0))), (12, .int .i64 4), (18, .bool false)]) (by kernel_rfl) ?_
  refine t_end ?_
  show W _ _ _ _ _ _ _
  refine w_cond rfl (fun c_ => by cases c_) (fun _ => ?_)
  show W _ _ _ _ _ _ _
  refine w_seq ?_
  refine w_reg fun all => ?_
  refine t_qz 2 [0, 1, 2, 7, 33] (σ' := [(0, .int .i64 i0), (1, .int .i64 n1), (2, .slice (some ⟨B0, 0, none⟩) 4 (nB0 / 1)), (7, .int .i64 (wr64 (n1 - i0))), (33, .bool false)]) (by kernel_rfl) ?_
  refine t_end ?_
  show W _ _ _ _ _ _ _
  refine w_cond rfl (fun c_ => by cases c_) (fun _ => ?_)
  show W _ _ _ _ _ _ _
  refine w_skip ?_
  show W _ _ _ _ _ _ _
  refine w_seq ?_
  obtain ⟨t127, h128, e⟩ := bind_of e
  refine w_drwE mixed 48 [.v (.int .i64 (wr64 (n1 - i0))), .v (.int .i64 (wr64 (n1 - i0))), .v (.int .i64 (wr64 ((wr64 (n1 - i0)) * (wr64 (n1 - i0))))), .v (.int .i64 (wr64 (n1 - i0))), .v (.int .i64 (wr64 ((wr64 ((wr64 (n1 - i0)) * (wr64 (n1 - i0)))) * (wr64 (n1 - i0))))), .v (.slice (some ⟨B0, 0, none⟩) 4 (nB0 / 1)), .v (.pointer (some ⟨B0, 0, none⟩)), .v (.int .i64 m0_0), .v (.int .i64 (wr64 ((wr64 ((wr64 ((wr64 (n1 - i0)) * (wr64 (n1 - i0)))) * (wr64 (n1 - i0)))) * m0_0))), .v (.int .i64 i0), .v (.int .i64 (wr64 (3 * i0))), .v (.int .i64 (wr64 (n1 - i0))), .v (.int .i64 (wr64 ((wr64 (3 * i0)) * (wr64 (n1 - i0))))), .v (.int .i64 (wr64 (n1 - i0))), .v (.int .i64 (wr64 ((wr64 ((wr64 (3 * i0)) * (wr64 (n1 - i0)))) * (wr64 (n1 - i0))))), .v (.slice (some ⟨B0, 0, none⟩) 4 (nB0 / 1)), .v (.pointer (some ⟨B0, 1, none⟩)), .v (.int .i64 m0_1), .v (.int .i64 (wr64 ((wr64 ((wr64 ((wr64 (3 * i0)) * (wr64 (n1 - i0)))) * (wr64 (n1 - i0)))) * m0_1))), .v (.int .i64 (wr64 ((wr64 ((wr64 ((wr64 ((wr64 (n1 - i0)) * (wr64 (n1 - i0)))) * (wr64 (n1 - i0)))) * m0_0)) + (wr64 ((wr64 ((wr64 ((wr64 (3 * i0)) * (wr64 (n1 - i0)))) * (wr64 (n1 - i0)))) * m0_1))))), .v (.int .i64 i0), .v (.int .i64 (wr64 (3 * i0))), .v (.int .i64 i0), .v (.int .i64 (wr64 ((wr64 (3 * i0)) * i0))), .v (.int .i64 (wr64 (n1 - i0))), .v (.int .i64 (wr64 ((wr64 ((wr64 (3 * i0)) * i0)) * (wr64 (n1 - i0))))), .v (.slice (some ⟨B0, 0, none⟩) 4 (nB0 / 1)), .v (.pointer (some ⟨B0, 2, none⟩)), .v (.int .i64 m0_2), .v (.int .i64 (wr64 ((wr64 ((wr64 ((wr64 (3 * i0)) * i0)) * (wr64 (n1 - i0)))) * m0_2))), .v (.int .i64 (wr64 ((wr64 ((wr64 ((wr64 ((wr64 ((wr64 (n1 - i0)) * (wr64 (n1 - i0)))) * (wr64 (n1 - i0)))) * m0_0)) + (wr64 ((wr64 ((wr64 ((wr64 (3 * i0)) * (wr64 (n1 - i0)))) * (wr64 (n1 - i0)))) * m0_1)))) + (wr64 ((wr64 ((wr64 ((wr64 (3 * i0)) * i0)) * (wr64 (n1 - i0)))) * m0_2))))), .v (.int .i64 i0), .v (.int .i64 i0), .v (.int .i64 (wr64 (i0 * i0))), .v (.int .i64 i0), .v (.int .i64 (wr64 ((wr64 (i0 * i0)) * i0))), .v (.slice (some ⟨B0, 0, none⟩) 4 (nB0 / 1)), .v (.pointer (some ⟨B0, 3, none⟩)), .v (.int .i64 m0_3), .v (.int .i64 (wr64 ((wr64 ((wr64 (i0 * i0)) * i0)) * m0_3))), .v (.int .i64 (wr64 ((wr64 ((wr64 ((wr64 ((wr64 ((wr64 ((wr64 (n1 - i0)) * (wr64 (n1 - i0)))) * (wr64 (n1 - i0)))) * m0_0)) + (wr64 ((wr64 ((wr64 ((wr64 (3 * i0)) * (wr64 (n1 - i0)))) * (wr64 (n1 - i0)))) * m0_1)))) + (wr64 ((wr64 ((wr64 ((wr64 (3 * i0)) * i0)) * (wr64 (n1 - i0)))) * m0_2)))) + (wr64 ((wr64 ((wr64 (i0 * i0)) * i0)) * m0_3))))), .v (.int .i64 n1), .v (.int .i64 n1), .v (.int .i64 (wr64 (n1 * n1))), .v (.int .i64 n1), .v (.int .i64 (wr64 ((wr64 (n1 * n1)) * n1))), .v (.int .i64 t127), .v (.int .i64 t127)] (by kernel_rfl) ?_ ?_
  · refine DI.sq 7 (by kernel_rfl) rfl ?_
    refine .cons (.ld1 rfl rfl rfl (.at 0 rfl rfl)) ?_
    refine DI.sq 9 (by kernel_rfl) rfl ?_
    refine .cons (.ld1 rfl rfl rfl (.at 0 rfl rfl)) ?_
    refine DI.sq 10 (by kernel_rfl) rfl ?_
    refine .cons (.ld1 rfl rfl rfl (.at 0 rfl rfl)) ?_
    refine DI.sq 9 (by kernel_rfl) rfl ?_
    refine .cons (.ld1 rfl rfl rfl (.at 0 rfl rfl)) ?_
    refine DI.sq 7 (by kernel_rfl) rfl ?_
    refine .cons (.call (vs := [.int .i64 (wr64 ((wr64 ((wr64 ((wr64 ((wr64 ((wr64 ((wr64 (n1 - i0)) * (wr64 (n1 - i0)))) * (wr64 (n1 - i0)))) * m0_0)) + (wr64 ((wr64 ((wr64 ((wr64 (3 * i0)) * (wr64 (n1 - i0)))) * (wr64 (n1 - i0)))) * m0_1)))) + (wr64 ((wr64 ((wr64 ((wr64 (3 * i0)) * i0)) * (wr64 (n1 - i0)))) * m0_2)))) + (wr64 ((wr64 ((wr64 (i0 * i0)) * i0)) * m0_3)))), .int .i64 (wr64 ((wr64 (n1 * n1)) * n1))]) rfl rfl (by kernel_rfl) (fixed_Round.ok h128)) ?_
    refine DI.sq 1 (by kernel_rfl) rfl ?_
    exact .nil
  refine fk_q 48 [6] (σ' := [(6, .int .i64 t127)]) t_more (by kernel_rfl) ?_
  refine fk_nil fun all => ?_
  refine t_keep [6] (σ' := [(6, .int .i64 t127)]) (by kernel_rfl) ?_
  refine t_end ?_
  show W _ _ _ _ _ _ _
  refine w_ret ?_
  obtain rfl := Option.some.inj e
  exact ⟨[.int .i64 t127], ([⟨B0, [.int .i64 m0_0, .int .i64 m0_1, .int .i64 m0_2, .int .i64 m0_3], nB0⟩] : List Own), S, ⟨rfl, trivial⟩, VS.sel [0] (by kernel_rfl), rfl, rfl, rfl⟩
end Go.Proofs.Ytijjgmkhgcofiaa.QFlattenEnds
