/- Functions of the program as Lean functions, each with the proof of its walk. Written by gen.py, a program of these sessions. -/
import Derived.Test.YtijjgmkhgcofiaaE
import Derived.Test.YtijjgmkhgcofiaaProg
namespace Go.Proofs.Ytijjgmkhgcofiaa.QFlattenCounts
open Go Go.RowKit Go.Proofs.YtijjgmkhgcofiaaE
set_option linter.unusedVariables false
set_option maxRecDepth 100000
set_option maxHeartbeats 8000000
theorem mixed : Try.prog.follows .mixedOrders = true := by kernel_rfl

/-- flatten.Count -/
def c27 : C :=
  (.seq (.reg [⟨(some 2), .box (.tmp 0), none⟩,
     ⟨(some 3), .box (.tmp 1), none⟩,
     ⟨(some 4), .mv (.const (.int .i64 0)), none⟩])
  (.seq (.reg [⟨(some 5), .mv (.const (.int .i64 0)), none⟩])
  (.seq (.seq (.reg [⟨(some 7), .pad 0 (.tmp 3), none⟩,
      ⟨(some 8), .ld none (.tmp 7), none⟩])
   (.block 0 (.seq (.reg [⟨(some 10), .bin .eql (.tmp 8) (.const (.int .i64 1)), none⟩,
       ⟨(some 9), .mv (.tmp 10), none⟩])
    (.cond (.tmp 9)
     .skip
     (.seq (.reg [⟨(some 12), .bin .eql (.tmp 8) (.const (.int .i64 2)), none⟩,
         ⟨(some 11), .mv (.tmp 12), none⟩])
      (.cond (.tmp 11)
       (.reg [⟨(some 13), .ld (some 2) (.tmp 2), none⟩,
          ⟨(some 14), .pad 1 (.tmp 3), none⟩,
          ⟨(some 15), .ixa 2 3 (.tmp 14) (.const (.int .i64 0)), none⟩,
          ⟨(some 16), .ld (some 2) (.tmp 15), none⟩,
          ⟨(some 17), .pad 1 (.tmp 3), none⟩,
          ⟨(some 18), .ixa 2 3 (.tmp 17) (.const (.int .i64 1)), none⟩,
          ⟨(some 19), .ld (some 2) (.tmp 18), none⟩,
          ⟨(some 20), .call 44 [(.tmp 13), (.tmp 16), (.tmp 19)], none⟩,
          ⟨(some 5), .mv (.tmp 20), none⟩])
       (.seq (.reg [⟨(some 22), .bin .eql (.tmp 8) (.const (.int .i64 3)), none⟩,
           ⟨(some 21), .mv (.tmp 22), none⟩])
        (.cond (.tmp 21)
         (.drw [⟨(some 23), .ld (some 2) (.tmp 2), none⟩,
            ⟨(some 24), .pad 1 (.tmp 3), none⟩,
            ⟨(some 25), .ixa 2 3 (.tmp 24) (.const (.int .i64 0)), none⟩,
            ⟨(some 26), .ld (some 2) (.tmp 25), none⟩,
            ⟨(some 27), .pad 1 (.tmp 3), none⟩,
            ⟨(some 28), .ixa 2 3 (.tmp 27) (.const (.int .i64 1)), none⟩,
            ⟨(some 29), .ld (some 2) (.tmp 28), none⟩,
            ⟨(some 30), .call 44 [(.tmp 23), (.tmp 26), (.tmp 29)], none⟩,
            ⟨(some 31), .pad 1 (.tmp 3), none⟩,
            ⟨(some 32), .ixa 2 3 (.tmp 31) (.const (.int .i64 0)), none⟩,
            ⟨(some 33), .ld (some 2) (.tmp 32), none⟩,
            ⟨(some 34), .pad 1 (.tmp 3), none⟩,
            ⟨(some 35), .ixa 2 3 (.tmp 34) (.const (.int .i64 1)), none⟩,
            ⟨(some 36), .ld (some 2) (.tmp 35), none⟩,
            ⟨(some 37), .pad 1 (.tmp 3), none⟩,
            ⟨(some 38), .ixa 2 3 (.tmp 37) (.const (.int .i64 2)), none⟩,
            ⟨(some 39), .ld (some 2) (.tmp 38), none⟩,
            ⟨(some 40), .call 44 [(.tmp 33), (.tmp 36), (.tmp 39)], none⟩,
            ⟨(some 41), .mm true [(.tmp 30), (.tmp 40)], none⟩,
            ⟨(some 42), .bin .mul (.const (.int .i64 3)) (.tmp 41), none⟩,
            ⟨(some 5), .mv (.tmp 42), none⟩] [[], [], [1], [2], [], [4], [5], [0, 3, 6], [], [8], [9], [], [11], [12], [], [14], [15], [10, 13, 16, 7], [7, 17], [18], [19, 17, 0, 1, 2, 3, 4, 5, 6, 7, 8, 9, 10, 11, 12, 13, 14, 15, 16, 17, 18, 19]])
         (.seq (.reg [⟨(some 4), .mv (.const (.int .i64 0)), none⟩])
          .ret)))))))))
  (.seq (.reg [⟨(some 6), .mv (.const (.int .i64 1)), none⟩])
  (.seq (.block 1 (.loop (.seq (.seq (.reg [⟨(some 43), .mv (.tmp 5), none⟩,
         ⟨(some 44), .mv (.tmp 6), none⟩,
         ⟨(some 45), .bin .mul (.const (.int .i64 32)) (.tmp 44), none⟩,
         ⟨(some 46), .mv (.tmp 6), none⟩,
         ⟨(some 47), .bin .mul (.tmp 45) (.tmp 46), none⟩,
         ⟨(some 48), .bin .gtr (.tmp 43) (.tmp 47), none⟩])
      (.cond (.tmp 48)
       .skip
       (.exit 1)))
     (.block 2 (.reg [⟨(some 49), .mv (.tmp 6), none⟩,
        ⟨(some 50), .bin .mul (.tmp 49) (.const (.int .i64 2)), none⟩,
        ⟨(some 6), .mv (.tmp 50), none⟩])))))
  (.seq (.reg [⟨(some 51), .mv (.tmp 6), none⟩,
     ⟨(some 4), .mv (.tmp 51), none⟩])
  .ret))))))
def flatten_Count_v1.f  : Option (Unit) := some ()
theorem flatten_Count_v1.ok {S : Seal}   (e : flatten_Count_v1.f  = some ()) :
    Cal Try.prog 27 [.agg #[.int .i64 0, .int .i64 0], .agg #[.int .i64 1, .int .i64 5, .int .i64 0, .int .i64 0, .int .i64 0, .int .i64 0, .int .i64 0]] [] S fun v H' S' => v = .int .i64 1 ∧ H' = [] ∧ S' = S := by
  unfold flatten_Count_v1.f at e
  refine cal_of (c := c27) (N := 52) Try.func27 rfl rfl (by kernel_rfl) (rs := [.t 4]) (by kernel_rfl) (Nat.le_of_ble_eq_true rfl) ?_
  unfold c27
  refine w_seq ?_
  refine w_reg fun all => ?_
  refine t_a (.box rfl rfl rfl) fun b6 fb6 sb6 => ?_
  refine t_a (.box rfl rfl rfl) fun b7 fb7 sb7 => ?_
  refine t_qz 1 [2, 3] (σ' := [(2, .pointer (some ⟨b6, 0, none⟩)), (3, .pointer (some ⟨b7, 0, none⟩))]) (by kernel_rfl) ?_
  refine t_end ?_
  show W _ _ _ _ _ _ _
  refine w_seq ?_
  refine w_reg fun all => ?_
  refine t_qz 1 [2, 3, 5] (σ' := [(2, .pointer (some ⟨b6, 0, none⟩)), (3, .pointer (some ⟨b7, 0, none⟩)), (5, .int .i64 0)]) (by kernel_rfl) ?_
  refine t_end ?_
  show W _ _ _ _ _ _ _
  refine w_seq ?_
  refine w_seq ?_
  refine w_reg fun all => ?_
  refine t_qz 1 [2, 3, 5, 7] (σ' := [(2, .pointer (some ⟨b6, 0, none⟩)), (3, .pointer (some ⟨b7, 0, none⟩)), (5, .int .i64 0), (7, .pointer (some ⟨b7, 0, none⟩))]) (by kernel_rfl) ?_
  refine t_v (.ld1 rfl rfl rfl (.at 0 rfl rfl)) ?_
  refine t_keep [2, 3, 5, 8] (σ' := [(2, .pointer (some ⟨b6, 0, none⟩)), (3, .pointer (some ⟨b7, 0, none⟩)), (5, .int .i64 0), (8, .int .i64 1)]) (by kernel_rfl) ?_
  refine t_end ?_
  show W _ _ _ _ _ _ _
  refine w_block ?_
  refine w_seq ?_
  refine w_reg fun all => ?_
  refine t_qz 2 [2, 3, 5, 8, 9] (σ' := [(2, .pointer (some ⟨b6, 0, none⟩)), (3, .pointer (some ⟨b7, 0, none⟩)), (5, .int .i64 0), (8, .int .i64 1), (9, .bool true)]) (by kernel_rfl) ?_
  refine t_end ?_
  show W _ _ _ _ _ _ _
  refine w_cond rfl (fun _ => ?_) (fun c_ => by cases c_)
  show W _ _ _ _ _ _ _
  refine w_skip ?_
  show W _ _ _ _ _ _ _
  refine w_seq ?_
  refine w_reg fun all => ?_
  refine t_qz 1 [5, 6] (σ' := [(5, .int .i64 0), (6, .int .i64 1)]) (by kernel_rfl) ?_
  refine t_end ?_
  show W _ _ _ _ _ _ _
  refine w_seq ?_
  refine w_block ?_
  refine w_lun 10 ?_
  refine wl_step ?_
  refine w_seq ?_
  refine w_seq ?_
  refine w_reg fun all => ?_
  refine t_qz 6 [5, 6, 48] (σ' := [(5, .int .i64 0), (6, .int .i64 1), (48, .bool false)]) (by kernel_rfl) ?_
  refine t_end ?_
  show W _ _ _ _ _ _ _
  refine w_cond rfl (fun c_ => by cases c_) (fun _ => ?_)
  show W _ _ _ _ _ _ _
  refine w_exit ?_
  show W _ _ _ _ _ _ _
  refine w_seq ?_
  refine w_reg fun all => ?_
  refine t_qz 2 [4] (σ' := [(4, .int .i64 1)]) (by kernel_rfl) ?_
  refine t_end ?_
  show W _ _ _ _ _ _ _
  refine w_ret ?_
  exact ⟨[.int .i64 1], [], S, ⟨rfl, trivial⟩, VS.none, rfl, rfl, rfl⟩

/-- flatten.points -/
def c45 : C :=
  (.seq (.reg [⟨(some 1), .box (.tmp 0), none⟩,
     ⟨(some 2), .mv (.const (.slice none 0 0)), none⟩])
  (.seq (.seq (.reg [⟨(some 3), .pad 0 (.tmp 1), none⟩,
      ⟨(some 4), .ld none (.tmp 3), none⟩,
      ⟨(some 5), .bin .lss (.tmp 4) (.const (.int .i64 1)), none⟩,
      ⟨(some 6), .mv (.tmp 5), none⟩,
      ⟨(some 7), .pad 0 (.tmp 1), (some (6, false))⟩,
      ⟨(some 8), .ld none (.tmp 7), (some (6, false))⟩,
      ⟨(some 9), .bin .gtr (.tmp 8) (.const (.int .i64 3)), (some (6, false))⟩,
      ⟨(some 10), .pk (.tmp 6) (.const (.bool true)) (.tmp 9), none⟩])
   (.cond (.tmp 10)
    (.seq (.reg [⟨(some 2), .mv (.const (.slice none 0 0)), none⟩])
     .ret)
    .skip))
  (.seq (.reg [⟨(some 11), .pad 1 (.tmp 1), none⟩,
     ⟨(some 12), .pad 0 (.tmp 1), none⟩,
     ⟨(some 13), .ld none (.tmp 12), none⟩,
     ⟨(some 14), .sla 2 3 (.tmp 11) none (some (.tmp 13)), none⟩,
     ⟨(some 2), .mv (.tmp 14), none⟩])
  .ret)))
def flatten_points_v1.f  : Option (Unit) := some ()
theorem flatten_points_v1.ok {S : Seal}   (e : flatten_points_v1.f  = some ()) :
    Cal Try.prog 45 [.agg #[.int .i64 1, .int .i64 5, .int .i64 0, .int .i64 0, .int .i64 0, .int .i64 0, .int .i64 0]] [] S fun v H' S' => ∃ N0_ : Nat, v = .slice (some ⟨N0_, 1, none⟩) 1 3 ∧ H' = ([⟨N0_, [.int .i64 1, .int .i64 5, .int .i64 0, .int .i64 0, .int .i64 0, .int .i64 0, .int .i64 0], 7⟩] : List Own) ∧ S' = S := by
  unfold flatten_points_v1.f at e
  refine cal_of (c := c45) (N := 15) Try.func45 rfl rfl (by kernel_rfl) (rs := [.t 2]) (by kernel_rfl) (Nat.le_of_ble_eq_true rfl) ?_
  unfold c45
  refine w_seq ?_
  refine w_reg fun all => ?_
  refine t_a (.box rfl rfl rfl) fun b21 fb21 sb21 => ?_
  refine t_qz 1 [1] (σ' := [(1, .pointer (some ⟨b21, 0, none⟩))]) (by kernel_rfl) ?_
  refine t_end ?_
  show W _ _ _ _ _ _ _
  refine w_seq ?_
  refine w_seq ?_
  refine w_reg fun all => ?_
  refine t_qz 1 [1, 3] (σ' := [(1, .pointer (some ⟨b21, 0, none⟩)), (3, .pointer (some ⟨b21, 0, none⟩))]) (by kernel_rfl) ?_
  refine t_v (.ld1 rfl rfl rfl (.at 0 rfl rfl)) ?_
  refine t_qz 3 [1, 6, 7] (σ' := [(1, .pointer (some ⟨b21, 0, none⟩)), (6, .bool false), (7, .pointer (some ⟨b21, 0, none⟩))]) (by kernel_rfl) ?_
  refine t_v (.ld1 rfl rfl rfl (.at 0 rfl rfl)) ?_
  refine t_qz 2 [1, 10] (σ' := [(1, .pointer (some ⟨b21, 0, none⟩)), (10, .bool false)]) (by kernel_rfl) ?_
  refine t_end ?_
  show W _ _ _ _ _ _ _
  refine w_cond rfl (fun c_ => by cases c_) (fun _ => ?_)
  show W _ _ _ _ _ _ _
  refine w_skip ?_
  show W _ _ _ _ _ _ _
  refine w_seq ?_
  refine w_reg fun all => ?_
  refine t_qz 2 [11, 12] (σ' := [(11, .pointer (some ⟨b21, 1, none⟩)), (12, .pointer (some ⟨b21, 0, none⟩))]) (by kernel_rfl) ?_
  refine t_v (.ld1 rfl rfl rfl (.at 0 rfl rfl)) ?_
  refine t_qz 2 [2] (σ' := [(2, .slice (some ⟨b21, 1, none⟩) 1 3)]) (by kernel_rfl) ?_
  refine t_end ?_
  show W _ _ _ _ _ _ _
  refine w_ret ?_
  exact ⟨[.slice (some ⟨b21, 1, none⟩) 1 3], ([⟨b21, [.int .i64 1, .int .i64 5, .int .i64 0, .int .i64 0, .int .i64 0, .int .i64 0, .int .i64 0], 7⟩] : List Own), S, ⟨rfl, trivial⟩, VS.sel [0] (by kernel_rfl), b21, rfl, rfl, rfl⟩

/-- fixed.Down -/
def c69 : C :=
  (.seq (.reg [⟨(some 4), .mv (.const (.int .i64 0)), none⟩])
  (.seq (.seq (.reg [⟨(some 6), .mv (.tmp 1), none⟩,
      ⟨(some 7), .bin .lss (.tmp 6) (.const (.int .i64 1)), none⟩])
   (.cond (.tmp 7)
    (.seq (.reg [⟨(some 4), .mv (.const (.int .i64 0)), none⟩])
     .ret)
    .skip))
  (.seq (.reg [⟨(some 8), .mv (.tmp 0), none⟩,
     ⟨(some 9), .mv (.tmp 1), none⟩,
     ⟨(some 10), .bin .quo (.tmp 8) (.tmp 9), none⟩,
     ⟨(some 5), .mv (.tmp 10), none⟩])
  (.seq (.seq (.reg [⟨(some 11), .mv (.tmp 0), none⟩,
      ⟨(some 12), .mv (.tmp 1), none⟩,
      ⟨(some 13), .bin .rem (.tmp 11) (.tmp 12), none⟩,
      ⟨(some 14), .bin .lss (.tmp 13) (.const (.int .i64 0)), none⟩])
   (.cond (.tmp 14)
    (.reg [⟨(some 15), .mv (.tmp 5), none⟩,
       ⟨(some 16), .bin .sub (.tmp 15) (.const (.int .i64 1)), none⟩,
       ⟨(some 5), .mv (.tmp 16), none⟩])
    .skip))
  (.seq (.reg [⟨(some 17), .mv (.tmp 5), none⟩,
     ⟨(some 4), .mv (.tmp 17), none⟩])
  .ret)))))
def fixed_Down_v1.f  : Option (Unit) := some ()
theorem fixed_Down_v1.ok {S : Seal}   (e : fixed_Down_v1.f  = some ()) :
    Cal Try.prog 69 [.int .i64 5, .int .i64 1] [] S fun v H' S' => v = .int .i64 5 ∧ H' = [] ∧ S' = S := by
  unfold fixed_Down_v1.f at e
  refine cal_of (c := c69) (N := 18) Try.func69 rfl rfl (by kernel_rfl) (rs := [.t 4]) (by kernel_rfl) (Nat.le_of_ble_eq_true rfl) ?_
  unfold c69
  refine w_seq ?_
  refine w_reg fun all => ?_
  refine t_qz 1 [0, 1] (σ' := [(0, .int .i64 5), (1, .int .i64 1)]) (by kernel_rfl) ?_
  refine t_end ?_
  show W _ _ _ _ _ _ _
  refine w_seq ?_
  refine w_seq ?_
  refine w_reg fun all => ?_
  refine t_qz 2 [0, 1, 7] (σ' := [(0, .int .i64 5), (1, .int .i64 1), (7, .bool false)]) (by kernel_rfl) ?_
  refine t_end ?_
  show W _ _ _ _ _ _ _
  refine w_cond rfl (fun c_ => by cases c_) (fun _ => ?_)
  show W _ _ _ _ _ _ _
  refine w_skip ?_
  show W _ _ _ _ _ _ _
  refine w_seq ?_
  refine w_reg fun all => ?_
  refine t_qz 4 [0, 1, 5] (σ' := [(0, .int .i64 5), (1, .int .i64 1), (5, .int .i64 5)]) (by kernel_rfl) ?_
  refine t_end ?_
  show W _ _ _ _ _ _ _
  refine w_seq ?_
  refine w_seq ?_
  refine w_reg fun all => ?_
  refine t_qz 4 [5, 14] (σ' := [(5, .int .i64 5), (14, .bool false)]) (by kernel_rfl) ?_
  refine t_end ?_
  show W _ _ _ _ _ _ _
  refine w_cond rfl (fun c_ => by cases c_) (fun _ => ?_)
  show W _ _ _ _ _ _ _
  refine w_skip ?_
  show W _ _ _ _ _ _ _
  refine w_seq ?_
  refine w_reg fun all => ?_
  refine t_qz 2 [4] (σ' := [(4, .int .i64 5)]) (by kernel_rfl) ?_
  refine t_end ?_
  show W _ _ _ _ _ _ _
  refine w_ret ?_
  exact ⟨[.int .i64 5], [], S, ⟨rfl, trivial⟩, VS.none, rfl, rfl, rfl⟩

/-- fixed.Round -/
def c65 : C :=
  (.seq (.reg [⟨(some 4), .mv (.const (.int .i64 0)), none⟩])
  (.seq (.seq (.reg [⟨(some 7), .mv (.tmp 1), none⟩,
      ⟨(some 8), .bin .lss (.tmp 7) (.const (.int .i64 1)), none⟩])
   (.cond (.tmp 8)
    (.seq (.reg [⟨(some 4), .mv (.const (.int .i64 0)), none⟩])
     .ret)
    .skip))
  (.seq (.reg [⟨(some 9), .mv (.tmp 0), none⟩,
     ⟨(some 10), .mv (.tmp 1), none⟩,
     ⟨(some 11), .call 69 [(.tmp 9), (.tmp 10)], none⟩,
     ⟨(some 5), .mv (.tmp 11), none⟩])
  (.seq (.seq (.reg [⟨(some 12), .mv (.tmp 0), none⟩,
      ⟨(some 13), .mv (.tmp 5), none⟩,
      ⟨(some 14), .mv (.tmp 1), none⟩,
      ⟨(some 15), .bin .mul (.tmp 13) (.tmp 14), none⟩,
      ⟨(some 16), .bin .sub (.tmp 12) (.tmp 15), none⟩,
      ⟨(some 6), .mv (.tmp 16), none⟩])
   (.seq (.reg [⟨(some 17), .mv (.tmp 6), none⟩,
      ⟨(some 18), .mv (.tmp 1), none⟩,
      ⟨(some 19), .mv (.tmp 6), none⟩,
      ⟨(some 20), .bin .sub (.tmp 18) (.tmp 19), none⟩,
      ⟨(some 21), .bin .geq (.tmp 17) (.tmp 20), none⟩])
   (.cond (.tmp 21)
    (.reg [⟨(some 22), .mv (.tmp 5), none⟩,
       ⟨(some 23), .bin .add (.tmp 22) (.const (.int .i64 1)), none⟩,
       ⟨(some 5), .mv (.tmp 23), none⟩])
    .skip)))
  (.seq (.reg [⟨(some 24), .mv (.tmp 5), none⟩,
     ⟨(some 4), .mv (.tmp 24), none⟩])
  .ret)))))
def fixed_Round_v1.f  : Option (Unit) := (fixed_Down_v1.f).bind fun _ => (some ())
theorem fixed_Round_v1.ok {S : Seal}   (e : fixed_Round_v1.f  = some ()) :
    Cal Try.prog 65 [.int .i64 5, .int .i64 1] [] S fun v H' S' => v = .int .i64 5 ∧ H' = [] ∧ S' = S := by
  unfold fixed_Round_v1.f at e
  refine cal_of (c := c65) (N := 25) Try.func65 rfl rfl (by kernel_rfl) (rs := [.t 4]) (by kernel_rfl) (Nat.le_of_ble_eq_true rfl) ?_
  unfold c65
  refine w_seq ?_
  refine w_reg fun all => ?_
  refine t_qz 1 [0, 1] (σ' := [(0, .int .i64 5), (1, .int .i64 1)]) (by kernel_rfl) ?_
  refine t_end ?_
  show W _ _ _ _ _ _ _
  refine w_seq ?_
  refine w_seq ?_
  refine w_reg fun all => ?_
  refine t_qz 2 [0, 1, 8] (σ' := [(0, .int .i64 5), (1, .int .i64 1), (8, .bool false)]) (by kernel_rfl) ?_
  refine t_end ?_
  show W _ _ _ _ _ _ _
  refine w_cond rfl (fun c_ => by cases c_) (fun _ => ?_)
  show W _ _ _ _ _ _ _
  refine w_skip ?_
  show W _ _ _ _ _ _ _
  refine w_seq ?_
  refine w_reg fun all => ?_
  obtain ⟨u_, h29, e⟩ := bind_of e
  refine t_qz 2 [0, 1, 9, 10] (σ' := [(0, .int .i64 5), (1, .int .i64 1), (9, .int .i64 5), (10, .int .i64 1)]) (by kernel_rfl) ?_
  refine t_v (.call (vs := [.int .i64 5, .int .i64 1]) rfl rfl (by kernel_rfl) (fixed_Down_v1.ok h29)) ?_
  refine t_qz 1 [0, 1, 5] (σ' := [(0, .int .i64 5), (1, .int .i64 1), (5, .int .i64 5)]) (by kernel_rfl) ?_
  refine t_end ?_
  show W _ _ _ _ _ _ _
  refine w_seq ?_
  refine w_seq ?_
  refine w_reg fun all => ?_
  refine t_qz 6 [1, 5, 6] (σ' := [(1, .int .i64 1), (5, .int .i64 5), (6, .int .i64 0)]) (by kernel_rfl) ?_
  refine t_end ?_
  show W _ _ _ _ _ _ _
  refine w_seq ?_
  refine w_reg fun all => ?_
  refine t_qz 5 [5, 21] (σ' := [(5, .int .i64 5), (21, .bool false)]) (by kernel_rfl) ?_
  refine t_end ?_
  show W _ _ _ _ _ _ _
  refine w_cond rfl (fun c_ => by cases c_) (fun _ => ?_)
  show W _ _ _ _ _ _ _
  refine w_skip ?_
  show W _ _ _ _ _ _ _
  refine w_seq ?_
  refine w_reg fun all => ?_
  refine t_qz 2 [4] (σ' := [(4, .int .i64 5)]) (by kernel_rfl) ?_
  refine t_end ?_
  show W _ _ _ _ _ _ _
  refine w_ret ?_
  exact ⟨[.int .i64 5], [], S, ⟨rfl, trivial⟩, VS.none, rfl, rfl, rfl⟩

/-- flatten.mix -/
def c46 : C :=
  (.seq (.reg [⟨(some 6), .mv (.const (.int .i64 0)), none⟩])
  (.seq (.reg [⟨(some 8), .mv (.tmp 1), none⟩,
     ⟨(some 9), .mv (.tmp 0), none⟩,
     ⟨(some 10), .bin .sub (.tmp 8) (.tmp 9), none⟩,
     ⟨(some 7), .mv (.tmp 10), none⟩])
  (.seq (.seq (.reg [⟨(some 11), .mv (.tmp 2), none⟩,
      ⟨(some 12), .lns (.tmp 11), none⟩])
   (.block 0 (.seq (.reg [⟨(some 14), .bin .eql (.tmp 12) (.const (.int .i64 1)), none⟩,
       ⟨(some 13), .mv (.tmp 14), none⟩])
    (.cond (.tmp 13)
     (.seq (.reg [⟨(some 15), .mv (.tmp 2), none⟩,
         ⟨(some 16), .ixs 1 (.tmp 15) (.const (.int .i64 0)), none⟩,
         ⟨(some 17), .ld none (.tmp 16), none⟩,
         ⟨(some 6), .mv (.tmp 17), none⟩])
      .ret)
     (.seq (.reg [⟨(some 19), .bin .eql (.tmp 12) (.const (.int .i64 2)), none⟩,
         ⟨(some 18), .mv (.tmp 19), none⟩])
      (.cond (.tmp 18)
       (.seq (.drw [⟨(some 20), .mv (.tmp 7), none⟩,
           ⟨(some 21), .mv (.tmp 2), none⟩,
           ⟨(some 22), .ixs 1 (.tmp 21) (.const (.int .i64 0)), none⟩,
           ⟨(some 23), .ld none (.tmp 22), none⟩,
           ⟨(some 24), .bin .mul (.tmp 20) (.tmp 23), none⟩,
           ⟨(some 25), .mv (.tmp 0), none⟩,
           ⟨(some 26), .mv (.tmp 2), none⟩,
           ⟨(some 27), .ixs 1 (.tmp 26) (.const (.int .i64 1)), none⟩,
           ⟨(some 28), .ld none (.tmp 27), none⟩,
           ⟨(some 29), .bin .mul (.tmp 25) (.tmp 28), none⟩,
           ⟨(some 30), .bin .add (.tmp 24) (.tmp 29), none⟩,
           ⟨(some 31), .mv (.tmp 1), none⟩,
           ⟨(some 32), .call 65 [(.tmp 30), (.tmp 31)], none⟩,
           ⟨(some 6), .mv (.tmp 32), none⟩] [[], [], [1], [2], [0, 3], [], [], [6], [7], [5, 8], [4, 9], [], [10, 11], [12, 12, 0, 1, 2, 3, 4, 5, 6, 7, 8, 9, 10, 11, 12]])
        .ret)
       (.seq (.reg [⟨(some 34), .bin .eql (.tmp 12) (.const (.int .i64 3)), none⟩,
           ⟨(some 33), .mv (.tmp 34), none⟩])
        (.cond (.tmp 33)
         (.seq (.drw [⟨(some 35), .mv (.tmp 7), none⟩,
             ⟨(some 36), .mv (.tmp 7), none⟩,
             ⟨(some 37), .bin .mul (.tmp 35) (.tmp 36), none⟩,
             ⟨(some 38), .mv (.tmp 2), none⟩,
             ⟨(some 39), .ixs 1 (.tmp 38) (.const (.int .i64 0)), none⟩,
             ⟨(some 40), .ld none (.tmp 39), none⟩,
             ⟨(some 41), .bin .mul (.tmp 37) (.tmp 40), none⟩,
             ⟨(some 42), .mv (.tmp 0), none⟩,
             ⟨(some 43), .bin .mul (.const (.int .i64 2)) (.tmp 42), none⟩,
             ⟨(some 44), .mv (.tmp 7), none⟩,
             ⟨(some 45), .bin .mul (.tmp 43) (.tmp 44), none⟩,
             ⟨(some 46), .mv (.tmp 2), none⟩,
             ⟨(some 47), .ixs 1 (.tmp 46) (.const (.int .i64 1)), none⟩,
             ⟨(some 48), .ld none (.tmp 47), none⟩,
             ⟨(some 49), .bin .mul (.tmp 45) (.tmp 48), none⟩,
             ⟨(some 50), .bin .add (.tmp 41) (.tmp 49), none⟩,
             ⟨(some 51), .mv (.tmp 0), none⟩,
             ⟨(some 52), .mv (.tmp 0), none⟩,
             ⟨(some 53), .bin .mul (.tmp 51) (.tmp 52), none⟩,
             ⟨(some 54), .mv (.tmp 2), none⟩,
             ⟨(some 55), .ixs 1 (.tmp 54) (.const (.int .i64 2)), none⟩,
             ⟨(some 56), .ld none (.tmp 55), none⟩,
             ⟨(some 57), .bin .mul (.tmp 53) (.tmp 56), none⟩,
             ⟨(some 58), .bin .add (.tmp 50) (.tmp 57), none⟩,
             ⟨(some 59), .mv (.tmp 1), none⟩,
             ⟨(some 60), .mv (.tmp 1), none⟩,
             ⟨(some 61), .bin .mul (.tmp 59) (.tmp 60), none⟩,
             ⟨(some 62), .call 65 [(.tmp 58), (.tmp 61)], none⟩,
             ⟨(some 6), .mv (.tmp 62), none⟩] [[], [], [0, 1], [], [3], [4], [2, 5], [], [7], [], [8, 9], [], [11], [12], [10, 13], [6, 14], [], [], [16, 17], [], [19], [20], [18, 21], [15, 22], [], [], [24, 25], [23, 26], [27, 27, 0, 1, 2, 3, 4, 5, 6, 7, 8, 9, 10, 11, 12, 13, 14, 15, 16, 17, 18, 19, 20, 21, 22, 23, 24, 25, 26, 27]])
          .ret)
         .skip))))))))
  (.seq (.drw [⟨(some 63), .mv (.tmp 7), none⟩,
     ⟨(some 64), .mv (.tmp 7), none⟩,
     ⟨(some 65), .bin .mul (.tmp 63) (.tmp 64), none⟩,
     ⟨(some 66), .mv (.tmp 7), none⟩,
     ⟨(some 67), .bin .mul (.tmp 65) (.tmp 66), none⟩,
     ⟨(some 68), .mv (.tmp 2), none⟩,
     ⟨(some 69), .ixs 1 (.tmp 68) (.const (.int .i64 0)), none⟩,
     ⟨(some 70), .ld none (.tmp 69), none⟩,
     ⟨(some 71), .bin .mul (.tmp 67) (.tmp 70), none⟩,
     ⟨(some 72), .mv (.tmp 0), none⟩,
     ⟨(some 73), .bin .mul (.const (.int .i64 3)) (.tmp 72), none⟩,
     ⟨(some 74), .mv (.tmp 7), none⟩,
     ⟨(some 75), .bin .mul (.tmp 73) (.tmp 74), none⟩,
     ⟨(some 76), .mv (.tmp 7), none⟩,
     ⟨(some 77), .bin .mul (.tmp 75) (.tmp 76), none⟩,
     ⟨(some 78), .mv (.tmp 2), none⟩,
     ⟨(some 79), .ixs 1 (.tmp 78) (.const (.int .i64 1)), none⟩,
     ⟨(some 80), .ld none (.tmp 79), none⟩,
     ⟨(some 81), .bin .mul (.tmp 77) (.tmp 80), none⟩,
     ⟨(some 82), .bin .add (.tmp 71) (.tmp 81), none⟩,
     ⟨(some 83), .mv (.tmp 0), none⟩,
     ⟨(some 84), .bin .mul (.const (.int .i64 3)) (.tmp 83), none⟩,
     ⟨(some 85), .mv (.tmp 0), none⟩,
     ⟨(some 86), .bin .mul (.tmp 84) (.tmp 85), none⟩,
     ⟨(some 87), .mv (.tmp 7), none⟩,
     ⟨(some 88), .bin .mul (.tmp 86) (.tmp 87), none⟩,
     ⟨(some 89), .mv (.tmp 2), none⟩,
     ⟨(some 90), .ixs 1 (.tmp 89) (.const (.int .i64 2)), none⟩,
     ⟨(some 91), .ld none (.tmp 90), none⟩,
     ⟨(some 92), .bin .mul (.tmp 88) (.tmp 91), none⟩,
     ⟨(some 93), .bin .add (.tmp 82) (.tmp 92), none⟩,
     ⟨(some 94), .mv (.tmp 0), none⟩,
     ⟨(some 95), .mv (.tmp 0), none⟩,
     ⟨(some 96), .bin .mul (.tmp 94) (.tmp 95), none⟩,
     ⟨(some 97), .mv (.tmp 0), none⟩,
     ⟨(some 98), .bin .mul (.tmp 96) (.tmp 97), none⟩,
     ⟨(some 99), .mv (.tmp 2), none⟩,
     ⟨(some 100), .ixs 1 (.tmp 99) (.const (.int .i64 3)), none⟩,
     ⟨(some 101), .ld none (.tmp 100), none⟩,
     ⟨(some 102), .bin .mul (.tmp 98) (.tmp 101), none⟩,
     ⟨(some 103), .bin .add (.tmp 93) (.tmp 102), none⟩,
     ⟨(some 104), .mv (.tmp 1), none⟩,
     ⟨(some 105), .mv (.tmp 1), none⟩,
     ⟨(some 106), .bin .mul (.tmp 104) (.tmp 105), none⟩,
     ⟨(some 107), .mv (.tmp 1), none⟩,
     ⟨(some 108), .bin .mul (.tmp 106) (.tmp 107), none⟩,
     ⟨(some 109), .call 65 [(.tmp 103), (.tmp 108)], none⟩,
     ⟨(some 6), .mv (.tmp 109), none⟩] [[], [], [0, 1], [], [2, 3], [], [5], [6], [4, 7], [], [9], [], [10, 11], [], [12, 13], [], [15], [16], [14, 17], [8, 18], [], [20], [], [21, 22], [], [23, 24], [], [26], [27], [25, 28], [19, 29], [], [], [31, 32], [], [33, 34], [], [36], [37], [35, 38], [30, 39], [], [], [41, 42], [], [43, 44], [40, 45], [46, 46, 0, 1, 2, 3, 4, 5, 6, 7, 8, 9, 10, 11, 12, 13, 14, 15, 16, 17, 18, 19, 20, 21, 22, 23, 24, 25, 26, 27, 28, 29, 30, 31, 32, 33, 34, 35, 36, 37, 38, 39, 40, 41, 42, 43, 44, 45, 46]])
  .ret))))
def flatten_mix_v1.f  : Option (Unit) := (fixed_Round_v1.f).bind fun _ => (some ())
theorem flatten_mix_v1.ok {S : Seal} {B0 nB0 : Nat}   (e : flatten_mix_v1.f  = some ()) :
    Cal Try.prog 46 [.int .i64 1, .int .i64 1, .slice (some ⟨B0, 0, none⟩) 2 (nB0 / 1)] ([⟨B0, [.int .i64 0, .int .i64 5], nB0⟩] : List Own) S fun v H' S' => v = .int .i64 5 ∧ H' = ([⟨B0, [.int .i64 0, .int .i64 5], nB0⟩] : List Own) ∧ S' = S := by
  unfold flatten_mix_v1.f at e
  refine cal_of (c := c46) (N := 110) Try.func46 rfl rfl (by kernel_rfl) (rs := [.t 6]) (by kernel_rfl) (Nat.le_of_ble_eq_true rfl) ?_
  unfold c46
  refine w_seq ?_
  refine w_reg fun all => ?_
  refine t_qz 1 [0, 1, 2] (σ' := [(0, .int .i64 1), (1, .int .i64 1), (2, .slice (some ⟨B0, 0, none⟩) 2 (nB0 / 1))]) (by kernel_rfl) ?_
  refine t_end ?_
  show W _ _ _ _ _ _ _
  refine w_seq ?_
  refine w_reg fun all => ?_
  refine t_qz 4 [0, 1, 2, 7] (σ' := [(0, .int .i64 1), (1, .int .i64 1), (2, .slice (some ⟨B0, 0, none⟩) 2 (nB0 / 1)), (7, .int .i64 0)]) (by kernel_rfl) ?_
  refine t_end ?_
  show W _ _ _ _ _ _ _
  refine w_seq ?_
  refine w_seq ?_
  refine w_reg fun all => ?_
  refine t_qz 2 [0, 1, 2, 7, 12] (σ' := [(0, .int .i64 1), (1, .int .i64 1), (2, .slice (some ⟨B0, 0, none⟩) 2 (nB0 / 1)), (7, .int .i64 0), (12, .int .i64 2)]) (by kernel_rfl) ?_
  refine t_end ?_
  show W _ _ _ _ _ _ _
  refine w_block ?_
  refine w_seq ?_
  refine w_reg fun all => ?_
  refine t_qz 2 [0, 1, 2, 7, 12, 13] (σ' := [(0, .int .i64 1), (1, .int .i64 1), (2, .slice (some ⟨B0, 0, none⟩) 2 (nB0 / 1)), (7, .int .i64 0), (12, .int .i64 2), (13, .bool false)]) (by kernel_rfl) ?_
  refine t_end ?_
  show W _ _ _ _ _ _ _
  refine w_cond rfl (fun c_ => by cases c_) (fun _ => ?_)
  show W _ _ _ _ _ _ _
  refine w_seq ?_
  refine w_reg fun all => ?_
  refine t_qz 2 [0, 1, 2, 7, 12, 18] (σ' := [(0, .int .i64 1), (1, .int .i64 1), (2, .slice (some ⟨B0, 0, none⟩) 2 (nB0 / 1)), (7, .int .i64 0), (12, .int .i64 2), (18, .bool true)]) (by kernel_rfl) ?_
  refine t_end ?_
  show W _ _ _ _ _ _ _
  refine w_cond rfl (fun _ => ?_) (fun c_ => by cases c_)
  show W _ _ _ _ _ _ _
  refine w_seq ?_
  obtain ⟨u_, h29, e⟩ := bind_of e
  refine w_drwE mixed 14 [.v (.int .i64 0), .v (.slice (some ⟨B0, 0, none⟩) 2 (nB0 / 1)), .v (.pointer (some ⟨B0, 0, none⟩)), .v (.int .i64 0), .v (.int .i64 0), .v (.int .i64 1), .v (.slice (some ⟨B0, 0, none⟩) 2 (nB0 / 1)), .v (.pointer (some ⟨B0, 1, none⟩)), .v (.int .i64 5), .v (.int .i64 5), .v (.int .i64 5), .v (.int .i64 1), .v (.int .i64 5), .v (.int .i64 5)] (by kernel_rfl) ?_ ?_
  · refine DI.sq 3 (by kernel_rfl) rfl ?_
    refine .cons (.ld1 rfl rfl rfl (.at 0 rfl rfl)) ?_
    refine DI.sq 4 (by kernel_rfl) rfl ?_
    refine .cons (.ld1 rfl rfl rfl (.at 0 rfl rfl)) ?_
    refine DI.sq 3 (by kernel_rfl) rfl ?_
    refine .cons (.call (vs := [.int .i64 5, .int .i64 1]) rfl rfl (by kernel_rfl) (fixed_Round_v1.ok h29)) ?_
    refine DI.sq 1 (by kernel_rfl) rfl ?_
    exact .nil
  refine fk_q 14 [6] (σ' := [(6, .int .i64 5)]) t_more (by kernel_rfl) ?_
  refine fk_nil fun all => ?_
  refine t_keep [6] (σ' := [(6, .int .i64 5)]) (by kernel_rfl) ?_
  refine t_end ?_
  show W _ _ _ _ _ _ _
  refine w_ret ?_
  exact ⟨[.int .i64 5], ([⟨B0, [.int .i64 0, .int .i64 5], nB0⟩] : List Own), S, ⟨rfl, trivial⟩, VS.sel [0] (by kernel_rfl), rfl, rfl, rfl⟩

def fixed_Down_v2.f  : Option (Unit) := some ()
theorem fixed_Down_v2.ok {S : Seal}   (e : fixed_Down_v2.f  = some ()) :
    Cal Try.prog 69 [.int .i64 0, .int .i64 1] [] S fun v H' S' => v = .int .i64 0 ∧ H' = [] ∧ S' = S := by
  unfold fixed_Down_v2.f at e
  refine cal_of (c := c69) (N := 18) Try.func69 rfl rfl (by kernel_rfl) (rs := [.t 4]) (by kernel_rfl) (Nat.le_of_ble_eq_true rfl) ?_
  unfold c69
  refine w_seq ?_
  refine w_reg fun all => ?_
  refine t_qz 1 [0, 1] (σ' := [(0, .int .i64 0), (1, .int .i64 1)]) (by kernel_rfl) ?_
  refine t_end ?_
  show W _ _ _ _ _ _ _
  refine w_seq ?_
  refine w_seq ?_
  refine w_reg fun all => ?_
  refine t_qz 2 [0, 1, 7] (σ' := [(0, .int .i64 0), (1, .int .i64 1), (7, .bool false)]) (by kernel_rfl) ?_
  refine t_end ?_
  show W _ _ _ _ _ _ _
  refine w_cond rfl (fun c_ => by cases c_) (fun _ => ?_)
  show W _ _ _ _ _ _ _
  refine w_skip ?_
  show W _ _ _ _ _ _ _
  refine w_seq ?_
  refine w_reg fun all => ?_
  refine t_qz 4 [0, 1, 5] (σ' := [(0, .int .i64 0), (1, .int .i64 1), (5, .int .i64 0)]) (by kernel_rfl) ?_
  refine t_end ?_
  show W _ _ _ _ _ _ _
  refine w_seq ?_
  refine w_seq ?_
  refine w_reg fun all => ?_
  refine t_qz 4 [5, 14] (σ' := [(5, .int .i64 0), (14, .bool false)]) (by kernel_rfl) ?_
  refine t_end ?_
  show W _ _ _ _ _ _ _
  refine w_cond rfl (fun c_ => by cases c_) (fun _ => ?_)
  show W _ _ _ _ _ _ _
  refine w_skip ?_
  show W _ _ _ _ _ _ _
  refine w_seq ?_
  refine w_reg fun all => ?_
  refine t_qz 2 [4] (σ' := [(4, .int .i64 0)]) (by kernel_rfl) ?_
  refine t_end ?_
  show W _ _ _ _ _ _ _
  refine w_ret ?_
  exact ⟨[.int .i64 0], [], S, ⟨rfl, trivial⟩, VS.none, rfl, rfl, rfl⟩

def fixed_Round_v2.f  : Option (Unit) := (fixed_Down_v2.f).bind fun _ => (some ())
theorem fixed_Round_v2.ok {S : Seal}   (e : fixed_Round_v2.f  = some ()) :
    Cal Try.prog 65 [.int .i64 0, .int .i64 1] [] S fun v H' S' => v = .int .i64 0 ∧ H' = [] ∧ S' = S := by
  unfold fixed_Round_v2.f at e
  refine cal_of (c := c65) (N := 25) Try.func65 rfl rfl (by kernel_rfl) (rs := [.t 4]) (by kernel_rfl) (Nat.le_of_ble_eq_true rfl) ?_
  unfold c65
  refine w_seq ?_
  refine w_reg fun all => ?_
  refine t_qz 1 [0, 1] (σ' := [(0, .int .i64 0), (1, .int .i64 1)]) (by kernel_rfl) ?_
  refine t_end ?_
  show W _ _ _ _ _ _ _
  refine w_seq ?_
  refine w_seq ?_
  refine w_reg fun all => ?_
  refine t_qz 2 [0, 1, 8] (σ' := [(0, .int .i64 0), (1, .int .i64 1), (8, .bool false)]) (by kernel_rfl) ?_
  refine t_end ?_
  show W _ _ _ _ _ _ _
  refine w_cond rfl (fun c_ => by cases c_) (fun _ => ?_)
  show W _ _ _ _ _ _ _
  refine w_skip ?_
  show W _ _ _ _ _ _ _
  refine w_seq ?_
  refine w_reg fun all => ?_
  obtain ⟨u_, h31, e⟩ := bind_of e
  refine t_qz 2 [0, 1, 9, 10] (σ' := [(0, .int .i64 0), (1, .int .i64 1), (9, .int .i64 0), (10, .int .i64 1)]) (by kernel_rfl) ?_
  refine t_v (.call (vs := [.int .i64 0, .int .i64 1]) rfl rfl (by kernel_rfl) (fixed_Down_v2.ok h31)) ?_
  refine t_qz 1 [0, 1, 5] (σ' := [(0, .int .i64 0), (1, .int .i64 1), (5, .int .i64 0)]) (by kernel_rfl) ?_
  refine t_end ?_
  show W _ _ _ _ _ _ _
  refine w_seq ?_
  refine w_seq ?_
  refine w_reg fun all => ?_
  refine t_qz 6 [1, 5, 6] (σ' := [(1, .int .i64 1), (5, .int .i64 0), (6, .int .i64 0)]) (by kernel_rfl) ?_
  refine t_end ?_
  show W _ _ _ _ _ _ _
  refine w_seq ?_
  refine w_reg fun all => ?_
  refine t_qz 5 [5, 21] (σ' := [(5, .int .i64 0), (21, .bool false)]) (by kernel_rfl) ?_
  refine t_end ?_
  show W _ _ _ _ _ _ _
  refine w_cond rfl (fun c_ => by cases c_) (fun _ => ?_)
  show W _ _ _ _ _ _ _
  refine w_skip ?_
  show W _ _ _ _ _ _ _
  refine w_seq ?_
  refine w_reg fun all => ?_
  refine t_qz 2 [4] (σ' := [(4, .int .i64 0)]) (by kernel_rfl) ?_
  refine t_end ?_
  show W _ _ _ _ _ _ _
  refine w_ret ?_
  exact ⟨[.int .i64 0], [], S, ⟨rfl, trivial⟩, VS.none, rfl, rfl, rfl⟩

def flatten_mix_v2.f  : Option (Unit) := (fixed_Round_v2.f).bind fun _ => (some ())
theorem flatten_mix_v2.ok {S : Seal} {B0 nB0 : Nat}   (e : flatten_mix_v2.f  = some ()) :
    Cal Try.prog 46 [.int .i64 1, .int .i64 1, .slice (some ⟨B0, 0, none⟩) 2 (nB0 / 1)] ([⟨B0, [.int .i64 0, .int .i64 0], nB0⟩] : List Own) S fun v H' S' => v = .int .i64 0 ∧ H' = ([⟨B0, [.int .i64 0, .int .i64 0], nB0⟩] : List Own) ∧ S' = S := by
  unfold flatten_mix_v2.f at e
  refine cal_of (c := c46) (N := 110) Try.func46 rfl rfl (by kernel_rfl) (rs := [.t 6]) (by kernel_rfl) (Nat.le_of_ble_eq_true rfl) ?_
  unfold c46
  refine w_seq ?_
  refine w_reg fun all => ?_
  refine t_qz 1 [0, 1, 2] (σ' := [(0, .int .i64 1), (1, .int .i64 1), (2, .slice (some ⟨B0, 0, none⟩) 2 (nB0 / 1))]) (by kernel_rfl) ?_
  refine t_end ?_
  show W _ _ _ _ _ _ _
  refine w_seq ?_
  refine w_reg fun all => ?_
  refine t_qz 4 [0, 1, 2, 7] (σ' := [(0, .int .i64 1), (1, .int .i64 1), (2, .slice (some ⟨B0, 0, none⟩) 2 (nB0 / 1)), (7, .int .i64 0)]) (by kernel_rfl) ?_
  refine t_end ?_
  show W _ _ _ _ _ _ _
  refine w_seq ?_
  refine w_seq ?_
  refine w_reg fun all => ?_
  refine t_qz 2 [0, 1, 2, 7, 12] (σ' := [(0, .int .i64 1), (1, .int .i64 1), (2, .slice (some ⟨B0, 0, none⟩) 2 (nB0 / 1)), (7, .int .i64 0), (12, .int .i64 2)]) (by kernel_rfl) ?_
  refine t_end ?_
  show W _ _ _ _ _ _ _
  refine w_block ?_
  refine w_seq ?_
  refine w_reg fun all => ?_
  refine t_qz 2 [0, 1, 2, 7, 12, 13] (σ' := [(0, .int .i64 1), (1, .int .i64 1), (2, .slice (some ⟨B0, 0, none⟩) 2 (nB0 / 1)), (7, .int .i64 0), (12, .int .i64 2), (13, .bool false)]) (by kernel_rfl) ?_
  refine t_end ?_
  show W _ _ _ _ _ _ _
  refine w_cond rfl (fun c_ => by cases c_) (fun _ => ?_)
  show W _ _ _ _ _ _ _
  refine w_seq ?_
  refine w_reg fun all => ?_
  refine t_qz 2 [0, 1, 2, 7, 12, 18] (σ' := [(0, .int .i64 1), (1, .int .i64 1), (2, .slice (some ⟨B0, 0, none⟩) 2 (nB0 / 1)), (7, .int .i64 0), (12, .int .i64 2), (18, .bool true)]) (by kernel_rfl) ?_
  refine t_end ?_
  show W _ _ _ _ _ _ _
  refine w_cond rfl (fun _ => ?_) (fun c_ => by cases c_)
  show W _ _ _ _ _ _ _
  refine w_seq ?_
  obtain ⟨u_, h31, e⟩ := bind_of e
  refine w_drwE mixed 14 [.v (.int .i64 0), .v (.slice (some ⟨B0, 0, none⟩) 2 (nB0 / 1)), .v (.pointer (some ⟨B0, 0, none⟩)), .v (.int .i64 0), .v (.int .i64 0), .v (.int .i64 1), .v (.slice (some ⟨B0, 0, none⟩) 2 (nB0 / 1)), .v (.pointer (some ⟨B0, 1, none⟩)), .v (.int .i64 0), .v (.int .i64 0), .v (.int .i64 0), .v (.int .i64 1), .v (.int .i64 0), .v (.int .i64 0)] (by kernel_rfl) ?_ ?_
  · refine DI.sq 3 (by kernel_rfl) rfl ?_
    refine .cons (.ld1 rfl rfl rfl (.at 0 rfl rfl)) ?_
    refine DI.sq 4 (by kernel_rfl) rfl ?_
    refine .cons (.ld1 rfl rfl rfl (.at 0 rfl rfl)) ?_
    refine DI.sq 3 (by kernel_rfl) rfl ?_
    refine .cons (.call (vs := [.int .i64 0, .int .i64 1]) rfl rfl (by kernel_rfl) (fixed_Round_v2.ok h31)) ?_
    refine DI.sq 1 (by kernel_rfl) rfl ?_
    exact .nil
  refine fk_q 14 [6] (σ' := [(6, .int .i64 0)]) t_more (by kernel_rfl) ?_
  refine fk_nil fun all => ?_
  refine t_keep [6] (σ' := [(6, .int .i64 0)]) (by kernel_rfl) ?_
  refine t_end ?_
  show W _ _ _ _ _ _ _
  refine w_ret ?_
  exact ⟨[.int .i64 0], ([⟨B0, [.int .i64 0, .int .i64 0], nB0⟩] : List Own), S, ⟨rfl, trivial⟩, VS.sel [0] (by kernel_rfl), rfl, rfl, rfl⟩

/-- flatten.Point -/
def c28 : C :=
  (.seq (.reg [⟨(some 4), .box (.tmp 0), none⟩,
     ⟨(some 5), .box (.tmp 1), none⟩,
     ⟨(some 8), .new [(.int .i64 0), (.int .i64 0)], none⟩])
  (.seq (.drw [⟨(some 13), .pad 0 (.tmp 4), none⟩,
     ⟨(some 14), .ld none (.tmp 13), none⟩,
     ⟨(some 15), .bsl [(.int .i64 0)] 1 [(0, 1, (.tmp 14))], none⟩,
     ⟨(some 16), .pad 1 (.tmp 4), none⟩,
     ⟨(some 17), .ld none (.tmp 16), none⟩,
     ⟨(some 18), .bsl [(.int .i64 0)] 1 [(0, 1, (.tmp 17))], none⟩,
     ⟨(some 9), .mv (.tmp 15), none⟩,
     ⟨(some 10), .mv (.tmp 18), none⟩] [[], [0], [1], [], [3], [4], [2, 0, 1, 2], [5, 6, 0, 1, 2, 3, 4, 5, 6]])
  (.seq (.seq (.reg [⟨(some 19), .ld (some 7) (.tmp 5), none⟩,
      ⟨(some 20), .call 45 [(.tmp 19)], none⟩,
      ⟨(some 21), .lns (.tmp 20), none⟩,
      ⟨(some 22), .mv (.const (.int .i64 0)), none⟩])
   (.block 0 (.loop (.seq (.reg [⟨(some 23), .bin .lss (.tmp 22) (.tmp 21), none⟩])
     (.seq (.cond (.tmp 23)
       .skip
       (.exit 0))
     (.seq (.block 1 (.seq (.reg [⟨(some 24), .ixs 2 (.tmp 20) (.tmp 22), none⟩,
          ⟨(some 25), .ld (some 2) (.tmp 24), none⟩,
          ⟨(some 12), .new [(.int .i64 0), (.int .i64 0)], none⟩,
          ⟨none, .st 2 (.tmp 12) (.tmp 25), none⟩])
       (.drw [⟨(some 26), .mv (.tmp 9), none⟩,
         ⟨(some 27), .pad 0 (.tmp 12), none⟩,
         ⟨(some 28), .ld none (.tmp 27), none⟩,
         ⟨(some 29), .bsl [(.int .i64 0)] 1 [(0, 1, (.tmp 28))], none⟩,
         ⟨(some 30), .app 2 1 8 [(.int .i64 0)] (.tmp 26) (.tmp 29), none⟩,
         ⟨(some 31), .mv (.tmp 10), none⟩,
         ⟨(some 32), .pad 1 (.tmp 12), none⟩,
         ⟨(some 33), .ld none (.tmp 32), none⟩,
         ⟨(some 34), .bsl [(.int .i64 0)] 1 [(0, 1, (.tmp 33))], none⟩,
         ⟨(some 35), .app 2 1 8 [(.int .i64 0)] (.tmp 31) (.tmp 34), none⟩,
         ⟨(some 9), .mv (.tmp 30), none⟩,
         ⟨(some 10), .mv (.tmp 35), none⟩] [[], [], [1], [2], [0, 3], [], [], [6], [7], [5, 8, 4], [4, 9, 0, 1, 2, 3, 4], [9, 10, 0, 1, 2, 3, 4, 5, 6, 7, 8, 9, 10]])))
     (.reg [⟨(some 36), .bin .add (.tmp 22) (.const (.int .i64 1)), none⟩,
       ⟨(some 22), .mv (.tmp 36), none⟩])))))))
  (.seq (.reg [⟨(some 37), .mv (.tmp 2), none⟩,
     ⟨(some 38), .mv (.tmp 3), none⟩,
     ⟨(some 39), .mv (.tmp 9), none⟩,
     ⟨(some 40), .call 46 [(.tmp 37), (.tmp 38), (.tmp 39)], none⟩,
     ⟨(some 41), .mv (.tmp 2), none⟩,
     ⟨(some 42), .mv (.tmp 3), none⟩,
     ⟨(some 43), .mv (.tmp 10), none⟩,
     ⟨(some 44), .call 46 [(.tmp 41), (.tmp 42), (.tmp 43)], none⟩,
     ⟨(some 45), .bld [(.int .i64 0), (.int .i64 0)] [(0, 1, (.tmp 40)), (1, 1, (.tmp 44))], none⟩,
     ⟨none, .st 2 (.tmp 8) (.tmp 45), none⟩])
  .ret))))
def flatten_Point_v1.f  : Option (Unit) := (flatten_points_v1.f).bind fun _ => ((flatten_mix_v1.f).bind fun _ => ((flatten_mix_v2.f).bind fun _ => (some ())))
theorem flatten_Point_v1.ok {S : Seal}   (e : flatten_Point_v1.f  = some ()) :
    Cal Try.prog 28 [.agg #[.int .i64 0, .int .i64 0], .agg #[.int .i64 1, .int .i64 5, .int .i64 0, .int .i64 0, .int .i64 0, .int .i64 0, .int .i64 0], .int .i64 1, .int .i64 1] [] S fun v H' S' => v = .agg #[.int .i64 5, .int .i64 0] ∧ H' = [] ∧ S' = S := by
  unfold flatten_Point_v1.f at e
  refine cal_of (c := c28) (N := 46) Try.func28 rfl rfl (by kernel_rfl) (rs := [.cn 2 8]) (by kernel_rfl) (Nat.le_of_ble_eq_true rfl) ?_
  unfold c28
  refine w_seq ?_
  refine w_reg fun all => ?_
  refine t_a (.box rfl rfl rfl) fun b16 fb16 sb16 => ?_
  refine t_a (.box rfl rfl rfl) fun b17 fb17 sb17 => ?_
  refine t_a (.new rfl rfl) fun b18 fb18 sb18 => ?_
  refine t_keep [2, 3, 4, 5, 8] (σ' := [(2, .int .i64 1), (3, .int .i64 1), (4, .pointer (some ⟨b16, 0, none⟩)), (5, .pointer (some ⟨b17, 0, none⟩)), (8, .pointer (some ⟨b18, 0, none⟩))]) (by kernel_rfl) ?_
  refine t_end ?_
  show W _ _ _ _ _ _ _
  refine w_seq ?_
  refine w_kp [2, 3, 4, 5, 8] (σ' := [(2, .int .i64 1), (3, .int .i64 1), (4, .pointer (some ⟨b16, 0, none⟩)), (5, .pointer (some ⟨b17, 0, none⟩)), (8, .pointer (some ⟨b18, 0, none⟩))]) (by kernel_rfl) ?_
  refine w_game mixed fun all G hend hstep => ?_
  have hg_ff : ∀ (g20 g19 : Nat), G [true, true, true, true, true, true, true, true] [(2, .int .i64 1), (3, .int .i64 1), (5, .pointer (some ⟨b17, 0, none⟩)), (8, .pointer (some ⟨b18, 0, none⟩)), (9, .slice (some ⟨g19, 0, none⟩) 1 1), (10, .slice (some ⟨g20, 0, none⟩) 1 1)] ([⟨g20, [.int .i64 0], 1⟩, ⟨g19, [.int .i64 0], 1⟩, ⟨b18, [.int .i64 0, .int .i64 0], 2⟩, ⟨b17, [.int .i64 1, .int .i64 5, .int .i64 0, .int .i64 0, .int .i64 0, .int .i64 0, .int .i64 0], 7⟩, ⟨b16, [.int .i64 0, .int .i64 0], 2⟩] : List Own) := by
    intro g20 g19
    refine hend _ _ _ (by kernel_rfl) ?_
    show W _ _ _ _ _ _ _
    refine w_seq ?_
    refine w_seq ?_
    refine w_reg fun all => ?_
    refine t_v (.ldn rfl rfl rfl (.at 3 rfl rfl)) ?_
    obtain ⟨u_, h22, e⟩ := bind_of e
    refine t_call (vs := [.agg #[.int .i64 1, .int .i64 5, .int .i64 0, .int .i64 0, .int .i64 0, .int .i64 0, .int .i64 0]]) (H1 := ([] : List Own)) (F := ([⟨g20, [.int .i64 0], 1⟩, ⟨g19, [.int .i64 0], 1⟩, ⟨b18, [.int .i64 0, .int .i64 0], 2⟩, ⟨b17, [.int .i64 1, .int .i64 5, .int .i64 0, .int .i64 0, .int .i64 0, .int .i64 0, .int .i64 0], 7⟩, ⟨b16, [.int .i64 0, .int .i64 0], 2⟩] : List Own)) rfl rfl (by kernel_rfl) (sel_perm (is := []) (by kernel_rfl)) (flatten_points_v1.ok h22) ?_
    rintro _ _ S_ ⟨N23, rfl, rfl, hS_⟩
    obtain rfl := hS_.symm
    refine t_qz 2 [2, 3, 8, 9, 10, 20, 21, 22] (σ' := [(2, .int .i64 1), (3, .int .i64 1), (8, .pointer (some ⟨b18, 0, none⟩)), (9, .slice (some ⟨g19, 0, none⟩) 1 1), (10, .slice (some ⟨g20, 0, none⟩) 1 1), (20, .slice (some ⟨N23, 1, none⟩) 1 3), (21, .int .i64 1), (22, .int .i64 0)]) (by kernel_rfl) ?_
    refine t_end ?_
    show W _ _ _ _ _ _ _
    refine w_block ?_
    refine w_lun 10 ?_
    refine wl_step ?_
    refine w_seq ?_
    refine w_reg fun all => ?_
    refine t_qz 1 [2, 3, 8, 9, 10, 20, 21, 22, 23] (σ' := [(2, .int .i64 1), (3, .int .i64 1), (8, .pointer (some ⟨b18, 0, none⟩)), (9, .slice (some ⟨g19, 0, none⟩) 1 1), (10, .slice (some ⟨g20, 0, none⟩) 1 1), (20, .slice (some ⟨N23, 1, none⟩) 1 3), (21, .int .i64 1), (22, .int .i64 0), (23, .bool true)]) (by kernel_rfl) ?_
    refine t_end ?_
    show W _ _ _ _ _ _ _
    refine w_seq ?_
    refine w_cond rfl (fun _ => ?_) (fun c_ => by cases c_)
    show W _ _ _ _ _ _ _
    refine w_skip ?_
    show W _ _ _ _ _ _ _
    refine w_seq ?_
    refine w_block ?_
    refine w_seq ?_
    refine w_reg fun all => ?_
    refine t_qz 1 [2, 3, 8, 9, 10, 20, 21, 22, 24] (σ' := [(2, .int .i64 1), (3, .int .i64 1), (8, .pointer (some ⟨b18, 0, none⟩)), (9, .slice (some ⟨g19, 0, none⟩) 1 1), (10, .slice (some ⟨g20, 0, none⟩) 1 1), (20, .slice (some ⟨N23, 1, none⟩) 1 3), (21, .int .i64 1), (22, .int .i64 0), (24, .pointer (some ⟨N23, 1, none⟩))]) (by kernel_rfl) ?_
    refine t_v (.ldn rfl rfl rfl (.at 0 rfl rfl)) ?_
    refine t_a (.new rfl rfl) fun b24 fb24 sb24 => ?_
    refine t_sti 0 (cs := [.int .i64 5, .int .i64 0]) rfl rfl rfl rfl rfl rfl rfl rfl rfl ?_
    refine t_keep [2, 3, 8, 9, 10, 12, 20, 21, 22] (σ' := [(2, .int .i64 1), (3, .int .i64 1), (8, .pointer (some ⟨b18, 0, none⟩)), (9, .slice (some ⟨g19, 0, none⟩) 1 1), (10, .slice (some ⟨g20, 0, none⟩) 1 1), (12, .pointer (some ⟨b24, 0, none⟩)), (20, .slice (some ⟨N23, 1, none⟩) 1 3), (21, .int .i64 1), (22, .int .i64 0)]) (by kernel_rfl) ?_
    refine t_end ?_
    show W _ _ _ _ _ _ _
    refine w_kp [2, 3, 8, 9, 10, 12, 20, 21, 22] (σ' := [(2, .int .i64 1), (3, .int .i64 1), (8, .pointer (some ⟨b18, 0, none⟩)), (9, .slice (some ⟨g19, 0, none⟩) 1 1), (10, .slice (some ⟨g20, 0, none⟩) 1 1), (12, .pointer (some ⟨b24, 0, none⟩)), (20, .slice (some ⟨N23, 1, none⟩) 1 3), (21, .int .i64 1), (22, .int .i64 0)]) (by kernel_rfl) ?_
    refine w_game mixed fun all G hend hstep => ?_
    have hg_fff : ∀ (g28 ng28 g27 g26 ng26 g25 : Nat), G [true, true, true, true, true, true, true, true, true, true, true, true] [(2, .int .i64 1), (3, .int .i64 1), (8, .pointer (some ⟨b18, 0, none⟩)), (9, .slice (some ⟨g26, 0, none⟩) 2 (ng26 / 1)), (10, .slice (some ⟨g28, 0, none⟩) 2 (ng28 / 1)), (20, .slice (some ⟨N23, 1, none⟩) 1 3), (21, .int .i64 1), (22, .int .i64 0)] ([⟨g28, [.int .i64 0, .int .i64 0], ng28⟩, ⟨g27, [.int .i64 0], 1⟩, ⟨g26, [.int .i64 0, .int .i64 5], ng26⟩, ⟨g25, [.int .i64 5], 1⟩, ⟨b24, [.int .i64 5, .int .i64 0], 2⟩, ⟨N23, [.int .i64 1, .int .i64 5, .int .i64 0, .int .i64 0, .int .i64 0, .int .i64 0, .int .i64 0], 7⟩, ⟨b18, [.int .i64 0, .int .i64 0], 2⟩, ⟨b17, [.int .i64 1, .int .i64 5, .int .i64 0, .int .i64 0, .int .i64 0, .int .i64 0, .int .i64 0], 7⟩, ⟨b16, [.int .i64 0, .int .i64 0], 2⟩] : List Own) := by
      intro g28 ng28 g27 g26 ng26 g25
      refine hend _ _ _ (by kernel_rfl) ?_
      show W _ _ _ _ _ _ _
      refine w_reg fun all => ?_
      refine t_qz 2 [2, 3, 8, 9, 10, 20, 21, 22] (σ' := [(2, .int .i64 1), (3, .int .i64 1), (8, .pointer (some ⟨b18, 0, none⟩)), (9, .slice (some ⟨g26, 0, none⟩) 2 (ng26 / 1)), (10, .slice (some ⟨g28, 0, none⟩) 2 (ng28 / 1)), (20, .slice (some ⟨N23, 1, none⟩) 1 3), (21, .int .i64 1), (22, .int .i64 1)]) (by kernel_rfl) ?_
      refine t_end ?_
      show WL _ _ _ _ _ _ _ _
      refine wl_step ?_
      refine w_seq ?_
      refine w_reg fun all => ?_
      refine t_qz 1 [2, 3, 8, 9, 10, 20, 21, 22, 23] (σ' := [(2, .int .i64 1), (3, .int .i64 1), (8, .pointer (some ⟨b18, 0, none⟩)), (9, .slice (some ⟨g26, 0, none⟩) 2 (ng26 / 1)), (10, .slice (some ⟨g28, 0, none⟩) 2 (ng28 / 1)), (20, .slice (some ⟨N23, 1, none⟩) 1 3), (21, .int .i64 1), (22, .int .i64 1), (23, .bool false)]) (by kernel_rfl) ?_
      refine t_end ?_
      show W _ _ _ _ _ _ _
      refine w_seq ?_
      refine w_cond rfl (fun c_ => by cases c_) (fun _ => ?_)
      show W _ _ _ _ _ _ _
      refine w_exit ?_
      show W _ _ _ _ _ _ _
      refine w_seq ?_
      refine w_reg fun all => ?_
      obtain ⟨u_, h30, e⟩ := bind_of e
      refine t_qz 3 [2, 3, 8, 10, 37, 38, 39] (σ' := [(2, .int .i64 1), (3, .int .i64 1), (8, .pointer (some ⟨b18, 0, none⟩)), (10, .slice (some ⟨g28, 0, none⟩) 2 (ng28 / 1)), (37, .int .i64 1), (38, .int .i64 1), (39, .slice (some ⟨g26, 0, none⟩) 2 (ng26 / 1))]) (by kernel_rfl) ?_
      refine t_v (.callr (vs := [.int .i64 1, .int .i64 1, .slice (some ⟨g26, 0, none⟩) 2 (ng26 / 1)]) (A := ([⟨g26, [.int .i64 0, .int .i64 5], ng26⟩] : List Own)) (F0 := ([⟨g28, [.int .i64 0, .int .i64 0], ng28⟩, ⟨g27, [.int .i64 0], 1⟩, ⟨g25, [.int .i64 5], 1⟩, ⟨b24, [.int .i64 5, .int .i64 0], 2⟩, ⟨N23, [.int .i64 1, .int .i64 5, .int .i64 0, .int .i64 0, .int .i64 0, .int .i64 0, .int .i64 0], 7⟩, ⟨b18, [.int .i64 0, .int .i64 0], 2⟩, ⟨b17, [.int .i64 1, .int .i64 5, .int .i64 0, .int .i64 0, .int .i64 0, .int .i64 0, .int .i64 0], 7⟩, ⟨b16, [.int .i64 0, .int .i64 0], 2⟩] : List Own)) rfl rfl (by kernel_rfl) (sel_perm (is := [2]) (by kernel_rfl)) (flatten_mix_v1.ok h30)) ?_
      obtain ⟨u_, h32, e⟩ := bind_of e
      refine t_qz 3 [8, 40, 41, 42, 43] (σ' := [(8, .pointer (some ⟨b18, 0, none⟩)), (40, .int .i64 5), (41, .int .i64 1), (42, .int .i64 1), (43, .slice (some ⟨g28, 0, none⟩) 2 (ng28 / 1))]) (by kernel_rfl) ?_
      refine t_v (.callr (vs := [.int .i64 1, .int .i64 1, .slice (some ⟨g28, 0, none⟩) 2 (ng28 / 1)]) (A := ([⟨g28, [.int .i64 0, .int .i64 0], ng28⟩] : List Own)) (F0 := ([⟨g27, [.int .i64 0], 1⟩, ⟨g26, [.int .i64 0, .int .i64 5], ng26⟩, ⟨g25, [.int .i64 5], 1⟩, ⟨b24, [.int .i64 5, .int .i64 0], 2⟩, ⟨N23, [.int .i64 1, .int .i64 5, .int .i64 0, .int .i64 0, .int .i64 0, .int .i64 0, .int .i64 0], 7⟩, ⟨b18, [.int .i64 0, .int .i64 0], 2⟩, ⟨b17, [.int .i64 1, .int .i64 5, .int .i64 0, .int .i64 0, .int .i64 0, .int .i64 0, .int .i64 0], 7⟩, ⟨b16, [.int .i64 0, .int .i64 0], 2⟩] : List Own)) rfl rfl (by kernel_rfl) (sel_perm (is := [0]) (by kernel_rfl)) (flatten_mix_v2.ok h32)) ?_
      refine t_qz 1 [8, 45] (σ' := [(8, .pointer (some ⟨b18, 0, none⟩)), (45, .agg #[.int .i64 5, .int .i64 0])]) (by kernel_rfl) ?_
      refine t_sti 6 (cs := [.int .i64 5, .int .i64 0]) rfl rfl rfl rfl rfl rfl rfl rfl rfl ?_
      refine t_keep [8] (σ' := [(8, .pointer (some ⟨b18, 0, none⟩))]) (by kernel_rfl) ?_
      refine t_end ?_
      show W _ _ _ _ _ _ _
      refine w_ret ?_
      exact ⟨[.agg #[.int .i64 5, .int .i64 0]], [], S, ⟨⟨_, _, _, rfl, .at 6 rfl rfl, rfl⟩, trivial⟩, VS.none, rfl, rfl, rfl⟩
    have hg_7ff : ∀ (g28 ng28 g27 g26 ng26 g25 : Nat), G [true, true, true, true, true, true, true, true, true, true, true, false] [(2, .int .i64 1), (3, .int .i64 1), (8, .pointer (some ⟨b18, 0, none⟩)), (9, .slice (some ⟨g26, 0, none⟩) 2 (ng26 / 1)), (10, .slice (some ⟨g20, 0, none⟩) 1 1), (20, .slice (some ⟨N23, 1, none⟩) 1 3), (21, .int .i64 1), (22, .int .i64 0), (35, .slice (some ⟨g28, 0, none⟩) 2 (ng28 / 1))] ([⟨g28, [.int .i64 0, .int .i64 0], ng28⟩, ⟨g27, [.int .i64 0], 1⟩, ⟨g26, [.int .i64 0, .int .i64 5], ng26⟩, ⟨g25, [.int .i64 5], 1⟩, ⟨b24, [.int .i64 5, .int .i64 0], 2⟩, ⟨N23, [.int .i64 1, .int .i64 5, .int .i64 0, .int .i64 0, .int .i64 0, .int .i64 0, .int .i64 0], 7⟩, ⟨b18, [.int .i64 0, .int .i64 0], 2⟩, ⟨b17, [.int .i64 1, .int .i64 5, .int .i64 0, .int .i64 0, .int .i64 0, .int .i64 0, .int .i64 0], 7⟩, ⟨b16, [.int .i64 0, .int .i64 0], 2⟩] : List Own) := by
      intro g28 ng28 g27 g26 ng26 g25
      refine hstep [11] _ _ _ (by kernel_rfl) (List.cons_ne_nil _ _) ⟨?_, trivial⟩
      · show T _ _ _ _ _ _ _ _
        refine t_qz 1 [2, 3, 8, 9, 10, 20, 21, 22] (σ' := [(2, .int .i64 1), (3, .int .i64 1), (8, .pointer (some ⟨b18, 0, none⟩)), (9, .slice (some ⟨g26, 0, none⟩) 2 (ng26 / 1)), (10, .slice (some ⟨g28, 0, none⟩) 2 (ng28 / 1)), (20, .slice (some ⟨N23, 1, none⟩) 1 3), (21, .int .i64 1), (22, .int .i64 0)]) (by kernel_rfl) ?_
        refine t_end ?_
        exact ⟨hg_fff g28 ng28 g27 g26 ng26 g25, rfl⟩
    have hg_3ff : ∀ (g28 ng28 g27 g26 ng26 g25 : Nat), G [true, true, true, true, true, true, true, true, true, true, false, false] [(2, .int .i64 1), (3, .int .i64 1), (8, .pointer (some ⟨b18, 0, none⟩)), (9, .slice (some ⟨g19, 0, none⟩) 1 1), (10, .slice (some ⟨g20, 0, none⟩) 1 1), (20, .slice (some ⟨N23, 1, none⟩) 1 3), (21, .int .i64 1), (22, .int .i64 0), (30, .slice (some ⟨g26, 0, none⟩) 2 (ng26 / 1)), (35, .slice (some ⟨g28, 0, none⟩) 2 (ng28 / 1))] ([⟨g28, [.int .i64 0, .int .i64 0], ng28⟩, ⟨g27, [.int .i64 0], 1⟩, ⟨g26, [.int .i64 0, .int .i64 5], ng26⟩, ⟨g25, [.int .i64 5], 1⟩, ⟨b24, [.int .i64 5, .int .i64 0], 2⟩, ⟨N23, [.int .i64 1, .int .i64 5, .int .i64 0, .int .i64 0, .int .i64 0, .int .i64 0, .int .i64 0], 7⟩, ⟨b18, [.int .i64 0, .int .i64 0], 2⟩, ⟨b17, [.int .i64 1, .int .i64 5, .int .i64 0, .int .i64 0, .int .i64 0, .int .i64 0, .int .i64 0], 7⟩, ⟨b16, [.int .i64 0, .int .i64 0], 2⟩] : List Own) := by
      intro g28 ng28 g27 g26 ng26 g25
      refine hstep [10] _ _ _ (by kernel_rfl) (List.cons_ne_nil _ _) ⟨?_, trivial⟩
      · show T _ _ _ _ _ _ _ _
        refine t_qz 1 [2, 3, 8, 9, 10, 20, 21, 22, 35] (σ' := [(2, .int .i64 1), (3, .int .i64 1), (8, .pointer (some ⟨b18, 0, none⟩)), (9, .slice (some ⟨g26, 0, none⟩) 2 (ng26 / 1)), (10, .slice (some ⟨g20, 0, none⟩) 1 1), (20, .slice (some ⟨N23, 1, none⟩) 1 3), (21, .int .i64 1), (22, .int .i64 0), (35, .slice (some ⟨g28, 0, none⟩) 2 (ng28 / 1))]) (by kernel_rfl) ?_
        refine t_end ?_
        exact ⟨hg_7ff g28 ng28 g27 g26 ng26 g25, rfl⟩
    have hg_1ff : ∀ (g27 g26 ng26 g25 : Nat), G [true, true, true, true, true, true, true, true, true, false, false, false] [(2, .int .i64 1), (3, .int .i64 1), (8, .pointer (some ⟨b18, 0, none⟩)), (9, .slice (some ⟨g19, 0, none⟩) 1 1), (10, .slice (some ⟨g20, 0, none⟩) 1 1), (20, .slice (some ⟨N23, 1, none⟩) 1 3), (21, .int .i64 1), (22, .int .i64 0), (30, .slice (some ⟨g26, 0, none⟩) 2 (ng26 / 1)), (31, .slice (some ⟨g20, 0, none⟩) 1 1), (34, .slice (some ⟨g27, 0, none⟩) 1 1)] ([⟨g27, [.int .i64 0], 1⟩, ⟨g26, [.int .i64 0, .int .i64 5], ng26⟩, ⟨g25, [.int .i64 5], 1⟩, ⟨b24, [.int .i64 5, .int .i64 0], 2⟩, ⟨N23, [.int .i64 1, .int .i64 5, .int .i64 0, .int .i64 0, .int .i64 0, .int .i64 0, .int .i64 0], 7⟩, ⟨g20, [.int .i64 0], 1⟩, ⟨b18, [.int .i64 0, .int .i64 0], 2⟩, ⟨b17, [.int .i64 1, .int .i64 5, .int .i64 0, .int .i64 0, .int .i64 0, .int .i64 0, .int .i64 0], 7⟩, ⟨b16, [.int .i64 0, .int .i64 0], 2⟩] : List Own) := by
      intro g27 g26 ng26 g25
      refine hstep [9] _ _ _ (by kernel_rfl) (List.cons_ne_nil _ _) ⟨?_, trivial⟩
      · show T _ _ _ _ _ _ _ _
        refine t_app1 (cs := [.int .i64 0]) (M := 1) (F := ([⟨g27, [.int .i64 0], 1⟩, ⟨g26, [.int .i64 0, .int .i64 5], ng26⟩, ⟨g25, [.int .i64 5], 1⟩, ⟨b24, [.int .i64 5, .int .i64 0], 2⟩, ⟨N23, [.int .i64 1, .int .i64 5, .int .i64 0, .int .i64 0, .int .i64 0, .int .i64 0, .int .i64 0], 7⟩, ⟨b18, [.int .i64 0, .int .i64 0], 2⟩, ⟨b17, [.int .i64 1, .int .i64 5, .int .i64 0, .int .i64 0, .int .i64 0, .int .i64 0, .int .i64 0], 7⟩, ⟨b16, [.int .i64 0, .int .i64 0], 2⟩] : List Own)) (news := [.int .i64 0]) rfl rfl rfl rfl (sel_perm (is := [5]) (by kernel_rfl)) (.at 0 rfl rfl) (by kernel_rfl) rfl rfl (by decide) (by decide) rfl fun g28 ng28 => ?_
        refine t_keep [2, 3, 8, 9, 10, 20, 21, 22, 30, 35] (σ' := [(2, .int .i64 1), (3, .int .i64 1), (8, .pointer (some ⟨b18, 0, none⟩)), (9, .slice (some ⟨g19, 0, none⟩) 1 1), (10, .slice (some ⟨g20, 0, none⟩) 1 1), (20, .slice (some ⟨N23, 1, none⟩) 1 3), (21, .int .i64 1), (22, .int .i64 0), (30, .slice (some ⟨g26, 0, none⟩) 2 (ng26 / 1)), (35, .slice (some ⟨g28, 0, none⟩) 2 (ng28 / 1))]) (by kernel_rfl) ?_
        refine t_end ?_
        exact ⟨hg_3ff g28 ng28 g27 g26 ng26 g25, rfl⟩
    have hg_ff : ∀ (g26 ng26 g25 : Nat), G [true, true, true, true, true, true, true, true, false, false, false, false] [(2, .int .i64 1), (3, .int .i64 1), (8, .pointer (some ⟨b18, 0, none⟩)), (9, .slice (some ⟨g19, 0, none⟩) 1 1), (10, .slice (some ⟨g20, 0, none⟩) 1 1), (20, .slice (some ⟨N23, 1, none⟩) 1 3), (21, .int .i64 1), (22, .int .i64 0), (30, .slice (some ⟨g26, 0, none⟩) 2 (ng26 / 1)), (31, .slice (some ⟨g20, 0, none⟩) 1 1), (33, .int .i64 0)] ([⟨g26, [.int .i64 0, .int .i64 5], ng26⟩, ⟨g25, [.int .i64 5], 1⟩, ⟨b24, [.int .i64 5, .int .i64 0], 2⟩, ⟨N23, [.int .i64 1, .int .i64 5, .int .i64 0, .int .i64 0, .int .i64 0, .int .i64 0, .int .i64 0], 7⟩, ⟨g20, [.int .i64 0], 1⟩, ⟨b18, [.int .i64 0, .int .i64 0], 2⟩, ⟨b17, [.int .i64 1, .int .i64 5, .int .i64 0, .int .i64 0, .int .i64 0, .int .i64 0, .int .i64 0], 7⟩, ⟨b16, [.int .i64 0, .int .i64 0], 2⟩] : List Own) := by
      intro g26 ng26 g25
      refine hstep [8] _ _ _ (by kernel_rfl) (List.cons_ne_nil _ _) ⟨?_, trivial⟩
      · show T _ _ _ _ _ _ _ _
        refine t_a (.bsl rfl rfl rfl rfl) fun g27 fg27 sg27 => ?_
        refine t_keep [2, 3, 8, 9, 10, 20, 21, 22, 30, 31, 34] (σ' := [(2, .int .i64 1), (3, .int .i64 1), (8, .pointer (some ⟨b18, 0, none⟩)), (9, .slice (some ⟨g19, 0, none⟩) 1 1), (10, .slice (some ⟨g20, 0, none⟩) 1 1), (20, .slice (some ⟨N23, 1, none⟩) 1 3), (21, .int .i64 1), (22, .int .i64 0), (30, .slice (some ⟨g26, 0, none⟩) 2 (ng26 / 1)), (31, .slice (some ⟨g20, 0, none⟩) 1 1), (34, .slice (some ⟨g27, 0, none⟩) 1 1)]) (by kernel_rfl) ?_
        refine t_end ?_
        exact ⟨hg_1ff g27 g26 ng26 g25, rfl⟩
    have hg_1df : ∀ (g27 g26 ng26 g25 : Nat), G [true, true, true, true, true, false, true, true, true, false, false, false] [(2, .int .i64 1), (3, .int .i64 1), (8, .pointer (some ⟨b18, 0, none⟩)), (9, .slice (some ⟨g19, 0, none⟩) 1 1), (10, .slice (some ⟨g20, 0, none⟩) 1 1), (20, .slice (some ⟨N23, 1, none⟩) 1 3), (21, .int .i64 1), (22, .int .i64 0), (30, .slice (some ⟨g26, 0, none⟩) 2 (ng26 / 1)), (34, .slice (some ⟨g27, 0, none⟩) 1 1)] ([⟨g27, [.int .i64 0], 1⟩, ⟨g26, [.int .i64 0, .int .i64 5], ng26⟩, ⟨g25, [.int .i64 5], 1⟩, ⟨b24, [.int .i64 5, .int .i64 0], 2⟩, ⟨N23, [.int .i64 1, .int .i64 5, .int .i64 0, .int .i64 0, .int .i64 0, .int .i64 0, .int .i64 0], 7⟩, ⟨g20, [.int .i64 0], 1⟩, ⟨b18, [.int .i64 0, .int .i64 0], 2⟩, ⟨b17, [.int .i64 1, .int .i64 5, .int .i64 0, .int .i64 0, .int .i64 0, .int .i64 0, .int .i64 0], 7⟩, ⟨b16, [.int .i64 0, .int .i64 0], 2⟩] : List Own) := by
      intro g27 g26 ng26 g25
      refine hstep [5] _ _ _ (by kernel_rfl) (List.cons_ne_nil _ _) ⟨?_, trivial⟩
      · show T _ _ _ _ _ _ _ _
        refine t_qz 1 [2, 3, 8, 9, 10, 20, 21, 22, 30, 31, 34] (σ' := [(2, .int .i64 1), (3, .int .i64 1), (8, .pointer (some ⟨b18, 0, none⟩)), (9, .slice (some ⟨g19, 0, none⟩) 1 1), (10, .slice (some ⟨g20, 0, none⟩) 1 1), (20, .slice (some ⟨N23, 1, none⟩) 1 3), (21, .int .i64 1), (22, .int .i64 0), (30, .slice (some ⟨g26, 0, none⟩) 2 (ng26 / 1)), (31, .slice (some ⟨g20, 0, none⟩) 1 1), (34, .slice (some ⟨g27, 0, none⟩) 1 1)]) (by kernel_rfl) ?_
        refine t_end ?_
        exact ⟨hg_1ff g27 g26 ng26 g25, rfl⟩
    have hg_1ef : ∀ (g27 g25 : Nat), G [true, true, true, true, false, true, true, true, true, false, false, false] [(2, .int .i64 1), (3, .int .i64 1), (8, .pointer (some ⟨b18, 0, none⟩)), (9, .slice (some ⟨g19, 0, none⟩) 1 1), (10, .slice (some ⟨g20, 0, none⟩) 1 1), (20, .slice (some ⟨N23, 1, none⟩) 1 3), (21, .int .i64 1), (22, .int .i64 0), (26, .slice (some ⟨g19, 0, none⟩) 1 1), (29, .slice (some ⟨g25, 0, none⟩) 1 1), (31, .slice (some ⟨g20, 0, none⟩) 1 1), (34, .slice (some ⟨g27, 0, none⟩) 1 1)] ([⟨g27, [.int .i64 0], 1⟩, ⟨g25, [.int .i64 5], 1⟩, ⟨b24, [.int .i64 5, .int .i64 0], 2⟩, ⟨N23, [.int .i64 1, .int .i64 5, .int .i64 0, .int .i64 0, .int .i64 0, .int .i64 0, .int .i64 0], 7⟩, ⟨g20, [.int .i64 0], 1⟩, ⟨g19, [.int .i64 0], 1⟩, ⟨b18, [.int .i64 0, .int .i64 0], 2⟩, ⟨b17, [.int .i64 1, .int .i64 5, .int .i64 0, .int .i64 0, .int .i64 0, .int .i64 0, .int .i64 0], 7⟩, ⟨b16, [.int .i64 0, .int .i64 0], 2⟩] : List Own) := by
      intro g27 g25
      refine hstep [4] _ _ _ (by kernel_rfl) (List.cons_ne_nil _ _) ⟨?_, trivial⟩
      · show T _ _ _ _ _ _ _ _
        refine t_app1 (cs := [.int .i64 0]) (M := 1) (F := ([⟨g27, [.int .i64 0], 1⟩, ⟨g25, [.int .i64 5], 1⟩, ⟨b24, [.int .i64 5, .int .i64 0], 2⟩, ⟨N23, [.int .i64 1, .int .i64 5, .int .i64 0, .int .i64 0, .int .i64 0, .int .i64 0, .int .i64 0], 7⟩, ⟨g20, [.int .i64 0], 1⟩, ⟨b18, [.int .i64 0, .int .i64 0], 2⟩, ⟨b17, [.int .i64 1, .int .i64 5, .int .i64 0, .int .i64 0, .int .i64 0, .int .i64 0, .int .i64 0], 7⟩, ⟨b16, [.int .i64 0, .int .i64 0], 2⟩] : List Own)) (news := [.int .i64 5]) rfl rfl rfl rfl (sel_perm (is := [5]) (by kernel_rfl)) (.at 1 rfl rfl) (by kernel_rfl) rfl rfl (by decide) (by decide) rfl fun g26 ng26 => ?_
        refine t_keep [2, 3, 8, 9, 10, 20, 21, 22, 30, 31, 34] (σ' := [(2, .int .i64 1), (3, .int .i64 1), (8, .pointer (some ⟨b18, 0, none⟩)), (9, .slice (some ⟨g19, 0, none⟩) 1 1), (10, .slice (some ⟨g20, 0, none⟩) 1 1), (20, .slice (some ⟨N23, 1, none⟩) 1 3), (21, .int .i64 1), (22, .int .i64 0), (30, .slice (some ⟨g26, 0, none⟩) 2 (ng26 / 1)), (31, .slice (some ⟨g20, 0, none⟩) 1 1), (34, .slice (some ⟨g27, 0, none⟩) 1 1)]) (by kernel_rfl) ?_
        refine t_vs (H' := ([⟨g27, [.int .i64 0], 1⟩, ⟨g26, [.int .i64 0, .int .i64 5], ng26⟩, ⟨g25, [.int .i64 5], 1⟩, ⟨b24, [.int .i64 5, .int .i64 0], 2⟩, ⟨N23, [.int .i64 1, .int .i64 5, .int .i64 0, .int .i64 0, .int .i64 0, .int .i64 0, .int .i64 0], 7⟩, ⟨g20, [.int .i64 0], 1⟩, ⟨b18, [.int .i64 0, .int .i64 0], 2⟩, ⟨b17, [.int .i64 1, .int .i64 5, .int .i64 0, .int .i64 0, .int .i64 0, .int .i64 0, .int .i64 0], 7⟩, ⟨b16, [.int .i64 0, .int .i64 0], 2⟩] : List Own)) (S' := S) (VS.sel [1, 0, 0, 0, 0, 0, 0, 0, 0] (by kernel_rfl)) ?_
        refine t_end ?_
        exact ⟨hg_1ff g27 g26 ng26 g25, rfl⟩
    have hg_1cf : ∀ (g27 g25 : Nat), G [true, true, true, true, false, false, true, true, true, false, false, false] [(2, .int .i64 1), (3, .int .i64 1), (8, .pointer (some ⟨b18, 0, none⟩)), (9, .slice (some ⟨g19, 0, none⟩) 1 1), (10, .slice (some ⟨g20, 0, none⟩) 1 1), (20, .slice (some ⟨N23, 1, none⟩) 1 3), (21, .int .i64 1), (22, .int .i64 0), (26, .slice (some ⟨g19, 0, none⟩) 1 1), (29, .slice (some ⟨g25, 0, none⟩) 1 1), (34, .slice (some ⟨g27, 0, none⟩) 1 1)] ([⟨g27, [.int .i64 0], 1⟩, ⟨g25, [.int .i64 5], 1⟩, ⟨b24, [.int .i64 5, .int .i64 0], 2⟩, ⟨N23, [.int .i64 1, .int .i64 5, .int .i64 0, .int .i64 0, .int .i64 0, .int .i64 0, .int .i64 0], 7⟩, ⟨g20, [.int .i64 0], 1⟩, ⟨g19, [.int .i64 0], 1⟩, ⟨b18, [.int .i64 0, .int .i64 0], 2⟩, ⟨b17, [.int .i64 1, .int .i64 5, .int .i64 0, .int .i64 0, .int .i64 0, .int .i64 0, .int .i64 0], 7⟩, ⟨b16, [.int .i64 0, .int .i64 0], 2⟩] : List Own) := by
      intro g27 g25
      refine hstep [4, 5] _ _ _ (by kernel_rfl) (List.cons_ne_nil _ _) ⟨?_, ?_, trivial⟩
      · show T _ _ _ _ _ _ _ _
        refine t_app1 (cs := [.int .i64 0]) (M := 1) (F := ([⟨g27, [.int .i64 0], 1⟩, ⟨g25, [.int .i64 5], 1⟩, ⟨b24, [.int .i64 5, .int .i64 0], 2⟩, ⟨N23, [.int .i64 1, .int .i64 5, .int .i64 0, .int .i64 0, .int .i64 0, .int .i64 0, .int .i64 0], 7⟩, ⟨g20, [.int .i64 0], 1⟩, ⟨b18, [.int .i64 0, .int .i64 0], 2⟩, ⟨b17, [.int .i64 1, .int .i64 5, .int .i64 0, .int .i64 0, .int .i64 0, .int .i64 0, .int .i64 0], 7⟩, ⟨b16, [.int .i64 0, .int .i64 0], 2⟩] : List Own)) (news := [.int .i64 5]) rfl rfl rfl rfl (sel_perm (is := [5]) (by kernel_rfl)) (.at 1 rfl rfl) (by kernel_rfl) rfl rfl (by decide) (by decide) rfl fun g26 ng26 => ?_
        refine t_keep [2, 3, 8, 9, 10, 20, 21, 22, 30, 34] (σ' := [(2, .int .i64 1), (3, .int .i64 1), (8, .pointer (some ⟨b18, 0, none⟩)), (9, .slice (some ⟨g19, 0, none⟩) 1 1), (10, .slice (some ⟨g20, 0, none⟩) 1 1), (20, .slice (some ⟨N23, 1, none⟩) 1 3), (21, .int .i64 1), (22, .int .i64 0), (30, .slice (some ⟨g26, 0, none⟩) 2 (ng26 / 1)), (34, .slice (some ⟨g27, 0, none⟩) 1 1)]) (by kernel_rfl) ?_
        refine t_vs (H' := ([⟨g27, [.int .i64 0], 1⟩, ⟨g26, [.int .i64 0, .int .i64 5], ng26⟩, ⟨g25, [.int .i64 5], 1⟩, ⟨b24, [.int .i64 5, .int .i64 0], 2⟩, ⟨N23, [.int .i64 1, .int .i64 5, .int .i64 0, .int .i64 0, .int .i64 0, .int .i64 0, .int .i64 0], 7⟩, ⟨g20, [.int .i64 0], 1⟩, ⟨b18, [.int .i64 0, .int .i64 0], 2⟩, ⟨b17, [.int .i64 1, .int .i64 5, .int .i64 0, .int .i64 0, .int .i64 0, .int .i64 0, .int .i64 0], 7⟩, ⟨b16, [.int .i64 0, .int .i64 0], 2⟩] : List Own)) (S' := S) (VS.sel [1, 0, 0, 0, 0, 0, 0, 0, 0] (by kernel_rfl)) ?_
        refine t_end ?_
        exact ⟨hg_1df g27 g26 ng26 g25, rfl⟩
      · show T _ _ _ _ _ _ _ _
        refine t_qz 1 [2, 3, 8, 9, 10, 20, 21, 22, 26, 29, 31, 34] (σ' := [(2, .int .i64 1), (3, .int .i64 1), (8, .pointer (some ⟨b18, 0, none⟩)), (9, .slice (some ⟨g19, 0, none⟩) 1 1), (10, .slice (some ⟨g20, 0, none⟩) 1 1), (20, .slice (some ⟨N23, 1, none⟩) 1 3), (21, .int .i64 1), (22, .int .i64 0), (26, .slice (some ⟨g19, 0, none⟩) 1 1), (29, .slice (some ⟨g25, 0, none⟩) 1 1), (31, .slice (some ⟨g20, 0, none⟩) 1 1), (34, .slice (some ⟨g27, 0, none⟩) 1 1)]) (by kernel_rfl) ?_
        refine t_end ?_
        exact ⟨hg_1ef g27 g25, rfl⟩
    have hg_1e7 : ∀ (g27 : Nat), G [true, true, true, false, false, true, true, true, true, false, false, false] [(2, .int .i64 1), (3, .int .i64 1), (8, .pointer (some ⟨b18, 0, none⟩)), (9, .slice (some ⟨g19, 0, none⟩) 1 1), (10, .slice (some ⟨g20, 0, none⟩) 1 1), (20, .slice (some ⟨N23, 1, none⟩) 1 3), (21, .int .i64 1), (22, .int .i64 0), (26, .slice (some ⟨g19, 0, none⟩) 1 1), (28, .int .i64 5), (31, .slice (some ⟨g20, 0, none⟩) 1 1), (34, .slice (some ⟨g27, 0, none⟩) 1 1)] ([⟨g27, [.int .i64 0], 1⟩, ⟨b24, [.int .i64 5, .int .i64 0], 2⟩, ⟨N23, [.int .i64 1, .int .i64 5, .int .i64 0, .int .i64 0, .int .i64 0, .int .i64 0, .int .i64 0], 7⟩, ⟨g20, [.int .i64 0], 1⟩, ⟨g19, [.int .i64 0], 1⟩, ⟨b18, [.int .i64 0, .int .i64 0], 2⟩, ⟨b17, [.int .i64 1, .int .i64 5, .int .i64 0, .int .i64 0, .int .i64 0, .int .i64 0, .int .i64 0], 7⟩, ⟨b16, [.int .i64 0, .int .i64 0], 2⟩] : List Own) := by
      intro g27
      refine hstep [3] _ _ _ (by kernel_rfl) (List.cons_ne_nil _ _) ⟨?_, trivial⟩
      · show T _ _ _ _ _ _ _ _
        refine t_a (.bsl rfl rfl rfl rfl) fun g25 fg25 sg25 => ?_
        refine t_keep [2, 3, 8, 9, 10, 20, 21, 22, 26, 29, 31, 34] (σ' := [(2, .int .i64 1), (3, .int .i64 1), (8, .pointer (some ⟨b18, 0, none⟩)), (9, .slice (some ⟨g19, 0, none⟩) 1 1), (10, .slice (some ⟨g20, 0, none⟩) 1 1), (20, .slice (some ⟨N23, 1, none⟩) 1 3), (21, .int .i64 1), (22, .int .i64 0), (26, .slice (some ⟨g19, 0, none⟩) 1 1), (29, .slice (some ⟨g25, 0, none⟩) 1 1), (31, .slice (some ⟨g20, 0, none⟩) 1 1), (34, .slice (some ⟨g27, 0, none⟩) 1 1)]) (by kernel_rfl) ?_
        refine t_vs (H' := ([⟨g27, [.int .i64 0], 1⟩, ⟨g25, [.int .i64 5], 1⟩, ⟨b24, [.int .i64 5, .int .i64 0], 2⟩, ⟨N23, [.int .i64 1, .int .i64 5, .int .i64 0, .int .i64 0, .int .i64 0, .int .i64 0, .int .i64 0], 7⟩, ⟨g20, [.int .i64 0], 1⟩, ⟨g19, [.int .i64 0], 1⟩, ⟨b18, [.int .i64 0, .int .i64 0], 2⟩, ⟨b17, [.int .i64 1, .int .i64 5, .int .i64 0, .int .i64 0, .int .i64 0, .int .i64 0, .int .i64 0], 7⟩, ⟨b16, [.int .i64 0, .int .i64 0], 2⟩] : List Own)) (S' := S) (VS.sel [1, 0, 0, 0, 0, 0, 0, 0, 0] (by kernel_rfl)) ?_
        refine t_end ?_
        exact ⟨hg_1ef g27 g25, rfl⟩
    have hg_df : ∀ (g26 ng26 g25 : Nat), G [true, true, true, true, true, false, true, true, false, false, false, false] [(2, .int .i64 1), (3, .int .i64 1), (8, .pointer (some ⟨b18, 0, none⟩)), (9, .slice (some ⟨g19, 0, none⟩) 1 1), (10, .slice (some ⟨g20, 0, none⟩) 1 1), (20, .slice (some ⟨N23, 1, none⟩) 1 3), (21, .int .i64 1), (22, .int .i64 0), (30, .slice (some ⟨g26, 0, none⟩) 2 (ng26 / 1)), (33, .int .i64 0)] ([⟨g26, [.int .i64 0, .int .i64 5], ng26⟩, ⟨g25, [.int .i64 5], 1⟩, ⟨b24, [.int .i64 5, .int .i64 0], 2⟩, ⟨N23, [.int .i64 1, .int .i64 5, .int .i64 0, .int .i64 0, .int .i64 0, .int .i64 0, .int .i64 0], 7⟩, ⟨g20, [.int .i64 0], 1⟩, ⟨b18, [.int .i64 0, .int .i64 0], 2⟩, ⟨b17, [.int .i64 1, .int .i64 5, .int .i64 0, .int .i64 0, .int .i64 0, .int .i64 0, .int .i64 0], 7⟩, ⟨b16, [.int .i64 0, .int .i64 0], 2⟩] : List Own) := by
      intro g26 ng26 g25
      refine hstep [5, 8] _ _ _ (by kernel_rfl) (List.cons_ne_nil _ _) ⟨?_, ?_, trivial⟩
      · show T _ _ _ _ _ _ _ _
        refine t_qz 1 [2, 3, 8, 9, 10, 20, 21, 22, 30, 31, 33] (σ' := [(2, .int .i64 1), (3, .int .i64 1), (8, .pointer (some ⟨b18, 0, none⟩)), (9, .slice (some ⟨g19, 0, none⟩) 1 1), (10, .slice (some ⟨g20, 0, none⟩) 1 1), (20, .slice (some ⟨N23, 1, none⟩) 1 3), (21, .int .i64 1), (22, .int .i64 0), (30, .slice (some ⟨g26, 0, none⟩) 2 (ng26 / 1)), (31, .slice (some ⟨g20, 0, none⟩) 1 1), (33, .int .i64 0)]) (by kernel_rfl) ?_
        refine t_end ?_
        exact ⟨hg_ff g26 ng26 g25, rfl⟩
      · show T _ _ _ _ _ _ _ _
        refine t_a (.bsl rfl rfl rfl rfl) fun g27 fg27 sg27 => ?_
        refine t_keep [2, 3, 8, 9, 10, 20, 21, 22, 30, 34] (σ' := [(2, .int .i64 1), (3, .int .i64 1), (8, .pointer (some ⟨b18, 0, none⟩)), (9, .slice (some ⟨g19, 0, none⟩) 1 1), (10, .slice (some ⟨g20, 0, none⟩) 1 1), (20, .slice (some ⟨N23, 1, none⟩) 1 3), (21, .int .i64 1), (22, .int .i64 0), (30, .slice (some ⟨g26, 0, none⟩) 2 (ng26 / 1)), (34, .slice (some ⟨g27, 0, none⟩) 1 1)]) (by kernel_rfl) ?_
        refine t_end ?_
        exact ⟨hg_1df g27 g26 ng26 g25, rfl⟩
    have hg_1ee : ∀ (g27 g25 : Nat), G [false, true, true, true, false, true, true, true, true, false, false, false] [(2, .int .i64 1), (3, .int .i64 1), (8, .pointer (some ⟨b18, 0, none⟩)), (9, .slice (some ⟨g19, 0, none⟩) 1 1), (10, .slice (some ⟨g20, 0, none⟩) 1 1), (20, .slice (some ⟨N23, 1, none⟩) 1 3), (21, .int .i64 1), (22, .int .i64 0), (29, .slice (some ⟨g25, 0, none⟩) 1 1), (31, .slice (some ⟨g20, 0, none⟩) 1 1), (34, .slice (some ⟨g27, 0, none⟩) 1 1)] ([⟨g27, [.int .i64 0], 1⟩, ⟨g25, [.int .i64 5], 1⟩, ⟨b24, [.int .i64 5, .int .i64 0], 2⟩, ⟨N23, [.int .i64 1, .int .i64 5, .int .i64 0, .int .i64 0, .int .i64 0, .int .i64 0, .int .i64 0], 7⟩, ⟨g20, [.int .i64 0], 1⟩, ⟨g19, [.int .i64 0], 1⟩, ⟨b18, [.int .i64 0, .int .i64 0], 2⟩, ⟨b17, [.int .i64 1, .int .i64 5, .int .i64 0, .int .i64 0, .int .i64 0, .int .i64 0, .int .i64 0], 7⟩, ⟨b16, [.int .i64 0, .int .i64 0], 2⟩] : List Own) := by
      intro g27 g25
      refine hstep [0] _ _ _ (by kernel_rfl) (List.cons_ne_nil _ _) ⟨?_, trivial⟩
      · show T _ _ _ _ _ _ _ _
        refine t_qz 1 [2, 3, 8, 9, 10, 20, 21, 22, 26, 29, 31, 34] (σ' := [(2, .int .i64 1), (3, .int .i64 1), (8, .pointer (some ⟨b18, 0, none⟩)), (9, .slice (some ⟨g19, 0, none⟩) 1 1), (10, .slice (some ⟨g20, 0, none⟩) 1 1), (20, .slice (some ⟨N23, 1, none⟩) 1 3), (21, .int .i64 1), (22, .int .i64 0), (26, .slice (some ⟨g19, 0, none⟩) 1 1), (29, .slice (some ⟨g25, 0, none⟩) 1 1), (31, .slice (some ⟨g20, 0, none⟩) 1 1), (34, .slice (some ⟨g27, 0, none⟩) 1 1)]) (by kernel_rfl) ?_
        refine t_end ?_
        exact ⟨hg_1ef g27 g25, rfl⟩
    have hg_ef : ∀ (g25 : Nat), G [true, true, true, true, false, true, true, true, false, false, false, false] [(2, .int .i64 1), (3, .int .i64 1), (8, .pointer (some ⟨b18, 0, none⟩)), (9, .slice (some ⟨g19, 0, none⟩) 1 1), (10, .slice (some ⟨g20, 0, none⟩) 1 1), (20, .slice (some ⟨N23, 1, none⟩) 1 3), (21, .int .i64 1), (22, .int .i64 0), (26, .slice (some ⟨g19, 0, none⟩) 1 1), (29, .slice (some ⟨g25, 0, none⟩) 1 1), (31, .slice (some ⟨g20, 0, none⟩) 1 1), (33, .int .i64 0)] ([⟨g25, [.int .i64 5], 1⟩, ⟨b24, [.int .i64 5, .int .i64 0], 2⟩, ⟨N23, [.int .i64 1, .int .i64 5, .int .i64 0, .int .i64 0, .int .i64 0, .int .i64 0, .int .i64 0], 7⟩, ⟨g20, [.int .i64 0], 1⟩, ⟨g19, [.int .i64 0], 1⟩, ⟨b18, [.int .i64 0, .int .i64 0], 2⟩, ⟨b17, [.int .i64 1, .int .i64 5, .int .i64 0, .int .i64 0, .int .i64 0, .int .i64 0, .int .i64 0], 7⟩, ⟨b16, [.int .i64 0, .int .i64 0], 2⟩] : List Own) := by
      intro g25
      refine hstep [4, 8] _ _ _ (by kernel_rfl) (List.cons_ne_nil _ _) ⟨?_, ?_, trivial⟩
      · show T _ _ _ _ _ _ _ _
        refine t_app1 (cs := [.int .i64 0]) (M := 1) (F := ([⟨g25, [.int .i64 5], 1⟩, ⟨b24, [.int .i64 5, .int .i64 0], 2⟩, ⟨N23, [.int .i64 1, .int .i64 5, .int .i64 0, .int .i64 0, .int .i64 0, .int .i64 0, .int .i64 0], 7⟩, ⟨g20, [.int .i64 0], 1⟩, ⟨b18, [.int .i64 0, .int .i64 0], 2⟩, ⟨b17, [.int .i64 1, .int .i64 5, .int .i64 0, .int .i64 0, .int .i64 0, .int .i64 0, .int .i64 0], 7⟩, ⟨b16, [.int .i64 0, .int .i64 0], 2⟩] : List Own)) (news := [.int .i64 5]) rfl rfl rfl rfl (sel_perm (is := [4]) (by kernel_rfl)) (.at 0 rfl rfl) (by kernel_rfl) rfl rfl (by decide) (by decide) rfl fun g26 ng26 => ?_
        refine t_keep [2, 3, 8, 9, 10, 20, 21, 22, 30, 31, 33] (σ' := [(2, .int .i64 1), (3, .int .i64 1), (8, .pointer (some ⟨b18, 0, none⟩)), (9, .slice (some ⟨g19, 0, none⟩) 1 1), (10, .slice (some ⟨g20, 0, none⟩) 1 1), (20, .slice (some ⟨N23, 1, none⟩) 1 3), (21, .int .i64 1), (22, .int .i64 0), (30, .slice (some ⟨g26, 0, none⟩) 2 (ng26 / 1)), (31, .slice (some ⟨g20, 0, none⟩) 1 1), (33, .int .i64 0)]) (by kernel_rfl) ?_
        refine t_end ?_
        exact ⟨hg_ff g26 ng26 g25, rfl⟩
      · show T _ _ _ _ _ _ _ _
        refine t_a (.bsl rfl rfl rfl rfl) fun g27 fg27 sg27 => ?_
        refine t_keep [2, 3, 8, 9, 10, 20, 21, 22, 26, 29, 31, 34] (σ' := [(2, .int .i64 1), (3, .int .i64 1), (8, .pointer (some ⟨b18, 0, none⟩)), (9, .slice (some ⟨g19, 0, none⟩) 1 1), (10, .slice (some ⟨g20, 0, none⟩) 1 1), (20, .slice (some ⟨N23, 1, none⟩) 1 3), (21, .int .i64 1), (22, .int .i64 0), (26, .slice (some ⟨g19, 0, none⟩) 1 1), (29, .slice (some ⟨g25, 0, none⟩) 1 1), (31, .slice (some ⟨g20, 0, none⟩) 1 1), (34, .slice (some ⟨g27, 0, none⟩) 1 1)]) (by kernel_rfl) ?_
        refine t_end ?_
        exact ⟨hg_1ef g27 g25, rfl⟩
    have hg_7f : ∀ (g26 ng26 g25 : Nat), G [true, true, true, true, true, true, true, false, false, false, false, false] [(2, .int .i64 1), (3, .int .i64 1), (8, .pointer (some ⟨b18, 0, none⟩)), (9, .slice (some ⟨g19, 0, none⟩) 1 1), (10, .slice (some ⟨g20, 0, none⟩) 1 1), (20, .slice (some ⟨N23, 1, none⟩) 1 3), (21, .int .i64 1), (22, .int .i64 0), (30, .slice (some ⟨g26, 0, none⟩) 2 (ng26 / 1)), (31, .slice (some ⟨g20, 0, none⟩) 1 1), (32, .pointer (some ⟨b24, 1, none⟩))] ([⟨g26, [.int .i64 0, .int .i64 5], ng26⟩, ⟨g25, [.int .i64 5], 1⟩, ⟨b24, [.int .i64 5, .int .i64 0], 2⟩, ⟨N23, [.int .i64 1, .int .i64 5, .int .i64 0, .int .i64 0, .int .i64 0, .int .i64 0, .int .i64 0], 7⟩, ⟨g20, [.int .i64 0], 1⟩, ⟨b18, [.int .i64 0, .int .i64 0], 2⟩, ⟨b17, [.int .i64 1, .int .i64 5, .int .i64 0, .int .i64 0, .int .i64 0, .int .i64 0, .int .i64 0], 7⟩, ⟨b16, [.int .i64 0, .int .i64 0], 2⟩] : List Own) := by
      intro g26 ng26 g25
      refine hstep [7] _ _ _ (by kernel_rfl) (List.cons_ne_nil _ _) ⟨?_, trivial⟩
      · show T _ _ _ _ _ _ _ _
        refine t_v (.ld1 rfl rfl rfl (.at 2 rfl rfl)) ?_
        refine t_keep [2, 3, 8, 9, 10, 20, 21, 22, 30, 31, 33] (σ' := [(2, .int .i64 1), (3, .int .i64 1), (8, .pointer (some ⟨b18, 0, none⟩)), (9, .slice (some ⟨g19, 0, none⟩) 1 1), (10, .slice (some ⟨g20, 0, none⟩) 1 1), (20, .slice (some ⟨N23, 1, none⟩) 1 3), (21, .int .i64 1), (22, .int .i64 0), (30, .slice (some ⟨g26, 0, none⟩) 2 (ng26 / 1)), (31, .slice (some ⟨g20, 0, none⟩) 1 1), (33, .int .i64 0)]) (by kernel_rfl) ?_
        refine t_end ?_
        exact ⟨hg_ff g26 ng26 g25, rfl⟩
    have hg_3f : ∀ (g26 ng26 g25 : Nat), G [true, true, true, true, true, true, false, false, false, false, false, false] [(2, .int .i64 1), (3, .int .i64 1), (8, .pointer (some ⟨b18, 0, none⟩)), (9, .slice (some ⟨g19, 0, none⟩) 1 1), (10, .slice (some ⟨g20, 0, none⟩) 1 1), (12, .pointer (some ⟨b24, 0, none⟩)), (20, .slice (some ⟨N23, 1, none⟩) 1 3), (21, .int .i64 1), (22, .int .i64 0), (30, .slice (some ⟨g26, 0, none⟩) 2 (ng26 / 1)), (31, .slice (some ⟨g20, 0, none⟩) 1 1)] ([⟨g26, [.int .i64 0, .int .i64 5], ng26⟩, ⟨g25, [.int .i64 5], 1⟩, ⟨b24, [.int .i64 5, .int .i64 0], 2⟩, ⟨N23, [.int .i64 1, .int .i64 5, .int .i64 0, .int .i64 0, .int .i64 0, .int .i64 0, .int .i64 0], 7⟩, ⟨g20, [.int .i64 0], 1⟩, ⟨b18, [.int .i64 0, .int .i64 0], 2⟩, ⟨b17, [.int .i64 1, .int .i64 5, .int .i64 0, .int .i64 0, .int .i64 0, .int .i64 0, .int .i64 0], 7⟩, ⟨b16, [.int .i64 0, .int .i64 0], 2⟩] : List Own) := by
      intro g26 ng26 g25
      refine hstep [6] _ _ _ (by kernel_rfl) (List.cons_ne_nil _ _) ⟨?_, trivial⟩
      · show T _ _ _ _ _ _ _ _
        refine t_qz 1 [2, 3, 8, 9, 10, 20, 21, 22, 30, 31, 32] (σ' := [(2, .int .i64 1), (3, .int .i64 1), (8, .pointer (some ⟨b18, 0, none⟩)), (9, .slice (some ⟨g19, 0, none⟩) 1 1), (10, .slice (some ⟨g20, 0, none⟩) 1 1), (20, .slice (some ⟨N23, 1, none⟩) 1 3), (21, .int .i64 1), (22, .int .i64 0), (30, .slice (some ⟨g26, 0, none⟩) 2 (ng26 / 1)), (31, .slice (some ⟨g20, 0, none⟩) 1 1), (32, .pointer (some ⟨b24, 1, none⟩))]) (by kernel_rfl) ?_
        refine t_end ?_
        exact ⟨hg_7f g26 ng26 g25, rfl⟩
    have hg_1c7 : ∀ (g27 : Nat), G [true, true, true, false, false, false, true, true, true, false, false, false] [(2, .int .i64 1), (3, .int .i64 1), (8, .pointer (some ⟨b18, 0, none⟩)), (9, .slice (some ⟨g19, 0, none⟩) 1 1), (10, .slice (some ⟨g20, 0, none⟩) 1 1), (20, .slice (some ⟨N23, 1, none⟩) 1 3), (21, .int .i64 1), (22, .int .i64 0), (26, .slice (some ⟨g19, 0, none⟩) 1 1), (28, .int .i64 5), (34, .slice (some ⟨g27, 0, none⟩) 1 1)] ([⟨g27, [.int .i64 0], 1⟩, ⟨b24, [.int .i64 5, .int .i64 0], 2⟩, ⟨N23, [.int .i64 1, .int .i64 5, .int .i64 0, .int .i64 0, .int .i64 0, .int .i64 0, .int .i64 0], 7⟩, ⟨g20, [.int .i64 0], 1⟩, ⟨g19, [.int .i64 0], 1⟩, ⟨b18, [.int .i64 0, .int .i64 0], 2⟩, ⟨b17, [.int .i64 1, .int .i64 5, .int .i64 0, .int .i64 0, .int .i64 0, .int .i64 0, .int .i64 0], 7⟩, ⟨b16, [.int .i64 0, .int .i64 0], 2⟩] : List Own) := by
      intro g27
      refine hstep [3, 5] _ _ _ (by kernel_rfl) (List.cons_ne_nil _ _) ⟨?_, ?_, trivial⟩
      · show T _ _ _ _ _ _ _ _
        refine t_a (.bsl rfl rfl rfl rfl) fun g25 fg25 sg25 => ?_
        refine t_keep [2, 3, 8, 9, 10, 20, 21, 22, 26, 29, 34] (σ' := [(2, .int .i64 1), (3, .int .i64 1), (8, .pointer (some ⟨b18, 0, none⟩)), (9, .slice (some ⟨g19, 0, none⟩) 1 1), (10, .slice (some ⟨g20, 0, none⟩) 1 1), (20, .slice (some ⟨N23, 1, none⟩) 1 3), (21, .int .i64 1), (22, .int .i64 0), (26, .slice (some ⟨g19, 0, none⟩) 1 1), (29, .slice (some ⟨g25, 0, none⟩) 1 1), (34, .slice (some ⟨g27, 0, none⟩) 1 1)]) (by kernel_rfl) ?_
        refine t_vs (H' := ([⟨g27, [.int .i64 0], 1⟩, ⟨g25, [.int .i64 5], 1⟩, ⟨b24, [.int .i64 5, .int .i64 0], 2⟩, ⟨N23, [.int .i64 1, .int .i64 5, .int .i64 0, .int .i64 0, .int .i64 0, .int .i64 0, .int .i64 0], 7⟩, ⟨g20, [.int .i64 0], 1⟩, ⟨g19, [.int .i64 0], 1⟩, ⟨b18, [.int .i64 0, .int .i64 0], 2⟩, ⟨b17, [.int .i64 1, .int .i64 5, .int .i64 0, .int .i64 0, .int .i64 0, .int .i64 0, .int .i64 0], 7⟩, ⟨b16, [.int .i64 0, .int .i64 0], 2⟩] : List Own)) (S' := S) (VS.sel [1, 0, 0, 0, 0, 0, 0, 0, 0] (by kernel_rfl)) ?_
        refine t_end ?_
        exact ⟨hg_1cf g27 g25, rfl⟩
      · show T _ _ _ _ _ _ _ _
        refine t_qz 1 [2, 3, 8, 9, 10, 20, 21, 22, 26, 28, 31, 34] (σ' := [(2, .int .i64 1), (3, .int .i64 1), (8, .pointer (some ⟨b18, 0, none⟩)), (9, .slice (some ⟨g19, 0, none⟩) 1 1), (10, .slice (some ⟨g20, 0, none⟩) 1 1), (20, .slice (some ⟨N23, 1, none⟩) 1 3), (21, .int .i64 1), (22, .int .i64 0), (26, .slice (some ⟨g19, 0, none⟩) 1 1), (28, .int .i64 5), (31, .slice (some ⟨g20, 0, none⟩) 1 1), (34, .slice (some ⟨g27, 0, none⟩) 1 1)]) (by kernel_rfl) ?_
        refine t_end ?_
        exact ⟨hg_1e7 g27, rfl⟩
    have hg_1ce : ∀ (g27 g25 : Nat), G [false, true, true, true, false, false, true, true, true, false, false, false] [(2, .int .i64 1), (3, .int .i64 1), (8, .pointer (some ⟨b18, 0, none⟩)), (9, .slice (some ⟨g19, 0, none⟩) 1 1), (10, .slice (some ⟨g20, 0, none⟩) 1 1), (20, .slice (some ⟨N23, 1, none⟩) 1 3), (21, .int .i64 1), (22, .int .i64 0), (29, .slice (some ⟨g25, 0, none⟩) 1 1), (34, .slice (some ⟨g27, 0, none⟩) 1 1)] ([⟨g27, [.int .i64 0], 1⟩, ⟨g25, [.int .i64 5], 1⟩, ⟨b24, [.int .i64 5, .int .i64 0], 2⟩, ⟨N23, [.int .i64 1, .int .i64 5, .int .i64 0, .int .i64 0, .int .i64 0, .int .i64 0, .int .i64 0], 7⟩, ⟨g20, [.int .i64 0], 1⟩, ⟨g19, [.int .i64 0], 1⟩, ⟨b18, [.int .i64 0, .int .i64 0], 2⟩, ⟨b17, [.int .i64 1, .int .i64 5, .int .i64 0, .int .i64 0, .int .i64 0, .int .i64 0, .int .i64 0], 7⟩, ⟨b16, [.int .i64 0, .int .i64 0], 2⟩] : List Own) := by
      intro g27 g25
      refine hstep [0, 5] _ _ _ (by kernel_rfl) (List.cons_ne_nil _ _) ⟨?_, ?_, trivial⟩
      · show T _ _ _ _ _ _ _ _
        refine t_qz 1 [2, 3, 8, 9, 10, 20, 21, 22, 26, 29, 34] (σ' := [(2, .int .i64 1), (3, .int .i64 1), (8, .pointer (some ⟨b18, 0, none⟩)), (9, .slice (some ⟨g19, 0, none⟩) 1 1), (10, .slice (some ⟨g20, 0, none⟩) 1 1), (20, .slice (some ⟨N23, 1, none⟩) 1 3), (21, .int .i64 1), (22, .int .i64 0), (26, .slice (some ⟨g19, 0, none⟩) 1 1), (29, .slice (some ⟨g25, 0, none⟩) 1 1), (34, .slice (some ⟨g27, 0, none⟩) 1 1)]) (by kernel_rfl) ?_
        refine t_end ?_
        exact ⟨hg_1cf g27 g25, rfl⟩
      · show T _ _ _ _ _ _ _ _
        refine t_qz 1 [2, 3, 8, 9, 10, 20, 21, 22, 29, 31, 34] (σ' := [(2, .int .i64 1), (3, .int .i64 1), (8, .pointer (some ⟨b18, 0, none⟩)), (9, .slice (some ⟨g19, 0, none⟩) 1 1), (10, .slice (some ⟨g20, 0, none⟩) 1 1), (20, .slice (some ⟨N23, 1, none⟩) 1 3), (21, .int .i64 1), (22, .int .i64 0), (29, .slice (some ⟨g25, 0, none⟩) 1 1), (31, .slice (some ⟨g20, 0, none⟩) 1 1), (34, .slice (some ⟨g27, 0, none⟩) 1 1)]) (by kernel_rfl) ?_
        refine t_end ?_
        exact ⟨hg_1ee g27 g25, rfl⟩
    have hg_cf : ∀ (g25 : Nat), G [true, true, true, true, false, false, true, true, false, false, false, false] [(2, .int .i64 1), (3, .int .i64 1), (8, .pointer (some ⟨b18, 0, none⟩)), (9, .slice (some ⟨g19, 0, none⟩) 1 1), (10, .slice (some ⟨g20, 0, none⟩) 1 1), (20, .slice (some ⟨N23, 1, none⟩) 1 3), (21, .int .i64 1), (22, .int .i64 0), (26, .slice (some ⟨g19, 0, none⟩) 1 1), (29, .slice (some ⟨g25, 0, none⟩) 1 1), (33, .int .i64 0)] ([⟨g25, [.int .i64 5], 1⟩, ⟨b24, [.int .i64 5, .int .i64 0], 2⟩, ⟨N23, [.int .i64 1, .int .i64 5, .int .i64 0, .int .i64 0, .int .i64 0, .int .i64 0, .int .i64 0], 7⟩, ⟨g20, [.int .i64 0], 1⟩, ⟨g19, [.int .i64 0], 1⟩, ⟨b18, [.int .i64 0, .int .i64 0], 2⟩, ⟨b17, [.int .i64 1, .int .i64 5, .int .i64 0, .int .i64 0, .int .i64 0, .int .i64 0, .int .i64 0], 7⟩, ⟨b16, [.int .i64 0, .int .i64 0], 2⟩] : List Own) := by
      intro g25
      refine hstep [4, 5, 8] _ _ _ (by kernel_rfl) (List.cons_ne_nil _ _) ⟨?_, ?_, ?_, trivial⟩
      · show T _ _ _ _ _ _ _ _
        refine t_app1 (cs := [.int .i64 0]) (M := 1) (F := ([⟨g25, [.int .i64 5], 1⟩, ⟨b24, [.int .i64 5, .int .i64 0], 2⟩, ⟨N23, [.int .i64 1, .int .i64 5, .int .i64 0, .int .i64 0, .int .i64 0, .int .i64 0, .int .i64 0], 7⟩, ⟨g20, [.int .i64 0], 1⟩, ⟨b18, [.int .i64 0, .int .i64 0], 2⟩, ⟨b17, [.int .i64 1, .int .i64 5, .int .i64 0, .int .i64 0, .int .i64 0, .int .i64 0, .int .i64 0], 7⟩, ⟨b16, [.int .i64 0, .int .i64 0], 2⟩] : List Own)) (news := [.int .i64 5]) rfl rfl rfl rfl (sel_perm (is := [4]) (by kernel_rfl)) (.at 0 rfl rfl) (by kernel_rfl) rfl rfl (by decide) (by decide) rfl fun g26 ng26 => ?_
        refine t_keep [2, 3, 8, 9, 10, 20, 21, 22, 30, 33] (σ' := [(2, .int .i64 1), (3, .int .i64 1), (8, .pointer (some ⟨b18, 0, none⟩)), (9, .slice (some ⟨g19, 0, none⟩) 1 1), (10, .slice (some ⟨g20, 0, none⟩) 1 1), (20, .slice (some ⟨N23, 1, none⟩) 1 3), (21, .int .i64 1), (22, .int .i64 0), (30, .slice (some ⟨g26, 0, none⟩) 2 (ng26 / 1)), (33, .int .i64 0)]) (by kernel_rfl) ?_
        refine t_end ?_
        exact ⟨hg_df g26 ng26 g25, rfl⟩
      · show T _ _ _ _ _ _ _ _
        refine t_qz 1 [2, 3, 8, 9, 10, 20, 21, 22, 26, 29, 31, 33] (σ' := [(2, .int .i64 1), (3, .int .i64 1), (8, .pointer (some ⟨b18, 0, none⟩)), (9, .slice (some ⟨g19, 0, none⟩) 1 1), (10, .slice (some ⟨g20, 0, none⟩) 1 1), (20, .slice (some ⟨N23, 1, none⟩) 1 3), (21, .int .i64 1), (22, .int .i64 0), (26, .slice (some ⟨g19, 0, none⟩) 1 1), (29, .slice (some ⟨g25, 0, none⟩) 1 1), (31, .slice (some ⟨g20, 0, none⟩) 1 1), (33, .int .i64 0)]) (by kernel_rfl) ?_
        refine t_end ?_
        exact ⟨hg_ef g25, rfl⟩
      · show T _ _ _ _ _ _ _ _
        refine t_a (.bsl rfl rfl rfl rfl) fun g27 fg27 sg27 => ?_
        refine t_keep [2, 3, 8, 9, 10, 20, 21, 22, 26, 29, 34] (σ' := [(2, .int .i64 1), (3, .int .i64 1), (8, .pointer (some ⟨b18, 0, none⟩)), (9, .slice (some ⟨g19, 0, none⟩) 1 1), (10, .slice (some ⟨g20, 0, none⟩) 1 1), (20, .slice (some ⟨N23, 1, none⟩) 1 3), (21, .int .i64 1), (22, .int .i64 0), (26, .slice (some ⟨g19, 0, none⟩) 1 1), (29, .slice (some ⟨g25, 0, none⟩) 1 1), (34, .slice (some ⟨g27, 0, none⟩) 1 1)]) (by kernel_rfl) ?_
        refine t_end ?_
        exact ⟨hg_1cf g27 g25, rfl⟩
    have hg_5f : ∀ (g26 ng26 g25 : Nat), G [true, true, true, true, true, false, true, false, false, false, false, false] [(2, .int .i64 1), (3, .int .i64 1), (8, .pointer (some ⟨b18, 0, none⟩)), (9, .slice (some ⟨g19, 0, none⟩) 1 1), (10, .slice (some ⟨g20, 0, none⟩) 1 1), (20, .slice (some ⟨N23, 1, none⟩) 1 3), (21, .int .i64 1), (22, .int .i64 0), (30, .slice (some ⟨g26, 0, none⟩) 2 (ng26 / 1)), (32, .pointer (some ⟨b24, 1, none⟩))] ([⟨g26, [.int .i64 0, .int .i64 5], ng26⟩, ⟨g25, [.int .i64 5], 1⟩, ⟨b24, [.int .i64 5, .int .i64 0], 2⟩, ⟨N23, [.int .i64 1, .int .i64 5, .int .i64 0, .int .i64 0, .int .i64 0, .int .i64 0, .int .i64 0], 7⟩, ⟨g20, [.int .i64 0], 1⟩, ⟨b18, [.int .i64 0, .int .i64 0], 2⟩, ⟨b17, [.int .i64 1, .int .i64 5, .int .i64 0, .int .i64 0, .int .i64 0, .int .i64 0, .int .i64 0], 7⟩, ⟨b16, [.int .i64 0, .int .i64 0], 2⟩] : List Own) := by
      intro g26 ng26 g25
      refine hstep [5, 7] _ _ _ (by kernel_rfl) (List.cons_ne_nil _ _) ⟨?_, ?_, trivial⟩
      · show T _ _ _ _ _ _ _ _
        refine t_qz 1 [2, 3, 8, 9, 10, 20, 21, 22, 30, 31, 32] (σ' := [(2, .int .i64 1), (3, .int .i64 1), (8, .pointer (some ⟨b18, 0, none⟩)), (9, .slice (some ⟨g19, 0, none⟩) 1 1), (10, .slice (some ⟨g20, 0, none⟩) 1 1), (20, .slice (some ⟨N23, 1, none⟩) 1 3), (21, .int .i64 1), (22, .int .i64 0), (30, .slice (some ⟨g26, 0, none⟩) 2 (ng26 / 1)), (31, .slice (some ⟨g20, 0, none⟩) 1 1), (32, .pointer (some ⟨b24, 1, none⟩))]) (by kernel_rfl) ?_
        refine t_end ?_
        exact ⟨hg_7f g26 ng26 g25, rfl⟩
      · show T _ _ _ _ _ _ _ _
        refine t_v (.ld1 rfl rfl rfl (.at 2 rfl rfl)) ?_
        refine t_keep [2, 3, 8, 9, 10, 20, 21, 22, 30, 33] (σ' := [(2, .int .i64 1), (3, .int .i64 1), (8, .pointer (some ⟨b18, 0, none⟩)), (9, .slice (some ⟨g19, 0, none⟩) 1 1), (10, .slice (some ⟨g20, 0, none⟩) 1 1), (20, .slice (some ⟨N23, 1, none⟩) 1 3), (21, .int .i64 1), (22, .int .i64 0), (30, .slice (some ⟨g26, 0, none⟩) 2 (ng26 / 1)), (33, .int .i64 0)]) (by kernel_rfl) ?_
        refine t_end ?_
        exact ⟨hg_df g26 ng26 g25, rfl⟩
    have hg_1e3 : ∀ (g27 : Nat), G [true, true, false, false, false, true, true, true, true, false, false, false] [(2, .int .i64 1), (3, .int .i64 1), (8, .pointer (some ⟨b18, 0, none⟩)), (9, .slice (some ⟨g19, 0, none⟩) 1 1), (10, .slice (some ⟨g20, 0, none⟩) 1 1), (20, .slice (some ⟨N23, 1, none⟩) 1 3), (21, .int .i64 1), (22, .int .i64 0), (26, .slice (some ⟨g19, 0, none⟩) 1 1), (27, .pointer (some ⟨b24, 0, none⟩)), (31, .slice (some ⟨g20, 0, none⟩) 1 1), (34, .slice (some ⟨g27, 0, none⟩) 1 1)] ([⟨g27, [.int .i64 0], 1⟩, ⟨b24, [.int .i64 5, .int .i64 0], 2⟩, ⟨N23, [.int .i64 1, .int .i64 5, .int .i64 0, .int .i64 0, .int .i64 0, .int .i64 0, .int .i64 0], 7⟩, ⟨g20, [.int .i64 0], 1⟩, ⟨g19, [.int .i64 0], 1⟩, ⟨b18, [.int .i64 0, .int .i64 0], 2⟩, ⟨b17, [.int .i64 1, .int .i64 5, .int .i64 0, .int .i64 0, .int .i64 0, .int .i64 0, .int .i64 0], 7⟩, ⟨b16, [.int .i64 0, .int .i64 0], 2⟩] : List Own) := by
      intro g27
      refine hstep [2] _ _ _ (by kernel_rfl) (List.cons_ne_nil _ _) ⟨?_, trivial⟩
      · show T _ _ _ _ _ _ _ _
        refine t_v (.ld1 rfl rfl rfl (.at 1 rfl rfl)) ?_
        refine t_keep [2, 3, 8, 9, 10, 20, 21, 22, 26, 28, 31, 34] (σ' := [(2, .int .i64 1), (3, .int .i64 1), (8, .pointer (some ⟨b18, 0, none⟩)), (9, .slice (some ⟨g19, 0, none⟩) 1 1), (10, .slice (some ⟨g20, 0, none⟩) 1 1), (20, .slice (some ⟨N23, 1, none⟩) 1 3), (21, .int .i64 1), (22, .int .i64 0), (26, .slice (some ⟨g19, 0, none⟩) 1 1), (28, .int .i64 5), (31, .slice (some ⟨g20, 0, none⟩) 1 1), (34, .slice (some ⟨g27, 0, none⟩) 1 1)]) (by kernel_rfl) ?_
        refine t_end ?_
        exact ⟨hg_1e7 g27, rfl⟩
    have hg_1e6 : ∀ (g27 : Nat), G [false, true, true, false, false, true, true, true, true, false, false, false] [(2, .int .i64 1), (3, .int .i64 1), (8, .pointer (some ⟨b18, 0, none⟩)), (9, .slice (some ⟨g19, 0, none⟩) 1 1), (10, .slice (some ⟨g20, 0, none⟩) 1 1), (20, .slice (some ⟨N23, 1, none⟩) 1 3), (21, .int .i64 1), (22, .int .i64 0), (28, .int .i64 5), (31, .slice (some ⟨g20, 0, none⟩) 1 1), (34, .slice (some ⟨g27, 0, none⟩) 1 1)] ([⟨g27, [.int .i64 0], 1⟩, ⟨b24, [.int .i64 5, .int .i64 0], 2⟩, ⟨N23, [.int .i64 1, .int .i64 5, .int .i64 0, .int .i64 0, .int .i64 0, .int .i64 0, .int .i64 0], 7⟩, ⟨g20, [.int .i64 0], 1⟩, ⟨g19, [.int .i64 0], 1⟩, ⟨b18, [.int .i64 0, .int .i64 0], 2⟩, ⟨b17, [.int .i64 1, .int .i64 5, .int .i64 0, .int .i64 0, .int .i64 0, .int .i64 0, .int .i64 0], 7⟩, ⟨b16, [.int .i64 0, .int .i64 0], 2⟩] : List Own) := by
      intro g27
      refine hstep [0, 3] _ _ _ (by kernel_rfl) (List.cons_ne_nil _ _) ⟨?_, ?_, trivial⟩
      · show T _ _ _ _ _ _ _ _
        refine t_qz 1 [2, 3, 8, 9, 10, 20, 21, 22, 26, 28, 31, 34] (σ' := [(2, .int .i64 1), (3, .int .i64 1), (8, .pointer (some ⟨b18, 0, none⟩)), (9, .slice (some ⟨g19, 0, none⟩) 1 1), (10, .slice (some ⟨g20, 0, none⟩) 1 1), (20, .slice (some ⟨N23, 1, none⟩) 1 3), (21, .int .i64 1), (22, .int .i64 0), (26, .slice (some ⟨g19, 0, none⟩) 1 1), (28, .int .i64 5), (31, .slice (some ⟨g20, 0, none⟩) 1 1), (34, .slice (some ⟨g27, 0, none⟩) 1 1)]) (by kernel_rfl) ?_
        refine t_end ?_
        exact ⟨hg_1e7 g27, rfl⟩
      · show T _ _ _ _ _ _ _ _
        refine t_a (.bsl rfl rfl rfl rfl) fun g25 fg25 sg25 => ?_
        refine t_keep [2, 3, 8, 9, 10, 20, 21, 22, 29, 31, 34] (σ' := [(2, .int .i64 1), (3, .int .i64 1), (8, .pointer (some ⟨b18, 0, none⟩)), (9, .slice (some ⟨g19, 0, none⟩) 1 1), (10, .slice (some ⟨g20, 0, none⟩) 1 1), (20, .slice (some ⟨N23, 1, none⟩) 1 3), (21, .int .i64 1), (22, .int .i64 0), (29, .slice (some ⟨g25, 0, none⟩) 1 1), (31, .slice (some ⟨g20, 0, none⟩) 1 1), (34, .slice (some ⟨g27, 0, none⟩) 1 1)]) (by kernel_rfl) ?_
        refine t_vs (H' := ([⟨g27, [.int .i64 0], 1⟩, ⟨g25, [.int .i64 5], 1⟩, ⟨b24, [.int .i64 5, .int .i64 0], 2⟩, ⟨N23, [.int .i64 1, .int .i64 5, .int .i64 0, .int .i64 0, .int .i64 0, .int .i64 0, .int .i64 0], 7⟩, ⟨g20, [.int .i64 0], 1⟩, ⟨g19, [.int .i64 0], 1⟩, ⟨b18, [.int .i64 0, .int .i64 0], 2⟩, ⟨b17, [.int .i64 1, .int .i64 5, .int .i64 0, .int .i64 0, .int .i64 0, .int .i64 0, .int .i64 0], 7⟩, ⟨b16, [.int .i64 0, .int .i64 0], 2⟩] : List Own)) (S' := S) (VS.sel [1, 0, 0, 0, 0, 0, 0, 0, 0] (by kernel_rfl)) ?_
        refine t_end ?_
        exact ⟨hg_1ee g27 g25, rfl⟩
    have hg_e7 : G [true, true, true, false, false, true, true, true, false, false, false, false] [(2, .int .i64 1), (3, .int .i64 1), (8, .pointer (some ⟨b18, 0, none⟩)), (9, .slice (some ⟨g19, 0, none⟩) 1 1), (10, .slice (some ⟨g20, 0, none⟩) 1 1), (20, .slice (some ⟨N23, 1, none⟩) 1 3), (21, .int .i64 1), (22, .int .i64 0), (26, .slice (some ⟨g19, 0, none⟩) 1 1), (28, .int .i64 5), (31, .slice (some ⟨g20, 0, none⟩) 1 1), (33, .int .i64 0)] ([⟨b24, [.int .i64 5, .int .i64 0], 2⟩, ⟨N23, [.int .i64 1, .int .i64 5, .int .i64 0, .int .i64 0, .int .i64 0, .int .i64 0, .int .i64 0], 7⟩, ⟨g20, [.int .i64 0], 1⟩, ⟨g19, [.int .i64 0], 1⟩, ⟨b18, [.int .i64 0, .int .i64 0], 2⟩, ⟨b17, [.int .i64 1, .int .i64 5, .int .i64 0, .int .i64 0, .int .i64 0, .int .i64 0, .int .i64 0], 7⟩, ⟨b16, [.int .i64 0, .int .i64 0], 2⟩] : List Own) := by
      refine hstep [3, 8] _ _ _ (by kernel_rfl) (List.cons_ne_nil _ _) ⟨?_, ?_, trivial⟩
      · show T _ _ _ _ _ _ _ _
        refine t_a (.bsl rfl rfl rfl rfl) fun g25 fg25 sg25 => ?_
        refine t_keep [2, 3, 8, 9, 10, 20, 21, 22, 26, 29, 31, 33] (σ' := [(2, .int .i64 1), (3, .int .i64 1), (8, .pointer (some ⟨b18, 0, none⟩)), (9, .slice (some ⟨g19, 0, none⟩) 1 1), (10, .slice (some ⟨g20, 0, none⟩) 1 1), (20, .slice (some ⟨N23, 1, none⟩) 1 3), (21, .int .i64 1), (22, .int .i64 0), (26, .slice (some ⟨g19, 0, none⟩) 1 1), (29, .slice (some ⟨g25, 0, none⟩) 1 1), (31, .slice (some ⟨g20, 0, none⟩) 1 1), (33, .int .i64 0)]) (by kernel_rfl) ?_
        refine t_end ?_
        exact ⟨hg_ef g25, rfl⟩
      · show T _ _ _ _ _ _ _ _
        refine t_a (.bsl rfl rfl rfl rfl) fun g27 fg27 sg27 => ?_
        refine t_keep [2, 3, 8, 9, 10, 20, 21, 22, 26, 28, 31, 34] (σ' := [(2, .int .i64 1), (3, .int .i64 1), (8, .pointer (some ⟨b18, 0, none⟩)), (9, .slice (some ⟨g19, 0, none⟩) 1 1), (10, .slice (some ⟨g20, 0, none⟩) 1 1), (20, .slice (some ⟨N23, 1, none⟩) 1 3), (21, .int .i64 1), (22, .int .i64 0), (26, .slice (some ⟨g19, 0, none⟩) 1 1), (28, .int .i64 5), (31, .slice (some ⟨g20, 0, none⟩) 1 1), (34, .slice (some ⟨g27, 0, none⟩) 1 1)]) (by kernel_rfl) ?_
        refine t_end ?_
        exact ⟨hg_1e7 g27, rfl⟩
    have hg_ee : ∀ (g25 : Nat), G [false, true, true, true, false, true, true, true, false, false, false, false] [(2, .int .i64 1), (3, .int .i64 1), (8, .pointer (some ⟨b18, 0, none⟩)), (9, .slice (some ⟨g19, 0, none⟩) 1 1), (10, .slice (some ⟨g20, 0, none⟩) 1 1), (20, .slice (some ⟨N23, 1, none⟩) 1 3), (21, .int .i64 1), (22, .int .i64 0), (29, .slice (some ⟨g25, 0, none⟩) 1 1), (31, .slice (some ⟨g20, 0, none⟩) 1 1), (33, .int .i64 0)] ([⟨g25, [.int .i64 5], 1⟩, ⟨b24, [.int .i64 5, .int .i64 0], 2⟩, ⟨N23, [.int .i64 1, .int .i64 5, .int .i64 0, .int .i64 0, .int .i64 0, .int .i64 0, .int .i64 0], 7⟩, ⟨g20, [.int .i64 0], 1⟩, ⟨g19, [.int .i64 0], 1⟩, ⟨b18, [.int .i64 0, .int .i64 0], 2⟩, ⟨b17, [.int .i64 1, .int .i64 5, .int .i64 0, .int .i64 0, .int .i64 0, .int .i64 0, .int .i64 0], 7⟩, ⟨b16, [.int .i64 0, .int .i64 0], 2⟩] : List Own) := by
      intro g25
      refine hstep [0, 8] _ _ _ (by kernel_rfl) (List.cons_ne_nil _ _) ⟨?_, ?_, trivial⟩
      · show T _ _ _ _ _ _ _ _
        refine t_qz 1 [2, 3, 8, 9, 10, 20, 21, 22, 26, 29, 31, 33] (σ' := [(2, .int .i64 1), (3, .int .i64 1), (8, .pointer (some ⟨b18, 0, none⟩)), (9, .slice (some ⟨g19, 0, none⟩) 1 1), (10, .slice (some ⟨g20, 0, none⟩) 1 1), (20, .slice (some ⟨N23, 1, none⟩) 1 3), (21, .int .i64 1), (22, .int .i64 0), (26, .slice (some ⟨g19, 0, none⟩) 1 1), (29, .slice (some ⟨g25, 0, none⟩) 1 1), (31, .slice (some ⟨g20, 0, none⟩) 1 1), (33, .int .i64 0)]) (by kernel_rfl) ?_
        refine t_end ?_
        exact ⟨hg_ef g25, rfl⟩
      · show T _ _ _ _ _ _ _ _
        refine t_a (.bsl rfl rfl rfl rfl) fun g27 fg27 sg27 => ?_
        refine t_keep [2, 3, 8, 9, 10, 20, 21, 22, 29, 31, 34] (σ' := [(2, .int .i64 1), (3, .int .i64 1), (8, .pointer (some ⟨b18, 0, none⟩)), (9, .slice (some ⟨g19, 0, none⟩) 1 1), (10, .slice (some ⟨g20, 0, none⟩) 1 1), (20, .slice (some ⟨N23, 1, none⟩) 1 3), (21, .int .i64 1), (22, .int .i64 0), (29, .slice (some ⟨g25, 0, none⟩) 1 1), (31, .slice (some ⟨g20, 0, none⟩) 1 1), (34, .slice (some ⟨g27, 0, none⟩) 1 1)]) (by kernel_rfl) ?_
        refine t_end ?_
        exact ⟨hg_1ee g27 g25, rfl⟩
    have hg_6f : ∀ (g25 : Nat), G [true, true, true, true, false, true, true, false, false, false, false, false] [(2, .int .i64 1), (3, .int .i64 1), (8, .pointer (some ⟨b18, 0, none⟩)), (9, .slice (some ⟨g19, 0, none⟩) 1 1), (10, .slice (some ⟨g20, 0, none⟩) 1 1), (20, .slice (some ⟨N23, 1, none⟩) 1 3), (21, .int .i64 1), (22, .int .i64 0), (26, .slice (some ⟨g19, 0, none⟩) 1 1), (29, .slice (some ⟨g25, 0, none⟩) 1 1), (31, .slice (some ⟨g20, 0, none⟩) 1 1), (32, .pointer (some ⟨b24, 1, none⟩))] ([⟨g25, [.int .i64 5], 1⟩, ⟨b24, [.int .i64 5, .int .i64 0], 2⟩, ⟨N23, [.int .i64 1, .int .i64 5, .int .i64 0, .int .i64 0, .int .i64 0, .int .i64 0, .int .i64 0], 7⟩, ⟨g20, [.int .i64 0], 1⟩, ⟨g19, [.int .i64 0], 1⟩, ⟨b18, [.int .i64 0, .int .i64 0], 2⟩, ⟨b17, [.int .i64 1, .int .i64 5, .int .i64 0, .int .i64 0, .int .i64 0, .int .i64 0, .int .i64 0], 7⟩, ⟨b16, [.int .i64 0, .int .i64 0], 2⟩] : List Own) := by
      intro g25
      refine hstep [4, 7] _ _ _ (by kernel_rfl) (List.cons_ne_nil _ _) ⟨?_, ?_, trivial⟩
      · show T _ _ _ _ _ _ _ _
        refine t_app1 (cs := [.int .i64 0]) (M := 1) (F := ([⟨g25, [.int .i64 5], 1⟩, ⟨b24, [.int .i64 5, .int .i64 0], 2⟩, ⟨N23, [.int .i64 1, .int .i64 5, .int .i64 0, .int .i64 0, .int .i64 0, .int .i64 0, .int .i64 0], 7⟩, ⟨g20, [.int .i64 0], 1⟩, ⟨b18, [.int .i64 0, .int .i64 0], 2⟩, ⟨b17, [.int .i64 1, .int .i64 5, .int .i64 0, .int .i64 0, .int .i64 0, .int .i64 0, .int .i64 0], 7⟩, ⟨b16, [.int .i64 0, .int .i64 0], 2⟩] : List Own)) (news := [.int .i64 5]) rfl rfl rfl rfl (sel_perm (is := [4]) (by kernel_rfl)) (.at 0 rfl rfl) (by kernel_rfl) rfl rfl (by decide) (by decide) rfl fun g26 ng26 => ?_
        refine t_keep [2, 3, 8, 9, 10, 20, 21, 22, 30, 31, 32] (σ' := [(2, .int .i64 1), (3, .int .i64 1), (8, .pointer (some ⟨b18, 0, none⟩)), (9, .slice (some ⟨g19, 0, none⟩) 1 1), (10, .slice (some ⟨g20, 0, none⟩) 1 1), (20, .slice (some ⟨N23, 1, none⟩) 1 3), (21, .int .i64 1), (22, .int .i64 0), (30, .slice (some ⟨g26, 0, none⟩) 2 (ng26 / 1)), (31, .slice (some ⟨g20, 0, none⟩) 1 1), (32, .pointer (some ⟨b24, 1, none⟩))]) (by kernel_rfl) ?_
        refine t_end ?_
        exact ⟨hg_7f g26 ng26 g25, rfl⟩
      · show T _ _ _ _ _ _ _ _
        refine t_v (.ld1 rfl rfl rfl (.at 1 rfl rfl)) ?_
        refine t_keep [2, 3, 8, 9, 10, 20, 21, 22, 26, 29, 31, 33] (σ' := [(2, .int .i64 1), (3, .int .i64 1), (8, .pointer (some ⟨b18, 0, none⟩)), (9, .slice (some ⟨g19, 0, none⟩) 1 1), (10, .slice (some ⟨g20, 0, none⟩) 1 1), (20, .slice (some ⟨N23, 1, none⟩) 1 3), (21, .int .i64 1), (22, .int .i64 0), (26, .slice (some ⟨g19, 0, none⟩) 1 1), (29, .slice (some ⟨g25, 0, none⟩) 1 1), (31, .slice (some ⟨g20, 0, none⟩) 1 1), (33, .int .i64 0)]) (by kernel_rfl) ?_
        refine t_end ?_
        exact ⟨hg_ef g25, rfl⟩
    have hg_67 : G [true, true, true, false, false, true, true, false, false, false, false, false] [(2, .int .i64 1), (3, .int .i64 1), (8, .pointer (some ⟨b18, 0, none⟩)), (9, .slice (some ⟨g19, 0, none⟩) 1 1), (10, .slice (some ⟨g20, 0, none⟩) 1 1), (20, .slice (some ⟨N23, 1, none⟩) 1 3), (21, .int .i64 1), (22, .int .i64 0), (26, .slice (some ⟨g19, 0, none⟩) 1 1), (28, .int .i64 5), (31, .slice (some ⟨g20, 0, none⟩) 1 1), (32, .pointer (some ⟨b24, 1, none⟩))] ([⟨b24, [.int .i64 5, .int .i64 0], 2⟩, ⟨N23, [.int .i64 1, .int .i64 5, .int .i64 0, .int .i64 0, .int .i64 0, .int .i64 0, .int .i64 0], 7⟩, ⟨g20, [.int .i64 0], 1⟩, ⟨g19, [.int .i64 0], 1⟩, ⟨b18, [.int .i64 0, .int .i64 0], 2⟩, ⟨b17, [.int .i64 1, .int .i64 5, .int .i64 0, .int .i64 0, .int .i64 0, .int .i64 0, .int .i64 0], 7⟩, ⟨b16, [.int .i64 0, .int .i64 0], 2⟩] : List Own) := by
      refine hstep [3, 7] _ _ _ (by kernel_rfl) (List.cons_ne_nil _ _) ⟨?_, ?_, trivial⟩
      · show T _ _ _ _ _ _ _ _
        refine t_a (.bsl rfl rfl rfl rfl) fun g25 fg25 sg25 => ?_
        refine t_keep [2, 3, 8, 9, 10, 20, 21, 22, 26, 29, 31, 32] (σ' := [(2, .int .i64 1), (3, .int .i64 1), (8, .pointer (some ⟨b18, 0, none⟩)), (9, .slice (some ⟨g19, 0, none⟩) 1 1), (10, .slice (some ⟨g20, 0, none⟩) 1 1), (20, .slice (some ⟨N23, 1, none⟩) 1 3), (21, .int .i64 1), (22, .int .i64 0), (26, .slice (some ⟨g19, 0, none⟩) 1 1), (29, .slice (some ⟨g25, 0, none⟩) 1 1), (31, .slice (some ⟨g20, 0, none⟩) 1 1), (32, .pointer (some ⟨b24, 1, none⟩))]) (by kernel_rfl) ?_
        refine t_end ?_
        exact ⟨hg_6f g25, rfl⟩
      · show T _ _ _ _ _ _ _ _
        refine t_v (.ld1 rfl rfl rfl (.at 0 rfl rfl)) ?_
        refine t_keep [2, 3, 8, 9, 10, 20, 21, 22, 26, 28, 31, 33] (σ' := [(2, .int .i64 1), (3, .int .i64 1), (8, .pointer (some ⟨b18, 0, none⟩)), (9, .slice (some ⟨g19, 0, none⟩) 1 1), (10, .slice (some ⟨g20, 0, none⟩) 1 1), (20, .slice (some ⟨N23, 1, none⟩) 1 3), (21, .int .i64 1), (22, .int .i64 0), (26, .slice (some ⟨g19, 0, none⟩) 1 1), (28, .int .i64 5), (31, .slice (some ⟨g20, 0, none⟩) 1 1), (33, .int .i64 0)]) (by kernel_rfl) ?_
        refine t_end ?_
        exact ⟨hg_e7, rfl⟩
    have hg_1f : ∀ (g26 ng26 g25 : Nat), G [true, true, true, true, true, false, false, false, false, false, false, false] [(2, .int .i64 1), (3, .int .i64 1), (8, .pointer (some ⟨b18, 0, none⟩)), (9, .slice (some ⟨g19, 0, none⟩) 1 1), (10, .slice (some ⟨g20, 0, none⟩) 1 1), (12, .pointer (some ⟨b24, 0, none⟩)), (20, .slice (some ⟨N23, 1, none⟩) 1 3), (21, .int .i64 1), (22, .int .i64 0), (30, .slice (some ⟨g26, 0, none⟩) 2 (ng26 / 1))] ([⟨g26, [.int .i64 0, .int .i64 5], ng26⟩, ⟨g25, [.int .i64 5], 1⟩, ⟨b24, [.int .i64 5, .int .i64 0], 2⟩, ⟨N23, [.int .i64 1, .int .i64 5, .int .i64 0, .int .i64 0, .int .i64 0, .int .i64 0, .int .i64 0], 7⟩, ⟨g20, [.int .i64 0], 1⟩, ⟨b18, [.int .i64 0, .int .i64 0], 2⟩, ⟨b17, [.int .i64 1, .int .i64 5, .int .i64 0, .int .i64 0, .int .i64 0, .int .i64 0, .int .i64 0], 7⟩, ⟨b16, [.int .i64 0, .int .i64 0], 2⟩] : List Own) := by
      intro g26 ng26 g25
      refine hstep [5, 6] _ _ _ (by kernel_rfl) (List.cons_ne_nil _ _) ⟨?_, ?_, trivial⟩
      · show T _ _ _ _ _ _ _ _
        refine t_qz 1 [2, 3, 8, 9, 10, 12, 20, 21, 22, 30, 31] (σ' := [(2, .int .i64 1), (3, .int .i64 1), (8, .pointer (some ⟨b18, 0, none⟩)), (9, .slice (some ⟨g19, 0, none⟩) 1 1), (10, .slice (some ⟨g20, 0, none⟩) 1 1), (12, .pointer (some ⟨b24, 0, none⟩)), (20, .slice (some ⟨N23, 1, none⟩) 1 3), (21, .int .i64 1), (22, .int .i64 0), (30, .slice (some ⟨g26, 0, none⟩) 2 (ng26 / 1)), (31, .slice (some ⟨g20, 0, none⟩) 1 1)]) (by kernel_rfl) ?_
        refine t_end ?_
        exact ⟨hg_3f g26 ng26 g25, rfl⟩
      · show T _ _ _ _ _ _ _ _
        refine t_qz 1 [2, 3, 8, 9, 10, 20, 21, 22, 30, 32] (σ' := [(2, .int .i64 1), (3, .int .i64 1), (8, .pointer (some ⟨b18, 0, none⟩)), (9, .slice (some ⟨g19, 0, none⟩) 1 1), (10, .slice (some ⟨g20, 0, none⟩) 1 1), (20, .slice (some ⟨N23, 1, none⟩) 1 3), (21, .int .i64 1), (22, .int .i64 0), (30, .slice (some ⟨g26, 0, none⟩) 2 (ng26 / 1)), (32, .pointer (some ⟨b24, 1, none⟩))]) (by kernel_rfl) ?_
        refine t_end ?_
        exact ⟨hg_5f g26 ng26 g25, rfl⟩
    have hg_2f : ∀ (g25 : Nat), G [true, true, true, true, false, true, false, false, false, false, false, false] [(2, .int .i64 1), (3, .int .i64 1), (8, .pointer (some ⟨b18, 0, none⟩)), (9, .slice (some ⟨g19, 0, none⟩) 1 1), (10, .slice (some ⟨g20, 0, none⟩) 1 1), (12, .pointer (some ⟨b24, 0, none⟩)), (20, .slice (some ⟨N23, 1, none⟩) 1 3), (21, .int .i64 1), (22, .int .i64 0), (26, .slice (some ⟨g19, 0, none⟩) 1 1), (29, .slice (some ⟨g25, 0, none⟩) 1 1), (31, .slice (some ⟨g20, 0, none⟩) 1 1)] ([⟨g25, [.int .i64 5], 1⟩, ⟨b24, [.int .i64 5, .int .i64 0], 2⟩, ⟨N23, [.int .i64 1, .int .i64 5, .int .i64 0, .int .i64 0, .int .i64 0, .int .i64 0, .int .i64 0], 7⟩, ⟨g20, [.int .i64 0], 1⟩, ⟨g19, [.int .i64 0], 1⟩, ⟨b18, [.int .i64 0, .int .i64 0], 2⟩, ⟨b17, [.int .i64 1, .int .i64 5, .int .i64 0, .int .i64 0, .int .i64 0, .int .i64 0, .int .i64 0], 7⟩, ⟨b16, [.int .i64 0, .int .i64 0], 2⟩] : List Own) := by
      intro g25
      refine hstep [4, 6] _ _ _ (by kernel_rfl) (List.cons_ne_nil _ _) ⟨?_, ?_, trivial⟩
      · show T _ _ _ _ _ _ _ _
        refine t_app1 (cs := [.int .i64 0]) (M := 1) (F := ([⟨g25, [.int .i64 5], 1⟩, ⟨b24, [.int .i64 5, .int .i64 0], 2⟩, ⟨N23, [.int .i64 1, .int .i64 5, .int .i64 0, .int .i64 0, .int .i64 0, .int .i64 0, .int .i64 0], 7⟩, ⟨g20, [.int .i64 0], 1⟩, ⟨b18, [.int .i64 0, .int .i64 0], 2⟩, ⟨b17, [.int .i64 1, .int .i64 5, .int .i64 0, .int .i64 0, .int .i64 0, .int .i64 0, .int .i64 0], 7⟩, ⟨b16, [.int .i64 0, .int .i64 0], 2⟩] : List Own)) (news := [.int .i64 5]) rfl rfl rfl rfl (sel_perm (is := [4]) (by kernel_rfl)) (.at 0 rfl rfl) (by kernel_rfl) rfl rfl (by decide) (by decide) rfl fun g26 ng26 => ?_
        refine t_keep [2, 3, 8, 9, 10, 12, 20, 21, 22, 30, 31] (σ' := [(2, .int .i64 1), (3, .int .i64 1), (8, .pointer (some ⟨b18, 0, none⟩)), (9, .slice (some ⟨g19, 0, none⟩) 1 1), (10, .slice (some ⟨g20, 0, none⟩) 1 1), (12, .pointer (some ⟨b24, 0, none⟩)), (20, .slice (some ⟨N23, 1, none⟩) 1 3), (21, .int .i64 1), (22, .int .i64 0), (30, .slice (some ⟨g26, 0, none⟩) 2 (ng26 / 1)), (31, .slice (some ⟨g20, 0, none⟩) 1 1)]) (by kernel_rfl) ?_
        refine t_end ?_
        exact ⟨hg_3f g26 ng26 g25, rfl⟩
      · show T _ _ _ _ _ _ _ _
        refine t_qz 1 [2, 3, 8, 9, 10, 20, 21, 22, 26, 29, 31, 32] (σ' := [(2, .int .i64 1), (3, .int .i64 1), (8, .pointer (some ⟨b18, 0, none⟩)), (9, .slice (some ⟨g19, 0, none⟩) 1 1), (10, .slice (some ⟨g20, 0, none⟩) 1 1), (20, .slice (some ⟨N23, 1, none⟩) 1 3), (21, .int .i64 1), (22, .int .i64 0), (26, .slice (some ⟨g19, 0, none⟩) 1 1), (29, .slice (some ⟨g25, 0, none⟩) 1 1), (31, .slice (some ⟨g20, 0, none⟩) 1 1), (32, .pointer (some ⟨b24, 1, none⟩))]) (by kernel_rfl) ?_
        refine t_end ?_
        exact ⟨hg_6f g25, rfl⟩
    have hg_1c3 : ∀ (g27 : Nat), G [true, true, false, false, false, false, true, true, true, false, false, false] [(2, .int .i64 1), (3, .int .i64 1), (8, .pointer (some ⟨b18, 0, none⟩)), (9, .slice (some ⟨g19, 0, none⟩) 1 1), (10, .slice (some ⟨g20, 0, none⟩) 1 1), (20, .slice (some ⟨N23, 1, none⟩) 1 3), (21, .int .i64 1), (22, .int .i64 0), (26, .slice (some ⟨g19, 0, none⟩) 1 1), (27, .pointer (some ⟨b24, 0, none⟩)), (34, .slice (some ⟨g27, 0, none⟩) 1 1)] ([⟨g27, [.int .i64 0], 1⟩, ⟨b24, [.int .i64 5, .int .i64 0], 2⟩, ⟨N23, [.int .i64 1, .int .i64 5, .int .i64 0, .int .i64 0, .int .i64 0, .int .i64 0, .int .i64 0], 7⟩, ⟨g20, [.int .i64 0], 1⟩, ⟨g19, [.int .i64 0], 1⟩, ⟨b18, [.int .i64 0, .int .i64 0], 2⟩, ⟨b17, [.int .i64 1, .int .i64 5, .int .i64 0, .int .i64 0, .int .i64 0, .int .i64 0, .int .i64 0], 7⟩, ⟨b16, [.int .i64 0, .int .i64 0], 2⟩] : List Own) := by
      intro g27
      refine hstep [2, 5] _ _ _ (by kernel_rfl) (List.cons_ne_nil _ _) ⟨?_, ?_, trivial⟩
      · show T _ _ _ _ _ _ _ _
        refine t_v (.ld1 rfl rfl rfl (.at 1 rfl rfl)) ?_
        refine t_keep [2, 3, 8, 9, 10, 20, 21, 22, 26, 28, 34] (σ' := [(2, .int .i64 1), (3, .int .i64 1), (8, .pointer (some ⟨b18, 0, none⟩)), (9, .slice (some ⟨g19, 0, none⟩) 1 1), (10, .slice (some ⟨g20, 0, none⟩) 1 1), (20, .slice (some ⟨N23, 1, none⟩) 1 3), (21, .int .i64 1), (22, .int .i64 0), (26, .slice (some ⟨g19, 0, none⟩) 1 1), (28, .int .i64 5), (34, .slice (some ⟨g27, 0, none⟩) 1 1)]) (by kernel_rfl) ?_
        refine t_end ?_
        exact ⟨hg_1c7 g27, rfl⟩
      · show T _ _ _ _ _ _ _ _
        refine t_qz 1 [2, 3, 8, 9, 10, 20, 21, 22, 26, 27, 31, 34] (σ' := [(2, .int .i64 1), (3, .int .i64 1), (8, .pointer (some ⟨b18, 0, none⟩)), (9, .slice (some ⟨g19, 0, none⟩) 1 1), (10, .slice (some ⟨g20, 0, none⟩) 1 1), (20, .slice (some ⟨N23, 1, none⟩) 1 3), (21, .int .i64 1), (22, .int .i64 0), (26, .slice (some ⟨g19, 0, none⟩) 1 1), (27, .pointer (some ⟨b24, 0, none⟩)), (31, .slice (some ⟨g20, 0, none⟩) 1 1), (34, .slice (some ⟨g27, 0, none⟩) 1 1)]) (by kernel_rfl) ?_
        refine t_end ?_
        exact ⟨hg_1e3 g27, rfl⟩
    have hg_1c6 : ∀ (g27 : Nat), G [false, true, true, false, false, false, true, true, true, false, false, false] [(2, .int .i64 1), (3, .int .i64 1), (8, .pointer (some ⟨b18, 0, none⟩)), (9, .slice (some ⟨g19, 0, none⟩) 1 1), (10, .slice (some ⟨g20, 0, none⟩) 1 1), (20, .slice (some ⟨N23, 1, none⟩) 1 3), (21, .int .i64 1), (22, .int .i64 0), (28, .int .i64 5), (34, .slice (some ⟨g27, 0, none⟩) 1 1)] ([⟨g27, [.int .i64 0], 1⟩, ⟨b24, [.int .i64 5, .int .i64 0], 2⟩, ⟨N23, [.int .i64 1, .int .i64 5, .int .i64 0, .int .i64 0, .int .i64 0, .int .i64 0, .int .i64 0], 7⟩, ⟨g20, [.int .i64 0], 1⟩, ⟨g19, [.int .i64 0], 1⟩, ⟨b18, [.int .i64 0, .int .i64 0], 2⟩, ⟨b17, [.int .i64 1, .int .i64 5, .int .i64 0, .int .i64 0, .int .i64 0, .int .i64 0, .int .i64 0], 7⟩, ⟨b16, [.int .i64 0, .int .i64 0], 2⟩] : List Own) := by
      intro g27
      refine hstep [0, 3, 5] _ _ _ (by kernel_rfl) (List.cons_ne_nil _ _) ⟨?_, ?_, ?_, trivial⟩
      · show T _ _ _ _ _ _ _ _
        refine t_qz 1 [2, 3, 8, 9, 10, 20, 21, 22, 26, 28, 34] (σ' := [(2, .int .i64 1), (3, .int .i64 1), (8, .pointer (some ⟨b18, 0, none⟩)), (9, .slice (some ⟨g19, 0, none⟩) 1 1), (10, .slice (some ⟨g20, 0, none⟩) 1 1), (20, .slice (some ⟨N23, 1, none⟩) 1 3), (21, .int .i64 1), (22, .int .i64 0), (26, .slice (some ⟨g19, 0, none⟩) 1 1), (28, .int .i64 5), (34, .slice (some ⟨g27, 0, none⟩) 1 1)]) (by kernel_rfl) ?_
        refine t_end ?_
        exact ⟨hg_1c7 g27, rfl⟩
      · show T _ _ _ _ _ _ _ _
        refine t_a (.bsl rfl rfl rfl rfl) fun g25 fg25 sg25 => ?_
        refine t_keep [2, 3, 8, 9, 10, 20, 21, 22, 29, 34] (σ' := [(2, .int .i64 1), (3, .int .i64 1), (8, .pointer (some ⟨b18, 0, none⟩)), (9, .slice (some ⟨g19, 0, none⟩) 1 1), (10, .slice (some ⟨g20, 0, none⟩) 1 1), (20, .slice (some ⟨N23, 1, none⟩) 1 3), (21, .int .i64 1), (22, .int .i64 0), (29, .slice (some ⟨g25, 0, none⟩) 1 1), (34, .slice (some ⟨g27, 0, none⟩) 1 1)]) (by kernel_rfl) ?_
        refine t_vs (H' := ([⟨g27, [.int .i64 0], 1⟩, ⟨g25, [.int .i64 5], 1⟩, ⟨b24, [.int .i64 5, .int .i64 0], 2⟩, ⟨N23, [.int .i64 1, .int .i64 5, .int .i64 0, .int .i64 0, .int .i64 0, .int .i64 0, .int .i64 0], 7⟩, ⟨g20, [.int .i64 0], 1⟩, ⟨g19, [.int .i64 0], 1⟩, ⟨b18, [.int .i64 0, .int .i64 0], 2⟩, ⟨b17, [.int .i64 1, .int .i64 5, .int .i64 0, .int .i64 0, .int .i64 0, .int .i64 0, .int .i64 0], 7⟩, ⟨b16, [.int .i64 0, .int .i64 0], 2⟩] : List Own)) (S' := S) (VS.sel [1, 0, 0, 0, 0, 0, 0, 0, 0] (by kernel_rfl)) ?_
        refine t_end ?_
        exact ⟨hg_1ce g27 g25, rfl⟩
      · show T _ _ _ _ _ _ _ _
        refine t_qz 1 [2, 3, 8, 9, 10, 20, 21, 22, 28, 31, 34] (σ' := [(2, .int .i64 1), (3, .int .i64 1), (8, .pointer (some ⟨b18, 0, none⟩)), (9, .slice (some ⟨g19, 0, none⟩) 1 1), (10, .slice (some ⟨g20, 0, none⟩) 1 1), (20, .slice (some ⟨N23, 1, none⟩) 1 3), (21, .int .i64 1), (22, .int .i64 0), (28, .int .i64 5), (31, .slice (some ⟨g20, 0, none⟩) 1 1), (34, .slice (some ⟨g27, 0, none⟩) 1 1)]) (by kernel_rfl) ?_
        refine t_end ?_
        exact ⟨hg_1e6 g27, rfl⟩
    have hg_c7 : G [true, true, true, false, false, false, true, true, false, false, false, false] [(2, .int .i64 1), (3, .int .i64 1), (8, .pointer (some ⟨b18, 0, none⟩)), (9, .slice (some ⟨g19, 0, none⟩) 1 1), (10, .slice (some ⟨g20, 0, none⟩) 1 1), (20, .slice (some ⟨N23, 1, none⟩) 1 3), (21, .int .i64 1), (22, .int .i64 0), (26, .slice (some ⟨g19, 0, none⟩) 1 1), (28, .int .i64 5), (33, .int .i64 0)] ([⟨b24, [.int .i64 5, .int .i64 0], 2⟩, ⟨N23, [.int .i64 1, .int .i64 5, .int .i64 0, .int .i64 0, .int .i64 0, .int .i64 0, .int .i64 0], 7⟩, ⟨g20, [.int .i64 0], 1⟩, ⟨g19, [.int .i64 0], 1⟩, ⟨b18, [.int .i64 0, .int .i64 0], 2⟩, ⟨b17, [.int .i64 1, .int .i64 5, .int .i64 0, .int .i64 0, .int .i64 0, .int .i64 0, .int .i64 0], 7⟩, ⟨b16, [.int .i64 0, .int .i64 0], 2⟩] : List Own) := by
      refine hstep [3, 5, 8] _ _ _ (by kernel_rfl) (List.cons_ne_nil _ _) ⟨?_, ?_, ?_, trivial⟩
      · show T _ _ _ _ _ _ _ _
        refine t_a (.bsl rfl rfl rfl rfl) fun g25 fg25 sg25 => ?_
        refine t_keep [2, 3, 8, 9, 10, 20, 21, 22, 26, 29, 33] (σ' := [(2, .int .i64 1), (3, .int .i64 1), (8, .pointer (some ⟨b18, 0, none⟩)), (9, .slice (some ⟨g19, 0, none⟩) 1 1), (10, .slice (some ⟨g20, 0, none⟩) 1 1), (20, .slice (some ⟨N23, 1, none⟩) 1 3), (21, .int .i64 1), (22, .int .i64 0), (26, .slice (some ⟨g19, 0, none⟩) 1 1), (29, .slice (some ⟨g25, 0, none⟩) 1 1), (33, .int .i64 0)]) (by kernel_rfl) ?_
        refine t_end ?_
        exact ⟨hg_cf g25, rfl⟩
      · show T _ _ _ _ _ _ _ _
        refine t_qz 1 [2, 3, 8, 9, 10, 20, 21, 22, 26, 28, 31, 33] (σ' := [(2, .int .i64 1), (3, .int .i64 1), (8, .pointer (some ⟨b18, 0, none⟩)), (9, .slice (some ⟨g19, 0, none⟩) 1 1), (10, .slice (some ⟨g20, 0, none⟩) 1 1), (20, .slice (some ⟨N23, 1, none⟩) 1 3), (21, .int .i64 1), (22, .int .i64 0), (26, .slice (some ⟨g19, 0, none⟩) 1 1), (28, .int .i64 5), (31, .slice (some ⟨g20, 0, none⟩) 1 1), (33, .int .i64 0)]) (by kernel_rfl) ?_
        refine t_end ?_
        exact ⟨hg_e7, rfl⟩
      · show T _ _ _ _ _ _ _ _
        refine t_a (.bsl rfl rfl rfl rfl) fun g27 fg27 sg27 => ?_
        refine t_keep [2, 3, 8, 9, 10, 20, 21, 22, 26, 28, 34] (σ' := [(2, .int .i64 1), (3, .int .i64 1), (8, .pointer (some ⟨b18, 0, none⟩)), (9, .slice (some ⟨g19, 0, none⟩) 1 1), (10, .slice (some ⟨g20, 0, none⟩) 1 1), (20, .slice (some ⟨N23, 1, none⟩) 1 3), (21, .int .i64 1), (22, .int .i64 0), (26, .slice (some ⟨g19, 0, none⟩) 1 1), (28, .int .i64 5), (34, .slice (some ⟨g27, 0, none⟩) 1 1)]) (by kernel_rfl) ?_
        refine t_end ?_
        exact ⟨hg_1c7 g27, rfl⟩
    have hg_ce : ∀ (g25 : Nat), G [false, true, true, true, false, false, true, true, false, false, false, false] [(2, .int .i64 1), (3, .int .i64 1), (8, .pointer (some ⟨b18, 0, none⟩)), (9, .slice (some ⟨g19, 0, none⟩) 1 1), (10, .slice (some ⟨g20, 0, none⟩) 1 1), (20, .slice (some ⟨N23, 1, none⟩) 1 3), (21, .int .i64 1), (22, .int .i64 0), (29, .slice (some ⟨g25, 0, none⟩) 1 1), (33, .int .i64 0)] ([⟨g25, [.int .i64 5], 1⟩, ⟨b24, [.int .i64 5, .int .i64 0], 2⟩, ⟨N23, [.int .i64 1, .int .i64 5, .int .i64 0, .int .i64 0, .int .i64 0, .int .i64 0, .int .i64 0], 7⟩, ⟨g20, [.int .i64 0], 1⟩, ⟨g19, [.int .i64 0], 1⟩, ⟨b18, [.int .i64 0, .int .i64 0], 2⟩, ⟨b17, [.int .i64 1, .int .i64 5, .int .i64 0, .int .i64 0, .int .i64 0, .int .i64 0, .int .i64 0], 7⟩, ⟨b16, [.int .i64 0, .int .i64 0], 2⟩] : List Own) := by
      intro g25
      refine hstep [0, 5, 8] _ _ _ (by kernel_rfl) (List.cons_ne_nil _ _) ⟨?_, ?_, ?_, trivial⟩
      · show T _ _ _ _ _ _ _ _
        refine t_qz 1 [2, 3, 8, 9, 10, 20, 21, 22, 26, 29, 33] (σ' := [(2, .int .i64 1), (3, .int .i64 1), (8, .pointer (some ⟨b18, 0, none⟩)), (9, .slice (some ⟨g19, 0, none⟩) 1 1), (10, .slice (some ⟨g20, 0, none⟩) 1 1), (20, .slice (some ⟨N23, 1, none⟩) 1 3), (21, .int .i64 1), (22, .int .i64 0), (26, .slice (some ⟨g19, 0, none⟩) 1 1), (29, .slice (some ⟨g25, 0, none⟩) 1 1), (33, .int .i64 0)]) (by kernel_rfl) ?_
        refine t_end ?_
        exact ⟨hg_cf g25, rfl⟩
      · show T _ _ _ _ _ _ _ _
        refine t_qz 1 [2, 3, 8, 9, 10, 20, 21, 22, 29, 31, 33] (σ' := [(2, .int .i64 1), (3, .int .i64 1), (8, .pointer (some ⟨b18, 0, none⟩)), (9, .slice (some ⟨g19, 0, none⟩) 1 1), (10, .slice (some ⟨g20, 0, none⟩) 1 1), (20, .slice (some ⟨N23, 1, none⟩) 1 3), (21, .int .i64 1), (22, .int .i64 0), (29, .slice (some ⟨g25, 0, none⟩) 1 1), (31, .slice (some ⟨g20, 0, none⟩) 1 1), (33, .int .i64 0)]) (by kernel_rfl) ?_
        refine t_end ?_
        exact ⟨hg_ee g25, rfl⟩
      · show T _ _ _ _ _ _ _ _
        refine t_a (.bsl rfl rfl rfl rfl) fun g27 fg27 sg27 => ?_
        refine t_keep [2, 3, 8, 9, 10, 20, 21, 22, 29, 34] (σ' := [(2, .int .i64 1), (3, .int .i64 1), (8, .pointer (some ⟨b18, 0, none⟩)), (9, .slice (some ⟨g19, 0, none⟩) 1 1), (10, .slice (some ⟨g20, 0, none⟩) 1 1), (20, .slice (some ⟨N23, 1, none⟩) 1 3), (21, .int .i64 1), (22, .int .i64 0), (29, .slice (some ⟨g25, 0, none⟩) 1 1), (34, .slice (some ⟨g27, 0, none⟩) 1 1)]) (by kernel_rfl) ?_
        refine t_end ?_
        exact ⟨hg_1ce g27 g25, rfl⟩
    have hg_4f : ∀ (g25 : Nat), G [true, true, true, true, false, false, true, false, false, false, false, false] [(2, .int .i64 1), (3, .int .i64 1), (8, .pointer (some ⟨b18, 0, none⟩)), (9, .slice (some ⟨g19, 0, none⟩) 1 1), (10, .slice (some ⟨g20, 0, none⟩) 1 1), (20, .slice (some ⟨N23, 1, none⟩) 1 3), (21, .int .i64 1), (22, .int .i64 0), (26, .slice (some ⟨g19, 0, none⟩) 1 1), (29, .slice (some ⟨g25, 0, none⟩) 1 1), (32, .pointer (some ⟨b24, 1, none⟩))] ([⟨g25, [.int .i64 5], 1⟩, ⟨b24, [.int .i64 5, .int .i64 0], 2⟩, ⟨N23, [.int .i64 1, .int .i64 5, .int .i64 0, .int .i64 0, .int .i64 0, .int .i64 0, .int .i64 0], 7⟩, ⟨g20, [.int .i64 0], 1⟩, ⟨g19, [.int .i64 0], 1⟩, ⟨b18, [.int .i64 0, .int .i64 0], 2⟩, ⟨b17, [.int .i64 1, .int .i64 5, .int .i64 0, .int .i64 0, .int .i64 0, .int .i64 0, .int .i64 0], 7⟩, ⟨b16, [.int .i64 0, .int .i64 0], 2⟩] : List Own) := by
      intro g25
      refine hstep [4, 5, 7] _ _ _ (by kernel_rfl) (List.cons_ne_nil _ _) ⟨?_, ?_, ?_, trivial⟩
      · show T _ _ _ _ _ _ _ _
        refine t_app1 (cs := [.int .i64 0]) (M := 1) (F := ([⟨g25, [.int .i64 5], 1⟩, ⟨b24, [.int .i64 5, .int .i64 0], 2⟩, ⟨N23, [.int .i64 1, .int .i64 5, .int .i64 0, .int .i64 0, .int .i64 0, .int .i64 0, .int .i64 0], 7⟩, ⟨g20, [.int .i64 0], 1⟩, ⟨b18, [.int .i64 0, .int .i64 0], 2⟩, ⟨b17, [.int .i64 1, .int .i64 5, .int .i64 0, .int .i64 0, .int .i64 0, .int .i64 0, .int .i64 0], 7⟩, ⟨b16, [.int .i64 0, .int .i64 0], 2⟩] : List Own)) (news := [.int .i64 5]) rfl rfl rfl rfl (sel_perm (is := [4]) (by kernel_rfl)) (.at 0 rfl rfl) (by kernel_rfl) rfl rfl (by decide) (by decide) rfl fun g26 ng26 => ?_
        refine t_keep [2, 3, 8, 9, 10, 20, 21, 22, 30, 32] (σ' := [(2, .int .i64 1), (3, .int .i64 1), (8, .pointer (some ⟨b18, 0, none⟩)), (9, .slice (some ⟨g19, 0, none⟩) 1 1), (10, .slice (some ⟨g20, 0, none⟩) 1 1), (20, .slice (some ⟨N23, 1, none⟩) 1 3), (21, .int .i64 1), (22, .int .i64 0), (30, .slice (some ⟨g26, 0, none⟩) 2 (ng26 / 1)), (32, .pointer (some ⟨b24, 1, none⟩))]) (by kernel_rfl) ?_
        refine t_end ?_
        exact ⟨hg_5f g26 ng26 g25, rfl⟩
      · show T _ _ _ _ _ _ _ _
        refine t_qz 1 [2, 3, 8, 9, 10, 20, 21, 22, 26, 29, 31, 32] (σ' := [(2, .int .i64 1), (3, .int .i64 1), (8, .pointer (some ⟨b18, 0, none⟩)), (9, .slice (some ⟨g19, 0, none⟩) 1 1), (10, .slice (some ⟨g20, 0, none⟩) 1 1), (20, .slice (some ⟨N23, 1, none⟩) 1 3), (21, .int .i64 1), (22, .int .i64 0), (26, .slice (some ⟨g19, 0, none⟩) 1 1), (29, .slice (some ⟨g25, 0, none⟩) 1 1), (31, .slice (some ⟨g20, 0, none⟩) 1 1), (32, .pointer (some ⟨b24, 1, none⟩))]) (by kernel_rfl) ?_
        refine t_end ?_
        exact ⟨hg_6f g25, rfl⟩
      · show T _ _ _ _ _ _ _ _
        refine t_v (.ld1 rfl rfl rfl (.at 1 rfl rfl)) ?_
        refine t_keep [2, 3, 8, 9, 10, 20, 21, 22, 26, 29, 33] (σ' := [(2, .int .i64 1), (3, .int .i64 1), (8, .pointer (some ⟨b18, 0, none⟩)), (9, .slice (some ⟨g19, 0, none⟩) 1 1), (10, .slice (some ⟨g20, 0, none⟩) 1 1), (20, .slice (some ⟨N23, 1, none⟩) 1 3), (21, .int .i64 1), (22, .int .i64 0), (26, .slice (some ⟨g19, 0, none⟩) 1 1), (29, .slice (some ⟨g25, 0, none⟩) 1 1), (33, .int .i64 0)]) (by kernel_rfl) ?_
        refine t_end ?_
        exact ⟨hg_cf g25, rfl⟩
    have hg_1e1 : ∀ (g27 : Nat), G [true, false, false, false, false, true, true, true, true, false, false, false] [(2, .int .i64 1), (3, .int .i64 1), (8, .pointer (some ⟨b18, 0, none⟩)), (9, .slice (some ⟨g19, 0, none⟩) 1 1), (10, .slice (some ⟨g20, 0, none⟩) 1 1), (12, .pointer (some ⟨b24, 0, none⟩)), (20, .slice (some ⟨N23, 1, none⟩) 1 3), (21, .int .i64 1), (22, .int .i64 0), (26, .slice (some ⟨g19, 0, none⟩) 1 1), (31, .slice (some ⟨g20, 0, none⟩) 1 1), (34, .slice (some ⟨g27, 0, none⟩) 1 1)] ([⟨g27, [.int .i64 0], 1⟩, ⟨b24, [.int .i64 5, .int .i64 0], 2⟩, ⟨N23, [.int .i64 1, .int .i64 5, .int .i64 0, .int .i64 0, .int .i64 0, .int .i64 0, .int .i64 0], 7⟩, ⟨g20, [.int .i64 0], 1⟩, ⟨g19, [.int .i64 0], 1⟩, ⟨b18, [.int .i64 0, .int .i64 0], 2⟩, ⟨b17, [.int .i64 1, .int .i64 5, .int .i64 0, .int .i64 0, .int .i64 0, .int .i64 0, .int .i64 0], 7⟩, ⟨b16, [.int .i64 0, .int .i64 0], 2⟩] : List Own) := by
      intro g27
      refine hstep [1] _ _ _ (by kernel_rfl) (List.cons_ne_nil _ _) ⟨?_, trivial⟩
      · show T _ _ _ _ _ _ _ _
        refine t_qz 1 [2, 3, 8, 9, 10, 20, 21, 22, 26, 27, 31, 34] (σ' := [(2, .int .i64 1), (3, .int .i64 1), (8, .pointer (some ⟨b18, 0, none⟩)), (9, .slice (some ⟨g19, 0, none⟩) 1 1), (10, .slice (some ⟨g20, 0, none⟩) 1 1), (20, .slice (some ⟨N23, 1, none⟩) 1 3), (21, .int .i64 1), (22, .int .i64 0), (26, .slice (some ⟨g19, 0, none⟩) 1 1), (27, .pointer (some ⟨b24, 0, none⟩)), (31, .slice (some ⟨g20, 0, none⟩) 1 1), (34, .slice (some ⟨g27, 0, none⟩) 1 1)]) (by kernel_rfl) ?_
        refine t_end ?_
        exact ⟨hg_1e3 g27, rfl⟩
    have hg_1e2 : ∀ (g27 : Nat), G [false, true, false, false, false, true, true, true, true, false, false, false] [(2, .int .i64 1), (3, .int .i64 1), (8, .pointer (some ⟨b18, 0, none⟩)), (9, .slice (some ⟨g19, 0, none⟩) 1 1), (10, .slice (some ⟨g20, 0, none⟩) 1 1), (20, .slice (some ⟨N23, 1, none⟩) 1 3), (21, .int .i64 1), (22, .int .i64 0), (27, .pointer (some ⟨b24, 0, none⟩)), (31, .slice (some ⟨g20, 0, none⟩) 1 1), (34, .slice (some ⟨g27, 0, none⟩) 1 1)] ([⟨g27, [.int .i64 0], 1⟩, ⟨b24, [.int .i64 5, .int .i64 0], 2⟩, ⟨N23, [.int .i64 1, .int .i64 5, .int .i64 0, .int .i64 0, .int .i64 0, .int .i64 0, .int .i64 0], 7⟩, ⟨g20, [.int .i64 0], 1⟩, ⟨g19, [.int .i64 0], 1⟩, ⟨b18, [.int .i64 0, .int .i64 0], 2⟩, ⟨b17, [.int .i64 1, .int .i64 5, .int .i64 0, .int .i64 0, .int .i64 0, .int .i64 0, .int .i64 0], 7⟩, ⟨b16, [.int .i64 0, .int .i64 0], 2⟩] : List Own) := by
      intro g27
      refine hstep [0, 2] _ _ _ (by kernel_rfl) (List.cons_ne_nil _ _) ⟨?_, ?_, trivial⟩
      · show T _ _ _ _ _ _ _ _
        refine t_qz 1 [2, 3, 8, 9, 10, 20, 21, 22, 26, 27, 31, 34] (σ' := [(2, .int .i64 1), (3, .int .i64 1), (8, .pointer (some ⟨b18, 0, none⟩)), (9, .slice (some ⟨g19, 0, none⟩) 1 1), (10, .slice (some ⟨g20, 0, none⟩) 1 1), (20, .slice (some ⟨N23, 1, none⟩) 1 3), (21, .int .i64 1), (22, .int .i64 0), (26, .slice (some ⟨g19, 0, none⟩) 1 1), (27, .pointer (some ⟨b24, 0, none⟩)), (31, .slice (some ⟨g20, 0, none⟩) 1 1), (34, .slice (some ⟨g27, 0, none⟩) 1 1)]) (by kernel_rfl) ?_
        refine t_end ?_
        exact ⟨hg_1e3 g27, rfl⟩
      · show T _ _ _ _ _ _ _ _
        refine t_v (.ld1 rfl rfl rfl (.at 1 rfl rfl)) ?_
        refine t_keep [2, 3, 8, 9, 10, 20, 21, 22, 28, 31, 34] (σ' := [(2, .int .i64 1), (3, .int .i64 1), (8, .pointer (some ⟨b18, 0, none⟩)), (9, .slice (some ⟨g19, 0, none⟩) 1 1), (10, .slice (some ⟨g20, 0, none⟩) 1 1), (20, .slice (some ⟨N23, 1, none⟩) 1 3), (21, .int .i64 1), (22, .int .i64 0), (28, .int .i64 5), (31, .slice (some ⟨g20, 0, none⟩) 1 1), (34, .slice (some ⟨g27, 0, none⟩) 1 1)]) (by kernel_rfl) ?_
        refine t_end ?_
        exact ⟨hg_1e6 g27, rfl⟩
    have hg_e3 : G [true, true, false, false, false, true, true, true, false, false, false, false] [(2, .int .i64 1), (3, .int .i64 1), (8, .pointer (some ⟨b18, 0, none⟩)), (9, .slice (some ⟨g19, 0, none⟩) 1 1), (10, .slice (some ⟨g20, 0, none⟩) 1 1), (20, .slice (some ⟨N23, 1, none⟩) 1 3), (21, .int .i64 1), (22, .int .i64 0), (26, .slice (some ⟨g19, 0, none⟩) 1 1), (27, .pointer (some ⟨b24, 0, none⟩)), (31, .slice (some ⟨g20, 0, none⟩) 1 1), (33, .int .i64 0)] ([⟨b24, [.int .i64 5, .int .i64 0], 2⟩, ⟨N23, [.int .i64 1, .int .i64 5, .int .i64 0, .int .i64 0, .int .i64 0, .int .i64 0, .int .i64 0], 7⟩, ⟨g20, [.int .i64 0], 1⟩, ⟨g19, [.int .i64 0], 1⟩, ⟨b18, [.int .i64 0, .int .i64 0], 2⟩, ⟨b17, [.int .i64 1, .int .i64 5, .int .i64 0, .int .i64 0, .int .i64 0, .int .i64 0, .int .i64 0], 7⟩, ⟨b16, [.int .i64 0, .int .i64 0], 2⟩] : List Own) := by
      refine hstep [2, 8] _ _ _ (by kernel_rfl) (List.cons_ne_nil _ _) ⟨?_, ?_, trivial⟩
      · show T _ _ _ _ _ _ _ _
        refine t_v (.ld1 rfl rfl rfl (.at 0 rfl rfl)) ?_
        refine t_keep [2, 3, 8, 9, 10, 20, 21, 22, 26, 28, 31, 33] (σ' := [(2, .int .i64 1), (3, .int .i64 1), (8, .pointer (some ⟨b18, 0, none⟩)), (9, .slice (some ⟨g19, 0, none⟩) 1 1), (10, .slice (some ⟨g20, 0, none⟩) 1 1), (20, .slice (some ⟨N23, 1, none⟩) 1 3), (21, .int .i64 1), (22, .int .i64 0), (26, .slice (some ⟨g19, 0, none⟩) 1 1), (28, .int .i64 5), (31, .slice (some ⟨g20, 0, none⟩) 1 1), (33, .int .i64 0)]) (by kernel_rfl) ?_
        refine t_end ?_
        exact ⟨hg_e7, rfl⟩
      · show T _ _ _ _ _ _ _ _
        refine t_a (.bsl rfl rfl rfl rfl) fun g27 fg27 sg27 => ?_
        refine t_keep [2, 3, 8, 9, 10, 20, 21, 22, 26, 27, 31, 34] (σ' := [(2, .int .i64 1), (3, .int .i64 1), (8, .pointer (some ⟨b18, 0, none⟩)), (9, .slice (some ⟨g19, 0, none⟩) 1 1), (10, .slice (some ⟨g20, 0, none⟩) 1 1), (20, .slice (some ⟨N23, 1, none⟩) 1 3), (21, .int .i64 1), (22, .int .i64 0), (26, .slice (some ⟨g19, 0, none⟩) 1 1), (27, .pointer (some ⟨b24, 0, none⟩)), (31, .slice (some ⟨g20, 0, none⟩) 1 1), (34, .slice (some ⟨g27, 0, none⟩) 1 1)]) (by kernel_rfl) ?_
        refine t_end ?_
        exact ⟨hg_1e3 g27, rfl⟩
    have hg_e6 : G [false, true, true, false, false, true, true, true, false, false, false, false] [(2, .int .i64 1), (3, .int .i64 1), (8, .pointer (some ⟨b18, 0, none⟩)), (9, .slice (some ⟨g19, 0, none⟩) 1 1), (10, .slice (some ⟨g20, 0, none⟩) 1 1), (20, .slice (some ⟨N23, 1, none⟩) 1 3), (21, .int .i64 1), (22, .int .i64 0), (28, .int .i64 5), (31, .slice (some ⟨g20, 0, none⟩) 1 1), (33, .int .i64 0)] ([⟨b24, [.int .i64 5, .int .i64 0], 2⟩, ⟨N23, [.int .i64 1, .int .i64 5, .int .i64 0, .int .i64 0, .int .i64 0, .int .i64 0, .int .i64 0], 7⟩, ⟨g20, [.int .i64 0], 1⟩, ⟨g19, [.int .i64 0], 1⟩, ⟨b18, [.int .i64 0, .int .i64 0], 2⟩, ⟨b17, [.int .i64 1, .int .i64 5, .int .i64 0, .int .i64 0, .int .i64 0, .int .i64 0, .int .i64 0], 7⟩, ⟨b16, [.int .i64 0, .int .i64 0], 2⟩] : List Own) := by
      refine hstep [0, 3, 8] _ _ _ (by kernel_rfl) (List.cons_ne_nil _ _) ⟨?_, ?_, ?_, trivial⟩
      · show T _ _ _ _ _ _ _ _
        refine t_qz 1 [2, 3, 8, 9, 10, 20, 21, 22, 26, 28, 31, 33] (σ' := [(2, .int .i64 1), (3, .int .i64 1), (8, .pointer (some ⟨b18, 0, none⟩)), (9, .slice (some ⟨g19, 0, none⟩) 1 1), (10, .slice (some ⟨g20, 0, none⟩) 1 1), (20, .slice (some ⟨N23, 1, none⟩) 1 3), (21, .int .i64 1), (22, .int .i64 0), (26, .slice (some ⟨g19, 0, none⟩) 1 1), (28, .int .i64 5), (31, .slice (some ⟨g20, 0, none⟩) 1 1), (33, .int .i64 0)]) (by kernel_rfl) ?_
        refine t_end ?_
        exact ⟨hg_e7, rfl⟩
      · show T _ _ _ _ _ _ _ _
        refine t_a (.bsl rfl rfl rfl rfl) fun g25 fg25 sg25 => ?_
        refine t_keep [2, 3, 8, 9, 10, 20, 21, 22, 29, 31, 33] (σ' := [(2, .int .i64 1), (3, .int .i64 1), (8, .pointer (some ⟨b18, 0, none⟩)), (9, .slice (some ⟨g19, 0, none⟩) 1 1), (10, .slice (some ⟨g20, 0, none⟩) 1 1), (20, .slice (some ⟨N23, 1, none⟩) 1 3), (21, .int .i64 1), (22, .int .i64 0), (29, .slice (some ⟨g25, 0, none⟩) 1 1), (31, .slice (some ⟨g20, 0, none⟩) 1 1), (33, .int .i64 0)]) (by kernel_rfl) ?_
        refine t_end ?_
        exact ⟨hg_ee g25, rfl⟩
      · show T _ _ _ _ _ _ _ _
        refine t_a (.bsl rfl rfl rfl rfl) fun g27 fg27 sg27 => ?_
        refine t_keep [2, 3, 8, 9, 10, 20, 21, 22, 28, 31, 34] (σ' := [(2, .int .i64 1), (3, .int .i64 1), (8, .pointer (some ⟨b18, 0, none⟩)), (9, .slice (some ⟨g19, 0, none⟩) 1 1), (10, .slice (some ⟨g20, 0, none⟩) 1 1), (20, .slice (some ⟨N23, 1, none⟩) 1 3), (21, .int .i64 1), (22, .int .i64 0), (28, .int .i64 5), (31, .slice (some ⟨g20, 0, none⟩) 1 1), (34, .slice (some ⟨g27, 0, none⟩) 1 1)]) (by kernel_rfl) ?_
        refine t_end ?_
        exact ⟨hg_1e6 g27, rfl⟩
    have hg_6e : ∀ (g25 : Nat), G [false, true, true, true, false, true, true, false, false, false, false, false] [(2, .int .i64 1), (3, .int .i64 1), (8, .pointer (some ⟨b18, 0, none⟩)), (9, .slice (some ⟨g19, 0, none⟩) 1 1), (10, .slice (some ⟨g20, 0, none⟩) 1 1), (20, .slice (some ⟨N23, 1, none⟩) 1 3), (21, .int .i64 1), (22, .int .i64 0), (29, .slice (some ⟨g25, 0, none⟩) 1 1), (31, .slice (some ⟨g20, 0, none⟩) 1 1), (32, .pointer (some ⟨b24, 1, none⟩))] ([⟨g25, [.int .i64 5], 1⟩, ⟨b24, [.int .i64 5, .int .i64 0], 2⟩, ⟨N23, [.int .i64 1, .int .i64 5, .int .i64 0, .int .i64 0, .int .i64 0, .int .i64 0, .int .i64 0], 7⟩, ⟨g20, [.int .i64 0], 1⟩, ⟨g19, [.int .i64 0], 1⟩, ⟨b18, [.int .i64 0, .int .i64 0], 2⟩, ⟨b17, [.int .i64 1, .int .i64 5, .int .i64 0, .int .i64 0, .int .i64 0, .int .i64 0, .int .i64 0], 7⟩, ⟨b16, [.int .i64 0, .int .i64 0], 2⟩] : List Own) := by
      intro g25
      refine hstep [0, 7] _ _ _ (by kernel_rfl) (List.cons_ne_nil _ _) ⟨?_, ?_, trivial⟩
      · show T _ _ _ _ _ _ _ _
        refine t_qz 1 [2, 3, 8, 9, 10, 20, 21, 22, 26, 29, 31, 32] (σ' := [(2, .int .i64 1), (3, .int .i64 1), (8, .pointer (some ⟨b18, 0, none⟩)), (9, .slice (some ⟨g19, 0, none⟩) 1 1), (10, .slice (some ⟨g20, 0, none⟩) 1 1), (20, .slice (some ⟨N23, 1, none⟩) 1 3), (21, .int .i64 1), (22, .int .i64 0), (26, .slice (some ⟨g19, 0, none⟩) 1 1), (29, .slice (some ⟨g25, 0, none⟩) 1 1), (31, .slice (some ⟨g20, 0, none⟩) 1 1), (32, .pointer (some ⟨b24, 1, none⟩))]) (by kernel_rfl) ?_
        refine t_end ?_
        exact ⟨hg_6f g25, rfl⟩
      · show T _ _ _ _ _ _ _ _
        refine t_v (.ld1 rfl rfl rfl (.at 1 rfl rfl)) ?_
        refine t_keep [2, 3, 8, 9, 10, 20, 21, 22, 29, 31, 33] (σ' := [(2, .int .i64 1), (3, .int .i64 1), (8, .pointer (some ⟨b18, 0, none⟩)), (9, .slice (some ⟨g19, 0, none⟩) 1 1), (10, .slice (some ⟨g20, 0, none⟩) 1 1), (20, .slice (some ⟨N23, 1, none⟩) 1 3), (21, .int .i64 1), (22, .int .i64 0), (29, .slice (some ⟨g25, 0, none⟩) 1 1), (31, .slice (some ⟨g20, 0, none⟩) 1 1), (33, .int .i64 0)]) (by kernel_rfl) ?_
        refine t_end ?_
        exact ⟨hg_ee g25, rfl⟩
    have hg_66 : G [false, true, true, false, false, true, true, false, false, false, false, false] [(2, .int .i64 1), (3, .int .i64 1), (8, .pointer (some ⟨b18, 0, none⟩)), (9, .slice (some ⟨g19, 0, none⟩) 1 1), (10, .slice (some ⟨g20, 0, none⟩) 1 1), (20, .slice (some ⟨N23, 1, none⟩) 1 3), (21, .int .i64 1), (22, .int .i64 0), (28, .int .i64 5), (31, .slice (some ⟨g20, 0, none⟩) 1 1), (32, .pointer (some ⟨b24, 1, none⟩))] ([⟨b24, [.int .i64 5, .int .i64 0], 2⟩, ⟨N23, [.int .i64 1, .int .i64 5, .int .i64 0, .int .i64 0, .int .i64 0, .int .i64 0, .int .i64 0], 7⟩, ⟨g20, [.int .i64 0], 1⟩, ⟨g19, [.int .i64 0], 1⟩, ⟨b18, [.int .i64 0, .int .i64 0], 2⟩, ⟨b17, [.int .i64 1, .int .i64 5, .int .i64 0, .int .i64 0, .int .i64 0, .int .i64 0, .int .i64 0], 7⟩, ⟨b16, [.int .i64 0, .int .i64 0], 2⟩] : List Own) := by
      refine hstep [0, 3, 7] _ _ _ (by kernel_rfl) (List.cons_ne_nil _ _) ⟨?_, ?_, ?_, trivial⟩
      · show T _ _ _ _ _ _ _ _
        refine t_qz 1 [2, 3, 8, 9, 10, 20, 21, 22, 26, 28, 31, 32] (σ' := [(2, .int .i64 1), (3, .int .i64 1), (8, .pointer (some ⟨b18, 0, none⟩)), (9, .slice (some ⟨g19, 0, none⟩) 1 1), (10, .slice (some ⟨g20, 0, none⟩) 1 1), (20, .slice (some ⟨N23, 1, none⟩) 1 3), (21, .int .i64 1), (22, .int .i64 0), (26, .slice (some ⟨g19, 0, none⟩) 1 1), (28, .int .i64 5), (31, .slice (some ⟨g20, 0, none⟩) 1 1), (32, .pointer (some ⟨b24, 1, none⟩))]) (by kernel_rfl) ?_
        refine t_end ?_
        exact ⟨hg_67, rfl⟩
      · show T _ _ _ _ _ _ _ _
        refine t_a (.bsl rfl rfl rfl rfl) fun g25 fg25 sg25 => ?_
        refine t_keep [2, 3, 8, 9, 10, 20, 21, 22, 29, 31, 32] (σ' := [(2, .int .i64 1), (3, .int .i64 1), (8, .pointer (some ⟨b18, 0, none⟩)), (9, .slice (some ⟨g19, 0, none⟩) 1 1), (10, .slice (some ⟨g20, 0, none⟩) 1 1), (20, .slice (some ⟨N23, 1, none⟩) 1 3), (21, .int .i64 1), (22, .int .i64 0), (29, .slice (some ⟨g25, 0, none⟩) 1 1), (31, .slice (some ⟨g20, 0, none⟩) 1 1), (32, .pointer (some ⟨b24, 1, none⟩))]) (by kernel_rfl) ?_
        refine t_end ?_
        exact ⟨hg_6e g25, rfl⟩
      · show T _ _ _ _ _ _ _ _
        refine t_v (.ld1 rfl rfl rfl (.at 0 rfl rfl)) ?_
        refine t_keep [2, 3, 8, 9, 10, 20, 21, 22, 28, 31, 33] (σ' := [(2, .int .i64 1), (3, .int .i64 1), (8, .pointer (some ⟨b18, 0, none⟩)), (9, .slice (some ⟨g19, 0, none⟩) 1 1), (10, .slice (some ⟨g20, 0, none⟩) 1 1), (20, .slice (some ⟨N23, 1, none⟩) 1 3), (21, .int .i64 1), (22, .int .i64 0), (28, .int .i64 5), (31, .slice (some ⟨g20, 0, none⟩) 1 1), (33, .int .i64 0)]) (by kernel_rfl) ?_
        refine t_end ?_
        exact ⟨hg_e6, rfl⟩
    have hg_f : ∀ (g25 : Nat), G [true, true, true, true, false, false, false, false, false, false, false, false] [(2, .int .i64 1), (3, .int .i64 1), (8, .pointer (some ⟨b18, 0, none⟩)), (9, .slice (some ⟨g19, 0, none⟩) 1 1), (10, .slice (some ⟨g20, 0, none⟩) 1 1), (12, .pointer (some ⟨b24, 0, none⟩)), (20, .slice (some ⟨N23, 1, none⟩) 1 3), (21, .int .i64 1), (22, .int .i64 0), (26, .slice (some ⟨g19, 0, none⟩) 1 1), (29, .slice (some ⟨g25, 0, none⟩) 1 1)] ([⟨g25, [.int .i64 5], 1⟩, ⟨b24, [.int .i64 5, .int .i64 0], 2⟩, ⟨N23, [.int .i64 1, .int .i64 5, .int .i64 0, .int .i64 0, .int .i64 0, .int .i64 0, .int .i64 0], 7⟩, ⟨g20, [.int .i64 0], 1⟩, ⟨g19, [.int .i64 0], 1⟩, ⟨b18, [.int .i64 0, .int .i64 0], 2⟩, ⟨b17, [.int .i64 1, .int .i64 5, .int .i64 0, .int .i64 0, .int .i64 0, .int .i64 0, .int .i64 0], 7⟩, ⟨b16, [.int .i64 0, .int .i64 0], 2⟩] : List Own) := by
      intro g25
      refine hstep [4, 5, 6] _ _ _ (by kernel_rfl) (List.cons_ne_nil _ _) ⟨?_, ?_, ?_, trivial⟩
      · show T _ _ _ _ _ _ _ _
        refine t_app1 (cs := [.int .i64 0]) (M := 1) (F := ([⟨g25, [.int .i64 5], 1⟩, ⟨b24, [.int .i64 5, .int .i64 0], 2⟩, ⟨N23, [.int .i64 1, .int .i64 5, .int .i64 0, .int .i64 0, .int .i64 0, .int .i64 0, .int .i64 0], 7⟩, ⟨g20, [.int .i64 0], 1⟩, ⟨b18, [.int .i64 0, .int .i64 0], 2⟩, ⟨b17, [.int .i64 1, .int .i64 5, .int .i64 0, .int .i64 0, .int .i64 0, .int .i64 0, .int .i64 0], 7⟩, ⟨b16, [.int .i64 0, .int .i64 0], 2⟩] : List Own)) (news := [.int .i64 5]) rfl rfl rfl rfl (sel_perm (is := [4]) (by kernel_rfl)) (.at 0 rfl rfl) (by kernel_rfl) rfl rfl (by decide) (by decide) rfl fun g26 ng26 => ?_
        refine t_keep [2, 3, 8, 9, 10, 12, 20, 21, 22, 30] (σ' := [(2, .int .i64 1), (3, .int .i64 1), (8, .pointer (some ⟨b18, 0, none⟩)), (9, .slice (some ⟨g19, 0, none⟩) 1 1), (10, .slice (some ⟨g20, 0, none⟩) 1 1), (12, .pointer (some ⟨b24, 0, none⟩)), (20, .slice (some ⟨N23, 1, none⟩) 1 3), (21, .int .i64 1), (22, .int .i64 0), (30, .slice (some ⟨g26, 0, none⟩) 2 (ng26 / 1))]) (by kernel_rfl) ?_
        refine t_end ?_
        exact ⟨hg_1f g26 ng26 g25, rfl⟩
      · show T _ _ _ _ _ _ _ _
        refine t_qz 1 [2, 3, 8, 9, 10, 12, 20, 21, 22, 26, 29, 31] (σ' := [(2, .int .i64 1), (3, .int .i64 1), (8, .pointer (some ⟨b18, 0, none⟩)), (9, .slice (some ⟨g19, 0, none⟩) 1 1), (10, .slice (some ⟨g20, 0, none⟩) 1 1), (12, .pointer (some ⟨b24, 0, none⟩)), (20, .slice (some ⟨N23, 1, none⟩) 1 3), (21, .int .i64 1), (22, .int .i64 0), (26, .slice (some ⟨g19, 0, none⟩) 1 1), (29, .slice (some ⟨g25, 0, none⟩) 1 1), (31, .slice (some ⟨g20, 0, none⟩) 1 1)]) (by kernel_rfl) ?_
        refine t_end ?_
        exact ⟨hg_2f g25, rfl⟩
      · show T _ _ _ _ _ _ _ _
        refine t_qz 1 [2, 3, 8, 9, 10, 20, 21, 22, 26, 29, 32] (σ' := [(2, .int .i64 1), (3, .int .i64 1), (8, .pointer (some ⟨b18, 0, none⟩)), (9, .slice (some ⟨g19, 0, none⟩) 1 1), (10, .slice (some ⟨g20, 0, none⟩) 1 1), (20, .slice (some ⟨N23, 1, none⟩) 1 3), (21, .int .i64 1), (22, .int .i64 0), (26, .slice (some ⟨g19, 0, none⟩) 1 1), (29, .slice (some ⟨g25, 0, none⟩) 1 1), (32, .pointer (some ⟨b24, 1, none⟩))]) (by kernel_rfl) ?_
        refine t_end ?_
        exact ⟨hg_4f g25, rfl⟩
    have hg_47 : G [true, true, true, false, false, false, true, false, false, false, false, false] [(2, .int .i64 1), (3, .int .i64 1), (8, .pointer (some ⟨b18, 0, none⟩)), (9, .slice (some ⟨g19, 0, none⟩) 1 1), (10, .slice (some ⟨g20, 0, none⟩) 1 1), (20, .slice (some ⟨N23, 1, none⟩) 1 3), (21, .int .i64 1), (22, .int .i64 0), (26, .slice (some ⟨g19, 0, none⟩) 1 1), (28, .int .i64 5), (32, .pointer (some ⟨b24, 1, none⟩))] ([⟨b24, [.int .i64 5, .int .i64 0], 2⟩, ⟨N23, [.int .i64 1, .int .i64 5, .int .i64 0, .int .i64 0, .int .i64 0, .int .i64 0, .int .i64 0], 7⟩, ⟨g20, [.int .i64 0], 1⟩, ⟨g19, [.int .i64 0], 1⟩, ⟨b18, [.int .i64 0, .int .i64 0], 2⟩, ⟨b17, [.int .i64 1, .int .i64 5, .int .i64 0, .int .i64 0, .int .i64 0, .int .i64 0, .int .i64 0], 7⟩, ⟨b16, [.int .i64 0, .int .i64 0], 2⟩] : List Own) := by
      refine hstep [3, 5, 7] _ _ _ (by kernel_rfl) (List.cons_ne_nil _ _) ⟨?_, ?_, ?_, trivial⟩
      · show T _ _ _ _ _ _ _ _
        refine t_a (.bsl rfl rfl rfl rfl) fun g25 fg25 sg25 => ?_
        refine t_keep [2, 3, 8, 9, 10, 20, 21, 22, 26, 29, 32] (σ' := [(2, .int .i64 1), (3, .int .i64 1), (8, .pointer (some ⟨b18, 0, none⟩)), (9, .slice (some ⟨g19, 0, none⟩) 1 1), (10, .slice (some ⟨g20, 0, none⟩) 1 1), (20, .slice (some ⟨N23, 1, none⟩) 1 3), (21, .int .i64 1), (22, .int .i64 0), (26, .slice (some ⟨g19, 0, none⟩) 1 1), (29, .slice (some ⟨g25, 0, none⟩) 1 1), (32, .pointer (some ⟨b24, 1, none⟩))]) (by kernel_rfl) ?_
        refine t_end ?_
        exact ⟨hg_4f g25, rfl⟩
      · show T _ _ _ _ _ _ _ _
        refine t_qz 1 [2, 3, 8, 9, 10, 20, 21, 22, 26, 28, 31, 32] (σ' := [(2, .int .i64 1), (3, .int .i64 1), (8, .pointer (some ⟨b18, 0, none⟩)), (9, .slice (some ⟨g19, 0, none⟩) 1 1), (10, .slice (some ⟨g20, 0, none⟩) 1 1), (20, .slice (some ⟨N23, 1, none⟩) 1 3), (21, .int .i64 1), (22, .int .i64 0), (26, .slice (some ⟨g19, 0, none⟩) 1 1), (28, .int .i64 5), (31, .slice (some ⟨g20, 0, none⟩) 1 1), (32, .pointer (some ⟨b24, 1, none⟩))]) (by kernel_rfl) ?_
        refine t_end ?_
        exact ⟨hg_67, rfl⟩
      · show T _ _ _ _ _ _ _ _
        refine t_v (.ld1 rfl rfl rfl (.at 0 rfl rfl)) ?_
        refine t_keep [2, 3, 8, 9, 10, 20, 21, 22, 26, 28, 33] (σ' := [(2, .int .i64 1), (3, .int .i64 1), (8, .pointer (some ⟨b18, 0, none⟩)), (9, .slice (some ⟨g19, 0, none⟩) 1 1), (10, .slice (some ⟨g20, 0, none⟩) 1 1), (20, .slice (some ⟨N23, 1, none⟩) 1 3), (21, .int .i64 1), (22, .int .i64 0), (26, .slice (some ⟨g19, 0, none⟩) 1 1), (28, .int .i64 5), (33, .int .i64 0)]) (by kernel_rfl) ?_
        refine t_end ?_
        exact ⟨hg_c7, rfl⟩
    have hg_27 : G [true, true, true, false, false, true, false, false, false, false, false, false] [(2, .int .i64 1), (3, .int .i64 1), (8, .pointer (some ⟨b18, 0, none⟩)), (9, .slice (some ⟨g19, 0, none⟩) 1 1), (10, .slice (some ⟨g20, 0, none⟩) 1 1), (12, .pointer (some ⟨b24, 0, none⟩)), (20, .slice (some ⟨N23, 1, none⟩) 1 3), (21, .int .i64 1), (22, .int .i64 0), (26, .slice (some ⟨g19, 0, none⟩) 1 1), (28, .int .i64 5), (31, .slice (some ⟨g20, 0, none⟩) 1 1)] ([⟨b24, [.int .i64 5, .int .i64 0], 2⟩, ⟨N23, [.int .i64 1, .int .i64 5, .int .i64 0, .int .i64 0, .int .i64 0, .int .i64 0, .int .i64 0], 7⟩, ⟨g20, [.int .i64 0], 1⟩, ⟨g19, [.int .i64 0], 1⟩, ⟨b18, [.int .i64 0, .int .i64 0], 2⟩, ⟨b17, [.int .i64 1, .int .i64 5, .int .i64 0, .int .i64 0, .int .i64 0, .int .i64 0, .int .i64 0], 7⟩, ⟨b16, [.int .i64 0, .int .i64 0], 2⟩] : List Own) := by
      refine hstep [3, 6] _ _ _ (by kernel_rfl) (List.cons_ne_nil _ _) ⟨?_, ?_, trivial⟩
      · show T _ _ _ _ _ _ _ _
        refine t_a (.bsl rfl rfl rfl rfl) fun g25 fg25 sg25 => ?_
        refine t_keep [2, 3, 8, 9, 10, 12, 20, 21, 22, 26, 29, 31] (σ' := [(2, .int .i64 1), (3, .int .i64 1), (8, .pointer (some ⟨b18, 0, none⟩)), (9, .slice (some ⟨g19, 0, none⟩) 1 1), (10, .slice (some ⟨g20, 0, none⟩) 1 1), (12, .pointer (some ⟨b24, 0, none⟩)), (20, .slice (some ⟨N23, 1, none⟩) 1 3), (21, .int .i64 1), (22, .int .i64 0), (26, .slice (some ⟨g19, 0, none⟩) 1 1), (29, .slice (some ⟨g25, 0, none⟩) 1 1), (31, .slice (some ⟨g20, 0, none⟩) 1 1)]) (by kernel_rfl) ?_
        refine t_end ?_
        exact ⟨hg_2f g25, rfl⟩
      · show T _ _ _ _ _ _ _ _
        refine t_qz 1 [2, 3, 8, 9, 10, 20, 21, 22, 26, 28, 31, 32] (σ' := [(2, .int .i64 1), (3, .int .i64 1), (8, .pointer (some ⟨b18, 0, none⟩)), (9, .slice (some ⟨g19, 0, none⟩) 1 1), (10, .slice (some ⟨g20, 0, none⟩) 1 1), (20, .slice (some ⟨N23, 1, none⟩) 1 3), (21, .int .i64 1), (22, .int .i64 0), (26, .slice (some ⟨g19, 0, none⟩) 1 1), (28, .int .i64 5), (31, .slice (some ⟨g20, 0, none⟩) 1 1), (32, .pointer (some ⟨b24, 1, none⟩))]) (by kernel_rfl) ?_
        refine t_end ?_
        exact ⟨hg_67, rfl⟩
    have hg_2e : ∀ (g25 : Nat), G [false, true, true, true, false, true, false, false, false, false, false, false] [(2, .int .i64 1), (3, .int .i64 1), (8, .pointer (some ⟨b18, 0, none⟩)), (9, .slice (some ⟨g19, 0, none⟩) 1 1), (10, .slice (some ⟨g20, 0, none⟩) 1 1), (12, .pointer (some ⟨b24, 0, none⟩)), (20, .slice (some ⟨N23, 1, none⟩) 1 3), (21, .int .i64 1), (22, .int .i64 0), (29, .slice (some ⟨g25, 0, none⟩) 1 1), (31, .slice (some ⟨g20, 0, none⟩) 1 1)] ([⟨g25, [.int .i64 5], 1⟩, ⟨b24, [.int .i64 5, .int .i64 0], 2⟩, ⟨N23, [.int .i64 1, .int .i64 5, .int .i64 0, .int .i64 0, .int .i64 0, .int .i64 0, .int .i64 0], 7⟩, ⟨g20, [.int .i64 0], 1⟩, ⟨g19, [.int .i64 0], 1⟩, ⟨b18, [.int .i64 0, .int .i64 0], 2⟩, ⟨b17, [.int .i64 1, .int .i64 5, .int .i64 0, .int .i64 0, .int .i64 0, .int .i64 0, .int .i64 0], 7⟩, ⟨b16, [.int .i64 0, .int .i64 0], 2⟩] : List Own) := by
      intro g25
      refine hstep [0, 6] _ _ _ (by kernel_rfl) (List.cons_ne_nil _ _) ⟨?_, ?_, trivial⟩
      · show T _ _ _ _ _ _ _ _
        refine t_qz 1 [2, 3, 8, 9, 10, 12, 20, 21, 22, 26, 29, 31] (σ' := [(2, .int .i64 1), (3, .int .i64 1), (8, .pointer (some ⟨b18, 0, none⟩)), (9, .slice (some ⟨g19, 0, none⟩) 1 1), (10, .slice (some ⟨g20, 0, none⟩) 1 1), (12, .pointer (some ⟨b24, 0, none⟩)), (20, .slice (some ⟨N23, 1, none⟩) 1 3), (21, .int .i64 1), (22, .int .i64 0), (26, .slice (some ⟨g19, 0, none⟩) 1 1), (29, .slice (some ⟨g25, 0, none⟩) 1 1), (31, .slice (some ⟨g20, 0, none⟩) 1 1)]) (by kernel_rfl) ?_
        refine t_end ?_
        exact ⟨hg_2f g25, rfl⟩
      · show T _ _ _ _ _ _ _ _
        refine t_qz 1 [2, 3, 8, 9, 10, 20, 21, 22, 29, 31, 32] (σ' := [(2, .int .i64 1), (3, .int .i64 1), (8, .pointer (some ⟨b18, 0, none⟩)), (9, .slice (some ⟨g19, 0, none⟩) 1 1), (10, .slice (some ⟨g20, 0, none⟩) 1 1), (20, .slice (some ⟨N23, 1, none⟩) 1 3), (21, .int .i64 1), (22, .int .i64 0), (29, .slice (some ⟨g25, 0, none⟩) 1 1), (31, .slice (some ⟨g20, 0, none⟩) 1 1), (32, .pointer (some ⟨b24, 1, none⟩))]) (by kernel_rfl) ?_
        refine t_end ?_
        exact ⟨hg_6e g25, rfl⟩
    have hg_1c1 : ∀ (g27 : Nat), G [true, false, false, false, false, false, true, true, true, false, false, false] [(2, .int .i64 1), (3, .int .i64 1), (8, .pointer (some ⟨b18, 0, none⟩)), (9, .slice (some ⟨g19, 0, none⟩) 1 1), (10, .slice (some ⟨g20, 0, none⟩) 1 1), (12, .pointer (some ⟨b24, 0, none⟩)), (20, .slice (some ⟨N23, 1, none⟩) 1 3), (21, .int .i64 1), (22, .int .i64 0), (26, .slice (some ⟨g19, 0, none⟩) 1 1), (34, .slice (some ⟨g27, 0, none⟩) 1 1)] ([⟨g27, [.int .i64 0], 1⟩, ⟨b24, [.int .i64 5, .int .i64 0], 2⟩, ⟨N23, [.int .i64 1, .int .i64 5, .int .i64 0, .int .i64 0, .int .i64 0, .int .i64 0, .int .i64 0], 7⟩, ⟨g20, [.int .i64 0], 1⟩, ⟨g19, [.int .i64 0], 1⟩, ⟨b18, [.int .i64 0, .int .i64 0], 2⟩, ⟨b17, [.int .i64 1, .int .i64 5, .int .i64 0, .int .i64 0, .int .i64 0, .int .i64 0, .int .i64 0], 7⟩, ⟨b16, [.int .i64 0, .int .i64 0], 2⟩] : List Own) := by
      intro g27
      refine hstep [1, 5] _ _ _ (by kernel_rfl) (List.cons_ne_nil _ _) ⟨?_, ?_, trivial⟩
      · show T _ _ _ _ _ _ _ _
        refine t_qz 1 [2, 3, 8, 9, 10, 20, 21, 22, 26, 27, 34] (σ' := [(2, .int .i64 1), (3, .int .i64 1), (8, .pointer (some ⟨b18, 0, none⟩)), (9, .slice (some ⟨g19, 0, none⟩) 1 1), (10, .slice (some ⟨g20, 0, none⟩) 1 1), (20, .slice (some ⟨N23, 1, none⟩) 1 3), (21, .int .i64 1), (22, .int .i64 0), (26, .slice (some ⟨g19, 0, none⟩) 1 1), (27, .pointer (some ⟨b24, 0, none⟩)), (34, .slice (some ⟨g27, 0, none⟩) 1 1)]) (by kernel_rfl) ?_
        refine t_end ?_
        exact ⟨hg_1c3 g27, rfl⟩
      · show T _ _ _ _ _ _ _ _
        refine t_qz 1 [2, 3, 8, 9, 10, 12, 20, 21, 22, 26, 31, 34] (σ' := [(2, .int .i64 1), (3, .int .i64 1), (8, .pointer (some ⟨b18, 0, none⟩)), (9, .slice (some ⟨g19, 0, none⟩) 1 1), (10, .slice (some ⟨g20, 0, none⟩) 1 1), (12, .pointer (some ⟨b24, 0, none⟩)), (20, .slice (some ⟨N23, 1, none⟩) 1 3), (21, .int .i64 1), (22, .int .i64 0), (26, .slice (some ⟨g19, 0, none⟩) 1 1), (31, .slice (some ⟨g20, 0, none⟩) 1 1), (34, .slice (some ⟨g27, 0, none⟩) 1 1)]) (by kernel_rfl) ?_
        refine t_end ?_
        exact ⟨hg_1e1 g27, rfl⟩
    have hg_1c2 : ∀ (g27 : Nat), G [false, true, false, false, false, false, true, true, true, false, false, false] [(2, .int .i64 1), (3, .int .i64 1), (8, .pointer (some ⟨b18, 0, none⟩)), (9, .slice (some ⟨g19, 0, none⟩) 1 1), (10, .slice (some ⟨g20, 0, none⟩) 1 1), (20, .slice (some ⟨N23, 1, none⟩) 1 3), (21, .int .i64 1), (22, .int .i64 0), (27, .pointer (some ⟨b24, 0, none⟩)), (34, .slice (some ⟨g27, 0, none⟩) 1 1)] ([⟨g27, [.int .i64 0], 1⟩, ⟨b24, [.int .i64 5, .int .i64 0], 2⟩, ⟨N23, [.int .i64 1, .int .i64 5, .int .i64 0, .int .i64 0, .int .i64 0, .int .i64 0, .int .i64 0], 7⟩, ⟨g20, [.int .i64 0], 1⟩, ⟨g19, [.int .i64 0], 1⟩, ⟨b18, [.int .i64 0, .int .i64 0], 2⟩, ⟨b17, [.int .i64 1, .int .i64 5, .int .i64 0, .int .i64 0, .int .i64 0, .int .i64 0, .int .i64 0], 7⟩, ⟨b16, [.int .i64 0, .int .i64 0], 2⟩] : List Own) := by
      intro g27
      refine hstep [0, 2, 5] _ _ _ (by kernel_rfl) (List.cons_ne_nil _ _) ⟨?_, ?_, ?_, trivial⟩
      · show T _ _ _ _ _ _ _ _
        refine t_qz 1 [2, 3, 8, 9, 10, 20, 21, 22, 26, 27, 34] (σ' := [(2, .int .i64 1), (3, .int .i64 1), (8, .pointer (some ⟨b18, 0, none⟩)), (9, .slice (some ⟨g19, 0, none⟩) 1 1), (10, .slice (some ⟨g20, 0, none⟩) 1 1), (20, .slice (some ⟨N23, 1, none⟩) 1 3), (21, .int .i64 1), (22, .int .i64 0), (26, .slice (some ⟨g19, 0, none⟩) 1 1), (27, .pointer (some ⟨b24, 0, none⟩)), (34, .slice (some ⟨g27, 0, none⟩) 1 1)]) (by kernel_rfl) ?_
        refine t_end ?_
        exact ⟨hg_1c3 g27, rfl⟩
      · show T _ _ _ _ _ _ _ _
        refine t_v (.ld1 rfl rfl rfl (.at 1 rfl rfl)) ?_
        refine t_keep [2, 3, 8, 9, 10, 20, 21, 22, 28, 34] (σ' := [(2, .int .i64 1), (3, .int .i64 1), (8, .pointer (some ⟨b18, 0, none⟩)), (9, .slice (some ⟨g19, 0, none⟩) 1 1), (10, .slice (some ⟨g20, 0, none⟩) 1 1), (20, .slice (some ⟨N23, 1, none⟩) 1 3), (21, .int .i64 1), (22, .int .i64 0), (28, .int .i64 5), (34, .slice (some ⟨g27, 0, none⟩) 1 1)]) (by kernel_rfl) ?_
        refine t_end ?_
        exact ⟨hg_1c6 g27, rfl⟩
      · show T _ _ _ _ _ _ _ _
        refine t_qz 1 [2, 3, 8, 9, 10, 20, 21, 22, 27, 31, 34] (σ' := [(2, .int .i64 1), (3, .int .i64 1), (8, .pointer (some ⟨b18, 0, none⟩)), (9, .slice (some ⟨g19, 0, none⟩) 1 1), (10, .slice (some ⟨g20, 0, none⟩) 1 1), (20, .slice (some ⟨N23, 1, none⟩) 1 3), (21, .int .i64 1), (22, .int .i64 0), (27, .pointer (some ⟨b24, 0, none⟩)), (31, .slice (some ⟨g20, 0, none⟩) 1 1), (34, .slice (some ⟨g27, 0, none⟩) 1 1)]) (by kernel_rfl) ?_
        refine t_end ?_
        exact ⟨hg_1e2 g27, rfl⟩
    have hg_c3 : G [true, true, false, false, false, false, true, true, false, false, false, false] [(2, .int .i64 1), (3, .int .i64 1), (8, .pointer (some ⟨b18, 0, none⟩)), (9, .slice (some ⟨g19, 0, none⟩) 1 1), (10, .slice (some ⟨g20, 0, none⟩) 1 1), (20, .slice (some ⟨N23, 1, none⟩) 1 3), (21, .int .i64 1), (22, .int .i64 0), (26, .slice (some ⟨g19, 0, none⟩) 1 1), (27, .pointer (some ⟨b24, 0, none⟩)), (33, .int .i64 0)] ([⟨b24, [.int .i64 5, .int .i64 0], 2⟩, ⟨N23, [.int .i64 1, .int .i64 5, .int .i64 0, .int .i64 0, .int .i64 0, .int .i64 0, .int .i64 0], 7⟩, ⟨g20, [.int .i64 0], 1⟩, ⟨g19, [.int .i64 0], 1⟩, ⟨b18, [.int .i64 0, .int .i64 0], 2⟩, ⟨b17, [.int .i64 1, .int .i64 5, .int .i64 0, .int .i64 0, .int .i64 0, .int .i64 0, .int .i64 0], 7⟩, ⟨b16, [.int .i64 0, .int .i64 0], 2⟩] : List Own) := by
      refine hstep [2, 5, 8] _ _ _ (by kernel_rfl) (List.cons_ne_nil _ _) ⟨?_, ?_, ?_, trivial⟩
      · show T _ _ _ _ _ _ _ _
        refine t_v (.ld1 rfl rfl rfl (.at 0 rfl rfl)) ?_
        refine t_keep [2, 3, 8, 9, 10, 20, 21, 22, 26, 28, 33] (σ' := [(2, .int .i64 1), (3, .int .i64 1), (8, .pointer (some ⟨b18, 0, none⟩)), (9, .slice (some ⟨g19, 0, none⟩) 1 1), (10, .slice (some ⟨g20, 0, none⟩) 1 1), (20, .slice (some ⟨N23, 1, none⟩) 1 3), (21, .int .i64 1), (22, .int .i64 0), (26, .slice (some ⟨g19, 0, none⟩) 1 1), (28, .int .i64 5), (33, .int .i64 0)]) (by kernel_rfl) ?_
        refine t_end ?_
        exact ⟨hg_c7, rfl⟩
      · show T _ _ _ _ _ _ _ _
        refine t_qz 1 [2, 3, 8, 9, 10, 20, 21, 22, 26, 27, 31, 33] (σ' := [(2, .int .i64 1), (3, .int .i64 1), (8, .pointer (some ⟨b18, 0, none⟩)), (9, .slice (some ⟨g19, 0, none⟩) 1 1), (10, .slice (some ⟨g20, 0, none⟩) 1 1), (20, .slice (some ⟨N23, 1, none⟩) 1 3), (21, .int .i64 1), (22, .int .i64 0), (26, .slice (some ⟨g19, 0, none⟩) 1 1), (27, .pointer (some ⟨b24, 0, none⟩)), (31, .slice (some ⟨g20, 0, none⟩) 1 1), (33, .int .i64 0)]) (by kernel_rfl) ?_
        refine t_end ?_
        exact ⟨hg_e3, rfl⟩
      · show T _ _ _ _ _ _ _ _
        refine t_a (.bsl rfl rfl rfl rfl) fun g27 fg27 sg27 => ?_
        refine t_keep [2, 3, 8, 9, 10, 20, 21, 22, 26, 27, 34] (σ' := [(2, .int .i64 1), (3, .int .i64 1), (8, .pointer (some ⟨b18, 0, none⟩)), (9, .slice (some ⟨g19, 0, none⟩) 1 1), (10, .slice (some ⟨g20, 0, none⟩) 1 1), (20, .slice (some ⟨N23, 1, none⟩) 1 3), (21, .int .i64 1), (22, .int .i64 0), (26, .slice (some ⟨g19, 0, none⟩) 1 1), (27, .pointer (some ⟨b24, 0, none⟩)), (34, .slice (some ⟨g27, 0, none⟩) 1 1)]) (by kernel_rfl) ?_
        refine t_end ?_
        exact ⟨hg_1c3 g27, rfl⟩
    have hg_c6 : G [false, true, true, false, false, false, true, true, false, false, false, false] [(2, .int .i64 1), (3, .int .i64 1), (8, .pointer (some ⟨b18, 0, none⟩)), (9, .slice (some ⟨g19, 0, none⟩) 1 1), (10, .slice (some ⟨g20, 0, none⟩) 1 1), (20, .slice (some ⟨N23, 1, none⟩) 1 3), (21, .int .i64 1), (22, .int .i64 0), (28, .int .i64 5), (33, .int .i64 0)] ([⟨b24, [.int .i64 5, .int .i64 0], 2⟩, ⟨N23, [.int .i64 1, .int .i64 5, .int .i64 0, .int .i64 0, .int .i64 0, .int .i64 0, .int .i64 0], 7⟩, ⟨g20, [.int .i64 0], 1⟩, ⟨g19, [.int .i64 0], 1⟩, ⟨b18, [.int .i64 0, .int .i64 0], 2⟩, ⟨b17, [.int .i64 1, .int .i64 5, .int .i64 0, .int .i64 0, .int .i64 0, .int .i64 0, .int .i64 0], 7⟩, ⟨b16, [.int .i64 0, .int .i64 0], 2⟩] : List Own) := by
      refine hstep [0, 3, 5, 8] _ _ _ (by kernel_rfl) (List.cons_ne_nil _ _) ⟨?_, ?_, ?_, ?_, trivial⟩
      · show T _ _ _ _ _ _ _ _
        refine t_qz 1 [2, 3, 8, 9, 10, 20, 21, 22, 26, 28, 33] (σ' := [(2, .int .i64 1), (3, .int .i64 1), (8, .pointer (some ⟨b18, 0, none⟩)), (9, .slice (some ⟨g19, 0, none⟩) 1 1), (10, .slice (some ⟨g20, 0, none⟩) 1 1), (20, .slice (some ⟨N23, 1, none⟩) 1 3), (21, .int .i64 1), (22, .int .i64 0), (26, .slice (some ⟨g19, 0, none⟩) 1 1), (28, .int .i64 5), (33, .int .i64 0)]) (by kernel_rfl) ?_
        refine t_end ?_
        exact ⟨hg_c7, rfl⟩
      · show T _ _ _ _ _ _ _ _
        refine t_a (.bsl rfl rfl rfl rfl) fun g25 fg25 sg25 => ?_
        refine t_keep [2, 3, 8, 9, 10, 20, 21, 22, 29, 33] (σ' := [(2, .int .i64 1), (3, .int .i64 1), (8, .pointer (some ⟨b18, 0, none⟩)), (9, .slice (some ⟨g19, 0, none⟩) 1 1), (10, .slice (some ⟨g20, 0, none⟩) 1 1), (20, .slice (some ⟨N23, 1, none⟩) 1 3), (21, .int .i64 1), (22, .int .i64 0), (29, .slice (some ⟨g25, 0, none⟩) 1 1), (33, .int .i64 0)]) (by kernel_rfl) ?_
        refine t_end ?_
        exact ⟨hg_ce g25, rfl⟩
      · show T _ _ _ _ _ _ _ _
        refine t_qz 1 [2, 3, 8, 9, 10, 20, 21, 22, 28, 31, 33] (σ' := [(2, .int .i64 1), (3, .int .i64 1), (8, .pointer (some ⟨b18, 0, none⟩)), (9, .slice (some ⟨g19, 0, none⟩) 1 1), (10, .slice (some ⟨g20, 0, none⟩) 1 1), (20, .slice (some ⟨N23, 1, none⟩) 1 3), (21, .int .i64 1), (22, .int .i64 0), (28, .int .i64 5), (31, .slice (some ⟨g20, 0, none⟩) 1 1), (33, .int .i64 0)]) (by kernel_rfl) ?_
        refine t_end ?_
        exact ⟨hg_e6, rfl⟩
      · show T _ _ _ _ _ _ _ _
        refine t_a (.bsl rfl rfl rfl rfl) fun g27 fg27 sg27 => ?_
        refine t_keep [2, 3, 8, 9, 10, 20, 21, 22, 28, 34] (σ' := [(2, .int .i64 1), (3, .int .i64 1), (8, .pointer (some ⟨b18, 0, none⟩)), (9, .slice (some ⟨g19, 0, none⟩) 1 1), (10, .slice (some ⟨g20, 0, none⟩) 1 1), (20, .slice (some ⟨N23, 1, none⟩) 1 3), (21, .int .i64 1), (22, .int .i64 0), (28, .int .i64 5), (34, .slice (some ⟨g27, 0, none⟩) 1 1)]) (by kernel_rfl) ?_
        refine t_end ?_
        exact ⟨hg_1c6 g27, rfl⟩
    have hg_4e : ∀ (g25 : Nat), G [false, true, true, true, false, false, true, false, false, false, false, false] [(2, .int .i64 1), (3, .int .i64 1), (8, .pointer (some ⟨b18, 0, none⟩)), (9, .slice (some ⟨g19, 0, none⟩) 1 1), (10, .slice (some ⟨g20, 0, none⟩) 1 1), (20, .slice (some ⟨N23, 1, none⟩) 1 3), (21, .int .i64 1), (22, .int .i64 0), (29, .slice (some ⟨g25, 0, none⟩) 1 1), (32, .pointer (some ⟨b24, 1, none⟩))] ([⟨g25, [.int .i64 5], 1⟩, ⟨b24, [.int .i64 5, .int .i64 0], 2⟩, ⟨N23, [.int .i64 1, .int .i64 5, .int .i64 0, .int .i64 0, .int .i64 0, .int .i64 0, .int .i64 0], 7⟩, ⟨g20, [.int .i64 0], 1⟩, ⟨g19, [.int .i64 0], 1⟩, ⟨b18, [.int .i64 0, .int .i64 0], 2⟩, ⟨b17, [.int .i64 1, .int .i64 5, .int .i64 0, .int .i64 0, .int .i64 0, .int .i64 0, .int .i64 0], 7⟩, ⟨b16, [.int .i64 0, .int .i64 0], 2⟩] : List Own) := by
      intro g25
      refine hstep [0, 5, 7] _ _ _ (by kernel_rfl) (List.cons_ne_nil _ _) ⟨?_, ?_, ?_, trivial⟩
      · show T _ _ _ _ _ _ _ _
        refine t_qz 1 [2, 3, 8, 9, 10, 20, 21, 22, 26, 29, 32] (σ' := [(2, .int .i64 1), (3, .int .i64 1), (8, .pointer (some ⟨b18, 0, none⟩)), (9, .slice (some ⟨g19, 0, none⟩) 1 1), (10, .slice (some ⟨g20, 0, none⟩) 1 1), (20, .slice (some ⟨N23, 1, none⟩) 1 3), (21, .int .i64 1), (22, .int .i64 0), (26, .slice (some ⟨g19, 0, none⟩) 1 1), (29, .slice (some ⟨g25, 0, none⟩) 1 1), (32, .pointer (some ⟨b24, 1, none⟩))]) (by kernel_rfl) ?_
        refine t_end ?_
        exact ⟨hg_4f g25, rfl⟩
      · show T _ _ _ _ _ _ _ _
        refine t_qz 1 [2, 3, 8, 9, 10, 20, 21, 22, 29, 31, 32] (σ' := [(2, .int .i64 1), (3, .int .i64 1), (8, .pointer (some ⟨b18, 0, none⟩)), (9, .slice (some ⟨g19, 0, none⟩) 1 1), (10, .slice (some ⟨g20, 0, none⟩) 1 1), (20, .slice (some ⟨N23, 1, none⟩) 1 3), (21, .int .i64 1), (22, .int .i64 0), (29, .slice (some ⟨g25, 0, none⟩) 1 1), (31, .slice (some ⟨g20, 0, none⟩) 1 1), (32, .pointer (some ⟨b24, 1, none⟩))]) (by kernel_rfl) ?_
        refine t_end ?_
        exact ⟨hg_6e g25, rfl⟩
      · show T _ _ _ _ _ _ _ _
        refine t_v (.ld1 rfl rfl rfl (.at 1 rfl rfl)) ?_
        refine t_keep [2, 3, 8, 9, 10, 20, 21, 22, 29, 33] (σ' := [(2, .int .i64 1), (3, .int .i64 1), (8, .pointer (some ⟨b18, 0, none⟩)), (9, .slice (some ⟨g19, 0, none⟩) 1 1), (10, .slice (some ⟨g20, 0, none⟩) 1 1), (20, .slice (some ⟨N23, 1, none⟩) 1 3), (21, .int .i64 1), (22, .int .i64 0), (29, .slice (some ⟨g25, 0, none⟩) 1 1), (33, .int .i64 0)]) (by kernel_rfl) ?_
        refine t_end ?_
        exact ⟨hg_ce g25, rfl⟩
    have hg_1e0 : ∀ (g27 : Nat), G [false, false, false, false, false, true, true, true, true, false, false, false] [(2, .int .i64 1), (3, .int .i64 1), (8, .pointer (some ⟨b18, 0, none⟩)), (9, .slice (some ⟨g19, 0, none⟩) 1 1), (10, .slice (some ⟨g20, 0, none⟩) 1 1), (12, .pointer (some ⟨b24, 0, none⟩)), (20, .slice (some ⟨N23, 1, none⟩) 1 3), (21, .int .i64 1), (22, .int .i64 0), (31, .slice (some ⟨g20, 0, none⟩) 1 1), (34, .slice (some ⟨g27, 0, none⟩) 1 1)] ([⟨g27, [.int .i64 0], 1⟩, ⟨b24, [.int .i64 5, .int .i64 0], 2⟩, ⟨N23, [.int .i64 1, .int .i64 5, .int .i64 0, .int .i64 0, .int .i64 0, .int .i64 0, .int .i64 0], 7⟩, ⟨g20, [.int .i64 0], 1⟩, ⟨g19, [.int .i64 0], 1⟩, ⟨b18, [.int .i64 0, .int .i64 0], 2⟩, ⟨b17, [.int .i64 1, .int .i64 5, .int .i64 0, .int .i64 0, .int .i64 0, .int .i64 0, .int .i64 0], 7⟩, ⟨b16, [.int .i64 0, .int .i64 0], 2⟩] : List Own) := by
      intro g27
      refine hstep [0, 1] _ _ _ (by kernel_rfl) (List.cons_ne_nil _ _) ⟨?_, ?_, trivial⟩
      · show T _ _ _ _ _ _ _ _
        refine t_qz 1 [2, 3, 8, 9, 10, 12, 20, 21, 22, 26, 31, 34] (σ' := [(2, .int .i64 1), (3, .int .i64 1), (8, .pointer (some ⟨b18, 0, none⟩)), (9, .slice (some ⟨g19, 0, none⟩) 1 1), (10, .slice (some ⟨g20, 0, none⟩) 1 1), (12, .pointer (some ⟨b24, 0, none⟩)), (20, .slice (some ⟨N23, 1, none⟩) 1 3), (21, .int .i64 1), (22, .int .i64 0), (26, .slice (some ⟨g19, 0, none⟩) 1 1), (31, .slice (some ⟨g20, 0, none⟩) 1 1), (34, .slice (some ⟨g27, 0, none⟩) 1 1)]) (by kernel_rfl) ?_
        refine t_end ?_
        exact ⟨hg_1e1 g27, rfl⟩
      · show T _ _ _ _ _ _ _ _
        refine t_qz 1 [2, 3, 8, 9, 10, 20, 21, 22, 27, 31, 34] (σ' := [(2, .int .i64 1), (3, .int .i64 1), (8, .pointer (some ⟨b18, 0, none⟩)), (9, .slice (some ⟨g19, 0, none⟩) 1 1), (10, .slice (some ⟨g20, 0, none⟩) 1 1), (20, .slice (some ⟨N23, 1, none⟩) 1 3), (21, .int .i64 1), (22, .int .i64 0), (27, .pointer (some ⟨b24, 0, none⟩)), (31, .slice (some ⟨g20, 0, none⟩) 1 1), (34, .slice (some ⟨g27, 0, none⟩) 1 1)]) (by kernel_rfl) ?_
        refine t_end ?_
        exact ⟨hg_1e2 g27, rfl⟩
    have hg_e1 : G [true, false, false, false, false, true, true, true, false, false, false, false] [(2, .int .i64 1), (3, .int .i64 1), (8, .pointer (some ⟨b18, 0, none⟩)), (9, .slice (some ⟨g19, 0, none⟩) 1 1), (10, .slice (some ⟨g20, 0, none⟩) 1 1), (12, .pointer (some ⟨b24, 0, none⟩)), (20, .slice (some ⟨N23, 1, none⟩) 1 3), (21, .int .i64 1), (22, .int .i64 0), (26, .slice (some ⟨g19, 0, none⟩) 1 1), (31, .slice (some ⟨g20, 0, none⟩) 1 1), (33, .int .i64 0)] ([⟨b24, [.int .i64 5, .int .i64 0], 2⟩, ⟨N23, [.int .i64 1, .int .i64 5, .int .i64 0, .int .i64 0, .int .i64 0, .int .i64 0, .int .i64 0], 7⟩, ⟨g20, [.int .i64 0], 1⟩, ⟨g19, [.int .i64 0], 1⟩, ⟨b18, [.int .i64 0, .int .i64 0], 2⟩, ⟨b17, [.int .i64 1, .int .i64 5, .int .i64 0, .int .i64 0, .int .i64 0, .int .i64 0, .int .i64 0], 7⟩, ⟨b16, [.int .i64 0, .int .i64 0], 2⟩] : List Own) := by
      refine hstep [1, 8] _ _ _ (by kernel_rfl) (List.cons_ne_nil _ _) ⟨?_, ?_, trivial⟩
      · show T _ _ _ _ _ _ _ _
        refine t_qz 1 [2, 3, 8, 9, 10, 20, 21, 22, 26, 27, 31, 33] (σ' := [(2, .int .i64 1), (3, .int .i64 1), (8, .pointer (some ⟨b18, 0, none⟩)), (9, .slice (some ⟨g19, 0, none⟩) 1 1), (10, .slice (some ⟨g20, 0, none⟩) 1 1), (20, .slice (some ⟨N23, 1, none⟩) 1 3), (21, .int .i64 1), (22, .int .i64 0), (26, .slice (some ⟨g19, 0, none⟩) 1 1), (27, .pointer (some ⟨b24, 0, none⟩)), (31, .slice (some ⟨g20, 0, none⟩) 1 1), (33, .int .i64 0)]) (by kernel_rfl) ?_
        refine t_end ?_
        exact ⟨hg_e3, rfl⟩
      · show T _ _ _ _ _ _ _ _
        refine t_a (.bsl rfl rfl rfl rfl) fun g27 fg27 sg27 => ?_
        refine t_keep [2, 3, 8, 9, 10, 12, 20, 21, 22, 26, 31, 34] (σ' := [(2, .int .i64 1), (3, .int .i64 1), (8, .pointer (some ⟨b18, 0, none⟩)), (9, .slice (some ⟨g19, 0, none⟩) 1 1), (10, .slice (some ⟨g20, 0, none⟩) 1 1), (12, .pointer (some ⟨b24, 0, none⟩)), (20, .slice (some ⟨N23, 1, none⟩) 1 3), (21, .int .i64 1), (22, .int .i64 0), (26, .slice (some ⟨g19, 0, none⟩) 1 1), (31, .slice (some ⟨g20, 0, none⟩) 1 1), (34, .slice (some ⟨g27, 0, none⟩) 1 1)]) (by kernel_rfl) ?_
        refine t_end ?_
        exact ⟨hg_1e1 g27, rfl⟩
    have hg_e2 : G [false, true, false, false, false, true, true, true, false, false, false, false] [(2, .int .i64 1), (3, .int .i64 1), (8, .pointer (some ⟨b18, 0, none⟩)), (9, .slice (some ⟨g19, 0, none⟩) 1 1), (10, .slice (some ⟨g20, 0, none⟩) 1 1), (20, .slice (some ⟨N23, 1, none⟩) 1 3), (21, .int .i64 1), (22, .int .i64 0), (27, .pointer (some ⟨b24, 0, none⟩)), (31, .slice (some ⟨g20, 0, none⟩) 1 1), (33, .int .i64 0)] ([⟨b24, [.int .i64 5, .int .i64 0], 2⟩, ⟨N23, [.int .i64 1, .int .i64 5, .int .i64 0, .int .i64 0, .int .i64 0, .int .i64 0, .int .i64 0], 7⟩, ⟨g20, [.int .i64 0], 1⟩, ⟨g19, [.int .i64 0], 1⟩, ⟨b18, [.int .i64 0, .int .i64 0], 2⟩, ⟨b17, [.int .i64 1, .int .i64 5, .int .i64 0, .int .i64 0, .int .i64 0, .int .i64 0, .int .i64 0], 7⟩, ⟨b16, [.int .i64 0, .int .i64 0], 2⟩] : List Own) := by
      refine hstep [0, 2, 8] _ _ _ (by kernel_rfl) (List.cons_ne_nil _ _) ⟨?_, ?_, ?_, trivial⟩
      · show T _ _ _ _ _ _ _ _
        refine t_qz 1 [2, 3, 8, 9, 10, 20, 21, 22, 26, 27, 31, 33] (σ' := [(2, .int .i64 1), (3, .int .i64 1), (8, .pointer (some ⟨b18, 0, none⟩)), (9, .slice (some ⟨g19, 0, none⟩) 1 1), (10, .slice (some ⟨g20, 0, none⟩) 1 1), (20, .slice (some ⟨N23, 1, none⟩) 1 3), (21, .int .i64 1), (22, .int .i64 0), (26, .slice (some ⟨g19, 0, none⟩) 1 1), (27, .pointer (some ⟨b24, 0, none⟩)), (31, .slice (some ⟨g20, 0, none⟩) 1 1), (33, .int .i64 0)]) (by kernel_rfl) ?_
        refine t_end ?_
        exact ⟨hg_e3, rfl⟩
      · show T _ _ _ _ _ _ _ _
        refine t_v (.ld1 rfl rfl rfl (.at 0 rfl rfl)) ?_
        refine t_keep [2, 3, 8, 9, 10, 20, 21, 22, 28, 31, 33] (σ' := [(2, .int .i64 1), (3, .int .i64 1), (8, .pointer (some ⟨b18, 0, none⟩)), (9, .slice (some ⟨g19, 0, none⟩) 1 1), (10, .slice (some ⟨g20, 0, none⟩) 1 1), (20, .slice (some ⟨N23, 1, none⟩) 1 3), (21, .int .i64 1), (22, .int .i64 0), (28, .int .i64 5), (31, .slice (some ⟨g20, 0, none⟩) 1 1), (33, .int .i64 0)]) (by kernel_rfl) ?_
        refine t_end ?_
        exact ⟨hg_e6, rfl⟩
      · show T _ _ _ _ _ _ _ _
        refine t_a (.bsl rfl rfl rfl rfl) fun g27 fg27 sg27 => ?_
        refine t_keep [2, 3, 8, 9, 10, 20, 21, 22, 27, 31, 34] (σ' := [(2, .int .i64 1), (3, .int .i64 1), (8, .pointer (some ⟨b18, 0, none⟩)), (9, .slice (some ⟨g19, 0, none⟩) 1 1), (10, .slice (some ⟨g20, 0, none⟩) 1 1), (20, .slice (some ⟨N23, 1, none⟩) 1 3), (21, .int .i64 1), (22, .int .i64 0), (27, .pointer (some ⟨b24, 0, none⟩)), (31, .slice (some ⟨g20, 0, none⟩) 1 1), (34, .slice (some ⟨g27, 0, none⟩) 1 1)]) (by kernel_rfl) ?_
        refine t_end ?_
        exact ⟨hg_1e2 g27, rfl⟩
    have hg_63 : G [true, true, false, false, false, true, true, false, false, false, false, false] [(2, .int .i64 1), (3, .int .i64 1), (8, .pointer (some ⟨b18, 0, none⟩)), (9, .slice (some ⟨g19, 0, none⟩) 1 1), (10, .slice (some ⟨g20, 0, none⟩) 1 1), (20, .slice (some ⟨N23, 1, none⟩) 1 3), (21, .int .i64 1), (22, .int .i64 0), (26, .slice (some ⟨g19, 0, none⟩) 1 1), (27, .pointer (some ⟨b24, 0, none⟩)), (31, .slice (some ⟨g20, 0, none⟩) 1 1), (32, .pointer (some ⟨b24, 1, none⟩))] ([⟨b24, [.int .i64 5, .int .i64 0], 2⟩, ⟨N23, [.int .i64 1, .int .i64 5, .int .i64 0, .int .i64 0, .int .i64 0, .int .i64 0, .int .i64 0], 7⟩, ⟨g20, [.int .i64 0], 1⟩, ⟨g19, [.int .i64 0], 1⟩, ⟨b18, [.int .i64 0, .int .i64 0], 2⟩, ⟨b17, [.int .i64 1, .int .i64 5, .int .i64 0, .int .i64 0, .int .i64 0, .int .i64 0, .int .i64 0], 7⟩, ⟨b16, [.int .i64 0, .int .i64 0], 2⟩] : List Own) := by
      refine hstep [2, 7] _ _ _ (by kernel_rfl) (List.cons_ne_nil _ _) ⟨?_, ?_, trivial⟩
      · show T _ _ _ _ _ _ _ _
        refine t_v (.ld1 rfl rfl rfl (.at 0 rfl rfl)) ?_
        refine t_keep [2, 3, 8, 9, 10, 20, 21, 22, 26, 28, 31, 32] (σ' := [(2, .int .i64 1), (3, .int .i64 1), (8, .pointer (some ⟨b18, 0, none⟩)), (9, .slice (some ⟨g19, 0, none⟩) 1 1), (10, .slice (some ⟨g20, 0, none⟩) 1 1), (20, .slice (some ⟨N23, 1, none⟩) 1 3), (21, .int .i64 1), (22, .int .i64 0), (26, .slice (some ⟨g19, 0, none⟩) 1 1), (28, .int .i64 5), (31, .slice (some ⟨g20, 0, none⟩) 1 1), (32, .pointer (some ⟨b24, 1, none⟩))]) (by kernel_rfl) ?_
        refine t_end ?_
        exact ⟨hg_67, rfl⟩
      · show T _ _ _ _ _ _ _ _
        refine t_v (.ld1 rfl rfl rfl (.at 0 rfl rfl)) ?_
        refine t_keep [2, 3, 8, 9, 10, 20, 21, 22, 26, 27, 31, 33] (σ' := [(2, .int .i64 1), (3, .int .i64 1), (8, .pointer (some ⟨b18, 0, none⟩)), (9, .slice (some ⟨g19, 0, none⟩) 1 1), (10, .slice (some ⟨g20, 0, none⟩) 1 1), (20, .slice (some ⟨N23, 1, none⟩) 1 3), (21, .int .i64 1), (22, .int .i64 0), (26, .slice (some ⟨g19, 0, none⟩) 1 1), (27, .pointer (some ⟨b24, 0, none⟩)), (31, .slice (some ⟨g20, 0, none⟩) 1 1), (33, .int .i64 0)]) (by kernel_rfl) ?_
        refine t_end ?_
        exact ⟨hg_e3, rfl⟩
    have hg_7 : G [true, true, true, false, false, false, false, false, false, false, false, false] [(2, .int .i64 1), (3, .int .i64 1), (8, .pointer (some ⟨b18, 0, none⟩)), (9, .slice (some ⟨g19, 0, none⟩) 1 1), (10, .slice (some ⟨g20, 0, none⟩) 1 1), (12, .pointer (some ⟨b24, 0, none⟩)), (20, .slice (some ⟨N23, 1, none⟩) 1 3), (21, .int .i64 1), (22, .int .i64 0), (26, .slice (some ⟨g19, 0, none⟩) 1 1), (28, .int .i64 5)] ([⟨b24, [.int .i64 5, .int .i64 0], 2⟩, ⟨N23, [.int .i64 1, .int .i64 5, .int .i64 0, .int .i64 0, .int .i64 0, .int .i64 0, .int .i64 0], 7⟩, ⟨g20, [.int .i64 0], 1⟩, ⟨g19, [.int .i64 0], 1⟩, ⟨b18, [.int .i64 0, .int .i64 0], 2⟩, ⟨b17, [.int .i64 1, .int .i64 5, .int .i64 0, .int .i64 0, .int .i64 0, .int .i64 0, .int .i64 0], 7⟩, ⟨b16, [.int .i64 0, .int .i64 0], 2⟩] : List Own) := by
      refine hstep [3, 5, 6] _ _ _ (by kernel_rfl) (List.cons_ne_nil _ _) ⟨?_, ?_, ?_, trivial⟩
      · show T _ _ _ _ _ _ _ _
        refine t_a (.bsl rfl rfl rfl rfl) fun g25 fg25 sg25 => ?_
        refine t_keep [2, 3, 8, 9, 10, 12, 20, 21, 22, 26, 29] (σ' := [(2, .int .i64 1), (3, .int .i64 1), (8, .pointer (some ⟨b18, 0, none⟩)), (9, .slice (some ⟨g19, 0, none⟩) 1 1), (10, .slice (some ⟨g20, 0, none⟩) 1 1), (12, .pointer (some ⟨b24, 0, none⟩)), (20, .slice (some ⟨N23, 1, none⟩) 1 3), (21, .int .i64 1), (22, .int .i64 0), (26, .slice (some ⟨g19, 0, none⟩) 1 1), (29, .slice (some ⟨g25, 0, none⟩) 1 1)]) (by kernel_rfl) ?_
        refine t_end ?_
        exact ⟨hg_f g25, rfl⟩
      · show T _ _ _ _ _ _ _ _
        refine t_qz 1 [2, 3, 8, 9, 10, 12, 20, 21, 22, 26, 28, 31] (σ' := [(2, .int .i64 1), (3, .int .i64 1), (8, .pointer (some ⟨b18, 0, none⟩)), (9, .slice (some ⟨g19, 0, none⟩) 1 1), (10, .slice (some ⟨g20, 0, none⟩) 1 1), (12, .pointer (some ⟨b24, 0, none⟩)), (20, .slice (some ⟨N23, 1, none⟩) 1 3), (21, .int .i64 1), (22, .int .i64 0), (26, .slice (some ⟨g19, 0, none⟩) 1 1), (28, .int .i64 5), (31, .slice (some ⟨g20, 0, none⟩) 1 1)]) (by kernel_rfl) ?_
        refine t_end ?_
        exact ⟨hg_27, rfl⟩
      · show T _ _ _ _ _ _ _ _
        refine t_qz 1 [2, 3, 8, 9, 10, 20, 21, 22, 26, 28, 32] (σ' := [(2, .int .i64 1), (3, .int .i64 1), (8, .pointer (some ⟨b18, 0, none⟩)), (9, .slice (some ⟨g19, 0, none⟩) 1 1), (10, .slice (some ⟨g20, 0, none⟩) 1 1), (20, .slice (some ⟨N23, 1, none⟩) 1 3), (21, .int .i64 1), (22, .int .i64 0), (26, .slice (some ⟨g19, 0, none⟩) 1 1), (28, .int .i64 5), (32, .pointer (some ⟨b24, 1, none⟩))]) (by kernel_rfl) ?_
        refine t_end ?_
        exact ⟨hg_47, rfl⟩
    have hg_e : ∀ (g25 : Nat), G [false, true, true, true, false, false, false, false, false, false, false, false] [(2, .int .i64 1), (3, .int .i64 1), (8, .pointer (some ⟨b18, 0, none⟩)), (9, .slice (some ⟨g19, 0, none⟩) 1 1), (10, .slice (some ⟨g20, 0, none⟩) 1 1), (12, .pointer (some ⟨b24, 0, none⟩)), (20, .slice (some ⟨N23, 1, none⟩) 1 3), (21, .int .i64 1), (22, .int .i64 0), (29, .slice (some ⟨g25, 0, none⟩) 1 1)] ([⟨g25, [.int .i64 5], 1⟩, ⟨b24, [.int .i64 5, .int .i64 0], 2⟩, ⟨N23, [.int .i64 1, .int .i64 5, .int .i64 0, .int .i64 0, .int .i64 0, .int .i64 0, .int .i64 0], 7⟩, ⟨g20, [.int .i64 0], 1⟩, ⟨g19, [.int .i64 0], 1⟩, ⟨b18, [.int .i64 0, .int .i64 0], 2⟩, ⟨b17, [.int .i64 1, .int .i64 5, .int .i64 0, .int .i64 0, .int .i64 0, .int .i64 0, .int .i64 0], 7⟩, ⟨b16, [.int .i64 0, .int .i64 0], 2⟩] : List Own) := by
      intro g25
      refine hstep [0, 5, 6] _ _ _ (by kernel_rfl) (List.cons_ne_nil _ _) ⟨?_, ?_, ?_, trivial⟩
      · show T _ _ _ _ _ _ _ _
        refine t_qz 1 [2, 3, 8, 9, 10, 12, 20, 21, 22, 26, 29] (σ' := [(2, .int .i64 1), (3, .int .i64 1), (8, .pointer (some ⟨b18, 0, none⟩)), (9, .slice (some ⟨g19, 0, none⟩) 1 1), (10, .slice (some ⟨g20, 0, none⟩) 1 1), (12, .pointer (some ⟨b24, 0, none⟩)), (20, .slice (some ⟨N23, 1, none⟩) 1 3), (21, .int .i64 1), (22, .int .i64 0), (26, .slice (some ⟨g19, 0, none⟩) 1 1), (29, .slice (some ⟨g25, 0, none⟩) 1 1)]) (by kernel_rfl) ?_
        refine t_end ?_
        exact ⟨hg_f g25, rfl⟩
      · show T _ _ _ _ _ _ _ _
        refine t_qz 1 [2, 3, 8, 9, 10, 12, 20, 21, 22, 29, 31] (σ' := [(2, .int .i64 1), (3, .int .i64 1), (8, .pointer (some ⟨b18, 0, none⟩)), (9, .slice (some ⟨g19, 0, none⟩) 1 1), (10, .slice (some ⟨g20, 0, none⟩) 1 1), (12, .pointer (some ⟨b24, 0, none⟩)), (20, .slice (some ⟨N23, 1, none⟩) 1 3), (21, .int .i64 1), (22, .int .i64 0), (29, .slice (some ⟨g25, 0, none⟩) 1 1), (31, .slice (some ⟨g20, 0, none⟩) 1 1)]) (by kernel_rfl) ?_
        refine t_end ?_
        exact ⟨hg_2e g25, rfl⟩
      · show T _ _ _ _ _ _ _ _
        refine t_qz 1 [2, 3, 8, 9, 10, 20, 21, 22, 29, 32] (σ' := [(2, .int .i64 1), (3, .int .i64 1), (8, .pointer (some ⟨b18, 0, none⟩)), (9, .slice (some ⟨g19, 0, none⟩) 1 1), (10, .slice (some ⟨g20, 0, none⟩) 1 1), (20, .slice (some ⟨N23, 1, none⟩) 1 3), (21, .int .i64 1), (22, .int .i64 0), (29, .slice (some ⟨g25, 0, none⟩) 1 1), (32, .pointer (some ⟨b24, 1, none⟩))]) (by kernel_rfl) ?_
        refine t_end ?_
        exact ⟨hg_4e g25, rfl⟩
    have hg_46 : G [false, true, true, false, false, false, true, false, false, false, false, false] [(2, .int .i64 1), (3, .int .i64 1), (8, .pointer (some ⟨b18, 0, none⟩)), (9, .slice (some ⟨g19, 0, none⟩) 1 1), (10, .slice (some ⟨g20, 0, none⟩) 1 1), (20, .slice (some ⟨N23, 1, none⟩) 1 3), (21, .int .i64 1), (22, .int .i64 0), (28, .int .i64 5), (32, .pointer (some ⟨b24, 1, none⟩))] ([⟨b24, [.int .i64 5, .int .i64 0], 2⟩, ⟨N23, [.int .i64 1, .int .i64 5, .int .i64 0, .int .i64 0, .int .i64 0, .int .i64 0, .int .i64 0], 7⟩, ⟨g20, [.int .i64 0], 1⟩, ⟨g19, [.int .i64 0], 1⟩, ⟨b18, [.int .i64 0, .int .i64 0], 2⟩, ⟨b17, [.int .i64 1, .int .i64 5, .int .i64 0, .int .i64 0, .int .i64 0, .int .i64 0, .int .i64 0], 7⟩, ⟨b16, [.int .i64 0, .int .i64 0], 2⟩] : List Own) := by
      refine hstep [0, 3, 5, 7] _ _ _ (by kernel_rfl) (List.cons_ne_nil _ _) ⟨?_, ?_, ?_, ?_, trivial⟩
      · show T _ _ _ _ _ _ _ _
        refine t_qz 1 [2, 3, 8, 9, 10, 20, 21, 22, 26, 28, 32] (σ' := [(2, .int .i64 1), (3, .int .i64 1), (8, .pointer (some ⟨b18, 0, none⟩)), (9, .slice (some ⟨g19, 0, none⟩) 1 1), (10, .slice (some ⟨g20, 0, none⟩) 1 1), (20, .slice (some ⟨N23, 1, none⟩) 1 3), (21, .int .i64 1), (22, .int .i64 0), (26, .slice (some ⟨g19, 0, none⟩) 1 1), (28, .int .i64 5), (32, .pointer (some ⟨b24, 1, none⟩))]) (by kernel_rfl) ?_
        refine t_end ?_
        exact ⟨hg_47, rfl⟩
      · show T _ _ _ _ _ _ _ _
        refine t_a (.bsl rfl rfl rfl rfl) fun g25 fg25 sg25 => ?_
        refine t_keep [2, 3, 8, 9, 10, 20, 21, 22, 29, 32] (σ' := [(2, .int .i64 1), (3, .int .i64 1), (8, .pointer (some ⟨b18, 0, none⟩)), (9, .slice (some ⟨g19, 0, none⟩) 1 1), (10, .slice (some ⟨g20, 0, none⟩) 1 1), (20, .slice (some ⟨N23, 1, none⟩) 1 3), (21, .int .i64 1), (22, .int .i64 0), (29, .slice (some ⟨g25, 0, none⟩) 1 1), (32, .pointer (some ⟨b24, 1, none⟩))]) (by kernel_rfl) ?_
        refine t_end ?_
        exact ⟨hg_4e g25, rfl⟩
      · show T _ _ _ _ _ _ _ _
        refine t_qz 1 [2, 3, 8, 9, 10, 20, 21, 22, 28, 31, 32] (σ' := [(2, .int .i64 1), (3, .int .i64 1), (8, .pointer (some ⟨b18, 0, none⟩)), (9, .slice (some ⟨g19, 0, none⟩) 1 1), (10, .slice (some ⟨g20, 0, none⟩) 1 1), (20, .slice (some ⟨N23, 1, none⟩) 1 3), (21, .int .i64 1), (22, .int .i64 0), (28, .int .i64 5), (31, .slice (some ⟨g20, 0, none⟩) 1 1), (32, .pointer (some ⟨b24, 1, none⟩))]) (by kernel_rfl) ?_
        refine t_end ?_
        exact ⟨hg_66, rfl⟩
      · show T _ _ _ _ _ _ _ _
        refine t_v (.ld1 rfl rfl rfl (.at 0 rfl rfl)) ?_
        refine t_keep [2, 3, 8, 9, 10, 20, 21, 22, 28, 33] (σ' := [(2, .int .i64 1), (3, .int .i64 1), (8, .pointer (some ⟨b18, 0, none⟩)), (9, .slice (some ⟨g19, 0, none⟩) 1 1), (10, .slice (some ⟨g20, 0, none⟩) 1 1), (20, .slice (some ⟨N23, 1, none⟩) 1 3), (21, .int .i64 1), (22, .int .i64 0), (28, .int .i64 5), (33, .int .i64 0)]) (by kernel_rfl) ?_
        refine t_end ?_
        exact ⟨hg_c6, rfl⟩
    have hg_23 : G [true, true, false, false, false, true, false, false, false, false, false, false] [(2, .int .i64 1), (3, .int .i64 1), (8, .pointer (some ⟨b18, 0, none⟩)), (9, .slice (some ⟨g19, 0, none⟩) 1 1), (10, .slice (some ⟨g20, 0, none⟩) 1 1), (12, .pointer (some ⟨b24, 0, none⟩)), (20, .slice (some ⟨N23, 1, none⟩) 1 3), (21, .int .i64 1), (22, .int .i64 0), (26, .slice (some ⟨g19, 0, none⟩) 1 1), (27, .pointer (some ⟨b24, 0, none⟩)), (31, .slice (some ⟨g20, 0, none⟩) 1 1)] ([⟨b24, [.int .i64 5, .int .i64 0], 2⟩, ⟨N23, [.int .i64 1, .int .i64 5, .int .i64 0, .int .i64 0, .int .i64 0, .int .i64 0, .int .i64 0], 7⟩, ⟨g20, [.int .i64 0], 1⟩, ⟨g19, [.int .i64 0], 1⟩, ⟨b18, [.int .i64 0, .int .i64 0], 2⟩, ⟨b17, [.int .i64 1, .int .i64 5, .int .i64 0, .int .i64 0, .int .i64 0, .int .i64 0, .int .i64 0], 7⟩, ⟨b16, [.int .i64 0, .int .i64 0], 2⟩] : List Own) := by
      refine hstep [2, 6] _ _ _ (by kernel_rfl) (List.cons_ne_nil _ _) ⟨?_, ?_, trivial⟩
      · show T _ _ _ _ _ _ _ _
        refine t_v (.ld1 rfl rfl rfl (.at 0 rfl rfl)) ?_
        refine t_keep [2, 3, 8, 9, 10, 12, 20, 21, 22, 26, 28, 31] (σ' := [(2, .int .i64 1), (3, .int .i64 1), (8, .pointer (some ⟨b18, 0, none⟩)), (9, .slice (some ⟨g19, 0, none⟩) 1 1), (10, .slice (some ⟨g20, 0, none⟩) 1 1), (12, .pointer (some ⟨b24, 0, none⟩)), (20, .slice (some ⟨N23, 1, none⟩) 1 3), (21, .int .i64 1), (22, .int .i64 0), (26, .slice (some ⟨g19, 0, none⟩) 1 1), (28, .int .i64 5), (31, .slice (some ⟨g20, 0, none⟩) 1 1)]) (by kernel_rfl) ?_
        refine t_end ?_
        exact ⟨hg_27, rfl⟩
      · show T _ _ _ _ _ _ _ _
        refine t_qz 1 [2, 3, 8, 9, 10, 20, 21, 22, 26, 27, 31, 32] (σ' := [(2, .int .i64 1), (3, .int .i64 1), (8, .pointer (some ⟨b18, 0, none⟩)), (9, .slice (some ⟨g19, 0, none⟩) 1 1), (10, .slice (some ⟨g20, 0, none⟩) 1 1), (20, .slice (some ⟨N23, 1, none⟩) 1 3), (21, .int .i64 1), (22, .int .i64 0), (26, .slice (some ⟨g19, 0, none⟩) 1 1), (27, .pointer (some ⟨b24, 0, none⟩)), (31, .slice (some ⟨g20, 0, none⟩) 1 1), (32, .pointer (some ⟨b24, 1, none⟩))]) (by kernel_rfl) ?_
        refine t_end ?_
        exact ⟨hg_63, rfl⟩
    have hg_26 : G [false, true, true, false, false, true, false, false, false, false, false, false] [(2, .int .i64 1), (3, .int .i64 1), (8, .pointer (some ⟨b18, 0, none⟩)), (9, .slice (some ⟨g19, 0, none⟩) 1 1), (10, .slice (some ⟨g20, 0, none⟩) 1 1), (12, .pointer (some ⟨b24, 0, none⟩)), (20, .slice (some ⟨N23, 1, none⟩) 1 3), (21, .int .i64 1), (22, .int .i64 0), (28, .int .i64 5), (31, .slice (some ⟨g20, 0, none⟩) 1 1)] ([⟨b24, [.int .i64 5, .int .i64 0], 2⟩, ⟨N23, [.int .i64 1, .int .i64 5, .int .i64 0, .int .i64 0, .int .i64 0, .int .i64 0, .int .i64 0], 7⟩, ⟨g20, [.int .i64 0], 1⟩, ⟨g19, [.int .i64 0], 1⟩, ⟨b18, [.int .i64 0, .int .i64 0], 2⟩, ⟨b17, [.int .i64 1, .int .i64 5, .int .i64 0, .int .i64 0, .int .i64 0, .int .i64 0, .int .i64 0], 7⟩, ⟨b16, [.int .i64 0, .int .i64 0], 2⟩] : List Own) := by
      refine hstep [0, 3, 6] _ _ _ (by kernel_rfl) (List.cons_ne_nil _ _) ⟨?_, ?_, ?_, trivial⟩
      · show T _ _ _ _ _ _ _ _
        refine t_qz 1 [2, 3, 8, 9, 10, 12, 20, 21, 22, 26, 28, 31] (σ' := [(2, .int .i64 1), (3, .int .i64 1), (8, .pointer (some ⟨b18, 0, none⟩)), (9, .slice (some ⟨g19, 0, none⟩) 1 1), (10, .slice (some ⟨g20, 0, none⟩) 1 1), (12, .pointer (some ⟨b24, 0, none⟩)), (20, .slice (some ⟨N23, 1, none⟩) 1 3), (21, .int .i64 1), (22, .int .i64 0), (26, .slice (some ⟨g19, 0, none⟩) 1 1), (28, .int .i64 5), (31, .slice (some ⟨g20, 0, none⟩) 1 1)]) (by kernel_rfl) ?_
        refine t_end ?_
        exact ⟨hg_27, rfl⟩
      · show T _ _ _ _ _ _ _ _
        refine t_a (.bsl rfl rfl rfl rfl) fun g25 fg25 sg25 => ?_
        refine t_keep [2, 3, 8, 9, 10, 12, 20, 21, 22, 29, 31] (σ' := [(2, .int .i64 1), (3, .int .i64 1), (8, .pointer (some ⟨b18, 0, none⟩)), (9, .slice (some ⟨g19, 0, none⟩) 1 1), (10, .slice (some ⟨g20, 0, none⟩) 1 1), (12, .pointer (some ⟨b24, 0, none⟩)), (20, .slice (some ⟨N23, 1, none⟩) 1 3), (21, .int .i64 1), (22, .int .i64 0), (29, .slice (some ⟨g25, 0, none⟩) 1 1), (31, .slice (some ⟨g20, 0, none⟩) 1 1)]) (by kernel_rfl) ?_
        refine t_end ?_
        exact ⟨hg_2e g25, rfl⟩
      · show T _ _ _ _ _ _ _ _
        refine t_qz 1 [2, 3, 8, 9, 10, 20, 21, 22, 28, 31, 32] (σ' := [(2, .int .i64 1), (3, .int .i64 1), (8, .pointer (some ⟨b18, 0, none⟩)), (9, .slice (some ⟨g19, 0, none⟩) 1 1), (10, .slice (some ⟨g20, 0, none⟩) 1 1), (20, .slice (some ⟨N23, 1, none⟩) 1 3), (21, .int .i64 1), (22, .int .i64 0), (28, .int .i64 5), (31, .slice (some ⟨g20, 0, none⟩) 1 1), (32, .pointer (some ⟨b24, 1, none⟩))]) (by kernel_rfl) ?_
        refine t_end ?_
        exact ⟨hg_66, rfl⟩
    have hg_c1 : G [true, false, false, false, false, false, true, true, false, false, false, false] [(2, .int .i64 1), (3, .int .i64 1), (8, .pointer (some ⟨b18, 0, none⟩)), (9, .slice (some ⟨g19, 0, none⟩) 1 1), (10, .slice (some ⟨g20, 0, none⟩) 1 1), (12, .pointer (some ⟨b24, 0, none⟩)), (20, .slice (some ⟨N23, 1, none⟩) 1 3), (21, .int .i64 1), (22, .int .i64 0), (26, .slice (some ⟨g19, 0, none⟩) 1 1), (33, .int .i64 0)] ([⟨b24, [.int .i64 5, .int .i64 0], 2⟩, ⟨N23, [.int .i64 1, .int .i64 5, .int .i64 0, .int .i64 0, .int .i64 0, .int .i64 0, .int .i64 0], 7⟩, ⟨g20, [.int .i64 0], 1⟩, ⟨g19, [.int .i64 0], 1⟩, ⟨b18, [.int .i64 0, .int .i64 0], 2⟩, ⟨b17, [.int .i64 1, .int .i64 5, .int .i64 0, .int .i64 0, .int .i64 0, .int .i64 0, .int .i64 0], 7⟩, ⟨b16, [.int .i64 0, .int .i64 0], 2⟩] : List Own) := by
      refine hstep [1, 5, 8] _ _ _ (by kernel_rfl) (List.cons_ne_nil _ _) ⟨?_, ?_, ?_, trivial⟩
      · show T _ _ _ _ _ _ _ _
        refine t_qz 1 [2, 3, 8, 9, 10, 20, 21, 22, 26, 27, 33] (σ' := [(2, .int .i64 1), (3, .int .i64 1), (8, .pointer (some ⟨b18, 0, none⟩)), (9, .slice (some ⟨g19, 0, none⟩) 1 1), (10, .slice (some ⟨g20, 0, none⟩) 1 1), (20, .slice (some ⟨N23, 1, none⟩) 1 3), (21, .int .i64 1), (22, .int .i64 0), (26, .slice (some ⟨g19, 0, none⟩) 1 1), (27, .pointer (some ⟨b24, 0, none⟩)), (33, .int .i64 0)]) (by kernel_rfl) ?_
        refine t_end ?_
        exact ⟨hg_c3, rfl⟩
      · show T _ _ _ _ _ _ _ _
        refine t_qz 1 [2, 3, 8, 9, 10, 12, 20, 21, 22, 26, 31, 33] (σ' := [(2, .int .i64 1), (3, .int .i64 1), (8, .pointer (some ⟨b18, 0, none⟩)), (9, .slice (some ⟨g19, 0, none⟩) 1 1), (10, .slice (some ⟨g20, 0, none⟩) 1 1), (12, .pointer (some ⟨b24, 0, none⟩)), (20, .slice (some ⟨N23, 1, none⟩) 1 3), (21, .int .i64 1), (22, .int .i64 0), (26, .slice (some ⟨g19, 0, none⟩) 1 1), (31, .slice (some ⟨g20, 0, none⟩) 1 1), (33, .int .i64 0)]) (by kernel_rfl) ?_
        refine t_end ?_
        exact ⟨hg_e1, rfl⟩
      · show T _ _ _ _ _ _ _ _
        refine t_a (.bsl rfl rfl rfl rfl) fun g27 fg27 sg27 => ?_
        refine t_keep [2, 3, 8, 9, 10, 12, 20, 21, 22, 26, 34] (σ' := [(2, .int .i64 1), (3, .int .i64 1), (8, .pointer (some ⟨b18, 0, none⟩)), (9, .slice (some ⟨g19, 0, none⟩) 1 1), (10, .slice (some ⟨g20, 0, none⟩) 1 1), (12, .pointer (some ⟨b24, 0, none⟩)), (20, .slice (some ⟨N23, 1, none⟩) 1 3), (21, .int .i64 1), (22, .int .i64 0), (26, .slice (some ⟨g19, 0, none⟩) 1 1), (34, .slice (some ⟨g27, 0, none⟩) 1 1)]) (by kernel_rfl) ?_
        refine t_end ?_
        exact ⟨hg_1c1 g27, rfl⟩
    have hg_c2 : G [false, true, false, false, false, false, true, true, false, false, false, false] [(2, .int .i64 1), (3, .int .i64 1), (8, .pointer (some ⟨b18, 0, none⟩)), (9, .slice (some ⟨g19, 0, none⟩) 1 1), (10, .slice (some ⟨g20, 0, none⟩) 1 1), (20, .slice (some ⟨N23, 1, none⟩) 1 3), (21, .int .i64 1), (22, .int .i64 0), (27, .pointer (some ⟨b24, 0, none⟩)), (33, .int .i64 0)] ([⟨b24, [.int .i64 5, .int .i64 0], 2⟩, ⟨N23, [.int .i64 1, .int .i64 5, .int .i64 0, .int .i64 0, .int .i64 0, .int .i64 0, .int .i64 0], 7⟩, ⟨g20, [.int .i64 0], 1⟩, ⟨g19, [.int .i64 0], 1⟩, ⟨b18, [.int .i64 0, .int .i64 0], 2⟩, ⟨b17, [.int .i64 1, .int .i64 5, .int .i64 0, .int .i64 0, .int .i64 0, .int .i64 0, .int .i64 0], 7⟩, ⟨b16, [.int .i64 0, .int .i64 0], 2⟩] : List Own) := by
      refine hstep [0, 2, 5, 8] _ _ _ (by kernel_rfl) (List.cons_ne_nil _ _) ⟨?_, ?_, ?_, ?_, trivial⟩
      · show T _ _ _ _ _ _ _ _
        refine t_qz 1 [2, 3, 8, 9, 10, 20, 21, 22, 26, 27, 33] (σ' := [(2, .int .i64 1), (3, .int .i64 1), (8, .pointer (some ⟨b18, 0, none⟩)), (9, .slice (some ⟨g19, 0, none⟩) 1 1), (10, .slice (some ⟨g20, 0, none⟩) 1 1), (20, .slice (some ⟨N23, 1, none⟩) 1 3), (21, .int .i64 1), (22, .int .i64 0), (26, .slice (some ⟨g19, 0, none⟩) 1 1), (27, .pointer (some ⟨b24, 0, none⟩)), (33, .int .i64 0)]) (by kernel_rfl) ?_
        refine t_end ?_
        exact ⟨hg_c3, rfl⟩
      · show T _ _ _ _ _ _ _ _
        refine t_v (.ld1 rfl rfl rfl (.at 0 rfl rfl)) ?_
        refine t_keep [2, 3, 8, 9, 10, 20, 21, 22, 28, 33] (σ' := [(2, .int .i64 1), (3, .int .i64 1), (8, .pointer (some ⟨b18, 0, none⟩)), (9, .slice (some ⟨g19, 0, none⟩) 1 1), (10, .slice (some ⟨g20, 0, none⟩) 1 1), (20, .slice (some ⟨N23, 1, none⟩) 1 3), (21, .int .i64 1), (22, .int .i64 0), (28, .int .i64 5), (33, .int .i64 0)]) (by kernel_rfl) ?_
        refine t_end ?_
        exact ⟨hg_c6, rfl⟩
      · show T _ _ _ _ _ _ _ _
        refine t_qz 1 [2, 3, 8, 9, 10, 20, 21, 22, 27, 31, 33] (σ' := [(2, .int .i64 1), (3, .int .i64 1), (8, .pointer (some ⟨b18, 0, none⟩)), (9, .slice (some ⟨g19, 0, none⟩) 1 1), (10, .slice (some ⟨g20, 0, none⟩) 1 1), (20, .slice (some ⟨N23, 1, none⟩) 1 3), (21, .int .i64 1), (22, .int .i64 0), (27, .pointer (some ⟨b24, 0, none⟩)), (31, .slice (some ⟨g20, 0, none⟩) 1 1), (33, .int .i64 0)]) (by kernel_rfl) ?_
        refine t_end ?_
        exact ⟨hg_e2, rfl⟩
      · show T _ _ _ _ _ _ _ _
        refine t_a (.bsl rfl rfl rfl rfl) fun g27 fg27 sg27 => ?_
        refine t_keep [2, 3, 8, 9, 10, 20, 21, 22, 27, 34] (σ' := [(2, .int .i64 1), (3, .int .i64 1), (8, .pointer (some ⟨b18, 0, none⟩)), (9, .slice (some ⟨g19, 0, none⟩) 1 1), (10, .slice (some ⟨g20, 0, none⟩) 1 1), (20, .slice (some ⟨N23, 1, none⟩) 1 3), (21, .int .i64 1), (22, .int .i64 0), (27, .pointer (some ⟨b24, 0, none⟩)), (34, .slice (some ⟨g27, 0, none⟩) 1 1)]) (by kernel_rfl) ?_
        refine t_end ?_
        exact ⟨hg_1c2 g27, rfl⟩
    have hg_1c0 : ∀ (g27 : Nat), G [false, false, false, false, false, false, true, true, true, false, false, false] [(2, .int .i64 1), (3, .int .i64 1), (8, .pointer (some ⟨b18, 0, none⟩)), (9, .slice (some ⟨g19, 0, none⟩) 1 1), (10, .slice (some ⟨g20, 0, none⟩) 1 1), (12, .pointer (some ⟨b24, 0, none⟩)), (20, .slice (some ⟨N23, 1, none⟩) 1 3), (21, .int .i64 1), (22, .int .i64 0), (34, .slice (some ⟨g27, 0, none⟩) 1 1)] ([⟨g27, [.int .i64 0], 1⟩, ⟨b24, [.int .i64 5, .int .i64 0], 2⟩, ⟨N23, [.int .i64 1, .int .i64 5, .int .i64 0, .int .i64 0, .int .i64 0, .int .i64 0, .int .i64 0], 7⟩, ⟨g20, [.int .i64 0], 1⟩, ⟨g19, [.int .i64 0], 1⟩, ⟨b18, [.int .i64 0, .int .i64 0], 2⟩, ⟨b17, [.int .i64 1, .int .i64 5, .int .i64 0, .int .i64 0, .int .i64 0, .int .i64 0, .int .i64 0], 7⟩, ⟨b16, [.int .i64 0, .int .i64 0], 2⟩] : List Own) := by
      intro g27
      refine hstep [0, 1, 5] _ _ _ (by kernel_rfl) (List.cons_ne_nil _ _) ⟨?_, ?_, ?_, trivial⟩
      · show T _ _ _ _ _ _ _ _
        refine t_qz 1 [2, 3, 8, 9, 10, 12, 20, 21, 22, 26, 34] (σ' := [(2, .int .i64 1), (3, .int .i64 1), (8, .pointer (some ⟨b18, 0, none⟩)), (9, .slice (some ⟨g19, 0, none⟩) 1 1), (10, .slice (some ⟨g20, 0, none⟩) 1 1), (12, .pointer (some ⟨b24, 0, none⟩)), (20, .slice (some ⟨N23, 1, none⟩) 1 3), (21, .int .i64 1), (22, .int .i64 0), (26, .slice (some ⟨g19, 0, none⟩) 1 1), (34, .slice (some ⟨g27, 0, none⟩) 1 1)]) (by kernel_rfl) ?_
        refine t_end ?_
        exact ⟨hg_1c1 g27, rfl⟩
      · show T _ _ _ _ _ _ _ _
        refine t_qz 1 [2, 3, 8, 9, 10, 20, 21, 22, 27, 34] (σ' := [(2, .int .i64 1), (3, .int .i64 1), (8, .pointer (some ⟨b18, 0, none⟩)), (9, .slice (some ⟨g19, 0, none⟩) 1 1), (10, .slice (some ⟨g20, 0, none⟩) 1 1), (20, .slice (some ⟨N23, 1, none⟩) 1 3), (21, .int .i64 1), (22, .int .i64 0), (27, .pointer (some ⟨b24, 0, none⟩)), (34, .slice (some ⟨g27, 0, none⟩) 1 1)]) (by kernel_rfl) ?_
        refine t_end ?_
        exact ⟨hg_1c2 g27, rfl⟩
      · show T _ _ _ _ _ _ _ _
        refine t_qz 1 [2, 3, 8, 9, 10, 12, 20, 21, 22, 31, 34] (σ' := [(2, .int .i64 1), (3, .int .i64 1), (8, .pointer (some ⟨b18, 0, none⟩)), (9, .slice (some ⟨g19, 0, none⟩) 1 1), (10, .slice (some ⟨g20, 0, none⟩) 1 1), (12, .pointer (some ⟨b24, 0, none⟩)), (20, .slice (some ⟨N23, 1, none⟩) 1 3), (21, .int .i64 1), (22, .int .i64 0), (31, .slice (some ⟨g20, 0, none⟩) 1 1), (34, .slice (some ⟨g27, 0, none⟩) 1 1)]) (by kernel_rfl) ?_
        refine t_end ?_
        exact ⟨hg_1e0 g27, rfl⟩
    have hg_43 : G [true, true, false, false, false, false, true, false, false, false, false, false] [(2, .int .i64 1), (3, .int .i64 1), (8, .pointer (some ⟨b18, 0, none⟩)), (9, .slice (some ⟨g19, 0, none⟩) 1 1), (10, .slice (some ⟨g20, 0, none⟩) 1 1), (20, .slice (some ⟨N23, 1, none⟩) 1 3), (21, .int .i64 1), (22, .int .i64 0), (26, .slice (some ⟨g19, 0, none⟩) 1 1), (27, .pointer (some ⟨b24, 0, none⟩)), (32, .pointer (some ⟨b24, 1, none⟩))] ([⟨b24, [.int .i64 5, .int .i64 0], 2⟩, ⟨N23, [.int .i64 1, .int .i64 5, .int .i64 0, .int .i64 0, .int .i64 0, .int .i64 0, .int .i64 0], 7⟩, ⟨g20, [.int .i64 0], 1⟩, ⟨g19, [.int .i64 0], 1⟩, ⟨b18, [.int .i64 0, .int .i64 0], 2⟩, ⟨b17, [.int .i64 1, .int .i64 5, .int .i64 0, .int .i64 0, .int .i64 0, .int .i64 0, .int .i64 0], 7⟩, ⟨b16, [.int .i64 0, .int .i64 0], 2⟩] : List Own) := by
      refine hstep [2, 5, 7] _ _ _ (by kernel_rfl) (List.cons_ne_nil _ _) ⟨?_, ?_, ?_, trivial⟩
      · show T _ _ _ _ _ _ _ _
        refine t_v (.ld1 rfl rfl rfl (.at 0 rfl rfl)) ?_
        refine t_keep [2, 3, 8, 9, 10, 20, 21, 22, 26, 28, 32] (σ' := [(2, .int .i64 1), (3, .int .i64 1), (8, .pointer (some ⟨b18, 0, none⟩)), (9, .slice (some ⟨g19, 0, none⟩) 1 1), (10, .slice (some ⟨g20, 0, none⟩) 1 1), (20, .slice (some ⟨N23, 1, none⟩) 1 3), (21, .int .i64 1), (22, .int .i64 0), (26, .slice (some ⟨g19, 0, none⟩) 1 1), (28, .int .i64 5), (32, .pointer (some ⟨b24, 1, none⟩))]) (by kernel_rfl) ?_
        refine t_end ?_
        exact ⟨hg_47, rfl⟩
      · show T _ _ _ _ _ _ _ _
        refine t_qz 1 [2, 3, 8, 9, 10, 20, 21, 22, 26, 27, 31, 32] (σ' := [(2, .int .i64 1), (3, .int .i64 1), (8, .pointer (some ⟨b18, 0, none⟩)), (9, .slice (some ⟨g19, 0, none⟩) 1 1), (10, .slice (some ⟨g20, 0, none⟩) 1 1), (20, .slice (some ⟨N23, 1, none⟩) 1 3), (21, .int .i64 1), (22, .int .i64 0), (26, .slice (some ⟨g19, 0, none⟩) 1 1), (27, .pointer (some ⟨b24, 0, none⟩)), (31, .slice (some ⟨g20, 0, none⟩) 1 1), (32, .pointer (some ⟨b24, 1, none⟩))]) (by kernel_rfl) ?_
        refine t_end ?_
        exact ⟨hg_63, rfl⟩
      · show T _ _ _ _ _ _ _ _
        refine t_v (.ld1 rfl rfl rfl (.at 0 rfl rfl)) ?_
        refine t_keep [2, 3, 8, 9, 10, 20, 21, 22, 26, 27, 33] (σ' := [(2, .int .i64 1), (3, .int .i64 1), (8, .pointer (some ⟨b18, 0, none⟩)), (9, .slice (some ⟨g19, 0, none⟩) 1 1), (10, .slice (some ⟨g20, 0, none⟩) 1 1), (20, .slice (some ⟨N23, 1, none⟩) 1 3), (21, .int .i64 1), (22, .int .i64 0), (26, .slice (some ⟨g19, 0, none⟩) 1 1), (27, .pointer (some ⟨b24, 0, none⟩)), (33, .int .i64 0)]) (by kernel_rfl) ?_
        refine t_end ?_
        exact ⟨hg_c3, rfl⟩
    have hg_e0 : G [false, false, false, false, false, true, true, true, false, false, false, false] [(2, .int .i64 1), (3, .int .i64 1), (8, .pointer (some ⟨b18, 0, none⟩)), (9, .slice (some ⟨g19, 0, none⟩) 1 1), (10, .slice (some ⟨g20, 0, none⟩) 1 1), (12, .pointer (some ⟨b24, 0, none⟩)), (20, .slice (some ⟨N23, 1, none⟩) 1 3), (21, .int .i64 1), (22, .int .i64 0), (31, .slice (some ⟨g20, 0, none⟩) 1 1), (33, .int .i64 0)] ([⟨b24, [.int .i64 5, .int .i64 0], 2⟩, ⟨N23, [.int .i64 1, .int .i64 5, .int .i64 0, .int .i64 0, .int .i64 0, .int .i64 0, .int .i64 0], 7⟩, ⟨g20, [.int .i64 0], 1⟩, ⟨g19, [.int .i64 0], 1⟩, ⟨b18, [.int .i64 0, .int .i64 0], 2⟩, ⟨b17, [.int .i64 1, .int .i64 5, .int .i64 0, .int .i64 0, .int .i64 0, .int .i64 0, .int .i64 0], 7⟩, ⟨b16, [.int .i64 0, .int .i64 0], 2⟩] : List Own) := by
      refine hstep [0, 1, 8] _ _ _ (by kernel_rfl) (List.cons_ne_nil _ _) ⟨?_, ?_, ?_, trivial⟩
      · show T _ _ _ _ _ _ _ _
        refine t_qz 1 [2, 3, 8, 9, 10, 12, 20, 21, 22, 26, 31, 33] (σ' := [(2, .int .i64 1), (3, .int .i64 1), (8, .pointer (some ⟨b18, 0, none⟩)), (9, .slice (some ⟨g19, 0, none⟩) 1 1), (10, .slice (some ⟨g20, 0, none⟩) 1 1), (12, .pointer (some ⟨b24, 0, none⟩)), (20, .slice (some ⟨N23, 1, none⟩) 1 3), (21, .int .i64 1), (22, .int .i64 0), (26, .slice (some ⟨g19, 0, none⟩) 1 1), (31, .slice (some ⟨g20, 0, none⟩) 1 1), (33, .int .i64 0)]) (by kernel_rfl) ?_
        refine t_end ?_
        exact ⟨hg_e1, rfl⟩
      · show T _ _ _ _ _ _ _ _
        refine t_qz 1 [2, 3, 8, 9, 10, 20, 21, 22, 27, 31, 33] (σ' := [(2, .int .i64 1), (3, .int .i64 1), (8, .pointer (some ⟨b18, 0, none⟩)), (9, .slice (some ⟨g19, 0, none⟩) 1 1), (10, .slice (some ⟨g20, 0, none⟩) 1 1), (20, .slice (some ⟨N23, 1, none⟩) 1 3), (21, .int .i64 1), (22, .int .i64 0), (27, .pointer (some ⟨b24, 0, none⟩)), (31, .slice (some ⟨g20, 0, none⟩) 1 1), (33, .int .i64 0)]) (by kernel_rfl) ?_
        refine t_end ?_
        exact ⟨hg_e2, rfl⟩
      · show T _ _ _ _ _ _ _ _
        refine t_a (.bsl rfl rfl rfl rfl) fun g27 fg27 sg27 => ?_
        refine t_keep [2, 3, 8, 9, 10, 12, 20, 21, 22, 31, 34] (σ' := [(2, .int .i64 1), (3, .int .i64 1), (8, .pointer (some ⟨b18, 0, none⟩)), (9, .slice (some ⟨g19, 0, none⟩) 1 1), (10, .slice (some ⟨g20, 0, none⟩) 1 1), (12, .pointer (some ⟨b24, 0, none⟩)), (20, .slice (some ⟨N23, 1, none⟩) 1 3), (21, .int .i64 1), (22, .int .i64 0), (31, .slice (some ⟨g20, 0, none⟩) 1 1), (34, .slice (some ⟨g27, 0, none⟩) 1 1)]) (by kernel_rfl) ?_
        refine t_end ?_
        exact ⟨hg_1e0 g27, rfl⟩
    have hg_61 : G [true, false, false, false, false, true, true, false, false, false, false, false] [(2, .int .i64 1), (3, .int .i64 1), (8, .pointer (some ⟨b18, 0, none⟩)), (9, .slice (some ⟨g19, 0, none⟩) 1 1), (10, .slice (some ⟨g20, 0, none⟩) 1 1), (12, .pointer (some ⟨b24, 0, none⟩)), (20, .slice (some ⟨N23, 1, none⟩) 1 3), (21, .int .i64 1), (22, .int .i64 0), (26, .slice (some ⟨g19, 0, none⟩) 1 1), (31, .slice (some ⟨g20, 0, none⟩) 1 1), (32, .pointer (some ⟨b24, 1, none⟩))] ([⟨b24, [.int .i64 5, .int .i64 0], 2⟩, ⟨N23, [.int .i64 1, .int .i64 5, .int .i64 0, .int .i64 0, .int .i64 0, .int .i64 0, .int .i64 0], 7⟩, ⟨g20, [.int .i64 0], 1⟩, ⟨g19, [.int .i64 0], 1⟩, ⟨b18, [.int .i64 0, .int .i64 0], 2⟩, ⟨b17, [.int .i64 1, .int .i64 5, .int .i64 0, .int .i64 0, .int .i64 0, .int .i64 0, .int .i64 0], 7⟩, ⟨b16, [.int .i64 0, .int .i64 0], 2⟩] : List Own) := by
      refine hstep [1, 7] _ _ _ (by kernel_rfl) (List.cons_ne_nil _ _) ⟨?_, ?_, trivial⟩
      · show T _ _ _ _ _ _ _ _
        refine t_qz 1 [2, 3, 8, 9, 10, 20, 21, 22, 26, 27, 31, 32] (σ' := [(2, .int .i64 1), (3, .int .i64 1), (8, .pointer (some ⟨b18, 0, none⟩)), (9, .slice (some ⟨g19, 0, none⟩) 1 1), (10, .slice (some ⟨g20, 0, none⟩) 1 1), (20, .slice (some ⟨N23, 1, none⟩) 1 3), (21, .int .i64 1), (22, .int .i64 0), (26, .slice (some ⟨g19, 0, none⟩) 1 1), (27, .pointer (some ⟨b24, 0, none⟩)), (31, .slice (some ⟨g20, 0, none⟩) 1 1), (32, .pointer (some ⟨b24, 1, none⟩))]) (by kernel_rfl) ?_
        refine t_end ?_
        exact ⟨hg_63, rfl⟩
      · show T _ _ _ _ _ _ _ _
        refine t_v (.ld1 rfl rfl rfl (.at 0 rfl rfl)) ?_
        refine t_keep [2, 3, 8, 9, 10, 12, 20, 21, 22, 26, 31, 33] (σ' := [(2, .int .i64 1), (3, .int .i64 1), (8, .pointer (some ⟨b18, 0, none⟩)), (9, .slice (some ⟨g19, 0, none⟩) 1 1), (10, .slice (some ⟨g20, 0, none⟩) 1 1), (12, .pointer (some ⟨b24, 0, none⟩)), (20, .slice (some ⟨N23, 1, none⟩) 1 3), (21, .int .i64 1), (22, .int .i64 0), (26, .slice (some ⟨g19, 0, none⟩) 1 1), (31, .slice (some ⟨g20, 0, none⟩) 1 1), (33, .int .i64 0)]) (by kernel_rfl) ?_
        refine t_end ?_
        exact ⟨hg_e1, rfl⟩
    have hg_62 : G [false, true, false, false, false, true, true, false, false, false, false, false] [(2, .int .i64 1), (3, .int .i64 1), (8, .pointer (some ⟨b18, 0, none⟩)), (9, .slice (some ⟨g19, 0, none⟩) 1 1), (10, .slice (some ⟨g20, 0, none⟩) 1 1), (20, .slice (some ⟨N23, 1, none⟩) 1 3), (21, .int .i64 1), (22, .int .i64 0), (27, .pointer (some ⟨b24, 0, none⟩)), (31, .slice (some ⟨g20, 0, none⟩) 1 1), (32, .pointer (some ⟨b24, 1, none⟩))] ([⟨b24, [.int .i64 5, .int .i64 0], 2⟩, ⟨N23, [.int .i64 1, .int .i64 5, .int .i64 0, .int .i64 0, .int .i64 0, .int .i64 0, .int .i64 0], 7⟩, ⟨g20, [.int .i64 0], 1⟩, ⟨g19, [.int .i64 0], 1⟩, ⟨b18, [.int .i64 0, .int .i64 0], 2⟩, ⟨b17, [.int .i64 1, .int .i64 5, .int .i64 0, .int .i64 0, .int .i64 0, .int .i64 0, .int .i64 0], 7⟩, ⟨b16, [.int .i64 0, .int .i64 0], 2⟩] : List Own) := by
      refine hstep [0, 2, 7] _ _ _ (by kernel_rfl) (List.cons_ne_nil _ _) ⟨?_, ?_, ?_, trivial⟩
      · show T _ _ _ _ _ _ _ _
        refine t_qz 1 [2, 3, 8, 9, 10, 20, 21, 22, 26, 27, 31, 32] (σ' := [(2, .int .i64 1), (3, .int .i64 1), (8, .pointer (some ⟨b18, 0, none⟩)), (9, .slice (some ⟨g19, 0, none⟩) 1 1), (10, .slice (some ⟨g20, 0, none⟩) 1 1), (20, .slice (some ⟨N23, 1, none⟩) 1 3), (21, .int .i64 1), (22, .int .i64 0), (26, .slice (some ⟨g19, 0, none⟩) 1 1), (27, .pointer (some ⟨b24, 0, none⟩)), (31, .slice (some ⟨g20, 0, none⟩) 1 1), (32, .pointer (some ⟨b24, 1, none⟩))]) (by kernel_rfl) ?_
        refine t_end ?_
        exact ⟨hg_63, rfl⟩
      · show T _ _ _ _ _ _ _ _
        refine t_v (.ld1 rfl rfl rfl (.at 0 rfl rfl)) ?_
        refine t_keep [2, 3, 8, 9, 10, 20, 21, 22, 28, 31, 32] (σ' := [(2, .int .i64 1), (3, .int .i64 1), (8, .pointer (some ⟨b18, 0, none⟩)), (9, .slice (some ⟨g19, 0, none⟩) 1 1), (10, .slice (some ⟨g20, 0, none⟩) 1 1), (20, .slice (some ⟨N23, 1, none⟩) 1 3), (21, .int .i64 1), (22, .int .i64 0), (28, .int .i64 5), (31, .slice (some ⟨g20, 0, none⟩) 1 1), (32, .pointer (some ⟨b24, 1, none⟩))]) (by kernel_rfl) ?_
        refine t_end ?_
        exact ⟨hg_66, rfl⟩
      · show T _ _ _ _ _ _ _ _
        refine t_v (.ld1 rfl rfl rfl (.at 0 rfl rfl)) ?_
        refine t_keep [2, 3, 8, 9, 10, 20, 21, 22, 27, 31, 33] (σ' := [(2, .int .i64 1), (3, .int .i64 1), (8, .pointer (some ⟨b18, 0, none⟩)), (9, .slice (some ⟨g19, 0, none⟩) 1 1), (10, .slice (some ⟨g20, 0, none⟩) 1 1), (20, .slice (some ⟨N23, 1, none⟩) 1 3), (21, .int .i64 1), (22, .int .i64 0), (27, .pointer (some ⟨b24, 0, none⟩)), (31, .slice (some ⟨g20, 0, none⟩) 1 1), (33, .int .i64 0)]) (by kernel_rfl) ?_
        refine t_end ?_
        exact ⟨hg_e2, rfl⟩
    have hg_3 : G [true, true, false, false, false, false, false, false, false, false, false, false] [(2, .int .i64 1), (3, .int .i64 1), (8, .pointer (some ⟨b18, 0, none⟩)), (9, .slice (some ⟨g19, 0, none⟩) 1 1), (10, .slice (some ⟨g20, 0, none⟩) 1 1), (12, .pointer (some ⟨b24, 0, none⟩)), (20, .slice (some ⟨N23, 1, none⟩) 1 3), (21, .int .i64 1), (22, .int .i64 0), (26, .slice (some ⟨g19, 0, none⟩) 1 1), (27, .pointer (some ⟨b24, 0, none⟩))] ([⟨b24, [.int .i64 5, .int .i64 0], 2⟩, ⟨N23, [.int .i64 1, .int .i64 5, .int .i64 0, .int .i64 0, .int .i64 0, .int .i64 0, .int .i64 0], 7⟩, ⟨g20, [.int .i64 0], 1⟩, ⟨g19, [.int .i64 0], 1⟩, ⟨b18, [.int .i64 0, .int .i64 0], 2⟩, ⟨b17, [.int .i64 1, .int .i64 5, .int .i64 0, .int .i64 0, .int .i64 0, .int .i64 0, .int .i64 0], 7⟩, ⟨b16, [.int .i64 0, .int .i64 0], 2⟩] : List Own) := by
      refine hstep [2, 5, 6] _ _ _ (by kernel_rfl) (List.cons_ne_nil _ _) ⟨?_, ?_, ?_, trivial⟩
      · show T _ _ _ _ _ _ _ _
        refine t_v (.ld1 rfl rfl rfl (.at 0 rfl rfl)) ?_
        refine t_keep [2, 3, 8, 9, 10, 12, 20, 21, 22, 26, 28] (σ' := [(2, .int .i64 1), (3, .int .i64 1), (8, .pointer (some ⟨b18, 0, none⟩)), (9, .slice (some ⟨g19, 0, none⟩) 1 1), (10, .slice (some ⟨g20, 0, none⟩) 1 1), (12, .pointer (some ⟨b24, 0, none⟩)), (20, .slice (some ⟨N23, 1, none⟩) 1 3), (21, .int .i64 1), (22, .int .i64 0), (26, .slice (some ⟨g19, 0, none⟩) 1 1), (28, .int .i64 5)]) (by kernel_rfl) ?_
        refine t_end ?_
        exact ⟨hg_7, rfl⟩
      · show T _ _ _ _ _ _ _ _
        refine t_qz 1 [2, 3, 8, 9, 10, 12, 20, 21, 22, 26, 27, 31] (σ' := [(2, .int .i64 1), (3, .int .i64 1), (8, .pointer (some ⟨b18, 0, none⟩)), (9, .slice (some ⟨g19, 0, none⟩) 1 1), (10, .slice (some ⟨g20, 0, none⟩) 1 1), (12, .pointer (some ⟨b24, 0, none⟩)), (20, .slice (some ⟨N23, 1, none⟩) 1 3), (21, .int .i64 1), (22, .int .i64 0), (26, .slice (some ⟨g19, 0, none⟩) 1 1), (27, .pointer (some ⟨b24, 0, none⟩)), (31, .slice (some ⟨g20, 0, none⟩) 1 1)]) (by kernel_rfl) ?_
        refine t_end ?_
        exact ⟨hg_23, rfl⟩
      · show T _ _ _ _ _ _ _ _
        refine t_qz 1 [2, 3, 8, 9, 10, 20, 21, 22, 26, 27, 32] (σ' := [(2, .int .i64 1), (3, .int .i64 1), (8, .pointer (some ⟨b18, 0, none⟩)), (9, .slice (some ⟨g19, 0, none⟩) 1 1), (10, .slice (some ⟨g20, 0, none⟩) 1 1), (20, .slice (some ⟨N23, 1, none⟩) 1 3), (21, .int .i64 1), (22, .int .i64 0), (26, .slice (some ⟨g19, 0, none⟩) 1 1), (27, .pointer (some ⟨b24, 0, none⟩)), (32, .pointer (some ⟨b24, 1, none⟩))]) (by kernel_rfl) ?_
        refine t_end ?_
        exact ⟨hg_43, rfl⟩
    have hg_6 : G [false, true, true, false, false, false, false, false, false, false, false, false] [(2, .int .i64 1), (3, .int .i64 1), (8, .pointer (some ⟨b18, 0, none⟩)), (9, .slice (some ⟨g19, 0, none⟩) 1 1), (10, .slice (some ⟨g20, 0, none⟩) 1 1), (12, .pointer (some ⟨b24, 0, none⟩)), (20, .slice (some ⟨N23, 1, none⟩) 1 3), (21, .int .i64 1), (22, .int .i64 0), (28, .int .i64 5)] ([⟨b24, [.int .i64 5, .int .i64 0], 2⟩, ⟨N23, [.int .i64 1, .int .i64 5, .int .i64 0, .int .i64 0, .int .i64 0, .int .i64 0, .int .i64 0], 7⟩, ⟨g20, [.int .i64 0], 1⟩, ⟨g19, [.int .i64 0], 1⟩, ⟨b18, [.int .i64 0, .int .i64 0], 2⟩, ⟨b17, [.int .i64 1, .int .i64 5, .int .i64 0, .int .i64 0, .int .i64 0, .int .i64 0, .int .i64 0], 7⟩, ⟨b16, [.int .i64 0, .int .i64 0], 2⟩] : List Own) := by
      refine hstep [0, 3, 5, 6] _ _ _ (by kernel_rfl) (List.cons_ne_nil _ _) ⟨?_, ?_, ?_, ?_, trivial⟩
      · show T _ _ _ _ _ _ _ _
        refine t_qz 1 [2, 3, 8, 9, 10, 12, 20, 21, 22, 26, 28] (σ' := [(2, .int .i64 1), (3, .int .i64 1), (8, .pointer (some ⟨b18, 0, none⟩)), (9, .slice (some ⟨g19, 0, none⟩) 1 1), (10, .slice (some ⟨g20, 0, none⟩) 1 1), (12, .pointer (some ⟨b24, 0, none⟩)), (20, .slice (some ⟨N23, 1, none⟩) 1 3), (21, .int .i64 1), (22, .int .i64 0), (26, .slice (some ⟨g19, 0, none⟩) 1 1), (28, .int .i64 5)]) (by kernel_rfl) ?_
        refine t_end ?_
        exact ⟨hg_7, rfl⟩
      · show T _ _ _ _ _ _ _ _
        refine t_a (.bsl rfl rfl rfl rfl) fun g25 fg25 sg25 => ?_
        refine t_keep [2, 3, 8, 9, 10, 12, 20, 21, 22, 29] (σ' := [(2, .int .i64 1), (3, .int .i64 1), (8, .pointer (some ⟨b18, 0, none⟩)), (9, .slice (some ⟨g19, 0, none⟩) 1 1), (10, .slice (some ⟨g20, 0, none⟩) 1 1), (12, .pointer (some ⟨b24, 0, none⟩)), (20, .slice (some ⟨N23, 1, none⟩) 1 3), (21, .int .i64 1), (22, .int .i64 0), (29, .slice (some ⟨g25, 0, none⟩) 1 1)]) (by kernel_rfl) ?_
        refine t_end ?_
        exact ⟨hg_e g25, rfl⟩
      · show T _ _ _ _ _ _ _ _
        refine t_qz 1 [2, 3, 8, 9, 10, 12, 20, 21, 22, 28, 31] (σ' := [(2, .int .i64 1), (3, .int .i64 1), (8, .pointer (some ⟨b18, 0, none⟩)), (9, .slice (some ⟨g19, 0, none⟩) 1 1), (10, .slice (some ⟨g20, 0, none⟩) 1 1), (12, .pointer (some ⟨b24, 0, none⟩)), (20, .slice (some ⟨N23, 1, none⟩) 1 3), (21, .int .i64 1), (22, .int .i64 0), (28, .int .i64 5), (31, .slice (some ⟨g20, 0, none⟩) 1 1)]) (by kernel_rfl) ?_
        refine t_end ?_
        exact ⟨hg_26, rfl⟩
      · show T _ _ _ _ _ _ _ _
        refine t_qz 1 [2, 3, 8, 9, 10, 20, 21, 22, 28, 32] (σ' := [(2, .int .i64 1), (3, .int .i64 1), (8, .pointer (some ⟨b18, 0, none⟩)), (9, .slice (some ⟨g19, 0, none⟩) 1 1), (10, .slice (some ⟨g20, 0, none⟩) 1 1), (20, .slice (some ⟨N23, 1, none⟩) 1 3), (21, .int .i64 1), (22, .int .i64 0), (28, .int .i64 5), (32, .pointer (some ⟨b24, 1, none⟩))]) (by kernel_rfl) ?_
        refine t_end ?_
        exact ⟨hg_46, rfl⟩
    have hg_21 : G [true, false, false, false, false, true, false, false, false, false, false, false] [(2, .int .i64 1), (3, .int .i64 1), (8, .pointer (some ⟨b18, 0, none⟩)), (9, .slice (some ⟨g19, 0, none⟩) 1 1), (10, .slice (some ⟨g20, 0, none⟩) 1 1), (12, .pointer (some ⟨b24, 0, none⟩)), (20, .slice (some ⟨N23, 1, none⟩) 1 3), (21, .int .i64 1), (22, .int .i64 0), (26, .slice (some ⟨g19, 0, none⟩) 1 1), (31, .slice (some ⟨g20, 0, none⟩) 1 1)] ([⟨b24, [.int .i64 5, .int .i64 0], 2⟩, ⟨N23, [.int .i64 1, .int .i64 5, .int .i64 0, .int .i64 0, .int .i64 0, .int .i64 0, .int .i64 0], 7⟩, ⟨g20, [.int .i64 0], 1⟩, ⟨g19, [.int .i64 0], 1⟩, ⟨b18, [.int .i64 0, .int .i64 0], 2⟩, ⟨b17, [.int .i64 1, .int .i64 5, .int .i64 0, .int .i64 0, .int .i64 0, .int .i64 0, .int .i64 0], 7⟩, ⟨b16, [.int .i64 0, .int .i64 0], 2⟩] : List Own) := by
      refine hstep [1, 6] _ _ _ (by kernel_rfl) (List.cons_ne_nil _ _) ⟨?_, ?_, trivial⟩
      · show T _ _ _ _ _ _ _ _
        refine t_qz 1 [2, 3, 8, 9, 10, 12, 20, 21, 22, 26, 27, 31] (σ' := [(2, .int .i64 1), (3, .int .i64 1), (8, .pointer (some ⟨b18, 0, none⟩)), (9, .slice (some ⟨g19, 0, none⟩) 1 1), (10, .slice (some ⟨g20, 0, none⟩) 1 1), (12, .pointer (some ⟨b24, 0, none⟩)), (20, .slice (some ⟨N23, 1, none⟩) 1 3), (21, .int .i64 1), (22, .int .i64 0), (26, .slice (some ⟨g19, 0, none⟩) 1 1), (27, .pointer (some ⟨b24, 0, none⟩)), (31, .slice (some ⟨g20, 0, none⟩) 1 1)]) (by kernel_rfl) ?_
        refine t_end ?_
        exact ⟨hg_23, rfl⟩
      · show T _ _ _ _ _ _ _ _
        refine t_qz 1 [2, 3, 8, 9, 10, 12, 20, 21, 22, 26, 31, 32] (σ' := [(2, .int .i64 1), (3, .int .i64 1), (8, .pointer (some ⟨b18, 0, none⟩)), (9, .slice (some ⟨g19, 0, none⟩) 1 1), (10, .slice (some ⟨g20, 0, none⟩) 1 1), (12, .pointer (some ⟨b24, 0, none⟩)), (20, .slice (some ⟨N23, 1, none⟩) 1 3), (21, .int .i64 1), (22, .int .i64 0), (26, .slice (some ⟨g19, 0, none⟩) 1 1), (31, .slice (some ⟨g20, 0, none⟩) 1 1), (32, .pointer (some ⟨b24, 1, none⟩))]) (by kernel_rfl) ?_
        refine t_end ?_
        exact ⟨hg_61, rfl⟩
    have hg_22 : G [false, true, false, false, false, true, false, false, false, false, false, false] [(2, .int .i64 1), (3, .int .i64 1), (8, .pointer (some ⟨b18, 0, none⟩)), (9, .slice (some ⟨g19, 0, none⟩) 1 1), (10, .slice (some ⟨g20, 0, none⟩) 1 1), (12, .pointer (some ⟨b24, 0, none⟩)), (20, .slice (some ⟨N23, 1, none⟩) 1 3), (21, .int .i64 1), (22, .int .i64 0), (27, .pointer (some ⟨b24, 0, none⟩)), (31, .slice (some ⟨g20, 0, none⟩) 1 1)] ([⟨b24, [.int .i64 5, .int .i64 0], 2⟩, ⟨N23, [.int .i64 1, .int .i64 5, .int .i64 0, .int .i64 0, .int .i64 0, .int .i64 0, .int .i64 0], 7⟩, ⟨g20, [.int .i64 0], 1⟩, ⟨g19, [.int .i64 0], 1⟩, ⟨b18, [.int .i64 0, .int .i64 0], 2⟩, ⟨b17, [.int .i64 1, .int .i64 5, .int .i64 0, .int .i64 0, .int .i64 0, .int .i64 0, .int .i64 0], 7⟩, ⟨b16, [.int .i64 0, .int .i64 0], 2⟩] : List Own) := by
      refine hstep [0, 2, 6] _ _ _ (by kernel_rfl) (List.cons_ne_nil _ _) ⟨?_, ?_, ?_, trivial⟩
      · show T _ _ _ _ _ _ _ _
        refine t_qz 1 [2, 3, 8, 9, 10, 12, 20, 21, 22, 26, 27, 31] (σ' := [(2, .int .i64 1), (3, .int .i64 1), (8, .pointer (some ⟨b18, 0, none⟩)), (9, .slice (some ⟨g19, 0, none⟩) 1 1), (10, .slice (some ⟨g20, 0, none⟩) 1 1), (12, .pointer (some ⟨b24, 0, none⟩)), (20, .slice (some ⟨N23, 1, none⟩) 1 3), (21, .int .i64 1), (22, .int .i64 0), (26, .slice (some ⟨g19, 0, none⟩) 1 1), (27, .pointer (some ⟨b24, 0, none⟩)), (31, .slice (some ⟨g20, 0, none⟩) 1 1)]) (by kernel_rfl) ?_
        refine t_end ?_
        exact ⟨hg_23, rfl⟩
      · show T _ _ _ _ _ _ _ _
        refine t_v (.ld1 rfl rfl rfl (.at 0 rfl rfl)) ?_
        refine t_keep [2, 3, 8, 9, 10, 12, 20, 21, 22, 28, 31] (σ' := [(2, .int .i64 1), (3, .int .i64 1), (8, .pointer (some ⟨b18, 0, none⟩)), (9, .slice (some ⟨g19, 0, none⟩) 1 1), (10, .slice (some ⟨g20, 0, none⟩) 1 1), (12, .pointer (some ⟨b24, 0, none⟩)), (20, .slice (some ⟨N23, 1, none⟩) 1 3), (21, .int .i64 1), (22, .int .i64 0), (28, .int .i64 5), (31, .slice (some ⟨g20, 0, none⟩) 1 1)]) (by kernel_rfl) ?_
        refine t_end ?_
        exact ⟨hg_26, rfl⟩
      · show T _ _ _ _ _ _ _ _
        refine t_qz 1 [2, 3, 8, 9, 10, 20, 21, 22, 27, 31, 32] (σ' := [(2, .int .i64 1), (3, .int .i64 1), (8, .pointer (some ⟨b18, 0, none⟩)), (9, .slice (some ⟨g19, 0, none⟩) 1 1), (10, .slice (some ⟨g20, 0, none⟩) 1 1), (20, .slice (some ⟨N23, 1, none⟩) 1 3), (21, .int .i64 1), (22, .int .i64 0), (27, .pointer (some ⟨b24, 0, none⟩)), (31, .slice (some ⟨g20, 0, none⟩) 1 1), (32, .pointer (some ⟨b24, 1, none⟩))]) (by kernel_rfl) ?_
        refine t_end ?_
        exact ⟨hg_62, rfl⟩
    have hg_41 : G [true, false, false, false, false, false, true, false, false, false, false, false] [(2, .int .i64 1), (3, .int .i64 1), (8, .pointer (some ⟨b18, 0, none⟩)), (9, .slice (some ⟨g19, 0, none⟩) 1 1), (10, .slice (some ⟨g20, 0, none⟩) 1 1), (12, .pointer (some ⟨b24, 0, none⟩)), (20, .slice (some ⟨N23, 1, none⟩) 1 3), (21, .int .i64 1), (22, .int .i64 0), (26, .slice (some ⟨g19, 0, none⟩) 1 1), (32, .pointer (some ⟨b24, 1, none⟩))] ([⟨b24, [.int .i64 5, .int .i64 0], 2⟩, ⟨N23, [.int .i64 1, .int .i64 5, .int .i64 0, .int .i64 0, .int .i64 0, .int .i64 0, .int .i64 0], 7⟩, ⟨g20, [.int .i64 0], 1⟩, ⟨g19, [.int .i64 0], 1⟩, ⟨b18, [.int .i64 0, .int .i64 0], 2⟩, ⟨b17, [.int .i64 1, .int .i64 5, .int .i64 0, .int .i64 0, .int .i64 0, .int .i64 0, .int .i64 0], 7⟩, ⟨b16, [.int .i64 0, .int .i64 0], 2⟩] : List Own) := by
      refine hstep [1, 5, 7] _ _ _ (by kernel_rfl) (List.cons_ne_nil _ _) ⟨?_, ?_, ?_, trivial⟩
      · show T _ _ _ _ _ _ _ _
        refine t_qz 1 [2, 3, 8, 9, 10, 20, 21, 22, 26, 27, 32] (σ' := [(2, .int .i64 1), (3, .int .i64 1), (8, .pointer (some ⟨b18, 0, none⟩)), (9, .slice (some ⟨g19, 0, none⟩) 1 1), (10, .slice (some ⟨g20, 0, none⟩) 1 1), (20, .slice (some ⟨N23, 1, none⟩) 1 3), (21, .int .i64 1), (22, .int .i64 0), (26, .slice (some ⟨g19, 0, none⟩) 1 1), (27, .pointer (some ⟨b24, 0, none⟩)), (32, .pointer (some ⟨b24, 1, none⟩))]) (by kernel_rfl) ?_
        refine t_end ?_
        exact ⟨hg_43, rfl⟩
      · show T _ _ _ _ _ _ _ _
        refine t_qz 1 [2, 3, 8, 9, 10, 12, 20, 21, 22, 26, 31, 32] (σ' := [(2, .int .i64 1), (3, .int .i64 1), (8, .pointer (some ⟨b18, 0, none⟩)), (9, .slice (some ⟨g19, 0, none⟩) 1 1), (10, .slice (some ⟨g20, 0, none⟩) 1 1), (12, .pointer (some ⟨b24, 0, none⟩)), (20, .slice (some ⟨N23, 1, none⟩) 1 3), (21, .int .i64 1), (22, .int .i64 0), (26, .slice (some ⟨g19, 0, none⟩) 1 1), (31, .slice (some ⟨g20, 0, none⟩) 1 1), (32, .pointer (some ⟨b24, 1, none⟩))]) (by kernel_rfl) ?_
        refine t_end ?_
        exact ⟨hg_61, rfl⟩
      · show T _ _ _ _ _ _ _ _
        refine t_v (.ld1 rfl rfl rfl (.at 0 rfl rfl)) ?_
        refine t_keep [2, 3, 8, 9, 10, 12, 20, 21, 22, 26, 33] (σ' := [(2, .int .i64 1), (3, .int .i64 1), (8, .pointer (some ⟨b18, 0, none⟩)), (9, .slice (some ⟨g19, 0, none⟩) 1 1), (10, .slice (some ⟨g20, 0, none⟩) 1 1), (12, .pointer (some ⟨b24, 0, none⟩)), (20, .slice (some ⟨N23, 1, none⟩) 1 3), (21, .int .i64 1), (22, .int .i64 0), (26, .slice (some ⟨g19, 0, none⟩) 1 1), (33, .int .i64 0)]) (by kernel_rfl) ?_
        refine t_end ?_
        exact ⟨hg_c1, rfl⟩
    have hg_42 : G [false, true, false, false, false, false, true, false, false, false, false, false] [(2, .int .i64 1), (3, .int .i64 1), (8, .pointer (some ⟨b18, 0, none⟩)), (9, .slice (some ⟨g19, 0, none⟩) 1 1), (10, .slice (some ⟨g20, 0, none⟩) 1 1), (20, .slice (some ⟨N23, 1, none⟩) 1 3), (21, .int .i64 1), (22, .int .i64 0), (27, .pointer (some ⟨b24, 0, none⟩)), (32, .pointer (some ⟨b24, 1, none⟩))] ([⟨b24, [.int .i64 5, .int .i64 0], 2⟩, ⟨N23, [.int .i64 1, .int .i64 5, .int .i64 0, .int .i64 0, .int .i64 0, .int .i64 0, .int .i64 0], 7⟩, ⟨g20, [.int .i64 0], 1⟩, ⟨g19, [.int .i64 0], 1⟩, ⟨b18, [.int .i64 0, .int .i64 0], 2⟩, ⟨b17, [.int .i64 1, .int .i64 5, .int .i64 0, .int .i64 0, .int .i64 0, .int .i64 0, .int .i64 0], 7⟩, ⟨b16, [.int .i64 0, .int .i64 0], 2⟩] : List Own) := by
      refine hstep [0, 2, 5, 7] _ _ _ (by kernel_rfl) (List.cons_ne_nil _ _) ⟨?_, ?_, ?_, ?_, trivial⟩
      · show T _ _ _ _ _ _ _ _
        refine t_qz 1 [2, 3, 8, 9, 10, 20, 21, 22, 26, 27, 32] (σ' := [(2, .int .i64 1), (3, .int .i64 1), (8, .pointer (some ⟨b18, 0, none⟩)), (9, .slice (some ⟨g19, 0, none⟩) 1 1), (10, .slice (some ⟨g20, 0, none⟩) 1 1), (20, .slice (some ⟨N23, 1, none⟩) 1 3), (21, .int .i64 1), (22, .int .i64 0), (26, .slice (some ⟨g19, 0, none⟩) 1 1), (27, .pointer (some ⟨b24, 0, none⟩)), (32, .pointer (some ⟨b24, 1, none⟩))]) (by kernel_rfl) ?_
        refine t_end ?_
        exact ⟨hg_43, rfl⟩
      · show T _ _ _ _ _ _ _ _
        refine t_v (.ld1 rfl rfl rfl (.at 0 rfl rfl)) ?_
        refine t_keep [2, 3, 8, 9, 10, 20, 21, 22, 28, 32] (σ' := [(2, .int .i64 1), (3, .int .i64 1), (8, .pointer (some ⟨b18, 0, none⟩)), (9, .slice (some ⟨g19, 0, none⟩) 1 1), (10, .slice (some ⟨g20, 0, none⟩) 1 1), (20, .slice (some ⟨N23, 1, none⟩) 1 3), (21, .int .i64 1), (22, .int .i64 0), (28, .int .i64 5), (32, .pointer (some ⟨b24, 1, none⟩))]) (by kernel_rfl) ?_
        refine t_end ?_
        exact ⟨hg_46, rfl⟩
      · show T _ _ _ _ _ _ _ _
        refine t_qz 1 [2, 3, 8, 9, 10, 20, 21, 22, 27, 31, 32] (σ' := [(2, .int .i64 1), (3, .int .i64 1), (8, .pointer (some ⟨b18, 0, none⟩)), (9, .slice (some ⟨g19, 0, none⟩) 1 1), (10, .slice (some ⟨g20, 0, none⟩) 1 1), (20, .slice (some ⟨N23, 1, none⟩) 1 3), (21, .int .i64 1), (22, .int .i64 0), (27, .pointer (some ⟨b24, 0, none⟩)), (31, .slice (some ⟨g20, 0, none⟩) 1 1), (32, .pointer (some ⟨b24, 1, none⟩))]) (by kernel_rfl) ?_
        refine t_end ?_
        exact ⟨hg_62, rfl⟩
      · show T _ _ _ _ _ _ _ _
        refine t_v (.ld1 rfl rfl rfl (.at 0 rfl rfl)) ?_
        refine t_keep [2, 3, 8, 9, 10, 20, 21, 22, 27, 33] (σ' := [(2, .int .i64 1), (3, .int .i64 1), (8, .pointer (some ⟨b18, 0, none⟩)), (9, .slice (some ⟨g19, 0, none⟩) 1 1), (10, .slice (some ⟨g20, 0, none⟩) 1 1), (20, .slice (some ⟨N23, 1, none⟩) 1 3), (21, .int .i64 1), (22, .int .i64 0), (27, .pointer (some ⟨b24, 0, none⟩)), (33, .int .i64 0)]) (by kernel_rfl) ?_
        refine t_end ?_
        exact ⟨hg_c2, rfl⟩
    have hg_c0 : G [false, false, false, false, false, false, true, true, false, false, false, false] [(2, .int .i64 1), (3, .int .i64 1), (8, .pointer (some ⟨b18, 0, none⟩)), (9, .slice (some ⟨g19, 0, none⟩) 1 1), (10, .slice (some ⟨g20, 0, none⟩) 1 1), (12, .pointer (some ⟨b24, 0, none⟩)), (20, .slice (some ⟨N23, 1, none⟩) 1 3), (21, .int .i64 1), (22, .int .i64 0), (33, .int .i64 0)] ([⟨b24, [.int .i64 5, .int .i64 0], 2⟩, ⟨N23, [.int .i64 1, .int .i64 5, .int .i64 0, .int .i64 0, .int .i64 0, .int .i64 0, .int .i64 0], 7⟩, ⟨g20, [.int .i64 0], 1⟩, ⟨g19, [.int .i64 0], 1⟩, ⟨b18, [.int .i64 0, .int .i64 0], 2⟩, ⟨b17, [.int .i64 1, .int .i64 5, .int .i64 0, .int .i64 0, .int .i64 0, .int .i64 0, .int .i64 0], 7⟩, ⟨b16, [.int .i64 0, .int .i64 0], 2⟩] : List Own) := by
      refine hstep [0, 1, 5, 8] _ _ _ (by kernel_rfl) (List.cons_ne_nil _ _) ⟨?_, ?_, ?_, ?_, trivial⟩
      · show T _ _ _ _ _ _ _ _
        refine t_qz 1 [2, 3, 8, 9, 10, 12, 20, 21, 22, 26, 33] (σ' := [(2, .int .i64 1), (3, .int .i64 1), (8, .pointer (some ⟨b18, 0, none⟩)), (9, .slice (some ⟨g19, 0, none⟩) 1 1), (10, .slice (some ⟨g20, 0, none⟩) 1 1), (12, .pointer (some ⟨b24, 0, none⟩)), (20, .slice (some ⟨N23, 1, none⟩) 1 3), (21, .int .i64 1), (22, .int .i64 0), (26, .slice (some ⟨g19, 0, none⟩) 1 1), (33, .int .i64 0)]) (by kernel_rfl) ?_
        refine t_end ?_
        exact ⟨hg_c1, rfl⟩
      · show T _ _ _ _ _ _ _ _
        refine t_qz 1 [2, 3, 8, 9, 10, 20, 21, 22, 27, 33] (σ' := [(2, .int .i64 1), (3, .int .i64 1), (8, .pointer (some ⟨b18, 0, none⟩)), (9, .slice (some ⟨g19, 0, none⟩) 1 1), (10, .slice (some ⟨g20, 0, none⟩) 1 1), (20, .slice (some ⟨N23, 1, none⟩) 1 3), (21, .int .i64 1), (22, .int .i64 0), (27, .pointer (some ⟨b24, 0, none⟩)), (33, .int .i64 0)]) (by kernel_rfl) ?_
        refine t_end ?_
        exact ⟨hg_c2, rfl⟩
      · show T _ _ _ _ _ _ _ _
        refine t_qz 1 [2, 3, 8, 9, 10, 12, 20, 21, 22, 31, 33] (σ' := [(2, .int .i64 1), (3, .int .i64 1), (8, .pointer (some ⟨b18, 0, none⟩)), (9, .slice (some ⟨g19, 0, none⟩) 1 1), (10, .slice (some ⟨g20, 0, none⟩) 1 1), (12, .pointer (some ⟨b24, 0, none⟩)), (20, .slice (some ⟨N23, 1, none⟩) 1 3), (21, .int .i64 1), (22, .int .i64 0), (31, .slice (some ⟨g20, 0, none⟩) 1 1), (33, .int .i64 0)]) (by kernel_rfl) ?_
        refine t_end ?_
        exact ⟨hg_e0, rfl⟩
      · show T _ _ _ _ _ _ _ _
        refine t_a (.bsl rfl rfl rfl rfl) fun g27 fg27 sg27 => ?_
        refine t_keep [2, 3, 8, 9, 10, 12, 20, 21, 22, 34] (σ' := [(2, .int .i64 1), (3, .int .i64 1), (8, .pointer (some ⟨b18, 0, none⟩)), (9, .slice (some ⟨g19, 0, none⟩) 1 1), (10, .slice (some ⟨g20, 0, none⟩) 1 1), (12, .pointer (some ⟨b24, 0, none⟩)), (20, .slice (some ⟨N23, 1, none⟩) 1 3), (21, .int .i64 1), (22, .int .i64 0), (34, .slice (some ⟨g27, 0, none⟩) 1 1)]) (by kernel_rfl) ?_
        refine t_end ?_
        exact ⟨hg_1c0 g27, rfl⟩
    have hg_60 : G [false, false, false, false, false, true, true, false, false, false, false, false] [(2, .int .i64 1), (3, .int .i64 1), (8, .pointer (some ⟨b18, 0, none⟩)), (9, .slice (some ⟨g19, 0, none⟩) 1 1), (10, .slice (some ⟨g20, 0, none⟩) 1 1), (12, .pointer (some ⟨b24, 0, none⟩)), (20, .slice (some ⟨N23, 1, none⟩) 1 3), (21, .int .i64 1), (22, .int .i64 0), (31, .slice (some ⟨g20, 0, none⟩) 1 1), (32, .pointer (some ⟨b24, 1, none⟩))] ([⟨b24, [.int .i64 5, .int .i64 0], 2⟩, ⟨N23, [.int .i64 1, .int .i64 5, .int .i64 0, .int .i64 0, .int .i64 0, .int .i64 0, .int .i64 0], 7⟩, ⟨g20, [.int .i64 0], 1⟩, ⟨g19, [.int .i64 0], 1⟩, ⟨b18, [.int .i64 0, .int .i64 0], 2⟩, ⟨b17, [.int .i64 1, .int .i64 5, .int .i64 0, .int .i64 0, .int .i64 0, .int .i64 0, .int .i64 0], 7⟩, ⟨b16, [.int .i64 0, .int .i64 0], 2⟩] : List Own) := by
      refine hstep [0, 1, 7] _ _ _ (by kernel_rfl) (List.cons_ne_nil _ _) ⟨?_, ?_, ?_, trivial⟩
      · show T _ _ _ _ _ _ _ _
        refine t_qz 1 [2, 3, 8, 9, 10, 12, 20, 21, 22, 26, 31, 32] (σ' := [(2, .int .i64 1), (3, .int .i64 1), (8, .pointer (some ⟨b18, 0, none⟩)), (9, .slice (some ⟨g19, 0, none⟩) 1 1), (10, .slice (some ⟨g20, 0, none⟩) 1 1), (12, .pointer (some ⟨b24, 0, none⟩)), (20, .slice (some ⟨N23, 1, none⟩) 1 3), (21, .int .i64 1), (22, .int .i64 0), (26, .slice (some ⟨g19, 0, none⟩) 1 1), (31, .slice (some ⟨g20, 0, none⟩) 1 1), (32, .pointer (some ⟨b24, 1, none⟩))]) (by kernel_rfl) ?_
        refine t_end ?_
        exact ⟨hg_61, rfl⟩
      · show T _ _ _ _ _ _ _ _
        refine t_qz 1 [2, 3, 8, 9, 10, 20, 21, 22, 27, 31, 32] (σ' := [(2, .int .i64 1), (3, .int .i64 1), (8, .pointer (some ⟨b18, 0, none⟩)), (9, .slice (some ⟨g19, 0, none⟩) 1 1), (10, .slice (some ⟨g20, 0, none⟩) 1 1), (20, .slice (some ⟨N23, 1, none⟩) 1 3), (21, .int .i64 1), (22, .int .i64 0), (27, .pointer (some ⟨b24, 0, none⟩)), (31, .slice (some ⟨g20, 0, none⟩) 1 1), (32, .pointer (some ⟨b24, 1, none⟩))]) (by kernel_rfl) ?_
        refine t_end ?_
        exact ⟨hg_62, rfl⟩
      · show T _ _ _ _ _ _ _ _
        refine t_v (.ld1 rfl rfl rfl (.at 0 rfl rfl)) ?_
        refine t_keep [2, 3, 8, 9, 10, 12, 20, 21, 22, 31, 33] (σ' := [(2, .int .i64 1), (3, .int .i64 1), (8, .pointer (some ⟨b18, 0, none⟩)), (9, .slice (some ⟨g19, 0, none⟩) 1 1), (10, .slice (some ⟨g20, 0, none⟩) 1 1), (12, .pointer (some ⟨b24, 0, none⟩)), (20, .slice (some ⟨N23, 1, none⟩) 1 3), (21, .int .i64 1), (22, .int .i64 0), (31, .slice (some ⟨g20, 0, none⟩) 1 1), (33, .int .i64 0)]) (by kernel_rfl) ?_
        refine t_end ?_
        exact ⟨hg_e0, rfl⟩
    have hg_1 : G [true, false, false, false, false, false, false, false, false, false, false, false] [(2, .int .i64 1), (3, .int .i64 1), (8, .pointer (some ⟨b18, 0, none⟩)), (9, .slice (some ⟨g19, 0, none⟩) 1 1), (10, .slice (some ⟨g20, 0, none⟩) 1 1), (12, .pointer (some ⟨b24, 0, none⟩)), (20, .slice (some ⟨N23, 1, none⟩) 1 3), (21, .int .i64 1), (22, .int .i64 0), (26, .slice (some ⟨g19, 0, none⟩) 1 1)] ([⟨b24, [.int .i64 5, .int .i64 0], 2⟩, ⟨N23, [.int .i64 1, .int .i64 5, .int .i64 0, .int .i64 0, .int .i64 0, .int .i64 0, .int .i64 0], 7⟩, ⟨g20, [.int .i64 0], 1⟩, ⟨g19, [.int .i64 0], 1⟩, ⟨b18, [.int .i64 0, .int .i64 0], 2⟩, ⟨b17, [.int .i64 1, .int .i64 5, .int .i64 0, .int .i64 0, .int .i64 0, .int .i64 0, .int .i64 0], 7⟩, ⟨b16, [.int .i64 0, .int .i64 0], 2⟩] : List Own) := by
      refine hstep [1, 5, 6] _ _ _ (by kernel_rfl) (List.cons_ne_nil _ _) ⟨?_, ?_, ?_, trivial⟩
      · show T _ _ _ _ _ _ _ _
        refine t_qz 1 [2, 3, 8, 9, 10, 12, 20, 21, 22, 26, 27] (σ' := [(2, .int .i64 1), (3, .int .i64 1), (8, .pointer (some ⟨b18, 0, none⟩)), (9, .slice (some ⟨g19, 0, none⟩) 1 1), (10, .slice (some ⟨g20, 0, none⟩) 1 1), (12, .pointer (some ⟨b24, 0, none⟩)), (20, .slice (some ⟨N23, 1, none⟩) 1 3), (21, .int .i64 1), (22, .int .i64 0), (26, .slice (some ⟨g19, 0, none⟩) 1 1), (27, .pointer (some ⟨b24, 0, none⟩))]) (by kernel_rfl) ?_
        refine t_end ?_
        exact ⟨hg_3, rfl⟩
      · show T _ _ _ _ _ _ _ _
        refine t_qz 1 [2, 3, 8, 9, 10, 12, 20, 21, 22, 26, 31] (σ' := [(2, .int .i64 1), (3, .int .i64 1), (8, .pointer (some ⟨b18, 0, none⟩)), (9, .slice (some ⟨g19, 0, none⟩) 1 1), (10, .slice (some ⟨g20, 0, none⟩) 1 1), (12, .pointer (some ⟨b24, 0, none⟩)), (20, .slice (some ⟨N23, 1, none⟩) 1 3), (21, .int .i64 1), (22, .int .i64 0), (26, .slice (some ⟨g19, 0, none⟩) 1 1), (31, .slice (some ⟨g20, 0, none⟩) 1 1)]) (by kernel_rfl) ?_
        refine t_end ?_
        exact ⟨hg_21, rfl⟩
      · show T _ _ _ _ _ _ _ _
        refine t_qz 1 [2, 3, 8, 9, 10, 12, 20, 21, 22, 26, 32] (σ' := [(2, .int .i64 1), (3, .int .i64 1), (8, .pointer (some ⟨b18, 0, none⟩)), (9, .slice (some ⟨g19, 0, none⟩) 1 1), (10, .slice (some ⟨g20, 0, none⟩) 1 1), (12, .pointer (some ⟨b24, 0, none⟩)), (20, .slice (some ⟨N23, 1, none⟩) 1 3), (21, .int .i64 1), (22, .int .i64 0), (26, .slice (some ⟨g19, 0, none⟩) 1 1), (32, .pointer (some ⟨b24, 1, none⟩))]) (by kernel_rfl) ?_
        refine t_end ?_
        exact ⟨hg_41, rfl⟩
    have hg_2 : G [false, true, false, false, false, false, false, false, false, false, false, false] [(2, .int .i64 1), (3, .int .i64 1), (8, .pointer (some ⟨b18, 0, none⟩)), (9, .slice (some ⟨g19, 0, none⟩) 1 1), (10, .slice (some ⟨g20, 0, none⟩) 1 1), (12, .pointer (some ⟨b24, 0, none⟩)), (20, .slice (some ⟨N23, 1, none⟩) 1 3), (21, .int .i64 1), (22, .int .i64 0), (27, .pointer (some ⟨b24, 0, none⟩))] ([⟨b24, [.int .i64 5, .int .i64 0], 2⟩, ⟨N23, [.int .i64 1, .int .i64 5, .int .i64 0, .int .i64 0, .int .i64 0, .int .i64 0, .int .i64 0], 7⟩, ⟨g20, [.int .i64 0], 1⟩, ⟨g19, [.int .i64 0], 1⟩, ⟨b18, [.int .i64 0, .int .i64 0], 2⟩, ⟨b17, [.int .i64 1, .int .i64 5, .int .i64 0, .int .i64 0, .int .i64 0, .int .i64 0, .int .i64 0], 7⟩, ⟨b16, [.int .i64 0, .int .i64 0], 2⟩] : List Own) := by
      refine hstep [0, 2, 5, 6] _ _ _ (by kernel_rfl) (List.cons_ne_nil _ _) ⟨?_, ?_, ?_, ?_, trivial⟩
      · show T _ _ _ _ _ _ _ _
        refine t_qz 1 [2, 3, 8, 9, 10, 12, 20, 21, 22, 26, 27] (σ' := [(2, .int .i64 1), (3, .int .i64 1), (8, .pointer (some ⟨b18, 0, none⟩)), (9, .slice (some ⟨g19, 0, none⟩) 1 1), (10, .slice (some ⟨g20, 0, none⟩) 1 1), (12, .pointer (some ⟨b24, 0, none⟩)), (20, .slice (some ⟨N23, 1, none⟩) 1 3), (21, .int .i64 1), (22, .int .i64 0), (26, .slice (some ⟨g19, 0, none⟩) 1 1), (27, .pointer (some ⟨b24, 0, none⟩))]) (by kernel_rfl) ?_
        refine t_end ?_
        exact ⟨hg_3, rfl⟩
      · show T _ _ _ _ _ _ _ _
        refine t_v (.ld1 rfl rfl rfl (.at 0 rfl rfl)) ?_
        refine t_keep [2, 3, 8, 9, 10, 12, 20, 21, 22, 28] (σ' := [(2, .int .i64 1), (3, .int .i64 1), (8, .pointer (some ⟨b18, 0, none⟩)), (9, .slice (some ⟨g19, 0, none⟩) 1 1), (10, .slice (some ⟨g20, 0, none⟩) 1 1), (12, .pointer (some ⟨b24, 0, none⟩)), (20, .slice (some ⟨N23, 1, none⟩) 1 3), (21, .int .i64 1), (22, .int .i64 0), (28, .int .i64 5)]) (by kernel_rfl) ?_
        refine t_end ?_
        exact ⟨hg_6, rfl⟩
      · show T _ _ _ _ _ _ _ _
        refine t_qz 1 [2, 3, 8, 9, 10, 12, 20, 21, 22, 27, 31] (σ' := [(2, .int .i64 1), (3, .int .i64 1), (8, .pointer (some ⟨b18, 0, none⟩)), (9, .slice (some ⟨g19, 0, none⟩) 1 1), (10, .slice (some ⟨g20, 0, none⟩) 1 1), (12, .pointer (some ⟨b24, 0, none⟩)), (20, .slice (some ⟨N23, 1, none⟩) 1 3), (21, .int .i64 1), (22, .int .i64 0), (27, .pointer (some ⟨b24, 0, none⟩)), (31, .slice (some ⟨g20, 0, none⟩) 1 1)]) (by kernel_rfl) ?_
        refine t_end ?_
        exact ⟨hg_22, rfl⟩
      · show T _ _ _ _ _ _ _ _
        refine t_qz 1 [2, 3, 8, 9, 10, 20, 21, 22, 27, 32] (σ' := [(2, .int .i64 1), (3, .int .i64 1), (8, .pointer (some ⟨b18, 0, none⟩)), (9, .slice (some ⟨g19, 0, none⟩) 1 1), (10, .slice (some ⟨g20, 0, none⟩) 1 1), (20, .slice (some ⟨N23, 1, none⟩) 1 3), (21, .int .i64 1), (22, .int .i64 0), (27, .pointer (some ⟨b24, 0, none⟩)), (32, .pointer (some ⟨b24, 1, none⟩))]) (by kernel_rfl) ?_
        refine t_end ?_
        exact ⟨hg_42, rfl⟩
    have hg_20 : G [false, false, false, false, false, true, false, false, false, false, false, false] [(2, .int .i64 1), (3, .int .i64 1), (8, .pointer (some ⟨b18, 0, none⟩)), (9, .slice (some ⟨g19, 0, none⟩) 1 1), (10, .slice (some ⟨g20, 0, none⟩) 1 1), (12, .pointer (some ⟨b24, 0, none⟩)), (20, .slice (some ⟨N23, 1, none⟩) 1 3), (21, .int .i64 1), (22, .int .i64 0), (31, .slice (some ⟨g20, 0, none⟩) 1 1)] ([⟨b24, [.int .i64 5, .int .i64 0], 2⟩, ⟨N23, [.int .i64 1, .int .i64 5, .int .i64 0, .int .i64 0, .int .i64 0, .int .i64 0, .int .i64 0], 7⟩, ⟨g20, [.int .i64 0], 1⟩, ⟨g19, [.int .i64 0], 1⟩, ⟨b18, [.int .i64 0, .int .i64 0], 2⟩, ⟨b17, [.int .i64 1, .int .i64 5, .int .i64 0, .int .i64 0, .int .i64 0, .int .i64 0, .int .i64 0], 7⟩, ⟨b16, [.int .i64 0, .int .i64 0], 2⟩] : List Own) := by
      refine hstep [0, 1, 6] _ _ _ (by kernel_rfl) (List.cons_ne_nil _ _) ⟨?_, ?_, ?_, trivial⟩
      · show T _ _ _ _ _ _ _ _
        refine t_qz 1 [2, 3, 8, 9, 10, 12, 20, 21, 22, 26, 31] (σ' := [(2, .int .i64 1), (3, .int .i64 1), (8, .pointer (some ⟨b18, 0, none⟩)), (9, .slice (some ⟨g19, 0, none⟩) 1 1), (10, .slice (some ⟨g20, 0, none⟩) 1 1), (12, .pointer (some ⟨b24, 0, none⟩)), (20, .slice (some ⟨N23, 1, none⟩) 1 3), (21, .int .i64 1), (22, .int .i64 0), (26, .slice (some ⟨g19, 0, none⟩) 1 1), (31, .slice (some ⟨g20, 0, none⟩) 1 1)]) (by kernel_rfl) ?_
        refine t_end ?_
        exact ⟨hg_21, rfl⟩
      · show T _ _ _ _ _ _ _ _
        refine t_qz 1 [2, 3, 8, 9, 10, 12, 20, 21, 22, 27, 31] (σ' := [(2, .int .i64 1), (3, .int .i64 1), (8, .pointer (some ⟨b18, 0, none⟩)), (9, .slice (some ⟨g19, 0, none⟩) 1 1), (10, .slice (some ⟨g20, 0, none⟩) 1 1), (12, .pointer (some ⟨b24, 0, none⟩)), (20, .slice (some ⟨N23, 1, none⟩) 1 3), (21, .int .i64 1), (22, .int .i64 0), (27, .pointer (some ⟨b24, 0, none⟩)), (31, .slice (some ⟨g20, 0, none⟩) 1 1)]) (by kernel_rfl) ?_
        refine t_end ?_
        exact ⟨hg_22, rfl⟩
      · show T _ _ _ _ _ _ _ _
        refine t_qz 1 [2, 3, 8, 9, 10, 12, 20, 21, 22, 31, 32] (σ' := [(2, .int .i64 1), (3, .int .i64 1), (8, .pointer (some ⟨b18, 0, none⟩)), (9, .slice (some ⟨g19, 0, none⟩) 1 1), (10, .slice (some ⟨g20, 0, none⟩) 1 1), (12, .pointer (some ⟨b24, 0, none⟩)), (20, .slice (some ⟨N23, 1, none⟩) 1 3), (21, .int .i64 1), (22, .int .i64 0), (31, .slice (some ⟨g20, 0, none⟩) 1 1), (32, .pointer (some ⟨b24, 1, none⟩))]) (by kernel_rfl) ?_
        refine t_end ?_
        exact ⟨hg_60, rfl⟩
    have hg_40 : G [false, false, false, false, false, false, true, false, false, false, false, false] [(2, .int .i64 1), (3, .int .i64 1), (8, .pointer (some ⟨b18, 0, none⟩)), (9, .slice (some ⟨g19, 0, none⟩) 1 1), (10, .slice (some ⟨g20, 0, none⟩) 1 1), (12, .pointer (some ⟨b24, 0, none⟩)), (20, .slice (some ⟨N23, 1, none⟩) 1 3), (21, .int .i64 1), (22, .int .i64 0), (32, .pointer (some ⟨b24, 1, none⟩))] ([⟨b24, [.int .i64 5, .int .i64 0], 2⟩, ⟨N23, [.int .i64 1, .int .i64 5, .int .i64 0, .int .i64 0, .int .i64 0, .int .i64 0, .int .i64 0], 7⟩, ⟨g20, [.int .i64 0], 1⟩, ⟨g19, [.int .i64 0], 1⟩, ⟨b18, [.int .i64 0, .int .i64 0], 2⟩, ⟨b17, [.int .i64 1, .int .i64 5, .int .i64 0, .int .i64 0, .int .i64 0, .int .i64 0, .int .i64 0], 7⟩, ⟨b16, [.int .i64 0, .int .i64 0], 2⟩] : List Own) := by
      refine hstep [0, 1, 5, 7] _ _ _ (by kernel_rfl) (List.cons_ne_nil _ _) ⟨?_, ?_, ?_, ?_, trivial⟩
      · show T _ _ _ _ _ _ _ _
        refine t_qz 1 [2, 3, 8, 9, 10, 12, 20, 21, 22, 26, 32] (σ' := [(2, .int .i64 1), (3, .int .i64 1), (8, .pointer (some ⟨b18, 0, none⟩)), (9, .slice (some ⟨g19, 0, none⟩) 1 1), (10, .slice (some ⟨g20, 0, none⟩) 1 1), (12, .pointer (some ⟨b24, 0, none⟩)), (20, .slice (some ⟨N23, 1, none⟩) 1 3), (21, .int .i64 1), (22, .int .i64 0), (26, .slice (some ⟨g19, 0, none⟩) 1 1), (32, .pointer (some ⟨b24, 1, none⟩))]) (by kernel_rfl) ?_
        refine t_end ?_
        exact ⟨hg_41, rfl⟩
      · show T _ _ _ _ _ _ _ _
        refine t_qz 1 [2, 3, 8, 9, 10, 20, 21, 22, 27, 32] (σ' := [(2, .int .i64 1), (3, .int .i64 1), (8, .pointer (some ⟨b18, 0, none⟩)), (9, .slice (some ⟨g19, 0, none⟩) 1 1), (10, .slice (some ⟨g20, 0, none⟩) 1 1), (20, .slice (some ⟨N23, 1, none⟩) 1 3), (21, .int .i64 1), (22, .int .i64 0), (27, .pointer (some ⟨b24, 0, none⟩)), (32, .pointer (some ⟨b24, 1, none⟩))]) (by kernel_rfl) ?_
        refine t_end ?_
        exact ⟨hg_42, rfl⟩
      · show T _ _ _ _ _ _ _ _
        refine t_qz 1 [2, 3, 8, 9, 10, 12, 20, 21, 22, 31, 32] (σ' := [(2, .int .i64 1), (3, .int .i64 1), (8, .pointer (some ⟨b18, 0, none⟩)), (9, .slice (some ⟨g19, 0, none⟩) 1 1), (10, .slice (some ⟨g20, 0, none⟩) 1 1), (12, .pointer (some ⟨b24, 0, none⟩)), (20, .slice (some ⟨N23, 1, none⟩) 1 3), (21, .int .i64 1), (22, .int .i64 0), (31, .slice (some ⟨g20, 0, none⟩) 1 1), (32, .pointer (some ⟨b24, 1, none⟩))]) (by kernel_rfl) ?_
        refine t_end ?_
        exact ⟨hg_60, rfl⟩
      · show T _ _ _ _ _ _ _ _
        refine t_v (.ld1 rfl rfl rfl (.at 0 rfl rfl)) ?_
        refine t_keep [2, 3, 8, 9, 10, 12, 20, 21, 22, 33] (σ' := [(2, .int .i64 1), (3, .int .i64 1), (8, .pointer (some ⟨b18, 0, none⟩)), (9, .slice (some ⟨g19, 0, none⟩) 1 1), (10, .slice (some ⟨g20, 0, none⟩) 1 1), (12, .pointer (some ⟨b24, 0, none⟩)), (20, .slice (some ⟨N23, 1, none⟩) 1 3), (21, .int .i64 1), (22, .int .i64 0), (33, .int .i64 0)]) (by kernel_rfl) ?_
        refine t_end ?_
        exact ⟨hg_c0, rfl⟩
    have hg_0 : G [false, false, false, false, false, false, false, false, false, false, false, false] [(2, .int .i64 1), (3, .int .i64 1), (8, .pointer (some ⟨b18, 0, none⟩)), (9, .slice (some ⟨g19, 0, none⟩) 1 1), (10, .slice (some ⟨g20, 0, none⟩) 1 1), (12, .pointer (some ⟨b24, 0, none⟩)), (20, .slice (some ⟨N23, 1, none⟩) 1 3), (21, .int .i64 1), (22, .int .i64 0)] ([⟨b24, [.int .i64 5, .int .i64 0], 2⟩, ⟨N23, [.int .i64 1, .int .i64 5, .int .i64 0, .int .i64 0, .int .i64 0, .int .i64 0, .int .i64 0], 7⟩, ⟨g20, [.int .i64 0], 1⟩, ⟨g19, [.int .i64 0], 1⟩, ⟨b18, [.int .i64 0, .int .i64 0], 2⟩, ⟨b17, [.int .i64 1, .int .i64 5, .int .i64 0, .int .i64 0, .int .i64 0, .int .i64 0, .int .i64 0], 7⟩, ⟨b16, [.int .i64 0, .int .i64 0], 2⟩] : List Own) := by
      refine hstep [0, 1, 5, 6] _ _ _ (by kernel_rfl) (List.cons_ne_nil _ _) ⟨?_, ?_, ?_, ?_, trivial⟩
      · show T _ _ _ _ _ _ _ _
        refine t_qz 1 [2, 3, 8, 9, 10, 12, 20, 21, 22, 26] (σ' := [(2, .int .i64 1), (3, .int .i64 1), (8, .pointer (some ⟨b18, 0, none⟩)), (9, .slice (some ⟨g19, 0, none⟩) 1 1), (10, .slice (some ⟨g20, 0, none⟩) 1 1), (12, .pointer (some ⟨b24, 0, none⟩)), (20, .slice (some ⟨N23, 1, none⟩) 1 3), (21, .int .i64 1), (22, .int .i64 0), (26, .slice (some ⟨g19, 0, none⟩) 1 1)]) (by kernel_rfl) ?_
        refine t_end ?_
        exact ⟨hg_1, rfl⟩
      · show T _ _ _ _ _ _ _ _
        refine t_qz 1 [2, 3, 8, 9, 10, 12, 20, 21, 22, 27] (σ' := [(2, .int .i64 1), (3, .int .i64 1), (8, .pointer (some ⟨b18, 0, none⟩)), (9, .slice (some ⟨g19, 0, none⟩) 1 1), (10, .slice (some ⟨g20, 0, none⟩) 1 1), (12, .pointer (some ⟨b24, 0, none⟩)), (20, .slice (some ⟨N23, 1, none⟩) 1 3), (21, .int .i64 1), (22, .int .i64 0), (27, .pointer (some ⟨b24, 0, none⟩))]) (by kernel_rfl) ?_
        refine t_end ?_
        exact ⟨hg_2, rfl⟩
      · show T _ _ _ _ _ _ _ _
        refine t_qz 1 [2, 3, 8, 9, 10, 12, 20, 21, 22, 31] (σ' := [(2, .int .i64 1), (3, .int .i64 1), (8, .pointer (some ⟨b18, 0, none⟩)), (9, .slice (some ⟨g19, 0, none⟩) 1 1), (10, .slice (some ⟨g20, 0, none⟩) 1 1), (12, .pointer (some ⟨b24, 0, none⟩)), (20, .slice (some ⟨N23, 1, none⟩) 1 3), (21, .int .i64 1), (22, .int .i64 0), (31, .slice (some ⟨g20, 0, none⟩) 1 1)]) (by kernel_rfl) ?_
        refine t_end ?_
        exact ⟨hg_20, rfl⟩
      · show T _ _ _ _ _ _ _ _
        refine t_qz 1 [2, 3, 8, 9, 10, 12, 20, 21, 22, 32] (σ' := [(2, .int .i64 1), (3, .int .i64 1), (8, .pointer (some ⟨b18, 0, none⟩)), (9, .slice (some ⟨g19, 0, none⟩) 1 1), (10, .slice (some ⟨g20, 0, none⟩) 1 1), (12, .pointer (some ⟨b24, 0, none⟩)), (20, .slice (some ⟨N23, 1, none⟩) 1 3), (21, .int .i64 1), (22, .int .i64 0), (32, .pointer (some ⟨b24, 1, none⟩))]) (by kernel_rfl) ?_
        refine t_end ?_
        exact ⟨hg_40, rfl⟩
    exact hg_0
  have hg_7f : ∀ (g20 g19 : Nat), G [true, true, true, true, true, true, true, false] [(2, .int .i64 1), (3, .int .i64 1), (5, .pointer (some ⟨b17, 0, none⟩)), (8, .pointer (some ⟨b18, 0, none⟩)), (9, .slice (some ⟨g19, 0, none⟩) 1 1), (18, .slice (some ⟨g20, 0, none⟩) 1 1)] ([⟨g20, [.int .i64 0], 1⟩, ⟨g19, [.int .i64 0], 1⟩, ⟨b18, [.int .i64 0, .int .i64 0], 2⟩, ⟨b17, [.int .i64 1, .int .i64 5, .int .i64 0, .int .i64 0, .int .i64 0, .int .i64 0, .int .i64 0], 7⟩, ⟨b16, [.int .i64 0, .int .i64 0], 2⟩] : List Own) := by
    intro g20 g19
    refine hstep [7] _ _ _ (by kernel_rfl) (List.cons_ne_nil _ _) ⟨?_, trivial⟩
    · show T _ _ _ _ _ _ _ _
      refine t_qz 1 [2, 3, 5, 8, 9, 10] (σ' := [(2, .int .i64 1), (3, .int .i64 1), (5, .pointer (some ⟨b17, 0, none⟩)), (8, .pointer (some ⟨b18, 0, none⟩)), (9, .slice (some ⟨g19, 0, none⟩) 1 1), (10, .slice (some ⟨g20, 0, none⟩) 1 1)]) (by kernel_rfl) ?_
      refine t_end ?_
      exact ⟨hg_ff g20 g19, rfl⟩
  have hg_3f : ∀ (g20 g19 : Nat), G [true, true, true, true, true, true, false, false] [(2, .int .i64 1), (3, .int .i64 1), (5, .pointer (some ⟨b17, 0, none⟩)), (8, .pointer (some ⟨b18, 0, none⟩)), (15, .slice (some ⟨g19, 0, none⟩) 1 1), (18, .slice (some ⟨g20, 0, none⟩) 1 1)] ([⟨g20, [.int .i64 0], 1⟩, ⟨g19, [.int .i64 0], 1⟩, ⟨b18, [.int .i64 0, .int .i64 0], 2⟩, ⟨b17, [.int .i64 1, .int .i64 5, .int .i64 0, .int .i64 0, .int .i64 0, .int .i64 0, .int .i64 0], 7⟩, ⟨b16, [.int .i64 0, .int .i64 0], 2⟩] : List Own) := by
    intro g20 g19
    refine hstep [6] _ _ _ (by kernel_rfl) (List.cons_ne_nil _ _) ⟨?_, trivial⟩
    · show T _ _ _ _ _ _ _ _
      refine t_qz 1 [2, 3, 5, 8, 9, 18] (σ' := [(2, .int .i64 1), (3, .int .i64 1), (5, .pointer (some ⟨b17, 0, none⟩)), (8, .pointer (some ⟨b18, 0, none⟩)), (9, .slice (some ⟨g19, 0, none⟩) 1 1), (18, .slice (some ⟨g20, 0, none⟩) 1 1)]) (by kernel_rfl) ?_
      refine t_end ?_
      exact ⟨hg_7f g20 g19, rfl⟩
  have hg_5f : ∀ (g19 : Nat), G [true, true, true, true, true, false, true, false] [(2, .int .i64 1), (3, .int .i64 1), (5, .pointer (some ⟨b17, 0, none⟩)), (8, .pointer (some ⟨b18, 0, none⟩)), (9, .slice (some ⟨g19, 0, none⟩) 1 1), (17, .int .i64 0)] ([⟨g19, [.int .i64 0], 1⟩, ⟨b18, [.int .i64 0, .int .i64 0], 2⟩, ⟨b17, [.int .i64 1, .int .i64 5, .int .i64 0, .int .i64 0, .int .i64 0, .int .i64 0, .int .i64 0], 7⟩, ⟨b16, [.int .i64 0, .int .i64 0], 2⟩] : List Own) := by
    intro g19
    refine hstep [5] _ _ _ (by kernel_rfl) (List.cons_ne_nil _ _) ⟨?_, trivial⟩
    · show T _ _ _ _ _ _ _ _
      refine t_a (.bsl rfl rfl rfl rfl) fun g20 fg20 sg20 => ?_
      refine t_keep [2, 3, 5, 8, 9, 18] (σ' := [(2, .int .i64 1), (3, .int .i64 1), (5, .pointer (some ⟨b17, 0, none⟩)), (8, .pointer (some ⟨b18, 0, none⟩)), (9, .slice (some ⟨g19, 0, none⟩) 1 1), (18, .slice (some ⟨g20, 0, none⟩) 1 1)]) (by kernel_rfl) ?_
      refine t_end ?_
      exact ⟨hg_7f g20 g19, rfl⟩
  have hg_1f : ∀ (g19 : Nat), G [true, true, true, true, true, false, false, false] [(2, .int .i64 1), (3, .int .i64 1), (5, .pointer (some ⟨b17, 0, none⟩)), (8, .pointer (some ⟨b18, 0, none⟩)), (15, .slice (some ⟨g19, 0, none⟩) 1 1), (17, .int .i64 0)] ([⟨g19, [.int .i64 0], 1⟩, ⟨b18, [.int .i64 0, .int .i64 0], 2⟩, ⟨b17, [.int .i64 1, .int .i64 5, .int .i64 0, .int .i64 0, .int .i64 0, .int .i64 0, .int .i64 0], 7⟩, ⟨b16, [.int .i64 0, .int .i64 0], 2⟩] : List Own) := by
    intro g19
    refine hstep [5, 6] _ _ _ (by kernel_rfl) (List.cons_ne_nil _ _) ⟨?_, ?_, trivial⟩
    · show T _ _ _ _ _ _ _ _
      refine t_a (.bsl rfl rfl rfl rfl) fun g20 fg20 sg20 => ?_
      refine t_keep [2, 3, 5, 8, 15, 18] (σ' := [(2, .int .i64 1), (3, .int .i64 1), (5, .pointer (some ⟨b17, 0, none⟩)), (8, .pointer (some ⟨b18, 0, none⟩)), (15, .slice (some ⟨g19, 0, none⟩) 1 1), (18, .slice (some ⟨g20, 0, none⟩) 1 1)]) (by kernel_rfl) ?_
      refine t_end ?_
      exact ⟨hg_3f g20 g19, rfl⟩
    · show T _ _ _ _ _ _ _ _
      refine t_qz 1 [2, 3, 5, 8, 9, 17] (σ' := [(2, .int .i64 1), (3, .int .i64 1), (5, .pointer (some ⟨b17, 0, none⟩)), (8, .pointer (some ⟨b18, 0, none⟩)), (9, .slice (some ⟨g19, 0, none⟩) 1 1), (17, .int .i64 0)]) (by kernel_rfl) ?_
      refine t_end ?_
      exact ⟨hg_5f g19, rfl⟩
  have hg_3b : ∀ (g20 : Nat), G [true, true, false, true, true, true, false, false] [(2, .int .i64 1), (3, .int .i64 1), (5, .pointer (some ⟨b17, 0, none⟩)), (8, .pointer (some ⟨b18, 0, none⟩)), (14, .int .i64 0), (18, .slice (some ⟨g20, 0, none⟩) 1 1)] ([⟨g20, [.int .i64 0], 1⟩, ⟨b18, [.int .i64 0, .int .i64 0], 2⟩, ⟨b17, [.int .i64 1, .int .i64 5, .int .i64 0, .int .i64 0, .int .i64 0, .int .i64 0, .int .i64 0], 7⟩, ⟨b16, [.int .i64 0, .int .i64 0], 2⟩] : List Own) := by
    intro g20
    refine hstep [2] _ _ _ (by kernel_rfl) (List.cons_ne_nil _ _) ⟨?_, trivial⟩
    · show T _ _ _ _ _ _ _ _
      refine t_a (.bsl rfl rfl rfl rfl) fun g19 fg19 sg19 => ?_
      refine t_keep [2, 3, 5, 8, 15, 18] (σ' := [(2, .int .i64 1), (3, .int .i64 1), (5, .pointer (some ⟨b17, 0, none⟩)), (8, .pointer (some ⟨b18, 0, none⟩)), (15, .slice (some ⟨g19, 0, none⟩) 1 1), (18, .slice (some ⟨g20, 0, none⟩) 1 1)]) (by kernel_rfl) ?_
      refine t_vs (H' := ([⟨g20, [.int .i64 0], 1⟩, ⟨g19, [.int .i64 0], 1⟩, ⟨b18, [.int .i64 0, .int .i64 0], 2⟩, ⟨b17, [.int .i64 1, .int .i64 5, .int .i64 0, .int .i64 0, .int .i64 0, .int .i64 0, .int .i64 0], 7⟩, ⟨b16, [.int .i64 0, .int .i64 0], 2⟩] : List Own)) (S' := S) (VS.sel [1, 0, 0, 0, 0] (by kernel_rfl)) ?_
      refine t_end ?_
      exact ⟨hg_3f g20 g19, rfl⟩
  have hg_4f : ∀ (g19 : Nat), G [true, true, true, true, false, false, true, false] [(2, .int .i64 1), (3, .int .i64 1), (5, .pointer (some ⟨b17, 0, none⟩)), (8, .pointer (some ⟨b18, 0, none⟩)), (9, .slice (some ⟨g19, 0, none⟩) 1 1), (16, .pointer (some ⟨b16, 1, none⟩))] ([⟨g19, [.int .i64 0], 1⟩, ⟨b18, [.int .i64 0, .int .i64 0], 2⟩, ⟨b17, [.int .i64 1, .int .i64 5, .int .i64 0, .int .i64 0, .int .i64 0, .int .i64 0, .int .i64 0], 7⟩, ⟨b16, [.int .i64 0, .int .i64 0], 2⟩] : List Own) := by
    intro g19
    refine hstep [4] _ _ _ (by kernel_rfl) (List.cons_ne_nil _ _) ⟨?_, trivial⟩
    · show T _ _ _ _ _ _ _ _
      refine t_v (.ld1 rfl rfl rfl (.at 3 rfl rfl)) ?_
      refine t_keep [2, 3, 5, 8, 9, 17] (σ' := [(2, .int .i64 1), (3, .int .i64 1), (5, .pointer (some ⟨b17, 0, none⟩)), (8, .pointer (some ⟨b18, 0, none⟩)), (9, .slice (some ⟨g19, 0, none⟩) 1 1), (17, .int .i64 0)]) (by kernel_rfl) ?_
      refine t_end ?_
      exact ⟨hg_5f g19, rfl⟩
  have hg_f : ∀ (g19 : Nat), G [true, true, true, true, false, false, false, false] [(2, .int .i64 1), (3, .int .i64 1), (5, .pointer (some ⟨b17, 0, none⟩)), (8, .pointer (some ⟨b18, 0, none⟩)), (15, .slice (some ⟨g19, 0, none⟩) 1 1), (16, .pointer (some ⟨b16, 1, none⟩))] ([⟨g19, [.int .i64 0], 1⟩, ⟨b18, [.int .i64 0, .int .i64 0], 2⟩, ⟨b17, [.int .i64 1, .int .i64 5, .int .i64 0, .int .i64 0, .int .i64 0, .int .i64 0, .int .i64 0], 7⟩, ⟨b16, [.int .i64 0, .int .i64 0], 2⟩] : List Own) := by
    intro g19
    refine hstep [4, 6] _ _ _ (by kernel_rfl) (List.cons_ne_nil _ _) ⟨?_, ?_, trivial⟩
    · show T _ _ _ _ _ _ _ _
      refine t_v (.ld1 rfl rfl rfl (.at 3 rfl rfl)) ?_
      refine t_keep [2, 3, 5, 8, 15, 17] (σ' := [(2, .int .i64 1), (3, .int .i64 1), (5, .pointer (some ⟨b17, 0, none⟩)), (8, .pointer (some ⟨b18, 0, none⟩)), (15, .slice (some ⟨g19, 0, none⟩) 1 1), (17, .int .i64 0)]) (by kernel_rfl) ?_
      refine t_end ?_
      exact ⟨hg_1f g19, rfl⟩
    · show T _ _ _ _ _ _ _ _
      refine t_qz 1 [2, 3, 5, 8, 9, 16] (σ' := [(2, .int .i64 1), (3, .int .i64 1), (5, .pointer (some ⟨b17, 0, none⟩)), (8, .pointer (some ⟨b18, 0, none⟩)), (9, .slice (some ⟨g19, 0, none⟩) 1 1), (16, .pointer (some ⟨b16, 1, none⟩))]) (by kernel_rfl) ?_
      refine t_end ?_
      exact ⟨hg_4f g19, rfl⟩
  have hg_1b : G [true, true, false, true, true, false, false, false] [(2, .int .i64 1), (3, .int .i64 1), (5, .pointer (some ⟨b17, 0, none⟩)), (8, .pointer (some ⟨b18, 0, none⟩)), (14, .int .i64 0), (17, .int .i64 0)] ([⟨b18, [.int .i64 0, .int .i64 0], 2⟩, ⟨b17, [.int .i64 1, .int .i64 5, .int .i64 0, .int .i64 0, .int .i64 0, .int .i64 0, .int .i64 0], 7⟩, ⟨b16, [.int .i64 0, .int .i64 0], 2⟩] : List Own) := by
    refine hstep [2, 5] _ _ _ (by kernel_rfl) (List.cons_ne_nil _ _) ⟨?_, ?_, trivial⟩
    · show T _ _ _ _ _ _ _ _
      refine t_a (.bsl rfl rfl rfl rfl) fun g19 fg19 sg19 => ?_
      refine t_keep [2, 3, 5, 8, 15, 17] (σ' := [(2, .int .i64 1), (3, .int .i64 1), (5, .pointer (some ⟨b17, 0, none⟩)), (8, .pointer (some ⟨b18, 0, none⟩)), (15, .slice (some ⟨g19, 0, none⟩) 1 1), (17, .int .i64 0)]) (by kernel_rfl) ?_
      refine t_end ?_
      exact ⟨hg_1f g19, rfl⟩
    · show T _ _ _ _ _ _ _ _
      refine t_a (.bsl rfl rfl rfl rfl) fun g20 fg20 sg20 => ?_
      refine t_keep [2, 3, 5, 8, 14, 18] (σ' := [(2, .int .i64 1), (3, .int .i64 1), (5, .pointer (some ⟨b17, 0, none⟩)), (8, .pointer (some ⟨b18, 0, none⟩)), (14, .int .i64 0), (18, .slice (some ⟨g20, 0, none⟩) 1 1)]) (by kernel_rfl) ?_
      refine t_end ?_
      exact ⟨hg_3b g20, rfl⟩
  have hg_39 : ∀ (g20 : Nat), G [true, false, false, true, true, true, false, false] [(2, .int .i64 1), (3, .int .i64 1), (5, .pointer (some ⟨b17, 0, none⟩)), (8, .pointer (some ⟨b18, 0, none⟩)), (13, .pointer (some ⟨b16, 0, none⟩)), (18, .slice (some ⟨g20, 0, none⟩) 1 1)] ([⟨g20, [.int .i64 0], 1⟩, ⟨b18, [.int .i64 0, .int .i64 0], 2⟩, ⟨b17, [.int .i64 1, .int .i64 5, .int .i64 0, .int .i64 0, .int .i64 0, .int .i64 0, .int .i64 0], 7⟩, ⟨b16, [.int .i64 0, .int .i64 0], 2⟩] : List Own) := by
    intro g20
    refine hstep [1] _ _ _ (by kernel_rfl) (List.cons_ne_nil _ _) ⟨?_, trivial⟩
    · show T _ _ _ _ _ _ _ _
      refine t_v (.ld1 rfl rfl rfl (.at 3 rfl rfl)) ?_
      refine t_keep [2, 3, 5, 8, 14, 18] (σ' := [(2, .int .i64 1), (3, .int .i64 1), (5, .pointer (some ⟨b17, 0, none⟩)), (8, .pointer (some ⟨b18, 0, none⟩)), (14, .int .i64 0), (18, .slice (some ⟨g20, 0, none⟩) 1 1)]) (by kernel_rfl) ?_
      refine t_end ?_
      exact ⟨hg_3b g20, rfl⟩
  have hg_47 : ∀ (g19 : Nat), G [true, true, true, false, false, false, true, false] [(2, .int .i64 1), (3, .int .i64 1), (4, .pointer (some ⟨b16, 0, none⟩)), (5, .pointer (some ⟨b17, 0, none⟩)), (8, .pointer (some ⟨b18, 0, none⟩)), (9, .slice (some ⟨g19, 0, none⟩) 1 1)] ([⟨g19, [.int .i64 0], 1⟩, ⟨b18, [.int .i64 0, .int .i64 0], 2⟩, ⟨b17, [.int .i64 1, .int .i64 5, .int .i64 0, .int .i64 0, .int .i64 0, .int .i64 0, .int .i64 0], 7⟩, ⟨b16, [.int .i64 0, .int .i64 0], 2⟩] : List Own) := by
    intro g19
    refine hstep [3] _ _ _ (by kernel_rfl) (List.cons_ne_nil _ _) ⟨?_, trivial⟩
    · show T _ _ _ _ _ _ _ _
      refine t_qz 1 [2, 3, 5, 8, 9, 16] (σ' := [(2, .int .i64 1), (3, .int .i64 1), (5, .pointer (some ⟨b17, 0, none⟩)), (8, .pointer (some ⟨b18, 0, none⟩)), (9, .slice (some ⟨g19, 0, none⟩) 1 1), (16, .pointer (some ⟨b16, 1, none⟩))]) (by kernel_rfl) ?_
      refine t_end ?_
      exact ⟨hg_4f g19, rfl⟩
  have hg_7 : ∀ (g19 : Nat), G [true, true, true, false, false, false, false, false] [(2, .int .i64 1), (3, .int .i64 1), (4, .pointer (some ⟨b16, 0, none⟩)), (5, .pointer (some ⟨b17, 0, none⟩)), (8, .pointer (some ⟨b18, 0, none⟩)), (15, .slice (some ⟨g19, 0, none⟩) 1 1)] ([⟨g19, [.int .i64 0], 1⟩, ⟨b18, [.int .i64 0, .int .i64 0], 2⟩, ⟨b17, [.int .i64 1, .int .i64 5, .int .i64 0, .int .i64 0, .int .i64 0, .int .i64 0, .int .i64 0], 7⟩, ⟨b16, [.int .i64 0, .int .i64 0], 2⟩] : List Own) := by
    intro g19
    refine hstep [3, 6] _ _ _ (by kernel_rfl) (List.cons_ne_nil _ _) ⟨?_, ?_, trivial⟩
    · show T _ _ _ _ _ _ _ _
      refine t_qz 1 [2, 3, 5, 8, 15, 16] (σ' := [(2, .int .i64 1), (3, .int .i64 1), (5, .pointer (some ⟨b17, 0, none⟩)), (8, .pointer (some ⟨b18, 0, none⟩)), (15, .slice (some ⟨g19, 0, none⟩) 1 1), (16, .pointer (some ⟨b16, 1, none⟩))]) (by kernel_rfl) ?_
      refine t_end ?_
      exact ⟨hg_f g19, rfl⟩
    · show T _ _ _ _ _ _ _ _
      refine t_qz 1 [2, 3, 4, 5, 8, 9] (σ' := [(2, .int .i64 1), (3, .int .i64 1), (4, .pointer (some ⟨b16, 0, none⟩)), (5, .pointer (some ⟨b17, 0, none⟩)), (8, .pointer (some ⟨b18, 0, none⟩)), (9, .slice (some ⟨g19, 0, none⟩) 1 1)]) (by kernel_rfl) ?_
      refine t_end ?_
      exact ⟨hg_47 g19, rfl⟩
  have hg_b : G [true, true, false, true, false, false, false, false] [(2, .int .i64 1), (3, .int .i64 1), (5, .pointer (some ⟨b17, 0, none⟩)), (8, .pointer (some ⟨b18, 0, none⟩)), (14, .int .i64 0), (16, .pointer (some ⟨b16, 1, none⟩))] ([⟨b18, [.int .i64 0, .int .i64 0], 2⟩, ⟨b17, [.int .i64 1, .int .i64 5, .int .i64 0, .int .i64 0, .int .i64 0, .int .i64 0, .int .i64 0], 7⟩, ⟨b16, [.int .i64 0, .int .i64 0], 2⟩] : List Own) := by
    refine hstep [2, 4] _ _ _ (by kernel_rfl) (List.cons_ne_nil _ _) ⟨?_, ?_, trivial⟩
    · show T _ _ _ _ _ _ _ _
      refine t_a (.bsl rfl rfl rfl rfl) fun g19 fg19 sg19 => ?_
      refine t_keep [2, 3, 5, 8, 15, 16] (σ' := [(2, .int .i64 1), (3, .int .i64 1), (5, .pointer (some ⟨b17, 0, none⟩)), (8, .pointer (some ⟨b18, 0, none⟩)), (15, .slice (some ⟨g19, 0, none⟩) 1 1), (16, .pointer (some ⟨b16, 1, none⟩))]) (by kernel_rfl) ?_
      refine t_end ?_
      exact ⟨hg_f g19, rfl⟩
    · show T _ _ _ _ _ _ _ _
      refine t_v (.ld1 rfl rfl rfl (.at 2 rfl rfl)) ?_
      refine t_keep [2, 3, 5, 8, 14, 17] (σ' := [(2, .int .i64 1), (3, .int .i64 1), (5, .pointer (some ⟨b17, 0, none⟩)), (8, .pointer (some ⟨b18, 0, none⟩)), (14, .int .i64 0), (17, .int .i64 0)]) (by kernel_rfl) ?_
      refine t_end ?_
      exact ⟨hg_1b, rfl⟩
  have hg_19 : G [true, false, false, true, true, false, false, false] [(2, .int .i64 1), (3, .int .i64 1), (5, .pointer (some ⟨b17, 0, none⟩)), (8, .pointer (some ⟨b18, 0, none⟩)), (13, .pointer (some ⟨b16, 0, none⟩)), (17, .int .i64 0)] ([⟨b18, [.int .i64 0, .int .i64 0], 2⟩, ⟨b17, [.int .i64 1, .int .i64 5, .int .i64 0, .int .i64 0, .int .i64 0, .int .i64 0, .int .i64 0], 7⟩, ⟨b16, [.int .i64 0, .int .i64 0], 2⟩] : List Own) := by
    refine hstep [1, 5] _ _ _ (by kernel_rfl) (List.cons_ne_nil _ _) ⟨?_, ?_, trivial⟩
    · show T _ _ _ _ _ _ _ _
      refine t_v (.ld1 rfl rfl rfl (.at 2 rfl rfl)) ?_
      refine t_keep [2, 3, 5, 8, 14, 17] (σ' := [(2, .int .i64 1), (3, .int .i64 1), (5, .pointer (some ⟨b17, 0, none⟩)), (8, .pointer (some ⟨b18, 0, none⟩)), (14, .int .i64 0), (17, .int .i64 0)]) (by kernel_rfl) ?_
      refine t_end ?_
      exact ⟨hg_1b, rfl⟩
    · show T _ _ _ _ _ _ _ _
      refine t_a (.bsl rfl rfl rfl rfl) fun g20 fg20 sg20 => ?_
      refine t_keep [2, 3, 5, 8, 13, 18] (σ' := [(2, .int .i64 1), (3, .int .i64 1), (5, .pointer (some ⟨b17, 0, none⟩)), (8, .pointer (some ⟨b18, 0, none⟩)), (13, .pointer (some ⟨b16, 0, none⟩)), (18, .slice (some ⟨g20, 0, none⟩) 1 1)]) (by kernel_rfl) ?_
      refine t_end ?_
      exact ⟨hg_39 g20, rfl⟩
  have hg_38 : ∀ (g20 : Nat), G [false, false, false, true, true, true, false, false] [(2, .int .i64 1), (3, .int .i64 1), (4, .pointer (some ⟨b16, 0, none⟩)), (5, .pointer (some ⟨b17, 0, none⟩)), (8, .pointer (some ⟨b18, 0, none⟩)), (18, .slice (some ⟨g20, 0, none⟩) 1 1)] ([⟨g20, [.int .i64 0], 1⟩, ⟨b18, [.int .i64 0, .int .i64 0], 2⟩, ⟨b17, [.int .i64 1, .int .i64 5, .int .i64 0, .int .i64 0, .int .i64 0, .int .i64 0, .int .i64 0], 7⟩, ⟨b16, [.int .i64 0, .int .i64 0], 2⟩] : List Own) := by
    intro g20
    refine hstep [0] _ _ _ (by kernel_rfl) (List.cons_ne_nil _ _) ⟨?_, trivial⟩
    · show T _ _ _ _ _ _ _ _
      refine t_qz 1 [2, 3, 5, 8, 13, 18] (σ' := [(2, .int .i64 1), (3, .int .i64 1), (5, .pointer (some ⟨b17, 0, none⟩)), (8, .pointer (some ⟨b18, 0, none⟩)), (13, .pointer (some ⟨b16, 0, none⟩)), (18, .slice (some ⟨g20, 0, none⟩) 1 1)]) (by kernel_rfl) ?_
      refine t_end ?_
      exact ⟨hg_39 g20, rfl⟩
  have hg_3 : G [true, true, false, false, false, false, false, false] [(2, .int .i64 1), (3, .int .i64 1), (4, .pointer (some ⟨b16, 0, none⟩)), (5, .pointer (some ⟨b17, 0, none⟩)), (8, .pointer (some ⟨b18, 0, none⟩)), (14, .int .i64 0)] ([⟨b18, [.int .i64 0, .int .i64 0], 2⟩, ⟨b17, [.int .i64 1, .int .i64 5, .int .i64 0, .int .i64 0, .int .i64 0, .int .i64 0, .int .i64 0], 7⟩, ⟨b16, [.int .i64 0, .int .i64 0], 2⟩] : List Own) := by
    refine hstep [2, 3] _ _ _ (by kernel_rfl) (List.cons_ne_nil _ _) ⟨?_, ?_, trivial⟩
    · show T _ _ _ _ _ _ _ _
      refine t_a (.bsl rfl rfl rfl rfl) fun g19 fg19 sg19 => ?_
      refine t_keep [2, 3, 4, 5, 8, 15] (σ' := [(2, .int .i64 1), (3, .int .i64 1), (4, .pointer (some ⟨b16, 0, none⟩)), (5, .pointer (some ⟨b17, 0, none⟩)), (8, .pointer (some ⟨b18, 0, none⟩)), (15, .slice (some ⟨g19, 0, none⟩) 1 1)]) (by kernel_rfl) ?_
      refine t_end ?_
      exact ⟨hg_7 g19, rfl⟩
    · show T _ _ _ _ _ _ _ _
      refine t_qz 1 [2, 3, 5, 8, 14, 16] (σ' := [(2, .int .i64 1), (3, .int .i64 1), (5, .pointer (some ⟨b17, 0, none⟩)), (8, .pointer (some ⟨b18, 0, none⟩)), (14, .int .i64 0), (16, .pointer (some ⟨b16, 1, none⟩))]) (by kernel_rfl) ?_
      refine t_end ?_
      exact ⟨hg_b, rfl⟩
  have hg_9 : G [true, false, false, true, false, false, false, false] [(2, .int .i64 1), (3, .int .i64 1), (5, .pointer (some ⟨b17, 0, none⟩)), (8, .pointer (some ⟨b18, 0, none⟩)), (13, .pointer (some ⟨b16, 0, none⟩)), (16, .pointer (some ⟨b16, 1, none⟩))] ([⟨b18, [.int .i64 0, .int .i64 0], 2⟩, ⟨b17, [.int .i64 1, .int .i64 5, .int .i64 0, .int .i64 0, .int .i64 0, .int .i64 0, .int .i64 0], 7⟩, ⟨b16, [.int .i64 0, .int .i64 0], 2⟩] : List Own) := by
    refine hstep [1, 4] _ _ _ (by kernel_rfl) (List.cons_ne_nil _ _) ⟨?_, ?_, trivial⟩
    · show T _ _ _ _ _ _ _ _
      refine t_v (.ld1 rfl rfl rfl (.at 2 rfl rfl)) ?_
      refine t_keep [2, 3, 5, 8, 14, 16] (σ' := [(2, .int .i64 1), (3, .int .i64 1), (5, .pointer (some ⟨b17, 0, none⟩)), (8, .pointer (some ⟨b18, 0, none⟩)), (14, .int .i64 0), (16, .pointer (some ⟨b16, 1, none⟩))]) (by kernel_rfl) ?_
      refine t_end ?_
      exact ⟨hg_b, rfl⟩
    · show T _ _ _ _ _ _ _ _
      refine t_v (.ld1 rfl rfl rfl (.at 2 rfl rfl)) ?_
      refine t_keep [2, 3, 5, 8, 13, 17] (σ' := [(2, .int .i64 1), (3, .int .i64 1), (5, .pointer (some ⟨b17, 0, none⟩)), (8, .pointer (some ⟨b18, 0, none⟩)), (13, .pointer (some ⟨b16, 0, none⟩)), (17, .int .i64 0)]) (by kernel_rfl) ?_
      refine t_end ?_
      exact ⟨hg_19, rfl⟩
  have hg_18 : G [false, false, false, true, true, false, false, false] [(2, .int .i64 1), (3, .int .i64 1), (4, .pointer (some ⟨b16, 0, none⟩)), (5, .pointer (some ⟨b17, 0, none⟩)), (8, .pointer (some ⟨b18, 0, none⟩)), (17, .int .i64 0)] ([⟨b18, [.int .i64 0, .int .i64 0], 2⟩, ⟨b17, [.int .i64 1, .int .i64 5, .int .i64 0, .int .i64 0, .int .i64 0, .int .i64 0, .int .i64 0], 7⟩, ⟨b16, [.int .i64 0, .int .i64 0], 2⟩] : List Own) := by
    refine hstep [0, 5] _ _ _ (by kernel_rfl) (List.cons_ne_nil _ _) ⟨?_, ?_, trivial⟩
    · show T _ _ _ _ _ _ _ _
      refine t_qz 1 [2, 3, 5, 8, 13, 17] (σ' := [(2, .int .i64 1), (3, .int .i64 1), (5, .pointer (some ⟨b17, 0, none⟩)), (8, .pointer (some ⟨b18, 0, none⟩)), (13, .pointer (some ⟨b16, 0, none⟩)), (17, .int .i64 0)]) (by kernel_rfl) ?_
      refine t_end ?_
      exact ⟨hg_19, rfl⟩
    · show T _ _ _ _ _ _ _ _
      refine t_a (.bsl rfl rfl rfl rfl) fun g20 fg20 sg20 => ?_
      refine t_keep [2, 3, 4, 5, 8, 18] (σ' := [(2, .int .i64 1), (3, .int .i64 1), (4, .pointer (some ⟨b16, 0, none⟩)), (5, .pointer (some ⟨b17, 0, none⟩)), (8, .pointer (some ⟨b18, 0, none⟩)), (18, .slice (some ⟨g20, 0, none⟩) 1 1)]) (by kernel_rfl) ?_
      refine t_end ?_
      exact ⟨hg_38 g20, rfl⟩
  have hg_1 : G [true, false, false, false, false, false, false, false] [(2, .int .i64 1), (3, .int .i64 1), (4, .pointer (some ⟨b16, 0, none⟩)), (5, .pointer (some ⟨b17, 0, none⟩)), (8, .pointer (some ⟨b18, 0, none⟩)), (13, .pointer (some ⟨b16, 0, none⟩))] ([⟨b18, [.int .i64 0, .int .i64 0], 2⟩, ⟨b17, [.int .i64 1, .int .i64 5, .int .i64 0, .int .i64 0, .int .i64 0, .int .i64 0, .int .i64 0], 7⟩, ⟨b16, [.int .i64 0, .int .i64 0], 2⟩] : List Own) := by
    refine hstep [1, 3] _ _ _ (by kernel_rfl) (List.cons_ne_nil _ _) ⟨?_, ?_, trivial⟩
    · show T _ _ _ _ _ _ _ _
      refine t_v (.ld1 rfl rfl rfl (.at 2 rfl rfl)) ?_
      refine t_keep [2, 3, 4, 5, 8, 14] (σ' := [(2, .int .i64 1), (3, .int .i64 1), (4, .pointer (some ⟨b16, 0, none⟩)), (5, .pointer (some ⟨b17, 0, none⟩)), (8, .pointer (some ⟨b18, 0, none⟩)), (14, .int .i64 0)]) (by kernel_rfl) ?_
      refine t_end ?_
      exact ⟨hg_3, rfl⟩
    · show T _ _ _ _ _ _ _ _
      refine t_qz 1 [2, 3, 5, 8, 13, 16] (σ' := [(2, .int .i64 1), (3, .int .i64 1), (5, .pointer (some ⟨b17, 0, none⟩)), (8, .pointer (some ⟨b18, 0, none⟩)), (13, .pointer (some ⟨b16, 0, none⟩)), (16, .pointer (some ⟨b16, 1, none⟩))]) (by kernel_rfl) ?_
      refine t_end ?_
      exact ⟨hg_9, rfl⟩
  have hg_8 : G [false, false, false, true, false, false, false, false] [(2, .int .i64 1), (3, .int .i64 1), (4, .pointer (some ⟨b16, 0, none⟩)), (5, .pointer (some ⟨b17, 0, none⟩)), (8, .pointer (some ⟨b18, 0, none⟩)), (16, .pointer (some ⟨b16, 1, none⟩))] ([⟨b18, [.int .i64 0, .int .i64 0], 2⟩, ⟨b17, [.int .i64 1, .int .i64 5, .int .i64 0, .int .i64 0, .int .i64 0, .int .i64 0, .int .i64 0], 7⟩, ⟨b16, [.int .i64 0, .int .i64 0], 2⟩] : List Own) := by
    refine hstep [0, 4] _ _ _ (by kernel_rfl) (List.cons_ne_nil _ _) ⟨?_, ?_, trivial⟩
    · show T _ _ _ _ _ _ _ _
      refine t_qz 1 [2, 3, 5, 8, 13, 16] (σ' := [(2, .int .i64 1), (3, .int .i64 1), (5, .pointer (some ⟨b17, 0, none⟩)), (8, .pointer (some ⟨b18, 0, none⟩)), (13, .pointer (some ⟨b16, 0, none⟩)), (16, .pointer (some ⟨b16, 1, none⟩))]) (by kernel_rfl) ?_
      refine t_end ?_
      exact ⟨hg_9, rfl⟩
    · show T _ _ _ _ _ _ _ _
      refine t_v (.ld1 rfl rfl rfl (.at 2 rfl rfl)) ?_
      refine t_keep [2, 3, 4, 5, 8, 17] (σ' := [(2, .int .i64 1), (3, .int .i64 1), (4, .pointer (some ⟨b16, 0, none⟩)), (5, .pointer (some ⟨b17, 0, none⟩)), (8, .pointer (some ⟨b18, 0, none⟩)), (17, .int .i64 0)]) (by kernel_rfl) ?_
      refine t_end ?_
      exact ⟨hg_18, rfl⟩
  have hg_0 : G [false, false, false, false, false, false, false, false] [(2, .int .i64 1), (3, .int .i64 1), (4, .pointer (some ⟨b16, 0, none⟩)), (5, .pointer (some ⟨b17, 0, none⟩)), (8, .pointer (some ⟨b18, 0, none⟩))] ([⟨b18, [.int .i64 0, .int .i64 0], 2⟩, ⟨b17, [.int .i64 1, .int .i64 5, .int .i64 0, .int .i64 0, .int .i64 0, .int .i64 0, .int .i64 0], 7⟩, ⟨b16, [.int .i64 0, .int .i64 0], 2⟩] : List Own) := by
    refine hstep [0, 3] _ _ _ (by kernel_rfl) (List.cons_ne_nil _ _) ⟨?_, ?_, trivial⟩
    · show T _ _ _ _ _ _ _ _
      refine t_qz 1 [2, 3, 4, 5, 8, 13] (σ' := [(2, .int .i64 1), (3, .int .i64 1), (4, .pointer (some ⟨b16, 0, none⟩)), (5, .pointer (some ⟨b17, 0, none⟩)), (8, .pointer (some ⟨b18, 0, none⟩)), (13, .pointer (some ⟨b16, 0, none⟩))]) (by kernel_rfl) ?_
      refine t_end ?_
      exact ⟨hg_1, rfl⟩
    · show T _ _ _ _ _ _ _ _
      refine t_qz 1 [2, 3, 4, 5, 8, 16] (σ' := [(2, .int .i64 1), (3, .int .i64 1), (4, .pointer (some ⟨b16, 0, none⟩)), (5, .pointer (some ⟨b17, 0, none⟩)), (8, .pointer (some ⟨b18, 0, none⟩)), (16, .pointer (some ⟨b16, 1, none⟩))]) (by kernel_rfl) ?_
      refine t_end ?_
      exact ⟨hg_8, rfl⟩
  exact hg_0

/-- flatten.Path$1 -/
def c43 : C :=
  (.seq (.reg [⟨(some 3), .box (.tmp 0), none⟩])
  (.seq (.seq (.reg [⟨(some 4), .ld (some 2) (.tmp 1), none⟩,
      ⟨(some 5), .ld (some 2) (.tmp 3), none⟩,
      ⟨(some 6), .eqt true 24 (.tmp 4) (.tmp 5), none⟩])
   (.cond (.tmp 6)
    (.reg [⟨(some 7), .ld none (.tmp 2), none⟩,
       ⟨(some 8), .ld (some 2) (.tmp 1), none⟩,
       ⟨(some 9), .ld (some 2) (.tmp 3), none⟩,
       ⟨(some 10), .bld [(.int .i64 0), (.int .i64 0), (.int .i64 0), (.int .i64 0)] [(0, 2, (.tmp 8)), (2, 2, (.tmp 9))], none⟩,
       ⟨(some 11), .bsl [(.int .i64 0), (.int .i64 0), (.int .i64 0), (.int .i64 0)] 1 [(0, 4, (.tmp 10))], none⟩,
       ⟨(some 12), .app 36 4 32 [(.int .i64 0), (.int .i64 0), (.int .i64 0), (.int .i64 0)] (.tmp 7) (.tmp 11), none⟩,
       ⟨none, .st 1 (.tmp 2) (.tmp 12), none⟩])
    .skip))
  (.reg [⟨(some 13), .ld (some 2) (.tmp 3), none⟩,
    ⟨none, .st 2 (.tmp 1) (.tmp 13), none⟩])))
def flatten_Path_1_v1.f  : Option (Unit) := some ()
theorem flatten_Path_1_v1.ok {S : Seal} {B0 B1 : Nat}   (e : flatten_Path_1_v1.f  = some ()) :
    Cal Try.prog 43 [.agg #[.int .i64 5, .int .i64 0], .pointer (some ⟨B0, 0, none⟩), .pointer (some ⟨B1, 0, none⟩)] ([⟨B0, [.int .i64 0, .int .i64 0], 2⟩, ⟨B1, [.slice none 0 0], 1⟩] : List Own) S fun v H' S' => ∃ N0_ nN0_ : Nat, v = .tuple #[] ∧ H' = ([⟨N0_, [.int .i64 0, .int .i64 0, .int .i64 5, .int .i64 0], nN0_⟩, ⟨B0, [.int .i64 5, .int .i64 0], 2⟩, ⟨B1, [.slice (some ⟨N0_, 0, none⟩) 1 (nN0_ / 4)], 1⟩] : List Own) ∧ S' = S := by
  unfold flatten_Path_1_v1.f at e
  refine cal_of (c := c43) (N := 14) Try.func43 rfl rfl (by kernel_rfl) (rs := []) (by kernel_rfl) (Nat.le_of_ble_eq_true rfl) ?_
  unfold c43
  refine w_seq ?_
  refine w_reg fun all => ?_
  refine t_a (.box rfl rfl rfl) fun b37 fb37 sb37 => ?_
  refine t_keep [1, 2, 3] (σ' := [(1, .pointer (some ⟨B0, 0, none⟩)), (2, .pointer (some ⟨B1, 0, none⟩)), (3, .pointer (some ⟨b37, 0, none⟩))]) (by kernel_rfl) ?_
  refine t_end ?_
  show W _ _ _ _ _ _ _
  refine w_seq ?_
  refine w_seq ?_
  refine w_reg fun all => ?_
  refine t_v (.ldn rfl rfl rfl (.at 1 rfl rfl)) ?_
  refine t_v (.ldn rfl rfl rfl (.at 0 rfl rfl)) ?_
  refine t_v (.eqt (a := .agg #[.int .i64 0, .int .i64 0]) (b := .agg #[.int .i64 5, .int .i64 0]) (r := false) rfl rfl rfl rfl (by kernel_rfl) rfl) ?_
  refine t_keep [1, 2, 3, 6] (σ' := [(1, .pointer (some ⟨B0, 0, none⟩)), (2, .pointer (some ⟨B1, 0, none⟩)), (3, .pointer (some ⟨b37, 0, none⟩)), (6, .bool true)]) (by kernel_rfl) ?_
  refine t_end ?_
  show W _ _ _ _ _ _ _
  refine w_cond rfl (fun _ => ?_) (fun c_ => by cases c_)
  show W _ _ _ _ _ _ _
  refine w_reg fun all => ?_
  refine t_v (.ld1 rfl rfl rfl (.at 2 rfl rfl)) ?_
  refine t_v (.ldn rfl rfl rfl (.at 1 rfl rfl)) ?_
  refine t_v (.ldn rfl rfl rfl (.at 0 rfl rfl)) ?_
  refine t_qz 1 [1, 2, 3, 7, 10] (σ' := [(1, .pointer (some ⟨B0, 0, none⟩)), (2, .pointer (some ⟨B1, 0, none⟩)), (3, .pointer (some ⟨b37, 0, none⟩)), (7, .slice none 0 0), (10, .agg #[.int .i64 0, .int .i64 0, .int .i64 5, .int .i64 0])]) (by kernel_rfl) ?_
  refine t_a (.bsl rfl rfl rfl rfl) fun b38 fb38 sb38 => ?_
  refine t_app0 (news := [.int .i64 0, .int .i64 0, .int .i64 5, .int .i64 0]) rfl rfl rfl rfl (.at 0 rfl rfl) (by decide) (by decide) (by decide) rfl fun b39 nb39 fb39 sb39 => ?_
  refine t_sti 4 (cs := [.slice (some ⟨b39, 0, none⟩) 1 (nb39 / 4)]) rfl rfl rfl rfl rfl rfl rfl rfl rfl ?_
  refine t_keep [1, 3] (σ' := [(1, .pointer (some ⟨B0, 0, none⟩)), (3, .pointer (some ⟨b37, 0, none⟩))]) (by kernel_rfl) ?_
  refine t_end ?_
  show W _ _ _ _ _ _ _
  refine w_reg fun all => ?_
  refine t_v (.ldn rfl rfl rfl (.at 2 rfl rfl)) ?_
  refine t_sti 3 (cs := [.int .i64 5, .int .i64 0]) rfl rfl rfl rfl rfl rfl rfl rfl rfl ?_
  refine t_keep [] (σ' := []) (by kernel_rfl) ?_
  refine t_end ?_
  exact ⟨[], ([⟨b39, [.int .i64 0, .int .i64 0, .int .i64 5, .int .i64 0], nb39⟩, ⟨B0, [.int .i64 5, .int .i64 0], 2⟩, ⟨B1, [.slice (some ⟨b39, 0, none⟩) 1 (nb39 / 4)], 1⟩] : List Own), S, trivial, VS.sel [0, 2, 2] (by kernel_rfl), b39, nb39, rfl, rfl, rfl⟩
end Go.Proofs.Ytijjgmkhgcofiaa.QFlattenCounts
