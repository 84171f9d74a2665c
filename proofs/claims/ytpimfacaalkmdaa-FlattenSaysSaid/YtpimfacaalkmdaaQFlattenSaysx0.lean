/- Functions of the program as Lean functions, each with the proof of its walk. Written by gen.py, a program of these sessions. -/
import Derived.Test.YtpimfacaalkmdaaE
import Derived.Test.YtpimfacaalkmdaaProg
namespace Go.Proofs.Ytpimfacaalkmdaa.QFlattenSays
open Go Go.RowKit Go.Proofs.YtpimfacaalkmdaaE
set_option linter.unusedVariables false
set_option maxRecDepth 100000
set_option maxHeartbeats 8000000
theorem mixed : Try.prog.follows .mixedOrders = true := by kernel_rfl

def E_i64 : En (Int) := ⟨1, fun t => [.int .i64 t], fun _ => rfl, fun _ => rfl⟩
def E_i647 : En (Int × Int × Int × Int × Int × Int × Int) := ⟨7, fun t => [.int .i64 t.1, .int .i64 t.2.1, .int .i64 t.2.2.1, .int .i64 t.2.2.2.1, .int .i64 t.2.2.2.2.1, .int .i64 t.2.2.2.2.2.1, .int .i64 t.2.2.2.2.2.2], fun _ => rfl, fun _ => rfl⟩
def E_i644 : En (Int × Int × Int × Int) := ⟨4, fun t => [.int .i64 t.1, .int .i64 t.2.1, .int .i64 t.2.2.1, .int .i64 t.2.2.2], fun _ => rfl, fun _ => rfl⟩
/-- flatten.Count -/
def c29 : C :=
  (.seq (.reg [⟨(some 2), .box (.tmp 0), none⟩,
     ⟨(some 3), .box (.tmp 1), none⟩,
     ⟨(some 4), .mv (.const (.int .i64 0)), none⟩])
  (.seq (.reg [⟨(some 5), .mv (.const (.int .i64 0)), none⟩])
  (.seq (.seq (.reg [⟨(some 7), .pad 0 (.tmp 3), none⟩,
      ⟨(some 8), .ld none (.tmp 7), none⟩])
   (.block 0 (.seq (.reg [⟨(some 10), .bin .eql (.tmp 8) (.const (.int .i64 1)), none⟩,
       ⟨(some 9), .mv (.tmp 10), none⟩])
    (.cond (.tmp 9)
     .skip
     (.seq (.reg [⟨(some 12), .bin .eql (.tmp 8) (.const (.int .i64 2)), none⟩,
         ⟨(some 11), .mv (.tmp 12), none⟩])
      (.cond (.tmp 11)
       (.reg [⟨(some 13), .ld (some 2) (.tmp 2), none⟩,
          ⟨(some 14), .pad 1 (.tmp 3), none⟩,
          ⟨(some 15), .ixa 2 3 (.tmp 14) (.const (.int .i64 0)), none⟩,
          ⟨(some 16), .ld (some 2) (.tmp 15), none⟩,
          ⟨(some 17), .pad 1 (.tmp 3), none⟩,
          ⟨(some 18), .ixa 2 3 (.tmp 17) (.const (.int .i64 1)), none⟩,
          ⟨(some 19), .ld (some 2) (.tmp 18), none⟩,
          ⟨(some 20), .call 68 [(.tmp 13), (.tmp 16), (.tmp 19)], none⟩,
          ⟨(some 5), .mv (.tmp 20), none⟩])
       (.seq (.reg [⟨(some 22), .bin .eql (.tmp 8) (.const (.int .i64 3)), none⟩,
           ⟨(some 21), .mv (.tmp 22), none⟩])
        (.cond (.tmp 21)
         (.drw [⟨(some 23), .ld (some 2) (.tmp 2), none⟩,
            ⟨(some 24), .pad 1 (.tmp 3), none⟩,
            ⟨(some 25), .ixa 2 3 (.tmp 24) (.const (.int .i64 0)), none⟩,
            ⟨(some 26), .ld (some 2) (.tmp 25), none⟩,
            ⟨(some 27), .pad 1 (.tmp 3), none⟩,
            ⟨(some 28), .ixa 2 3 (.tmp 27) (.const (.int .i64 1)), none⟩,
            ⟨(some 29), .ld (some 2) (.tmp 28), none⟩,
            ⟨(some 30), .call 68 [(.tmp 23), (.tmp 26), (.tmp 29)], none⟩,
            ⟨(some 31), .pad 1 (.tmp 3), none⟩,
            ⟨(some 32), .ixa 2 3 (.tmp 31) (.const (.int .i64 0)), none⟩,
            ⟨(some 33), .ld (some 2) (.tmp 32), none⟩,
            ⟨(some 34), .pad 1 (.tmp 3), none⟩,
            ⟨(some 35), .ixa 2 3 (.tmp 34) (.const (.int .i64 1)), none⟩,
            ⟨(some 36), .ld (some 2) (.tmp 35), none⟩,
            ⟨(some 37), .pad 1 (.tmp 3), none⟩,
            ⟨(some 38), .ixa 2 3 (.tmp 37) (.const (.int .i64 2)), none⟩,
            ⟨(some 39), .ld (some 2) (.tmp 38), none⟩,
            ⟨(some 40), .call 68 [(.tmp 33), (.tmp 36), (.tmp 39)], none⟩,
            ⟨(some 41), .mm true [(.tmp 30), (.tmp 40)], none⟩,
            ⟨(some 42), .bin .mul (.const (.int .i64 3)) (.tmp 41), none⟩,
            ⟨(some 5), .mv (.tmp 42), none⟩] [[], [], [1], [2], [], [4], [5], [0, 3, 6], [], [8], [9], [], [11], [12], [], [14], [15], [10, 13, 16, 7], [7, 17], [18], [19, 17, 0, 1, 2, 3, 4, 5, 6, 7, 8, 9, 10, 11, 12, 13, 14, 15, 16, 17, 18, 19]])
         (.seq (.reg [⟨(some 4), .mv (.const (.int .i64 0)), none⟩])
          .ret)))))))))
  (.seq (.reg [⟨(some 6), .mv (.const (.int .i64 1)), none⟩])
  (.seq (.block 1 (.loop (.seq (.seq (.reg [⟨(some 43), .mv (.tmp 5), none⟩,
         ⟨(some 44), .mv (.tmp 6), none⟩,
         ⟨(some 45), .bin .mul (.const (.int .i64 32)) (.tmp 44), none⟩,
         ⟨(some 46), .mv (.tmp 6), none⟩,
         ⟨(some 47), .bin .mul (.tmp 45) (.tmp 46), none⟩,
         ⟨(some 48), .bin .gtr (.tmp 43) (.tmp 47), none⟩])
      (.cond (.tmp 48)
       .skip
       (.exit 1)))
     (.block 2 (.reg [⟨(some 49), .mv (.tmp 6), none⟩,
        ⟨(some 50), .bin .mul (.tmp 49) (.const (.int .i64 2)), none⟩,
        ⟨(some 6), .mv (.tmp 50), none⟩])))))
  (.seq (.reg [⟨(some 51), .mv (.tmp 6), none⟩,
     ⟨(some 4), .mv (.tmp 51), none⟩])
  .ret))))))
def flatten_Count_v1.f  : Option (Unit) := some ()
theorem flatten_Count_v1.ok {S : Seal}  (e : flatten_Count_v1.f  = some ()) :
    Cal Try.prog 29 [.agg #[.int .i64 0, .int .i64 0], .agg #[.int .i64 1, .int .i64 5, .int .i64 0, .int .i64 0, .int .i64 0, .int .i64 0, .int .i64 0]] [] S fun v H' S' => v = .int .i64 1 ∧ H' = [] ∧ S' = S := by
  unfold flatten_Count_v1.f at e
  refine cal_of (c := c29) (N := 52) Try.func29 rfl rfl (by kernel_rfl) (rs := [.t 4]) (by kernel_rfl) (Nat.le_of_ble_eq_true rfl) ?_
  unfold c29
  refine w_seq ?_
  refine w_reg fun all => ?_
  refine t_a (.box rfl rfl rfl) fun b2 fb2 sb2 => ?_
  refine t_a (.box rfl rfl rfl) fun b3 fb3 sb3 => ?_
  refine t_qz 1 [2, 3] (σ' := [(2, .pointer (some ⟨b2, 0, none⟩)), (3, .pointer (some ⟨b3, 0, none⟩))]) (by kernel_rfl) ?_
  refine t_end ?_
  show W _ _ _ _ _ _ _
  refine w_seq ?_
  refine w_reg fun all => ?_
  refine t_qz 1 [2, 3, 5] (σ' := [(2, .pointer (some ⟨b2, 0, none⟩)), (3, .pointer (some ⟨b3, 0, none⟩)), (5, .int .i64 0)]) (by kernel_rfl) ?_
  refine t_end ?_
  show W _ _ _ _ _ _ _
  refine w_seq ?_
  refine w_seq ?_
  refine w_reg fun all => ?_
  refine t_qz 1 [2, 3, 5, 7] (σ' := [(2, .pointer (some ⟨b2, 0, none⟩)), (3, .pointer (some ⟨b3, 0, none⟩)), (5, .int .i64 0), (7, .pointer (some ⟨b3, 0, none⟩))]) (by kernel_rfl) ?_
  refine t_v (.ld1 rfl rfl rfl (.at 0 rfl rfl)) ?_
  refine t_keep [2, 3, 5, 8] (σ' := [(2, .pointer (some ⟨b2, 0, none⟩)), (3, .pointer (some ⟨b3, 0, none⟩)), (5, .int .i64 0), (8, .int .i64 1)]) (by kernel_rfl) ?_
  refine t_end ?_
  show W _ _ _ _ _ _ _
  refine w_block ?_
  refine w_seq ?_
  refine w_reg fun all => ?_
  refine t_qz 2 [2, 3, 5, 8, 9] (σ' := [(2, .pointer (some ⟨b2, 0, none⟩)), (3, .pointer (some ⟨b3, 0, none⟩)), (5, .int .i64 0), (8, .int .i64 1), (9, .bool true)]) (by kernel_rfl) ?_
  refine t_end ?_
  show W _ _ _ _ _ _ _
  refine w_cond rfl (fun _ => ?_) (fun c_ => by cases c_)
  show W _ _ _ _ _ _ _
  refine w_skip ?_
  show W _ _ _ _ _ _ _
  refine w_seq ?_
  refine w_reg fun all => ?_
  refine t_qz 1 [5, 6] (σ' := [(5, .int .i64 0), (6, .int .i64 1)]) (by kernel_rfl) ?_
  refine t_end ?_
  show W _ _ _ _ _ _ _
  refine w_seq ?_
  refine w_block ?_
  refine w_lun 10 ?_
  refine wl_step ?_
  refine w_seq ?_
  refine w_seq ?_
  refine w_reg fun all => ?_
  refine t_qz 6 [5, 6, 48] (σ' := [(5, .int .i64 0), (6, .int .i64 1), (48, .bool false)]) (by kernel_rfl) ?_
  refine t_end ?_
  show W _ _ _ _ _ _ _
  refine w_cond rfl (fun c_ => by cases c_) (fun _ => ?_)
  show W _ _ _ _ _ _ _
  refine w_exit ?_
  show W _ _ _ _ _ _ _
  refine w_seq ?_
  refine w_reg fun all => ?_
  refine t_qz 2 [4] (σ' := [(4, .int .i64 1)]) (by kernel_rfl) ?_
  refine t_end ?_
  show W _ _ _ _ _ _ _
  refine w_ret ?_
  exact ⟨[.int .i64 1], [], S, ⟨rfl, trivial⟩, VS.none, rfl, rfl, rfl⟩

/-- flatten.points -/
def c70 : C :=
  (.seq (.reg [⟨(some 1), .box (.tmp 0), none⟩,
     ⟨(some 2), .mv (.const (.slice none 0 0)), none⟩])
  (.seq (.seq (.reg [⟨(some 3), .pad 0 (.tmp 1), none⟩,
      ⟨(some 4), .ld none (.tmp 3), none⟩,
      ⟨(some 5), .bin .lss (.tmp 4) (.const (.int .i64 1)), none⟩,
      ⟨(some 6), .mv (.tmp 5), none⟩,
      ⟨(some 7), .pad 0 (.tmp 1), (some (6, false))⟩,
      ⟨(some 8), .ld none (.tmp 7), (some (6, false))⟩,
      ⟨(some 9), .bin .gtr (.tmp 8) (.const (.int .i64 3)), (some (6, false))⟩,
      ⟨(some 10), .pk (.tmp 6) (.const (.bool true)) (.tmp 9), none⟩])
   (.cond (.tmp 10)
    (.seq (.reg [⟨(some 2), .mv (.const (.slice none 0 0)), none⟩])
     .ret)
    .skip))
  (.seq (.reg [⟨(some 11), .pad 1 (.tmp 1), none⟩,
     ⟨(some 12), .pad 0 (.tmp 1), none⟩,
     ⟨(some 13), .ld none (.tmp 12), none⟩,
     ⟨(some 14), .sla 2 3 (.tmp 11) none (some (.tmp 13)), none⟩,
     ⟨(some 2), .mv (.tmp 14), none⟩])
  .ret)))
def flatten_points_v1.f  : Option (Unit) := some ()
theorem flatten_points_v1.ok {S : Seal}  (e : flatten_points_v1.f  = some ()) :
    Cal Try.prog 70 [.agg #[.int .i64 1, .int .i64 5, .int .i64 0, .int .i64 0, .int .i64 0, .int .i64 0, .int .i64 0]] [] S fun v H' S' => ∃ (N0_ : Nat) , v = .slice (some ⟨N0_, 1, none⟩) 1 3 ∧ H' = ([⟨N0_, [.int .i64 1, .int .i64 5, .int .i64 0, .int .i64 0, .int .i64 0, .int .i64 0, .int .i64 0], 7⟩] : List Own) ∧ S' = S := by
  unfold flatten_points_v1.f at e
  refine cal_of (c := c70) (N := 15) Try.func70 rfl rfl (by kernel_rfl) (rs := [.t 2]) (by kernel_rfl) (Nat.le_of_ble_eq_true rfl) ?_
  unfold c70
  refine w_seq ?_
  refine w_reg fun all => ?_
  refine t_a (.box rfl rfl rfl) fun b17 fb17 sb17 => ?_
  refine t_qz 1 [1] (σ' := [(1, .pointer (some ⟨b17, 0, none⟩))]) (by kernel_rfl) ?_
  refine t_end ?_
  show W _ _ _ _ _ _ _
  refine w_seq ?_
  refine w_seq ?_
  refine w_reg fun all => ?_
  refine t_qz 1 [1, 3] (σ' := [(1, .pointer (some ⟨b17, 0, none⟩)), (3, .pointer (some ⟨b17, 0, none⟩))]) (by kernel_rfl) ?_
  refine t_v (.ld1 rfl rfl rfl (.at 0 rfl rfl)) ?_
  refine t_qz 3 [1, 6, 7] (σ' := [(1, .pointer (some ⟨b17, 0, none⟩)), (6, .bool false), (7, .pointer (some ⟨b17, 0, none⟩))]) (by kernel_rfl) ?_
  refine t_v (.ld1 rfl rfl rfl (.at 0 rfl rfl)) ?_
  refine t_qz 2 [1, 10] (σ' := [(1, .pointer (some ⟨b17, 0, none⟩)), (10, .bool false)]) (by kernel_rfl) ?_
  refine t_end ?_
  show W _ _ _ _ _ _ _
  refine w_cond rfl (fun c_ => by cases c_) (fun _ => ?_)
  show W _ _ _ _ _ _ _
  refine w_skip ?_
  show W _ _ _ _ _ _ _
  refine w_seq ?_
  refine w_reg fun all => ?_
  refine t_qz 2 [11, 12] (σ' := [(11, .pointer (some ⟨b17, 1, none⟩)), (12, .pointer (some ⟨b17, 0, none⟩))]) (by kernel_rfl) ?_
  refine t_v (.ld1 rfl rfl rfl (.at 0 rfl rfl)) ?_
  refine t_qz 2 [2] (σ' := [(2, .slice (some ⟨b17, 1, none⟩) 1 3)]) (by kernel_rfl) ?_
  refine t_end ?_
  show W _ _ _ _ _ _ _
  refine w_ret ?_
  exact ⟨[.slice (some ⟨b17, 1, none⟩) 1 3], ([⟨b17, [.int .i64 1, .int .i64 5, .int .i64 0, .int .i64 0, .int .i64 0, .int .i64 0, .int .i64 0], 7⟩] : List Own), S, ⟨rfl, trivial⟩, VS.sel [0] (by kernel_rfl), b17, rfl, rfl, rfl⟩

/-- fixed.Down -/
def c113 : C :=
  (.seq (.reg [⟨(some 4), .mv (.const (.int .i64 0)), none⟩])
  (.seq (.seq (.reg [⟨(some 6), .mv (.tmp 1), none⟩,
      ⟨(some 7), .bin .lss (.tmp 6) (.const (.int .i64 1)), none⟩])
   (.cond (.tmp 7)
    (.seq (.reg [⟨(some 4), .mv (.const (.int .i64 0)), none⟩])
     .ret)
    .skip))
  (.seq (.reg [⟨(some 8), .mv (.tmp 0), none⟩,
     ⟨(some 9), .mv (.tmp 1), none⟩,
     ⟨(some 10), .bin .quo (.tmp 8) (.tmp 9), none⟩,
     ⟨(some 5), .mv (.tmp 10), none⟩])
  (.seq (.seq (.reg [⟨(some 11), .mv (.tmp 0), none⟩,
      ⟨(some 12), .mv (.tmp 1), none⟩,
      ⟨(some 13), .bin .rem (.tmp 11) (.tmp 12), none⟩,
      ⟨(some 14), .bin .lss (.tmp 13) (.const (.int .i64 0)), none⟩])
   (.cond (.tmp 14)
    (.reg [⟨(some 15), .mv (.tmp 5), none⟩,
       ⟨(some 16), .bin .sub (.tmp 15) (.const (.int .i64 1)), none⟩,
       ⟨(some 5), .mv (.tmp 16), none⟩])
    .skip))
  (.seq (.reg [⟨(some 17), .mv (.tmp 5), none⟩,
     ⟨(some 4), .mv (.tmp 17), none⟩])
  .ret)))))
def fixed_Down_v1.f  : Option (Unit) := some ()
theorem fixed_Down_v1.ok {S : Seal}  (e : fixed_Down_v1.f  = some ()) :
    Cal Try.prog 113 [.int .i64 5, .int .i64 1] [] S fun v H' S' => v = .int .i64 5 ∧ H' = [] ∧ S' = S := by
  unfold fixed_Down_v1.f at e
  refine cal_of (c := c113) (N := 18) Try.func113 rfl rfl (by kernel_rfl) (rs := [.t 4]) (by kernel_rfl) (Nat.le_of_ble_eq_true rfl) ?_
  unfold c113
  refine w_seq ?_
  refine w_reg fun all => ?_
  refine t_qz 1 [0, 1] (σ' := [(0, .int .i64 5), (1, .int .i64 1)]) (by kernel_rfl) ?_
  refine t_end ?_
  show W _ _ _ _ _ _ _
  refine w_seq ?_
  refine w_seq ?_
  refine w_reg fun all => ?_
  refine t_qz 2 [0, 1, 7] (σ' := [(0, .int .i64 5), (1, .int .i64 1), (7, .bool false)]) (by kernel_rfl) ?_
  refine t_end ?_
  show W _ _ _ _ _ _ _
  refine w_cond rfl (fun c_ => by cases c_) (fun _ => ?_)
  show W _ _ _ _ _ _ _
  refine w_skip ?_
  show W _ _ _ _ _ _ _
  refine w_seq ?_
  refine w_reg fun all => ?_
  refine t_qz 4 [0, 1, 5] (σ' := [(0, .int .i64 5), (1, .int .i64 1), (5, .int .i64 5)]) (by kernel_rfl) ?_
  refine t_end ?_
  show W _ _ _ _ _ _ _
  refine w_seq ?_
  refine w_seq ?_
  refine w_reg fun all => ?_
  refine t_qz 4 [5, 14] (σ' := [(5, .int .i64 5), (14, .bool false)]) (by kernel_rfl) ?_
  refine t_end ?_
  show W _ _ _ _ _ _ _
  refine w_cond rfl (fun c_ => by cases c_) (fun _ => ?_)
  show W _ _ _ _ _ _ _
  refine w_skip ?_
  show W _ _ _ _ _ _ _
  refine w_seq ?_
  refine w_reg fun all => ?_
  refine t_qz 2 [4] (σ' := [(4, .int .i64 5)]) (by kernel_rfl) ?_
  refine t_end ?_
  show W _ _ _ _ _ _ _
  refine w_ret ?_
  exact ⟨[.int .i64 5], [], S, ⟨rfl, trivial⟩, VS.none, rfl, rfl, rfl⟩

/-- fixed.Round -/
def c92 : C :=
  (.seq (.reg [⟨(some 4), .mv (.const (.int .i64 0)), none⟩])
  (.seq (.seq (.reg [⟨(some 7), .mv (.tmp 1), none⟩,
      ⟨(some 8), .bin .lss (.tmp 7) (.const (.int .i64 1)), none⟩])
   (.cond (.tmp 8)
    (.seq (.reg [⟨(some 4), .mv (.const (.int .i64 0)), none⟩])
     .ret)
    .skip))
  (.seq (.reg [⟨(some 9), .mv (.tmp 0), none⟩,
     ⟨(some 10), .mv (.tmp 1), none⟩,
     ⟨(some 11), .call 113 [(.tmp 9), (.tmp 10)], none⟩,
     ⟨(some 5), .mv (.tmp 11), none⟩])
  (.seq (.seq (.reg [⟨(some 12), .mv (.tmp 0), none⟩,
      ⟨(some 13), .mv (.tmp 5), none⟩,
      ⟨(some 14), .mv (.tmp 1), none⟩,
      ⟨(some 15), .bin .mul (.tmp 13) (.tmp 14), none⟩,
      ⟨(some 16), .bin .sub (.tmp 12) (.tmp 15), none⟩,
      ⟨(some 6), .mv (.tmp 16), none⟩])
   (.seq (.reg [⟨(some 17), .mv (.tmp 6), none⟩,
      ⟨(some 18), .mv (.tmp 1), none⟩,
      ⟨(some 19), .mv (.tmp 6), none⟩,
      ⟨(some 20), .bin .sub (.tmp 18) (.tmp 19), none⟩,
      ⟨(some 21), .bin .geq (.tmp 17) (.tmp 20), none⟩])
   (.cond (.tmp 21)
    (.reg [⟨(some 22), .mv (.tmp 5), none⟩,
       ⟨(some 23), .bin .add (.tmp 22) (.const (.int .i64 1)), none⟩,
       ⟨(some 5), .mv (.tmp 23), none⟩])
    .skip)))
  (.seq (.reg [⟨(some 24), .mv (.tmp 5), none⟩,
     ⟨(some 4), .mv (.tmp 24), none⟩])
  .ret)))))
def fixed_Round_v1.f  : Option (Unit) := (fixed_Down_v1.f).bind fun _ => (some ())
theorem fixed_Round_v1.ok {S : Seal}  (e : fixed_Round_v1.f  = some ()) :
    Cal Try.prog 92 [.int .i64 5, .int .i64 1] [] S fun v H' S' => v = .int .i64 5 ∧ H' = [] ∧ S' = S := by
  unfold fixed_Round_v1.f at e
  refine cal_of (c := c92) (N := 25) Try.func92 rfl rfl (by kernel_rfl) (rs := [.t 4]) (by kernel_rfl) (Nat.le_of_ble_eq_true rfl) ?_
  unfold c92
  refine w_seq ?_
  refine w_reg fun all => ?_
  refine t_qz 1 [0, 1] (σ' := [(0, .int .i64 5), (1, .int .i64 1)]) (by kernel_rfl) ?_
  refine t_end ?_
  show W _ _ _ _ _ _ _
  refine w_seq ?_
  refine w_seq ?_
  refine w_reg fun all => ?_
  refine t_qz 2 [0, 1, 8] (σ' := [(0, .int .i64 5), (1, .int .i64 1), (8, .bool false)]) (by kernel_rfl) ?_
  refine t_end ?_
  show W _ _ _ _ _ _ _
  refine w_cond rfl (fun c_ => by cases c_) (fun _ => ?_)
  show W _ _ _ _ _ _ _
  refine w_skip ?_
  show W _ _ _ _ _ _ _
  refine w_seq ?_
  refine w_reg fun all => ?_
  obtain ⟨u_, h25, e⟩ := bind_of e
  refine t_qz 2 [0, 1, 9, 10] (σ' := [(0, .int .i64 5), (1, .int .i64 1), (9, .int .i64 5), (10, .int .i64 1)]) (by kernel_rfl) ?_
  refine t_v (.call (vs := [.int .i64 5, .int .i64 1]) rfl rfl (by kernel_rfl) (fixed_Down_v1.ok h25)) ?_
  refine t_qz 1 [0, 1, 5] (σ' := [(0, .int .i64 5), (1, .int .i64 1), (5, .int .i64 5)]) (by kernel_rfl) ?_
  refine t_end ?_
  show W _ _ _ _ _ _ _
  refine w_seq ?_
  refine w_seq ?_
  refine w_reg fun all => ?_
  refine t_qz 6 [1, 5, 6] (σ' := [(1, .int .i64 1), (5, .int .i64 5), (6, .int .i64 0)]) (by kernel_rfl) ?_
  refine t_end ?_
  show W _ _ _ _ _ _ _
  refine w_seq ?_
  refine w_reg fun all => ?_
  refine t_qz 5 [5, 21] (σ' := [(5, .int .i64 5), (21, .bool false)]) (by kernel_rfl) ?_
  refine t_end ?_
  show W _ _ _ _ _ _ _
  refine w_cond rfl (fun c_ => by cases c_) (fun _ => ?_)
  show W _ _ _ _ _ _ _
  refine w_skip ?_
  show W _ _ _ _ _ _ _
  refine w_seq ?_
  refine w_reg fun all => ?_
  refine t_qz 2 [4] (σ' := [(4, .int .i64 5)]) (by kernel_rfl) ?_
  refine t_end ?_
  show W _ _ _ _ _ _ _
  refine w_ret ?_
  exact ⟨[.int .i64 5], [], S, ⟨rfl, trivial⟩, VS.none, rfl, rfl, rfl⟩

/-- flatten.mix -/
def c71 : C :=
  (.seq (.reg [⟨(some 6), .mv (.const (.int .i64 0)), none⟩])
  (.seq (.reg [⟨(some 8), .mv (.tmp 1), none⟩,
     ⟨(some 9), .mv (.tmp 0), none⟩,
     ⟨(some 10), .bin .sub (.tmp 8) (.tmp 9), none⟩,
     ⟨(some 7), .mv (.tmp 10), none⟩])
  (.seq (.seq (.reg [⟨(some 11), .mv (.tmp 2), none⟩,
      ⟨(some 12), .lns (.tmp 11), none⟩])
   (.block 0 (.seq (.reg [⟨(some 14), .bin .eql (.tmp 12) (.const (.int .i64 1)), none⟩,
       ⟨(some 13), .mv (.tmp 14), none⟩])
    (.cond (.tmp 13)
     (.seq (.reg [⟨(some 15), .mv (.tmp 2), none⟩,
         ⟨(some 16), .ixs 1 (.tmp 15) (.const (.int .i64 0)), none⟩,
         ⟨(some 17), .ld none (.tmp 16), none⟩,
         ⟨(some 6), .mv (.tmp 17), none⟩])
      .ret)
     (.seq (.reg [⟨(some 19), .bin .eql (.tmp 12) (.const (.int .i64 2)), none⟩,
         ⟨(some 18), .mv (.tmp 19), none⟩])
      (.cond (.tmp 18)
       (.seq (.drw [⟨(some 20), .mv (.tmp 7), none⟩,
           ⟨(some 21), .mv (.tmp 2), none⟩,
           ⟨(some 22), .ixs 1 (.tmp 21) (.const (.int .i64 0)), none⟩,
           ⟨(some 23), .ld none (.tmp 22), none⟩,
           ⟨(some 24), .bin .mul (.tmp 20) (.tmp 23), none⟩,
           ⟨(some 25), .mv (.tmp 0), none⟩,
           ⟨(some 26), .mv (.tmp 2), none⟩,
           ⟨(some 27), .ixs 1 (.tmp 26) (.const (.int .i64 1)), none⟩,
           ⟨(some 28), .ld none (.tmp 27), none⟩,
           ⟨(some 29), .bin .mul (.tmp 25) (.tmp 28), none⟩,
           ⟨(some 30), .bin .add (.tmp 24) (.tmp 29), none⟩,
           ⟨(some 31), .mv (.tmp 1), none⟩,
           ⟨(some 32), .call 92 [(.tmp 30), (.tmp 31)], none⟩,
           ⟨(some 6), .mv (.tmp 32), none⟩] [[], [], [1], [2], [0, 3], [], [], [6], [7], [5, 8], [4, 9], [], [10, 11], [12, 12, 0, 1, 2, 3, 4, 5, 6, 7, 8, 9, 10, 11, 12]])
        .ret)
       (.seq (.reg [⟨(some 34), .bin .eql (.tmp 12) (.const (.int .i64 3)), none⟩,
           ⟨(some 33), .mv (.tmp 34), none⟩])
        (.cond (.tmp 33)
         (.seq (.drw [⟨(some 35), .mv (.tmp 7), none⟩,
             ⟨(some 36), .mv (.tmp 7), none⟩,
             ⟨(some 37), .bin .mul (.tmp 35) (.tmp 36), none⟩,
             ⟨(some 38), .mv (.tmp 2), none⟩,
             ⟨(some 39), .ixs 1 (.tmp 38) (.const (.int .i64 0)), none⟩,
             ⟨(some 40), .ld none (.tmp 39), none⟩,
             ⟨(some 41), .bin .mul (.tmp 37) (.tmp 40), none⟩,
             ⟨(some 42), .mv (.tmp 0), none⟩,
             ⟨(some 43), .bin .mul (.const (.int .i64 2)) (.tmp 42), none⟩,
             ⟨(some 44), .mv (.tmp 7), none⟩,
             ⟨(some 45), .bin .mul (.tmp 43) (.tmp 44), none⟩,
             ⟨(some 46), .mv (.tmp 2), none⟩,
             ⟨(some 47), .ixs 1 (.tmp 46) (.const (.int .i64 1)), none⟩,
             ⟨(some 48), .ld none (.tmp 47), none⟩,
             ⟨(some 49), .bin .mul (.tmp 45) (.tmp 48), none⟩,
             ⟨(some 50), .bin .add (.tmp 41) (.tmp 49), none⟩,
             ⟨(some 51), .mv (.tmp 0), none⟩,
             ⟨(some 52), .mv (.tmp 0), none⟩,
             ⟨(some 53), .bin .mul (.tmp 51) (.tmp 52), none⟩,
             ⟨(some 54), .mv (.tmp 2), none⟩,
             ⟨(some 55), .ixs 1 (.tmp 54) (.const (.int .i64 2)), none⟩,
             ⟨(some 56), .ld none (.tmp 55), none⟩,
             ⟨(some 57), .bin .mul (.tmp 53) (.tmp 56), none⟩,
             ⟨(some 58), .bin .add (.tmp 50) (.tmp 57), none⟩,
             ⟨(some 59), .mv (.tmp 1), none⟩,
             ⟨(some 60), .mv (.tmp 1), none⟩,
             ⟨(some 61), .bin .mul (.tmp 59) (.tmp 60), none⟩,
             ⟨(some 62), .call 92 [(.tmp 58), (.tmp 61)], none⟩,
             ⟨(some 6), .mv (.tmp 62), none⟩] [[], [], [0, 1], [], [3], [4], [2, 5], [], [7], [], [8, 9], [], [11], [12], [10, 13], [6, 14], [], [], [16, 17], [], [19], [20], [18, 21], [15, 22], [], [], [24, 25], [23, 26], [27, 27, 0, 1, 2, 3, 4, 5, 6, 7, 8, 9, 10, 11, 12, 13, 14, 15, 16, 17, 18, 19, 20, 21, 22, 23, 24, 25, 26, 27]])
          .ret)
         .skip))))))))
  (.seq (.drw [⟨(some 63), .mv (.tmp 7), none⟩,
     ⟨(some 64), .mv (.tmp 7), none⟩,
     ⟨(some 65), .bin .mul (.tmp 63) (.tmp 64), none⟩,
     ⟨(some 66), .mv (.tmp 7), none⟩,
     ⟨(some 67), .bin .mul (.tmp 65) (.tmp 66), none⟩,
     ⟨(some 68), .mv (.tmp 2), none⟩,
     ⟨(some 69), .ixs 1 (.tmp 68) (.const (.int .i64 0)), none⟩,
     ⟨(some 70), .ld none (.tmp 69), none⟩,
     ⟨(some 71), .bin .mul (.tmp 67) (.tmp 70), none⟩,
     ⟨(some 72), .mv (.tmp 0), none⟩,
     ⟨(some 73), .bin .mul (.const (.int .i64 3)) (.tmp 72), none⟩,
     ⟨(some 74), .mv (.tmp 7), none⟩,
     ⟨(some 75), .bin .mul (.tmp 73) (.tmp 74), none⟩,
     ⟨(some 76), .mv (.tmp 7), none⟩,
     ⟨(some 77), .bin .mul (.tmp 75) (.tmp 76), none⟩,
     ⟨(some 78), .mv (.tmp 2), none⟩,
     ⟨(some 79), .ixs 1 (.tmp 78) (.const (.int .i64 1)), none⟩,
     ⟨(some 80), .ld none (.tmp 79), none⟩,
     ⟨(some 81), .bin .mul (.tmp 77) (.tmp 80), none⟩,
     ⟨(some 82), .bin .add (.tmp 71) (.tmp 81), none⟩,
     ⟨(some 83), .mv (.tmp 0), none⟩,
     ⟨(some 84), .bin .mul (.const (.int .i64 3)) (.tmp 83), none⟩,
     ⟨(some 85), .mv (.tmp 0), none⟩,
     ⟨(some 86), .bin .mul (.tmp 84) (.tmp 85), none⟩,
     ⟨(some 87), .mv (.tmp 7), none⟩,
     ⟨(some 88), .bin .mul (.tmp 86) (.tmp 87), none⟩,
     ⟨(some 89), .mv (.tmp 2), none⟩,
     ⟨(some 90), .ixs 1 (.tmp 89) (.const (.int .i64 2)), none⟩,
     ⟨(some 91), .ld none (.tmp 90), none⟩,
     ⟨(some 92), .bin .mul (.tmp 88) (.tmp 91), none⟩,
     ⟨(some 93), .bin .add (.tmp 82) (.tmp 92), none⟩,
     ⟨(some 94), .mv (.tmp 0), none⟩,
     ⟨(some 95), .mv (.tmp 0), none⟩,
     ⟨(some 96), .bin .mul (.tmp 94) (.tmp 95), none⟩,
     ⟨(some 97), .mv (.tmp 0), none⟩,
     ⟨(some 98), .bin .mul (.tmp 96) (.tmp 97), none⟩,
     ⟨(some 99), .mv (.tmp 2), none⟩,
     ⟨(some 100), .ixs 1 (.tmp 99) (.const (.int .i64 3)), none⟩,
     ⟨(some 101), .ld none (.tmp 100), none⟩,
     ⟨(some 102), .bin .mul (.tmp 98) (.tmp 101), none⟩,
     ⟨(some 103), .bin .add (.tmp 93) (.tmp 102), none⟩,
     ⟨(some 104), .mv (.tmp 1), none⟩,
     ⟨(some 105), .mv (.tmp 1), none⟩,
     ⟨(some 106), .bin .mul (.tmp 104) (.tmp 105), none⟩,
     ⟨(some 107), .mv (.tmp 1), none⟩,
     ⟨(some 108), .bin .mul (.tmp 106) (.tmp 107), none⟩,
     ⟨(some 109), .call 92 [(.tmp 103), (.tmp 108)], none⟩,
     ⟨(some 6), .mv (.tmp 109), none⟩] [[], [], [0, 1], [], [2, 3], [], [5], [6], [4, 7], [], [9], [], [10, 11], [], [12, 13], [], [15], [16], [14, 17], [8, 18], [], [20], [], [21, 22], [], [23, 24], [], [26], [27], [25, 28], [19, 29], [], [], [31, 32], [], [33, 34], [], [36], [37], [35, 38], [30, 39], [], [], [41, 42], [], [43, 44], [40, 45], [46, 46, 0, 1, 2, 3, 4, 5, 6, 7, 8, 9, 10, 11, 12, 13, 14, 15, 16, 17, 18, 19, 20, 21, 22, 23, 24, 25, 26, 27, 28, 29, 30, 31, 32, 33, 34, 35, 36, 37, 38, 39, 40, 41, 42, 43, 44, 45, 46]])
  .ret))))
def flatten_mix_v1.f  : Option (Unit) := (fixed_Round_v1.f).bind fun _ => (some ())
theorem flatten_mix_v1.ok {S : Seal} {B0 nB0 : Nat}  (e : flatten_mix_v1.f  = some ()) :
    Cal Try.prog 71 [.int .i64 1, .int .i64 1, .slice (some ⟨B0, 0, none⟩) 2 (nB0 / 1)] ([⟨B0, [.int .i64 0, .int .i64 5], nB0⟩] : List Own) S fun v H' S' => v = .int .i64 5 ∧ H' = ([⟨B0, [.int .i64 0, .int .i64 5], nB0⟩] : List Own) ∧ S' = S := by
  unfold flatten_mix_v1.f at e
  refine cal_of (c := c71) (N := 110) Try.func71 rfl rfl (by kernel_rfl) (rs := [.t 6]) (by kernel_rfl) (Nat.le_of_ble_eq_true rfl) ?_
  unfold c71
  refine w_seq ?_
  refine w_reg fun all => ?_
  refine t_qz 1 [0, 1, 2] (σ' := [(0, .int .i64 1), (1, .int .i64 1), (2, .slice (some ⟨B0, 0, none⟩) 2 (nB0 / 1))]) (by kernel_rfl) ?_
  refine t_end ?_
  show W _ _ _ _ _ _ _
  refine w_seq ?_
  refine w_reg fun all => ?_
  refine t_qz 4 [0, 1, 2, 7] (σ' := [(0, .int .i64 1), (1, .int .i64 1), (2, .slice (some ⟨B0, 0, none⟩) 2 (nB0 / 1)), (7, .int .i64 0)]) (by kernel_rfl) ?_
  refine t_end ?_
  show W _ _ _ _ _ _ _
  refine w_seq ?_
  refine w_seq ?_
  refine w_reg fun all => ?_
  refine t_qz 2 [0, 1, 2, 7, 12] (σ' := [(0, .int .i64 1), (1, .int .i64 1), (2, .slice (some ⟨B0, 0, none⟩) 2 (nB0 / 1)), (7, .int .i64 0), (12, .int .i64 2)]) (by kernel_rfl) ?_
  refine t_end ?_
  show W _ _ _ _ _ _ _
  refine w_block ?_
  refine w_seq ?_
  refine w_reg fun all => ?_
  refine t_qz 2 [0, 1, 2, 7, 12, 13] (σ' := [(0, .int .i64 1), (1, .int .i64 1), (2, .slice (some ⟨B0, 0, none⟩) 2 (nB0 / 1)), (7, .int .i64 0), (12, .int .i64 2), (13, .bool false)]) (by kernel_rfl) ?_
  refine t_end ?_
  show W _ _ _ _ _ _ _
  refine w_cond rfl (fun c_ => by cases c_) (fun _ => ?_)
  show W _ _ _ _ _ _ _
  refine w_seq ?_
  refine w_reg fun all => ?_
  refine t_qz 2 [0, 1, 2, 7, 12, 18] (σ' := [(0, .int .i64 1), (1, .int .i64 1), (2, .slice (some ⟨B0, 0, none⟩) 2 (nB0 / 1)), (7, .int .i64 0), (12, .int .i64 2), (18, .bool true)]) (by kernel_rfl) ?_
  refine t_end ?_
  show W _ _ _ _ _ _ _
  refine w_cond rfl (fun _ => ?_) (fun c_ => by cases c_)
  show W _ _ _ _ _ _ _
  refine w_seq ?_
  obtain ⟨u_, h25, e⟩ := bind_of e
  refine w_drwE mixed 14 [.v (.int .i64 0), .v (.slice (some ⟨B0, 0, none⟩) 2 (nB0 / 1)), .v (.pointer (some ⟨B0, 0, none⟩)), .v (.int .i64 0), .v (.int .i64 0), .v (.int .i64 1), .v (.slice (some ⟨B0, 0, none⟩) 2 (nB0 / 1)), .v (.pointer (some ⟨B0, 1, none⟩)), .v (.int .i64 5), .v (.int .i64 5), .v (.int .i64 5), .v (.int .i64 1), .v (.int .i64 5), .v (.int .i64 5)] (by kernel_rfl) ?_ ?_
  · refine DI.sq 3 (by kernel_rfl) rfl ?_
    refine .cons (.ld1 rfl rfl rfl (.at 0 rfl rfl)) ?_
    refine DI.sq 4 (by kernel_rfl) rfl ?_
    refine .cons (.ld1 rfl rfl rfl (.at 0 rfl rfl)) ?_
    refine DI.sq 3 (by kernel_rfl) rfl ?_
    refine .cons (.call (vs := [.int .i64 5, .int .i64 1]) rfl rfl (by kernel_rfl) (fixed_Round_v1.ok h25)) ?_
    refine DI.sq 1 (by kernel_rfl) rfl ?_
    exact .nil
  refine fk_q 14 [6] (σ' := [(6, .int .i64 5)]) t_more (by kernel_rfl) ?_
  refine fk_nil fun all => ?_
  refine t_keep [6] (σ' := [(6, .int .i64 5)]) (by kernel_rfl) ?_
  refine t_end ?_
  show W _ _ _ _ _ _ _
  refine w_ret ?_
  exact ⟨[.int .i64 5], ([⟨B0, [.int .i64 0, .int .i64 5], nB0⟩] : List Own), S, ⟨rfl, trivial⟩, VS.sel [0] (by kernel_rfl), rfl, rfl, rfl⟩

def fixed_Down_v2.f  : Option (Unit) := some ()
theorem fixed_Down_v2.ok {S : Seal}  (e : fixed_Down_v2.f  = some ()) :
    Cal Try.prog 113 [.int .i64 0, .int .i64 1] [] S fun v H' S' => v = .int .i64 0 ∧ H' = [] ∧ S' = S := by
  unfold fixed_Down_v2.f at e
  refine cal_of (c := c113) (N := 18) Try.func113 rfl rfl (by kernel_rfl) (rs := [.t 4]) (by kernel_rfl) (Nat.le_of_ble_eq_true rfl) ?_
  unfold c113
  refine w_seq ?_
  refine w_reg fun all => ?_
  refine t_qz 1 [0, 1] (σ' := [(0, .int .i64 0), (1, .int .i64 1)]) (by kernel_rfl) ?_
  refine t_end ?_
  show W _ _ _ _ _ _ _
  refine w_seq ?_
  refine w_seq ?_
  refine w_reg fun all => ?_
  refine t_qz 2 [0, 1, 7] (σ' := [(0, .int .i64 0), (1, .int .i64 1), (7, .bool false)]) (by kernel_rfl) ?_
  refine t_end ?_
  show W _ _ _ _ _ _ _
  refine w_cond rfl (fun c_ => by cases c_) (fun _ => ?_)
  show W _ _ _ _ _ _ _
  refine w_skip ?_
  show W _ _ _ _ _ _ _
  refine w_seq ?_
  refine w_reg fun all => ?_
  refine t_qz 4 [0, 1, 5] (σ' := [(0, .int .i64 0), (1, .int .i64 1), (5, .int .i64 0)]) (by kernel_rfl) ?_
  refine t_end ?_
  show W _ _ _ _ _ _ _
  refine w_seq ?_
  refine w_seq ?_
  refine w_reg fun all => ?_
  refine t_qz 4 [5, 14] (σ' := [(5, .int .i64 0), (14, .bool false)]) (by kernel_rfl) ?_
  refine t_end ?_
  show W _ _ _ _ _ _ _
  refine w_cond rfl (fun c_ => by cases c_) (fun _ => ?_)
  show W _ _ _ _ _ _ _
  refine w_skip ?_
  show W _ _ _ _ _ _ _
  refine w_seq ?_
  refine w_reg fun all => ?_
  refine t_qz 2 [4] (σ' := [(4, .int .i64 0)]) (by kernel_rfl) ?_
  refine t_end ?_
  show W _ _ _ _ _ _ _
  refine w_ret ?_
  exact ⟨[.int .i64 0], [], S, ⟨rfl, trivial⟩, VS.none, rfl, rfl, rfl⟩

def fixed_Round_v2.f  : Option (Unit) := (fixed_Down_v2.f).bind fun _ => (some ())
theorem fixed_Round_v2.ok {S : Seal}  (e : fixed_Round_v2.f  = some ()) :
    Cal Try.prog 92 [.int .i64 0, .int .i64 1] [] S fun v H' S' => v = .int .i64 0 ∧ H' = [] ∧ S' = S := by
  unfold fixed_Round_v2.f at e
  refine cal_of (c := c92) (N := 25) Try.func92 rfl rfl (by kernel_rfl) (rs := [.t 4]) (by kernel_rfl) (Nat.le_of_ble_eq_true rfl) ?_
  unfold c92
  refine w_seq ?_
  refine w_reg fun all => ?_
  refine t_qz 1 [0, 1] (σ' := [(0, .int .i64 0), (1, .int .i64 1)]) (by kernel_rfl) ?_
  refine t_end ?_
  show W _ _ _ _ _ _ _
  refine w_seq ?_
  refine w_seq ?_
  refine w_reg fun all => ?_
  refine t_qz 2 [0, 1, 8] (σ' := [(0, .int .i64 0), (1, .int .i64 1), (8, .bool false)]) (by kernel_rfl) ?_
  refine t_end ?_
  show W _ _ _ _ _ _ _
  refine w_cond rfl (fun c_ => by cases c_) (fun _ => ?_)
  show W _ _ _ _ _ _ _
  refine w_skip ?_
  show W _ _ _ _ _ _ _
  refine w_seq ?_
  refine w_reg fun all => ?_
  obtain ⟨u_, h27, e⟩ := bind_of e
  refine t_qz 2 [0, 1, 9, 10] (σ' := [(0, .int .i64 0), (1, .int .i64 1), (9, .int .i64 0), (10, .int .i64 1)]) (by kernel_rfl) ?_
  refine t_v (.call (vs := [.int .i64 0, .int .i64 1]) rfl rfl (by kernel_rfl) (fixed_Down_v2.ok h27)) ?_
  refine t_qz 1 [0, 1, 5] (σ' := [(0, .int .i64 0), (1, .int .i64 1), (5, .int .i64 0)]) (by kernel_rfl) ?_
  refine t_end ?_
  show W _ _ _ _ _ _ _
  refine w_seq ?_
  refine w_seq ?_
  refine w_reg fun all => ?_
  refine t_qz 6 [1, 5, 6] (σ' := [(1, .int .i64 1), (5, .int .i64 0), (6, .int .i64 0)]) (by kernel_rfl) ?_
  refine t_end ?_
  show W _ _ _ _ _ _ _
  refine w_seq ?_
  refine w_reg fun all => ?_
  refine t_qz 5 [5, 21] (σ' := [(5, .int .i64 0), (21, .bool false)]) (by kernel_rfl) ?_
  refine t_end ?_
  show W _ _ _ _ _ _ _
  refine w_cond rfl (fun c_ => by cases c_) (fun _ => ?_)
  show W _ _ _ _ _ _ _
  refine w_skip ?_
  show W _ _ _ _ _ _ _
  refine w_seq ?_
  refine w_reg fun all => ?_
  refine t_qz 2 [4] (σ' := [(4, .int .i64 0)]) (by kernel_rfl) ?_
  refine t_end ?_
  show W _ _ _ _ _ _ _
  refine w_ret ?_
  exact ⟨[.int .i64 0], [], S, ⟨rfl, trivial⟩, VS.none, rfl, rfl, rfl⟩

def flatten_mix_v2.f  : Option (Unit) := (fixed_Round_v2.f).bind fun _ => (some ())
theorem flatten_mix_v2.ok {S : Seal} {B0 nB0 : Nat}  (e : flatten_mix_v2.f  = some ()) :
    Cal Try.prog 71 [.int .i64 1, .int .i64 1, .slice (some ⟨B0, 0, none⟩) 2 (nB0 / 1)] ([⟨B0, [.int .i64 0, .int .i64 0], nB0⟩] : List Own) S fun v H' S' => v = .int .i64 0 ∧ H' = ([⟨B0, [.int .i64 0, .int .i64 0], nB0⟩] : List Own) ∧ S' = S := by
  unfold flatten_mix_v2.f at e
  refine cal_of (c := c71) (N := 110) Try.func71 rfl rfl (by kernel_rfl) (rs := [.t 6]) (by kernel_rfl) (Nat.le_of_ble_eq_true rfl) ?_
  unfold c71
  refine w_seq ?_
  refine w_reg fun all => ?_
  refine t_qz 1 [0, 1, 2] (σ' := [(0, .int .i64 1), (1, .int .i64 1), (2, .slice (some ⟨B0, 0, none⟩) 2 (nB0 / 1))]) (by kernel_rfl) ?_
  refine t_end ?_
  show W _ _ _ _ _ _ _
  refine w_seq ?_
  refine w_reg fun all => ?_
  refine t_qz 4 [0, 1, 2, 7] (σ' := [(0, .int .i64 1), (1, .int .i64 1), (2, .slice (some ⟨B0, 0, none⟩) 2 (nB0 / 1)), (7, .int .i64 0)]) (by kernel_rfl) ?_
  refine t_end ?_
  show W _ _ _ _ _ _ _
  refine w_seq ?_
  refine w_seq ?_
  refine w_reg fun all => ?_
  refine t_qz 2 [0, 1, 2, 7, 12] (σ' := [(0, .int .i64 1), (1, .int .i64 1), (2, .slice (some ⟨B0, 0, none⟩) 2 (nB0 / 1)), (7, .int .i64 0), (12, .int .i64 2)]) (by kernel_rfl) ?_
  refine t_end ?_
  show W _ _ _ _ _ _ _
  refine w_block ?_
  refine w_seq ?_
  refine w_reg fun all => ?_
  refine t_qz 2 [0, 1, 2, 7, 12, 13] (σ' := [(0, .int .i64 1), (1, .int .i64 1), (2, .slice (some ⟨B0, 0, none⟩) 2 (nB0 / 1)), (7, .int .i64 0), (12, .int .i64 2), (13, .bool false)]) (by kernel_rfl) ?_
  refine t_end ?_
  show W _ _ _ _ _ _ _
  refine w_cond rfl (fun c_ => by cases c_) (fun _ => ?_)
  show W _ _ _ _ _ _ _
  refine w_seq ?_
  refine w_reg fun all => ?_
  refine t_qz 2 [0, 1, 2, 7, 12, 18] (σ' := [(0, .int .i64 1), (1, .int .i64 1), (2, .slice (some ⟨B0, 0, none⟩) 2 (nB0 / 1)), (7, .int .i64 0), (12, .int .i64 2), (18, .bool true)]) (by kernel_rfl) ?_
  refine t_end ?_
  show W _ _ _ _ _ _ _
  refine w_cond rfl (fun _ => ?_) (fun c_ => by cases c_)
  show W _ _ _ _ _ _ _
  refine w_seq ?_
  obtain ⟨u_, h27, e⟩ := bind_of e
  refine w_drwE mixed 14 [.v (.int .i64 0), .v (.slice (some ⟨B0, 0, none⟩) 2 (nB0 / 1)), .v (.pointer (some ⟨B0, 0, none⟩)), .v (.int .i64 0), .v (.int .i64 0), .v (.int .i64 1), .v (.slice (some ⟨B0, 0, none⟩) 2 (nB0 / 1)), .v (.pointer (some ⟨B0, 1, none⟩)), .v (.int .i64 0), .v (.int .i64 0), .v (.int .i64 0), .v (.int .i64 1), .v (.int .i64 0), .v (.int .i64 0)] (by kernel_rfl) ?_ ?_
  · refine DI.sq 3 (by kernel_rfl) rfl ?_
    refine .cons (.ld1 rfl rfl rfl (.at 0 rfl rfl)) ?_
    refine DI.sq 4 (by kernel_rfl) rfl ?_
    refine .cons (.ld1 rfl rfl rfl (.at 0 rfl rfl)) ?_
    refine DI.sq 3 (by kernel_rfl) rfl ?_
    refine .cons (.call (vs := [.int .i64 0, .int .i64 1]) rfl rfl (by kernel_rfl) (fixed_Round_v2.ok h27)) ?_
    refine DI.sq 1 (by kernel_rfl) rfl ?_
    exact .nil
  refine fk_q 14 [6] (σ' := [(6, .int .i64 0)]) t_more (by kernel_rfl) ?_
  refine fk_nil fun all => ?_
  refine t_keep [6] (σ' := [(6, .int .i64 0)]) (by kernel_rfl) ?_
  refine t_end ?_
  show W _ _ _ _ _ _ _
  refine w_ret ?_
  exact ⟨[.int .i64 0], ([⟨B0, [.int .i64 0, .int .i64 0], nB0⟩] : List Own), S, ⟨rfl, trivial⟩, VS.sel [0] (by kernel_rfl), rfl, rfl, rfl⟩

/-- flatten.Point -/
def c31 : C :=
  (.seq (.reg [⟨(some 4), .box (.tmp 0), none⟩,
     ⟨(some 5), .box (.tmp 1), none⟩,
     ⟨(some 8), .new [(.int .i64 0), (.int .i64 0)], none⟩])
  (.seq (.drw [⟨(some 13), .pad 0 (.tmp 4), none⟩,
     ⟨(some 14), .ld none (.tmp 13), none⟩,
     ⟨(some 15), .bsl [(.int .i64 0)] 1 [(0, 1, (.tmp 14))], none⟩,
     ⟨(some 16), .pad 1 (.tmp 4), none⟩,
     ⟨(some 17), .ld none (.tmp 16), none⟩,
     ⟨(some 18), .bsl [(.int .i64 0)] 1 [(0, 1, (.tmp 17))], none⟩,
     ⟨(some 9), .mv (.tmp 15), none⟩,
     ⟨(some 10), .mv (.tmp 18), none⟩] [[], [0], [1], [], [3], [4], [2, 0, 1, 2], [5, 6, 0, 1, 2, 3, 4, 5, 6]])
  (.seq (.seq (.reg [⟨(some 19), .ld (some 7) (.tmp 5), none⟩,
      ⟨(some 20), .call 70 [(.tmp 19)], none⟩,
      ⟨(some 21), .lns (.tmp 20), none⟩,
      ⟨(some 22), .mv (.const (.int .i64 0)), none⟩])
   (.block 0 (.loop (.seq (.reg [⟨(some 23), .bin .lss (.tmp 22) (.tmp 21), none⟩])
     (.seq (.cond (.tmp 23)
       .skip
       (.exit 0))
     (.seq (.block 1 (.seq (.reg [⟨(some 24), .ixs 2 (.tmp 20) (.tmp 22), none⟩,
          ⟨(some 25), .ld (some 2) (.tmp 24), none⟩,
          ⟨(some 12), .new [(.int .i64 0), (.int .i64 0)], none⟩,
          ⟨none, .st 2 (.tmp 12) (.tmp 25), none⟩])
       (.drw [⟨(some 26), .mv (.tmp 9), none⟩,
         ⟨(some 27), .pad 0 (.tmp 12), none⟩,
         ⟨(some 28), .ld none (.tmp 27), none⟩,
         ⟨(some 29), .bsl [(.int .i64 0)] 1 [(0, 1, (.tmp 28))], none⟩,
         ⟨(some 30), .app 2 1 8 [(.int .i64 0)] (.tmp 26) (.tmp 29), none⟩,
         ⟨(some 31), .mv (.tmp 10), none⟩,
         ⟨(some 32), .pad 1 (.tmp 12), none⟩,
         ⟨(some 33), .ld none (.tmp 32), none⟩,
         ⟨(some 34), .bsl [(.int .i64 0)] 1 [(0, 1, (.tmp 33))], none⟩,
         ⟨(some 35), .app 2 1 8 [(.int .i64 0)] (.tmp 31) (.tmp 34), none⟩,
         ⟨(some 9), .mv (.tmp 30), none⟩,
         ⟨(some 10), .mv (.tmp 35), none⟩] [[], [], [1], [2], [0, 3], [], [], [6], [7], [5, 8, 4], [4, 9, 0, 1, 2, 3, 4], [9, 10, 0, 1, 2, 3, 4, 5, 6, 7, 8, 9, 10]])))
     (.reg [⟨(some 36), .bin .add (.tmp 22) (.const (.int .i64 1)), none⟩,
       ⟨(some 22), .mv (.tmp 36), none⟩])))))))
  (.seq (.reg [⟨(some 37), .mv (.tmp 2), none⟩,
     ⟨(some 38), .mv (.tmp 3), none⟩,
     ⟨(some 39), .mv (.tmp 9), none⟩,
     ⟨(some 40), .call 71 [(.tmp 37), (.tmp 38), (.tmp 39)], none⟩,
     ⟨(some 41), .mv (.tmp 2), none⟩,
     ⟨(some 42), .mv (.tmp 3), none⟩,
     ⟨(some 43), .mv (.tmp 10), none⟩,
     ⟨(some 44), .call 71 [(.tmp 41), (.tmp 42), (.tmp 43)], none⟩,
     ⟨(some 45), .bld [(.int .i64 0), (.int .i64 0)] [(0, 1, (.tmp 40)), (1, 1, (.tmp 44))], none⟩,
     ⟨none, .st 2 (.tmp 8) (.tmp 45), none⟩])
  .ret))))
def flatten_Point_v1.f  : Option (Unit) := (flatten_points_v1.f).bind fun _ => ((flatten_mix_v1.f).bind fun _ => ((flatten_mix_v2.f).bind fun _ => (some ())))
theorem flatten_Point_v1.ok {S : Seal}  (e : flatten_Point_v1.f  = some ()) :
    Cal Try.prog 31 [.agg #[.int .i64 0, .int .i64 0], .agg #[.int .i64 1, .int .i64 5, .int .i64 0, .int .i64 0, .int .i64 0, .int .i64 0, .int .i64 0], .int .i64 1, .int .i64 1] [] S fun v H' S' => v = .agg #[.int .i64 5, .int .i64 0] ∧ H' = [] ∧ S' = S := by
  unfold flatten_Point_v1.f at e
  refine cal_of (c := c31) (N := 46) Try.func31 rfl rfl (by kernel_rfl) (rs := [.cn 2 8]) (by kernel_rfl) (Nat.le_of_ble_eq_true rfl) ?_
  unfold c31
  refine w_seq ?_
  refine w_reg fun all => ?_
  refine t_a (.box rfl rfl rfl) fun b12 fb12 sb12 => ?_
  refine t_a (.box rfl rfl rfl) fun b13 fb13 sb13 => ?_
  refine t_a (.new rfl rfl) fun b14 fb14 sb14 => ?_
  refine t_keep [2, 3, 4, 5, 8] (σ' := [(2, .int .i64 1), (3, .int .i64 1), (4, .pointer (some ⟨b12, 0, none⟩)), (5, .pointer (some ⟨b13, 0, none⟩)), (8, .pointer (some ⟨b14, 0, none⟩))]) (by kernel_rfl) ?_
  refine t_end ?_
  show W _ _ _ _ _ _ _
  refine w_seq ?_
  refine w_kp [2, 3, 4, 5, 8] (σ' := [(2, .int .i64 1), (3, .int .i64 1), (4, .pointer (some ⟨b12, 0, none⟩)), (5, .pointer (some ⟨b13, 0, none⟩)), (8, .pointer (some ⟨b14, 0, none⟩))]) (by kernel_rfl) ?_
  refine w_gameQ mixed (by kernel_rfl) fun all G hend hstep hqf => ?_
  have hg_ff : ∀ (g16 : Nat) (g15 : Nat), G [true, true, true, true, true, true, true, true] [(2, .int .i64 1), (3, .int .i64 1), (5, .pointer (some ⟨b13, 0, none⟩)), (8, .pointer (some ⟨b14, 0, none⟩)), (9, .slice (some ⟨g15, 0, none⟩) 1 1), (10, .slice (some ⟨g16, 0, none⟩) 1 1)] ([⟨g16, [.int .i64 0], 1⟩, ⟨g15, [.int .i64 0], 1⟩, ⟨b14, [.int .i64 0, .int .i64 0], 2⟩, ⟨b13, [.int .i64 1, .int .i64 5, .int .i64 0, .int .i64 0, .int .i64 0, .int .i64 0, .int .i64 0], 7⟩, ⟨b12, [.int .i64 0, .int .i64 0], 2⟩] : List Own) := by
    intro g16 g15
    refine hend _ _ _ (by kernel_rfl) ?_
    show W _ _ _ _ _ _ _
    refine w_seq ?_
    refine w_seq ?_
    refine w_reg fun all => ?_
    refine t_v (.ldn rfl rfl rfl (.at 3 rfl rfl)) ?_
    obtain ⟨u_, h18, e⟩ := bind_of e
    refine t_call (vs := [.agg #[.int .i64 1, .int .i64 5, .int .i64 0, .int .i64 0, .int .i64 0, .int .i64 0, .int .i64 0]]) (H1 := ([] : List Own)) (F := ([⟨g16, [.int .i64 0], 1⟩, ⟨g15, [.int .i64 0], 1⟩, ⟨b14, [.int .i64 0, .int .i64 0], 2⟩, ⟨b13, [.int .i64 1, .int .i64 5, .int .i64 0, .int .i64 0, .int .i64 0, .int .i64 0, .int .i64 0], 7⟩, ⟨b12, [.int .i64 0, .int .i64 0], 2⟩] : List Own)) rfl rfl (by kernel_rfl) (sel_perm (is := []) (by kernel_rfl)) (flatten_points_v1.ok h18) ?_
    rintro _ _ S_ ⟨N19, rfl, rfl, hS_⟩
    obtain rfl := hS_.symm
    refine t_qz 2 [2, 3, 8, 9, 10, 20, 21, 22] (σ' := [(2, .int .i64 1), (3, .int .i64 1), (8, .pointer (some ⟨b14, 0, none⟩)), (9, .slice (some ⟨g15, 0, none⟩) 1 1), (10, .slice (some ⟨g16, 0, none⟩) 1 1), (20, .slice (some ⟨N19, 1, none⟩) 1 3), (21, .int .i64 1), (22, .int .i64 0)]) (by kernel_rfl) ?_
    refine t_end ?_
    show W _ _ _ _ _ _ _
    refine w_block ?_
    refine w_lun 10 ?_
    refine wl_step ?_
    refine w_seq ?_
    refine w_reg fun all => ?_
    refine t_qz 1 [2, 3, 8, 9, 10, 20, 21, 22, 23] (σ' := [(2, .int .i64 1), (3, .int .i64 1), (8, .pointer (some ⟨b14, 0, none⟩)), (9, .slice (some ⟨g15, 0, none⟩) 1 1), (10, .slice (some ⟨g16, 0, none⟩) 1 1), (20, .slice (some ⟨N19, 1, none⟩) 1 3), (21, .int .i64 1), (22, .int .i64 0), (23, .bool true)]) (by kernel_rfl) ?_
    refine t_end ?_
    show W _ _ _ _ _ _ _
    refine w_seq ?_
    refine w_cond rfl (fun _ => ?_) (fun c_ => by cases c_)
    show W _ _ _ _ _ _ _
    refine w_skip ?_
    show W _ _ _ _ _ _ _
    refine w_seq ?_
    refine w_block ?_
    refine w_seq ?_
    refine w_reg fun all => ?_
    refine t_qz 1 [2, 3, 8, 9, 10, 20, 21, 22, 24] (σ' := [(2, .int .i64 1), (3, .int .i64 1), (8, .pointer (some ⟨b14, 0, none⟩)), (9, .slice (some ⟨g15, 0, none⟩) 1 1), (10, .slice (some ⟨g16, 0, none⟩) 1 1), (20, .slice (some ⟨N19, 1, none⟩) 1 3), (21, .int .i64 1), (22, .int .i64 0), (24, .pointer (some ⟨N19, 1, none⟩))]) (by kernel_rfl) ?_
    refine t_v (.ldn rfl rfl rfl (.at 0 rfl rfl)) ?_
    refine t_a (.new rfl rfl) fun b20 fb20 sb20 => ?_
    refine t_sti 0 (cs := [.int .i64 5, .int .i64 0]) rfl rfl rfl rfl rfl rfl rfl rfl rfl ?_
    refine t_keep [2, 3, 8, 9, 10, 12, 20, 21, 22] (σ' := [(2, .int .i64 1), (3, .int .i64 1), (8, .pointer (some ⟨b14, 0, none⟩)), (9, .slice (some ⟨g15, 0, none⟩) 1 1), (10, .slice (some ⟨g16, 0, none⟩) 1 1), (12, .pointer (some ⟨b20, 0, none⟩)), (20, .slice (some ⟨N19, 1, none⟩) 1 3), (21, .int .i64 1), (22, .int .i64 0)]) (by kernel_rfl) ?_
    refine t_end ?_
    show W _ _ _ _ _ _ _
    refine w_kp [2, 3, 8, 9, 10, 12, 20, 21, 22] (σ' := [(2, .int .i64 1), (3, .int .i64 1), (8, .pointer (some ⟨b14, 0, none⟩)), (9, .slice (some ⟨g15, 0, none⟩) 1 1), (10, .slice (some ⟨g16, 0, none⟩) 1 1), (12, .pointer (some ⟨b20, 0, none⟩)), (20, .slice (some ⟨N19, 1, none⟩) 1 3), (21, .int .i64 1), (22, .int .i64 0)]) (by kernel_rfl) ?_
    refine w_gameQ mixed (by kernel_rfl) fun all G hend hstep hqf => ?_
    have hg_fff : ∀ (g24 : Nat) (ng24 : Nat) (g23 : Nat) (g22 : Nat) (ng22 : Nat) (g21 : Nat), G [true, true, true, true, true, true, true, true, true, true, true, true] [(2, .int .i64 1), (3, .int .i64 1), (8, .pointer (some ⟨b14, 0, none⟩)), (9, .slice (some ⟨g22, 0, none⟩) 2 (ng22 / 1)), (10, .slice (some ⟨g24, 0, none⟩) 2 (ng24 / 1)), (20, .slice (some ⟨N19, 1, none⟩) 1 3), (21, .int .i64 1), (22, .int .i64 0)] ([⟨g24, [.int .i64 0, .int .i64 0], ng24⟩, ⟨g23, [.int .i64 0], 1⟩, ⟨g22, [.int .i64 0, .int .i64 5], ng22⟩, ⟨g21, [.int .i64 5], 1⟩, ⟨b20, [.int .i64 5, .int .i64 0], 2⟩, ⟨N19, [.int .i64 1, .int .i64 5, .int .i64 0, .int .i64 0, .int .i64 0, .int .i64 0, .int .i64 0], 7⟩, ⟨b14, [.int .i64 0, .int .i64 0], 2⟩, ⟨b13, [.int .i64 1, .int .i64 5, .int .i64 0, .int .i64 0, .int .i64 0, .int .i64 0, .int .i64 0], 7⟩, ⟨b12, [.int .i64 0, .int .i64 0], 2⟩] : List Own) := by
      intro g24 ng24 g23 g22 ng22 g21
      refine hend _ _ _ (by kernel_rfl) ?_
      show W _ _ _ _ _ _ _
      refine w_reg fun all => ?_
      refine t_qz 2 [2, 3, 8, 9, 10, 20, 21, 22] (σ' := [(2, .int .i64 1), (3, .int .i64 1), (8, .pointer (some ⟨b14, 0, none⟩)), (9, .slice (some ⟨g22, 0, none⟩) 2 (ng22 / 1)), (10, .slice (some ⟨g24, 0, none⟩) 2 (ng24 / 1)), (20, .slice (some ⟨N19, 1, none⟩) 1 3), (21, .int .i64 1), (22, .int .i64 1)]) (by kernel_rfl) ?_
      refine t_end ?_
      show WL _ _ _ _ _ _ _ _
      refine wl_step ?_
      refine w_seq ?_
      refine w_reg fun all => ?_
      refine t_qz 1 [2, 3, 8, 9, 10, 20, 21, 22, 23] (σ' := [(2, .int .i64 1), (3, .int .i64 1), (8, .pointer (some ⟨b14, 0, none⟩)), (9, .slice (some ⟨g22, 0, none⟩) 2 (ng22 / 1)), (10, .slice (some ⟨g24, 0, none⟩) 2 (ng24 / 1)), (20, .slice (some ⟨N19, 1, none⟩) 1 3), (21, .int .i64 1), (22, .int .i64 1), (23, .bool false)]) (by kernel_rfl) ?_
      refine t_end ?_
      show W _ _ _ _ _ _ _
      refine w_seq ?_
      refine w_cond rfl (fun c_ => by cases c_) (fun _ => ?_)
      show W _ _ _ _ _ _ _
      refine w_exit ?_
      show W _ _ _ _ _ _ _
      refine w_seq ?_
      refine w_reg fun all => ?_
      obtain ⟨u_, h26, e⟩ := bind_of e
      refine t_qz 3 [2, 3, 8, 10, 37, 38, 39] (σ' := [(2, .int .i64 1), (3, .int .i64 1), (8, .pointer (some ⟨b14, 0, none⟩)), (10, .slice (some ⟨g24, 0, none⟩) 2 (ng24 / 1)), (37, .int .i64 1), (38, .int .i64 1), (39, .slice (some ⟨g22, 0, none⟩) 2 (ng22 / 1))]) (by kernel_rfl) ?_
      refine t_v (.callr (vs := [.int .i64 1, .int .i64 1, .slice (some ⟨g22, 0, none⟩) 2 (ng22 / 1)]) (A := ([⟨g22, [.int .i64 0, .int .i64 5], ng22⟩] : List Own)) (F0 := ([⟨g24, [.int .i64 0, .int .i64 0], ng24⟩, ⟨g23, [.int .i64 0], 1⟩, ⟨g21, [.int .i64 5], 1⟩, ⟨b20, [.int .i64 5, .int .i64 0], 2⟩, ⟨N19, [.int .i64 1, .int .i64 5, .int .i64 0, .int .i64 0, .int .i64 0, .int .i64 0, .int .i64 0], 7⟩, ⟨b14, [.int .i64 0, .int .i64 0], 2⟩, ⟨b13, [.int .i64 1, .int .i64 5, .int .i64 0, .int .i64 0, .int .i64 0, .int .i64 0, .int .i64 0], 7⟩, ⟨b12, [.int .i64 0, .int .i64 0], 2⟩] : List Own)) rfl rfl (by kernel_rfl) (sel_perm (is := [2]) (by kernel_rfl)) (flatten_mix_v1.ok h26)) ?_
      obtain ⟨u_, h28, e⟩ := bind_of e
      refine t_qz 3 [8, 40, 41, 42, 43] (σ' := [(8, .pointer (some ⟨b14, 0, none⟩)), (40, .int .i64 5), (41, .int .i64 1), (42, .int .i64 1), (43, .slice (some ⟨g24, 0, none⟩) 2 (ng24 / 1))]) (by kernel_rfl) ?_
      refine t_v (.callr (vs := [.int .i64 1, .int .i64 1, .slice (some ⟨g24, 0, none⟩) 2 (ng24 / 1)]) (A := ([⟨g24, [.int .i64 0, .int .i64 0], ng24⟩] : List Own)) (F0 := ([⟨g23, [.int .i64 0], 1⟩, ⟨g22, [.int .i64 0, .int .i64 5], ng22⟩, ⟨g21, [.int .i64 5], 1⟩, ⟨b20, [.int .i64 5, .int .i64 0], 2⟩, ⟨N19, [.int .i64 1, .int .i64 5, .int .i64 0, .int .i64 0, .int .i64 0, .int .i64 0, .int .i64 0], 7⟩, ⟨b14, [.int .i64 0, .int .i64 0], 2⟩, ⟨b13, [.int .i64 1, .int .i64 5, .int .i64 0, .int .i64 0, .int .i64 0, .int .i64 0, .int .i64 0], 7⟩, ⟨b12, [.int .i64 0, .int .i64 0], 2⟩] : List Own)) rfl rfl (by kernel_rfl) (sel_perm (is := [0]) (by kernel_rfl)) (flatten_mix_v2.ok h28)) ?_
      refine t_qz 1 [8, 45] (σ' := [(8, .pointer (some ⟨b14, 0, none⟩)), (45, .agg #[.int .i64 5, .int .i64 0])]) (by kernel_rfl) ?_
      refine t_sti 6 (cs := [.int .i64 5, .int .i64 0]) rfl rfl rfl rfl rfl rfl rfl rfl rfl ?_
      refine t_keep [8] (σ' := [(8, .pointer (some ⟨b14, 0, none⟩))]) (by kernel_rfl) ?_
      refine t_end ?_
      show W _ _ _ _ _ _ _
      refine w_ret ?_
      exact ⟨[.agg #[.int .i64 5, .int .i64 0]], [], S, ⟨⟨_, _, _, rfl, .at 6 rfl rfl, rfl⟩, trivial⟩, VS.none, rfl, rfl, rfl⟩
    have hg_7ff : ∀ (g24 : Nat) (ng24 : Nat) (g23 : Nat) (g22 : Nat) (ng22 : Nat) (g21 : Nat), G [true, true, true, true, true, true, true, true, true, true, true, false] [(2, .int .i64 1), (3, .int .i64 1), (8, .pointer (some ⟨b14, 0, none⟩)), (9, .slice (some ⟨g22, 0, none⟩) 2 (ng22 / 1)), (10, .slice (some ⟨g16, 0, none⟩) 1 1), (20, .slice (some ⟨N19, 1, none⟩) 1 3), (21, .int .i64 1), (22, .int .i64 0), (35, .slice (some ⟨g24, 0, none⟩) 2 (ng24 / 1))] ([⟨g24, [.int .i64 0, .int .i64 0], ng24⟩, ⟨g23, [.int .i64 0], 1⟩, ⟨g22, [.int .i64 0, .int .i64 5], ng22⟩, ⟨g21, [.int .i64 5], 1⟩, ⟨b20, [.int .i64 5, .int .i64 0], 2⟩, ⟨N19, [.int .i64 1, .int .i64 5, .int .i64 0, .int .i64 0, .int .i64 0, .int .i64 0, .int .i64 0], 7⟩, ⟨b14, [.int .i64 0, .int .i64 0], 2⟩, ⟨b13, [.int .i64 1, .int .i64 5, .int .i64 0, .int .i64 0, .int .i64 0, .int .i64 0, .int .i64 0], 7⟩, ⟨b12, [.int .i64 0, .int .i64 0], 2⟩] : List Own) := by
      intro g24 ng24 g23 g22 ng22 g21
      exact hqf 11 [2, 3, 8, 9, 10, 20, 21, 22] _ _ _ [(2, .int .i64 1), (3, .int .i64 1), (8, .pointer (some ⟨b14, 0, none⟩)), (9, .slice (some ⟨g22, 0, none⟩) 2 (ng22 / 1)), (10, .slice (some ⟨g24, 0, none⟩) 2 (ng24 / 1)), (20, .slice (some ⟨N19, 1, none⟩) 1 3), (21, .int .i64 1), (22, .int .i64 0)] (by kernel_rfl) (by kernel_rfl) (hg_fff g24 ng24 g23 g22 ng22 g21)
    have hg_3ff : ∀ (g24 : Nat) (ng24 : Nat) (g23 : Nat) (g22 : Nat) (ng22 : Nat) (g21 : Nat), G [true, true, true, true, true, true, true, true, true, true, false, false] [(2, .int .i64 1), (3, .int .i64 1), (8, .pointer (some ⟨b14, 0, none⟩)), (9, .slice (some ⟨g15, 0, none⟩) 1 1), (10, .slice (some ⟨g16, 0, none⟩) 1 1), (20, .slice (some ⟨N19, 1, none⟩) 1 3), (21, .int .i64 1), (22, .int .i64 0), (30, .slice (some ⟨g22, 0, none⟩) 2 (ng22 / 1)), (35, .slice (some ⟨g24, 0, none⟩) 2 (ng24 / 1))] ([⟨g24, [.int .i64 0, .int .i64 0], ng24⟩, ⟨g23, [.int .i64 0], 1⟩, ⟨g22, [.int .i64 0, .int .i64 5], ng22⟩, ⟨g21, [.int .i64 5], 1⟩, ⟨b20, [.int .i64 5, .int .i64 0], 2⟩, ⟨N19, [.int .i64 1, .int .i64 5, .int .i64 0, .int .i64 0, .int .i64 0, .int .i64 0, .int .i64 0], 7⟩, ⟨b14, [.int .i64 0, .int .i64 0], 2⟩, ⟨b13, [.int .i64 1, .int .i64 5, .int .i64 0, .int .i64 0, .int .i64 0, .int .i64 0, .int .i64 0], 7⟩, ⟨b12, [.int .i64 0, .int .i64 0], 2⟩] : List Own) := by
      intro g24 ng24 g23 g22 ng22 g21
      exact hqf 10 [2, 3, 8, 9, 10, 20, 21, 22, 35] _ _ _ [(2, .int .i64 1), (3, .int .i64 1), (8, .pointer (some ⟨b14, 0, none⟩)), (9, .slice (some ⟨g22, 0, none⟩) 2 (ng22 / 1)), (10, .slice (some ⟨g16, 0, none⟩) 1 1), (20, .slice (some ⟨N19, 1, none⟩) 1 3), (21, .int .i64 1), (22, .int .i64 0), (35, .slice (some ⟨g24, 0, none⟩) 2 (ng24 / 1))] (by kernel_rfl) (by kernel_rfl) (hg_7ff g24 ng24 g23 g22 ng22 g21)
    have hg_1ff : ∀ (g23 : Nat) (g22 : Nat) (ng22 : Nat) (g21 : Nat), G [true, true, true, true, true, true, true, true, true, false, false, false] [(2, .int .i64 1), (3, .int .i64 1), (8, .pointer (some ⟨b14, 0, none⟩)), (9, .slice (some ⟨g15, 0, none⟩) 1 1), (10, .slice (some ⟨g16, 0, none⟩) 1 1), (20, .slice (some ⟨N19, 1, none⟩) 1 3), (21, .int .i64 1), (22, .int .i64 0), (30, .slice (some ⟨g22, 0, none⟩) 2 (ng22 / 1)), (31, .slice (some ⟨g16, 0, none⟩) 1 1), (34, .slice (some ⟨g23, 0, none⟩) 1 1)] ([⟨g23, [.int .i64 0], 1⟩, ⟨g22, [.int .i64 0, .int .i64 5], ng22⟩, ⟨g21, [.int .i64 5], 1⟩, ⟨b20, [.int .i64 5, .int .i64 0], 2⟩, ⟨N19, [.int .i64 1, .int .i64 5, .int .i64 0, .int .i64 0, .int .i64 0, .int .i64 0, .int .i64 0], 7⟩, ⟨g16, [.int .i64 0], 1⟩, ⟨b14, [.int .i64 0, .int .i64 0], 2⟩, ⟨b13, [.int .i64 1, .int .i64 5, .int .i64 0, .int .i64 0, .int .i64 0, .int .i64 0, .int .i64 0], 7⟩, ⟨b12, [.int .i64 0, .int .i64 0], 2⟩] : List Own) := by
      intro g23 g22 ng22 g21
      refine hstep [9] _ _ _ (by kernel_rfl) (List.cons_ne_nil _ _) ⟨?_, trivial⟩
      · show T _ _ _ _ _ _ _ _
        refine t_app1 (cs := [.int .i64 0]) (M := 1) (F := ([⟨g23, [.int .i64 0], 1⟩, ⟨g22, [.int .i64 0, .int .i64 5], ng22⟩, ⟨g21, [.int .i64 5], 1⟩, ⟨b20, [.int .i64 5, .int .i64 0], 2⟩, ⟨N19, [.int .i64 1, .int .i64 5, .int .i64 0, .int .i64 0, .int .i64 0, .int .i64 0, .int .i64 0], 7⟩, ⟨b14, [.int .i64 0, .int .i64 0], 2⟩, ⟨b13, [.int .i64 1, .int .i64 5, .int .i64 0, .int .i64 0, .int .i64 0, .int .i64 0, .int .i64 0], 7⟩, ⟨b12, [.int .i64 0, .int .i64 0], 2⟩] : List Own)) (news := [.int .i64 0]) rfl rfl rfl rfl (sel_perm (is := [5]) (by kernel_rfl)) (.at 0 rfl rfl) (by kernel_rfl) rfl rfl (by decide) (by decide) rfl fun g24 ng24 => ?_
        refine t_keep [2, 3, 8, 9, 10, 20, 21, 22, 30, 35] (σ' := [(2, .int .i64 1), (3, .int .i64 1), (8, .pointer (some ⟨b14, 0, none⟩)), (9, .slice (some ⟨g15, 0, none⟩) 1 1), (10, .slice (some ⟨g16, 0, none⟩) 1 1), (20, .slice (some ⟨N19, 1, none⟩) 1 3), (21, .int .i64 1), (22, .int .i64 0), (30, .slice (some ⟨g22, 0, none⟩) 2 (ng22 / 1)), (35, .slice (some ⟨g24, 0, none⟩) 2 (ng24 / 1))]) (by kernel_rfl) ?_
        refine t_end ?_
        exact ⟨hg_3ff g24 ng24 g23 g22 ng22 g21, rfl⟩
    have hg_ff : ∀ (g22 : Nat) (ng22 : Nat) (g21 : Nat), G [true, true, true, true, true, true, true, true, false, false, false, false] [(2, .int .i64 1), (3, .int .i64 1), (8, .pointer (some ⟨b14, 0, none⟩)), (9, .slice (some ⟨g15, 0, none⟩) 1 1), (10, .slice (some ⟨g16, 0, none⟩) 1 1), (20, .slice (some ⟨N19, 1, none⟩) 1 3), (21, .int .i64 1), (22, .int .i64 0), (30, .slice (some ⟨g22, 0, none⟩) 2 (ng22 / 1)), (31, .slice (some ⟨g16, 0, none⟩) 1 1), (33, .int .i64 0)] ([⟨g22, [.int .i64 0, .int .i64 5], ng22⟩, ⟨g21, [.int .i64 5], 1⟩, ⟨b20, [.int .i64 5, .int .i64 0], 2⟩, ⟨N19, [.int .i64 1, .int .i64 5, .int .i64 0, .int .i64 0, .int .i64 0, .int .i64 0, .int .i64 0], 7⟩, ⟨g16, [.int .i64 0], 1⟩, ⟨b14, [.int .i64 0, .int .i64 0], 2⟩, ⟨b13, [.int .i64 1, .int .i64 5, .int .i64 0, .int .i64 0, .int .i64 0, .int .i64 0, .int .i64 0], 7⟩, ⟨b12, [.int .i64 0, .int .i64 0], 2⟩] : List Own) := by
      intro g22 ng22 g21
      refine hstep [8] _ _ _ (by kernel_rfl) (List.cons_ne_nil _ _) ⟨?_, trivial⟩
      · show T _ _ _ _ _ _ _ _
        refine t_a (.bsl rfl rfl rfl rfl) fun g23 fg23 sg23 => ?_
        refine t_keep [2, 3, 8, 9, 10, 20, 21, 22, 30, 31, 34] (σ' := [(2, .int .i64 1), (3, .int .i64 1), (8, .pointer (some ⟨b14, 0, none⟩)), (9, .slice (some ⟨g15, 0, none⟩) 1 1), (10, .slice (some ⟨g16, 0, none⟩) 1 1), (20, .slice (some ⟨N19, 1, none⟩) 1 3), (21, .int .i64 1), (22, .int .i64 0), (30, .slice (some ⟨g22, 0, none⟩) 2 (ng22 / 1)), (31, .slice (some ⟨g16, 0, none⟩) 1 1), (34, .slice (some ⟨g23, 0, none⟩) 1 1)]) (by kernel_rfl) ?_
        refine t_end ?_
        exact ⟨hg_1ff g23 g22 ng22 g21, rfl⟩
    have hg_1ef : ∀ (g23 : Nat) (g21 : Nat), G [true, true, true, true, false, true, true, true, true, false, false, false] [(2, .int .i64 1), (3, .int .i64 1), (8, .pointer (some ⟨b14, 0, none⟩)), (9, .slice (some ⟨g15, 0, none⟩) 1 1), (10, .slice (some ⟨g16, 0, none⟩) 1 1), (20, .slice (some ⟨N19, 1, none⟩) 1 3), (21, .int .i64 1), (22, .int .i64 0), (26, .slice (some ⟨g15, 0, none⟩) 1 1), (29, .slice (some ⟨g21, 0, none⟩) 1 1), (31, .slice (some ⟨g16, 0, none⟩) 1 1), (34, .slice (some ⟨g23, 0, none⟩) 1 1)] ([⟨g23, [.int .i64 0], 1⟩, ⟨g21, [.int .i64 5], 1⟩, ⟨b20, [.int .i64 5, .int .i64 0], 2⟩, ⟨N19, [.int .i64 1, .int .i64 5, .int .i64 0, .int .i64 0, .int .i64 0, .int .i64 0, .int .i64 0], 7⟩, ⟨g16, [.int .i64 0], 1⟩, ⟨g15, [.int .i64 0], 1⟩, ⟨b14, [.int .i64 0, .int .i64 0], 2⟩, ⟨b13, [.int .i64 1, .int .i64 5, .int .i64 0, .int .i64 0, .int .i64 0, .int .i64 0, .int .i64 0], 7⟩, ⟨b12, [.int .i64 0, .int .i64 0], 2⟩] : List Own) := by
      intro g23 g21
      refine hstep [4] _ _ _ (by kernel_rfl) (List.cons_ne_nil _ _) ⟨?_, trivial⟩
      · show T _ _ _ _ _ _ _ _
        refine t_app1 (cs := [.int .i64 0]) (M := 1) (F := ([⟨g23, [.int .i64 0], 1⟩, ⟨g21, [.int .i64 5], 1⟩, ⟨b20, [.int .i64 5, .int .i64 0], 2⟩, ⟨N19, [.int .i64 1, .int .i64 5, .int .i64 0, .int .i64 0, .int .i64 0, .int .i64 0, .int .i64 0], 7⟩, ⟨g16, [.int .i64 0], 1⟩, ⟨b14, [.int .i64 0, .int .i64 0], 2⟩, ⟨b13, [.int .i64 1, .int .i64 5, .int .i64 0, .int .i64 0, .int .i64 0, .int .i64 0, .int .i64 0], 7⟩, ⟨b12, [.int .i64 0, .int .i64 0], 2⟩] : List Own)) (news := [.int .i64 5]) rfl rfl rfl rfl (sel_perm (is := [5]) (by kernel_rfl)) (.at 1 rfl rfl) (by kernel_rfl) rfl rfl (by decide) (by decide) rfl fun g22 ng22 => ?_
        refine t_keep [2, 3, 8, 9, 10, 20, 21, 22, 30, 31, 34] (σ' := [(2, .int .i64 1), (3, .int .i64 1), (8, .pointer (some ⟨b14, 0, none⟩)), (9, .slice (some ⟨g15, 0, none⟩) 1 1), (10, .slice (some ⟨g16, 0, none⟩) 1 1), (20, .slice (some ⟨N19, 1, none⟩) 1 3), (21, .int .i64 1), (22, .int .i64 0), (30, .slice (some ⟨g22, 0, none⟩) 2 (ng22 / 1)), (31, .slice (some ⟨g16, 0, none⟩) 1 1), (34, .slice (some ⟨g23, 0, none⟩) 1 1)]) (by kernel_rfl) ?_
        refine t_vs (H' := ([⟨g23, [.int .i64 0], 1⟩, ⟨g22, [.int .i64 0, .int .i64 5], ng22⟩, ⟨g21, [.int .i64 5], 1⟩, ⟨b20, [.int .i64 5, .int .i64 0], 2⟩, ⟨N19, [.int .i64 1, .int .i64 5, .int .i64 0, .int .i64 0, .int .i64 0, .int .i64 0, .int .i64 0], 7⟩, ⟨g16, [.int .i64 0], 1⟩, ⟨b14, [.int .i64 0, .int .i64 0], 2⟩, ⟨b13, [.int .i64 1, .int .i64 5, .int .i64 0, .int .i64 0, .int .i64 0, .int .i64 0, .int .i64 0], 7⟩, ⟨b12, [.int .i64 0, .int .i64 0], 2⟩] : List Own)) (S' := S) (VS.sel [1, 0, 0, 0, 0, 0, 0, 0, 0] (by kernel_rfl)) ?_
        refine t_end ?_
        exact ⟨hg_1ff g23 g22 ng22 g21, rfl⟩
    have hg_1e7 : ∀ (g23 : Nat), G [true, true, true, false, false, true, true, true, true, false, false, false] [(2, .int .i64 1), (3, .int .i64 1), (8, .pointer (some ⟨b14, 0, none⟩)), (9, .slice (some ⟨g15, 0, none⟩) 1 1), (10, .slice (some ⟨g16, 0, none⟩) 1 1), (20, .slice (some ⟨N19, 1, none⟩) 1 3), (21, .int .i64 1), (22, .int .i64 0), (26, .slice (some ⟨g15, 0, none⟩) 1 1), (28, .int .i64 5), (31, .slice (some ⟨g16, 0, none⟩) 1 1), (34, .slice (some ⟨g23, 0, none⟩) 1 1)] ([⟨g23, [.int .i64 0], 1⟩, ⟨b20, [.int .i64 5, .int .i64 0], 2⟩, ⟨N19, [.int .i64 1, .int .i64 5, .int .i64 0, .int .i64 0, .int .i64 0, .int .i64 0, .int .i64 0], 7⟩, ⟨g16, [.int .i64 0], 1⟩, ⟨g15, [.int .i64 0], 1⟩, ⟨b14, [.int .i64 0, .int .i64 0], 2⟩, ⟨b13, [.int .i64 1, .int .i64 5, .int .i64 0, .int .i64 0, .int .i64 0, .int .i64 0, .int .i64 0], 7⟩, ⟨b12, [.int .i64 0, .int .i64 0], 2⟩] : List Own) := by
      intro g23
      refine hstep [3] _ _ _ (by kernel_rfl) (List.cons_ne_nil _ _) ⟨?_, trivial⟩
      · show T _ _ _ _ _ _ _ _
        refine t_a (.bsl rfl rfl rfl rfl) fun g21 fg21 sg21 => ?_
        refine t_keep [2, 3, 8, 9, 10, 20, 21, 22, 26, 29, 31, 34] (σ' := [(2, .int .i64 1), (3, .int .i64 1), (8, .pointer (some ⟨b14, 0, none⟩)), (9, .slice (some ⟨g15, 0, none⟩) 1 1), (10, .slice (some ⟨g16, 0, none⟩) 1 1), (20, .slice (some ⟨N19, 1, none⟩) 1 3), (21, .int .i64 1), (22, .int .i64 0), (26, .slice (some ⟨g15, 0, none⟩) 1 1), (29, .slice (some ⟨g21, 0, none⟩) 1 1), (31, .slice (some ⟨g16, 0, none⟩) 1 1), (34, .slice (some ⟨g23, 0, none⟩) 1 1)]) (by kernel_rfl) ?_
        refine t_vs (H' := ([⟨g23, [.int .i64 0], 1⟩, ⟨g21, [.int .i64 5], 1⟩, ⟨b20, [.int .i64 5, .int .i64 0], 2⟩, ⟨N19, [.int .i64 1, .int .i64 5, .int .i64 0, .int .i64 0, .int .i64 0, .int .i64 0, .int .i64 0], 7⟩, ⟨g16, [.int .i64 0], 1⟩, ⟨g15, [.int .i64 0], 1⟩, ⟨b14, [.int .i64 0, .int .i64 0], 2⟩, ⟨b13, [.int .i64 1, .int .i64 5, .int .i64 0, .int .i64 0, .int .i64 0, .int .i64 0, .int .i64 0], 7⟩, ⟨b12, [.int .i64 0, .int .i64 0], 2⟩] : List Own)) (S' := S) (VS.sel [1, 0, 0, 0, 0, 0, 0, 0, 0] (by kernel_rfl)) ?_
        refine t_end ?_
        exact ⟨hg_1ef g23 g21, rfl⟩
    have hg_ef : ∀ (g21 : Nat), G [true, true, true, true, false, true, true, true, false, false, false, false] [(2, .int .i64 1), (3, .int .i64 1), (8, .pointer (some ⟨b14, 0, none⟩)), (9, .slice (some ⟨g15, 0, none⟩) 1 1), (10, .slice (some ⟨g16, 0, none⟩) 1 1), (20, .slice (some ⟨N19, 1, none⟩) 1 3), (21, .int .i64 1), (22, .int .i64 0), (26, .slice (some ⟨g15, 0, none⟩) 1 1), (29, .slice (some ⟨g21, 0, none⟩) 1 1), (31, .slice (some ⟨g16, 0, none⟩) 1 1), (33, .int .i64 0)] ([⟨g21, [.int .i64 5], 1⟩, ⟨b20, [.int .i64 5, .int .i64 0], 2⟩, ⟨N19, [.int .i64 1, .int .i64 5, .int .i64 0, .int .i64 0, .int .i64 0, .int .i64 0, .int .i64 0], 7⟩, ⟨g16, [.int .i64 0], 1⟩, ⟨g15, [.int .i64 0], 1⟩, ⟨b14, [.int .i64 0, .int .i64 0], 2⟩, ⟨b13, [.int .i64 1, .int .i64 5, .int .i64 0, .int .i64 0, .int .i64 0, .int .i64 0, .int .i64 0], 7⟩, ⟨b12, [.int .i64 0, .int .i64 0], 2⟩] : List Own) := by
      intro g21
      refine hstep [4, 8] _ _ _ (by kernel_rfl) (List.cons_ne_nil _ _) ⟨?_, ?_, trivial⟩
      · show T _ _ _ _ _ _ _ _
        refine t_app1 (cs := [.int .i64 0]) (M := 1) (F := ([⟨g21, [.int .i64 5], 1⟩, ⟨b20, [.int .i64 5, .int .i64 0], 2⟩, ⟨N19, [.int .i64 1, .int .i64 5, .int .i64 0, .int .i64 0, .int .i64 0, .int .i64 0, .int .i64 0], 7⟩, ⟨g16, [.int .i64 0], 1⟩, ⟨b14, [.int .i64 0, .int .i64 0], 2⟩, ⟨b13, [.int .i64 1, .int .i64 5, .int .i64 0, .int .i64 0, .int .i64 0, .int .i64 0, .int .i64 0], 7⟩, ⟨b12, [.int .i64 0, .int .i64 0], 2⟩] : List Own)) (news := [.int .i64 5]) rfl rfl rfl rfl (sel_perm (is := [4]) (by kernel_rfl)) (.at 0 rfl rfl) (by kernel_rfl) rfl rfl (by decide) (by decide) rfl fun g22 ng22 => ?_
        refine t_keep [2, 3, 8, 9, 10, 20, 21, 22, 30, 31, 33] (σ' := [(2, .int .i64 1), (3, .int .i64 1), (8, .pointer (some ⟨b14, 0, none⟩)), (9, .slice (some ⟨g15, 0, none⟩) 1 1), (10, .slice (some ⟨g16, 0, none⟩) 1 1), (20, .slice (some ⟨N19, 1, none⟩) 1 3), (21, .int .i64 1), (22, .int .i64 0), (30, .slice (some ⟨g22, 0, none⟩) 2 (ng22 / 1)), (31, .slice (some ⟨g16, 0, none⟩) 1 1), (33, .int .i64 0)]) (by kernel_rfl) ?_
        refine t_end ?_
        exact ⟨hg_ff g22 ng22 g21, rfl⟩
      · show T _ _ _ _ _ _ _ _
        refine t_a (.bsl rfl rfl rfl rfl) fun g23 fg23 sg23 => ?_
        refine t_keep [2, 3, 8, 9, 10, 20, 21, 22, 26, 29, 31, 34] (σ' := [(2, .int .i64 1), (3, .int .i64 1), (8, .pointer (some ⟨b14, 0, none⟩)), (9, .slice (some ⟨g15, 0, none⟩) 1 1), (10, .slice (some ⟨g16, 0, none⟩) 1 1), (20, .slice (some ⟨N19, 1, none⟩) 1 3), (21, .int .i64 1), (22, .int .i64 0), (26, .slice (some ⟨g15, 0, none⟩) 1 1), (29, .slice (some ⟨g21, 0, none⟩) 1 1), (31, .slice (some ⟨g16, 0, none⟩) 1 1), (34, .slice (some ⟨g23, 0, none⟩) 1 1)]) (by kernel_rfl) ?_
        refine t_end ?_
        exact ⟨hg_1ef g23 g21, rfl⟩
    have hg_7f : ∀ (g22 : Nat) (ng22 : Nat) (g21 : Nat), G [true, true, true, true, true, true, true, false, false, false, false, false] [(2, .int .i64 1), (3, .int .i64 1), (8, .pointer (some ⟨b14, 0, none⟩)), (9, .slice (some ⟨g15, 0, none⟩) 1 1), (10, .slice (some ⟨g16, 0, none⟩) 1 1), (20, .slice (some ⟨N19, 1, none⟩) 1 3), (21, .int .i64 1), (22, .int .i64 0), (30, .slice (some ⟨g22, 0, none⟩) 2 (ng22 / 1)), (31, .slice (some ⟨g16, 0, none⟩) 1 1), (32, .pointer (some ⟨b20, 1, none⟩))] ([⟨g22, [.int .i64 0, .int .i64 5], ng22⟩, ⟨g21, [.int .i64 5], 1⟩, ⟨b20, [.int .i64 5, .int .i64 0], 2⟩, ⟨N19, [.int .i64 1, .int .i64 5, .int .i64 0, .int .i64 0, .int .i64 0, .int .i64 0, .int .i64 0], 7⟩, ⟨g16, [.int .i64 0], 1⟩, ⟨b14, [.int .i64 0, .int .i64 0], 2⟩, ⟨b13, [.int .i64 1, .int .i64 5, .int .i64 0, .int .i64 0, .int .i64 0, .int .i64 0, .int .i64 0], 7⟩, ⟨b12, [.int .i64 0, .int .i64 0], 2⟩] : List Own) := by
      intro g22 ng22 g21
      refine hstep [7] _ _ _ (by kernel_rfl) (List.cons_ne_nil _ _) ⟨?_, trivial⟩
      · show T _ _ _ _ _ _ _ _
        refine t_v (.ld1 rfl rfl rfl (.at 2 rfl rfl)) ?_
        refine t_keep [2, 3, 8, 9, 10, 20, 21, 22, 30, 31, 33] (σ' := [(2, .int .i64 1), (3, .int .i64 1), (8, .pointer (some ⟨b14, 0, none⟩)), (9, .slice (some ⟨g15, 0, none⟩) 1 1), (10, .slice (some ⟨g16, 0, none⟩) 1 1), (20, .slice (some ⟨N19, 1, none⟩) 1 3), (21, .int .i64 1), (22, .int .i64 0), (30, .slice (some ⟨g22, 0, none⟩) 2 (ng22 / 1)), (31, .slice (some ⟨g16, 0, none⟩) 1 1), (33, .int .i64 0)]) (by kernel_rfl) ?_
        refine t_end ?_
        exact ⟨hg_ff g22 ng22 g21, rfl⟩
    have hg_1e3 : ∀ (g23 : Nat), G [true, true, false, false, false, true, true, true, true, false, false, false] [(2, .int .i64 1), (3, .int .i64 1), (8, .pointer (some ⟨b14, 0, none⟩)), (9, .slice (some ⟨g15, 0, none⟩) 1 1), (10, .slice (some ⟨g16, 0, none⟩) 1 1), (20, .slice (some ⟨N19, 1, none⟩) 1 3), (21, .int .i64 1), (22, .int .i64 0), (26, .slice (some ⟨g15, 0, none⟩) 1 1), (27, .pointer (some ⟨b20, 0, none⟩)), (31, .slice (some ⟨g16, 0, none⟩) 1 1), (34, .slice (some ⟨g23, 0, none⟩) 1 1)] ([⟨g23, [.int .i64 0], 1⟩, ⟨b20, [.int .i64 5, .int .i64 0], 2⟩, ⟨N19, [.int .i64 1, .int .i64 5, .int .i64 0, .int .i64 0, .int .i64 0, .int .i64 0, .int .i64 0], 7⟩, ⟨g16, [.int .i64 0], 1⟩, ⟨g15, [.int .i64 0], 1⟩, ⟨b14, [.int .i64 0, .int .i64 0], 2⟩, ⟨b13, [.int .i64 1, .int .i64 5, .int .i64 0, .int .i64 0, .int .i64 0, .int .i64 0, .int .i64 0], 7⟩, ⟨b12, [.int .i64 0, .int .i64 0], 2⟩] : List Own) := by
      intro g23
      refine hstep [2] _ _ _ (by kernel_rfl) (List.cons_ne_nil _ _) ⟨?_, trivial⟩
      · show T _ _ _ _ _ _ _ _
        refine t_v (.ld1 rfl rfl rfl (.at 1 rfl rfl)) ?_
        refine t_keep [2, 3, 8, 9, 10, 20, 21, 22, 26, 28, 31, 34] (σ' := [(2, .int .i64 1), (3, .int .i64 1), (8, .pointer (some ⟨b14, 0, none⟩)), (9, .slice (some ⟨g15, 0, none⟩) 1 1), (10, .slice (some ⟨g16, 0, none⟩) 1 1), (20, .slice (some ⟨N19, 1, none⟩) 1 3), (21, .int .i64 1), (22, .int .i64 0), (26, .slice (some ⟨g15, 0, none⟩) 1 1), (28, .int .i64 5), (31, .slice (some ⟨g16, 0, none⟩) 1 1), (34, .slice (some ⟨g23, 0, none⟩) 1 1)]) (by kernel_rfl) ?_
        refine t_end ?_
        exact ⟨hg_1e7 g23, rfl⟩
    have hg_e7 : G [true, true, true, false, false, true, true, true, false, false, false, false] [(2, .int .i64 1), (3, .int .i64 1), (8, .pointer (some ⟨b14, 0, none⟩)), (9, .slice (some ⟨g15, 0, none⟩) 1 1), (10, .slice (some ⟨g16, 0, none⟩) 1 1), (20, .slice (some ⟨N19, 1, none⟩) 1 3), (21, .int .i64 1), (22, .int .i64 0), (26, .slice (some ⟨g15, 0, none⟩) 1 1), (28, .int .i64 5), (31, .slice (some ⟨g16, 0, none⟩) 1 1), (33, .int .i64 0)] ([⟨b20, [.int .i64 5, .int .i64 0], 2⟩, ⟨N19, [.int .i64 1, .int .i64 5, .int .i64 0, .int .i64 0, .int .i64 0, .int .i64 0, .int .i64 0], 7⟩, ⟨g16, [.int .i64 0], 1⟩, ⟨g15, [.int .i64 0], 1⟩, ⟨b14, [.int .i64 0, .int .i64 0], 2⟩, ⟨b13, [.int .i64 1, .int .i64 5, .int .i64 0, .int .i64 0, .int .i64 0, .int .i64 0, .int .i64 0], 7⟩, ⟨b12, [.int .i64 0, .int .i64 0], 2⟩] : List Own) := by
      refine hstep [3, 8] _ _ _ (by kernel_rfl) (List.cons_ne_nil _ _) ⟨?_, ?_, trivial⟩
      · show T _ _ _ _ _ _ _ _
        refine t_a (.bsl rfl rfl rfl rfl) fun g21 fg21 sg21 => ?_
        refine t_keep [2, 3, 8, 9, 10, 20, 21, 22, 26, 29, 31, 33] (σ' := [(2, .int .i64 1), (3, .int .i64 1), (8, .pointer (some ⟨b14, 0, none⟩)), (9, .slice (some ⟨g15, 0, none⟩) 1 1), (10, .slice (some ⟨g16, 0, none⟩) 1 1), (20, .slice (some ⟨N19, 1, none⟩) 1 3), (21, .int .i64 1), (22, .int .i64 0), (26, .slice (some ⟨g15, 0, none⟩) 1 1), (29, .slice (some ⟨g21, 0, none⟩) 1 1), (31, .slice (some ⟨g16, 0, none⟩) 1 1), (33, .int .i64 0)]) (by kernel_rfl) ?_
        refine t_end ?_
        exact ⟨hg_ef g21, rfl⟩
      · show T _ _ _ _ _ _ _ _
        refine t_a (.bsl rfl rfl rfl rfl) fun g23 fg23 sg23 => ?_
        refine t_keep [2, 3, 8, 9, 10, 20, 21, 22, 26, 28, 31, 34] (σ' := [(2, .int .i64 1), (3, .int .i64 1), (8, .pointer (some ⟨b14, 0, none⟩)), (9, .slice (some ⟨g15, 0, none⟩) 1 1), (10, .slice (some ⟨g16, 0, none⟩) 1 1), (20, .slice (some ⟨N19, 1, none⟩) 1 3), (21, .int .i64 1), (22, .int .i64 0), (26, .slice (some ⟨g15, 0, none⟩) 1 1), (28, .int .i64 5), (31, .slice (some ⟨g16, 0, none⟩) 1 1), (34, .slice (some ⟨g23, 0, none⟩) 1 1)]) (by kernel_rfl) ?_
        refine t_end ?_
        exact ⟨hg_1e7 g23, rfl⟩
    have hg_6f : ∀ (g21 : Nat), G [true, true, true, true, false, true, true, false, false, false, false, false] [(2, .int .i64 1), (3, .int .i64 1), (8, .pointer (some ⟨b14, 0, none⟩)), (9, .slice (some ⟨g15, 0, none⟩) 1 1), (10, .slice (some ⟨g16, 0, none⟩) 1 1), (20, .slice (some ⟨N19, 1, none⟩) 1 3), (21, .int .i64 1), (22, .int .i64 0), (26, .slice (some ⟨g15, 0, none⟩) 1 1), (29, .slice (some ⟨g21, 0, none⟩) 1 1), (31, .slice (some ⟨g16, 0, none⟩) 1 1), (32, .pointer (some ⟨b20, 1, none⟩))] ([⟨g21, [.int .i64 5], 1⟩, ⟨b20, [.int .i64 5, .int .i64 0], 2⟩, ⟨N19, [.int .i64 1, .int .i64 5, .int .i64 0, .int .i64 0, .int .i64 0, .int .i64 0, .int .i64 0], 7⟩, ⟨g16, [.int .i64 0], 1⟩, ⟨g15, [.int .i64 0], 1⟩, ⟨b14, [.int .i64 0, .int .i64 0], 2⟩, ⟨b13, [.int .i64 1, .int .i64 5, .int .i64 0, .int .i64 0, .int .i64 0, .int .i64 0, .int .i64 0], 7⟩, ⟨b12, [.int .i64 0, .int .i64 0], 2⟩] : List Own) := by
      intro g21
      refine hstep [4, 7] _ _ _ (by kernel_rfl) (List.cons_ne_nil _ _) ⟨?_, ?_, trivial⟩
      · show T _ _ _ _ _ _ _ _
        refine t_app1 (cs := [.int .i64 0]) (M := 1) (F := ([⟨g21, [.int .i64 5], 1⟩, ⟨b20, [.int .i64 5, .int .i64 0], 2⟩, ⟨N19, [.int .i64 1, .int .i64 5, .int .i64 0, .int .i64 0, .int .i64 0, .int .i64 0, .int .i64 0], 7⟩, ⟨g16, [.int .i64 0], 1⟩, ⟨b14, [.int .i64 0, .int .i64 0], 2⟩, ⟨b13, [.int .i64 1, .int .i64 5, .int .i64 0, .int .i64 0, .int .i64 0, .int .i64 0, .int .i64 0], 7⟩, ⟨b12, [.int .i64 0, .int .i64 0], 2⟩] : List Own)) (news := [.int .i64 5]) rfl rfl rfl rfl (sel_perm (is := [4]) (by kernel_rfl)) (.at 0 rfl rfl) (by kernel_rfl) rfl rfl (by decide) (by decide) rfl fun g22 ng22 => ?_
        refine t_keep [2, 3, 8, 9, 10, 20, 21, 22, 30, 31, 32] (σ' := [(2, .int .i64 1), (3, .int .i64 1), (8, .pointer (some ⟨b14, 0, none⟩)), (9, .slice (some ⟨g15, 0, none⟩) 1 1), (10, .slice (some ⟨g16, 0, none⟩) 1 1), (20, .slice (some ⟨N19, 1, none⟩) 1 3), (21, .int .i64 1), (22, .int .i64 0), (30, .slice (some ⟨g22, 0, none⟩) 2 (ng22 / 1)), (31, .slice (some ⟨g16, 0, none⟩) 1 1), (32, .pointer (some ⟨b20, 1, none⟩))]) (by kernel_rfl) ?_
        refine t_end ?_
        exact ⟨hg_7f g22 ng22 g21, rfl⟩
      · show T _ _ _ _ _ _ _ _
        refine t_v (.ld1 rfl rfl rfl (.at 1 rfl rfl)) ?_
        refine t_keep [2, 3, 8, 9, 10, 20, 21, 22, 26, 29, 31, 33] (σ' := [(2, .int .i64 1), (3, .int .i64 1), (8, .pointer (some ⟨b14, 0, none⟩)), (9, .slice (some ⟨g15, 0, none⟩) 1 1), (10, .slice (some ⟨g16, 0, none⟩) 1 1), (20, .slice (some ⟨N19, 1, none⟩) 1 3), (21, .int .i64 1), (22, .int .i64 0), (26, .slice (some ⟨g15, 0, none⟩) 1 1), (29, .slice (some ⟨g21, 0, none⟩) 1 1), (31, .slice (some ⟨g16, 0, none⟩) 1 1), (33, .int .i64 0)]) (by kernel_rfl) ?_
        refine t_end ?_
        exact ⟨hg_ef g21, rfl⟩
    have hg_e3 : G [true, true, false, false, false, true, true, true, false, false, false, false] [(2, .int .i64 1), (3, .int .i64 1), (8, .pointer (some ⟨b14, 0, none⟩)), (9, .slice (some ⟨g15, 0, none⟩) 1 1), (10, .slice (some ⟨g16, 0, none⟩) 1 1), (20, .slice (some ⟨N19, 1, none⟩) 1 3), (21, .int .i64 1), (22, .int .i64 0), (26, .slice (some ⟨g15, 0, none⟩) 1 1), (27, .pointer (some ⟨b20, 0, none⟩)), (31, .slice (some ⟨g16, 0, none⟩) 1 1), (33, .int .i64 0)] ([⟨b20, [.int .i64 5, .int .i64 0], 2⟩, ⟨N19, [.int .i64 1, .int .i64 5, .int .i64 0, .int .i64 0, .int .i64 0, .int .i64 0, .int .i64 0], 7⟩, ⟨g16, [.int .i64 0], 1⟩, ⟨g15, [.int .i64 0], 1⟩, ⟨b14, [.int .i64 0, .int .i64 0], 2⟩, ⟨b13, [.int .i64 1, .int .i64 5, .int .i64 0, .int .i64 0, .int .i64 0, .int .i64 0, .int .i64 0], 7⟩, ⟨b12, [.int .i64 0, .int .i64 0], 2⟩] : List Own) := by
      refine hstep [2, 8] _ _ _ (by kernel_rfl) (List.cons_ne_nil _ _) ⟨?_, ?_, trivial⟩
      · show T _ _ _ _ _ _ _ _
        refine t_v (.ld1 rfl rfl rfl (.at 0 rfl rfl)) ?_
        refine t_keep [2, 3, 8, 9, 10, 20, 21, 22, 26, 28, 31, 33] (σ' := [(2, .int .i64 1), (3, .int .i64 1), (8, .pointer (some ⟨b14, 0, none⟩)), (9, .slice (some ⟨g15, 0, none⟩) 1 1), (10, .slice (some ⟨g16, 0, none⟩) 1 1), (20, .slice (some ⟨N19, 1, none⟩) 1 3), (21, .int .i64 1), (22, .int .i64 0), (26, .slice (some ⟨g15, 0, none⟩) 1 1), (28, .int .i64 5), (31, .slice (some ⟨g16, 0, none⟩) 1 1), (33, .int .i64 0)]) (by kernel_rfl) ?_
        refine t_end ?_
        exact ⟨hg_e7, rfl⟩
      · show T _ _ _ _ _ _ _ _
        refine t_a (.bsl rfl rfl rfl rfl) fun g23 fg23 sg23 => ?_
        refine t_keep [2, 3, 8, 9, 10, 20, 21, 22, 26, 27, 31, 34] (σ' := [(2, .int .i64 1), (3, .int .i64 1), (8, .pointer (some ⟨b14, 0, none⟩)), (9, .slice (some ⟨g15, 0, none⟩) 1 1), (10, .slice (some ⟨g16, 0, none⟩) 1 1), (20, .slice (some ⟨N19, 1, none⟩) 1 3), (21, .int .i64 1), (22, .int .i64 0), (26, .slice (some ⟨g15, 0, none⟩) 1 1), (27, .pointer (some ⟨b20, 0, none⟩)), (31, .slice (some ⟨g16, 0, none⟩) 1 1), (34, .slice (some ⟨g23, 0, none⟩) 1 1)]) (by kernel_rfl) ?_
        refine t_end ?_
        exact ⟨hg_1e3 g23, rfl⟩
    have hg_67 : G [true, true, true, false, false, true, true, false, false, false, false, false] [(2, .int .i64 1), (3, .int .i64 1), (8, .pointer (some ⟨b14, 0, none⟩)), (9, .slice (some ⟨g15, 0, none⟩) 1 1), (10, .slice (some ⟨g16, 0, none⟩) 1 1), (20, .slice (some ⟨N19, 1, none⟩) 1 3), (21, .int .i64 1), (22, .int .i64 0), (26, .slice (some ⟨g15, 0, none⟩) 1 1), (28, .int .i64 5), (31, .slice (some ⟨g16, 0, none⟩) 1 1), (32, .pointer (some ⟨b20, 1, none⟩))] ([⟨b20, [.int .i64 5, .int .i64 0], 2⟩, ⟨N19, [.int .i64 1, .int .i64 5, .int .i64 0, .int .i64 0, .int .i64 0, .int .i64 0, .int .i64 0], 7⟩, ⟨g16, [.int .i64 0], 1⟩, ⟨g15, [.int .i64 0], 1⟩, ⟨b14, [.int .i64 0, .int .i64 0], 2⟩, ⟨b13, [.int .i64 1, .int .i64 5, .int .i64 0, .int .i64 0, .int .i64 0, .int .i64 0, .int .i64 0], 7⟩, ⟨b12, [.int .i64 0, .int .i64 0], 2⟩] : List Own) := by
      refine hstep [3, 7] _ _ _ (by kernel_rfl) (List.cons_ne_nil _ _) ⟨?_, ?_, trivial⟩
      · show T _ _ _ _ _ _ _ _
        refine t_a (.bsl rfl rfl rfl rfl) fun g21 fg21 sg21 => ?_
        refine t_keep [2, 3, 8, 9, 10, 20, 21, 22, 26, 29, 31, 32] (σ' := [(2, .int .i64 1), (3, .int .i64 1), (8, .pointer (some ⟨b14, 0, none⟩)), (9, .slice (some ⟨g15, 0, none⟩) 1 1), (10, .slice (some ⟨g16, 0, none⟩) 1 1), (20, .slice (some ⟨N19, 1, none⟩) 1 3), (21, .int .i64 1), (22, .int .i64 0), (26, .slice (some ⟨g15, 0, none⟩) 1 1), (29, .slice (some ⟨g21, 0, none⟩) 1 1), (31, .slice (some ⟨g16, 0, none⟩) 1 1), (32, .pointer (some ⟨b20, 1, none⟩))]) (by kernel_rfl) ?_
        refine t_end ?_
        exact ⟨hg_6f g21, rfl⟩
      · show T _ _ _ _ _ _ _ _
        refine t_v (.ld1 rfl rfl rfl (.at 0 rfl rfl)) ?_
        refine t_keep [2, 3, 8, 9, 10, 20, 21, 22, 26, 28, 31, 33] (σ' := [(2, .int .i64 1), (3, .int .i64 1), (8, .pointer (some ⟨b14, 0, none⟩)), (9, .slice (some ⟨g15, 0, none⟩) 1 1), (10, .slice (some ⟨g16, 0, none⟩) 1 1), (20, .slice (some ⟨N19, 1, none⟩) 1 3), (21, .int .i64 1), (22, .int .i64 0), (26, .slice (some ⟨g15, 0, none⟩) 1 1), (28, .int .i64 5), (31, .slice (some ⟨g16, 0, none⟩) 1 1), (33, .int .i64 0)]) (by kernel_rfl) ?_
        refine t_end ?_
        exact ⟨hg_e7, rfl⟩
    have hg_63 : G [true, true, false, false, false, true, true, false, false, false, false, false] [(2, .int .i64 1), (3, .int .i64 1), (8, .pointer (some ⟨b14, 0, none⟩)), (9, .slice (some ⟨g15, 0, none⟩) 1 1), (10, .slice (some ⟨g16, 0, none⟩) 1 1), (20, .slice (some ⟨N19, 1, none⟩) 1 3), (21, .int .i64 1), (22, .int .i64 0), (26, .slice (some ⟨g15, 0, none⟩) 1 1), (27, .pointer (some ⟨b20, 0, none⟩)), (31, .slice (some ⟨g16, 0, none⟩) 1 1), (32, .pointer (some ⟨b20, 1, none⟩))] ([⟨b20, [.int .i64 5, .int .i64 0], 2⟩, ⟨N19, [.int .i64 1, .int .i64 5, .int .i64 0, .int .i64 0, .int .i64 0, .int .i64 0, .int .i64 0], 7⟩, ⟨g16, [.int .i64 0], 1⟩, ⟨g15, [.int .i64 0], 1⟩, ⟨b14, [.int .i64 0, .int .i64 0], 2⟩, ⟨b13, [.int .i64 1, .int .i64 5, .int .i64 0, .int .i64 0, .int .i64 0, .int .i64 0, .int .i64 0], 7⟩, ⟨b12, [.int .i64 0, .int .i64 0], 2⟩] : List Own) := by
      refine hstep [2, 7] _ _ _ (by kernel_rfl) (List.cons_ne_nil _ _) ⟨?_, ?_, trivial⟩
      · show T _ _ _ _ _ _ _ _
        refine t_v (.ld1 rfl rfl rfl (.at 0 rfl rfl)) ?_
        refine t_keep [2, 3, 8, 9, 10, 20, 21, 22, 26, 28, 31, 32] (σ' := [(2, .int .i64 1), (3, .int .i64 1), (8, .pointer (some ⟨b14, 0, none⟩)), (9, .slice (some ⟨g15, 0, none⟩) 1 1), (10, .slice (some ⟨g16, 0, none⟩) 1 1), (20, .slice (some ⟨N19, 1, none⟩) 1 3), (21, .int .i64 1), (22, .int .i64 0), (26, .slice (some ⟨g15, 0, none⟩) 1 1), (28, .int .i64 5), (31, .slice (some ⟨g16, 0, none⟩) 1 1), (32, .pointer (some ⟨b20, 1, none⟩))]) (by kernel_rfl) ?_
        refine t_end ?_
        exact ⟨hg_67, rfl⟩
      · show T _ _ _ _ _ _ _ _
        refine t_v (.ld1 rfl rfl rfl (.at 0 rfl rfl)) ?_
        refine t_keep [2, 3, 8, 9, 10, 20, 21, 22, 26, 27, 31, 33] (σ' := [(2, .int .i64 1), (3, .int .i64 1), (8, .pointer (some ⟨b14, 0, none⟩)), (9, .slice (some ⟨g15, 0, none⟩) 1 1), (10, .slice (some ⟨g16, 0, none⟩) 1 1), (20, .slice (some ⟨N19, 1, none⟩) 1 3), (21, .int .i64 1), (22, .int .i64 0), (26, .slice (some ⟨g15, 0, none⟩) 1 1), (27, .pointer (some ⟨b20, 0, none⟩)), (31, .slice (some ⟨g16, 0, none⟩) 1 1), (33, .int .i64 0)]) (by kernel_rfl) ?_
        refine t_end ?_
        exact ⟨hg_e3, rfl⟩
    have hg_23 : G [true, true, false, false, false, true, false, false, false, false, false, false] [(2, .int .i64 1), (3, .int .i64 1), (8, .pointer (some ⟨b14, 0, none⟩)), (9, .slice (some ⟨g15, 0, none⟩) 1 1), (10, .slice (some ⟨g16, 0, none⟩) 1 1), (12, .pointer (some ⟨b20, 0, none⟩)), (20, .slice (some ⟨N19, 1, none⟩) 1 3), (21, .int .i64 1), (22, .int .i64 0), (26, .slice (some ⟨g15, 0, none⟩) 1 1), (27, .pointer (some ⟨b20, 0, none⟩)), (31, .slice (some ⟨g16, 0, none⟩) 1 1)] ([⟨b20, [.int .i64 5, .int .i64 0], 2⟩, ⟨N19, [.int .i64 1, .int .i64 5, .int .i64 0, .int .i64 0, .int .i64 0, .int .i64 0, .int .i64 0], 7⟩, ⟨g16, [.int .i64 0], 1⟩, ⟨g15, [.int .i64 0], 1⟩, ⟨b14, [.int .i64 0, .int .i64 0], 2⟩, ⟨b13, [.int .i64 1, .int .i64 5, .int .i64 0, .int .i64 0, .int .i64 0, .int .i64 0, .int .i64 0], 7⟩, ⟨b12, [.int .i64 0, .int .i64 0], 2⟩] : List Own) := by
      exact hqf 6 [2, 3, 8, 9, 10, 20, 21, 22, 26, 27, 31, 32] _ _ _ [(2, .int .i64 1), (3, .int .i64 1), (8, .pointer (some ⟨b14, 0, none⟩)), (9, .slice (some ⟨g15, 0, none⟩) 1 1), (10, .slice (some ⟨g16, 0, none⟩) 1 1), (20, .slice (some ⟨N19, 1, none⟩) 1 3), (21, .int .i64 1), (22, .int .i64 0), (26, .slice (some ⟨g15, 0, none⟩) 1 1), (27, .pointer (some ⟨b20, 0, none⟩)), (31, .slice (some ⟨g16, 0, none⟩) 1 1), (32, .pointer (some ⟨b20, 1, none⟩))] (by kernel_rfl) (by kernel_rfl) hg_63
    have hg_3 : G [true, true, false, false, false, false, false, false, false, false, false, false] [(2, .int .i64 1), (3, .int .i64 1), (8, .pointer (some ⟨b14, 0, none⟩)), (9, .slice (some ⟨g15, 0, none⟩) 1 1), (10, .slice (some ⟨g16, 0, none⟩) 1 1), (12, .pointer (some ⟨b20, 0, none⟩)), (20, .slice (some ⟨N19, 1, none⟩) 1 3), (21, .int .i64 1), (22, .int .i64 0), (26, .slice (some ⟨g15, 0, none⟩) 1 1), (27, .pointer (some ⟨b20, 0, none⟩))] ([⟨b20, [.int .i64 5, .int .i64 0], 2⟩, ⟨N19, [.int .i64 1, .int .i64 5, .int .i64 0, .int .i64 0, .int .i64 0, .int .i64 0, .int .i64 0], 7⟩, ⟨g16, [.int .i64 0], 1⟩, ⟨g15, [.int .i64 0], 1⟩, ⟨b14, [.int .i64 0, .int .i64 0], 2⟩, ⟨b13, [.int .i64 1, .int .i64 5, .int .i64 0, .int .i64 0, .int .i64 0, .int .i64 0, .int .i64 0], 7⟩, ⟨b12, [.int .i64 0, .int .i64 0], 2⟩] : List Own) := by
      exact hqf 5 [2, 3, 8, 9, 10, 12, 20, 21, 22, 26, 27, 31] _ _ _ [(2, .int .i64 1), (3, .int .i64 1), (8, .pointer (some ⟨b14, 0, none⟩)), (9, .slice (some ⟨g15, 0, none⟩) 1 1), (10, .slice (some ⟨g16, 0, none⟩) 1 1), (12, .pointer (some ⟨b20, 0, none⟩)), (20, .slice (some ⟨N19, 1, none⟩) 1 3), (21, .int .i64 1), (22, .int .i64 0), (26, .slice (some ⟨g15, 0, none⟩) 1 1), (27, .pointer (some ⟨b20, 0, none⟩)), (31, .slice (some ⟨g16, 0, none⟩) 1 1)] (by kernel_rfl) (by kernel_rfl) hg_23
    have hg_1 : G [true, false, false, false, false, false, false, false, false, false, false, false] [(2, .int .i64 1), (3, .int .i64 1), (8, .pointer (some ⟨b14, 0, none⟩)), (9, .slice (some ⟨g15, 0, none⟩) 1 1), (10, .slice (some ⟨g16, 0, none⟩) 1 1), (12, .pointer (some ⟨b20, 0, none⟩)), (20, .slice (some ⟨N19, 1, none⟩) 1 3), (21, .int .i64 1), (22, .int .i64 0), (26, .slice (some ⟨g15, 0, none⟩) 1 1)] ([⟨b20, [.int .i64 5, .int .i64 0], 2⟩, ⟨N19, [.int .i64 1, .int .i64 5, .int .i64 0, .int .i64 0, .int .i64 0, .int .i64 0, .int .i64 0], 7⟩, ⟨g16, [.int .i64 0], 1⟩, ⟨g15, [.int .i64 0], 1⟩, ⟨b14, [.int .i64 0, .int .i64 0], 2⟩, ⟨b13, [.int .i64 1, .int .i64 5, .int .i64 0, .int .i64 0, .int .i64 0, .int .i64 0, .int .i64 0], 7⟩, ⟨b12, [.int .i64 0, .int .i64 0], 2⟩] : List Own) := by
      exact hqf 1 [2, 3, 8, 9, 10, 12, 20, 21, 22, 26, 27] _ _ _ [(2, .int .i64 1), (3, .int .i64 1), (8, .pointer (some ⟨b14, 0, none⟩)), (9, .slice (some ⟨g15, 0, none⟩) 1 1), (10, .slice (some ⟨g16, 0, none⟩) 1 1), (12, .pointer (some ⟨b20, 0, none⟩)), (20, .slice (some ⟨N19, 1, none⟩) 1 3), (21, .int .i64 1), (22, .int .i64 0), (26, .slice (some ⟨g15, 0, none⟩) 1 1), (27, .pointer (some ⟨b20, 0, none⟩))] (by kernel_rfl) (by kernel_rfl) hg_3
    have hg_0 : G [false, false, false, false, false, false, false, false, false, false, false, false] [(2, .int .i64 1), (3, .int .i64 1), (8, .pointer (some ⟨b14, 0, none⟩)), (9, .slice (some ⟨g15, 0, none⟩) 1 1), (10, .slice (some ⟨g16, 0, none⟩) 1 1), (12, .pointer (some ⟨b20, 0, none⟩)), (20, .slice (some ⟨N19, 1, none⟩) 1 3), (21, .int .i64 1), (22, .int .i64 0)] ([⟨b20, [.int .i64 5, .int .i64 0], 2⟩, ⟨N19, [.int .i64 1, .int .i64 5, .int .i64 0, .int .i64 0, .int .i64 0, .int .i64 0, .int .i64 0], 7⟩, ⟨g16, [.int .i64 0], 1⟩, ⟨g15, [.int .i64 0], 1⟩, ⟨b14, [.int .i64 0, .int .i64 0], 2⟩, ⟨b13, [.int .i64 1, .int .i64 5, .int .i64 0, .int .i64 0, .int .i64 0, .int .i64 0, .int .i64 0], 7⟩, ⟨b12, [.int .i64 0, .int .i64 0], 2⟩] : List Own) := by
      exact hqf 0 [2, 3, 8, 9, 10, 12, 20, 21, 22, 26] _ _ _ [(2, .int .i64 1), (3, .int .i64 1), (8, .pointer (some ⟨b14, 0, none⟩)), (9, .slice (some ⟨g15, 0, none⟩) 1 1), (10, .slice (some ⟨g16, 0, none⟩) 1 1), (12, .pointer (some ⟨b20, 0, none⟩)), (20, .slice (some ⟨N19, 1, none⟩) 1 3), (21, .int .i64 1), (22, .int .i64 0), (26, .slice (some ⟨g15, 0, none⟩) 1 1)] (by kernel_rfl) (by kernel_rfl) hg_1
    exact hg_0
  have hg_7f : ∀ (g16 : Nat) (g15 : Nat), G [true, true, true, true, true, true, true, false] [(2, .int .i64 1), (3, .int .i64 1), (5, .pointer (some ⟨b13, 0, none⟩)), (8, .pointer (some ⟨b14, 0, none⟩)), (9, .slice (some ⟨g15, 0, none⟩) 1 1), (18, .slice (some ⟨g16, 0, none⟩) 1 1)] ([⟨g16, [.int .i64 0], 1⟩, ⟨g15, [.int .i64 0], 1⟩, ⟨b14, [.int .i64 0, .int .i64 0], 2⟩, ⟨b13, [.int .i64 1, .int .i64 5, .int .i64 0, .int .i64 0, .int .i64 0, .int .i64 0, .int .i64 0], 7⟩, ⟨b12, [.int .i64 0, .int .i64 0], 2⟩] : List Own) := by
    intro g16 g15
    exact hqf 7 [2, 3, 5, 8, 9, 10] _ _ _ [(2, .int .i64 1), (3, .int .i64 1), (5, .pointer (some ⟨b13, 0, none⟩)), (8, .pointer (some ⟨b14, 0, none⟩)), (9, .slice (some ⟨g15, 0, none⟩) 1 1), (10, .slice (some ⟨g16, 0, none⟩) 1 1)] (by kernel_rfl) (by kernel_rfl) (hg_ff g16 g15)
  have hg_3f : ∀ (g16 : Nat) (g15 : Nat), G [true, true, true, true, true, true, false, false] [(2, .int .i64 1), (3, .int .i64 1), (5, .pointer (some ⟨b13, 0, none⟩)), (8, .pointer (some ⟨b14, 0, none⟩)), (15, .slice (some ⟨g15, 0, none⟩) 1 1), (18, .slice (some ⟨g16, 0, none⟩) 1 1)] ([⟨g16, [.int .i64 0], 1⟩, ⟨g15, [.int .i64 0], 1⟩, ⟨b14, [.int .i64 0, .int .i64 0], 2⟩, ⟨b13, [.int .i64 1, .int .i64 5, .int .i64 0, .int .i64 0, .int .i64 0, .int .i64 0, .int .i64 0], 7⟩, ⟨b12, [.int .i64 0, .int .i64 0], 2⟩] : List Own) := by
    intro g16 g15
    exact hqf 6 [2, 3, 5, 8, 9, 18] _ _ _ [(2, .int .i64 1), (3, .int .i64 1), (5, .pointer (some ⟨b13, 0, none⟩)), (8, .pointer (some ⟨b14, 0, none⟩)), (9, .slice (some ⟨g15, 0, none⟩) 1 1), (18, .slice (some ⟨g16, 0, none⟩) 1 1)] (by kernel_rfl) (by kernel_rfl) (hg_7f g16 g15)
  have hg_5f : ∀ (g15 : Nat), G [true, true, true, true, true, false, true, false] [(2, .int .i64 1), (3, .int .i64 1), (5, .pointer (some ⟨b13, 0, none⟩)), (8, .pointer (some ⟨b14, 0, none⟩)), (9, .slice (some ⟨g15, 0, none⟩) 1 1), (17, .int .i64 0)] ([⟨g15, [.int .i64 0], 1⟩, ⟨b14, [.int .i64 0, .int .i64 0], 2⟩, ⟨b13, [.int .i64 1, .int .i64 5, .int .i64 0, .int .i64 0, .int .i64 0, .int .i64 0, .int .i64 0], 7⟩, ⟨b12, [.int .i64 0, .int .i64 0], 2⟩] : List Own) := by
    intro g15
    refine hstep [5] _ _ _ (by kernel_rfl) (List.cons_ne_nil _ _) ⟨?_, trivial⟩
    · show T _ _ _ _ _ _ _ _
      refine t_a (.bsl rfl rfl rfl rfl) fun g16 fg16 sg16 => ?_
      refine t_keep [2, 3, 5, 8, 9, 18] (σ' := [(2, .int .i64 1), (3, .int .i64 1), (5, .pointer (some ⟨b13, 0, none⟩)), (8, .pointer (some ⟨b14, 0, none⟩)), (9, .slice (some ⟨g15, 0, none⟩) 1 1), (18, .slice (some ⟨g16, 0, none⟩) 1 1)]) (by kernel_rfl) ?_
      refine t_end ?_
      exact ⟨hg_7f g16 g15, rfl⟩
  have hg_3b : ∀ (g16 : Nat), G [true, true, false, true, true, true, false, false] [(2, .int .i64 1), (3, .int .i64 1), (5, .pointer (some ⟨b13, 0, none⟩)), (8, .pointer (some ⟨b14, 0, none⟩)), (14, .int .i64 0), (18, .slice (some ⟨g16, 0, none⟩) 1 1)] ([⟨g16, [.int .i64 0], 1⟩, ⟨b14, [.int .i64 0, .int .i64 0], 2⟩, ⟨b13, [.int .i64 1, .int .i64 5, .int .i64 0, .int .i64 0, .int .i64 0, .int .i64 0, .int .i64 0], 7⟩, ⟨b12, [.int .i64 0, .int .i64 0], 2⟩] : List Own) := by
    intro g16
    refine hstep [2] _ _ _ (by kernel_rfl) (List.cons_ne_nil _ _) ⟨?_, trivial⟩
    · show T _ _ _ _ _ _ _ _
      refine t_a (.bsl rfl rfl rfl rfl) fun g15 fg15 sg15 => ?_
      refine t_keep [2, 3, 5, 8, 15, 18] (σ' := [(2, .int .i64 1), (3, .int .i64 1), (5, .pointer (some ⟨b13, 0, none⟩)), (8, .pointer (some ⟨b14, 0, none⟩)), (15, .slice (some ⟨g15, 0, none⟩) 1 1), (18, .slice (some ⟨g16, 0, none⟩) 1 1)]) (by kernel_rfl) ?_
      refine t_vs (H' := ([⟨g16, [.int .i64 0], 1⟩, ⟨g15, [.int .i64 0], 1⟩, ⟨b14, [.int .i64 0, .int .i64 0], 2⟩, ⟨b13, [.int .i64 1, .int .i64 5, .int .i64 0, .int .i64 0, .int .i64 0, .int .i64 0, .int .i64 0], 7⟩, ⟨b12, [.int .i64 0, .int .i64 0], 2⟩] : List Own)) (S' := S) (VS.sel [1, 0, 0, 0, 0] (by kernel_rfl)) ?_
      refine t_end ?_
      exact ⟨hg_3f g16 g15, rfl⟩
  have hg_1f : ∀ (g15 : Nat), G [true, true, true, true, true, false, false, false] [(2, .int .i64 1), (3, .int .i64 1), (5, .pointer (some ⟨b13, 0, none⟩)), (8, .pointer (some ⟨b14, 0, none⟩)), (15, .slice (some ⟨g15, 0, none⟩) 1 1), (17, .int .i64 0)] ([⟨g15, [.int .i64 0], 1⟩, ⟨b14, [.int .i64 0, .int .i64 0], 2⟩, ⟨b13, [.int .i64 1, .int .i64 5, .int .i64 0, .int .i64 0, .int .i64 0, .int .i64 0, .int .i64 0], 7⟩, ⟨b12, [.int .i64 0, .int .i64 0], 2⟩] : List Own) := by
    intro g15
    exact hqf 6 [2, 3, 5, 8, 9, 17] _ _ _ [(2, .int .i64 1), (3, .int .i64 1), (5, .pointer (some ⟨b13, 0, none⟩)), (8, .pointer (some ⟨b14, 0, none⟩)), (9, .slice (some ⟨g15, 0, none⟩) 1 1), (17, .int .i64 0)] (by kernel_rfl) (by kernel_rfl) (hg_5f g15)
  have hg_4f : ∀ (g15 : Nat), G [true, true, true, true, false, false, true, false] [(2, .int .i64 1), (3, .int .i64 1), (5, .pointer (some ⟨b13, 0, none⟩)), (8, .pointer (some ⟨b14, 0, none⟩)), (9, .slice (some ⟨g15, 0, none⟩) 1 1), (16, .pointer (some ⟨b12, 1, none⟩))] ([⟨g15, [.int .i64 0], 1⟩, ⟨b14, [.int .i64 0, .int .i64 0], 2⟩, ⟨b13, [.int .i64 1, .int .i64 5, .int .i64 0, .int .i64 0, .int .i64 0, .int .i64 0, .int .i64 0], 7⟩, ⟨b12, [.int .i64 0, .int .i64 0], 2⟩] : List Own) := by
    intro g15
    refine hstep [4] _ _ _ (by kernel_rfl) (List.cons_ne_nil _ _) ⟨?_, trivial⟩
    · show T _ _ _ _ _ _ _ _
      refine t_v (.ld1 rfl rfl rfl (.at 3 rfl rfl)) ?_
      refine t_keep [2, 3, 5, 8, 9, 17] (σ' := [(2, .int .i64 1), (3, .int .i64 1), (5, .pointer (some ⟨b13, 0, none⟩)), (8, .pointer (some ⟨b14, 0, none⟩)), (9, .slice (some ⟨g15, 0, none⟩) 1 1), (17, .int .i64 0)]) (by kernel_rfl) ?_
      refine t_end ?_
      exact ⟨hg_5f g15, rfl⟩
  have hg_f : ∀ (g15 : Nat), G [true, true, true, true, false, false, false, false] [(2, .int .i64 1), (3, .int .i64 1), (5, .pointer (some ⟨b13, 0, none⟩)), (8, .pointer (some ⟨b14, 0, none⟩)), (15, .slice (some ⟨g15, 0, none⟩) 1 1), (16, .pointer (some ⟨b12, 1, none⟩))] ([⟨g15, [.int .i64 0], 1⟩, ⟨b14, [.int .i64 0, .int .i64 0], 2⟩, ⟨b13, [.int .i64 1, .int .i64 5, .int .i64 0, .int .i64 0, .int .i64 0, .int .i64 0, .int .i64 0], 7⟩, ⟨b12, [.int .i64 0, .int .i64 0], 2⟩] : List Own) := by
    intro g15
    exact hqf 6 [2, 3, 5, 8, 9, 16] _ _ _ [(2, .int .i64 1), (3, .int .i64 1), (5, .pointer (some ⟨b13, 0, none⟩)), (8, .pointer (some ⟨b14, 0, none⟩)), (9, .slice (some ⟨g15, 0, none⟩) 1 1), (16, .pointer (some ⟨b12, 1, none⟩))] (by kernel_rfl) (by kernel_rfl) (hg_4f g15)
  have hg_1b : G [true, true, false, true, true, false, false, false] [(2, .int .i64 1), (3, .int .i64 1), (5, .pointer (some ⟨b13, 0, none⟩)), (8, .pointer (some ⟨b14, 0, none⟩)), (14, .int .i64 0), (17, .int .i64 0)] ([⟨b14, [.int .i64 0, .int .i64 0], 2⟩, ⟨b13, [.int .i64 1, .int .i64 5, .int .i64 0, .int .i64 0, .int .i64 0, .int .i64 0, .int .i64 0], 7⟩, ⟨b12, [.int .i64 0, .int .i64 0], 2⟩] : List Own) := by
    refine hstep [2, 5] _ _ _ (by kernel_rfl) (List.cons_ne_nil _ _) ⟨?_, ?_, trivial⟩
    · show T _ _ _ _ _ _ _ _
      refine t_a (.bsl rfl rfl rfl rfl) fun g15 fg15 sg15 => ?_
      refine t_keep [2, 3, 5, 8, 15, 17] (σ' := [(2, .int .i64 1), (3, .int .i64 1), (5, .pointer (some ⟨b13, 0, none⟩)), (8, .pointer (some ⟨b14, 0, none⟩)), (15, .slice (some ⟨g15, 0, none⟩) 1 1), (17, .int .i64 0)]) (by kernel_rfl) ?_
      refine t_end ?_
      exact ⟨hg_1f g15, rfl⟩
    · show T _ _ _ _ _ _ _ _
      refine t_a (.bsl rfl rfl rfl rfl) fun g16 fg16 sg16 => ?_
      refine t_keep [2, 3, 5, 8, 14, 18] (σ' := [(2, .int .i64 1), (3, .int .i64 1), (5, .pointer (some ⟨b13, 0, none⟩)), (8, .pointer (some ⟨b14, 0, none⟩)), (14, .int .i64 0), (18, .slice (some ⟨g16, 0, none⟩) 1 1)]) (by kernel_rfl) ?_
      refine t_end ?_
      exact ⟨hg_3b g16, rfl⟩
  have hg_39 : ∀ (g16 : Nat), G [true, false, false, true, true, true, false, false] [(2, .int .i64 1), (3, .int .i64 1), (5, .pointer (some ⟨b13, 0, none⟩)), (8, .pointer (some ⟨b14, 0, none⟩)), (13, .pointer (some ⟨b12, 0, none⟩)), (18, .slice (some ⟨g16, 0, none⟩) 1 1)] ([⟨g16, [.int .i64 0], 1⟩, ⟨b14, [.int .i64 0, .int .i64 0], 2⟩, ⟨b13, [.int .i64 1, .int .i64 5, .int .i64 0, .int .i64 0, .int .i64 0, .int .i64 0, .int .i64 0], 7⟩, ⟨b12, [.int .i64 0, .int .i64 0], 2⟩] : List Own) := by
    intro g16
    refine hstep [1] _ _ _ (by kernel_rfl) (List.cons_ne_nil _ _) ⟨?_, trivial⟩
    · show T _ _ _ _ _ _ _ _
      refine t_v (.ld1 rfl rfl rfl (.at 3 rfl rfl)) ?_
      refine t_keep [2, 3, 5, 8, 14, 18] (σ' := [(2, .int .i64 1), (3, .int .i64 1), (5, .pointer (some ⟨b13, 0, none⟩)), (8, .pointer (some ⟨b14, 0, none⟩)), (14, .int .i64 0), (18, .slice (some ⟨g16, 0, none⟩) 1 1)]) (by kernel_rfl) ?_
      refine t_end ?_
      exact ⟨hg_3b g16, rfl⟩
  have hg_b : G [true, true, false, true, false, false, false, false] [(2, .int .i64 1), (3, .int .i64 1), (5, .pointer (some ⟨b13, 0, none⟩)), (8, .pointer (some ⟨b14, 0, none⟩)), (14, .int .i64 0), (16, .pointer (some ⟨b12, 1, none⟩))] ([⟨b14, [.int .i64 0, .int .i64 0], 2⟩, ⟨b13, [.int .i64 1, .int .i64 5, .int .i64 0, .int .i64 0, .int .i64 0, .int .i64 0, .int .i64 0], 7⟩, ⟨b12, [.int .i64 0, .int .i64 0], 2⟩] : List Own) := by
    refine hstep [2, 4] _ _ _ (by kernel_rfl) (List.cons_ne_nil _ _) ⟨?_, ?_, trivial⟩
    · show T _ _ _ _ _ _ _ _
      refine t_a (.bsl rfl rfl rfl rfl) fun g15 fg15 sg15 => ?_
      refine t_keep [2, 3, 5, 8, 15, 16] (σ' := [(2, .int .i64 1), (3, .int .i64 1), (5, .pointer (some ⟨b13, 0, none⟩)), (8, .pointer (some ⟨b14, 0, none⟩)), (15, .slice (some ⟨g15, 0, none⟩) 1 1), (16, .pointer (some ⟨b12, 1, none⟩))]) (by kernel_rfl) ?_
      refine t_end ?_
      exact ⟨hg_f g15, rfl⟩
    · show T _ _ _ _ _ _ _ _
      refine t_v (.ld1 rfl rfl rfl (.at 2 rfl rfl)) ?_
      refine t_keep [2, 3, 5, 8, 14, 17] (σ' := [(2, .int .i64 1), (3, .int .i64 1), (5, .pointer (some ⟨b13, 0, none⟩)), (8, .pointer (some ⟨b14, 0, none⟩)), (14, .int .i64 0), (17, .int .i64 0)]) (by kernel_rfl) ?_
      refine t_end ?_
      exact ⟨hg_1b, rfl⟩
  have hg_19 : G [true, false, false, true, true, false, false, false] [(2, .int .i64 1), (3, .int .i64 1), (5, .pointer (some ⟨b13, 0, none⟩)), (8, .pointer (some ⟨b14, 0, none⟩)), (13, .pointer (some ⟨b12, 0, none⟩)), (17, .int .i64 0)] ([⟨b14, [.int .i64 0, .int .i64 0], 2⟩, ⟨b13, [.int .i64 1, .int .i64 5, .int .i64 0, .int .i64 0, .int .i64 0, .int .i64 0, .int .i64 0], 7⟩, ⟨b12, [.int .i64 0, .int .i64 0], 2⟩] : List Own) := by
    refine hstep [1, 5] _ _ _ (by kernel_rfl) (List.cons_ne_nil _ _) ⟨?_, ?_, trivial⟩
    · show T _ _ _ _ _ _ _ _
      refine t_v (.ld1 rfl rfl rfl (.at 2 rfl rfl)) ?_
      refine t_keep [2, 3, 5, 8, 14, 17] (σ' := [(2, .int .i64 1), (3, .int .i64 1), (5, .pointer (some ⟨b13, 0, none⟩)), (8, .pointer (some ⟨b14, 0, none⟩)), (14, .int .i64 0), (17, .int .i64 0)]) (by kernel_rfl) ?_
      refine t_end ?_
      exact ⟨hg_1b, rfl⟩
    · show T _ _ _ _ _ _ _ _
      refine t_a (.bsl rfl rfl rfl rfl) fun g16 fg16 sg16 => ?_
      refine t_keep [2, 3, 5, 8, 13, 18] (σ' := [(2, .int .i64 1), (3, .int .i64 1), (5, .pointer (some ⟨b13, 0, none⟩)), (8, .pointer (some ⟨b14, 0, none⟩)), (13, .pointer (some ⟨b12, 0, none⟩)), (18, .slice (some ⟨g16, 0, none⟩) 1 1)]) (by kernel_rfl) ?_
      refine t_end ?_
      exact ⟨hg_39 g16, rfl⟩
  have hg_9 : G [true, false, false, true, false, false, false, false] [(2, .int .i64 1), (3, .int .i64 1), (5, .pointer (some ⟨b13, 0, none⟩)), (8, .pointer (some ⟨b14, 0, none⟩)), (13, .pointer (some ⟨b12, 0, none⟩)), (16, .pointer (some ⟨b12, 1, none⟩))] ([⟨b14, [.int .i64 0, .int .i64 0], 2⟩, ⟨b13, [.int .i64 1, .int .i64 5, .int .i64 0, .int .i64 0, .int .i64 0, .int .i64 0, .int .i64 0], 7⟩, ⟨b12, [.int .i64 0, .int .i64 0], 2⟩] : List Own) := by
    refine hstep [1, 4] _ _ _ (by kernel_rfl) (List.cons_ne_nil _ _) ⟨?_, ?_, trivial⟩
    · show T _ _ _ _ _ _ _ _
      refine t_v (.ld1 rfl rfl rfl (.at 2 rfl rfl)) ?_
      refine t_keep [2, 3, 5, 8, 14, 16] (σ' := [(2, .int .i64 1), (3, .int .i64 1), (5, .pointer (some ⟨b13, 0, none⟩)), (8, .pointer (some ⟨b14, 0, none⟩)), (14, .int .i64 0), (16, .pointer (some ⟨b12, 1, none⟩))]) (by kernel_rfl) ?_
      refine t_end ?_
      exact ⟨hg_b, rfl⟩
    · show T _ _ _ _ _ _ _ _
      refine t_v (.ld1 rfl rfl rfl (.at 2 rfl rfl)) ?_
      refine t_keep [2, 3, 5, 8, 13, 17] (σ' := [(2, .int .i64 1), (3, .int .i64 1), (5, .pointer (some ⟨b13, 0, none⟩)), (8, .pointer (some ⟨b14, 0, none⟩)), (13, .pointer (some ⟨b12, 0, none⟩)), (17, .int .i64 0)]) (by kernel_rfl) ?_
      refine t_end ?_
      exact ⟨hg_19, rfl⟩
  have hg_1 : G [true, false, false, false, false, false, false, false] [(2, .int .i64 1), (3, .int .i64 1), (4, .pointer (some ⟨b12, 0, none⟩)), (5, .pointer (some ⟨b13, 0, none⟩)), (8, .pointer (some ⟨b14, 0, none⟩)), (13, .pointer (some ⟨b12, 0, none⟩))] ([⟨b14, [.int .i64 0, .int .i64 0], 2⟩, ⟨b13, [.int .i64 1, .int .i64 5, .int .i64 0, .int .i64 0, .int .i64 0, .int .i64 0, .int .i64 0], 7⟩, ⟨b12, [.int .i64 0, .int .i64 0], 2⟩] : List Own) := by
    exact hqf 3 [2, 3, 5, 8, 13, 16] _ _ _ [(2, .int .i64 1), (3, .int .i64 1), (5, .pointer (some ⟨b13, 0, none⟩)), (8, .pointer (some ⟨b14, 0, none⟩)), (13, .pointer (some ⟨b12, 0, none⟩)), (16, .pointer (some ⟨b12, 1, none⟩))] (by kernel_rfl) (by kernel_rfl) hg_9
  have hg_0 : G [false, false, false, false, false, false, false, false] [(2, .int .i64 1), (3, .int .i64 1), (4, .pointer (some ⟨b12, 0, none⟩)), (5, .pointer (some ⟨b13, 0, none⟩)), (8, .pointer (some ⟨b14, 0, none⟩))] ([⟨b14, [.int .i64 0, .int .i64 0], 2⟩, ⟨b13, [.int .i64 1, .int .i64 5, .int .i64 0, .int .i64 0, .int .i64 0, .int .i64 0, .int .i64 0], 7⟩, ⟨b12, [.int .i64 0, .int .i64 0], 2⟩] : List Own) := by
    exact hqf 0 [2, 3, 4, 5, 8, 13] _ _ _ [(2, .int .i64 1), (3, .int .i64 1), (4, .pointer (some ⟨b12, 0, none⟩)), (5, .pointer (some ⟨b13, 0, none⟩)), (8, .pointer (some ⟨b14, 0, none⟩)), (13, .pointer (some ⟨b12, 0, none⟩))] (by kernel_rfl) (by kernel_rfl) hg_1
  exact hg_0

/-- flatten.Path$1 -/
def c67 : C :=
  (.seq (.reg [⟨(some 3), .box (.tmp 0), none⟩])
  (.seq (.seq (.reg [⟨(some 4), .ld (some 2) (.tmp 1), none⟩,
      ⟨(some 5), .ld (some 2) (.tmp 3), none⟩,
      ⟨(some 6), .eqt true 24 (.tmp 4) (.tmp 5), none⟩])
   (.cond (.tmp 6)
    (.reg [⟨(some 7), .ld none (.tmp 2), none⟩,
       ⟨(some 8), .ld (some 2) (.tmp 1), none⟩,
       ⟨(some 9), .ld (some 2) (.tmp 3), none⟩,
       ⟨(some 10), .bld [(.int .i64 0), (.int .i64 0), (.int .i64 0), (.int .i64 0)] [(0, 2, (.tmp 8)), (2, 2, (.tmp 9))], none⟩,
       ⟨(some 11), .bsl [(.int .i64 0), (.int .i64 0), (.int .i64 0), (.int .i64 0)] 1 [(0, 4, (.tmp 10))], none⟩,
       ⟨(some 12), .app 36 4 32 [(.int .i64 0), (.int .i64 0), (.int .i64 0), (.int .i64 0)] (.tmp 7) (.tmp 11), none⟩,
       ⟨none, .st 1 (.tmp 2) (.tmp 12), none⟩])
    .skip))
  (.reg [⟨(some 13), .ld (some 2) (.tmp 3), none⟩,
    ⟨none, .st 2 (.tmp 1) (.tmp 13), none⟩])))
def flatten_Path_1_v1.f  : Option (Unit) := some ()
theorem flatten_Path_1_v1.ok {S : Seal} {B0 : Nat} {B1 : Nat}  (e : flatten_Path_1_v1.f  = some ()) :
    Cal Try.prog 67 [.agg #[.int .i64 5, .int .i64 0], .pointer (some ⟨B0, 0, none⟩), .pointer (some ⟨B1, 0, none⟩)] ([⟨B0, [.int .i64 0, .int .i64 0], 2⟩, ⟨B1, [.slice none 0 0], 1⟩] : List Own) S fun v H' S' => ∃ (N0_ nN0_ : Nat) , v = .tuple #[] ∧ H' = ([⟨N0_, [.int .i64 0, .int .i64 0, .int .i64 5, .int .i64 0], nN0_⟩, ⟨B0, [.int .i64 5, .int .i64 0], 2⟩, ⟨B1, [.slice (some ⟨N0_, 0, none⟩) 1 (nN0_ / 4)], 1⟩] : List Own) ∧ S' = S := by
  unfold flatten_Path_1_v1.f at e
  refine cal_of (c := c67) (N := 14) Try.func67 rfl rfl (by kernel_rfl) (rs := []) (by kernel_rfl) (Nat.le_of_ble_eq_true rfl) ?_
  unfold c67
  refine w_seq ?_
  refine w_reg fun all => ?_
  refine t_a (.box rfl rfl rfl) fun b33 fb33 sb33 => ?_
  refine t_keep [1, 2, 3] (σ' := [(1, .pointer (some ⟨B0, 0, none⟩)), (2, .pointer (some ⟨B1, 0, none⟩)), (3, .pointer (some ⟨b33, 0, none⟩))]) (by kernel_rfl) ?_
  refine t_end ?_
  show W _ _ _ _ _ _ _
  refine w_seq ?_
  refine w_seq ?_
  refine w_reg fun all => ?_
  refine t_v (.ldn rfl rfl rfl (.at 1 rfl rfl)) ?_
  refine t_v (.ldn rfl rfl rfl (.at 0 rfl rfl)) ?_
  refine t_v (.eqt (a := .agg #[.int .i64 0, .int .i64 0]) (b := .agg #[.int .i64 5, .int .i64 0]) (r := false) rfl rfl rfl rfl (by kernel_rfl) rfl) ?_
  refine t_keep [1, 2, 3, 6] (σ' := [(1, .pointer (some ⟨B0, 0, none⟩)), (2, .pointer (some ⟨B1, 0, none⟩)), (3, .pointer (some ⟨b33, 0, none⟩)), (6, .bool true)]) (by kernel_rfl) ?_
  refine t_end ?_
  show W _ _ _ _ _ _ _
  refine w_cond rfl (fun _ => ?_) (fun c_ => by cases c_)
  show W _ _ _ _ _ _ _
  refine w_reg fun all => ?_
  refine t_v (.ld1 rfl rfl rfl (.at 2 rfl rfl)) ?_
  refine t_v (.ldn rfl rfl rfl (.at 1 rfl rfl)) ?_
  refine t_v (.ldn rfl rfl rfl (.at 0 rfl rfl)) ?_
  refine t_qz 1 [1, 2, 3, 7, 10] (σ' := [(1, .pointer (some ⟨B0, 0, none⟩)), (2, .pointer (some ⟨B1, 0, none⟩)), (3, .pointer (some ⟨b33, 0, none⟩)), (7, .slice none 0 0), (10, .agg #[.int .i64 0, .int .i64 0, .int .i64 5, .int .i64 0])]) (by kernel_rfl) ?_
  refine t_a (.bsl rfl rfl rfl rfl) fun b34 fb34 sb34 => ?_
  refine t_app0 (news := [.int .i64 0, .int .i64 0, .int .i64 5, .int .i64 0]) rfl rfl rfl rfl (.at 0 rfl rfl) (by decide) (by decide) (by decide) rfl fun b35 nb35 fb35 sb35 => ?_
  refine t_sti 4 (cs := [.slice (some ⟨b35, 0, none⟩) 1 (nb35 / 4)]) rfl rfl rfl rfl rfl rfl rfl rfl rfl ?_
  refine t_keep [1, 3] (σ' := [(1, .pointer (some ⟨B0, 0, none⟩)), (3, .pointer (some ⟨b33, 0, none⟩))]) (by kernel_rfl) ?_
  refine t_end ?_
  show W _ _ _ _ _ _ _
  refine w_reg fun all => ?_
  refine t_v (.ldn rfl rfl rfl (.at 2 rfl rfl)) ?_
  refine t_sti 3 (cs := [.int .i64 5, .int .i64 0]) rfl rfl rfl rfl rfl rfl rfl rfl rfl ?_
  refine t_keep [] (σ' := []) (by kernel_rfl) ?_
  refine t_end ?_
  exact ⟨[], ([⟨b35, [.int .i64 0, .int .i64 0, .int .i64 5, .int .i64 0], nb35⟩, ⟨B0, [.int .i64 5, .int .i64 0], 2⟩, ⟨B1, [.slice (some ⟨b35, 0, none⟩) 1 (nb35 / 4)], 1⟩] : List Own), S, trivial, VS.sel [0, 2, 2] (by kernel_rfl), b35, nb35, rfl, rfl, rfl⟩

/-- flatten.Path -/
def c28 : C :=
  (.seq (.reg [⟨(some 2), .box (.tmp 0), none⟩,
     ⟨(some 4), .mv (.const (.slice none 0 0)), none⟩])
  (.seq (.reg [⟨(some 5), .new [(.slice none 0 0)], none⟩])
  (.seq (.reg [⟨(some 13), .pad 0 (.tmp 2), none⟩,
     ⟨(some 14), .ld (some 2) (.tmp 13), none⟩,
     ⟨(some 6), .new [(.int .i64 0), (.int .i64 0)], none⟩,
     ⟨none, .st 2 (.tmp 6) (.tmp 14), none⟩])
  (.seq (.reg [⟨(some 15), .mkf 67 [(.tmp 6), (.tmp 5)], none⟩,
     ⟨(some 7), .mv (.tmp 15), none⟩])
  (.seq (.seq (.reg [⟨(some 16), .pad 2 (.tmp 2), none⟩,
      ⟨(some 17), .ld none (.tmp 16), none⟩,
      ⟨(some 18), .lns (.tmp 17), none⟩,
      ⟨(some 19), .mv (.const (.int .i64 0)), none⟩])
   (.block 0 (.loop (.seq (.reg [⟨(some 20), .bin .lss (.tmp 19) (.tmp 18), none⟩])
     (.seq (.cond (.tmp 20)
       .skip
       (.exit 0))
     (.seq (.block 1 (.seq (.reg [⟨(some 21), .ixs 7 (.tmp 17) (.tmp 19), none⟩,
          ⟨(some 22), .ld (some 7) (.tmp 21), none⟩,
          ⟨(some 9), .new [(.int .i64 0), (.int .i64 0), (.int .i64 0), (.int .i64 0), (.int .i64 0), (.int .i64 0), (.int .i64 0)], none⟩,
          ⟨none, .st 7 (.tmp 9) (.tmp 22), none⟩])
       (.seq (.drw [⟨(some 23), .ld (some 2) (.tmp 6), none⟩,
          ⟨(some 24), .ld (some 2) (.tmp 6), none⟩,
          ⟨(some 25), .ld (some 7) (.tmp 9), none⟩,
          ⟨(some 26), .call 29 [(.tmp 24), (.tmp 25)], none⟩,
          ⟨(some 10), .new [(.int .i64 0), (.int .i64 0)], none⟩,
          ⟨none, .st 2 (.tmp 10) (.tmp 23), none⟩,
          ⟨(some 11), .mv (.tmp 26), none⟩] [[], [], [], [1, 2], [], [4, 0, 3, 0, 4], [3, 5, 0, 1, 2, 3, 4, 5]])
       (.seq (.reg [⟨(some 12), .mv (.const (.int .i64 1)), none⟩])
       (.block 2 (.loop (.seq (.seq (.reg [⟨(some 27), .mv (.tmp 12), none⟩,
             ⟨(some 28), .mv (.tmp 11), none⟩,
             ⟨(some 29), .bin .leq (.tmp 27) (.tmp 28), none⟩])
          (.cond (.tmp 29)
           .skip
           (.exit 2)))
         (.seq (.block 3 (.reg [⟨(some 32), .mv (.tmp 7), none⟩,
             ⟨(some 33), .ld (some 2) (.tmp 10), none⟩,
             ⟨(some 34), .ld (some 7) (.tmp 9), none⟩,
             ⟨(some 35), .mv (.tmp 12), none⟩,
             ⟨(some 36), .mv (.tmp 11), none⟩,
             ⟨(some 37), .call 31 [(.tmp 33), (.tmp 34), (.tmp 35), (.tmp 36)], none⟩,
             ⟨(some 38), .clo (.tmp 32) [(.tmp 37)], none⟩]))
         (.reg [⟨(some 30), .mv (.tmp 12), none⟩,
           ⟨(some 31), .bin .add (.tmp 30) (.const (.int .i64 1)), none⟩,
           ⟨(some 12), .mv (.tmp 31), none⟩])))))))))
     (.reg [⟨(some 39), .bin .add (.tmp 19) (.const (.int .i64 1)), none⟩,
       ⟨(some 19), .mv (.tmp 39), none⟩])))))))
  (.seq (.seq (.reg [⟨(some 40), .mv (.tmp 1), none⟩,
      ⟨(some 41), .mv (.tmp 40), none⟩,
      ⟨(some 42), .pad 3 (.tmp 2), (some (41, false))⟩,
      ⟨(some 43), .ld none (.tmp 42), (some (41, false))⟩,
      ⟨(some 44), .pk (.tmp 41) (.const (.bool true)) (.tmp 43), none⟩])
   (.cond (.tmp 44)
    (.reg [⟨(some 45), .mv (.tmp 7), none⟩,
       ⟨(some 46), .pad 0 (.tmp 2), none⟩,
       ⟨(some 47), .ld (some 2) (.tmp 46), none⟩,
       ⟨(some 48), .clo (.tmp 45) [(.tmp 47)], none⟩])
    .skip))
  (.seq (.reg [⟨(some 49), .ld none (.tmp 5), none⟩,
     ⟨(some 4), .mv (.tmp 49), none⟩])
  .ret)))))))
def flatten_Path_v1.f  : Option (Unit) := (flatten_Count_v1.f).bind fun _ => ((flatten_Point_v1.f).bind fun _ => ((flatten_Path_1_v1.f).bind fun _ => (some ())))
theorem flatten_Path_v1.ok {S : Seal} {B0 : Nat}  (e : flatten_Path_v1.f  = some ()) :
    Cal Try.prog 28 [.agg #[.int .i64 0, .int .i64 0, .slice (some ⟨B0, 0, none⟩) 1 1, .bool false], .bool false] ([⟨B0, [.int .i64 1, .int .i64 5, .int .i64 0, .int .i64 0, .int .i64 0, .int .i64 0, .int .i64 0], 7⟩] : List Own) S fun v H' S' => ∃ (N0_ nN0_ : Nat) , v = .slice (some ⟨N0_, 0, none⟩) 1 (nN0_ / 4) ∧ H' = ([⟨N0_, [.int .i64 0, .int .i64 0, .int .i64 5, .int .i64 0], nN0_⟩, ⟨B0, [.int .i64 1, .int .i64 5, .int .i64 0, .int .i64 0, .int .i64 0, .int .i64 0, .int .i64 0], 7⟩] : List Own) ∧ S' = S := by
  unfold flatten_Path_v1.f at e
  refine cal_of (c := c28) (N := 50) Try.func28 rfl rfl (by kernel_rfl) (rs := [.t 4]) (by kernel_rfl) (Nat.le_of_ble_eq_true rfl) ?_
  unfold c28
  refine w_seq ?_
  refine w_reg fun all => ?_
  refine t_a (.box rfl rfl rfl) fun b6 fb6 sb6 => ?_
  refine t_qz 1 [1, 2] (σ' := [(1, .bool false), (2, .pointer (some ⟨b6, 0, none⟩))]) (by kernel_rfl) ?_
  refine t_end ?_
  show W _ _ _ _ _ _ _
  refine w_seq ?_
  refine w_reg fun all => ?_
  refine t_a (.new rfl rfl) fun b7 fb7 sb7 => ?_
  refine t_keep [1, 2, 5] (σ' := [(1, .bool false), (2, .pointer (some ⟨b6, 0, none⟩)), (5, .pointer (some ⟨b7, 0, none⟩))]) (by kernel_rfl) ?_
  refine t_end ?_
  show W _ _ _ _ _ _ _
  refine w_seq ?_
  refine w_reg fun all => ?_
  refine t_qz 1 [1, 2, 5, 13] (σ' := [(1, .bool false), (2, .pointer (some ⟨b6, 0, none⟩)), (5, .pointer (some ⟨b7, 0, none⟩)), (13, .pointer (some ⟨b6, 0, none⟩))]) (by kernel_rfl) ?_
  refine t_v (.ldn rfl rfl rfl (.at 1 rfl rfl)) ?_
  refine t_a (.new rfl rfl) fun b8 fb8 sb8 => ?_
  refine t_sti 0 (cs := [.int .i64 0, .int .i64 0]) rfl rfl rfl rfl rfl rfl rfl rfl rfl ?_
  refine t_keep [1, 2, 5, 6] (σ' := [(1, .bool false), (2, .pointer (some ⟨b6, 0, none⟩)), (5, .pointer (some ⟨b7, 0, none⟩)), (6, .pointer (some ⟨b8, 0, none⟩))]) (by kernel_rfl) ?_
  refine t_end ?_
  show W _ _ _ _ _ _ _
  refine w_seq ?_
  refine w_reg fun all => ?_
  refine t_qz 2 [1, 2, 5, 6, 7] (σ' := [(1, .bool false), (2, .pointer (some ⟨b6, 0, none⟩)), (5, .pointer (some ⟨b7, 0, none⟩)), (6, .pointer (some ⟨b8, 0, none⟩)), (7, .func (.func 67) #[] #[.pointer (some ⟨b8, 0, none⟩), .pointer (some ⟨b7, 0, none⟩)])]) (by kernel_rfl) ?_
  refine t_end ?_
  show W _ _ _ _ _ _ _
  refine w_seq ?_
  refine w_seq ?_
  refine w_reg fun all => ?_
  refine t_qz 1 [1, 2, 5, 6, 7, 16] (σ' := [(1, .bool false), (2, .pointer (some ⟨b6, 0, none⟩)), (5, .pointer (some ⟨b7, 0, none⟩)), (6, .pointer (some ⟨b8, 0, none⟩)), (7, .func (.func 67) #[] #[.pointer (some ⟨b8, 0, none⟩), .pointer (some ⟨b7, 0, none⟩)]), (16, .pointer (some ⟨b6, 2, none⟩))]) (by kernel_rfl) ?_
  refine t_v (.ld1 rfl rfl rfl (.at 2 rfl rfl)) ?_
  refine t_qz 2 [1, 2, 5, 6, 7, 17, 18, 19] (σ' := [(1, .bool false), (2, .pointer (some ⟨b6, 0, none⟩)), (5, .pointer (some ⟨b7, 0, none⟩)), (6, .pointer (some ⟨b8, 0, none⟩)), (7, .func (.func 67) #[] #[.pointer (some ⟨b8, 0, none⟩), .pointer (some ⟨b7, 0, none⟩)]), (17, .slice (some ⟨B0, 0, none⟩) 1 1), (18, .int .i64 1), (19, .int .i64 0)]) (by kernel_rfl) ?_
  refine t_end ?_
  show W _ _ _ _ _ _ _
  refine w_block ?_
  refine w_lun 10 ?_
  refine wl_step ?_
  refine w_seq ?_
  refine w_reg fun all => ?_
  refine t_qz 1 [1, 2, 5, 6, 7, 17, 18, 19, 20] (σ' := [(1, .bool false), (2, .pointer (some ⟨b6, 0, none⟩)), (5, .pointer (some ⟨b7, 0, none⟩)), (6, .pointer (some ⟨b8, 0, none⟩)), (7, .func (.func 67) #[] #[.pointer (some ⟨b8, 0, none⟩), .pointer (some ⟨b7, 0, none⟩)]), (17, .slice (some ⟨B0, 0, none⟩) 1 1), (18, .int .i64 1), (19, .int .i64 0), (20, .bool true)]) (by kernel_rfl) ?_
  refine t_end ?_
  show W _ _ _ _ _ _ _
  refine w_seq ?_
  refine w_cond rfl (fun _ => ?_) (fun c_ => by cases c_)
  show W _ _ _ _ _ _ _
  refine w_skip ?_
  show W _ _ _ _ _ _ _
  refine w_seq ?_
  refine w_block ?_
  refine w_seq ?_
  refine w_reg fun all => ?_
  refine t_qz 1 [1, 2, 5, 6, 7, 17, 18, 19, 21] (σ' := [(1, .bool false), (2, .pointer (some ⟨b6, 0, none⟩)), (5, .pointer (some ⟨b7, 0, none⟩)), (6, .pointer (some ⟨b8, 0, none⟩)), (7, .func (.func 67) #[] #[.pointer (some ⟨b8, 0, none⟩), .pointer (some ⟨b7, 0, none⟩)]), (17, .slice (some ⟨B0, 0, none⟩) 1 1), (18, .int .i64 1), (19, .int .i64 0), (21, .pointer (some ⟨B0, 0, none⟩))]) (by kernel_rfl) ?_
  refine t_v (.ldn rfl rfl rfl (.at 3 rfl rfl)) ?_
  refine t_a (.new rfl rfl) fun b9 fb9 sb9 => ?_
  refine t_sti 0 (cs := [.int .i64 1, .int .i64 5, .int .i64 0, .int .i64 0, .int .i64 0, .int .i64 0, .int .i64 0]) rfl rfl rfl rfl rfl rfl rfl rfl rfl ?_
  refine t_keep [1, 2, 5, 6, 7, 9, 17, 18, 19] (σ' := [(1, .bool false), (2, .pointer (some ⟨b6, 0, none⟩)), (5, .pointer (some ⟨b7, 0, none⟩)), (6, .pointer (some ⟨b8, 0, none⟩)), (7, .func (.func 67) #[] #[.pointer (some ⟨b8, 0, none⟩), .pointer (some ⟨b7, 0, none⟩)]), (9, .pointer (some ⟨b9, 0, none⟩)), (17, .slice (some ⟨B0, 0, none⟩) 1 1), (18, .int .i64 1), (19, .int .i64 0)]) (by kernel_rfl) ?_
  refine t_end ?_
  show W _ _ _ _ _ _ _
  refine w_seq ?_
  obtain ⟨u_, h10, e⟩ := bind_of e
  refine w_drwE mixed 5 [.v (.agg #[.int .i64 0, .int .i64 0]), .v (.agg #[.int .i64 0, .int .i64 0]), .v (.agg #[.int .i64 1, .int .i64 5, .int .i64 0, .int .i64 0, .int .i64 0, .int .i64 0, .int .i64 0]), .v (.int .i64 1), .a [.int .i64 0, .int .i64 0] ptrTo] (by kernel_rfl) ?_ ?_
  · refine .cons (.ldn rfl rfl rfl (.at 1 rfl rfl)) ?_
    refine .cons (.ldn rfl rfl rfl (.at 1 rfl rfl)) ?_
    refine .cons (.ldn rfl rfl rfl (.at 0 rfl rfl)) ?_
    refine .cons (.call (vs := [.agg #[.int .i64 0, .int .i64 0], .agg #[.int .i64 1, .int .i64 5, .int .i64 0, .int .i64 0, .int .i64 0, .int .i64 0, .int .i64 0]]) rfl rfl (by kernel_rfl) (flatten_Count_v1.ok h10)) ?_
    refine .cons (.new rfl rfl) ?_
    exact .nil
  refine fk_q 4 [1, 2, 5, 6, 7, 9, 17, 18, 19, 23, 26] (σ' := [(1, .bool false), (2, .pointer (some ⟨b6, 0, none⟩)), (5, .pointer (some ⟨b7, 0, none⟩)), (6, .pointer (some ⟨b8, 0, none⟩)), (7, .func (.func 67) #[] #[.pointer (some ⟨b8, 0, none⟩), .pointer (some ⟨b7, 0, none⟩)]), (9, .pointer (some ⟨b9, 0, none⟩)), (17, .slice (some ⟨B0, 0, none⟩) 1 1), (18, .int .i64 1), (19, .int .i64 0), (23, .agg #[.int .i64 0, .int .i64 0]), (26, .int .i64 1)]) t_more (by kernel_rfl) ?_
  refine fk_a fun b11 fb11 sb11 => ?_
  refine fk_nil fun all => ?_
  refine t_sti 0 (cs := [.int .i64 0, .int .i64 0]) rfl rfl rfl rfl rfl rfl rfl rfl rfl ?_
  refine t_qz 1 [1, 2, 5, 6, 7, 9, 10, 11, 17, 18, 19] (σ' := [(1, .bool false), (2, .pointer (some ⟨b6, 0, none⟩)), (5, .pointer (some ⟨b7, 0, none⟩)), (6, .pointer (some ⟨b8, 0, none⟩)), (7, .func (.func 67) #[] #[.pointer (some ⟨b8, 0, none⟩), .pointer (some ⟨b7, 0, none⟩)]), (9, .pointer (some ⟨b9, 0, none⟩)), (10, .pointer (some ⟨b11, 0, none⟩)), (11, .int .i64 1), (17, .slice (some ⟨B0, 0, none⟩) 1 1), (18, .int .i64 1), (19, .int .i64 0)]) (by kernel_rfl) ?_
  refine t_end ?_
  show W _ _ _ _ _ _ _
  refine w_seq ?_
  refine w_reg fun all => ?_
  refine t_qz 1 [1, 2, 5, 6, 7, 9, 10, 11, 12, 17, 18, 19] (σ' := [(1, .bool false), (2, .pointer (some ⟨b6, 0, none⟩)), (5, .pointer (some ⟨b7, 0, none⟩)), (6, .pointer (some ⟨b8, 0, none⟩)), (7, .func (.func 67) #[] #[.pointer (some ⟨b8, 0, none⟩), .pointer (some ⟨b7, 0, none⟩)]), (9, .pointer (some ⟨b9, 0, none⟩)), (10, .pointer (some ⟨b11, 0, none⟩)), (11, .int .i64 1), (12, .int .i64 1), (17, .slice (some ⟨B0, 0, none⟩) 1 1), (18, .int .i64 1), (19, .int .i64 0)]) (by kernel_rfl) ?_
  refine t_end ?_
  show W _ _ _ _ _ _ _
  refine w_block ?_
  refine w_lun 10 ?_
  refine wl_step ?_
  refine w_seq ?_
  refine w_seq ?_
  refine w_reg fun all => ?_
  refine t_qz 3 [1, 2, 5, 6, 7, 9, 10, 11, 12, 17, 18, 19, 29] (σ' := [(1, .bool false), (2, .pointer (some ⟨b6, 0, none⟩)), (5, .pointer (some ⟨b7, 0, none⟩)), (6, .pointer (some ⟨b8, 0, none⟩)), (7, .func (.func 67) #[] #[.pointer (some ⟨b8, 0, none⟩), .pointer (some ⟨b7, 0, none⟩)]), (9, .pointer (some ⟨b9, 0, none⟩)), (10, .pointer (some ⟨b11, 0, none⟩)), (11, .int .i64 1), (12, .int .i64 1), (17, .slice (some ⟨B0, 0, none⟩) 1 1), (18, .int .i64 1), (19, .int .i64 0), (29, .bool true)]) (by kernel_rfl) ?_
  refine t_end ?_
  show W _ _ _ _ _ _ _
  refine w_cond rfl (fun _ => ?_) (fun c_ => by cases c_)
  show W _ _ _ _ _ _ _
  refine w_skip ?_
  show W _ _ _ _ _ _ _
  refine w_seq ?_
  refine w_block ?_
  refine w_reg fun all => ?_
  refine t_qz 1 [1, 2, 5, 6, 7, 9, 10, 11, 12, 17, 18, 19, 32] (σ' := [(1, .bool false), (2, .pointer (some ⟨b6, 0, none⟩)), (5, .pointer (some ⟨b7, 0, none⟩)), (6, .pointer (some ⟨b8, 0, none⟩)), (7, .func (.func 67) #[] #[.pointer (some ⟨b8, 0, none⟩), .pointer (some ⟨b7, 0, none⟩)]), (9, .pointer (some ⟨b9, 0, none⟩)), (10, .pointer (some ⟨b11, 0, none⟩)), (11, .int .i64 1), (12, .int .i64 1), (17, .slice (some ⟨B0, 0, none⟩) 1 1), (18, .int .i64 1), (19, .int .i64 0), (32, .func (.func 67) #[] #[.pointer (some ⟨b8, 0, none⟩), .pointer (some ⟨b7, 0, none⟩)])]) (by kernel_rfl) ?_
  refine t_v (.ldn rfl rfl rfl (.at 0 rfl rfl)) ?_
  refine t_v (.ldn rfl rfl rfl (.at 1 rfl rfl)) ?_
  obtain ⟨u_, h29, e⟩ := bind_of e
  refine t_qz 2 [1, 2, 5, 6, 7, 9, 10, 11, 12, 17, 18, 19, 32, 33, 34, 35, 36] (σ' := [(1, .bool false), (2, .pointer (some ⟨b6, 0, none⟩)), (5, .pointer (some ⟨b7, 0, none⟩)), (6, .pointer (some ⟨b8, 0, none⟩)), (7, .func (.func 67) #[] #[.pointer (some ⟨b8, 0, none⟩), .pointer (some ⟨b7, 0, none⟩)]), (9, .pointer (some ⟨b9, 0, none⟩)), (10, .pointer (some ⟨b11, 0, none⟩)), (11, .int .i64 1), (12, .int .i64 1), (17, .slice (some ⟨B0, 0, none⟩) 1 1), (18, .int .i64 1), (19, .int .i64 0), (32, .func (.func 67) #[] #[.pointer (some ⟨b8, 0, none⟩), .pointer (some ⟨b7, 0, none⟩)]), (33, .agg #[.int .i64 0, .int .i64 0]), (34, .agg #[.int .i64 1, .int .i64 5, .int .i64 0, .int .i64 0, .int .i64 0, .int .i64 0, .int .i64 0]), (35, .int .i64 1), (36, .int .i64 1)]) (by kernel_rfl) ?_
  refine t_v (.call (vs := [.agg #[.int .i64 0, .int .i64 0], .agg #[.int .i64 1, .int .i64 5, .int .i64 0, .int .i64 0, .int .i64 0, .int .i64 0, .int .i64 0], .int .i64 1, .int .i64 1]) rfl rfl (by kernel_rfl) (flatten_Point_v1.ok h29)) ?_
  obtain ⟨u_, h36, e⟩ := bind_of e
  refine t_clo (caps := #[.pointer (some ⟨b8, 0, none⟩), .pointer (some ⟨b7, 0, none⟩)]) (vs := [.agg #[.int .i64 5, .int .i64 0]]) (H1 := ([⟨b8, [.int .i64 0, .int .i64 0], 2⟩, ⟨b7, [.slice none 0 0], 1⟩] : List Own)) (F := ([⟨b11, [.int .i64 0, .int .i64 0], 2⟩, ⟨b9, [.int .i64 1, .int .i64 5, .int .i64 0, .int .i64 0, .int .i64 0, .int .i64 0, .int .i64 0], 7⟩, ⟨b6, [.int .i64 0, .int .i64 0, .slice (some ⟨B0, 0, none⟩) 1 1, .bool false], 4⟩, ⟨B0, [.int .i64 1, .int .i64 5, .int .i64 0, .int .i64 0, .int .i64 0, .int .i64 0, .int .i64 0], 7⟩] : List Own)) rfl rfl rfl (by kernel_rfl) (by kernel_rfl) (sel_perm (is := [2, 2]) (by kernel_rfl)) (flatten_Path_1_v1.ok h36) ?_
  rintro _ _ S_ ⟨N37, nN37, rfl, rfl, hS_⟩
  obtain rfl := hS_.symm
  refine t_keep [1, 2, 5, 6, 7, 9, 10, 11, 12, 17, 18, 19] (σ' := [(1, .bool false), (2, .pointer (some ⟨b6, 0, none⟩)), (5, .pointer (some ⟨b7, 0, none⟩)), (6, .pointer (some ⟨b8, 0, none⟩)), (7, .func (.func 67) #[] #[.pointer (some ⟨b8, 0, none⟩), .pointer (some ⟨b7, 0, none⟩)]), (9, .pointer (some ⟨b9, 0, none⟩)), (10, .pointer (some ⟨b11, 0, none⟩)), (11, .int .i64 1), (12, .int .i64 1), (17, .slice (some ⟨B0, 0, none⟩) 1 1), (18, .int .i64 1), (19, .int .i64 0)]) (by kernel_rfl) ?_
  refine t_end ?_
  show W _ _ _ _ _ _ _
  refine w_reg fun all => ?_
  refine t_qz 3 [1, 2, 5, 6, 7, 9, 10, 11, 12, 17, 18, 19] (σ' := [(1, .bool false), (2, .pointer (some ⟨b6, 0, none⟩)), (5, .pointer (some ⟨b7, 0, none⟩)), (6, .pointer (some ⟨b8, 0, none⟩)), (7, .func (.func 67) #[] #[.pointer (some ⟨b8, 0, none⟩), .pointer (some ⟨b7, 0, none⟩)]), (9, .pointer (some ⟨b9, 0, none⟩)), (10, .pointer (some ⟨b11, 0, none⟩)), (11, .int .i64 1), (12, .int .i64 2), (17, .slice (some ⟨B0, 0, none⟩) 1 1), (18, .int .i64 1), (19, .int .i64 0)]) (by kernel_rfl) ?_
  refine t_end ?_
  show WL _ _ _ _ _ _ _ _
  refine wl_step ?_
  refine w_seq ?_
  refine w_seq ?_
  refine w_reg fun all => ?_
  refine t_qz 3 [1, 2, 5, 6, 7, 9, 10, 11, 12, 17, 18, 19, 29] (σ' := [(1, .bool false), (2, .pointer (some ⟨b6, 0, none⟩)), (5, .pointer (some ⟨b7, 0, none⟩)), (6, .pointer (some ⟨b8, 0, none⟩)), (7, .func (.func 67) #[] #[.pointer (some ⟨b8, 0, none⟩), .pointer (some ⟨b7, 0, none⟩)]), (9, .pointer (some ⟨b9, 0, none⟩)), (10, .pointer (some ⟨b11, 0, none⟩)), (11, .int .i64 1), (12, .int .i64 2), (17, .slice (some ⟨B0, 0, none⟩) 1 1), (18, .int .i64 1), (19, .int .i64 0), (29, .bool false)]) (by kernel_rfl) ?_
  refine t_end ?_
  show W _ _ _ _ _ _ _
  refine w_cond rfl (fun c_ => by cases c_) (fun _ => ?_)
  show W _ _ _ _ _ _ _
  refine w_exit ?_
  show W _ _ _ _ _ _ _
  refine w_reg fun all => ?_
  refine t_qz 2 [1, 2, 5, 6, 7, 17, 18, 19] (σ' := [(1, .bool false), (2, .pointer (some ⟨b6, 0, none⟩)), (5, .pointer (some ⟨b7, 0, none⟩)), (6, .pointer (some ⟨b8, 0, none⟩)), (7, .func (.func 67) #[] #[.pointer (some ⟨b8, 0, none⟩), .pointer (some ⟨b7, 0, none⟩)]), (17, .slice (some ⟨B0, 0, none⟩) 1 1), (18, .int .i64 1), (19, .int .i64 1)]) (by kernel_rfl) ?_
  refine t_end ?_
  show WL _ _ _ _ _ _ _ _
  refine wl_step ?_
  refine w_seq ?_
  refine w_reg fun all => ?_
  refine t_qz 1 [1, 2, 5, 6, 7, 17, 18, 19, 20] (σ' := [(1, .bool false), (2, .pointer (some ⟨b6, 0, none⟩)), (5, .pointer (some ⟨b7, 0, none⟩)), (6, .pointer (some ⟨b8, 0, none⟩)), (7, .func (.func 67) #[] #[.pointer (some ⟨b8, 0, none⟩), .pointer (some ⟨b7, 0, none⟩)]), (17, .slice (some ⟨B0, 0, none⟩) 1 1), (18, .int .i64 1), (19, .int .i64 1), (20, .bool false)]) (by kernel_rfl) ?_
  refine t_end ?_
  show W _ _ _ _ _ _ _
  refine w_seq ?_
  refine w_cond rfl (fun c_ => by cases c_) (fun _ => ?_)
  show W _ _ _ _ _ _ _
  refine w_exit ?_
  show W _ _ _ _ _ _ _
  refine w_seq ?_
  refine w_seq ?_
  refine w_reg fun all => ?_
  refine t_qz 3 [2, 5, 7, 41, 42] (σ' := [(2, .pointer (some ⟨b6, 0, none⟩)), (5, .pointer (some ⟨b7, 0, none⟩)), (7, .func (.func 67) #[] #[.pointer (some ⟨b8, 0, none⟩), .pointer (some ⟨b7, 0, none⟩)]), (41, .bool false), (42, .pointer (some ⟨b6, 3, none⟩))]) (by kernel_rfl) ?_
  refine t_v (.ld1 rfl rfl rfl (.at 5 rfl rfl)) ?_
  refine t_qz 1 [2, 5, 7, 44] (σ' := [(2, .pointer (some ⟨b6, 0, none⟩)), (5, .pointer (some ⟨b7, 0, none⟩)), (7, .func (.func 67) #[] #[.pointer (some ⟨b8, 0, none⟩), .pointer (some ⟨b7, 0, none⟩)]), (44, .bool false)]) (by kernel_rfl) ?_
  refine t_end ?_
  show W _ _ _ _ _ _ _
  refine w_cond rfl (fun c_ => by cases c_) (fun _ => ?_)
  show W _ _ _ _ _ _ _
  refine w_skip ?_
  show W _ _ _ _ _ _ _
  refine w_seq ?_
  refine w_reg fun all => ?_
  refine t_v (.ld1 rfl rfl rfl (.at 2 rfl rfl)) ?_
  refine t_qz 1 [4] (σ' := [(4, .slice (some ⟨N37, 0, none⟩) 1 (nN37 / 4))]) (by kernel_rfl) ?_
  refine t_end ?_
  show W _ _ _ _ _ _ _
  refine w_ret ?_
  exact ⟨[.slice (some ⟨N37, 0, none⟩) 1 (nN37 / 4)], ([⟨N37, [.int .i64 0, .int .i64 0, .int .i64 5, .int .i64 0], nN37⟩, ⟨B0, [.int .i64 1, .int .i64 5, .int .i64 0, .int .i64 0, .int .i64 0, .int .i64 0, .int .i64 0], 7⟩] : List Own), S, ⟨rfl, trivial⟩, VS.sel [0, 5] (by kernel_rfl), N37, nN37, rfl, rfl, rfl⟩

/-- glyphiclaw21.first -/
def c26 : C :=
  (.seq (.reg [⟨(some 0), .mv (.const (.bool false)), none⟩])
  (.seq (.reg [⟨(some 2), .bld [(.int .i64 0), (.int .i64 0)] [(0, 1, (.const (.int .i64 5)))], none⟩,
     ⟨(some 3), .bld [(.int .i64 0), (.int .i64 0), (.int .i64 0), (.int .i64 0), (.int .i64 0), (.int .i64 0)] [(0, 2, (.tmp 2))], none⟩,
     ⟨(some 4), .bld [(.int .i64 0), (.int .i64 0), (.int .i64 0), (.int .i64 0), (.int .i64 0), (.int .i64 0), (.int .i64 0)] [(0, 1, (.const (.int .i64 1))), (1, 6, (.tmp 3))], none⟩,
     ⟨(some 1), .new [(.int .i64 0), (.int .i64 0), (.int .i64 0), (.int .i64 0), (.int .i64 0), (.int .i64 0), (.int .i64 0)], none⟩,
     ⟨none, .st 7 (.tmp 1) (.tmp 4), none⟩])
  (.seq (.reg [⟨(some 5), .bld [(.int .i64 0), (.int .i64 0)] [], none⟩,
     ⟨(some 6), .ld (some 7) (.tmp 1), none⟩,
     ⟨(some 7), .call 29 [(.tmp 5), (.tmp 6)], none⟩,
     ⟨(some 8), .bin .eql (.tmp 7) (.const (.int .i64 1)), none⟩,
     ⟨(some 9), .mv (.tmp 8), none⟩,
     ⟨(some 10), .ld (some 7) (.tmp 1), (some (9, true))⟩,
     ⟨(some 11), .bsl [(.int .i64 0), (.int .i64 0), (.int .i64 0), (.int .i64 0), (.int .i64 0), (.int .i64 0), (.int .i64 0)] 1 [(0, 7, (.tmp 10))], (some (9, true))⟩,
     ⟨(some 12), .bld [(.int .i64 0), (.int .i64 0), (.slice none 0 0), (.bool false)] [(2, 1, (.tmp 11))], (some (9, true))⟩,
     ⟨(some 13), .call 28 [(.tmp 12), (.const (.bool false))], (some (9, true))⟩,
     ⟨(some 14), .lns (.tmp 13), (some (9, true))⟩,
     ⟨(some 15), .bin .eql (.tmp 14) (.const (.int .i64 1)), (some (9, true))⟩,
     ⟨(some 16), .pk (.tmp 9) (.tmp 15) (.const (.bool false)), none⟩,
     ⟨(some 0), .mv (.tmp 16), none⟩])
  .ret)))
def glyphiclaw21_first.f  : Option (Bool) := (flatten_Count_v1.f).bind fun _ => ((flatten_Path_v1.f).bind fun _ => (some true))
theorem glyphiclaw21_first.ok {S : Seal}  {r0_ : Bool}(e : glyphiclaw21_first.f  = some r0_) :
    Cal Try.prog 26 [] [] S fun v H' S' => v = .bool r0_ ∧ H' = [] ∧ S' = S := by
  unfold glyphiclaw21_first.f at e
  refine cal_of (c := c26) (N := 17) Try.func26 rfl rfl (by kernel_rfl) (rs := [.t 0]) (by kernel_rfl) (Nat.le_of_ble_eq_true rfl) ?_
  unfold c26
  refine w_seq ?_
  refine w_reg fun all => ?_
  refine t_qz 1 [] (σ' := []) (by kernel_rfl) ?_
  refine t_end ?_
  show W _ _ _ _ _ _ _
  refine w_seq ?_
  refine w_reg fun all => ?_
  refine t_qz 3 [4] (σ' := [(4, .agg #[.int .i64 1, .int .i64 5, .int .i64 0, .int .i64 0, .int .i64 0, .int .i64 0, .int .i64 0])]) (by kernel_rfl) ?_
  refine t_a (.new rfl rfl) fun b1 fb1 sb1 => ?_
  refine t_sti 0 (cs := [.int .i64 1, .int .i64 5, .int .i64 0, .int .i64 0, .int .i64 0, .int .i64 0, .int .i64 0]) rfl rfl rfl rfl rfl rfl rfl rfl rfl ?_
  refine t_keep [1] (σ' := [(1, .pointer (some ⟨b1, 0, none⟩))]) (by kernel_rfl) ?_
  refine t_end ?_
  show W _ _ _ _ _ _ _
  refine w_seq ?_
  refine w_reg fun all => ?_
  refine t_qz 1 [1, 5] (σ' := [(1, .pointer (some ⟨b1, 0, none⟩)), (5, .agg #[.int .i64 0, .int .i64 0])]) (by kernel_rfl) ?_
  refine t_v (.ldn rfl rfl rfl (.at 0 rfl rfl)) ?_
  obtain ⟨u_, h4, e⟩ := bind_of e
  refine t_v (.call (vs := [.agg #[.int .i64 0, .int .i64 0], .agg #[.int .i64 1, .int .i64 5, .int .i64 0, .int .i64 0, .int .i64 0, .int .i64 0, .int .i64 0]]) rfl rfl (by kernel_rfl) (flatten_Count_v1.ok h4)) ?_
  refine t_qz 2 [1, 9] (σ' := [(1, .pointer (some ⟨b1, 0, none⟩)), (9, .bool true)]) (by kernel_rfl) ?_
  refine t_v (.ldn rfl rfl rfl (.at 0 rfl rfl)) ?_
  refine t_a (.bsl rfl rfl rfl rfl) fun b5 fb5 sb5 => ?_
  obtain ⟨u_, h38, e⟩ := bind_of e
  refine t_qz 1 [9, 12] (σ' := [(9, .bool true), (12, .agg #[.int .i64 0, .int .i64 0, .slice (some ⟨b5, 0, none⟩) 1 1, .bool false])]) (by kernel_rfl) ?_
  refine t_call (vs := [.agg #[.int .i64 0, .int .i64 0, .slice (some ⟨b5, 0, none⟩) 1 1, .bool false], .bool false]) (H1 := ([⟨b5, [.int .i64 1, .int .i64 5, .int .i64 0, .int .i64 0, .int .i64 0, .int .i64 0, .int .i64 0], 7⟩] : List Own)) (F := ([⟨b1, [.int .i64 1, .int .i64 5, .int .i64 0, .int .i64 0, .int .i64 0, .int .i64 0, .int .i64 0], 7⟩] : List Own)) rfl rfl (by kernel_rfl) (sel_perm (is := [0]) (by kernel_rfl)) (flatten_Path_v1.ok h38) ?_
  rintro _ _ S_ ⟨N39, nN39, rfl, rfl, hS_⟩
  obtain rfl := hS_.symm
  refine t_qz 4 [0] (σ' := [(0, .bool true)]) (by kernel_rfl) ?_
  refine t_end ?_
  show W _ _ _ _ _ _ _
  refine w_ret ?_
  obtain rfl := Option.some.inj e
  exact ⟨[.bool true], [], S, ⟨rfl, trivial⟩, VS.none, rfl, rfl, rfl⟩

/-- glyphicworld.Number -/
def c44 : C :=
  (.seq (.reg [⟨(some 4), .mv (.const (.int .i64 0)), none⟩])
  (.seq (.reg [⟨(some 6), .mv (.tmp 0), none⟩,
     ⟨(some 7), .mv (.tmp 1), none⟩,
     ⟨(some 8), .bin .rem (.tmp 6) (.tmp 7), none⟩,
     ⟨(some 5), .mv (.tmp 8), none⟩])
  (.seq (.seq (.reg [⟨(some 9), .mv (.tmp 5), none⟩,
      ⟨(some 10), .bin .lss (.tmp 9) (.const (.int .i64 0)), none⟩])
   (.cond (.tmp 10)
    (.reg [⟨(some 11), .mv (.tmp 5), none⟩,
       ⟨(some 12), .mv (.tmp 1), none⟩,
       ⟨(some 13), .bin .add (.tmp 11) (.tmp 12), none⟩,
       ⟨(some 5), .mv (.tmp 13), none⟩])
    .skip))
  (.seq (.reg [⟨(some 14), .mv (.tmp 5), none⟩,
     ⟨(some 4), .mv (.tmp 14), none⟩])
  .ret))))
def glyphicworld_Number.f (n0 : Int) (below1 : Int) : Option (Int) := if below1 = 0 then none else (if (Int.tmod n0 below1) < 0 then (some (wr64 ((Int.tmod n0 below1) + below1))) else (some (Int.tmod n0 below1)))
theorem glyphicworld_Number.ok {S : Seal} {n0 : Int} {below1 : Int} {r0_ : Int}(e : glyphicworld_Number.f n0 below1 = some r0_) :
    Cal Try.prog 44 [.int .i64 n0, .int .i64 below1] [] S fun v H' S' => v = .int .i64 r0_ ∧ H' = [] ∧ S' = S := by
  unfold glyphicworld_Number.f at e
  refine cal_of (c := c44) (N := 15) Try.func44 rfl rfl (by kernel_rfl) (rs := [.t 4]) (by kernel_rfl) (Nat.le_of_ble_eq_true rfl) ?_
  unfold c44
  refine w_seq ?_
  refine w_reg fun all => ?_
  refine t_qz 1 [0, 1] (σ' := [(0, .int .i64 n0), (1, .int .i64 below1)]) (by kernel_rfl) ?_
  refine t_end ?_
  show W _ _ _ _ _ _ _
  refine w_seq ?_
  refine w_reg fun all => ?_
  have c61 : ¬ below1 = 0 := by
    intro h_; rw [if_pos h_] at e; cases e
  rw [if_neg c61] at e
  refine t_qz 2 [1, 6, 7] (σ' := [(1, .int .i64 below1), (6, .int .i64 n0), (7, .int .i64 below1)]) (by kernel_rfl) ?_
  refine t_v (.quiet rfl (qv_rem rfl rfl c61)) ?_
  refine t_qz 1 [1, 5] (σ' := [(1, .int .i64 below1), (5, .int .i64 (Int.tmod n0 below1))]) (by kernel_rfl) ?_
  refine t_end ?_
  show W _ _ _ _ _ _ _
  refine w_seq ?_
  refine w_seq ?_
  refine w_reg fun all => ?_
  by_cases c62 : (Int.tmod n0 below1) < 0
  · rw [if_pos c62] at e
    have c62b : (decide ((Int.tmod n0 below1) < 0)) = true := decide_eq_true c62
    refine t_qz 1 [1, 5, 9] (σ' := [(1, .int .i64 below1), (5, .int .i64 (Int.tmod n0 below1)), (9, .int .i64 (Int.tmod n0 below1))]) (by kernel_rfl) ?_
    refine t_v (dv_quiet rfl (congrArg (fun t => some (Value.bool t)) c62b)) ?_
    refine t_keep [1, 5, 10] (σ' := [(1, .int .i64 below1), (5, .int .i64 (Int.tmod n0 below1)), (10, .bool true)]) (by kernel_rfl) ?_
    refine t_end ?_
    show W _ _ _ _ _ _ _
    refine w_cond rfl (fun _ => ?_) (fun c_ => by cases c_)
    show W _ _ _ _ _ _ _
    refine w_reg fun all => ?_
    refine t_qz 4 [5] (σ' := [(5, .int .i64 (wr64 ((Int.tmod n0 below1) + below1)))]) (by kernel_rfl) ?_
    refine t_end ?_
    show W _ _ _ _ _ _ _
    refine w_seq ?_
    refine w_reg fun all => ?_
    refine t_qz 2 [4] (σ' := [(4, .int .i64 (wr64 ((Int.tmod n0 below1) + below1)))]) (by kernel_rfl) ?_
    refine t_end ?_
    show W _ _ _ _ _ _ _
    refine w_ret ?_
    obtain rfl := Option.some.inj e
    exact ⟨[.int .i64 (wr64 ((Int.tmod n0 below1) + below1))], [], S, ⟨rfl, trivial⟩, VS.none, rfl, rfl, rfl⟩
  · rw [if_neg c62] at e
    have c62b : (decide ((Int.tmod n0 below1) < 0)) = false := decide_eq_false c62
    refine t_qz 1 [1, 5, 9] (σ' := [(1, .int .i64 below1), (5, .int .i64 (Int.tmod n0 below1)), (9, .int .i64 (Int.tmod n0 below1))]) (by kernel_rfl) ?_
    refine t_v (dv_quiet rfl (congrArg (fun t => some (Value.bool t)) c62b)) ?_
    refine t_keep [1, 5, 10] (σ' := [(1, .int .i64 below1), (5, .int .i64 (Int.tmod n0 below1)), (10, .bool false)]) (by kernel_rfl) ?_
    refine t_end ?_
    show W _ _ _ _ _ _ _
    refine w_cond rfl (fun c_ => by cases c_) (fun _ => ?_)
    show W _ _ _ _ _ _ _
    refine w_skip ?_
    show W _ _ _ _ _ _ _
    refine w_seq ?_
    refine w_reg fun all => ?_
    refine t_qz 2 [4] (σ' := [(4, .int .i64 (Int.tmod n0 below1))]) (by kernel_rfl) ?_
    refine t_end ?_
    show W _ _ _ _ _ _ _
    refine w_ret ?_
    obtain rfl := Option.some.inj e
    exact ⟨[.int .i64 (Int.tmod n0 below1)], [], S, ⟨rfl, trivial⟩, VS.none, rfl, rfl, rfl⟩

/-- (*glyphicmake.Seq).Next -/
def c37 : C :=
  (.seq (.reg [⟨(some 4), .mv (.const (.int .i64 0)), none⟩])
  (.seq (.reg [⟨(some 5), .mv (.const (.int .i64 0)), none⟩])
  (.seq (.seq (.drw [⟨(some 6), .mv (.tmp 0), none⟩,
      ⟨(some 7), .nck (.tmp 6), none⟩,
      ⟨(some 8), .pad 1 (.tmp 7), none⟩,
      ⟨(some 9), .ld none (.tmp 8), none⟩,
      ⟨(some 10), .mv (.tmp 0), none⟩,
      ⟨(some 11), .nck (.tmp 10), none⟩,
      ⟨(some 12), .pad 0 (.tmp 11), none⟩,
      ⟨(some 13), .ld none (.tmp 12), none⟩,
      ⟨(some 14), .lns (.tmp 13), none⟩,
      ⟨(some 15), .bin .lss (.tmp 9) (.tmp 14), none⟩] [[], [0], [1], [2], [], [4], [5], [6], [7], [3, 8]])
   (.cond (.tmp 15)
    (.drw [⟨(some 16), .mv (.tmp 0), none⟩,
       ⟨(some 17), .nck (.tmp 16), none⟩,
       ⟨(some 18), .pad 0 (.tmp 17), none⟩,
       ⟨(some 19), .ld none (.tmp 18), none⟩,
       ⟨(some 20), .mv (.tmp 0), none⟩,
       ⟨(some 21), .nck (.tmp 20), none⟩,
       ⟨(some 22), .pad 1 (.tmp 21), none⟩,
       ⟨(some 23), .ld none (.tmp 22), none⟩,
       ⟨(some 24), .ixs 1 (.tmp 19) (.tmp 23), none⟩,
       ⟨(some 25), .ld none (.tmp 24), none⟩,
       ⟨(some 5), .mv (.tmp 25), none⟩] [[], [0], [1], [2], [], [4], [5], [6], [3, 7], [8], [9, 0, 1, 2, 3, 4, 5, 6, 7, 8, 9]])
    .skip))
  (.seq (.reg [⟨(some 26), .mv (.tmp 0), none⟩,
     ⟨(some 27), .mv (.tmp 0), none⟩,
     ⟨(some 28), .nck (.tmp 27), none⟩,
     ⟨(some 29), .pad 1 (.tmp 28), none⟩,
     ⟨(some 30), .ld none (.tmp 29), none⟩,
     ⟨(some 31), .bin .add (.tmp 30) (.const (.int .i64 1)), none⟩,
     ⟨(some 32), .nck (.tmp 26), none⟩,
     ⟨(some 33), .pad 1 (.tmp 32), none⟩,
     ⟨none, .st 1 (.tmp 33) (.tmp 31), none⟩])
  (.seq (.reg [⟨(some 34), .mv (.tmp 5), none⟩,
     ⟨(some 35), .mv (.tmp 1), none⟩,
     ⟨(some 36), .call 44 [(.tmp 34), (.tmp 35)], none⟩,
     ⟨(some 4), .mv (.tmp 36), none⟩])
  .ret)))))
def glyphicmake_Seq_Next_v1.f (below1 : Int) (m0_0 : List (Int)) (m0_1 : Int) : Option (Int × Int) := (if m0_1 < (m0_0.length : Int) then ((lgt m0_0 m0_1).bind fun x69 => (some x69)) else (some 0) : Option (Int)).bind fun x79 => ((glyphicworld_Number.f x79 below1).bind fun t80 => (some (t80, wr64 (m0_1 + 1))))
theorem glyphicmake_Seq_Next_v1.ok {S : Seal} {B0 : Nat} {below1 : Int} {m0_0 : List (Int)} {m0_1 : Int} {r0_ : Int} {r1_ : Int}{a_m0_0 : Option Addr} {c_m0_0 : Nat} (h_m0_0 : SlE S E_i64 m0_0 a_m0_0) (e : glyphicmake_Seq_Next_v1.f below1 m0_0 m0_1 = some (r0_, r1_)) :
    Cal Try.prog 37 [.pointer (some ⟨B0, 0, none⟩), .int .i64 below1] ([⟨B0, [.slice a_m0_0 m0_0.length c_m0_0, .int .i64 m0_1], 2⟩] : List Own) S fun v H' S' => v = .int .i64 r0_ ∧ H' = ([⟨B0, [.slice a_m0_0 m0_0.length c_m0_0, .int .i64 r1_], 2⟩] : List Own) ∧ S' = S := by
  unfold glyphicmake_Seq_Next_v1.f at e
  refine cal_of (c := c37) (N := 37) Try.func37 rfl rfl (by kernel_rfl) (rs := [.t 4]) (by kernel_rfl) (Nat.le_of_ble_eq_true rfl) ?_
  unfold c37
  refine w_seq ?_
  refine w_reg fun all => ?_
  refine t_qz 1 [0, 1] (σ' := [(0, .pointer (some ⟨B0, 0, none⟩)), (1, .int .i64 below1)]) (by kernel_rfl) ?_
  refine t_end ?_
  show W _ _ _ _ _ _ _
  refine w_seq ?_
  refine w_reg fun all => ?_
  refine t_qz 1 [0, 1, 5] (σ' := [(0, .pointer (some ⟨B0, 0, none⟩)), (1, .int .i64 below1), (5, .int .i64 0)]) (by kernel_rfl) ?_
  refine t_end ?_
  show W _ _ _ _ _ _ _
  obtain ⟨x79, e66, e⟩ := bind_of e
  refine w_cut [0, 1, 5] (fun σ_ H_ S_ => [(0, .pointer (some ⟨B0, 0, none⟩)), (1, .int .i64 below1), (5, .int .i64 x79)] = σ_ ∧ ([⟨B0, [.slice a_m0_0 m0_0.length c_m0_0, .int .i64 m0_1], 2⟩] : List Own) = H_ ∧ S = S_) ?_ ?_
  · show W _ _ _ _ _ _ _
    refine w_seq ?_
    by_cases c68 : m0_1 < (m0_0.length : Int)
    · rw [if_pos c68] at e66
      have c68b : (decide (m0_1 < (m0_0.length : Int))) = true := decide_eq_true c68
      refine w_drwE mixed 10 [.v (.pointer (some ⟨B0, 0, none⟩)), .v (.pointer (some ⟨B0, 0, none⟩)), .v (.pointer (some ⟨B0, 1, none⟩)), .v (.int .i64 m0_1), .v (.pointer (some ⟨B0, 0, none⟩)), .v (.pointer (some ⟨B0, 0, none⟩)), .v (.pointer (some ⟨B0, 0, none⟩)), .v (.slice a_m0_0 m0_0.length c_m0_0), .v (.int .i64 (m0_0.length : Int)), .v (.bool true)] (by kernel_rfl) ?_ ?_
      · refine DI.sq 3 (by kernel_rfl) rfl ?_
        refine .cons (.ld1 rfl rfl rfl (.at 0 rfl rfl)) ?_
        refine DI.sq 3 (by kernel_rfl) rfl ?_
        refine .cons (.ld1 rfl rfl rfl (.at 0 rfl rfl)) ?_
        refine DI.sq 1 (by kernel_rfl) rfl ?_
        refine .cons (dv_quiet rfl (congrArg (fun t => some (Value.bool t)) c68b)) ?_
        exact .nil
      refine fk_q 10 [0, 1, 5, 15] (σ' := [(0, .pointer (some ⟨B0, 0, none⟩)), (1, .int .i64 below1), (5, .int .i64 0), (15, .bool true)]) t_more (by kernel_rfl) ?_
      refine fk_nil fun all => ?_
      refine t_keep [0, 1, 5, 15] (σ' := [(0, .pointer (some ⟨B0, 0, none⟩)), (1, .int .i64 below1), (5, .int .i64 0), (15, .bool true)]) (by kernel_rfl) ?_
      refine t_end ?_
      show W _ _ _ _ _ _ _
      refine w_cond rfl (fun _ => ?_) (fun c_ => by cases c_)
      show W _ _ _ _ _ _ _
      obtain ⟨x69, hx70, e66⟩ := bind_of e66
      obtain ⟨lb71, lo72, ll73, la74, lS75, lv76, lz77, lu78⟩ := sle_get (E := E_i64) h_m0_0 hx70
      refine w_drwE mixed 11 [.v (.pointer (some ⟨B0, 0, none⟩)), .v (.pointer (some ⟨B0, 0, none⟩)), .v (.pointer (some ⟨B0, 0, none⟩)), .v (.slice a_m0_0 m0_0.length c_m0_0), .v (.pointer (some ⟨B0, 0, none⟩)), .v (.pointer (some ⟨B0, 0, none⟩)), .v (.pointer (some ⟨B0, 1, none⟩)), .v (.int .i64 m0_1), .v (.pointer (some ⟨lb71, lo72 + (m0_1).toNat * 1 + 0, none⟩)), .v (.int .i64 x69), .v (.int .i64 x69)] (by kernel_rfl) ?_ ?_
      · refine DI.sq 3 (by kernel_rfl) rfl ?_
        refine .cons (.ld1 rfl rfl rfl (.at 0 rfl rfl)) ?_
        refine DI.sq 3 (by kernel_rfl) rfl ?_
        refine .cons (.ld1 rfl rfl rfl (.at 0 rfl rfl)) ?_
        refine .cons (.quiet rfl (ixs_sle rfl rfl la74 lz77 lu78)) ?_
        refine .cons (.ld1 rfl rfl rfl (.sealed lS75 (subl_at lv76 rfl))) ?_
        refine DI.sq 1 (by kernel_rfl) rfl ?_
        exact .nil
      refine fk_q 11 [0, 1, 5] (σ' := [(0, .pointer (some ⟨B0, 0, none⟩)), (1, .int .i64 below1), (5, .int .i64 x69)]) t_more (by kernel_rfl) ?_
      refine fk_nil fun all => ?_
      refine t_keep [0, 1, 5] (σ' := [(0, .pointer (some ⟨B0, 0, none⟩)), (1, .int .i64 below1), (5, .int .i64 x69)]) (by kernel_rfl) ?_
      refine t_end ?_
      obtain rfl := Option.some.inj e66
      exact ⟨([⟨B0, [.slice a_m0_0 m0_0.length c_m0_0, .int .i64 m0_1], 2⟩] : List Own), S, VS.sel [0] (by kernel_rfl), by kernel_rfl, rfl, rfl⟩
    · rw [if_neg c68] at e66
      have c68b : (decide (m0_1 < (m0_0.length : Int))) = false := decide_eq_false c68
      refine w_drwE mixed 10 [.v (.pointer (some ⟨B0, 0, none⟩)), .v (.pointer (some ⟨B0, 0, none⟩)), .v (.pointer (some ⟨B0, 1, none⟩)), .v (.int .i64 m0_1), .v (.pointer (some ⟨B0, 0, none⟩)), .v (.pointer (some ⟨B0, 0, none⟩)), .v (.pointer (some ⟨B0, 0, none⟩)), .v (.slice a_m0_0 m0_0.length c_m0_0), .v (.int .i64 (m0_0.length : Int)), .v (.bool false)] (by kernel_rfl) ?_ ?_
      · refine DI.sq 3 (by kernel_rfl) rfl ?_
        refine .cons (.ld1 rfl rfl rfl (.at 0 rfl rfl)) ?_
        refine DI.sq 3 (by kernel_rfl) rfl ?_
        refine .cons (.ld1 rfl rfl rfl (.at 0 rfl rfl)) ?_
        refine DI.sq 1 (by kernel_rfl) rfl ?_
        refine .cons (dv_quiet rfl (congrArg (fun t => some (Value.bool t)) c68b)) ?_
        exact .nil
      refine fk_q 10 [0, 1, 5, 15] (σ' := [(0, .pointer (some ⟨B0, 0, none⟩)), (1, .int .i64 below1), (5, .int .i64 0), (15, .bool false)]) t_more (by kernel_rfl) ?_
      refine fk_nil fun all => ?_
      refine t_keep [0, 1, 5, 15] (σ' := [(0, .pointer (some ⟨B0, 0, none⟩)), (1, .int .i64 below1), (5, .int .i64 0), (15, .bool false)]) (by kernel_rfl) ?_
      refine t_end ?_
      show W _ _ _ _ _ _ _
      refine w_cond rfl (fun c_ => by cases c_) (fun _ => ?_)
      show W _ _ _ _ _ _ _
      refine w_skip ?_
      obtain rfl := Option.some.inj e66
      exact ⟨([⟨B0, [.slice a_m0_0 m0_0.length c_m0_0, .int .i64 m0_1], 2⟩] : List Own), S, VS.sel [0] (by kernel_rfl), by kernel_rfl, rfl, rfl⟩
  · rintro σ_ H_ S_ ⟨rfl, rfl, rfl⟩
    refine w_seq ?_
    refine w_reg fun all => ?_
    refine t_qz 4 [1, 5, 26, 29] (σ' := [(1, .int .i64 below1), (5, .int .i64 x79), (26, .pointer (some ⟨B0, 0, none⟩)), (29, .pointer (some ⟨B0, 1, none⟩))]) (by kernel_rfl) ?_
    refine t_v (.ld1 rfl rfl rfl (.at 0 rfl rfl)) ?_
    refine t_qz 3 [1, 5, 31, 33] (σ' := [(1, .int .i64 below1), (5, .int .i64 x79), (31, .int .i64 (wr64 (m0_1 + 1))), (33, .pointer (some ⟨B0, 1, none⟩))]) (by kernel_rfl) ?_
    refine t_sti 0 (cs := [.slice a_m0_0 m0_0.length c_m0_0, .int .i64 (wr64 (m0_1 + 1))]) rfl rfl rfl rfl rfl rfl rfl rfl rfl ?_
    refine t_keep [1, 5] (σ' := [(1, .int .i64 below1), (5, .int .i64 x79)]) (by kernel_rfl) ?_
    refine t_end ?_
    show W _ _ _ _ _ _ _
    refine w_seq ?_
    refine w_reg fun all => ?_
    obtain ⟨t80, h81, e⟩ := bind_of e
    refine t_qz 2 [34, 35] (σ' := [(34, .int .i64 x79), (35, .int .i64 below1)]) (by kernel_rfl) ?_
    refine t_v (.call (vs := [.int .i64 x79, .int .i64 below1]) rfl rfl (by kernel_rfl) (glyphicworld_Number.ok h81)) ?_
    refine t_qz 1 [4] (σ' := [(4, .int .i64 t80)]) (by kernel_rfl) ?_
    refine t_end ?_
    show W _ _ _ _ _ _ _
    refine w_ret ?_
    simp only [Option.some.injEq, Prod.mk.injEq] at e
    obtain ⟨rfl, rfl⟩ := e
    exact ⟨[.int .i64 t80], ([⟨B0, [.slice a_m0_0 m0_0.length c_m0_0, .int .i64 (wr64 (m0_1 + 1))], 2⟩] : List Own), S, ⟨rfl, trivial⟩, VS.sel [0] (by kernel_rfl), rfl, rfl, rfl⟩

/-- glyphicmake.Point -/
def c18 : C :=
  (.seq (.reg [⟨(some 4), .new [(.int .i64 0), (.int .i64 0)], none⟩])
  (.seq (.reg [⟨(some 6), .mv (.tmp 0), none⟩,
     ⟨(some 7), .mv (.tmp 1), none⟩,
     ⟨(some 8), .bin .mul (.const (.int .i64 2)) (.tmp 7), none⟩,
     ⟨(some 9), .bin .add (.tmp 8) (.const (.int .i64 1)), none⟩,
     ⟨(some 10), .call 37 [(.tmp 6), (.tmp 9)], none⟩,
     ⟨(some 11), .mv (.tmp 1), none⟩,
     ⟨(some 12), .bin .sub (.tmp 10) (.tmp 11), none⟩,
     ⟨(some 5), .mv (.tmp 12), none⟩])
  (.seq (.reg [⟨(some 13), .mv (.tmp 5), none⟩,
     ⟨(some 14), .mv (.tmp 0), none⟩,
     ⟨(some 15), .mv (.tmp 1), none⟩,
     ⟨(some 16), .bin .mul (.const (.int .i64 2)) (.tmp 15), none⟩,
     ⟨(some 17), .bin .add (.tmp 16) (.const (.int .i64 1)), none⟩,
     ⟨(some 18), .call 37 [(.tmp 14), (.tmp 17)], none⟩,
     ⟨(some 19), .mv (.tmp 1), none⟩,
     ⟨(some 20), .bin .sub (.tmp 18) (.tmp 19), none⟩,
     ⟨(some 21), .bld [(.int .i64 0), (.int .i64 0)] [(0, 1, (.tmp 13)), (1, 1, (.tmp 20))], none⟩,
     ⟨none, .st 2 (.tmp 4) (.tmp 21), none⟩])
  .ret)))
def glyphicmake_Point_v1.f (far1 : Int) (m0_0 : List (Int)) (m0_1 : Int) : Option (Int × Int × Int) := (glyphicmake_Seq_Next_v1.f (wr64 ((wr64 (2 * far1)) + 1)) m0_0 m0_1).bind fun (t99, t100) => ((glyphicmake_Seq_Next_v1.f (wr64 ((wr64 (2 * far1)) + 1)) m0_0 t100).bind fun (t102, t103) => (some (wr64 (t99 - far1), wr64 (t102 - far1), t103)))
theorem glyphicmake_Point_v1.ok {S : Seal} {B0 : Nat} {far1 : Int} {m0_0 : List (Int)} {m0_1 : Int} {r0_ : Int} {r1_ : Int} {r2_ : Int}{a_m0_0 : Option Addr} {c_m0_0 : Nat} (h_m0_0 : SlE S E_i64 m0_0 a_m0_0) (e : glyphicmake_Point_v1.f far1 m0_0 m0_1 = some (r0_, r1_, r2_)) :
    Cal Try.prog 18 [.pointer (some ⟨B0, 0, none⟩), .int .i64 far1] ([⟨B0, [.slice a_m0_0 m0_0.length c_m0_0, .int .i64 m0_1], 2⟩] : List Own) S fun v H' S' => v = .agg #[.int .i64 r0_, .int .i64 r1_] ∧ H' = ([⟨B0, [.slice a_m0_0 m0_0.length c_m0_0, .int .i64 r2_], 2⟩] : List Own) ∧ S' = S := by
  unfold glyphicmake_Point_v1.f at e
  refine cal_of (c := c18) (N := 22) Try.func18 rfl rfl (by kernel_rfl) (rs := [.cn 2 4]) (by kernel_rfl) (Nat.le_of_ble_eq_true rfl) ?_
  unfold c18
  refine w_seq ?_
  refine w_reg fun all => ?_
  refine t_a (.new rfl rfl) fun b98 fb98 sb98 => ?_
  refine t_keep [0, 1, 4] (σ' := [(0, .pointer (some ⟨B0, 0, none⟩)), (1, .int .i64 far1), (4, .pointer (some ⟨b98, 0, none⟩))]) (by kernel_rfl) ?_
  refine t_end ?_
  show W _ _ _ _ _ _ _
  refine w_seq ?_
  refine w_reg fun all => ?_
  obtain ⟨⟨t99, t100⟩, h101, e⟩ := bind_of e
  try dsimp only at e
  refine t_qz 4 [0, 1, 4, 6, 9] (σ' := [(0, .pointer (some ⟨B0, 0, none⟩)), (1, .int .i64 far1), (4, .pointer (some ⟨b98, 0, none⟩)), (6, .pointer (some ⟨B0, 0, none⟩)), (9, .int .i64 (wr64 ((wr64 (2 * far1)) + 1)))]) (by kernel_rfl) ?_
  refine t_call (vs := [.pointer (some ⟨B0, 0, none⟩), .int .i64 (wr64 ((wr64 (2 * far1)) + 1))]) (H1 := ([⟨B0, [.slice a_m0_0 m0_0.length c_m0_0, .int .i64 m0_1], 2⟩] : List Own)) (F := ([⟨b98, [.int .i64 0, .int .i64 0], 2⟩] : List Own)) rfl rfl (by kernel_rfl) (sel_perm (is := [1]) (by kernel_rfl)) (glyphicmake_Seq_Next_v1.ok h_m0_0 h101) ?_
  rintro _ _ S_ ⟨rfl, rfl, hS_⟩
  obtain rfl := hS_.symm
  refine t_qz 3 [0, 1, 4, 5] (σ' := [(0, .pointer (some ⟨B0, 0, none⟩)), (1, .int .i64 far1), (4, .pointer (some ⟨b98, 0, none⟩)), (5, .int .i64 (wr64 (t99 - far1)))]) (by kernel_rfl) ?_
  refine t_end ?_
  show W _ _ _ _ _ _ _
  refine w_seq ?_
  refine w_reg fun all => ?_
  obtain ⟨⟨t102, t103⟩, h104, e⟩ := bind_of e
  try dsimp only at e
  refine t_qz 5 [1, 4, 13, 14, 17] (σ' := [(1, .int .i64 far1), (4, .pointer (some ⟨b98, 0, none⟩)), (13, .int .i64 (wr64 (t99 - far1))), (14, .pointer (some ⟨B0, 0, none⟩)), (17, .int .i64 (wr64 ((wr64 (2 * far1)) + 1)))]) (by kernel_rfl) ?_
  refine t_call (vs := [.pointer (some ⟨B0, 0, none⟩), .int .i64 (wr64 ((wr64 (2 * far1)) + 1))]) (H1 := ([⟨B0, [.slice a_m0_0 m0_0.length c_m0_0, .int .i64 t100], 2⟩] : List Own)) (F := ([⟨b98, [.int .i64 0, .int .i64 0], 2⟩] : List Own)) rfl rfl (by kernel_rfl) (sel_perm (is := [0]) (by kernel_rfl)) (glyphicmake_Seq_Next_v1.ok h_m0_0 h104) ?_
  rintro _ _ S_ ⟨rfl, rfl, hS_⟩
  obtain rfl := hS_.symm
  refine t_qz 3 [4, 21] (σ' := [(4, .pointer (some ⟨b98, 0, none⟩)), (21, .agg #[.int .i64 (wr64 (t99 - far1)), .int .i64 (wr64 (t102 - far1))])]) (by kernel_rfl) ?_
  refine t_sti 1 (cs := [.int .i64 (wr64 (t99 - far1)), .int .i64 (wr64 (t102 - far1))]) rfl rfl rfl rfl rfl rfl rfl rfl rfl ?_
  refine t_keep [4] (σ' := [(4, .pointer (some ⟨b98, 0, none⟩))]) (by kernel_rfl) ?_
  refine t_end ?_
  show W _ _ _ _ _ _ _
  refine w_ret ?_
  simp only [Option.some.injEq, Prod.mk.injEq] at e
  obtain ⟨rfl, rfl, rfl⟩ := e
  exact ⟨[.agg #[.int .i64 (wr64 (t99 - far1)), .int .i64 (wr64 (t102 - far1))]], ([⟨B0, [.slice a_m0_0 m0_0.length c_m0_0, .int .i64 t103], 2⟩] : List Own), S, ⟨⟨_, _, _, rfl, .at 1 rfl rfl, rfl⟩, trivial⟩, VS.sel [0] (by kernel_rfl), rfl, rfl, rfl⟩

/-- glyphicmake.inside -/
def c107 : C :=
  (.seq (.reg [⟨(some 4), .new [(.int .i64 0), (.int .i64 0)], none⟩])
  (.seq (.seq (.reg [⟨(some 6), .mv (.tmp 0), none⟩,
      ⟨(some 7), .call 37 [(.tmp 6), (.const (.int .i64 12))], none⟩,
      ⟨(some 8), .bin .eql (.tmp 7) (.const (.int .i64 0)), none⟩])
   (.cond (.tmp 8)
    (.seq (.reg [⟨(some 9), .mv (.tmp 0), none⟩,
        ⟨(some 10), .mv (.tmp 1), none⟩,
        ⟨(some 11), .call 18 [(.tmp 9), (.tmp 10)], none⟩,
        ⟨none, .st 2 (.tmp 4) (.tmp 11), none⟩])
     .ret)
    .skip))
  (.seq (.reg [⟨(some 12), .mv (.tmp 0), none⟩,
     ⟨(some 13), .mv (.tmp 1), none⟩,
     ⟨(some 14), .bin .add (.tmp 13) (.const (.int .i64 1)), none⟩,
     ⟨(some 15), .call 37 [(.tmp 12), (.tmp 14)], none⟩,
     ⟨(some 5), .mv (.tmp 15), none⟩])
  (.seq (.reg [⟨(some 16), .mv (.tmp 5), none⟩,
     ⟨(some 17), .mv (.tmp 0), none⟩,
     ⟨(some 18), .mv (.tmp 1), none⟩,
     ⟨(some 19), .bin .add (.tmp 18) (.const (.int .i64 1)), none⟩,
     ⟨(some 20), .call 37 [(.tmp 17), (.tmp 19)], none⟩,
     ⟨(some 21), .bld [(.int .i64 0), (.int .i64 0)] [(0, 1, (.tmp 16)), (1, 1, (.tmp 20))], none⟩,
     ⟨none, .st 2 (.tmp 4) (.tmp 21), none⟩])
  .ret))))
def glyphicmake_inside_v1.f (far1 : Int) (m0_0 : List (Int)) (m0_1 : Int) : Option (Int × Int × Int) := (glyphicmake_Seq_Next_v1.f 12 m0_0 m0_1).bind fun (t102, t103) => (if t102 = 0 then ((glyphicmake_Point_v1.f far1 m0_0 t103).bind fun (t106, t107, t108) => (some (t106, t107, t108))) else ((glyphicmake_Seq_Next_v1.f (wr64 (far1 + 1)) m0_0 t103).bind fun (t110, t111) => ((glyphicmake_Seq_Next_v1.f (wr64 (far1 + 1)) m0_0 t111).bind fun (t113, t114) => (some (t110, t113, t114)))))
theorem glyphicmake_inside_v1.ok {S : Seal} {B0 : Nat} {far1 : Int} {m0_0 : List (Int)} {m0_1 : Int} {r0_ : Int} {r1_ : Int} {r2_ : Int}{a_m0_0 : Option Addr} {c_m0_0 : Nat} (h_m0_0 : SlE S E_i64 m0_0 a_m0_0) (e : glyphicmake_inside_v1.f far1 m0_0 m0_1 = some (r0_, r1_, r2_)) :
    Cal Try.prog 107 [.pointer (some ⟨B0, 0, none⟩), .int .i64 far1] ([⟨B0, [.slice a_m0_0 m0_0.length c_m0_0, .int .i64 m0_1], 2⟩] : List Own) S fun v H' S' => v = .agg #[.int .i64 r0_, .int .i64 r1_] ∧ H' = ([⟨B0, [.slice a_m0_0 m0_0.length c_m0_0, .int .i64 r2_], 2⟩] : List Own) ∧ S' = S := by
  unfold glyphicmake_inside_v1.f at e
  refine cal_of (c := c107) (N := 22) Try.func107 rfl rfl (by kernel_rfl) (rs := [.cn 2 4]) (by kernel_rfl) (Nat.le_of_ble_eq_true rfl) ?_
  unfold c107
  refine w_seq ?_
  refine w_reg fun all => ?_
  refine t_a (.new rfl rfl) fun b101 fb101 sb101 => ?_
  refine t_keep [0, 1, 4] (σ' := [(0, .pointer (some ⟨B0, 0, none⟩)), (1, .int .i64 far1), (4, .pointer (some ⟨b101, 0, none⟩))]) (by kernel_rfl) ?_
  refine t_end ?_
  show W _ _ _ _ _ _ _
  refine w_seq ?_
  refine w_seq ?_
  refine w_reg fun all => ?_
  obtain ⟨⟨t102, t103⟩, h104, e⟩ := bind_of e
  try dsimp only at e
  refine t_qz 1 [0, 1, 4, 6] (σ' := [(0, .pointer (some ⟨B0, 0, none⟩)), (1, .int .i64 far1), (4, .pointer (some ⟨b101, 0, none⟩)), (6, .pointer (some ⟨B0, 0, none⟩))]) (by kernel_rfl) ?_
  refine t_call (vs := [.pointer (some ⟨B0, 0, none⟩), .int .i64 12]) (H1 := ([⟨B0, [.slice a_m0_0 m0_0.length c_m0_0, .int .i64 m0_1], 2⟩] : List Own)) (F := ([⟨b101, [.int .i64 0, .int .i64 0], 2⟩] : List Own)) rfl rfl (by kernel_rfl) (sel_perm (is := [1]) (by kernel_rfl)) (glyphicmake_Seq_Next_v1.ok h_m0_0 h104) ?_
  rintro _ _ S_ ⟨rfl, rfl, hS_⟩
  obtain rfl := hS_.symm
  by_cases c105 : t102 = 0
  · rw [if_pos c105] at e
    have c105b : (t102 == 0) = true := beq_iff_eq.mpr c105
    refine t_v (dv_quiet rfl (congrArg (fun t => some (Value.bool t)) c105b)) ?_
    refine t_keep [0, 1, 4, 8] (σ' := [(0, .pointer (some ⟨B0, 0, none⟩)), (1, .int .i64 far1), (4, .pointer (some ⟨b101, 0, none⟩)), (8, .bool true)]) (by kernel_rfl) ?_
    refine t_end ?_
    show W _ _ _ _ _ _ _
    refine w_cond rfl (fun _ => ?_) (fun c_ => by cases c_)
    show W _ _ _ _ _ _ _
    refine w_seq ?_
    refine w_reg fun all => ?_
    obtain ⟨⟨t106, t107, t108⟩, h109, e⟩ := bind_of e
    try dsimp only at e
    refine t_qz 2 [4, 9, 10] (σ' := [(4, .pointer (some ⟨b101, 0, none⟩)), (9, .pointer (some ⟨B0, 0, none⟩)), (10, .int .i64 far1)]) (by kernel_rfl) ?_
    refine t_call (vs := [.pointer (some ⟨B0, 0, none⟩), .int .i64 far1]) (H1 := ([⟨B0, [.slice a_m0_0 m0_0.length c_m0_0, .int .i64 t103], 2⟩] : List Own)) (F := ([⟨b101, [.int .i64 0, .int .i64 0], 2⟩] : List Own)) rfl rfl (by kernel_rfl) (sel_perm (is := [0]) (by kernel_rfl)) (glyphicmake_Point_v1.ok h_m0_0 h109) ?_
    rintro _ _ S_ ⟨rfl, rfl, hS_⟩
    obtain rfl := hS_.symm
    refine t_sti 1 (cs := [.int .i64 t106, .int .i64 t107]) rfl rfl rfl rfl rfl rfl rfl rfl rfl ?_
    refine t_keep [4] (σ' := [(4, .pointer (some ⟨b101, 0, none⟩))]) (by kernel_rfl) ?_
    refine t_end ?_
    show W _ _ _ _ _ _ _
    refine w_ret ?_
    simp only [Option.some.injEq, Prod.mk.injEq] at e
    obtain ⟨rfl, rfl, rfl⟩ := e
    exact ⟨[.agg #[.int .i64 t106, .int .i64 t107]], ([⟨B0, [.slice a_m0_0 m0_0.length c_m0_0, .int .i64 t108], 2⟩] : List Own), S, ⟨⟨_, _, _, rfl, .at 1 rfl rfl, rfl⟩, trivial⟩, VS.sel [0] (by kernel_rfl), rfl, rfl, rfl⟩
  · rw [if_neg c105] at e
    have c105b : (t102 == 0) = false := beq_eq_false_iff_ne.mpr c105
    refine t_v (dv_quiet rfl (congrArg (fun t => some (Value.bool t)) c105b)) ?_
    refine t_keep [0, 1, 4, 8] (σ' := [(0, .pointer (some ⟨B0, 0, none⟩)), (1, .int .i64 far1), (4, .pointer (some ⟨b101, 0, none⟩)), (8, .bool false)]) (by kernel_rfl) ?_
    refine t_end ?_
    show W _ _ _ _ _ _ _
    refine w_cond rfl (fun c_ => by cases c_) (fun _ => ?_)
    show W _ _ _ _ _ _ _
    refine w_skip ?_
    show W _ _ _ _ _ _ _
    refine w_seq ?_
    refine w_reg fun all => ?_
    obtain ⟨⟨t110, t111⟩, h112, e⟩ := bind_of e
    try dsimp only at e
    refine t_qz 3 [0, 1, 4, 12, 14] (σ' := [(0, .pointer (some ⟨B0, 0, none⟩)), (1, .int .i64 far1), (4, .pointer (some ⟨b101, 0, none⟩)), (12, .pointer (some ⟨B0, 0, none⟩)), (14, .int .i64 (wr64 (far1 + 1)))]) (by kernel_rfl) ?_
    refine t_call (vs := [.pointer (some ⟨B0, 0, none⟩), .int .i64 (wr64 (far1 + 1))]) (H1 := ([⟨B0, [.slice a_m0_0 m0_0.length c_m0_0, .int .i64 t103], 2⟩] : List Own)) (F := ([⟨b101, [.int .i64 0, .int .i64 0], 2⟩] : List Own)) rfl rfl (by kernel_rfl) (sel_perm (is := [0]) (by kernel_rfl)) (glyphicmake_Seq_Next_v1.ok h_m0_0 h112) ?_
    rintro _ _ S_ ⟨rfl, rfl, hS_⟩
    obtain rfl := hS_.symm
    refine t_qz 1 [0, 1, 4, 5] (σ' := [(0, .pointer (some ⟨B0, 0, none⟩)), (1, .int .i64 far1), (4, .pointer (some ⟨b101, 0, none⟩)), (5, .int .i64 t110)]) (by kernel_rfl) ?_
    refine t_end ?_
    show W _ _ _ _ _ _ _
    refine w_seq ?_
    refine w_reg fun all => ?_
    obtain ⟨⟨t113, t114⟩, h115, e⟩ := bind_of e
    try dsimp only at e
    refine t_qz 4 [4, 16, 17, 19] (σ' := [(4, .pointer (some ⟨b101, 0, none⟩)), (16, .int .i64 t110), (17, .pointer (some ⟨B0, 0, none⟩)), (19, .int .i64 (wr64 (far1 + 1)))]) (by kernel_rfl) ?_
    refine t_call (vs := [.pointer (some ⟨B0, 0, none⟩), .int .i64 (wr64 (far1 + 1))]) (H1 := ([⟨B0, [.slice a_m0_0 m0_0.length c_m0_0, .int .i64 t111], 2⟩] : List Own)) (F := ([⟨b101, [.int .i64 0, .int .i64 0], 2⟩] : List Own)) rfl rfl (by kernel_rfl) (sel_perm (is := [0]) (by kernel_rfl)) (glyphicmake_Seq_Next_v1.ok h_m0_0 h115) ?_
    rintro _ _ S_ ⟨rfl, rfl, hS_⟩
    obtain rfl := hS_.symm
    refine t_qz 1 [4, 21] (σ' := [(4, .pointer (some ⟨b101, 0, none⟩)), (21, .agg #[.int .i64 t110, .int .i64 t113])]) (by kernel_rfl) ?_
    refine t_sti 1 (cs := [.int .i64 t110, .int .i64 t113]) rfl rfl rfl rfl rfl rfl rfl rfl rfl ?_
    refine t_keep [4] (σ' := [(4, .pointer (some ⟨b101, 0, none⟩))]) (by kernel_rfl) ?_
    refine t_end ?_
    show W _ _ _ _ _ _ _
    refine w_ret ?_
    simp only [Option.some.injEq, Prod.mk.injEq] at e
    obtain ⟨rfl, rfl, rfl⟩ := e
    exact ⟨[.agg #[.int .i64 t110, .int .i64 t113]], ([⟨B0, [.slice a_m0_0 m0_0.length c_m0_0, .int .i64 t114], 2⟩] : List Own), S, ⟨⟨_, _, _, rfl, .at 1 rfl rfl, rfl⟩, trivial⟩, VS.sel [0] (by kernel_rfl), rfl, rfl, rfl⟩

/-- glyphicmake.Path -/
def c66 : C :=
  (.seq (.reg [⟨(some 6), .new [(.int .i64 0), (.int .i64 0), (.slice none 0 0), (.bool false)], none⟩])
  (.seq (.reg [⟨(some 11), .mv (.tmp 0), none⟩,
     ⟨(some 12), .mv (.tmp 1), none⟩,
     ⟨(some 13), .call 107 [(.tmp 11), (.tmp 12)], none⟩,
     ⟨(some 14), .mv (.tmp 2), none⟩,
     ⟨(some 15), .bld [(.int .i64 0), (.int .i64 0), (.slice none 0 0), (.bool false)] [(0, 2, (.tmp 13)), (3, 1, (.tmp 14))], none⟩,
     ⟨(some 7), .new [(.int .i64 0), (.int .i64 0), (.slice none 0 0), (.bool false)], none⟩,
     ⟨none, .st 4 (.tmp 7) (.tmp 15), none⟩])
  (.seq (.seq (.reg [⟨(some 16), .mv (.tmp 0), none⟩,
      ⟨(some 17), .call 37 [(.tmp 16), (.const (.int .i64 4))], none⟩,
      ⟨(some 18), .bin .add (.const (.int .i64 1)) (.tmp 17), none⟩,
      ⟨(some 8), .mv (.tmp 18), none⟩])
   (.block 0 (.loop (.seq (.seq (.reg [⟨(some 19), .mv (.tmp 8), none⟩,
         ⟨(some 20), .bin .gtr (.tmp 19) (.const (.int .i64 0)), none⟩])
      (.cond (.tmp 20)
       .skip
       (.exit 0)))
     (.seq (.block 1 (.seq (.reg [⟨(some 23), .mv (.tmp 0), none⟩,
          ⟨(some 24), .call 37 [(.tmp 23), (.const (.int .i64 3))], none⟩,
          ⟨(some 25), .bin .add (.const (.int .i64 1)) (.tmp 24), none⟩,
          ⟨(some 26), .bld [(.int .i64 0), (.int .i64 0), (.int .i64 0), (.int .i64 0), (.int .i64 0), (.int .i64 0), (.int .i64 0)] [(0, 1, (.tmp 25))], none⟩,
          ⟨(some 9), .new [(.int .i64 0), (.int .i64 0), (.int .i64 0), (.int .i64 0), (.int .i64 0), (.int .i64 0), (.int .i64 0)], none⟩,
          ⟨none, .st 7 (.tmp 9) (.tmp 26), none⟩])
       (.seq (.seq (.reg [⟨(some 10), .mv (.const (.int .i64 0)), none⟩])
        (.block 2 (.loop (.seq (.seq (.reg [⟨(some 27), .mv (.tmp 10), none⟩,
              ⟨(some 28), .pad 0 (.tmp 9), none⟩,
              ⟨(some 29), .ld none (.tmp 28), none⟩,
              ⟨(some 30), .bin .lss (.tmp 27) (.tmp 29), none⟩])
           (.cond (.tmp 30)
            .skip
            (.exit 2)))
          (.seq (.block 3 (.reg [⟨(some 33), .mv (.tmp 10), none⟩,
              ⟨(some 34), .mv (.tmp 0), none⟩,
              ⟨(some 35), .mv (.tmp 1), none⟩,
              ⟨(some 36), .call 107 [(.tmp 34), (.tmp 35)], none⟩,
              ⟨(some 37), .pad 1 (.tmp 9), none⟩,
              ⟨(some 38), .ixa 2 3 (.tmp 37) (.tmp 33), none⟩,
              ⟨none, .st 2 (.tmp 38) (.tmp 36), none⟩]))
          (.reg [⟨(some 31), .mv (.tmp 10), none⟩,
            ⟨(some 32), .bin .add (.tmp 31) (.const (.int .i64 1)), none⟩,
            ⟨(some 10), .mv (.tmp 32), none⟩]))))))
       (.reg [⟨(some 39), .pad 2 (.tmp 7), none⟩,
         ⟨(some 40), .ld none (.tmp 39), none⟩,
         ⟨(some 41), .ld (some 7) (.tmp 9), none⟩,
         ⟨(some 42), .bsl [(.int .i64 0), (.int .i64 0), (.int .i64 0), (.int .i64 0), (.int .i64 0), (.int .i64 0), (.int .i64 0)] 1 [(0, 7, (.tmp 41))], none⟩,
         ⟨(some 43), .app 51 7 56 [(.int .i64 0), (.int .i64 0), (.int .i64 0), (.int .i64 0), (.int .i64 0), (.int .i64 0), (.int .i64 0)] (.tmp 40) (.tmp 42), none⟩,
         ⟨(some 44), .pad 2 (.tmp 7), none⟩,
         ⟨none, .st 1 (.tmp 44) (.tmp 43), none⟩]))))
     (.reg [⟨(some 21), .mv (.tmp 8), none⟩,
       ⟨(some 22), .bin .sub (.tmp 21) (.const (.int .i64 1)), none⟩,
       ⟨(some 8), .mv (.tmp 22), none⟩]))))))
  (.seq (.reg [⟨(some 45), .ld (some 4) (.tmp 7), none⟩,
     ⟨none, .st 4 (.tmp 6) (.tmp 45), none⟩])
  .ret))))
def glyphicmake_Path_v1.l1 : Nat → Int → List (Int) → Int → Int → Int → Int → Int → Int → Int → Int → Int → Option (Int × Int × Int × Int × Int × Int × Int × Int)
  | 0, _, _, _, _, _, _, _, _, _, _, _ => none
  | k + 1, far1, m0_0, t202, x209, x210, x211, x212, x213, x214, x215, x216 => if x209 < (wr64 (1 + t202)) then ((glyphicmake_inside_v1.f far1 m0_0 x216).bind fun (t218, t219, t220) => (if x209 = 0 then (glyphicmake_Path_v1.l1 k far1 m0_0 t202 (wr64 (x209 + 1)) t218 t219 x212 x213 x214 x215 t220) else (if x209 = 1 then (glyphicmake_Path_v1.l1 k far1 m0_0 t202 (wr64 (x209 + 1)) x210 x211 t218 t219 x214 x215 t220) else (if x209 = 2 then (glyphicmake_Path_v1.l1 k far1 m0_0 t202 (wr64 (x209 + 1)) x210 x211 x212 x213 t218 t219 t220) else (none))))) else (some (wr64 (1 + t202), x210, x211, x212, x213, x214, x215, x216))
def glyphicmake_Path_v1.l0 : Nat → Int → List (Int) → Int → List (Int × Int × Int × Int × Int × Int × Int) → Int → Option (List (Int × Int × Int × Int × Int × Int × Int) × Int)
  | 0, _, _, _, _, _ => none
  | k + 1, far1, m0_0, x194, y196, x197 => if x194 > 0 then (((glyphicmake_Seq_Next_v1.f 3 m0_0 x197).bind fun (t202, t203) => ((glyphicmake_Path_v1.l1 k far1 m0_0 t202 0 0 0 0 0 0 0 t203 : Option (Int × Int × Int × Int × Int × Int × Int × Int)).bind fun (x229, x230, x231, x232, x233, x234, x235, x236) => ((lapp y196 ([(x229, x230, x231, x232, x233, x234, x235)] : List (Int × Int × Int × Int × Int × Int × Int))).bind fun y238 => (some (x236, y238)))) : Option (Int × List (Int × Int × Int × Int × Int × Int × Int))).bind fun (x241, y243) => (glyphicmake_Path_v1.l0 k far1 m0_0 (wr64 (x194 - 1)) y243 x241)) else (some (y196, x197))
def glyphicmake_Path_v1.f (k : Nat) (far1 : Int) (closed2 : Bool) (m0_0 : List (Int)) (m0_1 : Int) : Option (Int × Int × Bool × List (Int × Int × Int × Int × Int × Int × Int) × Int) := (glyphicmake_inside_v1.f far1 m0_0 m0_1).bind fun (t183, t184, t185) => (((glyphicmake_Seq_Next_v1.f 4 m0_0 t185).bind fun (t191, t192) => (glyphicmake_Path_v1.l0 k far1 m0_0 (wr64 (1 + t191)) ([] : List (Int × Int × Int × Int × Int × Int × Int)) t192) : Option (List (Int × Int × Int × Int × Int × Int × Int) × Int)).bind fun (y247, x248) => (some (t183, t184, closed2, y247, x248)))
theorem glyphicmake_Path_v1.ok {S : Seal} {B0 : Nat} {k : Nat} {far1 : Int} {closed2 : Bool} {m0_0 : List (Int)} {m0_1 : Int} {r0_ : Int} {r1_ : Int} {r2_ : Bool} {r3_ : List (Int × Int × Int × Int × Int × Int × Int)} {r4_ : Int}{a_m0_0 : Option Addr} {c_m0_0 : Nat} (h_m0_0 : SlE S E_i64 m0_0 a_m0_0) (e : glyphicmake_Path_v1.f k far1 closed2 m0_0 m0_1 = some (r0_, r1_, r2_, r3_, r4_)) :
    Cal Try.prog 66 [.pointer (some ⟨B0, 0, none⟩), .int .i64 far1, .bool closed2] ([⟨B0, [.slice a_m0_0 m0_0.length c_m0_0, .int .i64 m0_1], 2⟩] : List Own) S fun v H' S' => ∃ (N0_ : Option Nat) (nN0_ : Nat) , v = .agg #[.int .i64 r0_, .int .i64 r1_, .slice (ad N0_) r3_.length (nN0_ / 7), .bool r2_] ∧ H' = ([⟨N0_, encL E_i647 r3_, nN0_⟩, ⟨B0, [.slice a_m0_0 m0_0.length c_m0_0, .int .i64 r4_], 2⟩] : List Own) ∧ S' = S := by
  unfold glyphicmake_Path_v1.f at e
  refine cal_of (c := c66) (N := 46) Try.func66 rfl rfl (by kernel_rfl) (rs := [.cn 4 6]) (by kernel_rfl) (Nat.le_of_ble_eq_true rfl) ?_
  unfold c66
  refine w_seq ?_
  refine w_reg fun all => ?_
  refine t_a (.new rfl rfl) fun b182 fb182 sb182 => ?_
  refine t_keep [0, 1, 2, 6] (σ' := [(0, .pointer (some ⟨B0, 0, none⟩)), (1, .int .i64 far1), (2, .bool closed2), (6, .pointer (some ⟨b182, 0, none⟩))]) (by kernel_rfl) ?_
  refine t_end ?_
  show W _ _ _ _ _ _ _
  refine w_seq ?_
  refine w_reg fun all => ?_
  obtain ⟨⟨t183, t184, t185⟩, h186, e⟩ := bind_of e
  try dsimp only at e
  refine t_qz 2 [0, 1, 2, 6, 11, 12] (σ' := [(0, .pointer (some ⟨B0, 0, none⟩)), (1, .int .i64 far1), (2, .bool closed2), (6, .pointer (some ⟨b182, 0, none⟩)), (11, .pointer (some ⟨B0, 0, none⟩)), (12, .int .i64 far1)]) (by kernel_rfl) ?_
  refine t_call (vs := [.pointer (some ⟨B0, 0, none⟩), .int .i64 far1]) (H1 := ([⟨B0, [.slice a_m0_0 m0_0.length c_m0_0, .int .i64 m0_1], 2⟩] : List Own)) (F := ([⟨b182, [.int .i64 0, .int .i64 0, .slice none 0 0, .bool false], 4⟩] : List Own)) rfl rfl (by kernel_rfl) (sel_perm (is := [1]) (by kernel_rfl)) (glyphicmake_inside_v1.ok h_m0_0 h186) ?_
  rintro _ _ S_ ⟨rfl, rfl, hS_⟩
  obtain rfl := hS_.symm
  refine t_qz 2 [0, 1, 6, 15] (σ' := [(0, .pointer (some ⟨B0, 0, none⟩)), (1, .int .i64 far1), (6, .pointer (some ⟨b182, 0, none⟩)), (15, .agg #[.int .i64 t183, .int .i64 t184, .slice none 0 0, .bool closed2])]) (by kernel_rfl) ?_
  refine t_a (.new rfl rfl) fun b187 fb187 sb187 => ?_
  refine t_sti 0 (cs := [.int .i64 t183, .int .i64 t184, .slice none 0 0, .bool closed2]) rfl rfl rfl rfl rfl rfl rfl rfl rfl ?_
  refine t_keep [0, 1, 6, 7] (σ' := [(0, .pointer (some ⟨B0, 0, none⟩)), (1, .int .i64 far1), (6, .pointer (some ⟨b182, 0, none⟩)), (7, .pointer (some ⟨b187, 0, none⟩))]) (by kernel_rfl) ?_
  refine t_end ?_
  show W _ _ _ _ _ _ _
  obtain ⟨⟨y247, x248⟩, e189, e⟩ := bind_of e
  try dsimp only at e
  refine w_cut [6, 7] (fun σ_ H_ S_ => ∃ (a246 : Option Nat) (na246 : Nat), [(6, .pointer (some ⟨b182, 0, none⟩)), (7, .pointer (some ⟨b187, 0, none⟩))] = σ_ ∧ ([⟨b187, [.int .i64 t183, .int .i64 t184, .slice (ad a246) y247.length (na246 / 7), .bool closed2], 4⟩, ⟨B0, [.slice a_m0_0 m0_0.length c_m0_0, .int .i64 x248], 2⟩, ⟨b182, [.int .i64 0, .int .i64 0, .slice none 0 0, .bool false], 4⟩, ⟨a246, encL E_i647 y247, na246⟩] : List Own) = H_ ∧ S = S_) ?_ ?_
  · show W _ _ _ _ _ _ _
    refine w_seq ?_
    refine w_reg fun all => ?_
    obtain ⟨⟨t191, t192⟩, h193, e189⟩ := bind_of e189
    try dsimp only at e189
    refine t_qz 1 [0, 1, 6, 7, 16] (σ' := [(0, .pointer (some ⟨B0, 0, none⟩)), (1, .int .i64 far1), (6, .pointer (some ⟨b182, 0, none⟩)), (7, .pointer (some ⟨b187, 0, none⟩)), (16, .pointer (some ⟨B0, 0, none⟩))]) (by kernel_rfl) ?_
    refine t_call (vs := [.pointer (some ⟨B0, 0, none⟩), .int .i64 4]) (H1 := ([⟨B0, [.slice a_m0_0 m0_0.length c_m0_0, .int .i64 t185], 2⟩] : List Own)) (F := ([⟨b187, [.int .i64 t183, .int .i64 t184, .slice none 0 0, .bool closed2], 4⟩, ⟨b182, [.int .i64 0, .int .i64 0, .slice none 0 0, .bool false], 4⟩] : List Own)) rfl rfl (by kernel_rfl) (sel_perm (is := [1]) (by kernel_rfl)) (glyphicmake_Seq_Next_v1.ok h_m0_0 h193) ?_
    rintro _ _ S_ ⟨rfl, rfl, hS_⟩
    obtain rfl := hS_.symm
    refine t_qz 2 [0, 1, 6, 7, 8] (σ' := [(0, .pointer (some ⟨B0, 0, none⟩)), (1, .int .i64 far1), (6, .pointer (some ⟨b182, 0, none⟩)), (7, .pointer (some ⟨b187, 0, none⟩)), (8, .int .i64 (wr64 (1 + t191)))]) (by kernel_rfl) ?_
    refine t_end ?_
    show W _ _ _ _ _ _ _
    refine w_block ?_
    refine w_vs VS.vac ?_
    refine w_kp [0, 1, 6, 7, 8] (σ' := [(0, .pointer (some ⟨B0, 0, none⟩)), (1, .int .i64 far1), (6, .pointer (some ⟨b182, 0, none⟩)), (7, .pointer (some ⟨b187, 0, none⟩)), (8, .int .i64 (wr64 (1 + t191)))]) (by kernel_rfl) ?_
    refine w_loop (fun n_ σ_ H_ S_ => ∃ (x194 : Int) (y196 : List (Int × Int × Int × Int × Int × Int × Int)) (x197 : Int), ∃ (a195 : Option Nat) (na195 : Nat), [(0, .pointer (some ⟨B0, 0, none⟩)), (1, .int .i64 far1), (6, .pointer (some ⟨b182, 0, none⟩)), (7, .pointer (some ⟨b187, 0, none⟩)), (8, .int .i64 x194)] = σ_ ∧ ([⟨a195, encL E_i647 y196, na195⟩, ⟨B0, [.slice a_m0_0 m0_0.length c_m0_0, .int .i64 x197], 2⟩, ⟨b187, [.int .i64 t183, .int .i64 t184, .slice (ad a195) y196.length (na195 / 7), .bool closed2], 4⟩, ⟨b182, [.int .i64 0, .int .i64 0, .slice none 0 0, .bool false], 4⟩] : List Own) = H_ ∧ S = S_ ∧ glyphicmake_Path_v1.l0 n_ far1 m0_0 x194 y196 x197 = some (y247, x248)) _ ⟨wr64 (1 + t191), ([] : List (Int × Int × Int × Int × Int × Int × Int)), t192, none, 0, rfl, rfl, rfl, e189⟩ ?_
    rintro n245 σ_ H_ S_ ⟨x194, y196, x197, a195, na195, rfl, rfl, rfl, e189⟩
    cases n245 with
    | zero => rw [glyphicmake_Path_v1.l0.eq_1] at e189; cases e189
    | succ k_ =>
      rw [glyphicmake_Path_v1.l0.eq_2] at e189
      refine w_seq ?_
      refine w_seq ?_
      refine w_reg fun all => ?_
      by_cases c198 : x194 > 0
      · rw [if_pos c198] at e189
        have c198b : (decide (x194 > 0)) = true := decide_eq_true c198
        refine t_qz 1 [0, 1, 6, 7, 8, 19] (σ' := [(0, .pointer (some ⟨B0, 0, none⟩)), (1, .int .i64 far1), (6, .pointer (some ⟨b182, 0, none⟩)), (7, .pointer (some ⟨b187, 0, none⟩)), (8, .int .i64 x194), (19, .int .i64 x194)]) (by kernel_rfl) ?_
        refine t_v (dv_quiet rfl (congrArg (fun t => some (Value.bool t)) c198b)) ?_
        refine t_keep [0, 1, 6, 7, 8, 20] (σ' := [(0, .pointer (some ⟨B0, 0, none⟩)), (1, .int .i64 far1), (6, .pointer (some ⟨b182, 0, none⟩)), (7, .pointer (some ⟨b187, 0, none⟩)), (8, .int .i64 x194), (20, .bool true)]) (by kernel_rfl) ?_
        refine t_end ?_
        show W _ _ _ _ _ _ _
        refine w_cond rfl (fun _ => ?_) (fun c_ => by cases c_)
        show W _ _ _ _ _ _ _
        refine w_skip ?_
        show W _ _ _ _ _ _ _
        obtain ⟨⟨x241, y243⟩, e200, e189⟩ := bind_of e189
        try dsimp only at e189
        refine w_cut [0, 1, 6, 7, 8] (fun σ_ H_ S_ => ∃ (a242 : Option Nat) (na242 : Nat), [(0, .pointer (some ⟨B0, 0, none⟩)), (1, .int .i64 far1), (6, .pointer (some ⟨b182, 0, none⟩)), (7, .pointer (some ⟨b187, 0, none⟩)), (8, .int .i64 x194)] = σ_ ∧ ([⟨B0, [.slice a_m0_0 m0_0.length c_m0_0, .int .i64 x241], 2⟩, ⟨b187, [.int .i64 t183, .int .i64 t184, .slice (ad a242) y243.length (na242 / 7), .bool closed2], 4⟩, ⟨b182, [.int .i64 0, .int .i64 0, .slice none 0 0, .bool false], 4⟩, ⟨a242, encL E_i647 y243, na242⟩] : List Own) = H_ ∧ S = S_) ?_ ?_
        · show W _ _ _ _ _ _ _
          refine w_block ?_
          refine w_seq ?_
          refine w_reg fun all => ?_
          obtain ⟨⟨t202, t203⟩, h204, e200⟩ := bind_of e200
          try dsimp only at e200
          refine t_qz 1 [0, 1, 6, 7, 8, 23] (σ' := [(0, .pointer (some ⟨B0, 0, none⟩)), (1, .int .i64 far1), (6, .pointer (some ⟨b182, 0, none⟩)), (7, .pointer (some ⟨b187, 0, none⟩)), (8, .int .i64 x194), (23, .pointer (some ⟨B0, 0, none⟩))]) (by kernel_rfl) ?_
          refine t_call (vs := [.pointer (some ⟨B0, 0, none⟩), .int .i64 3]) (H1 := ([⟨B0, [.slice a_m0_0 m0_0.length c_m0_0, .int .i64 x197], 2⟩] : List Own)) (F := ([⟨a195, encL E_i647 y196, na195⟩, ⟨b187, [.int .i64 t183, .int .i64 t184, .slice (ad a195) y196.length (na195 / 7), .bool closed2], 4⟩, ⟨b182, [.int .i64 0, .int .i64 0, .slice none 0 0, .bool false], 4⟩] : List Own)) rfl rfl (by kernel_rfl) (sel_perm (is := [1]) (by kernel_rfl)) (glyphicmake_Seq_Next_v1.ok h_m0_0 h204) ?_
          rintro _ _ S_ ⟨rfl, rfl, hS_⟩
          obtain rfl := hS_.symm
          refine t_qz 2 [0, 1, 6, 7, 8, 26] (σ' := [(0, .pointer (some ⟨B0, 0, none⟩)), (1, .int .i64 far1), (6, .pointer (some ⟨b182, 0, none⟩)), (7, .pointer (some ⟨b187, 0, none⟩)), (8, .int .i64 x194), (26, .agg #[.int .i64 (wr64 (1 + t202)), .int .i64 0, .int .i64 0, .int .i64 0, .int .i64 0, .int .i64 0, .int .i64 0])]) (by kernel_rfl) ?_
          refine t_a (.new rfl rfl) fun b205 fb205 sb205 => ?_
          refine t_sti 0 (cs := [.int .i64 (wr64 (1 + t202)), .int .i64 0, .int .i64 0, .int .i64 0, .int .i64 0, .int .i64 0, .int .i64 0]) rfl rfl rfl rfl rfl rfl rfl rfl rfl ?_
          refine t_keep [0, 1, 6, 7, 8, 9] (σ' := [(0, .pointer (some ⟨B0, 0, none⟩)), (1, .int .i64 far1), (6, .pointer (some ⟨b182, 0, none⟩)), (7, .pointer (some ⟨b187, 0, none⟩)), (8, .int .i64 x194), (9, .pointer (some ⟨b205, 0, none⟩))]) (by kernel_rfl) ?_
          refine t_end ?_
          show W _ _ _ _ _ _ _
          obtain ⟨⟨x229, x230, x231, x232, x233, x234, x235, x236⟩, e207, e200⟩ := bind_of e200
          try dsimp only at e200
          refine w_cut [0, 1, 6, 7, 8, 9] (fun σ_ H_ S_ => [(0, .pointer (some ⟨B0, 0, none⟩)), (1, .int .i64 far1), (6, .pointer (some ⟨b182, 0, none⟩)), (7, .pointer (some ⟨b187, 0, none⟩)), (8, .int .i64 x194), (9, .pointer (some ⟨b205, 0, none⟩))] = σ_ ∧ ([⟨b205, [.int .i64 x229, .int .i64 x230, .int .i64 x231, .int .i64 x232, .int .i64 x233, .int .i64 x234, .int .i64 x235], 7⟩, ⟨B0, [.slice a_m0_0 m0_0.length c_m0_0, .int .i64 x236], 2⟩, ⟨b187, [.int .i64 t183, .int .i64 t184, .slice (ad a195) y196.length (na195 / 7), .bool closed2], 4⟩, ⟨b182, [.int .i64 0, .int .i64 0, .slice none 0 0, .bool false], 4⟩, ⟨a195, encL E_i647 y196, na195⟩] : List Own) = H_ ∧ S = S_) ?_ ?_
          · show W _ _ _ _ _ _ _
            refine w_seq ?_
            refine w_reg fun all => ?_
            refine t_qz 1 [0, 1, 6, 7, 8, 9, 10] (σ' := [(0, .pointer (some ⟨B0, 0, none⟩)), (1, .int .i64 far1), (6, .pointer (some ⟨b182, 0, none⟩)), (7, .pointer (some ⟨b187, 0, none⟩)), (8, .int .i64 x194), (9, .pointer (some ⟨b205, 0, none⟩)), (10, .int .i64 0)]) (by kernel_rfl) ?_
            refine t_end ?_
            show W _ _ _ _ _ _ _
            refine w_block ?_
            refine w_kp [0, 1, 6, 7, 8, 9, 10] (σ' := [(0, .pointer (some ⟨B0, 0, none⟩)), (1, .int .i64 far1), (6, .pointer (some ⟨b182, 0, none⟩)), (7, .pointer (some ⟨b187, 0, none⟩)), (8, .int .i64 x194), (9, .pointer (some ⟨b205, 0, none⟩)), (10, .int .i64 0)]) (by kernel_rfl) ?_
            refine w_loop (fun n_ σ_ H_ S_ => ∃ (x209 : Int) (x210 : Int) (x211 : Int) (x212 : Int) (x213 : Int) (x214 : Int) (x215 : Int) (x216 : Int), [(0, .pointer (some ⟨B0, 0, none⟩)), (1, .int .i64 far1), (6, .pointer (some ⟨b182, 0, none⟩)), (7, .pointer (some ⟨b187, 0, none⟩)), (8, .int .i64 x194), (9, .pointer (some ⟨b205, 0, none⟩)), (10, .int .i64 x209)] = σ_ ∧ ([⟨b205, [.int .i64 (wr64 (1 + t202)), .int .i64 x210, .int .i64 x211, .int .i64 x212, .int .i64 x213, .int .i64 x214, .int .i64 x215], 7⟩, ⟨B0, [.slice a_m0_0 m0_0.length c_m0_0, .int .i64 x216], 2⟩, ⟨a195, encL E_i647 y196, na195⟩, ⟨b187, [.int .i64 t183, .int .i64 t184, .slice (ad a195) y196.length (na195 / 7), .bool closed2], 4⟩, ⟨b182, [.int .i64 0, .int .i64 0, .slice none 0 0, .bool false], 4⟩] : List Own) = H_ ∧ S = S_ ∧ glyphicmake_Path_v1.l1 n_ far1 m0_0 t202 x209 x210 x211 x212 x213 x214 x215 x216 = some (x229, x230, x231, x232, x233, x234, x235, x236)) _ ⟨0, 0, 0, 0, 0, 0, 0, t203, rfl, rfl, rfl, e207⟩ ?_
            rintro n228 σ_ H_ S_ ⟨x209, x210, x211, x212, x213, x214, x215, x216, rfl, rfl, rfl, e207⟩
            cases n228 with
            | zero => rw [glyphicmake_Path_v1.l1.eq_1] at e207; cases e207
            | succ k_ =>
              rw [glyphicmake_Path_v1.l1.eq_2] at e207
              refine w_seq ?_
              refine w_seq ?_
              refine w_reg fun all => ?_
              refine t_qz 2 [0, 1, 6, 7, 8, 9, 10, 27, 28] (σ' := [(0, .pointer (some ⟨B0, 0, none⟩)), (1, .int .i64 far1), (6, .pointer (some ⟨b182, 0, none⟩)), (7, .pointer (some ⟨b187, 0, none⟩)), (8, .int .i64 x194), (9, .pointer (some ⟨b205, 0, none⟩)), (10, .int .i64 x209), (27, .int .i64 x209), (28, .pointer (some ⟨b205, 0, none⟩))]) (by kernel_rfl) ?_
              refine t_v (.ld1 rfl rfl rfl (.at 0 rfl rfl)) ?_
              by_cases c217 : x209 < (wr64 (1 + t202))
              · rw [if_pos c217] at e207
                have c217b : (decide (x209 < (wr64 (1 + t202)))) = true := decide_eq_true c217
                refine t_v (dv_quiet rfl (congrArg (fun t => some (Value.bool t)) c217b)) ?_
                refine t_keep [0, 1, 6, 7, 8, 9, 10, 30] (σ' := [(0, .pointer (some ⟨B0, 0, none⟩)), (1, .int .i64 far1), (6, .pointer (some ⟨b182, 0, none⟩)), (7, .pointer (some ⟨b187, 0, none⟩)), (8, .int .i64 x194), (9, .pointer (some ⟨b205, 0, none⟩)), (10, .int .i64 x209), (30, .bool true)]) (by kernel_rfl) ?_
                refine t_end ?_
                show W _ _ _ _ _ _ _
                refine w_cond rfl (fun _ => ?_) (fun c_ => by cases c_)
                show W _ _ _ _ _ _ _
                refine w_skip ?_
                show W _ _ _ _ _ _ _
                refine w_seq ?_
                refine w_block ?_
                refine w_reg fun all => ?_
                obtain ⟨⟨t218, t219, t220⟩, h221, e207⟩ := bind_of e207
                try dsimp only at e207
                refine t_qz 3 [0, 1, 6, 7, 8, 9, 10, 33, 34, 35] (σ' := [(0, .pointer (some ⟨B0, 0, none⟩)), (1, .int .i64 far1), (6, .pointer (some ⟨b182, 0, none⟩)), (7, .pointer (some ⟨b187, 0, none⟩)), (8, .int .i64 x194), (9, .pointer (some ⟨b205, 0, none⟩)), (10, .int .i64 x209), (33, .int .i64 x209), (34, .pointer (some ⟨B0, 0, none⟩)), (35, .int .i64 far1)]) (by kernel_rfl) ?_
                refine t_call (vs := [.pointer (some ⟨B0, 0, none⟩), .int .i64 far1]) (H1 := ([⟨B0, [.slice a_m0_0 m0_0.length c_m0_0, .int .i64 x216], 2⟩] : List Own)) (F := ([⟨b205, [.int .i64 (wr64 (1 + t202)), .int .i64 x210, .int .i64 x211, .int .i64 x212, .int .i64 x213, .int .i64 x214, .int .i64 x215], 7⟩, ⟨a195, encL E_i647 y196, na195⟩, ⟨b187, [.int .i64 t183, .int .i64 t184, .slice (ad a195) y196.length (na195 / 7), .bool closed2], 4⟩, ⟨b182, [.int .i64 0, .int .i64 0, .slice none 0 0, .bool false], 4⟩] : List Own)) rfl rfl (by kernel_rfl) (sel_perm (is := [1]) (by kernel_rfl)) (glyphicmake_inside_v1.ok h_m0_0 h221) ?_
                rintro _ _ S_ ⟨rfl, rfl, hS_⟩
                obtain rfl := hS_.symm
                by_cases c222 : x209 = 0
                · rw [if_pos c222] at e207
                  have c222b : (x209 == 0) = true := beq_iff_eq.mpr c222
                  refine t_qz 1 [0, 1, 6, 7, 8, 9, 10, 33, 36, 37] (σ' := [(0, .pointer (some ⟨B0, 0, none⟩)), (1, .int .i64 far1), (6, .pointer (some ⟨b182, 0, none⟩)), (7, .pointer (some ⟨b187, 0, none⟩)), (8, .int .i64 x194), (9, .pointer (some ⟨b205, 0, none⟩)), (10, .int .i64 x209), (33, .int .i64 x209), (36, .agg #[.int .i64 t218, .int .i64 t219]), (37, .pointer (some ⟨b205, 1, none⟩))]) (by kernel_rfl) ?_
                  refine t_v (.quiet rfl (ixa_at (j := 0) (u := .pointer (some ⟨b205, 1, none⟩)) rfl c222b (by kernel_rfl))) ?_
                  refine t_sti 1 (cs := [.int .i64 (wr64 (1 + t202)), .int .i64 t218, .int .i64 t219, .int .i64 x212, .int .i64 x213, .int .i64 x214, .int .i64 x215]) rfl rfl rfl rfl rfl rfl rfl rfl rfl ?_
                  refine t_keep [0, 1, 6, 7, 8, 9, 10] (σ' := [(0, .pointer (some ⟨B0, 0, none⟩)), (1, .int .i64 far1), (6, .pointer (some ⟨b182, 0, none⟩)), (7, .pointer (some ⟨b187, 0, none⟩)), (8, .int .i64 x194), (9, .pointer (some ⟨b205, 0, none⟩)), (10, .int .i64 x209)]) (by kernel_rfl) ?_
                  refine t_end ?_
                  show W _ _ _ _ _ _ _
                  refine w_reg fun all => ?_
                  refine t_qz 3 [0, 1, 6, 7, 8, 9, 10] (σ' := [(0, .pointer (some ⟨B0, 0, none⟩)), (1, .int .i64 far1), (6, .pointer (some ⟨b182, 0, none⟩)), (7, .pointer (some ⟨b187, 0, none⟩)), (8, .int .i64 x194), (9, .pointer (some ⟨b205, 0, none⟩)), (10, .int .i64 (wr64 (x209 + 1)))]) (by kernel_rfl) ?_
                  refine t_end ?_
                  exact ⟨k_, Nat.lt_succ_self _, [(0, .pointer (some ⟨B0, 0, none⟩)), (1, .int .i64 far1), (6, .pointer (some ⟨b182, 0, none⟩)), (7, .pointer (some ⟨b187, 0, none⟩)), (8, .int .i64 x194), (9, .pointer (some ⟨b205, 0, none⟩)), (10, .int .i64 (wr64 (x209 + 1)))], ([⟨b205, [.int .i64 (wr64 (1 + t202)), .int .i64 t218, .int .i64 t219, .int .i64 x212, .int .i64 x213, .int .i64 x214, .int .i64 x215], 7⟩, ⟨B0, [.slice a_m0_0 m0_0.length c_m0_0, .int .i64 t220], 2⟩, ⟨a195, encL E_i647 y196, na195⟩, ⟨b187, [.int .i64 t183, .int .i64 t184, .slice (ad a195) y196.length (na195 / 7), .bool closed2], 4⟩, ⟨b182, [.int .i64 0, .int .i64 0, .slice none 0 0, .bool false], 4⟩] : List Own), S, keep_sub [0, 1, 6, 7, 8, 9, 10] (by kernel_rfl), VS.sel [1, 0, 0, 0, 0] (by kernel_rfl), wr64 (x209 + 1), t218, t219, x212, x213, x214, x215, t220, rfl, rfl, rfl, e207⟩
                · rw [if_neg c222] at e207
                  have c222b : (x209 == 0) = false := beq_eq_false_iff_ne.mpr c222
                  by_cases c224 : x209 = 1
                  · rw [if_pos c224] at e207
                    have c224b : (x209 == 1) = true := beq_iff_eq.mpr c224
                    refine t_qz 1 [0, 1, 6, 7, 8, 9, 10, 33, 36, 37] (σ' := [(0, .pointer (some ⟨B0, 0, none⟩)), (1, .int .i64 far1), (6, .pointer (some ⟨b182, 0, none⟩)), (7, .pointer (some ⟨b187, 0, none⟩)), (8, .int .i64 x194), (9, .pointer (some ⟨b205, 0, none⟩)), (10, .int .i64 x209), (33, .int .i64 x209), (36, .agg #[.int .i64 t218, .int .i64 t219]), (37, .pointer (some ⟨b205, 1, none⟩))]) (by kernel_rfl) ?_
                    refine t_v (.quiet rfl (ixa_at (j := 1) (u := .pointer (some ⟨b205, 3, none⟩)) rfl c224b (by kernel_rfl))) ?_
                    refine t_sti 1 (cs := [.int .i64 (wr64 (1 + t202)), .int .i64 x210, .int .i64 x211, .int .i64 t218, .int .i64 t219, .int .i64 x214, .int .i64 x215]) rfl rfl rfl rfl rfl rfl rfl rfl rfl ?_
                    refine t_keep [0, 1, 6, 7, 8, 9, 10] (σ' := [(0, .pointer (some ⟨B0, 0, none⟩)), (1, .int .i64 far1), (6, .pointer (some ⟨b182, 0, none⟩)), (7, .pointer (some ⟨b187, 0, none⟩)), (8, .int .i64 x194), (9, .pointer (some ⟨b205, 0, none⟩)), (10, .int .i64 x209)]) (by kernel_rfl) ?_
                    refine t_end ?_
                    show W _ _ _ _ _ _ _
                    refine w_reg fun all => ?_
                    refine t_qz 3 [0, 1, 6, 7, 8, 9, 10] (σ' := [(0, .pointer (some ⟨B0, 0, none⟩)), (1, .int .i64 far1), (6, .pointer (some ⟨b182, 0, none⟩)), (7, .pointer (some ⟨b187, 0, none⟩)), (8, .int .i64 x194), (9, .pointer (some ⟨b205, 0, none⟩)), (10, .int .i64 (wr64 (x209 + 1)))]) (by kernel_rfl) ?_
                    refine t_end ?_
                    exact ⟨k_, Nat.lt_succ_self _, [(0, .pointer (some ⟨B0, 0, none⟩)), (1, .int .i64 far1), (6, .pointer (some ⟨b182, 0, none⟩)), (7, .pointer (some ⟨b187, 0, none⟩)), (8, .int .i64 x194), (9, .pointer (some ⟨b205, 0, none⟩)), (10, .int .i64 (wr64 (x209 + 1)))], ([⟨b205, [.int .i64 (wr64 (1 + t202)), .int .i64 x210, .int .i64 x211, .int .i64 t218, .int .i64 t219, .int .i64 x214, .int .i64 x215], 7⟩, ⟨B0, [.slice a_m0_0 m0_0.length c_m0_0, .int .i64 t220], 2⟩, ⟨a195, encL E_i647 y196, na195⟩, ⟨b187, [.int .i64 t183, .int .i64 t184, .slice (ad a195) y196.length (na195 / 7), .bool closed2], 4⟩, ⟨b182, [.int .i64 0, .int .i64 0, .slice none 0 0, .bool false], 4⟩] : List Own), S, keep_sub [0, 1, 6, 7, 8, 9, 10] (by kernel_rfl), VS.sel [1, 0, 0, 0, 0] (by kernel_rfl), wr64 (x209 + 1), x210, x211, t218, t219, x214, x215, t220, rfl, rfl, rfl, e207⟩
                  · rw [if_neg c224] at e207
                    have c224b : (x209 == 1) = false := beq_eq_false_iff_ne.mpr c224
                    by_cases c226 : x209 = 2
                    · rw [if_pos c226] at e207
                      have c226b : (x209 == 2) = true := beq_iff_eq.mpr c226
                      refine t_qz 1 [0, 1, 6, 7, 8, 9, 10, 33, 36, 37] (σ' := [(0, .pointer (some ⟨B0, 0, none⟩)), (1, .int .i64 far1), (6, .pointer (some ⟨b182, 0, none⟩)), (7, .pointer (some ⟨b187, 0, none⟩)), (8, .int .i64 x194), (9, .pointer (some ⟨b205, 0, none⟩)), (10, .int .i64 x209), (33, .int .i64 x209), (36, .agg #[.int .i64 t218, .int .i64 t219]), (37, .pointer (some ⟨b205, 1, none⟩))]) (by kernel_rfl) ?_
                      refine t_v (.quiet rfl (ixa_at (j := 2) (u := .pointer (some ⟨b205, 5, none⟩)) rfl c226b (by kernel_rfl))) ?_
                      refine t_sti 1 (cs := [.int .i64 (wr64 (1 + t202)), .int .i64 x210, .int .i64 x211, .int .i64 x212, .int .i64 x213, .int .i64 t218, .int .i64 t219]) rfl rfl rfl rfl rfl rfl rfl rfl rfl ?_
                      refine t_keep [0, 1, 6, 7, 8, 9, 10] (σ' := [(0, .pointer (some ⟨B0, 0, none⟩)), (1, .int .i64 far1), (6, .pointer (some ⟨b182, 0, none⟩)), (7, .pointer (some ⟨b187, 0, none⟩)), (8, .int .i64 x194), (9, .pointer (some ⟨b205, 0, none⟩)), (10, .int .i64 x209)]) (by kernel_rfl) ?_
                      refine t_end ?_
                      show W _ _ _ _ _ _ _
                      refine w_reg fun all => ?_
                      refine t_qz 3 [0, 1, 6, 7, 8, 9, 10] (σ' := [(0, .pointer (some ⟨B0, 0, none⟩)), (1, .int .i64 far1), (6, .pointer (some ⟨b182, 0, none⟩)), (7, .pointer (some ⟨b187, 0, none⟩)), (8, .int .i64 x194), (9, .pointer (some ⟨b205, 0, none⟩)), (10, .int .i64 (wr64 (x209 + 1)))]) (by kernel_rfl) ?_
                      refine t_end ?_
                      exact ⟨k_, Nat.lt_succ_self _, [(0, .pointer (some ⟨B0, 0, none⟩)), (1, .int .i64 far1), (6, .pointer (some ⟨b182, 0, none⟩)), (7, .pointer (some ⟨b187, 0, none⟩)), (8, .int .i64 x194), (9, .pointer (some ⟨b205, 0, none⟩)), (10, .int .i64 (wr64 (x209 + 1)))], ([⟨b205, [.int .i64 (wr64 (1 + t202)), .int .i64 x210, .int .i64 x211, .int .i64 x212, .int .i64 x213, .int .i64 t218, .int .i64 t219], 7⟩, ⟨B0, [.slice a_m0_0 m0_0.length c_m0_0, .int .i64 t220], 2⟩, ⟨a195, encL E_i647 y196, na195⟩, ⟨b187, [.int .i64 t183, .int .i64 t184, .slice (ad a195) y196.length (na195 / 7), .bool closed2], 4⟩, ⟨b182, [.int .i64 0, .int .i64 0, .slice none 0 0, .bool false], 4⟩] : List Own), S, keep_sub [0, 1, 6, 7, 8, 9, 10] (by kernel_rfl), VS.sel [1, 0, 0, 0, 0] (by kernel_rfl), wr64 (x209 + 1), x210, x211, x212, x213, t218, t219, t220, rfl, rfl, rfl, e207⟩
                    · rw [if_neg c226] at e207
                      have c226b : (x209 == 2) = false := beq_eq_false_iff_ne.mpr c226
                      cases e207
              · rw [if_neg c217] at e207
                have c217b : (decide (x209 < (wr64 (1 + t202)))) = false := decide_eq_false c217
                refine t_v (dv_quiet rfl (congrArg (fun t => some (Value.bool t)) c217b)) ?_
                refine t_keep [0, 1, 6, 7, 8, 9, 10, 30] (σ' := [(0, .pointer (some ⟨B0, 0, none⟩)), (1, .int .i64 far1), (6, .pointer (some ⟨b182, 0, none⟩)), (7, .pointer (some ⟨b187, 0, none⟩)), (8, .int .i64 x194), (9, .pointer (some ⟨b205, 0, none⟩)), (10, .int .i64 x209), (30, .bool false)]) (by kernel_rfl) ?_
                refine t_end ?_
                show W _ _ _ _ _ _ _
                refine w_cond rfl (fun c_ => by cases c_) (fun _ => ?_)
                show W _ _ _ _ _ _ _
                refine w_exit ?_
                simp only [Option.some.injEq, Prod.mk.injEq] at e207
                obtain ⟨rfl, rfl, rfl, rfl, rfl, rfl, rfl, rfl⟩ := e207
                exact ⟨([⟨b205, [.int .i64 (wr64 (1 + t202)), .int .i64 x210, .int .i64 x211, .int .i64 x212, .int .i64 x213, .int .i64 x214, .int .i64 x215], 7⟩, ⟨B0, [.slice a_m0_0 m0_0.length c_m0_0, .int .i64 x216], 2⟩, ⟨b187, [.int .i64 t183, .int .i64 t184, .slice (ad a195) y196.length (na195 / 7), .bool closed2], 4⟩, ⟨b182, [.int .i64 0, .int .i64 0, .slice none 0 0, .bool false], 4⟩, ⟨a195, encL E_i647 y196, na195⟩] : List Own), S, VS.sel [0, 0, 1, 1, 0] (by kernel_rfl), by kernel_rfl, rfl, rfl⟩
          · rintro σ_ H_ S_ ⟨rfl, rfl, rfl⟩
            refine w_reg fun all => ?_
            refine t_qz 1 [0, 1, 6, 7, 8, 9, 39] (σ' := [(0, .pointer (some ⟨B0, 0, none⟩)), (1, .int .i64 far1), (6, .pointer (some ⟨b182, 0, none⟩)), (7, .pointer (some ⟨b187, 0, none⟩)), (8, .int .i64 x194), (9, .pointer (some ⟨b205, 0, none⟩)), (39, .pointer (some ⟨b187, 2, none⟩))]) (by kernel_rfl) ?_
            refine t_v (.ld1 rfl rfl rfl (.at 2 rfl rfl)) ?_
            refine t_v (.ldn rfl rfl rfl (.at 0 rfl rfl)) ?_
            refine t_a (.bsl rfl rfl rfl rfl) fun b237 fb237 sb237 => ?_
            obtain ⟨y238, hl239, e200⟩ := bind_of e200
            refine t_appX (E := E_i647) (L := y196) (X := ([(x229, x230, x231, x232, x233, x234, x235)] : List (Int × Int × Int × Int × Int × Int × Int))) (F := ([⟨b237, [.int .i64 x229, .int .i64 x230, .int .i64 x231, .int .i64 x232, .int .i64 x233, .int .i64 x234, .int .i64 x235], 7⟩, ⟨b205, [.int .i64 x229, .int .i64 x230, .int .i64 x231, .int .i64 x232, .int .i64 x233, .int .i64 x234, .int .i64 x235], 7⟩, ⟨B0, [.slice a_m0_0 m0_0.length c_m0_0, .int .i64 x236], 2⟩, ⟨b187, [.int .i64 t183, .int .i64 t184, .slice (ad a195) y196.length (na195 / 7), .bool closed2], 4⟩, ⟨b182, [.int .i64 0, .int .i64 0, .slice none 0 0, .bool false], 4⟩] : List Own)) rfl rfl rfl rfl (sel_perm (is := [5]) (by kernel_rfl)) rfl (Or.inr ⟨_, _, rfl, .at 0 rfl (by kernel_rfl)⟩) rfl (by decide) (by decide) rfl hl239 fun a240 na240 => ?_
            refine t_qz 1 [0, 1, 6, 7, 8, 43, 44] (σ' := [(0, .pointer (some ⟨B0, 0, none⟩)), (1, .int .i64 far1), (6, .pointer (some ⟨b182, 0, none⟩)), (7, .pointer (some ⟨b187, 0, none⟩)), (8, .int .i64 x194), (43, .slice (ad a240) y238.length (na240 / 7)), (44, .pointer (some ⟨b187, 2, none⟩))]) (by kernel_rfl) ?_
            refine t_sti 4 (cs := [.int .i64 t183, .int .i64 t184, .slice (ad a240) y238.length (na240 / 7), .bool closed2]) rfl rfl rfl rfl rfl rfl rfl rfl rfl ?_
            refine t_keep [0, 1, 6, 7, 8] (σ' := [(0, .pointer (some ⟨B0, 0, none⟩)), (1, .int .i64 far1), (6, .pointer (some ⟨b182, 0, none⟩)), (7, .pointer (some ⟨b187, 0, none⟩)), (8, .int .i64 x194)]) (by kernel_rfl) ?_
            refine t_end ?_
            simp only [Option.some.injEq, Prod.mk.injEq] at e200
            obtain ⟨rfl, rfl⟩ := e200
            exact ⟨([⟨B0, [.slice a_m0_0 m0_0.length c_m0_0, .int .i64 x236], 2⟩, ⟨b187, [.int .i64 t183, .int .i64 t184, .slice (ad a240) y238.length (na240 / 7), .bool closed2], 4⟩, ⟨b182, [.int .i64 0, .int .i64 0, .slice none 0 0, .bool false], 4⟩, ⟨a240, encL E_i647 y238, na240⟩] : List Own), S, VS.sel [3, 3, 3, 0] (by kernel_rfl), a240, na240, by kernel_rfl, rfl, rfl⟩
        · rintro σ_ H_ S_ ⟨a242, na242, rfl, rfl, rfl⟩
          refine w_reg fun all => ?_
          refine t_qz 3 [0, 1, 6, 7, 8] (σ' := [(0, .pointer (some ⟨B0, 0, none⟩)), (1, .int .i64 far1), (6, .pointer (some ⟨b182, 0, none⟩)), (7, .pointer (some ⟨b187, 0, none⟩)), (8, .int .i64 (wr64 (x194 - 1)))]) (by kernel_rfl) ?_
          refine t_end ?_
          exact ⟨k_, Nat.lt_succ_self _, [(0, .pointer (some ⟨B0, 0, none⟩)), (1, .int .i64 far1), (6, .pointer (some ⟨b182, 0, none⟩)), (7, .pointer (some ⟨b187, 0, none⟩)), (8, .int .i64 (wr64 (x194 - 1)))], ([⟨a242, encL E_i647 y243, na242⟩, ⟨B0, [.slice a_m0_0 m0_0.length c_m0_0, .int .i64 x241], 2⟩, ⟨b187, [.int .i64 t183, .int .i64 t184, .slice (ad a242) y243.length (na242 / 7), .bool closed2], 4⟩, ⟨b182, [.int .i64 0, .int .i64 0, .slice none 0 0, .bool false], 4⟩] : List Own), S, keep_sub [0, 1, 6, 7, 8] (by kernel_rfl), VS.sel [3, 0, 0, 0] (by kernel_rfl), wr64 (x194 - 1), y243, x241, a242, na242, rfl, rfl, rfl, e189⟩
      · rw [if_neg c198] at e189
        have c198b : (decide (x194 > 0)) = false := decide_eq_false c198
        refine t_qz 1 [0, 1, 6, 7, 8, 19] (σ' := [(0, .pointer (some ⟨B0, 0, none⟩)), (1, .int .i64 far1), (6, .pointer (some ⟨b182, 0, none⟩)), (7, .pointer (some ⟨b187, 0, none⟩)), (8, .int .i64 x194), (19, .int .i64 x194)]) (by kernel_rfl) ?_
        refine t_v (dv_quiet rfl (congrArg (fun t => some (Value.bool t)) c198b)) ?_
        refine t_keep [0, 1, 6, 7, 8, 20] (σ' := [(0, .pointer (some ⟨B0, 0, none⟩)), (1, .int .i64 far1), (6, .pointer (some ⟨b182, 0, none⟩)), (7, .pointer (some ⟨b187, 0, none⟩)), (8, .int .i64 x194), (20, .bool false)]) (by kernel_rfl) ?_
        refine t_end ?_
        show W _ _ _ _ _ _ _
        refine w_cond rfl (fun c_ => by cases c_) (fun _ => ?_)
        show W _ _ _ _ _ _ _
        refine w_exit ?_
        simp only [Option.some.injEq, Prod.mk.injEq] at e189
        obtain ⟨rfl, rfl⟩ := e189
        exact ⟨([⟨b187, [.int .i64 t183, .int .i64 t184, .slice (ad a195) y196.length (na195 / 7), .bool closed2], 4⟩, ⟨B0, [.slice a_m0_0 m0_0.length c_m0_0, .int .i64 x197], 2⟩, ⟨b182, [.int .i64 0, .int .i64 0, .slice none 0 0, .bool false], 4⟩, ⟨a195, encL E_i647 y196, na195⟩] : List Own), S, VS.sel [2, 1, 1, 0] (by kernel_rfl), a195, na195, by kernel_rfl, rfl, rfl⟩
  · rintro σ_ H_ S_ ⟨a246, na246, rfl, rfl, rfl⟩
    refine w_seq ?_
    refine w_reg fun all => ?_
    refine t_v (.ldn rfl rfl rfl (.at 0 rfl rfl)) ?_
    refine t_sti 2 (cs := [.int .i64 t183, .int .i64 t184, .slice (ad a246) y247.length (na246 / 7), .bool closed2]) rfl rfl rfl rfl rfl rfl rfl rfl rfl ?_
    refine t_keep [6] (σ' := [(6, .pointer (some ⟨b182, 0, none⟩))]) (by kernel_rfl) ?_
    refine t_end ?_
    show W _ _ _ _ _ _ _
    refine w_ret ?_
    simp only [Option.some.injEq, Prod.mk.injEq] at e
    obtain ⟨rfl, rfl, rfl, rfl, rfl⟩ := e
    exact ⟨[.agg #[.int .i64 t183, .int .i64 t184, .slice (ad a246) y247.length (na246 / 7), .bool closed2]], ([⟨a246, encL E_i647 y247, na246⟩, ⟨B0, [.slice a_m0_0 m0_0.length c_m0_0, .int .i64 x248], 2⟩] : List Own), S, ⟨⟨_, _, _, rfl, .at 2 rfl rfl, rfl⟩, trivial⟩, VS.sel [3, 1] (by kernel_rfl), a246, na246, rfl, rfl, rfl⟩

/-- glyphiclaw21.device -/
def c27 : C :=
  (.seq (.reg [⟨(some 4), .new [(.int .i64 0), (.int .i64 0), (.slice none 0 0), (.bool false)], none⟩])
  (.seq (.reg [⟨(some 5), .mv (.tmp 0), none⟩,
     ⟨(some 6), .mv (.tmp 1), none⟩,
     ⟨(some 7), .mv (.tmp 0), none⟩,
     ⟨(some 8), .call 37 [(.tmp 7), (.const (.int .i64 2))], none⟩,
     ⟨(some 9), .bin .eql (.tmp 8) (.const (.int .i64 0)), none⟩,
     ⟨(some 10), .call 66 [(.tmp 5), (.tmp 6), (.tmp 9)], none⟩,
     ⟨none, .st 4 (.tmp 4) (.tmp 10), none⟩])
  .ret))
def glyphiclaw21_device_v1.f (k : Nat) (far1 : Int) (m0_0 : List (Int)) (m0_1 : Int) : Option (Int × Int × Bool × List (Int × Int × Int × Int × Int × Int × Int) × Int) := (glyphicmake_Seq_Next_v1.f 2 m0_0 m0_1).bind fun (t257, t258) => ((glyphicmake_Path_v1.f k far1 (t257 == 0) m0_0 t258).bind fun (t260, t261, t262, t263, t264) => (some (t260, t261, t262, t263, t264)))
theorem glyphiclaw21_device_v1.ok {S : Seal} {B0 : Nat} {k : Nat} {far1 : Int} {m0_0 : List (Int)} {m0_1 : Int} {r0_ : Int} {r1_ : Int} {r2_ : Bool} {r3_ : List (Int × Int × Int × Int × Int × Int × Int)} {r4_ : Int}{a_m0_0 : Option Addr} {c_m0_0 : Nat} (h_m0_0 : SlE S E_i64 m0_0 a_m0_0) (e : glyphiclaw21_device_v1.f k far1 m0_0 m0_1 = some (r0_, r1_, r2_, r3_, r4_)) :
    Cal Try.prog 27 [.pointer (some ⟨B0, 0, none⟩), .int .i64 far1] ([⟨B0, [.slice a_m0_0 m0_0.length c_m0_0, .int .i64 m0_1], 2⟩] : List Own) S fun v H' S' => ∃ (N0_ : Option Nat) (nN0_ : Nat) , v = .agg #[.int .i64 r0_, .int .i64 r1_, .slice (ad N0_) r3_.length (nN0_ / 7), .bool r2_] ∧ H' = ([⟨N0_, encL E_i647 r3_, nN0_⟩, ⟨B0, [.slice a_m0_0 m0_0.length c_m0_0, .int .i64 r4_], 2⟩] : List Own) ∧ S' = S := by
  unfold glyphiclaw21_device_v1.f at e
  refine cal_of (c := c27) (N := 11) Try.func27 rfl rfl (by kernel_rfl) (rs := [.cn 4 4]) (by kernel_rfl) (Nat.le_of_ble_eq_true rfl) ?_
  unfold c27
  refine w_seq ?_
  refine w_reg fun all => ?_
  refine t_a (.new rfl rfl) fun b256 fb256 sb256 => ?_
  refine t_keep [0, 1, 4] (σ' := [(0, .pointer (some ⟨B0, 0, none⟩)), (1, .int .i64 far1), (4, .pointer (some ⟨b256, 0, none⟩))]) (by kernel_rfl) ?_
  refine t_end ?_
  show W _ _ _ _ _ _ _
  refine w_seq ?_
  refine w_reg fun all => ?_
  obtain ⟨⟨t257, t258⟩, h259, e⟩ := bind_of e
  try dsimp only at e
  refine t_qz 3 [4, 5, 6, 7] (σ' := [(4, .pointer (some ⟨b256, 0, none⟩)), (5, .pointer (some ⟨B0, 0, none⟩)), (6, .int .i64 far1), (7, .pointer (some ⟨B0, 0, none⟩))]) (by kernel_rfl) ?_
  refine t_call (vs := [.pointer (some ⟨B0, 0, none⟩), .int .i64 2]) (H1 := ([⟨B0, [.slice a_m0_0 m0_0.length c_m0_0, .int .i64 m0_1], 2⟩] : List Own)) (F := ([⟨b256, [.int .i64 0, .int .i64 0, .slice none 0 0, .bool false], 4⟩] : List Own)) rfl rfl (by kernel_rfl) (sel_perm (is := [1]) (by kernel_rfl)) (glyphicmake_Seq_Next_v1.ok h_m0_0 h259) ?_
  rintro _ _ S_ ⟨rfl, rfl, hS_⟩
  obtain rfl := hS_.symm
  obtain ⟨⟨t260, t261, t262, t263, t264⟩, h265, e⟩ := bind_of e
  try dsimp only at e
  refine t_qz 1 [4, 5, 6, 9] (σ' := [(4, .pointer (some ⟨b256, 0, none⟩)), (5, .pointer (some ⟨B0, 0, none⟩)), (6, .int .i64 far1), (9, .bool (t257 == 0))]) (by kernel_rfl) ?_
  refine t_call (vs := [.pointer (some ⟨B0, 0, none⟩), .int .i64 far1, .bool (t257 == 0)]) (H1 := ([⟨B0, [.slice a_m0_0 m0_0.length c_m0_0, .int .i64 t258], 2⟩] : List Own)) (F := ([⟨b256, [.int .i64 0, .int .i64 0, .slice none 0 0, .bool false], 4⟩] : List Own)) rfl rfl (by kernel_rfl) (sel_perm (is := [0]) (by kernel_rfl)) (glyphicmake_Path_v1.ok h_m0_0 h265) ?_
  rintro _ _ S_ ⟨N266, nN266, rfl, rfl, hS_⟩
  obtain rfl := hS_.symm
  refine t_sti 2 (cs := [.int .i64 t260, .int .i64 t261, .slice (ad N266) t263.length (nN266 / 7), .bool t262]) rfl rfl rfl rfl rfl rfl rfl rfl rfl ?_
  refine t_keep [4] (σ' := [(4, .pointer (some ⟨b256, 0, none⟩))]) (by kernel_rfl) ?_
  refine t_end ?_
  show W _ _ _ _ _ _ _
  refine w_ret ?_
  simp only [Option.some.injEq, Prod.mk.injEq] at e
  obtain ⟨rfl, rfl, rfl, rfl, rfl⟩ := e
  exact ⟨[.agg #[.int .i64 t260, .int .i64 t261, .slice (ad N266) t263.length (nN266 / 7), .bool t262]], ([⟨N266, encL E_i647 t263, nN266⟩, ⟨B0, [.slice a_m0_0 m0_0.length c_m0_0, .int .i64 t264], 2⟩] : List Own), S, ⟨⟨_, _, _, rfl, .at 2 rfl rfl, rfl⟩, trivial⟩, VS.sel [0, 0] (by kernel_rfl), N266, nN266, rfl, rfl, rfl⟩

/-- flatten.bend -/
def c68 : C :=
  (.seq (.reg [⟨(some 3), .box (.tmp 0), none⟩,
     ⟨(some 4), .box (.tmp 1), none⟩,
     ⟨(some 5), .box (.tmp 2), none⟩,
     ⟨(some 6), .mv (.const (.int .i64 0)), none⟩])
  (.seq (.drw [⟨(some 9), .pad 0 (.tmp 3), none⟩,
     ⟨(some 10), .ld none (.tmp 9), none⟩,
     ⟨(some 11), .pad 0 (.tmp 4), none⟩,
     ⟨(some 12), .ld none (.tmp 11), none⟩,
     ⟨(some 13), .bin .mul (.const (.int .i64 2)) (.tmp 12), none⟩,
     ⟨(some 14), .bin .sub (.tmp 10) (.tmp 13), none⟩,
     ⟨(some 15), .pad 0 (.tmp 5), none⟩,
     ⟨(some 16), .ld none (.tmp 15), none⟩,
     ⟨(some 17), .bin .add (.tmp 14) (.tmp 16), none⟩,
     ⟨(some 18), .pad 1 (.tmp 3), none⟩,
     ⟨(some 19), .ld none (.tmp 18), none⟩,
     ⟨(some 20), .pad 1 (.tmp 4), none⟩,
     ⟨(some 21), .ld none (.tmp 20), none⟩,
     ⟨(some 22), .bin .mul (.const (.int .i64 2)) (.tmp 21), none⟩,
     ⟨(some 23), .bin .sub (.tmp 19) (.tmp 22), none⟩,
     ⟨(some 24), .pad 1 (.tmp 5), none⟩,
     ⟨(some 25), .ld none (.tmp 24), none⟩,
     ⟨(some 26), .bin .add (.tmp 23) (.tmp 25), none⟩,
     ⟨(some 7), .mv (.tmp 17), none⟩,
     ⟨(some 8), .mv (.tmp 26), none⟩] [[], [0], [], [2], [3], [1, 4], [], [6], [5, 7], [], [9], [], [11], [12], [10, 13], [], [15], [14, 16], [8, 0, 1, 2, 3, 4, 5, 6, 7, 8], [17, 18, 0, 1, 2, 3, 4, 5, 6, 7, 8, 9, 10, 11, 12, 13, 14, 15, 16, 17, 18]])
  (.seq (.reg [⟨(some 27), .mv (.tmp 7), none⟩,
     ⟨(some 28), .mv (.tmp 7), none⟩,
     ⟨(some 29), .un .neg (.tmp 28), none⟩,
     ⟨(some 30), .mm true [(.tmp 27), (.tmp 29)], none⟩,
     ⟨(some 31), .mv (.tmp 8), none⟩,
     ⟨(some 32), .mv (.tmp 8), none⟩,
     ⟨(some 33), .un .neg (.tmp 32), none⟩,
     ⟨(some 34), .mm true [(.tmp 31), (.tmp 33)], none⟩,
     ⟨(some 35), .bin .add (.tmp 30) (.tmp 34), none⟩,
     ⟨(some 6), .mv (.tmp 35), none⟩])
  .ret)))
def flatten_bend.f (a0_X : Int) (a0_Y : Int) (b1_X : Int) (b1_Y : Int) (c2_X : Int) (c2_Y : Int) : Option (Int) := some (wr64 ((mx (wr64 ((wr64 (a0_X - (wr64 (2 * b1_X)))) + c2_X)) (wr64 (0 - (wr64 ((wr64 (a0_X - (wr64 (2 * b1_X)))) + c2_X))))) + (mx (wr64 ((wr64 (a0_Y - (wr64 (2 * b1_Y)))) + c2_Y)) (wr64 (0 - (wr64 ((wr64 (a0_Y - (wr64 (2 * b1_Y)))) + c2_Y)))))))
theorem flatten_bend.ok {S : Seal} {a0_X : Int} {a0_Y : Int} {b1_X : Int} {b1_Y : Int} {c2_X : Int} {c2_Y : Int} {r0_ : Int}(e : flatten_bend.f a0_X a0_Y b1_X b1_Y c2_X c2_Y = some r0_) :
    Cal Try.prog 68 [.agg #[.int .i64 a0_X, .int .i64 a0_Y], .agg #[.int .i64 b1_X, .int .i64 b1_Y], .agg #[.int .i64 c2_X, .int .i64 c2_Y]] [] S fun v H' S' => v = .int .i64 r0_ ∧ H' = [] ∧ S' = S := by
  unfold flatten_bend.f at e
  refine cal_of (c := c68) (N := 36) Try.func68 rfl rfl (by kernel_rfl) (rs := [.t 6]) (by kernel_rfl) (Nat.le_of_ble_eq_true rfl) ?_
  unfold c68
  refine w_seq ?_
  refine w_reg fun all => ?_
  refine t_a (.box rfl rfl rfl) fun b294 fb294 sb294 => ?_
  refine t_a (.box rfl rfl rfl) fun b295 fb295 sb295 => ?_
  refine t_a (.box rfl rfl rfl) fun b296 fb296 sb296 => ?_
  refine t_qz 1 [3, 4, 5] (σ' := [(3, .pointer (some ⟨b294, 0, none⟩)), (4, .pointer (some ⟨b295, 0, none⟩)), (5, .pointer (some ⟨b296, 0, none⟩))]) (by kernel_rfl) ?_
  refine t_end ?_
  show W _ _ _ _ _ _ _
  refine w_seq ?_
  refine w_drwE mixed 20 [.v (.pointer (some ⟨b294, 0, none⟩)), .v (.int .i64 a0_X), .v (.pointer (some ⟨b295, 0, none⟩)), .v (.int .i64 b1_X), .v (.int .i64 (wr64 (2 * b1_X))), .v (.int .i64 (wr64 (a0_X - (wr64 (2 * b1_X))))), .v (.pointer (some ⟨b296, 0, none⟩)), .v (.int .i64 c2_X), .v (.int .i64 (wr64 ((wr64 (a0_X - (wr64 (2 * b1_X)))) + c2_X))), .v (.pointer (some ⟨b294, 1, none⟩)), .v (.int .i64 a0_Y), .v (.pointer (some ⟨b295, 1, none⟩)), .v (.int .i64 b1_Y), .v (.int .i64 (wr64 (2 * b1_Y))), .v (.int .i64 (wr64 (a0_Y - (wr64 (2 * b1_Y))))), .v (.pointer (some ⟨b296, 1, none⟩)), .v (.int .i64 c2_Y), .v (.int .i64 (wr64 ((wr64 (a0_Y - (wr64 (2 * b1_Y)))) + c2_Y))), .v (.int .i64 (wr64 ((wr64 (a0_X - (wr64 (2 * b1_X)))) + c2_X))), .v (.int .i64 (wr64 ((wr64 (a0_Y - (wr64 (2 * b1_Y)))) + c2_Y)))] (by kernel_rfl) ?_ ?_
  · refine DI.sq 1 (by kernel_rfl) rfl ?_
    refine .cons (.ld1 rfl rfl rfl (.at 2 rfl rfl)) ?_
    refine DI.sq 1 (by kernel_rfl) rfl ?_
    refine .cons (.ld1 rfl rfl rfl (.at 1 rfl rfl)) ?_
    refine DI.sq 3 (by kernel_rfl) rfl ?_
    refine .cons (.ld1 rfl rfl rfl (.at 0 rfl rfl)) ?_
    refine DI.sq 2 (by kernel_rfl) rfl ?_
    refine .cons (.ld1 rfl rfl rfl (.at 2 rfl rfl)) ?_
    refine DI.sq 1 (by kernel_rfl) rfl ?_
    refine .cons (.ld1 rfl rfl rfl (.at 1 rfl rfl)) ?_
    refine DI.sq 3 (by kernel_rfl) rfl ?_
    refine .cons (.ld1 rfl rfl rfl (.at 0 rfl rfl)) ?_
    refine DI.sq 3 (by kernel_rfl) rfl ?_
    exact .nil
  refine fk_q 20 [7, 8] (σ' := [(7, .int .i64 (wr64 ((wr64 (a0_X - (wr64 (2 * b1_X)))) + c2_X))), (8, .int .i64 (wr64 ((wr64 (a0_Y - (wr64 (2 * b1_Y)))) + c2_Y)))]) t_more (by kernel_rfl) ?_
  refine fk_nil fun all => ?_
  refine t_keep [7, 8] (σ' := [(7, .int .i64 (wr64 ((wr64 (a0_X - (wr64 (2 * b1_X)))) + c2_X))), (8, .int .i64 (wr64 ((wr64 (a0_Y - (wr64 (2 * b1_Y)))) + c2_Y)))]) (by kernel_rfl) ?_
  refine t_end ?_
  show W _ _ _ _ _ _ _
  refine w_seq ?_
  refine w_reg fun all => ?_
  refine t_qz 10 [6] (σ' := [(6, .int .i64 (wr64 ((mx (wr64 ((wr64 (a0_X - (wr64 (2 * b1_X)))) + c2_X)) (wr64 (0 - (wr64 ((wr64 (a0_X - (wr64 (2 * b1_X)))) + c2_X))))) + (mx (wr64 ((wr64 (a0_Y - (wr64 (2 * b1_Y)))) + c2_Y)) (wr64 (0 - (wr64 ((wr64 (a0_Y - (wr64 (2 * b1_Y)))) + c2_Y))))))))]) (by kernel_rfl) ?_
  refine t_end ?_
  show W _ _ _ _ _ _ _
  refine w_ret ?_
  obtain rfl := Option.some.inj e
  exact ⟨[.int .i64 (wr64 ((mx (wr64 ((wr64 (a0_X - (wr64 (2 * b1_X)))) + c2_X)) (wr64 (0 - (wr64 ((wr64 (a0_X - (wr64 (2 * b1_X)))) + c2_X))))) + (mx (wr64 ((wr64 (a0_Y - (wr64 (2 * b1_Y)))) + c2_Y)) (wr64 (0 - (wr64 ((wr64 (a0_Y - (wr64 (2 * b1_Y)))) + c2_Y)))))))], [], S, ⟨rfl, trivial⟩, VS.none, rfl, rfl, rfl⟩

def flatten_Count.l0 : Nat → Int → Int → Option (Int)
  | 0, _, _ => none
  | k + 1, x304, x308 => if x304 > (wr64 ((wr64 (32 * x308)) * x308)) then (flatten_Count.l0 k x304 (wr64 (x308 * 2))) else (some x308)
def flatten_Count.f (k : Nat) (a0_X : Int) (a0_Y : Int) (s1_Kind : Int) (s1_P_0_X : Int) (s1_P_0_Y : Int) (s1_P_1_X : Int) (s1_P_1_Y : Int) (s1_P_2_X : Int) (s1_P_2_Y : Int) : Option (Int) := (if s1_Kind = 1 then (some (.inr 0)) else (if s1_Kind = 2 then ((flatten_bend.f a0_X a0_Y s1_P_0_X s1_P_0_Y s1_P_1_X s1_P_1_Y).bind fun t297 => (some (.inr t297))) else (if s1_Kind = 3 then ((flatten_bend.f a0_X a0_Y s1_P_0_X s1_P_0_Y s1_P_1_X s1_P_1_Y).bind fun t300 => ((flatten_bend.f s1_P_0_X s1_P_0_Y s1_P_1_X s1_P_1_Y s1_P_2_X s1_P_2_Y).bind fun t302 => (some (.inr (wr64 (3 * (mx t300 t302))))))) else (some (.inl 0)))) : Option ((Int) ⊕ (Int))).bind fun s_ => match s_ with | .inl q313 => some q313 | .inr x304 => ((flatten_Count.l0 k x304 1 : Option (Int)).bind fun x312 => (some x312))
theorem flatten_Count.ok {S : Seal} {k : Nat} {a0_X : Int} {a0_Y : Int} {s1_Kind : Int} {s1_P_0_X : Int} {s1_P_0_Y : Int} {s1_P_1_X : Int} {s1_P_1_Y : Int} {s1_P_2_X : Int} {s1_P_2_Y : Int} {r0_ : Int}(e : flatten_Count.f k a0_X a0_Y s1_Kind s1_P_0_X s1_P_0_Y s1_P_1_X s1_P_1_Y s1_P_2_X s1_P_2_Y = some r0_) :
    Cal Try.prog 29 [.agg #[.int .i64 a0_X, .int .i64 a0_Y], .agg #[.int .i64 s1_Kind, .int .i64 s1_P_0_X, .int .i64 s1_P_0_Y, .int .i64 s1_P_1_X, .int .i64 s1_P_1_Y, .int .i64 s1_P_2_X, .int .i64 s1_P_2_Y]] [] S fun v H' S' => v = .int .i64 r0_ ∧ H' = [] ∧ S' = S := by
  unfold flatten_Count.f at e
  refine cal_of (c := c29) (N := 52) Try.func29 rfl rfl (by kernel_rfl) (rs := [.t 4]) (by kernel_rfl) (Nat.le_of_ble_eq_true rfl) ?_
  unfold c29
  refine w_seq ?_
  refine w_reg fun all => ?_
  refine t_a (.box rfl rfl rfl) fun b290 fb290 sb290 => ?_
  refine t_a (.box rfl rfl rfl) fun b291 fb291 sb291 => ?_
  refine t_qz 1 [2, 3] (σ' := [(2, .pointer (some ⟨b290, 0, none⟩)), (3, .pointer (some ⟨b291, 0, none⟩))]) (by kernel_rfl) ?_
  refine t_end ?_
  show W _ _ _ _ _ _ _
  refine w_seq ?_
  refine w_reg fun all => ?_
  refine t_qz 1 [2, 3, 5] (σ' := [(2, .pointer (some ⟨b290, 0, none⟩)), (3, .pointer (some ⟨b291, 0, none⟩)), (5, .int .i64 0)]) (by kernel_rfl) ?_
  refine t_end ?_
  show W _ _ _ _ _ _ _
  obtain ⟨s294, e293, e⟩ := bind_of e
  refine w_cut [5] (fun σ_ H_ S_ => ∃ (x304 : Int), s294 = .inr x304 ∧ [(5, .int .i64 x304)] = σ_ ∧ ([⟨b291, [.int .i64 s1_Kind, .int .i64 s1_P_0_X, .int .i64 s1_P_0_Y, .int .i64 s1_P_1_X, .int .i64 s1_P_1_Y, .int .i64 s1_P_2_X, .int .i64 s1_P_2_Y], 7⟩, ⟨b290, [.int .i64 a0_X, .int .i64 a0_Y], 2⟩] : List Own) = H_ ∧ S = S_) ?_ ?_
  · show W _ _ _ _ _ _ _
    refine w_seq ?_
    refine w_reg fun all => ?_
    refine t_qz 1 [2, 3, 5, 7] (σ' := [(2, .pointer (some ⟨b290, 0, none⟩)), (3, .pointer (some ⟨b291, 0, none⟩)), (5, .int .i64 0), (7, .pointer (some ⟨b291, 0, none⟩))]) (by kernel_rfl) ?_
    refine t_v (.ld1 rfl rfl rfl (.at 0 rfl rfl)) ?_
    refine t_keep [2, 3, 5, 8] (σ' := [(2, .pointer (some ⟨b290, 0, none⟩)), (3, .pointer (some ⟨b291, 0, none⟩)), (5, .int .i64 0), (8, .int .i64 s1_Kind)]) (by kernel_rfl) ?_
    refine t_end ?_
    show W _ _ _ _ _ _ _
    refine w_block ?_
    refine w_seq ?_
    refine w_reg fun all => ?_
    by_cases c295 : s1_Kind = 1
    · rw [if_pos c295] at e293
      have c295b : (s1_Kind == 1) = true := beq_iff_eq.mpr c295
      refine t_v (dv_quiet rfl (congrArg (fun t => some (Value.bool t)) c295b)) ?_
      refine t_qz 1 [2, 3, 5, 8, 9] (σ' := [(2, .pointer (some ⟨b290, 0, none⟩)), (3, .pointer (some ⟨b291, 0, none⟩)), (5, .int .i64 0), (8, .int .i64 s1_Kind), (9, .bool true)]) (by kernel_rfl) ?_
      refine t_end ?_
      show W _ _ _ _ _ _ _
      refine w_cond rfl (fun _ => ?_) (fun c_ => by cases c_)
      show W _ _ _ _ _ _ _
      refine w_skip ?_
      obtain rfl := Option.some.inj e293
      exact ⟨([⟨b291, [.int .i64 s1_Kind, .int .i64 s1_P_0_X, .int .i64 s1_P_0_Y, .int .i64 s1_P_1_X, .int .i64 s1_P_1_Y, .int .i64 s1_P_2_X, .int .i64 s1_P_2_Y], 7⟩, ⟨b290, [.int .i64 a0_X, .int .i64 a0_Y], 2⟩] : List Own), S, VS.sel [0, 0] (by kernel_rfl), 0, rfl, by kernel_rfl, rfl, rfl⟩
    · rw [if_neg c295] at e293
      have c295b : (s1_Kind == 1) = false := beq_eq_false_iff_ne.mpr c295
      refine t_v (dv_quiet rfl (congrArg (fun t => some (Value.bool t)) c295b)) ?_
      refine t_qz 1 [2, 3, 5, 8, 9] (σ' := [(2, .pointer (some ⟨b290, 0, none⟩)), (3, .pointer (some ⟨b291, 0, none⟩)), (5, .int .i64 0), (8, .int .i64 s1_Kind), (9, .bool false)]) (by kernel_rfl) ?_
      refine t_end ?_
      show W _ _ _ _ _ _ _
      refine w_cond rfl (fun c_ => by cases c_) (fun _ => ?_)
      show W _ _ _ _ _ _ _
      refine w_seq ?_
      refine w_reg fun all => ?_
      by_cases c296 : s1_Kind = 2
      · rw [if_pos c296] at e293
        have c296b : (s1_Kind == 2) = true := beq_iff_eq.mpr c296
        refine t_v (dv_quiet rfl (congrArg (fun t => some (Value.bool t)) c296b)) ?_
        refine t_qz 1 [2, 3, 8, 11] (σ' := [(2, .pointer (some ⟨b290, 0, none⟩)), (3, .pointer (some ⟨b291, 0, none⟩)), (8, .int .i64 s1_Kind), (11, .bool true)]) (by kernel_rfl) ?_
        refine t_end ?_
        show W _ _ _ _ _ _ _
        refine w_cond rfl (fun _ => ?_) (fun c_ => by cases c_)
        show W _ _ _ _ _ _ _
        refine w_reg fun all => ?_
        refine t_v (.ldn rfl rfl rfl (.at 1 rfl rfl)) ?_
        refine t_qz 2 [3, 13, 15] (σ' := [(3, .pointer (some ⟨b291, 0, none⟩)), (13, .agg #[.int .i64 a0_X, .int .i64 a0_Y]), (15, .pointer (some ⟨b291, 1, none⟩))]) (by kernel_rfl) ?_
        refine t_v (.ldn rfl rfl rfl (.at 0 rfl rfl)) ?_
        refine t_qz 2 [13, 16, 18] (σ' := [(13, .agg #[.int .i64 a0_X, .int .i64 a0_Y]), (16, .agg #[.int .i64 s1_P_0_X, .int .i64 s1_P_0_Y]), (18, .pointer (some ⟨b291, 3, none⟩))]) (by kernel_rfl) ?_
        refine t_v (.ldn rfl rfl rfl (.at 0 rfl rfl)) ?_
        obtain ⟨t297, h298, e293⟩ := bind_of e293
        refine t_v (.call (vs := [.agg #[.int .i64 a0_X, .int .i64 a0_Y], .agg #[.int .i64 s1_P_0_X, .int .i64 s1_P_0_Y], .agg #[.int .i64 s1_P_1_X, .int .i64 s1_P_1_Y]]) rfl rfl (by kernel_rfl) (flatten_bend.ok h298)) ?_
        refine t_qz 1 [5] (σ' := [(5, .int .i64 t297)]) (by kernel_rfl) ?_
        refine t_end ?_
        obtain rfl := Option.some.inj e293
        exact ⟨([⟨b291, [.int .i64 s1_Kind, .int .i64 s1_P_0_X, .int .i64 s1_P_0_Y, .int .i64 s1_P_1_X, .int .i64 s1_P_1_Y, .int .i64 s1_P_2_X, .int .i64 s1_P_2_Y], 7⟩, ⟨b290, [.int .i64 a0_X, .int .i64 a0_Y], 2⟩] : List Own), S, VS.sel [0, 0] (by kernel_rfl), t297, rfl, by kernel_rfl, rfl, rfl⟩
      · rw [if_neg c296] at e293
        have c296b : (s1_Kind == 2) = false := beq_eq_false_iff_ne.mpr c296
        refine t_v (dv_quiet rfl (congrArg (fun t => some (Value.bool t)) c296b)) ?_
        refine t_qz 1 [2, 3, 8, 11] (σ' := [(2, .pointer (some ⟨b290, 0, none⟩)), (3, .pointer (some ⟨b291, 0, none⟩)), (8, .int .i64 s1_Kind), (11, .bool false)]) (by kernel_rfl) ?_
        refine t_end ?_
        show W _ _ _ _ _ _ _
        refine w_cond rfl (fun c_ => by cases c_) (fun _ => ?_)
        show W _ _ _ _ _ _ _
        refine w_seq ?_
        refine w_reg fun all => ?_
        by_cases c299 : s1_Kind = 3
        · rw [if_pos c299] at e293
          have c299b : (s1_Kind == 3) = true := beq_iff_eq.mpr c299
          refine t_v (dv_quiet rfl (congrArg (fun t => some (Value.bool t)) c299b)) ?_
          refine t_qz 1 [2, 3, 21] (σ' := [(2, .pointer (some ⟨b290, 0, none⟩)), (3, .pointer (some ⟨b291, 0, none⟩)), (21, .bool true)]) (by kernel_rfl) ?_
          refine t_end ?_
          show W _ _ _ _ _ _ _
          refine w_cond rfl (fun _ => ?_) (fun c_ => by cases c_)
          show W _ _ _ _ _ _ _
          obtain ⟨t300, h301, e293⟩ := bind_of e293
          obtain ⟨t302, h303, e293⟩ := bind_of e293
          refine w_drwE mixed 21 [.v (.agg #[.int .i64 a0_X, .int .i64 a0_Y]), .v (.pointer (some ⟨b291, 1, none⟩)), .v (.pointer (some ⟨b291, 1, none⟩)), .v (.agg #[.int .i64 s1_P_0_X, .int .i64 s1_P_0_Y]), .v (.pointer (some ⟨b291, 1, none⟩)), .v (.pointer (some ⟨b291, 3, none⟩)), .v (.agg #[.int .i64 s1_P_1_X, .int .i64 s1_P_1_Y]), .v (.int .i64 t300), .v (.pointer (some ⟨b291, 1, none⟩)), .v (.pointer (some ⟨b291, 1, none⟩)), .v (.agg #[.int .i64 s1_P_0_X, .int .i64 s1_P_0_Y]), .v (.pointer (some ⟨b291, 1, none⟩)), .v (.pointer (some ⟨b291, 3, none⟩)), .v (.agg #[.int .i64 s1_P_1_X, .int .i64 s1_P_1_Y]), .v (.pointer (some ⟨b291, 1, none⟩)), .v (.pointer (some ⟨b291, 5, none⟩)), .v (.agg #[.int .i64 s1_P_2_X, .int .i64 s1_P_2_Y]), .v (.int .i64 t302), .v (.int .i64 (mx t300 t302)), .v (.int .i64 (wr64 (3 * (mx t300 t302)))), .v (.int .i64 (wr64 (3 * (mx t300 t302))))] (by kernel_rfl) ?_ ?_
          · refine .cons (.ldn rfl rfl rfl (.at 1 rfl rfl)) ?_
            refine DI.sq 2 (by kernel_rfl) rfl ?_
            refine .cons (.ldn rfl rfl rfl (.at 0 rfl rfl)) ?_
            refine DI.sq 2 (by kernel_rfl) rfl ?_
            refine .cons (.ldn rfl rfl rfl (.at 0 rfl rfl)) ?_
            refine .cons (.call (vs := [.agg #[.int .i64 a0_X, .int .i64 a0_Y], .agg #[.int .i64 s1_P_0_X, .int .i64 s1_P_0_Y], .agg #[.int .i64 s1_P_1_X, .int .i64 s1_P_1_Y]]) rfl rfl (by kernel_rfl) (flatten_bend.ok h301)) ?_
            refine DI.sq 2 (by kernel_rfl) rfl ?_
            refine .cons (.ldn rfl rfl rfl (.at 0 rfl rfl)) ?_
            refine DI.sq 2 (by kernel_rfl) rfl ?_
            refine .cons (.ldn rfl rfl rfl (.at 0 rfl rfl)) ?_
            refine DI.sq 2 (by kernel_rfl) rfl ?_
            refine .cons (.ldn rfl rfl rfl (.at 0 rfl rfl)) ?_
            refine .cons (.call (vs := [.agg #[.int .i64 s1_P_0_X, .int .i64 s1_P_0_Y], .agg #[.int .i64 s1_P_1_X, .int .i64 s1_P_1_Y], .agg #[.int .i64 s1_P_2_X, .int .i64 s1_P_2_Y]]) rfl rfl (by kernel_rfl) (flatten_bend.ok h303)) ?_
            refine DI.sq 3 (by kernel_rfl) rfl ?_
            exact .nil
          refine fk_q 21 [5] (σ' := [(5, .int .i64 (wr64 (3 * (mx t300 t302))))]) t_more (by kernel_rfl) ?_
          refine fk_nil fun all => ?_
          refine t_keep [5] (σ' := [(5, .int .i64 (wr64 (3 * (mx t300 t302))))]) (by kernel_rfl) ?_
          refine t_end ?_
          obtain rfl := Option.some.inj e293
          exact ⟨([⟨b291, [.int .i64 s1_Kind, .int .i64 s1_P_0_X, .int .i64 s1_P_0_Y, .int .i64 s1_P_1_X, .int .i64 s1_P_1_Y, .int .i64 s1_P_2_X, .int .i64 s1_P_2_Y], 7⟩, ⟨b290, [.int .i64 a0_X, .int .i64 a0_Y], 2⟩] : List Own), S, VS.sel [0, 0] (by kernel_rfl), wr64 (3 * (mx t300 t302)), rfl, by kernel_rfl, rfl, rfl⟩
        · rw [if_neg c299] at e293
          have c299b : (s1_Kind == 3) = false := beq_eq_false_iff_ne.mpr c299
          refine t_v (dv_quiet rfl (congrArg (fun t => some (Value.bool t)) c299b)) ?_
          refine t_qz 1 [2, 3, 21] (σ' := [(2, .pointer (some ⟨b290, 0, none⟩)), (3, .pointer (some ⟨b291, 0, none⟩)), (21, .bool false)]) (by kernel_rfl) ?_
          refine t_end ?_
          show W _ _ _ _ _ _ _
          refine w_cond rfl (fun c_ => by cases c_) (fun _ => ?_)
          show W _ _ _ _ _ _ _
          refine w_seq ?_
          refine w_reg fun all => ?_
          refine t_qz 1 [4] (σ' := [(4, .int .i64 0)]) (by kernel_rfl) ?_
          refine t_end ?_
          show W _ _ _ _ _ _ _
          refine w_ret ?_
          obtain rfl := Option.some.inj e293
          obtain rfl := Option.some.inj e
          exact ⟨[.int .i64 0], [], S, ⟨rfl, trivial⟩, VS.none, rfl, rfl, rfl⟩
  · rintro σ_ H_ S_ ⟨x304, rfl, rfl, rfl, rfl⟩
    dsimp only at e
    refine w_seq ?_
    refine w_reg fun all => ?_
    refine t_qz 1 [5, 6] (σ' := [(5, .int .i64 x304), (6, .int .i64 1)]) (by kernel_rfl) ?_
    refine t_end ?_
    show W _ _ _ _ _ _ _
    obtain ⟨x312, e306, e⟩ := bind_of e
    refine w_cut [6] (fun σ_ H_ S_ => [(6, .int .i64 x312)] = σ_ ∧ ([⟨b291, [.int .i64 s1_Kind, .int .i64 s1_P_0_X, .int .i64 s1_P_0_Y, .int .i64 s1_P_1_X, .int .i64 s1_P_1_Y, .int .i64 s1_P_2_X, .int .i64 s1_P_2_Y], 7⟩, ⟨b290, [.int .i64 a0_X, .int .i64 a0_Y], 2⟩] : List Own) = H_ ∧ S = S_) ?_ ?_
    · show W _ _ _ _ _ _ _
      refine w_block ?_
      refine w_kp [5, 6] (σ' := [(5, .int .i64 x304), (6, .int .i64 1)]) (by kernel_rfl) ?_
      refine w_loop (fun n_ σ_ H_ S_ => ∃ (x308 : Int), [(5, .int .i64 x304), (6, .int .i64 x308)] = σ_ ∧ ([⟨b291, [.int .i64 s1_Kind, .int .i64 s1_P_0_X, .int .i64 s1_P_0_Y, .int .i64 s1_P_1_X, .int .i64 s1_P_1_Y, .int .i64 s1_P_2_X, .int .i64 s1_P_2_Y], 7⟩, ⟨b290, [.int .i64 a0_X, .int .i64 a0_Y], 2⟩] : List Own) = H_ ∧ S = S_ ∧ flatten_Count.l0 n_ x304 x308 = some x312) _ ⟨1, rfl, rfl, rfl, e306⟩ ?_
      rintro n311 σ_ H_ S_ ⟨x308, rfl, rfl, rfl, e306⟩
      cases n311 with
      | zero => rw [flatten_Count.l0.eq_1] at e306; cases e306
      | succ k_ =>
        rw [flatten_Count.l0.eq_2] at e306
        refine w_seq ?_
        refine w_seq ?_
        refine w_reg fun all => ?_
        by_cases c309 : x304 > (wr64 ((wr64 (32 * x308)) * x308))
        · rw [if_pos c309] at e306
          have c309b : (decide (x304 > (wr64 ((wr64 (32 * x308)) * x308)))) = true := decide_eq_true c309
          refine t_qz 5 [5, 6, 43, 47] (σ' := [(5, .int .i64 x304), (6, .int .i64 x308), (43, .int .i64 x304), (47, .int .i64 (wr64 ((wr64 (32 * x308)) * x308)))]) (by kernel_rfl) ?_
          refine t_v (dv_quiet rfl (congrArg (fun t => some (Value.bool t)) c309b)) ?_
          refine t_keep [5, 6, 48] (σ' := [(5, .int .i64 x304), (6, .int .i64 x308), (48, .bool true)]) (by kernel_rfl) ?_
          refine t_end ?_
          show W _ _ _ _ _ _ _
          refine w_cond rfl (fun _ => ?_) (fun c_ => by cases c_)
          show W _ _ _ _ _ _ _
          refine w_skip ?_
          show W _ _ _ _ _ _ _
          refine w_block ?_
          refine w_reg fun all => ?_
          refine t_qz 3 [5, 6] (σ' := [(5, .int .i64 x304), (6, .int .i64 (wr64 (x308 * 2)))]) (by kernel_rfl) ?_
          refine t_end ?_
          exact ⟨k_, Nat.lt_succ_self _, [(5, .int .i64 x304), (6, .int .i64 (wr64 (x308 * 2)))], ([⟨b291, [.int .i64 s1_Kind, .int .i64 s1_P_0_X, .int .i64 s1_P_0_Y, .int .i64 s1_P_1_X, .int .i64 s1_P_1_Y, .int .i64 s1_P_2_X, .int .i64 s1_P_2_Y], 7⟩, ⟨b290, [.int .i64 a0_X, .int .i64 a0_Y], 2⟩] : List Own), S, keep_sub [5, 6] (by kernel_rfl), VS.sel [0, 0] (by kernel_rfl), wr64 (x308 * 2), rfl, rfl, rfl, e306⟩
        · rw [if_neg c309] at e306
          have c309b : (decide (x304 > (wr64 ((wr64 (32 * x308)) * x308)))) = false := decide_eq_false c309
          refine t_qz 5 [5, 6, 43, 47] (σ' := [(5, .int .i64 x304), (6, .int .i64 x308), (43, .int .i64 x304), (47, .int .i64 (wr64 ((wr64 (32 * x308)) * x308)))]) (by kernel_rfl) ?_
          refine t_v (dv_quiet rfl (congrArg (fun t => some (Value.bool t)) c309b)) ?_
          refine t_keep [5, 6, 48] (σ' := [(5, .int .i64 x304), (6, .int .i64 x308), (48, .bool false)]) (by kernel_rfl) ?_
          refine t_end ?_
          show W _ _ _ _ _ _ _
          refine w_cond rfl (fun c_ => by cases c_) (fun _ => ?_)
          show W _ _ _ _ _ _ _
          refine w_exit ?_
          obtain rfl := Option.some.inj e306
          exact ⟨([⟨b291, [.int .i64 s1_Kind, .int .i64 s1_P_0_X, .int .i64 s1_P_0_Y, .int .i64 s1_P_1_X, .int .i64 s1_P_1_Y, .int .i64 s1_P_2_X, .int .i64 s1_P_2_Y], 7⟩, ⟨b290, [.int .i64 a0_X, .int .i64 a0_Y], 2⟩] : List Own), S, VS.sel [0, 0] (by kernel_rfl), by kernel_rfl, rfl, rfl⟩
    · rintro σ_ H_ S_ ⟨rfl, rfl, rfl⟩
      refine w_seq ?_
      refine w_reg fun all => ?_
      refine t_qz 2 [4] (σ' := [(4, .int .i64 x312)]) (by kernel_rfl) ?_
      refine t_end ?_
      show W _ _ _ _ _ _ _
      refine w_ret ?_
      obtain rfl := Option.some.inj e
      exact ⟨[.int .i64 x312], [], S, ⟨rfl, trivial⟩, VS.none, rfl, rfl, rfl⟩

/-- glyphicref20.abs -/
def c108 : C :=
  (.seq (.reg [⟨(some 2), .mv (.const (.int .i64 0)), none⟩])
  (.seq (.seq (.reg [⟨(some 3), .mv (.tmp 0), none⟩,
      ⟨(some 4), .bin .lss (.tmp 3) (.const (.int .i64 0)), none⟩])
   (.cond (.tmp 4)
    (.seq (.reg [⟨(some 5), .mv (.tmp 0), none⟩,
        ⟨(some 6), .un .neg (.tmp 5), none⟩,
        ⟨(some 2), .mv (.tmp 6), none⟩])
     .ret)
    .skip))
  (.seq (.reg [⟨(some 7), .mv (.tmp 0), none⟩,
     ⟨(some 2), .mv (.tmp 7), none⟩])
  .ret)))
def glyphicref20_abs.f (n0 : Int) : Option (Int) := if n0 < 0 then (some (wr64 (0 - n0))) else (some n0)
theorem glyphicref20_abs.ok {S : Seal} {n0 : Int} {r0_ : Int}(e : glyphicref20_abs.f n0 = some r0_) :
    Cal Try.prog 108 [.int .i64 n0] [] S fun v H' S' => v = .int .i64 r0_ ∧ H' = [] ∧ S' = S := by
  unfold glyphicref20_abs.f at e
  refine cal_of (c := c108) (N := 8) Try.func108 rfl rfl (by kernel_rfl) (rs := [.t 2]) (by kernel_rfl) (Nat.le_of_ble_eq_true rfl) ?_
  unfold c108
  refine w_seq ?_
  refine w_reg fun all => ?_
  refine t_qz 1 [0] (σ' := [(0, .int .i64 n0)]) (by kernel_rfl) ?_
  refine t_end ?_
  show W _ _ _ _ _ _ _
  refine w_seq ?_
  refine w_seq ?_
  refine w_reg fun all => ?_
  by_cases c324 : n0 < 0
  · rw [if_pos c324] at e
    have c324b : (decide (n0 < 0)) = true := decide_eq_true c324
    refine t_qz 1 [0, 3] (σ' := [(0, .int .i64 n0), (3, .int .i64 n0)]) (by kernel_rfl) ?_
    refine t_v (dv_quiet rfl (congrArg (fun t => some (Value.bool t)) c324b)) ?_
    refine t_keep [0, 4] (σ' := [(0, .int .i64 n0), (4, .bool true)]) (by kernel_rfl) ?_
    refine t_end ?_
    show W _ _ _ _ _ _ _
    refine w_cond rfl (fun _ => ?_) (fun c_ => by cases c_)
    show W _ _ _ _ _ _ _
    refine w_seq ?_
    refine w_reg fun all => ?_
    refine t_qz 3 [2] (σ' := [(2, .int .i64 (wr64 (0 - n0)))]) (by kernel_rfl) ?_
    refine t_end ?_
    show W _ _ _ _ _ _ _
    refine w_ret ?_
    obtain rfl := Option.some.inj e
    exact ⟨[.int .i64 (wr64 (0 - n0))], [], S, ⟨rfl, trivial⟩, VS.none, rfl, rfl, rfl⟩
  · rw [if_neg c324] at e
    have c324b : (decide (n0 < 0)) = false := decide_eq_false c324
    refine t_qz 1 [0, 3] (σ' := [(0, .int .i64 n0), (3, .int .i64 n0)]) (by kernel_rfl) ?_
    refine t_v (dv_quiet rfl (congrArg (fun t => some (Value.bool t)) c324b)) ?_
    refine t_keep [0, 4] (σ' := [(0, .int .i64 n0), (4, .bool false)]) (by kernel_rfl) ?_
    refine t_end ?_
    show W _ _ _ _ _ _ _
    refine w_cond rfl (fun c_ => by cases c_) (fun _ => ?_)
    show W _ _ _ _ _ _ _
    refine w_skip ?_
    show W _ _ _ _ _ _ _
    refine w_seq ?_
    refine w_reg fun all => ?_
    refine t_qz 2 [2] (σ' := [(2, .int .i64 n0)]) (by kernel_rfl) ?_
    refine t_end ?_
    show W _ _ _ _ _ _ _
    refine w_ret ?_
    obtain rfl := Option.some.inj e
    exact ⟨[.int .i64 n0], [], S, ⟨rfl, trivial⟩, VS.none, rfl, rfl, rfl⟩

/-- glyphicref20.bend -/
def c69 : C :=
  (.seq (.reg [⟨(some 3), .box (.tmp 0), none⟩,
     ⟨(some 4), .box (.tmp 1), none⟩,
     ⟨(some 5), .box (.tmp 2), none⟩,
     ⟨(some 6), .mv (.const (.int .i64 0)), none⟩])
  (.seq (.drw [⟨(some 7), .pad 0 (.tmp 3), none⟩,
     ⟨(some 8), .ld none (.tmp 7), none⟩,
     ⟨(some 9), .pad 0 (.tmp 4), none⟩,
     ⟨(some 10), .ld none (.tmp 9), none⟩,
     ⟨(some 11), .bin .mul (.const (.int .i64 2)) (.tmp 10), none⟩,
     ⟨(some 12), .bin .sub (.tmp 8) (.tmp 11), none⟩,
     ⟨(some 13), .pad 0 (.tmp 5), none⟩,
     ⟨(some 14), .ld none (.tmp 13), none⟩,
     ⟨(some 15), .bin .add (.tmp 12) (.tmp 14), none⟩,
     ⟨(some 16), .call 108 [(.tmp 15)], none⟩,
     ⟨(some 17), .pad 1 (.tmp 3), none⟩,
     ⟨(some 18), .ld none (.tmp 17), none⟩,
     ⟨(some 19), .pad 1 (.tmp 4), none⟩,
     ⟨(some 20), .ld none (.tmp 19), none⟩,
     ⟨(some 21), .bin .mul (.const (.int .i64 2)) (.tmp 20), none⟩,
     ⟨(some 22), .bin .sub (.tmp 18) (.tmp 21), none⟩,
     ⟨(some 23), .pad 1 (.tmp 5), none⟩,
     ⟨(some 24), .ld none (.tmp 23), none⟩,
     ⟨(some 25), .bin .add (.tmp 22) (.tmp 24), none⟩,
     ⟨(some 26), .call 108 [(.tmp 25)], none⟩,
     ⟨(some 27), .bin .add (.tmp 16) (.tmp 26), none⟩,
     ⟨(some 6), .mv (.tmp 27), none⟩] [[], [0], [], [2], [3], [1, 4], [], [6], [5, 7], [8], [], [10], [], [12], [13], [11, 14], [], [16], [15, 17], [18, 9], [9, 19], [20, 19, 0, 1, 2, 3, 4, 5, 6, 7, 8, 9, 10, 11, 12, 13, 14, 15, 16, 17, 18, 19, 20]])
  .ret))
def glyphicref20_bend.f (a0_X : Int) (a0_Y : Int) (b1_X : Int) (b1_Y : Int) (c2_X : Int) (c2_Y : Int) : Option (Int) := (glyphicref20_abs.f (wr64 ((wr64 (a0_X - (wr64 (2 * b1_X)))) + c2_X))).bind fun t324 => ((glyphicref20_abs.f (wr64 ((wr64 (a0_Y - (wr64 (2 * b1_Y)))) + c2_Y))).bind fun t326 => (some (wr64 (t324 + t326))))
theorem glyphicref20_bend.ok {S : Seal} {a0_X : Int} {a0_Y : Int} {b1_X : Int} {b1_Y : Int} {c2_X : Int} {c2_Y : Int} {r0_ : Int}(e : glyphicref20_bend.f a0_X a0_Y b1_X b1_Y c2_X c2_Y = some r0_) :
    Cal Try.prog 69 [.agg #[.int .i64 a0_X, .int .i64 a0_Y], .agg #[.int .i64 b1_X, .int .i64 b1_Y], .agg #[.int .i64 c2_X, .int .i64 c2_Y]] [] S fun v H' S' => v = .int .i64 r0_ ∧ H' = [] ∧ S' = S := by
  unfold glyphicref20_bend.f at e
  refine cal_of (c := c69) (N := 28) Try.func69 rfl rfl (by kernel_rfl) (rs := [.t 6]) (by kernel_rfl) (Nat.le_of_ble_eq_true rfl) ?_
  unfold c69
  refine w_seq ?_
  refine w_reg fun all => ?_
  refine t_a (.box rfl rfl rfl) fun b321 fb321 sb321 => ?_
  refine t_a (.box rfl rfl rfl) fun b322 fb322 sb322 => ?_
  refine t_a (.box rfl rfl rfl) fun b323 fb323 sb323 => ?_
  refine t_qz 1 [3, 4, 5] (σ' := [(3, .pointer (some ⟨b321, 0, none⟩)), (4, .pointer (some ⟨b322, 0, none⟩)), (5, .pointer (some ⟨b323, 0, none⟩))]) (by kernel_rfl) ?_
  refine t_end ?_
  show W _ _ _ _ _ _ _
  refine w_seq ?_
  obtain ⟨t324, h325, e⟩ := bind_of e
  obtain ⟨t326, h327, e⟩ := bind_of e
  refine w_drwE mixed 22 [.v (.pointer (some ⟨b321, 0, none⟩)), .v (.int .i64 a0_X), .v (.pointer (some ⟨b322, 0, none⟩)), .v (.int .i64 b1_X), .v (.int .i64 (wr64 (2 * b1_X))), .v (.int .i64 (wr64 (a0_X - (wr64 (2 * b1_X))))), .v (.pointer (some ⟨b323, 0, none⟩)), .v (.int .i64 c2_X), .v (.int .i64 (wr64 ((wr64 (a0_X - (wr64 (2 * b1_X)))) + c2_X))), .v (.int .i64 t324), .v (.pointer (some ⟨b321, 1, none⟩)), .v (.int .i64 a0_Y), .v (.pointer (some ⟨b322, 1, none⟩)), .v (.int .i64 b1_Y), .v (.int .i64 (wr64 (2 * b1_Y))), .v (.int .i64 (wr64 (a0_Y - (wr64 (2 * b1_Y))))), .v (.pointer (some ⟨b323, 1, none⟩)), .v (.int .i64 c2_Y), .v (.int .i64 (wr64 ((wr64 (a0_Y - (wr64 (2 * b1_Y)))) + c2_Y))), .v (.int .i64 t326), .v (.int .i64 (wr64 (t324 + t326))), .v (.int .i64 (wr64 (t324 + t326)))] (by kernel_rfl) ?_ ?_
  · refine DI.sq 1 (by kernel_rfl) rfl ?_
    refine .cons (.ld1 rfl rfl rfl (.at 2 rfl rfl)) ?_
    refine DI.sq 1 (by kernel_rfl) rfl ?_
    refine .cons (.ld1 rfl rfl rfl (.at 1 rfl rfl)) ?_
    refine DI.sq 3 (by kernel_rfl) rfl ?_
    refine .cons (.ld1 rfl rfl rfl (.at 0 rfl rfl)) ?_
    refine DI.sq 1 (by kernel_rfl) rfl ?_
    refine .cons (.call (vs := [.int .i64 (wr64 ((wr64 (a0_X - (wr64 (2 * b1_X)))) + c2_X))]) rfl rfl (by kernel_rfl) (glyphicref20_abs.ok h325)) ?_
    refine DI.sq 1 (by kernel_rfl) rfl ?_
    refine .cons (.ld1 rfl rfl rfl (.at 2 rfl rfl)) ?_
    refine DI.sq 1 (by kernel_rfl) rfl ?_
    refine .cons (.ld1 rfl rfl rfl (.at 1 rfl rfl)) ?_
    refine DI.sq 3 (by kernel_rfl) rfl ?_
    refine .cons (.ld1 rfl rfl rfl (.at 0 rfl rfl)) ?_
    refine DI.sq 1 (by kernel_rfl) rfl ?_
    refine .cons (.call (vs := [.int .i64 (wr64 ((wr64 (a0_Y - (wr64 (2 * b1_Y)))) + c2_Y))]) rfl rfl (by kernel_rfl) (glyphicref20_abs.ok h327)) ?_
    refine DI.sq 2 (by kernel_rfl) rfl ?_
    exact .nil
  refine fk_q 22 [6] (σ' := [(6, .int .i64 (wr64 (t324 + t326)))]) t_more (by kernel_rfl) ?_
  refine fk_nil fun all => ?_
  refine t_keep [6] (σ' := [(6, .int .i64 (wr64 (t324 + t326)))]) (by kernel_rfl) ?_
  refine t_end ?_
  show W _ _ _ _ _ _ _
  refine w_ret ?_
  obtain rfl := Option.some.inj e
  exact ⟨[.int .i64 (wr64 (t324 + t326))], [], S, ⟨rfl, trivial⟩, VS.none, rfl, rfl, rfl⟩

/-- glyphicref20.Count -/
def c30 : C :=
  (.seq (.reg [⟨(some 2), .box (.tmp 0), none⟩,
     ⟨(some 3), .box (.tmp 1), none⟩,
     ⟨(some 4), .mv (.const (.int .i64 0)), none⟩])
  (.seq (.seq (.reg [⟨(some 7), .pad 0 (.tmp 3), none⟩,
      ⟨(some 8), .ld none (.tmp 7), none⟩,
      ⟨(some 9), .bin .lss (.tmp 8) (.const (.int .i64 1)), none⟩,
      ⟨(some 10), .mv (.tmp 9), none⟩,
      ⟨(some 11), .pad 0 (.tmp 3), (some (10, false))⟩,
      ⟨(some 12), .ld none (.tmp 11), (some (10, false))⟩,
      ⟨(some 13), .bin .gtr (.tmp 12) (.const (.int .i64 3)), (some (10, false))⟩,
      ⟨(some 14), .pk (.tmp 10) (.const (.bool true)) (.tmp 13), none⟩])
   (.cond (.tmp 14)
    (.seq (.reg [⟨(some 4), .mv (.const (.int .i64 0)), none⟩])
     .ret)
    .skip))
  (.seq (.reg [⟨(some 5), .mv (.const (.int .i64 0)), none⟩])
  (.seq (.seq (.reg [⟨(some 15), .pad 0 (.tmp 3), none⟩,
      ⟨(some 16), .ld none (.tmp 15), none⟩,
      ⟨(some 17), .bin .eql (.tmp 16) (.const (.int .i64 2)), none⟩])
   (.cond (.tmp 17)
    (.reg [⟨(some 18), .ld (some 2) (.tmp 2), none⟩,
       ⟨(some 19), .pad 1 (.tmp 3), none⟩,
       ⟨(some 20), .ixa 2 3 (.tmp 19) (.const (.int .i64 0)), none⟩,
       ⟨(some 21), .ld (some 2) (.tmp 20), none⟩,
       ⟨(some 22), .pad 1 (.tmp 3), none⟩,
       ⟨(some 23), .ixa 2 3 (.tmp 22) (.const (.int .i64 1)), none⟩,
       ⟨(some 24), .ld (some 2) (.tmp 23), none⟩,
       ⟨(some 25), .call 69 [(.tmp 18), (.tmp 21), (.tmp 24)], none⟩,
       ⟨(some 5), .mv (.tmp 25), none⟩])
    .skip))
  (.seq (.seq (.reg [⟨(some 26), .pad 0 (.tmp 3), none⟩,
      ⟨(some 27), .ld none (.tmp 26), none⟩,
      ⟨(some 28), .bin .eql (.tmp 27) (.const (.int .i64 3)), none⟩])
   (.cond (.tmp 28)
    (.drw [⟨(some 29), .ld (some 2) (.tmp 2), none⟩,
       ⟨(some 30), .pad 1 (.tmp 3), none⟩,
       ⟨(some 31), .ixa 2 3 (.tmp 30) (.const (.int .i64 0)), none⟩,
       ⟨(some 32), .ld (some 2) (.tmp 31), none⟩,
       ⟨(some 33), .pad 1 (.tmp 3), none⟩,
       ⟨(some 34), .ixa 2 3 (.tmp 33) (.const (.int .i64 1)), none⟩,
       ⟨(some 35), .ld (some 2) (.tmp 34), none⟩,
       ⟨(some 36), .call 69 [(.tmp 29), (.tmp 32), (.tmp 35)], none⟩,
       ⟨(some 37), .pad 1 (.tmp 3), none⟩,
       ⟨(some 38), .ixa 2 3 (.tmp 37) (.const (.int .i64 0)), none⟩,
       ⟨(some 39), .ld (some 2) (.tmp 38), none⟩,
       ⟨(some 40), .pad 1 (.tmp 3), none⟩,
       ⟨(some 41), .ixa 2 3 (.tmp 40) (.const (.int .i64 1)), none⟩,
       ⟨(some 42), .ld (some 2) (.tmp 41), none⟩,
       ⟨(some 43), .pad 1 (.tmp 3), none⟩,
       ⟨(some 44), .ixa 2 3 (.tmp 43) (.const (.int .i64 2)), none⟩,
       ⟨(some 45), .ld (some 2) (.tmp 44), none⟩,
       ⟨(some 46), .call 69 [(.tmp 39), (.tmp 42), (.tmp 45)], none⟩,
       ⟨(some 47), .mm true [(.tmp 36), (.tmp 46)], none⟩,
       ⟨(some 48), .bin .mul (.const (.int .i64 3)) (.tmp 47), none⟩,
       ⟨(some 5), .mv (.tmp 48), none⟩] [[], [], [1], [2], [], [4], [5], [0, 3, 6], [], [8], [9], [], [11], [12], [], [14], [15], [10, 13, 16, 7], [7, 17], [18], [19, 17, 0, 1, 2, 3, 4, 5, 6, 7, 8, 9, 10, 11, 12, 13, 14, 15, 16, 17, 18, 19]])
    .skip))
  (.seq (.reg [⟨(some 6), .mv (.const (.int .i64 1)), none⟩])
  (.seq (.block 0 (.loop (.seq (.seq (.reg [⟨(some 49), .mv (.tmp 5), none⟩,
         ⟨(some 50), .mv (.tmp 6), none⟩,
         ⟨(some 51), .bin .mul (.const (.int .i64 32)) (.tmp 50), none⟩,
         ⟨(some 52), .mv (.tmp 6), none⟩,
         ⟨(some 53), .bin .mul (.tmp 51) (.tmp 52), none⟩,
         ⟨(some 54), .bin .gtr (.tmp 49) (.tmp 53), none⟩])
      (.cond (.tmp 54)
       .skip
       (.exit 0)))
     (.block 1 (.reg [⟨(some 55), .mv (.tmp 6), none⟩,
        ⟨(some 56), .bin .mul (.const (.int .i64 2)) (.tmp 55), none⟩,
        ⟨(some 6), .mv (.tmp 56), none⟩])))))
  (.seq (.reg [⟨(some 57), .mv (.tmp 6), none⟩,
     ⟨(some 4), .mv (.tmp 57), none⟩])
  .ret))))))))
def glyphicref20_Count.l0 : Nat → Int → Int → Option (Int)
  | 0, _, _ => none
  | k + 1, x335, x339 => if x335 > (wr64 ((wr64 (32 * x339)) * x339)) then (glyphicref20_Count.l0 k x335 (wr64 (2 * x339))) else (some x339)
def glyphicref20_Count.f (k : Nat) (a0_X : Int) (a0_Y : Int) (s1_Kind : Int) (s1_P_0_X : Int) (s1_P_0_Y : Int) (s1_P_1_X : Int) (s1_P_1_Y : Int) (s1_P_2_X : Int) (s1_P_2_Y : Int) : Option (Int) := if s1_Kind < 1 then (some 0) else (if s1_Kind > 3 then (some 0) else ((if s1_Kind = 2 then ((glyphicref20_bend.f a0_X a0_Y s1_P_0_X s1_P_0_Y s1_P_1_X s1_P_1_Y).bind fun t324 => (some t324)) else (some 0) : Option (Int)).bind fun x326 => ((if s1_Kind = 3 then ((glyphicref20_bend.f a0_X a0_Y s1_P_0_X s1_P_0_Y s1_P_1_X s1_P_1_Y).bind fun t331 => ((glyphicref20_bend.f s1_P_0_X s1_P_0_Y s1_P_1_X s1_P_1_Y s1_P_2_X s1_P_2_Y).bind fun t333 => (some (wr64 (3 * (mx t331 t333)))))) else (some x326) : Option (Int)).bind fun x335 => ((glyphicref20_Count.l0 k x335 1 : Option (Int)).bind fun x343 => (some x343)))))
theorem glyphicref20_Count.ok {S : Seal} {k : Nat} {a0_X : Int} {a0_Y : Int} {s1_Kind : Int} {s1_P_0_X : Int} {s1_P_0_Y : Int} {s1_P_1_X : Int} {s1_P_1_Y : Int} {s1_P_2_X : Int} {s1_P_2_Y : Int} {r0_ : Int}(e : glyphicref20_Count.f k a0_X a0_Y s1_Kind s1_P_0_X s1_P_0_Y s1_P_1_X s1_P_1_Y s1_P_2_X s1_P_2_Y = some r0_) :
    Cal Try.prog 30 [.agg #[.int .i64 a0_X, .int .i64 a0_Y], .agg #[.int .i64 s1_Kind, .int .i64 s1_P_0_X, .int .i64 s1_P_0_Y, .int .i64 s1_P_1_X, .int .i64 s1_P_1_Y, .int .i64 s1_P_2_X, .int .i64 s1_P_2_Y]] [] S fun v H' S' => v = .int .i64 r0_ ∧ H' = [] ∧ S' = S := by
  unfold glyphicref20_Count.f at e
  refine cal_of (c := c30) (N := 58) Try.func30 rfl rfl (by kernel_rfl) (rs := [.t 4]) (by kernel_rfl) (Nat.le_of_ble_eq_true rfl) ?_
  unfold c30
  refine w_seq ?_
  refine w_reg fun all => ?_
  refine t_a (.box rfl rfl rfl) fun b316 fb316 sb316 => ?_
  refine t_a (.box rfl rfl rfl) fun b317 fb317 sb317 => ?_
  refine t_qz 1 [2, 3] (σ' := [(2, .pointer (some ⟨b316, 0, none⟩)), (3, .pointer (some ⟨b317, 0, none⟩))]) (by kernel_rfl) ?_
  refine t_end ?_
  show W _ _ _ _ _ _ _
  refine w_seq ?_
  refine w_seq ?_
  refine w_reg fun all => ?_
  refine t_qz 1 [2, 3, 7] (σ' := [(2, .pointer (some ⟨b316, 0, none⟩)), (3, .pointer (some ⟨b317, 0, none⟩)), (7, .pointer (some ⟨b317, 0, none⟩))]) (by kernel_rfl) ?_
  refine t_v (.ld1 rfl rfl rfl (.at 0 rfl rfl)) ?_
  by_cases c318 : s1_Kind < 1
  · rw [if_pos c318] at e
    have c318b : (decide (s1_Kind < 1)) = true := decide_eq_true c318
    refine t_v (dv_quiet rfl (congrArg (fun t => some (Value.bool t)) c318b)) ?_
    refine t_qz 5 [2, 3, 14] (σ' := [(2, .pointer (some ⟨b316, 0, none⟩)), (3, .pointer (some ⟨b317, 0, none⟩)), (14, .bool true)]) (by kernel_rfl) ?_
    refine t_end ?_
    show W _ _ _ _ _ _ _
    refine w_cond rfl (fun _ => ?_) (fun c_ => by cases c_)
    show W _ _ _ _ _ _ _
    refine w_seq ?_
    refine w_reg fun all => ?_
    refine t_qz 1 [4] (σ' := [(4, .int .i64 0)]) (by kernel_rfl) ?_
    refine t_end ?_
    show W _ _ _ _ _ _ _
    refine w_ret ?_
    obtain rfl := Option.some.inj e
    exact ⟨[.int .i64 0], [], S, ⟨rfl, trivial⟩, VS.none, rfl, rfl, rfl⟩
  · rw [if_neg c318] at e
    have c318b : (decide (s1_Kind < 1)) = false := decide_eq_false c318
    refine t_v (dv_quiet rfl (congrArg (fun t => some (Value.bool t)) c318b)) ?_
    refine t_qz 2 [2, 3, 10, 11] (σ' := [(2, .pointer (some ⟨b316, 0, none⟩)), (3, .pointer (some ⟨b317, 0, none⟩)), (10, .bool false), (11, .pointer (some ⟨b317, 0, none⟩))]) (by kernel_rfl) ?_
    refine t_v (.ld1 rfl rfl rfl (.at 0 rfl rfl)) ?_
    by_cases c319 : s1_Kind > 3
    · rw [if_pos c319] at e
      have c319b : (decide (s1_Kind > 3)) = true := decide_eq_true c319
      refine t_v (dv_quiet rfl (congrArg (fun t => some (Value.bool t)) c319b)) ?_
      refine t_qz 1 [2, 3, 14] (σ' := [(2, .pointer (some ⟨b316, 0, none⟩)), (3, .pointer (some ⟨b317, 0, none⟩)), (14, .bool true)]) (by kernel_rfl) ?_
      refine t_end ?_
      show W _ _ _ _ _ _ _
      refine w_cond rfl (fun _ => ?_) (fun c_ => by cases c_)
      show W _ _ _ _ _ _ _
      refine w_seq ?_
      refine w_reg fun all => ?_
      refine t_qz 1 [4] (σ' := [(4, .int .i64 0)]) (by kernel_rfl) ?_
      refine t_end ?_
      show W _ _ _ _ _ _ _
      refine w_ret ?_
      obtain rfl := Option.some.inj e
      exact ⟨[.int .i64 0], [], S, ⟨rfl, trivial⟩, VS.none, rfl, rfl, rfl⟩
    · rw [if_neg c319] at e
      have c319b : (decide (s1_Kind > 3)) = false := decide_eq_false c319
      refine t_v (dv_quiet rfl (congrArg (fun t => some (Value.bool t)) c319b)) ?_
      refine t_qz 1 [2, 3, 14] (σ' := [(2, .pointer (some ⟨b316, 0, none⟩)), (3, .pointer (some ⟨b317, 0, none⟩)), (14, .bool false)]) (by kernel_rfl) ?_
      refine t_end ?_
      show W _ _ _ _ _ _ _
      refine w_cond rfl (fun c_ => by cases c_) (fun _ => ?_)
      show W _ _ _ _ _ _ _
      refine w_skip ?_
      show W _ _ _ _ _ _ _
      refine w_seq ?_
      refine w_reg fun all => ?_
      refine t_qz 1 [2, 3, 5] (σ' := [(2, .pointer (some ⟨b316, 0, none⟩)), (3, .pointer (some ⟨b317, 0, none⟩)), (5, .int .i64 0)]) (by kernel_rfl) ?_
      refine t_end ?_
      show W _ _ _ _ _ _ _
      obtain ⟨x326, e321, e⟩ := bind_of e
      refine w_cut [2, 3, 5] (fun σ_ H_ S_ => [(2, .pointer (some ⟨b316, 0, none⟩)), (3, .pointer (some ⟨b317, 0, none⟩)), (5, .int .i64 x326)] = σ_ ∧ ([⟨b317, [.int .i64 s1_Kind, .int .i64 s1_P_0_X, .int .i64 s1_P_0_Y, .int .i64 s1_P_1_X, .int .i64 s1_P_1_Y, .int .i64 s1_P_2_X, .int .i64 s1_P_2_Y], 7⟩, ⟨b316, [.int .i64 a0_X, .int .i64 a0_Y], 2⟩] : List Own) = H_ ∧ S = S_) ?_ ?_
      · show W _ _ _ _ _ _ _
        refine w_seq ?_
        refine w_reg fun all => ?_
        refine t_qz 1 [2, 3, 5, 15] (σ' := [(2, .pointer (some ⟨b316, 0, none⟩)), (3, .pointer (some ⟨b317, 0, none⟩)), (5, .int .i64 0), (15, .pointer (some ⟨b317, 0, none⟩))]) (by kernel_rfl) ?_
        refine t_v (.ld1 rfl rfl rfl (.at 0 rfl rfl)) ?_
        by_cases c323 : s1_Kind = 2
        · rw [if_pos c323] at e321
          have c323b : (s1_Kind == 2) = true := beq_iff_eq.mpr c323
          refine t_v (dv_quiet rfl (congrArg (fun t => some (Value.bool t)) c323b)) ?_
          refine t_keep [2, 3, 5, 17] (σ' := [(2, .pointer (some ⟨b316, 0, none⟩)), (3, .pointer (some ⟨b317, 0, none⟩)), (5, .int .i64 0), (17, .bool true)]) (by kernel_rfl) ?_
          refine t_end ?_
          show W _ _ _ _ _ _ _
          refine w_cond rfl (fun _ => ?_) (fun c_ => by cases c_)
          show W _ _ _ _ _ _ _
          refine w_reg fun all => ?_
          refine t_v (.ldn rfl rfl rfl (.at 1 rfl rfl)) ?_
          refine t_qz 2 [2, 3, 18, 20] (σ' := [(2, .pointer (some ⟨b316, 0, none⟩)), (3, .pointer (some ⟨b317, 0, none⟩)), (18, .agg #[.int .i64 a0_X, .int .i64 a0_Y]), (20, .pointer (some ⟨b317, 1, none⟩))]) (by kernel_rfl) ?_
          refine t_v (.ldn rfl rfl rfl (.at 0 rfl rfl)) ?_
          refine t_qz 2 [2, 3, 18, 21, 23] (σ' := [(2, .pointer (some ⟨b316, 0, none⟩)), (3, .pointer (some ⟨b317, 0, none⟩)), (18, .agg #[.int .i64 a0_X, .int .i64 a0_Y]), (21, .agg #[.int .i64 s1_P_0_X, .int .i64 s1_P_0_Y]), (23, .pointer (some ⟨b317, 3, none⟩))]) (by kernel_rfl) ?_
          refine t_v (.ldn rfl rfl rfl (.at 0 rfl rfl)) ?_
          obtain ⟨t324, h325, e321⟩ := bind_of e321
          refine t_v (.call (vs := [.agg #[.int .i64 a0_X, .int .i64 a0_Y], .agg #[.int .i64 s1_P_0_X, .int .i64 s1_P_0_Y], .agg #[.int .i64 s1_P_1_X, .int .i64 s1_P_1_Y]]) rfl rfl (by kernel_rfl) (glyphicref20_bend.ok h325)) ?_
          refine t_qz 1 [2, 3, 5] (σ' := [(2, .pointer (some ⟨b316, 0, none⟩)), (3, .pointer (some ⟨b317, 0, none⟩)), (5, .int .i64 t324)]) (by kernel_rfl) ?_
          refine t_end ?_
          obtain rfl := Option.some.inj e321
          exact ⟨([⟨b317, [.int .i64 s1_Kind, .int .i64 s1_P_0_X, .int .i64 s1_P_0_Y, .int .i64 s1_P_1_X, .int .i64 s1_P_1_Y, .int .i64 s1_P_2_X, .int .i64 s1_P_2_Y], 7⟩, ⟨b316, [.int .i64 a0_X, .int .i64 a0_Y], 2⟩] : List Own), S, VS.sel [0, 0] (by kernel_rfl), by kernel_rfl, rfl, rfl⟩
        · rw [if_neg c323] at e321
          have c323b : (s1_Kind == 2) = false := beq_eq_false_iff_ne.mpr c323
          refine t_v (dv_quiet rfl (congrArg (fun t => some (Value.bool t)) c323b)) ?_
          refine t_keep [2, 3, 5, 17] (σ' := [(2, .pointer (some ⟨b316, 0, none⟩)), (3, .pointer (some ⟨b317, 0, none⟩)), (5, .int .i64 0), (17, .bool false)]) (by kernel_rfl) ?_
          refine t_end ?_
          show W _ _ _ _ _ _ _
          refine w_cond rfl (fun c_ => by cases c_) (fun _ => ?_)
          show W _ _ _ _ _ _ _
          refine w_skip ?_
          obtain rfl := Option.some.inj e321
          exact ⟨([⟨b317, [.int .i64 s1_Kind, .int .i64 s1_P_0_X, .int .i64 s1_P_0_Y, .int .i64 s1_P_1_X, .int .i64 s1_P_1_Y, .int .i64 s1_P_2_X, .int .i64 s1_P_2_Y], 7⟩, ⟨b316, [.int .i64 a0_X, .int .i64 a0_Y], 2⟩] : List Own), S, VS.sel [0, 0] (by kernel_rfl), by kernel_rfl, rfl, rfl⟩
      · rintro σ_ H_ S_ ⟨rfl, rfl, rfl⟩
        obtain ⟨x335, e328, e⟩ := bind_of e
        refine w_cut [5] (fun σ_ H_ S_ => [(5, .int .i64 x335)] = σ_ ∧ ([⟨b317, [.int .i64 s1_Kind, .int .i64 s1_P_0_X, .int .i64 s1_P_0_Y, .int .i64 s1_P_1_X, .int .i64 s1_P_1_Y, .int .i64 s1_P_2_X, .int .i64 s1_P_2_Y], 7⟩, ⟨b316, [.int .i64 a0_X, .int .i64 a0_Y], 2⟩] : List Own) = H_ ∧ S = S_) ?_ ?_
        · show W _ _ _ _ _ _ _
          refine w_seq ?_
          refine w_reg fun all => ?_
          refine t_qz 1 [2, 3, 5, 26] (σ' := [(2, .pointer (some ⟨b316, 0, none⟩)), (3, .pointer (some ⟨b317, 0, none⟩)), (5, .int .i64 x326), (26, .pointer (some ⟨b317, 0, none⟩))]) (by kernel_rfl) ?_
          refine t_v (.ld1 rfl rfl rfl (.at 0 rfl rfl)) ?_
          by_cases c330 : s1_Kind = 3
          · rw [if_pos c330] at e328
            have c330b : (s1_Kind == 3) = true := beq_iff_eq.mpr c330
            refine t_v (dv_quiet rfl (congrArg (fun t => some (Value.bool t)) c330b)) ?_
            refine t_keep [2, 3, 5, 28] (σ' := [(2, .pointer (some ⟨b316, 0, none⟩)), (3, .pointer (some ⟨b317, 0, none⟩)), (5, .int .i64 x326), (28, .bool true)]) (by kernel_rfl) ?_
            refine t_end ?_
            show W _ _ _ _ _ _ _
            refine w_cond rfl (fun _ => ?_) (fun c_ => by cases c_)
            show W _ _ _ _ _ _ _
            obtain ⟨t331, h332, e328⟩ := bind_of e328
            obtain ⟨t333, h334, e328⟩ := bind_of e328
            refine w_drwE mixed 21 [.v (.agg #[.int .i64 a0_X, .int .i64 a0_Y]), .v (.pointer (some ⟨b317, 1, none⟩)), .v (.pointer (some ⟨b317, 1, none⟩)), .v (.agg #[.int .i64 s1_P_0_X, .int .i64 s1_P_0_Y]), .v (.pointer (some ⟨b317, 1, none⟩)), .v (.pointer (some ⟨b317, 3, none⟩)), .v (.agg #[.int .i64 s1_P_1_X, .int .i64 s1_P_1_Y]), .v (.int .i64 t331), .v (.pointer (some ⟨b317, 1, none⟩)), .v (.pointer (some ⟨b317, 1, none⟩)), .v (.agg #[.int .i64 s1_P_0_X, .int .i64 s1_P_0_Y]), .v (.pointer (some ⟨b317, 1, none⟩)), .v (.pointer (some ⟨b317, 3, none⟩)), .v (.agg #[.int .i64 s1_P_1_X, .int .i64 s1_P_1_Y]), .v (.pointer (some ⟨b317, 1, none⟩)), .v (.pointer (some ⟨b317, 5, none⟩)), .v (.agg #[.int .i64 s1_P_2_X, .int .i64 s1_P_2_Y]), .v (.int .i64 t333), .v (.int .i64 (mx t331 t333)), .v (.int .i64 (wr64 (3 * (mx t331 t333)))), .v (.int .i64 (wr64 (3 * (mx t331 t333))))] (by kernel_rfl) ?_ ?_
            · refine .cons (.ldn rfl rfl rfl (.at 1 rfl rfl)) ?_
              refine DI.sq 2 (by kernel_rfl) rfl ?_
              refine .cons (.ldn rfl rfl rfl (.at 0 rfl rfl)) ?_
              refine DI.sq 2 (by kernel_rfl) rfl ?_
              refine .cons (.ldn rfl rfl rfl (.at 0 rfl rfl)) ?_
              refine .cons (.call (vs := [.agg #[.int .i64 a0_X, .int .i64 a0_Y], .agg #[.int .i64 s1_P_0_X, .int .i64 s1_P_0_Y], .agg #[.int .i64 s1_P_1_X, .int .i64 s1_P_1_Y]]) rfl rfl (by kernel_rfl) (glyphicref20_bend.ok h332)) ?_
              refine DI.sq 2 (by kernel_rfl) rfl ?_
              refine .cons (.ldn rfl rfl rfl (.at 0 rfl rfl)) ?_
              refine DI.sq 2 (by kernel_rfl) rfl ?_
              refine .cons (.ldn rfl rfl rfl (.at 0 rfl rfl)) ?_
              refine DI.sq 2 (by kernel_rfl) rfl ?_
              refine .cons (.ldn rfl rfl rfl (.at 0 rfl rfl)) ?_
              refine .cons (.call (vs := [.agg #[.int .i64 s1_P_0_X, .int .i64 s1_P_0_Y], .agg #[.int .i64 s1_P_1_X, .int .i64 s1_P_1_Y], .agg #[.int .i64 s1_P_2_X, .int .i64 s1_P_2_Y]]) rfl rfl (by kernel_rfl) (glyphicref20_bend.ok h334)) ?_
              refine DI.sq 3 (by kernel_rfl) rfl ?_
              exact .nil
            refine fk_q 21 [5] (σ' := [(5, .int .i64 (wr64 (3 * (mx t331 t333))))]) t_more (by kernel_rfl) ?_
            refine fk_nil fun all => ?_
            refine t_keep [5] (σ' := [(5, .int .i64 (wr64 (3 * (mx t331 t333))))]) (by kernel_rfl) ?_
            refine t_end ?_
            obtain rfl := Option.some.inj e328
            exact ⟨([⟨b317, [.int .i64 s1_Kind, .int .i64 s1_P_0_X, .int .i64 s1_P_0_Y, .int .i64 s1_P_1_X, .int .i64 s1_P_1_Y, .int .i64 s1_P_2_X, .int .i64 s1_P_2_Y], 7⟩, ⟨b316, [.int .i64 a0_X, .int .i64 a0_Y], 2⟩] : List Own), S, VS.sel [0, 0] (by kernel_rfl), by kernel_rfl, rfl, rfl⟩
          · rw [if_neg c330] at e328
            have c330b : (s1_Kind == 3) = false := beq_eq_false_iff_ne.mpr c330
            refine t_v (dv_quiet rfl (congrArg (fun t => some (Value.bool t)) c330b)) ?_
            refine t_keep [2, 3, 5, 28] (σ' := [(2, .pointer (some ⟨b316, 0, none⟩)), (3, .pointer (some ⟨b317, 0, none⟩)), (5, .int .i64 x326), (28, .bool false)]) (by kernel_rfl) ?_
            refine t_end ?_
            show W _ _ _ _ _ _ _
            refine w_cond rfl (fun c_ => by cases c_) (fun _ => ?_)
            show W _ _ _ _ _ _ _
            refine w_skip ?_
            obtain rfl := Option.some.inj e328
            exact ⟨([⟨b317, [.int .i64 s1_Kind, .int .i64 s1_P_0_X, .int .i64 s1_P_0_Y, .int .i64 s1_P_1_X, .int .i64 s1_P_1_Y, .int .i64 s1_P_2_X, .int .i64 s1_P_2_Y], 7⟩, ⟨b316, [.int .i64 a0_X, .int .i64 a0_Y], 2⟩] : List Own), S, VS.sel [0, 0] (by kernel_rfl), by kernel_rfl, rfl, rfl⟩
        · rintro σ_ H_ S_ ⟨rfl, rfl, rfl⟩
          refine w_seq ?_
          refine w_reg fun all => ?_
          refine t_qz 1 [5, 6] (σ' := [(5, .int .i64 x335), (6, .int .i64 1)]) (by kernel_rfl) ?_
          refine t_end ?_
          show W _ _ _ _ _ _ _
          obtain ⟨x343, e337, e⟩ := bind_of e
          refine w_cut [6] (fun σ_ H_ S_ => [(6, .int .i64 x343)] = σ_ ∧ ([⟨b317, [.int .i64 s1_Kind, .int .i64 s1_P_0_X, .int .i64 s1_P_0_Y, .int .i64 s1_P_1_X, .int .i64 s1_P_1_Y, .int .i64 s1_P_2_X, .int .i64 s1_P_2_Y], 7⟩, ⟨b316, [.int .i64 a0_X, .int .i64 a0_Y], 2⟩] : List Own) = H_ ∧ S = S_) ?_ ?_
          · show W _ _ _ _ _ _ _
            refine w_block ?_
            refine w_kp [5, 6] (σ' := [(5, .int .i64 x335), (6, .int .i64 1)]) (by kernel_rfl) ?_
            refine w_loop (fun n_ σ_ H_ S_ => ∃ (x339 : Int), [(5, .int .i64 x335), (6, .int .i64 x339)] = σ_ ∧ ([⟨b317, [.int .i64 s1_Kind, .int .i64 s1_P_0_X, .int .i64 s1_P_0_Y, .int .i64 s1_P_1_X, .int .i64 s1_P_1_Y, .int .i64 s1_P_2_X, .int .i64 s1_P_2_Y], 7⟩, ⟨b316, [.int .i64 a0_X, .int .i64 a0_Y], 2⟩] : List Own) = H_ ∧ S = S_ ∧ glyphicref20_Count.l0 n_ x335 x339 = some x343) _ ⟨1, rfl, rfl, rfl, e337⟩ ?_
            rintro n342 σ_ H_ S_ ⟨x339, rfl, rfl, rfl, e337⟩
            cases n342 with
            | zero => rw [glyphicref20_Count.l0.eq_1] at e337; cases e337
            | succ k_ =>
              rw [glyphicref20_Count.l0.eq_2] at e337
              refine w_seq ?_
              refine w_seq ?_
              refine w_reg fun all => ?_
              by_cases c340 : x335 > (wr64 ((wr64 (32 * x339)) * x339))
              · rw [if_pos c340] at e337
                have c340b : (decide (x335 > (wr64 ((wr64 (32 * x339)) * x339)))) = true := decide_eq_true c340
                refine t_qz 5 [5, 6, 49, 53] (σ' := [(5, .int .i64 x335), (6, .int .i64 x339), (49, .int .i64 x335), (53, .int .i64 (wr64 ((wr64 (32 * x339)) * x339)))]) (by kernel_rfl) ?_
                refine t_v (dv_quiet rfl (congrArg (fun t => some (Value.bool t)) c340b)) ?_
                refine t_keep [5, 6, 54] (σ' := [(5, .int .i64 x335), (6, .int .i64 x339), (54, .bool true)]) (by kernel_rfl) ?_
                refine t_end ?_
                show W _ _ _ _ _ _ _
                refine w_cond rfl (fun _ => ?_) (fun c_ => by cases c_)
                show W _ _ _ _ _ _ _
                refine w_skip ?_
                show W _ _ _ _ _ _ _
                refine w_block ?_
                refine w_reg fun all => ?_
                refine t_qz 3 [5, 6] (σ' := [(5, .int .i64 x335), (6, .int .i64 (wr64 (2 * x339)))]) (by kernel_rfl) ?_
                refine t_end ?_
                exact ⟨k_, Nat.lt_succ_self _, [(5, .int .i64 x335), (6, .int .i64 (wr64 (2 * x339)))], ([⟨b317, [.int .i64 s1_Kind, .int .i64 s1_P_0_X, .int .i64 s1_P_0_Y, .int .i64 s1_P_1_X, .int .i64 s1_P_1_Y, .int .i64 s1_P_2_X, .int .i64 s1_P_2_Y], 7⟩, ⟨b316, [.int .i64 a0_X, .int .i64 a0_Y], 2⟩] : List Own), S, keep_sub [5, 6] (by kernel_rfl), VS.sel [0, 0] (by kernel_rfl), wr64 (2 * x339), rfl, rfl, rfl, e337⟩
              · rw [if_neg c340] at e337
                have c340b : (decide (x335 > (wr64 ((wr64 (32 * x339)) * x339)))) = false := decide_eq_false c340
                refine t_qz 5 [5, 6, 49, 53] (σ' := [(5, .int .i64 x335), (6, .int .i64 x339), (49, .int .i64 x335), (53, .int .i64 (wr64 ((wr64 (32 * x339)) * x339)))]) (by kernel_rfl) ?_
                refine t_v (dv_quiet rfl (congrArg (fun t => some (Value.bool t)) c340b)) ?_
                refine t_keep [5, 6, 54] (σ' := [(5, .int .i64 x335), (6, .int .i64 x339), (54, .bool false)]) (by kernel_rfl) ?_
                refine t_end ?_
                show W _ _ _ _ _ _ _
                refine w_cond rfl (fun c_ => by cases c_) (fun _ => ?_)
                show W _ _ _ _ _ _ _
                refine w_exit ?_
                obtain rfl := Option.some.inj e337
                exact ⟨([⟨b317, [.int .i64 s1_Kind, .int .i64 s1_P_0_X, .int .i64 s1_P_0_Y, .int .i64 s1_P_1_X, .int .i64 s1_P_1_Y, .int .i64 s1_P_2_X, .int .i64 s1_P_2_Y], 7⟩, ⟨b316, [.int .i64 a0_X, .int .i64 a0_Y], 2⟩] : List Own), S, VS.sel [0, 0] (by kernel_rfl), by kernel_rfl, rfl, rfl⟩
          · rintro σ_ H_ S_ ⟨rfl, rfl, rfl⟩
            refine w_seq ?_
            refine w_reg fun all => ?_
            refine t_qz 2 [4] (σ' := [(4, .int .i64 x343)]) (by kernel_rfl) ?_
            refine t_end ?_
            show W _ _ _ _ _ _ _
            refine w_ret ?_
            obtain rfl := Option.some.inj e
            exact ⟨[.int .i64 x343], [], S, ⟨rfl, trivial⟩, VS.none, rfl, rfl, rfl⟩

def flatten_points_v2.f (s0_1 : Int) (s0_2 : Int) (s0_3 : Int) (s0_4 : Int) (s0_5 : Int) (s0_6 : Int) : Option (Int × Int × Int × Int × Int × Int × Int) := some (1, s0_1, s0_2, s0_3, s0_4, s0_5, s0_6)
theorem flatten_points_v2.ok {S : Seal} {s0_1 : Int} {s0_2 : Int} {s0_3 : Int} {s0_4 : Int} {s0_5 : Int} {s0_6 : Int} {r0_ : Int} {r1_ : Int} {r2_ : Int} {r3_ : Int} {r4_ : Int} {r5_ : Int} {r6_ : Int}(e : flatten_points_v2.f s0_1 s0_2 s0_3 s0_4 s0_5 s0_6 = some (r0_, r1_, r2_, r3_, r4_, r5_, r6_)) :
    Cal Try.prog 70 [.agg #[.int .i64 1, .int .i64 s0_1, .int .i64 s0_2, .int .i64 s0_3, .int .i64 s0_4, .int .i64 s0_5, .int .i64 s0_6]] [] S fun v H' S' => ∃ (N0_ : Nat) , v = .slice (some ⟨N0_, 1, none⟩) 1 3 ∧ H' = ([⟨N0_, [.int .i64 r0_, .int .i64 r1_, .int .i64 r2_, .int .i64 r3_, .int .i64 r4_, .int .i64 r5_, .int .i64 r6_], 7⟩] : List Own) ∧ S' = S := by
  unfold flatten_points_v2.f at e
  refine cal_of (c := c70) (N := 15) Try.func70 rfl rfl (by kernel_rfl) (rs := [.t 2]) (by kernel_rfl) (Nat.le_of_ble_eq_true rfl) ?_
  unfold c70
  refine w_seq ?_
  refine w_reg fun all => ?_
  refine t_a (.box rfl rfl rfl) fun b326 fb326 sb326 => ?_
  refine t_qz 1 [1] (σ' := [(1, .pointer (some ⟨b326, 0, none⟩))]) (by kernel_rfl) ?_
  refine t_end ?_
  show W _ _ _ _ _ _ _
  refine w_seq ?_
  refine w_seq ?_
  refine w_reg fun all => ?_
  refine t_qz 1 [1, 3] (σ' := [(1, .pointer (some ⟨b326, 0, none⟩)), (3, .pointer (some ⟨b326, 0, none⟩))]) (by kernel_rfl) ?_
  refine t_v (.ld1 rfl rfl rfl (.at 0 rfl rfl)) ?_
  refine t_qz 3 [1, 6, 7] (σ' := [(1, .pointer (some ⟨b326, 0, none⟩)), (6, .bool false), (7, .pointer (some ⟨b326, 0, none⟩))]) (by kernel_rfl) ?_
  refine t_v (.ld1 rfl rfl rfl (.at 0 rfl rfl)) ?_
  refine t_qz 2 [1, 10] (σ' := [(1, .pointer (some ⟨b326, 0, none⟩)), (10, .bool false)]) (by kernel_rfl) ?_
  refine t_end ?_
  show W _ _ _ _ _ _ _
  refine w_cond rfl (fun c_ => by cases c_) (fun _ => ?_)
  show W _ _ _ _ _ _ _
  refine w_skip ?_
  show W _ _ _ _ _ _ _
  refine w_seq ?_
  refine w_reg fun all => ?_
  refine t_qz 2 [11, 12] (σ' := [(11, .pointer (some ⟨b326, 1, none⟩)), (12, .pointer (some ⟨b326, 0, none⟩))]) (by kernel_rfl) ?_
  refine t_v (.ld1 rfl rfl rfl (.at 0 rfl rfl)) ?_
  refine t_qz 2 [2] (σ' := [(2, .slice (some ⟨b326, 1, none⟩) 1 3)]) (by kernel_rfl) ?_
  refine t_end ?_
  show W _ _ _ _ _ _ _
  refine w_ret ?_
  simp only [Option.some.injEq, Prod.mk.injEq] at e
  obtain ⟨rfl, rfl, rfl, rfl, rfl, rfl, rfl⟩ := e
  exact ⟨[.slice (some ⟨b326, 1, none⟩) 1 3], ([⟨b326, [.int .i64 1, .int .i64 s0_1, .int .i64 s0_2, .int .i64 s0_3, .int .i64 s0_4, .int .i64 s0_5, .int .i64 s0_6], 7⟩] : List Own), S, ⟨rfl, trivial⟩, VS.sel [0] (by kernel_rfl), b326, rfl, rfl, rfl⟩

def fixed_Down.f (a0 : Int) (b1 : Int) : Option (Int) := if b1 < 1 then (some 0) else (if b1 = 0 then none else (if (Int.tmod a0 b1) < 0 then (some (wr64 ((wr64 (Int.tdiv a0 b1)) - 1))) else (some (wr64 (Int.tdiv a0 b1)))))
theorem fixed_Down.ok {S : Seal} {a0 : Int} {b1 : Int} {r0_ : Int}(e : fixed_Down.f a0 b1 = some r0_) :
    Cal Try.prog 113 [.int .i64 a0, .int .i64 b1] [] S fun v H' S' => v = .int .i64 r0_ ∧ H' = [] ∧ S' = S := by
  unfold fixed_Down.f at e
  refine cal_of (c := c113) (N := 18) Try.func113 rfl rfl (by kernel_rfl) (rs := [.t 4]) (by kernel_rfl) (Nat.le_of_ble_eq_true rfl) ?_
  unfold c113
  refine w_seq ?_
  refine w_reg fun all => ?_
  refine t_qz 1 [0, 1] (σ' := [(0, .int .i64 a0), (1, .int .i64 b1)]) (by kernel_rfl) ?_
  refine t_end ?_
  show W _ _ _ _ _ _ _
  refine w_seq ?_
  refine w_seq ?_
  refine w_reg fun all => ?_
  by_cases c342 : b1 < 1
  · rw [if_pos c342] at e
    have c342b : (decide (b1 < 1)) = true := decide_eq_true c342
    refine t_qz 1 [0, 1, 6] (σ' := [(0, .int .i64 a0), (1, .int .i64 b1), (6, .int .i64 b1)]) (by kernel_rfl) ?_
    refine t_v (dv_quiet rfl (congrArg (fun t => some (Value.bool t)) c342b)) ?_
    refine t_keep [0, 1, 7] (σ' := [(0, .int .i64 a0), (1, .int .i64 b1), (7, .bool true)]) (by kernel_rfl) ?_
    refine t_end ?_
    show W _ _ _ _ _ _ _
    refine w_cond rfl (fun _ => ?_) (fun c_ => by cases c_)
    show W _ _ _ _ _ _ _
    refine w_seq ?_
    refine w_reg fun all => ?_
    refine t_qz 1 [4] (σ' := [(4, .int .i64 0)]) (by kernel_rfl) ?_
    refine t_end ?_
    show W _ _ _ _ _ _ _
    refine w_ret ?_
    obtain rfl := Option.some.inj e
    exact ⟨[.int .i64 0], [], S, ⟨rfl, trivial⟩, VS.none, rfl, rfl, rfl⟩
  · rw [if_neg c342] at e
    have c342b : (decide (b1 < 1)) = false := decide_eq_false c342
    refine t_qz 1 [0, 1, 6] (σ' := [(0, .int .i64 a0), (1, .int .i64 b1), (6, .int .i64 b1)]) (by kernel_rfl) ?_
    refine t_v (dv_quiet rfl (congrArg (fun t => some (Value.bool t)) c342b)) ?_
    refine t_keep [0, 1, 7] (σ' := [(0, .int .i64 a0), (1, .int .i64 b1), (7, .bool false)]) (by kernel_rfl) ?_
    refine t_end ?_
    show W _ _ _ _ _ _ _
    refine w_cond rfl (fun c_ => by cases c_) (fun _ => ?_)
    show W _ _ _ _ _ _ _
    refine w_skip ?_
    show W _ _ _ _ _ _ _
    refine w_seq ?_
    refine w_reg fun all => ?_
    have c343 : ¬ b1 = 0 := by
      intro h_; rw [if_pos h_] at e; cases e
    rw [if_neg c343] at e
    refine t_qz 2 [0, 1, 8, 9] (σ' := [(0, .int .i64 a0), (1, .int .i64 b1), (8, .int .i64 a0), (9, .int .i64 b1)]) (by kernel_rfl) ?_
    refine t_v (.quiet rfl (qv_quo rfl rfl c343)) ?_
    refine t_qz 1 [0, 1, 5] (σ' := [(0, .int .i64 a0), (1, .int .i64 b1), (5, .int .i64 (wr64 (Int.tdiv a0 b1)))]) (by kernel_rfl) ?_
    refine t_end ?_
    show W _ _ _ _ _ _ _
    refine w_seq ?_
    refine w_seq ?_
    refine w_reg fun all => ?_
    refine t_qz 2 [5, 11, 12] (σ' := [(5, .int .i64 (wr64 (Int.tdiv a0 b1))), (11, .int .i64 a0), (12, .int .i64 b1)]) (by kernel_rfl) ?_
    refine t_v (.quiet rfl (qv_rem rfl rfl c343)) ?_
    by_cases c344 : (Int.tmod a0 b1) < 0
    · rw [if_pos c344] at e
      have c344b : (decide ((Int.tmod a0 b1) < 0)) = true := decide_eq_true c344
      refine t_v (dv_quiet rfl (congrArg (fun t => some (Value.bool t)) c344b)) ?_
      refine t_keep [5, 14] (σ' := [(5, .int .i64 (wr64 (Int.tdiv a0 b1))), (14, .bool true)]) (by kernel_rfl) ?_
      refine t_end ?_
      show W _ _ _ _ _ _ _
      refine w_cond rfl (fun _ => ?_) (fun c_ => by cases c_)
      show W _ _ _ _ _ _ _
      refine w_reg fun all => ?_
      refine t_qz 3 [5] (σ' := [(5, .int .i64 (wr64 ((wr64 (Int.tdiv a0 b1)) - 1)))]) (by kernel_rfl) ?_
      refine t_end ?_
      show W _ _ _ _ _ _ _
      refine w_seq ?_
      refine w_reg fun all => ?_
      refine t_qz 2 [4] (σ' := [(4, .int .i64 (wr64 ((wr64 (Int.tdiv a0 b1)) - 1)))]) (by kernel_rfl) ?_
      refine t_end ?_
      show W _ _ _ _ _ _ _
      refine w_ret ?_
      obtain rfl := Option.some.inj e
      exact ⟨[.int .i64 (wr64 ((wr64 (Int.tdiv a0 b1)) - 1))], [], S, ⟨rfl, trivial⟩, VS.none, rfl, rfl, rfl⟩
    · rw [if_neg c344] at e
      have c344b : (decide ((Int.tmod a0 b1) < 0)) = false := decide_eq_false c344
      refine t_v (dv_quiet rfl (congrArg (fun t => some (Value.bool t)) c344b)) ?_
      refine t_keep [5, 14] (σ' := [(5, .int .i64 (wr64 (Int.tdiv a0 b1))), (14, .bool false)]) (by kernel_rfl) ?_
      refine t_end ?_
      show W _ _ _ _ _ _ _
      refine w_cond rfl (fun c_ => by cases c_) (fun _ => ?_)
      show W _ _ _ _ _ _ _
      refine w_skip ?_
      show W _ _ _ _ _ _ _
      refine w_seq ?_
      refine w_reg fun all => ?_
      refine t_qz 2 [4] (σ' := [(4, .int .i64 (wr64 (Int.tdiv a0 b1)))]) (by kernel_rfl) ?_
      refine t_end ?_
      show W _ _ _ _ _ _ _
      refine w_ret ?_
      obtain rfl := Option.some.inj e
      exact ⟨[.int .i64 (wr64 (Int.tdiv a0 b1))], [], S, ⟨rfl, trivial⟩, VS.none, rfl, rfl, rfl⟩

def fixed_Round.f (a0 : Int) (b1 : Int) : Option (Int) := if b1 < 1 then (some 0) else ((fixed_Down.f a0 b1).bind fun t345 => (if (wr64 (a0 - (wr64 (t345 * b1)))) ≥ (wr64 (b1 - (wr64 (a0 - (wr64 (t345 * b1)))))) then (some (wr64 (t345 + 1))) else (some t345)))
theorem fixed_Round.ok {S : Seal} {a0 : Int} {b1 : Int} {r0_ : Int}(e : fixed_Round.f a0 b1 = some r0_) :
    Cal Try.prog 92 [.int .i64 a0, .int .i64 b1] [] S fun v H' S' => v = .int .i64 r0_ ∧ H' = [] ∧ S' = S := by
  unfold fixed_Round.f at e
  refine cal_of (c := c92) (N := 25) Try.func92 rfl rfl (by kernel_rfl) (rs := [.t 4]) (by kernel_rfl) (Nat.le_of_ble_eq_true rfl) ?_
  unfold c92
  refine w_seq ?_
  refine w_reg fun all => ?_
  refine t_qz 1 [0, 1] (σ' := [(0, .int .i64 a0), (1, .int .i64 b1)]) (by kernel_rfl) ?_
  refine t_end ?_
  show W _ _ _ _ _ _ _
  refine w_seq ?_
  refine w_seq ?_
  refine w_reg fun all => ?_
  by_cases c341 : b1 < 1
  · rw [if_pos c341] at e
    have c341b : (decide (b1 < 1)) = true := decide_eq_true c341
    refine t_qz 1 [0, 1, 7] (σ' := [(0, .int .i64 a0), (1, .int .i64 b1), (7, .int .i64 b1)]) (by kernel_rfl) ?_
    refine t_v (dv_quiet rfl (congrArg (fun t => some (Value.bool t)) c341b)) ?_
    refine t_keep [0, 1, 8] (σ' := [(0, .int .i64 a0), (1, .int .i64 b1), (8, .bool true)]) (by kernel_rfl) ?_
    refine t_end ?_
    show W _ _ _ _ _ _ _
    refine w_cond rfl (fun _ => ?_) (fun c_ => by cases c_)
    show W _ _ _ _ _ _ _
    refine w_seq ?_
    refine w_reg fun all => ?_
    refine t_qz 1 [4] (σ' := [(4, .int .i64 0)]) (by kernel_rfl) ?_
    refine t_end ?_
    show W _ _ _ _ _ _ _
    refine w_ret ?_
    obtain rfl := Option.some.inj e
    exact ⟨[.int .i64 0], [], S, ⟨rfl, trivial⟩, VS.none, rfl, rfl, rfl⟩
  · rw [if_neg c341] at e
    have c341b : (decide (b1 < 1)) = false := decide_eq_false c341
    refine t_qz 1 [0, 1, 7] (σ' := [(0, .int .i64 a0), (1, .int .i64 b1), (7, .int .i64 b1)]) (by kernel_rfl) ?_
    refine t_v (dv_quiet rfl (congrArg (fun t => some (Value.bool t)) c341b)) ?_
    refine t_keep [0, 1, 8] (σ' := [(0, .int .i64 a0), (1, .int .i64 b1), (8, .bool false)]) (by kernel_rfl) ?_
    refine t_end ?_
    show W _ _ _ _ _ _ _
    refine w_cond rfl (fun c_ => by cases c_) (fun _ => ?_)
    show W _ _ _ _ _ _ _
    refine w_skip ?_
    show W _ _ _ _ _ _ _
    refine w_seq ?_
    refine w_reg fun all => ?_
    obtain ⟨t345, h346, e⟩ := bind_of e
    refine t_qz 2 [0, 1, 9, 10] (σ' := [(0, .int .i64 a0), (1, .int .i64 b1), (9, .int .i64 a0), (10, .int .i64 b1)]) (by kernel_rfl) ?_
    refine t_v (.call (vs := [.int .i64 a0, .int .i64 b1]) rfl rfl (by kernel_rfl) (fixed_Down.ok h346)) ?_
    refine t_qz 1 [0, 1, 5] (σ' := [(0, .int .i64 a0), (1, .int .i64 b1), (5, .int .i64 t345)]) (by kernel_rfl) ?_
    refine t_end ?_
    show W _ _ _ _ _ _ _
    refine w_seq ?_
    refine w_seq ?_
    refine w_reg fun all => ?_
    refine t_qz 6 [1, 5, 6] (σ' := [(1, .int .i64 b1), (5, .int .i64 t345), (6, .int .i64 (wr64 (a0 - (wr64 (t345 * b1)))))]) (by kernel_rfl) ?_
    refine t_end ?_
    show W _ _ _ _ _ _ _
    refine w_seq ?_
    refine w_reg fun all => ?_
    by_cases c347 : (wr64 (a0 - (wr64 (t345 * b1)))) ≥ (wr64 (b1 - (wr64 (a0 - (wr64 (t345 * b1))))))
    · rw [if_pos c347] at e
      have c347b : (decide ((wr64 (a0 - (wr64 (t345 * b1)))) ≥ (wr64 (b1 - (wr64 (a0 - (wr64 (t345 * b1)))))))) = true := decide_eq_true c347
      refine t_qz 4 [5, 17, 20] (σ' := [(5, .int .i64 t345), (17, .int .i64 (wr64 (a0 - (wr64 (t345 * b1))))), (20, .int .i64 (wr64 (b1 - (wr64 (a0 - (wr64 (t345 * b1)))))))]) (by kernel_rfl) ?_
      refine t_v (dv_quiet rfl (congrArg (fun t => some (Value.bool t)) c347b)) ?_
      refine t_keep [5, 21] (σ' := [(5, .int .i64 t345), (21, .bool true)]) (by kernel_rfl) ?_
      refine t_end ?_
      show W _ _ _ _ _ _ _
      refine w_cond rfl (fun _ => ?_) (fun c_ => by cases c_)
      show W _ _ _ _ _ _ _
      refine w_reg fun all => ?_
      refine t_qz 3 [5] (σ' := [(5, .int .i64 (wr64 (t345 + 1)))]) (by kernel_rfl) ?_
      refine t_end ?_
      show W _ _ _ _ _ _ _
      refine w_seq ?_
      refine w_reg fun all => ?_
      refine t_qz 2 [4] (σ' := [(4, .int .i64 (wr64 (t345 + 1)))]) (by kernel_rfl) ?_
      refine t_end ?_
      show W _ _ _ _ _ _ _
      refine w_ret ?_
      obtain rfl := Option.some.inj e
      exact ⟨[.int .i64 (wr64 (t345 + 1))], [], S, ⟨rfl, trivial⟩, VS.none, rfl, rfl, rfl⟩
    · rw [if_neg c347] at e
      have c347b : (decide ((wr64 (a0 - (wr64 (t345 * b1)))) ≥ (wr64 (b1 - (wr64 (a0 - (wr64 (t345 * b1)))))))) = false := decide_eq_false c347
      refine t_qz 4 [5, 17, 20] (σ' := [(5, .int .i64 t345), (17, .int .i64 (wr64 (a0 - (wr64 (t345 * b1))))), (20, .int .i64 (wr64 (b1 - (wr64 (a0 - (wr64 (t345 * b1)))))))]) (by kernel_rfl) ?_
      refine t_v (dv_quiet rfl (congrArg (fun t => some (Value.bool t)) c347b)) ?_
      refine t_keep [5, 21] (σ' := [(5, .int .i64 t345), (21, .bool false)]) (by kernel_rfl) ?_
      refine t_end ?_
      show W _ _ _ _ _ _ _
      refine w_cond rfl (fun c_ => by cases c_) (fun _ => ?_)
      show W _ _ _ _ _ _ _
      refine w_skip ?_
      show W _ _ _ _ _ _ _
      refine w_seq ?_
      refine w_reg fun all => ?_
      refine t_qz 2 [4] (σ' := [(4, .int .i64 t345)]) (by kernel_rfl) ?_
      refine t_end ?_
      show W _ _ _ _ _ _ _
      refine w_ret ?_
      obtain rfl := Option.some.inj e
      exact ⟨[.int .i64 t345], [], S, ⟨rfl, trivial⟩, VS.none, rfl, rfl, rfl⟩

def flatten_mix_v3.f (i0 : Int) (n1 : Int) (m0_0 : Int) (m0_1 : Int) : Option (Int) := (fixed_Round.f (wr64 ((wr64 ((wr64 (n1 - i0)) * m0_0)) + (wr64 (i0 * m0_1)))) n1).bind fun t341 => (some t341)
theorem flatten_mix_v3.ok {S : Seal} {B0 nB0 : Nat} {i0 : Int} {n1 : Int} {m0_0 : Int} {m0_1 : Int} {r0_ : Int}(e : flatten_mix_v3.f i0 n1 m0_0 m0_1 = some r0_) :
    Cal Try.prog 71 [.int .i64 i0, .int .i64 n1, .slice (some ⟨B0, 0, none⟩) 2 (nB0 / 1)] ([⟨B0, [.int .i64 m0_0, .int .i64 m0_1], nB0⟩] : List Own) S fun v H' S' => v = .int .i64 r0_ ∧ H' = ([⟨B0, [.int .i64 m0_0, .int .i64 m0_1], nB0⟩] : List Own) ∧ S' = S := by
  unfold flatten_mix_v3.f at e
  refine cal_of (c := c71) (N := 110) Try.func71 rfl rfl (by kernel_rfl) (rs := [.t 6]) (by kernel_rfl) (Nat.le_of_ble_eq_true rfl) ?_
  unfold c71
  refine w_seq ?_
  refine w_reg fun all => ?_
  refine t_qz 1 [0, 1, 2] (σ' := [(0, .int .i64 i0), (1, .int .i64 n1), (2, .slice (some ⟨B0, 0, none⟩) 2 (nB0 / 1))]) (by kernel_rfl) ?_
  refine t_end ?_
  show W _ _ _ _ _ _ _
  refine w_seq ?_
  refine w_reg fun all => ?_
  refine t_qz 4 [0, 1, 2, 7] (σ' := [(0, .int .i64 i0), (1, .int .i64 n1), (2, .slice (some ⟨B0, 0, none⟩) 2 (nB0 / 1)), (7, .int .i64 (wr64 (n1 - i0)))]) (by kernel_rfl) ?_
  refine t_end ?_
  show W _ _ _ _ _ _ _
  refine w_seq ?_
  refine w_seq ?_
  refine w_reg fun all => ?_
  refine t_qz 2 [0, 1, 2, 7, 12] (σ' := [(0, .int .i64 i0), (1, .int .i64 n1), (2, .slice (some ⟨B0, 0, none⟩) 2 (nB0 / 1)), (7, .int .i64 (wr64 (n1 - i0))), (12, .int .i64 2)]) (by kernel_rfl) ?_
  refine t_end ?_
  show W _ _ _ _ _ _ _
  refine w_block ?_
  refine w_seq ?_
  refine w_reg fun all => ?_
  refine t_qz 2 [0, 1, 2, 7, 12, 13] (σ' := [(0, .int .i64 i0), (1, .int .i64 n1), (2, .slice (some ⟨B0, 0, none⟩) 2 (nB0 / 1)), (7, .int .i64 (wr64 (n1 - i0))), (12, .int .i64 2), (13, .bool false)]) (by kernel_rfl) ?_
  refine t_end ?_
  show W _ _ _ _ _ _ _
  refine w_cond rfl (fun c_ => by cases c_) (fun _ => ?_)
  show W _ _ _ _ _ _ _
  refine w_seq ?_
  refine w_reg fun all => ?_
  refine t_qz 2 [0, 1, 2, 7, 12, 18] (σ' := [(0, .int .i64 i0), (1, .int .i64 n1), (2, .slice (some ⟨B0, 0, none⟩) 2 (nB0 / 1)), (7, .int .i64 (wr64 (n1 - i0))), (12, .int .i64 2), (18, .bool true)]) (by kernel_rfl) ?_
  refine t_end ?_
  show W _ _ _ _ _ _ _
  refine w_cond rfl (fun _ => ?_) (fun c_ => by cases c_)
  show W _ _ _ _ _ _ _
  refine w_seq ?_
  obtain ⟨t341, h342, e⟩ := bind_of e
  refine w_drwE mixed 14 [.v (.int .i64 (wr64 (n1 - i0))), .v (.slice (some ⟨B0, 0, none⟩) 2 (nB0 / 1)), .v (.pointer (some ⟨B0, 0, none⟩)), .v (.int .i64 m0_0), .v (.int .i64 (wr64 ((wr64 (n1 - i0)) * m0_0))), .v (.int .i64 i0), .v (.slice (some ⟨B0, 0, none⟩) 2 (nB0 / 1)), .v (.pointer (some ⟨B0, 1, none⟩)), .v (.int .i64 m0_1), .v (.int .i64 (wr64 (i0 * m0_1))), .v (.int .i64 (wr64 ((wr64 ((wr64 (n1 - i0)) * m0_0)) + (wr64 (i0 * m0_1))))), .v (.int .i64 n1), .v (.int .i64 t341), .v (.int .i64 t341)] (by kernel_rfl) ?_ ?_
  · refine DI.sq 3 (by kernel_rfl) rfl ?_
    refine .cons (.ld1 rfl rfl rfl (.at 0 rfl rfl)) ?_
    refine DI.sq 4 (by kernel_rfl) rfl ?_
    refine .cons (.ld1 rfl rfl rfl (.at 0 rfl rfl)) ?_
    refine DI.sq 3 (by kernel_rfl) rfl ?_
    refine .cons (.call (vs := [.int .i64 (wr64 ((wr64 ((wr64 (n1 - i0)) * m0_0)) + (wr64 (i0 * m0_1)))), .int .i64 n1]) rfl rfl (by kernel_rfl) (fixed_Round.ok h342)) ?_
    refine DI.sq 1 (by kernel_rfl) rfl ?_
    exact .nil
  refine fk_q 14 [6] (σ' := [(6, .int .i64 t341)]) t_more (by kernel_rfl) ?_
  refine fk_nil fun all => ?_
  refine t_keep [6] (σ' := [(6, .int .i64 t341)]) (by kernel_rfl) ?_
  refine t_end ?_
  show W _ _ _ _ _ _ _
  refine w_ret ?_
  obtain rfl := Option.some.inj e
  exact ⟨[.int .i64 t341], ([⟨B0, [.int .i64 m0_0, .int .i64 m0_1], nB0⟩] : List Own), S, ⟨rfl, trivial⟩, VS.sel [0] (by kernel_rfl), rfl, rfl, rfl⟩
end Go.Proofs.Ytpimfacaalkmdaa.QFlattenSays
