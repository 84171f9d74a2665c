/- Functions of the program as Lean functions, each with the proof of its walk. Written by gen.py, a program of these sessions. -/
import Derived.Test.YtpimfacaalkmdaaX
import Derived.Test.YtpimfacaalkmdaaProg
namespace Go.Proofs.Ytpimfacaalkmdaa.QFlattenNear
open Go Go.RowKit Go.Proofs.YtpimfacaalkmdaaE Go.Proofs.YtpimfacaalkmdaaX
set_option linter.unusedVariables false
set_option maxRecDepth 100000
set_option maxHeartbeats 8000000
theorem mixed : Try.prog.follows .mixedOrders = true := by kernel_rfl

def E_i64 : En (Int) := ⟨1, fun t => [.int .i64 t], fun _ => rfl, fun _ => rfl⟩
def E_i644 : En (Int × Int × Int × Int) := ⟨4, fun t => [.int .i64 t.1, .int .i64 t.2.1, .int .i64 t.2.2.1, .int .i64 t.2.2.2], fun _ => rfl, fun _ => rfl⟩
/-- flatten.Count -/
def c29 : C :=
  (.seq (.reg [⟨(some 2), .box (.tmp 0), none⟩,
     ⟨(some 3), .box (.tmp 1), none⟩,
     ⟨(some 4), .mv (.const (.int .i64 0)), none⟩])
  (.seq (.reg [⟨(some 5), .mv (.const (.int .i64 0)), none⟩])
  (.seq (.seq (.reg [⟨(some 7), .pad 0 (.tmp 3), none⟩,
      ⟨(some 8), .ld none (.tmp 7), none⟩])
   (.block 0 (.seq (.reg [⟨(some 10), .bin .eql (.tmp 8) (.const (.int .i64 1)), none⟩,
       ⟨(some 9), .mv (.tmp 10), none⟩])
    (.cond (.tmp 9)
     .skip
     (.seq (.reg [⟨(some 12), .bin .eql (.tmp 8) (.const (.int .i64 2)), none⟩,
         ⟨(some 11), .mv (.tmp 12), none⟩])
      (.cond (.tmp 11)
       (.reg [⟨(some 13), .ld (some 2) (.tmp 2), none⟩,
          ⟨(some 14), .pad 1 (.tmp 3), none⟩,
          ⟨(some 15), .ixa 2 3 (.tmp 14) (.const (.int .i64 0)), none⟩,
          ⟨(some 16), .ld (some 2) (.tmp 15), none⟩,
          ⟨(some 17), .pad 1 (.tmp 3), none⟩,
          ⟨(some 18), .ixa 2 3 (.tmp 17) (.const (.int .i64 1)), none⟩,
          ⟨(some 19), .ld (some 2) (.tmp 18), none⟩,
          ⟨(some 20), .call 68 [(.tmp 13), (.tmp 16), (.tmp 19)], none⟩,
          ⟨(some 5), .mv (.tmp 20), none⟩])
       (.seq (.reg [⟨(some 22), .bin .eql (.tmp 8) (.const (.int .i64 3)), none⟩,
           ⟨(some 21), .mv (.tmp 22), none⟩])
        (.cond (.tmp 21)
         (.drw [⟨(some 23), .ld (some 2) (.tmp 2), none⟩,
            ⟨(some 24), .pad 1 (.tmp 3), none⟩,
            ⟨(some 25), .ixa 2 3 (.tmp 24) (.const (.int .i64 0)), none⟩,
            ⟨(some 26), .ld (some 2) (.tmp 25), none⟩,
            ⟨(some 27), .pad 1 (.tmp 3), none⟩,
            ⟨(some 28), .ixa 2 3 (.tmp 27) (.const (.int .i64 1)), none⟩,
            ⟨(some 29), .ld (some 2) (.tmp 28), none⟩,
            ⟨(some 30), .call 68 [(.tmp 23), (.tmp 26), (.tmp 29)], none⟩,
            ⟨(some 31), .pad 1 (.tmp 3), none⟩,
            ⟨(some 32), .ixa 2 3 (.tmp 31) (.const (.int .i64 0)), none⟩,
            ⟨(some 33), .ld (some 2) (.tmp 32), none⟩,
            ⟨(some 34), .pad 1 (.tmp 3), none⟩,
            ⟨(some 35), .ixa 2 3 (.tmp 34) (.const (.int .i64 1)), none⟩,
            ⟨(some 36), .ld (some 2) (.tmp 35), none⟩,
            ⟨(some 37), .pad 1 (.tmp 3), none⟩,
            ⟨(some 38), .ixa 2 3 (.tmp 37) (.const (.int .i64 2)), none⟩,
            ⟨(some 39), .ld (some 2) (.tmp 38), none⟩,
            ⟨(some 40), .call 68 [(.tmp 33), (.tmp 36), (.tmp 39)], none⟩,
            ⟨(some 41), .mm true [(.tmp 30), (.tmp 40)], none⟩,
            ⟨(some 42), .bin .mul (.const (.int .i64 3)) (.tmp 41), none⟩,
            ⟨(some 5), .mv (.tmp 42), none⟩] [[], [], [1], [2], [], [4], [5], [0, 3, 6], [], [8], [9], [], [11], [12], [], [14], [15], [10, 13, 16, 7], [7, 17], [18], [19, 17, 0, 1, 2, 3, 4, 5, 6, 7, 8, 9, 10, 11, 12, 13, 14, 15, 16, 17, 18, 19]])
         (.seq (.reg [⟨(some 4), .mv (.const (.int .i64 0)), none⟩])
          .ret)))))))))
  (.seq (.reg [⟨(some 6), .mv (.const (.int .i64 1)), none⟩])
  (.seq (.block 1 (.loop (.seq (.seq (.reg [⟨(some 43), .mv (.tmp 5), none⟩,
         ⟨(some 44), .mv (.tmp 6), none⟩,
         ⟨(some 45), .bin .mul (.const (.int .i64 32)) (.tmp 44), none⟩,
         ⟨(some 46), .mv (.tmp 6), none⟩,
         ⟨(some 47), .bin .mul (.tmp 45) (.tmp 46), none⟩,
         ⟨(some 48), .bin .gtr (.tmp 43) (.tmp 47), none⟩])
      (.cond (.tmp 48)
       .skip
       (.exit 1)))
     (.block 2 (.reg [⟨(some 49), .mv (.tmp 6), none⟩,
        ⟨(some 50), .bin .mul (.tmp 49) (.const (.int .i64 2)), none⟩,
        ⟨(some 6), .mv (.tmp 50), none⟩])))))
  (.seq (.reg [⟨(some 51), .mv (.tmp 6), none⟩,
     ⟨(some 4), .mv (.tmp 51), none⟩])
  .ret))))))
def flatten_Count_v1.f  : Option (Unit) := some ()
theorem flatten_Count_v1.ok {S : Seal}  (e : flatten_Count_v1.f  = some ()) :
    Cal Try.prog 29 [.agg #[.int .i64 0, .int .i64 0], .agg #[.int .i64 1, .int .i64 5, .int .i64 0, .int .i64 0, .int .i64 0, .int .i64 0, .int .i64 0]] [] S fun v H' S' => v = .int .i64 1 ∧ H' = [] ∧ S' = S := by
  unfold flatten_Count_v1.f at e
  refine cal_of (c := c29) (N := 52) Try.func29 rfl rfl (by kernel_rfl) (rs := [.t 4]) (by kernel_rfl) (Nat.le_of_ble_eq_true rfl) ?_
  unfold c29
  refine w_seq ?_
  refine w_reg fun all => ?_
  refine t_a (.box rfl rfl rfl) fun b2 fb2 sb2 => ?_
  refine t_a (.box rfl rfl rfl) fun b3 fb3 sb3 => ?_
  refine t_qz 1 [2, 3] (σ' := [(2, .pointer (some ⟨b2, 0, none⟩)), (3, .pointer (some ⟨b3, 0, none⟩))]) (by kernel_rfl) ?_
  refine t_end ?_
  show W _ _ _ _ _ _ _
  refine w_seq ?_
  refine w_reg fun all => ?_
  refine t_qz 1 [2, 3, 5] (σ' := [(2, .pointer (some ⟨b2, 0, none⟩)), (3, .pointer (some ⟨b3, 0, none⟩)), (5, .int .i64 0)]) (by kernel_rfl) ?_
  refine t_end ?_
  show W _ _ _ _ _ _ _
  refine w_seq ?_
  refine w_seq ?_
  refine w_reg fun all => ?_
  refine t_qz 1 [2, 3, 5, 7] (σ' := [(2, .pointer (some ⟨b2, 0, none⟩)), (3, .pointer (some ⟨b3, 0, none⟩)), (5, .int .i64 0), (7, .pointer (some ⟨b3, 0, none⟩))]) (by kernel_rfl) ?_
  refine t_v (.ld1 rfl rfl rfl (.at 0 rfl rfl)) ?_
  refine t_keep [2, 3, 5, 8] (σ' := [(2, .pointer (some ⟨b2, 0, none⟩)), (3, .pointer (some ⟨b3, 0, none⟩)), (5, .int .i64 0), (8, .int .i64 1)]) (by kernel_rfl) ?_
  refine t_end ?_
  show W _ _ _ _ _ _ _
  refine w_block ?_
  refine w_seq ?_
  refine w_reg fun all => ?_
  refine t_qz 2 [2, 3, 5, 8, 9] (σ' := [(2, .pointer (some ⟨b2, 0, none⟩)), (3, .pointer (some ⟨b3, 0, none⟩)), (5, .int .i64 0), (8, .int .i64 1), (9, .bool true)]) (by kernel_rfl) ?_
  refine t_end ?_
  show W _ _ _ _ _ _ _
  refine w_cond rfl (fun _ => ?_) (fun c_ => by cases c_)
  show W _ _ _ _ _ _ _
  refine w_skip ?_
  show W _ _ _ _ _ _ _
  refine w_seq ?_
  refine w_reg fun all => ?_
  refine t_qz 1 [5, 6] (σ' := [(5, .int .i64 0), (6, .int .i64 1)]) (by kernel_rfl) ?_
  refine t_end ?_
  show W _ _ _ _ _ _ _
  refine w_seq ?_
  refine w_block ?_
  refine w_lun 10 ?_
  refine wl_step ?_
  refine w_seq ?_
  refine w_seq ?_
  refine w_reg fun all => ?_
  refine t_qz 6 [5, 6, 48] (σ' := [(5, .int .i64 0), (6, .int .i64 1), (48, .bool false)]) (by kernel_rfl) ?_
  refine t_end ?_
  show W _ _ _ _ _ _ _
  refine w_cond rfl (fun c_ => by cases c_) (fun _ => ?_)
  show W _ _ _ _ _ _ _
  refine w_exit ?_
  show W _ _ _ _ _ _ _
  refine w_seq ?_
  refine w_reg fun all => ?_
  refine t_qz 2 [4] (σ' := [(4, .int .i64 1)]) (by kernel_rfl) ?_
  refine t_end ?_
  show W _ _ _ _ _ _ _
  refine w_ret ?_
  exact ⟨[.int .i64 1], [], S, ⟨rfl, trivial⟩, VS.none, rfl, rfl, rfl⟩

/-- flatten.points -/
def c70 : C :=
  (.seq (.reg [⟨(some 1), .box (.tmp 0), none⟩,
     ⟨(some 2), .mv (.const (.slice none 0 0)), none⟩])
  (.seq (.seq (.reg [⟨(some 3), .pad 0 (.tmp 1), none⟩,
      ⟨(some 4), .ld none (.tmp 3), none⟩,
      ⟨(some 5), .bin .lss (.tmp 4) (.const (.int .i64 1)), none⟩,
      ⟨(some 6), .mv (.tmp 5), none⟩,
      ⟨(some 7), .pad 0 (.tmp 1), (some (6, false))⟩,
      ⟨(some 8), .ld none (.tmp 7), (some (6, false))⟩,
      ⟨(some 9), .bin .gtr (.tmp 8) (.const (.int .i64 3)), (some (6, false))⟩,
      ⟨(some 10), .pk (.tmp 6) (.const (.bool true)) (.tmp 9), none⟩])
   (.cond (.tmp 10)
    (.seq (.reg [⟨(some 2), .mv (.const (.slice none 0 0)), none⟩])
     .ret)
    .skip))
  (.seq (.reg [⟨(some 11), .pad 1 (.tmp 1), none⟩,
     ⟨(some 12), .pad 0 (.tmp 1), none⟩,
     ⟨(some 13), .ld none (.tmp 12), none⟩,
     ⟨(some 14), .sla 2 3 (.tmp 11) none (some (.tmp 13)), none⟩,
     ⟨(some 2), .mv (.tmp 14), none⟩])
  .ret)))
def flatten_points_v1.f  : Option (Unit) := some ()
theorem flatten_points_v1.ok {S : Seal}  (e : flatten_points_v1.f  = some ()) :
    Cal Try.prog 70 [.agg #[.int .i64 1, .int .i64 5, .int .i64 0, .int .i64 0, .int .i64 0, .int .i64 0, .int .i64 0]] [] S fun v H' S' => ∃ (N0_ : Nat) , v = .slice (some ⟨N0_, 1, none⟩) 1 3 ∧ H' = ([⟨N0_, [.int .i64 1, .int .i64 5, .int .i64 0, .int .i64 0, .int .i64 0, .int .i64 0, .int .i64 0], 7⟩] : List Own) ∧ S' = S := by
  unfold flatten_points_v1.f at e
  refine cal_of (c := c70) (N := 15) Try.func70 rfl rfl (by kernel_rfl) (rs := [.t 2]) (by kernel_rfl) (Nat.le_of_ble_eq_true rfl) ?_
  unfold c70
  refine w_seq ?_
  refine w_reg fun all => ?_
  refine t_a (.box rfl rfl rfl) fun b17 fb17 sb17 => ?_
  refine t_qz 1 [1] (σ' := [(1, .pointer (some ⟨b17, 0, none⟩))]) (by kernel_rfl) ?_
  refine t_end ?_
  show W _ _ _ _ _ _ _
  refine w_seq ?_
  refine w_seq ?_
  refine w_reg fun all => ?_
  refine t_qz 1 [1, 3] (σ' := [(1, .pointer (some ⟨b17, 0, none⟩)), (3, .pointer (some ⟨b17, 0, none⟩))]) (by kernel_rfl) ?_
  refine t_v (.ld1 rfl rfl rfl (.at 0 rfl rfl)) ?_
  refine t_qz 3 [1, 6, 7] (σ' := [(1, .pointer (some ⟨b17, 0, none⟩)), (6, .bool false), (7, .pointer (some ⟨b17, 0, none⟩))]) (by kernel_rfl) ?_
  refine t_v (.ld1 rfl rfl rfl (.at 0 rfl rfl)) ?_
  refine t_qz 2 [1, 10] (σ' := [(1, .pointer (some ⟨b17, 0, none⟩)), (10, .bool false)]) (by kernel_rfl) ?_
  refine t_end ?_
  show W _ _ _ _ _ _ _
  refine w_cond rfl (fun c_ => by cases c_) (fun _ => ?_)
  show W _ _ _ _ _ _ _
  refine w_skip ?_
  show W _ _ _ _ _ _ _
  refine w_seq ?_
  refine w_reg fun all => ?_
  refine t_qz 2 [11, 12] (σ' := [(11, .pointer (some ⟨b17, 1, none⟩)), (12, .pointer (some ⟨b17, 0, none⟩))]) (by kernel_rfl) ?_
  refine t_v (.ld1 rfl rfl rfl (.at 0 rfl rfl)) ?_
  refine t_qz 2 [2] (σ' := [(2, .slice (some ⟨b17, 1, none⟩) 1 3)]) (by kernel_rfl) ?_
  refine t_end ?_
  show W _ _ _ _ _ _ _
  refine w_ret ?_
  exact ⟨[.slice (some ⟨b17, 1, none⟩) 1 3], ([⟨b17, [.int .i64 1, .int .i64 5, .int .i64 0, .int .i64 0, .int .i64 0, .int .i64 0, .int .i64 0], 7⟩] : List Own), S, ⟨rfl, trivial⟩, VS.sel [0] (by kernel_rfl), b17, rfl, rfl, rfl⟩

/-- fixed.Down -/
def c113 : C :=
  (.seq (.reg [⟨(some 4), .mv (.const (.int .i64 0)), none⟩])
  (.seq (.seq (.reg [⟨(some 6), .mv (.tmp 1), none⟩,
      ⟨(some 7), .bin .lss (.tmp 6) (.const (.int .i64 1)), none⟩])
   (.cond (.tmp 7)
    (.seq (.reg [⟨(some 4), .mv (.const (.int .i64 0)), none⟩])
     .ret)
    .skip))
  (.seq (.reg [⟨(some 8), .mv (.tmp 0), none⟩,
     ⟨(some 9), .mv (.tmp 1), none⟩,
     ⟨(some 10), .bin .quo (.tmp 8) (.tmp 9), none⟩,
     ⟨(some 5), .mv (.tmp 10), none⟩])
  (.seq (.seq (.reg [⟨(some 11), .mv (.tmp 0), none⟩,
      ⟨(some 12), .mv (.tmp 1), none⟩,
      ⟨(some 13), .bin .rem (.tmp 11) (.tmp 12), none⟩,
      ⟨(some 14), .bin .lss (.tmp 13) (.const (.int .i64 0)), none⟩])
   (.cond (.tmp 14)
    (.reg [⟨(some 15), .mv (.tmp 5), none⟩,
       ⟨(some 16), .bin .sub (.tmp 15) (.const (.int .i64 1)), none⟩,
       ⟨(some 5), .mv (.tmp 16), none⟩])
    .skip))
  (.seq (.reg [⟨(some 17), .mv (.tmp 5), none⟩,
     ⟨(some 4), .mv (.tmp 17), none⟩])
  .ret)))))
def fixed_Down_v1.f  : Option (Unit) := some ()
theorem fixed_Down_v1.ok {S : Seal}  (e : fixed_Down_v1.f  = some ()) :
    Cal Try.prog 113 [.int .i64 5, .int .i64 1] [] S fun v H' S' => v = .int .i64 5 ∧ H' = [] ∧ S' = S := by
  unfold fixed_Down_v1.f at e
  refine cal_of (c := c113) (N := 18) Try.func113 rfl rfl (by kernel_rfl) (rs := [.t 4]) (by kernel_rfl) (Nat.le_of_ble_eq_true rfl) ?_
  unfold c113
  refine w_seq ?_
  refine w_reg fun all => ?_
  refine t_qz 1 [0, 1] (σ' := [(0, .int .i64 5), (1, .int .i64 1)]) (by kernel_rfl) ?_
  refine t_end ?_
  show W _ _ _ _ _ _ _
  refine w_seq ?_
  refine w_seq ?_
  refine w_reg fun all => ?_
  refine t_qz 2 [0, 1, 7] (σ' := [(0, .int .i64 5), (1, .int .i64 1), (7, .bool false)]) (by kernel_rfl) ?_
  refine t_end ?_
  show W _ _ _ _ _ _ _
  refine w_cond rfl (fun c_ => by cases c_) (fun _ => ?_)
  show W _ _ _ _ _ _ _
  refine w_skip ?_
  show W _ _ _ _ _ _ _
  refine w_seq ?_
  refine w_reg fun all => ?_
  refine t_qz 4 [0, 1, 5] (σ' := [(0, .int .i64 5), (1, .int .i64 1), (5, .int .i64 5)]) (by kernel_rfl) ?_
  refine t_end ?_
  show W _ _ _ _ _ _ _
  refine w_seq ?_
  refine w_seq ?_
  refine w_reg fun all => ?_
  refine t_qz 4 [5, 14] (σ' := [(5, .int .i64 5), (14, .bool false)]) (by kernel_rfl) ?_
  refine t_end ?_
  show W _ _ _ _ _ _ _
  refine w_cond rfl (fun c_ => by cases c_) (fun _ => ?_)
  show W _ _ _ _ _ _ _
  refine w_skip ?_
  show W _ _ _ _ _ _ _
  refine w_seq ?_
  refine w_reg fun all => ?_
  refine t_qz 2 [4] (σ' := [(4, .int .i64 5)]) (by kernel_rfl) ?_
  refine t_end ?_
  show W _ _ _ _ _ _ _
  refine w_ret ?_
  exact ⟨[.int .i64 5], [], S, ⟨rfl, trivial⟩, VS.none, rfl, rfl, rfl⟩

/-- fixed.Round -/
def c92 : C :=
  (.seq (.reg [⟨(some 4), .mv (.const (.int .i64 0)), none⟩])
  (.seq (.seq (.reg [⟨(some 7), .mv (.tmp 1), none⟩,
      ⟨(some 8), .bin .lss (.tmp 7) (.const (.int .i64 1)), none⟩])
   (.cond (.tmp 8)
    (.seq (.reg [⟨(some 4), .mv (.const (.int .i64 0)), none⟩])
     .ret)
    .skip))
  (.seq (.reg [⟨(some 9), .mv (.tmp 0), none⟩,
     ⟨(some 10), .mv (.tmp 1), none⟩,
     ⟨(some 11), .call 113 [(.tmp 9), (.tmp 10)], none⟩,
     ⟨(some 5), .mv (.tmp 11), none⟩])
  (.seq (.seq (.reg [⟨(some 12), .mv (.tmp 0), none⟩,
      ⟨(some 13), .mv (.tmp 5), none⟩,
      ⟨(some 14), .mv (.tmp 1), none⟩,
      ⟨(some 15), .bin .mul (.tmp 13) (.tmp 14), none⟩,
      ⟨(some 16), .bin .sub (.tmp 12) (.tmp 15), none⟩,
      ⟨(some 6), .mv (.tmp 16), none⟩])
   (.seq (.reg [⟨(some 17), .mv (.tmp 6), none⟩,
      ⟨(some 18), .mv (.tmp 1), none⟩,
      ⟨(some 19), .mv (.tmp 6), none⟩,
      ⟨(some 20), .bin .sub (.tmp 18) (.tmp 19), none⟩,
      ⟨(some 21), .bin .geq (.tmp 17) (.tmp 20), none⟩])
   (.cond (.tmp 21)
    (.reg [⟨(some 22), .mv (.tmp 5), none⟩,
       ⟨(some 23), .bin .add (.tmp 22) (.const (.int .i64 1)), none⟩,
       ⟨(some 5), .mv (.tmp 23), none⟩])
    .skip)))
  (.seq (.reg [⟨(some 24), .mv (.tmp 5), none⟩,
     ⟨(some 4), .mv (.tmp 24), none⟩])
  .ret)))))
def fixed_Round_v1.f  : Option (Unit) := (fixed_Down_v1.f).bind fun _ => (some ())
theorem fixed_Round_v1.ok {S : Seal}  (e : fixed_Round_v1.f  = some ()) :
    Cal Try.prog 92 [.int .i64 5, .int .i64 1] [] S fun v H' S' => v = .int .i64 5 ∧ H' = [] ∧ S' = S := by
  unfold fixed_Round_v1.f at e
  refine cal_of (c := c92) (N := 25) Try.func92 rfl rfl (by kernel_rfl) (rs := [.t 4]) (by kernel_rfl) (Nat.le_of_ble_eq_true rfl) ?_
  unfold c92
  refine w_seq ?_
  refine w_reg fun all => ?_
  refine t_qz 1 [0, 1] (σ' := [(0, .int .i64 5), (1, .int .i64 1)]) (by kernel_rfl) ?_
  refine t_end ?_
  show W _ _ _ _ _ _ _
  refine w_seq ?_
  refine w_seq ?_
  refine w_reg fun all => ?_
  refine t_qz 2 [0, 1, 8] (σ' := [(0, .int .i64 5), (1, .int .i64 1), (8, .bool false)]) (by kernel_rfl) ?_
  refine t_end ?_
  show W _ _ _ _ _ _ _
  refine w_cond rfl (fun c_ => by cases c_) (fun _ => ?_)
  show W _ _ _ _ _ _ _
  refine w_skip ?_
  show W _ _ _ _ _ _ _
  refine w_seq ?_
  refine w_reg fun all => ?_
  obtain ⟨u_, h25, e⟩ := bind_of e
  refine t_qz 2 [0, 1, 9, 10] (σ' := [(0, .int .i64 5), (1, .int .i64 1), (9, .int .i64 5), (10, .int .i64 1)]) (by kernel_rfl) ?_
  refine t_v (.call (vs := [.int .i64 5, .int .i64 1]) rfl rfl (by kernel_rfl) (fixed_Down_v1.ok h25)) ?_
  refine t_qz 1 [0, 1, 5] (σ' := [(0, .int .i64 5), (1, .int .i64 1), (5, .int .i64 5)]) (by kernel_rfl) ?_
  refine t_end ?_
  show W _ _ _ _ _ _ _
  refine w_seq ?_
  refine w_seq ?_
  refine w_reg fun all => ?_
  refine t_qz 6 [1, 5, 6] (σ' := [(1, .int .i64 1), (5, .int .i64 5), (6, .int .i64 0)]) (by kernel_rfl) ?_
  refine t_end ?_
  show W _ _ _ _ _ _ _
  refine w_seq ?_
  refine w_reg fun all => ?_
  refine t_qz 5 [5, 21] (σ' := [(5, .int .i64 5), (21, .bool false)]) (by kernel_rfl) ?_
  refine t_end ?_
  show W _ _ _ _ _ _ _
  refine w_cond rfl (fun c_ => by cases c_) (fun _ => ?_)
  show W _ _ _ _ _ _ _
  refine w_skip ?_
  show W _ _ _ _ _ _ _
  refine w_seq ?_
  refine w_reg fun all => ?_
  refine t_qz 2 [4] (σ' := [(4, .int .i64 5)]) (by kernel_rfl) ?_
  refine t_end ?_
  show W _ _ _ _ _ _ _
  refine w_ret ?_
  exact ⟨[.int .i64 5], [], S, ⟨rfl, trivial⟩, VS.none, rfl, rfl, rfl⟩

/-- flatten.mix -/
def c71 : C :=
  (.seq (.reg [⟨(some 6), .mv (.const (.int .i64 0)), none⟩])
  (.seq (.reg [⟨(some 8), .mv (.tmp 1), none⟩,
     ⟨(some 9), .mv (.tmp 0), none⟩,
     ⟨(some 10), .bin .sub (.tmp 8) (.tmp 9), none⟩,
     ⟨(some 7), .mv (.tmp 10), none⟩])
  (.seq (.seq (.reg [⟨(some 11), .mv (.tmp 2), none⟩,
      ⟨(some 12), .lns (.tmp 11), none⟩])
   (.block 0 (.seq (.reg [⟨(some 14), .bin .eql (.tmp 12) (.const (.int .i64 1)), none⟩,
       ⟨(some 13), .mv (.tmp 14), none⟩])
    (.cond (.tmp 13)
     (.seq (.reg [⟨(some 15), .mv (.tmp 2), none⟩,
         ⟨(some 16), .ixs 1 (.tmp 15) (.const (.int .i64 0)), none⟩,
         ⟨(some 17), .ld none (.tmp 16), none⟩,
         ⟨(some 6), .mv (.tmp 17), none⟩])
      .ret)
     (.seq (.reg [⟨(some 19), .bin .eql (.tmp 12) (.const (.int .i64 2)), none⟩,
         ⟨(some 18), .mv (.tmp 19), none⟩])
      (.cond (.tmp 18)
       (.seq (.drw [⟨(some 20), .mv (.tmp 7), none⟩,
           ⟨(some 21), .mv (.tmp 2), none⟩,
           ⟨(some 22), .ixs 1 (.tmp 21) (.const (.int .i64 0)), none⟩,
           ⟨(some 23), .ld none (.tmp 22), none⟩,
           ⟨(some 24), .bin .mul (.tmp 20) (.tmp 23), none⟩,
           ⟨(some 25), .mv (.tmp 0), none⟩,
           ⟨(some 26), .mv (.tmp 2), none⟩,
           ⟨(some 27), .ixs 1 (.tmp 26) (.const (.int .i64 1)), none⟩,
           ⟨(some 28), .ld none (.tmp 27), none⟩,
           ⟨(some 29), .bin .mul (.tmp 25) (.tmp 28), none⟩,
           ⟨(some 30), .bin .add (.tmp 24) (.tmp 29), none⟩,
           ⟨(some 31), .mv (.tmp 1), none⟩,
           ⟨(some 32), .call 92 [(.tmp 30), (.tmp 31)], none⟩,
           ⟨(some 6), .mv (.tmp 32), none⟩] [[], [], [1], [2], [0, 3], [], [], [6], [7], [5, 8], [4, 9], [], [10, 11], [12, 12, 0, 1, 2, 3, 4, 5, 6, 7, 8, 9, 10, 11, 12]])
        .ret)
       (.seq (.reg [⟨(some 34), .bin .eql (.tmp 12) (.const (.int .i64 3)), none⟩,
           ⟨(some 33), .mv (.tmp 34), none⟩])
        (.cond (.tmp 33)
         (.seq (.drw [⟨(some 35), .mv (.tmp 7), none⟩,
             ⟨(some 36), .mv (.tmp 7), none⟩,
             ⟨(some 37), .bin .mul (.tmp 35) (.tmp 36), none⟩,
             ⟨(some 38), .mv (.tmp 2), none⟩,
             ⟨(some 39), .ixs 1 (.tmp 38) (.const (.int .i64 0)), none⟩,
             ⟨(some 40), .ld none (.tmp 39), none⟩,
             ⟨(some 41), .bin .mul (.tmp 37) (.tmp 40), none⟩,
             ⟨(some 42), .mv (.tmp 0), none⟩,
             ⟨(some 43), .bin .mul (.const (.int .i64 2)) (.tmp 42), none⟩,
             ⟨(some 44), .mv (.tmp 7), none⟩,
             ⟨(some 45), .bin .mul (.tmp 43) (.tmp 44), none⟩,
             ⟨(some 46), .mv (.tmp 2), none⟩,
             ⟨(some 47), .ixs 1 (.tmp 46) (.const (.int .i64 1)), none⟩,
             ⟨(some 48), .ld none (.tmp 47), none⟩,
             ⟨(some 49), .bin .mul (.tmp 45) (.tmp 48), none⟩,
             ⟨(some 50), .bin .add (.tmp 41) (.tmp 49), none⟩,
             ⟨(some 51), .mv (.tmp 0), none⟩,
             ⟨(some 52), .mv (.tmp 0), none⟩,
             ⟨(some 53), .bin .mul (.tmp 51) (.tmp 52), none⟩,
             ⟨(some 54), .mv (.tmp 2), none⟩,
             ⟨(some 55), .ixs 1 (.tmp 54) (.const (.int .i64 2)), none⟩,
             ⟨(some 56), .ld none (.tmp 55), none⟩,
             ⟨(some 57), .bin .mul (.tmp 53) (.tmp 56), none⟩,
             ⟨(some 58), .bin .add (.tmp 50) (.tmp 57), none⟩,
             ⟨(some 59), .mv (.tmp 1), none⟩,
             ⟨(some 60), .mv (.tmp 1), none⟩,
             ⟨(some 61), .bin .mul (.tmp 59) (.tmp 60), none⟩,
             ⟨(some 62), .call 92 [(.tmp 58), (.tmp 61)], none⟩,
             ⟨(some 6), .mv (.tmp 62), none⟩] [[], [], [0, 1], [], [3], [4], [2, 5], [], [7], [], [8, 9], [], [11], [12], [10, 13], [6, 14], [], [], [16, 17], [], [19], [20], [18, 21], [15, 22], [], [], [24, 25], [23, 26], [27, 27, 0, 1, 2, 3, 4, 5, 6, 7, 8, 9, 10, 11, 12, 13, 14, 15, 16, 17, 18, 19, 20, 21, 22, 23, 24, 25, 26, 27]])
          .ret)
         .skip))))))))
  (.seq (.drw [⟨(some 63), .mv (.tmp 7), none⟩,
     ⟨(some 64), .mv (.tmp 7), none⟩,
     ⟨(some 65), .bin .mul (.tmp 63) (.tmp 64), none⟩,
     ⟨(some 66), .mv (.tmp 7), none⟩,
     ⟨(some 67), .bin .mul (.tmp 65) (.tmp 66), none⟩,
     ⟨(some 68), .mv (.tmp 2), none⟩,
     ⟨(some 69), .ixs 1 (.tmp 68) (.const (.int .i64 0)), none⟩,
     ⟨(some 70), .ld none (.tmp 69), none⟩,
     ⟨(some 71), .bin .mul (.tmp 67) (.tmp 70), none⟩,
     ⟨(some 72), .mv (.tmp 0), none⟩,
     ⟨(some 73), .bin .mul (.const (.int .i64 3)) (.tmp 72), none⟩,
     ⟨(some 74), .mv (.tmp 7), none⟩,
     ⟨(some 75), .bin .mul (.tmp 73) (.tmp 74), none⟩,
     ⟨(some 76), .mv (.tmp 7), none⟩,
     ⟨(some 77), .bin .mul (.tmp 75) (.tmp 76), none⟩,
     ⟨(some 78), .mv (.tmp 2), none⟩,
     ⟨(some 79), .ixs 1 (.tmp 78) (.const (.int .i64 1)), none⟩,
     ⟨(some 80), .ld none (.tmp 79), none⟩,
     ⟨(some 81), .bin .mul (.tmp 77) (.tmp 80), none⟩,
     ⟨(some 82), .bin .add (.tmp 71) (.tmp 81), none⟩,
     ⟨(some 83), .mv (.tmp 0), none⟩,
     ⟨(some 84), .bin .mul (.const (.int .i64 3)) (.tmp 83), none⟩,
     ⟨(some 85), .mv (.tmp 0), none⟩,
     ⟨(some 86), .bin .mul (.tmp 84) (.tmp 85), none⟩,
     ⟨(some 87), .mv (.tmp 7), none⟩,
     ⟨(some 88), .bin .mul (.tmp 86) (.tmp 87), none⟩,
     ⟨(some 89), .mv (.tmp 2), none⟩,
     ⟨(some 90), .ixs 1 (.tmp 89) (.const (.int .i64 2)), none⟩,
     ⟨(some 91), .ld none (.tmp 90), none⟩,
     ⟨(some 92), .bin .mul (.tmp 88) (.tmp 91), none⟩,
     ⟨(some 93), .bin .add (.tmp 82) (.tmp 92), none⟩,
     ⟨(some 94), .mv (.tmp 0), none⟩,
     ⟨(some 95), .mv (.tmp 0), none⟩,
     ⟨(some 96), .bin .mul (.tmp 94) (.tmp 95), none⟩,
     ⟨(some 97), .mv (.tmp 0), none⟩,
     ⟨(some 98), .bin .mul (.tmp 96) (.tmp 97), none⟩,
     ⟨(some 99), .mv (.tmp 2), none⟩,
     ⟨(some 100), .ixs 1 (.tmp 99) (.const (.int .i64 3)), none⟩,
     ⟨(some 101), .ld none (.tmp 100), none⟩,
     ⟨(some 102), .bin .mul (.tmp 98) (.tmp 101), none⟩,
     ⟨(some 103), .bin .add (.tmp 93) (.tmp 102), none⟩,
     ⟨(some 104), .mv (.tmp 1), none⟩,
     ⟨(some 105), .mv (.tmp 1), none⟩,
     ⟨(some 106), .bin .mul (.tmp 104) (.tmp 105), none⟩,
     ⟨(some 107), .mv (.tmp 1), none⟩,
     ⟨(some 108), .bin .mul (.tmp 106) (.tmp 107), none⟩,
     ⟨(some 109), .call 92 [(.tmp 103), (.tmp 108)], none⟩,
     ⟨(some 6), .mv (.tmp 109), none⟩] [[], [], [0, 1], [], [2, 3], [], [5], [6], [4, 7], [], [9], [], [10, 11], [], [12, 13], [], [15], [16], [14, 17], [8, 18], [], [20], [], [21, 22], [], [23, 24], [], [26], [27], [25, 28], [19, 29], [], [], [31, 32], [], [33, 34], [], [36], [37], [35, 38], [30, 39], [], [], [41, 42], [], [43, 44], [40, 45], [46, 46, 0, 1, 2, 3, 4, 5, 6, 7, 8, 9, 10, 11, 12, 13, 14, 15, 16, 17, 18, 19, 20, 21, 22, 23, 24, 25, 26, 27, 28, 29, 30, 31, 32, 33, 34, 35, 36, 37, 38, 39, 40, 41, 42, 43, 44, 45, 46]])
  .ret))))
def flatten_mix_v1.f  : Option (Unit) := (fixed_Round_v1.f).bind fun _ => (some ())
theorem flatten_mix_v1.ok {S : Seal} {B0 nB0 : Nat}  (e : flatten_mix_v1.f  = some ()) :
    Cal Try.prog 71 [.int .i64 1, .int .i64 1, .slice (some ⟨B0, 0, none⟩) 2 (nB0 / 1)] ([⟨B0, [.int .i64 0, .int .i64 5], nB0⟩] : List Own) S fun v H' S' => v = .int .i64 5 ∧ H' = ([⟨B0, [.int .i64 0, .int .i64 5], nB0⟩] : List Own) ∧ S' = S := by
  unfold flatten_mix_v1.f at e
  refine cal_of (c := c71) (N := 110) Try.func71 rfl rfl (by kernel_rfl) (rs := [.t 6]) (by kernel_rfl) (Nat.le_of_ble_eq_true rfl) ?_
  unfold c71
  refine w_seq ?_
  refine w_reg fun all => ?_
  refine t_qz 1 [0, 1, 2] (σ' := [(0, .int .i64 1), (1, .int .i64 1), (2, .slice (some ⟨B0, 0, none⟩) 2 (nB0 / 1))]) (by kernel_rfl) ?_
  refine t_end ?_
  show W _ _ _ _ _ _ _
  refine w_seq ?_
  refine w_reg fun all => ?_
  refine t_qz 4 [0, 1, 2, 7] (σ' := [(0, .int .i64 1), (1, .int .i64 1), (2, .slice (some ⟨B0, 0, none⟩) 2 (nB0 / 1)), (7, .int .i64 0)]) (by kernel_rfl) ?_
  refine t_end ?_
  show W _ _ _ _ _ _ _
  refine w_seq ?_
  refine w_seq ?_
  refine w_reg fun all => ?_
  refine t_qz 2 [0, 1, 2, 7, 12] (σ' := [(0, .int .i64 1), (1, .int .i64 1), (2, .slice (some ⟨B0, 0, none⟩) 2 (nB0 / 1)), (7, .int .i64 0), (12, .int .i64 2)]) (by kernel_rfl) ?_
  refine t_end ?_
  show W _ _ _ _ _ _ _
  refine w_block ?_
  refine w_seq ?_
  refine w_reg fun all => ?_
  refine t_qz 2 [0, 1, 2, 7, 12, 13] (σ' := [(0, .int .i64 1), (1, .int .i64 1), (2, .slice (some ⟨B0, 0, none⟩) 2 (nB0 / 1)), (7, .int .i64 0), (12, .int .i64 2), (13, .bool false)]) (by kernel_rfl) ?_
  refine t_end ?_
  show W _ _ _ _ _ _ _
  refine w_cond rfl (fun c_ => by cases c_) (fun _ => ?_)
  show W _ _ _ _ _ _ _
  refine w_seq ?_
  refine w_reg fun all => ?_
  refine t_qz 2 [0, 1, 2, 7, 12, 18] (σ' := [(0, .int .i64 1), (1, .int .i64 1), (2, .slice (some ⟨B0, 0, none⟩) 2 (nB0 / 1)), (7, .int .i64 0), (12, .int .i64 2), (18, .bool true)]) (by kernel_rfl) ?_
  refine t_end ?_
  show W _ _ _ _ _ _ _
  refine w_cond rfl (fun _ => ?_) (fun c_ => by cases c_)
  show W _ _ _ _ _ _ _
  refine w_seq ?_
  obtain ⟨u_, h25, e⟩ := bind_of e
  refine w_drwE mixed 14 [.v (.int .i64 0), .v (.slice (some ⟨B0, 0, none⟩) 2 (nB0 / 1)), .v (.pointer (some ⟨B0, 0, none⟩)), .v (.int .i64 0), .v (.int .i64 0), .v (.int .i64 1), .v (.slice (some ⟨B0, 0, none⟩) 2 (nB0 / 1)), .v (.pointer (some ⟨B0, 1, none⟩)), .v (.int .i64 5), .v (.int .i64 5), .v (.int .i64 5), .v (.int .i64 1), .v (.int .i64 5), .v (.int .i64 5)] (by kernel_rfl) ?_ ?_
  · refine DI.sq 3 (by kernel_rfl) rfl ?_
    refine .cons (.ld1 rfl rfl rfl (.at 0 rfl rfl)) ?_
    refine DI.sq 4 (by kernel_rfl) rfl ?_
    refine .cons (.ld1 rfl rfl rfl (.at 0 rfl rfl)) ?_
    refine DI.sq 3 (by kernel_rfl) rfl ?_
    refine .cons (.call (vs := [.int .i64 5, .int .i64 1]) rfl rfl (by kernel_rfl) (fixed_Round_v1.ok h25)) ?_
    refine DI.sq 1 (by kernel_rfl) rfl ?_
    exact .nil
  refine fk_q 14 [6] (σ' := [(6, .int .i64 5)]) t_more (by kernel_rfl) ?_
  refine fk_nil fun all => ?_
  refine t_keep [6] (σ' := [(6, .int .i64 5)]) (by kernel_rfl) ?_
  refine t_end ?_
  show W _ _ _ _ _ _ _
  refine w_ret ?_
  exact ⟨[.int .i64 5], ([⟨B0, [.int .i64 0, .int .i64 5], nB0⟩] : List Own), S, ⟨rfl, trivial⟩, VS.sel [0] (by kernel_rfl), rfl, rfl, rfl⟩

def fixed_Down_v2.f  : Option (Unit) := some ()
theorem fixed_Down_v2.ok {S : Seal}  (e : fixed_Down_v2.f  = some ()) :
    Cal Try.prog 113 [.int .i64 0, .int .i64 1] [] S fun v H' S' => v = .int .i64 0 ∧ H' = [] ∧ S' = S := by
  unfold fixed_Down_v2.f at e
  refine cal_of (c := c113) (N := 18) Try.func113 rfl rfl (by kernel_rfl) (rs := [.t 4]) (by kernel_rfl) (Nat.le_of_ble_eq_true rfl) ?_
  unfold c113
  refine w_seq ?_
  refine w_reg fun all => ?_
  refine t_qz 1 [0, 1] (σ' := [(0, .int .i64 0), (1, .int .i64 1)]) (by kernel_rfl) ?_
  refine t_end ?_
  show W _ _ _ _ _ _ _
  refine w_seq ?_
  refine w_seq ?_
  refine w_reg fun all => ?_
  refine t_qz 2 [0, 1, 7] (σ' := [(0, .int .i64 0), (1, .int .i64 1), (7, .bool false)]) (by kernel_rfl) ?_
  refine t_end ?_
  show W _ _ _ _ _ _ _
  refine w_cond rfl (fun c_ => by cases c_) (fun _ => ?_)
  show W _ _ _ _ _ _ _
  refine w_skip ?_
  show W _ _ _ _ _ _ _
  refine w_seq ?_
  refine w_reg fun all => ?_
  refine t_qz 4 [0, 1, 5] (σ' := [(0, .int .i64 0), (1, .int .i64 1), (5, .int .i64 0)]) (by kernel_rfl) ?_
  refine t_end ?_
  show W _ _ _ _ _ _ _
  refine w_seq ?_
  refine w_seq ?_
  refine w_reg fun all => ?_
  refine t_qz 4 [5, 14] (σ' := [(5, .int .i64 0), (14, .bool false)]) (by kernel_rfl) ?_
  refine t_end ?_
  show W _ _ _ _ _ _ _
  refine w_cond rfl (fun c_ => by cases c_) (fun _ => ?_)
  show W _ _ _ _ _ _ _
  refine w_skip ?_
  show W _ _ _ _ _ _ _
  refine w_seq ?_
  refine w_reg fun all => ?_
  refine t_qz 2 [4] (σ' := [(4, .int .i64 0)]) (by kernel_rfl) ?_
  refine t_end ?_
  show W _ _ _ _ _ _ _
  refine w_ret ?_
  exact ⟨[.int .i64 0], [], S, ⟨rfl, trivial⟩, VS.none, rfl, rfl, rfl⟩

def fixed_Round_v2.f  : Option (Unit) := (fixed_Down_v2.f).bind fun _ => (some ())
theorem fixed_Round_v2.ok {S : Seal}  (e : fixed_Round_v2.f  = some ()) :
    Cal Try.prog 92 [.int .i64 0, .int .i64 1] [] S fun v H' S' => v = .int .i64 0 ∧ H' = [] ∧ S' = S := by
  unfold fixed_Round_v2.f at e
  refine cal_of (c := c92) (N := 25) Try.func92 rfl rfl (by kernel_rfl) (rs := [.t 4]) (by kernel_rfl) (Nat.le_of_ble_eq_true rfl) ?_
  unfold c92
  refine w_seq ?_
  refine w_reg fun all => ?_
  refine t_qz 1 [0, 1] (σ' := [(0, .int .i64 0), (1, .int .i64 1)]) (by kernel_rfl) ?_
  refine t_end ?_
  show W _ _ _ _ _ _ _
  refine w_seq ?_
  refine w_seq ?_
  refine w_reg fun all => ?_
  refine t_qz 2 [0, 1, 8] (σ' := [(0, .int .i64 0), (1, .int .i64 1), (8, .bool false)]) (by kernel_rfl) ?_
  refine t_end ?_
  show W _ _ _ _ _ _ _
  refine w_cond rfl (fun c_ => by cases c_) (fun _ => ?_)
  show W _ _ _ _ _ _ _
  refine w_skip ?_
  show W _ _ _ _ _ _ _
  refine w_seq ?_
  refine w_reg fun all => ?_
  obtain ⟨u_, h27, e⟩ := bind_of e
  refine t_qz 2 [0, 1, 9, 10] (σ' := [(0, .int .i64 0), (1, .int .i64 1), (9, .int .i64 0), (10, .int .i64 1)]) (by kernel_rfl) ?_
  refine t_v (.call (vs := [.int .i64 0, .int .i64 1]) rfl rfl (by kernel_rfl) (fixed_Down_v2.ok h27)) ?_
  refine t_qz 1 [0, 1, 5] (σ' := [(0, .int .i64 0), (1, .int .i64 1), (5, .int .i64 0)]) (by kernel_rfl) ?_
  refine t_end ?_
  show W _ _ _ _ _ _ _
  refine w_seq ?_
  refine w_seq ?_
  refine w_reg fun all => ?_
  refine t_qz 6 [1, 5, 6] (σ' := [(1, .int .i64 1), (5, .int .i64 0), (6, .int .i64 0)]) (by kernel_rfl) ?_
  refine t_end ?_
  show W _ _ _ _ _ _ _
  refine w_seq ?_
  refine w_reg fun all => ?_
  refine t_qz 5 [5, 21] (σ' := [(5, .int .i64 0), (21, .bool false)]) (by kernel_rfl) ?_
  refine t_end ?_
  show W _ _ _ _ _ _ _
  refine w_cond rfl (fun c_ => by cases c_) (fun _ => ?_)
  show W _ _ _ _ _ _ _
  refine w_skip ?_
  show W _ _ _ _ _ _ _
  refine w_seq ?_
  refine w_reg fun all => ?_
  refine t_qz 2 [4] (σ' := [(4, .int .i64 0)]) (by kernel_rfl) ?_
  refine t_end ?_
  show W _ _ _ _ _ _ _
  refine w_ret ?_
  exact ⟨[.int .i64 0], [], S, ⟨rfl, trivial⟩, VS.none, rfl, rfl, rfl⟩

def flatten_mix_v2.f  : Option (Unit) := (fixed_Round_v2.f).bind fun _ => (some ())
theorem flatten_mix_v2.ok {S : Seal} {B0 nB0 : Nat}  (e : flatten_mix_v2.f  = some ()) :
    Cal Try.prog 71 [.int .i64 1, .int .i64 1, .slice (some ⟨B0, 0, none⟩) 2 (nB0 / 1)] ([⟨B0, [.int .i64 0, .int .i64 0], nB0⟩] : List Own) S fun v H' S' => v = .int .i64 0 ∧ H' = ([⟨B0, [.int .i64 0, .int .i64 0], nB0⟩] : List Own) ∧ S' = S := by
  unfold flatten_mix_v2.f at e
  refine cal_of (c := c71) (N := 110) Try.func71 rfl rfl (by kernel_rfl) (rs := [.t 6]) (by kernel_rfl) (Nat.le_of_ble_eq_true rfl) ?_
  unfold c71
  refine w_seq ?_
  refine w_reg fun all => ?_
  refine t_qz 1 [0, 1, 2] (σ' := [(0, .int .i64 1), (1, .int .i64 1), (2, .slice (some ⟨B0, 0, none⟩) 2 (nB0 / 1))]) (by kernel_rfl) ?_
  refine t_end ?_
  show W _ _ _ _ _ _ _
  refine w_seq ?_
  refine w_reg fun all => ?_
  refine t_qz 4 [0, 1, 2, 7] (σ' := [(0, .int .i64 1), (1, .int .i64 1), (2, .slice (some ⟨B0, 0, none⟩) 2 (nB0 / 1)), (7, .int .i64 0)]) (by kernel_rfl) ?_
  refine t_end ?_
  show W _ _ _ _ _ _ _
  refine w_seq ?_
  refine w_seq ?_
  refine w_reg fun all => ?_
  refine t_qz 2 [0, 1, 2, 7, 12] (σ' := [(0, .int .i64 1), (1, .int .i64 1), (2, .slice (some ⟨B0, 0, none⟩) 2 (nB0 / 1)), (7, .int .i64 0), (12, .int .i64 2)]) (by kernel_rfl) ?_
  refine t_end ?_
  show W _ _ _ _ _ _ _
  refine w_block ?_
  refine w_seq ?_
  refine w_reg fun all => ?_
  refine t_qz 2 [0, 1, 2, 7, 12, 13] (σ' := [(0, .int .i64 1), (1, .int .i64 1), (2, .slice (some ⟨B0, 0, none⟩) 2 (nB0 / 1)), (7, .int .i64 0), (12, .int .i64 2), (13, .bool false)]) (by kernel_rfl) ?_
  refine t_end ?_
  show W _ _ _ _ _ _ _
  refine w_cond rfl (fun c_ => by cases c_) (fun _ => ?_)
  show W _ _ _ _ _ _ _
  refine w_seq ?_
  refine w_reg fun all => ?_
  refine t_qz 2 [0, 1, 2, 7, 12, 18] (σ' := [(0, .int .i64 1), (1, .int .i64 1), (2, .slice (some ⟨B0, 0, none⟩) 2 (nB0 / 1)), (7, .int .i64 0), (12, .int .i64 2), (18, .bool true)]) (by kernel_rfl) ?_
  refine t_end ?_
  show W _ _ _ _ _ _ _
  refine w_cond rfl (fun _ => ?_) (fun c_ => by cases c_)
  show W _ _ _ _ _ _ _
  refine w_seq ?_
  obtain ⟨u_, h27, e⟩ := bind_of e
  refine w_drwE mixed 14 [.v (.int .i64 0), .v (.slice (some ⟨B0, 0, none⟩) 2 (nB0 / 1)), .v (.pointer (some ⟨B0, 0, none⟩)), .v (.int .i64 0), .v (.int .i64 0), .v (.int .i64 1), .v (.slice (some ⟨B0, 0, none⟩) 2 (nB0 / 1)), .v (.pointer (some ⟨B0, 1, none⟩)), .v (.int .i64 0), .v (.int .i64 0), .v (.int .i64 0), .v (.int .i64 1), .v (.int .i64 0), .v (.int .i64 0)] (by kernel_rfl) ?_ ?_
  · refine DI.sq 3 (by kernel_rfl) rfl ?_
    refine .cons (.ld1 rfl rfl rfl (.at 0 rfl rfl)) ?_
    refine DI.sq 4 (by kernel_rfl) rfl ?_
    refine .cons (.ld1 rfl rfl rfl (.at 0 rfl rfl)) ?_
    refine DI.sq 3 (by kernel_rfl) rfl ?_
    refine .cons (.call (vs := [.int .i64 0, .int .i64 1]) rfl rfl (by kernel_rfl) (fixed_Round_v2.ok h27)) ?_
    refine DI.sq 1 (by kernel_rfl) rfl ?_
    exact .nil
  refine fk_q 14 [6] (σ' := [(6, .int .i64 0)]) t_more (by kernel_rfl) ?_
  refine fk_nil fun all => ?_
  refine t_keep [6] (σ' := [(6, .int .i64 0)]) (by kernel_rfl) ?_
  refine t_end ?_
  show W _ _ _ _ _ _ _
  refine w_ret ?_
  exact ⟨[.int .i64 0], ([⟨B0, [.int .i64 0, .int .i64 0], nB0⟩] : List Own), S, ⟨rfl, trivial⟩, VS.sel [0] (by kernel_rfl), rfl, rfl, rfl⟩

/-- flatten.Point -/
def c31 : C :=
  (.seq (.reg [⟨(some 4), .box (.tmp 0), none⟩,
     ⟨(some 5), .box (.tmp 1), none⟩,
     ⟨(some 8), .new [(.int .i64 0), (.int .i64 0)], none⟩])
  (.seq (.drw [⟨(some 13), .pad 0 (.tmp 4), none⟩,
     ⟨(some 14), .ld none (.tmp 13), none⟩,
     ⟨(some 15), .bsl [(.int .i64 0)] 1 [(0, 1, (.tmp 14))], none⟩,
     ⟨(some 16), .pad 1 (.tmp 4), none⟩,
     ⟨(some 17), .ld none (.tmp 16), none⟩,
     ⟨(some 18), .bsl [(.int .i64 0)] 1 [(0, 1, (.tmp 17))], none⟩,
     ⟨(some 9), .mv (.tmp 15), none⟩,
     ⟨(some 10), .mv (.tmp 18), none⟩] [[], [0], [1], [], [3], [4], [2, 0, 1, 2], [5, 6, 0, 1, 2, 3, 4, 5, 6]])
  (.seq (.seq (.reg [⟨(some 19), .ld (some 7) (.tmp 5), none⟩,
      ⟨(some 20), .call 70 [(.tmp 19)], none⟩,
      ⟨(some 21), .lns (.tmp 20), none⟩,
      ⟨(some 22), .mv (.const (.int .i64 0)), none⟩])
   (.block 0 (.loop (.seq (.reg [⟨(some 23), .bin .lss (.tmp 22) (.tmp 21), none⟩])
     (.seq (.cond (.tmp 23)
       .skip
       (.exit 0))
     (.seq (.block 1 (.seq (.reg [⟨(some 24), .ixs 2 (.tmp 20) (.tmp 22), none⟩,
          ⟨(some 25), .ld (some 2) (.tmp 24), none⟩,
          ⟨(some 12), .new [(.int .i64 0), (.int .i64 0)], none⟩,
          ⟨none, .st 2 (.tmp 12) (.tmp 25), none⟩])
       (.drw [⟨(some 26), .mv (.tmp 9), none⟩,
         ⟨(some 27), .pad 0 (.tmp 12), none⟩,
         ⟨(some 28), .ld none (.tmp 27), none⟩,
         ⟨(some 29), .bsl [(.int .i64 0)] 1 [(0, 1, (.tmp 28))], none⟩,
         ⟨(some 30), .app 2 1 8 [(.int .i64 0)] (.tmp 26) (.tmp 29), none⟩,
         ⟨(some 31), .mv (.tmp 10), none⟩,
         ⟨(some 32), .pad 1 (.tmp 12), none⟩,
         ⟨(some 33), .ld none (.tmp 32), none⟩,
         ⟨(some 34), .bsl [(.int .i64 0)] 1 [(0, 1, (.tmp 33))], none⟩,
         ⟨(some 35), .app 2 1 8 [(.int .i64 0)] (.tmp 31) (.tmp 34), none⟩,
         ⟨(some 9), .mv (.tmp 30), none⟩,
         ⟨(some 10), .mv (.tmp 35), none⟩] [[], [], [1], [2], [0, 3], [], [], [6], [7], [5, 8, 4], [4, 9, 0, 1, 2, 3, 4], [9, 10, 0, 1, 2, 3, 4, 5, 6, 7, 8, 9, 10]])))
     (.reg [⟨(some 36), .bin .add (.tmp 22) (.const (.int .i64 1)), none⟩,
       ⟨(some 22), .mv (.tmp 36), none⟩])))))))
  (.seq (.reg [⟨(some 37), .mv (.tmp 2), none⟩,
     ⟨(some 38), .mv (.tmp 3), none⟩,
     ⟨(some 39), .mv (.tmp 9), none⟩,
     ⟨(some 40), .call 71 [(.tmp 37), (.tmp 38), (.tmp 39)], none⟩,
     ⟨(some 41), .mv (.tmp 2), none⟩,
     ⟨(some 42), .mv (.tmp 3), none⟩,
     ⟨(some 43), .mv (.tmp 10), none⟩,
     ⟨(some 44), .call 71 [(.tmp 41), (.tmp 42), (.tmp 43)], none⟩,
     ⟨(some 45), .bld [(.int .i64 0), (.int .i64 0)] [(0, 1, (.tmp 40)), (1, 1, (.tmp 44))], none⟩,
     ⟨none, .st 2 (.tmp 8) (.tmp 45), none⟩])
  .ret))))
def flatten_Point_v1.f  : Option (Unit) := (flatten_points_v1.f).bind fun _ => ((flatten_mix_v1.f).bind fun _ => ((flatten_mix_v2.f).bind fun _ => (some ())))
theorem flatten_Point_v1.ok {S : Seal}  (e : flatten_Point_v1.f  = some ()) :
    Cal Try.prog 31 [.agg #[.int .i64 0, .int .i64 0], .agg #[.int .i64 1, .int .i64 5, .int .i64 0, .int .i64 0, .int .i64 0, .int .i64 0, .int .i64 0], .int .i64 1, .int .i64 1] [] S fun v H' S' => v = .agg #[.int .i64 5, .int .i64 0] ∧ H' = [] ∧ S' = S := by
  unfold flatten_Point_v1.f at e
  refine cal_of (c := c31) (N := 46) Try.func31 rfl rfl (by kernel_rfl) (rs := [.cn 2 8]) (by kernel_rfl) (Nat.le_of_ble_eq_true rfl) ?_
  unfold c31
  refine w_seq ?_
  refine w_reg fun all => ?_
  refine t_a (.box rfl rfl rfl) fun b12 fb12 sb12 => ?_
  refine t_a (.box rfl rfl rfl) fun b13 fb13 sb13 => ?_
  refine t_a (.new rfl rfl) fun b14 fb14 sb14 => ?_
  refine t_keep [2, 3, 4, 5, 8] (σ' := [(2, .int .i64 1), (3, .int .i64 1), (4, .pointer (some ⟨b12, 0, none⟩)), (5, .pointer (some ⟨b13, 0, none⟩)), (8, .pointer (some ⟨b14, 0, none⟩))]) (by kernel_rfl) ?_
  refine t_end ?_
  show W _ _ _ _ _ _ _
  refine w_seq ?_
  refine w_kp [2, 3, 4, 5, 8] (σ' := [(2, .int .i64 1), (3, .int .i64 1), (4, .pointer (some ⟨b12, 0, none⟩)), (5, .pointer (some ⟨b13, 0, none⟩)), (8, .pointer (some ⟨b14, 0, none⟩))]) (by kernel_rfl) ?_
  refine w_gameQ mixed (by kernel_rfl) fun all G hend hstep hqf => ?_
  have hg_ff : ∀ (g16 : Nat) (g15 : Nat), G [true, true, true, true, true, true, true, true] [(2, .int .i64 1), (3, .int .i64 1), (5, .pointer (some ⟨b13, 0, none⟩)), (8, .pointer (some ⟨b14, 0, none⟩)), (9, .slice (some ⟨g15, 0, none⟩) 1 1), (10, .slice (some ⟨g16, 0, none⟩) 1 1)] ([⟨g16, [.int .i64 0], 1⟩, ⟨g15, [.int .i64 0], 1⟩, ⟨b14, [.int .i64 0, .int .i64 0], 2⟩, ⟨b13, [.int .i64 1, .int .i64 5, .int .i64 0, .int .i64 0, .int .i64 0, .int .i64 0, .int .i64 0], 7⟩, ⟨b12, [.int .i64 0, .int .i64 0], 2⟩] : List Own) := by
    intro g16 g15
    refine hend _ _ _ (by kernel_rfl) ?_
    show W _ _ _ _ _ _ _
    refine w_seq ?_
    refine w_seq ?_
    refine w_reg fun all => ?_
    refine t_v (.ldn rfl rfl rfl (.at 3 rfl rfl)) ?_
    obtain ⟨u_, h18, e⟩ := bind_of e
    refine t_call (vs := [.agg #[.int .i64 1, .int .i64 5, .int .i64 0, .int .i64 0, .int .i64 0, .int .i64 0, .int .i64 0]]) (H1 := ([] : List Own)) (F := ([⟨g16, [.int .i64 0], 1⟩, ⟨g15, [.int .i64 0], 1⟩, ⟨b14, [.int .i64 0, .int .i64 0], 2⟩, ⟨b13, [.int .i64 1, .int .i64 5, .int .i64 0, .int .i64 0, .int .i64 0, .int .i64 0, .int .i64 0], 7⟩, ⟨b12, [.int .i64 0, .int .i64 0], 2⟩] : List Own)) rfl rfl (by kernel_rfl) (sel_perm (is := []) (by kernel_rfl)) (flatten_points_v1.ok h18) ?_
    rintro _ _ S_ ⟨N19, rfl, rfl, hS_⟩
    obtain rfl := hS_.symm
    refine t_qz 2 [2, 3, 8, 9, 10, 20, 21, 22] (σ' := [(2, .int .i64 1), (3, .int .i64 1), (8, .pointer (some ⟨b14, 0, none⟩)), (9, .slice (some ⟨g15, 0, none⟩) 1 1), (10, .slice (some ⟨g16, 0, none⟩) 1 1), (20, .slice (some ⟨N19, 1, none⟩) 1 3), (21, .int .i64 1), (22, .int .i64 0)]) (by kernel_rfl) ?_
    refine t_end ?_
    show W _ _ _ _ _ _ _
    refine w_block ?_
    refine w_lun 10 ?_
    refine wl_step ?_
    refine w_seq ?_
    refine w_reg fun all => ?_
    refine t_qz 1 [2, 3, 8, 9, 10, 20, 21, 22, 23] (σ' := [(2, .int .i64 1), (3, .int .i64 1), (8, .pointer (some ⟨b14, 0, none⟩)), (9, .slice (some ⟨g15, 0, none⟩) 1 1), (10, .slice (some ⟨g16, 0, none⟩) 1 1), (20, .slice (some ⟨N19, 1, none⟩) 1 3), (21, .int .i64 1), (22, .int .i64 0), (23, .bool true)]) (by kernel_rfl) ?_
    refine t_end ?_
    show W _ _ _ _ _ _ _
    refine w_seq ?_
    refine w_cond rfl (fun _ => ?_) (fun c_ => by cases c_)
    show W _ _ _ _ _ _ _
    refine w_skip ?_
    show W _ _ _ _ _ _ _
    refine w_seq ?_
    refine w_block ?_
    refine w_seq ?_
    refine w_reg fun all => ?_
    refine t_qz 1 [2, 3, 8, 9, 10, 20, 21, 22, 24] (σ' := [(2, .int .i64 1), (3, .int .i64 1), (8, .pointer (some ⟨b14, 0, none⟩)), (9, .slice (some ⟨g15, 0, none⟩) 1 1), (10, .slice (some ⟨g16, 0, none⟩) 1 1), (20, .slice (some ⟨N19, 1, none⟩) 1 3), (21, .int .i64 1), (22, .int .i64 0), (24, .pointer (some ⟨N19, 1, none⟩))]) (by kernel_rfl) ?_
    refine t_v (.ldn rfl rfl rfl (.at 0 rfl rfl)) ?_
    refine t_a (.new rfl rfl) fun b20 fb20 sb20 => ?_
    refine t_sti 0 (cs := [.int .i64 5, .int .i64 0]) rfl rfl rfl rfl rfl rfl rfl rfl rfl ?_
    refine t_keep [2, 3, 8, 9, 10, 12, 20, 21, 22] (σ' := [(2, .int .i64 1), (3, .int .i64 1), (8, .pointer (some ⟨b14, 0, none⟩)), (9, .slice (some ⟨g15, 0, none⟩) 1 1), (10, .slice (some ⟨g16, 0, none⟩) 1 1), (12, .pointer (some ⟨b20, 0, none⟩)), (20, .slice (some ⟨N19, 1, none⟩) 1 3), (21, .int .i64 1), (22, .int .i64 0)]) (by kernel_rfl) ?_
    refine t_end ?_
    show W _ _ _ _ _ _ _
    refine w_kp [2, 3, 8, 9, 10, 12, 20, 21, 22] (σ' := [(2, .int .i64 1), (3, .int .i64 1), (8, .pointer (some ⟨b14, 0, none⟩)), (9, .slice (some ⟨g15, 0, none⟩) 1 1), (10, .slice (some ⟨g16, 0, none⟩) 1 1), (12, .pointer (some ⟨b20, 0, none⟩)), (20, .slice (some ⟨N19, 1, none⟩) 1 3), (21, .int .i64 1), (22, .int .i64 0)]) (by kernel_rfl) ?_
    refine w_gameQ mixed (by kernel_rfl) fun all G hend hstep hqf => ?_
    have hg_fff : ∀ (g24 : Nat) (ng24 : Nat) (g23 : Nat) (g22 : Nat) (ng22 : Nat) (g21 : Nat), G [true, true, true, true, true, true, true, true, true, true, true, true] [(2, .int .i64 1), (3, .int .i64 1), (8, .pointer (some ⟨b14, 0, none⟩)), (9, .slice (some ⟨g22, 0, none⟩) 2 (ng22 / 1)), (10, .slice (some ⟨g24, 0, none⟩) 2 (ng24 / 1)), (20, .slice (some ⟨N19, 1, none⟩) 1 3), (21, .int .i64 1), (22, .int .i64 0)] ([⟨g24, [.int .i64 0, .int .i64 0], ng24⟩, ⟨g23, [.int .i64 0], 1⟩, ⟨g22, [.int .i64 0, .int .i64 5], ng22⟩, ⟨g21, [.int .i64 5], 1⟩, ⟨b20, [.int .i64 5, .int .i64 0], 2⟩, ⟨N19, [.int .i64 1, .int .i64 5, .int .i64 0, .int .i64 0, .int .i64 0, .int .i64 0, .int .i64 0], 7⟩, ⟨b14, [.int .i64 0, .int .i64 0], 2⟩, ⟨b13, [.int .i64 1, .int .i64 5, .int .i64 0, .int .i64 0, .int .i64 0, .int .i64 0, .int .i64 0], 7⟩, ⟨b12, [.int .i64 0, .int .i64 0], 2⟩] : List Own) := by
      intro g24 ng24 g23 g22 ng22 g21
      refine hend _ _ _ (by kernel_rfl) ?_
      show W _ _ _ _ _ _ _
      refine w_reg fun all => ?_
      refine t_qz 2 [2, 3, 8, 9, 10, 20, 21, 22] (σ' := [(2, .int .i64 1), (3, .int .i64 1), (8, .pointer (some ⟨b14, 0, none⟩)), (9, .slice (some ⟨g22, 0, none⟩) 2 (ng22 / 1)), (10, .slice (some ⟨g24, 0, none⟩) 2 (ng24 / 1)), (20, .slice (some ⟨N19, 1, none⟩) 1 3), (21, .int .i64 1), (22, .int .i64 1)]) (by kernel_rfl) ?_
      refine t_end ?_
      show WL _ _ _ _ _ _ _ _
      refine wl_step ?_
      refine w_seq ?_
      refine w_reg fun all => ?_
      refine t_qz 1 [2, 3, 8, 9, 10, 20, 21, 22, 23] (σ' := [(2, .int .i64 1), (3, .int .i64 1), (8, .pointer (some ⟨b14, 0, none⟩)), (9, .slice (some ⟨g22, 0, none⟩) 2 (ng22 / 1)), (10, .slice (some ⟨g24, 0, none⟩) 2 (ng24 / 1)), (20, .slice (some ⟨N19, 1, none⟩) 1 3), (21, .int .i64 1), (22, .int .i64 1), (23, .bool false)]) (by kernel_rfl) ?_
      refine t_end ?_
      show W _ _ _ _ _ _ _
      refine w_seq ?_
      refine w_cond rfl (fun c_ => by cases c_) (fun _ => ?_)
      show W _ _ _ _ _ _ _
      refine w_exit ?_
      show W _ _ _ _ _ _ _
      refine w_seq ?_
      refine w_reg fun all => ?_
      obtain ⟨u_, h26, e⟩ := bind_of e
      refine t_qz 3 [2, 3, 8, 10, 37, 38, 39] (σ' := [(2, .int .i64 1), (3, .int .i64 1), (8, .pointer (some ⟨b14, 0, none⟩)), (10, .slice (some ⟨g24, 0, none⟩) 2 (ng24 / 1)), (37, .int .i64 1), (38, .int .i64 1), (39, .slice (some ⟨g22, 0, none⟩) 2 (ng22 / 1))]) (by kernel_rfl) ?_
      refine t_v (.callr (vs := [.int .i64 1, .int .i64 1, .slice (some ⟨g22, 0, none⟩) 2 (ng22 / 1)]) (A := ([⟨g22, [.int .i64 0, .int .i64 5], ng22⟩] : List Own)) (F0 := ([⟨g24, [.int .i64 0, .int .i64 0], ng24⟩, ⟨g23, [.int .i64 0], 1⟩, ⟨g21, [.int .i64 5], 1⟩, ⟨b20, [.int .i64 5, .int .i64 0], 2⟩, ⟨N19, [.int .i64 1, .int .i64 5, .int .i64 0, .int .i64 0, .int .i64 0, .int .i64 0, .int .i64 0], 7⟩, ⟨b14, [.int .i64 0, .int .i64 0], 2⟩, ⟨b13, [.int .i64 1, .int .i64 5, .int .i64 0, .int .i64 0, .int .i64 0, .int .i64 0, .int .i64 0], 7⟩, ⟨b12, [.int .i64 0, .int .i64 0], 2⟩] : List Own)) rfl rfl (by kernel_rfl) (sel_perm (is := [2]) (by kernel_rfl)) (flatten_mix_v1.ok h26)) ?_
      obtain ⟨u_, h28, e⟩ := bind_of e
      refine t_qz 3 [8, 40, 41, 42, 43] (σ' := [(8, .pointer (some ⟨b14, 0, none⟩)), (40, .int .i64 5), (41, .int .i64 1), (42, .int .i64 1), (43, .slice (some ⟨g24, 0, none⟩) 2 (ng24 / 1))]) (by kernel_rfl) ?_
      refine t_v (.callr (vs := [.int .i64 1, .int .i64 1, .slice (some ⟨g24, 0, none⟩) 2 (ng24 / 1)]) (A := ([⟨g24, [.int .i64 0, .int .i64 0], ng24⟩] : List Own)) (F0 := ([⟨g23, [.int .i64 0], 1⟩, ⟨g22, [.int .i64 0, .int .i64 5], ng22⟩, ⟨g21, [.int .i64 5], 1⟩, ⟨b20, [.int .i64 5, .int .i64 0], 2⟩, ⟨N19, [.int .i64 1, .int .i64 5, .int .i64 0, .int .i64 0, .int .i64 0, .int .i64 0, .int .i64 0], 7⟩, ⟨b14, [.int .i64 0, .int .i64 0], 2⟩, ⟨b13, [.int .i64 1, .int .i64 5, .int .i64 0, .int .i64 0, .int .i64 0, .int .i64 0, .int .i64 0], 7⟩, ⟨b12, [.int .i64 0, .int .i64 0], 2⟩] : List Own)) rfl rfl (by kernel_rfl) (sel_perm (is := [0]) (by kernel_rfl)) (flatten_mix_v2.ok h28)) ?_
      refine t_qz 1 [8, 45] (σ' := [(8, .pointer (some ⟨b14, 0, none⟩)), (45, .agg #[.int .i64 5, .int .i64 0])]) (by kernel_rfl) ?_
      refine t_sti 6 (cs := [.int .i64 5, .int .i64 0]) rfl rfl rfl rfl rfl rfl rfl rfl rfl ?_
      refine t_keep [8] (σ' := [(8, .pointer (some ⟨b14, 0, none⟩))]) (by kernel_rfl) ?_
      refine t_end ?_
      show W _ _ _ _ _ _ _
      refine w_ret ?_
      exact ⟨[.agg #[.int .i64 5, .int .i64 0]], [], S, ⟨⟨_, _, _, rfl, .at 6 rfl rfl, rfl⟩, trivial⟩, VS.none, rfl, rfl, rfl⟩
    have hg_7ff : ∀ (g24 : Nat) (ng24 : Nat) (g23 : Nat) (g22 : Nat) (ng22 : Nat) (g21 : Nat), G [true, true, true, true, true, true, true, true, true, true, true, false] [(2, .int .i64 1), (3, .int .i64 1), (8, .pointer (some ⟨b14, 0, none⟩)), (9, .slice (some ⟨g22, 0, none⟩) 2 (ng22 / 1)), (10, .slice (some ⟨g16, 0, none⟩) 1 1), (20, .slice (some ⟨N19, 1, none⟩) 1 3), (21, .int .i64 1), (22, .int .i64 0), (35, .slice (some ⟨g24, 0, none⟩) 2 (ng24 / 1))] ([⟨g24, [.int .i64 0, .int .i64 0], ng24⟩, ⟨g23, [.int .i64 0], 1⟩, ⟨g22, [.int .i64 0, .int .i64 5], ng22⟩, ⟨g21, [.int .i64 5], 1⟩, ⟨b20, [.int .i64 5, .int .i64 0], 2⟩, ⟨N19, [.int .i64 1, .int .i64 5, .int .i64 0, .int .i64 0, .int .i64 0, .int .i64 0, .int .i64 0], 7⟩, ⟨b14, [.int .i64 0, .int .i64 0], 2⟩, ⟨b13, [.int .i64 1, .int .i64 5, .int .i64 0, .int .i64 0, .int .i64 0, .int .i64 0, .int .i64 0], 7⟩, ⟨b12, [.int .i64 0, .int .i64 0], 2⟩] : List Own) := by
      intro g24 ng24 g23 g22 ng22 g21
      exact hqf 11 [2, 3, 8, 9, 10, 20, 21, 22] _ _ _ [(2, .int .i64 1), (3, .int .i64 1), (8, .pointer (some ⟨b14, 0, none⟩)), (9, .slice (some ⟨g22, 0, none⟩) 2 (ng22 / 1)), (10, .slice (some ⟨g24, 0, none⟩) 2 (ng24 / 1)), (20, .slice (some ⟨N19, 1, none⟩) 1 3), (21, .int .i64 1), (22, .int .i64 0)] (by kernel_rfl) (by kernel_rfl) (hg_fff g24 ng24 g23 g22 ng22 g21)
    have hg_3ff : ∀ (g24 : Nat) (ng24 : Nat) (g23 : Nat) (g22 : Nat) (ng22 : Nat) (g21 : Nat), G [true, true, true, true, true, true, true, true, true, true, false, false] [(2, .int .i64 1), (3, .int .i64 1), (8, .pointer (some ⟨b14, 0, none⟩)), (9, .slice (some ⟨g15, 0, none⟩) 1 1), (10, .slice (some ⟨g16, 0, none⟩) 1 1), (20, .slice (some ⟨N19, 1, none⟩) 1 3), (21, .int .i64 1), (22, .int .i64 0), (30, .slice (some ⟨g22, 0, none⟩) 2 (ng22 / 1)), (35, .slice (some ⟨g24, 0, none⟩) 2 (ng24 / 1))] ([⟨g24, [.int .i64 0, .int .i64 0], ng24⟩, ⟨g23, [.int .i64 0], 1⟩, ⟨g22, [.int .i64 0, .int .i64 5], ng22⟩, ⟨g21, [.int .i64 5], 1⟩, ⟨b20, [.int .i64 5, .int .i64 0], 2⟩, ⟨N19, [.int .i64 1, .int .i64 5, .int .i64 0, .int .i64 0, .int .i64 0, .int .i64 0, .int .i64 0], 7⟩, ⟨b14, [.int .i64 0, .int .i64 0], 2⟩, ⟨b13, [.int .i64 1, .int .i64 5, .int .i64 0, .int .i64 0, .int .i64 0, .int .i64 0, .int .i64 0], 7⟩, ⟨b12, [.int .i64 0, .int .i64 0], 2⟩] : List Own) := by
      intro g24 ng24 g23 g22 ng22 g21
      exact hqf 10 [2, 3, 8, 9, 10, 20, 21, 22, 35] _ _ _ [(2, .int .i64 1), (3, .int .i64 1), (8, .pointer (some ⟨b14, 0, none⟩)), (9, .slice (some ⟨g22, 0, none⟩) 2 (ng22 / 1)), (10, .slice (some ⟨g16, 0, none⟩) 1 1), (20, .slice (some ⟨N19, 1, none⟩) 1 3), (21, .int .i64 1), (22, .int .i64 0), (35, .slice (some ⟨g24, 0, none⟩) 2 (ng24 / 1))] (by kernel_rfl) (by kernel_rfl) (hg_7ff g24 ng24 g23 g22 ng22 g21)
    have hg_1ff : ∀ (g23 : Nat) (g22 : Nat) (ng22 : Nat) (g21 : Nat), G [true, true, true, true, true, true, true, true, true, false, false, false] [(2, .int .i64 1), (3, .int .i64 1), (8, .pointer (some ⟨b14, 0, none⟩)), (9, .slice (some ⟨g15, 0, none⟩) 1 1), (10, .slice (some ⟨g16, 0, none⟩) 1 1), (20, .slice (some ⟨N19, 1, none⟩) 1 3), (21, .int .i64 1), (22, .int .i64 0), (30, .slice (some ⟨g22, 0, none⟩) 2 (ng22 / 1)), (31, .slice (some ⟨g16, 0, none⟩) 1 1), (34, .slice (some ⟨g23, 0, none⟩) 1 1)] ([⟨g23, [.int .i64 0], 1⟩, ⟨g22, [.int .i64 0, .int .i64 5], ng22⟩, ⟨g21, [.int .i64 5], 1⟩, ⟨b20, [.int .i64 5, .int .i64 0], 2⟩, ⟨N19, [.int .i64 1, .int .i64 5, .int .i64 0, .int .i64 0, .int .i64 0, .int .i64 0, .int .i64 0], 7⟩, ⟨g16, [.int .i64 0], 1⟩, ⟨b14, [.int .i64 0, .int .i64 0], 2⟩, ⟨b13, [.int .i64 1, .int .i64 5, .int .i64 0, .int .i64 0, .int .i64 0, .int .i64 0, .int .i64 0], 7⟩, ⟨b12, [.int .i64 0, .int .i64 0], 2⟩] : List Own) := by
      intro g23 g22 ng22 g21
      refine hstep [9] _ _ _ (by kernel_rfl) (List.cons_ne_nil _ _) ⟨?_, trivial⟩
      · show T _ _ _ _ _ _ _ _
        refine t_app1 (cs := [.int .i64 0]) (M := 1) (F := ([⟨g23, [.int .i64 0], 1⟩, ⟨g22, [.int .i64 0, .int .i64 5], ng22⟩, ⟨g21, [.int .i64 5], 1⟩, ⟨b20, [.int .i64 5, .int .i64 0], 2⟩, ⟨N19, [.int .i64 1, .int .i64 5, .int .i64 0, .int .i64 0, .int .i64 0, .int .i64 0, .int .i64 0], 7⟩, ⟨b14, [.int .i64 0, .int .i64 0], 2⟩, ⟨b13, [.int .i64 1, .int .i64 5, .int .i64 0, .int .i64 0, .int .i64 0, .int .i64 0, .int .i64 0], 7⟩, ⟨b12, [.int .i64 0, .int .i64 0], 2⟩] : List Own)) (news := [.int .i64 0]) rfl rfl rfl rfl (sel_perm (is := [5]) (by kernel_rfl)) (.at 0 rfl rfl) (by kernel_rfl) rfl rfl (by decide) (by decide) rfl fun g24 ng24 => ?_
        refine t_keep [2, 3, 8, 9, 10, 20, 21, 22, 30, 35] (σ' := [(2, .int .i64 1), (3, .int .i64 1), (8, .pointer (some ⟨b14, 0, none⟩)), (9, .slice (some ⟨g15, 0, none⟩) 1 1), (10, .slice (some ⟨g16, 0, none⟩) 1 1), (20, .slice (some ⟨N19, 1, none⟩) 1 3), (21, .int .i64 1), (22, .int .i64 0), (30, .slice (some ⟨g22, 0, none⟩) 2 (ng22 / 1)), (35, .slice (some ⟨g24, 0, none⟩) 2 (ng24 / 1))]) (by kernel_rfl) ?_
        refine t_end ?_
        exact ⟨hg_3ff g24 ng24 g23 g22 ng22 g21, rfl⟩
    have hg_ff : ∀ (g22 : Nat) (ng22 : Nat) (g21 : Nat), G [true, true, true, true, true, true, true, true, false, false, false, false] [(2, .int .i64 1), (3, .int .i64 1), (8, .pointer (some ⟨b14, 0, none⟩)), (9, .slice (some ⟨g15, 0, none⟩) 1 1), (10, .slice (some ⟨g16, 0, none⟩) 1 1), (20, .slice (some ⟨N19, 1, none⟩) 1 3), (21, .int .i64 1), (22, .int .i64 0), (30, .slice (some ⟨g22, 0, none⟩) 2 (ng22 / 1)), (31, .slice (some ⟨g16, 0, none⟩) 1 1), (33, .int .i64 0)] ([⟨g22, [.int .i64 0, .int .i64 5], ng22⟩, ⟨g21, [.int .i64 5], 1⟩, ⟨b20, [.int .i64 5, .int .i64 0], 2⟩, ⟨N19, [.int .i64 1, .int .i64 5, .int .i64 0, .int .i64 0, .int .i64 0, .int .i64 0, .int .i64 0], 7⟩, ⟨g16, [.int .i64 0], 1⟩, ⟨b14, [.int .i64 0, .int .i64 0], 2⟩, ⟨b13, [.int .i64 1, .int .i64 5, .int .i64 0, .int .i64 0, .int .i64 0, .int .i64 0, .int .i64 0], 7⟩, ⟨b12, [.int .i64 0, .int .i64 0], 2⟩] : List Own) := by
      intro g22 ng22 g21
      refine hstep [8] _ _ _ (by kernel_rfl) (List.cons_ne_nil _ _) ⟨?_, trivial⟩
      · show T _ _ _ _ _ _ _ _
        refine t_a (.bsl rfl rfl rfl rfl) fun g23 fg23 sg23 => ?_
        refine t_keep [2, 3, 8, 9, 10, 20, 21, 22, 30, 31, 34] (σ' := [(2, .int .i64 1), (3, .int .i64 1), (8, .pointer (some ⟨b14, 0, none⟩)), (9, .slice (some ⟨g15, 0, none⟩) 1 1), (10, .slice (some ⟨g16, 0, none⟩) 1 1), (20, .slice (some ⟨N19, 1, none⟩) 1 3), (21, .int .i64 1), (22, .int .i64 0), (30, .slice (some ⟨g22, 0, none⟩) 2 (ng22 / 1)), (31, .slice (some ⟨g16, 0, none⟩) 1 1), (34, .slice (some ⟨g23, 0, none⟩) 1 1)]) (by kernel_rfl) ?_
        refine t_end ?_
        exact ⟨hg_1ff g23 g22 ng22 g21, rfl⟩
    have hg_1ef : ∀ (g23 : Nat) (g21 : Nat), G [true, true, true, true, false, true, true, true, true, false, false, false] [(2, .int .i64 1), (3, .int .i64 1), (8, .pointer (some ⟨b14, 0, none⟩)), (9, .slice (some ⟨g15, 0, none⟩) 1 1), (10, .slice (some ⟨g16, 0, none⟩) 1 1), (20, .slice (some ⟨N19, 1, none⟩) 1 3), (21, .int .i64 1), (22, .int .i64 0), (26, .slice (some ⟨g15, 0, none⟩) 1 1), (29, .slice (some ⟨g21, 0, none⟩) 1 1), (31, .slice (some ⟨g16, 0, none⟩) 1 1), (34, .slice (some ⟨g23, 0, none⟩) 1 1)] ([⟨g23, [.int .i64 0], 1⟩, ⟨g21, [.int .i64 5], 1⟩, ⟨b20, [.int .i64 5, .int .i64 0], 2⟩, ⟨N19, [.int .i64 1, .int .i64 5, .int .i64 0, .int .i64 0, .int .i64 0, .int .i64 0, .int .i64 0], 7⟩, ⟨g16, [.int .i64 0], 1⟩, ⟨g15, [.int .i64 0], 1⟩, ⟨b14, [.int .i64 0, .int .i64 0], 2⟩, ⟨b13, [.int .i64 1, .int .i64 5, .int .i64 0, .int .i64 0, .int .i64 0, .int .i64 0, .int .i64 0], 7⟩, ⟨b12, [.int .i64 0, .int .i64 0], 2⟩] : List Own) := by
      intro g23 g21
      refine hstep [4] _ _ _ (by kernel_rfl) (List.cons_ne_nil _ _) ⟨?_, trivial⟩
      · show T _ _ _ _ _ _ _ _
        refine t_app1 (cs := [.int .i64 0]) (M := 1) (F := ([⟨g23, [.int .i64 0], 1⟩, ⟨g21, [.int .i64 5], 1⟩, ⟨b20, [.int .i64 5, .int .i64 0], 2⟩, ⟨N19, [.int .i64 1, .int .i64 5, .int .i64 0, .int .i64 0, .int .i64 0, .int .i64 0, .int .i64 0], 7⟩, ⟨g16, [.int .i64 0], 1⟩, ⟨b14, [.int .i64 0, .int .i64 0], 2⟩, ⟨b13, [.int .i64 1, .int .i64 5, .int .i64 0, .int .i64 0, .int .i64 0, .int .i64 0, .int .i64 0], 7⟩, ⟨b12, [.int .i64 0, .int .i64 0], 2⟩] : List Own)) (news := [.int .i64 5]) rfl rfl rfl rfl (sel_perm (is := [5]) (by kernel_rfl)) (.at 1 rfl rfl) (by kernel_rfl) rfl rfl (by decide) (by decide) rfl fun g22 ng22 => ?_
        refine t_keep [2, 3, 8, 9, 10, 20, 21, 22, 30, 31, 34] (σ' := [(2, .int .i64 1), (3, .int .i64 1), (8, .pointer (some ⟨b14, 0, none⟩)), (9, .slice (some ⟨g15, 0, none⟩) 1 1), (10, .slice (some ⟨g16, 0, none⟩) 1 1), (20, .slice (some ⟨N19, 1, none⟩) 1 3), (21, .int .i64 1), (22, .int .i64 0), (30, .slice (some ⟨g22, 0, none⟩) 2 (ng22 / 1)), (31, .slice (some ⟨g16, 0, none⟩) 1 1), (34, .slice (some ⟨g23, 0, none⟩) 1 1)]) (by kernel_rfl) ?_
        refine t_vs (H' := ([⟨g23, [.int .i64 0], 1⟩, ⟨g22, [.int .i64 0, .int .i64 5], ng22⟩, ⟨g21, [.int .i64 5], 1⟩, ⟨b20, [.int .i64 5, .int .i64 0], 2⟩, ⟨N19, [.int .i64 1, .int .i64 5, .int .i64 0, .int .i64 0, .int .i64 0, .int .i64 0, .int .i64 0], 7⟩, ⟨g16, [.int .i64 0], 1⟩, ⟨b14, [.int .i64 0, .int .i64 0], 2⟩, ⟨b13, [.int .i64 1, .int .i64 5, .int .i64 0, .int .i64 0, .int .i64 0, .int .i64 0, .int .i64 0], 7⟩, ⟨b12, [.int .i64 0, .int .i64 0], 2⟩] : List Own)) (S' := S) (VS.sel [1, 0, 0, 0, 0, 0, 0, 0, 0] (by kernel_rfl)) ?_
        refine t_end ?_
        exact ⟨hg_1ff g23 g22 ng22 g21, rfl⟩
    have hg_1e7 : ∀ (g23 : Nat), G [true, true, true, false, false, true, true, true, true, false, false, false] [(2, .int .i64 1), (3, .int .i64 1), (8, .pointer (some ⟨b14, 0, none⟩)), (9, .slice (some ⟨g15, 0, none⟩) 1 1), (10, .slice (some ⟨g16, 0, none⟩) 1 1), (20, .slice (some ⟨N19, 1, none⟩) 1 3), (21, .int .i64 1), (22, .int .i64 0), (26, .slice (some ⟨g15, 0, none⟩) 1 1), (28, .int .i64 5), (31, .slice (some ⟨g16, 0, none⟩) 1 1), (34, .slice (some ⟨g23, 0, none⟩) 1 1)] ([⟨g23, [.int .i64 0], 1⟩, ⟨b20, [.int .i64 5, .int .i64 0], 2⟩, ⟨N19, [.int .i64 1, .int .i64 5, .int .i64 0, .int .i64 0, .int .i64 0, .int .i64 0, .int .i64 0], 7⟩, ⟨g16, [.int .i64 0], 1⟩, ⟨g15, [.int .i64 0], 1⟩, ⟨b14, [.int .i64 0, .int .i64 0], 2⟩, ⟨b13, [.int .i64 1, .int .i64 5, .int .i64 0, .int .i64 0, .int .i64 0, .int .i64 0, .int .i64 0], 7⟩, ⟨b12, [.int .i64 0, .int .i64 0], 2⟩] : List Own) := by
      intro g23
      refine hstep [3] _ _ _ (by kernel_rfl) (List.cons_ne_nil _ _) ⟨?_, trivial⟩
      · show T _ _ _ _ _ _ _ _
        refine t_a (.bsl rfl rfl rfl rfl) fun g21 fg21 sg21 => ?_
        refine t_keep [2, 3, 8, 9, 10, 20, 21, 22, 26, 29, 31, 34] (σ' := [(2, .int .i64 1), (3, .int .i64 1), (8, .pointer (some ⟨b14, 0, none⟩)), (9, .slice (some ⟨g15, 0, none⟩) 1 1), (10, .slice (some ⟨g16, 0, none⟩) 1 1), (20, .slice (some ⟨N19, 1, none⟩) 1 3), (21, .int .i64 1), (22, .int .i64 0), (26, .slice (some ⟨g15, 0, none⟩) 1 1), (29, .slice (some ⟨g21, 0, none⟩) 1 1), (31, .slice (some ⟨g16, 0, none⟩) 1 1), (34, .slice (some ⟨g23, 0, none⟩) 1 1)]) (by kernel_rfl) ?_
        refine t_vs (H' := ([⟨g23, [.int .i64 0], 1⟩, ⟨g21, [.int .i64 5], 1⟩, ⟨b20, [.int .i64 5, .int .i64 0], 2⟩, ⟨N19, [.int .i64 1, .int .i64 5, .int .i64 0, .int .i64 0, .int .i64 0, .int .i64 0, .int .i64 0], 7⟩, ⟨g16, [.int .i64 0], 1⟩, ⟨g15, [.int .i64 0], 1⟩, ⟨b14, [.int .i64 0, .int .i64 0], 2⟩, ⟨b13, [.int .i64 1, .int .i64 5, .int .i64 0, .int .i64 0, .int .i64 0, .int .i64 0, .int .i64 0], 7⟩, ⟨b12, [.int .i64 0, .int .i64 0], 2⟩] : List Own)) (S' := S) (VS.sel [1, 0, 0, 0, 0, 0, 0, 0, 0] (by kernel_rfl)) ?_
        refine t_end ?_
        exact ⟨hg_1ef g23 g21, rfl⟩
    have hg_ef : ∀ (g21 : Nat), G [true, true, true, true, false, true, true, true, false, false, false, false] [(2, .int .i64 1), (3, .int .i64 1), (8, .pointer (some ⟨b14, 0, none⟩)), (9, .slice (some ⟨g15, 0, none⟩) 1 1), (10, .slice (some ⟨g16, 0, none⟩) 1 1), (20, .slice (some ⟨N19, 1, none⟩) 1 3), (21, .int .i64 1), (22, .int .i64 0), (26, .slice (some ⟨g15, 0, none⟩) 1 1), (29, .slice (some ⟨g21, 0, none⟩) 1 1), (31, .slice (some ⟨g16, 0, none⟩) 1 1), (33, .int .i64 0)] ([⟨g21, [.int .i64 5], 1⟩, ⟨b20, [.int .i64 5, .int .i64 0], 2⟩, ⟨N19, [.int .i64 1, .int .i64 5, .int .i64 0, .int .i64 0, .int .i64 0, .int .i64 0, .int .i64 0], 7⟩, ⟨g16, [.int .i64 0], 1⟩, ⟨g15, [.int .i64 0], 1⟩, ⟨b14, [.int .i64 0, .int .i64 0], 2⟩, ⟨b13, [.int .i64 1, .int .i64 5, .int .i64 0, .int .i64 0, .int .i64 0, .int .i64 0, .int .i64 0], 7⟩, ⟨b12, [.int .i64 0, .int .i64 0], 2⟩] : List Own) := by
      intro g21
      refine hstep [4, 8] _ _ _ (by kernel_rfl) (List.cons_ne_nil _ _) ⟨?_, ?_, trivial⟩
      · show T _ _ _ _ _ _ _ _
        refine t_app1 (cs := [.int .i64 0]) (M := 1) (F := ([⟨g21, [.int .i64 5], 1⟩, ⟨b20, [.int .i64 5, .int .i64 0], 2⟩, ⟨N19, [.int .i64 1, .int .i64 5, .int .i64 0, .int .i64 0, .int .i64 0, .int .i64 0, .int .i64 0], 7⟩, ⟨g16, [.int .i64 0], 1⟩, ⟨b14, [.int .i64 0, .int .i64 0], 2⟩, ⟨b13, [.int .i64 1, .int .i64 5, .int .i64 0, .int .i64 0, .int .i64 0, .int .i64 0, .int .i64 0], 7⟩, ⟨b12, [.int .i64 0, .int .i64 0], 2⟩] : List Own)) (news := [.int .i64 5]) rfl rfl rfl rfl (sel_perm (is := [4]) (by kernel_rfl)) (.at 0 rfl rfl) (by kernel_rfl) rfl rfl (by decide) (by decide) rfl fun g22 ng22 => ?_
        refine t_keep [2, 3, 8, 9, 10, 20, 21, 22, 30, 31, 33] (σ' := [(2, .int .i64 1), (3, .int .i64 1), (8, .pointer (some ⟨b14, 0, none⟩)), (9, .slice (some ⟨g15, 0, none⟩) 1 1), (10, .slice (some ⟨g16, 0, none⟩) 1 1), (20, .slice (some ⟨N19, 1, none⟩) 1 3), (21, .int .i64 1), (22, .int .i64 0), (30, .slice (some ⟨g22, 0, none⟩) 2 (ng22 / 1)), (31, .slice (some ⟨g16, 0, none⟩) 1 1), (33, .int .i64 0)]) (by kernel_rfl) ?_
        refine t_end ?_
        exact ⟨hg_ff g22 ng22 g21, rfl⟩
      · show T _ _ _ _ _ _ _ _
        refine t_a (.bsl rfl rfl rfl rfl) fun g23 fg23 sg23 => ?_
        refine t_keep [2, 3, 8, 9, 10, 20, 21, 22, 26, 29, 31, 34] (σ' := [(2, .int .i64 1), (3, .int .i64 1), (8, .pointer (some ⟨b14, 0, none⟩)), (9, .slice (some ⟨g15, 0, none⟩) 1 1), (10, .slice (some ⟨g16, 0, none⟩) 1 1), (20, .slice (some ⟨N19, 1, none⟩) 1 3), (21, .int .i64 1), (22, .int .i64 0), (26, .slice (some ⟨g15, 0, none⟩) 1 1), (29, .slice (some ⟨g21, 0, none⟩) 1 1), (31, .slice (some ⟨g16, 0, none⟩) 1 1), (34, .slice (some ⟨g23, 0, none⟩) 1 1)]) (by kernel_rfl) ?_
        refine t_end ?_
        exact ⟨hg_1ef g23 g21, rfl⟩
    have hg_7f : ∀ (g22 : Nat) (ng22 : Nat) (g21 : Nat), G [true, true, true, true, true, true, true, false, false, false, false, false] [(2, .int .i64 1), (3, .int .i64 1), (8, .pointer (some ⟨b14, 0, none⟩)), (9, .slice (some ⟨g15, 0, none⟩) 1 1), (10, .slice (some ⟨g16, 0, none⟩) 1 1), (20, .slice (some ⟨N19, 1, none⟩) 1 3), (21, .int .i64 1), (22, .int .i64 0), (30, .slice (some ⟨g22, 0, none⟩) 2 (ng22 / 1)), (31, .slice (some ⟨g16, 0, none⟩) 1 1), (32, .pointer (some ⟨b20, 1, none⟩))] ([⟨g22, [.int .i64 0, .int .i64 5], ng22⟩, ⟨g21, [.int .i64 5], 1⟩, ⟨b20, [.int .i64 5, .int .i64 0], 2⟩, ⟨N19, [.int .i64 1, .int .i64 5, .int .i64 0, .int .i64 0, .int .i64 0, .int .i64 0, .int .i64 0], 7⟩, ⟨g16, [.int .i64 0], 1⟩, ⟨b14, [.int .i64 0, .int .i64 0], 2⟩, ⟨b13, [.int .i64 1, .int .i64 5, .int .i64 0, .int .i64 0, .int .i64 0, .int .i64 0, .int .i64 0], 7⟩, ⟨b12, [.int .i64 0, .int .i64 0], 2⟩] : List Own) := by
      intro g22 ng22 g21
      refine hstep [7] _ _ _ (by kernel_rfl) (List.cons_ne_nil _ _) ⟨?_, trivial⟩
      · show T _ _ _ _ _ _ _ _
        refine t_v (.ld1 rfl rfl rfl (.at 2 rfl rfl)) ?_
        refine t_keep [2, 3, 8, 9, 10, 20, 21, 22, 30, 31, 33] (σ' := [(2, .int .i64 1), (3, .int .i64 1), (8, .pointer (some ⟨b14, 0, none⟩)), (9, .slice (some ⟨g15, 0, none⟩) 1 1), (10, .slice (some ⟨g16, 0, none⟩) 1 1), (20, .slice (some ⟨N19, 1, none⟩) 1 3), (21, .int .i64 1), (22, .int .i64 0), (30, .slice (some ⟨g22, 0, none⟩) 2 (ng22 / 1)), (31, .slice (some ⟨g16, 0, none⟩) 1 1), (33, .int .i64 0)]) (by kernel_rfl) ?_
        refine t_end ?_
        exact ⟨hg_ff g22 ng22 g21, rfl⟩
    have hg_1e3 : ∀ (g23 : Nat), G [true, true, false, false, false, true, true, true, true, false, false, false] [(2, .int .i64 1), (3, .int .i64 1), (8, .pointer (some ⟨b14, 0, none⟩)), (9, .slice (some ⟨g15, 0, none⟩) 1 1), (10, .slice (some ⟨g16, 0, none⟩) 1 1), (20, .slice (some ⟨N19, 1, none⟩) 1 3), (21, .int .i64 1), (22, .int .i64 0), (26, .slice (some ⟨g15, 0, none⟩) 1 1), (27, .pointer (some ⟨b20, 0, none⟩)), (31, .slice (some ⟨g16, 0, none⟩) 1 1), (34, .slice (some ⟨g23, 0, none⟩) 1 1)] ([⟨g23, [.int .i64 0], 1⟩, ⟨b20, [.int .i64 5, .int .i64 0], 2⟩, ⟨N19, [.int .i64 1, .int .i64 5, .int .i64 0, .int .i64 0, .int .i64 0, .int .i64 0, .int .i64 0], 7⟩, ⟨g16, [.int .i64 0], 1⟩, ⟨g15, [.int .i64 0], 1⟩, ⟨b14, [.int .i64 0, .int .i64 0], 2⟩, ⟨b13, [.int .i64 1, .int .i64 5, .int .i64 0, .int .i64 0, .int .i64 0, .int .i64 0, .int .i64 0], 7⟩, ⟨b12, [.int .i64 0, .int .i64 0], 2⟩] : List Own) := by
      intro g23
      refine hstep [2] _ _ _ (by kernel_rfl) (List.cons_ne_nil _ _) ⟨?_, trivial⟩
      · show T _ _ _ _ _ _ _ _
        refine t_v (.ld1 rfl rfl rfl (.at 1 rfl rfl)) ?_
        refine t_keep [2, 3, 8, 9, 10, 20, 21, 22, 26, 28, 31, 34] (σ' := [(2, .int .i64 1), (3, .int .i64 1), (8, .pointer (some ⟨b14, 0, none⟩)), (9, .slice (some ⟨g15, 0, none⟩) 1 1), (10, .slice (some ⟨g16, 0, none⟩) 1 1), (20, .slice (some ⟨N19, 1, none⟩) 1 3), (21, .int .i64 1), (22, .int .i64 0), (26, .slice (some ⟨g15, 0, none⟩) 1 1), (28, .int .i64 5), (31, .slice (some ⟨g16, 0, none⟩) 1 1), (34, .slice (some ⟨g23, 0, none⟩) 1 1)]) (by kernel_rfl) ?_
        refine t_end ?_
        exact ⟨hg_1e7 g23, rfl⟩
    have hg_e7 : G [true, true, true, false, false, true, true, true, false, false, false, false] [(2, .int .i64 1), (3, .int .i64 1), (8, .pointer (some ⟨b14, 0, none⟩)), (9, .slice (some ⟨g15, 0, none⟩) 1 1), (10, .slice (some ⟨g16, 0, none⟩) 1 1), (20, .slice (some ⟨N19, 1, none⟩) 1 3), (21, .int .i64 1), (22, .int .i64 0), (26, .slice (some ⟨g15, 0, none⟩) 1 1), (28, .int .i64 5), (31, .slice (some ⟨g16, 0, none⟩) 1 1), (33, .int .i64 0)] ([⟨b20, [.int .i64 5, .int .i64 0], 2⟩, ⟨N19, [.int .i64 1, .int .i64 5, .int .i64 0, .int .i64 0, .int .i64 0, .int .i64 0, .int .i64 0], 7⟩, ⟨g16, [.int .i64 0], 1⟩, ⟨g15, [.int .i64 0], 1⟩, ⟨b14, [.int .i64 0, .int .i64 0], 2⟩, ⟨b13, [.int .i64 1, .int .i64 5, .int .i64 0, .int .i64 0, .int .i64 0, .int .i64 0, .int .i64 0], 7⟩, ⟨b12, [.int .i64 0, .int .i64 0], 2⟩] : List Own) := by
      refine hstep [3, 8] _ _ _ (by kernel_rfl) (List.cons_ne_nil _ _) ⟨?_, ?_, trivial⟩
      · show T _ _ _ _ _ _ _ _
        refine t_a (.bsl rfl rfl rfl rfl) fun g21 fg21 sg21 => ?_
        refine t_keep [2, 3, 8, 9, 10, 20, 21, 22, 26, 29, 31, 33] (σ' := [(2, .int .i64 1), (3, .int .i64 1), (8, .pointer (some ⟨b14, 0, none⟩)), (9, .slice (some ⟨g15, 0, none⟩) 1 1), (10, .slice (some ⟨g16, 0, none⟩) 1 1), (20, .slice (some ⟨N19, 1, none⟩) 1 3), (21, .int .i64 1), (22, .int .i64 0), (26, .slice (some ⟨g15, 0, none⟩) 1 1), (29, .slice (some ⟨g21, 0, none⟩) 1 1), (31, .slice (some ⟨g16, 0, none⟩) 1 1), (33, .int .i64 0)]) (by kernel_rfl) ?_
        refine t_end ?_
        exact ⟨hg_ef g21, rfl⟩
      · show T _ _ _ _ _ _ _ _
        refine t_a (.bsl rfl rfl rfl rfl) fun g23 fg23 sg23 => ?_
        refine t_keep [2, 3, 8, 9, 10, 20, 21, 22, 26, 28, 31, 34] (σ' := [(2, .int .i64 1), (3, .int .i64 1), (8, .pointer (some ⟨b14, 0, none⟩)), (9, .slice (some ⟨g15, 0, none⟩) 1 1), (10, .slice (some ⟨g16, 0, none⟩) 1 1), (20, .slice (some ⟨N19, 1, none⟩) 1 3), (21, .int .i64 1), (22, .int .i64 0), (26, .slice (some ⟨g15, 0, none⟩) 1 1), (28, .int .i64 5), (31, .slice (some ⟨g16, 0, none⟩) 1 1), (34, .slice (some ⟨g23, 0, none⟩) 1 1)]) (by kernel_rfl) ?_
        refine t_end ?_
        exact ⟨hg_1e7 g23, rfl⟩
    have hg_6f : ∀ (g21 : Nat), G [true, true, true, true, false, true, true, false, false, false, false, false] [(2, .int .i64 1), (3, .int .i64 1), (8, .pointer (some ⟨b14, 0, none⟩)), (9, .slice (some ⟨g15, 0, none⟩) 1 1), (10, .slice (some ⟨g16, 0, none⟩) 1 1), (20, .slice (some ⟨N19, 1, none⟩) 1 3), (21, .int .i64 1), (22, .int .i64 0), (26, .slice (some ⟨g15, 0, none⟩) 1 1), (29, .slice (some ⟨g21, 0, none⟩) 1 1), (31, .slice (some ⟨g16, 0, none⟩) 1 1), (32, .pointer (some ⟨b20, 1, none⟩))] ([⟨g21, [.int .i64 5], 1⟩, ⟨b20, [.int .i64 5, .int .i64 0], 2⟩, ⟨N19, [.int .i64 1, .int .i64 5, .int .i64 0, .int .i64 0, .int .i64 0, .int .i64 0, .int .i64 0], 7⟩, ⟨g16, [.int .i64 0], 1⟩, ⟨g15, [.int .i64 0], 1⟩, ⟨b14, [.int .i64 0, .int .i64 0], 2⟩, ⟨b13, [.int .i64 1, .int .i64 5, .int .i64 0, .int .i64 0, .int .i64 0, .int .i64 0, .int .i64 0], 7⟩, ⟨b12, [.int .i64 0, .int .i64 0], 2⟩] : List Own) := by
      intro g21
      refine hstep [4, 7] _ _ _ (by kernel_rfl) (List.cons_ne_nil _ _) ⟨?_, ?_, trivial⟩
      · show T _ _ _ _ _ _ _ _
        refine t_app1 (cs := [.int .i64 0]) (M := 1) (F := ([⟨g21, [.int .i64 5], 1⟩, ⟨b20, [.int .i64 5, .int .i64 0], 2⟩, ⟨N19, [.int .i64 1, .int .i64 5, .int .i64 0, .int .i64 0, .int .i64 0, .int .i64 0, .int .i64 0], 7⟩, ⟨g16, [.int .i64 0], 1⟩, ⟨b14, [.int .i64 0, .int .i64 0], 2⟩, ⟨b13, [.int .i64 1, .int .i64 5, .int .i64 0, .int .i64 0, .int .i64 0, .int .i64 0, .int .i64 0], 7⟩, ⟨b12, [.int .i64 0, .int .i64 0], 2⟩] : List Own)) (news := [.int .i64 5]) rfl rfl rfl rfl (sel_perm (is := [4]) (by kernel_rfl)) (.at 0 rfl rfl) (by kernel_rfl) rfl rfl (by decide) (by decide) rfl fun g22 ng22 => ?_
        refine t_keep [2, 3, 8, 9, 10, 20, 21, 22, 30, 31, 32] (σ' := [(2, .int .i64 1), (3, .int .i64 1), (8, .pointer (some ⟨b14, 0, none⟩)), (9, .slice (some ⟨g15, 0, none⟩) 1 1), (10, .slice (some ⟨g16, 0, none⟩) 1 1), (20, .slice (some ⟨N19, 1, none⟩) 1 3), (21, .int .i64 1), (22, .int .i64 0), (30, .slice (some ⟨g22, 0, none⟩) 2 (ng22 / 1)), (31, .slice (some ⟨g16, 0, none⟩) 1 1), (32, .pointer (some ⟨b20, 1, none⟩))]) (by kernel_rfl) ?_
        refine t_end ?_
        exact ⟨hg_7f g22 ng22 g21, rfl⟩
      · show T _ _ _ _ _ _ _ _
        refine t_v (.ld1 rfl rfl rfl (.at 1 rfl rfl)) ?_
        refine t_keep [2, 3, 8, 9, 10, 20, 21, 22, 26, 29, 31, 33] (σ' := [(2, .int .i64 1), (3, .int .i64 1), (8, .pointer (some ⟨b14, 0, none⟩)), (9, .slice (some ⟨g15, 0, none⟩) 1 1), (10, .slice (some ⟨g16, 0, none⟩) 1 1), (20, .slice (some ⟨N19, 1, none⟩) 1 3), (21, .int .i64 1), (22, .int .i64 0), (26, .slice (some ⟨g15, 0, none⟩) 1 1), (29, .slice (some ⟨g21, 0, none⟩) 1 1), (31, .slice (some ⟨g16, 0, none⟩) 1 1), (33, .int .i64 0)]) (by kernel_rfl) ?_
        refine t_end ?_
        exact ⟨hg_ef g21, rfl⟩
    have hg_e3 : G [true, true, false, false, false, true, true, true, false, false, false, false] [(2, .int .i64 1), (3, .int .i64 1), (8, .pointer (some ⟨b14, 0, none⟩)), (9, .slice (some ⟨g15, 0, none⟩) 1 1), (10, .slice (some ⟨g16, 0, none⟩) 1 1), (20, .slice (some ⟨N19, 1, none⟩) 1 3), (21, .int .i64 1), (22, .int .i64 0), (26, .slice (some ⟨g15, 0, none⟩) 1 1), (27, .pointer (some ⟨b20, 0, none⟩)), (31, .slice (some ⟨g16, 0, none⟩) 1 1), (33, .int .i64 0)] ([⟨b20, [.int .i64 5, .int .i64 0], 2⟩, ⟨N19, [.int .i64 1, .int .i64 5, .int .i64 0, .int .i64 0, .int .i64 0, .int .i64 0, .int .i64 0], 7⟩, ⟨g16, [.int .i64 0], 1⟩, ⟨g15, [.int .i64 0], 1⟩, ⟨b14, [.int .i64 0, .int .i64 0], 2⟩, ⟨b13, [.int .i64 1, .int .i64 5, .int .i64 0, .int .i64 0, .int .i64 0, .int .i64 0, .int .i64 0], 7⟩, ⟨b12, [.int .i64 0, .int .i64 0], 2⟩] : List Own) := by
      refine hstep [2, 8] _ _ _ (by kernel_rfl) (List.cons_ne_nil _ _) ⟨?_, ?_, trivial⟩
      · show T _ _ _ _ _ _ _ _
        refine t_v (.ld1 rfl rfl rfl (.at 0 rfl rfl)) ?_
        refine t_keep [2, 3, 8, 9, 10, 20, 21, 22, 26, 28, 31, 33] (σ' := [(2, .int .i64 1), (3, .int .i64 1), (8, .pointer (some ⟨b14, 0, none⟩)), (9, .slice (some ⟨g15, 0, none⟩) 1 1), (10, .slice (some ⟨g16, 0, none⟩) 1 1), (20, .slice (some ⟨N19, 1, none⟩) 1 3), (21, .int .i64 1), (22, .int .i64 0), (26, .slice (some ⟨g15, 0, none⟩) 1 1), (28, .int .i64 5), (31, .slice (some ⟨g16, 0, none⟩) 1 1), (33, .int .i64 0)]) (by kernel_rfl) ?_
        refine t_end ?_
        exact ⟨hg_e7, rfl⟩
      · show T _ _ _ _ _ _ _ _
        refine t_a (.bsl rfl rfl rfl rfl) fun g23 fg23 sg23 => ?_
        refine t_keep [2, 3, 8, 9, 10, 20, 21, 22, 26, 27, 31, 34] (σ' := [(2, .int .i64 1), (3, .int .i64 1), (8, .pointer (some ⟨b14, 0, none⟩)), (9, .slice (some ⟨g15, 0, none⟩) 1 1), (10, .slice (some ⟨g16, 0, none⟩) 1 1), (20, .slice (some ⟨N19, 1, none⟩) 1 3), (21, .int .i64 1), (22, .int .i64 0), (26, .slice (some ⟨g15, 0, none⟩) 1 1), (27, .pointer (some ⟨b20, 0, none⟩)), (31, .slice (some ⟨g16, 0, none⟩) 1 1), (34, .slice (some ⟨g23, 0, none⟩) 1 1)]) (by kernel_rfl) ?_
        refine t_end ?_
        exact ⟨hg_1e3 g23, rfl⟩
    have hg_67 : G [true, true, true, false, false, true, true, false, false, false, false, false] [(2, .int .i64 1), (3, .int .i64 1), (8, .pointer (some ⟨b14, 0, none⟩)), (9, .slice (some ⟨g15, 0, none⟩) 1 1), (10, .slice (some ⟨g16, 0, none⟩) 1 1), (20, .slice (some ⟨N19, 1, none⟩) 1 3), (21, .int .i64 1), (22, .int .i64 0), (26, .slice (some ⟨g15, 0, none⟩) 1 1), (28, .int .i64 5), (31, .slice (some ⟨g16, 0, none⟩) 1 1), (32, .pointer (some ⟨b20, 1, none⟩))] ([⟨b20, [.int .i64 5, .int .i64 0], 2⟩, ⟨N19, [.int .i64 1, .int .i64 5, .int .i64 0, .int .i64 0, .int .i64 0, .int .i64 0, .int .i64 0], 7⟩, ⟨g16, [.int .i64 0], 1⟩, ⟨g15, [.int .i64 0], 1⟩, ⟨b14, [.int .i64 0, .int .i64 0], 2⟩, ⟨b13, [.int .i64 1, .int .i64 5, .int .i64 0, .int .i64 0, .int .i64 0, .int .i64 0, .int .i64 0], 7⟩, ⟨b12, [.int .i64 0, .int .i64 0], 2⟩] : List Own) := by
      refine hstep [3, 7] _ _ _ (by kernel_rfl) (List.cons_ne_nil _ _) ⟨?_, ?_, trivial⟩
      · show T _ _ _ _ _ _ _ _
        refine t_a (.bsl rfl rfl rfl rfl) fun g21 fg21 sg21 => ?_
        refine t_keep [2, 3, 8, 9, 10, 20, 21, 22, 26, 29, 31, 32] (σ' := [(2, .int .i64 1), (3, .int .i64 1), (8, .pointer (some ⟨b14, 0, none⟩)), (9, .slice (some ⟨g15, 0, none⟩) 1 1), (10, .slice (some ⟨g16, 0, none⟩) 1 1), (20, .slice (some ⟨N19, 1, none⟩) 1 3), (21, .int .i64 1), (22, .int .i64 0), (26, .slice (some ⟨g15, 0, none⟩) 1 1), (29, .slice (some ⟨g21, 0, none⟩) 1 1), (31, .slice (some ⟨g16, 0, none⟩) 1 1), (32, .pointer (some ⟨b20, 1, none⟩))]) (by kernel_rfl) ?_
        refine t_end ?_
        exact ⟨hg_6f g21, rfl⟩
      · show T _ _ _ _ _ _ _ _
        refine t_v (.ld1 rfl rfl rfl (.at 0 rfl rfl)) ?_
        refine t_keep [2, 3, 8, 9, 10, 20, 21, 22, 26, 28, 31, 33] (σ' := [(2, .int .i64 1), (3, .int .i64 1), (8, .pointer (some ⟨b14, 0, none⟩)), (9, .slice (some ⟨g15, 0, none⟩) 1 1), (10, .slice (some ⟨g16, 0, none⟩) 1 1), (20, .slice (some ⟨N19, 1, none⟩) 1 3), (21, .int .i64 1), (22, .int .i64 0), (26, .slice (some ⟨g15, 0, none⟩) 1 1), (28, .int .i64 5), (31, .slice (some ⟨g16, 0, none⟩) 1 1), (33, .int .i64 0)]) (by kernel_rfl) ?_
        refine t_end ?_
        exact ⟨hg_e7, rfl⟩
    have hg_63 : G [true, true, false, false, false, true, true, false, false, false, false, false] [(2, .int .i64 1), (3, .int .i64 1), (8, .pointer (some ⟨b14, 0, none⟩)), (9, .slice (some ⟨g15, 0, none⟩) 1 1), (10, .slice (some ⟨g16, 0, none⟩) 1 1), (20, .slice (some ⟨N19, 1, none⟩) 1 3), (21, .int .i64 1), (22, .int .i64 0), (26, .slice (some ⟨g15, 0, none⟩) 1 1), (27, .pointer (some ⟨b20, 0, none⟩)), (31, .slice (some ⟨g16, 0, none⟩) 1 1), (32, .pointer (some ⟨b20, 1, none⟩))] ([⟨b20, [.int .i64 5, .int .i64 0], 2⟩, ⟨N19, [.int .i64 1, .int .i64 5, .int .i64 0, .int .i64 0, .int .i64 0, .int .i64 0, .int .i64 0], 7⟩, ⟨g16, [.int .i64 0], 1⟩, ⟨g15, [.int .i64 0], 1⟩, ⟨b14, [.int .i64 0, .int .i64 0], 2⟩, ⟨b13, [.int .i64 1, .int .i64 5, .int .i64 0, .int .i64 0, .int .i64 0, .int .i64 0, .int .i64 0], 7⟩, ⟨b12, [.int .i64 0, .int .i64 0], 2⟩] : List Own) := by
      refine hstep [2, 7] _ _ _ (by kernel_rfl) (List.cons_ne_nil _ _) ⟨?_, ?_, trivial⟩
      · show T _ _ _ _ _ _ _ _
        refine t_v (.ld1 rfl rfl rfl (.at 0 rfl rfl)) ?_
        refine t_keep [2, 3, 8, 9, 10, 20, 21, 22, 26, 28, 31, 32] (σ' := [(2, .int .i64 1), (3, .int .i64 1), (8, .pointer (some ⟨b14, 0, none⟩)), (9, .slice (some ⟨g15, 0, none⟩) 1 1), (10, .slice (some ⟨g16, 0, none⟩) 1 1), (20, .slice (some ⟨N19, 1, none⟩) 1 3), (21, .int .i64 1), (22, .int .i64 0), (26, .slice (some ⟨g15, 0, none⟩) 1 1), (28, .int .i64 5), (31, .slice (some ⟨g16, 0, none⟩) 1 1), (32, .pointer (some ⟨b20, 1, none⟩))]) (by kernel_rfl) ?_
        refine t_end ?_
        exact ⟨hg_67, rfl⟩
      · show T _ _ _ _ _ _ _ _
        refine t_v (.ld1 rfl rfl rfl (.at 0 rfl rfl)) ?_
        refine t_keep [2, 3, 8, 9, 10, 20, 21, 22, 26, 27, 31, 33] (σ' := [(2, .int .i64 1), (3, .int .i64 1), (8, .pointer (some ⟨b14, 0, none⟩)), (9, .slice (some ⟨g15, 0, none⟩) 1 1), (10, .slice (some ⟨g16, 0, none⟩) 1 1), (20, .slice (some ⟨N19, 1, none⟩) 1 3), (21, .int .i64 1), (22, .int .i64 0), (26, .slice (some ⟨g15, 0, none⟩) 1 1), (27, .pointer (some ⟨b20, 0, none⟩)), (31, .slice (some ⟨g16, 0, none⟩) 1 1), (33, .int .i64 0)]) (by kernel_rfl) ?_
        refine t_end ?_
        exact ⟨hg_e3, rfl⟩
    have hg_23 : G [true, true, false, false, false, true, false, false, false, false, false, false] [(2, .int .i64 1), (3, .int .i64 1), (8, .pointer (some ⟨b14, 0, none⟩)), (9, .slice (some ⟨g15, 0, none⟩) 1 1), (10, .slice (some ⟨g16, 0, none⟩) 1 1), (12, .pointer (some ⟨b20, 0, none⟩)), (20, .slice (some ⟨N19, 1, none⟩) 1 3), (21, .int .i64 1), (22, .int .i64 0), (26, .slice (some ⟨g15, 0, none⟩) 1 1), (27, .pointer (some ⟨b20, 0, none⟩)), (31, .slice (some ⟨g16, 0, none⟩) 1 1)] ([⟨b20, [.int .i64 5, .int .i64 0], 2⟩, ⟨N19, [.int .i64 1, .int .i64 5, .int .i64 0, .int .i64 0, .int .i64 0, .int .i64 0, .int .i64 0], 7⟩, ⟨g16, [.int .i64 0], 1⟩, ⟨g15, [.int .i64 0], 1⟩, ⟨b14, [.int .i64 0, .int .i64 0], 2⟩, ⟨b13, [.int .i64 1, .int .i64 5, .int .i64 0, .int .i64 0, .int .i64 0, .int .i64 0, .int .i64 0], 7⟩, ⟨b12, [.int .i64 0, .int .i64 0], 2⟩] : List Own) := by
      exact hqf 6 [2, 3, 8, 9, 10, 20, 21, 22, 26, 27, 31, 32] _ _ _ [(2, .int .i64 1), (3, .int .i64 1), (8, .pointer (some ⟨b14, 0, none⟩)), (9, .slice (some ⟨g15, 0, none⟩) 1 1), (10, .slice (some ⟨g16, 0, none⟩) 1 1), (20, .slice (some ⟨N19, 1, none⟩) 1 3), (21, .int .i64 1), (22, .int .i64 0), (26, .slice (some ⟨g15, 0, none⟩) 1 1), (27, .pointer (some ⟨b20, 0, none⟩)), (31, .slice (some ⟨g16, 0, none⟩) 1 1), (32, .pointer (some ⟨b20, 1, none⟩))] (by kernel_rfl) (by kernel_rfl) hg_63
    have hg_3 : G [true, true, false, false, false, false, false, false, false, false, false, false] [(2, .int .i64 1), (3, .int .i64 1), (8, .pointer (some ⟨b14, 0, none⟩)), (9, .slice (some ⟨g15, 0, none⟩) 1 1), (10, .slice (some ⟨g16, 0, none⟩) 1 1), (12, .pointer (some ⟨b20, 0, none⟩)), (20, .slice (some ⟨N19, 1, none⟩) 1 3), (21, .int .i64 1), (22, .int .i64 0), (26, .slice (some ⟨g15, 0, none⟩) 1 1), (27, .pointer (some ⟨b20, 0, none⟩))] ([⟨b20, [.int .i64 5, .int .i64 0], 2⟩, ⟨N19, [.int .i64 1, .int .i64 5, .int .i64 0, .int .i64 0, .int .i64 0, .int .i64 0, .int .i64 0], 7⟩, ⟨g16, [.int .i64 0], 1⟩, ⟨g15, [.int .i64 0], 1⟩, ⟨b14, [.int .i64 0, .int .i64 0], 2⟩, ⟨b13, [.int .i64 1, .int .i64 5, .int .i64 0, .int .i64 0, .int .i64 0, .int .i64 0, .int .i64 0], 7⟩, ⟨b12, [.int .i64 0, .int .i64 0], 2⟩] : List Own) := by
      exact hqf 5 [2, 3, 8, 9, 10, 12, 20, 21, 22, 26, 27, 31] _ _ _ [(2, .int .i64 1), (3, .int .i64 1), (8, .pointer (some ⟨b14, 0, none⟩)), (9, .slice (some ⟨g15, 0, none⟩) 1 1), (10, .slice (some ⟨g16, 0, none⟩) 1 1), (12, .pointer (some ⟨b20, 0, none⟩)), (20, .slice (some ⟨N19, 1, none⟩) 1 3), (21, .int .i64 1), (22, .int .i64 0), (26, .slice (some ⟨g15, 0, none⟩) 1 1), (27, .pointer (some ⟨b20, 0, none⟩)), (31, .slice (some ⟨g16, 0, none⟩) 1 1)] (by kernel_rfl) (by kernel_rfl) hg_23
    have hg_1 : G [true, false, false, false, false, false, false, false, false, false, false, false] [(2, .int .i64 1), (3, .int .i64 1), (8, .pointer (some ⟨b14, 0, none⟩)), (9, .slice (some ⟨g15, 0, none⟩) 1 1), (10, .slice (some ⟨g16, 0, none⟩) 1 1), (12, .pointer (some ⟨b20, 0, none⟩)), (20, .slice (some ⟨N19, 1, none⟩) 1 3), (21, .int .i64 1), (22, .int .i64 0), (26, .slice (some ⟨g15, 0, none⟩) 1 1)] ([⟨b20, [.int .i64 5, .int .i64 0], 2⟩, ⟨N19, [.int .i64 1, .int .i64 5, .int .i64 0, .int .i64 0, .int .i64 0, .int .i64 0, .int .i64 0], 7⟩, ⟨g16, [.int .i64 0], 1⟩, ⟨g15, [.int .i64 0], 1⟩, ⟨b14, [.int .i64 0, .int .i64 0], 2⟩, ⟨b13, [.int .i64 1, .int .i64 5, .int .i64 0, .int .i64 0, .int .i64 0, .int .i64 0, .int .i64 0], 7⟩, ⟨b12, [.int .i64 0, .int .i64 0], 2⟩] : List Own) := by
      exact hqf 1 [2, 3, 8, 9, 10, 12, 20, 21, 22, 26, 27] _ _ _ [(2, .int .i64 1), (3, .int .i64 1), (8, .pointer (some ⟨b14, 0, none⟩)), (9, .slice (some ⟨g15, 0, none⟩) 1 1), (10, .slice (some ⟨g16, 0, none⟩) 1 1), (12, .pointer (some ⟨b20, 0, none⟩)), (20, .slice (some ⟨N19, 1, none⟩) 1 3), (21, .int .i64 1), (22, .int .i64 0), (26, .slice (some ⟨g15, 0, none⟩) 1 1), (27, .pointer (some ⟨b20, 0, none⟩))] (by kernel_rfl) (by kernel_rfl) hg_3
    have hg_0 : G [false, false, false, false, false, false, false, false, false, false, false, false] [(2, .int .i64 1), (3, .int .i64 1), (8, .pointer (some ⟨b14, 0, none⟩)), (9, .slice (some ⟨g15, 0, none⟩) 1 1), (10, .slice (some ⟨g16, 0, none⟩) 1 1), (12, .pointer (some ⟨b20, 0, none⟩)), (20, .slice (some ⟨N19, 1, none⟩) 1 3), (21, .int .i64 1), (22, .int .i64 0)] ([⟨b20, [.int .i64 5, .int .i64 0], 2⟩, ⟨N19, [.int .i64 1, .int .i64 5, .int .i64 0, .int .i64 0, .int .i64 0, .int .i64 0, .int .i64 0], 7⟩, ⟨g16, [.int .i64 0], 1⟩, ⟨g15, [.int .i64 0], 1⟩, ⟨b14, [.int .i64 0, .int .i64 0], 2⟩, ⟨b13, [.int .i64 1, .int .i64 5, .int .i64 0, .int .i64 0, .int .i64 0, .int .i64 0, .int .i64 0], 7⟩, ⟨b12, [.int .i64 0, .int .i64 0], 2⟩] : List Own) := by
      exact hqf 0 [2, 3, 8, 9, 10, 12, 20, 21, 22, 26] _ _ _ [(2, .int .i64 1), (3, .int .i64 1), (8, .pointer (some ⟨b14, 0, none⟩)), (9, .slice (some ⟨g15, 0, none⟩) 1 1), (10, .slice (some ⟨g16, 0, none⟩) 1 1), (12, .pointer (some ⟨b20, 0, none⟩)), (20, .slice (some ⟨N19, 1, none⟩) 1 3), (21, .int .i64 1), (22, .int .i64 0), (26, .slice (some ⟨g15, 0, none⟩) 1 1)] (by kernel_rfl) (by kernel_rfl) hg_1
    exact hg_0
  have hg_7f : ∀ (g16 : Nat) (g15 : Nat), G [true, true, true, true, true, true, true, false] [(2, .int .i64 1), (3, .int .i64 1), (5, .pointer (some ⟨b13, 0, none⟩)), (8, .pointer (some ⟨b14, 0, none⟩)), (9, .slice (some ⟨g15, 0, none⟩) 1 1), (18, .slice (some ⟨g16, 0, none⟩) 1 1)] ([⟨g16, [.int .i64 0], 1⟩, ⟨g15, [.int .i64 0], 1⟩, ⟨b14, [.int .i64 0, .int .i64 0], 2⟩, ⟨b13, [.int .i64 1, .int .i64 5, .int .i64 0, .int .i64 0, .int .i64 0, .int .i64 0, .int .i64 0], 7⟩, ⟨b12, [.int .i64 0, .int .i64 0], 2⟩] : List Own) := by
    intro g16 g15
    exact hqf 7 [2, 3, 5, 8, 9, 10] _ _ _ [(2, .int .i64 1), (3, .int .i64 1), (5, .pointer (some ⟨b13, 0, none⟩)), (8, .pointer (some ⟨b14, 0, none⟩)), (9, .slice (some ⟨g15, 0, none⟩) 1 1), (10, .slice (some ⟨g16, 0, none⟩) 1 1)] (by kernel_rfl) (by kernel_rfl) (hg_ff g16 g15)
  have hg_3f : ∀ (g16 : Nat) (g15 : Nat), G [true, true, true, true, true, true, false, false] [(2, .int .i64 1), (3, .int .i64 1), (5, .pointer (some ⟨b13, 0, none⟩)), (8, .pointer (some ⟨b14, 0, none⟩)), (15, .slice (some ⟨g15, 0, none⟩) 1 1), (18, .slice (some ⟨g16, 0, none⟩) 1 1)] ([⟨g16, [.int .i64 0], 1⟩, ⟨g15, [.int .i64 0], 1⟩, ⟨b14, [.int .i64 0, .int .i64 0], 2⟩, ⟨b13, [.int .i64 1, .int .i64 5, .int .i64 0, .int .i64 0, .int .i64 0, .int .i64 0, .int .i64 0], 7⟩, ⟨b12, [.int .i64 0, .int .i64 0], 2⟩] : List Own) := by
    intro g16 g15
    exact hqf 6 [2, 3, 5, 8, 9, 18] _ _ _ [(2, .int .i64 1), (3, .int .i64 1), (5, .pointer (some ⟨b13, 0, none⟩)), (8, .pointer (some ⟨b14, 0, none⟩)), (9, .slice (some ⟨g15, 0, none⟩) 1 1), (18, .slice (some ⟨g16, 0, none⟩) 1 1)] (by kernel_rfl) (by kernel_rfl) (hg_7f g16 g15)
  have hg_5f : ∀ (g15 : Nat), G [true, true, true, true, true, false, true, false] [(2, .int .i64 1), (3, .int .i64 1), (5, .pointer (some ⟨b13, 0, none⟩)), (8, .pointer (some ⟨b14, 0, none⟩)), (9, .slice (some ⟨g15, 0, none⟩) 1 1), (17, .int .i64 0)] ([⟨g15, [.int .i64 0], 1⟩, ⟨b14, [.int .i64 0, .int .i64 0], 2⟩, ⟨b13, [.int .i64 1, .int .i64 5, .int .i64 0, .int .i64 0, .int .i64 0, .int .i64 0, .int .i64 0], 7⟩, ⟨b12, [.int .i64 0, .int .i64 0], 2⟩] : List Own) := by
    intro g15
    refine hstep [5] _ _ _ (by kernel_rfl) (List.cons_ne_nil _ _) ⟨?_, trivial⟩
    · show T _ _ _ _ _ _ _ _
      refine t_a (.bsl rfl rfl rfl rfl) fun g16 fg16 sg16 => ?_
      refine t_keep [2, 3, 5, 8, 9, 18] (σ' := [(2, .int .i64 1), (3, .int .i64 1), (5, .pointer (some ⟨b13, 0, none⟩)), (8, .pointer (some ⟨b14, 0, none⟩)), (9, .slice (some ⟨g15, 0, none⟩) 1 1), (18, .slice (some ⟨g16, 0, none⟩) 1 1)]) (by kernel_rfl) ?_
      refine t_end ?_
      exact ⟨hg_7f g16 g15, rfl⟩
  have hg_3b : ∀ (g16 : Nat), G [true, true, false, true, true, true, false, false] [(2, .int .i64 1), (3, .int .i64 1), (5, .pointer (some ⟨b13, 0, none⟩)), (8, .pointer (some ⟨b14, 0, none⟩)), (14, .int .i64 0), (18, .slice (some ⟨g16, 0, none⟩) 1 1)] ([⟨g16, [.int .i64 0], 1⟩, ⟨b14, [.int .i64 0, .int .i64 0], 2⟩, ⟨b13, [.int .i64 1, .int .i64 5, .int .i64 0, .int .i64 0, .int .i64 0, .int .i64 0, .int .i64 0], 7⟩, ⟨b12, [.int .i64 0, .int .i64 0], 2⟩] : List Own) := by
    intro g16
    refine hstep [2] _ _ _ (by kernel_rfl) (List.cons_ne_nil _ _) ⟨?_, trivial⟩
    · show T _ _ _ _ _ _ _ _
      refine t_a (.bsl rfl rfl rfl rfl) fun g15 fg15 sg15 => ?_
      refine t_keep [2, 3, 5, 8, 15, 18] (σ' := [(2, .int .i64 1), (3, .int .i64 1), (5, .pointer (some ⟨b13, 0, none⟩)), (8, .pointer (some ⟨b14, 0, none⟩)), (15, .slice (some ⟨g15, 0, none⟩) 1 1), (18, .slice (some ⟨g16, 0, none⟩) 1 1)]) (by kernel_rfl) ?_
      refine t_vs (H' := ([⟨g16, [.int .i64 0], 1⟩, ⟨g15, [.int .i64 0], 1⟩, ⟨b14, [.int .i64 0, .int .i64 0], 2⟩, ⟨b13, [.int .i64 1, .int .i64 5, .int .i64 0, .int .i64 0, .int .i64 0, .int .i64 0, .int .i64 0], 7⟩, ⟨b12, [.int .i64 0, .int .i64 0], 2⟩] : List Own)) (S' := S) (VS.sel [1, 0, 0, 0, 0] (by kernel_rfl)) ?_
      refine t_end ?_
      exact ⟨hg_3f g16 g15, rfl⟩
  have hg_1f : ∀ (g15 : Nat), G [true, true, true, true, true, false, false, false] [(2, .int .i64 1), (3, .int .i64 1), (5, .pointer (some ⟨b13, 0, none⟩)), (8, .pointer (some ⟨b14, 0, none⟩)), (15, .slice (some ⟨g15, 0, none⟩) 1 1), (17, .int .i64 0)] ([⟨g15, [.int .i64 0], 1⟩, ⟨b14, [.int .i64 0, .int .i64 0], 2⟩, ⟨b13, [.int .i64 1, .int .i64 5, .int .i64 0, .int .i64 0, .int .i64 0, .int .i64 0, .int .i64 0], 7⟩, ⟨b12, [.int .i64 0, .int .i64 0], 2⟩] : List Own) := by
    intro g15
    exact hqf 6 [2, 3, 5, 8, 9, 17] _ _ _ [(2, .int .i64 1), (3, .int .i64 1), (5, .pointer (some ⟨b13, 0, none⟩)), (8, .pointer (some ⟨b14, 0, none⟩)), (9, .slice (some ⟨g15, 0, none⟩) 1 1), (17, .int .i64 0)] (by kernel_rfl) (by kernel_rfl) (hg_5f g15)
  have hg_4f : ∀ (g15 : Nat), G [true, true, true, true, false, false, true, false] [(2, .int .i64 1), (3, .int .i64 1), (5, .pointer (some ⟨b13, 0, none⟩)), (8, .pointer (some ⟨b14, 0, none⟩)), (9, .slice (some ⟨g15, 0, none⟩) 1 1), (16, .pointer (some ⟨b12, 1, none⟩))] ([⟨g15, [.int .i64 0], 1⟩, ⟨b14, [.int .i64 0, .int .i64 0], 2⟩, ⟨b13, [.int .i64 1, .int .i64 5, .int .i64 0, .int .i64 0, .int .i64 0, .int .i64 0, .int .i64 0], 7⟩, ⟨b12, [.int .i64 0, .int .i64 0], 2⟩] : List Own) := by
    intro g15
    refine hstep [4] _ _ _ (by kernel_rfl) (List.cons_ne_nil _ _) ⟨?_, trivial⟩
    · show T _ _ _ _ _ _ _ _
      refine t_v (.ld1 rfl rfl rfl (.at 3 rfl rfl)) ?_
      refine t_keep [2, 3, 5, 8, 9, 17] (σ' := [(2, .int .i64 1), (3, .int .i64 1), (5, .pointer (some ⟨b13, 0, none⟩)), (8, .pointer (some ⟨b14, 0, none⟩)), (9, .slice (some ⟨g15, 0, none⟩) 1 1), (17, .int .i64 0)]) (by kernel_rfl) ?_
      refine t_end ?_
      exact ⟨hg_5f g15, rfl⟩
  have hg_f : ∀ (g15 : Nat), G [true, true, true, true, false, false, false, false] [(2, .int .i64 1), (3, .int .i64 1), (5, .pointer (some ⟨b13, 0, none⟩)), (8, .pointer (some ⟨b14, 0, none⟩)), (15, .slice (some ⟨g15, 0, none⟩) 1 1), (16, .pointer (some ⟨b12, 1, none⟩))] ([⟨g15, [.int .i64 0], 1⟩, ⟨b14, [.int .i64 0, .int .i64 0], 2⟩, ⟨b13, [.int .i64 1, .int .i64 5, .int .i64 0, .int .i64 0, .int .i64 0, .int .i64 0, .int .i64 0], 7⟩, ⟨b12, [.int .i64 0, .int .i64 0], 2⟩] : List Own) := by
    intro g15
    exact hqf 6 [2, 3, 5, 8, 9, 16] _ _ _ [(2, .int .i64 1), (3, .int .i64 1), (5, .pointer (some ⟨b13, 0, none⟩)), (8, .pointer (some ⟨b14, 0, none⟩)), (9, .slice (some ⟨g15, 0, none⟩) 1 1), (16, .pointer (some ⟨b12, 1, none⟩))] (by kernel_rfl) (by kernel_rfl) (hg_4f g15)
  have hg_1b : G [true, true, false, true, true, false, false, false] [(2, .int .i64 1), (3, .int .i64 1), (5, .pointer (some ⟨b13, 0, none⟩)), (8, .pointer (some ⟨b14, 0, none⟩)), (14, .int .i64 0), (17, .int .i64 0)] ([⟨b14, [.int .i64 0, .int .i64 0], 2⟩, ⟨b13, [.int .i64 1, .int .i64 5, .int .i64 0, .int .i64 0, .int .i64 0, .int .i64 0, .int .i64 0], 7⟩, ⟨b12, [.int .i64 0, .int .i64 0], 2⟩] : List Own) := by
    refine hstep [2, 5] _ _ _ (by kernel_rfl) (List.cons_ne_nil _ _) ⟨?_, ?_, trivial⟩
    · show T _ _ _ _ _ _ _ _
      refine t_a (.bsl rfl rfl rfl rfl) fun g15 fg15 sg15 => ?_
      refine t_keep [2, 3, 5, 8, 15, 17] (σ' := [(2, .int .i64 1), (3, .int .i64 1), (5, .pointer (some ⟨b13, 0, none⟩)), (8, .pointer (some ⟨b14, 0, none⟩)), (15, .slice (some ⟨g15, 0, none⟩) 1 1), (17, .int .i64 0)]) (by kernel_rfl) ?_
      refine t_end ?_
      exact ⟨hg_1f g15, rfl⟩
    · show T _ _ _ _ _ _ _ _
      refine t_a (.bsl rfl rfl rfl rfl) fun g16 fg16 sg16 => ?_
      refine t_keep [2, 3, 5, 8, 14, 18] (σ' := [(2, .int .i64 1), (3, .int .i64 1), (5, .pointer (some ⟨b13, 0, none⟩)), (8, .pointer (some ⟨b14, 0, none⟩)), (14, .int .i64 0), (18, .slice (some ⟨g16, 0, none⟩) 1 1)]) (by kernel_rfl) ?_
      refine t_end ?_
      exact ⟨hg_3b g16, rfl⟩
  have hg_39 : ∀ (g16 : Nat), G [true, false, false, true, true, true, false, false] [(2, .int .i64 1), (3, .int .i64 1), (5, .pointer (some ⟨b13, 0, none⟩)), (8, .pointer (some ⟨b14, 0, none⟩)), (13, .pointer (some ⟨b12, 0, none⟩)), (18, .slice (some ⟨g16, 0, none⟩) 1 1)] ([⟨g16, [.int .i64 0], 1⟩, ⟨b14, [.int .i64 0, .int .i64 0], 2⟩, ⟨b13, [.int .i64 1, .int .i64 5, .int .i64 0, .int .i64 0, .int .i64 0, .int .i64 0, .int .i64 0], 7⟩, ⟨b12, [.int .i64 0, .int .i64 0], 2⟩] : List Own) := by
    intro g16
    refine hstep [1] _ _ _ (by kernel_rfl) (List.cons_ne_nil _ _) ⟨?_, trivial⟩
    · show T _ _ _ _ _ _ _ _
      refine t_v (.ld1 rfl rfl rfl (.at 3 rfl rfl)) ?_
      refine t_keep [2, 3, 5, 8, 14, 18] (σ' := [(2, .int .i64 1), (3, .int .i64 1), (5, .pointer (some ⟨b13, 0, none⟩)), (8, .pointer (some ⟨b14, 0, none⟩)), (14, .int .i64 0), (18, .slice (some ⟨g16, 0, none⟩) 1 1)]) (by kernel_rfl) ?_
      refine t_end ?_
      exact ⟨hg_3b g16, rfl⟩
  have hg_b : G [true, true, false, true, false, false, false, false] [(2, .int .i64 1), (3, .int .i64 1), (5, .pointer (some ⟨b13, 0, none⟩)), (8, .pointer (some ⟨b14, 0, none⟩)), (14, .int .i64 0), (16, .pointer (some ⟨b12, 1, none⟩))] ([⟨b14, [.int .i64 0, .int .i64 0], 2⟩, ⟨b13, [.int .i64 1, .int .i64 5, .int .i64 0, .int .i64 0, .int .i64 0, .int .i64 0, .int .i64 0], 7⟩, ⟨b12, [.int .i64 0, .int .i64 0], 2⟩] : List Own) := by
    refine hstep [2, 4] _ _ _ (by kernel_rfl) (List.cons_ne_nil _ _) ⟨?_, ?_, trivial⟩
    · show T _ _ _ _ _ _ _ _
      refine t_a (.bsl rfl rfl rfl rfl) fun g15 fg15 sg15 => ?_
      refine t_keep [2, 3, 5, 8, 15, 16] (σ' := [(2, .int .i64 1), (3, .int .i64 1), (5, .pointer (some ⟨b13, 0, none⟩)), (8, .pointer (some ⟨b14, 0, none⟩)), (15, .slice (some ⟨g15, 0, none⟩) 1 1), (16, .pointer (some ⟨b12, 1, none⟩))]) (by kernel_rfl) ?_
      refine t_end ?_
      exact ⟨hg_f g15, rfl⟩
    · show T _ _ _ _ _ _ _ _
      refine t_v (.ld1 rfl rfl rfl (.at 2 rfl rfl)) ?_
      refine t_keep [2, 3, 5, 8, 14, 17] (σ' := [(2, .int .i64 1), (3, .int .i64 1), (5, .pointer (some ⟨b13, 0, none⟩)), (8, .pointer (some ⟨b14, 0, none⟩)), (14, .int .i64 0), (17, .int .i64 0)]) (by kernel_rfl) ?_
      refine t_end ?_
      exact ⟨hg_1b, rfl⟩
  have hg_19 : G [true, false, false, true, true, false, false, false] [(2, .int .i64 1), (3, .int .i64 1), (5, .pointer (some ⟨b13, 0, none⟩)), (8, .pointer (some ⟨b14, 0, none⟩)), (13, .pointer (some ⟨b12, 0, none⟩)), (17, .int .i64 0)] ([⟨b14, [.int .i64 0, .int .i64 0], 2⟩, ⟨b13, [.int .i64 1, .int .i64 5, .int .i64 0, .int .i64 0, .int .i64 0, .int .i64 0, .int .i64 0], 7⟩, ⟨b12, [.int .i64 0, .int .i64 0], 2⟩] : List Own) := by
    refine hstep [1, 5] _ _ _ (by kernel_rfl) (List.cons_ne_nil _ _) ⟨?_, ?_, trivial⟩
    · show T _ _ _ _ _ _ _ _
      refine t_v (.ld1 rfl rfl rfl (.at 2 rfl rfl)) ?_
      refine t_keep [2, 3, 5, 8, 14, 17] (σ' := [(2, .int .i64 1), (3, .int .i64 1), (5, .pointer (some ⟨b13, 0, none⟩)), (8, .pointer (some ⟨b14, 0, none⟩)), (14, .int .i64 0), (17, .int .i64 0)]) (by kernel_rfl) ?_
      refine t_end ?_
      exact ⟨hg_1b, rfl⟩
    · show T _ _ _ _ _ _ _ _
      refine t_a (.bsl rfl rfl rfl rfl) fun g16 fg16 sg16 => ?_
      refine t_keep [2, 3, 5, 8, 13, 18] (σ' := [(2, .int .i64 1), (3, .int .i64 1), (5, .pointer (some ⟨b13, 0, none⟩)), (8, .pointer (some ⟨b14, 0, none⟩)), (13, .pointer (some ⟨b12, 0, none⟩)), (18, .slice (some ⟨g16, 0, none⟩) 1 1)]) (by kernel_rfl) ?_
      refine t_end ?_
      exact ⟨hg_39 g16, rfl⟩
  have hg_9 : G [true, false, false, true, false, false, false, false] [(2, .int .i64 1), (3, .int .i64 1), (5, .pointer (some ⟨b13, 0, none⟩)), (8, .pointer (some ⟨b14, 0, none⟩)), (13, .pointer (some ⟨b12, 0, none⟩)), (16, .pointer (some ⟨b12, 1, none⟩))] ([⟨b14, [.int .i64 0, .int .i64 0], 2⟩, ⟨b13, [.int .i64 1, .int .i64 5, .int .i64 0, .int .i64 0, .int .i64 0, .int .i64 0, .int .i64 0], 7⟩, ⟨b12, [.int .i64 0, .int .i64 0], 2⟩] : List Own) := by
    refine hstep [1, 4] _ _ _ (by kernel_rfl) (List.cons_ne_nil _ _) ⟨?_, ?_, trivial⟩
    · show T _ _ _ _ _ _ _ _
      refine t_v (.ld1 rfl rfl rfl (.at 2 rfl rfl)) ?_
      refine t_keep [2, 3, 5, 8, 14, 16] (σ' := [(2, .int .i64 1), (3, .int .i64 1), (5, .pointer (some ⟨b13, 0, none⟩)), (8, .pointer (some ⟨b14, 0, none⟩)), (14, .int .i64 0), (16, .pointer (some ⟨b12, 1, none⟩))]) (by kernel_rfl) ?_
      refine t_end ?_
      exact ⟨hg_b, rfl⟩
    · show T _ _ _ _ _ _ _ _
      refine t_v (.ld1 rfl rfl rfl (.at 2 rfl rfl)) ?_
      refine t_keep [2, 3, 5, 8, 13, 17] (σ' := [(2, .int .i64 1), (3, .int .i64 1), (5, .pointer (some ⟨b13, 0, none⟩)), (8, .pointer (some ⟨b14, 0, none⟩)), (13, .pointer (some ⟨b12, 0, none⟩)), (17, .int .i64 0)]) (by kernel_rfl) ?_
      refine t_end ?_
      exact ⟨hg_19, rfl⟩
  have hg_1 : G [true, false, false, false, false, false, false, false] [(2, .int .i64 1), (3, .int .i64 1), (4, .pointer (some ⟨b12, 0, none⟩)), (5, .pointer (some ⟨b13, 0, none⟩)), (8, .pointer (some ⟨b14, 0, none⟩)), (13, .pointer (some ⟨b12, 0, none⟩))] ([⟨b14, [.int .i64 0, .int .i64 0], 2⟩, ⟨b13, [.int .i64 1, .int .i64 5, .int .i64 0, .int .i64 0, .int .i64 0, .int .i64 0, .int .i64 0], 7⟩, ⟨b12, [.int .i64 0, .int .i64 0], 2⟩] : List Own) := by
    exact hqf 3 [2, 3, 5, 8, 13, 16] _ _ _ [(2, .int .i64 1), (3, .int .i64 1), (5, .pointer (some ⟨b13, 0, none⟩)), (8, .pointer (some ⟨b14, 0, none⟩)), (13, .pointer (some ⟨b12, 0, none⟩)), (16, .pointer (some ⟨b12, 1, none⟩))] (by kernel_rfl) (by kernel_rfl) hg_9
  have hg_0 : G [false, false, false, false, false, false, false, false] [(2, .int .i64 1), (3, .int .i64 1), (4, .pointer (some ⟨b12, 0, none⟩)), (5, .pointer (some ⟨b13, 0, none⟩)), (8, .pointer (some ⟨b14, 0, none⟩))] ([⟨b14, [.int .i64 0, .int .i64 0], 2⟩, ⟨b13, [.int .i64 1, .int .i64 5, .int .i64 0, .int .i64 0, .int .i64 0, .int .i64 0, .int .i64 0], 7⟩, ⟨b12, [.int .i64 0, .int .i64 0], 2⟩] : List Own) := by
    exact hqf 0 [2, 3, 4, 5, 8, 13] _ _ _ [(2, .int .i64 1), (3, .int .i64 1), (4, .pointer (some ⟨b12, 0, none⟩)), (5, .pointer (some ⟨b13, 0, none⟩)), (8, .pointer (some ⟨b14, 0, none⟩)), (13, .pointer (some ⟨b12, 0, none⟩))] (by kernel_rfl) (by kernel_rfl) hg_1
  exact hg_0

/-- flatten.Path$1 -/
def c67 : C :=
  (.seq (.reg [⟨(some 3), .box (.tmp 0), none⟩])
  (.seq (.seq (.reg [⟨(some 4), .ld (some 2) (.tmp 1), none⟩,
      ⟨(some 5), .ld (some 2) (.tmp 3), none⟩,
      ⟨(some 6), .eqt true 24 (.tmp 4) (.tmp 5), none⟩])
   (.cond (.tmp 6)
    (.reg [⟨(some 7), .ld none (.tmp 2), none⟩,
       ⟨(some 8), .ld (some 2) (.tmp 1), none⟩,
       ⟨(some 9), .ld (some 2) (.tmp 3), none⟩,
       ⟨(some 10), .bld [(.int .i64 0), (.int .i64 0), (.int .i64 0), (.int .i64 0)] [(0, 2, (.tmp 8)), (2, 2, (.tmp 9))], none⟩,
       ⟨(some 11), .bsl [(.int .i64 0), (.int .i64 0), (.int .i64 0), (.int .i64 0)] 1 [(0, 4, (.tmp 10))], none⟩,
       ⟨(some 12), .app 36 4 32 [(.int .i64 0), (.int .i64 0), (.int .i64 0), (.int .i64 0)] (.tmp 7) (.tmp 11), none⟩,
       ⟨none, .st 1 (.tmp 2) (.tmp 12), none⟩])
    .skip))
  (.reg [⟨(some 13), .ld (some 2) (.tmp 3), none⟩,
    ⟨none, .st 2 (.tmp 1) (.tmp 13), none⟩])))
def flatten_Path_1_v1.f  : Option (Unit) := some ()
theorem flatten_Path_1_v1.ok {S : Seal} {B0 : Nat} {B1 : Nat}  (e : flatten_Path_1_v1.f  = some ()) :
    Cal Try.prog 67 [.agg #[.int .i64 5, .int .i64 0], .pointer (some ⟨B0, 0, none⟩), .pointer (some ⟨B1, 0, none⟩)] ([⟨B0, [.int .i64 0, .int .i64 0], 2⟩, ⟨B1, [.slice none 0 0], 1⟩] : List Own) S fun v H' S' => ∃ (N0_ nN0_ : Nat) , v = .tuple #[] ∧ H' = ([⟨N0_, [.int .i64 0, .int .i64 0, .int .i64 5, .int .i64 0], nN0_⟩, ⟨B0, [.int .i64 5, .int .i64 0], 2⟩, ⟨B1, [.slice (some ⟨N0_, 0, none⟩) 1 (nN0_ / 4)], 1⟩] : List Own) ∧ S' = S := by
  unfold flatten_Path_1_v1.f at e
  refine cal_of (c := c67) (N := 14) Try.func67 rfl rfl (by kernel_rfl) (rs := []) (by kernel_rfl) (Nat.le_of_ble_eq_true rfl) ?_
  unfold c67
  refine w_seq ?_
  refine w_reg fun all => ?_
  refine t_a (.box rfl rfl rfl) fun b33 fb33 sb33 => ?_
  refine t_keep [1, 2, 3] (σ' := [(1, .pointer (some ⟨B0, 0, none⟩)), (2, .pointer (some ⟨B1, 0, none⟩)), (3, .pointer (some ⟨b33, 0, none⟩))]) (by kernel_rfl) ?_
  refine t_end ?_
  show W _ _ _ _ _ _ _
  refine w_seq ?_
  refine w_seq ?_
  refine w_reg fun all => ?_
  refine t_v (.ldn rfl rfl rfl (.at 1 rfl rfl)) ?_
  refine t_v (.ldn rfl rfl rfl (.at 0 rfl rfl)) ?_
  refine t_v (.eqt (a := .agg #[.int .i64 0, .int .i64 0]) (b := .agg #[.int .i64 5, .int .i64 0]) (r := false) rfl rfl rfl rfl (by kernel_rfl) rfl) ?_
  refine t_keep [1, 2, 3, 6] (σ' := [(1, .pointer (some ⟨B0, 0, none⟩)), (2, .pointer (some ⟨B1, 0, none⟩)), (3, .pointer (some ⟨b33, 0, none⟩)), (6, .bool true)]) (by kernel_rfl) ?_
  refine t_end ?_
  show W _ _ _ _ _ _ _
  refine w_cond rfl (fun _ => ?_) (fun c_ => by cases c_)
  show W _ _ _ _ _ _ _
  refine w_reg fun all => ?_
  refine t_v (.ld1 rfl rfl rfl (.at 2 rfl rfl)) ?_
  refine t_v (.ldn rfl rfl rfl (.at 1 rfl rfl)) ?_
  refine t_v (.ldn rfl rfl rfl (.at 0 rfl rfl)) ?_
  refine t_qz 1 [1, 2, 3, 7, 10] (σ' := [(1, .pointer (some ⟨B0, 0, none⟩)), (2, .pointer (some ⟨B1, 0, none⟩)), (3, .pointer (some ⟨b33, 0, none⟩)), (7, .slice none 0 0), (10, .agg #[.int .i64 0, .int .i64 0, .int .i64 5, .int .i64 0])]) (by kernel_rfl) ?_
  refine t_a (.bsl rfl rfl rfl rfl) fun b34 fb34 sb34 => ?_
  refine t_app0 (news := [.int .i64 0, .int .i64 0, .int .i64 5, .int .i64 0]) rfl rfl rfl rfl (.at 0 rfl rfl) (by decide) (by decide) (by decide) rfl fun b35 nb35 fb35 sb35 => ?_
  refine t_sti 4 (cs := [.slice (some ⟨b35, 0, none⟩) 1 (nb35 / 4)]) rfl rfl rfl rfl rfl rfl rfl rfl rfl ?_
  refine t_keep [1, 3] (σ' := [(1, .pointer (some ⟨B0, 0, none⟩)), (3, .pointer (some ⟨b33, 0, none⟩))]) (by kernel_rfl) ?_
  refine t_end ?_
  show W _ _ _ _ _ _ _
  refine w_reg fun all => ?_
  refine t_v (.ldn rfl rfl rfl (.at 2 rfl rfl)) ?_
  refine t_sti 3 (cs := [.int .i64 5, .int .i64 0]) rfl rfl rfl rfl rfl rfl rfl rfl rfl ?_
  refine t_keep [] (σ' := []) (by kernel_rfl) ?_
  refine t_end ?_
  exact ⟨[], ([⟨b35, [.int .i64 0, .int .i64 0, .int .i64 5, .int .i64 0], nb35⟩, ⟨B0, [.int .i64 5, .int .i64 0], 2⟩, ⟨B1, [.slice (some ⟨b35, 0, none⟩) 1 (nb35 / 4)], 1⟩] : List Own), S, trivial, VS.sel [0, 2, 2] (by kernel_rfl), b35, nb35, rfl, rfl, rfl⟩

/-- flatten.Path -/
def c28 : C :=
  (.seq (.reg [⟨(some 2), .box (.tmp 0), none⟩,
     ⟨(some 4), .mv (.const (.slice none 0 0)), none⟩])
  (.seq (.reg [⟨(some 5), .new [(.slice none 0 0)], none⟩])
  (.seq (.reg [⟨(some 13), .pad 0 (.tmp 2), none⟩,
     ⟨(some 14), .ld (some 2) (.tmp 13), none⟩,
     ⟨(some 6), .new [(.int .i64 0), (.int .i64 0)], none⟩,
     ⟨none, .st 2 (.tmp 6) (.tmp 14), none⟩])
  (.seq (.reg [⟨(some 15), .mkf 67 [(.tmp 6), (.tmp 5)], none⟩,
     ⟨(some 7), .mv (.tmp 15), none⟩])
  (.seq (.seq (.reg [⟨(some 16), .pad 2 (.tmp 2), none⟩,
      ⟨(some 17), .ld none (.tmp 16), none⟩,
      ⟨(some 18), .lns (.tmp 17), none⟩,
      ⟨(some 19), .mv (.const (.int .i64 0)), none⟩])
   (.block 0 (.loop (.seq (.reg [⟨(some 20), .bin .lss (.tmp 19) (.tmp 18), none⟩])
     (.seq (.cond (.tmp 20)
       .skip
       (.exit 0))
     (.seq (.block 1 (.seq (.reg [⟨(some 21), .ixs 7 (.tmp 17) (.tmp 19), none⟩,
          ⟨(some 22), .ld (some 7) (.tmp 21), none⟩,
          ⟨(some 9), .new [(.int .i64 0), (.int .i64 0), (.int .i64 0), (.int .i64 0), (.int .i64 0), (.int .i64 0), (.int .i64 0)], none⟩,
          ⟨none, .st 7 (.tmp 9) (.tmp 22), none⟩])
       (.seq (.drw [⟨(some 23), .ld (some 2) (.tmp 6), none⟩,
          ⟨(some 24), .ld (some 2) (.tmp 6), none⟩,
          ⟨(some 25), .ld (some 7) (.tmp 9), none⟩,
          ⟨(some 26), .call 29 [(.tmp 24), (.tmp 25)], none⟩,
          ⟨(some 10), .new [(.int .i64 0), (.int .i64 0)], none⟩,
          ⟨none, .st 2 (.tmp 10) (.tmp 23), none⟩,
          ⟨(some 11), .mv (.tmp 26), none⟩] [[], [], [], [1, 2], [], [4, 0, 3, 0, 4], [3, 5, 0, 1, 2, 3, 4, 5]])
       (.seq (.reg [⟨(some 12), .mv (.const (.int .i64 1)), none⟩])
       (.block 2 (.loop (.seq (.seq (.reg [⟨(some 27), .mv (.tmp 12), none⟩,
             ⟨(some 28), .mv (.tmp 11), none⟩,
             ⟨(some 29), .bin .leq (.tmp 27) (.tmp 28), none⟩])
          (.cond (.tmp 29)
           .skip
           (.exit 2)))
         (.seq (.block 3 (.reg [⟨(some 32), .mv (.tmp 7), none⟩,
             ⟨(some 33), .ld (some 2) (.tmp 10), none⟩,
             ⟨(some 34), .ld (some 7) (.tmp 9), none⟩,
             ⟨(some 35), .mv (.tmp 12), none⟩,
             ⟨(some 36), .mv (.tmp 11), none⟩,
             ⟨(some 37), .call 31 [(.tmp 33), (.tmp 34), (.tmp 35), (.tmp 36)], none⟩,
             ⟨(some 38), .clo (.tmp 32) [(.tmp 37)], none⟩]))
         (.reg [⟨(some 30), .mv (.tmp 12), none⟩,
           ⟨(some 31), .bin .add (.tmp 30) (.const (.int .i64 1)), none⟩,
           ⟨(some 12), .mv (.tmp 31), none⟩])))))))))
     (.reg [⟨(some 39), .bin .add (.tmp 19) (.const (.int .i64 1)), none⟩,
       ⟨(some 19), .mv (.tmp 39), none⟩])))))))
  (.seq (.seq (.reg [⟨(some 40), .mv (.tmp 1), none⟩,
      ⟨(some 41), .mv (.tmp 40), none⟩,
      ⟨(some 42), .pad 3 (.tmp 2), (some (41, false))⟩,
      ⟨(some 43), .ld none (.tmp 42), (some (41, false))⟩,
      ⟨(some 44), .pk (.tmp 41) (.const (.bool true)) (.tmp 43), none⟩])
   (.cond (.tmp 44)
    (.reg [⟨(some 45), .mv (.tmp 7), none⟩,
       ⟨(some 46), .pad 0 (.tmp 2), none⟩,
       ⟨(some 47), .ld (some 2) (.tmp 46), none⟩,
       ⟨(some 48), .clo (.tmp 45) [(.tmp 47)], none⟩])
    .skip))
  (.seq (.reg [⟨(some 49), .ld none (.tmp 5), none⟩,
     ⟨(some 4), .mv (.tmp 49), none⟩])
  .ret)))))))
def flatten_Path_v1.f  : Option (Unit) := (flatten_Count_v1.f).bind fun _ => ((flatten_Point_v1.f).bind fun _ => ((flatten_Path_1_v1.f).bind fun _ => (some ())))
theorem flatten_Path_v1.ok {S : Seal} {B0 : Nat}  (e : flatten_Path_v1.f  = some ()) :
    Cal Try.prog 28 [.agg #[.int .i64 0, .int .i64 0, .slice (some ⟨B0, 0, none⟩) 1 1, .bool false], .bool false] ([⟨B0, [.int .i64 1, .int .i64 5, .int .i64 0, .int .i64 0, .int .i64 0, .int .i64 0, .int .i64 0], 7⟩] : List Own) S fun v H' S' => ∃ (N0_ nN0_ : Nat) , v = .slice (some ⟨N0_, 0, none⟩) 1 (nN0_ / 4) ∧ H' = ([⟨N0_, [.int .i64 0, .int .i64 0, .int .i64 5, .int .i64 0], nN0_⟩, ⟨B0, [.int .i64 1, .int .i64 5, .int .i64 0, .int .i64 0, .int .i64 0, .int .i64 0, .int .i64 0], 7⟩] : List Own) ∧ S' = S := by
  unfold flatten_Path_v1.f at e
  refine cal_of (c := c28) (N := 50) Try.func28 rfl rfl (by kernel_rfl) (rs := [.t 4]) (by kernel_rfl) (Nat.le_of_ble_eq_true rfl) ?_
  unfold c28
  refine w_seq ?_
  refine w_reg fun all => ?_
  refine t_a (.box rfl rfl rfl) fun b6 fb6 sb6 => ?_
  refine t_qz 1 [1, 2] (σ' := [(1, .bool false), (2, .pointer (some ⟨b6, 0, none⟩))]) (by kernel_rfl) ?_
  refine t_end ?_
  show W _ _ _ _ _ _ _
  refine w_seq ?_
  refine w_reg fun all => ?_
  refine t_a (.new rfl rfl) fun b7 fb7 sb7 => ?_
  refine t_keep [1, 2, 5] (σ' := [(1, .bool false), (2, .pointer (some ⟨b6, 0, none⟩)), (5, .pointer (some ⟨b7, 0, none⟩))]) (by kernel_rfl) ?_
  refine t_end ?_
  show W _ _ _ _ _ _ _
  refine w_seq ?_
  refine w_reg fun all => ?_
  refine t_qz 1 [1, 2, 5, 13] (σ' := [(1, .bool false), (2, .pointer (some ⟨b6, 0, none⟩)), (5, .pointer (some ⟨b7, 0, none⟩)), (13, .pointer (some ⟨b6, 0, none⟩))]) (by kernel_rfl) ?_
  refine t_v (.ldn rfl rfl rfl (.at 1 rfl rfl)) ?_
  refine t_a (.new rfl rfl) fun b8 fb8 sb8 => ?_
  refine t_sti 0 (cs := [.int .i64 0, .int .i64 0]) rfl rfl rfl rfl rfl rfl rfl rfl rfl ?_
  refine t_keep [1, 2, 5, 6] (σ' := [(1, .bool false), (2, .pointer (some ⟨b6, 0, none⟩)), (5, .pointer (some ⟨b7, 0, none⟩)), (6, .pointer (some ⟨b8, 0, none⟩))]) (by kernel_rfl) ?_
  refine t_end ?_
  show W _ _ _ _ _ _ _
  refine w_seq ?_
  refine w_reg fun all => ?_
  refine t_qz 2 [1, 2, 5, 6, 7] (σ' := [(1, .bool false), (2, .pointer (some ⟨b6, 0, none⟩)), (5, .pointer (some ⟨b7, 0, none⟩)), (6, .pointer (some ⟨b8, 0, none⟩)), (7, .func (.func 67) #[] #[.pointer (some ⟨b8, 0, none⟩), .pointer (some ⟨b7, 0, none⟩)])]) (by kernel_rfl) ?_
  refine t_end ?_
  show W _ _ _ _ _ _ _
  refine w_seq ?_
  refine w_seq ?_
  refine w_reg fun all => ?_
  refine t_qz 1 [1, 2, 5, 6, 7, 16] (σ' := [(1, .bool false), (2, .pointer (some ⟨b6, 0, none⟩)), (5, .pointer (some ⟨b7, 0, none⟩)), (6, .pointer (some ⟨b8, 0, none⟩)), (7, .func (.func 67) #[] #[.pointer (some ⟨b8, 0, none⟩), .pointer (some ⟨b7, 0, none⟩)]), (16, .pointer (some ⟨b6, 2, none⟩))]) (by kernel_rfl) ?_
  refine t_v (.ld1 rfl rfl rfl (.at 2 rfl rfl)) ?_
  refine t_qz 2 [1, 2, 5, 6, 7, 17, 18, 19] (σ' := [(1, .bool false), (2, .pointer (some ⟨b6, 0, none⟩)), (5, .pointer (some ⟨b7, 0, none⟩)), (6, .pointer (some ⟨b8, 0, none⟩)), (7, .func (.func 67) #[] #[.pointer (some ⟨b8, 0, none⟩), .pointer (some ⟨b7, 0, none⟩)]), (17, .slice (some ⟨B0, 0, none⟩) 1 1), (18, .int .i64 1), (19, .int .i64 0)]) (by kernel_rfl) ?_
  refine t_end ?_
  show W _ _ _ _ _ _ _
  refine w_block ?_
  refine w_lun 10 ?_
  refine wl_step ?_
  refine w_seq ?_
  refine w_reg fun all => ?_
  refine t_qz 1 [1, 2, 5, 6, 7, 17, 18, 19, 20] (σ' := [(1, .bool false), (2, .pointer (some ⟨b6, 0, none⟩)), (5, .pointer (some ⟨b7, 0, none⟩)), (6, .pointer (some ⟨b8, 0, none⟩)), (7, .func (.func 67) #[] #[.pointer (some ⟨b8, 0, none⟩), .pointer (some ⟨b7, 0, none⟩)]), (17, .slice (some ⟨B0, 0, none⟩) 1 1), (18, .int .i64 1), (19, .int .i64 0), (20, .bool true)]) (by kernel_rfl) ?_
  refine t_end ?_
  show W _ _ _ _ _ _ _
  refine w_seq ?_
  refine w_cond rfl (fun _ => ?_) (fun c_ => by cases c_)
  show W _ _ _ _ _ _ _
  refine w_skip ?_
  show W _ _ _ _ _ _ _
  refine w_seq ?_
  refine w_block ?_
  refine w_seq ?_
  refine w_reg fun all => ?_
  refine t_qz 1 [1, 2, 5, 6, 7, 17, 18, 19, 21] (σ' := [(1, .bool false), (2, .pointer (some ⟨b6, 0, none⟩)), (5, .pointer (some ⟨b7, 0, none⟩)), (6, .pointer (some ⟨b8, 0, none⟩)), (7, .func (.func 67) #[] #[.pointer (some ⟨b8, 0, none⟩), .pointer (some ⟨b7, 0, none⟩)]), (17, .slice (some ⟨B0, 0, none⟩) 1 1), (18, .int .i64 1), (19, .int .i64 0), (21, .pointer (some ⟨B0, 0, none⟩))]) (by kernel_rfl) ?_
  refine t_v (.ldn rfl rfl rfl (.at 3 rfl rfl)) ?_
  refine t_a (.new rfl rfl) fun b9 fb9 sb9 => ?_
  refine t_sti 0 (cs := [.int .i64 1, .int .i64 5, .int .i64 0, .int .i64 0, .int .i64 0, .int .i64 0, .int .i64 0]) rfl rfl rfl rfl rfl rfl rfl rfl rfl ?_
  refine t_keep [1, 2, 5, 6, 7, 9, 17, 18, 19] (σ' := [(1, .bool false), (2, .pointer (some ⟨b6, 0, none⟩)), (5, .pointer (some ⟨b7, 0, none⟩)), (6, .pointer (some ⟨b8, 0, none⟩)), (7, .func (.func 67) #[] #[.pointer (some ⟨b8, 0, none⟩), .pointer (some ⟨b7, 0, none⟩)]), (9, .pointer (some ⟨b9, 0, none⟩)), (17, .slice (some ⟨B0, 0, none⟩) 1 1), (18, .int .i64 1), (19, .int .i64 0)]) (by kernel_rfl) ?_
  refine t_end ?_
  show W _ _ _ _ _ _ _
  refine w_seq ?_
  obtain ⟨u_, h10, e⟩ := bind_of e
  refine w_drwE mixed 5 [.v (.agg #[.int .i64 0, .int .i64 0]), .v (.agg #[.int .i64 0, .int .i64 0]), .v (.agg #[.int .i64 1, .int .i64 5, .int .i64 0, .int .i64 0, .int .i64 0, .int .i64 0, .int .i64 0]), .v (.int .i64 1), .a [.int .i64 0, .int .i64 0] ptrTo] (by kernel_rfl) ?_ ?_
  · refine .cons (.ldn rfl rfl rfl (.at 1 rfl rfl)) ?_
    refine .cons (.ldn rfl rfl rfl (.at 1 rfl rfl)) ?_
    refine .cons (.ldn rfl rfl rfl (.at 0 rfl rfl)) ?_
    refine .cons (.call (vs := [.agg #[.int .i64 0, .int .i64 0], .agg #[.int .i64 1, .int .i64 5, .int .i64 0, .int .i64 0, .int .i64 0, .int .i64 0, .int .i64 0]]) rfl rfl (by kernel_rfl) (flatten_Count_v1.ok h10)) ?_
    refine .cons (.new rfl rfl) ?_
    exact .nil
  refine fk_q 4 [1, 2, 5, 6, 7, 9, 17, 18, 19, 23, 26] (σ' := [(1, .bool false), (2, .pointer (some ⟨b6, 0, none⟩)), (5, .pointer (some ⟨b7, 0, none⟩)), (6, .pointer (some ⟨b8, 0, none⟩)), (7, .func (.func 67) #[] #[.pointer (some ⟨b8, 0, none⟩), .pointer (some ⟨b7, 0, none⟩)]), (9, .pointer (some ⟨b9, 0, none⟩)), (17, .slice (some ⟨B0, 0, none⟩) 1 1), (18, .int .i64 1), (19, .int .i64 0), (23, .agg #[.int .i64 0, .int .i64 0]), (26, .int .i64 1)]) t_more (by kernel_rfl) ?_
  refine fk_a fun b11 fb11 sb11 => ?_
  refine fk_nil fun all => ?_
  refine t_sti 0 (cs := [.int .i64 0, .int .i64 0]) rfl rfl rfl rfl rfl rfl rfl rfl rfl ?_
  refine t_qz 1 [1, 2, 5, 6, 7, 9, 10, 11, 17, 18, 19] (σ' := [(1, .bool false), (2, .pointer (some ⟨b6, 0, none⟩)), (5, .pointer (some ⟨b7, 0, none⟩)), (6, .pointer (some ⟨b8, 0, none⟩)), (7, .func (.func 67) #[] #[.pointer (some ⟨b8, 0, none⟩), .pointer (some ⟨b7, 0, none⟩)]), (9, .pointer (some ⟨b9, 0, none⟩)), (10, .pointer (some ⟨b11, 0, none⟩)), (11, .int .i64 1), (17, .slice (some ⟨B0, 0, none⟩) 1 1), (18, .int .i64 1), (19, .int .i64 0)]) (by kernel_rfl) ?_
  refine t_end ?_
  show W _ _ _ _ _ _ _
  refine w_seq ?_
  refine w_reg fun all => ?_
  refine t_qz 1 [1, 2, 5, 6, 7, 9, 10, 11, 12, 17, 18, 19] (σ' := [(1, .bool false), (2, .pointer (some ⟨b6, 0, none⟩)), (5, .pointer (some ⟨b7, 0, none⟩)), (6, .pointer (some ⟨b8, 0, none⟩)), (7, .func (.func 67) #[] #[.pointer (some ⟨b8, 0, none⟩), .pointer (some ⟨b7, 0, none⟩)]), (9, .pointer (some ⟨b9, 0, none⟩)), (10, .pointer (some ⟨b11, 0, none⟩)), (11, .int .i64 1), (12, .int .i64 1), (17, .slice (some ⟨B0, 0, none⟩) 1 1), (18, .int .i64 1), (19, .int .i64 0)]) (by kernel_rfl) ?_
  refine t_end ?_
  show W _ _ _ _ _ _ _
  refine w_block ?_
  refine w_lun 10 ?_
  refine wl_step ?_
  refine w_seq ?_
  refine w_seq ?_
  refine w_reg fun all => ?_
  refine t_qz 3 [1, 2, 5, 6, 7, 9, 10, 11, 12, 17, 18, 19, 29] (σ' := [(1, .bool false), (2, .pointer (some ⟨b6, 0, none⟩)), (5, .pointer (some ⟨b7, 0, none⟩)), (6, .pointer (some ⟨b8, 0, none⟩)), (7, .func (.func 67) #[] #[.pointer (some ⟨b8, 0, none⟩), .pointer (some ⟨b7, 0, none⟩)]), (9, .pointer (some ⟨b9, 0, none⟩)), (10, .pointer (some ⟨b11, 0, none⟩)), (11, .int .i64 1), (12, .int .i64 1), (17, .slice (some ⟨B0, 0, none⟩) 1 1), (18, .int .i64 1), (19, .int .i64 0), (29, .bool true)]) (by kernel_rfl) ?_
  refine t_end ?_
  show W _ _ _ _ _ _ _
  refine w_cond rfl (fun _ => ?_) (fun c_ => by cases c_)
  show W _ _ _ _ _ _ _
  refine w_skip ?_
  show W _ _ _ _ _ _ _
  refine w_seq ?_
  refine w_block ?_
  refine w_reg fun all => ?_
  refine t_qz 1 [1, 2, 5, 6, 7, 9, 10, 11, 12, 17, 18, 19, 32] (σ' := [(1, .bool false), (2, .pointer (some ⟨b6, 0, none⟩)), (5, .pointer (some ⟨b7, 0, none⟩)), (6, .pointer (some ⟨b8, 0, none⟩)), (7, .func (.func 67) #[] #[.pointer (some ⟨b8, 0, none⟩), .pointer (some ⟨b7, 0, none⟩)]), (9, .pointer (some ⟨b9, 0, none⟩)), (10, .pointer (some ⟨b11, 0, none⟩)), (11, .int .i64 1), (12, .int .i64 1), (17, .slice (some ⟨B0, 0, none⟩) 1 1), (18, .int .i64 1), (19, .int .i64 0), (32, .func (.func 67) #[] #[.pointer (some ⟨b8, 0, none⟩), .pointer (some ⟨b7, 0, none⟩)])]) (by kernel_rfl) ?_
  refine t_v (.ldn rfl rfl rfl (.at 0 rfl rfl)) ?_
  refine t_v (.ldn rfl rfl rfl (.at 1 rfl rfl)) ?_
  obtain ⟨u_, h29, e⟩ := bind_of e
  refine t_qz 2 [1, 2, 5, 6, 7, 9, 10, 11, 12, 17, 18, 19, 32, 33, 34, 35, 36] (σ' := [(1, .bool false), (2, .pointer (some ⟨b6, 0, none⟩)), (5, .pointer (some ⟨b7, 0, none⟩)), (6, .pointer (some ⟨b8, 0, none⟩)), (7, .func (.func 67) #[] #[.pointer (some ⟨b8, 0, none⟩), .pointer (some ⟨b7, 0, none⟩)]), (9, .pointer (some ⟨b9, 0, none⟩)), (10, .pointer (some ⟨b11, 0, none⟩)), (11, .int .i64 1), (12, .int .i64 1), (17, .slice (some ⟨B0, 0, none⟩) 1 1), (18, .int .i64 1), (19, .int .i64 0), (32, .func (.func 67) #[] #[.pointer (some ⟨b8, 0, none⟩), .pointer (some ⟨b7, 0, none⟩)]), (33, .agg #[.int .i64 0, .int .i64 0]), (34, .agg #[.int .i64 1, .int .i64 5, .int .i64 0, .int .i64 0, .int .i64 0, .int .i64 0, .int .i64 0]), (35, .int .i64 1), (36, .int .i64 1)]) (by kernel_rfl) ?_
  refine t_v (.call (vs := [.agg #[.int .i64 0, .int .i64 0], .agg #[.int .i64 1, .int .i64 5, .int .i64 0, .int .i64 0, .int .i64 0, .int .i64 0, .int .i64 0], .int .i64 1, .int .i64 1]) rfl rfl (by kernel_rfl) (flatten_Point_v1.ok h29)) ?_
  obtain ⟨u_, h36, e⟩ := bind_of e
  refine t_clo (caps := #[.pointer (some ⟨b8, 0, none⟩), .pointer (some ⟨b7, 0, none⟩)]) (vs := [.agg #[.int .i64 5, .int .i64 0]]) (H1 := ([⟨b8, [.int .i64 0, .int .i64 0], 2⟩, ⟨b7, [.slice none 0 0], 1⟩] : List Own)) (F := ([⟨b11, [.int .i64 0, .int .i64 0], 2⟩, ⟨b9, [.int .i64 1, .int .i64 5, .int .i64 0, .int .i64 0, .int .i64 0, .int .i64 0, .int .i64 0], 7⟩, ⟨b6, [.int .i64 0, .int .i64 0, .slice (some ⟨B0, 0, none⟩) 1 1, .bool false], 4⟩, ⟨B0, [.int .i64 1, .int .i64 5, .int .i64 0, .int .i64 0, .int .i64 0, .int .i64 0, .int .i64 0], 7⟩] : List Own)) rfl rfl rfl (by kernel_rfl) (by kernel_rfl) (sel_perm (is := [2, 2]) (by kernel_rfl)) (flatten_Path_1_v1.ok h36) ?_
  rintro _ _ S_ ⟨N37, nN37, rfl, rfl, hS_⟩
  obtain rfl := hS_.symm
  refine t_keep [1, 2, 5, 6, 7, 9, 10, 11, 12, 17, 18, 19] (σ' := [(1, .bool false), (2, .pointer (some ⟨b6, 0, none⟩)), (5, .pointer (some ⟨b7, 0, none⟩)), (6, .pointer (some ⟨b8, 0, none⟩)), (7, .func (.func 67) #[] #[.pointer (some ⟨b8, 0, none⟩), .pointer (some ⟨b7, 0, none⟩)]), (9, .pointer (some ⟨b9, 0, none⟩)), (10, .pointer (some ⟨b11, 0, none⟩)), (11, .int .i64 1), (12, .int .i64 1), (17, .slice (some ⟨B0, 0, none⟩) 1 1), (18, .int .i64 1), (19, .int .i64 0)]) (by kernel_rfl) ?_
  refine t_end ?_
  show W _ _ _ _ _ _ _
  refine w_reg fun all => ?_
  refine t_qz 3 [1, 2, 5, 6, 7, 9, 10, 11, 12, 17, 18, 19] (σ' := [(1, .bool false), (2, .pointer (some ⟨b6, 0, none⟩)), (5, .pointer (some ⟨b7, 0, none⟩)), (6, .pointer (some ⟨b8, 0, none⟩)), (7, .func (.func 67) #[] #[.pointer (some ⟨b8, 0, none⟩), .pointer (some ⟨b7, 0, none⟩)]), (9, .pointer (some ⟨b9, 0, none⟩)), (10, .pointer (some ⟨b11, 0, none⟩)), (11, .int .i64 1), (12, .int .i64 2), (17, .slice (some ⟨B0, 0, none⟩) 1 1), (18, .int .i64 1), (19, .int .i64 0)]) (by kernel_rfl) ?_
  refine t_end ?_
  show WL _ _ _ _ _ _ _ _
  refine wl_step ?_
  refine w_seq ?_
  refine w_seq ?_
  refine w_reg fun all => ?_
  refine t_qz 3 [1, 2, 5, 6, 7, 9, 10, 11, 12, 17, 18, 19, 29] (σ' := [(1, .bool false), (2, .pointer (some ⟨b6, 0, none⟩)), (5, .pointer (some ⟨b7, 0, none⟩)), (6, .pointer (some ⟨b8, 0, none⟩)), (7, .func (.func 67) #[] #[.pointer (some ⟨b8, 0, none⟩), .pointer (some ⟨b7, 0, none⟩)]), (9, .pointer (some ⟨b9, 0, none⟩)), (10, .pointer (some ⟨b11, 0, none⟩)), (11, .int .i64 1), (12, .int .i64 2), (17, .slice (some ⟨B0, 0, none⟩) 1 1), (18, .int .i64 1), (19, .int .i64 0), (29, .bool false)]) (by kernel_rfl) ?_
  refine t_end ?_
  show W _ _ _ _ _ _ _
  refine w_cond rfl (fun c_ => by cases c_) (fun _ => ?_)
  show W _ _ _ _ _ _ _
  refine w_exit ?_
  show W _ _ _ _ _ _ _
  refine w_reg fun all => ?_
  refine t_qz 2 [1, 2, 5, 6, 7, 17, 18, 19] (σ' := [(1, .bool false), (2, .pointer (some ⟨b6, 0, none⟩)), (5, .pointer (some ⟨b7, 0, none⟩)), (6, .pointer (some ⟨b8, 0, none⟩)), (7, .func (.func 67) #[] #[.pointer (some ⟨b8, 0, none⟩), .pointer (some ⟨b7, 0, none⟩)]), (17, .slice (some ⟨B0, 0, none⟩) 1 1), (18, .int .i64 1), (19, .int .i64 1)]) (by kernel_rfl) ?_
  refine t_end ?_
  show WL _ _ _ _ _ _ _ _
  refine wl_step ?_
  refine w_seq ?_
  refine w_reg fun all => ?_
  refine t_qz 1 [1, 2, 5, 6, 7, 17, 18, 19, 20] (σ' := [(1, .bool false), (2, .pointer (some ⟨b6, 0, none⟩)), (5, .pointer (some ⟨b7, 0, none⟩)), (6, .pointer (some ⟨b8, 0, none⟩)), (7, .func (.func 67) #[] #[.pointer (some ⟨b8, 0, none⟩), .pointer (some ⟨b7, 0, none⟩)]), (17, .slice (some ⟨B0, 0, none⟩) 1 1), (18, .int .i64 1), (19, .int .i64 1), (20, .bool false)]) (by kernel_rfl) ?_
  refine t_end ?_
  show W _ _ _ _ _ _ _
  refine w_seq ?_
  refine w_cond rfl (fun c_ => by cases c_) (fun _ => ?_)
  show W _ _ _ _ _ _ _
  refine w_exit ?_
  show W _ _ _ _ _ _ _
  refine w_seq ?_
  refine w_seq ?_
  refine w_reg fun all => ?_
  refine t_qz 3 [2, 5, 7, 41, 42] (σ' := [(2, .pointer (some ⟨b6, 0, none⟩)), (5, .pointer (some ⟨b7, 0, none⟩)), (7, .func (.func 67) #[] #[.pointer (some ⟨b8, 0, none⟩), .pointer (some ⟨b7, 0, none⟩)]), (41, .bool false), (42, .pointer (some ⟨b6, 3, none⟩))]) (by kernel_rfl) ?_
  refine t_v (.ld1 rfl rfl rfl (.at 5 rfl rfl)) ?_
  refine t_qz 1 [2, 5, 7, 44] (σ' := [(2, .pointer (some ⟨b6, 0, none⟩)), (5, .pointer (some ⟨b7, 0, none⟩)), (7, .func (.func 67) #[] #[.pointer (some ⟨b8, 0, none⟩), .pointer (some ⟨b7, 0, none⟩)]), (44, .bool false)]) (by kernel_rfl) ?_
  refine t_end ?_
  show W _ _ _ _ _ _ _
  refine w_cond rfl (fun c_ => by cases c_) (fun _ => ?_)
  show W _ _ _ _ _ _ _
  refine w_skip ?_
  show W _ _ _ _ _ _ _
  refine w_seq ?_
  refine w_reg fun all => ?_
  refine t_v (.ld1 rfl rfl rfl (.at 2 rfl rfl)) ?_
  refine t_qz 1 [4] (σ' := [(4, .slice (some ⟨N37, 0, none⟩) 1 (nN37 / 4))]) (by kernel_rfl) ?_
  refine t_end ?_
  show W _ _ _ _ _ _ _
  refine w_ret ?_
  exact ⟨[.slice (some ⟨N37, 0, none⟩) 1 (nN37 / 4)], ([⟨N37, [.int .i64 0, .int .i64 0, .int .i64 5, .int .i64 0], nN37⟩, ⟨B0, [.int .i64 1, .int .i64 5, .int .i64 0, .int .i64 0, .int .i64 0, .int .i64 0, .int .i64 0], 7⟩] : List Own), S, ⟨rfl, trivial⟩, VS.sel [0, 5] (by kernel_rfl), N37, nN37, rfl, rfl, rfl⟩

/-- glyphiclaw21.first -/
def c26 : C :=
  (.seq (.reg [⟨(some 0), .mv (.const (.bool false)), none⟩])
  (.seq (.reg [⟨(some 2), .bld [(.int .i64 0), (.int .i64 0)] [(0, 1, (.const (.int .i64 5)))], none⟩,
     ⟨(some 3), .bld [(.int .i64 0), (.int .i64 0), (.int .i64 0), (.int .i64 0), (.int .i64 0), (.int .i64 0)] [(0, 2, (.tmp 2))], none⟩,
     ⟨(some 4), .bld [(.int .i64 0), (.int .i64 0), (.int .i64 0), (.int .i64 0), (.int .i64 0), (.int .i64 0), (.int .i64 0)] [(0, 1, (.const (.int .i64 1))), (1, 6, (.tmp 3))], none⟩,
     ⟨(some 1), .new [(.int .i64 0), (.int .i64 0), (.int .i64 0), (.int .i64 0), (.int .i64 0), (.int .i64 0), (.int .i64 0)], none⟩,
     ⟨none, .st 7 (.tmp 1) (.tmp 4), none⟩])
  (.seq (.reg [⟨(some 5), .bld [(.int .i64 0), (.int .i64 0)] [], none⟩,
     ⟨(some 6), .ld (some 7) (.tmp 1), none⟩,
     ⟨(some 7), .call 29 [(.tmp 5), (.tmp 6)], none⟩,
     ⟨(some 8), .bin .eql (.tmp 7) (.const (.int .i64 1)), none⟩,
     ⟨(some 9), .mv (.tmp 8), none⟩,
     ⟨(some 10), .ld (some 7) (.tmp 1), (some (9, true))⟩,
     ⟨(some 11), .bsl [(.int .i64 0), (.int .i64 0), (.int .i64 0), (.int .i64 0), (.int .i64 0), (.int .i64 0), (.int .i64 0)] 1 [(0, 7, (.tmp 10))], (some (9, true))⟩,
     ⟨(some 12), .bld [(.int .i64 0), (.int .i64 0), (.slice none 0 0), (.bool false)] [(2, 1, (.tmp 11))], (some (9, true))⟩,
     ⟨(some 13), .call 28 [(.tmp 12), (.const (.bool false))], (some (9, true))⟩,
     ⟨(some 14), .lns (.tmp 13), (some (9, true))⟩,
     ⟨(some 15), .bin .eql (.tmp 14) (.const (.int .i64 1)), (some (9, true))⟩,
     ⟨(some 16), .pk (.tmp 9) (.tmp 15) (.const (.bool false)), none⟩,
     ⟨(some 0), .mv (.tmp 16), none⟩])
  .ret)))
def glyphiclaw21_first.f  : Option (Bool) := (flatten_Count_v1.f).bind fun _ => ((flatten_Path_v1.f).bind fun _ => (some true))
theorem glyphiclaw21_first.ok {S : Seal}  {r0_ : Bool}(e : glyphiclaw21_first.f  = some r0_) :
    Cal Try.prog 26 [] [] S fun v H' S' => v = .bool r0_ ∧ H' = [] ∧ S' = S := by
  unfold glyphiclaw21_first.f at e
  refine cal_of (c := c26) (N := 17) Try.func26 rfl rfl (by kernel_rfl) (rs := [.t 0]) (by kernel_rfl) (Nat.le_of_ble_eq_true rfl) ?_
  unfold c26
  refine w_seq ?_
  refine w_reg fun all => ?_
  refine t_qz 1 [] (σ' := []) (by kernel_rfl) ?_
  refine t_end ?_
  show W _ _ _ _ _ _ _
  refine w_seq ?_
  refine w_reg fun all => ?_
  refine t_qz 3 [4] (σ' := [(4, .agg #[.int .i64 1, .int .i64 5, .int .i64 0, .int .i64 0, .int .i64 0, .int .i64 0, .int .i64 0])]) (by kernel_rfl) ?_
  refine t_a (.new rfl rfl) fun b1 fb1 sb1 => ?_
  refine t_sti 0 (cs := [.int .i64 1, .int .i64 5, .int .i64 0, .int .i64 0, .int .i64 0, .int .i64 0, .int .i64 0]) rfl rfl rfl rfl rfl rfl rfl rfl rfl ?_
  refine t_keep [1] (σ' := [(1, .pointer (some ⟨b1, 0, none⟩))]) (by kernel_rfl) ?_
  refine t_end ?_
  show W _ _ _ _ _ _ _
  refine w_seq ?_
  refine w_reg fun all => ?_
  refine t_qz 1 [1, 5] (σ' := [(1, .pointer (some ⟨b1, 0, none⟩)), (5, .agg #[.int .i64 0, .int .i64 0])]) (by kernel_rfl) ?_
  refine t_v (.ldn rfl rfl rfl (.at 0 rfl rfl)) ?_
  obtain ⟨u_, h4, e⟩ := bind_of e
  refine t_v (.call (vs := [.agg #[.int .i64 0, .int .i64 0], .agg #[.int .i64 1, .int .i64 5, .int .i64 0, .int .i64 0, .int .i64 0, .int .i64 0, .int .i64 0]]) rfl rfl (by kernel_rfl) (flatten_Count_v1.ok h4)) ?_
  refine t_qz 2 [1, 9] (σ' := [(1, .pointer (some ⟨b1, 0, none⟩)), (9, .bool true)]) (by kernel_rfl) ?_
  refine t_v (.ldn rfl rfl rfl (.at 0 rfl rfl)) ?_
  refine t_a (.bsl rfl rfl rfl rfl) fun b5 fb5 sb5 => ?_
  obtain ⟨u_, h38, e⟩ := bind_of e
  refine t_qz 1 [9, 12] (σ' := [(9, .bool true), (12, .agg #[.int .i64 0, .int .i64 0, .slice (some ⟨b5, 0, none⟩) 1 1, .bool false])]) (by kernel_rfl) ?_
  refine t_call (vs := [.agg #[.int .i64 0, .int .i64 0, .slice (some ⟨b5, 0, none⟩) 1 1, .bool false], .bool false]) (H1 := ([⟨b5, [.int .i64 1, .int .i64 5, .int .i64 0, .int .i64 0, .int .i64 0, .int .i64 0, .int .i64 0], 7⟩] : List Own)) (F := ([⟨b1, [.int .i64 1, .int .i64 5, .int .i64 0, .int .i64 0, .int .i64 0, .int .i64 0, .int .i64 0], 7⟩] : List Own)) rfl rfl (by kernel_rfl) (sel_perm (is := [0]) (by kernel_rfl)) (flatten_Path_v1.ok h38) ?_
  rintro _ _ S_ ⟨N39, nN39, rfl, rfl, hS_⟩
  obtain rfl := hS_.symm
  refine t_qz 4 [0] (σ' := [(0, .bool true)]) (by kernel_rfl) ?_
  refine t_end ?_
  show W _ _ _ _ _ _ _
  refine w_ret ?_
  obtain rfl := Option.some.inj e
  exact ⟨[.bool true], [], S, ⟨rfl, trivial⟩, VS.none, rfl, rfl, rfl⟩

/-- glyphicworld.Number -/
def c44 : C :=
  (.seq (.reg [⟨(some 4), .mv (.const (.int .i64 0)), none⟩])
  (.seq (.reg [⟨(some 6), .mv (.tmp 0), none⟩,
     ⟨(some 7), .mv (.tmp 1), none⟩,
     ⟨(some 8), .bin .rem (.tmp 6) (.tmp 7), none⟩,
     ⟨(some 5), .mv (.tmp 8), none⟩])
  (.seq (.seq (.reg [⟨(some 9), .mv (.tmp 5), none⟩,
      ⟨(some 10), .bin .lss (.tmp 9) (.const (.int .i64 0)), none⟩])
   (.cond (.tmp 10)
    (.reg [⟨(some 11), .mv (.tmp 5), none⟩,
       ⟨(some 12), .mv (.tmp 1), none⟩,
       ⟨(some 13), .bin .add (.tmp 11) (.tmp 12), none⟩,
       ⟨(some 5), .mv (.tmp 13), none⟩])
    .skip))
  (.seq (.reg [⟨(some 14), .mv (.tmp 5), none⟩,
     ⟨(some 4), .mv (.tmp 14), none⟩])
  .ret))))
def glyphicworld_Number.f (n0 : Int) (below1 : Int) : Option (Int) := if below1 = 0 then none else (if (Int.tmod n0 below1) < 0 then (some (wr64 ((Int.tmod n0 below1) + below1))) else (some (Int.tmod n0 below1)))
theorem glyphicworld_Number.ok {S : Seal} {n0 : Int} {below1 : Int} {r0_ : Int}(e : glyphicworld_Number.f n0 below1 = some r0_) :
    Cal Try.prog 44 [.int .i64 n0, .int .i64 below1] [] S fun v H' S' => v = .int .i64 r0_ ∧ H' = [] ∧ S' = S := by
  unfold glyphicworld_Number.f at e
  refine cal_of (c := c44) (N := 15) Try.func44 rfl rfl (by kernel_rfl) (rs := [.t 4]) (by kernel_rfl) (Nat.le_of_ble_eq_true rfl) ?_
  unfold c44
  refine w_seq ?_
  refine w_reg fun all => ?_
  refine t_qz 1 [0, 1] (σ' := [(0, .int .i64 n0), (1, .int .i64 below1)]) (by kernel_rfl) ?_
  refine t_end ?_
  show W _ _ _ _ _ _ _
  refine w_seq ?_
  refine w_reg fun all => ?_
  have c62 : ¬ below1 = 0 := by
    intro h_; rw [if_pos h_] at e; cases e
  rw [if_neg c62] at e
  refine t_qz 2 [1, 6, 7] (σ' := [(1, .int .i64 below1), (6, .int .i64 n0), (7, .int .i64 below1)]) (by kernel_rfl) ?_
  refine t_v (.quiet rfl (qv_rem rfl rfl c62)) ?_
  refine t_qz 1 [1, 5] (σ' := [(1, .int .i64 below1), (5, .int .i64 (Int.tmod n0 below1))]) (by kernel_rfl) ?_
  refine t_end ?_
  show W _ _ _ _ _ _ _
  refine w_seq ?_
  refine w_seq ?_
  refine w_reg fun all => ?_
  by_cases c63 : (Int.tmod n0 below1) < 0
  · rw [if_pos c63] at e
    have c63b : (decide ((Int.tmod n0 below1) < 0)) = true := decide_eq_true c63
    refine t_qz 1 [1, 5, 9] (σ' := [(1, .int .i64 below1), (5, .int .i64 (Int.tmod n0 below1)), (9, .int .i64 (Int.tmod n0 below1))]) (by kernel_rfl) ?_
    refine t_v (dv_quiet rfl (congrArg (fun t => some (Value.bool t)) c63b)) ?_
    refine t_keep [1, 5, 10] (σ' := [(1, .int .i64 below1), (5, .int .i64 (Int.tmod n0 below1)), (10, .bool true)]) (by kernel_rfl) ?_
    refine t_end ?_
    show W _ _ _ _ _ _ _
    refine w_cond rfl (fun _ => ?_) (fun c_ => by cases c_)
    show W _ _ _ _ _ _ _
    refine w_reg fun all => ?_
    refine t_qz 4 [5] (σ' := [(5, .int .i64 (wr64 ((Int.tmod n0 below1) + below1)))]) (by kernel_rfl) ?_
    refine t_end ?_
    show W _ _ _ _ _ _ _
    refine w_seq ?_
    refine w_reg fun all => ?_
    refine t_qz 2 [4] (σ' := [(4, .int .i64 (wr64 ((Int.tmod n0 below1) + below1)))]) (by kernel_rfl) ?_
    refine t_end ?_
    show W _ _ _ _ _ _ _
    refine w_ret ?_
    obtain rfl := Option.some.inj e
    exact ⟨[.int .i64 (wr64 ((Int.tmod n0 below1) + below1))], [], S, ⟨rfl, trivial⟩, VS.none, rfl, rfl, rfl⟩
  · rw [if_neg c63] at e
    have c63b : (decide ((Int.tmod n0 below1) < 0)) = false := decide_eq_false c63
    refine t_qz 1 [1, 5, 9] (σ' := [(1, .int .i64 below1), (5, .int .i64 (Int.tmod n0 below1)), (9, .int .i64 (Int.tmod n0 below1))]) (by kernel_rfl) ?_
    refine t_v (dv_quiet rfl (congrArg (fun t => some (Value.bool t)) c63b)) ?_
    refine t_keep [1, 5, 10] (σ' := [(1, .int .i64 below1), (5, .int .i64 (Int.tmod n0 below1)), (10, .bool false)]) (by kernel_rfl) ?_
    refine t_end ?_
    show W _ _ _ _ _ _ _
    refine w_cond rfl (fun c_ => by cases c_) (fun _ => ?_)
    show W _ _ _ _ _ _ _
    refine w_skip ?_
    show W _ _ _ _ _ _ _
    refine w_seq ?_
    refine w_reg fun all => ?_
    refine t_qz 2 [4] (σ' := [(4, .int .i64 (Int.tmod n0 below1))]) (by kernel_rfl) ?_
    refine t_end ?_
    show W _ _ _ _ _ _ _
    refine w_ret ?_
    obtain rfl := Option.some.inj e
    exact ⟨[.int .i64 (Int.tmod n0 below1)], [], S, ⟨rfl, trivial⟩, VS.none, rfl, rfl, rfl⟩

/-- (*glyphicmake.Seq).Next -/
def c37 : C :=
  (.seq (.reg [⟨(some 4), .mv (.const (.int .i64 0)), none⟩])
  (.seq (.reg [⟨(some 5), .mv (.const (.int .i64 0)), none⟩])
  (.seq (.seq (.drw [⟨(some 6), .mv (.tmp 0), none⟩,
      ⟨(some 7), .nck (.tmp 6), none⟩,
      ⟨(some 8), .pad 1 (.tmp 7), none⟩,
      ⟨(some 9), .ld none (.tmp 8), none⟩,
      ⟨(some 10), .mv (.tmp 0), none⟩,
      ⟨(some 11), .nck (.tmp 10), none⟩,
      ⟨(some 12), .pad 0 (.tmp 11), none⟩,
      ⟨(some 13), .ld none (.tmp 12), none⟩,
      ⟨(some 14), .lns (.tmp 13), none⟩,
      ⟨(some 15), .bin .lss (.tmp 9) (.tmp 14), none⟩] [[], [0], [1], [2], [], [4], [5], [6], [7], [3, 8]])
   (.cond (.tmp 15)
    (.drw [⟨(some 16), .mv (.tmp 0), none⟩,
       ⟨(some 17), .nck (.tmp 16), none⟩,
       ⟨(some 18), .pad 0 (.tmp 17), none⟩,
       ⟨(some 19), .ld none (.tmp 18), none⟩,
       ⟨(some 20), .mv (.tmp 0), none⟩,
       ⟨(some 21), .nck (.tmp 20), none⟩,
       ⟨(some 22), .pad 1 (.tmp 21), none⟩,
       ⟨(some 23), .ld none (.tmp 22), none⟩,
       ⟨(some 24), .ixs 1 (.tmp 19) (.tmp 23), none⟩,
       ⟨(some 25), .ld none (.tmp 24), none⟩,
       ⟨(some 5), .mv (.tmp 25), none⟩] [[], [0], [1], [2], [], [4], [5], [6], [3, 7], [8], [9, 0, 1, 2, 3, 4, 5, 6, 7, 8, 9]])
    .skip))
  (.seq (.reg [⟨(some 26), .mv (.tmp 0), none⟩,
     ⟨(some 27), .mv (.tmp 0), none⟩,
     ⟨(some 28), .nck (.tmp 27), none⟩,
     ⟨(some 29), .pad 1 (.tmp 28), none⟩,
     ⟨(some 30), .ld none (.tmp 29), none⟩,
     ⟨(some 31), .bin .add (.tmp 30) (.const (.int .i64 1)), none⟩,
     ⟨(some 32), .nck (.tmp 26), none⟩,
     ⟨(some 33), .pad 1 (.tmp 32), none⟩,
     ⟨none, .st 1 (.tmp 33) (.tmp 31), none⟩])
  (.seq (.reg [⟨(some 34), .mv (.tmp 5), none⟩,
     ⟨(some 35), .mv (.tmp 1), none⟩,
     ⟨(some 36), .call 44 [(.tmp 34), (.tmp 35)], none⟩,
     ⟨(some 4), .mv (.tmp 36), none⟩])
  .ret)))))
def glyphicmake_Seq_Next_v1.f (below1 : Int) (m0_0 : List (Int)) (m0_1 : Int) : Option (Int × Int) := (if m0_1 < (m0_0.length : Int) then ((lgt m0_0 m0_1).bind fun x70 => (some x70)) else (some 0) : Option (Int)).bind fun x80 => ((glyphicworld_Number.f x80 below1).bind fun t81 => (some (t81, wr64 (m0_1 + 1))))
theorem glyphicmake_Seq_Next_v1.ok {S : Seal} {B0 : Nat} {below1 : Int} {m0_0 : List (Int)} {m0_1 : Int} {r0_ : Int} {r1_ : Int}{a_m0_0 : Option Addr} {c_m0_0 : Nat} (h_m0_0 : SlE S E_i64 m0_0 a_m0_0) (e : glyphicmake_Seq_Next_v1.f below1 m0_0 m0_1 = some (r0_, r1_)) :
    Cal Try.prog 37 [.pointer (some ⟨B0, 0, none⟩), .int .i64 below1] ([⟨B0, [.slice a_m0_0 m0_0.length c_m0_0, .int .i64 m0_1], 2⟩] : List Own) S fun v H' S' => v = .int .i64 r0_ ∧ H' = ([⟨B0, [.slice a_m0_0 m0_0.length c_m0_0, .int .i64 r1_], 2⟩] : List Own) ∧ S' = S := by
  unfold glyphicmake_Seq_Next_v1.f at e
  refine cal_of (c := c37) (N := 37) Try.func37 rfl rfl (by kernel_rfl) (rs := [.t 4]) (by kernel_rfl) (Nat.le_of_ble_eq_true rfl) ?_
  unfold c37
  refine w_seq ?_
  refine w_reg fun all => ?_
  refine t_qz 1 [0, 1] (σ' := [(0, .pointer (some ⟨B0, 0, none⟩)), (1, .int .i64 below1)]) (by kernel_rfl) ?_
  refine t_end ?_
  show W _ _ _ _ _ _ _
  refine w_seq ?_
  refine w_reg fun all => ?_
  refine t_qz 1 [0, 1, 5] (σ' := [(0, .pointer (some ⟨B0, 0, none⟩)), (1, .int .i64 below1), (5, .int .i64 0)]) (by kernel_rfl) ?_
  refine t_end ?_
  show W _ _ _ _ _ _ _
  obtain ⟨x80, e67, e⟩ := bind_of e
  refine w_cut [0, 1, 5] (fun σ_ H_ S_ => [(0, .pointer (some ⟨B0, 0, none⟩)), (1, .int .i64 below1), (5, .int .i64 x80)] = σ_ ∧ ([⟨B0, [.slice a_m0_0 m0_0.length c_m0_0, .int .i64 m0_1], 2⟩] : List Own) = H_ ∧ S = S_) ?_ ?_
  · show W _ _ _ _ _ _ _
    refine w_seq ?_
    by_cases c69 : m0_1 < (m0_0.length : Int)
    · rw [if_pos c69] at e67
      have c69b : (decide (m0_1 < (m0_0.length : Int))) = true := decide_eq_true c69
      refine w_drwE mixed 10 [.v (.pointer (some ⟨B0, 0, none⟩)), .v (.pointer (some ⟨B0, 0, none⟩)), .v (.pointer (some ⟨B0, 1, none⟩)), .v (.int .i64 m0_1), .v (.pointer (some ⟨B0, 0, none⟩)), .v (.pointer (some ⟨B0, 0, none⟩)), .v (.pointer (some ⟨B0, 0, none⟩)), .v (.slice a_m0_0 m0_0.length c_m0_0), .v (.int .i64 (m0_0.length : Int)), .v (.bool true)] (by kernel_rfl) ?_ ?_
      · refine DI.sq 3 (by kernel_rfl) rfl ?_
        refine .cons (.ld1 rfl rfl rfl (.at 0 rfl rfl)) ?_
        refine DI.sq 3 (by kernel_rfl) rfl ?_
        refine .cons (.ld1 rfl rfl rfl (.at 0 rfl rfl)) ?_
        refine DI.sq 1 (by kernel_rfl) rfl ?_
        refine .cons (dv_quiet rfl (congrArg (fun t => some (Value.bool t)) c69b)) ?_
        exact .nil
      refine fk_q 10 [0, 1, 5, 15] (σ' := [(0, .pointer (some ⟨B0, 0, none⟩)), (1, .int .i64 below1), (5, .int .i64 0), (15, .bool true)]) t_more (by kernel_rfl) ?_
      refine fk_nil fun all => ?_
      refine t_keep [0, 1, 5, 15] (σ' := [(0, .pointer (some ⟨B0, 0, none⟩)), (1, .int .i64 below1), (5, .int .i64 0), (15, .bool true)]) (by kernel_rfl) ?_
      refine t_end ?_
      show W _ _ _ _ _ _ _
      refine w_cond rfl (fun _ => ?_) (fun c_ => by cases c_)
      show W _ _ _ _ _ _ _
      obtain ⟨x70, hx71, e67⟩ := bind_of e67
      obtain ⟨lb72, lo73, ll74, la75, lS76, lv77, lz78, lu79⟩ := sle_get (E := E_i64) h_m0_0 hx71
      refine w_drwE mixed 11 [.v (.pointer (some ⟨B0, 0, none⟩)), .v (.pointer (some ⟨B0, 0, none⟩)), .v (.pointer (some ⟨B0, 0, none⟩)), .v (.slice a_m0_0 m0_0.length c_m0_0), .v (.pointer (some ⟨B0, 0, none⟩)), .v (.pointer (some ⟨B0, 0, none⟩)), .v (.pointer (some ⟨B0, 1, none⟩)), .v (.int .i64 m0_1), .v (.pointer (some ⟨lb72, lo73 + (m0_1).toNat * 1 + 0, none⟩)), .v (.int .i64 x70), .v (.int .i64 x70)] (by kernel_rfl) ?_ ?_
      · refine DI.sq 3 (by kernel_rfl) rfl ?_
        refine .cons (.ld1 rfl rfl rfl (.at 0 rfl rfl)) ?_
        refine DI.sq 3 (by kernel_rfl) rfl ?_
        refine .cons (.ld1 rfl rfl rfl (.at 0 rfl rfl)) ?_
        refine .cons (.quiet rfl (ixs_sle rfl rfl la75 lz78 lu79)) ?_
        refine .cons (.ld1 rfl rfl rfl (.sealed lS76 (subl_at lv77 rfl))) ?_
        refine DI.sq 1 (by kernel_rfl) rfl ?_
        exact .nil
      refine fk_q 11 [0, 1, 5] (σ' := [(0, .pointer (some ⟨B0, 0, none⟩)), (1, .int .i64 below1), (5, .int .i64 x70)]) t_more (by kernel_rfl) ?_
      refine fk_nil fun all => ?_
      refine t_keep [0, 1, 5] (σ' := [(0, .pointer (some ⟨B0, 0, none⟩)), (1, .int .i64 below1), (5, .int .i64 x70)]) (by kernel_rfl) ?_
      refine t_end ?_
      obtain rfl := Option.some.inj e67
      exact ⟨([⟨B0, [.slice a_m0_0 m0_0.length c_m0_0, .int .i64 m0_1], 2⟩] : List Own), S, VS.sel [0] (by kernel_rfl), by kernel_rfl, rfl, rfl⟩
    · rw [if_neg c69] at e67
      have c69b : (decide (m0_1 < (m0_0.length : Int))) = false := decide_eq_false c69
      refine w_drwE mixed 10 [.v (.pointer (some ⟨B0, 0, none⟩)), .v (.pointer (some ⟨B0, 0, none⟩)), .v (.pointer (some ⟨B0, 1, none⟩)), .v (.int .i64 m0_1), .v (.pointer (some ⟨B0, 0, none⟩)), .v (.pointer (some ⟨B0, 0, none⟩)), .v (.pointer (some ⟨B0, 0, none⟩)), .v (.slice a_m0_0 m0_0.length c_m0_0), .v (.int .i64 (m0_0.length : Int)), .v (.bool false)] (by kernel_rfl) ?_ ?_
      · refine DI.sq 3 (by kernel_rfl) rfl ?_
        refine .cons (.ld1 rfl rfl rfl (.at 0 rfl rfl)) ?_
        refine DI.sq 3 (by kernel_rfl) rfl ?_
        refine .cons (.ld1 rfl rfl rfl (.at 0 rfl rfl)) ?_
        refine DI.sq 1 (by kernel_rfl) rfl ?_
        refine .cons (dv_quiet rfl (congrArg (fun t => some (Value.bool t)) c69b)) ?_
        exact .nil
      refine fk_q 10 [0, 1, 5, 15] (σ' := [(0, .pointer (some ⟨B0, 0, none⟩)), (1, .int .i64 below1), (5, .int .i64 0), (15, .bool false)]) t_more (by kernel_rfl) ?_
      refine fk_nil fun all => ?_
      refine t_keep [0, 1, 5, 15] (σ' := [(0, .pointer (some ⟨B0, 0, none⟩)), (1, .int .i64 below1), (5, .int .i64 0), (15, .bool false)]) (by kernel_rfl) ?_
      refine t_end ?_
      show W _ _ _ _ _ _ _
      refine w_cond rfl (fun c_ => by cases c_) (fun _ => ?_)
      show W _ _ _ _ _ _ _
      refine w_skip ?_
      obtain rfl := Option.some.inj e67
      exact ⟨([⟨B0, [.slice a_m0_0 m0_0.length c_m0_0, .int .i64 m0_1], 2⟩] : List Own), S, VS.sel [0] (by kernel_rfl), by kernel_rfl, rfl, rfl⟩
  · rintro σ_ H_ S_ ⟨rfl, rfl, rfl⟩
    refine w_seq ?_
    refine w_reg fun all => ?_
    refine t_qz 4 [1, 5, 26, 29] (σ' := [(1, .int .i64 below1), (5, .int .i64 x80), (26, .pointer (some ⟨B0, 0, none⟩)), (29, .pointer (some ⟨B0, 1, none⟩))]) (by kernel_rfl) ?_
    refine t_v (.ld1 rfl rfl rfl (.at 0 rfl rfl)) ?_
    refine t_qz 3 [1, 5, 31, 33] (σ' := [(1, .int .i64 below1), (5, .int .i64 x80), (31, .int .i64 (wr64 (m0_1 + 1))), (33, .pointer (some ⟨B0, 1, none⟩))]) (by kernel_rfl) ?_
    refine t_sti 0 (cs := [.slice a_m0_0 m0_0.length c_m0_0, .int .i64 (wr64 (m0_1 + 1))]) rfl rfl rfl rfl rfl rfl rfl rfl rfl ?_
    refine t_keep [1, 5] (σ' := [(1, .int .i64 below1), (5, .int .i64 x80)]) (by kernel_rfl) ?_
    refine t_end ?_
    show W _ _ _ _ _ _ _
    refine w_seq ?_
    refine w_reg fun all => ?_
    obtain ⟨t81, h82, e⟩ := bind_of e
    refine t_qz 2 [34, 35] (σ' := [(34, .int .i64 x80), (35, .int .i64 below1)]) (by kernel_rfl) ?_
    refine t_v (.call (vs := [.int .i64 x80, .int .i64 below1]) rfl rfl (by kernel_rfl) (glyphicworld_Number.ok h82)) ?_
    refine t_qz 1 [4] (σ' := [(4, .int .i64 t81)]) (by kernel_rfl) ?_
    refine t_end ?_
    show W _ _ _ _ _ _ _
    refine w_ret ?_
    simp only [Option.some.injEq, Prod.mk.injEq] at e
    obtain ⟨rfl, rfl⟩ := e
    exact ⟨[.int .i64 t81], ([⟨B0, [.slice a_m0_0 m0_0.length c_m0_0, .int .i64 (wr64 (m0_1 + 1))], 2⟩] : List Own), S, ⟨rfl, trivial⟩, VS.sel [0] (by kernel_rfl), rfl, rfl, rfl⟩

/-- glyphicmake.Point -/
def c18 : C :=
  (.seq (.reg [⟨(some 4), .new [(.int .i64 0), (.int .i64 0)], none⟩])
  (.seq (.reg [⟨(some 6), .mv (.tmp 0), none⟩,
     ⟨(some 7), .mv (.tmp 1), none⟩,
     ⟨(some 8), .bin .mul (.const (.int .i64 2)) (.tmp 7), none⟩,
     ⟨(some 9), .bin .add (.tmp 8) (.const (.int .i64 1)), none⟩,
     ⟨(some 10), .call 37 [(.tmp 6), (.tmp 9)], none⟩,
     ⟨(some 11), .mv (.tmp 1), none⟩,
     ⟨(some 12), .bin .sub (.tmp 10) (.tmp 11), none⟩,
     ⟨(some 5), .mv (.tmp 12), none⟩])
  (.seq (.reg [⟨(some 13), .mv (.tmp 5), none⟩,
     ⟨(some 14), .mv (.tmp 0), none⟩,
     ⟨(some 15), .mv (.tmp 1), none⟩,
     ⟨(some 16), .bin .mul (.const (.int .i64 2)) (.tmp 15), none⟩,
     ⟨(some 17), .bin .add (.tmp 16) (.const (.int .i64 1)), none⟩,
     ⟨(some 18), .call 37 [(.tmp 14), (.tmp 17)], none⟩,
     ⟨(some 19), .mv (.tmp 1), none⟩,
     ⟨(some 20), .bin .sub (.tmp 18) (.tmp 19), none⟩,
     ⟨(some 21), .bld [(.int .i64 0), (.int .i64 0)] [(0, 1, (.tmp 13)), (1, 1, (.tmp 20))], none⟩,
     ⟨none, .st 2 (.tmp 4) (.tmp 21), none⟩])
  .ret)))
def glyphicmake_Point_v1.f (far1 : Int) (m0_0 : List (Int)) (m0_1 : Int) : Option (Int × Int × Int) := (glyphicmake_Seq_Next_v1.f (wr64 ((wr64 (2 * far1)) + 1)) m0_0 m0_1).bind fun (t90, t91) => ((glyphicmake_Seq_Next_v1.f (wr64 ((wr64 (2 * far1)) + 1)) m0_0 t91).bind fun (t93, t94) => (some (wr64 (t90 - far1), wr64 (t93 - far1), t94)))
theorem glyphicmake_Point_v1.ok {S : Seal} {B0 : Nat} {far1 : Int} {m0_0 : List (Int)} {m0_1 : Int} {r0_ : Int} {r1_ : Int} {r2_ : Int}{a_m0_0 : Option Addr} {c_m0_0 : Nat} (h_m0_0 : SlE S E_i64 m0_0 a_m0_0) (e : glyphicmake_Point_v1.f far1 m0_0 m0_1 = some (r0_, r1_, r2_)) :
    Cal Try.prog 18 [.pointer (some ⟨B0, 0, none⟩), .int .i64 far1] ([⟨B0, [.slice a_m0_0 m0_0.length c_m0_0, .int .i64 m0_1], 2⟩] : List Own) S fun v H' S' => v = .agg #[.int .i64 r0_, .int .i64 r1_] ∧ H' = ([⟨B0, [.slice a_m0_0 m0_0.length c_m0_0, .int .i64 r2_], 2⟩] : List Own) ∧ S' = S := by
  unfold glyphicmake_Point_v1.f at e
  refine cal_of (c := c18) (N := 22) Try.func18 rfl rfl (by kernel_rfl) (rs := [.cn 2 4]) (by kernel_rfl) (Nat.le_of_ble_eq_true rfl) ?_
  unfold c18
  refine w_seq ?_
  refine w_reg fun all => ?_
  refine t_a (.new rfl rfl) fun b89 fb89 sb89 => ?_
  refine t_keep [0, 1, 4] (σ' := [(0, .pointer (some ⟨B0, 0, none⟩)), (1, .int .i64 far1), (4, .pointer (some ⟨b89, 0, none⟩))]) (by kernel_rfl) ?_
  refine t_end ?_
  show W _ _ _ _ _ _ _
  refine w_seq ?_
  refine w_reg fun all => ?_
  obtain ⟨⟨t90, t91⟩, h92, e⟩ := bind_of e
  try dsimp only at e
  refine t_qz 4 [0, 1, 4, 6, 9] (σ' := [(0, .pointer (some ⟨B0, 0, none⟩)), (1, .int .i64 far1), (4, .pointer (some ⟨b89, 0, none⟩)), (6, .pointer (some ⟨B0, 0, none⟩)), (9, .int .i64 (wr64 ((wr64 (2 * far1)) + 1)))]) (by kernel_rfl) ?_
  refine t_call (vs := [.pointer (some ⟨B0, 0, none⟩), .int .i64 (wr64 ((wr64 (2 * far1)) + 1))]) (H1 := ([⟨B0, [.slice a_m0_0 m0_0.length c_m0_0, .int .i64 m0_1], 2⟩] : List Own)) (F := ([⟨b89, [.int .i64 0, .int .i64 0], 2⟩] : List Own)) rfl rfl (by kernel_rfl) (sel_perm (is := [1]) (by kernel_rfl)) (glyphicmake_Seq_Next_v1.ok h_m0_0 h92) ?_
  rintro _ _ S_ ⟨rfl, rfl, hS_⟩
  obtain rfl := hS_.symm
  refine t_qz 3 [0, 1, 4, 5] (σ' := [(0, .pointer (some ⟨B0, 0, none⟩)), (1, .int .i64 far1), (4, .pointer (some ⟨b89, 0, none⟩)), (5, .int .i64 (wr64 (t90 - far1)))]) (by kernel_rfl) ?_
  refine t_end ?_
  show W _ _ _ _ _ _ _
  refine w_seq ?_
  refine w_reg fun all => ?_
  obtain ⟨⟨t93, t94⟩, h95, e⟩ := bind_of e
  try dsimp only at e
  refine t_qz 5 [1, 4, 13, 14, 17] (σ' := [(1, .int .i64 far1), (4, .pointer (some ⟨b89, 0, none⟩)), (13, .int .i64 (wr64 (t90 - far1))), (14, .pointer (some ⟨B0, 0, none⟩)), (17, .int .i64 (wr64 ((wr64 (2 * far1)) + 1)))]) (by kernel_rfl) ?_
  refine t_call (vs := [.pointer (some ⟨B0, 0, none⟩), .int .i64 (wr64 ((wr64 (2 * far1)) + 1))]) (H1 := ([⟨B0, [.slice a_m0_0 m0_0.length c_m0_0, .int .i64 t91], 2⟩] : List Own)) (F := ([⟨b89, [.int .i64 0, .int .i64 0], 2⟩] : List Own)) rfl rfl (by kernel_rfl) (sel_perm (is := [0]) (by kernel_rfl)) (glyphicmake_Seq_Next_v1.ok h_m0_0 h95) ?_
  rintro _ _ S_ ⟨rfl, rfl, hS_⟩
  obtain rfl := hS_.symm
  refine t_qz 3 [4, 21] (σ' := [(4, .pointer (some ⟨b89, 0, none⟩)), (21, .agg #[.int .i64 (wr64 (t90 - far1)), .int .i64 (wr64 (t93 - far1))])]) (by kernel_rfl) ?_
  refine t_sti 1 (cs := [.int .i64 (wr64 (t90 - far1)), .int .i64 (wr64 (t93 - far1))]) rfl rfl rfl rfl rfl rfl rfl rfl rfl ?_
  refine t_keep [4] (σ' := [(4, .pointer (some ⟨b89, 0, none⟩))]) (by kernel_rfl) ?_
  refine t_end ?_
  show W _ _ _ _ _ _ _
  refine w_ret ?_
  simp only [Option.some.injEq, Prod.mk.injEq] at e
  obtain ⟨rfl, rfl, rfl⟩ := e
  exact ⟨[.agg #[.int .i64 (wr64 (t90 - far1)), .int .i64 (wr64 (t93 - far1))]], ([⟨B0, [.slice a_m0_0 m0_0.length c_m0_0, .int .i64 t94], 2⟩] : List Own), S, ⟨⟨_, _, _, rfl, .at 1 rfl rfl, rfl⟩, trivial⟩, VS.sel [0] (by kernel_rfl), rfl, rfl, rfl⟩

/-- flatten.bend -/
def c68 : C :=
  (.seq (.reg [⟨(some 3), .box (.tmp 0), none⟩,
     ⟨(some 4), .box (.tmp 1), none⟩,
     ⟨(some 5), .box (.tmp 2), none⟩,
     ⟨(some 6), .mv (.const (.int .i64 0)), none⟩])
  (.seq (.drw [⟨(some 9), .pad 0 (.tmp 3), none⟩,
     ⟨(some 10), .ld none (.tmp 9), none⟩,
     ⟨(some 11), .pad 0 (.tmp 4), none⟩,
     ⟨(some 12), .ld none (.tmp 11), none⟩,
     ⟨(some 13), .bin .mul (.const (.int .i64 2)) (.tmp 12), none⟩,
     ⟨(some 14), .bin .sub (.tmp 10) (.tmp 13), none⟩,
     ⟨(some 15), .pad 0 (.tmp 5), none⟩,
     ⟨(some 16), .ld none (.tmp 15), none⟩,
     ⟨(some 17), .bin .add (.tmp 14) (.tmp 16), none⟩,
     ⟨(some 18), .pad 1 (.tmp 3), none⟩,
     ⟨(some 19), .ld none (.tmp 18), none⟩,
     ⟨(some 20), .pad 1 (.tmp 4), none⟩,
     ⟨(some 21), .ld none (.tmp 20), none⟩,
     ⟨(some 22), .bin .mul (.const (.int .i64 2)) (.tmp 21), none⟩,
     ⟨(some 23), .bin .sub (.tmp 19) (.tmp 22), none⟩,
     ⟨(some 24), .pad 1 (.tmp 5), none⟩,
     ⟨(some 25), .ld none (.tmp 24), none⟩,
     ⟨(some 26), .bin .add (.tmp 23) (.tmp 25), none⟩,
     ⟨(some 7), .mv (.tmp 17), none⟩,
     ⟨(some 8), .mv (.tmp 26), none⟩] [[], [0], [], [2], [3], [1, 4], [], [6], [5, 7], [], [9], [], [11], [12], [10, 13], [], [15], [14, 16], [8, 0, 1, 2, 3, 4, 5, 6, 7, 8], [17, 18, 0, 1, 2, 3, 4, 5, 6, 7, 8, 9, 10, 11, 12, 13, 14, 15, 16, 17, 18]])
  (.seq (.reg [⟨(some 27), .mv (.tmp 7), none⟩,
     ⟨(some 28), .mv (.tmp 7), none⟩,
     ⟨(some 29), .un .neg (.tmp 28), none⟩,
     ⟨(some 30), .mm true [(.tmp 27), (.tmp 29)], none⟩,
     ⟨(some 31), .mv (.tmp 8), none⟩,
     ⟨(some 32), .mv (.tmp 8), none⟩,
     ⟨(some 33), .un .neg (.tmp 32), none⟩,
     ⟨(some 34), .mm true [(.tmp 31), (.tmp 33)], none⟩,
     ⟨(some 35), .bin .add (.tmp 30) (.tmp 34), none⟩,
     ⟨(some 6), .mv (.tmp 35), none⟩])
  .ret)))
def flatten_bend.f (a0_X : Int) (a0_Y : Int) (b1_X : Int) (b1_Y : Int) (c2_X : Int) (c2_Y : Int) : Option (Int) := some (wr64 ((mx (wr64 ((wr64 (a0_X - (wr64 (2 * b1_X)))) + c2_X)) (wr64 (0 - (wr64 ((wr64 (a0_X - (wr64 (2 * b1_X)))) + c2_X))))) + (mx (wr64 ((wr64 (a0_Y - (wr64 (2 * b1_Y)))) + c2_Y)) (wr64 (0 - (wr64 ((wr64 (a0_Y - (wr64 (2 * b1_Y)))) + c2_Y)))))))
theorem flatten_bend.ok {S : Seal} {a0_X : Int} {a0_Y : Int} {b1_X : Int} {b1_Y : Int} {c2_X : Int} {c2_Y : Int} {r0_ : Int}(e : flatten_bend.f a0_X a0_Y b1_X b1_Y c2_X c2_Y = some r0_) :
    Cal Try.prog 68 [.agg #[.int .i64 a0_X, .int .i64 a0_Y], .agg #[.int .i64 b1_X, .int .i64 b1_Y], .agg #[.int .i64 c2_X, .int .i64 c2_Y]] [] S fun v H' S' => v = .int .i64 r0_ ∧ H' = [] ∧ S' = S := by
  unfold flatten_bend.f at e
  refine cal_of (c := c68) (N := 36) Try.func68 rfl rfl (by kernel_rfl) (rs := [.t 6]) (by kernel_rfl) (Nat.le_of_ble_eq_true rfl) ?_
  unfold c68
  refine w_seq ?_
  refine w_reg fun all => ?_
  refine t_a (.box rfl rfl rfl) fun b154 fb154 sb154 => ?_
  refine t_a (.box rfl rfl rfl) fun b155 fb155 sb155 => ?_
  refine t_a (.box rfl rfl rfl) fun b156 fb156 sb156 => ?_
  refine t_qz 1 [3, 4, 5] (σ' := [(3, .pointer (some ⟨b154, 0, none⟩)), (4, .pointer (some ⟨b155, 0, none⟩)), (5, .pointer (some ⟨b156, 0, none⟩))]) (by kernel_rfl) ?_
  refine t_end ?_
  show W _ _ _ _ _ _ _
  refine w_seq ?_
  refine w_drwE mixed 20 [.v (.pointer (some ⟨b154, 0, none⟩)), .v (.int .i64 a0_X), .v (.pointer (some ⟨b155, 0, none⟩)), .v (.int .i64 b1_X), .v (.int .i64 (wr64 (2 * b1_X))), .v (.int .i64 (wr64 (a0_X - (wr64 (2 * b1_X))))), .v (.pointer (some ⟨b156, 0, none⟩)), .v (.int .i64 c2_X), .v (.int .i64 (wr64 ((wr64 (a0_X - (wr64 (2 * b1_X)))) + c2_X))), .v (.pointer (some ⟨b154, 1, none⟩)), .v (.int .i64 a0_Y), .v (.pointer (some ⟨b155, 1, none⟩)), .v (.int .i64 b1_Y), .v (.int .i64 (wr64 (2 * b1_Y))), .v (.int .i64 (wr64 (a0_Y - (wr64 (2 * b1_Y))))), .v (.pointer (some ⟨b156, 1, none⟩)), .v (.int .i64 c2_Y), .v (.int .i64 (wr64 ((wr64 (a0_Y - (wr64 (2 * b1_Y)))) + c2_Y))), .v (.int .i64 (wr64 ((wr64 (a0_X - (wr64 (2 * b1_X)))) + c2_X))), .v (.int .i64 (wr64 ((wr64 (a0_Y - (wr64 (2 * b1_Y)))) + c2_Y)))] (by kernel_rfl) ?_ ?_
  · refine DI.sq 1 (by kernel_rfl) rfl ?_
    refine .cons (.ld1 rfl rfl rfl (.at 2 rfl rfl)) ?_
    refine DI.sq 1 (by kernel_rfl) rfl ?_
    refine .cons (.ld1 rfl rfl rfl (.at 1 rfl rfl)) ?_
    refine DI.sq 3 (by kernel_rfl) rfl ?_
    refine .cons (.ld1 rfl rfl rfl (.at 0 rfl rfl)) ?_
    refine DI.sq 2 (by kernel_rfl) rfl ?_
    refine .cons (.ld1 rfl rfl rfl (.at 2 rfl rfl)) ?_
    refine DI.sq 1 (by kernel_rfl) rfl ?_
    refine .cons (.ld1 rfl rfl rfl (.at 1 rfl rfl)) ?_
    refine DI.sq 3 (by kernel_rfl) rfl ?_
    refine .cons (.ld1 rfl rfl rfl (.at 0 rfl rfl)) ?_
    refine DI.sq 3 (by kernel_rfl) rfl ?_
    exact .nil
  refine fk_q 20 [7, 8] (σ' := [(7, .int .i64 (wr64 ((wr64 (a0_X - (wr64 (2 * b1_X)))) + c2_X))), (8, .int .i64 (wr64 ((wr64 (a0_Y - (wr64 (2 * b1_Y)))) + c2_Y)))]) t_more (by kernel_rfl) ?_
  refine fk_nil fun all => ?_
  refine t_keep [7, 8] (σ' := [(7, .int .i64 (wr64 ((wr64 (a0_X - (wr64 (2 * b1_X)))) + c2_X))), (8, .int .i64 (wr64 ((wr64 (a0_Y - (wr64 (2 * b1_Y)))) + c2_Y)))]) (by kernel_rfl) ?_
  refine t_end ?_
  show W _ _ _ _ _ _ _
  refine w_seq ?_
  refine w_reg fun all => ?_
  refine t_qz 10 [6] (σ' := [(6, .int .i64 (wr64 ((mx (wr64 ((wr64 (a0_X - (wr64 (2 * b1_X)))) + c2_X)) (wr64 (0 - (wr64 ((wr64 (a0_X - (wr64 (2 * b1_X)))) + c2_X))))) + (mx (wr64 ((wr64 (a0_Y - (wr64 (2 * b1_Y)))) + c2_Y)) (wr64 (0 - (wr64 ((wr64 (a0_Y - (wr64 (2 * b1_Y)))) + c2_Y))))))))]) (by kernel_rfl) ?_
  refine t_end ?_
  show W _ _ _ _ _ _ _
  refine w_ret ?_
  obtain rfl := Option.some.inj e
  exact ⟨[.int .i64 (wr64 ((mx (wr64 ((wr64 (a0_X - (wr64 (2 * b1_X)))) + c2_X)) (wr64 (0 - (wr64 ((wr64 (a0_X - (wr64 (2 * b1_X)))) + c2_X))))) + (mx (wr64 ((wr64 (a0_Y - (wr64 (2 * b1_Y)))) + c2_Y)) (wr64 (0 - (wr64 ((wr64 (a0_Y - (wr64 (2 * b1_Y)))) + c2_Y)))))))], [], S, ⟨rfl, trivial⟩, VS.none, rfl, rfl, rfl⟩

def flatten_Count.l0 : Nat → Int → Int → Option (Int)
  | 0, _, _ => none
  | k + 1, x164, x168 => if x164 > (wr64 ((wr64 (32 * x168)) * x168)) then (flatten_Count.l0 k x164 (wr64 (x168 * 2))) else (some x168)
def flatten_Count.f (k : Nat) (a0_X : Int) (a0_Y : Int) (s1_Kind : Int) (s1_P_0_X : Int) (s1_P_0_Y : Int) (s1_P_1_X : Int) (s1_P_1_Y : Int) (s1_P_2_X : Int) (s1_P_2_Y : Int) : Option (Int) := (if s1_Kind = 1 then (some (.inr 0)) else (if s1_Kind = 2 then ((flatten_bend.f a0_X a0_Y s1_P_0_X s1_P_0_Y s1_P_1_X s1_P_1_Y).bind fun t157 => (some (.inr t157))) else (if s1_Kind = 3 then ((flatten_bend.f a0_X a0_Y s1_P_0_X s1_P_0_Y s1_P_1_X s1_P_1_Y).bind fun t160 => ((flatten_bend.f s1_P_0_X s1_P_0_Y s1_P_1_X s1_P_1_Y s1_P_2_X s1_P_2_Y).bind fun t162 => (some (.inr (wr64 (3 * (mx t160 t162))))))) else (some (.inl 0)))) : Option ((Int) ⊕ (Int))).bind fun s_ => match s_ with | .inl q173 => some q173 | .inr x164 => ((flatten_Count.l0 k x164 1 : Option (Int)).bind fun x172 => (some x172))
theorem flatten_Count.ok {S : Seal} {k : Nat} {a0_X : Int} {a0_Y : Int} {s1_Kind : Int} {s1_P_0_X : Int} {s1_P_0_Y : Int} {s1_P_1_X : Int} {s1_P_1_Y : Int} {s1_P_2_X : Int} {s1_P_2_Y : Int} {r0_ : Int}(e : flatten_Count.f k a0_X a0_Y s1_Kind s1_P_0_X s1_P_0_Y s1_P_1_X s1_P_1_Y s1_P_2_X s1_P_2_Y = some r0_) :
    Cal Try.prog 29 [.agg #[.int .i64 a0_X, .int .i64 a0_Y], .agg #[.int .i64 s1_Kind, .int .i64 s1_P_0_X, .int .i64 s1_P_0_Y, .int .i64 s1_P_1_X, .int .i64 s1_P_1_Y, .int .i64 s1_P_2_X, .int .i64 s1_P_2_Y]] [] S fun v H' S' => v = .int .i64 r0_ ∧ H' = [] ∧ S' = S := by
  unfold flatten_Count.f at e
  refine cal_of (c := c29) (N := 52) Try.func29 rfl rfl (by kernel_rfl) (rs := [.t 4]) (by kernel_rfl) (Nat.le_of_ble_eq_true rfl) ?_
  unfold c29
  refine w_seq ?_
  refine w_reg fun all => ?_
  refine t_a (.box rfl rfl rfl) fun b150 fb150 sb150 => ?_
  refine t_a (.box rfl rfl rfl) fun b151 fb151 sb151 => ?_
  refine t_qz 1 [2, 3] (σ' := [(2, .pointer (some ⟨b150, 0, none⟩)), (3, .pointer (some ⟨b151, 0, none⟩))]) (by kernel_rfl) ?_
  refine t_end ?_
  show W _ _ _ _ _ _ _
  refine w_seq ?_
  refine w_reg fun all => ?_
  refine t_qz 1 [2, 3, 5] (σ' := [(2, .pointer (some ⟨b150, 0, none⟩)), (3, .pointer (some ⟨b151, 0, none⟩)), (5, .int .i64 0)]) (by kernel_rfl) ?_
  refine t_end ?_
  show W _ _ _ _ _ _ _
  obtain ⟨s154, e153, e⟩ := bind_of e
  refine w_cut [5] (fun σ_ H_ S_ => ∃ (x164 : Int), s154 = .inr x164 ∧ [(5, .int .i64 x164)] = σ_ ∧ ([⟨b151, [.int .i64 s1_Kind, .int .i64 s1_P_0_X, .int .i64 s1_P_0_Y, .int .i64 s1_P_1_X, .int .i64 s1_P_1_Y, .int .i64 s1_P_2_X, .int .i64 s1_P_2_Y], 7⟩, ⟨b150, [.int .i64 a0_X, .int .i64 a0_Y], 2⟩] : List Own) = H_ ∧ S = S_) ?_ ?_
  · show W _ _ _ _ _ _ _
    refine w_seq ?_
    refine w_reg fun all => ?_
    refine t_qz 1 [2, 3, 5, 7] (σ' := [(2, .pointer (some ⟨b150, 0, none⟩)), (3, .pointer (some ⟨b151, 0, none⟩)), (5, .int .i64 0), (7, .pointer (some ⟨b151, 0, none⟩))]) (by kernel_rfl) ?_
    refine t_v (.ld1 rfl rfl rfl (.at 0 rfl rfl)) ?_
    refine t_keep [2, 3, 5, 8] (σ' := [(2, .pointer (some ⟨b150, 0, none⟩)), (3, .pointer (some ⟨b151, 0, none⟩)), (5, .int .i64 0), (8, .int .i64 s1_Kind)]) (by kernel_rfl) ?_
    refine t_end ?_
    show W _ _ _ _ _ _ _
    refine w_block ?_
    refine w_seq ?_
    refine w_reg fun all => ?_
    by_cases c155 : s1_Kind = 1
    · rw [if_pos c155] at e153
      have c155b : (s1_Kind == 1) = true := beq_iff_eq.mpr c155
      refine t_v (dv_quiet rfl (congrArg (fun t => some (Value.bool t)) c155b)) ?_
      refine t_qz 1 [2, 3, 5, 8, 9] (σ' := [(2, .pointer (some ⟨b150, 0, none⟩)), (3, .pointer (some ⟨b151, 0, none⟩)), (5, .int .i64 0), (8, .int .i64 s1_Kind), (9, .bool true)]) (by kernel_rfl) ?_
      refine t_end ?_
      show W _ _ _ _ _ _ _
      refine w_cond rfl (fun _ => ?_) (fun c_ => by cases c_)
      show W _ _ _ _ _ _ _
      refine w_skip ?_
      obtain rfl := Option.some.inj e153
      exact ⟨([⟨b151, [.int .i64 s1_Kind, .int .i64 s1_P_0_X, .int .i64 s1_P_0_Y, .int .i64 s1_P_1_X, .int .i64 s1_P_1_Y, .int .i64 s1_P_2_X, .int .i64 s1_P_2_Y], 7⟩, ⟨b150, [.int .i64 a0_X, .int .i64 a0_Y], 2⟩] : List Own), S, VS.sel [0, 0] (by kernel_rfl), 0, rfl, by kernel_rfl, rfl, rfl⟩
    · rw [if_neg c155] at e153
      have c155b : (s1_Kind == 1) = false := beq_eq_false_iff_ne.mpr c155
      refine t_v (dv_quiet rfl (congrArg (fun t => some (Value.bool t)) c155b)) ?_
      refine t_qz 1 [2, 3, 5, 8, 9] (σ' := [(2, .pointer (some ⟨b150, 0, none⟩)), (3, .pointer (some ⟨b151, 0, none⟩)), (5, .int .i64 0), (8, .int .i64 s1_Kind), (9, .bool false)]) (by kernel_rfl) ?_
      refine t_end ?_
      show W _ _ _ _ _ _ _
      refine w_cond rfl (fun c_ => by cases c_) (fun _ => ?_)
      show W _ _ _ _ _ _ _
      refine w_seq ?_
      refine w_reg fun all => ?_
      by_cases c156 : s1_Kind = 2
      · rw [if_pos c156] at e153
        have c156b : (s1_Kind == 2) = true := beq_iff_eq.mpr c156
        refine t_v (dv_quiet rfl (congrArg (fun t => some (Value.bool t)) c156b)) ?_
        refine t_qz 1 [2, 3, 8, 11] (σ' := [(2, .pointer (some ⟨b150, 0, none⟩)), (3, .pointer (some ⟨b151, 0, none⟩)), (8, .int .i64 s1_Kind), (11, .bool true)]) (by kernel_rfl) ?_
        refine t_end ?_
        show W _ _ _ _ _ _ _
        refine w_cond rfl (fun _ => ?_) (fun c_ => by cases c_)
        show W _ _ _ _ _ _ _
        refine w_reg fun all => ?_
        refine t_v (.ldn rfl rfl rfl (.at 1 rfl rfl)) ?_
        refine t_qz 2 [3, 13, 15] (σ' := [(3, .pointer (some ⟨b151, 0, none⟩)), (13, .agg #[.int .i64 a0_X, .int .i64 a0_Y]), (15, .pointer (some ⟨b151, 1, none⟩))]) (by kernel_rfl) ?_
        refine t_v (.ldn rfl rfl rfl (.at 0 rfl rfl)) ?_
        refine t_qz 2 [13, 16, 18] (σ' := [(13, .agg #[.int .i64 a0_X, .int .i64 a0_Y]), (16, .agg #[.int .i64 s1_P_0_X, .int .i64 s1_P_0_Y]), (18, .pointer (some ⟨b151, 3, none⟩))]) (by kernel_rfl) ?_
        refine t_v (.ldn rfl rfl rfl (.at 0 rfl rfl)) ?_
        obtain ⟨t157, h158, e153⟩ := bind_of e153
        refine t_v (.call (vs := [.agg #[.int .i64 a0_X, .int .i64 a0_Y], .agg #[.int .i64 s1_P_0_X, .int .i64 s1_P_0_Y], .agg #[.int .i64 s1_P_1_X, .int .i64 s1_P_1_Y]]) rfl rfl (by kernel_rfl) (flatten_bend.ok h158)) ?_
        refine t_qz 1 [5] (σ' := [(5, .int .i64 t157)]) (by kernel_rfl) ?_
        refine t_end ?_
        obtain rfl := Option.some.inj e153
        exact ⟨([⟨b151, [.int .i64 s1_Kind, .int .i64 s1_P_0_X, .int .i64 s1_P_0_Y, .int .i64 s1_P_1_X, .int .i64 s1_P_1_Y, .int .i64 s1_P_2_X, .int .i64 s1_P_2_Y], 7⟩, ⟨b150, [.int .i64 a0_X, .int .i64 a0_Y], 2⟩] : List Own), S, VS.sel [0, 0] (by kernel_rfl), t157, rfl, by kernel_rfl, rfl, rfl⟩
      · rw [if_neg c156] at e153
        have c156b : (s1_Kind == 2) = false := beq_eq_false_iff_ne.mpr c156
        refine t_v (dv_quiet rfl (congrArg (fun t => some (Value.bool t)) c156b)) ?_
        refine t_qz 1 [2, 3, 8, 11] (σ' := [(2, .pointer (some ⟨b150, 0, none⟩)), (3, .pointer (some ⟨b151, 0, none⟩)), (8, .int .i64 s1_Kind), (11, .bool false)]) (by kernel_rfl) ?_
        refine t_end ?_
        show W _ _ _ _ _ _ _
        refine w_cond rfl (fun c_ => by cases c_) (fun _ => ?_)
        show W _ _ _ _ _ _ _
        refine w_seq ?_
        refine w_reg fun all => ?_
        by_cases c159 : s1_Kind = 3
        · rw [if_pos c159] at e153
          have c159b : (s1_Kind == 3) = true := beq_iff_eq.mpr c159
          refine t_v (dv_quiet rfl (congrArg (fun t => some (Value.bool t)) c159b)) ?_
          refine t_qz 1 [2, 3, 21] (σ' := [(2, .pointer (some ⟨b150, 0, none⟩)), (3, .pointer (some ⟨b151, 0, none⟩)), (21, .bool true)]) (by kernel_rfl) ?_
          refine t_end ?_
          show W _ _ _ _ _ _ _
          refine w_cond rfl (fun _ => ?_) (fun c_ => by cases c_)
          show W _ _ _ _ _ _ _
          obtain ⟨t160, h161, e153⟩ := bind_of e153
          obtain ⟨t162, h163, e153⟩ := bind_of e153
          refine w_drwE mixed 21 [.v (.agg #[.int .i64 a0_X, .int .i64 a0_Y]), .v (.pointer (some ⟨b151, 1, none⟩)), .v (.pointer (some ⟨b151, 1, none⟩)), .v (.agg #[.int .i64 s1_P_0_X, .int .i64 s1_P_0_Y]), .v (.pointer (some ⟨b151, 1, none⟩)), .v (.pointer (some ⟨b151, 3, none⟩)), .v (.agg #[.int .i64 s1_P_1_X, .int .i64 s1_P_1_Y]), .v (.int .i64 t160), .v (.pointer (some ⟨b151, 1, none⟩)), .v (.pointer (some ⟨b151, 1, none⟩)), .v (.agg #[.int .i64 s1_P_0_X, .int .i64 s1_P_0_Y]), .v (.pointer (some ⟨b151, 1, none⟩)), .v (.pointer (some ⟨b151, 3, none⟩)), .v (.agg #[.int .i64 s1_P_1_X, .int .i64 s1_P_1_Y]), .v (.pointer (some ⟨b151, 1, none⟩)), .v (.pointer (some ⟨b151, 5, none⟩)), .v (.agg #[.int .i64 s1_P_2_X, .int .i64 s1_P_2_Y]), .v (.int .i64 t162), .v (.int .i64 (mx t160 t162)), .v (.int .i64 (wr64 (3 * (mx t160 t162)))), .v (.int .i64 (wr64 (3 * (mx t160 t162))))] (by kernel_rfl) ?_ ?_
          · refine .cons (.ldn rfl rfl rfl (.at 1 rfl rfl)) ?_
            refine DI.sq 2 (by kernel_rfl) rfl ?_
            refine .cons (.ldn rfl rfl rfl (.at 0 rfl rfl)) ?_
            refine DI.sq 2 (by kernel_rfl) rfl ?_
            refine .cons (.ldn rfl rfl rfl (.at 0 rfl rfl)) ?_
            refine .cons (.call (vs := [.agg #[.int .i64 a0_X, .int .i64 a0_Y], .agg #[.int .i64 s1_P_0_X, .int .i64 s1_P_0_Y], .agg #[.int .i64 s1_P_1_X, .int .i64 s1_P_1_Y]]) rfl rfl (by kernel_rfl) (flatten_bend.ok h161)) ?_
            refine DI.sq 2 (by kernel_rfl) rfl ?_
            refine .cons (.ldn rfl rfl rfl (.at 0 rfl rfl)) ?_
            refine DI.sq 2 (by kernel_rfl) rfl ?_
            refine .cons (.ldn rfl rfl rfl (.at 0 rfl rfl)) ?_
            refine DI.sq 2 (by kernel_rfl) rfl ?_
            refine .cons (.ldn rfl rfl rfl (.at 0 rfl rfl)) ?_
            refine .cons (.call (vs := [.agg #[.int .i64 s1_P_0_X, .int .i64 s1_P_0_Y], .agg #[.int .i64 s1_P_1_X, .int .i64 s1_P_1_Y], .agg #[.int .i64 s1_P_2_X, .int .i64 s1_P_2_Y]]) rfl rfl (by kernel_rfl) (flatten_bend.ok h163)) ?_
            refine DI.sq 3 (by kernel_rfl) rfl ?_
            exact .nil
          refine fk_q 21 [5] (σ' := [(5, .int .i64 (wr64 (3 * (mx t160 t162))))]) t_more (by kernel_rfl) ?_
          refine fk_nil fun all => ?_
          refine t_keep [5] (σ' := [(5, .int .i64 (wr64 (3 * (mx t160 t162))))]) (by kernel_rfl) ?_
          refine t_end ?_
          obtain rfl := Option.some.inj e153
          exact ⟨([⟨b151, [.int .i64 s1_Kind, .int .i64 s1_P_0_X, .int .i64 s1_P_0_Y, .int .i64 s1_P_1_X, .int .i64 s1_P_1_Y, .int .i64 s1_P_2_X, .int .i64 s1_P_2_Y], 7⟩, ⟨b150, [.int .i64 a0_X, .int .i64 a0_Y], 2⟩] : List Own), S, VS.sel [0, 0] (by kernel_rfl), wr64 (3 * (mx t160 t162)), rfl, by kernel_rfl, rfl, rfl⟩
        · rw [if_neg c159] at e153
          have c159b : (s1_Kind == 3) = false := beq_eq_false_iff_ne.mpr c159
          refine t_v (dv_quiet rfl (congrArg (fun t => some (Value.bool t)) c159b)) ?_
          refine t_qz 1 [2, 3, 21] (σ' := [(2, .pointer (some ⟨b150, 0, none⟩)), (3, .pointer (some ⟨b151, 0, none⟩)), (21, .bool false)]) (by kernel_rfl) ?_
          refine t_end ?_
          show W _ _ _ _ _ _ _
          refine w_cond rfl (fun c_ => by cases c_) (fun _ => ?_)
          show W _ _ _ _ _ _ _
          refine w_seq ?_
          refine w_reg fun all => ?_
          refine t_qz 1 [4] (σ' := [(4, .int .i64 0)]) (by kernel_rfl) ?_
          refine t_end ?_
          show W _ _ _ _ _ _ _
          refine w_ret ?_
          obtain rfl := Option.some.inj e153
          obtain rfl := Option.some.inj e
          exact ⟨[.int .i64 0], [], S, ⟨rfl, trivial⟩, VS.none, rfl, rfl, rfl⟩
  · rintro σ_ H_ S_ ⟨x164, rfl, rfl, rfl, rfl⟩
    dsimp only at e
    refine w_seq ?_
    refine w_reg fun all => ?_
    refine t_qz 1 [5, 6] (σ' := [(5, .int .i64 x164), (6, .int .i64 1)]) (by kernel_rfl) ?_
    refine t_end ?_
    show W _ _ _ _ _ _ _
    obtain ⟨x172, e166, e⟩ := bind_of e
    refine w_cut [6] (fun σ_ H_ S_ => [(6, .int .i64 x172)] = σ_ ∧ ([⟨b151, [.int .i64 s1_Kind, .int .i64 s1_P_0_X, .int .i64 s1_P_0_Y, .int .i64 s1_P_1_X, .int .i64 s1_P_1_Y, .int .i64 s1_P_2_X, .int .i64 s1_P_2_Y], 7⟩, ⟨b150, [.int .i64 a0_X, .int .i64 a0_Y], 2⟩] : List Own) = H_ ∧ S = S_) ?_ ?_
    · show W _ _ _ _ _ _ _
      refine w_block ?_
      refine w_kp [5, 6] (σ' := [(5, .int .i64 x164), (6, .int .i64 1)]) (by kernel_rfl) ?_
      refine w_loop (fun n_ σ_ H_ S_ => ∃ (x168 : Int), [(5, .int .i64 x164), (6, .int .i64 x168)] = σ_ ∧ ([⟨b151, [.int .i64 s1_Kind, .int .i64 s1_P_0_X, .int .i64 s1_P_0_Y, .int .i64 s1_P_1_X, .int .i64 s1_P_1_Y, .int .i64 s1_P_2_X, .int .i64 s1_P_2_Y], 7⟩, ⟨b150, [.int .i64 a0_X, .int .i64 a0_Y], 2⟩] : List Own) = H_ ∧ S = S_ ∧ flatten_Count.l0 n_ x164 x168 = some x172) _ ⟨1, rfl, rfl, rfl, e166⟩ ?_
      rintro n171 σ_ H_ S_ ⟨x168, rfl, rfl, rfl, e166⟩
      cases n171 with
      | zero => rw [flatten_Count.l0.eq_1] at e166; cases e166
      | succ k_ =>
        rw [flatten_Count.l0.eq_2] at e166
        refine w_seq ?_
        refine w_seq ?_
        refine w_reg fun all => ?_
        by_cases c169 : x164 > (wr64 ((wr64 (32 * x168)) * x168))
        · rw [if_pos c169] at e166
          have c169b : (decide (x164 > (wr64 ((wr64 (32 * x168)) * x168)))) = true := decide_eq_true c169
          refine t_qz 5 [5, 6, 43, 47] (σ' := [(5, .int .i64 x164), (6, .int .i64 x168), (43, .int .i64 x164), (47, .int .i64 (wr64 ((wr64 (32 * x168)) * x168)))]) (by kernel_rfl) ?_
          refine t_v (dv_quiet rfl (congrArg (fun t => some (Value.bool t)) c169b)) ?_
          refine t_keep [5, 6, 48] (σ' := [(5, .int .i64 x164), (6, .int .i64 x168), (48, .bool true)]) (by kernel_rfl) ?_
          refine t_end ?_
          show W _ _ _ _ _ _ _
          refine w_cond rfl (fun _ => ?_) (fun c_ => by cases c_)
          show W _ _ _ _ _ _ _
          refine w_skip ?_
          show W _ _ _ _ _ _ _
          refine w_block ?_
          refine w_reg fun all => ?_
          refine t_qz 3 [5, 6] (σ' := [(5, .int .i64 x164), (6, .int .i64 (wr64 (x168 * 2)))]) (by kernel_rfl) ?_
          refine t_end ?_
          exact ⟨k_, Nat.lt_succ_self _, [(5, .int .i64 x164), (6, .int .i64 (wr64 (x168 * 2)))], ([⟨b151, [.int .i64 s1_Kind, .int .i64 s1_P_0_X, .int .i64 s1_P_0_Y, .int .i64 s1_P_1_X, .int .i64 s1_P_1_Y, .int .i64 s1_P_2_X, .int .i64 s1_P_2_Y], 7⟩, ⟨b150, [.int .i64 a0_X, .int .i64 a0_Y], 2⟩] : List Own), S, keep_sub [5, 6] (by kernel_rfl), VS.sel [0, 0] (by kernel_rfl), wr64 (x168 * 2), rfl, rfl, rfl, e166⟩
        · rw [if_neg c169] at e166
          have c169b : (decide (x164 > (wr64 ((wr64 (32 * x168)) * x168)))) = false := decide_eq_false c169
          refine t_qz 5 [5, 6, 43, 47] (σ' := [(5, .int .i64 x164), (6, .int .i64 x168), (43, .int .i64 x164), (47, .int .i64 (wr64 ((wr64 (32 * x168)) * x168)))]) (by kernel_rfl) ?_
          refine t_v (dv_quiet rfl (congrArg (fun t => some (Value.bool t)) c169b)) ?_
          refine t_keep [5, 6, 48] (σ' := [(5, .int .i64 x164), (6, .int .i64 x168), (48, .bool false)]) (by kernel_rfl) ?_
          refine t_end ?_
          show W _ _ _ _ _ _ _
          refine w_cond rfl (fun c_ => by cases c_) (fun _ => ?_)
          show W _ _ _ _ _ _ _
          refine w_exit ?_
          obtain rfl := Option.some.inj e166
          exact ⟨([⟨b151, [.int .i64 s1_Kind, .int .i64 s1_P_0_X, .int .i64 s1_P_0_Y, .int .i64 s1_P_1_X, .int .i64 s1_P_1_Y, .int .i64 s1_P_2_X, .int .i64 s1_P_2_Y], 7⟩, ⟨b150, [.int .i64 a0_X, .int .i64 a0_Y], 2⟩] : List Own), S, VS.sel [0, 0] (by kernel_rfl), by kernel_rfl, rfl, rfl⟩
    · rintro σ_ H_ S_ ⟨rfl, rfl, rfl⟩
      refine w_seq ?_
      refine w_reg fun all => ?_
      refine t_qz 2 [4] (σ' := [(4, .int .i64 x172)]) (by kernel_rfl) ?_
      refine t_end ?_
      show W _ _ _ _ _ _ _
      refine w_ret ?_
      obtain rfl := Option.some.inj e
      exact ⟨[.int .i64 x172], [], S, ⟨rfl, trivial⟩, VS.none, rfl, rfl, rfl⟩

def flatten_points_v2.f (s0_1 : Int) (s0_2 : Int) (s0_3 : Int) (s0_4 : Int) (s0_5 : Int) (s0_6 : Int) : Option (Int × Int × Int × Int × Int × Int × Int) := some (1, s0_1, s0_2, s0_3, s0_4, s0_5, s0_6)
theorem flatten_points_v2.ok {S : Seal} {s0_1 : Int} {s0_2 : Int} {s0_3 : Int} {s0_4 : Int} {s0_5 : Int} {s0_6 : Int} {r0_ : Int} {r1_ : Int} {r2_ : Int} {r3_ : Int} {r4_ : Int} {r5_ : Int} {r6_ : Int}(e : flatten_points_v2.f s0_1 s0_2 s0_3 s0_4 s0_5 s0_6 = some (r0_, r1_, r2_, r3_, r4_, r5_, r6_)) :
    Cal Try.prog 70 [.agg #[.int .i64 1, .int .i64 s0_1, .int .i64 s0_2, .int .i64 s0_3, .int .i64 s0_4, .int .i64 s0_5, .int .i64 s0_6]] [] S fun v H' S' => ∃ (N0_ : Nat) , v = .slice (some ⟨N0_, 1, none⟩) 1 3 ∧ H' = ([⟨N0_, [.int .i64 r0_, .int .i64 r1_, .int .i64 r2_, .int .i64 r3_, .int .i64 r4_, .int .i64 r5_, .int .i64 r6_], 7⟩] : List Own) ∧ S' = S := by
  unfold flatten_points_v2.f at e
  refine cal_of (c := c70) (N := 15) Try.func70 rfl rfl (by kernel_rfl) (rs := [.t 2]) (by kernel_rfl) (Nat.le_of_ble_eq_true rfl) ?_
  unfold c70
  refine w_seq ?_
  refine w_reg fun all => ?_
  refine t_a (.box rfl rfl rfl) fun b161 fb161 sb161 => ?_
  refine t_qz 1 [1] (σ' := [(1, .pointer (some ⟨b161, 0, none⟩))]) (by kernel_rfl) ?_
  refine t_end ?_
  show W _ _ _ _ _ _ _
  refine w_seq ?_
  refine w_seq ?_
  refine w_reg fun all => ?_
  refine t_qz 1 [1, 3] (σ' := [(1, .pointer (some ⟨b161, 0, none⟩)), (3, .pointer (some ⟨b161, 0, none⟩))]) (by kernel_rfl) ?_
  refine t_v (.ld1 rfl rfl rfl (.at 0 rfl rfl)) ?_
  refine t_qz 3 [1, 6, 7] (σ' := [(1, .pointer (some ⟨b161, 0, none⟩)), (6, .bool false), (7, .pointer (some ⟨b161, 0, none⟩))]) (by kernel_rfl) ?_
  refine t_v (.ld1 rfl rfl rfl (.at 0 rfl rfl)) ?_
  refine t_qz 2 [1, 10] (σ' := [(1, .pointer (some ⟨b161, 0, none⟩)), (10, .bool false)]) (by kernel_rfl) ?_
  refine t_end ?_
  show W _ _ _ _ _ _ _
  refine w_cond rfl (fun c_ => by cases c_) (fun _ => ?_)
  show W _ _ _ _ _ _ _
  refine w_skip ?_
  show W _ _ _ _ _ _ _
  refine w_seq ?_
  refine w_reg fun all => ?_
  refine t_qz 2 [11, 12] (σ' := [(11, .pointer (some ⟨b161, 1, none⟩)), (12, .pointer (some ⟨b161, 0, none⟩))]) (by kernel_rfl) ?_
  refine t_v (.ld1 rfl rfl rfl (.at 0 rfl rfl)) ?_
  refine t_qz 2 [2] (σ' := [(2, .slice (some ⟨b161, 1, none⟩) 1 3)]) (by kernel_rfl) ?_
  refine t_end ?_
  show W _ _ _ _ _ _ _
  refine w_ret ?_
  simp only [Option.some.injEq, Prod.mk.injEq] at e
  obtain ⟨rfl, rfl, rfl, rfl, rfl, rfl, rfl⟩ := e
  exact ⟨[.slice (some ⟨b161, 1, none⟩) 1 3], ([⟨b161, [.int .i64 1, .int .i64 s0_1, .int .i64 s0_2, .int .i64 s0_3, .int .i64 s0_4, .int .i64 s0_5, .int .i64 s0_6], 7⟩] : List Own), S, ⟨rfl, trivial⟩, VS.sel [0] (by kernel_rfl), b161, rfl, rfl, rfl⟩

def fixed_Down.f (a0 : Int) (b1 : Int) : Option (Int) := if b1 < 1 then (some 0) else (if b1 = 0 then none else (if (Int.tmod a0 b1) < 0 then (some (wr64 ((wr64 (Int.tdiv a0 b1)) - 1))) else (some (wr64 (Int.tdiv a0 b1)))))
theorem fixed_Down.ok {S : Seal} {a0 : Int} {b1 : Int} {r0_ : Int}(e : fixed_Down.f a0 b1 = some r0_) :
    Cal Try.prog 113 [.int .i64 a0, .int .i64 b1] [] S fun v H' S' => v = .int .i64 r0_ ∧ H' = [] ∧ S' = S := by
  unfold fixed_Down.f at e
  refine cal_of (c := c113) (N := 18) Try.func113 rfl rfl (by kernel_rfl) (rs := [.t 4]) (by kernel_rfl) (Nat.le_of_ble_eq_true rfl) ?_
  unfold c113
  refine w_seq ?_
  refine w_reg fun all => ?_
  refine t_qz 1 [0, 1] (σ' := [(0, .int .i64 a0), (1, .int .i64 b1)]) (by kernel_rfl) ?_
  refine t_end ?_
  show W _ _ _ _ _ _ _
  refine w_seq ?_
  refine w_seq ?_
  refine w_reg fun all => ?_
  by_cases c177 : b1 < 1
  · rw [if_pos c177] at e
    have c177b : (decide (b1 < 1)) = true := decide_eq_true c177
    refine t_qz 1 [0, 1, 6] (σ' := [(0, .int .i64 a0), (1, .int .i64 b1), (6, .int .i64 b1)]) (by kernel_rfl) ?_
    refine t_v (dv_quiet rfl (congrArg (fun t => some (Value.bool t)) c177b)) ?_
    refine t_keep [0, 1, 7] (σ' := [(0, .int .i64 a0), (1, .int .i64 b1), (7, .bool true)]) (by kernel_rfl) ?_
    refine t_end ?_
    show W _ _ _ _ _ _ _
    refine w_cond rfl (fun _ => ?_) (fun c_ => by cases c_)
    show W _ _ _ _ _ _ _
    refine w_seq ?_
    refine w_reg fun all => ?_
    refine t_qz 1 [4] (σ' := [(4, .int .i64 0)]) (by kernel_rfl) ?_
    refine t_end ?_
    show W _ _ _ _ _ _ _
    refine w_ret ?_
    obtain rfl := Option.some.inj e
    exact ⟨[.int .i64 0], [], S, ⟨rfl, trivial⟩, VS.none, rfl, rfl, rfl⟩
  · rw [if_neg c177] at e
    have c177b : (decide (b1 < 1)) = false := decide_eq_false c177
    refine t_qz 1 [0, 1, 6] (σ' := [(0, .int .i64 a0), (1, .int .i64 b1), (6, .int .i64 b1)]) (by kernel_rfl) ?_
    refine t_v (dv_quiet rfl (congrArg (fun t => some (Value.bool t)) c177b)) ?_
    refine t_keep [0, 1, 7] (σ' := [(0, .int .i64 a0), (1, .int .i64 b1), (7, .bool false)]) (by kernel_rfl) ?_
    refine t_end ?_
    show W _ _ _ _ _ _ _
    refine w_cond rfl (fun c_ => by cases c_) (fun _ => ?_)
    show W _ _ _ _ _ _ _
    refine w_skip ?_
    show W _ _ _ _ _ _ _
    refine w_seq ?_
    refine w_reg fun all => ?_
    have c178 : ¬ b1 = 0 := by
      intro h_; rw [if_pos h_] at e; cases e
    rw [if_neg c178] at e
    refine t_qz 2 [0, 1, 8, 9] (σ' := [(0, .int .i64 a0), (1, .int .i64 b1), (8, .int .i64 a0), (9, .int .i64 b1)]) (by kernel_rfl) ?_
    refine t_v (.quiet rfl (qv_quo rfl rfl c178)) ?_
    refine t_qz 1 [0, 1, 5] (σ' := [(0, .int .i64 a0), (1, .int .i64 b1), (5, .int .i64 (wr64 (Int.tdiv a0 b1)))]) (by kernel_rfl) ?_
    refine t_end ?_
    show W _ _ _ _ _ _ _
    refine w_seq ?_
    refine w_seq ?_
    refine w_reg fun all => ?_
    refine t_qz 2 [5, 11, 12] (σ' := [(5, .int .i64 (wr64 (Int.tdiv a0 b1))), (11, .int .i64 a0), (12, .int .i64 b1)]) (by kernel_rfl) ?_
    refine t_v (.quiet rfl (qv_rem rfl rfl c178)) ?_
    by_cases c179 : (Int.tmod a0 b1) < 0
    · rw [if_pos c179] at e
      have c179b : (decide ((Int.tmod a0 b1) < 0)) = true := decide_eq_true c179
      refine t_v (dv_quiet rfl (congrArg (fun t => some (Value.bool t)) c179b)) ?_
      refine t_keep [5, 14] (σ' := [(5, .int .i64 (wr64 (Int.tdiv a0 b1))), (14, .bool true)]) (by kernel_rfl) ?_
      refine t_end ?_
      show W _ _ _ _ _ _ _
      refine w_cond rfl (fun _ => ?_) (fun c_ => by cases c_)
      show W _ _ _ _ _ _ _
      refine w_reg fun all => ?_
      refine t_qz 3 [5] (σ' := [(5, .int .i64 (wr64 ((wr64 (Int.tdiv a0 b1)) - 1)))]) (by kernel_rfl) ?_
      refine t_end ?_
      show W _ _ _ _ _ _ _
      refine w_seq ?_
      refine w_reg fun all => ?_
      refine t_qz 2 [4] (σ' := [(4, .int .i64 (wr64 ((wr64 (Int.tdiv a0 b1)) - 1)))]) (by kernel_rfl) ?_
      refine t_end ?_
      show W _ _ _ _ _ _ _
      refine w_ret ?_
      obtain rfl := Option.some.inj e
      exact ⟨[.int .i64 (wr64 ((wr64 (Int.tdiv a0 b1)) - 1))], [], S, ⟨rfl, trivial⟩, VS.none, rfl, rfl, rfl⟩
    · rw [if_neg c179] at e
      have c179b : (decide ((Int.tmod a0 b1) < 0)) = false := decide_eq_false c179
      refine t_v (dv_quiet rfl (congrArg (fun t => some (Value.bool t)) c179b)) ?_
      refine t_keep [5, 14] (σ' := [(5, .int .i64 (wr64 (Int.tdiv a0 b1))), (14, .bool false)]) (by kernel_rfl) ?_
      refine t_end ?_
      show W _ _ _ _ _ _ _
      refine w_cond rfl (fun c_ => by cases c_) (fun _ => ?_)
      show W _ _ _ _ _ _ _
      refine w_skip ?_
      show W _ _ _ _ _ _ _
      refine w_seq ?_
      refine w_reg fun all => ?_
      refine t_qz 2 [4] (σ' := [(4, .int .i64 (wr64 (Int.tdiv a0 b1)))]) (by kernel_rfl) ?_
      refine t_end ?_
      show W _ _ _ _ _ _ _
      refine w_ret ?_
      obtain rfl := Option.some.inj e
      exact ⟨[.int .i64 (wr64 (Int.tdiv a0 b1))], [], S, ⟨rfl, trivial⟩, VS.none, rfl, rfl, rfl⟩

def fixed_Round.f (a0 : Int) (b1 : Int) : Option (Int) := if b1 < 1 then (some 0) else ((fixed_Down.f a0 b1).bind fun t180 => (if (wr64 (a0 - (wr64 (t180 * b1)))) ≥ (wr64 (b1 - (wr64 (a0 - (wr64 (t180 * b1)))))) then (some (wr64 (t180 + 1))) else (some t180)))
theorem fixed_Round.ok {S : Seal} {a0 : Int} {b1 : Int} {r0_ : Int}(e : fixed_Round.f a0 b1 = some r0_) :
    Cal Try.prog 92 [.int .i64 a0, .int .i64 b1] [] S fun v H' S' => v = .int .i64 r0_ ∧ H' = [] ∧ S' = S := by
  unfold fixed_Round.f at e
  refine cal_of (c := c92) (N := 25) Try.func92 rfl rfl (by kernel_rfl) (rs := [.t 4]) (by kernel_rfl) (Nat.le_of_ble_eq_true rfl) ?_
  unfold c92
  refine w_seq ?_
  refine w_reg fun all => ?_
  refine t_qz 1 [0, 1] (σ' := [(0, .int .i64 a0), (1, .int .i64 b1)]) (by kernel_rfl) ?_
  refine t_end ?_
  show W _ _ _ _ _ _ _
  refine w_seq ?_
  refine w_seq ?_
  refine w_reg fun all => ?_
  by_cases c176 : b1 < 1
  · rw [if_pos c176] at e
    have c176b : (decide (b1 < 1)) = true := decide_eq_true c176
    refine t_qz 1 [0, 1, 7] (σ' := [(0, .int .i64 a0), (1, .int .i64 b1), (7, .int .i64 b1)]) (by kernel_rfl) ?_
    refine t_v (dv_quiet rfl (congrArg (fun t => some (Value.bool t)) c176b)) ?_
    refine t_keep [0, 1, 8] (σ' := [(0, .int .i64 a0), (1, .int .i64 b1), (8, .bool true)]) (by kernel_rfl) ?_
    refine t_end ?_
    show W _ _ _ _ _ _ _
    refine w_cond rfl (fun _ => ?_) (fun c_ => by cases c_)
    show W _ _ _ _ _ _ _
    refine w_seq ?_
    refine w_reg fun all => ?_
    refine t_qz 1 [4] (σ' := [(4, .int .i64 0)]) (by kernel_rfl) ?_
    refine t_end ?_
    show W _ _ _ _ _ _ _
    refine w_ret ?_
    obtain rfl := Option.some.inj e
    exact ⟨[.int .i64 0], [], S, ⟨rfl, trivial⟩, VS.none, rfl, rfl, rfl⟩
  · rw [if_neg c176] at e
    have c176b : (decide (b1 < 1)) = false := decide_eq_false c176
    refine t_qz 1 [0, 1, 7] (σ' := [(0, .int .i64 a0), (1, .int .i64 b1), (7, .int .i64 b1)]) (by kernel_rfl) ?_
    refine t_v (dv_quiet rfl (congrArg (fun t => some (Value.bool t)) c176b)) ?_
    refine t_keep [0, 1, 8] (σ' := [(0, .int .i64 a0), (1, .int .i64 b1), (8, .bool false)]) (by kernel_rfl) ?_
    refine t_end ?_
    show W _ _ _ _ _ _ _
    refine w_cond rfl (fun c_ => by cases c_) (fun _ => ?_)
    show W _ _ _ _ _ _ _
    refine w_skip ?_
    show W _ _ _ _ _ _ _
    refine w_seq ?_
    refine w_reg fun all => ?_
    obtain ⟨t180, h181, e⟩ := bind_of e
    refine t_qz 2 [0, 1, 9, 10] (σ' := [(0, .int .i64 a0), (1, .int .i64 b1), (9, .int .i64 a0), (10, .int .i64 b1)]) (by kernel_rfl) ?_
    refine t_v (.call (vs := [.int .i64 a0, .int .i64 b1]) rfl rfl (by kernel_rfl) (fixed_Down.ok h181)) ?_
    refine t_qz 1 [0, 1, 5] (σ' := [(0, .int .i64 a0), (1, .int .i64 b1), (5, .int .i64 t180)]) (by kernel_rfl) ?_
    refine t_end ?_
    show W _ _ _ _ _ _ _
    refine w_seq ?_
    refine w_seq ?_
    refine w_reg fun all => ?_
    refine t_qz 6 [1, 5, 6] (σ' := [(1, .int .i64 b1), (5, .int .i64 t180), (6, .int .i64 (wr64 (a0 - (wr64 (t180 * b1)))))]) (by kernel_rfl) ?_
    refine t_end ?_
    show W _ _ _ _ _ _ _
    refine w_seq ?_
    refine w_reg fun all => ?_
    by_cases c182 : (wr64 (a0 - (wr64 (t180 * b1)))) ≥ (wr64 (b1 - (wr64 (a0 - (wr64 (t180 * b1))))))
    · rw [if_pos c182] at e
      have c182b : (decide ((wr64 (a0 - (wr64 (t180 * b1)))) ≥ (wr64 (b1 - (wr64 (a0 - (wr64 (t180 * b1)))))))) = true := decide_eq_true c182
      refine t_qz 4 [5, 17, 20] (σ' := [(5, .int .i64 t180), (17, .int .i64 (wr64 (a0 - (wr64 (t180 * b1))))), (20, .int .i64 (wr64 (b1 - (wr64 (a0 - (wr64 (t180 * b1)))))))]) (by kernel_rfl) ?_
      refine t_v (dv_quiet rfl (congrArg (fun t => some (Value.bool t)) c182b)) ?_
      refine t_keep [5, 21] (σ' := [(5, .int .i64 t180), (21, .bool true)]) (by kernel_rfl) ?_
      refine t_end ?_
      show W _ _ _ _ _ _ _
      refine w_cond rfl (fun _ => ?_) (fun c_ => by cases c_)
      show W _ _ _ _ _ _ _
      refine w_reg fun all => ?_
      refine t_qz 3 [5] (σ' := [(5, .int .i64 (wr64 (t180 + 1)))]) (by kernel_rfl) ?_
      refine t_end ?_
      show W _ _ _ _ _ _ _
      refine w_seq ?_
      refine w_reg fun all => ?_
      refine t_qz 2 [4] (σ' := [(4, .int .i64 (wr64 (t180 + 1)))]) (by kernel_rfl) ?_
      refine t_end ?_
      show W _ _ _ _ _ _ _
      refine w_ret ?_
      obtain rfl := Option.some.inj e
      exact ⟨[.int .i64 (wr64 (t180 + 1))], [], S, ⟨rfl, trivial⟩, VS.none, rfl, rfl, rfl⟩
    · rw [if_neg c182] at e
      have c182b : (decide ((wr64 (a0 - (wr64 (t180 * b1)))) ≥ (wr64 (b1 - (wr64 (a0 - (wr64 (t180 * b1)))))))) = false := decide_eq_false c182
      refine t_qz 4 [5, 17, 20] (σ' := [(5, .int .i64 t180), (17, .int .i64 (wr64 (a0 - (wr64 (t180 * b1))))), (20, .int .i64 (wr64 (b1 - (wr64 (a0 - (wr64 (t180 * b1)))))))]) (by kernel_rfl) ?_
      refine t_v (dv_quiet rfl (congrArg (fun t => some (Value.bool t)) c182b)) ?_
      refine t_keep [5, 21] (σ' := [(5, .int .i64 t180), (21, .bool false)]) (by kernel_rfl) ?_
      refine t_end ?_
      show W _ _ _ _ _ _ _
      refine w_cond rfl (fun c_ => by cases c_) (fun _ => ?_)
      show W _ _ _ _ _ _ _
      refine w_skip ?_
      show W _ _ _ _ _ _ _
      refine w_seq ?_
      refine w_reg fun all => ?_
      refine t_qz 2 [4] (σ' := [(4, .int .i64 t180)]) (by kernel_rfl) ?_
      refine t_end ?_
      show W _ _ _ _ _ _ _
      refine w_ret ?_
      obtain rfl := Option.some.inj e
      exact ⟨[.int .i64 t180], [], S, ⟨rfl, trivial⟩, VS.none, rfl, rfl, rfl⟩

def flatten_mix_v3.f (i0 : Int) (n1 : Int) (m0_0 : Int) (m0_1 : Int) : Option (Int) := (fixed_Round.f (wr64 ((wr64 ((wr64 (n1 - i0)) * m0_0)) + (wr64 (i0 * m0_1)))) n1).bind fun t176 => (some t176)
theorem flatten_mix_v3.ok {S : Seal} {B0 nB0 : Nat} {i0 : Int} {n1 : Int} {m0_0 : Int} {m0_1 : Int} {r0_ : Int}(e : flatten_mix_v3.f i0 n1 m0_0 m0_1 = some r0_) :
    Cal Try.prog 71 [.int .i64 i0, .int .i64 n1, .slice (some ⟨B0, 0, none⟩) 2 (nB0 / 1)] ([⟨B0, [.int .i64 m0_0, .int .i64 m0_1], nB0⟩] : List Own) S fun v H' S' => v = .int .i64 r0_ ∧ H' = ([⟨B0, [.int .i64 m0_0, .int .i64 m0_1], nB0⟩] : List Own) ∧ S' = S := by
  unfold flatten_mix_v3.f at e
  refine cal_of (c := c71) (N := 110) Try.func71 rfl rfl (by kernel_rfl) (rs := [.t 6]) (by kernel_rfl) (Nat.le_of_ble_eq_true rfl) ?_
  unfold c71
  refine w_seq ?_
  refine w_reg fun all => ?_
  refine t_qz 1 [0, 1, 2] (σ' := [(0, .int .i64 i0), (1, .int .i64 n1), (2, .slice (some ⟨B0, 0, none⟩) 2 (nB0 / 1))]) (by kernel_rfl) ?_
  refine t_end ?_
  show W _ _ _ _ _ _ _
  refine w_seq ?_
  refine w_reg fun all => ?_
  refine t_qz 4 [0, 1, 2, 7] (σ' := [(0, .int .i64 i0), (1, .int .i64 n1), (2, .slice (some ⟨B0, 0, none⟩) 2 (nB0 / 1)), (7, .int .i64 (wr64 (n1 - i0)))]) (by kernel_rfl) ?_
  refine t_end ?_
  show W _ _ _ _ _ _ _
  refine w_seq ?_
  refine w_seq ?_
  refine w_reg fun all => ?_
  refine t_qz 2 [0, 1, 2, 7, 12] (σ' := [(0, .int .i64 i0), (1, .int .i64 n1), (2, .slice (some ⟨B0, 0, none⟩) 2 (nB0 / 1)), (7, .int .i64 (wr64 (n1 - i0))), (12, .int .i64 2)]) (by kernel_rfl) ?_
  refine t_end ?_
  show W _ _ _ _ _ _ _
  refine w_block ?_
  refine w_seq ?_
  refine w_reg fun all => ?_
  refine t_qz 2 [0, 1, 2, 7, 12, 13] (σ' := [(0, .int .i64 i0), (1, .int .i64 n1), (2, .slice (some ⟨B0, 0, none⟩) 2 (nB0 / 1)), (7, .int .i64 (wr64 (n1 - i0))), (12, .int .i64 2), (13, .bool false)]) (by kernel_rfl) ?_
  refine t_end ?_
  show W _ _ _ _ _ _ _
  refine w_cond rfl (fun c_ => by cases c_) (fun _ => ?_)
  show W _ _ _ _ _ _ _
  refine w_seq ?_
  refine w_reg fun all => ?_
  refine t_qz 2 [0, 1, 2, 7, 12, 18] (σ' := [(0, .int .i64 i0), (1, .int .i64 n1), (2, .slice (some ⟨B0, 0, none⟩) 2 (nB0 / 1)), (7, .int .i64 (wr64 (n1 - i0))), (12, .int .i64 2), (18, .bool true)]) (by kernel_rfl) ?_
  refine t_end ?_
  show W _ _ _ _ _ _ _
  refine w_cond rfl (fun _ => ?_) (fun c_ => by cases c_)
  show W _ _ _ _ _ _ _
  refine w_seq ?_
  obtain ⟨t176, h177, e⟩ := bind_of e
  refine w_drwE mixed 14 [.v (.int .i64 (wr64 (n1 - i0))), .v (.slice (some ⟨B0, 0, none⟩) 2 (nB0 / 1)), .v (.pointer (some ⟨B0, 0, none⟩)), .v (.int .i64 m0_0), .v (.int .i64 (wr64 ((wr64 (n1 - i0)) * m0_0))), .v (.int .i64 i0), .v (.slice (some ⟨B0, 0, none⟩) 2 (nB0 / 1)), .v (.pointer (some ⟨B0, 1, none⟩)), .v (.int .i64 m0_1), .v (.int .i64 (wr64 (i0 * m0_1))), .v (.int .i64 (wr64 ((wr64 ((wr64 (n1 - i0)) * m0_0)) + (wr64 (i0 * m0_1))))), .v (.int .i64 n1), .v (.int .i64 t176), .v (.int .i64 t176)] (by kernel_rfl) ?_ ?_
  · refine DI.sq 3 (by kernel_rfl) rfl ?_
    refine .cons (.ld1 rfl rfl rfl (.at 0 rfl rfl)) ?_
    refine DI.sq 4 (by kernel_rfl) rfl ?_
    refine .cons (.ld1 rfl rfl rfl (.at 0 rfl rfl)) ?_
    refine DI.sq 3 (by kernel_rfl) rfl ?_
    refine .cons (.call (vs := [.int .i64 (wr64 ((wr64 ((wr64 (n1 - i0)) * m0_0)) + (wr64 (i0 * m0_1)))), .int .i64 n1]) rfl rfl (by kernel_rfl) (fixed_Round.ok h177)) ?_
    refine DI.sq 1 (by kernel_rfl) rfl ?_
    exact .nil
  refine fk_q 14 [6] (σ' := [(6, .int .i64 t176)]) t_more (by kernel_rfl) ?_
  refine fk_nil fun all => ?_
  refine t_keep [6] (σ' := [(6, .int .i64 t176)]) (by kernel_rfl) ?_
  refine t_end ?_
  show W _ _ _ _ _ _ _
  refine w_ret ?_
  obtain rfl := Option.some.inj e
  exact ⟨[.int .i64 t176], ([⟨B0, [.int .i64 m0_0, .int .i64 m0_1], nB0⟩] : List Own), S, ⟨rfl, trivial⟩, VS.sel [0] (by kernel_rfl), rfl, rfl, rfl⟩

def flatten_Point_v2.f (a0_0 : Int) (a0_1 : Int) (s1_1 : Int) (s1_2 : Int) (s1_3 : Int) (s1_4 : Int) (s1_5 : Int) (s1_6 : Int) (i2 : Int) (n3 : Int) : Option (Int × Int) := (flatten_points_v2.f s1_1 s1_2 s1_3 s1_4 s1_5 s1_6).bind fun (t162, t163, t164, t165, t166, t167, t168) => ((flatten_mix_v3.f i2 n3 a0_0 t163).bind fun t178 => ((flatten_mix_v3.f i2 n3 a0_1 t164).bind fun t180 => (some (t178, t180))))
theorem flatten_Point_v2.ok {S : Seal} {a0_0 : Int} {a0_1 : Int} {s1_1 : Int} {s1_2 : Int} {s1_3 : Int} {s1_4 : Int} {s1_5 : Int} {s1_6 : Int} {i2 : Int} {n3 : Int} {r0_ : Int} {r1_ : Int}(e : flatten_Point_v2.f a0_0 a0_1 s1_1 s1_2 s1_3 s1_4 s1_5 s1_6 i2 n3 = some (r0_, r1_)) :
    Cal Try.prog 31 [.agg #[.int .i64 a0_0, .int .i64 a0_1], .agg #[.int .i64 1, .int .i64 s1_1, .int .i64 s1_2, .int .i64 s1_3, .int .i64 s1_4, .int .i64 s1_5, .int .i64 s1_6], .int .i64 i2, .int .i64 n3] [] S fun v H' S' => v = .agg #[.int .i64 r0_, .int .i64 r1_] ∧ H' = [] ∧ S' = S := by
  unfold flatten_Point_v2.f at e
  refine cal_of (c := c31) (N := 46) Try.func31 rfl rfl (by kernel_rfl) (rs := [.cn 2 8]) (by kernel_rfl) (Nat.le_of_ble_eq_true rfl) ?_
  unfold c31
  refine w_seq ?_
  refine w_reg fun all => ?_
  refine t_a (.box rfl rfl rfl) fun b156 fb156 sb156 => ?_
  refine t_a (.box rfl rfl rfl) fun b157 fb157 sb157 => ?_
  refine t_a (.new rfl rfl) fun b158 fb158 sb158 => ?_
  refine t_keep [2, 3, 4, 5, 8] (σ' := [(2, .int .i64 i2), (3, .int .i64 n3), (4, .pointer (some ⟨b156, 0, none⟩)), (5, .pointer (some ⟨b157, 0, none⟩)), (8, .pointer (some ⟨b158, 0, none⟩))]) (by kernel_rfl) ?_
  refine t_end ?_
  show W _ _ _ _ _ _ _
  refine w_seq ?_
  refine w_kp [2, 3, 4, 5, 8] (σ' := [(2, .int .i64 i2), (3, .int .i64 n3), (4, .pointer (some ⟨b156, 0, none⟩)), (5, .pointer (some ⟨b157, 0, none⟩)), (8, .pointer (some ⟨b158, 0, none⟩))]) (by kernel_rfl) ?_
  refine w_gameQ mixed (by kernel_rfl) fun all G hend hstep hqf => ?_
  have hg_ff : ∀ (g160 : Nat) (g159 : Nat), G [true, true, true, true, true, true, true, true] [(2, .int .i64 i2), (3, .int .i64 n3), (5, .pointer (some ⟨b157, 0, none⟩)), (8, .pointer (some ⟨b158, 0, none⟩)), (9, .slice (some ⟨g159, 0, none⟩) 1 1), (10, .slice (some ⟨g160, 0, none⟩) 1 1)] ([⟨g160, [.int .i64 a0_1], 1⟩, ⟨g159, [.int .i64 a0_0], 1⟩, ⟨b158, [.int .i64 0, .int .i64 0], 2⟩, ⟨b157, [.int .i64 1, .int .i64 s1_1, .int .i64 s1_2, .int .i64 s1_3, .int .i64 s1_4, .int .i64 s1_5, .int .i64 s1_6], 7⟩, ⟨b156, [.int .i64 a0_0, .int .i64 a0_1], 2⟩] : List Own) := by
    intro g160 g159
    refine hend _ _ _ (by kernel_rfl) ?_
    show W _ _ _ _ _ _ _
    refine w_seq ?_
    refine w_seq ?_
    refine w_reg fun all => ?_
    refine t_v (.ldn rfl rfl rfl (.at 3 rfl rfl)) ?_
    obtain ⟨⟨t162, t163, t164, t165, t166, t167, t168⟩, h169, e⟩ := bind_of e
    try dsimp only at e
    refine t_call (vs := [.agg #[.int .i64 1, .int .i64 s1_1, .int .i64 s1_2, .int .i64 s1_3, .int .i64 s1_4, .int .i64 s1_5, .int .i64 s1_6]]) (H1 := ([] : List Own)) (F := ([⟨g160, [.int .i64 a0_1], 1⟩, ⟨g159, [.int .i64 a0_0], 1⟩, ⟨b158, [.int .i64 0, .int .i64 0], 2⟩, ⟨b157, [.int .i64 1, .int .i64 s1_1, .int .i64 s1_2, .int .i64 s1_3, .int .i64 s1_4, .int .i64 s1_5, .int .i64 s1_6], 7⟩, ⟨b156, [.int .i64 a0_0, .int .i64 a0_1], 2⟩] : List Own)) rfl rfl (by kernel_rfl) (sel_perm (is := []) (by kernel_rfl)) (flatten_points_v2.ok h169) ?_
    rintro _ _ S_ ⟨N170, rfl, rfl, hS_⟩
    obtain rfl := hS_.symm
    refine t_qz 2 [2, 3, 8, 9, 10, 20, 21, 22] (σ' := [(2, .int .i64 i2), (3, .int .i64 n3), (8, .pointer (some ⟨b158, 0, none⟩)), (9, .slice (some ⟨g159, 0, none⟩) 1 1), (10, .slice (some ⟨g160, 0, none⟩) 1 1), (20, .slice (some ⟨N170, 1, none⟩) 1 3), (21, .int .i64 1), (22, .int .i64 0)]) (by kernel_rfl) ?_
    refine t_end ?_
    show W _ _ _ _ _ _ _
    refine w_block ?_
    refine w_lun 10 ?_
    refine wl_step ?_
    refine w_seq ?_
    refine w_reg fun all => ?_
    refine t_qz 1 [2, 3, 8, 9, 10, 20, 21, 22, 23] (σ' := [(2, .int .i64 i2), (3, .int .i64 n3), (8, .pointer (some ⟨b158, 0, none⟩)), (9, .slice (some ⟨g159, 0, none⟩) 1 1), (10, .slice (some ⟨g160, 0, none⟩) 1 1), (20, .slice (some ⟨N170, 1, none⟩) 1 3), (21, .int .i64 1), (22, .int .i64 0), (23, .bool true)]) (by kernel_rfl) ?_
    refine t_end ?_
    show W _ _ _ _ _ _ _
    refine w_seq ?_
    refine w_cond rfl (fun _ => ?_) (fun c_ => by cases c_)
    show W _ _ _ _ _ _ _
    refine w_skip ?_
    show W _ _ _ _ _ _ _
    refine w_seq ?_
    refine w_block ?_
    refine w_seq ?_
    refine w_reg fun all => ?_
    refine t_qz 1 [2, 3, 8, 9, 10, 20, 21, 22, 24] (σ' := [(2, .int .i64 i2), (3, .int .i64 n3), (8, .pointer (some ⟨b158, 0, none⟩)), (9, .slice (some ⟨g159, 0, none⟩) 1 1), (10, .slice (some ⟨g160, 0, none⟩) 1 1), (20, .slice (some ⟨N170, 1, none⟩) 1 3), (21, .int .i64 1), (22, .int .i64 0), (24, .pointer (some ⟨N170, 1, none⟩))]) (by kernel_rfl) ?_
    refine t_v (.ldn rfl rfl rfl (.at 0 rfl rfl)) ?_
    refine t_a (.new rfl rfl) fun b171 fb171 sb171 => ?_
    refine t_sti 0 (cs := [.int .i64 t163, .int .i64 t164]) rfl rfl rfl rfl rfl rfl rfl rfl rfl ?_
    refine t_keep [2, 3, 8, 9, 10, 12, 20, 21, 22] (σ' := [(2, .int .i64 i2), (3, .int .i64 n3), (8, .pointer (some ⟨b158, 0, none⟩)), (9, .slice (some ⟨g159, 0, none⟩) 1 1), (10, .slice (some ⟨g160, 0, none⟩) 1 1), (12, .pointer (some ⟨b171, 0, none⟩)), (20, .slice (some ⟨N170, 1, none⟩) 1 3), (21, .int .i64 1), (22, .int .i64 0)]) (by kernel_rfl) ?_
    refine t_end ?_
    show W _ _ _ _ _ _ _
    refine w_kp [2, 3, 8, 9, 10, 12, 20, 21, 22] (σ' := [(2, .int .i64 i2), (3, .int .i64 n3), (8, .pointer (some ⟨b158, 0, none⟩)), (9, .slice (some ⟨g159, 0, none⟩) 1 1), (10, .slice (some ⟨g160, 0, none⟩) 1 1), (12, .pointer (some ⟨b171, 0, none⟩)), (20, .slice (some ⟨N170, 1, none⟩) 1 3), (21, .int .i64 1), (22, .int .i64 0)]) (by kernel_rfl) ?_
    refine w_gameQ mixed (by kernel_rfl) fun all G hend hstep hqf => ?_
    have hg_fff : ∀ (g175 : Nat) (ng175 : Nat) (g174 : Nat) (g173 : Nat) (ng173 : Nat) (g172 : Nat), G [true, true, true, true, true, true, true, true, true, true, true, true] [(2, .int .i64 i2), (3, .int .i64 n3), (8, .pointer (some ⟨b158, 0, none⟩)), (9, .slice (some ⟨g173, 0, none⟩) 2 (ng173 / 1)), (10, .slice (some ⟨g175, 0, none⟩) 2 (ng175 / 1)), (20, .slice (some ⟨N170, 1, none⟩) 1 3), (21, .int .i64 1), (22, .int .i64 0)] ([⟨g175, [.int .i64 a0_1, .int .i64 t164], ng175⟩, ⟨g174, [.int .i64 t164], 1⟩, ⟨g173, [.int .i64 a0_0, .int .i64 t163], ng173⟩, ⟨g172, [.int .i64 t163], 1⟩, ⟨b171, [.int .i64 t163, .int .i64 t164], 2⟩, ⟨N170, [.int .i64 t162, .int .i64 t163, .int .i64 t164, .int .i64 t165, .int .i64 t166, .int .i64 t167, .int .i64 t168], 7⟩, ⟨b158, [.int .i64 0, .int .i64 0], 2⟩, ⟨b157, [.int .i64 1, .int .i64 s1_1, .int .i64 s1_2, .int .i64 s1_3, .int .i64 s1_4, .int .i64 s1_5, .int .i64 s1_6], 7⟩, ⟨b156, [.int .i64 a0_0, .int .i64 a0_1], 2⟩] : List Own) := by
      intro g175 ng175 g174 g173 ng173 g172
      refine hend _ _ _ (by kernel_rfl) ?_
      show W _ _ _ _ _ _ _
      refine w_reg fun all => ?_
      refine t_qz 2 [2, 3, 8, 9, 10, 20, 21, 22] (σ' := [(2, .int .i64 i2), (3, .int .i64 n3), (8, .pointer (some ⟨b158, 0, none⟩)), (9, .slice (some ⟨g173, 0, none⟩) 2 (ng173 / 1)), (10, .slice (some ⟨g175, 0, none⟩) 2 (ng175 / 1)), (20, .slice (some ⟨N170, 1, none⟩) 1 3), (21, .int .i64 1), (22, .int .i64 1)]) (by kernel_rfl) ?_
      refine t_end ?_
      show WL _ _ _ _ _ _ _ _
      refine wl_step ?_
      refine w_seq ?_
      refine w_reg fun all => ?_
      refine t_qz 1 [2, 3, 8, 9, 10, 20, 21, 22, 23] (σ' := [(2, .int .i64 i2), (3, .int .i64 n3), (8, .pointer (some ⟨b158, 0, none⟩)), (9, .slice (some ⟨g173, 0, none⟩) 2 (ng173 / 1)), (10, .slice (some ⟨g175, 0, none⟩) 2 (ng175 / 1)), (20, .slice (some ⟨N170, 1, none⟩) 1 3), (21, .int .i64 1), (22, .int .i64 1), (23, .bool false)]) (by kernel_rfl) ?_
      refine t_end ?_
      show W _ _ _ _ _ _ _
      refine w_seq ?_
      refine w_cond rfl (fun c_ => by cases c_) (fun _ => ?_)
      show W _ _ _ _ _ _ _
      refine w_exit ?_
      show W _ _ _ _ _ _ _
      refine w_seq ?_
      refine w_reg fun all => ?_
      obtain ⟨t178, h179, e⟩ := bind_of e
      refine t_qz 3 [2, 3, 8, 10, 37, 38, 39] (σ' := [(2, .int .i64 i2), (3, .int .i64 n3), (8, .pointer (some ⟨b158, 0, none⟩)), (10, .slice (some ⟨g175, 0, none⟩) 2 (ng175 / 1)), (37, .int .i64 i2), (38, .int .i64 n3), (39, .slice (some ⟨g173, 0, none⟩) 2 (ng173 / 1))]) (by kernel_rfl) ?_
      refine t_v (.callr (vs := [.int .i64 i2, .int .i64 n3, .slice (some ⟨g173, 0, none⟩) 2 (ng173 / 1)]) (A := ([⟨g173, [.int .i64 a0_0, .int .i64 t163], ng173⟩] : List Own)) (F0 := ([⟨g175, [.int .i64 a0_1, .int .i64 t164], ng175⟩, ⟨g174, [.int .i64 t164], 1⟩, ⟨g172, [.int .i64 t163], 1⟩, ⟨b171, [.int .i64 t163, .int .i64 t164], 2⟩, ⟨N170, [.int .i64 t162, .int .i64 t163, .int .i64 t164, .int .i64 t165, .int .i64 t166, .int .i64 t167, .int .i64 t168], 7⟩, ⟨b158, [.int .i64 0, .int .i64 0], 2⟩, ⟨b157, [.int .i64 1, .int .i64 s1_1, .int .i64 s1_2, .int .i64 s1_3, .int .i64 s1_4, .int .i64 s1_5, .int .i64 s1_6], 7⟩, ⟨b156, [.int .i64 a0_0, .int .i64 a0_1], 2⟩] : List Own)) rfl rfl (by kernel_rfl) (sel_perm (is := [2]) (by kernel_rfl)) (flatten_mix_v3.ok h179)) ?_
      obtain ⟨t180, h181, e⟩ := bind_of e
      refine t_qz 3 [8, 40, 41, 42, 43] (σ' := [(8, .pointer (some ⟨b158, 0, none⟩)), (40, .int .i64 t178), (41, .int .i64 i2), (42, .int .i64 n3), (43, .slice (some ⟨g175, 0, none⟩) 2 (ng175 / 1))]) (by kernel_rfl) ?_
      refine t_v (.callr (vs := [.int .i64 i2, .int .i64 n3, .slice (some ⟨g175, 0, none⟩) 2 (ng175 / 1)]) (A := ([⟨g175, [.int .i64 a0_1, .int .i64 t164], ng175⟩] : List Own)) (F0 := ([⟨g174, [.int .i64 t164], 1⟩, ⟨g173, [.int .i64 a0_0, .int .i64 t163], ng173⟩, ⟨g172, [.int .i64 t163], 1⟩, ⟨b171, [.int .i64 t163, .int .i64 t164], 2⟩, ⟨N170, [.int .i64 t162, .int .i64 t163, .int .i64 t164, .int .i64 t165, .int .i64 t166, .int .i64 t167, .int .i64 t168], 7⟩, ⟨b158, [.int .i64 0, .int .i64 0], 2⟩, ⟨b157, [.int .i64 1, .int .i64 s1_1, .int .i64 s1_2, .int .i64 s1_3, .int .i64 s1_4, .int .i64 s1_5, .int .i64 s1_6], 7⟩, ⟨b156, [.int .i64 a0_0, .int .i64 a0_1], 2⟩] : List Own)) rfl rfl (by kernel_rfl) (sel_perm (is := [0]) (by kernel_rfl)) (flatten_mix_v3.ok h181)) ?_
      refine t_qz 1 [8, 45] (σ' := [(8, .pointer (some ⟨b158, 0, none⟩)), (45, .agg #[.int .i64 t178, .int .i64 t180])]) (by kernel_rfl) ?_
      refine t_sti 6 (cs := [.int .i64 t178, .int .i64 t180]) rfl rfl rfl rfl rfl rfl rfl rfl rfl ?_
      refine t_keep [8] (σ' := [(8, .pointer (some ⟨b158, 0, none⟩))]) (by kernel_rfl) ?_
      refine t_end ?_
      show W _ _ _ _ _ _ _
      refine w_ret ?_
      simp only [Option.some.injEq, Prod.mk.injEq] at e
      obtain ⟨rfl, rfl⟩ := e
      exact ⟨[.agg #[.int .i64 t178, .int .i64 t180]], [], S, ⟨⟨_, _, _, rfl, .at 6 rfl rfl, rfl⟩, trivial⟩, VS.none, rfl, rfl, rfl⟩
    have hg_7ff : ∀ (g175 : Nat) (ng175 : Nat) (g174 : Nat) (g173 : Nat) (ng173 : Nat) (g172 : Nat), G [true, true, true, true, true, true, true, true, true, true, true, false] [(2, .int .i64 i2), (3, .int .i64 n3), (8, .pointer (some ⟨b158, 0, none⟩)), (9, .slice (some ⟨g173, 0, none⟩) 2 (ng173 / 1)), (10, .slice (some ⟨g160, 0, none⟩) 1 1), (20, .slice (some ⟨N170, 1, none⟩) 1 3), (21, .int .i64 1), (22, .int .i64 0), (35, .slice (some ⟨g175, 0, none⟩) 2 (ng175 / 1))] ([⟨g175, [.int .i64 a0_1, .int .i64 t164], ng175⟩, ⟨g174, [.int .i64 t164], 1⟩, ⟨g173, [.int .i64 a0_0, .int .i64 t163], ng173⟩, ⟨g172, [.int .i64 t163], 1⟩, ⟨b171, [.int .i64 t163, .int .i64 t164], 2⟩, ⟨N170, [.int .i64 t162, .int .i64 t163, .int .i64 t164, .int .i64 t165, .int .i64 t166, .int .i64 t167, .int .i64 t168], 7⟩, ⟨b158, [.int .i64 0, .int .i64 0], 2⟩, ⟨b157, [.int .i64 1, .int .i64 s1_1, .int .i64 s1_2, .int .i64 s1_3, .int .i64 s1_4, .int .i64 s1_5, .int .i64 s1_6], 7⟩, ⟨b156, [.int .i64 a0_0, .int .i64 a0_1], 2⟩] : List Own) := by
      intro g175 ng175 g174 g173 ng173 g172
      exact hqf 11 [2, 3, 8, 9, 10, 20, 21, 22] _ _ _ [(2, .int .i64 i2), (3, .int .i64 n3), (8, .pointer (some ⟨b158, 0, none⟩)), (9, .slice (some ⟨g173, 0, none⟩) 2 (ng173 / 1)), (10, .slice (some ⟨g175, 0, none⟩) 2 (ng175 / 1)), (20, .slice (some ⟨N170, 1, none⟩) 1 3), (21, .int .i64 1), (22, .int .i64 0)] (by kernel_rfl) (by kernel_rfl) (hg_fff g175 ng175 g174 g173 ng173 g172)
    have hg_3ff : ∀ (g175 : Nat) (ng175 : Nat) (g174 : Nat) (g173 : Nat) (ng173 : Nat) (g172 : Nat), G [true, true, true, true, true, true, true, true, true, true, false, false] [(2, .int .i64 i2), (3, .int .i64 n3), (8, .pointer (some ⟨b158, 0, none⟩)), (9, .slice (some ⟨g159, 0, none⟩) 1 1), (10, .slice (some ⟨g160, 0, none⟩) 1 1), (20, .slice (some ⟨N170, 1, none⟩) 1 3), (21, .int .i64 1), (22, .int .i64 0), (30, .slice (some ⟨g173, 0, none⟩) 2 (ng173 / 1)), (35, .slice (some ⟨g175, 0, none⟩) 2 (ng175 / 1))] ([⟨g175, [.int .i64 a0_1, .int .i64 t164], ng175⟩, ⟨g174, [.int .i64 t164], 1⟩, ⟨g173, [.int .i64 a0_0, .int .i64 t163], ng173⟩, ⟨g172, [.int .i64 t163], 1⟩, ⟨b171, [.int .i64 t163, .int .i64 t164], 2⟩, ⟨N170, [.int .i64 t162, .int .i64 t163, .int .i64 t164, .int .i64 t165, .int .i64 t166, .int .i64 t167, .int .i64 t168], 7⟩, ⟨b158, [.int .i64 0, .int .i64 0], 2⟩, ⟨b157, [.int .i64 1, .int .i64 s1_1, .int .i64 s1_2, .int .i64 s1_3, .int .i64 s1_4, .int .i64 s1_5, .int .i64 s1_6], 7⟩, ⟨b156, [.int .i64 a0_0, .int .i64 a0_1], 2⟩] : List Own) := by
      intro g175 ng175 g174 g173 ng173 g172
      exact hqf 10 [2, 3, 8, 9, 10, 20, 21, 22, 35] _ _ _ [(2, .int .i64 i2), (3, .int .i64 n3), (8, .pointer (some ⟨b158, 0, none⟩)), (9, .slice (some ⟨g173, 0, none⟩) 2 (ng173 / 1)), (10, .slice (some ⟨g160, 0, none⟩) 1 1), (20, .slice (some ⟨N170, 1, none⟩) 1 3), (21, .int .i64 1), (22, .int .i64 0), (35, .slice (some ⟨g175, 0, none⟩) 2 (ng175 / 1))] (by kernel_rfl) (by kernel_rfl) (hg_7ff g175 ng175 g174 g173 ng173 g172)
    have hg_1ff : ∀ (g174 : Nat) (g173 : Nat) (ng173 : Nat) (g172 : Nat), G [true, true, true, true, true, true, true, true, true, false, false, false] [(2, .int .i64 i2), (3, .int .i64 n3), (8, .pointer (some ⟨b158, 0, none⟩)), (9, .slice (some ⟨g159, 0, none⟩) 1 1), (10, .slice (some ⟨g160, 0, none⟩) 1 1), (20, .slice (some ⟨N170, 1, none⟩) 1 3), (21, .int .i64 1), (22, .int .i64 0), (30, .slice (some ⟨g173, 0, none⟩) 2 (ng173 / 1)), (31, .slice (some ⟨g160, 0, none⟩) 1 1), (34, .slice (some ⟨g174, 0, none⟩) 1 1)] ([⟨g174, [.int .i64 t164], 1⟩, ⟨g173, [.int .i64 a0_0, .int .i64 t163], ng173⟩, ⟨g172, [.int .i64 t163], 1⟩, ⟨b171, [.int .i64 t163, .int .i64 t164], 2⟩, ⟨N170, [.int .i64 t162, .int .i64 t163, .int .i64 t164, .int .i64 t165, .int .i64 t166, .int .i64 t167, .int .i64 t168], 7⟩, ⟨g160, [.int .i64 a0_1], 1⟩, ⟨b158, [.int .i64 0, .int .i64 0], 2⟩, ⟨b157, [.int .i64 1, .int .i64 s1_1, .int .i64 s1_2, .int .i64 s1_3, .int .i64 s1_4, .int .i64 s1_5, .int .i64 s1_6], 7⟩, ⟨b156, [.int .i64 a0_0, .int .i64 a0_1], 2⟩] : List Own) := by
      intro g174 g173 ng173 g172
      refine hstep [9] _ _ _ (by kernel_rfl) (List.cons_ne_nil _ _) ⟨?_, trivial⟩
      · show T _ _ _ _ _ _ _ _
        refine t_app1 (cs := [.int .i64 a0_1]) (M := 1) (F := ([⟨g174, [.int .i64 t164], 1⟩, ⟨g173, [.int .i64 a0_0, .int .i64 t163], ng173⟩, ⟨g172, [.int .i64 t163], 1⟩, ⟨b171, [.int .i64 t163, .int .i64 t164], 2⟩, ⟨N170, [.int .i64 t162, .int .i64 t163, .int .i64 t164, .int .i64 t165, .int .i64 t166, .int .i64 t167, .int .i64 t168], 7⟩, ⟨b158, [.int .i64 0, .int .i64 0], 2⟩, ⟨b157, [.int .i64 1, .int .i64 s1_1, .int .i64 s1_2, .int .i64 s1_3, .int .i64 s1_4, .int .i64 s1_5, .int .i64 s1_6], 7⟩, ⟨b156, [.int .i64 a0_0, .int .i64 a0_1], 2⟩] : List Own)) (news := [.int .i64 t164]) rfl rfl rfl rfl (sel_perm (is := [5]) (by kernel_rfl)) (.at 0 rfl rfl) (by kernel_rfl) rfl rfl (by decide) (by decide) rfl fun g175 ng175 => ?_
        refine t_keep [2, 3, 8, 9, 10, 20, 21, 22, 30, 35] (σ' := [(2, .int .i64 i2), (3, .int .i64 n3), (8, .pointer (some ⟨b158, 0, none⟩)), (9, .slice (some ⟨g159, 0, none⟩) 1 1), (10, .slice (some ⟨g160, 0, none⟩) 1 1), (20, .slice (some ⟨N170, 1, none⟩) 1 3), (21, .int .i64 1), (22, .int .i64 0), (30, .slice (some ⟨g173, 0, none⟩) 2 (ng173 / 1)), (35, .slice (some ⟨g175, 0, none⟩) 2 (ng175 / 1))]) (by kernel_rfl) ?_
        refine t_end ?_
        exact ⟨hg_3ff g175 ng175 g174 g173 ng173 g172, rfl⟩
    have hg_ff : ∀ (g173 : Nat) (ng173 : Nat) (g172 : Nat), G [true, true, true, true, true, true, true, true, false, false, false, false] [(2, .int .i64 i2), (3, .int .i64 n3), (8, .pointer (some ⟨b158, 0, none⟩)), (9, .slice (some ⟨g159, 0, none⟩) 1 1), (10, .slice (some ⟨g160, 0, none⟩) 1 1), (20, .slice (some ⟨N170, 1, none⟩) 1 3), (21, .int .i64 1), (22, .int .i64 0), (30, .slice (some ⟨g173, 0, none⟩) 2 (ng173 / 1)), (31, .slice (some ⟨g160, 0, none⟩) 1 1), (33, .int .i64 t164)] ([⟨g173, [.int .i64 a0_0, .int .i64 t163], ng173⟩, ⟨g172, [.int .i64 t163], 1⟩, ⟨b171, [.int .i64 t163, .int .i64 t164], 2⟩, ⟨N170, [.int .i64 t162, .int .i64 t163, .int .i64 t164, .int .i64 t165, .int .i64 t166, .int .i64 t167, .int .i64 t168], 7⟩, ⟨g160, [.int .i64 a0_1], 1⟩, ⟨b158, [.int .i64 0, .int .i64 0], 2⟩, ⟨b157, [.int .i64 1, .int .i64 s1_1, .int .i64 s1_2, .int .i64 s1_3, .int .i64 s1_4, .int .i64 s1_5, .int .i64 s1_6], 7⟩, ⟨b156, [.int .i64 a0_0, .int .i64 a0_1], 2⟩] : List Own) := by
      intro g173 ng173 g172
      refine hstep [8] _ _ _ (by kernel_rfl) (List.cons_ne_nil _ _) ⟨?_, trivial⟩
      · show T _ _ _ _ _ _ _ _
        refine t_a (.bsl rfl rfl rfl rfl) fun g174 fg174 sg174 => ?_
        refine t_keep [2, 3, 8, 9, 10, 20, 21, 22, 30, 31, 34] (σ' := [(2, .int .i64 i2), (3, .int .i64 n3), (8, .pointer (some ⟨b158, 0, none⟩)), (9, .slice (some ⟨g159, 0, none⟩) 1 1), (10, .slice (some ⟨g160, 0, none⟩) 1 1), (20, .slice (some ⟨N170, 1, none⟩) 1 3), (21, .int .i64 1), (22, .int .i64 0), (30, .slice (some ⟨g173, 0, none⟩) 2 (ng173 / 1)), (31, .slice (some ⟨g160, 0, none⟩) 1 1), (34, .slice (some ⟨g174, 0, none⟩) 1 1)]) (by kernel_rfl) ?_
        refine t_end ?_
        exact ⟨hg_1ff g174 g173 ng173 g172, rfl⟩
    have hg_1ef : ∀ (g174 : Nat) (g172 : Nat), G [true, true, true, true, false, true, true, true, true, false, false, false] [(2, .int .i64 i2), (3, .int .i64 n3), (8, .pointer (some ⟨b158, 0, none⟩)), (9, .slice (some ⟨g159, 0, none⟩) 1 1), (10, .slice (some ⟨g160, 0, none⟩) 1 1), (20, .slice (some ⟨N170, 1, none⟩) 1 3), (21, .int .i64 1), (22, .int .i64 0), (26, .slice (some ⟨g159, 0, none⟩) 1 1), (29, .slice (some ⟨g172, 0, none⟩) 1 1), (31, .slice (some ⟨g160, 0, none⟩) 1 1), (34, .slice (some ⟨g174, 0, none⟩) 1 1)] ([⟨g174, [.int .i64 t164], 1⟩, ⟨g172, [.int .i64 t163], 1⟩, ⟨b171, [.int .i64 t163, .int .i64 t164], 2⟩, ⟨N170, [.int .i64 t162, .int .i64 t163, .int .i64 t164, .int .i64 t165, .int .i64 t166, .int .i64 t167, .int .i64 t168], 7⟩, ⟨g160, [.int .i64 a0_1], 1⟩, ⟨g159, [.int .i64 a0_0], 1⟩, ⟨b158, [.int .i64 0, .int .i64 0], 2⟩, ⟨b157, [.int .i64 1, .int .i64 s1_1, .int .i64 s1_2, .int .i64 s1_3, .int .i64 s1_4, .int .i64 s1_5, .int .i64 s1_6], 7⟩, ⟨b156, [.int .i64 a0_0, .int .i64 a0_1], 2⟩] : List Own) := by
      intro g174 g172
      refine hstep [4] _ _ _ (by kernel_rfl) (List.cons_ne_nil _ _) ⟨?_, trivial⟩
      · show T _ _ _ _ _ _ _ _
        refine t_app1 (cs := [.int .i64 a0_0]) (M := 1) (F := ([⟨g174, [.int .i64 t164], 1⟩, ⟨g172, [.int .i64 t163], 1⟩, ⟨b171, [.int .i64 t163, .int .i64 t164], 2⟩, ⟨N170, [.int .i64 t162, .int .i64 t163, .int .i64 t164, .int .i64 t165, .int .i64 t166, .int .i64 t167, .int .i64 t168], 7⟩, ⟨g160, [.int .i64 a0_1], 1⟩, ⟨b158, [.int .i64 0, .int .i64 0], 2⟩, ⟨b157, [.int .i64 1, .int .i64 s1_1, .int .i64 s1_2, .int .i64 s1_3, .int .i64 s1_4, .int .i64 s1_5, .int .i64 s1_6], 7⟩, ⟨b156, [.int .i64 a0_0, .int .i64 a0_1], 2⟩] : List Own)) (news := [.int .i64 t163]) rfl rfl rfl rfl (sel_perm (is := [5]) (by kernel_rfl)) (.at 1 rfl rfl) (by kernel_rfl) rfl rfl (by decide) (by decide) rfl fun g173 ng173 => ?_
        refine t_keep [2, 3, 8, 9, 10, 20, 21, 22, 30, 31, 34] (σ' := [(2, .int .i64 i2), (3, .int .i64 n3), (8, .pointer (some ⟨b158, 0, none⟩)), (9, .slice (some ⟨g159, 0, none⟩) 1 1), (10, .slice (some ⟨g160, 0, none⟩) 1 1), (20, .slice (some ⟨N170, 1, none⟩) 1 3), (21, .int .i64 1), (22, .int .i64 0), (30, .slice (some ⟨g173, 0, none⟩) 2 (ng173 / 1)), (31, .slice (some ⟨g160, 0, none⟩) 1 1), (34, .slice (some ⟨g174, 0, none⟩) 1 1)]) (by kernel_rfl) ?_
        refine t_vs (H' := ([⟨g174, [.int .i64 t164], 1⟩, ⟨g173, [.int .i64 a0_0, .int .i64 t163], ng173⟩, ⟨g172, [.int .i64 t163], 1⟩, ⟨b171, [.int .i64 t163, .int .i64 t164], 2⟩, ⟨N170, [.int .i64 t162, .int .i64 t163, .int .i64 t164, .int .i64 t165, .int .i64 t166, .int .i64 t167, .int .i64 t168], 7⟩, ⟨g160, [.int .i64 a0_1], 1⟩, ⟨b158, [.int .i64 0, .int .i64 0], 2⟩, ⟨b157, [.int .i64 1, .int .i64 s1_1, .int .i64 s1_2, .int .i64 s1_3, .int .i64 s1_4, .int .i64 s1_5, .int .i64 s1_6], 7⟩, ⟨b156, [.int .i64 a0_0, .int .i64 a0_1], 2⟩] : List Own)) (S' := S) (VS.sel [1, 0, 0, 0, 0, 0, 0, 0, 0] (by kernel_rfl)) ?_
        refine t_end ?_
        exact ⟨hg_1ff g174 g173 ng173 g172, rfl⟩
    have hg_1e7 : ∀ (g174 : Nat), G [true, true, true, false, false, true, true, true, true, false, false, false] [(2, .int .i64 i2), (3, .int .i64 n3), (8, .pointer (some ⟨b158, 0, none⟩)), (9, .slice (some ⟨g159, 0, none⟩) 1 1), (10, .slice (some ⟨g160, 0, none⟩) 1 1), (20, .slice (some ⟨N170, 1, none⟩) 1 3), (21, .int .i64 1), (22, .int .i64 0), (26, .slice (some ⟨g159, 0, none⟩) 1 1), (28, .int .i64 t163), (31, .slice (some ⟨g160, 0, none⟩) 1 1), (34, .slice (some ⟨g174, 0, none⟩) 1 1)] ([⟨g174, [.int .i64 t164], 1⟩, ⟨b171, [.int .i64 t163, .int .i64 t164], 2⟩, ⟨N170, [.int .i64 t162, .int .i64 t163, .int .i64 t164, .int .i64 t165, .int .i64 t166, .int .i64 t167, .int .i64 t168], 7⟩, ⟨g160, [.int .i64 a0_1], 1⟩, ⟨g159, [.int .i64 a0_0], 1⟩, ⟨b158, [.int .i64 0, .int .i64 0], 2⟩, ⟨b157, [.int .i64 1, .int .i64 s1_1, .int .i64 s1_2, .int .i64 s1_3, .int .i64 s1_4, .int .i64 s1_5, .int .i64 s1_6], 7⟩, ⟨b156, [.int .i64 a0_0, .int .i64 a0_1], 2⟩] : List Own) := by
      intro g174
      refine hstep [3] _ _ _ (by kernel_rfl) (List.cons_ne_nil _ _) ⟨?_, trivial⟩
      · show T _ _ _ _ _ _ _ _
        refine t_a (.bsl rfl rfl rfl rfl) fun g172 fg172 sg172 => ?_
        refine t_keep [2, 3, 8, 9, 10, 20, 21, 22, 26, 29, 31, 34] (σ' := [(2, .int .i64 i2), (3, .int .i64 n3), (8, .pointer (some ⟨b158, 0, none⟩)), (9, .slice (some ⟨g159, 0, none⟩) 1 1), (10, .slice (some ⟨g160, 0, none⟩) 1 1), (20, .slice (some ⟨N170, 1, none⟩) 1 3), (21, .int .i64 1), (22, .int .i64 0), (26, .slice (some ⟨g159, 0, none⟩) 1 1), (29, .slice (some ⟨g172, 0, none⟩) 1 1), (31, .slice (some ⟨g160, 0, none⟩) 1 1), (34, .slice (some ⟨g174, 0, none⟩) 1 1)]) (by kernel_rfl) ?_
        refine t_vs (H' := ([⟨g174, [.int .i64 t164], 1⟩, ⟨g172, [.int .i64 t163], 1⟩, ⟨b171, [.int .i64 t163, .int .i64 t164], 2⟩, ⟨N170, [.int .i64 t162, .int .i64 t163, .int .i64 t164, .int .i64 t165, .int .i64 t166, .int .i64 t167, .int .i64 t168], 7⟩, ⟨g160, [.int .i64 a0_1], 1⟩, ⟨g159, [.int .i64 a0_0], 1⟩, ⟨b158, [.int .i64 0, .int .i64 0], 2⟩, ⟨b157, [.int .i64 1, .int .i64 s1_1, .int .i64 s1_2, .int .i64 s1_3, .int .i64 s1_4, .int .i64 s1_5, .int .i64 s1_6], 7⟩, ⟨b156, [.int .i64 a0_0, .int .i64 a0_1], 2⟩] : List Own)) (S' := S) (VS.sel [1, 0, 0, 0, 0, 0, 0, 0, 0] (by kernel_rfl)) ?_
        refine t_end ?_
        exact ⟨hg_1ef g174 g172, rfl⟩
    have hg_ef : ∀ (g172 : Nat), G [true, true, true, true, false, true, true, true, false, false, false, false] [(2, .int .i64 i2), (3, .int .i64 n3), (8, .pointer (some ⟨b158, 0, none⟩)), (9, .slice (some ⟨g159, 0, none⟩) 1 1), (10, .slice (some ⟨g160, 0, none⟩) 1 1), (20, .slice (some ⟨N170, 1, none⟩) 1 3), (21, .int .i64 1), (22, .int .i64 0), (26, .slice (some ⟨g159, 0, none⟩) 1 1), (29, .slice (some ⟨g172, 0, none⟩) 1 1), (31, .slice (some ⟨g160, 0, none⟩) 1 1), (33, .int .i64 t164)] ([⟨g172, [.int .i64 t163], 1⟩, ⟨b171, [.int .i64 t163, .int .i64 t164], 2⟩, ⟨N170, [.int .i64 t162, .int .i64 t163, .int .i64 t164, .int .i64 t165, .int .i64 t166, .int .i64 t167, .int .i64 t168], 7⟩, ⟨g160, [.int .i64 a0_1], 1⟩, ⟨g159, [.int .i64 a0_0], 1⟩, ⟨b158, [.int .i64 0, .int .i64 0], 2⟩, ⟨b157, [.int .i64 1, .int .i64 s1_1, .int .i64 s1_2, .int .i64 s1_3, .int .i64 s1_4, .int .i64 s1_5, .int .i64 s1_6], 7⟩, ⟨b156, [.int .i64 a0_0, .int .i64 a0_1], 2⟩] : List Own) := by
      intro g172
      refine hstep [4, 8] _ _ _ (by kernel_rfl) (List.cons_ne_nil _ _) ⟨?_, ?_, trivial⟩
      · show T _ _ _ _ _ _ _ _
        refine t_app1 (cs := [.int .i64 a0_0]) (M := 1) (F := ([⟨g172, [.int .i64 t163], 1⟩, ⟨b171, [.int .i64 t163, .int .i64 t164], 2⟩, ⟨N170, [.int .i64 t162, .int .i64 t163, .int .i64 t164, .int .i64 t165, .int .i64 t166, .int .i64 t167, .int .i64 t168], 7⟩, ⟨g160, [.int .i64 a0_1], 1⟩, ⟨b158, [.int .i64 0, .int .i64 0], 2⟩, ⟨b157, [.int .i64 1, .int .i64 s1_1, .int .i64 s1_2, .int .i64 s1_3, .int .i64 s1_4, .int .i64 s1_5, .int .i64 s1_6], 7⟩, ⟨b156, [.int .i64 a0_0, .int .i64 a0_1], 2⟩] : List Own)) (news := [.int .i64 t163]) rfl rfl rfl rfl (sel_perm (is := [4]) (by kernel_rfl)) (.at 0 rfl rfl) (by kernel_rfl) rfl rfl (by decide) (by decide) rfl fun g173 ng173 => ?_
        refine t_keep [2, 3, 8, 9, 10, 20, 21, 22, 30, 31, 33] (σ' := [(2, .int .i64 i2), (3, .int .i64 n3), (8, .pointer (some ⟨b158, 0, none⟩)), (9, .slice (some ⟨g159, 0, none⟩) 1 1), (10, .slice (some ⟨g160, 0, none⟩) 1 1), (20, .slice (some ⟨N170, 1, none⟩) 1 3), (21, .int .i64 1), (22, .int .i64 0), (30, .slice (some ⟨g173, 0, none⟩) 2 (ng173 / 1)), (31, .slice (some ⟨g160, 0, none⟩) 1 1), (33, .int .i64 t164)]) (by kernel_rfl) ?_
        refine t_end ?_
        exact ⟨hg_ff g173 ng173 g172, rfl⟩
      · show T _ _ _ _ _ _ _ _
        refine t_a (.bsl rfl rfl rfl rfl) fun g174 fg174 sg174 => ?_
        refine t_keep [2, 3, 8, 9, 10, 20, 21, 22, 26, 29, 31, 34] (σ' := [(2, .int .i64 i2), (3, .int .i64 n3), (8, .pointer (some ⟨b158, 0, none⟩)), (9, .slice (some ⟨g159, 0, none⟩) 1 1), (10, .slice (some ⟨g160, 0, none⟩) 1 1), (20, .slice (some ⟨N170, 1, none⟩) 1 3), (21, .int .i64 1), (22, .int .i64 0), (26, .slice (some ⟨g159, 0, none⟩) 1 1), (29, .slice (some ⟨g172, 0, none⟩) 1 1), (31, .slice (some ⟨g160, 0, none⟩) 1 1), (34, .slice (some ⟨g174, 0, none⟩) 1 1)]) (by kernel_rfl) ?_
        refine t_end ?_
        exact ⟨hg_1ef g174 g172, rfl⟩
    have hg_7f : ∀ (g173 : Nat) (ng173 : Nat) (g172 : Nat), G [true, true, true, true, true, true, true, false, false, false, false, false] [(2, .int .i64 i2), (3, .int .i64 n3), (8, .pointer (some ⟨b158, 0, none⟩)), (9, .slice (some ⟨g159, 0, none⟩) 1 1), (10, .slice (some ⟨g160, 0, none⟩) 1 1), (20, .slice (some ⟨N170, 1, none⟩) 1 3), (21, .int .i64 1), (22, .int .i64 0), (30, .slice (some ⟨g173, 0, none⟩) 2 (ng173 / 1)), (31, .slice (some ⟨g160, 0, none⟩) 1 1), (32, .pointer (some ⟨b171, 1, none⟩))] ([⟨g173, [.int .i64 a0_0, .int .i64 t163], ng173⟩, ⟨g172, [.int .i64 t163], 1⟩, ⟨b171, [.int .i64 t163, .int .i64 t164], 2⟩, ⟨N170, [.int .i64 t162, .int .i64 t163, .int .i64 t164, .int .i64 t165, .int .i64 t166, .int .i64 t167, .int .i64 t168], 7⟩, ⟨g160, [.int .i64 a0_1], 1⟩, ⟨b158, [.int .i64 0, .int .i64 0], 2⟩, ⟨b157, [.int .i64 1, .int .i64 s1_1, .int .i64 s1_2, .int .i64 s1_3, .int .i64 s1_4, .int .i64 s1_5, .int .i64 s1_6], 7⟩, ⟨b156, [.int .i64 a0_0, .int .i64 a0_1], 2⟩] : List Own) := by
      intro g173 ng173 g172
      refine hstep [7] _ _ _ (by kernel_rfl) (List.cons_ne_nil _ _) ⟨?_, trivial⟩
      · show T _ _ _ _ _ _ _ _
        refine t_v (.ld1 rfl rfl rfl (.at 2 rfl rfl)) ?_
        refine t_keep [2, 3, 8, 9, 10, 20, 21, 22, 30, 31, 33] (σ' := [(2, .int .i64 i2), (3, .int .i64 n3), (8, .pointer (some ⟨b158, 0, none⟩)), (9, .slice (some ⟨g159, 0, none⟩) 1 1), (10, .slice (some ⟨g160, 0, none⟩) 1 1), (20, .slice (some ⟨N170, 1, none⟩) 1 3), (21, .int .i64 1), (22, .int .i64 0), (30, .slice (some ⟨g173, 0, none⟩) 2 (ng173 / 1)), (31, .slice (some ⟨g160, 0, none⟩) 1 1), (33, .int .i64 t164)]) (by kernel_rfl) ?_
        refine t_end ?_
        exact ⟨hg_ff g173 ng173 g172, rfl⟩
    have hg_1e3 : ∀ (g174 : Nat), G [true, true, false, false, false, true, true, true, true, false, false, false] [(2, .int .i64 i2), (3, .int .i64 n3), (8, .pointer (some ⟨b158, 0, none⟩)), (9, .slice (some ⟨g159, 0, none⟩) 1 1), (10, .slice (some ⟨g160, 0, none⟩) 1 1), (20, .slice (some ⟨N170, 1, none⟩) 1 3), (21, .int .i64 1), (22, .int .i64 0), (26, .slice (some ⟨g159, 0, none⟩) 1 1), (27, .pointer (some ⟨b171, 0, none⟩)), (31, .slice (some ⟨g160, 0, none⟩) 1 1), (34, .slice (some ⟨g174, 0, none⟩) 1 1)] ([⟨g174, [.int .i64 t164], 1⟩, ⟨b171, [.int .i64 t163, .int .i64 t164], 2⟩, ⟨N170, [.int .i64 t162, .int .i64 t163, .int .i64 t164, .int .i64 t165, .int .i64 t166, .int .i64 t167, .int .i64 t168], 7⟩, ⟨g160, [.int .i64 a0_1], 1⟩, ⟨g159, [.int .i64 a0_0], 1⟩, ⟨b158, [.int .i64 0, .int .i64 0], 2⟩, ⟨b157, [.int .i64 1, .int .i64 s1_1, .int .i64 s1_2, .int .i64 s1_3, .int .i64 s1_4, .int .i64 s1_5, .int .i64 s1_6], 7⟩, ⟨b156, [.int .i64 a0_0, .int .i64 a0_1], 2⟩] : List Own) := by
      intro g174
      refine hstep [2] _ _ _ (by kernel_rfl) (List.cons_ne_nil _ _) ⟨?_, trivial⟩
      · show T _ _ _ _ _ _ _ _
        refine t_v (.ld1 rfl rfl rfl (.at 1 rfl rfl)) ?_
        refine t_keep [2, 3, 8, 9, 10, 20, 21, 22, 26, 28, 31, 34] (σ' := [(2, .int .i64 i2), (3, .int .i64 n3), (8, .pointer (some ⟨b158, 0, none⟩)), (9, .slice (some ⟨g159, 0, none⟩) 1 1), (10, .slice (some ⟨g160, 0, none⟩) 1 1), (20, .slice (some ⟨N170, 1, none⟩) 1 3), (21, .int .i64 1), (22, .int .i64 0), (26, .slice (some ⟨g159, 0, none⟩) 1 1), (28, .int .i64 t163), (31, .slice (some ⟨g160, 0, none⟩) 1 1), (34, .slice (some ⟨g174, 0, none⟩) 1 1)]) (by kernel_rfl) ?_
        refine t_end ?_
        exact ⟨hg_1e7 g174, rfl⟩
    have hg_e7 : G [true, true, true, false, false, true, true, true, false, false, false, false] [(2, .int .i64 i2), (3, .int .i64 n3), (8, .pointer (some ⟨b158, 0, none⟩)), (9, .slice (some ⟨g159, 0, none⟩) 1 1), (10, .slice (some ⟨g160, 0, none⟩) 1 1), (20, .slice (some ⟨N170, 1, none⟩) 1 3), (21, .int .i64 1), (22, .int .i64 0), (26, .slice (some ⟨g159, 0, none⟩) 1 1), (28, .int .i64 t163), (31, .slice (some ⟨g160, 0, none⟩) 1 1), (33, .int .i64 t164)] ([⟨b171, [.int .i64 t163, .int .i64 t164], 2⟩, ⟨N170, [.int .i64 t162, .int .i64 t163, .int .i64 t164, .int .i64 t165, .int .i64 t166, .int .i64 t167, .int .i64 t168], 7⟩, ⟨g160, [.int .i64 a0_1], 1⟩, ⟨g159, [.int .i64 a0_0], 1⟩, ⟨b158, [.int .i64 0, .int .i64 0], 2⟩, ⟨b157, [.int .i64 1, .int .i64 s1_1, .int .i64 s1_2, .int .i64 s1_3, .int .i64 s1_4, .int .i64 s1_5, .int .i64 s1_6], 7⟩, ⟨b156, [.int .i64 a0_0, .int .i64 a0_1], 2⟩] : List Own) := by
      refine hstep [3, 8] _ _ _ (by kernel_rfl) (List.cons_ne_nil _ _) ⟨?_, ?_, trivial⟩
      · show T _ _ _ _ _ _ _ _
        refine t_a (.bsl rfl rfl rfl rfl) fun g172 fg172 sg172 => ?_
        refine t_keep [2, 3, 8, 9, 10, 20, 21, 22, 26, 29, 31, 33] (σ' := [(2, .int .i64 i2), (3, .int .i64 n3), (8, .pointer (some ⟨b158, 0, none⟩)), (9, .slice (some ⟨g159, 0, none⟩) 1 1), (10, .slice (some ⟨g160, 0, none⟩) 1 1), (20, .slice (some ⟨N170, 1, none⟩) 1 3), (21, .int .i64 1), (22, .int .i64 0), (26, .slice (some ⟨g159, 0, none⟩) 1 1), (29, .slice (some ⟨g172, 0, none⟩) 1 1), (31, .slice (some ⟨g160, 0, none⟩) 1 1), (33, .int .i64 t164)]) (by kernel_rfl) ?_
        refine t_end ?_
        exact ⟨hg_ef g172, rfl⟩
      · show T _ _ _ _ _ _ _ _
        refine t_a (.bsl rfl rfl rfl rfl) fun g174 fg174 sg174 => ?_
        refine t_keep [2, 3, 8, 9, 10, 20, 21, 22, 26, 28, 31, 34] (σ' := [(2, .int .i64 i2), (3, .int .i64 n3), (8, .pointer (some ⟨b158, 0, none⟩)), (9, .slice (some ⟨g159, 0, none⟩) 1 1), (10, .slice (some ⟨g160, 0, none⟩) 1 1), (20, .slice (some ⟨N170, 1, none⟩) 1 3), (21, .int .i64 1), (22, .int .i64 0), (26, .slice (some ⟨g159, 0, none⟩) 1 1), (28, .int .i64 t163), (31, .slice (some ⟨g160, 0, none⟩) 1 1), (34, .slice (some ⟨g174, 0, none⟩) 1 1)]) (by kernel_rfl) ?_
        refine t_end ?_
        exact ⟨hg_1e7 g174, rfl⟩
    have hg_6f : ∀ (g172 : Nat), G [true, true, true, true, false, true, true, false, false, false, false, false] [(2, .int .i64 i2), (3, .int .i64 n3), (8, .pointer (some ⟨b158, 0, none⟩)), (9, .slice (some ⟨g159, 0, none⟩) 1 1), (10, .slice (some ⟨g160, 0, none⟩) 1 1), (20, .slice (some ⟨N170, 1, none⟩) 1 3), (21, .int .i64 1), (22, .int .i64 0), (26, .slice (some ⟨g159, 0, none⟩) 1 1), (29, .slice (some ⟨g172, 0, none⟩) 1 1), (31, .slice (some ⟨g160, 0, none⟩) 1 1), (32, .pointer (some ⟨b171, 1, none⟩))] ([⟨g172, [.int .i64 t163], 1⟩, ⟨b171, [.int .i64 t163, .int .i64 t164], 2⟩, ⟨N170, [.int .i64 t162, .int .i64 t163, .int .i64 t164, .int .i64 t165, .int .i64 t166, .int .i64 t167, .int .i64 t168], 7⟩, ⟨g160, [.int .i64 a0_1], 1⟩, ⟨g159, [.int .i64 a0_0], 1⟩, ⟨b158, [.int .i64 0, .int .i64 0], 2⟩, ⟨b157, [.int .i64 1, .int .i64 s1_1, .int .i64 s1_2, .int .i64 s1_3, .int .i64 s1_4, .int .i64 s1_5, .int .i64 s1_6], 7⟩, ⟨b156, [.int .i64 a0_0, .int .i64 a0_1], 2⟩] : List Own) := by
      intro g172
      refine hstep [4, 7] _ _ _ (by kernel_rfl) (List.cons_ne_nil _ _) ⟨?_, ?_, trivial⟩
      · show T _ _ _ _ _ _ _ _
        refine t_app1 (cs := [.int .i64 a0_0]) (M := 1) (F := ([⟨g172, [.int .i64 t163], 1⟩, ⟨b171, [.int .i64 t163, .int .i64 t164], 2⟩, ⟨N170, [.int .i64 t162, .int .i64 t163, .int .i64 t164, .int .i64 t165, .int .i64 t166, .int .i64 t167, .int .i64 t168], 7⟩, ⟨g160, [.int .i64 a0_1], 1⟩, ⟨b158, [.int .i64 0, .int .i64 0], 2⟩, ⟨b157, [.int .i64 1, .int .i64 s1_1, .int .i64 s1_2, .int .i64 s1_3, .int .i64 s1_4, .int .i64 s1_5, .int .i64 s1_6], 7⟩, ⟨b156, [.int .i64 a0_0, .int .i64 a0_1], 2⟩] : List Own)) (news := [.int .i64 t163]) rfl rfl rfl rfl (sel_perm (is := [4]) (by kernel_rfl)) (.at 0 rfl rfl) (by kernel_rfl) rfl rfl (by decide) (by decide) rfl fun g173 ng173 => ?_
        refine t_keep [2, 3, 8, 9, 10, 20, 21, 22, 30, 31, 32] (σ' := [(2, .int .i64 i2), (3, .int .i64 n3), (8, .pointer (some ⟨b158, 0, none⟩)), (9, .slice (some ⟨g159, 0, none⟩) 1 1), (10, .slice (some ⟨g160, 0, none⟩) 1 1), (20, .slice (some ⟨N170, 1, none⟩) 1 3), (21, .int .i64 1), (22, .int .i64 0), (30, .slice (some ⟨g173, 0, none⟩) 2 (ng173 / 1)), (31, .slice (some ⟨g160, 0, none⟩) 1 1), (32, .pointer (some ⟨b171, 1, none⟩))]) (by kernel_rfl) ?_
        refine t_end ?_
        exact ⟨hg_7f g173 ng173 g172, rfl⟩
      · show T _ _ _ _ _ _ _ _
        refine t_v (.ld1 rfl rfl rfl (.at 1 rfl rfl)) ?_
        refine t_keep [2, 3, 8, 9, 10, 20, 21, 22, 26, 29, 31, 33] (σ' := [(2, .int .i64 i2), (3, .int .i64 n3), (8, .pointer (some ⟨b158, 0, none⟩)), (9, .slice (some ⟨g159, 0, none⟩) 1 1), (10, .slice (some ⟨g160, 0, none⟩) 1 1), (20, .slice (some ⟨N170, 1, none⟩) 1 3), (21, .int .i64 1), (22, .int .i64 0), (26, .slice (some ⟨g159, 0, none⟩) 1 1), (29, .slice (some ⟨g172, 0, none⟩) 1 1), (31, .slice (some ⟨g160, 0, none⟩) 1 1), (33, .int .i64 t164)]) (by kernel_rfl) ?_
        refine t_end ?_
        exact ⟨hg_ef g172, rfl⟩
    have hg_e3 : G [true, true, false, false, false, true, true, true, false, false, false, false] [(2, .int .i64 i2), (3, .int .i64 n3), (8, .pointer (some ⟨b158, 0, none⟩)), (9, .slice (some ⟨g159, 0, none⟩) 1 1), (10, .slice (some ⟨g160, 0, none⟩) 1 1), (20, .slice (some ⟨N170, 1, none⟩) 1 3), (21, .int .i64 1), (22, .int .i64 0), (26, .slice (some ⟨g159, 0, none⟩) 1 1), (27, .pointer (some ⟨b171, 0, none⟩)), (31, .slice (some ⟨g160, 0, none⟩) 1 1), (33, .int .i64 t164)] ([⟨b171, [.int .i64 t163, .int .i64 t164], 2⟩, ⟨N170, [.int .i64 t162, .int .i64 t163, .int .i64 t164, .int .i64 t165, .int .i64 t166, .int .i64 t167, .int .i64 t168], 7⟩, ⟨g160, [.int .i64 a0_1], 1⟩, ⟨g159, [.int .i64 a0_0], 1⟩, ⟨b158, [.int .i64 0, .int .i64 0], 2⟩, ⟨b157, [.int .i64 1, .int .i64 s1_1, .int .i64 s1_2, .int .i64 s1_3, .int .i64 s1_4, .int .i64 s1_5, .int .i64 s1_6], 7⟩, ⟨b156, [.int .i64 a0_0, .int .i64 a0_1], 2⟩] : List Own) := by
      refine hstep [2, 8] _ _ _ (by kernel_rfl) (List.cons_ne_nil _ _) ⟨?_, ?_, trivial⟩
      · show T _ _ _ _ _ _ _ _
        refine t_v (.ld1 rfl rfl rfl (.at 0 rfl rfl)) ?_
        refine t_keep [2, 3, 8, 9, 10, 20, 21, 22, 26, 28, 31, 33] (σ' := [(2, .int .i64 i2), (3, .int .i64 n3), (8, .pointer (some ⟨b158, 0, none⟩)), (9, .slice (some ⟨g159, 0, none⟩) 1 1), (10, .slice (some ⟨g160, 0, none⟩) 1 1), (20, .slice (some ⟨N170, 1, none⟩) 1 3), (21, .int .i64 1), (22, .int .i64 0), (26, .slice (some ⟨g159, 0, none⟩) 1 1), (28, .int .i64 t163), (31, .slice (some ⟨g160, 0, none⟩) 1 1), (33, .int .i64 t164)]) (by kernel_rfl) ?_
        refine t_end ?_
        exact ⟨hg_e7, rfl⟩
      · show T _ _ _ _ _ _ _ _
        refine t_a (.bsl rfl rfl rfl rfl) fun g174 fg174 sg174 => ?_
        refine t_keep [2, 3, 8, 9, 10, 20, 21, 22, 26, 27, 31, 34] (σ' := [(2, .int .i64 i2), (3, .int .i64 n3), (8, .pointer (some ⟨b158, 0, none⟩)), (9, .slice (some ⟨g159, 0, none⟩) 1 1), (10, .slice (some ⟨g160, 0, none⟩) 1 1), (20, .slice (some ⟨N170, 1, none⟩) 1 3), (21, .int .i64 1), (22, .int .i64 0), (26, .slice (some ⟨g159, 0, none⟩) 1 1), (27, .pointer (some ⟨b171, 0, none⟩)), (31, .slice (some ⟨g160, 0, none⟩) 1 1), (34, .slice (some ⟨g174, 0, none⟩) 1 1)]) (by kernel_rfl) ?_
        refine t_end ?_
        exact ⟨hg_1e3 g174, rfl⟩
    have hg_67 : G [true, true, true, false, false, true, true, false, false, false, false, false] [(2, .int .i64 i2), (3, .int .i64 n3), (8, .pointer (some ⟨b158, 0, none⟩)), (9, .slice (some ⟨g159, 0, none⟩) 1 1), (10, .slice (some ⟨g160, 0, none⟩) 1 1), (20, .slice (some ⟨N170, 1, none⟩) 1 3), (21, .int .i64 1), (22, .int .i64 0), (26, .slice (some ⟨g159, 0, none⟩) 1 1), (28, .int .i64 t163), (31, .slice (some ⟨g160, 0, none⟩) 1 1), (32, .pointer (some ⟨b171, 1, none⟩))] ([⟨b171, [.int .i64 t163, .int .i64 t164], 2⟩, ⟨N170, [.int .i64 t162, .int .i64 t163, .int .i64 t164, .int .i64 t165, .int .i64 t166, .int .i64 t167, .int .i64 t168], 7⟩, ⟨g160, [.int .i64 a0_1], 1⟩, ⟨g159, [.int .i64 a0_0], 1⟩, ⟨b158, [.int .i64 0, .int .i64 0], 2⟩, ⟨b157, [.int .i64 1, .int .i64 s1_1, .int .i64 s1_2, .int .i64 s1_3, .int .i64 s1_4, .int .i64 s1_5, .int .i64 s1_6], 7⟩, ⟨b156, [.int .i64 a0_0, .int .i64 a0_1], 2⟩] : List Own) := by
      refine hstep [3, 7] _ _ _ (by kernel_rfl) (List.cons_ne_nil _ _) ⟨?_, ?_, trivial⟩
      · show T _ _ _ _ _ _ _ _
        refine t_a (.bsl rfl rfl rfl rfl) fun g172 fg172 sg172 => ?_
        refine t_keep [2, 3, 8, 9, 10, 20, 21, 22, 26, 29, 31, 32] (σ' := [(2, .int .i64 i2), (3, .int .i64 n3), (8, .pointer (some ⟨b158, 0, none⟩)), (9, .slice (some ⟨g159, 0, none⟩) 1 1), (10, .slice (some ⟨g160, 0, none⟩) 1 1), (20, .slice (some ⟨N170, 1, none⟩) 1 3), (21, .int .i64 1), (22, .int .i64 0), (26, .slice (some ⟨g159, 0, none⟩) 1 1), (29, .slice (some ⟨g172, 0, none⟩) 1 1), (31, .slice (some ⟨g160, 0, none⟩) 1 1), (32, .pointer (some ⟨b171, 1, none⟩))]) (by kernel_rfl) ?_
        refine t_end ?_
        exact ⟨hg_6f g172, rfl⟩
      · show T _ _ _ _ _ _ _ _
        refine t_v (.ld1 rfl rfl rfl (.at 0 rfl rfl)) ?_
        refine t_keep [2, 3, 8, 9, 10, 20, 21, 22, 26, 28, 31, 33] (σ' := [(2, .int .i64 i2), (3, .int .i64 n3), (8, .pointer (some ⟨b158, 0, none⟩)), (9, .slice (some ⟨g159, 0, none⟩) 1 1), (10, .slice (some ⟨g160, 0, none⟩) 1 1), (20, .slice (some ⟨N170, 1, none⟩) 1 3), (21, .int .i64 1), (22, .int .i64 0), (26, .slice (some ⟨g159, 0, none⟩) 1 1), (28, .int .i64 t163), (31, .slice (some ⟨g160, 0, none⟩) 1 1), (33, .int .i64 t164)]) (by kernel_rfl) ?_
        refine t_end ?_
        exact ⟨hg_e7, rfl⟩
    have hg_63 : G [true, true, false, false, false, true, true, false, false, false, false, false] [(2, .int .i64 i2), (3, .int .i64 n3), (8, .pointer (some ⟨b158, 0, none⟩)), (9, .slice (some ⟨g159, 0, none⟩) 1 1), (10, .slice (some ⟨g160, 0, none⟩) 1 1), (20, .slice (some ⟨N170, 1, none⟩) 1 3), (21, .int .i64 1), (22, .int .i64 0), (26, .slice (some ⟨g159, 0, none⟩) 1 1), (27, .pointer (some ⟨b171, 0, none⟩)), (31, .slice (some ⟨g160, 0, none⟩) 1 1), (32, .pointer (some ⟨b171, 1, none⟩))] ([⟨b171, [.int .i64 t163, .int .i64 t164], 2⟩, ⟨N170, [.int .i64 t162, .int .i64 t163, .int .i64 t164, .int .i64 t165, .int .i64 t166, .int .i64 t167, .int .i64 t168], 7⟩, ⟨g160, [.int .i64 a0_1], 1⟩, ⟨g159, [.int .i64 a0_0], 1⟩, ⟨b158, [.int .i64 0, .int .i64 0], 2⟩, ⟨b157, [.int .i64 1, .int .i64 s1_1, .int .i64 s1_2, .int .i64 s1_3, .int .i64 s1_4, .int .i64 s1_5, .int .i64 s1_6], 7⟩, ⟨b156, [.int .i64 a0_0, .int .i64 a0_1], 2⟩] : List Own) := by
      refine hstep [2, 7] _ _ _ (by kernel_rfl) (List.cons_ne_nil _ _) ⟨?_, ?_, trivial⟩
      · show T _ _ _ _ _ _ _ _
        refine t_v (.ld1 rfl rfl rfl (.at 0 rfl rfl)) ?_
        refine t_keep [2, 3, 8, 9, 10, 20, 21, 22, 26, 28, 31, 32] (σ' := [(2, .int .i64 i2), (3, .int .i64 n3), (8, .pointer (some ⟨b158, 0, none⟩)), (9, .slice (some ⟨g159, 0, none⟩) 1 1), (10, .slice (some ⟨g160, 0, none⟩) 1 1), (20, .slice (some ⟨N170, 1, none⟩) 1 3), (21, .int .i64 1), (22, .int .i64 0), (26, .slice (some ⟨g159, 0, none⟩) 1 1), (28, .int .i64 t163), (31, .slice (some ⟨g160, 0, none⟩) 1 1), (32, .pointer (some ⟨b171, 1, none⟩))]) (by kernel_rfl) ?_
        refine t_end ?_
        exact ⟨hg_67, rfl⟩
      · show T _ _ _ _ _ _ _ _
        refine t_v (.ld1 rfl rfl rfl (.at 0 rfl rfl)) ?_
        refine t_keep [2, 3, 8, 9, 10, 20, 21, 22, 26, 27, 31, 33] (σ' := [(2, .int .i64 i2), (3, .int .i64 n3), (8, .pointer (some ⟨b158, 0, none⟩)), (9, .slice (some ⟨g159, 0, none⟩) 1 1), (10, .slice (some ⟨g160, 0, none⟩) 1 1), (20, .slice (some ⟨N170, 1, none⟩) 1 3), (21, .int .i64 1), (22, .int .i64 0), (26, .slice (some ⟨g159, 0, none⟩) 1 1), (27, .pointer (some ⟨b171, 0, none⟩)), (31, .slice (some ⟨g160, 0, none⟩) 1 1), (33, .int .i64 t164)]) (by kernel_rfl) ?_
        refine t_end ?_
        exact ⟨hg_e3, rfl⟩
    have hg_23 : G [true, true, false, false, false, true, false, false, false, false, false, false] [(2, .int .i64 i2), (3, .int .i64 n3), (8, .pointer (some ⟨b158, 0, none⟩)), (9, .slice (some ⟨g159, 0, none⟩) 1 1), (10, .slice (some ⟨g160, 0, none⟩) 1 1), (12, .pointer (some ⟨b171, 0, none⟩)), (20, .slice (some ⟨N170, 1, none⟩) 1 3), (21, .int .i64 1), (22, .int .i64 0), (26, .slice (some ⟨g159, 0, none⟩) 1 1), (27, .pointer (some ⟨b171, 0, none⟩)), (31, .slice (some ⟨g160, 0, none⟩) 1 1)] ([⟨b171, [.int .i64 t163, .int .i64 t164], 2⟩, ⟨N170, [.int .i64 t162, .int .i64 t163, .int .i64 t164, .int .i64 t165, .int .i64 t166, .int .i64 t167, .int .i64 t168], 7⟩, ⟨g160, [.int .i64 a0_1], 1⟩, ⟨g159, [.int .i64 a0_0], 1⟩, ⟨b158, [.int .i64 0, .int .i64 0], 2⟩, ⟨b157, [.int .i64 1, .int .i64 s1_1, .int .i64 s1_2, .int .i64 s1_3, .int .i64 s1_4, .int .i64 s1_5, .int .i64 s1_6], 7⟩, ⟨b156, [.int .i64 a0_0, .int .i64 a0_1], 2⟩] : List Own) := by
      exact hqf 6 [2, 3, 8, 9, 10, 20, 21, 22, 26, 27, 31, 32] _ _ _ [(2, .int .i64 i2), (3, .int .i64 n3), (8, .pointer (some ⟨b158, 0, none⟩)), (9, .slice (some ⟨g159, 0, none⟩) 1 1), (10, .slice (some ⟨g160, 0, none⟩) 1 1), (20, .slice (some ⟨N170, 1, none⟩) 1 3), (21, .int .i64 1), (22, .int .i64 0), (26, .slice (some ⟨g159, 0, none⟩) 1 1), (27, .pointer (some ⟨b171, 0, none⟩)), (31, .slice (some ⟨g160, 0, none⟩) 1 1), (32, .pointer (some ⟨b171, 1, none⟩))] (by kernel_rfl) (by kernel_rfl) hg_63
    have hg_3 : G [true, true, false, false, false, false, false, false, false, false, false, false] [(2, .int .i64 i2), (3, .int .i64 n3), (8, .pointer (some ⟨b158, 0, none⟩)), (9, .slice (some ⟨g159, 0, none⟩) 1 1), (10, .slice (some ⟨g160, 0, none⟩) 1 1), (12, .pointer (some ⟨b171, 0, none⟩)), (20, .slice (some ⟨N170, 1, none⟩) 1 3), (21, .int .i64 1), (22, .int .i64 0), (26, .slice (some ⟨g159, 0, none⟩) 1 1), (27, .pointer (some ⟨b171, 0, none⟩))] ([⟨b171, [.int .i64 t163, .int .i64 t164], 2⟩, ⟨N170, [.int .i64 t162, .int .i64 t163, .int .i64 t164, .int .i64 t165, .int .i64 t166, .int .i64 t167, .int .i64 t168], 7⟩, ⟨g160, [.int .i64 a0_1], 1⟩, ⟨g159, [.int .i64 a0_0], 1⟩, ⟨b158, [.int .i64 0, .int .i64 0], 2⟩, ⟨b157, [.int .i64 1, .int .i64 s1_1, .int .i64 s1_2, .int .i64 s1_3, .int .i64 s1_4, .int .i64 s1_5, .int .i64 s1_6], 7⟩, ⟨b156, [.int .i64 a0_0, .int .i64 a0_1], 2⟩] : List Own) := by
      exact hqf 5 [2, 3, 8, 9, 10, 12, 20, 21, 22, 26, 27, 31] _ _ _ [(2, .int .i64 i2), (3, .int .i64 n3), (8, .pointer (some ⟨b158, 0, none⟩)), (9, .slice (some ⟨g159, 0, none⟩) 1 1), (10, .slice (some ⟨g160, 0, none⟩) 1 1), (12, .pointer (some ⟨b171, 0, none⟩)), (20, .slice (some ⟨N170, 1, none⟩) 1 3), (21, .int .i64 1), (22, .int .i64 0), (26, .slice (some ⟨g159, 0, none⟩) 1 1), (27, .pointer (some ⟨b171, 0, none⟩)), (31, .slice (some ⟨g160, 0, none⟩) 1 1)] (by kernel_rfl) (by kernel_rfl) hg_23
    have hg_1 : G [true, false, false, false, false, false, false, false, false, false, false, false] [(2, .int .i64 i2), (3, .int .i64 n3), (8, .pointer (some ⟨b158, 0, none⟩)), (9, .slice (some ⟨g159, 0, none⟩) 1 1), (10, .slice (some ⟨g160, 0, none⟩) 1 1), (12, .pointer (some ⟨b171, 0, none⟩)), (20, .slice (some ⟨N170, 1, none⟩) 1 3), (21, .int .i64 1), (22, .int .i64 0), (26, .slice (some ⟨g159, 0, none⟩) 1 1)] ([⟨b171, [.int .i64 t163, .int .i64 t164], 2⟩, ⟨N170, [.int .i64 t162, .int .i64 t163, .int .i64 t164, .int .i64 t165, .int .i64 t166, .int .i64 t167, .int .i64 t168], 7⟩, ⟨g160, [.int .i64 a0_1], 1⟩, ⟨g159, [.int .i64 a0_0], 1⟩, ⟨b158, [.int .i64 0, .int .i64 0], 2⟩, ⟨b157, [.int .i64 1, .int .i64 s1_1, .int .i64 s1_2, .int .i64 s1_3, .int .i64 s1_4, .int .i64 s1_5, .int .i64 s1_6], 7⟩, ⟨b156, [.int .i64 a0_0, .int .i64 a0_1], 2⟩] : List Own) := by
      exact hqf 1 [2, 3, 8, 9, 10, 12, 20, 21, 22, 26, 27] _ _ _ [(2, .int .i64 i2), (3, .int .i64 n3), (8, .pointer (some ⟨b158, 0, none⟩)), (9, .slice (some ⟨g159, 0, none⟩) 1 1), (10, .slice (some ⟨g160, 0, none⟩) 1 1), (12, .pointer (some ⟨b171, 0, none⟩)), (20, .slice (some ⟨N170, 1, none⟩) 1 3), (21, .int .i64 1), (22, .int .i64 0), (26, .slice (some ⟨g159, 0, none⟩) 1 1), (27, .pointer (some ⟨b171, 0, none⟩))] (by kernel_rfl) (by kernel_rfl) hg_3
    have hg_0 : G [false, false, false, false, false, false, false, false, false, false, false, false] [(2, .int .i64 i2), (3, .int .i64 n3), (8, .pointer (some ⟨b158, 0, none⟩)), (9, .slice (some ⟨g159, 0, none⟩) 1 1), (10, .slice (some ⟨g160, 0, none⟩) 1 1), (12, .pointer (some ⟨b171, 0, none⟩)), (20, .slice (some ⟨N170, 1, none⟩) 1 3), (21, .int .i64 1), (22, .int .i64 0)] ([⟨b171, [.int .i64 t163, .int .i64 t164], 2⟩, ⟨N170, [.int .i64 t162, .int .i64 t163, .int .i64 t164, .int .i64 t165, .int .i64 t166, .int .i64 t167, .int .i64 t168], 7⟩, ⟨g160, [.int .i64 a0_1], 1⟩, ⟨g159, [.int .i64 a0_0], 1⟩, ⟨b158, [.int .i64 0, .int .i64 0], 2⟩, ⟨b157, [.int .i64 1, .int .i64 s1_1, .int .i64 s1_2, .int .i64 s1_3, .int .i64 s1_4, .int .i64 s1_5, .int .i64 s1_6], 7⟩, ⟨b156, [.int .i64 a0_0, .int .i64 a0_1], 2⟩] : List Own) := by
      exact hqf 0 [2, 3, 8, 9, 10, 12, 20, 21, 22, 26] _ _ _ [(2, .int .i64 i2), (3, .int .i64 n3), (8, .pointer (some ⟨b158, 0, none⟩)), (9, .slice (some ⟨g159, 0, none⟩) 1 1), (10, .slice (some ⟨g160, 0, none⟩) 1 1), (12, .pointer (some ⟨b171, 0, none⟩)), (20, .slice (some ⟨N170, 1, none⟩) 1 3), (21, .int .i64 1), (22, .int .i64 0), (26, .slice (some ⟨g159, 0, none⟩) 1 1)] (by kernel_rfl) (by kernel_rfl) hg_1
    exact hg_0
  have hg_7f : ∀ (g160 : Nat) (g159 : Nat), G [true, true, true, true, true, true, true, false] [(2, .int .i64 i2), (3, .int .i64 n3), (5, .pointer (some ⟨b157, 0, none⟩)), (8, .pointer (some ⟨b158, 0, none⟩)), (9, .slice (some ⟨g159, 0, none⟩) 1 1), (18, .slice (some ⟨g160, 0, none⟩) 1 1)] ([⟨g160, [.int .i64 a0_1], 1⟩, ⟨g159, [.int .i64 a0_0], 1⟩, ⟨b158, [.int .i64 0, .int .i64 0], 2⟩, ⟨b157, [.int .i64 1, .int .i64 s1_1, .int .i64 s1_2, .int .i64 s1_3, .int .i64 s1_4, .int .i64 s1_5, .int .i64 s1_6], 7⟩, ⟨b156, [.int .i64 a0_0, .int .i64 a0_1], 2⟩] : List Own) := by
    intro g160 g159
    exact hqf 7 [2, 3, 5, 8, 9, 10] _ _ _ [(2, .int .i64 i2), (3, .int .i64 n3), (5, .pointer (some ⟨b157, 0, none⟩)), (8, .pointer (some ⟨b158, 0, none⟩)), (9, .slice (some ⟨g159, 0, none⟩) 1 1), (10, .slice (some ⟨g160, 0, none⟩) 1 1)] (by kernel_rfl) (by kernel_rfl) (hg_ff g160 g159)
  have hg_3f : ∀ (g160 : Nat) (g159 : Nat), G [true, true, true, true, true, true, false, false] [(2, .int .i64 i2), (3, .int .i64 n3), (5, .pointer (some ⟨b157, 0, none⟩)), (8, .pointer (some ⟨b158, 0, none⟩)), (15, .slice (some ⟨g159, 0, none⟩) 1 1), (18, .slice (some ⟨g160, 0, none⟩) 1 1)] ([⟨g160, [.int .i64 a0_1], 1⟩, ⟨g159, [.int .i64 a0_0], 1⟩, ⟨b158, [.int .i64 0, .int .i64 0], 2⟩, ⟨b157, [.int .i64 1, .int .i64 s1_1, .int .i64 s1_2, .int .i64 s1_3, .int .i64 s1_4, .int .i64 s1_5, .int .i64 s1_6], 7⟩, ⟨b156, [.int .i64 a0_0, .int .i64 a0_1], 2⟩] : List Own) := by
    intro g160 g159
    exact hqf 6 [2, 3, 5, 8, 9, 18] _ _ _ [(2, .int .i64 i2), (3, .int .i64 n3), (5, .pointer (some ⟨b157, 0, none⟩)), (8, .pointer (some ⟨b158, 0, none⟩)), (9, .slice (some ⟨g159, 0, none⟩) 1 1), (18, .slice (some ⟨g160, 0, none⟩) 1 1)] (by kernel_rfl) (by kernel_rfl) (hg_7f g160 g159)
  have hg_5f : ∀ (g159 : Nat), G [true, true, true, true, true, false, true, false] [(2, .int .i64 i2), (3, .int .i64 n3), (5, .pointer (some ⟨b157, 0, none⟩)), (8, .pointer (some ⟨b158, 0, none⟩)), (9, .slice (some ⟨g159, 0, none⟩) 1 1), (17, .int .i64 a0_1)] ([⟨g159, [.int .i64 a0_0], 1⟩, ⟨b158, [.int .i64 0, .int .i64 0], 2⟩, ⟨b157, [.int .i64 1, .int .i64 s1_1, .int .i64 s1_2, .int .i64 s1_3, .int .i64 s1_4, .int .i64 s1_5, .int .i64 s1_6], 7⟩, ⟨b156, [.int .i64 a0_0, .int .i64 a0_1], 2⟩] : List Own) := by
    intro g159
    refine hstep [5] _ _ _ (by kernel_rfl) (List.cons_ne_nil _ _) ⟨?_, trivial⟩
    · show T _ _ _ _ _ _ _ _
      refine t_a (.bsl rfl rfl rfl rfl) fun g160 fg160 sg160 => ?_
      refine t_keep [2, 3, 5, 8, 9, 18] (σ' := [(2, .int .i64 i2), (3, .int .i64 n3), (5, .pointer (some ⟨b157, 0, none⟩)), (8, .pointer (some ⟨b158, 0, none⟩)), (9, .slice (some ⟨g159, 0, none⟩) 1 1), (18, .slice (some ⟨g160, 0, none⟩) 1 1)]) (by kernel_rfl) ?_
      refine t_end ?_
      exact ⟨hg_7f g160 g159, rfl⟩
  have hg_3b : ∀ (g160 : Nat), G [true, true, false, true, true, true, false, false] [(2, .int .i64 i2), (3, .int .i64 n3), (5, .pointer (some ⟨b157, 0, none⟩)), (8, .pointer (some ⟨b158, 0, none⟩)), (14, .int .i64 a0_0), (18, .slice (some ⟨g160, 0, none⟩) 1 1)] ([⟨g160, [.int .i64 a0_1], 1⟩, ⟨b158, [.int .i64 0, .int .i64 0], 2⟩, ⟨b157, [.int .i64 1, .int .i64 s1_1, .int .i64 s1_2, .int .i64 s1_3, .int .i64 s1_4, .int .i64 s1_5, .int .i64 s1_6], 7⟩, ⟨b156, [.int .i64 a0_0, .int .i64 a0_1], 2⟩] : List Own) := by
    intro g160
    refine hstep [2] _ _ _ (by kernel_rfl) (List.cons_ne_nil _ _) ⟨?_, trivial⟩
    · show T _ _ _ _ _ _ _ _
      refine t_a (.bsl rfl rfl rfl rfl) fun g159 fg159 sg159 => ?_
      refine t_keep [2, 3, 5, 8, 15, 18] (σ' := [(2, .int .i64 i2), (3, .int .i64 n3), (5, .pointer (some ⟨b157, 0, none⟩)), (8, .pointer (some ⟨b158, 0, none⟩)), (15, .slice (some ⟨g159, 0, none⟩) 1 1), (18, .slice (some ⟨g160, 0, none⟩) 1 1)]) (by kernel_rfl) ?_
      refine t_vs (H' := ([⟨g160, [.int .i64 a0_1], 1⟩, ⟨g159, [.int .i64 a0_0], 1⟩, ⟨b158, [.int .i64 0, .int .i64 0], 2⟩, ⟨b157, [.int .i64 1, .int .i64 s1_1, .int .i64 s1_2, .int .i64 s1_3, .int .i64 s1_4, .int .i64 s1_5, .int .i64 s1_6], 7⟩, ⟨b156, [.int .i64 a0_0, .int .i64 a0_1], 2⟩] : List Own)) (S' := S) (VS.sel [1, 0, 0, 0, 0] (by kernel_rfl)) ?_
      refine t_end ?_
      exact ⟨hg_3f g160 g159, rfl⟩
  have hg_1f : ∀ (g159 : Nat), G [true, true, true, true, true, false, false, false] [(2, .int .i64 i2), (3, .int .i64 n3), (5, .pointer (some ⟨b157, 0, none⟩)), (8, .pointer (some ⟨b158, 0, none⟩)), (15, .slice (some ⟨g159, 0, none⟩) 1 1), (17, .int .i64 a0_1)] ([⟨g159, [.int .i64 a0_0], 1⟩, ⟨b158, [.int .i64 0, .int .i64 0], 2⟩, ⟨b157, [.int .i64 1, .int .i64 s1_1, .int .i64 s1_2, .int .i64 s1_3, .int .i64 s1_4, .int .i64 s1_5, .int .i64 s1_6], 7⟩, ⟨b156, [.int .i64 a0_0, .int .i64 a0_1], 2⟩] : List Own) := by
    intro g159
    exact hqf 6 [2, 3, 5, 8, 9, 17] _ _ _ [(2, .int .i64 i2), (3, .int .i64 n3), (5, .pointer (some ⟨b157, 0, none⟩)), (8, .pointer (some ⟨b158, 0, none⟩)), (9, .slice (some ⟨g159, 0, none⟩) 1 1), (17, .int .i64 a0_1)] (by kernel_rfl) (by kernel_rfl) (hg_5f g159)
  have hg_4f : ∀ (g159 : Nat), G [true, true, true, true, false, false, true, false] [(2, .int .i64 i2), (3, .int .i64 n3), (5, .pointer (some ⟨b157, 0, none⟩)), (8, .pointer (some ⟨b158, 0, none⟩)), (9, .slice (some ⟨g159, 0, none⟩) 1 1), (16, .pointer (some ⟨b156, 1, none⟩))] ([⟨g159, [.int .i64 a0_0], 1⟩, ⟨b158, [.int .i64 0, .int .i64 0], 2⟩, ⟨b157, [.int .i64 1, .int .i64 s1_1, .int .i64 s1_2, .int .i64 s1_3, .int .i64 s1_4, .int .i64 s1_5, .int .i64 s1_6], 7⟩, ⟨b156, [.int .i64 a0_0, .int .i64 a0_1], 2⟩] : List Own) := by
    intro g159
    refine hstep [4] _ _ _ (by kernel_rfl) (List.cons_ne_nil _ _) ⟨?_, trivial⟩
    · show T _ _ _ _ _ _ _ _
      refine t_v (.ld1 rfl rfl rfl (.at 3 rfl rfl)) ?_
      refine t_keep [2, 3, 5, 8, 9, 17] (σ' := [(2, .int .i64 i2), (3, .int .i64 n3), (5, .pointer (some ⟨b157, 0, none⟩)), (8, .pointer (some ⟨b158, 0, none⟩)), (9, .slice (some ⟨g159, 0, none⟩) 1 1), (17, .int .i64 a0_1)]) (by kernel_rfl) ?_
      refine t_end ?_
      exact ⟨hg_5f g159, rfl⟩
  have hg_f : ∀ (g159 : Nat), G [true, true, true, true, false, false, false, false] [(2, .int .i64 i2), (3, .int .i64 n3), (5, .pointer (some ⟨b157, 0, none⟩)), (8, .pointer (some ⟨b158, 0, none⟩)), (15, .slice (some ⟨g159, 0, none⟩) 1 1), (16, .pointer (some ⟨b156, 1, none⟩))] ([⟨g159, [.int .i64 a0_0], 1⟩, ⟨b158, [.int .i64 0, .int .i64 0], 2⟩, ⟨b157, [.int .i64 1, .int .i64 s1_1, .int .i64 s1_2, .int .i64 s1_3, .int .i64 s1_4, .int .i64 s1_5, .int .i64 s1_6], 7⟩, ⟨b156, [.int .i64 a0_0, .int .i64 a0_1], 2⟩] : List Own) := by
    intro g159
    exact hqf 6 [2, 3, 5, 8, 9, 16] _ _ _ [(2, .int .i64 i2), (3, .int .i64 n3), (5, .pointer (some ⟨b157, 0, none⟩)), (8, .pointer (some ⟨b158, 0, none⟩)), (9, .slice (some ⟨g159, 0, none⟩) 1 1), (16, .pointer (some ⟨b156, 1, none⟩))] (by kernel_rfl) (by kernel_rfl) (hg_4f g159)
  have hg_1b : G [true, true, false, true, true, false, false, false] [(2, .int .i64 i2), (3, .int .i64 n3), (5, .pointer (some ⟨b157, 0, none⟩)), (8, .pointer (some ⟨b158, 0, none⟩)), (14, .int .i64 a0_0), (17, .int .i64 a0_1)] ([⟨b158, [.int .i64 0, .int .i64 0], 2⟩, ⟨b157, [.int .i64 1, .int .i64 s1_1, .int .i64 s1_2, .int .i64 s1_3, .int .i64 s1_4, .int .i64 s1_5, .int .i64 s1_6], 7⟩, ⟨b156, [.int .i64 a0_0, .int .i64 a0_1], 2⟩] : List Own) := by
    refine hstep [2, 5] _ _ _ (by kernel_rfl) (List.cons_ne_nil _ _) ⟨?_, ?_, trivial⟩
    · show T _ _ _ _ _ _ _ _
      refine t_a (.bsl rfl rfl rfl rfl) fun g159 fg159 sg159 => ?_
      refine t_keep [2, 3, 5, 8, 15, 17] (σ' := [(2, .int .i64 i2), (3, .int .i64 n3), (5, .pointer (some ⟨b157, 0, none⟩)), (8, .pointer (some ⟨b158, 0, none⟩)), (15, .slice (some ⟨g159, 0, none⟩) 1 1), (17, .int .i64 a0_1)]) (by kernel_rfl) ?_
      refine t_end ?_
      exact ⟨hg_1f g159, rfl⟩
    · show T _ _ _ _ _ _ _ _
      refine t_a (.bsl rfl rfl rfl rfl) fun g160 fg160 sg160 => ?_
      refine t_keep [2, 3, 5, 8, 14, 18] (σ' := [(2, .int .i64 i2), (3, .int .i64 n3), (5, .pointer (some ⟨b157, 0, none⟩)), (8, .pointer (some ⟨b158, 0, none⟩)), (14, .int .i64 a0_0), (18, .slice (some ⟨g160, 0, none⟩) 1 1)]) (by kernel_rfl) ?_
      refine t_end ?_
      exact ⟨hg_3b g160, rfl⟩
  have hg_39 : ∀ (g160 : Nat), G [true, false, false, true, true, true, false, false] [(2, .int .i64 i2), (3, .int .i64 n3), (5, .pointer (some ⟨b157, 0, none⟩)), (8, .pointer (some ⟨b158, 0, none⟩)), (13, .pointer (some ⟨b156, 0, none⟩)), (18, .slice (some ⟨g160, 0, none⟩) 1 1)] ([⟨g160, [.int .i64 a0_1], 1⟩, ⟨b158, [.int .i64 0, .int .i64 0], 2⟩, ⟨b157, [.int .i64 1, .int .i64 s1_1, .int .i64 s1_2, .int .i64 s1_3, .int .i64 s1_4, .int .i64 s1_5, .int .i64 s1_6], 7⟩, ⟨b156, [.int .i64 a0_0, .int .i64 a0_1], 2⟩] : List Own) := by
    intro g160
    refine hstep [1] _ _ _ (by kernel_rfl) (List.cons_ne_nil _ _) ⟨?_, trivial⟩
    · show T _ _ _ _ _ _ _ _
      refine t_v (.ld1 rfl rfl rfl (.at 3 rfl rfl)) ?_
      refine t_keep [2, 3, 5, 8, 14, 18] (σ' := [(2, .int .i64 i2), (3, .int .i64 n3), (5, .pointer (some ⟨b157, 0, none⟩)), (8, .pointer (some ⟨b158, 0, none⟩)), (14, .int .i64 a0_0), (18, .slice (some ⟨g160, 0, none⟩) 1 1)]) (by kernel_rfl) ?_
      refine t_end ?_
      exact ⟨hg_3b g160, rfl⟩
  have hg_b : G [true, true, false, true, false, false, false, false] [(2, .int .i64 i2), (3, .int .i64 n3), (5, .pointer (some ⟨b157, 0, none⟩)), (8, .pointer (some ⟨b158, 0, none⟩)), (14, .int .i64 a0_0), (16, .pointer (some ⟨b156, 1, none⟩))] ([⟨b158, [.int .i64 0, .int .i64 0], 2⟩, ⟨b157, [.int .i64 1, .int .i64 s1_1, .int .i64 s1_2, .int .i64 s1_3, .int .i64 s1_4, .int .i64 s1_5, .int .i64 s1_6], 7⟩, ⟨b156, [.int .i64 a0_0, .int .i64 a0_1], 2⟩] : List Own) := by
    refine hstep [2, 4] _ _ _ (by kernel_rfl) (List.cons_ne_nil _ _) ⟨?_, ?_, trivial⟩
    · show T _ _ _ _ _ _ _ _
      refine t_a (.bsl rfl rfl rfl rfl) fun g159 fg159 sg159 => ?_
      refine t_keep [2, 3, 5, 8, 15, 16] (σ' := [(2, .int .i64 i2), (3, .int .i64 n3), (5, .pointer (some ⟨b157, 0, none⟩)), (8, .pointer (some ⟨b158, 0, none⟩)), (15, .slice (some ⟨g159, 0, none⟩) 1 1), (16, .pointer (some ⟨b156, 1, none⟩))]) (by kernel_rfl) ?_
      refine t_end ?_
      exact ⟨hg_f g159, rfl⟩
    · show T _ _ _ _ _ _ _ _
      refine t_v (.ld1 rfl rfl rfl (.at 2 rfl rfl)) ?_
      refine t_keep [2, 3, 5, 8, 14, 17] (σ' := [(2, .int .i64 i2), (3, .int .i64 n3), (5, .pointer (some ⟨b157, 0, none⟩)), (8, .pointer (some ⟨b158, 0, none⟩)), (14, .int .i64 a0_0), (17, .int .i64 a0_1)]) (by kernel_rfl) ?_
      refine t_end ?_
      exact ⟨hg_1b, rfl⟩
  have hg_19 : G [true, false, false, true, true, false, false, false] [(2, .int .i64 i2), (3, .int .i64 n3), (5, .pointer (some ⟨b157, 0, none⟩)), (8, .pointer (some ⟨b158, 0, none⟩)), (13, .pointer (some ⟨b156, 0, none⟩)), (17, .int .i64 a0_1)] ([⟨b158, [.int .i64 0, .int .i64 0], 2⟩, ⟨b157, [.int .i64 1, .int .i64 s1_1, .int .i64 s1_2, .int .i64 s1_3, .int .i64 s1_4, .int .i64 s1_5, .int .i64 s1_6], 7⟩, ⟨b156, [.int .i64 a0_0, .int .i64 a0_1], 2⟩] : List Own) := by
    refine hstep [1, 5] _ _ _ (by kernel_rfl) (List.cons_ne_nil _ _) ⟨?_, ?_, trivial⟩
    · show T _ _ _ _ _ _ _ _
      refine t_v (.ld1 rfl rfl rfl (.at 2 rfl rfl)) ?_
      refine t_keep [2, 3, 5, 8, 14, 17] (σ' := [(2, .int .i64 i2), (3, .int .i64 n3), (5, .pointer (some ⟨b157, 0, none⟩)), (8, .pointer (some ⟨b158, 0, none⟩)), (14, .int .i64 a0_0), (17, .int .i64 a0_1)]) (by kernel_rfl) ?_
      refine t_end ?_
      exact ⟨hg_1b, rfl⟩
    · show T _ _ _ _ _ _ _ _
      refine t_a (.bsl rfl rfl rfl rfl) fun g160 fg160 sg160 => ?_
      refine t_keep [2, 3, 5, 8, 13, 18] (σ' := [(2, .int .i64 i2), (3, .int .i64 n3), (5, .pointer (some ⟨b157, 0, none⟩)), (8, .pointer (some ⟨b158, 0, none⟩)), (13, .pointer (some ⟨b156, 0, none⟩)), (18, .slice (some ⟨g160, 0, none⟩) 1 1)]) (by kernel_rfl) ?_
      refine t_end ?_
      exact ⟨hg_39 g160, rfl⟩
  have hg_9 : G [true, false, false, true, false, false, false, false] [(2, .int .i64 i2), (3, .int .i64 n3), (5, .pointer (some ⟨b157, 0, none⟩)), (8, .pointer (some ⟨b158, 0, none⟩)), (13, .pointer (some ⟨b156, 0, none⟩)), (16, .pointer (some ⟨b156, 1, none⟩))] ([⟨b158, [.int .i64 0, .int .i64 0], 2⟩, ⟨b157, [.int .i64 1, .int .i64 s1_1, .int .i64 s1_2, .int .i64 s1_3, .int .i64 s1_4, .int .i64 s1_5, .int .i64 s1_6], 7⟩, ⟨b156, [.int .i64 a0_0, .int .i64 a0_1], 2⟩] : List Own) := by
    refine hstep [1, 4] _ _ _ (by kernel_rfl) (List.cons_ne_nil _ _) ⟨?_, ?_, trivial⟩
    · show T _ _ _ _ _ _ _ _
      refine t_v (.ld1 rfl rfl rfl (.at 2 rfl rfl)) ?_
      refine t_keep [2, 3, 5, 8, 14, 16] (σ' := [(2, .int .i64 i2), (3, .int .i64 n3), (5, .pointer (some ⟨b157, 0, none⟩)), (8, .pointer (some ⟨b158, 0, none⟩)), (14, .int .i64 a0_0), (16, .pointer (some ⟨b156, 1, none⟩))]) (by kernel_rfl) ?_
      refine t_end ?_
      exact ⟨hg_b, rfl⟩
    · show T _ _ _ _ _ _ _ _
      refine t_v (.ld1 rfl rfl rfl (.at 2 rfl rfl)) ?_
      refine t_keep [2, 3, 5, 8, 13, 17] (σ' := [(2, .int .i64 i2), (3, .int .i64 n3), (5, .pointer (some ⟨b157, 0, none⟩)), (8, .pointer (some ⟨b158, 0, none⟩)), (13, .pointer (some ⟨b156, 0, none⟩)), (17, .int .i64 a0_1)]) (by kernel_rfl) ?_
      refine t_end ?_
      exact ⟨hg_19, rfl⟩
  have hg_1 : G [true, false, false, false, false, false, false, false] [(2, .int .i64 i2), (3, .int .i64 n3), (4, .pointer (some ⟨b156, 0, none⟩)), (5, .pointer (some ⟨b157, 0, none⟩)), (8, .pointer (some ⟨b158, 0, none⟩)), (13, .pointer (some ⟨b156, 0, none⟩))] ([⟨b158, [.int .i64 0, .int .i64 0], 2⟩, ⟨b157, [.int .i64 1, .int .i64 s1_1, .int .i64 s1_2, .int .i64 s1_3, .int .i64 s1_4, .int .i64 s1_5, .int .i64 s1_6], 7⟩, ⟨b156, [.int .i64 a0_0, .int .i64 a0_1], 2⟩] : List Own) := by
    exact hqf 3 [2, 3, 5, 8, 13, 16] _ _ _ [(2, .int .i64 i2), (3, .int .i64 n3), (5, .pointer (some ⟨b157, 0, none⟩)), (8, .pointer (some ⟨b158, 0, none⟩)), (13, .pointer (some ⟨b156, 0, none⟩)), (16, .pointer (some ⟨b156, 1, none⟩))] (by kernel_rfl) (by kernel_rfl) hg_9
  have hg_0 : G [false, false, false, false, false, false, false, false] [(2, .int .i64 i2), (3, .int .i64 n3), (4, .pointer (some ⟨b156, 0, none⟩)), (5, .pointer (some ⟨b157, 0, none⟩)), (8, .pointer (some ⟨b158, 0, none⟩))] ([⟨b158, [.int .i64 0, .int .i64 0], 2⟩, ⟨b157, [.int .i64 1, .int .i64 s1_1, .int .i64 s1_2, .int .i64 s1_3, .int .i64 s1_4, .int .i64 s1_5, .int .i64 s1_6], 7⟩, ⟨b156, [.int .i64 a0_0, .int .i64 a0_1], 2⟩] : List Own) := by
    exact hqf 0 [2, 3, 4, 5, 8, 13] _ _ _ [(2, .int .i64 i2), (3, .int .i64 n3), (4, .pointer (some ⟨b156, 0, none⟩)), (5, .pointer (some ⟨b157, 0, none⟩)), (8, .pointer (some ⟨b158, 0, none⟩)), (13, .pointer (some ⟨b156, 0, none⟩))] (by kernel_rfl) (by kernel_rfl) hg_1
  exact hg_0

def flatten_Path_1_v2.f (to0_0 : Int) (to0_1 : Int) (m0_0 : Int) (m0_1 : Int) (m2_L : List (Int × Int × Int × Int)) : Option (List (Int × Int × Int × Int) × Int × Int) := if ((m0_0 == to0_0) && (m0_1 == to0_1)) = true then (some (m2_L, to0_0, to0_1)) else ((lapp m2_L ([(m0_0, m0_1, to0_0, to0_1)] : List (Int × Int × Int × Int))).bind fun y170 => (some (y170, to0_0, to0_1)))
theorem flatten_Path_1_v2.ok {S : Seal} {B0 : Nat} {B1 : Nat} {B2 : Option Nat} {nB2 : Nat} {to0_0 : Int} {to0_1 : Int} {m0_0 : Int} {m0_1 : Int} {m2_L : List (Int × Int × Int × Int)} {r0_ : List (Int × Int × Int × Int)} {r1_ : Int} {r2_ : Int}(e : flatten_Path_1_v2.f to0_0 to0_1 m0_0 m0_1 m2_L = some (r0_, r1_, r2_)) :
    Cal Try.prog 67 [.agg #[.int .i64 to0_0, .int .i64 to0_1], .pointer (some ⟨B0, 0, none⟩), .pointer (some ⟨B1, 0, none⟩)] ([⟨B0, [.int .i64 m0_0, .int .i64 m0_1], 2⟩, ⟨B1, [.slice (ad B2) m2_L.length (nB2 / 4)], 1⟩, ⟨B2, encL E_i644 m2_L, nB2⟩] : List Own) S fun v H' S' => ∃ (N0_ : Option Nat) (nN0_ : Nat) , v = .tuple #[] ∧ H' = ([⟨N0_, encL E_i644 r0_, nN0_⟩, ⟨B0, [.int .i64 r1_, .int .i64 r2_], 2⟩, ⟨B1, [.slice (ad N0_) r0_.length (nN0_ / 4)], 1⟩] : List Own) ∧ S' = S := by
  unfold flatten_Path_1_v2.f at e
  refine cal_of (c := c67) (N := 14) Try.func67 rfl rfl (by kernel_rfl) (rs := []) (by kernel_rfl) (Nat.le_of_ble_eq_true rfl) ?_
  unfold c67
  refine w_seq ?_
  refine w_reg fun all => ?_
  refine t_a (.box rfl rfl rfl) fun b167 fb167 sb167 => ?_
  refine t_keep [1, 2, 3] (σ' := [(1, .pointer (some ⟨B0, 0, none⟩)), (2, .pointer (some ⟨B1, 0, none⟩)), (3, .pointer (some ⟨b167, 0, none⟩))]) (by kernel_rfl) ?_
  refine t_end ?_
  show W _ _ _ _ _ _ _
  refine w_seq ?_
  refine w_seq ?_
  refine w_reg fun all => ?_
  refine t_v (.ldn rfl rfl rfl (.at 1 rfl rfl)) ?_
  refine t_v (.ldn rfl rfl rfl (.at 0 rfl rfl)) ?_
  by_cases c168 : ((m0_0 == to0_0) && (m0_1 == to0_1)) = true
  · rw [if_pos c168] at e
    have c168b : ((m0_0 == to0_0) && (m0_1 == to0_1)) = true := c168
    refine t_v (.eqt (a := .agg #[.int .i64 m0_0, .int .i64 m0_1]) (b := .agg #[.int .i64 to0_0, .int .i64 to0_1]) (r := (m0_0 == to0_0) && (m0_1 == to0_1)) rfl rfl rfl rfl (by kernel_rfl) (bnk c168b rfl)) ?_
    refine t_keep [1, 2, 3, 6] (σ' := [(1, .pointer (some ⟨B0, 0, none⟩)), (2, .pointer (some ⟨B1, 0, none⟩)), (3, .pointer (some ⟨b167, 0, none⟩)), (6, .bool false)]) (by kernel_rfl) ?_
    refine t_end ?_
    show W _ _ _ _ _ _ _
    refine w_cond rfl (fun c_ => by cases c_) (fun _ => ?_)
    show W _ _ _ _ _ _ _
    refine w_skip ?_
    show W _ _ _ _ _ _ _
    refine w_reg fun all => ?_
    refine t_v (.ldn rfl rfl rfl (.at 0 rfl rfl)) ?_
    refine t_sti 1 (cs := [.int .i64 to0_0, .int .i64 to0_1]) rfl rfl rfl rfl rfl rfl rfl rfl rfl ?_
    refine t_keep [] (σ' := []) (by kernel_rfl) ?_
    refine t_end ?_
    simp only [Option.some.injEq, Prod.mk.injEq] at e
    obtain ⟨rfl, rfl, rfl⟩ := e
    exact ⟨[], ([⟨B2, encL E_i644 m2_L, nB2⟩, ⟨B0, [.int .i64 to0_0, .int .i64 to0_1], 2⟩, ⟨B1, [.slice (ad B2) m2_L.length (nB2 / 4)], 1⟩] : List Own), S, trivial, VS.sel [3, 1, 1] (by kernel_rfl), B2, nB2, rfl, rfl, rfl⟩
  · rw [if_neg c168] at e
    have c168b : ((m0_0 == to0_0) && (m0_1 == to0_1)) = false := Bool.eq_false_iff.mpr c168
    refine t_v (.eqt (a := .agg #[.int .i64 m0_0, .int .i64 m0_1]) (b := .agg #[.int .i64 to0_0, .int .i64 to0_1]) (r := (m0_0 == to0_0) && (m0_1 == to0_1)) rfl rfl rfl rfl (by kernel_rfl) (bnk c168b rfl)) ?_
    refine t_keep [1, 2, 3, 6] (σ' := [(1, .pointer (some ⟨B0, 0, none⟩)), (2, .pointer (some ⟨B1, 0, none⟩)), (3, .pointer (some ⟨b167, 0, none⟩)), (6, .bool true)]) (by kernel_rfl) ?_
    refine t_end ?_
    show W _ _ _ _ _ _ _
    refine w_cond rfl (fun _ => ?_) (fun c_ => by cases c_)
    show W _ _ _ _ _ _ _
    refine w_reg fun all => ?_
    refine t_v (.ld1 rfl rfl rfl (.at 2 rfl rfl)) ?_
    refine t_v (.ldn rfl rfl rfl (.at 1 rfl rfl)) ?_
    refine t_v (.ldn rfl rfl rfl (.at 0 rfl rfl)) ?_
    refine t_qz 1 [1, 2, 3, 7, 10] (σ' := [(1, .pointer (some ⟨B0, 0, none⟩)), (2, .pointer (some ⟨B1, 0, none⟩)), (3, .pointer (some ⟨b167, 0, none⟩)), (7, .slice (ad B2) m2_L.length (nB2 / 4)), (10, .agg #[.int .i64 m0_0, .int .i64 m0_1, .int .i64 to0_0, .int .i64 to0_1])]) (by kernel_rfl) ?_
    refine t_a (.bsl rfl rfl rfl rfl) fun b169 fb169 sb169 => ?_
    obtain ⟨y170, hl171, e⟩ := bind_of e
    refine t_appX (E := E_i644) (L := m2_L) (X := ([(m0_0, m0_1, to0_0, to0_1)] : List (Int × Int × Int × Int))) (F := ([⟨b169, [.int .i64 m0_0, .int .i64 m0_1, .int .i64 to0_0, .int .i64 to0_1], 4⟩, ⟨b167, [.int .i64 to0_0, .int .i64 to0_1], 2⟩, ⟨B0, [.int .i64 m0_0, .int .i64 m0_1], 2⟩, ⟨B1, [.slice (ad B2) m2_L.length (nB2 / 4)], 1⟩] : List Own)) rfl rfl rfl rfl (sel_perm (is := [4]) (by kernel_rfl)) rfl (Or.inr ⟨_, _, rfl, .at 0 rfl (by kernel_rfl)⟩) rfl (by decide) (by decide) rfl hl171 fun a172 na172 => ?_
    refine t_sti 4 (cs := [.slice (ad a172) y170.length (na172 / 4)]) rfl rfl rfl rfl rfl rfl rfl rfl rfl ?_
    refine t_keep [1, 3] (σ' := [(1, .pointer (some ⟨B0, 0, none⟩)), (3, .pointer (some ⟨b167, 0, none⟩))]) (by kernel_rfl) ?_
    refine t_end ?_
    show W _ _ _ _ _ _ _
    refine w_reg fun all => ?_
    refine t_v (.ldn rfl rfl rfl (.at 2 rfl rfl)) ?_
    refine t_sti 3 (cs := [.int .i64 to0_0, .int .i64 to0_1]) rfl rfl rfl rfl rfl rfl rfl rfl rfl ?_
    refine t_keep [] (σ' := []) (by kernel_rfl) ?_
    refine t_end ?_
    simp only [Option.some.injEq, Prod.mk.injEq] at e
    obtain ⟨rfl, rfl, rfl⟩ := e
    exact ⟨[], ([⟨a172, encL E_i644 y170, na172⟩, ⟨B0, [.int .i64 to0_0, .int .i64 to0_1], 2⟩, ⟨B1, [.slice (ad a172) y170.length (na172 / 4)], 1⟩] : List Own), S, trivial, VS.sel [0, 2, 2] (by kernel_rfl), a172, na172, rfl, rfl, rfl⟩

def flatten_points_v3.f (s0_1 : Int) (s0_2 : Int) (s0_3 : Int) (s0_4 : Int) (s0_5 : Int) (s0_6 : Int) : Option (Int × Int × Int × Int × Int × Int × Int) := some (2, s0_1, s0_2, s0_3, s0_4, s0_5, s0_6)
theorem flatten_points_v3.ok {S : Seal} {s0_1 : Int} {s0_2 : Int} {s0_3 : Int} {s0_4 : Int} {s0_5 : Int} {s0_6 : Int} {r0_ : Int} {r1_ : Int} {r2_ : Int} {r3_ : Int} {r4_ : Int} {r5_ : Int} {r6_ : Int}(e : flatten_points_v3.f s0_1 s0_2 s0_3 s0_4 s0_5 s0_6 = some (r0_, r1_, r2_, r3_, r4_, r5_, r6_)) :
    Cal Try.prog 70 [.agg #[.int .i64 2, .int .i64 s0_1, .int .i64 s0_2, .int .i64 s0_3, .int .i64 s0_4, .int .i64 s0_5, .int .i64 s0_6]] [] S fun v H' S' => ∃ (N0_ : Nat) , v = .slice (some ⟨N0_, 1, none⟩) 2 3 ∧ H' = ([⟨N0_, [.int .i64 r0_, .int .i64 r1_, .int .i64 r2_, .int .i64 r3_, .int .i64 r4_, .int .i64 r5_, .int .i64 r6_], 7⟩] : List Own) ∧ S' = S := by
  unfold flatten_points_v3.f at e
  refine cal_of (c := c70) (N := 15) Try.func70 rfl rfl (by kernel_rfl) (rs := [.t 2]) (by kernel_rfl) (Nat.le_of_ble_eq_true rfl) ?_
  unfold c70
  refine w_seq ?_
  refine w_reg fun all => ?_
  refine t_a (.box rfl rfl rfl) fun b185 fb185 sb185 => ?_
  refine t_qz 1 [1] (σ' := [(1, .pointer (some ⟨b185, 0, none⟩))]) (by kernel_rfl) ?_
  refine t_end ?_
  show W _ _ _ _ _ _ _
  refine w_seq ?_
  refine w_seq ?_
  refine w_reg fun all => ?_
  refine t_qz 1 [1, 3] (σ' := [(1, .pointer (some ⟨b185, 0, none⟩)), (3, .pointer (some ⟨b185, 0, none⟩))]) (by kernel_rfl) ?_
  refine t_v (.ld1 rfl rfl rfl (.at 0 rfl rfl)) ?_
  refine t_qz 3 [1, 6, 7] (σ' := [(1, .pointer (some ⟨b185, 0, none⟩)), (6, .bool false), (7, .pointer (some ⟨b185, 0, none⟩))]) (by kernel_rfl) ?_
  refine t_v (.ld1 rfl rfl rfl (.at 0 rfl rfl)) ?_
  refine t_qz 2 [1, 10] (σ' := [(1, .pointer (some ⟨b185, 0, none⟩)), (10, .bool false)]) (by kernel_rfl) ?_
  refine t_end ?_
  show W _ _ _ _ _ _ _
  refine w_cond rfl (fun c_ => by cases c_) (fun _ => ?_)
  show W _ _ _ _ _ _ _
  refine w_skip ?_
  show W _ _ _ _ _ _ _
  refine w_seq ?_
  refine w_reg fun all => ?_
  refine t_qz 2 [11, 12] (σ' := [(11, .pointer (some ⟨b185, 1, none⟩)), (12, .pointer (some ⟨b185, 0, none⟩))]) (by kernel_rfl) ?_
  refine t_v (.ld1 rfl rfl rfl (.at 0 rfl rfl)) ?_
  refine t_qz 2 [2] (σ' := [(2, .slice (some ⟨b185, 1, none⟩) 2 3)]) (by kernel_rfl) ?_
  refine t_end ?_
  show W _ _ _ _ _ _ _
  refine w_ret ?_
  simp only [Option.some.injEq, Prod.mk.injEq] at e
  obtain ⟨rfl, rfl, rfl, rfl, rfl, rfl, rfl⟩ := e
  exact ⟨[.slice (some ⟨b185, 1, none⟩) 2 3], ([⟨b185, [.int .i64 2, .int .i64 s0_1, .int .i64 s0_2, .int .i64 s0_3, .int .i64 s0_4, .int .i64 s0_5, .int .i64 s0_6], 7⟩] : List Own), S, ⟨rfl, trivial⟩, VS.sel [0] (by kernel_rfl), b185, rfl, rfl, rfl⟩

def flatten_mix_v4.f (i0 : Int) (n1 : Int) (m0_0 : Int) (m0_1 : Int) (m0_2 : Int) : Option (Int) := (fixed_Round.f (wr64 ((wr64 ((wr64 ((wr64 ((wr64 (n1 - i0)) * (wr64 (n1 - i0)))) * m0_0)) + (wr64 ((wr64 ((wr64 (2 * i0)) * (wr64 (n1 - i0)))) * m0_1)))) + (wr64 ((wr64 (i0 * i0)) * m0_2)))) (wr64 (n1 * n1))).bind fun t205 => (some t205)
theorem flatten_mix_v4.ok {S : Seal} {B0 nB0 : Nat} {i0 : Int} {n1 : Int} {m0_0 : Int} {m0_1 : Int} {m0_2 : Int} {r0_ : Int}(e : flatten_mix_v4.f i0 n1 m0_0 m0_1 m0_2 = some r0_) :
    Cal Try.prog 71 [.int .i64 i0, .int .i64 n1, .slice (some ⟨B0, 0, none⟩) 3 (nB0 / 1)] ([⟨B0, [.int .i64 m0_0, .int .i64 m0_1, .int .i64 m0_2], nB0⟩] : List Own) S fun v H' S' => v = .int .i64 r0_ ∧ H' = ([⟨B0, [.int .i64 m0_0, .int .i64 m0_1, .int .i64 m0_2], nB0⟩] : List Own) ∧ S' = S := by
  unfold flatten_mix_v4.f at e
  refine cal_of (c := c71) (N := 110) Try.func71 rfl rfl (by kernel_rfl) (rs := [.t 6]) (by kernel_rfl) (Nat.le_of_ble_eq_true rfl) ?_
  unfold c71
  refine w_seq ?_
  refine w_reg fun all => ?_
  refine t_qz 1 [0, 1, 2] (σ' := [(0, .int .i64 i0), (1, .int .i64 n1), (2, .slice (some ⟨B0, 0, none⟩) 3 (nB0 / 1))]) (by kernel_rfl) ?_
  refine t_end ?_
  show W _ _ _ _ _ _ _
  refine w_seq ?_
  refine w_reg fun all => ?_
  refine t_qz 4 [0, 1, 2, 7] (σ' := [(0, .int .i64 i0), (1, .int .i64 n1), (2, .slice (some ⟨B0, 0, none⟩) 3 (nB0 / 1)), (7, .int .i64 (wr64 (n1 - i0)))]) (by kernel_rfl) ?_
  refine t_end ?_
  show W _ _ _ _ _ _ _
  refine w_seq ?_
  refine w_seq ?_
  refine w_reg fun all => ?_
  refine t_qz 2 [0, 1, 2, 7, 12] (σ' := [(0, .int .i64 i0), (1, .int .i64 n1), (2, .slice (some ⟨B0, 0, none⟩) 3 (nB0 / 1)), (7, .int .i64 (wr64 (n1 - i0))), (12, .int .i64 3)]) (by kernel_rfl) ?_
  refine t_end ?_
  show W _ _ _ _ _ _ _
  refine w_block ?_
  refine w_seq ?_
  refine w_reg fun all => ?_
  refine t_qz 2 [0, 1, 2, 7, 12, 13] (σ' := [(0, .int .i64 i0), (1, .int .i64 n1), (2, .slice (some ⟨B0, 0, none⟩) 3 (nB0 / 1)), (7, .int .i64 (wr64 (n1 - i0))), (12, .int .i64 3), (13, .bool false)]) (by kernel_rfl) ?_
  refine t_end ?_
  show W _ _ _ _ _ _ _
  refine w_cond rfl (fun c_ => by cases c_) (fun _ => ?_)
  show W _ _ _ _ _ _ _
  refine w_seq ?_
  refine w_reg fun all => ?_
  refine t_qz 2 [0, 1, 2, 7, 12, 18] (σ' := [(0, .int .i64 i0), (1, .int .i64 n1), (2, .slice (some ⟨B0, 0, none⟩) 3 (nB0 / 1)), (7, .int .i64 (wr64 (n1 - i0))), (12, .int .i64 3), (18, .bool false)]) (by kernel_rfl) ?_
  refine t_end ?_
  show W _ _ _ _ _ _ _
  refine w_cond rfl (fun c_ => by cases c_) (fun _ => ?_)
  show W _ _ _ _ _ _ _
  refine w_seq ?_
  refine w_reg fun all => ?_
  refine t_qz 2 [0, 1, 2, 7, 33] (σ' := [(0, .int .i64 i0), (1, .int .i64 n1), (2, .slice (some ⟨B0, 0, none⟩) 3 (nB0 / 1)), (7, .int .i64 (wr64 (n1 - i0))), (33, .bool true)]) (by kernel_rfl) ?_
  refine t_end ?_
  show W _ _ _ _ _ _ _
  refine w_cond rfl (fun _ => ?_) (fun c_ => by cases c_)
  show W _ _ _ _ _ _ _
  refine w_seq ?_
  obtain ⟨t205, h206, e⟩ := bind_of e
  refine w_drwE mixed 29 [.v (.int .i64 (wr64 (n1 - i0))), .v (.int .i64 (wr64 (n1 - i0))), .v (.int .i64 (wr64 ((wr64 (n1 - i0)) * (wr64 (n1 - i0))))), .v (.slice (some ⟨B0, 0, none⟩) 3 (nB0 / 1)), .v (.pointer (some ⟨B0, 0, none⟩)), .v (.int .i64 m0_0), .v (.int .i64 (wr64 ((wr64 ((wr64 (n1 - i0)) * (wr64 (n1 - i0)))) * m0_0))), .v (.int .i64 i0), .v (.int .i64 (wr64 (2 * i0))), .v (.int .i64 (wr64 (n1 - i0))), .v (.int .i64 (wr64 ((wr64 (2 * i0)) * (wr64 (n1 - i0))))), .v (.slice (some ⟨B0, 0, none⟩) 3 (nB0 / 1)), .v (.pointer (some ⟨B0, 1, none⟩)), .v (.int .i64 m0_1), .v (.int .i64 (wr64 ((wr64 ((wr64 (2 * i0)) * (wr64 (n1 - i0)))) * m0_1))), .v (.int .i64 (wr64 ((wr64 ((wr64 ((wr64 (n1 - i0)) * (wr64 (n1 - i0)))) * m0_0)) + (wr64 ((wr64 ((wr64 (2 * i0)) * (wr64 (n1 - i0)))) * m0_1))))), .v (.int .i64 i0), .v (.int .i64 i0), .v (.int .i64 (wr64 (i0 * i0))), .v (.slice (some ⟨B0, 0, none⟩) 3 (nB0 / 1)), .v (.pointer (some ⟨B0, 2, none⟩)), .v (.int .i64 m0_2), .v (.int .i64 (wr64 ((wr64 (i0 * i0)) * m0_2))), .v (.int .i64 (wr64 ((wr64 ((wr64 ((wr64 ((wr64 (n1 - i0)) * (wr64 (n1 - i0)))) * m0_0)) + (wr64 ((wr64 ((wr64 (2 * i0)) * (wr64 (n1 - i0)))) * m0_1)))) + (wr64 ((wr64 (i0 * i0)) * m0_2))))), .v (.int .i64 n1), .v (.int .i64 n1), .v (.int .i64 (wr64 (n1 * n1))), .v (.int .i64 t205), .v (.int .i64 t205)] (by kernel_rfl) ?_ ?_
  · refine DI.sq 5 (by kernel_rfl) rfl ?_
    refine .cons (.ld1 rfl rfl rfl (.at 0 rfl rfl)) ?_
    refine DI.sq 7 (by kernel_rfl) rfl ?_
    refine .cons (.ld1 rfl rfl rfl (.at 0 rfl rfl)) ?_
    refine DI.sq 7 (by kernel_rfl) rfl ?_
    refine .cons (.ld1 rfl rfl rfl (.at 0 rfl rfl)) ?_
    refine DI.sq 5 (by kernel_rfl) rfl ?_
    refine .cons (.call (vs := [.int .i64 (wr64 ((wr64 ((wr64 ((wr64 ((wr64 (n1 - i0)) * (wr64 (n1 - i0)))) * m0_0)) + (wr64 ((wr64 ((wr64 (2 * i0)) * (wr64 (n1 - i0)))) * m0_1)))) + (wr64 ((wr64 (i0 * i0)) * m0_2)))), .int .i64 (wr64 (n1 * n1))]) rfl rfl (by kernel_rfl) (fixed_Round.ok h206)) ?_
    refine DI.sq 1 (by kernel_rfl) rfl ?_
    exact .nil
  refine fk_q 29 [6] (σ' := [(6, .int .i64 t205)]) t_more (by kernel_rfl) ?_
  refine fk_nil fun all => ?_
  refine t_keep [6] (σ' := [(6, .int .i64 t205)]) (by kernel_rfl) ?_
  refine t_end ?_
  show W _ _ _ _ _ _ _
  refine w_ret ?_
  obtain rfl := Option.some.inj e
  exact ⟨[.int .i64 t205], ([⟨B0, [.int .i64 m0_0, .int .i64 m0_1, .int .i64 m0_2], nB0⟩] : List Own), S, ⟨rfl, trivial⟩, VS.sel [0] (by kernel_rfl), rfl, rfl, rfl⟩
end Go.Proofs.Ytpimfacaalkmdaa.QFlattenNear
