/- Functions of the program as Lean functions, each with the proof of its walk. Written by gen.py, a program of these sessions. -/
import Derived.Test.YtiaigehjogpcaaaDoorE
import Derived.Test.YtiaigehjogpcaaaDoorProg
namespace Go.Proofs.YtiaigehjogpcaaaDoor.QScaleSteps
open Go Go.RowKit Go.Proofs.YtiaigehjogpcaaaDoorE
set_option linter.unusedVariables false
set_option maxRecDepth 100000
set_option maxHeartbeats 8000000
theorem mixed : Tryd.prog.follows .mixedOrders = true := by kernel_rfl

/-- fixed.Down -/
def c21 : C :=
  (.seq (.reg [⟨(some 4), .mv (.const (.int .i64 0)), none⟩])
  (.seq (.seq (.reg [⟨(some 6), .mv (.tmp 1), none⟩,
      ⟨(some 7), .bin .lss (.tmp 6) (.const (.int .i64 1)), none⟩])
   (.cond (.tmp 7)
    (.seq (.reg [⟨(some 4), .mv (.const (.int .i64 0)), none⟩])
     .ret)
    .skip))
  (.seq (.reg [⟨(some 8), .mv (.tmp 0), none⟩,
     ⟨(some 9), .mv (.tmp 1), none⟩,
     ⟨(some 10), .bin .quo (.tmp 8) (.tmp 9), none⟩,
     ⟨(some 5), .mv (.tmp 10), none⟩])
  (.seq (.seq (.reg [⟨(some 11), .mv (.tmp 0), none⟩,
      ⟨(some 12), .mv (.tmp 1), none⟩,
      ⟨(some 13), .bin .rem (.tmp 11) (.tmp 12), none⟩,
      ⟨(some 14), .bin .lss (.tmp 13) (.const (.int .i64 0)), none⟩])
   (.cond (.tmp 14)
    (.reg [⟨(some 15), .mv (.tmp 5), none⟩,
       ⟨(some 16), .bin .sub (.tmp 15) (.const (.int .i64 1)), none⟩,
       ⟨(some 5), .mv (.tmp 16), none⟩])
    .skip))
  (.seq (.reg [⟨(some 17), .mv (.tmp 5), none⟩,
     ⟨(some 4), .mv (.tmp 17), none⟩])
  .ret)))))
def fixed_Down_v1.f  : Option (Unit) := some ()
theorem fixed_Down_v1.ok {S : Seal}  {E_ : Int → Value} (hE_ : EO [0, 1] S E_) (e : fixed_Down_v1.f  = some ()) :
    Cal Tryd.prog 21 [.int .i64 (-5), .int .i64 1] [] S fun v H' S' => v = .int .i64 (-5) ∧ H' = [] ∧ S' = S := by
  unfold fixed_Down_v1.f at e
  refine cal_of (c := c21) (N := 18) Tryd.func21 rfl rfl (by kernel_rfl) (rs := [.t 4]) (by kernel_rfl) (Nat.le_of_ble_eq_true rfl) ?_
  unfold c21
  refine w_seq ?_
  refine w_reg fun all => ?_
  refine t_qz 1 [0, 1] (σ' := [(0, .int .i64 (-5)), (1, .int .i64 1)]) (by kernel_rfl) ?_
  refine t_end ?_
  show W _ _ _ _ _ _ _
  refine w_seq ?_
  refine w_seq ?_
  refine w_reg fun all => ?_
  refine t_qz 2 [0, 1, 7] (σ' := [(0, .int .i64 (-5)), (1, .int .i64 1), (7, .bool false)]) (by kernel_rfl) ?_
  refine t_end ?_
  show W _ _ _ _ _ _ _
  refine w_cond rfl (fun c_ => by cases c_) (fun _ => ?_)
  show W _ _ _ _ _ _ _
  refine w_skip ?_
  show W _ _ _ _ _ _ _
  refine w_seq ?_
  refine w_reg fun all => ?_
  refine t_qz 4 [0, 1, 5] (σ' := [(0, .int .i64 (-5)), (1, .int .i64 1), (5, .int .i64 (-5))]) (by kernel_rfl) ?_
  refine t_end ?_
  show W _ _ _ _ _ _ _
  refine w_seq ?_
  refine w_seq ?_
  refine w_reg fun all => ?_
  refine t_qz 4 [5, 14] (σ' := [(5, .int .i64 (-5)), (14, .bool false)]) (by kernel_rfl) ?_
  refine t_end ?_
  show W _ _ _ _ _ _ _
  refine w_cond rfl (fun c_ => by cases c_) (fun _ => ?_)
  show W _ _ _ _ _ _ _
  refine w_skip ?_
  show W _ _ _ _ _ _ _
  refine w_seq ?_
  refine w_reg fun all => ?_
  refine t_qz 2 [4] (σ' := [(4, .int .i64 (-5))]) (by kernel_rfl) ?_
  refine t_end ?_
  show W _ _ _ _ _ _ _
  refine w_ret ?_
  exact ⟨[.int .i64 (-5)], [], S, ⟨rfl, trivial⟩, VS.none, rfl, rfl, rfl⟩

/-- scale.Height -/
def c8 : C :=
  (.seq (.reg [⟨(some 2), .box (.tmp 0), none⟩,
     ⟨(some 4), .mv (.const (.int .i64 0)), none⟩])
  (.seq (.reg [⟨(some 5), .pad 1 (.tmp 2), none⟩,
     ⟨(some 6), .ld none (.tmp 5), none⟩,
     ⟨(some 7), .un .neg (.tmp 6), none⟩,
     ⟨(some 8), .mv (.tmp 1), none⟩,
     ⟨(some 9), .bin .mul (.tmp 7) (.tmp 8), none⟩,
     ⟨(some 10), .pad 0 (.tmp 2), none⟩,
     ⟨(some 11), .ld none (.tmp 10), none⟩,
     ⟨(some 12), .call 21 [(.tmp 9), (.tmp 11)], none⟩,
     ⟨(some 13), .un .neg (.tmp 12), none⟩,
     ⟨(some 4), .mv (.tmp 13), none⟩])
  .ret))
def scale_Height_v1.f  : Option (Unit) := (fixed_Down_v1.f).bind fun _ => (some ())
theorem scale_Height_v1.ok {S : Seal}  {E_ : Int → Value} (hE_ : EO [0, 1] S E_) (e : scale_Height_v1.f  = some ()) :
    Cal Tryd.prog 8 [.agg #[.int .i64 1, .int .i64 1, .int .i64 0, .slice none 0 0, .slice none 0 0], .int .i64 5] [] S fun v H' S' => v = .int .i64 5 ∧ H' = [] ∧ S' = S := by
  unfold scale_Height_v1.f at e
  refine cal_of (c := c8) (N := 14) Tryd.func8 rfl rfl (by kernel_rfl) (rs := [.t 4]) (by kernel_rfl) (Nat.le_of_ble_eq_true rfl) ?_
  unfold c8
  refine w_seq ?_
  refine w_reg fun all => ?_
  refine t_a (.box rfl rfl rfl) fun b2 fb2 sb2 => ?_
  refine t_qz 1 [1, 2] (σ' := [(1, .int .i64 5), (2, .pointer (some ⟨b2, 0, none⟩))]) (by kernel_rfl) ?_
  refine t_end ?_
  show W _ _ _ _ _ _ _
  refine w_seq ?_
  refine w_reg fun all => ?_
  refine t_qz 1 [1, 2, 5] (σ' := [(1, .int .i64 5), (2, .pointer (some ⟨b2, 0, none⟩)), (5, .pointer (some ⟨b2, 1, none⟩))]) (by kernel_rfl) ?_
  refine t_v (.ld1 rfl rfl rfl (.at 0 rfl rfl)) ?_
  refine t_qz 4 [9, 10] (σ' := [(9, .int .i64 (-5)), (10, .pointer (some ⟨b2, 0, none⟩))]) (by kernel_rfl) ?_
  refine t_v (.ld1 rfl rfl rfl (.at 0 rfl rfl)) ?_
  obtain ⟨u_, h3, e⟩ := bind_of e
  refine t_v (.call (vs := [.int .i64 (-5), .int .i64 1]) rfl rfl (by kernel_rfl) (fixed_Down_v1.ok hE_ h3)) ?_
  refine t_qz 2 [4] (σ' := [(4, .int .i64 5)]) (by kernel_rfl) ?_
  refine t_end ?_
  show W _ _ _ _ _ _ _
  refine w_ret ?_
  exact ⟨[.int .i64 5], [], S, ⟨rfl, trivial⟩, VS.none, rfl, rfl, rfl⟩

def fixed_Down_v2.f  : Option (Unit) := some ()
theorem fixed_Down_v2.ok {S : Seal}  {E_ : Int → Value} (hE_ : EO [0, 1] S E_) (e : fixed_Down_v2.f  = some ()) :
    Cal Tryd.prog 21 [.int .i64 512, .int .i64 1] [] S fun v H' S' => v = .int .i64 512 ∧ H' = [] ∧ S' = S := by
  unfold fixed_Down_v2.f at e
  refine cal_of (c := c21) (N := 18) Tryd.func21 rfl rfl (by kernel_rfl) (rs := [.t 4]) (by kernel_rfl) (Nat.le_of_ble_eq_true rfl) ?_
  unfold c21
  refine w_seq ?_
  refine w_reg fun all => ?_
  refine t_qz 1 [0, 1] (σ' := [(0, .int .i64 512), (1, .int .i64 1)]) (by kernel_rfl) ?_
  refine t_end ?_
  show W _ _ _ _ _ _ _
  refine w_seq ?_
  refine w_seq ?_
  refine w_reg fun all => ?_
  refine t_qz 2 [0, 1, 7] (σ' := [(0, .int .i64 512), (1, .int .i64 1), (7, .bool false)]) (by kernel_rfl) ?_
  refine t_end ?_
  show W _ _ _ _ _ _ _
  refine w_cond rfl (fun c_ => by cases c_) (fun _ => ?_)
  show W _ _ _ _ _ _ _
  refine w_skip ?_
  show W _ _ _ _ _ _ _
  refine w_seq ?_
  refine w_reg fun all => ?_
  refine t_qz 4 [0, 1, 5] (σ' := [(0, .int .i64 512), (1, .int .i64 1), (5, .int .i64 512)]) (by kernel_rfl) ?_
  refine t_end ?_
  show W _ _ _ _ _ _ _
  refine w_seq ?_
  refine w_seq ?_
  refine w_reg fun all => ?_
  refine t_qz 4 [5, 14] (σ' := [(5, .int .i64 512), (14, .bool false)]) (by kernel_rfl) ?_
  refine t_end ?_
  show W _ _ _ _ _ _ _
  refine w_cond rfl (fun c_ => by cases c_) (fun _ => ?_)
  show W _ _ _ _ _ _ _
  refine w_skip ?_
  show W _ _ _ _ _ _ _
  refine w_seq ?_
  refine w_reg fun all => ?_
  refine t_qz 2 [4] (σ' := [(4, .int .i64 512)]) (by kernel_rfl) ?_
  refine t_end ?_
  show W _ _ _ _ _ _ _
  refine w_ret ?_
  exact ⟨[.int .i64 512], [], S, ⟨rfl, trivial⟩, VS.none, rfl, rfl, rfl⟩

/-- fixed.Round -/
def c20 : C :=
  (.seq (.reg [⟨(some 4), .mv (.const (.int .i64 0)), none⟩])
  (.seq (.seq (.reg [⟨(some 7), .mv (.tmp 1), none⟩,
      ⟨(some 8), .bin .lss (.tmp 7) (.const (.int .i64 1)), none⟩])
   (.cond (.tmp 8)
    (.seq (.reg [⟨(some 4), .mv (.const (.int .i64 0)), none⟩])
     .ret)
    .skip))
  (.seq (.reg [⟨(some 9), .mv (.tmp 0), none⟩,
     ⟨(some 10), .mv (.tmp 1), none⟩,
     ⟨(some 11), .call 21 [(.tmp 9), (.tmp 10)], none⟩,
     ⟨(some 5), .mv (.tmp 11), none⟩])
  (.seq (.seq (.reg [⟨(some 12), .mv (.tmp 0), none⟩,
      ⟨(some 13), .mv (.tmp 5), none⟩,
      ⟨(some 14), .mv (.tmp 1), none⟩,
      ⟨(some 15), .bin .mul (.tmp 13) (.tmp 14), none⟩,
      ⟨(some 16), .bin .sub (.tmp 12) (.tmp 15), none⟩,
      ⟨(some 6), .mv (.tmp 16), none⟩])
   (.seq (.reg [⟨(some 17), .mv (.tmp 6), none⟩,
      ⟨(some 18), .mv (.tmp 1), none⟩,
      ⟨(some 19), .mv (.tmp 6), none⟩,
      ⟨(some 20), .bin .sub (.tmp 18) (.tmp 19), none⟩,
      ⟨(some 21), .bin .geq (.tmp 17) (.tmp 20), none⟩])
   (.cond (.tmp 21)
    (.reg [⟨(some 22), .mv (.tmp 5), none⟩,
       ⟨(some 23), .bin .add (.tmp 22) (.const (.int .i64 1)), none⟩,
       ⟨(some 5), .mv (.tmp 23), none⟩])
    .skip)))
  (.seq (.reg [⟨(some 24), .mv (.tmp 5), none⟩,
     ⟨(some 4), .mv (.tmp 24), none⟩])
  .ret)))))
def fixed_Round_v1.f  : Option (Unit) := (fixed_Down_v2.f).bind fun _ => (some ())
theorem fixed_Round_v1.ok {S : Seal}  {E_ : Int → Value} (hE_ : EO [0, 1] S E_) (e : fixed_Round_v1.f  = some ()) :
    Cal Tryd.prog 20 [.int .i64 512, .int .i64 1] [] S fun v H' S' => v = .int .i64 512 ∧ H' = [] ∧ S' = S := by
  unfold fixed_Round_v1.f at e
  refine cal_of (c := c20) (N := 25) Tryd.func20 rfl rfl (by kernel_rfl) (rs := [.t 4]) (by kernel_rfl) (Nat.le_of_ble_eq_true rfl) ?_
  unfold c20
  refine w_seq ?_
  refine w_reg fun all => ?_
  refine t_qz 1 [0, 1] (σ' := [(0, .int .i64 512), (1, .int .i64 1)]) (by kernel_rfl) ?_
  refine t_end ?_
  show W _ _ _ _ _ _ _
  refine w_seq ?_
  refine w_seq ?_
  refine w_reg fun all => ?_
  refine t_qz 2 [0, 1, 8] (σ' := [(0, .int .i64 512), (1, .int .i64 1), (8, .bool false)]) (by kernel_rfl) ?_
  refine t_end ?_
  show W _ _ _ _ _ _ _
  refine w_cond rfl (fun c_ => by cases c_) (fun _ => ?_)
  show W _ _ _ _ _ _ _
  refine w_skip ?_
  show W _ _ _ _ _ _ _
  refine w_seq ?_
  refine w_reg fun all => ?_
  obtain ⟨u_, h6, e⟩ := bind_of e
  refine t_qz 2 [0, 1, 9, 10] (σ' := [(0, .int .i64 512), (1, .int .i64 1), (9, .int .i64 512), (10, .int .i64 1)]) (by kernel_rfl) ?_
  refine t_v (.call (vs := [.int .i64 512, .int .i64 1]) rfl rfl (by kernel_rfl) (fixed_Down_v2.ok hE_ h6)) ?_
  refine t_qz 1 [0, 1, 5] (σ' := [(0, .int .i64 512), (1, .int .i64 1), (5, .int .i64 512)]) (by kernel_rfl) ?_
  refine t_end ?_
  show W _ _ _ _ _ _ _
  refine w_seq ?_
  refine w_seq ?_
  refine w_reg fun all => ?_
  refine t_qz 6 [1, 5, 6] (σ' := [(1, .int .i64 1), (5, .int .i64 512), (6, .int .i64 0)]) (by kernel_rfl) ?_
  refine t_end ?_
  show W _ _ _ _ _ _ _
  refine w_seq ?_
  refine w_reg fun all => ?_
  refine t_qz 5 [5, 21] (σ' := [(5, .int .i64 512), (21, .bool false)]) (by kernel_rfl) ?_
  refine t_end ?_
  show W _ _ _ _ _ _ _
  refine w_cond rfl (fun c_ => by cases c_) (fun _ => ?_)
  show W _ _ _ _ _ _ _
  refine w_skip ?_
  show W _ _ _ _ _ _ _
  refine w_seq ?_
  refine w_reg fun all => ?_
  refine t_qz 2 [4] (σ' := [(4, .int .i64 512)]) (by kernel_rfl) ?_
  refine t_end ?_
  show W _ _ _ _ _ _ _
  refine w_ret ?_
  exact ⟨[.int .i64 512], [], S, ⟨rfl, trivial⟩, VS.none, rfl, rfl, rfl⟩

/-- scale.At -/
def c7 : C :=
  (.seq (.reg [⟨(some 3), .box (.tmp 0), none⟩,
     ⟨(some 6), .mv (.const (.int .i64 0)), none⟩])
  (.seq (.reg [⟨(some 7), .mv (.tmp 2), none⟩,
     ⟨(some 8), .mv (.tmp 1), none⟩,
     ⟨(some 9), .bin .mul (.tmp 7) (.tmp 8), none⟩,
     ⟨(some 10), .bin .mul (.tmp 9) (.const (.int .i64 256)), none⟩,
     ⟨(some 11), .pad 0 (.tmp 3), none⟩,
     ⟨(some 12), .ld none (.tmp 11), none⟩,
     ⟨(some 13), .pad 2 (.tmp 3), none⟩,
     ⟨(some 14), .ld none (.tmp 13), none⟩,
     ⟨(some 15), .bin .shl (.tmp 12) (.tmp 14), none⟩,
     ⟨(some 16), .call 20 [(.tmp 10), (.tmp 15)], none⟩,
     ⟨(some 6), .mv (.tmp 16), none⟩])
  .ret))
def scale_At_v1.f  : Option (Unit) := (fixed_Round_v1.f).bind fun _ => (some ())
theorem scale_At_v1.ok {S : Seal}  {E_ : Int → Value} (hE_ : EO [0, 1] S E_) (e : scale_At_v1.f  = some ()) :
    Cal Tryd.prog 7 [.agg #[.int .i64 1, .int .i64 1, .int .i64 0, .slice none 0 0, .slice none 0 0], .int .i64 2, .int .i64 1] [] S fun v H' S' => v = .int .i64 512 ∧ H' = [] ∧ S' = S := by
  unfold scale_At_v1.f at e
  refine cal_of (c := c7) (N := 17) Tryd.func7 rfl rfl (by kernel_rfl) (rs := [.t 6]) (by kernel_rfl) (Nat.le_of_ble_eq_true rfl) ?_
  unfold c7
  refine w_seq ?_
  refine w_reg fun all => ?_
  refine t_a (.box rfl rfl rfl) fun b5 fb5 sb5 => ?_
  refine t_qz 1 [1, 2, 3] (σ' := [(1, .int .i64 2), (2, .int .i64 1), (3, .pointer (some ⟨b5, 0, none⟩))]) (by kernel_rfl) ?_
  refine t_end ?_
  show W _ _ _ _ _ _ _
  refine w_seq ?_
  refine w_reg fun all => ?_
  refine t_qz 5 [3, 10, 11] (σ' := [(3, .pointer (some ⟨b5, 0, none⟩)), (10, .int .i64 512), (11, .pointer (some ⟨b5, 0, none⟩))]) (by kernel_rfl) ?_
  refine t_v (.ld1 rfl rfl rfl (.at 0 rfl rfl)) ?_
  refine t_qz 1 [10, 12, 13] (σ' := [(10, .int .i64 512), (12, .int .i64 1), (13, .pointer (some ⟨b5, 2, none⟩))]) (by kernel_rfl) ?_
  refine t_v (.ld1 rfl rfl rfl (.at 0 rfl rfl)) ?_
  obtain ⟨u_, h7, e⟩ := bind_of e
  refine t_qz 1 [10, 15] (σ' := [(10, .int .i64 512), (15, .int .i64 1)]) (by kernel_rfl) ?_
  refine t_v (.call (vs := [.int .i64 512, .int .i64 1]) rfl rfl (by kernel_rfl) (fixed_Round_v1.ok hE_ h7)) ?_
  refine t_qz 1 [6] (σ' := [(6, .int .i64 512)]) (by kernel_rfl) ?_
  refine t_end ?_
  show W _ _ _ _ _ _ _
  refine w_ret ?_
  exact ⟨[.int .i64 512], [], S, ⟨rfl, trivial⟩, VS.none, rfl, rfl, rfl⟩

/-- scale.Check -/
def c11 : C :=
  (.seq (.reg [⟨(some 2), .box (.tmp 0), none⟩,
     ⟨(some 4), .mv (.const .nilIface), none⟩])
  (.seq (.block 0 (.seq (.reg [⟨(some 6), .mv (.tmp 1), none⟩,
       ⟨(some 7), .bin .lss (.tmp 6) (.const (.int .i64 1)), none⟩,
       ⟨(some 8), .mv (.tmp 7), none⟩,
       ⟨(some 9), .mv (.tmp 1), (some (8, false))⟩,
       ⟨(some 10), .bin .gtr (.tmp 9) (.const (.int .i64 16384)), (some (8, false))⟩,
       ⟨(some 11), .pk (.tmp 8) (.const (.bool true)) (.tmp 10), none⟩,
       ⟨(some 5), .mv (.tmp 11), none⟩])
    (.cond (.tmp 5)
     (.seq (.reg [⟨(some 12), .ld none (.global 0), none⟩,
         ⟨(some 4), .mv (.tmp 12), none⟩])
      .ret)
     (.seq (.reg [⟨(some 14), .ld (some 5) (.tmp 2), none⟩,
         ⟨(some 15), .mv (.tmp 1), none⟩,
         ⟨(some 16), .call 8 [(.tmp 14), (.tmp 15)], none⟩,
         ⟨(some 17), .bin .gtr (.tmp 16) (.const (.int .i64 16384)), none⟩,
         ⟨(some 13), .mv (.tmp 17), none⟩])
      (.cond (.tmp 13)
       (.seq (.reg [⟨(some 18), .ld none (.global 1), none⟩,
           ⟨(some 4), .mv (.tmp 18), none⟩])
        .ret)
       .skip)))))
  (.seq (.reg [⟨(some 4), .mv (.const .nilIface), none⟩])
  .ret)))
def scale_Check_v1.f  : Option (Unit) := some ()
theorem scale_Check_v1.ok {S : Seal}  {E_ : Int → Value} (hE_ : EO [0, 1] S E_) (e : scale_Check_v1.f  = some ()) :
    Cal Tryd.prog 11 [.agg #[.int .i64 1, .int .i64 1, .int .i64 0, .slice none 0 0, .slice none 0 0], .int .i64 0] [] S fun v H' S' => v = E_ 1 ∧ H' = [] ∧ S' = S := by
  unfold scale_Check_v1.f at e
  refine cal_of (c := c11) (N := 19) Tryd.func11 rfl rfl (by kernel_rfl) (rs := [.t 4]) (by kernel_rfl) (Nat.le_of_ble_eq_true rfl) ?_
  unfold c11
  refine w_seq ?_
  refine w_reg fun all => ?_
  refine t_a (.box rfl rfl rfl) fun b9 fb9 sb9 => ?_
  refine t_qz 1 [1, 2] (σ' := [(1, .int .i64 0), (2, .pointer (some ⟨b9, 0, none⟩))]) (by kernel_rfl) ?_
  refine t_end ?_
  show W _ _ _ _ _ _ _
  refine w_seq ?_
  refine w_block ?_
  refine w_seq ?_
  refine w_reg fun all => ?_
  refine t_qz 7 [1, 2, 5] (σ' := [(1, .int .i64 0), (2, .pointer (some ⟨b9, 0, none⟩)), (5, .bool true)]) (by kernel_rfl) ?_
  refine t_end ?_
  show W _ _ _ _ _ _ _
  refine w_cond rfl (fun _ => ?_) (fun c_ => by cases c_)
  show W _ _ _ _ _ _ _
  refine w_seq ?_
  refine w_reg fun all => ?_
  refine t_v (.ld1 rfl rfl rfl (.sealed (hE_.cell 0 (by decide)) rfl)) ?_
  refine t_qz 1 [4] (σ' := [(4, E_ 1)]) (by kernel_rfl) ?_
  refine t_end ?_
  show W _ _ _ _ _ _ _
  refine w_ret ?_
  exact ⟨[E_ 1], [], S, ⟨rfl, trivial⟩, VS.none, rfl, rfl, rfl⟩

/-- glyphiclaw20.first -/
def c6 : C :=
  (.seq (.reg [⟨(some 0), .mv (.const (.bool false)), none⟩])
  (.seq (.reg [⟨(some 2), .bld [(.int .i64 0), (.int .i64 0), (.int .i64 0), (.slice none 0 0), (.slice none 0 0)] [(0, 1, (.const (.int .i64 1))), (1, 1, (.const (.int .i64 1)))], none⟩,
     ⟨(some 1), .new [(.int .i64 0), (.int .i64 0), (.int .i64 0), (.slice none 0 0), (.slice none 0 0)], none⟩,
     ⟨none, .st 5 (.tmp 1) (.tmp 2), none⟩])
  (.seq (.reg [⟨(some 3), .ld (some 5) (.tmp 1), none⟩,
     ⟨(some 4), .call 8 [(.tmp 3), (.const (.int .i64 5))], none⟩,
     ⟨(some 5), .bin .eql (.tmp 4) (.const (.int .i64 5)), none⟩,
     ⟨(some 6), .mv (.tmp 5), none⟩,
     ⟨(some 7), .ld (some 5) (.tmp 1), (some (6, true))⟩,
     ⟨(some 8), .call 7 [(.tmp 7), (.const (.int .i64 2)), (.const (.int .i64 1))], (some (6, true))⟩,
     ⟨(some 9), .bin .eql (.tmp 8) (.const (.int .i64 512)), (some (6, true))⟩,
     ⟨(some 10), .pk (.tmp 6) (.tmp 9) (.const (.bool false)), none⟩,
     ⟨(some 11), .mv (.tmp 10), none⟩,
     ⟨(some 12), .ld (some 5) (.tmp 1), (some (11, true))⟩,
     ⟨(some 13), .call 11 [(.tmp 12), (.const (.int .i64 0))], (some (11, true))⟩,
     ⟨(some 14), .eqt true 38 (.tmp 13) (.const .nilIface), (some (11, true))⟩,
     ⟨(some 15), .pk (.tmp 11) (.tmp 14) (.const (.bool false)), none⟩,
     ⟨(some 0), .mv (.tmp 15), none⟩])
  .ret)))
def glyphiclaw20_first.f  : Option (Bool) := (scale_Height_v1.f).bind fun _ => ((scale_At_v1.f).bind fun _ => ((scale_Check_v1.f).bind fun _ => (some true)))
theorem glyphiclaw20_first.ok {S : Seal}  {r0_ : Bool}{E_ : Int → Value} (hE_ : EO [0, 1] S E_) (e : glyphiclaw20_first.f  = some r0_) :
    Cal Tryd.prog 6 [] [] S fun v H' S' => v = .bool r0_ ∧ H' = [] ∧ S' = S := by
  unfold glyphiclaw20_first.f at e
  refine cal_of (c := c6) (N := 16) Tryd.func6 rfl rfl (by kernel_rfl) (rs := [.t 0]) (by kernel_rfl) (Nat.le_of_ble_eq_true rfl) ?_
  unfold c6
  refine w_seq ?_
  refine w_reg fun all => ?_
  refine t_qz 1 [] (σ' := []) (by kernel_rfl) ?_
  refine t_end ?_
  show W _ _ _ _ _ _ _
  refine w_seq ?_
  refine w_reg fun all => ?_
  refine t_qz 1 [2] (σ' := [(2, .agg #[.int .i64 1, .int .i64 1, .int .i64 0, .slice none 0 0, .slice none 0 0])]) (by kernel_rfl) ?_
  refine t_a (.new rfl rfl) fun b1 fb1 sb1 => ?_
  refine t_sti 0 (cs := [.int .i64 1, .int .i64 1, .int .i64 0, .slice none 0 0, .slice none 0 0]) rfl rfl rfl rfl rfl rfl rfl rfl rfl ?_
  refine t_keep [1] (σ' := [(1, .pointer (some ⟨b1, 0, none⟩))]) (by kernel_rfl) ?_
  refine t_end ?_
  show W _ _ _ _ _ _ _
  refine w_seq ?_
  refine w_reg fun all => ?_
  refine t_v (.ldn rfl rfl rfl (.at 0 rfl rfl)) ?_
  obtain ⟨u_, h4, e⟩ := bind_of e
  refine t_v (.call (vs := [.agg #[.int .i64 1, .int .i64 1, .int .i64 0, .slice none 0 0, .slice none 0 0], .int .i64 5]) rfl rfl (by kernel_rfl) (scale_Height_v1.ok hE_ h4)) ?_
  refine t_qz 2 [1, 6] (σ' := [(1, .pointer (some ⟨b1, 0, none⟩)), (6, .bool true)]) (by kernel_rfl) ?_
  refine t_v (.ldn rfl rfl rfl (.at 0 rfl rfl)) ?_
  obtain ⟨u_, h8, e⟩ := bind_of e
  refine t_v (.call (vs := [.agg #[.int .i64 1, .int .i64 1, .int .i64 0, .slice none 0 0, .slice none 0 0], .int .i64 2, .int .i64 1]) rfl rfl (by kernel_rfl) (scale_At_v1.ok hE_ h8)) ?_
  refine t_qz 3 [1, 11] (σ' := [(1, .pointer (some ⟨b1, 0, none⟩)), (11, .bool true)]) (by kernel_rfl) ?_
  refine t_v (.ldn rfl rfl rfl (.at 0 rfl rfl)) ?_
  obtain ⟨u_, h10, e⟩ := bind_of e
  refine t_v (.call (vs := [.agg #[.int .i64 1, .int .i64 1, .int .i64 0, .slice none 0 0, .slice none 0 0], .int .i64 0]) rfl rfl (by kernel_rfl) (scale_Check_v1.ok hE_ h10)) ?_
  refine t_v (.eqt (a := E_ 1) (b := .nilIface) (r := false) rfl rfl rfl rfl (eqE hE_ (by kernel_rfl) (by decide)) rfl) ?_
  refine t_qz 2 [0] (σ' := [(0, .bool true)]) (by kernel_rfl) ?_
  refine t_end ?_
  show W _ _ _ _ _ _ _
  refine w_ret ?_
  obtain rfl := Option.some.inj e
  exact ⟨[.bool true], [], S, ⟨rfl, trivial⟩, VS.none, rfl, rfl, rfl⟩

def fixed_Down.f (a0 : Int) (b1 : Int) : Option (Int) := if b1 < 1 then (some 0) else (if b1 = 0 then none else (if (Int.tmod a0 b1) < 0 then (some (wr64 ((wr64 (Int.tdiv a0 b1)) - 1))) else (some (wr64 (Int.tdiv a0 b1)))))
theorem fixed_Down.ok {S : Seal} {a0 : Int} {b1 : Int} {r0_ : Int}{E_ : Int → Value} (hE_ : EO [0, 1] S E_) (e : fixed_Down.f a0 b1 = some r0_) :
    Cal Tryd.prog 21 [.int .i64 a0, .int .i64 b1] [] S fun v H' S' => v = .int .i64 r0_ ∧ H' = [] ∧ S' = S := by
  unfold fixed_Down.f at e
  refine cal_of (c := c21) (N := 18) Tryd.func21 rfl rfl (by kernel_rfl) (rs := [.t 4]) (by kernel_rfl) (Nat.le_of_ble_eq_true rfl) ?_
  unfold c21
  refine w_seq ?_
  refine w_reg fun all => ?_
  refine t_qz 1 [0, 1] (σ' := [(0, .int .i64 a0), (1, .int .i64 b1)]) (by kernel_rfl) ?_
  refine t_end ?_
  show W _ _ _ _ _ _ _
  refine w_seq ?_
  refine w_seq ?_
  refine w_reg fun all => ?_
  by_cases c18 : b1 < 1
  · rw [if_pos c18] at e
    have c18b : (decide (b1 < 1)) = true := decide_eq_true c18
    refine t_qz 1 [0, 1, 6] (σ' := [(0, .int .i64 a0), (1, .int .i64 b1), (6, .int .i64 b1)]) (by kernel_rfl) ?_
    refine t_v (dv_quiet rfl (congrArg (fun t => some (Value.bool t)) c18b)) ?_
    refine t_keep [0, 1, 7] (σ' := [(0, .int .i64 a0), (1, .int .i64 b1), (7, .bool true)]) (by kernel_rfl) ?_
    refine t_end ?_
    show W _ _ _ _ _ _ _
    refine w_cond rfl (fun _ => ?_) (fun c_ => by cases c_)
    show W _ _ _ _ _ _ _
    refine w_seq ?_
    refine w_reg fun all => ?_
    refine t_qz 1 [4] (σ' := [(4, .int .i64 0)]) (by kernel_rfl) ?_
    refine t_end ?_
    show W _ _ _ _ _ _ _
    refine w_ret ?_
    obtain rfl := Option.some.inj e
    exact ⟨[.int .i64 0], [], S, ⟨rfl, trivial⟩, VS.none, rfl, rfl, rfl⟩
  · rw [if_neg c18] at e
    have c18b : (decide (b1 < 1)) = false := decide_eq_false c18
    refine t_qz 1 [0, 1, 6] (σ' := [(0, .int .i64 a0), (1, .int .i64 b1), (6, .int .i64 b1)]) (by kernel_rfl) ?_
    refine t_v (dv_quiet rfl (congrArg (fun t => some (Value.bool t)) c18b)) ?_
    refine t_keep [0, 1, 7] (σ' := [(0, .int .i64 a0), (1, .int .i64 b1), (7, .bool false)]) (by kernel_rfl) ?_
    refine t_end ?_
    show W _ _ _ _ _ _ _
    refine w_cond rfl (fun c_ => by cases c_) (fun _ => ?_)
    show W _ _ _ _ _ _ _
    refine w_skip ?_
    show W _ _ _ _ _ _ _
    refine w_seq ?_
    refine w_reg fun all => ?_
    have c19 : ¬ b1 = 0 := by
      intro h_; rw [if_pos h_] at e; cases e
    rw [if_neg c19] at e
    refine t_qz 2 [0, 1, 8, 9] (σ' := [(0, .int .i64 a0), (1, .int .i64 b1), (8, .int .i64 a0), (9, .int .i64 b1)]) (by kernel_rfl) ?_
    refine t_v (.quiet rfl (qv_quo rfl rfl c19)) ?_
    refine t_qz 1 [0, 1, 5] (σ' := [(0, .int .i64 a0), (1, .int .i64 b1), (5, .int .i64 (wr64 (Int.tdiv a0 b1)))]) (by kernel_rfl) ?_
    refine t_end ?_
    show W _ _ _ _ _ _ _
    refine w_seq ?_
    refine w_seq ?_
    refine w_reg fun all => ?_
    refine t_qz 2 [5, 11, 12] (σ' := [(5, .int .i64 (wr64 (Int.tdiv a0 b1))), (11, .int .i64 a0), (12, .int .i64 b1)]) (by kernel_rfl) ?_
    refine t_v (.quiet rfl (qv_rem rfl rfl c19)) ?_
    by_cases c20 : (Int.tmod a0 b1) < 0
    · rw [if_pos c20] at e
      have c20b : (decide ((Int.tmod a0 b1) < 0)) = true := decide_eq_true c20
      refine t_v (dv_quiet rfl (congrArg (fun t => some (Value.bool t)) c20b)) ?_
      refine t_keep [5, 14] (σ' := [(5, .int .i64 (wr64 (Int.tdiv a0 b1))), (14, .bool true)]) (by kernel_rfl) ?_
      refine t_end ?_
      show W _ _ _ _ _ _ _
      refine w_cond rfl (fun _ => ?_) (fun c_ => by cases c_)
      show W _ _ _ _ _ _ _
      refine w_reg fun all => ?_
      refine t_qz 3 [5] (σ' := [(5, .int .i64 (wr64 ((wr64 (Int.tdiv a0 b1)) - 1)))]) (by kernel_rfl) ?_
      refine t_end ?_
      show W _ _ _ _ _ _ _
      refine w_seq ?_
      refine w_reg fun all => ?_
      refine t_qz 2 [4] (σ' := [(4, .int .i64 (wr64 ((wr64 (Int.tdiv a0 b1)) - 1)))]) (by kernel_rfl) ?_
      refine t_end ?_
      show W _ _ _ _ _ _ _
      refine w_ret ?_
      obtain rfl := Option.some.inj e
      exact ⟨[.int .i64 (wr64 ((wr64 (Int.tdiv a0 b1)) - 1))], [], S, ⟨rfl, trivial⟩, VS.none, rfl, rfl, rfl⟩
    · rw [if_neg c20] at e
      have c20b : (decide ((Int.tmod a0 b1) < 0)) = false := decide_eq_false c20
      refine t_v (dv_quiet rfl (congrArg (fun t => some (Value.bool t)) c20b)) ?_
      refine t_keep [5, 14] (σ' := [(5, .int .i64 (wr64 (Int.tdiv a0 b1))), (14, .bool false)]) (by kernel_rfl) ?_
      refine t_end ?_
      show W _ _ _ _ _ _ _
      refine w_cond rfl (fun c_ => by cases c_) (fun _ => ?_)
      show W _ _ _ _ _ _ _
      refine w_skip ?_
      show W _ _ _ _ _ _ _
      refine w_seq ?_
      refine w_reg fun all => ?_
      refine t_qz 2 [4] (σ' := [(4, .int .i64 (wr64 (Int.tdiv a0 b1)))]) (by kernel_rfl) ?_
      refine t_end ?_
      show W _ _ _ _ _ _ _
      refine w_ret ?_
      obtain rfl := Option.some.inj e
      exact ⟨[.int .i64 (wr64 (Int.tdiv a0 b1))], [], S, ⟨rfl, trivial⟩, VS.none, rfl, rfl, rfl⟩

def fixed_Round.f (a0 : Int) (b1 : Int) : Option (Int) := if b1 < 1 then (some 0) else ((fixed_Down.f a0 b1).bind fun t21 => (if (wr64 (a0 - (wr64 (t21 * b1)))) ≥ (wr64 (b1 - (wr64 (a0 - (wr64 (t21 * b1)))))) then (some (wr64 (t21 + 1))) else (some t21)))
theorem fixed_Round.ok {S : Seal} {a0 : Int} {b1 : Int} {r0_ : Int}{E_ : Int → Value} (hE_ : EO [0, 1] S E_) (e : fixed_Round.f a0 b1 = some r0_) :
    Cal Tryd.prog 20 [.int .i64 a0, .int .i64 b1] [] S fun v H' S' => v = .int .i64 r0_ ∧ H' = [] ∧ S' = S := by
  unfold fixed_Round.f at e
  refine cal_of (c := c20) (N := 25) Tryd.func20 rfl rfl (by kernel_rfl) (rs := [.t 4]) (by kernel_rfl) (Nat.le_of_ble_eq_true rfl) ?_
  unfold c20
  refine w_seq ?_
  refine w_reg fun all => ?_
  refine t_qz 1 [0, 1] (σ' := [(0, .int .i64 a0), (1, .int .i64 b1)]) (by kernel_rfl) ?_
  refine t_end ?_
  show W _ _ _ _ _ _ _
  refine w_seq ?_
  refine w_seq ?_
  refine w_reg fun all => ?_
  by_cases c17 : b1 < 1
  · rw [if_pos c17] at e
    have c17b : (decide (b1 < 1)) = true := decide_eq_true c17
    refine t_qz 1 [0, 1, 7] (σ' := [(0, .int .i64 a0), (1, .int .i64 b1), (7, .int .i64 b1)]) (by kernel_rfl) ?_
    refine t_v (dv_quiet rfl (congrArg (fun t => some (Value.bool t)) c17b)) ?_
    refine t_keep [0, 1, 8] (σ' := [(0, .int .i64 a0), (1, .int .i64 b1), (8, .bool true)]) (by kernel_rfl) ?_
    refine t_end ?_
    show W _ _ _ _ _ _ _
    refine w_cond rfl (fun _ => ?_) (fun c_ => by cases c_)
    show W _ _ _ _ _ _ _
    refine w_seq ?_
    refine w_reg fun all => ?_
    refine t_qz 1 [4] (σ' := [(4, .int .i64 0)]) (by kernel_rfl) ?_
    refine t_end ?_
    show W _ _ _ _ _ _ _
    refine w_ret ?_
    obtain rfl := Option.some.inj e
    exact ⟨[.int .i64 0], [], S, ⟨rfl, trivial⟩, VS.none, rfl, rfl, rfl⟩
  · rw [if_neg c17] at e
    have c17b : (decide (b1 < 1)) = false := decide_eq_false c17
    refine t_qz 1 [0, 1, 7] (σ' := [(0, .int .i64 a0), (1, .int .i64 b1), (7, .int .i64 b1)]) (by kernel_rfl) ?_
    refine t_v (dv_quiet rfl (congrArg (fun t => some (Value.bool t)) c17b)) ?_
    refine t_keep [0, 1, 8] (σ' := [(0, .int .i64 a0), (1, .int .i64 b1), (8, .bool false)]) (by kernel_rfl) ?_
    refine t_end ?_
    show W _ _ _ _ _ _ _
    refine w_cond rfl (fun c_ => by cases c_) (fun _ => ?_)
    show W _ _ _ _ _ _ _
    refine w_skip ?_
    show W _ _ _ _ _ _ _
    refine w_seq ?_
    refine w_reg fun all => ?_
    obtain ⟨t21, h22, e⟩ := bind_of e
    refine t_qz 2 [0, 1, 9, 10] (σ' := [(0, .int .i64 a0), (1, .int .i64 b1), (9, .int .i64 a0), (10, .int .i64 b1)]) (by kernel_rfl) ?_
    refine t_v (.call (vs := [.int .i64 a0, .int .i64 b1]) rfl rfl (by kernel_rfl) (fixed_Down.ok hE_ h22)) ?_
    refine t_qz 1 [0, 1, 5] (σ' := [(0, .int .i64 a0), (1, .int .i64 b1), (5, .int .i64 t21)]) (by kernel_rfl) ?_
    refine t_end ?_
    show W _ _ _ _ _ _ _
    refine w_seq ?_
    refine w_seq ?_
    refine w_reg fun all => ?_
    refine t_qz 6 [1, 5, 6] (σ' := [(1, .int .i64 b1), (5, .int .i64 t21), (6, .int .i64 (wr64 (a0 - (wr64 (t21 * b1)))))]) (by kernel_rfl) ?_
    refine t_end ?_
    show W _ _ _ _ _ _ _
    refine w_seq ?_
    refine w_reg fun all => ?_
    by_cases c23 : (wr64 (a0 - (wr64 (t21 * b1)))) ≥ (wr64 (b1 - (wr64 (a0 - (wr64 (t21 * b1))))))
    · rw [if_pos c23] at e
      have c23b : (decide ((wr64 (a0 - (wr64 (t21 * b1)))) ≥ (wr64 (b1 - (wr64 (a0 - (wr64 (t21 * b1)))))))) = true := decide_eq_true c23
      refine t_qz 4 [5, 17, 20] (σ' := [(5, .int .i64 t21), (17, .int .i64 (wr64 (a0 - (wr64 (t21 * b1))))), (20, .int .i64 (wr64 (b1 - (wr64 (a0 - (wr64 (t21 * b1)))))))]) (by kernel_rfl) ?_
      refine t_v (dv_quiet rfl (congrArg (fun t => some (Value.bool t)) c23b)) ?_
      refine t_keep [5, 21] (σ' := [(5, .int .i64 t21), (21, .bool true)]) (by kernel_rfl) ?_
      refine t_end ?_
      show W _ _ _ _ _ _ _
      refine w_cond rfl (fun _ => ?_) (fun c_ => by cases c_)
      show W _ _ _ _ _ _ _
      refine w_reg fun all => ?_
      refine t_qz 3 [5] (σ' := [(5, .int .i64 (wr64 (t21 + 1)))]) (by kernel_rfl) ?_
      refine t_end ?_
      show W _ _ _ _ _ _ _
      refine w_seq ?_
      refine w_reg fun all => ?_
      refine t_qz 2 [4] (σ' := [(4, .int .i64 (wr64 (t21 + 1)))]) (by kernel_rfl) ?_
      refine t_end ?_
      show W _ _ _ _ _ _ _
      refine w_ret ?_
      obtain rfl := Option.some.inj e
      exact ⟨[.int .i64 (wr64 (t21 + 1))], [], S, ⟨rfl, trivial⟩, VS.none, rfl, rfl, rfl⟩
    · rw [if_neg c23] at e
      have c23b : (decide ((wr64 (a0 - (wr64 (t21 * b1)))) ≥ (wr64 (b1 - (wr64 (a0 - (wr64 (t21 * b1)))))))) = false := decide_eq_false c23
      refine t_qz 4 [5, 17, 20] (σ' := [(5, .int .i64 t21), (17, .int .i64 (wr64 (a0 - (wr64 (t21 * b1))))), (20, .int .i64 (wr64 (b1 - (wr64 (a0 - (wr64 (t21 * b1)))))))]) (by kernel_rfl) ?_
      refine t_v (dv_quiet rfl (congrArg (fun t => some (Value.bool t)) c23b)) ?_
      refine t_keep [5, 21] (σ' := [(5, .int .i64 t21), (21, .bool false)]) (by kernel_rfl) ?_
      refine t_end ?_
      show W _ _ _ _ _ _ _
      refine w_cond rfl (fun c_ => by cases c_) (fun _ => ?_)
      show W _ _ _ _ _ _ _
      refine w_skip ?_
      show W _ _ _ _ _ _ _
      refine w_seq ?_
      refine w_reg fun all => ?_
      refine t_qz 2 [4] (σ' := [(4, .int .i64 t21)]) (by kernel_rfl) ?_
      refine t_end ?_
      show W _ _ _ _ _ _ _
      refine w_ret ?_
      obtain rfl := Option.some.inj e
      exact ⟨[.int .i64 t21], [], S, ⟨rfl, trivial⟩, VS.none, rfl, rfl, rfl⟩

def scale_At_v2.f (i0_0 : Int) (i0_1 : Int) (i0_2 : Int) (w1 : Int) (v2 : Int) : Option (Int) := if i0_2 < 0 then none else ((fixed_Round.f (wr64 ((wr64 (v2 * w1)) * 256)) (wr64 (i0_0 * 2 ^ (min (Int.toNat i0_2) 64)))).bind fun t24 => (some t24))
theorem scale_At_v2.ok {S : Seal} {i0_0 : Int} {i0_1 : Int} {i0_2 : Int} {w1 : Int} {v2 : Int} {r0_ : Int}{E_ : Int → Value} (hE_ : EO [0, 1] S E_) (e : scale_At_v2.f i0_0 i0_1 i0_2 w1 v2 = some r0_) :
    Cal Tryd.prog 7 [.agg #[.int .i64 i0_0, .int .i64 i0_1, .int .i64 i0_2, .slice none 0 0, .slice none 0 0], .int .i64 w1, .int .i64 v2] [] S fun v H' S' => v = .int .i64 r0_ ∧ H' = [] ∧ S' = S := by
  unfold scale_At_v2.f at e
  refine cal_of (c := c7) (N := 17) Tryd.func7 rfl rfl (by kernel_rfl) (rs := [.t 6]) (by kernel_rfl) (Nat.le_of_ble_eq_true rfl) ?_
  unfold c7
  refine w_seq ?_
  refine w_reg fun all => ?_
  refine t_a (.box rfl rfl rfl) fun b15 fb15 sb15 => ?_
  refine t_qz 1 [1, 2, 3] (σ' := [(1, .int .i64 w1), (2, .int .i64 v2), (3, .pointer (some ⟨b15, 0, none⟩))]) (by kernel_rfl) ?_
  refine t_end ?_
  show W _ _ _ _ _ _ _
  refine w_seq ?_
  refine w_reg fun all => ?_
  refine t_qz 5 [3, 10, 11] (σ' := [(3, .pointer (some ⟨b15, 0, none⟩)), (10, .int .i64 (wr64 ((wr64 (v2 * w1)) * 256))), (11, .pointer (some ⟨b15, 0, none⟩))]) (by kernel_rfl) ?_
  refine t_v (.ld1 rfl rfl rfl (.at 0 rfl rfl)) ?_
  refine t_qz 1 [10, 12, 13] (σ' := [(10, .int .i64 (wr64 ((wr64 (v2 * w1)) * 256))), (12, .int .i64 i0_0), (13, .pointer (some ⟨b15, 2, none⟩))]) (by kernel_rfl) ?_
  refine t_v (.ld1 rfl rfl rfl (.at 0 rfl rfl)) ?_
  have c16 : ¬ i0_2 < 0 := by
    intro h_; rw [if_pos h_] at e; cases e
  rw [if_neg c16] at e
  refine t_v (.quiet rfl (qv_shl rfl rfl c16)) ?_
  obtain ⟨t24, h25, e⟩ := bind_of e
  refine t_v (.call (vs := [.int .i64 (wr64 ((wr64 (v2 * w1)) * 256)), .int .i64 (wr64 (i0_0 * 2 ^ (min (Int.toNat i0_2) 64)))]) rfl rfl (by kernel_rfl) (fixed_Round.ok hE_ h25)) ?_
  refine t_qz 1 [6] (σ' := [(6, .int .i64 t24)]) (by kernel_rfl) ?_
  refine t_end ?_
  show W _ _ _ _ _ _ _
  refine w_ret ?_
  obtain rfl := Option.some.inj e
  exact ⟨[.int .i64 t24], [], S, ⟨rfl, trivial⟩, VS.none, rfl, rfl, rfl⟩

def scale_Height_v2.f (i0_0 : Int) (i0_1 : Int) (i0_2 : Int) (w1 : Int) : Option (Int) := (fixed_Down.f (wr64 ((wr64 (0 - i0_1)) * w1)) i0_0).bind fun t33 => (some (wr64 (0 - t33)))
theorem scale_Height_v2.ok {S : Seal} {i0_0 : Int} {i0_1 : Int} {i0_2 : Int} {w1 : Int} {r0_ : Int}{E_ : Int → Value} (hE_ : EO [0, 1] S E_) (e : scale_Height_v2.f i0_0 i0_1 i0_2 w1 = some r0_) :
    Cal Tryd.prog 8 [.agg #[.int .i64 i0_0, .int .i64 i0_1, .int .i64 i0_2, .slice none 0 0, .slice none 0 0], .int .i64 w1] [] S fun v H' S' => v = .int .i64 r0_ ∧ H' = [] ∧ S' = S := by
  unfold scale_Height_v2.f at e
  refine cal_of (c := c8) (N := 14) Tryd.func8 rfl rfl (by kernel_rfl) (rs := [.t 4]) (by kernel_rfl) (Nat.le_of_ble_eq_true rfl) ?_
  unfold c8
  refine w_seq ?_
  refine w_reg fun all => ?_
  refine t_a (.box rfl rfl rfl) fun b32 fb32 sb32 => ?_
  refine t_qz 1 [1, 2] (σ' := [(1, .int .i64 w1), (2, .pointer (some ⟨b32, 0, none⟩))]) (by kernel_rfl) ?_
  refine t_end ?_
  show W _ _ _ _ _ _ _
  refine w_seq ?_
  refine w_reg fun all => ?_
  refine t_qz 1 [1, 2, 5] (σ' := [(1, .int .i64 w1), (2, .pointer (some ⟨b32, 0, none⟩)), (5, .pointer (some ⟨b32, 1, none⟩))]) (by kernel_rfl) ?_
  refine t_v (.ld1 rfl rfl rfl (.at 0 rfl rfl)) ?_
  refine t_qz 4 [9, 10] (σ' := [(9, .int .i64 (wr64 ((wr64 (0 - i0_1)) * w1))), (10, .pointer (some ⟨b32, 0, none⟩))]) (by kernel_rfl) ?_
  refine t_v (.ld1 rfl rfl rfl (.at 0 rfl rfl)) ?_
  obtain ⟨t33, h34, e⟩ := bind_of e
  refine t_v (.call (vs := [.int .i64 (wr64 ((wr64 (0 - i0_1)) * w1)), .int .i64 i0_0]) rfl rfl (by kernel_rfl) (fixed_Down.ok hE_ h34)) ?_
  refine t_qz 2 [4] (σ' := [(4, .int .i64 (wr64 (0 - t33)))]) (by kernel_rfl) ?_
  refine t_end ?_
  show W _ _ _ _ _ _ _
  refine w_ret ?_
  obtain rfl := Option.some.inj e
  exact ⟨[.int .i64 (wr64 (0 - t33))], [], S, ⟨rfl, trivial⟩, VS.none, rfl, rfl, rfl⟩

/-- glyphiclaw20.ScaleSteps -/
def c3 : C :=
  (.seq (.reg [⟨(some 6), .mv (.const (.bool false)), none⟩])
  (.seq (.reg [⟨(some 10), .call 6 [], none⟩,
     ⟨(some 7), .mv (.tmp 10), none⟩])
  (.seq (.seq (.reg [⟨(some 11), .mv (.tmp 7), none⟩,
      ⟨(some 12), .un .not (.tmp 11), none⟩])
   (.cond (.tmp 12)
    (.seq (.reg [⟨(some 6), .mv (.const (.bool false)), none⟩])
     .ret)
    .skip))
  (.seq (.reg [⟨(some 13), .mv (.tmp 0), none⟩,
     ⟨(some 14), .bin .rem (.tmp 13) (.const (.int .i64 100)), none⟩,
     ⟨(some 15), .bin .add (.tmp 14) (.const (.int .i64 100)), none⟩,
     ⟨(some 16), .bin .rem (.tmp 15) (.const (.int .i64 100)), none⟩,
     ⟨(some 17), .bin .add (.tmp 16) (.const (.int .i64 1)), none⟩,
     ⟨(some 0), .mv (.tmp 17), none⟩])
  (.seq (.reg [⟨(some 18), .mv (.tmp 1), none⟩,
     ⟨(some 19), .bin .rem (.tmp 18) (.const (.int .i64 7)), none⟩,
     ⟨(some 20), .bin .add (.tmp 19) (.const (.int .i64 7)), none⟩,
     ⟨(some 21), .bin .rem (.tmp 20) (.const (.int .i64 7)), none⟩,
     ⟨(some 1), .mv (.tmp 21), none⟩])
  (.seq (.reg [⟨(some 22), .mv (.tmp 2), none⟩,
     ⟨(some 23), .bin .rem (.tmp 22) (.const (.int .i64 10000)), none⟩,
     ⟨(some 2), .mv (.tmp 23), none⟩])
  (.seq (.reg [⟨(some 24), .mv (.tmp 0), none⟩,
     ⟨(some 25), .mv (.tmp 1), none⟩,
     ⟨(some 26), .bld [(.int .i64 0), (.int .i64 0), (.int .i64 0), (.slice none 0 0), (.slice none 0 0)] [(0, 1, (.tmp 24)), (1, 1, (.const (.int .i64 3))), (2, 1, (.tmp 25))], none⟩,
     ⟨(some 8), .new [(.int .i64 0), (.int .i64 0), (.int .i64 0), (.slice none 0 0), (.slice none 0 0)], none⟩,
     ⟨none, .st 5 (.tmp 8) (.tmp 26), none⟩])
  (.seq (.reg [⟨(some 27), .mv (.tmp 1), none⟩,
     ⟨(some 28), .cnv .u64 (.tmp 27), none⟩,
     ⟨(some 29), .bin .shr (.const (.int .i64 256)) (.tmp 28), none⟩,
     ⟨(some 9), .mv (.tmp 29), none⟩])
  (.seq (.drw [⟨(some 30), .mv (.tmp 7), none⟩,
     ⟨(some 31), .mv (.tmp 30), none⟩,
     ⟨(some 32), .ld (some 5) (.tmp 8), (some (31, true))⟩,
     ⟨(some 33), .mv (.tmp 0), (some (31, true))⟩,
     ⟨(some 34), .mv (.tmp 2), (some (31, true))⟩,
     ⟨(some 35), .call 7 [(.tmp 32), (.tmp 33), (.tmp 34)], (some (31, true))⟩,
     ⟨(some 36), .mv (.tmp 2), (some (31, true))⟩,
     ⟨(some 37), .mv (.tmp 9), (some (31, true))⟩,
     ⟨(some 38), .bin .mul (.tmp 36) (.tmp 37), (some (31, true))⟩,
     ⟨(some 39), .bin .eql (.tmp 35) (.tmp 38), (some (31, true))⟩,
     ⟨(some 40), .pk (.tmp 31) (.tmp 39) (.const (.bool false)), none⟩,
     ⟨(some 41), .mv (.tmp 40), none⟩,
     ⟨(some 42), .ld (some 5) (.tmp 8), (some (41, true))⟩,
     ⟨(some 43), .mv (.tmp 0), (some (41, true))⟩,
     ⟨(some 44), .bin .mul (.const (.int .i64 2)) (.tmp 43), (some (41, true))⟩,
     ⟨(some 45), .mv (.tmp 2), (some (41, true))⟩,
     ⟨(some 46), .call 7 [(.tmp 42), (.tmp 44), (.tmp 45)], (some (41, true))⟩,
     ⟨(some 47), .mv (.tmp 2), (some (41, true))⟩,
     ⟨(some 48), .bin .mul (.const (.int .i64 2)) (.tmp 47), (some (41, true))⟩,
     ⟨(some 49), .mv (.tmp 9), (some (41, true))⟩,
     ⟨(some 50), .bin .mul (.tmp 48) (.tmp 49), (some (41, true))⟩,
     ⟨(some 51), .bin .eql (.tmp 46) (.tmp 50), (some (41, true))⟩,
     ⟨(some 52), .pk (.tmp 41) (.tmp 51) (.const (.bool false)), none⟩,
     ⟨(some 53), .mv (.tmp 52), none⟩,
     ⟨(some 54), .ld (some 5) (.tmp 8), (some (53, true))⟩,
     ⟨(some 55), .mv (.tmp 0), (some (53, true))⟩,
     ⟨(some 56), .call 8 [(.tmp 54), (.tmp 55)], (some (53, true))⟩,
     ⟨(some 57), .bin .eql (.tmp 56) (.const (.int .i64 3)), (some (53, true))⟩,
     ⟨(some 58), .pk (.tmp 53) (.tmp 57) (.const (.bool false)), none⟩,
     ⟨(some 59), .mv (.tmp 58), none⟩,
     ⟨(some 60), .ld (some 5) (.tmp 8), (some (59, true))⟩,
     ⟨(some 61), .mv (.tmp 0), (some (59, true))⟩,
     ⟨(some 62), .bin .mul (.const (.int .i64 2)) (.tmp 61), (some (59, true))⟩,
     ⟨(some 63), .call 8 [(.tmp 60), (.tmp 62)], (some (59, true))⟩,
     ⟨(some 64), .bin .eql (.tmp 63) (.const (.int .i64 6)), (some (59, true))⟩,
     ⟨(some 65), .pk (.tmp 59) (.tmp 64) (.const (.bool false)), none⟩,
     ⟨(some 66), .mv (.tmp 65), none⟩,
     ⟨(some 67), .ld (some 5) (.tmp 8), (some (66, true))⟩,
     ⟨(some 68), .call 8 [(.tmp 67), (.const (.int .i64 1))], (some (66, true))⟩,
     ⟨(some 69), .mv (.tmp 0), (some (66, true))⟩,
     ⟨(some 70), .bin .add (.const (.int .i64 3)) (.tmp 69), (some (66, true))⟩,
     ⟨(some 71), .bin .sub (.tmp 70) (.const (.int .i64 1)), (some (66, true))⟩,
     ⟨(some 72), .mv (.tmp 0), (some (66, true))⟩,
     ⟨(some 73), .bin .quo (.tmp 71) (.tmp 72), (some (66, true))⟩,
     ⟨(some 74), .bin .eql (.tmp 68) (.tmp 73), (some (66, true))⟩,
     ⟨(some 75), .pk (.tmp 66) (.tmp 74) (.const (.bool false)), none⟩,
     ⟨(some 6), .mv (.tmp 75), none⟩] [[], [0], [1], [1], [1], [2, 3, 4, 1, 1], [1], [1], [6, 7, 1], [5, 8, 1], [1, 9], [10, 5], [11], [11], [13, 11], [11], [12, 14, 15, 11, 11], [11], [17, 11], [11], [18, 19, 11], [16, 20, 11], [11, 21], [22, 16], [23], [23], [24, 25, 23, 23], [26, 23], [23, 27], [28, 26], [29], [29], [31, 29], [30, 32, 29, 29], [33, 29], [29, 34], [35, 33], [36], [37, 36, 36], [36], [39, 36], [40, 36], [36], [41, 42, 36], [38, 43, 36], [36, 44], [45, 38, 0, 1, 2, 3, 4, 5, 6, 7, 8, 9, 10, 11, 12, 13, 14, 15, 16, 17, 18, 19, 20, 21, 22, 23, 24, 25, 26, 27, 28, 29, 30, 31, 32, 33, 34, 35, 36, 37, 38, 39, 40, 41, 42, 43, 44, 45]])
  .ret)))))))))
def glyphiclaw20_ScaleSteps.f (w0 : Int) (s1 : Int) (v2 : Int) : Option (Bool) := (glyphiclaw20_first.f).bind fun t11 => (if t11 = true then (if (wru64 (Int.tmod (wr64 ((Int.tmod s1 7) + 7)) 7)) < 0 then none else ((scale_At_v2.f (wr64 ((Int.tmod (wr64 ((Int.tmod w0 100) + 100)) 100) + 1)) 3 (Int.tmod (wr64 ((Int.tmod s1 7) + 7)) 7) (wr64 ((Int.tmod (wr64 ((Int.tmod w0 100) + 100)) 100) + 1)) (Int.tmod v2 10000)).bind fun t15 => (if t15 = (wr64 ((Int.tmod v2 10000) * (Int.fdiv 256 (2 ^ (min (Int.toNat (wru64 (Int.tmod (wr64 ((Int.tmod s1 7) + 7)) 7))) 64))))) then ((scale_At_v2.f (wr64 ((Int.tmod (wr64 ((Int.tmod w0 100) + 100)) 100) + 1)) 3 (Int.tmod (wr64 ((Int.tmod s1 7) + 7)) 7) (wr64 (2 * (wr64 ((Int.tmod (wr64 ((Int.tmod w0 100) + 100)) 100) + 1)))) (Int.tmod v2 10000)).bind fun t18 => (if t18 = (wr64 ((wr64 (2 * (Int.tmod v2 10000))) * (Int.fdiv 256 (2 ^ (min (Int.toNat (wru64 (Int.tmod (wr64 ((Int.tmod s1 7) + 7)) 7))) 64))))) then ((scale_Height_v2.f (wr64 ((Int.tmod (wr64 ((Int.tmod w0 100) + 100)) 100) + 1)) 3 (Int.tmod (wr64 ((Int.tmod s1 7) + 7)) 7) (wr64 ((Int.tmod (wr64 ((Int.tmod w0 100) + 100)) 100) + 1))).bind fun t21 => (if t21 = 3 then ((scale_Height_v2.f (wr64 ((Int.tmod (wr64 ((Int.tmod w0 100) + 100)) 100) + 1)) 3 (Int.tmod (wr64 ((Int.tmod s1 7) + 7)) 7) (wr64 (2 * (wr64 ((Int.tmod (wr64 ((Int.tmod w0 100) + 100)) 100) + 1))))).bind fun t24 => (if t24 = 6 then ((scale_Height_v2.f (wr64 ((Int.tmod (wr64 ((Int.tmod w0 100) + 100)) 100) + 1)) 3 (Int.tmod (wr64 ((Int.tmod s1 7) + 7)) 7) 1).bind fun t27 => (if (wr64 ((Int.tmod (wr64 ((Int.tmod w0 100) + 100)) 100) + 1)) = 0 then none else (some (t27 == (wr64 (Int.tdiv (wr64 ((wr64 (3 + (wr64 ((Int.tmod (wr64 ((Int.tmod w0 100) + 100)) 100) + 1)))) - 1)) (wr64 ((Int.tmod (wr64 ((Int.tmod w0 100) + 100)) 100) + 1)))))))) else (some false))) else (some false))) else (some false))) else (some false)))) else (some false))
theorem glyphiclaw20_ScaleSteps.ok {S : Seal} {w0 : Int} {s1 : Int} {v2 : Int} {E_ : Int → Value} (hE_ : EO [0, 1] S E_) (e : glyphiclaw20_ScaleSteps.f w0 s1 v2 = some true) :
    Cal Tryd.prog 3 [.int .i64 w0, .int .i64 s1, .int .i64 v2] [] S fun v H' S' => v = .bool true ∧ H' = [] ∧ S' = S := by
  unfold glyphiclaw20_ScaleSteps.f at e
  refine cal_of (c := c3) (N := 76) Tryd.func3 rfl rfl (by kernel_rfl) (rs := [.t 6]) (by kernel_rfl) (Nat.le_of_ble_eq_true rfl) ?_
  unfold c3
  refine w_seq ?_
  refine w_reg fun all => ?_
  refine t_qz 1 [0, 1, 2] (σ' := [(0, .int .i64 w0), (1, .int .i64 s1), (2, .int .i64 v2)]) (by kernel_rfl) ?_
  refine t_end ?_
  show W _ _ _ _ _ _ _
  refine w_seq ?_
  refine w_reg fun all => ?_
  obtain ⟨t11, h12, e⟩ := bind_of e
  cases t11 with
  | true =>
    rw [if_pos rfl] at e
    refine t_v (.call (vs := []) rfl rfl (by kernel_rfl) (glyphiclaw20_first.ok hE_ h12)) ?_
    refine t_qz 1 [0, 1, 2, 7] (σ' := [(0, .int .i64 w0), (1, .int .i64 s1), (2, .int .i64 v2), (7, .bool true)]) (by kernel_rfl) ?_
    refine t_end ?_
    show W _ _ _ _ _ _ _
    refine w_seq ?_
    refine w_seq ?_
    refine w_reg fun all => ?_
    refine t_qz 2 [0, 1, 2, 7, 12] (σ' := [(0, .int .i64 w0), (1, .int .i64 s1), (2, .int .i64 v2), (7, .bool true), (12, .bool false)]) (by kernel_rfl) ?_
    refine t_end ?_
    show W _ _ _ _ _ _ _
    refine w_cond rfl (fun c_ => by cases c_) (fun _ => ?_)
    show W _ _ _ _ _ _ _
    refine w_skip ?_
    show W _ _ _ _ _ _ _
    refine w_seq ?_
    refine w_reg fun all => ?_
    refine t_qz 6 [0, 1, 2, 7] (σ' := [(0, .int .i64 (wr64 ((Int.tmod (wr64 ((Int.tmod w0 100) + 100)) 100) + 1))), (1, .int .i64 s1), (2, .int .i64 v2), (7, .bool true)]) (by kernel_rfl) ?_
    refine t_end ?_
    show W _ _ _ _ _ _ _
    refine w_seq ?_
    refine w_reg fun all => ?_
    refine t_qz 5 [0, 1, 2, 7] (σ' := [(0, .int .i64 (wr64 ((Int.tmod (wr64 ((Int.tmod w0 100) + 100)) 100) + 1))), (1, .int .i64 (Int.tmod (wr64 ((Int.tmod s1 7) + 7)) 7)), (2, .int .i64 v2), (7, .bool true)]) (by kernel_rfl) ?_
    refine t_end ?_
    show W _ _ _ _ _ _ _
    refine w_seq ?_
    refine w_reg fun all => ?_
    refine t_qz 3 [0, 1, 2, 7] (σ' := [(0, .int .i64 (wr64 ((Int.tmod (wr64 ((Int.tmod w0 100) + 100)) 100) + 1))), (1, .int .i64 (Int.tmod (wr64 ((Int.tmod s1 7) + 7)) 7)), (2, .int .i64 (Int.tmod v2 10000)), (7, .bool true)]) (by kernel_rfl) ?_
    refine t_end ?_
    show W _ _ _ _ _ _ _
    refine w_seq ?_
    refine w_reg fun all => ?_
    refine t_qz 3 [0, 1, 2, 7, 26] (σ' := [(0, .int .i64 (wr64 ((Int.tmod (wr64 ((Int.tmod w0 100) + 100)) 100) + 1))), (1, .int .i64 (Int.tmod (wr64 ((Int.tmod s1 7) + 7)) 7)), (2, .int .i64 (Int.tmod v2 10000)), (7, .bool true), (26, .agg #[.int .i64 (wr64 ((Int.tmod (wr64 ((Int.tmod w0 100) + 100)) 100) + 1)), .int .i64 3, .int .i64 (Int.tmod (wr64 ((Int.tmod s1 7) + 7)) 7), .slice none 0 0, .slice none 0 0])]) (by kernel_rfl) ?_
    refine t_a (.new rfl rfl) fun b13 fb13 sb13 => ?_
    refine t_sti 0 (cs := [.int .i64 (wr64 ((Int.tmod (wr64 ((Int.tmod w0 100) + 100)) 100) + 1)), .int .i64 3, .int .i64 (Int.tmod (wr64 ((Int.tmod s1 7) + 7)) 7), .slice none 0 0, .slice none 0 0]) rfl rfl rfl rfl rfl rfl rfl rfl rfl ?_
    refine t_keep [0, 1, 2, 7, 8] (σ' := [(0, .int .i64 (wr64 ((Int.tmod (wr64 ((Int.tmod w0 100) + 100)) 100) + 1))), (1, .int .i64 (Int.tmod (wr64 ((Int.tmod s1 7) + 7)) 7)), (2, .int .i64 (Int.tmod v2 10000)), (7, .bool true), (8, .pointer (some ⟨b13, 0, none⟩))]) (by kernel_rfl) ?_
    refine t_end ?_
    show W _ _ _ _ _ _ _
    refine w_seq ?_
    refine w_reg fun all => ?_
    have c14 : ¬ (wru64 (Int.tmod (wr64 ((Int.tmod s1 7) + 7)) 7)) < 0 := by
      intro h_; rw [if_pos h_] at e; cases e
    rw [if_neg c14] at e
    refine t_qz 2 [0, 2, 7, 8, 28] (σ' := [(0, .int .i64 (wr64 ((Int.tmod (wr64 ((Int.tmod w0 100) + 100)) 100) + 1))), (2, .int .i64 (Int.tmod v2 10000)), (7, .bool true), (8, .pointer (some ⟨b13, 0, none⟩)), (28, .int .u64 (wru64 (Int.tmod (wr64 ((Int.tmod s1 7) + 7)) 7)))]) (by kernel_rfl) ?_
    refine t_v (.quiet rfl (qv_shr rfl rfl c14)) ?_
    refine t_qz 1 [0, 2, 7, 8, 9] (σ' := [(0, .int .i64 (wr64 ((Int.tmod (wr64 ((Int.tmod w0 100) + 100)) 100) + 1))), (2, .int .i64 (Int.tmod v2 10000)), (7, .bool true), (8, .pointer (some ⟨b13, 0, none⟩)), (9, .int .i64 (Int.fdiv 256 (2 ^ (min (Int.toNat (wru64 (Int.tmod (wr64 ((Int.tmod s1 7) + 7)) 7))) 64))))]) (by kernel_rfl) ?_
    refine t_end ?_
    show W _ _ _ _ _ _ _
    refine w_seq ?_
    obtain ⟨t15, h16, e⟩ := bind_of e
    by_cases c17 : t15 = (wr64 ((Int.tmod v2 10000) * (Int.fdiv 256 (2 ^ (min (Int.toNat (wru64 (Int.tmod (wr64 ((Int.tmod s1 7) + 7)) 7))) 64)))))
    · rw [if_pos c17] at e
      have c17b : (t15 == (wr64 ((Int.tmod v2 10000) * (Int.fdiv 256 (2 ^ (min (Int.toNat (wru64 (Int.tmod (wr64 ((Int.tmod s1 7) + 7)) 7))) 64)))))) = true := beq_iff_eq.mpr c17
      obtain ⟨t18, h19, e⟩ := bind_of e
      by_cases c20 : t18 = (wr64 ((wr64 (2 * (Int.tmod v2 10000))) * (Int.fdiv 256 (2 ^ (min (Int.toNat (wru64 (Int.tmod (wr64 ((Int.tmod s1 7) + 7)) 7))) 64)))))
      · rw [if_pos c20] at e
        have c20b : (t18 == (wr64 ((wr64 (2 * (Int.tmod v2 10000))) * (Int.fdiv 256 (2 ^ (min (Int.toNat (wru64 (Int.tmod (wr64 ((Int.tmod s1 7) + 7)) 7))) 64)))))) = true := beq_iff_eq.mpr c20
        obtain ⟨t21, h22, e⟩ := bind_of e
        by_cases c23 : t21 = 3
        · rw [if_pos c23] at e
          have c23b : (t21 == 3) = true := beq_iff_eq.mpr c23
          obtain ⟨t24, h25, e⟩ := bind_of e
          by_cases c26 : t24 = 6
          · rw [if_pos c26] at e
            have c26b : (t24 == 6) = true := beq_iff_eq.mpr c26
            obtain ⟨t27, h28, e⟩ := bind_of e
            have c29 : ¬ (wr64 ((Int.tmod (wr64 ((Int.tmod w0 100) + 100)) 100) + 1)) = 0 := by
              intro h_; rw [if_pos h_] at e; cases e
            rw [if_neg c29] at e
            refine w_drwE mixed 47 [.v (.bool true), .v (.bool true), .v (.agg #[.int .i64 (wr64 ((Int.tmod (wr64 ((Int.tmod w0 100) + 100)) 100) + 1)), .int .i64 3, .int .i64 (Int.tmod (wr64 ((Int.tmod s1 7) + 7)) 7), .slice none 0 0, .slice none 0 0]), .v (.int .i64 (wr64 ((Int.tmod (wr64 ((Int.tmod w0 100) + 100)) 100) + 1))), .v (.int .i64 (Int.tmod v2 10000)), .v (.int .i64 t15), .v (.int .i64 (Int.tmod v2 10000)), .v (.int .i64 (Int.fdiv 256 (2 ^ (min (Int.toNat (wru64 (Int.tmod (wr64 ((Int.tmod s1 7) + 7)) 7))) 64)))), .v (.int .i64 (wr64 ((Int.tmod v2 10000) * (Int.fdiv 256 (2 ^ (min (Int.toNat (wru64 (Int.tmod (wr64 ((Int.tmod s1 7) + 7)) 7))) 64)))))), .v (.bool true), .v (.bool true), .v (.bool true), .v (.agg #[.int .i64 (wr64 ((Int.tmod (wr64 ((Int.tmod w0 100) + 100)) 100) + 1)), .int .i64 3, .int .i64 (Int.tmod (wr64 ((Int.tmod s1 7) + 7)) 7), .slice none 0 0, .slice none 0 0]), .v (.int .i64 (wr64 ((Int.tmod (wr64 ((Int.tmod w0 100) + 100)) 100) + 1))), .v (.int .i64 (wr64 (2 * (wr64 ((Int.tmod (wr64 ((Int.tmod w0 100) + 100)) 100) + 1))))), .v (.int .i64 (Int.tmod v2 10000)), .v (.int .i64 t18), .v (.int .i64 (Int.tmod v2 10000)), .v (.int .i64 (wr64 (2 * (Int.tmod v2 10000)))), .v (.int .i64 (Int.fdiv 256 (2 ^ (min (Int.toNat (wru64 (Int.tmod (wr64 ((Int.tmod s1 7) + 7)) 7))) 64)))), .v (.int .i64 (wr64 ((wr64 (2 * (Int.tmod v2 10000))) * (Int.fdiv 256 (2 ^ (min (Int.toNat (wru64 (Int.tmod (wr64 ((Int.tmod s1 7) + 7)) 7))) 64)))))), .v (.bool true), .v (.bool true), .v (.bool true), .v (.agg #[.int .i64 (wr64 ((Int.tmod (wr64 ((Int.tmod w0 100) + 100)) 100) + 1)), .int .i64 3, .int .i64 (Int.tmod (wr64 ((Int.tmod s1 7) + 7)) 7), .slice none 0 0, .slice none 0 0]), .v (.int .i64 (wr64 ((Int.tmod (wr64 ((Int.tmod w0 100) + 100)) 100) + 1))), .v (.int .i64 t21), .v (.bool true), .v (.bool true), .v (.bool true), .v (.agg #[.int .i64 (wr64 ((Int.tmod (wr64 ((Int.tmod w0 100) + 100)) 100) + 1)), .int .i64 3, .int .i64 (Int.tmod (wr64 ((Int.tmod s1 7) + 7)) 7), .slice none 0 0, .slice none 0 0]), .v (.int .i64 (wr64 ((Int.tmod (wr64 ((Int.tmod w0 100) + 100)) 100) + 1))), .v (.int .i64 (wr64 (2 * (wr64 ((Int.tmod (wr64 ((Int.tmod w0 100) + 100)) 100) + 1))))), .v (.int .i64 t24), .v (.bool true), .v (.bool true), .v (.bool true), .v (.agg #[.int .i64 (wr64 ((Int.tmod (wr64 ((Int.tmod w0 100) + 100)) 100) + 1)), .int .i64 3, .int .i64 (Int.tmod (wr64 ((Int.tmod s1 7) + 7)) 7), .slice none 0 0, .slice none 0 0]), .v (.int .i64 t27), .v (.int .i64 (wr64 ((Int.tmod (wr64 ((Int.tmod w0 100) + 100)) 100) + 1))), .v (.int .i64 (wr64 (3 + (wr64 ((Int.tmod (wr64 ((Int.tmod w0 100) + 100)) 100) + 1))))), .v (.int .i64 (wr64 ((wr64 (3 + (wr64 ((Int.tmod (wr64 ((Int.tmod w0 100) + 100)) 100) + 1)))) - 1))), .v (.int .i64 (wr64 ((Int.tmod (wr64 ((Int.tmod w0 100) + 100)) 100) + 1))), .v (.int .i64 (wr64 (Int.tdiv (wr64 ((wr64 (3 + (wr64 ((Int.tmod (wr64 ((Int.tmod w0 100) + 100)) 100) + 1)))) - 1)) (wr64 ((Int.tmod (wr64 ((Int.tmod w0 100) + 100)) 100) + 1))))), .v (.bool (t27 == (wr64 (Int.tdiv (wr64 ((wr64 (3 + (wr64 ((Int.tmod (wr64 ((Int.tmod w0 100) + 100)) 100) + 1)))) - 1)) (wr64 ((Int.tmod (wr64 ((Int.tmod w0 100) + 100)) 100) + 1)))))), .v (.bool (t27 == (wr64 (Int.tdiv (wr64 ((wr64 (3 + (wr64 ((Int.tmod (wr64 ((Int.tmod w0 100) + 100)) 100) + 1)))) - 1)) (wr64 ((Int.tmod (wr64 ((Int.tmod w0 100) + 100)) 100) + 1)))))), .v (.bool (t27 == (wr64 (Int.tdiv (wr64 ((wr64 (3 + (wr64 ((Int.tmod (wr64 ((Int.tmod w0 100) + 100)) 100) + 1)))) - 1)) (wr64 ((Int.tmod (wr64 ((Int.tmod w0 100) + 100)) 100) + 1))))))] (by kernel_rfl) ?_ ?_
            · refine DI.sq 2 (by kernel_rfl) rfl ?_
              refine .cons (.ldn rfl rfl rfl (.at 0 rfl rfl)) ?_
              refine DI.sq 2 (by kernel_rfl) rfl ?_
              refine .cons (.call (vs := [.agg #[.int .i64 (wr64 ((Int.tmod (wr64 ((Int.tmod w0 100) + 100)) 100) + 1)), .int .i64 3, .int .i64 (Int.tmod (wr64 ((Int.tmod s1 7) + 7)) 7), .slice none 0 0, .slice none 0 0], .int .i64 (wr64 ((Int.tmod (wr64 ((Int.tmod w0 100) + 100)) 100) + 1)), .int .i64 (Int.tmod v2 10000)]) rfl rfl (by kernel_rfl) (scale_At_v2.ok hE_ h16)) ?_
              refine DI.sq 3 (by kernel_rfl) rfl ?_
              refine .cons (dv_quiet rfl (congrArg (fun t => some (Value.bool t)) c17b)) ?_
              refine DI.sq 2 (by kernel_rfl) rfl ?_
              refine .cons (.ldn rfl rfl rfl (.at 0 rfl rfl)) ?_
              refine DI.sq 3 (by kernel_rfl) rfl ?_
              refine .cons (.call (vs := [.agg #[.int .i64 (wr64 ((Int.tmod (wr64 ((Int.tmod w0 100) + 100)) 100) + 1)), .int .i64 3, .int .i64 (Int.tmod (wr64 ((Int.tmod s1 7) + 7)) 7), .slice none 0 0, .slice none 0 0], .int .i64 (wr64 (2 * (wr64 ((Int.tmod (wr64 ((Int.tmod w0 100) + 100)) 100) + 1)))), .int .i64 (Int.tmod v2 10000)]) rfl rfl (by kernel_rfl) (scale_At_v2.ok hE_ h19)) ?_
              refine DI.sq 4 (by kernel_rfl) rfl ?_
              refine .cons (dv_quiet rfl (congrArg (fun t => some (Value.bool t)) c20b)) ?_
              refine DI.sq 2 (by kernel_rfl) rfl ?_
              refine .cons (.ldn rfl rfl rfl (.at 0 rfl rfl)) ?_
              refine DI.sq 1 (by kernel_rfl) rfl ?_
              refine .cons (.call (vs := [.agg #[.int .i64 (wr64 ((Int.tmod (wr64 ((Int.tmod w0 100) + 100)) 100) + 1)), .int .i64 3, .int .i64 (Int.tmod (wr64 ((Int.tmod s1 7) + 7)) 7), .slice none 0 0, .slice none 0 0], .int .i64 (wr64 ((Int.tmod (wr64 ((Int.tmod w0 100) + 100)) 100) + 1))]) rfl rfl (by kernel_rfl) (scale_Height_v2.ok hE_ h22)) ?_
              refine .cons (dv_quiet rfl (congrArg (fun t => some (Value.bool t)) c23b)) ?_
              refine DI.sq 2 (by kernel_rfl) rfl ?_
              refine .cons (.ldn rfl rfl rfl (.at 0 rfl rfl)) ?_
              refine DI.sq 2 (by kernel_rfl) rfl ?_
              refine .cons (.call (vs := [.agg #[.int .i64 (wr64 ((Int.tmod (wr64 ((Int.tmod w0 100) + 100)) 100) + 1)), .int .i64 3, .int .i64 (Int.tmod (wr64 ((Int.tmod s1 7) + 7)) 7), .slice none 0 0, .slice none 0 0], .int .i64 (wr64 (2 * (wr64 ((Int.tmod (wr64 ((Int.tmod w0 100) + 100)) 100) + 1))))]) rfl rfl (by kernel_rfl) (scale_Height_v2.ok hE_ h25)) ?_
              refine .cons (dv_quiet rfl (congrArg (fun t => some (Value.bool t)) c26b)) ?_
              refine DI.sq 2 (by kernel_rfl) rfl ?_
              refine .cons (.ldn rfl rfl rfl (.at 0 rfl rfl)) ?_
              refine .cons (.call (vs := [.agg #[.int .i64 (wr64 ((Int.tmod (wr64 ((Int.tmod w0 100) + 100)) 100) + 1)), .int .i64 3, .int .i64 (Int.tmod (wr64 ((Int.tmod s1 7) + 7)) 7), .slice none 0 0, .slice none 0 0], .int .i64 1]) rfl rfl (by kernel_rfl) (scale_Height_v2.ok hE_ h28)) ?_
              refine DI.sq 4 (by kernel_rfl) rfl ?_
              refine .cons (.quiet rfl (qv_quo rfl rfl c29)) ?_
              refine DI.sq 3 (by kernel_rfl) rfl ?_
              exact .nil
            refine fk_q 47 [6] (σ' := [(6, .bool (t27 == (wr64 (Int.tdiv (wr64 ((wr64 (3 + (wr64 ((Int.tmod (wr64 ((Int.tmod w0 100) + 100)) 100) + 1)))) - 1)) (wr64 ((Int.tmod (wr64 ((Int.tmod w0 100) + 100)) 100) + 1))))))]) t_more (by kernel_rfl) ?_
            refine fk_nil fun all => ?_
            refine t_keep [6] (σ' := [(6, .bool (t27 == (wr64 (Int.tdiv (wr64 ((wr64 (3 + (wr64 ((Int.tmod (wr64 ((Int.tmod w0 100) + 100)) 100) + 1)))) - 1)) (wr64 ((Int.tmod (wr64 ((Int.tmod w0 100) + 100)) 100) + 1))))))]) (by kernel_rfl) ?_
            refine t_end ?_
            show W _ _ _ _ _ _ _
            refine w_ret ?_
            have hr_ := Option.some.inj e
            exact ⟨[.bool (t27 == (wr64 (Int.tdiv (wr64 ((wr64 (3 + (wr64 ((Int.tmod (wr64 ((Int.tmod w0 100) + 100)) 100) + 1)))) - 1)) (wr64 ((Int.tmod (wr64 ((Int.tmod w0 100) + 100)) 100) + 1)))))], [], S, ⟨rfl, trivial⟩, VS.none, congrArg Value.bool hr_, rfl, rfl⟩
          · rw [if_neg c26] at e
            exact absurd (Option.some.inj e) (by decide)
        · rw [if_neg c23] at e
          exact absurd (Option.some.inj e) (by decide)
      · rw [if_neg c20] at e
        exact absurd (Option.some.inj e) (by decide)
    · rw [if_neg c17] at e
      exact absurd (Option.some.inj e) (by decide)
  | false =>
    rw [if_neg (by decide)] at e
    exact absurd (Option.some.inj e) (by decide)

def glyphiclaw20_ScaleSteps.Pure : Prop := ∀ (w0 : Int) (s1 : Int) (v2 : Int), (Lit.int .i64 w0).wf = true → (Lit.int .i64 s1).wf = true → (Lit.int .i64 v2).wf = true → glyphiclaw20_ScaleSteps.f w0 s1 v2 = some true
theorem glyphiclaw20_ScaleSteps.walk (P : glyphiclaw20_ScaleSteps.Pure) (w0 : Int) (s1 : Int) (v2 : Int) (w : World) {S : Seal} (hS : HOK [] S w) {E_ : Int → Value} (hE_ : EO [0, 1] S E_) (hw0 : (Lit.int .i64 w0).wf = true) (hs1 : (Lit.int .i64 s1).wf = true) (hv2 : (Lit.int .i64 v2).wf = true) :
    Calls Tryd.prog 3 #[.int .i64 w0, .int .i64 s1, .int .i64 v2] w fun e w' => e = .returned (.bool true) ∧ Below w.heap.size w w' := law_w hS (glyphiclaw20_ScaleSteps.ok hE_ (P w0 s1 v2 hw0 hs1 hv2))
end Go.Proofs.YtiaigehjogpcaaaDoor.QScaleSteps
