/- Functions of the program as Lean functions, each with the proof of its walk. Written by gen.py, a program of these sessions. -/
import Derived.Test.YtpimfacaalkmdaaX
import Derived.Test.YtpimfacaalkmdaaProg
namespace Go.Proofs.Ytpimfacaalkmdaa.QPaintSays
open Go Go.RowKit Go.Proofs.YtpimfacaalkmdaaE Go.Proofs.YtpimfacaalkmdaaX
set_option linter.unusedVariables false
set_option maxRecDepth 100000
set_option maxHeartbeats 8000000
theorem mixed : Try.prog.follows .mixedOrders = true := by kernel_rfl

/-- paint.Part -/
def c55 : C :=
  (.seq (.reg [⟨(some 2), .box (.tmp 0), none⟩,
     ⟨(some 3), .box (.tmp 1), none⟩,
     ⟨(some 4), .mv (.const (.int .i64 0)), none⟩])
  (.seq (.seq (.reg [⟨(some 6), .pad 0 (.tmp 2), none⟩,
      ⟨(some 7), .ld none (.tmp 6), none⟩])
   (.block 0 (.seq (.reg [⟨(some 9), .bin .eql (.tmp 7) (.const (.int .i64 1)), none⟩,
       ⟨(some 8), .mv (.tmp 9), none⟩])
    (.cond (.tmp 8)
     (.seq (.reg [⟨(some 10), .ld (some 7) (.tmp 2), none⟩,
         ⟨(some 11), .ld (some 2) (.tmp 3), none⟩,
         ⟨(some 12), .call 88 [(.tmp 10), (.tmp 11)], none⟩,
         ⟨(some 4), .mv (.tmp 12), none⟩])
      .ret)
     (.seq (.reg [⟨(some 14), .bin .eql (.tmp 7) (.const (.int .i64 2)), none⟩,
         ⟨(some 13), .mv (.tmp 14), none⟩])
      (.cond (.tmp 13)
       (.seq (.seq (.reg [⟨(some 15), .pad 5 (.tmp 2), none⟩,
            ⟨(some 16), .pad 0 (.tmp 15), none⟩,
            ⟨(some 17), .ld none (.tmp 16), none⟩,
            ⟨(some 18), .bin .lss (.tmp 17) (.const (.int .i64 1)), none⟩])
         (.cond (.tmp 18)
          (.seq (.reg [⟨(some 4), .mv (.const (.int .i64 65536)), none⟩])
           .ret)
          .skip))
        (.seq (.reg [⟨(some 19), .pad 3 (.tmp 2), none⟩,
           ⟨(some 20), .ld (some 2) (.tmp 19), none⟩,
           ⟨(some 21), .ld (some 2) (.tmp 3), none⟩,
           ⟨(some 22), .call 90 [(.tmp 20), (.tmp 21)], none⟩,
           ⟨(some 23), .bin .mul (.tmp 22) (.const (.int .i64 256)), none⟩,
           ⟨(some 24), .call 89 [(.tmp 23)], none⟩,
           ⟨(some 5), .mv (.tmp 24), none⟩])
        (.seq (.reg [⟨(some 25), .mv (.tmp 5), none⟩,
           ⟨(some 26), .bin .mul (.const (.int .i64 4096)) (.tmp 25), none⟩,
           ⟨(some 27), .pad 5 (.tmp 2), none⟩,
           ⟨(some 28), .pad 0 (.tmp 27), none⟩,
           ⟨(some 29), .ld none (.tmp 28), none⟩,
           ⟨(some 30), .call 92 [(.tmp 26), (.tmp 29)], none⟩,
           ⟨(some 31), .call 91 [(.tmp 30), (.const (.int .i64 0)), (.const (.int .i64 65536))], none⟩,
           ⟨(some 4), .mv (.tmp 31), none⟩])
        .ret)))
       .skip))))))
  (.seq (.reg [⟨(some 4), .mv (.const (.int .i64 0)), none⟩])
  .ret)))
def paint_Part_v1.f  : Option (Unit) := some ()
theorem paint_Part_v1.ok {S : Seal}  (e : paint_Part_v1.f  = some ()) :
    Cal Try.prog 55 [.agg #[.int .i64 0, .int .i64 0, .int .i64 0, .int .i64 0, .int .i64 0, .int .i64 0, .int .i64 0], .agg #[.int .i64 5, .int .i64 0]] [] S fun v H' S' => v = .int .i64 0 ∧ H' = [] ∧ S' = S := by
  unfold paint_Part_v1.f at e
  refine cal_of (c := c55) (N := 32) Try.func55 rfl rfl (by kernel_rfl) (rs := [.t 4]) (by kernel_rfl) (Nat.le_of_ble_eq_true rfl) ?_
  unfold c55
  refine w_seq ?_
  refine w_reg fun all => ?_
  refine t_a (.box rfl rfl rfl) fun b5 fb5 sb5 => ?_
  refine t_a (.box rfl rfl rfl) fun b6 fb6 sb6 => ?_
  refine t_qz 1 [2, 3] (σ' := [(2, .pointer (some ⟨b5, 0, none⟩)), (3, .pointer (some ⟨b6, 0, none⟩))]) (by kernel_rfl) ?_
  refine t_end ?_
  show W _ _ _ _ _ _ _
  refine w_seq ?_
  refine w_seq ?_
  refine w_reg fun all => ?_
  refine t_qz 1 [2, 3, 6] (σ' := [(2, .pointer (some ⟨b5, 0, none⟩)), (3, .pointer (some ⟨b6, 0, none⟩)), (6, .pointer (some ⟨b5, 0, none⟩))]) (by kernel_rfl) ?_
  refine t_v (.ld1 rfl rfl rfl (.at 1 rfl rfl)) ?_
  refine t_keep [2, 3, 7] (σ' := [(2, .pointer (some ⟨b5, 0, none⟩)), (3, .pointer (some ⟨b6, 0, none⟩)), (7, .int .i64 0)]) (by kernel_rfl) ?_
  refine t_end ?_
  show W _ _ _ _ _ _ _
  refine w_block ?_
  refine w_seq ?_
  refine w_reg fun all => ?_
  refine t_qz 2 [2, 3, 7, 8] (σ' := [(2, .pointer (some ⟨b5, 0, none⟩)), (3, .pointer (some ⟨b6, 0, none⟩)), (7, .int .i64 0), (8, .bool false)]) (by kernel_rfl) ?_
  refine t_end ?_
  show W _ _ _ _ _ _ _
  refine w_cond rfl (fun c_ => by cases c_) (fun _ => ?_)
  show W _ _ _ _ _ _ _
  refine w_seq ?_
  refine w_reg fun all => ?_
  refine t_qz 2 [2, 3, 13] (σ' := [(2, .pointer (some ⟨b5, 0, none⟩)), (3, .pointer (some ⟨b6, 0, none⟩)), (13, .bool false)]) (by kernel_rfl) ?_
  refine t_end ?_
  show W _ _ _ _ _ _ _
  refine w_cond rfl (fun c_ => by cases c_) (fun _ => ?_)
  show W _ _ _ _ _ _ _
  refine w_skip ?_
  show W _ _ _ _ _ _ _
  refine w_seq ?_
  refine w_reg fun all => ?_
  refine t_qz 1 [4] (σ' := [(4, .int .i64 0)]) (by kernel_rfl) ?_
  refine t_end ?_
  show W _ _ _ _ _ _ _
  refine w_ret ?_
  exact ⟨[.int .i64 0], [], S, ⟨rfl, trivial⟩, VS.none, rfl, rfl, rfl⟩

/-- color.Wide -/
def c96 : C :=
  (.seq (.reg [⟨(some 1), .box (.tmp 0), none⟩,
     ⟨(some 2), .new [(.int .i64 0), (.int .i64 0), (.int .i64 0), (.int .i64 0)], none⟩])
  (.seq (.reg [⟨(some 3), .pad 0 (.tmp 1), none⟩,
     ⟨(some 4), .ld none (.tmp 3), none⟩,
     ⟨(some 5), .cnv .i64 (.tmp 4), none⟩,
     ⟨(some 6), .bin .mul (.const (.int .i64 257)) (.tmp 5), none⟩,
     ⟨(some 7), .pad 1 (.tmp 1), none⟩,
     ⟨(some 8), .ld none (.tmp 7), none⟩,
     ⟨(some 9), .cnv .i64 (.tmp 8), none⟩,
     ⟨(some 10), .bin .mul (.const (.int .i64 257)) (.tmp 9), none⟩,
     ⟨(some 11), .pad 2 (.tmp 1), none⟩,
     ⟨(some 12), .ld none (.tmp 11), none⟩,
     ⟨(some 13), .cnv .i64 (.tmp 12), none⟩,
     ⟨(some 14), .bin .mul (.const (.int .i64 257)) (.tmp 13), none⟩,
     ⟨(some 15), .pad 3 (.tmp 1), none⟩,
     ⟨(some 16), .ld none (.tmp 15), none⟩,
     ⟨(some 17), .cnv .i64 (.tmp 16), none⟩,
     ⟨(some 18), .bin .mul (.const (.int .i64 257)) (.tmp 17), none⟩,
     ⟨(some 19), .bld [(.int .i64 0), (.int .i64 0), (.int .i64 0), (.int .i64 0)] [(0, 1, (.tmp 6)), (1, 1, (.tmp 10)), (2, 1, (.tmp 14)), (3, 1, (.tmp 18))], none⟩,
     ⟨none, .st 4 (.tmp 2) (.tmp 19), none⟩])
  .ret))
def color_Wide_v1.f  : Option (Unit) := some ()
theorem color_Wide_v1.ok {S : Seal}  (e : color_Wide_v1.f  = some ()) :
    Cal Try.prog 96 [.agg #[.int .u8 1, .int .u8 0, .int .u8 0, .int .u8 0]] [] S fun v H' S' => v = .agg #[.int .i64 257, .int .i64 0, .int .i64 0, .int .i64 0] ∧ H' = [] ∧ S' = S := by
  unfold color_Wide_v1.f at e
  refine cal_of (c := c96) (N := 20) Try.func96 rfl rfl (by kernel_rfl) (rs := [.cn 4 2]) (by kernel_rfl) (Nat.le_of_ble_eq_true rfl) ?_
  unfold c96
  refine w_seq ?_
  refine w_reg fun all => ?_
  refine t_a (.box rfl rfl rfl) fun b11 fb11 sb11 => ?_
  refine t_a (.new rfl rfl) fun b12 fb12 sb12 => ?_
  refine t_keep [1, 2] (σ' := [(1, .pointer (some ⟨b11, 0, none⟩)), (2, .pointer (some ⟨b12, 0, none⟩))]) (by kernel_rfl) ?_
  refine t_end ?_
  show W _ _ _ _ _ _ _
  refine w_seq ?_
  refine w_reg fun all => ?_
  refine t_qz 1 [1, 2, 3] (σ' := [(1, .pointer (some ⟨b11, 0, none⟩)), (2, .pointer (some ⟨b12, 0, none⟩)), (3, .pointer (some ⟨b11, 0, none⟩))]) (by kernel_rfl) ?_
  refine t_v (.ld1 rfl rfl rfl (.at 1 rfl rfl)) ?_
  refine t_qz 3 [1, 2, 6, 7] (σ' := [(1, .pointer (some ⟨b11, 0, none⟩)), (2, .pointer (some ⟨b12, 0, none⟩)), (6, .int .i64 257), (7, .pointer (some ⟨b11, 1, none⟩))]) (by kernel_rfl) ?_
  refine t_v (.ld1 rfl rfl rfl (.at 1 rfl rfl)) ?_
  refine t_qz 3 [1, 2, 6, 10, 11] (σ' := [(1, .pointer (some ⟨b11, 0, none⟩)), (2, .pointer (some ⟨b12, 0, none⟩)), (6, .int .i64 257), (10, .int .i64 0), (11, .pointer (some ⟨b11, 2, none⟩))]) (by kernel_rfl) ?_
  refine t_v (.ld1 rfl rfl rfl (.at 1 rfl rfl)) ?_
  refine t_qz 3 [2, 6, 10, 14, 15] (σ' := [(2, .pointer (some ⟨b12, 0, none⟩)), (6, .int .i64 257), (10, .int .i64 0), (14, .int .i64 0), (15, .pointer (some ⟨b11, 3, none⟩))]) (by kernel_rfl) ?_
  refine t_v (.ld1 rfl rfl rfl (.at 1 rfl rfl)) ?_
  refine t_qz 3 [2, 19] (σ' := [(2, .pointer (some ⟨b12, 0, none⟩)), (19, .agg #[.int .i64 257, .int .i64 0, .int .i64 0, .int .i64 0])]) (by kernel_rfl) ?_
  refine t_sti 0 (cs := [.int .i64 257, .int .i64 0, .int .i64 0, .int .i64 0]) rfl rfl rfl rfl rfl rfl rfl rfl rfl ?_
  refine t_keep [2] (σ' := [(2, .pointer (some ⟨b12, 0, none⟩))]) (by kernel_rfl) ?_
  refine t_end ?_
  show W _ _ _ _ _ _ _
  refine w_ret ?_
  exact ⟨[.agg #[.int .i64 257, .int .i64 0, .int .i64 0, .int .i64 0]], [], S, ⟨⟨_, _, _, rfl, .at 0 rfl rfl, rfl⟩, trivial⟩, VS.none, rfl, rfl, rfl⟩

def color_Wide_v2.f  : Option (Unit) := some ()
theorem color_Wide_v2.ok {S : Seal}  (e : color_Wide_v2.f  = some ()) :
    Cal Try.prog 96 [.agg #[.int .u8 0, .int .u8 0, .int .u8 0, .int .u8 0]] [] S fun v H' S' => v = .agg #[.int .i64 0, .int .i64 0, .int .i64 0, .int .i64 0] ∧ H' = [] ∧ S' = S := by
  unfold color_Wide_v2.f at e
  refine cal_of (c := c96) (N := 20) Try.func96 rfl rfl (by kernel_rfl) (rs := [.cn 4 2]) (by kernel_rfl) (Nat.le_of_ble_eq_true rfl) ?_
  unfold c96
  refine w_seq ?_
  refine w_reg fun all => ?_
  refine t_a (.box rfl rfl rfl) fun b14 fb14 sb14 => ?_
  refine t_a (.new rfl rfl) fun b15 fb15 sb15 => ?_
  refine t_keep [1, 2] (σ' := [(1, .pointer (some ⟨b14, 0, none⟩)), (2, .pointer (some ⟨b15, 0, none⟩))]) (by kernel_rfl) ?_
  refine t_end ?_
  show W _ _ _ _ _ _ _
  refine w_seq ?_
  refine w_reg fun all => ?_
  refine t_qz 1 [1, 2, 3] (σ' := [(1, .pointer (some ⟨b14, 0, none⟩)), (2, .pointer (some ⟨b15, 0, none⟩)), (3, .pointer (some ⟨b14, 0, none⟩))]) (by kernel_rfl) ?_
  refine t_v (.ld1 rfl rfl rfl (.at 1 rfl rfl)) ?_
  refine t_qz 3 [1, 2, 6, 7] (σ' := [(1, .pointer (some ⟨b14, 0, none⟩)), (2, .pointer (some ⟨b15, 0, none⟩)), (6, .int .i64 0), (7, .pointer (some ⟨b14, 1, none⟩))]) (by kernel_rfl) ?_
  refine t_v (.ld1 rfl rfl rfl (.at 1 rfl rfl)) ?_
  refine t_qz 3 [1, 2, 6, 10, 11] (σ' := [(1, .pointer (some ⟨b14, 0, none⟩)), (2, .pointer (some ⟨b15, 0, none⟩)), (6, .int .i64 0), (10, .int .i64 0), (11, .pointer (some ⟨b14, 2, none⟩))]) (by kernel_rfl) ?_
  refine t_v (.ld1 rfl rfl rfl (.at 1 rfl rfl)) ?_
  refine t_qz 3 [2, 6, 10, 14, 15] (σ' := [(2, .pointer (some ⟨b15, 0, none⟩)), (6, .int .i64 0), (10, .int .i64 0), (14, .int .i64 0), (15, .pointer (some ⟨b14, 3, none⟩))]) (by kernel_rfl) ?_
  refine t_v (.ld1 rfl rfl rfl (.at 1 rfl rfl)) ?_
  refine t_qz 3 [2, 19] (σ' := [(2, .pointer (some ⟨b15, 0, none⟩)), (19, .agg #[.int .i64 0, .int .i64 0, .int .i64 0, .int .i64 0])]) (by kernel_rfl) ?_
  refine t_sti 0 (cs := [.int .i64 0, .int .i64 0, .int .i64 0, .int .i64 0]) rfl rfl rfl rfl rfl rfl rfl rfl rfl ?_
  refine t_keep [2] (σ' := [(2, .pointer (some ⟨b15, 0, none⟩))]) (by kernel_rfl) ?_
  refine t_end ?_
  show W _ _ _ _ _ _ _
  refine w_ret ?_
  exact ⟨[.agg #[.int .i64 0, .int .i64 0, .int .i64 0, .int .i64 0]], [], S, ⟨⟨_, _, _, rfl, .at 0 rfl rfl, rfl⟩, trivial⟩, VS.none, rfl, rfl, rfl⟩

/-- fixed.Down -/
def c113 : C :=
  (.seq (.reg [⟨(some 4), .mv (.const (.int .i64 0)), none⟩])
  (.seq (.seq (.reg [⟨(some 6), .mv (.tmp 1), none⟩,
      ⟨(some 7), .bin .lss (.tmp 6) (.const (.int .i64 1)), none⟩])
   (.cond (.tmp 7)
    (.seq (.reg [⟨(some 4), .mv (.const (.int .i64 0)), none⟩])
     .ret)
    .skip))
  (.seq (.reg [⟨(some 8), .mv (.tmp 0), none⟩,
     ⟨(some 9), .mv (.tmp 1), none⟩,
     ⟨(some 10), .bin .quo (.tmp 8) (.tmp 9), none⟩,
     ⟨(some 5), .mv (.tmp 10), none⟩])
  (.seq (.seq (.reg [⟨(some 11), .mv (.tmp 0), none⟩,
      ⟨(some 12), .mv (.tmp 1), none⟩,
      ⟨(some 13), .bin .rem (.tmp 11) (.tmp 12), none⟩,
      ⟨(some 14), .bin .lss (.tmp 13) (.const (.int .i64 0)), none⟩])
   (.cond (.tmp 14)
    (.reg [⟨(some 15), .mv (.tmp 5), none⟩,
       ⟨(some 16), .bin .sub (.tmp 15) (.const (.int .i64 1)), none⟩,
       ⟨(some 5), .mv (.tmp 16), none⟩])
    .skip))
  (.seq (.reg [⟨(some 17), .mv (.tmp 5), none⟩,
     ⟨(some 4), .mv (.tmp 17), none⟩])
  .ret)))))
def fixed_Down_v1.f  : Option (Unit) := some ()
theorem fixed_Down_v1.ok {S : Seal}  (e : fixed_Down_v1.f  = some ()) :
    Cal Try.prog 113 [.int .i64 16842752, .int .i64 65536] [] S fun v H' S' => v = .int .i64 257 ∧ H' = [] ∧ S' = S := by
  unfold fixed_Down_v1.f at e
  refine cal_of (c := c113) (N := 18) Try.func113 rfl rfl (by kernel_rfl) (rs := [.t 4]) (by kernel_rfl) (Nat.le_of_ble_eq_true rfl) ?_
  unfold c113
  refine w_seq ?_
  refine w_reg fun all => ?_
  refine t_qz 1 [0, 1] (σ' := [(0, .int .i64 16842752), (1, .int .i64 65536)]) (by kernel_rfl) ?_
  refine t_end ?_
  show W _ _ _ _ _ _ _
  refine w_seq ?_
  refine w_seq ?_
  refine w_reg fun all => ?_
  refine t_qz 2 [0, 1, 7] (σ' := [(0, .int .i64 16842752), (1, .int .i64 65536), (7, .bool false)]) (by kernel_rfl) ?_
  refine t_end ?_
  show W _ _ _ _ _ _ _
  refine w_cond rfl (fun c_ => by cases c_) (fun _ => ?_)
  show W _ _ _ _ _ _ _
  refine w_skip ?_
  show W _ _ _ _ _ _ _
  refine w_seq ?_
  refine w_reg fun all => ?_
  refine t_qz 4 [0, 1, 5] (σ' := [(0, .int .i64 16842752), (1, .int .i64 65536), (5, .int .i64 257)]) (by kernel_rfl) ?_
  refine t_end ?_
  show W _ _ _ _ _ _ _
  refine w_seq ?_
  refine w_seq ?_
  refine w_reg fun all => ?_
  refine t_qz 4 [5, 14] (σ' := [(5, .int .i64 257), (14, .bool false)]) (by kernel_rfl) ?_
  refine t_end ?_
  show W _ _ _ _ _ _ _
  refine w_cond rfl (fun c_ => by cases c_) (fun _ => ?_)
  show W _ _ _ _ _ _ _
  refine w_skip ?_
  show W _ _ _ _ _ _ _
  refine w_seq ?_
  refine w_reg fun all => ?_
  refine t_qz 2 [4] (σ' := [(4, .int .i64 257)]) (by kernel_rfl) ?_
  refine t_end ?_
  show W _ _ _ _ _ _ _
  refine w_ret ?_
  exact ⟨[.int .i64 257], [], S, ⟨rfl, trivial⟩, VS.none, rfl, rfl, rfl⟩

/-- fixed.Round -/
def c92 : C :=
  (.seq (.reg [⟨(some 4), .mv (.const (.int .i64 0)), none⟩])
  (.seq (.seq (.reg [⟨(some 7), .mv (.tmp 1), none⟩,
      ⟨(some 8), .bin .lss (.tmp 7) (.const (.int .i64 1)), none⟩])
   (.cond (.tmp 8)
    (.seq (.reg [⟨(some 4), .mv (.const (.int .i64 0)), none⟩])
     .ret)
    .skip))
  (.seq (.reg [⟨(some 9), .mv (.tmp 0), none⟩,
     ⟨(some 10), .mv (.tmp 1), none⟩,
     ⟨(some 11), .call 113 [(.tmp 9), (.tmp 10)], none⟩,
     ⟨(some 5), .mv (.tmp 11), none⟩])
  (.seq (.seq (.reg [⟨(some 12), .mv (.tmp 0), none⟩,
      ⟨(some 13), .mv (.tmp 5), none⟩,
      ⟨(some 14), .mv (.tmp 1), none⟩,
      ⟨(some 15), .bin .mul (.tmp 13) (.tmp 14), none⟩,
      ⟨(some 16), .bin .sub (.tmp 12) (.tmp 15), none⟩,
      ⟨(some 6), .mv (.tmp 16), none⟩])
   (.seq (.reg [⟨(some 17), .mv (.tmp 6), none⟩,
      ⟨(some 18), .mv (.tmp 1), none⟩,
      ⟨(some 19), .mv (.tmp 6), none⟩,
      ⟨(some 20), .bin .sub (.tmp 18) (.tmp 19), none⟩,
      ⟨(some 21), .bin .geq (.tmp 17) (.tmp 20), none⟩])
   (.cond (.tmp 21)
    (.reg [⟨(some 22), .mv (.tmp 5), none⟩,
       ⟨(some 23), .bin .add (.tmp 22) (.const (.int .i64 1)), none⟩,
       ⟨(some 5), .mv (.tmp 23), none⟩])
    .skip)))
  (.seq (.reg [⟨(some 24), .mv (.tmp 5), none⟩,
     ⟨(some 4), .mv (.tmp 24), none⟩])
  .ret)))))
def fixed_Round_v1.f  : Option (Unit) := (fixed_Down_v1.f).bind fun _ => (some ())
theorem fixed_Round_v1.ok {S : Seal}  (e : fixed_Round_v1.f  = some ()) :
    Cal Try.prog 92 [.int .i64 16842752, .int .i64 65536] [] S fun v H' S' => v = .int .i64 257 ∧ H' = [] ∧ S' = S := by
  unfold fixed_Round_v1.f at e
  refine cal_of (c := c92) (N := 25) Try.func92 rfl rfl (by kernel_rfl) (rs := [.t 4]) (by kernel_rfl) (Nat.le_of_ble_eq_true rfl) ?_
  unfold c92
  refine w_seq ?_
  refine w_reg fun all => ?_
  refine t_qz 1 [0, 1] (σ' := [(0, .int .i64 16842752), (1, .int .i64 65536)]) (by kernel_rfl) ?_
  refine t_end ?_
  show W _ _ _ _ _ _ _
  refine w_seq ?_
  refine w_seq ?_
  refine w_reg fun all => ?_
  refine t_qz 2 [0, 1, 8] (σ' := [(0, .int .i64 16842752), (1, .int .i64 65536), (8, .bool false)]) (by kernel_rfl) ?_
  refine t_end ?_
  show W _ _ _ _ _ _ _
  refine w_cond rfl (fun c_ => by cases c_) (fun _ => ?_)
  show W _ _ _ _ _ _ _
  refine w_skip ?_
  show W _ _ _ _ _ _ _
  refine w_seq ?_
  refine w_reg fun all => ?_
  obtain ⟨u_, h16, e⟩ := bind_of e
  refine t_qz 2 [0, 1, 9, 10] (σ' := [(0, .int .i64 16842752), (1, .int .i64 65536), (9, .int .i64 16842752), (10, .int .i64 65536)]) (by kernel_rfl) ?_
  refine t_v (.call (vs := [.int .i64 16842752, .int .i64 65536]) rfl rfl (by kernel_rfl) (fixed_Down_v1.ok h16)) ?_
  refine t_qz 1 [0, 1, 5] (σ' := [(0, .int .i64 16842752), (1, .int .i64 65536), (5, .int .i64 257)]) (by kernel_rfl) ?_
  refine t_end ?_
  show W _ _ _ _ _ _ _
  refine w_seq ?_
  refine w_seq ?_
  refine w_reg fun all => ?_
  refine t_qz 6 [1, 5, 6] (σ' := [(1, .int .i64 65536), (5, .int .i64 257), (6, .int .i64 0)]) (by kernel_rfl) ?_
  refine t_end ?_
  show W _ _ _ _ _ _ _
  refine w_seq ?_
  refine w_reg fun all => ?_
  refine t_qz 5 [5, 21] (σ' := [(5, .int .i64 257), (21, .bool false)]) (by kernel_rfl) ?_
  refine t_end ?_
  show W _ _ _ _ _ _ _
  refine w_cond rfl (fun c_ => by cases c_) (fun _ => ?_)
  show W _ _ _ _ _ _ _
  refine w_skip ?_
  show W _ _ _ _ _ _ _
  refine w_seq ?_
  refine w_reg fun all => ?_
  refine t_qz 2 [4] (σ' := [(4, .int .i64 257)]) (by kernel_rfl) ?_
  refine t_end ?_
  show W _ _ _ _ _ _ _
  refine w_ret ?_
  exact ⟨[.int .i64 257], [], S, ⟨rfl, trivial⟩, VS.none, rfl, rfl, rfl⟩

def fixed_Down_v2.f  : Option (Unit) := some ()
theorem fixed_Down_v2.ok {S : Seal}  (e : fixed_Down_v2.f  = some ()) :
    Cal Try.prog 113 [.int .i64 0, .int .i64 65536] [] S fun v H' S' => v = .int .i64 0 ∧ H' = [] ∧ S' = S := by
  unfold fixed_Down_v2.f at e
  refine cal_of (c := c113) (N := 18) Try.func113 rfl rfl (by kernel_rfl) (rs := [.t 4]) (by kernel_rfl) (Nat.le_of_ble_eq_true rfl) ?_
  unfold c113
  refine w_seq ?_
  refine w_reg fun all => ?_
  refine t_qz 1 [0, 1] (σ' := [(0, .int .i64 0), (1, .int .i64 65536)]) (by kernel_rfl) ?_
  refine t_end ?_
  show W _ _ _ _ _ _ _
  refine w_seq ?_
  refine w_seq ?_
  refine w_reg fun all => ?_
  refine t_qz 2 [0, 1, 7] (σ' := [(0, .int .i64 0), (1, .int .i64 65536), (7, .bool false)]) (by kernel_rfl) ?_
  refine t_end ?_
  show W _ _ _ _ _ _ _
  refine w_cond rfl (fun c_ => by cases c_) (fun _ => ?_)
  show W _ _ _ _ _ _ _
  refine w_skip ?_
  show W _ _ _ _ _ _ _
  refine w_seq ?_
  refine w_reg fun all => ?_
  refine t_qz 4 [0, 1, 5] (σ' := [(0, .int .i64 0), (1, .int .i64 65536), (5, .int .i64 0)]) (by kernel_rfl) ?_
  refine t_end ?_
  show W _ _ _ _ _ _ _
  refine w_seq ?_
  refine w_seq ?_
  refine w_reg fun all => ?_
  refine t_qz 4 [5, 14] (σ' := [(5, .int .i64 0), (14, .bool false)]) (by kernel_rfl) ?_
  refine t_end ?_
  show W _ _ _ _ _ _ _
  refine w_cond rfl (fun c_ => by cases c_) (fun _ => ?_)
  show W _ _ _ _ _ _ _
  refine w_skip ?_
  show W _ _ _ _ _ _ _
  refine w_seq ?_
  refine w_reg fun all => ?_
  refine t_qz 2 [4] (σ' := [(4, .int .i64 0)]) (by kernel_rfl) ?_
  refine t_end ?_
  show W _ _ _ _ _ _ _
  refine w_ret ?_
  exact ⟨[.int .i64 0], [], S, ⟨rfl, trivial⟩, VS.none, rfl, rfl, rfl⟩

def fixed_Round_v2.f  : Option (Unit) := (fixed_Down_v2.f).bind fun _ => (some ())
theorem fixed_Round_v2.ok {S : Seal}  (e : fixed_Round_v2.f  = some ()) :
    Cal Try.prog 92 [.int .i64 0, .int .i64 65536] [] S fun v H' S' => v = .int .i64 0 ∧ H' = [] ∧ S' = S := by
  unfold fixed_Round_v2.f at e
  refine cal_of (c := c92) (N := 25) Try.func92 rfl rfl (by kernel_rfl) (rs := [.t 4]) (by kernel_rfl) (Nat.le_of_ble_eq_true rfl) ?_
  unfold c92
  refine w_seq ?_
  refine w_reg fun all => ?_
  refine t_qz 1 [0, 1] (σ' := [(0, .int .i64 0), (1, .int .i64 65536)]) (by kernel_rfl) ?_
  refine t_end ?_
  show W _ _ _ _ _ _ _
  refine w_seq ?_
  refine w_seq ?_
  refine w_reg fun all => ?_
  refine t_qz 2 [0, 1, 8] (σ' := [(0, .int .i64 0), (1, .int .i64 65536), (8, .bool false)]) (by kernel_rfl) ?_
  refine t_end ?_
  show W _ _ _ _ _ _ _
  refine w_cond rfl (fun c_ => by cases c_) (fun _ => ?_)
  show W _ _ _ _ _ _ _
  refine w_skip ?_
  show W _ _ _ _ _ _ _
  refine w_seq ?_
  refine w_reg fun all => ?_
  obtain ⟨u_, h17, e⟩ := bind_of e
  refine t_qz 2 [0, 1, 9, 10] (σ' := [(0, .int .i64 0), (1, .int .i64 65536), (9, .int .i64 0), (10, .int .i64 65536)]) (by kernel_rfl) ?_
  refine t_v (.call (vs := [.int .i64 0, .int .i64 65536]) rfl rfl (by kernel_rfl) (fixed_Down_v2.ok h17)) ?_
  refine t_qz 1 [0, 1, 5] (σ' := [(0, .int .i64 0), (1, .int .i64 65536), (5, .int .i64 0)]) (by kernel_rfl) ?_
  refine t_end ?_
  show W _ _ _ _ _ _ _
  refine w_seq ?_
  refine w_seq ?_
  refine w_reg fun all => ?_
  refine t_qz 6 [1, 5, 6] (σ' := [(1, .int .i64 65536), (5, .int .i64 0), (6, .int .i64 0)]) (by kernel_rfl) ?_
  refine t_end ?_
  show W _ _ _ _ _ _ _
  refine w_seq ?_
  refine w_reg fun all => ?_
  refine t_qz 5 [5, 21] (σ' := [(5, .int .i64 0), (21, .bool false)]) (by kernel_rfl) ?_
  refine t_end ?_
  show W _ _ _ _ _ _ _
  refine w_cond rfl (fun c_ => by cases c_) (fun _ => ?_)
  show W _ _ _ _ _ _ _
  refine w_skip ?_
  show W _ _ _ _ _ _ _
  refine w_seq ?_
  refine w_reg fun all => ?_
  refine t_qz 2 [4] (σ' := [(4, .int .i64 0)]) (by kernel_rfl) ?_
  refine t_end ?_
  show W _ _ _ _ _ _ _
  refine w_ret ?_
  exact ⟨[.int .i64 0], [], S, ⟨rfl, trivial⟩, VS.none, rfl, rfl, rfl⟩

/-- paint.Mix -/
def c57 : C :=
  (.seq (.reg [⟨(some 3), .box (.tmp 0), none⟩,
     ⟨(some 4), .box (.tmp 1), none⟩,
     ⟨(some 6), .new [(.int .i64 0), (.int .i64 0), (.int .i64 0), (.int .i64 0)], none⟩])
  (.seq (.drw [⟨(some 11), .ld (some 4) (.tmp 3), none⟩,
     ⟨(some 12), .call 96 [(.tmp 11)], none⟩,
     ⟨(some 13), .ld (some 4) (.tmp 4), none⟩,
     ⟨(some 14), .call 96 [(.tmp 13)], none⟩,
     ⟨(some 7), .new [(.int .i64 0), (.int .i64 0), (.int .i64 0), (.int .i64 0)], none⟩,
     ⟨(some 8), .new [(.int .i64 0), (.int .i64 0), (.int .i64 0), (.int .i64 0)], none⟩,
     ⟨none, .st 4 (.tmp 7) (.tmp 12), none⟩,
     ⟨none, .st 4 (.tmp 8) (.tmp 14), none⟩] [[], [0], [], [2, 1], [], [], [4, 1, 3, 0, 1, 4, 5], [5, 3, 6, 0, 1, 2, 3, 4, 5, 6]])
  (.seq (.reg [⟨(some 9), .new [(.int .i64 0), (.int .i64 0), (.int .i64 0), (.int .i64 0)], none⟩])
  (.seq (.seq (.reg [⟨(some 15), .mv (.const (.int .i64 0)), none⟩])
   (.block 0 (.loop (.seq (.reg [⟨(some 16), .bin .lss (.tmp 15) (.const (.int .i64 4)), none⟩])
     (.seq (.cond (.tmp 16)
       .skip
       (.exit 0))
     (.seq (.block 1 (.seq (.reg [⟨(some 17), .mv (.tmp 15), none⟩,
          ⟨(some 10), .mv (.tmp 17), none⟩])
       (.drw [⟨(some 18), .mv (.tmp 10), none⟩,
         ⟨(some 19), .mv (.tmp 10), none⟩,
         ⟨(some 20), .ixa 1 4 (.tmp 7) (.tmp 19), none⟩,
         ⟨(some 21), .ld none (.tmp 20), none⟩,
         ⟨(some 22), .mv (.tmp 2), none⟩,
         ⟨(some 23), .bin .sub (.const (.int .i64 65536)) (.tmp 22), none⟩,
         ⟨(some 24), .bin .mul (.tmp 21) (.tmp 23), none⟩,
         ⟨(some 25), .mv (.tmp 10), none⟩,
         ⟨(some 26), .ixa 1 4 (.tmp 8) (.tmp 25), none⟩,
         ⟨(some 27), .ld none (.tmp 26), none⟩,
         ⟨(some 28), .mv (.tmp 2), none⟩,
         ⟨(some 29), .bin .mul (.tmp 27) (.tmp 28), none⟩,
         ⟨(some 30), .bin .add (.tmp 24) (.tmp 29), none⟩,
         ⟨(some 31), .call 92 [(.tmp 30), (.const (.int .i64 65536))], none⟩,
         ⟨(some 32), .ixa 1 4 (.tmp 9) (.tmp 18), none⟩,
         ⟨none, .st 1 (.tmp 32) (.tmp 31), none⟩] [[], [], [1], [2], [], [4], [3, 5], [], [7], [8], [], [9, 10], [6, 11], [12], [0, 0, 1, 2, 3, 4, 5, 6, 7, 8, 9, 10, 11, 12, 13], [14, 13, 13, 0, 1, 2, 3, 4, 5, 6, 7, 8, 9, 10, 11, 12, 13]])))
     (.reg [⟨(some 33), .bin .add (.tmp 15) (.const (.int .i64 1)), none⟩,
       ⟨(some 15), .mv (.tmp 33), none⟩])))))))
  (.seq (.reg [⟨(some 34), .ld (some 4) (.tmp 9), none⟩,
     ⟨none, .st 4 (.tmp 6) (.tmp 34), none⟩])
  .ret)))))
def paint_Mix_v1.f  : Option (Unit) := (color_Wide_v1.f).bind fun _ => ((color_Wide_v2.f).bind fun _ => ((fixed_Round_v1.f).bind fun _ => ((fixed_Round_v2.f).bind fun _ => ((fixed_Round_v2.f).bind fun _ => ((fixed_Round_v2.f).bind fun _ => (some ()))))))
theorem paint_Mix_v1.ok {S : Seal}  (e : paint_Mix_v1.f  = some ()) :
    Cal Try.prog 57 [.agg #[.int .u8 1, .int .u8 0, .int .u8 0, .int .u8 0], .agg #[.int .u8 0, .int .u8 0, .int .u8 0, .int .u8 0], .int .i64 0] [] S fun v H' S' => v = .agg #[.int .i64 257, .int .i64 0, .int .i64 0, .int .i64 0] ∧ H' = [] ∧ S' = S := by
  unfold paint_Mix_v1.f at e
  refine cal_of (c := c57) (N := 35) Try.func57 rfl rfl (by kernel_rfl) (rs := [.cn 4 6]) (by kernel_rfl) (Nat.le_of_ble_eq_true rfl) ?_
  unfold c57
  refine w_seq ?_
  refine w_reg fun all => ?_
  refine t_a (.box rfl rfl rfl) fun b8 fb8 sb8 => ?_
  refine t_a (.box rfl rfl rfl) fun b9 fb9 sb9 => ?_
  refine t_a (.new rfl rfl) fun b10 fb10 sb10 => ?_
  refine t_keep [2, 3, 4, 6] (σ' := [(2, .int .i64 0), (3, .pointer (some ⟨b8, 0, none⟩)), (4, .pointer (some ⟨b9, 0, none⟩)), (6, .pointer (some ⟨b10, 0, none⟩))]) (by kernel_rfl) ?_
  refine t_end ?_
  show W _ _ _ _ _ _ _
  refine w_seq ?_
  obtain ⟨u_, h11, e⟩ := bind_of e
  obtain ⟨u_, h12, e⟩ := bind_of e
  refine w_drwE mixed 6 [.v (.agg #[.int .u8 1, .int .u8 0, .int .u8 0, .int .u8 0]), .v (.agg #[.int .i64 257, .int .i64 0, .int .i64 0, .int .i64 0]), .v (.agg #[.int .u8 0, .int .u8 0, .int .u8 0, .int .u8 0]), .v (.agg #[.int .i64 0, .int .i64 0, .int .i64 0, .int .i64 0]), .a [.int .i64 0, .int .i64 0, .int .i64 0, .int .i64 0] ptrTo, .a [.int .i64 0, .int .i64 0, .int .i64 0, .int .i64 0] ptrTo] (by kernel_rfl) ?_ ?_
  · refine .cons (.ldn rfl rfl rfl (.at 2 rfl rfl)) ?_
    refine .cons (.call (vs := [.agg #[.int .u8 1, .int .u8 0, .int .u8 0, .int .u8 0]]) rfl rfl (by kernel_rfl) (color_Wide_v1.ok h11)) ?_
    refine .cons (.ldn rfl rfl rfl (.at 1 rfl rfl)) ?_
    refine .cons (.call (vs := [.agg #[.int .u8 0, .int .u8 0, .int .u8 0, .int .u8 0]]) rfl rfl (by kernel_rfl) (color_Wide_v2.ok h12)) ?_
    refine .cons (.new rfl rfl) ?_
    refine .cons (.new rfl rfl) ?_
    exact .nil
  refine fk_q 4 [2, 6, 12, 14] (σ' := [(2, .int .i64 0), (6, .pointer (some ⟨b10, 0, none⟩)), (12, .agg #[.int .i64 257, .int .i64 0, .int .i64 0, .int .i64 0]), (14, .agg #[.int .i64 0, .int .i64 0, .int .i64 0, .int .i64 0])]) t_more (by kernel_rfl) ?_
  refine fk_a fun b13 fb13 sb13 => ?_
  refine fk_a fun b14 fb14 sb14 => ?_
  refine fk_nil fun all => ?_
  refine t_sti 1 (cs := [.int .i64 257, .int .i64 0, .int .i64 0, .int .i64 0]) rfl rfl rfl rfl rfl rfl rfl rfl rfl ?_
  refine t_sti 0 (cs := [.int .i64 0, .int .i64 0, .int .i64 0, .int .i64 0]) rfl rfl rfl rfl rfl rfl rfl rfl rfl ?_
  refine t_keep [2, 6, 7, 8] (σ' := [(2, .int .i64 0), (6, .pointer (some ⟨b10, 0, none⟩)), (7, .pointer (some ⟨b13, 0, none⟩)), (8, .pointer (some ⟨b14, 0, none⟩))]) (by kernel_rfl) ?_
  refine t_end ?_
  show W _ _ _ _ _ _ _
  refine w_seq ?_
  refine w_reg fun all => ?_
  refine t_a (.new rfl rfl) fun b15 fb15 sb15 => ?_
  refine t_keep [2, 6, 7, 8, 9] (σ' := [(2, .int .i64 0), (6, .pointer (some ⟨b10, 0, none⟩)), (7, .pointer (some ⟨b13, 0, none⟩)), (8, .pointer (some ⟨b14, 0, none⟩)), (9, .pointer (some ⟨b15, 0, none⟩))]) (by kernel_rfl) ?_
  refine t_end ?_
  show W _ _ _ _ _ _ _
  refine w_seq ?_
  refine w_seq ?_
  refine w_reg fun all => ?_
  refine t_qz 1 [2, 6, 7, 8, 9, 15] (σ' := [(2, .int .i64 0), (6, .pointer (some ⟨b10, 0, none⟩)), (7, .pointer (some ⟨b13, 0, none⟩)), (8, .pointer (some ⟨b14, 0, none⟩)), (9, .pointer (some ⟨b15, 0, none⟩)), (15, .int .i64 0)]) (by kernel_rfl) ?_
  refine t_end ?_
  show W _ _ _ _ _ _ _
  refine w_block ?_
  refine w_lun 5 ?_
  refine wl_step ?_
  refine w_seq ?_
  refine w_reg fun all => ?_
  refine t_qz 1 [2, 6, 7, 8, 9, 15, 16] (σ' := [(2, .int .i64 0), (6, .pointer (some ⟨b10, 0, none⟩)), (7, .pointer (some ⟨b13, 0, none⟩)), (8, .pointer (some ⟨b14, 0, none⟩)), (9, .pointer (some ⟨b15, 0, none⟩)), (15, .int .i64 0), (16, .bool true)]) (by kernel_rfl) ?_
  refine t_end ?_
  show W _ _ _ _ _ _ _
  refine w_seq ?_
  refine w_cond rfl (fun _ => ?_) (fun c_ => by cases c_)
  show W _ _ _ _ _ _ _
  refine w_skip ?_
  show W _ _ _ _ _ _ _
  refine w_seq ?_
  refine w_block ?_
  refine w_seq ?_
  refine w_reg fun all => ?_
  refine t_qz 2 [2, 6, 7, 8, 9, 10, 15] (σ' := [(2, .int .i64 0), (6, .pointer (some ⟨b10, 0, none⟩)), (7, .pointer (some ⟨b13, 0, none⟩)), (8, .pointer (some ⟨b14, 0, none⟩)), (9, .pointer (some ⟨b15, 0, none⟩)), (10, .int .i64 0), (15, .int .i64 0)]) (by kernel_rfl) ?_
  refine t_end ?_
  show W _ _ _ _ _ _ _
  obtain ⟨u_, h16, e⟩ := bind_of e
  refine w_drwE mixed 15 [.v (.int .i64 0), .v (.int .i64 0), .v (.pointer (some ⟨b13, 0, none⟩)), .v (.int .i64 257), .v (.int .i64 0), .v (.int .i64 65536), .v (.int .i64 16842752), .v (.int .i64 0), .v (.pointer (some ⟨b14, 0, none⟩)), .v (.int .i64 0), .v (.int .i64 0), .v (.int .i64 0), .v (.int .i64 16842752), .v (.int .i64 257), .v (.pointer (some ⟨b15, 0, none⟩))] (by kernel_rfl) ?_ ?_
  · refine DI.sq 3 (by kernel_rfl) rfl ?_
    refine .cons (.ld1 rfl rfl rfl (.at 2 rfl rfl)) ?_
    refine DI.sq 5 (by kernel_rfl) rfl ?_
    refine .cons (.ld1 rfl rfl rfl (.at 1 rfl rfl)) ?_
    refine DI.sq 3 (by kernel_rfl) rfl ?_
    refine .cons (.call (vs := [.int .i64 16842752, .int .i64 65536]) rfl rfl (by kernel_rfl) (fixed_Round_v1.ok h16)) ?_
    refine DI.sq 1 (by kernel_rfl) rfl ?_
    exact .nil
  refine fk_q 15 [2, 6, 7, 8, 9, 15, 31, 32] (σ' := [(2, .int .i64 0), (6, .pointer (some ⟨b10, 0, none⟩)), (7, .pointer (some ⟨b13, 0, none⟩)), (8, .pointer (some ⟨b14, 0, none⟩)), (9, .pointer (some ⟨b15, 0, none⟩)), (15, .int .i64 0), (31, .int .i64 257), (32, .pointer (some ⟨b15, 0, none⟩))]) t_more (by kernel_rfl) ?_
  refine fk_nil fun all => ?_
  refine t_sti 0 (cs := [.int .i64 257, .int .i64 0, .int .i64 0, .int .i64 0]) rfl rfl rfl rfl rfl rfl rfl rfl rfl ?_
  refine t_keep [2, 6, 7, 8, 9, 15] (σ' := [(2, .int .i64 0), (6, .pointer (some ⟨b10, 0, none⟩)), (7, .pointer (some ⟨b13, 0, none⟩)), (8, .pointer (some ⟨b14, 0, none⟩)), (9, .pointer (some ⟨b15, 0, none⟩)), (15, .int .i64 0)]) (by kernel_rfl) ?_
  refine t_end ?_
  show W _ _ _ _ _ _ _
  refine w_reg fun all => ?_
  refine t_qz 2 [2, 6, 7, 8, 9, 15] (σ' := [(2, .int .i64 0), (6, .pointer (some ⟨b10, 0, none⟩)), (7, .pointer (some ⟨b13, 0, none⟩)), (8, .pointer (some ⟨b14, 0, none⟩)), (9, .pointer (some ⟨b15, 0, none⟩)), (15, .int .i64 1)]) (by kernel_rfl) ?_
  refine t_end ?_
  show WL _ _ _ _ _ _ _ _
  refine wl_step ?_
  refine w_seq ?_
  refine w_reg fun all => ?_
  refine t_qz 1 [2, 6, 7, 8, 9, 15, 16] (σ' := [(2, .int .i64 0), (6, .pointer (some ⟨b10, 0, none⟩)), (7, .pointer (some ⟨b13, 0, none⟩)), (8, .pointer (some ⟨b14, 0, none⟩)), (9, .pointer (some ⟨b15, 0, none⟩)), (15, .int .i64 1), (16, .bool true)]) (by kernel_rfl) ?_
  refine t_end ?_
  show W _ _ _ _ _ _ _
  refine w_seq ?_
  refine w_cond rfl (fun _ => ?_) (fun c_ => by cases c_)
  show W _ _ _ _ _ _ _
  refine w_skip ?_
  show W _ _ _ _ _ _ _
  refine w_seq ?_
  refine w_block ?_
  refine w_seq ?_
  refine w_reg fun all => ?_
  refine t_qz 2 [2, 6, 7, 8, 9, 10, 15] (σ' := [(2, .int .i64 0), (6, .pointer (some ⟨b10, 0, none⟩)), (7, .pointer (some ⟨b13, 0, none⟩)), (8, .pointer (some ⟨b14, 0, none⟩)), (9, .pointer (some ⟨b15, 0, none⟩)), (10, .int .i64 1), (15, .int .i64 1)]) (by kernel_rfl) ?_
  refine t_end ?_
  show W _ _ _ _ _ _ _
  obtain ⟨u_, h17, e⟩ := bind_of e
  refine w_drwE mixed 15 [.v (.int .i64 1), .v (.int .i64 1), .v (.pointer (some ⟨b13, 1, none⟩)), .v (.int .i64 0), .v (.int .i64 0), .v (.int .i64 65536), .v (.int .i64 0), .v (.int .i64 1), .v (.pointer (some ⟨b14, 1, none⟩)), .v (.int .i64 0), .v (.int .i64 0), .v (.int .i64 0), .v (.int .i64 0), .v (.int .i64 0), .v (.pointer (some ⟨b15, 1, none⟩))] (by kernel_rfl) ?_ ?_
  · refine DI.sq 3 (by kernel_rfl) rfl ?_
    refine .cons (.ld1 rfl rfl rfl (.at 2 rfl rfl)) ?_
    refine DI.sq 5 (by kernel_rfl) rfl ?_
    refine .cons (.ld1 rfl rfl rfl (.at 1 rfl rfl)) ?_
    refine DI.sq 3 (by kernel_rfl) rfl ?_
    refine .cons (.call (vs := [.int .i64 0, .int .i64 65536]) rfl rfl (by kernel_rfl) (fixed_Round_v2.ok h17)) ?_
    refine DI.sq 1 (by kernel_rfl) rfl ?_
    exact .nil
  refine fk_q 15 [2, 6, 7, 8, 9, 15, 31, 32] (σ' := [(2, .int .i64 0), (6, .pointer (some ⟨b10, 0, none⟩)), (7, .pointer (some ⟨b13, 0, none⟩)), (8, .pointer (some ⟨b14, 0, none⟩)), (9, .pointer (some ⟨b15, 0, none⟩)), (15, .int .i64 1), (31, .int .i64 0), (32, .pointer (some ⟨b15, 1, none⟩))]) t_more (by kernel_rfl) ?_
  refine fk_nil fun all => ?_
  refine t_sti 0 (cs := [.int .i64 257, .int .i64 0, .int .i64 0, .int .i64 0]) rfl rfl rfl rfl rfl rfl rfl rfl rfl ?_
  refine t_keep [2, 6, 7, 8, 9, 15] (σ' := [(2, .int .i64 0), (6, .pointer (some ⟨b10, 0, none⟩)), (7, .pointer (some ⟨b13, 0, none⟩)), (8, .pointer (some ⟨b14, 0, none⟩)), (9, .pointer (some ⟨b15, 0, none⟩)), (15, .int .i64 1)]) (by kernel_rfl) ?_
  refine t_end ?_
  show W _ _ _ _ _ _ _
  refine w_reg fun all => ?_
  refine t_qz 2 [2, 6, 7, 8, 9, 15] (σ' := [(2, .int .i64 0), (6, .pointer (some ⟨b10, 0, none⟩)), (7, .pointer (some ⟨b13, 0, none⟩)), (8, .pointer (some ⟨b14, 0, none⟩)), (9, .pointer (some ⟨b15, 0, none⟩)), (15, .int .i64 2)]) (by kernel_rfl) ?_
  refine t_end ?_
  show WL _ _ _ _ _ _ _ _
  refine wl_step ?_
  refine w_seq ?_
  refine w_reg fun all => ?_
  refine t_qz 1 [2, 6, 7, 8, 9, 15, 16] (σ' := [(2, .int .i64 0), (6, .pointer (some ⟨b10, 0, none⟩)), (7, .pointer (some ⟨b13, 0, none⟩)), (8, .pointer (some ⟨b14, 0, none⟩)), (9, .pointer (some ⟨b15, 0, none⟩)), (15, .int .i64 2), (16, .bool true)]) (by kernel_rfl) ?_
  refine t_end ?_
  show W _ _ _ _ _ _ _
  refine w_seq ?_
  refine w_cond rfl (fun _ => ?_) (fun c_ => by cases c_)
  show W _ _ _ _ _ _ _
  refine w_skip ?_
  show W _ _ _ _ _ _ _
  refine w_seq ?_
  refine w_block ?_
  refine w_seq ?_
  refine w_reg fun all => ?_
  refine t_qz 2 [2, 6, 7, 8, 9, 10, 15] (σ' := [(2, .int .i64 0), (6, .pointer (some ⟨b10, 0, none⟩)), (7, .pointer (some ⟨b13, 0, none⟩)), (8, .pointer (some ⟨b14, 0, none⟩)), (9, .pointer (some ⟨b15, 0, none⟩)), (10, .int .i64 2), (15, .int .i64 2)]) (by kernel_rfl) ?_
  refine t_end ?_
  show W _ _ _ _ _ _ _
  obtain ⟨u_, h18, e⟩ := bind_of e
  refine w_drwE mixed 15 [.v (.int .i64 2), .v (.int .i64 2), .v (.pointer (some ⟨b13, 2, none⟩)), .v (.int .i64 0), .v (.int .i64 0), .v (.int .i64 65536), .v (.int .i64 0), .v (.int .i64 2), .v (.pointer (some ⟨b14, 2, none⟩)), .v (.int .i64 0), .v (.int .i64 0), .v (.int .i64 0), .v (.int .i64 0), .v (.int .i64 0), .v (.pointer (some ⟨b15, 2, none⟩))] (by kernel_rfl) ?_ ?_
  · refine DI.sq 3 (by kernel_rfl) rfl ?_
    refine .cons (.ld1 rfl rfl rfl (.at 2 rfl rfl)) ?_
    refine DI.sq 5 (by kernel_rfl) rfl ?_
    refine .cons (.ld1 rfl rfl rfl (.at 1 rfl rfl)) ?_
    refine DI.sq 3 (by kernel_rfl) rfl ?_
    refine .cons (.call (vs := [.int .i64 0, .int .i64 65536]) rfl rfl (by kernel_rfl) (fixed_Round_v2.ok h18)) ?_
    refine DI.sq 1 (by kernel_rfl) rfl ?_
    exact .nil
  refine fk_q 15 [2, 6, 7, 8, 9, 15, 31, 32] (σ' := [(2, .int .i64 0), (6, .pointer (some ⟨b10, 0, none⟩)), (7, .pointer (some ⟨b13, 0, none⟩)), (8, .pointer (some ⟨b14, 0, none⟩)), (9, .pointer (some ⟨b15, 0, none⟩)), (15, .int .i64 2), (31, .int .i64 0), (32, .pointer (some ⟨b15, 2, none⟩))]) t_more (by kernel_rfl) ?_
  refine fk_nil fun all => ?_
  refine t_sti 0 (cs := [.int .i64 257, .int .i64 0, .int .i64 0, .int .i64 0]) rfl rfl rfl rfl rfl rfl rfl rfl rfl ?_
  refine t_keep [2, 6, 7, 8, 9, 15] (σ' := [(2, .int .i64 0), (6, .pointer (some ⟨b10, 0, none⟩)), (7, .pointer (some ⟨b13, 0, none⟩)), (8, .pointer (some ⟨b14, 0, none⟩)), (9, .pointer (some ⟨b15, 0, none⟩)), (15, .int .i64 2)]) (by kernel_rfl) ?_
  refine t_end ?_
  show W _ _ _ _ _ _ _
  refine w_reg fun all => ?_
  refine t_qz 2 [2, 6, 7, 8, 9, 15] (σ' := [(2, .int .i64 0), (6, .pointer (some ⟨b10, 0, none⟩)), (7, .pointer (some ⟨b13, 0, none⟩)), (8, .pointer (some ⟨b14, 0, none⟩)), (9, .pointer (some ⟨b15, 0, none⟩)), (15, .int .i64 3)]) (by kernel_rfl) ?_
  refine t_end ?_
  show WL _ _ _ _ _ _ _ _
  refine wl_step ?_
  refine w_seq ?_
  refine w_reg fun all => ?_
  refine t_qz 1 [2, 6, 7, 8, 9, 15, 16] (σ' := [(2, .int .i64 0), (6, .pointer (some ⟨b10, 0, none⟩)), (7, .pointer (some ⟨b13, 0, none⟩)), (8, .pointer (some ⟨b14, 0, none⟩)), (9, .pointer (some ⟨b15, 0, none⟩)), (15, .int .i64 3), (16, .bool true)]) (by kernel_rfl) ?_
  refine t_end ?_
  show W _ _ _ _ _ _ _
  refine w_seq ?_
  refine w_cond rfl (fun _ => ?_) (fun c_ => by cases c_)
  show W _ _ _ _ _ _ _
  refine w_skip ?_
  show W _ _ _ _ _ _ _
  refine w_seq ?_
  refine w_block ?_
  refine w_seq ?_
  refine w_reg fun all => ?_
  refine t_qz 2 [2, 6, 7, 8, 9, 10, 15] (σ' := [(2, .int .i64 0), (6, .pointer (some ⟨b10, 0, none⟩)), (7, .pointer (some ⟨b13, 0, none⟩)), (8, .pointer (some ⟨b14, 0, none⟩)), (9, .pointer (some ⟨b15, 0, none⟩)), (10, .int .i64 3), (15, .int .i64 3)]) (by kernel_rfl) ?_
  refine t_end ?_
  show W _ _ _ _ _ _ _
  obtain ⟨u_, h19, e⟩ := bind_of e
  refine w_drwE mixed 15 [.v (.int .i64 3), .v (.int .i64 3), .v (.pointer (some ⟨b13, 3, none⟩)), .v (.int .i64 0), .v (.int .i64 0), .v (.int .i64 65536), .v (.int .i64 0), .v (.int .i64 3), .v (.pointer (some ⟨b14, 3, none⟩)), .v (.int .i64 0), .v (.int .i64 0), .v (.int .i64 0), .v (.int .i64 0), .v (.int .i64 0), .v (.pointer (some ⟨b15, 3, none⟩))] (by kernel_rfl) ?_ ?_
  · refine DI.sq 3 (by kernel_rfl) rfl ?_
    refine .cons (.ld1 rfl rfl rfl (.at 2 rfl rfl)) ?_
    refine DI.sq 5 (by kernel_rfl) rfl ?_
    refine .cons (.ld1 rfl rfl rfl (.at 1 rfl rfl)) ?_
    refine DI.sq 3 (by kernel_rfl) rfl ?_
    refine .cons (.call (vs := [.int .i64 0, .int .i64 65536]) rfl rfl (by kernel_rfl) (fixed_Round_v2.ok h19)) ?_
    refine DI.sq 1 (by kernel_rfl) rfl ?_
    exact .nil
  refine fk_q 15 [2, 6, 7, 8, 9, 15, 31, 32] (σ' := [(2, .int .i64 0), (6, .pointer (some ⟨b10, 0, none⟩)), (7, .pointer (some ⟨b13, 0, none⟩)), (8, .pointer (some ⟨b14, 0, none⟩)), (9, .pointer (some ⟨b15, 0, none⟩)), (15, .int .i64 3), (31, .int .i64 0), (32, .pointer (some ⟨b15, 3, none⟩))]) t_more (by kernel_rfl) ?_
  refine fk_nil fun all => ?_
  refine t_sti 0 (cs := [.int .i64 257, .int .i64 0, .int .i64 0, .int .i64 0]) rfl rfl rfl rfl rfl rfl rfl rfl rfl ?_
  refine t_keep [2, 6, 7, 8, 9, 15] (σ' := [(2, .int .i64 0), (6, .pointer (some ⟨b10, 0, none⟩)), (7, .pointer (some ⟨b13, 0, none⟩)), (8, .pointer (some ⟨b14, 0, none⟩)), (9, .pointer (some ⟨b15, 0, none⟩)), (15, .int .i64 3)]) (by kernel_rfl) ?_
  refine t_end ?_
  show W _ _ _ _ _ _ _
  refine w_reg fun all => ?_
  refine t_qz 2 [2, 6, 7, 8, 9, 15] (σ' := [(2, .int .i64 0), (6, .pointer (some ⟨b10, 0, none⟩)), (7, .pointer (some ⟨b13, 0, none⟩)), (8, .pointer (some ⟨b14, 0, none⟩)), (9, .pointer (some ⟨b15, 0, none⟩)), (15, .int .i64 4)]) (by kernel_rfl) ?_
  refine t_end ?_
  show WL _ _ _ _ _ _ _ _
  refine wl_step ?_
  refine w_seq ?_
  refine w_reg fun all => ?_
  refine t_qz 1 [2, 6, 7, 8, 9, 15, 16] (σ' := [(2, .int .i64 0), (6, .pointer (some ⟨b10, 0, none⟩)), (7, .pointer (some ⟨b13, 0, none⟩)), (8, .pointer (some ⟨b14, 0, none⟩)), (9, .pointer (some ⟨b15, 0, none⟩)), (15, .int .i64 4), (16, .bool false)]) (by kernel_rfl) ?_
  refine t_end ?_
  show W _ _ _ _ _ _ _
  refine w_seq ?_
  refine w_cond rfl (fun c_ => by cases c_) (fun _ => ?_)
  show W _ _ _ _ _ _ _
  refine w_exit ?_
  show W _ _ _ _ _ _ _
  refine w_seq ?_
  refine w_reg fun all => ?_
  refine t_v (.ldn rfl rfl rfl (.at 0 rfl rfl)) ?_
  refine t_sti 3 (cs := [.int .i64 257, .int .i64 0, .int .i64 0, .int .i64 0]) rfl rfl rfl rfl rfl rfl rfl rfl rfl ?_
  refine t_keep [6] (σ' := [(6, .pointer (some ⟨b10, 0, none⟩))]) (by kernel_rfl) ?_
  refine t_end ?_
  show W _ _ _ _ _ _ _
  refine w_ret ?_
  exact ⟨[.agg #[.int .i64 257, .int .i64 0, .int .i64 0, .int .i64 0]], [], S, ⟨⟨_, _, _, rfl, .at 3 rfl rfl, rfl⟩, trivial⟩, VS.none, rfl, rfl, rfl⟩

/-- glyphiclaw25.first -/
def c52 : C :=
  (.seq (.reg [⟨(some 0), .mv (.const (.bool false)), none⟩])
  (.seq (.reg [⟨(some 1), .bld [(.int .i64 0), (.int .i64 0), (.int .i64 0), (.int .i64 0), (.int .i64 0), (.int .i64 0), (.int .i64 0)] [], none⟩,
     ⟨(some 2), .bld [(.int .i64 0), (.int .i64 0)] [(0, 1, (.const (.int .i64 5)))], none⟩,
     ⟨(some 3), .call 55 [(.tmp 1), (.tmp 2)], none⟩,
     ⟨(some 4), .bin .eql (.tmp 3) (.const (.int .i64 0)), none⟩,
     ⟨(some 5), .mv (.tmp 4), none⟩,
     ⟨(some 6), .bld [(.int .u8 0), (.int .u8 0), (.int .u8 0), (.int .u8 0)] [(0, 1, (.const (.int .u8 1)))], (some (5, true))⟩,
     ⟨(some 7), .bld [(.int .u8 0), (.int .u8 0), (.int .u8 0), (.int .u8 0)] [], (some (5, true))⟩,
     ⟨(some 8), .call 57 [(.tmp 6), (.tmp 7), (.const (.int .i64 0))], (some (5, true))⟩,
     ⟨(some 9), .ixv none 1 4 (.tmp 8) (.const (.int .i64 0)), (some (5, true))⟩,
     ⟨(some 10), .bin .eql (.tmp 9) (.const (.int .i64 257)), (some (5, true))⟩,
     ⟨(some 11), .pk (.tmp 5) (.tmp 10) (.const (.bool false)), none⟩,
     ⟨(some 0), .mv (.tmp 11), none⟩])
  .ret))
def glyphiclaw25_first.f  : Option (Bool) := (paint_Part_v1.f).bind fun _ => ((paint_Mix_v1.f).bind fun _ => (some true))
theorem glyphiclaw25_first.ok {S : Seal}  {r0_ : Bool}(e : glyphiclaw25_first.f  = some r0_) :
    Cal Try.prog 52 [] [] S fun v H' S' => v = .bool r0_ ∧ H' = [] ∧ S' = S := by
  unfold glyphiclaw25_first.f at e
  refine cal_of (c := c52) (N := 12) Try.func52 rfl rfl (by kernel_rfl) (rs := [.t 0]) (by kernel_rfl) (Nat.le_of_ble_eq_true rfl) ?_
  unfold c52
  refine w_seq ?_
  refine w_reg fun all => ?_
  refine t_qz 1 [] (σ' := []) (by kernel_rfl) ?_
  refine t_end ?_
  show W _ _ _ _ _ _ _
  refine w_seq ?_
  refine w_reg fun all => ?_
  obtain ⟨u_, h7, e⟩ := bind_of e
  refine t_qz 2 [1, 2] (σ' := [(1, .agg #[.int .i64 0, .int .i64 0, .int .i64 0, .int .i64 0, .int .i64 0, .int .i64 0, .int .i64 0]), (2, .agg #[.int .i64 5, .int .i64 0])]) (by kernel_rfl) ?_
  refine t_v (.call (vs := [.agg #[.int .i64 0, .int .i64 0, .int .i64 0, .int .i64 0, .int .i64 0, .int .i64 0, .int .i64 0], .agg #[.int .i64 5, .int .i64 0]]) rfl rfl (by kernel_rfl) (paint_Part_v1.ok h7)) ?_
  obtain ⟨u_, h20, e⟩ := bind_of e
  refine t_qz 4 [5, 6, 7] (σ' := [(5, .bool true), (6, .agg #[.int .u8 1, .int .u8 0, .int .u8 0, .int .u8 0]), (7, .agg #[.int .u8 0, .int .u8 0, .int .u8 0, .int .u8 0])]) (by kernel_rfl) ?_
  refine t_v (.call (vs := [.agg #[.int .u8 1, .int .u8 0, .int .u8 0, .int .u8 0], .agg #[.int .u8 0, .int .u8 0, .int .u8 0, .int .u8 0], .int .i64 0]) rfl rfl (by kernel_rfl) (paint_Mix_v1.ok h20)) ?_
  refine t_qz 4 [0] (σ' := [(0, .bool true)]) (by kernel_rfl) ?_
  refine t_end ?_
  show W _ _ _ _ _ _ _
  refine w_ret ?_
  obtain rfl := Option.some.inj e
  exact ⟨[.bool true], [], S, ⟨rfl, trivial⟩, VS.none, rfl, rfl, rfl⟩

/-- glyphiclaw25.cut -/
def c53 : C :=
  (.seq (.reg [⟨(some 1), .box (.tmp 0), none⟩,
     ⟨(some 2), .new [(.int .i64 0), (.int .i64 0)], none⟩])
  (.seq (.reg [⟨(some 3), .pad 0 (.tmp 1), none⟩,
     ⟨(some 4), .ld none (.tmp 3), none⟩,
     ⟨(some 5), .bin .rem (.tmp 4) (.const (.int .i64 16777217)), none⟩,
     ⟨(some 6), .pad 1 (.tmp 1), none⟩,
     ⟨(some 7), .ld none (.tmp 6), none⟩,
     ⟨(some 8), .bin .rem (.tmp 7) (.const (.int .i64 16777217)), none⟩,
     ⟨(some 9), .bld [(.int .i64 0), (.int .i64 0)] [(0, 1, (.tmp 5)), (1, 1, (.tmp 8))], none⟩,
     ⟨none, .st 2 (.tmp 2) (.tmp 9), none⟩])
  .ret))
def glyphiclaw25_cut.f (p0_X : Int) (p0_Y : Int) : Option (Int × Int) := some (Int.tmod p0_X 16777217, Int.tmod p0_Y 16777217)
theorem glyphiclaw25_cut.ok {S : Seal} {p0_X : Int} {p0_Y : Int} {r0_ : Int} {r1_ : Int}(e : glyphiclaw25_cut.f p0_X p0_Y = some (r0_, r1_)) :
    Cal Try.prog 53 [.agg #[.int .i64 p0_X, .int .i64 p0_Y]] [] S fun v H' S' => v = .agg #[.int .i64 r0_, .int .i64 r1_] ∧ H' = [] ∧ S' = S := by
  unfold glyphiclaw25_cut.f at e
  refine cal_of (c := c53) (N := 10) Try.func53 rfl rfl (by kernel_rfl) (rs := [.cn 2 2]) (by kernel_rfl) (Nat.le_of_ble_eq_true rfl) ?_
  unfold c53
  refine w_seq ?_
  refine w_reg fun all => ?_
  refine t_a (.box rfl rfl rfl) fun b25 fb25 sb25 => ?_
  refine t_a (.new rfl rfl) fun b26 fb26 sb26 => ?_
  refine t_keep [1, 2] (σ' := [(1, .pointer (some ⟨b25, 0, none⟩)), (2, .pointer (some ⟨b26, 0, none⟩))]) (by kernel_rfl) ?_
  refine t_end ?_
  show W _ _ _ _ _ _ _
  refine w_seq ?_
  refine w_reg fun all => ?_
  refine t_qz 1 [1, 2, 3] (σ' := [(1, .pointer (some ⟨b25, 0, none⟩)), (2, .pointer (some ⟨b26, 0, none⟩)), (3, .pointer (some ⟨b25, 0, none⟩))]) (by kernel_rfl) ?_
  refine t_v (.ld1 rfl rfl rfl (.at 1 rfl rfl)) ?_
  refine t_qz 2 [2, 5, 6] (σ' := [(2, .pointer (some ⟨b26, 0, none⟩)), (5, .int .i64 (Int.tmod p0_X 16777217)), (6, .pointer (some ⟨b25, 1, none⟩))]) (by kernel_rfl) ?_
  refine t_v (.ld1 rfl rfl rfl (.at 1 rfl rfl)) ?_
  refine t_qz 2 [2, 9] (σ' := [(2, .pointer (some ⟨b26, 0, none⟩)), (9, .agg #[.int .i64 (Int.tmod p0_X 16777217), .int .i64 (Int.tmod p0_Y 16777217)])]) (by kernel_rfl) ?_
  refine t_sti 0 (cs := [.int .i64 (Int.tmod p0_X 16777217), .int .i64 (Int.tmod p0_Y 16777217)]) rfl rfl rfl rfl rfl rfl rfl rfl rfl ?_
  refine t_keep [2] (σ' := [(2, .pointer (some ⟨b26, 0, none⟩))]) (by kernel_rfl) ?_
  refine t_end ?_
  show W _ _ _ _ _ _ _
  refine w_ret ?_
  simp only [Option.some.injEq, Prod.mk.injEq] at e
  obtain ⟨rfl, rfl⟩ := e
  exact ⟨[.agg #[.int .i64 (Int.tmod p0_X 16777217), .int .i64 (Int.tmod p0_Y 16777217)]], [], S, ⟨⟨_, _, _, rfl, .at 0 rfl rfl, rfl⟩, trivial⟩, VS.none, rfl, rfl, rfl⟩

/-- glyphicworld.Number -/
def c44 : C :=
  (.seq (.reg [⟨(some 4), .mv (.const (.int .i64 0)), none⟩])
  (.seq (.reg [⟨(some 6), .mv (.tmp 0), none⟩,
     ⟨(some 7), .mv (.tmp 1), none⟩,
     ⟨(some 8), .bin .rem (.tmp 6) (.tmp 7), none⟩,
     ⟨(some 5), .mv (.tmp 8), none⟩])
  (.seq (.seq (.reg [⟨(some 9), .mv (.tmp 5), none⟩,
      ⟨(some 10), .bin .lss (.tmp 9) (.const (.int .i64 0)), none⟩])
   (.cond (.tmp 10)
    (.reg [⟨(some 11), .mv (.tmp 5), none⟩,
       ⟨(some 12), .mv (.tmp 1), none⟩,
       ⟨(some 13), .bin .add (.tmp 11) (.tmp 12), none⟩,
       ⟨(some 5), .mv (.tmp 13), none⟩])
    .skip))
  (.seq (.reg [⟨(some 14), .mv (.tmp 5), none⟩,
     ⟨(some 4), .mv (.tmp 14), none⟩])
  .ret))))
def glyphicworld_Number.f (n0 : Int) (below1 : Int) : Option (Int) := if below1 = 0 then none else (if (Int.tmod n0 below1) < 0 then (some (wr64 ((Int.tmod n0 below1) + below1))) else (some (Int.tmod n0 below1)))
theorem glyphicworld_Number.ok {S : Seal} {n0 : Int} {below1 : Int} {r0_ : Int}(e : glyphicworld_Number.f n0 below1 = some r0_) :
    Cal Try.prog 44 [.int .i64 n0, .int .i64 below1] [] S fun v H' S' => v = .int .i64 r0_ ∧ H' = [] ∧ S' = S := by
  unfold glyphicworld_Number.f at e
  refine cal_of (c := c44) (N := 15) Try.func44 rfl rfl (by kernel_rfl) (rs := [.t 4]) (by kernel_rfl) (Nat.le_of_ble_eq_true rfl) ?_
  unfold c44
  refine w_seq ?_
  refine w_reg fun all => ?_
  refine t_qz 1 [0, 1] (σ' := [(0, .int .i64 n0), (1, .int .i64 below1)]) (by kernel_rfl) ?_
  refine t_end ?_
  show W _ _ _ _ _ _ _
  refine w_seq ?_
  refine w_reg fun all => ?_
  have c53 : ¬ below1 = 0 := by
    intro h_; rw [if_pos h_] at e; cases e
  rw [if_neg c53] at e
  refine t_qz 2 [1, 6, 7] (σ' := [(1, .int .i64 below1), (6, .int .i64 n0), (7, .int .i64 below1)]) (by kernel_rfl) ?_
  refine t_v (.quiet rfl (qv_rem rfl rfl c53)) ?_
  refine t_qz 1 [1, 5] (σ' := [(1, .int .i64 below1), (5, .int .i64 (Int.tmod n0 below1))]) (by kernel_rfl) ?_
  refine t_end ?_
  show W _ _ _ _ _ _ _
  refine w_seq ?_
  refine w_seq ?_
  refine w_reg fun all => ?_
  by_cases c54 : (Int.tmod n0 below1) < 0
  · rw [if_pos c54] at e
    have c54b : (decide ((Int.tmod n0 below1) < 0)) = true := decide_eq_true c54
    refine t_qz 1 [1, 5, 9] (σ' := [(1, .int .i64 below1), (5, .int .i64 (Int.tmod n0 below1)), (9, .int .i64 (Int.tmod n0 below1))]) (by kernel_rfl) ?_
    refine t_v (dv_quiet rfl (congrArg (fun t => some (Value.bool t)) c54b)) ?_
    refine t_keep [1, 5, 10] (σ' := [(1, .int .i64 below1), (5, .int .i64 (Int.tmod n0 below1)), (10, .bool true)]) (by kernel_rfl) ?_
    refine t_end ?_
    show W _ _ _ _ _ _ _
    refine w_cond rfl (fun _ => ?_) (fun c_ => by cases c_)
    show W _ _ _ _ _ _ _
    refine w_reg fun all => ?_
    refine t_qz 4 [5] (σ' := [(5, .int .i64 (wr64 ((Int.tmod n0 below1) + below1)))]) (by kernel_rfl) ?_
    refine t_end ?_
    show W _ _ _ _ _ _ _
    refine w_seq ?_
    refine w_reg fun all => ?_
    refine t_qz 2 [4] (σ' := [(4, .int .i64 (wr64 ((Int.tmod n0 below1) + below1)))]) (by kernel_rfl) ?_
    refine t_end ?_
    show W _ _ _ _ _ _ _
    refine w_ret ?_
    obtain rfl := Option.some.inj e
    exact ⟨[.int .i64 (wr64 ((Int.tmod n0 below1) + below1))], [], S, ⟨rfl, trivial⟩, VS.none, rfl, rfl, rfl⟩
  · rw [if_neg c54] at e
    have c54b : (decide ((Int.tmod n0 below1) < 0)) = false := decide_eq_false c54
    refine t_qz 1 [1, 5, 9] (σ' := [(1, .int .i64 below1), (5, .int .i64 (Int.tmod n0 below1)), (9, .int .i64 (Int.tmod n0 below1))]) (by kernel_rfl) ?_
    refine t_v (dv_quiet rfl (congrArg (fun t => some (Value.bool t)) c54b)) ?_
    refine t_keep [1, 5, 10] (σ' := [(1, .int .i64 below1), (5, .int .i64 (Int.tmod n0 below1)), (10, .bool false)]) (by kernel_rfl) ?_
    refine t_end ?_
    show W _ _ _ _ _ _ _
    refine w_cond rfl (fun c_ => by cases c_) (fun _ => ?_)
    show W _ _ _ _ _ _ _
    refine w_skip ?_
    show W _ _ _ _ _ _ _
    refine w_seq ?_
    refine w_reg fun all => ?_
    refine t_qz 2 [4] (σ' := [(4, .int .i64 (Int.tmod n0 below1))]) (by kernel_rfl) ?_
    refine t_end ?_
    show W _ _ _ _ _ _ _
    refine w_ret ?_
    obtain rfl := Option.some.inj e
    exact ⟨[.int .i64 (Int.tmod n0 below1)], [], S, ⟨rfl, trivial⟩, VS.none, rfl, rfl, rfl⟩

/-- (*glyphicmake.Seq).Next -/
def c37 : C :=
  (.seq (.reg [⟨(some 4), .mv (.const (.int .i64 0)), none⟩])
  (.seq (.reg [⟨(some 5), .mv (.const (.int .i64 0)), none⟩])
  (.seq (.seq (.drw [⟨(some 6), .mv (.tmp 0), none⟩,
      ⟨(some 7), .nck (.tmp 6), none⟩,
      ⟨(some 8), .pad 1 (.tmp 7), none⟩,
      ⟨(some 9), .ld none (.tmp 8), none⟩,
      ⟨(some 10), .mv (.tmp 0), none⟩,
      ⟨(some 11), .nck (.tmp 10), none⟩,
      ⟨(some 12), .pad 0 (.tmp 11), none⟩,
      ⟨(some 13), .ld none (.tmp 12), none⟩,
      ⟨(some 14), .lns (.tmp 13), none⟩,
      ⟨(some 15), .bin .lss (.tmp 9) (.tmp 14), none⟩] [[], [0], [1], [2], [], [4], [5], [6], [7], [3, 8]])
   (.cond (.tmp 15)
    (.drw [⟨(some 16), .mv (.tmp 0), none⟩,
       ⟨(some 17), .nck (.tmp 16), none⟩,
       ⟨(some 18), .pad 0 (.tmp 17), none⟩,
       ⟨(some 19), .ld none (.tmp 18), none⟩,
       ⟨(some 20), .mv (.tmp 0), none⟩,
       ⟨(some 21), .nck (.tmp 20), none⟩,
       ⟨(some 22), .pad 1 (.tmp 21), none⟩,
       ⟨(some 23), .ld none (.tmp 22), none⟩,
       ⟨(some 24), .ixs 1 (.tmp 19) (.tmp 23), none⟩,
       ⟨(some 25), .ld none (.tmp 24), none⟩,
       ⟨(some 5), .mv (.tmp 25), none⟩] [[], [0], [1], [2], [], [4], [5], [6], [3, 7], [8], [9, 0, 1, 2, 3, 4, 5, 6, 7, 8, 9]])
    .skip))
  (.seq (.reg [⟨(some 26), .mv (.tmp 0), none⟩,
     ⟨(some 27), .mv (.tmp 0), none⟩,
     ⟨(some 28), .nck (.tmp 27), none⟩,
     ⟨(some 29), .pad 1 (.tmp 28), none⟩,
     ⟨(some 30), .ld none (.tmp 29), none⟩,
     ⟨(some 31), .bin .add (.tmp 30) (.const (.int .i64 1)), none⟩,
     ⟨(some 32), .nck (.tmp 26), none⟩,
     ⟨(some 33), .pad 1 (.tmp 32), none⟩,
     ⟨none, .st 1 (.tmp 33) (.tmp 31), none⟩])
  (.seq (.reg [⟨(some 34), .mv (.tmp 5), none⟩,
     ⟨(some 35), .mv (.tmp 1), none⟩,
     ⟨(some 36), .call 44 [(.tmp 34), (.tmp 35)], none⟩,
     ⟨(some 4), .mv (.tmp 36), none⟩])
  .ret)))))
def glyphicmake_Seq_Next_v1.f (below1 : Int) (m0_0 : List Int) (m0_1 : Int) : Option (Int × Int) := (if m0_1 < (m0_0.length : Int) then ((lget m0_0 m0_1).bind fun x61 => (some x61)) else (some 0) : Option (Int)).bind fun x71 => ((glyphicworld_Number.f x71 below1).bind fun t72 => (some (t72, wr64 (m0_1 + 1))))
theorem glyphicmake_Seq_Next_v1.ok {S : Seal} {B0 : Nat} {below1 : Int} {m0_0 : List Int} {m0_1 : Int} {r0_ : Int} {r1_ : Int}{a_m0_0 : Option Addr} {c_m0_0 : Nat} (h_m0_0 : SlI S .i64 m0_0 a_m0_0) (e : glyphicmake_Seq_Next_v1.f below1 m0_0 m0_1 = some (r0_, r1_)) :
    Cal Try.prog 37 [.pointer (some ⟨B0, 0, none⟩), .int .i64 below1] ([⟨B0, [.slice a_m0_0 m0_0.length c_m0_0, .int .i64 m0_1], 2⟩] : List Own) S fun v H' S' => v = .int .i64 r0_ ∧ H' = ([⟨B0, [.slice a_m0_0 m0_0.length c_m0_0, .int .i64 r1_], 2⟩] : List Own) ∧ S' = S := by
  unfold glyphicmake_Seq_Next_v1.f at e
  refine cal_of (c := c37) (N := 37) Try.func37 rfl rfl (by kernel_rfl) (rs := [.t 4]) (by kernel_rfl) (Nat.le_of_ble_eq_true rfl) ?_
  unfold c37
  refine w_seq ?_
  refine w_reg fun all => ?_
  refine t_qz 1 [0, 1] (σ' := [(0, .pointer (some ⟨B0, 0, none⟩)), (1, .int .i64 below1)]) (by kernel_rfl) ?_
  refine t_end ?_
  show W _ _ _ _ _ _ _
  refine w_seq ?_
  refine w_reg fun all => ?_
  refine t_qz 1 [0, 1, 5] (σ' := [(0, .pointer (some ⟨B0, 0, none⟩)), (1, .int .i64 below1), (5, .int .i64 0)]) (by kernel_rfl) ?_
  refine t_end ?_
  show W _ _ _ _ _ _ _
  obtain ⟨x71, e58, e⟩ := bind_of e
  refine w_cut [0, 1, 5] (fun σ_ H_ S_ => [(0, .pointer (some ⟨B0, 0, none⟩)), (1, .int .i64 below1), (5, .int .i64 x71)] = σ_ ∧ ([⟨B0, [.slice a_m0_0 m0_0.length c_m0_0, .int .i64 m0_1], 2⟩] : List Own) = H_ ∧ S = S_) ?_ ?_
  · show W _ _ _ _ _ _ _
    refine w_seq ?_
    by_cases c60 : m0_1 < (m0_0.length : Int)
    · rw [if_pos c60] at e58
      have c60b : (decide (m0_1 < (m0_0.length : Int))) = true := decide_eq_true c60
      refine w_drwE mixed 10 [.v (.pointer (some ⟨B0, 0, none⟩)), .v (.pointer (some ⟨B0, 0, none⟩)), .v (.pointer (some ⟨B0, 1, none⟩)), .v (.int .i64 m0_1), .v (.pointer (some ⟨B0, 0, none⟩)), .v (.pointer (some ⟨B0, 0, none⟩)), .v (.pointer (some ⟨B0, 0, none⟩)), .v (.slice a_m0_0 m0_0.length c_m0_0), .v (.int .i64 (m0_0.length : Int)), .v (.bool true)] (by kernel_rfl) ?_ ?_
      · refine DI.sq 3 (by kernel_rfl) rfl ?_
        refine .cons (.ld1 rfl rfl rfl (.at 0 rfl rfl)) ?_
        refine DI.sq 3 (by kernel_rfl) rfl ?_
        refine .cons (.ld1 rfl rfl rfl (.at 0 rfl rfl)) ?_
        refine DI.sq 1 (by kernel_rfl) rfl ?_
        refine .cons (dv_quiet rfl (congrArg (fun t => some (Value.bool t)) c60b)) ?_
        exact .nil
      refine fk_q 10 [0, 1, 5, 15] (σ' := [(0, .pointer (some ⟨B0, 0, none⟩)), (1, .int .i64 below1), (5, .int .i64 0), (15, .bool true)]) t_more (by kernel_rfl) ?_
      refine fk_nil fun all => ?_
      refine t_keep [0, 1, 5, 15] (σ' := [(0, .pointer (some ⟨B0, 0, none⟩)), (1, .int .i64 below1), (5, .int .i64 0), (15, .bool true)]) (by kernel_rfl) ?_
      refine t_end ?_
      show W _ _ _ _ _ _ _
      refine w_cond rfl (fun _ => ?_) (fun c_ => by cases c_)
      show W _ _ _ _ _ _ _
      obtain ⟨x61, hx62, e58⟩ := bind_of e58
      obtain ⟨lb63, lo64, ll65, la66, lS67, lv68, lz69, lu70⟩ := sl_get h_m0_0 hx62
      refine w_drwE mixed 11 [.v (.pointer (some ⟨B0, 0, none⟩)), .v (.pointer (some ⟨B0, 0, none⟩)), .v (.pointer (some ⟨B0, 0, none⟩)), .v (.slice a_m0_0 m0_0.length c_m0_0), .v (.pointer (some ⟨B0, 0, none⟩)), .v (.pointer (some ⟨B0, 0, none⟩)), .v (.pointer (some ⟨B0, 1, none⟩)), .v (.int .i64 m0_1), .v (.pointer (some ⟨lb63, lo64 + (m0_1).toNat * 1, none⟩)), .v (.int .i64 x61), .v (.int .i64 x61)] (by kernel_rfl) ?_ ?_
      · refine DI.sq 3 (by kernel_rfl) rfl ?_
        refine .cons (.ld1 rfl rfl rfl (.at 0 rfl rfl)) ?_
        refine DI.sq 3 (by kernel_rfl) rfl ?_
        refine .cons (.ld1 rfl rfl rfl (.at 0 rfl rfl)) ?_
        refine .cons (.quiet rfl (ixs_sl rfl rfl la66 lz69 lu70)) ?_
        refine .cons (.ld1 rfl rfl rfl (.sealed lS67 (by simpa using lv68))) ?_
        refine DI.sq 1 (by kernel_rfl) rfl ?_
        exact .nil
      refine fk_q 11 [0, 1, 5] (σ' := [(0, .pointer (some ⟨B0, 0, none⟩)), (1, .int .i64 below1), (5, .int .i64 x61)]) t_more (by kernel_rfl) ?_
      refine fk_nil fun all => ?_
      refine t_keep [0, 1, 5] (σ' := [(0, .pointer (some ⟨B0, 0, none⟩)), (1, .int .i64 below1), (5, .int .i64 x61)]) (by kernel_rfl) ?_
      refine t_end ?_
      obtain rfl := Option.some.inj e58
      exact ⟨([⟨B0, [.slice a_m0_0 m0_0.length c_m0_0, .int .i64 m0_1], 2⟩] : List Own), S, VS.sel [0] (by kernel_rfl), by kernel_rfl, rfl, rfl⟩
    · rw [if_neg c60] at e58
      have c60b : (decide (m0_1 < (m0_0.length : Int))) = false := decide_eq_false c60
      refine w_drwE mixed 10 [.v (.pointer (some ⟨B0, 0, none⟩)), .v (.pointer (some ⟨B0, 0, none⟩)), .v (.pointer (some ⟨B0, 1, none⟩)), .v (.int .i64 m0_1), .v (.pointer (some ⟨B0, 0, none⟩)), .v (.pointer (some ⟨B0, 0, none⟩)), .v (.pointer (some ⟨B0, 0, none⟩)), .v (.slice a_m0_0 m0_0.length c_m0_0), .v (.int .i64 (m0_0.length : Int)), .v (.bool false)] (by kernel_rfl) ?_ ?_
      · refine DI.sq 3 (by kernel_rfl) rfl ?_
        refine .cons (.ld1 rfl rfl rfl (.at 0 rfl rfl)) ?_
        refine DI.sq 3 (by kernel_rfl) rfl ?_
        refine .cons (.ld1 rfl rfl rfl (.at 0 rfl rfl)) ?_
        refine DI.sq 1 (by kernel_rfl) rfl ?_
        refine .cons (dv_quiet rfl (congrArg (fun t => some (Value.bool t)) c60b)) ?_
        exact .nil
      refine fk_q 10 [0, 1, 5, 15] (σ' := [(0, .pointer (some ⟨B0, 0, none⟩)), (1, .int .i64 below1), (5, .int .i64 0), (15, .bool false)]) t_more (by kernel_rfl) ?_
      refine fk_nil fun all => ?_
      refine t_keep [0, 1, 5, 15] (σ' := [(0, .pointer (some ⟨B0, 0, none⟩)), (1, .int .i64 below1), (5, .int .i64 0), (15, .bool false)]) (by kernel_rfl) ?_
      refine t_end ?_
      show W _ _ _ _ _ _ _
      refine w_cond rfl (fun c_ => by cases c_) (fun _ => ?_)
      show W _ _ _ _ _ _ _
      refine w_skip ?_
      obtain rfl := Option.some.inj e58
      exact ⟨([⟨B0, [.slice a_m0_0 m0_0.length c_m0_0, .int .i64 m0_1], 2⟩] : List Own), S, VS.sel [0] (by kernel_rfl), by kernel_rfl, rfl, rfl⟩
  · rintro σ_ H_ S_ ⟨rfl, rfl, rfl⟩
    refine w_seq ?_
    refine w_reg fun all => ?_
    refine t_qz 4 [1, 5, 26, 29] (σ' := [(1, .int .i64 below1), (5, .int .i64 x71), (26, .pointer (some ⟨B0, 0, none⟩)), (29, .pointer (some ⟨B0, 1, none⟩))]) (by kernel_rfl) ?_
    refine t_v (.ld1 rfl rfl rfl (.at 0 rfl rfl)) ?_
    refine t_qz 3 [1, 5, 31, 33] (σ' := [(1, .int .i64 below1), (5, .int .i64 x71), (31, .int .i64 (wr64 (m0_1 + 1))), (33, .pointer (some ⟨B0, 1, none⟩))]) (by kernel_rfl) ?_
    refine t_sti 0 (cs := [.slice a_m0_0 m0_0.length c_m0_0, .int .i64 (wr64 (m0_1 + 1))]) rfl rfl rfl rfl rfl rfl rfl rfl rfl ?_
    refine t_keep [1, 5] (σ' := [(1, .int .i64 below1), (5, .int .i64 x71)]) (by kernel_rfl) ?_
    refine t_end ?_
    show W _ _ _ _ _ _ _
    refine w_seq ?_
    refine w_reg fun all => ?_
    obtain ⟨t72, h73, e⟩ := bind_of e
    refine t_qz 2 [34, 35] (σ' := [(34, .int .i64 x71), (35, .int .i64 below1)]) (by kernel_rfl) ?_
    refine t_v (.call (vs := [.int .i64 x71, .int .i64 below1]) rfl rfl (by kernel_rfl) (glyphicworld_Number.ok h73)) ?_
    refine t_qz 1 [4] (σ' := [(4, .int .i64 t72)]) (by kernel_rfl) ?_
    refine t_end ?_
    show W _ _ _ _ _ _ _
    refine w_ret ?_
    simp only [Option.some.injEq, Prod.mk.injEq] at e
    obtain ⟨rfl, rfl⟩ := e
    exact ⟨[.int .i64 t72], ([⟨B0, [.slice a_m0_0 m0_0.length c_m0_0, .int .i64 (wr64 (m0_1 + 1))], 2⟩] : List Own), S, ⟨rfl, trivial⟩, VS.sel [0] (by kernel_rfl), rfl, rfl, rfl⟩

/-- glyphicmake.Color -/
def c54 : C :=
  (.seq (.reg [⟨(some 2), .new [(.int .u8 0), (.int .u8 0), (.int .u8 0), (.int .u8 0)], none⟩])
  (.seq (.reg [⟨(some 3), .bld [(.int .u8 0), (.int .u8 0), (.int .u8 0), (.int .u8 0)] [(0, 1, (.const (.int .u8 255))), (3, 1, (.const (.int .u8 255)))], none⟩,
     ⟨(some 4), .bld [(.int .u8 0), (.int .u8 0), (.int .u8 0), (.int .u8 0)] [(1, 1, (.const (.int .u8 128))), (3, 1, (.const (.int .u8 255)))], none⟩,
     ⟨(some 5), .bld [(.int .u8 0), (.int .u8 0), (.int .u8 0), (.int .u8 0)] [(2, 1, (.const (.int .u8 200))), (3, 1, (.const (.int .u8 100)))], none⟩,
     ⟨(some 6), .bld [(.int .u8 0), (.int .u8 0), (.int .u8 0), (.int .u8 0)] [(0, 1, (.const (.int .u8 10))), (1, 1, (.const (.int .u8 20))), (2, 1, (.const (.int .u8 30))), (3, 1, (.const (.int .u8 1)))], none⟩,
     ⟨(some 7), .bld [(.int .u8 0), (.int .u8 0), (.int .u8 0), (.int .u8 0)] [(0, 1, (.const (.int .u8 255))), (1, 1, (.const (.int .u8 255))), (2, 1, (.const (.int .u8 255))), (3, 1, (.const (.int .u8 255)))], none⟩,
     ⟨(some 8), .bld [(.int .u8 0), (.int .u8 0), (.int .u8 0), (.int .u8 0)] [(3, 1, (.const (.int .u8 0)))], none⟩,
     ⟨(some 9), .bld [(.int .u8 0), (.int .u8 0), (.int .u8 0), (.int .u8 0)] [(0, 1, (.const (.int .u8 7))), (3, 1, (.const (.int .u8 254)))], none⟩,
     ⟨(some 10), .bsl [(.int .u8 0), (.int .u8 0), (.int .u8 0), (.int .u8 0), (.int .u8 0), (.int .u8 0), (.int .u8 0), (.int .u8 0), (.int .u8 0), (.int .u8 0), (.int .u8 0), (.int .u8 0), (.int .u8 0), (.int .u8 0), (.int .u8 0), (.int .u8 0), (.int .u8 0), (.int .u8 0), (.int .u8 0), (.int .u8 0), (.int .u8 0), (.int .u8 0), (.int .u8 0), (.int .u8 0), (.int .u8 0), (.int .u8 0), (.int .u8 0), (.int .u8 0)] 7 [(0, 4, (.tmp 3)), (4, 4, (.tmp 4)), (8, 4, (.tmp 5)), (12, 4, (.tmp 6)), (16, 4, (.tmp 7)), (20, 4, (.tmp 8)), (24, 4, (.tmp 9))], none⟩,
     ⟨(some 11), .mv (.tmp 0), none⟩,
     ⟨(some 12), .call 37 [(.tmp 11), (.const (.int .i64 7))], none⟩,
     ⟨(some 13), .ixs 4 (.tmp 10) (.tmp 12), none⟩,
     ⟨(some 14), .ld (some 4) (.tmp 13), none⟩,
     ⟨none, .st 4 (.tmp 2) (.tmp 14), none⟩])
  .ret))
def glyphicmake_Color_v1.f (m0_0 : List Int) (m0_1 : Int) : Option (Int × Int × Int × Int × Int) := (glyphicmake_Seq_Next_v1.f 7 m0_0 m0_1).bind fun (t86, t87) => (if t86 = 0 then (some (255, 0, 0, 255, t87)) else (if t86 = 1 then (some (0, 128, 0, 255, t87)) else (if t86 = 2 then (some (0, 0, 200, 100, t87)) else (if t86 = 3 then (some (10, 20, 30, 1, t87)) else (if t86 = 4 then (some (255, 255, 255, 255, t87)) else (if t86 = 5 then (some (0, 0, 0, 0, t87)) else (if t86 = 6 then (some (7, 0, 0, 254, t87)) else (none))))))))
theorem glyphicmake_Color_v1.ok {S : Seal} {B0 : Nat} {m0_0 : List Int} {m0_1 : Int} {r0_ : Int} {r1_ : Int} {r2_ : Int} {r3_ : Int} {r4_ : Int}{a_m0_0 : Option Addr} {c_m0_0 : Nat} (h_m0_0 : SlI S .i64 m0_0 a_m0_0) (e : glyphicmake_Color_v1.f m0_0 m0_1 = some (r0_, r1_, r2_, r3_, r4_)) :
    Cal Try.prog 54 [.pointer (some ⟨B0, 0, none⟩)] ([⟨B0, [.slice a_m0_0 m0_0.length c_m0_0, .int .i64 m0_1], 2⟩] : List Own) S fun v H' S' => v = .agg #[.int .u8 r0_, .int .u8 r1_, .int .u8 r2_, .int .u8 r3_] ∧ H' = ([⟨B0, [.slice a_m0_0 m0_0.length c_m0_0, .int .i64 r4_], 2⟩] : List Own) ∧ S' = S := by
  unfold glyphicmake_Color_v1.f at e
  refine cal_of (c := c54) (N := 15) Try.func54 rfl rfl (by kernel_rfl) (rs := [.cn 4 2]) (by kernel_rfl) (Nat.le_of_ble_eq_true rfl) ?_
  unfold c54
  refine w_seq ?_
  refine w_reg fun all => ?_
  refine t_a (.new rfl rfl) fun b84 fb84 sb84 => ?_
  refine t_keep [0, 2] (σ' := [(0, .pointer (some ⟨B0, 0, none⟩)), (2, .pointer (some ⟨b84, 0, none⟩))]) (by kernel_rfl) ?_
  refine t_end ?_
  show W _ _ _ _ _ _ _
  refine w_seq ?_
  refine w_reg fun all => ?_
  refine t_qz 7 [0, 2, 3, 4, 5, 6, 7, 8, 9] (σ' := [(0, .pointer (some ⟨B0, 0, none⟩)), (2, .pointer (some ⟨b84, 0, none⟩)), (3, .agg #[.int .u8 255, .int .u8 0, .int .u8 0, .int .u8 255]), (4, .agg #[.int .u8 0, .int .u8 128, .int .u8 0, .int .u8 255]), (5, .agg #[.int .u8 0, .int .u8 0, .int .u8 200, .int .u8 100]), (6, .agg #[.int .u8 10, .int .u8 20, .int .u8 30, .int .u8 1]), (7, .agg #[.int .u8 255, .int .u8 255, .int .u8 255, .int .u8 255]), (8, .agg #[.int .u8 0, .int .u8 0, .int .u8 0, .int .u8 0]), (9, .agg #[.int .u8 7, .int .u8 0, .int .u8 0, .int .u8 254])]) (by kernel_rfl) ?_
  refine t_a (.bsl rfl rfl rfl rfl) fun b85 fb85 sb85 => ?_
  obtain ⟨⟨t86, t87⟩, h88, e⟩ := bind_of e
  try dsimp only at e
  refine t_qz 1 [2, 10, 11] (σ' := [(2, .pointer (some ⟨b84, 0, none⟩)), (10, .slice (some ⟨b85, 0, none⟩) 7 7), (11, .pointer (some ⟨B0, 0, none⟩))]) (by kernel_rfl) ?_
  refine t_call (vs := [.pointer (some ⟨B0, 0, none⟩), .int .i64 7]) (H1 := ([⟨B0, [.slice a_m0_0 m0_0.length c_m0_0, .int .i64 m0_1], 2⟩] : List Own)) (F := ([⟨b85, [.int .u8 255, .int .u8 0, .int .u8 0, .int .u8 255, .int .u8 0, .int .u8 128, .int .u8 0, .int .u8 255, .int .u8 0, .int .u8 0, .int .u8 200, .int .u8 100, .int .u8 10, .int .u8 20, .int .u8 30, .int .u8 1, .int .u8 255, .int .u8 255, .int .u8 255, .int .u8 255, .int .u8 0, .int .u8 0, .int .u8 0, .int .u8 0, .int .u8 7, .int .u8 0, .int .u8 0, .int .u8 254], 28⟩, ⟨b84, [.int .u8 0, .int .u8 0, .int .u8 0, .int .u8 0], 4⟩] : List Own)) rfl rfl (by kernel_rfl) (sel_perm (is := [2]) (by kernel_rfl)) (glyphicmake_Seq_Next_v1.ok h_m0_0 h88) ?_
  rintro _ _ S_ ⟨rfl, rfl, hS_⟩
  obtain rfl := hS_.symm
  by_cases c89 : t86 = 0
  · rw [if_pos c89] at e
    have c89b : (t86 == 0) = true := beq_iff_eq.mpr c89
    refine t_v (.quiet rfl (ixs_at (j := 0) (u := .pointer (some ⟨b85, 0, none⟩)) rfl c89b (by kernel_rfl))) ?_
    refine t_v (.ldn rfl rfl rfl (.at 1 rfl rfl)) ?_
    refine t_sti 2 (cs := [.int .u8 255, .int .u8 0, .int .u8 0, .int .u8 255]) rfl rfl rfl rfl rfl rfl rfl rfl rfl ?_
    refine t_keep [2] (σ' := [(2, .pointer (some ⟨b84, 0, none⟩))]) (by kernel_rfl) ?_
    refine t_end ?_
    show W _ _ _ _ _ _ _
    refine w_ret ?_
    simp only [Option.some.injEq, Prod.mk.injEq] at e
    obtain ⟨rfl, rfl, rfl, rfl, rfl⟩ := e
    exact ⟨[.agg #[.int .u8 255, .int .u8 0, .int .u8 0, .int .u8 255]], ([⟨B0, [.slice a_m0_0 m0_0.length c_m0_0, .int .i64 t87], 2⟩] : List Own), S, ⟨⟨_, _, _, rfl, .at 2 rfl rfl, rfl⟩, trivial⟩, VS.sel [0] (by kernel_rfl), rfl, rfl, rfl⟩
  · rw [if_neg c89] at e
    have c89b : (t86 == 0) = false := beq_eq_false_iff_ne.mpr c89
    by_cases c90 : t86 = 1
    · rw [if_pos c90] at e
      have c90b : (t86 == 1) = true := beq_iff_eq.mpr c90
      refine t_v (.quiet rfl (ixs_at (j := 1) (u := .pointer (some ⟨b85, 4, none⟩)) rfl c90b (by kernel_rfl))) ?_
      refine t_v (.ldn rfl rfl rfl (.at 1 rfl rfl)) ?_
      refine t_sti 2 (cs := [.int .u8 0, .int .u8 128, .int .u8 0, .int .u8 255]) rfl rfl rfl rfl rfl rfl rfl rfl rfl ?_
      refine t_keep [2] (σ' := [(2, .pointer (some ⟨b84, 0, none⟩))]) (by kernel_rfl) ?_
      refine t_end ?_
      show W _ _ _ _ _ _ _
      refine w_ret ?_
      simp only [Option.some.injEq, Prod.mk.injEq] at e
      obtain ⟨rfl, rfl, rfl, rfl, rfl⟩ := e
      exact ⟨[.agg #[.int .u8 0, .int .u8 128, .int .u8 0, .int .u8 255]], ([⟨B0, [.slice a_m0_0 m0_0.length c_m0_0, .int .i64 t87], 2⟩] : List Own), S, ⟨⟨_, _, _, rfl, .at 2 rfl rfl, rfl⟩, trivial⟩, VS.sel [0] (by kernel_rfl), rfl, rfl, rfl⟩
    · rw [if_neg c90] at e
      have c90b : (t86 == 1) = false := beq_eq_false_iff_ne.mpr c90
      by_cases c91 : t86 = 2
      · rw [if_pos c91] at e
        have c91b : (t86 == 2) = true := beq_iff_eq.mpr c91
        refine t_v (.quiet rfl (ixs_at (j := 2) (u := .pointer (some ⟨b85, 8, none⟩)) rfl c91b (by kernel_rfl))) ?_
        refine t_v (.ldn rfl rfl rfl (.at 1 rfl rfl)) ?_
        refine t_sti 2 (cs := [.int .u8 0, .int .u8 0, .int .u8 200, .int .u8 100]) rfl rfl rfl rfl rfl rfl rfl rfl rfl ?_
        refine t_keep [2] (σ' := [(2, .pointer (some ⟨b84, 0, none⟩))]) (by kernel_rfl) ?_
        refine t_end ?_
        show W _ _ _ _ _ _ _
        refine w_ret ?_
        simp only [Option.some.injEq, Prod.mk.injEq] at e
        obtain ⟨rfl, rfl, rfl, rfl, rfl⟩ := e
        exact ⟨[.agg #[.int .u8 0, .int .u8 0, .int .u8 200, .int .u8 100]], ([⟨B0, [.slice a_m0_0 m0_0.length c_m0_0, .int .i64 t87], 2⟩] : List Own), S, ⟨⟨_, _, _, rfl, .at 2 rfl rfl, rfl⟩, trivial⟩, VS.sel [0] (by kernel_rfl), rfl, rfl, rfl⟩
      · rw [if_neg c91] at e
        have c91b : (t86 == 2) = false := beq_eq_false_iff_ne.mpr c91
        by_cases c92 : t86 = 3
        · rw [if_pos c92] at e
          have c92b : (t86 == 3) = true := beq_iff_eq.mpr c92
          refine t_v (.quiet rfl (ixs_at (j := 3) (u := .pointer (some ⟨b85, 12, none⟩)) rfl c92b (by kernel_rfl))) ?_
          refine t_v (.ldn rfl rfl rfl (.at 1 rfl rfl)) ?_
          refine t_sti 2 (cs := [.int .u8 10, .int .u8 20, .int .u8 30, .int .u8 1]) rfl rfl rfl rfl rfl rfl rfl rfl rfl ?_
          refine t_keep [2] (σ' := [(2, .pointer (some ⟨b84, 0, none⟩))]) (by kernel_rfl) ?_
          refine t_end ?_
          show W _ _ _ _ _ _ _
          refine w_ret ?_
          simp only [Option.some.injEq, Prod.mk.injEq] at e
          obtain ⟨rfl, rfl, rfl, rfl, rfl⟩ := e
          exact ⟨[.agg #[.int .u8 10, .int .u8 20, .int .u8 30, .int .u8 1]], ([⟨B0, [.slice a_m0_0 m0_0.length c_m0_0, .int .i64 t87], 2⟩] : List Own), S, ⟨⟨_, _, _, rfl, .at 2 rfl rfl, rfl⟩, trivial⟩, VS.sel [0] (by kernel_rfl), rfl, rfl, rfl⟩
        · rw [if_neg c92] at e
          have c92b : (t86 == 3) = false := beq_eq_false_iff_ne.mpr c92
          by_cases c93 : t86 = 4
          · rw [if_pos c93] at e
            have c93b : (t86 == 4) = true := beq_iff_eq.mpr c93
            refine t_v (.quiet rfl (ixs_at (j := 4) (u := .pointer (some ⟨b85, 16, none⟩)) rfl c93b (by kernel_rfl))) ?_
            refine t_v (.ldn rfl rfl rfl (.at 1 rfl rfl)) ?_
            refine t_sti 2 (cs := [.int .u8 255, .int .u8 255, .int .u8 255, .int .u8 255]) rfl rfl rfl rfl rfl rfl rfl rfl rfl ?_
            refine t_keep [2] (σ' := [(2, .pointer (some ⟨b84, 0, none⟩))]) (by kernel_rfl) ?_
            refine t_end ?_
            show W _ _ _ _ _ _ _
            refine w_ret ?_
            simp only [Option.some.injEq, Prod.mk.injEq] at e
            obtain ⟨rfl, rfl, rfl, rfl, rfl⟩ := e
            exact ⟨[.agg #[.int .u8 255, .int .u8 255, .int .u8 255, .int .u8 255]], ([⟨B0, [.slice a_m0_0 m0_0.length c_m0_0, .int .i64 t87], 2⟩] : List Own), S, ⟨⟨_, _, _, rfl, .at 2 rfl rfl, rfl⟩, trivial⟩, VS.sel [0] (by kernel_rfl), rfl, rfl, rfl⟩
          · rw [if_neg c93] at e
            have c93b : (t86 == 4) = false := beq_eq_false_iff_ne.mpr c93
            by_cases c94 : t86 = 5
            · rw [if_pos c94] at e
              have c94b : (t86 == 5) = true := beq_iff_eq.mpr c94
              refine t_v (.quiet rfl (ixs_at (j := 5) (u := .pointer (some ⟨b85, 20, none⟩)) rfl c94b (by kernel_rfl))) ?_
              refine t_v (.ldn rfl rfl rfl (.at 1 rfl rfl)) ?_
              refine t_sti 2 (cs := [.int .u8 0, .int .u8 0, .int .u8 0, .int .u8 0]) rfl rfl rfl rfl rfl rfl rfl rfl rfl ?_
              refine t_keep [2] (σ' := [(2, .pointer (some ⟨b84, 0, none⟩))]) (by kernel_rfl) ?_
              refine t_end ?_
              show W _ _ _ _ _ _ _
              refine w_ret ?_
              simp only [Option.some.injEq, Prod.mk.injEq] at e
              obtain ⟨rfl, rfl, rfl, rfl, rfl⟩ := e
              exact ⟨[.agg #[.int .u8 0, .int .u8 0, .int .u8 0, .int .u8 0]], ([⟨B0, [.slice a_m0_0 m0_0.length c_m0_0, .int .i64 t87], 2⟩] : List Own), S, ⟨⟨_, _, _, rfl, .at 2 rfl rfl, rfl⟩, trivial⟩, VS.sel [0] (by kernel_rfl), rfl, rfl, rfl⟩
            · rw [if_neg c94] at e
              have c94b : (t86 == 5) = false := beq_eq_false_iff_ne.mpr c94
              by_cases c95 : t86 = 6
              · rw [if_pos c95] at e
                have c95b : (t86 == 6) = true := beq_iff_eq.mpr c95
                refine t_v (.quiet rfl (ixs_at (j := 6) (u := .pointer (some ⟨b85, 24, none⟩)) rfl c95b (by kernel_rfl))) ?_
                refine t_v (.ldn rfl rfl rfl (.at 1 rfl rfl)) ?_
                refine t_sti 2 (cs := [.int .u8 7, .int .u8 0, .int .u8 0, .int .u8 254]) rfl rfl rfl rfl rfl rfl rfl rfl rfl ?_
                refine t_keep [2] (σ' := [(2, .pointer (some ⟨b84, 0, none⟩))]) (by kernel_rfl) ?_
                refine t_end ?_
                show W _ _ _ _ _ _ _
                refine w_ret ?_
                simp only [Option.some.injEq, Prod.mk.injEq] at e
                obtain ⟨rfl, rfl, rfl, rfl, rfl⟩ := e
                exact ⟨[.agg #[.int .u8 7, .int .u8 0, .int .u8 0, .int .u8 254]], ([⟨B0, [.slice a_m0_0 m0_0.length c_m0_0, .int .i64 t87], 2⟩] : List Own), S, ⟨⟨_, _, _, rfl, .at 2 rfl rfl, rfl⟩, trivial⟩, VS.sel [0] (by kernel_rfl), rfl, rfl, rfl⟩
              · rw [if_neg c95] at e
                have c95b : (t86 == 6) = false := beq_eq_false_iff_ne.mpr c95
                cases e

/-- glyphicmake.Point -/
def c18 : C :=
  (.seq (.reg [⟨(some 4), .new [(.int .i64 0), (.int .i64 0)], none⟩])
  (.seq (.reg [⟨(some 6), .mv (.tmp 0), none⟩,
     ⟨(some 7), .mv (.tmp 1), none⟩,
     ⟨(some 8), .bin .mul (.const (.int .i64 2)) (.tmp 7), none⟩,
     ⟨(some 9), .bin .add (.tmp 8) (.const (.int .i64 1)), none⟩,
     ⟨(some 10), .call 37 [(.tmp 6), (.tmp 9)], none⟩,
     ⟨(some 11), .mv (.tmp 1), none⟩,
     ⟨(some 12), .bin .sub (.tmp 10) (.tmp 11), none⟩,
     ⟨(some 5), .mv (.tmp 12), none⟩])
  (.seq (.reg [⟨(some 13), .mv (.tmp 5), none⟩,
     ⟨(some 14), .mv (.tmp 0), none⟩,
     ⟨(some 15), .mv (.tmp 1), none⟩,
     ⟨(some 16), .bin .mul (.const (.int .i64 2)) (.tmp 15), none⟩,
     ⟨(some 17), .bin .add (.tmp 16) (.const (.int .i64 1)), none⟩,
     ⟨(some 18), .call 37 [(.tmp 14), (.tmp 17)], none⟩,
     ⟨(some 19), .mv (.tmp 1), none⟩,
     ⟨(some 20), .bin .sub (.tmp 18) (.tmp 19), none⟩,
     ⟨(some 21), .bld [(.int .i64 0), (.int .i64 0)] [(0, 1, (.tmp 13)), (1, 1, (.tmp 20))], none⟩,
     ⟨none, .st 2 (.tmp 4) (.tmp 21), none⟩])
  .ret)))
def glyphicmake_Point_v1.f (far1 : Int) (m0_0 : List Int) (m0_1 : Int) : Option (Int × Int × Int) := (glyphicmake_Seq_Next_v1.f (wr64 ((wr64 (2 * far1)) + 1)) m0_0 m0_1).bind fun (t52, t53) => ((glyphicmake_Seq_Next_v1.f (wr64 ((wr64 (2 * far1)) + 1)) m0_0 t53).bind fun (t55, t56) => (some (wr64 (t52 - far1), wr64 (t55 - far1), t56)))
theorem glyphicmake_Point_v1.ok {S : Seal} {B0 : Nat} {far1 : Int} {m0_0 : List Int} {m0_1 : Int} {r0_ : Int} {r1_ : Int} {r2_ : Int}{a_m0_0 : Option Addr} {c_m0_0 : Nat} (h_m0_0 : SlI S .i64 m0_0 a_m0_0) (e : glyphicmake_Point_v1.f far1 m0_0 m0_1 = some (r0_, r1_, r2_)) :
    Cal Try.prog 18 [.pointer (some ⟨B0, 0, none⟩), .int .i64 far1] ([⟨B0, [.slice a_m0_0 m0_0.length c_m0_0, .int .i64 m0_1], 2⟩] : List Own) S fun v H' S' => v = .agg #[.int .i64 r0_, .int .i64 r1_] ∧ H' = ([⟨B0, [.slice a_m0_0 m0_0.length c_m0_0, .int .i64 r2_], 2⟩] : List Own) ∧ S' = S := by
  unfold glyphicmake_Point_v1.f at e
  refine cal_of (c := c18) (N := 22) Try.func18 rfl rfl (by kernel_rfl) (rs := [.cn 2 4]) (by kernel_rfl) (Nat.le_of_ble_eq_true rfl) ?_
  unfold c18
  refine w_seq ?_
  refine w_reg fun all => ?_
  refine t_a (.new rfl rfl) fun b51 fb51 sb51 => ?_
  refine t_keep [0, 1, 4] (σ' := [(0, .pointer (some ⟨B0, 0, none⟩)), (1, .int .i64 far1), (4, .pointer (some ⟨b51, 0, none⟩))]) (by kernel_rfl) ?_
  refine t_end ?_
  show W _ _ _ _ _ _ _
  refine w_seq ?_
  refine w_reg fun all => ?_
  obtain ⟨⟨t52, t53⟩, h54, e⟩ := bind_of e
  try dsimp only at e
  refine t_qz 4 [0, 1, 4, 6, 9] (σ' := [(0, .pointer (some ⟨B0, 0, none⟩)), (1, .int .i64 far1), (4, .pointer (some ⟨b51, 0, none⟩)), (6, .pointer (some ⟨B0, 0, none⟩)), (9, .int .i64 (wr64 ((wr64 (2 * far1)) + 1)))]) (by kernel_rfl) ?_
  refine t_call (vs := [.pointer (some ⟨B0, 0, none⟩), .int .i64 (wr64 ((wr64 (2 * far1)) + 1))]) (H1 := ([⟨B0, [.slice a_m0_0 m0_0.length c_m0_0, .int .i64 m0_1], 2⟩] : List Own)) (F := ([⟨b51, [.int .i64 0, .int .i64 0], 2⟩] : List Own)) rfl rfl (by kernel_rfl) (sel_perm (is := [1]) (by kernel_rfl)) (glyphicmake_Seq_Next_v1.ok h_m0_0 h54) ?_
  rintro _ _ S_ ⟨rfl, rfl, hS_⟩
  obtain rfl := hS_.symm
  refine t_qz 3 [0, 1, 4, 5] (σ' := [(0, .pointer (some ⟨B0, 0, none⟩)), (1, .int .i64 far1), (4, .pointer (some ⟨b51, 0, none⟩)), (5, .int .i64 (wr64 (t52 - far1)))]) (by kernel_rfl) ?_
  refine t_end ?_
  show W _ _ _ _ _ _ _
  refine w_seq ?_
  refine w_reg fun all => ?_
  obtain ⟨⟨t55, t56⟩, h57, e⟩ := bind_of e
  try dsimp only at e
  refine t_qz 5 [1, 4, 13, 14, 17] (σ' := [(1, .int .i64 far1), (4, .pointer (some ⟨b51, 0, none⟩)), (13, .int .i64 (wr64 (t52 - far1))), (14, .pointer (some ⟨B0, 0, none⟩)), (17, .int .i64 (wr64 ((wr64 (2 * far1)) + 1)))]) (by kernel_rfl) ?_
  refine t_call (vs := [.pointer (some ⟨B0, 0, none⟩), .int .i64 (wr64 ((wr64 (2 * far1)) + 1))]) (H1 := ([⟨B0, [.slice a_m0_0 m0_0.length c_m0_0, .int .i64 t53], 2⟩] : List Own)) (F := ([⟨b51, [.int .i64 0, .int .i64 0], 2⟩] : List Own)) rfl rfl (by kernel_rfl) (sel_perm (is := [0]) (by kernel_rfl)) (glyphicmake_Seq_Next_v1.ok h_m0_0 h57) ?_
  rintro _ _ S_ ⟨rfl, rfl, hS_⟩
  obtain rfl := hS_.symm
  refine t_qz 3 [4, 21] (σ' := [(4, .pointer (some ⟨b51, 0, none⟩)), (21, .agg #[.int .i64 (wr64 (t52 - far1)), .int .i64 (wr64 (t55 - far1))])]) (by kernel_rfl) ?_
  refine t_sti 1 (cs := [.int .i64 (wr64 (t52 - far1)), .int .i64 (wr64 (t55 - far1))]) rfl rfl rfl rfl rfl rfl rfl rfl rfl ?_
  refine t_keep [4] (σ' := [(4, .pointer (some ⟨b51, 0, none⟩))]) (by kernel_rfl) ?_
  refine t_end ?_
  show W _ _ _ _ _ _ _
  refine w_ret ?_
  simp only [Option.some.injEq, Prod.mk.injEq] at e
  obtain ⟨rfl, rfl, rfl⟩ := e
  exact ⟨[.agg #[.int .i64 (wr64 (t52 - far1)), .int .i64 (wr64 (t55 - far1))]], ([⟨B0, [.slice a_m0_0 m0_0.length c_m0_0, .int .i64 t56], 2⟩] : List Own), S, ⟨⟨_, _, _, rfl, .at 1 rfl rfl, rfl⟩, trivial⟩, VS.sel [0] (by kernel_rfl), rfl, rfl, rfl⟩

/-- plane.Sub -/
def c116 : C :=
  (.seq (.reg [⟨(some 2), .box (.tmp 0), none⟩,
     ⟨(some 3), .box (.tmp 1), none⟩,
     ⟨(some 4), .new [(.int .i64 0), (.int .i64 0)], none⟩])
  (.seq (.reg [⟨(some 5), .pad 0 (.tmp 2), none⟩,
     ⟨(some 6), .ld none (.tmp 5), none⟩,
     ⟨(some 7), .pad 0 (.tmp 3), none⟩,
     ⟨(some 8), .ld none (.tmp 7), none⟩,
     ⟨(some 9), .bin .sub (.tmp 6) (.tmp 8), none⟩,
     ⟨(some 10), .pad 1 (.tmp 2), none⟩,
     ⟨(some 11), .ld none (.tmp 10), none⟩,
     ⟨(some 12), .pad 1 (.tmp 3), none⟩,
     ⟨(some 13), .ld none (.tmp 12), none⟩,
     ⟨(some 14), .bin .sub (.tmp 11) (.tmp 13), none⟩,
     ⟨(some 15), .bld [(.int .i64 0), (.int .i64 0)] [(0, 1, (.tmp 9)), (1, 1, (.tmp 14))], none⟩,
     ⟨none, .st 2 (.tmp 4) (.tmp 15), none⟩])
  .ret))
def plane_Sub.f (a0_X : Int) (a0_Y : Int) (b1_X : Int) (b1_Y : Int) : Option (Int × Int) := some (wr64 (a0_X - b1_X), wr64 (a0_Y - b1_Y))
theorem plane_Sub.ok {S : Seal} {a0_X : Int} {a0_Y : Int} {b1_X : Int} {b1_Y : Int} {r0_ : Int} {r1_ : Int}(e : plane_Sub.f a0_X a0_Y b1_X b1_Y = some (r0_, r1_)) :
    Cal Try.prog 116 [.agg #[.int .i64 a0_X, .int .i64 a0_Y], .agg #[.int .i64 b1_X, .int .i64 b1_Y]] [] S fun v H' S' => v = .agg #[.int .i64 r0_, .int .i64 r1_] ∧ H' = [] ∧ S' = S := by
  unfold plane_Sub.f at e
  refine cal_of (c := c116) (N := 16) Try.func116 rfl rfl (by kernel_rfl) (rs := [.cn 2 4]) (by kernel_rfl) (Nat.le_of_ble_eq_true rfl) ?_
  unfold c116
  refine w_seq ?_
  refine w_reg fun all => ?_
  refine t_a (.box rfl rfl rfl) fun b79 fb79 sb79 => ?_
  refine t_a (.box rfl rfl rfl) fun b80 fb80 sb80 => ?_
  refine t_a (.new rfl rfl) fun b81 fb81 sb81 => ?_
  refine t_keep [2, 3, 4] (σ' := [(2, .pointer (some ⟨b79, 0, none⟩)), (3, .pointer (some ⟨b80, 0, none⟩)), (4, .pointer (some ⟨b81, 0, none⟩))]) (by kernel_rfl) ?_
  refine t_end ?_
  show W _ _ _ _ _ _ _
  refine w_seq ?_
  refine w_reg fun all => ?_
  refine t_qz 1 [2, 3, 4, 5] (σ' := [(2, .pointer (some ⟨b79, 0, none⟩)), (3, .pointer (some ⟨b80, 0, none⟩)), (4, .pointer (some ⟨b81, 0, none⟩)), (5, .pointer (some ⟨b79, 0, none⟩))]) (by kernel_rfl) ?_
  refine t_v (.ld1 rfl rfl rfl (.at 2 rfl rfl)) ?_
  refine t_qz 1 [2, 3, 4, 6, 7] (σ' := [(2, .pointer (some ⟨b79, 0, none⟩)), (3, .pointer (some ⟨b80, 0, none⟩)), (4, .pointer (some ⟨b81, 0, none⟩)), (6, .int .i64 a0_X), (7, .pointer (some ⟨b80, 0, none⟩))]) (by kernel_rfl) ?_
  refine t_v (.ld1 rfl rfl rfl (.at 1 rfl rfl)) ?_
  refine t_qz 2 [3, 4, 9, 10] (σ' := [(3, .pointer (some ⟨b80, 0, none⟩)), (4, .pointer (some ⟨b81, 0, none⟩)), (9, .int .i64 (wr64 (a0_X - b1_X))), (10, .pointer (some ⟨b79, 1, none⟩))]) (by kernel_rfl) ?_
  refine t_v (.ld1 rfl rfl rfl (.at 2 rfl rfl)) ?_
  refine t_qz 1 [4, 9, 11, 12] (σ' := [(4, .pointer (some ⟨b81, 0, none⟩)), (9, .int .i64 (wr64 (a0_X - b1_X))), (11, .int .i64 a0_Y), (12, .pointer (some ⟨b80, 1, none⟩))]) (by kernel_rfl) ?_
  refine t_v (.ld1 rfl rfl rfl (.at 1 rfl rfl)) ?_
  refine t_qz 2 [4, 15] (σ' := [(4, .pointer (some ⟨b81, 0, none⟩)), (15, .agg #[.int .i64 (wr64 (a0_X - b1_X)), .int .i64 (wr64 (a0_Y - b1_Y))])]) (by kernel_rfl) ?_
  refine t_sti 0 (cs := [.int .i64 (wr64 (a0_X - b1_X)), .int .i64 (wr64 (a0_Y - b1_Y))]) rfl rfl rfl rfl rfl rfl rfl rfl rfl ?_
  refine t_keep [4] (σ' := [(4, .pointer (some ⟨b81, 0, none⟩))]) (by kernel_rfl) ?_
  refine t_end ?_
  show W _ _ _ _ _ _ _
  refine w_ret ?_
  simp only [Option.some.injEq, Prod.mk.injEq] at e
  obtain ⟨rfl, rfl⟩ := e
  exact ⟨[.agg #[.int .i64 (wr64 (a0_X - b1_X)), .int .i64 (wr64 (a0_Y - b1_Y))]], [], S, ⟨⟨_, _, _, rfl, .at 0 rfl rfl, rfl⟩, trivial⟩, VS.none, rfl, rfl, rfl⟩

/-- plane.Dot -/
def c104 : C :=
  (.seq (.reg [⟨(some 3), .box (.tmp 0), none⟩,
     ⟨(some 4), .box (.tmp 1), none⟩,
     ⟨(some 5), .box (.tmp 2), none⟩,
     ⟨(some 6), .mv (.const (.int .i64 0)), none⟩])
  (.seq (.drw [⟨(some 9), .ld (some 2) (.tmp 4), none⟩,
     ⟨(some 10), .ld (some 2) (.tmp 3), none⟩,
     ⟨(some 11), .call 116 [(.tmp 9), (.tmp 10)], none⟩,
     ⟨(some 12), .ld (some 2) (.tmp 5), none⟩,
     ⟨(some 13), .ld (some 2) (.tmp 3), none⟩,
     ⟨(some 14), .call 116 [(.tmp 12), (.tmp 13)], none⟩,
     ⟨(some 7), .new [(.int .i64 0), (.int .i64 0)], none⟩,
     ⟨(some 8), .new [(.int .i64 0), (.int .i64 0)], none⟩,
     ⟨none, .st 2 (.tmp 7) (.tmp 11), none⟩,
     ⟨none, .st 2 (.tmp 8) (.tmp 14), none⟩] [[], [], [0, 1], [], [], [3, 4, 2], [], [], [6, 2, 5, 0, 1, 2, 6, 7], [7, 5, 8, 0, 1, 2, 3, 4, 5, 6, 7, 8]])
  (.seq (.reg [⟨(some 15), .pad 0 (.tmp 7), none⟩,
     ⟨(some 16), .ld none (.tmp 15), none⟩,
     ⟨(some 17), .pad 0 (.tmp 8), none⟩,
     ⟨(some 18), .ld none (.tmp 17), none⟩,
     ⟨(some 19), .bin .mul (.tmp 16) (.tmp 18), none⟩,
     ⟨(some 20), .pad 1 (.tmp 7), none⟩,
     ⟨(some 21), .ld none (.tmp 20), none⟩,
     ⟨(some 22), .pad 1 (.tmp 8), none⟩,
     ⟨(some 23), .ld none (.tmp 22), none⟩,
     ⟨(some 24), .bin .mul (.tmp 21) (.tmp 23), none⟩,
     ⟨(some 25), .bin .add (.tmp 19) (.tmp 24), none⟩,
     ⟨(some 6), .mv (.tmp 25), none⟩])
  .ret)))
def plane_Dot.f (a0_X : Int) (a0_Y : Int) (b1_X : Int) (b1_Y : Int) (p2_X : Int) (p2_Y : Int) : Option (Int) := (plane_Sub.f b1_X b1_Y a0_X a0_Y).bind fun (t79, t80) => ((plane_Sub.f p2_X p2_Y a0_X a0_Y).bind fun (t82, t83) => (some (wr64 ((wr64 (t79 * t82)) + (wr64 (t80 * t83))))))
theorem plane_Dot.ok {S : Seal} {a0_X : Int} {a0_Y : Int} {b1_X : Int} {b1_Y : Int} {p2_X : Int} {p2_Y : Int} {r0_ : Int}(e : plane_Dot.f a0_X a0_Y b1_X b1_Y p2_X p2_Y = some r0_) :
    Cal Try.prog 104 [.agg #[.int .i64 a0_X, .int .i64 a0_Y], .agg #[.int .i64 b1_X, .int .i64 b1_Y], .agg #[.int .i64 p2_X, .int .i64 p2_Y]] [] S fun v H' S' => v = .int .i64 r0_ ∧ H' = [] ∧ S' = S := by
  unfold plane_Dot.f at e
  refine cal_of (c := c104) (N := 26) Try.func104 rfl rfl (by kernel_rfl) (rs := [.t 6]) (by kernel_rfl) (Nat.le_of_ble_eq_true rfl) ?_
  unfold c104
  refine w_seq ?_
  refine w_reg fun all => ?_
  refine t_a (.box rfl rfl rfl) fun b76 fb76 sb76 => ?_
  refine t_a (.box rfl rfl rfl) fun b77 fb77 sb77 => ?_
  refine t_a (.box rfl rfl rfl) fun b78 fb78 sb78 => ?_
  refine t_qz 1 [3, 4, 5] (σ' := [(3, .pointer (some ⟨b76, 0, none⟩)), (4, .pointer (some ⟨b77, 0, none⟩)), (5, .pointer (some ⟨b78, 0, none⟩))]) (by kernel_rfl) ?_
  refine t_end ?_
  show W _ _ _ _ _ _ _
  refine w_seq ?_
  obtain ⟨⟨t79, t80⟩, h81, e⟩ := bind_of e
  try dsimp only at e
  obtain ⟨⟨t82, t83⟩, h84, e⟩ := bind_of e
  try dsimp only at e
  refine w_drwE mixed 8 [.v (.agg #[.int .i64 b1_X, .int .i64 b1_Y]), .v (.agg #[.int .i64 a0_X, .int .i64 a0_Y]), .v (.agg #[.int .i64 t79, .int .i64 t80]), .v (.agg #[.int .i64 p2_X, .int .i64 p2_Y]), .v (.agg #[.int .i64 a0_X, .int .i64 a0_Y]), .v (.agg #[.int .i64 t82, .int .i64 t83]), .a [.int .i64 0, .int .i64 0] ptrTo, .a [.int .i64 0, .int .i64 0] ptrTo] (by kernel_rfl) ?_ ?_
  · refine .cons (.ldn rfl rfl rfl (.at 1 rfl rfl)) ?_
    refine .cons (.ldn rfl rfl rfl (.at 2 rfl rfl)) ?_
    refine .cons (.call (vs := [.agg #[.int .i64 b1_X, .int .i64 b1_Y], .agg #[.int .i64 a0_X, .int .i64 a0_Y]]) rfl rfl (by kernel_rfl) (plane_Sub.ok h81)) ?_
    refine .cons (.ldn rfl rfl rfl (.at 0 rfl rfl)) ?_
    refine .cons (.ldn rfl rfl rfl (.at 2 rfl rfl)) ?_
    refine .cons (.call (vs := [.agg #[.int .i64 p2_X, .int .i64 p2_Y], .agg #[.int .i64 a0_X, .int .i64 a0_Y]]) rfl rfl (by kernel_rfl) (plane_Sub.ok h84)) ?_
    refine .cons (.new rfl rfl) ?_
    refine .cons (.new rfl rfl) ?_
    exact .nil
  refine fk_q 6 [11, 14] (σ' := [(11, .agg #[.int .i64 t79, .int .i64 t80]), (14, .agg #[.int .i64 t82, .int .i64 t83])]) t_more (by kernel_rfl) ?_
  refine fk_a fun b85 fb85 sb85 => ?_
  refine fk_a fun b86 fb86 sb86 => ?_
  refine fk_nil fun all => ?_
  refine t_sti 1 (cs := [.int .i64 t79, .int .i64 t80]) rfl rfl rfl rfl rfl rfl rfl rfl rfl ?_
  refine t_sti 0 (cs := [.int .i64 t82, .int .i64 t83]) rfl rfl rfl rfl rfl rfl rfl rfl rfl ?_
  refine t_keep [7, 8] (σ' := [(7, .pointer (some ⟨b85, 0, none⟩)), (8, .pointer (some ⟨b86, 0, none⟩))]) (by kernel_rfl) ?_
  refine t_end ?_
  show W _ _ _ _ _ _ _
  refine w_seq ?_
  refine w_reg fun all => ?_
  refine t_qz 1 [7, 8, 15] (σ' := [(7, .pointer (some ⟨b85, 0, none⟩)), (8, .pointer (some ⟨b86, 0, none⟩)), (15, .pointer (some ⟨b85, 0, none⟩))]) (by kernel_rfl) ?_
  refine t_v (.ld1 rfl rfl rfl (.at 1 rfl rfl)) ?_
  refine t_qz 1 [7, 8, 16, 17] (σ' := [(7, .pointer (some ⟨b85, 0, none⟩)), (8, .pointer (some ⟨b86, 0, none⟩)), (16, .int .i64 t79), (17, .pointer (some ⟨b86, 0, none⟩))]) (by kernel_rfl) ?_
  refine t_v (.ld1 rfl rfl rfl (.at 0 rfl rfl)) ?_
  refine t_qz 2 [8, 19, 20] (σ' := [(8, .pointer (some ⟨b86, 0, none⟩)), (19, .int .i64 (wr64 (t79 * t82))), (20, .pointer (some ⟨b85, 1, none⟩))]) (by kernel_rfl) ?_
  refine t_v (.ld1 rfl rfl rfl (.at 1 rfl rfl)) ?_
  refine t_qz 1 [19, 21, 22] (σ' := [(19, .int .i64 (wr64 (t79 * t82))), (21, .int .i64 t80), (22, .pointer (some ⟨b86, 1, none⟩))]) (by kernel_rfl) ?_
  refine t_v (.ld1 rfl rfl rfl (.at 0 rfl rfl)) ?_
  refine t_qz 3 [6] (σ' := [(6, .int .i64 (wr64 ((wr64 (t79 * t82)) + (wr64 (t80 * t83)))))]) (by kernel_rfl) ?_
  refine t_end ?_
  show W _ _ _ _ _ _ _
  refine w_ret ?_
  obtain rfl := Option.some.inj e
  exact ⟨[.int .i64 (wr64 ((wr64 (t79 * t82)) + (wr64 (t80 * t83))))], [], S, ⟨rfl, trivial⟩, VS.none, rfl, rfl, rfl⟩

/-- plane.Len2 -/
def c90 : C :=
  (.seq (.reg [⟨(some 2), .box (.tmp 0), none⟩,
     ⟨(some 3), .box (.tmp 1), none⟩,
     ⟨(some 4), .mv (.const (.int .i64 0)), none⟩])
  (.seq (.reg [⟨(some 5), .ld (some 2) (.tmp 2), none⟩,
     ⟨(some 6), .ld (some 2) (.tmp 3), none⟩,
     ⟨(some 7), .ld (some 2) (.tmp 3), none⟩,
     ⟨(some 8), .call 104 [(.tmp 5), (.tmp 6), (.tmp 7)], none⟩,
     ⟨(some 4), .mv (.tmp 8), none⟩])
  .ret))
def plane_Len2.f (a0_X : Int) (a0_Y : Int) (b1_X : Int) (b1_Y : Int) : Option (Int) := (plane_Dot.f a0_X a0_Y b1_X b1_Y b1_X b1_Y).bind fun t91 => (some t91)
theorem plane_Len2.ok {S : Seal} {a0_X : Int} {a0_Y : Int} {b1_X : Int} {b1_Y : Int} {r0_ : Int}(e : plane_Len2.f a0_X a0_Y b1_X b1_Y = some r0_) :
    Cal Try.prog 90 [.agg #[.int .i64 a0_X, .int .i64 a0_Y], .agg #[.int .i64 b1_X, .int .i64 b1_Y]] [] S fun v H' S' => v = .int .i64 r0_ ∧ H' = [] ∧ S' = S := by
  unfold plane_Len2.f at e
  refine cal_of (c := c90) (N := 9) Try.func90 rfl rfl (by kernel_rfl) (rs := [.t 4]) (by kernel_rfl) (Nat.le_of_ble_eq_true rfl) ?_
  unfold c90
  refine w_seq ?_
  refine w_reg fun all => ?_
  refine t_a (.box rfl rfl rfl) fun b89 fb89 sb89 => ?_
  refine t_a (.box rfl rfl rfl) fun b90 fb90 sb90 => ?_
  refine t_qz 1 [2, 3] (σ' := [(2, .pointer (some ⟨b89, 0, none⟩)), (3, .pointer (some ⟨b90, 0, none⟩))]) (by kernel_rfl) ?_
  refine t_end ?_
  show W _ _ _ _ _ _ _
  refine w_seq ?_
  refine w_reg fun all => ?_
  refine t_v (.ldn rfl rfl rfl (.at 1 rfl rfl)) ?_
  refine t_v (.ldn rfl rfl rfl (.at 0 rfl rfl)) ?_
  refine t_v (.ldn rfl rfl rfl (.at 0 rfl rfl)) ?_
  obtain ⟨t91, h92, e⟩ := bind_of e
  refine t_v (.call (vs := [.agg #[.int .i64 a0_X, .int .i64 a0_Y], .agg #[.int .i64 b1_X, .int .i64 b1_Y], .agg #[.int .i64 b1_X, .int .i64 b1_Y]]) rfl rfl (by kernel_rfl) (plane_Dot.ok h92)) ?_
  refine t_qz 1 [4] (σ' := [(4, .int .i64 t91)]) (by kernel_rfl) ?_
  refine t_end ?_
  show W _ _ _ _ _ _ _
  refine w_ret ?_
  obtain rfl := Option.some.inj e
  exact ⟨[.int .i64 t91], [], S, ⟨rfl, trivial⟩, VS.none, rfl, rfl, rfl⟩

/-- paint.linear -/
def c88 : C :=
  (.seq (.reg [⟨(some 2), .box (.tmp 0), none⟩,
     ⟨(some 3), .box (.tmp 1), none⟩,
     ⟨(some 4), .mv (.const (.int .i64 0)), none⟩])
  (.seq (.drw [⟨(some 11), .pad 3 (.tmp 2), none⟩,
     ⟨(some 12), .ld (some 2) (.tmp 11), none⟩,
     ⟨(some 13), .pad 5 (.tmp 2), none⟩,
     ⟨(some 14), .ld (some 2) (.tmp 13), none⟩,
     ⟨(some 15), .ld (some 2) (.tmp 3), none⟩,
     ⟨(some 16), .call 104 [(.tmp 12), (.tmp 14), (.tmp 15)], none⟩,
     ⟨(some 17), .pad 3 (.tmp 2), none⟩,
     ⟨(some 18), .ld (some 2) (.tmp 17), none⟩,
     ⟨(some 19), .pad 5 (.tmp 2), none⟩,
     ⟨(some 20), .ld (some 2) (.tmp 19), none⟩,
     ⟨(some 21), .call 90 [(.tmp 18), (.tmp 20)], none⟩,
     ⟨(some 5), .mv (.tmp 16), none⟩,
     ⟨(some 6), .mv (.tmp 21), none⟩] [[], [0], [], [2], [], [1, 3, 4], [], [6], [], [8], [7, 9, 5], [5, 10, 0, 1, 2, 3, 4, 5], [10, 11, 0, 1, 2, 3, 4, 5, 6, 7, 8, 9, 10, 11]])
  (.seq (.block 0 (.seq (.reg [⟨(some 23), .mv (.tmp 5), none⟩,
       ⟨(some 24), .bin .leq (.tmp 23) (.const (.int .i64 0)), none⟩,
       ⟨(some 25), .mv (.tmp 24), none⟩,
       ⟨(some 26), .mv (.tmp 6), (some (25, false))⟩,
       ⟨(some 27), .bin .leq (.tmp 26) (.const (.int .i64 0)), (some (25, false))⟩,
       ⟨(some 28), .pk (.tmp 25) (.const (.bool true)) (.tmp 27), none⟩,
       ⟨(some 22), .mv (.tmp 28), none⟩])
    (.cond (.tmp 22)
     (.seq (.reg [⟨(some 4), .mv (.const (.int .i64 0)), none⟩])
      .ret)
     (.seq (.reg [⟨(some 30), .mv (.tmp 5), none⟩,
         ⟨(some 31), .mv (.tmp 6), none⟩,
         ⟨(some 32), .bin .geq (.tmp 30) (.tmp 31), none⟩,
         ⟨(some 29), .mv (.tmp 32), none⟩])
      (.cond (.tmp 29)
       (.seq (.reg [⟨(some 4), .mv (.const (.int .i64 65536)), none⟩])
        .ret)
       .skip)))))
  (.seq (.reg [⟨(some 34), .mv (.tmp 5), none⟩,
     ⟨(some 35), .cnv .u64 (.tmp 34), none⟩,
     ⟨(some 36), .call 81 [(.tmp 35), (.const (.int .u64 65536))], none⟩,
     ⟨(some 33), .mv (.tmp 36), none⟩,
     ⟨(some 37), .xt 0 (.tmp 33), none⟩,
     ⟨(some 38), .xt 1 (.tmp 33), none⟩,
     ⟨(some 7), .mv (.tmp 37), none⟩,
     ⟨(some 8), .mv (.tmp 38), none⟩])
  (.seq (.reg [⟨(some 40), .mv (.tmp 7), none⟩,
     ⟨(some 41), .mv (.tmp 8), none⟩,
     ⟨(some 42), .mv (.tmp 6), none⟩,
     ⟨(some 43), .cnv .u64 (.tmp 42), none⟩,
     ⟨(some 44), .call 93 [(.tmp 40), (.tmp 41), (.tmp 43)], none⟩,
     ⟨(some 39), .mv (.tmp 44), none⟩,
     ⟨(some 45), .xt 0 (.tmp 39), none⟩,
     ⟨(some 46), .xt 1 (.tmp 39), none⟩,
     ⟨(some 9), .mv (.tmp 45), none⟩,
     ⟨(some 10), .mv (.tmp 46), none⟩])
  (.seq (.reg [⟨(some 47), .mv (.tmp 9), none⟩,
     ⟨(some 48), .cnv .i64 (.tmp 47), none⟩,
     ⟨(some 4), .mv (.tmp 48), none⟩])
  .ret))))))
def paint_linear.f (p0_Kind : Int) (p0_A : Int) (p0_B : Int) (p0_P_X : Int) (p0_P_Y : Int) (p0_Q_X : Int) (p0_Q_Y : Int) (at1_X : Int) (at1_Y : Int) : Option (Int) := (plane_Dot.f p0_P_X p0_P_Y p0_Q_X p0_Q_Y at1_X at1_Y).bind fun t76 => ((plane_Len2.f p0_P_X p0_P_Y p0_Q_X p0_Q_Y).bind fun t78 => (if t76 ≤ 0 then (some 0) else (if t78 ≤ 0 then (some 0) else (if t76 ≥ t78 then (some 65536) else ((bits_Mul64.f (wru64 t76) 65536).bind fun (t83, t84) => ((bits_Div64.f t83 t84 (wru64 t78)).bind fun (t86, t87) => (some (wr64 t86))))))))
theorem paint_linear.ok {S : Seal} {p0_Kind : Int} {p0_A : Int} {p0_B : Int} {p0_P_X : Int} {p0_P_Y : Int} {p0_Q_X : Int} {p0_Q_Y : Int} {at1_X : Int} {at1_Y : Int} {r0_ : Int}(e : paint_linear.f p0_Kind p0_A p0_B p0_P_X p0_P_Y p0_Q_X p0_Q_Y at1_X at1_Y = some r0_) :
    Cal Try.prog 88 [.agg #[.int .i64 p0_Kind, .int .i64 p0_A, .int .i64 p0_B, .int .i64 p0_P_X, .int .i64 p0_P_Y, .int .i64 p0_Q_X, .int .i64 p0_Q_Y], .agg #[.int .i64 at1_X, .int .i64 at1_Y]] [] S fun v H' S' => v = .int .i64 r0_ ∧ H' = [] ∧ S' = S := by
  unfold paint_linear.f at e
  refine cal_of (c := c88) (N := 49) Try.func88 rfl rfl (by kernel_rfl) (rs := [.t 4]) (by kernel_rfl) (Nat.le_of_ble_eq_true rfl) ?_
  unfold c88
  refine w_seq ?_
  refine w_reg fun all => ?_
  refine t_a (.box rfl rfl rfl) fun b74 fb74 sb74 => ?_
  refine t_a (.box rfl rfl rfl) fun b75 fb75 sb75 => ?_
  refine t_qz 1 [2, 3] (σ' := [(2, .pointer (some ⟨b74, 0, none⟩)), (3, .pointer (some ⟨b75, 0, none⟩))]) (by kernel_rfl) ?_
  refine t_end ?_
  show W _ _ _ _ _ _ _
  refine w_seq ?_
  obtain ⟨t76, h77, e⟩ := bind_of e
  obtain ⟨t78, h79, e⟩ := bind_of e
  refine w_drwE mixed 13 [.v (.pointer (some ⟨b74, 3, none⟩)), .v (.agg #[.int .i64 p0_P_X, .int .i64 p0_P_Y]), .v (.pointer (some ⟨b74, 5, none⟩)), .v (.agg #[.int .i64 p0_Q_X, .int .i64 p0_Q_Y]), .v (.agg #[.int .i64 at1_X, .int .i64 at1_Y]), .v (.int .i64 t76), .v (.pointer (some ⟨b74, 3, none⟩)), .v (.agg #[.int .i64 p0_P_X, .int .i64 p0_P_Y]), .v (.pointer (some ⟨b74, 5, none⟩)), .v (.agg #[.int .i64 p0_Q_X, .int .i64 p0_Q_Y]), .v (.int .i64 t78), .v (.int .i64 t76), .v (.int .i64 t78)] (by kernel_rfl) ?_ ?_
  · refine DI.sq 1 (by kernel_rfl) rfl ?_
    refine .cons (.ldn rfl rfl rfl (.at 1 rfl rfl)) ?_
    refine DI.sq 1 (by kernel_rfl) rfl ?_
    refine .cons (.ldn rfl rfl rfl (.at 1 rfl rfl)) ?_
    refine .cons (.ldn rfl rfl rfl (.at 0 rfl rfl)) ?_
    refine .cons (.call (vs := [.agg #[.int .i64 p0_P_X, .int .i64 p0_P_Y], .agg #[.int .i64 p0_Q_X, .int .i64 p0_Q_Y], .agg #[.int .i64 at1_X, .int .i64 at1_Y]]) rfl rfl (by kernel_rfl) (plane_Dot.ok h77)) ?_
    refine DI.sq 1 (by kernel_rfl) rfl ?_
    refine .cons (.ldn rfl rfl rfl (.at 1 rfl rfl)) ?_
    refine DI.sq 1 (by kernel_rfl) rfl ?_
    refine .cons (.ldn rfl rfl rfl (.at 1 rfl rfl)) ?_
    refine .cons (.call (vs := [.agg #[.int .i64 p0_P_X, .int .i64 p0_P_Y], .agg #[.int .i64 p0_Q_X, .int .i64 p0_Q_Y]]) rfl rfl (by kernel_rfl) (plane_Len2.ok h79)) ?_
    refine DI.sq 2 (by kernel_rfl) rfl ?_
    exact .nil
  refine fk_q 13 [5, 6] (σ' := [(5, .int .i64 t76), (6, .int .i64 t78)]) t_more (by kernel_rfl) ?_
  refine fk_nil fun all => ?_
  refine t_keep [5, 6] (σ' := [(5, .int .i64 t76), (6, .int .i64 t78)]) (by kernel_rfl) ?_
  refine t_end ?_
  show W _ _ _ _ _ _ _
  refine w_seq ?_
  refine w_block ?_
  refine w_seq ?_
  refine w_reg fun all => ?_
  by_cases c80 : t76 ≤ 0
  · rw [if_pos c80] at e
    have c80b : (decide (t76 ≤ 0)) = true := decide_eq_true c80
    refine t_qz 1 [5, 6, 23] (σ' := [(5, .int .i64 t76), (6, .int .i64 t78), (23, .int .i64 t76)]) (by kernel_rfl) ?_
    refine t_v (dv_quiet rfl (congrArg (fun t => some (Value.bool t)) c80b)) ?_
    refine t_qz 5 [5, 6, 22] (σ' := [(5, .int .i64 t76), (6, .int .i64 t78), (22, .bool true)]) (by kernel_rfl) ?_
    refine t_end ?_
    show W _ _ _ _ _ _ _
    refine w_cond rfl (fun _ => ?_) (fun c_ => by cases c_)
    show W _ _ _ _ _ _ _
    refine w_seq ?_
    refine w_reg fun all => ?_
    refine t_qz 1 [4] (σ' := [(4, .int .i64 0)]) (by kernel_rfl) ?_
    refine t_end ?_
    show W _ _ _ _ _ _ _
    refine w_ret ?_
    obtain rfl := Option.some.inj e
    exact ⟨[.int .i64 0], [], S, ⟨rfl, trivial⟩, VS.none, rfl, rfl, rfl⟩
  · rw [if_neg c80] at e
    have c80b : (decide (t76 ≤ 0)) = false := decide_eq_false c80
    refine t_qz 1 [5, 6, 23] (σ' := [(5, .int .i64 t76), (6, .int .i64 t78), (23, .int .i64 t76)]) (by kernel_rfl) ?_
    refine t_v (dv_quiet rfl (congrArg (fun t => some (Value.bool t)) c80b)) ?_
    by_cases c81 : t78 ≤ 0
    · rw [if_pos c81] at e
      have c81b : (decide (t78 ≤ 0)) = true := decide_eq_true c81
      refine t_qz 2 [5, 6, 25, 26] (σ' := [(5, .int .i64 t76), (6, .int .i64 t78), (25, .bool false), (26, .int .i64 t78)]) (by kernel_rfl) ?_
      refine t_v (dv_quiet rfl (congrArg (fun t => some (Value.bool t)) c81b)) ?_
      refine t_qz 2 [5, 6, 22] (σ' := [(5, .int .i64 t76), (6, .int .i64 t78), (22, .bool true)]) (by kernel_rfl) ?_
      refine t_end ?_
      show W _ _ _ _ _ _ _
      refine w_cond rfl (fun _ => ?_) (fun c_ => by cases c_)
      show W _ _ _ _ _ _ _
      refine w_seq ?_
      refine w_reg fun all => ?_
      refine t_qz 1 [4] (σ' := [(4, .int .i64 0)]) (by kernel_rfl) ?_
      refine t_end ?_
      show W _ _ _ _ _ _ _
      refine w_ret ?_
      obtain rfl := Option.some.inj e
      exact ⟨[.int .i64 0], [], S, ⟨rfl, trivial⟩, VS.none, rfl, rfl, rfl⟩
    · rw [if_neg c81] at e
      have c81b : (decide (t78 ≤ 0)) = false := decide_eq_false c81
      refine t_qz 2 [5, 6, 25, 26] (σ' := [(5, .int .i64 t76), (6, .int .i64 t78), (25, .bool false), (26, .int .i64 t78)]) (by kernel_rfl) ?_
      refine t_v (dv_quiet rfl (congrArg (fun t => some (Value.bool t)) c81b)) ?_
      refine t_qz 2 [5, 6, 22] (σ' := [(5, .int .i64 t76), (6, .int .i64 t78), (22, .bool false)]) (by kernel_rfl) ?_
      refine t_end ?_
      show W _ _ _ _ _ _ _
      refine w_cond rfl (fun c_ => by cases c_) (fun _ => ?_)
      show W _ _ _ _ _ _ _
      refine w_seq ?_
      refine w_reg fun all => ?_
      by_cases c82 : t76 ≥ t78
      · rw [if_pos c82] at e
        have c82b : (decide (t76 ≥ t78)) = true := decide_eq_true c82
        refine t_qz 2 [5, 6, 30, 31] (σ' := [(5, .int .i64 t76), (6, .int .i64 t78), (30, .int .i64 t76), (31, .int .i64 t78)]) (by kernel_rfl) ?_
        refine t_v (dv_quiet rfl (congrArg (fun t => some (Value.bool t)) c82b)) ?_
        refine t_qz 1 [5, 6, 29] (σ' := [(5, .int .i64 t76), (6, .int .i64 t78), (29, .bool true)]) (by kernel_rfl) ?_
        refine t_end ?_
        show W _ _ _ _ _ _ _
        refine w_cond rfl (fun _ => ?_) (fun c_ => by cases c_)
        show W _ _ _ _ _ _ _
        refine w_seq ?_
        refine w_reg fun all => ?_
        refine t_qz 1 [4] (σ' := [(4, .int .i64 65536)]) (by kernel_rfl) ?_
        refine t_end ?_
        show W _ _ _ _ _ _ _
        refine w_ret ?_
        obtain rfl := Option.some.inj e
        exact ⟨[.int .i64 65536], [], S, ⟨rfl, trivial⟩, VS.none, rfl, rfl, rfl⟩
      · rw [if_neg c82] at e
        have c82b : (decide (t76 ≥ t78)) = false := decide_eq_false c82
        refine t_qz 2 [5, 6, 30, 31] (σ' := [(5, .int .i64 t76), (6, .int .i64 t78), (30, .int .i64 t76), (31, .int .i64 t78)]) (by kernel_rfl) ?_
        refine t_v (dv_quiet rfl (congrArg (fun t => some (Value.bool t)) c82b)) ?_
        refine t_qz 1 [5, 6, 29] (σ' := [(5, .int .i64 t76), (6, .int .i64 t78), (29, .bool false)]) (by kernel_rfl) ?_
        refine t_end ?_
        show W _ _ _ _ _ _ _
        refine w_cond rfl (fun c_ => by cases c_) (fun _ => ?_)
        show W _ _ _ _ _ _ _
        refine w_skip ?_
        show W _ _ _ _ _ _ _
        refine w_seq ?_
        refine w_reg fun all => ?_
        obtain ⟨⟨t83, t84⟩, h85, e⟩ := bind_of e
        try dsimp only at e
        refine t_qz 2 [6, 35] (σ' := [(6, .int .i64 t78), (35, .int .u64 (wru64 t76))]) (by kernel_rfl) ?_
        refine t_v (.call (vs := [.int .u64 (wru64 t76), .int .u64 65536]) rfl rfl (by kernel_rfl) (bits_Mul64.ok h85)) ?_
        refine t_qz 5 [6, 7, 8] (σ' := [(6, .int .i64 t78), (7, .int .u64 t83), (8, .int .u64 t84)]) (by kernel_rfl) ?_
        refine t_end ?_
        show W _ _ _ _ _ _ _
        refine w_seq ?_
        refine w_reg fun all => ?_
        obtain ⟨⟨t86, t87⟩, h88, e⟩ := bind_of e
        try dsimp only at e
        refine t_qz 4 [40, 41, 43] (σ' := [(40, .int .u64 t83), (41, .int .u64 t84), (43, .int .u64 (wru64 t78))]) (by kernel_rfl) ?_
        refine t_v (.call (vs := [.int .u64 t83, .int .u64 t84, .int .u64 (wru64 t78)]) rfl rfl (by kernel_rfl) (bits_Div64.ok h88)) ?_
        refine t_qz 5 [9] (σ' := [(9, .int .u64 t86)]) (by kernel_rfl) ?_
        refine t_end ?_
        show W _ _ _ _ _ _ _
        refine w_seq ?_
        refine w_reg fun all => ?_
        refine t_qz 3 [4] (σ' := [(4, .int .i64 (wr64 t86))]) (by kernel_rfl) ?_
        refine t_end ?_
        show W _ _ _ _ _ _ _
        refine w_ret ?_
        obtain rfl := Option.some.inj e
        exact ⟨[.int .i64 (wr64 t86)], [], S, ⟨rfl, trivial⟩, VS.none, rfl, rfl, rfl⟩

/-- fixed.Sqrt -/
def c89 : C :=
  (.seq (.reg [⟨(some 2), .mv (.const (.int .i64 0)), none⟩])
  (.seq (.seq (.reg [⟨(some 6), .mv (.tmp 0), none⟩,
      ⟨(some 7), .bin .lss (.tmp 6) (.const (.int .i64 1)), none⟩])
   (.cond (.tmp 7)
    (.seq (.reg [⟨(some 2), .mv (.const (.int .i64 0)), none⟩])
     .ret)
    .skip))
  (.seq (.reg [⟨(some 3), .mv (.const (.int .i64 0)), none⟩,
     ⟨(some 4), .mv (.const (.int .i64 4294967296)), none⟩])
  (.seq (.block 0 (.loop (.seq (.seq (.reg [⟨(some 8), .mv (.tmp 4), none⟩,
         ⟨(some 9), .mv (.tmp 3), none⟩,
         ⟨(some 10), .bin .sub (.tmp 8) (.tmp 9), none⟩,
         ⟨(some 11), .bin .gtr (.tmp 10) (.const (.int .i64 1)), none⟩])
      (.cond (.tmp 11)
       .skip
       (.exit 0)))
     (.block 1 (.seq (.reg [⟨(some 12), .mv (.tmp 3), none⟩,
         ⟨(some 13), .mv (.tmp 4), none⟩,
         ⟨(some 14), .mv (.tmp 3), none⟩,
         ⟨(some 15), .bin .sub (.tmp 13) (.tmp 14), none⟩,
         ⟨(some 16), .bin .quo (.tmp 15) (.const (.int .i64 2)), none⟩,
         ⟨(some 17), .bin .add (.tmp 12) (.tmp 16), none⟩,
         ⟨(some 5), .mv (.tmp 17), none⟩])
      (.seq (.reg [⟨(some 18), .mv (.tmp 5), none⟩,
         ⟨(some 19), .mv (.tmp 0), none⟩,
         ⟨(some 20), .mv (.tmp 5), none⟩,
         ⟨(some 21), .bin .quo (.tmp 19) (.tmp 20), none⟩,
         ⟨(some 22), .bin .leq (.tmp 18) (.tmp 21), none⟩])
      (.cond (.tmp 22)
       (.reg [⟨(some 23), .mv (.tmp 5), none⟩,
          ⟨(some 3), .mv (.tmp 23), none⟩])
       (.reg [⟨(some 24), .mv (.tmp 5), none⟩,
          ⟨(some 4), .mv (.tmp 24), none⟩]))))))))
  (.seq (.reg [⟨(some 25), .mv (.tmp 3), none⟩,
     ⟨(some 2), .mv (.tmp 25), none⟩])
  .ret)))))
def fixed_Sqrt.l0 : Nat → Int → Int → Int → Option (Int)
  | 0, _, _, _ => none
  | k + 1, n0, x99, x100 => if (wr64 (x100 - x99)) > 1 then (if (wr64 (x99 + (wr64 (Int.tdiv (wr64 (x100 - x99)) 2)))) = 0 then none else (if (wr64 (x99 + (wr64 (Int.tdiv (wr64 (x100 - x99)) 2)))) ≤ (wr64 (Int.tdiv n0 (wr64 (x99 + (wr64 (Int.tdiv (wr64 (x100 - x99)) 2)))))) then (fixed_Sqrt.l0 k n0 (wr64 (x99 + (wr64 (Int.tdiv (wr64 (x100 - x99)) 2)))) x100) else (fixed_Sqrt.l0 k n0 x99 (wr64 (x99 + (wr64 (Int.tdiv (wr64 (x100 - x99)) 2))))))) else (some x99)
def fixed_Sqrt.f (k : Nat) (n0 : Int) : Option (Int) := if n0 < 1 then (some 0) else ((fixed_Sqrt.l0 k n0 0 4294967296 : Option (Int)).bind fun x107 => (some x107))
theorem fixed_Sqrt.ok {S : Seal} {k : Nat} {n0 : Int} {r0_ : Int}(e : fixed_Sqrt.f k n0 = some r0_) :
    Cal Try.prog 89 [.int .i64 n0] [] S fun v H' S' => v = .int .i64 r0_ ∧ H' = [] ∧ S' = S := by
  unfold fixed_Sqrt.f at e
  refine cal_of (c := c89) (N := 26) Try.func89 rfl rfl (by kernel_rfl) (rs := [.t 2]) (by kernel_rfl) (Nat.le_of_ble_eq_true rfl) ?_
  unfold c89
  refine w_seq ?_
  refine w_reg fun all => ?_
  refine t_qz 1 [0] (σ' := [(0, .int .i64 n0)]) (by kernel_rfl) ?_
  refine t_end ?_
  show W _ _ _ _ _ _ _
  refine w_seq ?_
  refine w_seq ?_
  refine w_reg fun all => ?_
  by_cases c95 : n0 < 1
  · rw [if_pos c95] at e
    have c95b : (decide (n0 < 1)) = true := decide_eq_true c95
    refine t_qz 1 [0, 6] (σ' := [(0, .int .i64 n0), (6, .int .i64 n0)]) (by kernel_rfl) ?_
    refine t_v (dv_quiet rfl (congrArg (fun t => some (Value.bool t)) c95b)) ?_
    refine t_keep [0, 7] (σ' := [(0, .int .i64 n0), (7, .bool true)]) (by kernel_rfl) ?_
    refine t_end ?_
    show W _ _ _ _ _ _ _
    refine w_cond rfl (fun _ => ?_) (fun c_ => by cases c_)
    show W _ _ _ _ _ _ _
    refine w_seq ?_
    refine w_reg fun all => ?_
    refine t_qz 1 [2] (σ' := [(2, .int .i64 0)]) (by kernel_rfl) ?_
    refine t_end ?_
    show W _ _ _ _ _ _ _
    refine w_ret ?_
    obtain rfl := Option.some.inj e
    exact ⟨[.int .i64 0], [], S, ⟨rfl, trivial⟩, VS.none, rfl, rfl, rfl⟩
  · rw [if_neg c95] at e
    have c95b : (decide (n0 < 1)) = false := decide_eq_false c95
    refine t_qz 1 [0, 6] (σ' := [(0, .int .i64 n0), (6, .int .i64 n0)]) (by kernel_rfl) ?_
    refine t_v (dv_quiet rfl (congrArg (fun t => some (Value.bool t)) c95b)) ?_
    refine t_keep [0, 7] (σ' := [(0, .int .i64 n0), (7, .bool false)]) (by kernel_rfl) ?_
    refine t_end ?_
    show W _ _ _ _ _ _ _
    refine w_cond rfl (fun c_ => by cases c_) (fun _ => ?_)
    show W _ _ _ _ _ _ _
    refine w_skip ?_
    show W _ _ _ _ _ _ _
    refine w_seq ?_
    refine w_reg fun all => ?_
    refine t_qz 2 [0, 3, 4] (σ' := [(0, .int .i64 n0), (3, .int .i64 0), (4, .int .i64 4294967296)]) (by kernel_rfl) ?_
    refine t_end ?_
    show W _ _ _ _ _ _ _
    obtain ⟨x107, e97, e⟩ := bind_of e
    refine w_cut [3] (fun σ_ H_ S_ => [(3, .int .i64 x107)] = σ_ ∧ ([] : List Own) = H_ ∧ S = S_) ?_ ?_
    · show W _ _ _ _ _ _ _
      refine w_block ?_
      refine w_kp [0, 3, 4] (σ' := [(0, .int .i64 n0), (3, .int .i64 0), (4, .int .i64 4294967296)]) (by kernel_rfl) ?_
      refine w_loop (fun n_ σ_ H_ S_ => ∃ x99 x100, [(0, .int .i64 n0), (3, .int .i64 x99), (4, .int .i64 x100)] = σ_ ∧ ([] : List Own) = H_ ∧ S = S_ ∧ fixed_Sqrt.l0 n_ n0 x99 x100 = some x107) _ ⟨0, 4294967296, rfl, rfl, rfl, e97⟩ ?_
      rintro n106 σ_ H_ S_ ⟨x99, x100, rfl, rfl, rfl, e97⟩
      cases n106 with
      | zero => rw [fixed_Sqrt.l0.eq_1] at e97; cases e97
      | succ k_ =>
        rw [fixed_Sqrt.l0.eq_2] at e97
        refine w_seq ?_
        refine w_seq ?_
        refine w_reg fun all => ?_
        by_cases c101 : (wr64 (x100 - x99)) > 1
        · rw [if_pos c101] at e97
          have c101b : (decide ((wr64 (x100 - x99)) > 1)) = true := decide_eq_true c101
          refine t_qz 3 [0, 3, 4, 10] (σ' := [(0, .int .i64 n0), (3, .int .i64 x99), (4, .int .i64 x100), (10, .int .i64 (wr64 (x100 - x99)))]) (by kernel_rfl) ?_
          refine t_v (dv_quiet rfl (congrArg (fun t => some (Value.bool t)) c101b)) ?_
          refine t_keep [0, 3, 4, 11] (σ' := [(0, .int .i64 n0), (3, .int .i64 x99), (4, .int .i64 x100), (11, .bool true)]) (by kernel_rfl) ?_
          refine t_end ?_
          show W _ _ _ _ _ _ _
          refine w_cond rfl (fun _ => ?_) (fun c_ => by cases c_)
          show W _ _ _ _ _ _ _
          refine w_skip ?_
          show W _ _ _ _ _ _ _
          refine w_block ?_
          refine w_seq ?_
          refine w_reg fun all => ?_
          refine t_qz 7 [0, 3, 4, 5] (σ' := [(0, .int .i64 n0), (3, .int .i64 x99), (4, .int .i64 x100), (5, .int .i64 (wr64 (x99 + (wr64 (Int.tdiv (wr64 (x100 - x99)) 2)))))]) (by kernel_rfl) ?_
          refine t_end ?_
          show W _ _ _ _ _ _ _
          refine w_seq ?_
          refine w_reg fun all => ?_
          have c102 : ¬ (wr64 (x99 + (wr64 (Int.tdiv (wr64 (x100 - x99)) 2)))) = 0 := by
            intro h_; rw [if_pos h_] at e97; cases e97
          rw [if_neg c102] at e97
          refine t_qz 3 [0, 3, 4, 5, 18, 19, 20] (σ' := [(0, .int .i64 n0), (3, .int .i64 x99), (4, .int .i64 x100), (5, .int .i64 (wr64 (x99 + (wr64 (Int.tdiv (wr64 (x100 - x99)) 2))))), (18, .int .i64 (wr64 (x99 + (wr64 (Int.tdiv (wr64 (x100 - x99)) 2))))), (19, .int .i64 n0), (20, .int .i64 (wr64 (x99 + (wr64 (Int.tdiv (wr64 (x100 - x99)) 2)))))]) (by kernel_rfl) ?_
          refine t_v (.quiet rfl (qv_quo rfl rfl c102)) ?_
          by_cases c103 : (wr64 (x99 + (wr64 (Int.tdiv (wr64 (x100 - x99)) 2)))) ≤ (wr64 (Int.tdiv n0 (wr64 (x99 + (wr64 (Int.tdiv (wr64 (x100 - x99)) 2))))))
          · rw [if_pos c103] at e97
            have c103b : (decide ((wr64 (x99 + (wr64 (Int.tdiv (wr64 (x100 - x99)) 2)))) ≤ (wr64 (Int.tdiv n0 (wr64 (x99 + (wr64 (Int.tdiv (wr64 (x100 - x99)) 2)))))))) = true := decide_eq_true c103
            refine t_v (dv_quiet rfl (congrArg (fun t => some (Value.bool t)) c103b)) ?_
            refine t_keep [0, 3, 4, 5, 22] (σ' := [(0, .int .i64 n0), (3, .int .i64 x99), (4, .int .i64 x100), (5, .int .i64 (wr64 (x99 + (wr64 (Int.tdiv (wr64 (x100 - x99)) 2))))), (22, .bool true)]) (by kernel_rfl) ?_
            refine t_end ?_
            show W _ _ _ _ _ _ _
            refine w_cond rfl (fun _ => ?_) (fun c_ => by cases c_)
            show W _ _ _ _ _ _ _
            refine w_reg fun all => ?_
            refine t_qz 2 [0, 3, 4] (σ' := [(0, .int .i64 n0), (3, .int .i64 (wr64 (x99 + (wr64 (Int.tdiv (wr64 (x100 - x99)) 2))))), (4, .int .i64 x100)]) (by kernel_rfl) ?_
            refine t_end ?_
            exact ⟨k_, Nat.lt_succ_self _, [(0, .int .i64 n0), (3, .int .i64 (wr64 (x99 + (wr64 (Int.tdiv (wr64 (x100 - x99)) 2))))), (4, .int .i64 x100)], ([] : List Own), S, keep_sub [0, 3, 4] (by kernel_rfl), VS.sel [] (by kernel_rfl), wr64 (x99 + (wr64 (Int.tdiv (wr64 (x100 - x99)) 2))), x100, rfl, rfl, rfl, e97⟩
          · rw [if_neg c103] at e97
            have c103b : (decide ((wr64 (x99 + (wr64 (Int.tdiv (wr64 (x100 - x99)) 2)))) ≤ (wr64 (Int.tdiv n0 (wr64 (x99 + (wr64 (Int.tdiv (wr64 (x100 - x99)) 2)))))))) = false := decide_eq_false c103
            refine t_v (dv_quiet rfl (congrArg (fun t => some (Value.bool t)) c103b)) ?_
            refine t_keep [0, 3, 4, 5, 22] (σ' := [(0, .int .i64 n0), (3, .int .i64 x99), (4, .int .i64 x100), (5, .int .i64 (wr64 (x99 + (wr64 (Int.tdiv (wr64 (x100 - x99)) 2))))), (22, .bool false)]) (by kernel_rfl) ?_
            refine t_end ?_
            show W _ _ _ _ _ _ _
            refine w_cond rfl (fun c_ => by cases c_) (fun _ => ?_)
            show W _ _ _ _ _ _ _
            refine w_reg fun all => ?_
            refine t_qz 2 [0, 3, 4] (σ' := [(0, .int .i64 n0), (3, .int .i64 x99), (4, .int .i64 (wr64 (x99 + (wr64 (Int.tdiv (wr64 (x100 - x99)) 2)))))]) (by kernel_rfl) ?_
            refine t_end ?_
            exact ⟨k_, Nat.lt_succ_self _, [(0, .int .i64 n0), (3, .int .i64 x99), (4, .int .i64 (wr64 (x99 + (wr64 (Int.tdiv (wr64 (x100 - x99)) 2)))))], ([] : List Own), S, keep_sub [0, 3, 4] (by kernel_rfl), VS.sel [] (by kernel_rfl), x99, wr64 (x99 + (wr64 (Int.tdiv (wr64 (x100 - x99)) 2))), rfl, rfl, rfl, e97⟩
        · rw [if_neg c101] at e97
          have c101b : (decide ((wr64 (x100 - x99)) > 1)) = false := decide_eq_false c101
          refine t_qz 3 [0, 3, 4, 10] (σ' := [(0, .int .i64 n0), (3, .int .i64 x99), (4, .int .i64 x100), (10, .int .i64 (wr64 (x100 - x99)))]) (by kernel_rfl) ?_
          refine t_v (dv_quiet rfl (congrArg (fun t => some (Value.bool t)) c101b)) ?_
          refine t_keep [0, 3, 4, 11] (σ' := [(0, .int .i64 n0), (3, .int .i64 x99), (4, .int .i64 x100), (11, .bool false)]) (by kernel_rfl) ?_
          refine t_end ?_
          show W _ _ _ _ _ _ _
          refine w_cond rfl (fun c_ => by cases c_) (fun _ => ?_)
          show W _ _ _ _ _ _ _
          refine w_exit ?_
          obtain rfl := Option.some.inj e97
          exact ⟨([] : List Own), S, VS.sel [] (by kernel_rfl), by kernel_rfl, rfl, rfl⟩
    · rintro σ_ H_ S_ ⟨rfl, rfl, rfl⟩
      refine w_seq ?_
      refine w_reg fun all => ?_
      refine t_qz 2 [2] (σ' := [(2, .int .i64 x107)]) (by kernel_rfl) ?_
      refine t_end ?_
      show W _ _ _ _ _ _ _
      refine w_ret ?_
      obtain rfl := Option.some.inj e
      exact ⟨[.int .i64 x107], [], S, ⟨rfl, trivial⟩, VS.none, rfl, rfl, rfl⟩

def fixed_Down.f (a0 : Int) (b1 : Int) : Option (Int) := if b1 < 1 then (some 0) else (if b1 = 0 then none else (if (Int.tmod a0 b1) < 0 then (some (wr64 ((wr64 (Int.tdiv a0 b1)) - 1))) else (some (wr64 (Int.tdiv a0 b1)))))
theorem fixed_Down.ok {S : Seal} {a0 : Int} {b1 : Int} {r0_ : Int}(e : fixed_Down.f a0 b1 = some r0_) :
    Cal Try.prog 113 [.int .i64 a0, .int .i64 b1] [] S fun v H' S' => v = .int .i64 r0_ ∧ H' = [] ∧ S' = S := by
  unfold fixed_Down.f at e
  refine cal_of (c := c113) (N := 18) Try.func113 rfl rfl (by kernel_rfl) (rs := [.t 4]) (by kernel_rfl) (Nat.le_of_ble_eq_true rfl) ?_
  unfold c113
  refine w_seq ?_
  refine w_reg fun all => ?_
  refine t_qz 1 [0, 1] (σ' := [(0, .int .i64 a0), (1, .int .i64 b1)]) (by kernel_rfl) ?_
  refine t_end ?_
  show W _ _ _ _ _ _ _
  refine w_seq ?_
  refine w_seq ?_
  refine w_reg fun all => ?_
  by_cases c111 : b1 < 1
  · rw [if_pos c111] at e
    have c111b : (decide (b1 < 1)) = true := decide_eq_true c111
    refine t_qz 1 [0, 1, 6] (σ' := [(0, .int .i64 a0), (1, .int .i64 b1), (6, .int .i64 b1)]) (by kernel_rfl) ?_
    refine t_v (dv_quiet rfl (congrArg (fun t => some (Value.bool t)) c111b)) ?_
    refine t_keep [0, 1, 7] (σ' := [(0, .int .i64 a0), (1, .int .i64 b1), (7, .bool true)]) (by kernel_rfl) ?_
    refine t_end ?_
    show W _ _ _ _ _ _ _
    refine w_cond rfl (fun _ => ?_) (fun c_ => by cases c_)
    show W _ _ _ _ _ _ _
    refine w_seq ?_
    refine w_reg fun all => ?_
    refine t_qz 1 [4] (σ' := [(4, .int .i64 0)]) (by kernel_rfl) ?_
    refine t_end ?_
    show W _ _ _ _ _ _ _
    refine w_ret ?_
    obtain rfl := Option.some.inj e
    exact ⟨[.int .i64 0], [], S, ⟨rfl, trivial⟩, VS.none, rfl, rfl, rfl⟩
  · rw [if_neg c111] at e
    have c111b : (decide (b1 < 1)) = false := decide_eq_false c111
    refine t_qz 1 [0, 1, 6] (σ' := [(0, .int .i64 a0), (1, .int .i64 b1), (6, .int .i64 b1)]) (by kernel_rfl) ?_
    refine t_v (dv_quiet rfl (congrArg (fun t => some (Value.bool t)) c111b)) ?_
    refine t_keep [0, 1, 7] (σ' := [(0, .int .i64 a0), (1, .int .i64 b1), (7, .bool false)]) (by kernel_rfl) ?_
    refine t_end ?_
    show W _ _ _ _ _ _ _
    refine w_cond rfl (fun c_ => by cases c_) (fun _ => ?_)
    show W _ _ _ _ _ _ _
    refine w_skip ?_
    show W _ _ _ _ _ _ _
    refine w_seq ?_
    refine w_reg fun all => ?_
    have c112 : ¬ b1 = 0 := by
      intro h_; rw [if_pos h_] at e; cases e
    rw [if_neg c112] at e
    refine t_qz 2 [0, 1, 8, 9] (σ' := [(0, .int .i64 a0), (1, .int .i64 b1), (8, .int .i64 a0), (9, .int .i64 b1)]) (by kernel_rfl) ?_
    refine t_v (.quiet rfl (qv_quo rfl rfl c112)) ?_
    refine t_qz 1 [0, 1, 5] (σ' := [(0, .int .i64 a0), (1, .int .i64 b1), (5, .int .i64 (wr64 (Int.tdiv a0 b1)))]) (by kernel_rfl) ?_
    refine t_end ?_
    show W _ _ _ _ _ _ _
    refine w_seq ?_
    refine w_seq ?_
    refine w_reg fun all => ?_
    refine t_qz 2 [5, 11, 12] (σ' := [(5, .int .i64 (wr64 (Int.tdiv a0 b1))), (11, .int .i64 a0), (12, .int .i64 b1)]) (by kernel_rfl) ?_
    refine t_v (.quiet rfl (qv_rem rfl rfl c112)) ?_
    by_cases c113 : (Int.tmod a0 b1) < 0
    · rw [if_pos c113] at e
      have c113b : (decide ((Int.tmod a0 b1) < 0)) = true := decide_eq_true c113
      refine t_v (dv_quiet rfl (congrArg (fun t => some (Value.bool t)) c113b)) ?_
      refine t_keep [5, 14] (σ' := [(5, .int .i64 (wr64 (Int.tdiv a0 b1))), (14, .bool true)]) (by kernel_rfl) ?_
      refine t_end ?_
      show W _ _ _ _ _ _ _
      refine w_cond rfl (fun _ => ?_) (fun c_ => by cases c_)
      show W _ _ _ _ _ _ _
      refine w_reg fun all => ?_
      refine t_qz 3 [5] (σ' := [(5, .int .i64 (wr64 ((wr64 (Int.tdiv a0 b1)) - 1)))]) (by kernel_rfl) ?_
      refine t_end ?_
      show W _ _ _ _ _ _ _
      refine w_seq ?_
      refine w_reg fun all => ?_
      refine t_qz 2 [4] (σ' := [(4, .int .i64 (wr64 ((wr64 (Int.tdiv a0 b1)) - 1)))]) (by kernel_rfl) ?_
      refine t_end ?_
      show W _ _ _ _ _ _ _
      refine w_ret ?_
      obtain rfl := Option.some.inj e
      exact ⟨[.int .i64 (wr64 ((wr64 (Int.tdiv a0 b1)) - 1))], [], S, ⟨rfl, trivial⟩, VS.none, rfl, rfl, rfl⟩
    · rw [if_neg c113] at e
      have c113b : (decide ((Int.tmod a0 b1) < 0)) = false := decide_eq_false c113
      refine t_v (dv_quiet rfl (congrArg (fun t => some (Value.bool t)) c113b)) ?_
      refine t_keep [5, 14] (σ' := [(5, .int .i64 (wr64 (Int.tdiv a0 b1))), (14, .bool false)]) (by kernel_rfl) ?_
      refine t_end ?_
      show W _ _ _ _ _ _ _
      refine w_cond rfl (fun c_ => by cases c_) (fun _ => ?_)
      show W _ _ _ _ _ _ _
      refine w_skip ?_
      show W _ _ _ _ _ _ _
      refine w_seq ?_
      refine w_reg fun all => ?_
      refine t_qz 2 [4] (σ' := [(4, .int .i64 (wr64 (Int.tdiv a0 b1)))]) (by kernel_rfl) ?_
      refine t_end ?_
      show W _ _ _ _ _ _ _
      refine w_ret ?_
      obtain rfl := Option.some.inj e
      exact ⟨[.int .i64 (wr64 (Int.tdiv a0 b1))], [], S, ⟨rfl, trivial⟩, VS.none, rfl, rfl, rfl⟩

def fixed_Round.f (a0 : Int) (b1 : Int) : Option (Int) := if b1 < 1 then (some 0) else ((fixed_Down.f a0 b1).bind fun t114 => (if (wr64 (a0 - (wr64 (t114 * b1)))) ≥ (wr64 (b1 - (wr64 (a0 - (wr64 (t114 * b1)))))) then (some (wr64 (t114 + 1))) else (some t114)))
theorem fixed_Round.ok {S : Seal} {a0 : Int} {b1 : Int} {r0_ : Int}(e : fixed_Round.f a0 b1 = some r0_) :
    Cal Try.prog 92 [.int .i64 a0, .int .i64 b1] [] S fun v H' S' => v = .int .i64 r0_ ∧ H' = [] ∧ S' = S := by
  unfold fixed_Round.f at e
  refine cal_of (c := c92) (N := 25) Try.func92 rfl rfl (by kernel_rfl) (rs := [.t 4]) (by kernel_rfl) (Nat.le_of_ble_eq_true rfl) ?_
  unfold c92
  refine w_seq ?_
  refine w_reg fun all => ?_
  refine t_qz 1 [0, 1] (σ' := [(0, .int .i64 a0), (1, .int .i64 b1)]) (by kernel_rfl) ?_
  refine t_end ?_
  show W _ _ _ _ _ _ _
  refine w_seq ?_
  refine w_seq ?_
  refine w_reg fun all => ?_
  by_cases c110 : b1 < 1
  · rw [if_pos c110] at e
    have c110b : (decide (b1 < 1)) = true := decide_eq_true c110
    refine t_qz 1 [0, 1, 7] (σ' := [(0, .int .i64 a0), (1, .int .i64 b1), (7, .int .i64 b1)]) (by kernel_rfl) ?_
    refine t_v (dv_quiet rfl (congrArg (fun t => some (Value.bool t)) c110b)) ?_
    refine t_keep [0, 1, 8] (σ' := [(0, .int .i64 a0), (1, .int .i64 b1), (8, .bool true)]) (by kernel_rfl) ?_
    refine t_end ?_
    show W _ _ _ _ _ _ _
    refine w_cond rfl (fun _ => ?_) (fun c_ => by cases c_)
    show W _ _ _ _ _ _ _
    refine w_seq ?_
    refine w_reg fun all => ?_
    refine t_qz 1 [4] (σ' := [(4, .int .i64 0)]) (by kernel_rfl) ?_
    refine t_end ?_
    show W _ _ _ _ _ _ _
    refine w_ret ?_
    obtain rfl := Option.some.inj e
    exact ⟨[.int .i64 0], [], S, ⟨rfl, trivial⟩, VS.none, rfl, rfl, rfl⟩
  · rw [if_neg c110] at e
    have c110b : (decide (b1 < 1)) = false := decide_eq_false c110
    refine t_qz 1 [0, 1, 7] (σ' := [(0, .int .i64 a0), (1, .int .i64 b1), (7, .int .i64 b1)]) (by kernel_rfl) ?_
    refine t_v (dv_quiet rfl (congrArg (fun t => some (Value.bool t)) c110b)) ?_
    refine t_keep [0, 1, 8] (σ' := [(0, .int .i64 a0), (1, .int .i64 b1), (8, .bool false)]) (by kernel_rfl) ?_
    refine t_end ?_
    show W _ _ _ _ _ _ _
    refine w_cond rfl (fun c_ => by cases c_) (fun _ => ?_)
    show W _ _ _ _ _ _ _
    refine w_skip ?_
    show W _ _ _ _ _ _ _
    refine w_seq ?_
    refine w_reg fun all => ?_
    obtain ⟨t114, h115, e⟩ := bind_of e
    refine t_qz 2 [0, 1, 9, 10] (σ' := [(0, .int .i64 a0), (1, .int .i64 b1), (9, .int .i64 a0), (10, .int .i64 b1)]) (by kernel_rfl) ?_
    refine t_v (.call (vs := [.int .i64 a0, .int .i64 b1]) rfl rfl (by kernel_rfl) (fixed_Down.ok h115)) ?_
    refine t_qz 1 [0, 1, 5] (σ' := [(0, .int .i64 a0), (1, .int .i64 b1), (5, .int .i64 t114)]) (by kernel_rfl) ?_
    refine t_end ?_
    show W _ _ _ _ _ _ _
    refine w_seq ?_
    refine w_seq ?_
    refine w_reg fun all => ?_
    refine t_qz 6 [1, 5, 6] (σ' := [(1, .int .i64 b1), (5, .int .i64 t114), (6, .int .i64 (wr64 (a0 - (wr64 (t114 * b1)))))]) (by kernel_rfl) ?_
    refine t_end ?_
    show W _ _ _ _ _ _ _
    refine w_seq ?_
    refine w_reg fun all => ?_
    by_cases c116 : (wr64 (a0 - (wr64 (t114 * b1)))) ≥ (wr64 (b1 - (wr64 (a0 - (wr64 (t114 * b1))))))
    · rw [if_pos c116] at e
      have c116b : (decide ((wr64 (a0 - (wr64 (t114 * b1)))) ≥ (wr64 (b1 - (wr64 (a0 - (wr64 (t114 * b1)))))))) = true := decide_eq_true c116
      refine t_qz 4 [5, 17, 20] (σ' := [(5, .int .i64 t114), (17, .int .i64 (wr64 (a0 - (wr64 (t114 * b1))))), (20, .int .i64 (wr64 (b1 - (wr64 (a0 - (wr64 (t114 * b1)))))))]) (by kernel_rfl) ?_
      refine t_v (dv_quiet rfl (congrArg (fun t => some (Value.bool t)) c116b)) ?_
      refine t_keep [5, 21] (σ' := [(5, .int .i64 t114), (21, .bool true)]) (by kernel_rfl) ?_
      refine t_end ?_
      show W _ _ _ _ _ _ _
      refine w_cond rfl (fun _ => ?_) (fun c_ => by cases c_)
      show W _ _ _ _ _ _ _
      refine w_reg fun all => ?_
      refine t_qz 3 [5] (σ' := [(5, .int .i64 (wr64 (t114 + 1)))]) (by kernel_rfl) ?_
      refine t_end ?_
      show W _ _ _ _ _ _ _
      refine w_seq ?_
      refine w_reg fun all => ?_
      refine t_qz 2 [4] (σ' := [(4, .int .i64 (wr64 (t114 + 1)))]) (by kernel_rfl) ?_
      refine t_end ?_
      show W _ _ _ _ _ _ _
      refine w_ret ?_
      obtain rfl := Option.some.inj e
      exact ⟨[.int .i64 (wr64 (t114 + 1))], [], S, ⟨rfl, trivial⟩, VS.none, rfl, rfl, rfl⟩
    · rw [if_neg c116] at e
      have c116b : (decide ((wr64 (a0 - (wr64 (t114 * b1)))) ≥ (wr64 (b1 - (wr64 (a0 - (wr64 (t114 * b1)))))))) = false := decide_eq_false c116
      refine t_qz 4 [5, 17, 20] (σ' := [(5, .int .i64 t114), (17, .int .i64 (wr64 (a0 - (wr64 (t114 * b1))))), (20, .int .i64 (wr64 (b1 - (wr64 (a0 - (wr64 (t114 * b1)))))))]) (by kernel_rfl) ?_
      refine t_v (dv_quiet rfl (congrArg (fun t => some (Value.bool t)) c116b)) ?_
      refine t_keep [5, 21] (σ' := [(5, .int .i64 t114), (21, .bool false)]) (by kernel_rfl) ?_
      refine t_end ?_
      show W _ _ _ _ _ _ _
      refine w_cond rfl (fun c_ => by cases c_) (fun _ => ?_)
      show W _ _ _ _ _ _ _
      refine w_skip ?_
      show W _ _ _ _ _ _ _
      refine w_seq ?_
      refine w_reg fun all => ?_
      refine t_qz 2 [4] (σ' := [(4, .int .i64 t114)]) (by kernel_rfl) ?_
      refine t_end ?_
      show W _ _ _ _ _ _ _
      refine w_ret ?_
      obtain rfl := Option.some.inj e
      exact ⟨[.int .i64 t114], [], S, ⟨rfl, trivial⟩, VS.none, rfl, rfl, rfl⟩

/-- fixed.Clamp -/
def c91 : C :=
  (.seq (.reg [⟨(some 6), .mv (.const (.int .i64 0)), none⟩])
  (.seq (.reg [⟨(some 7), .mv (.tmp 0), none⟩,
     ⟨(some 8), .mv (.tmp 2), none⟩,
     ⟨(some 9), .mm false [(.tmp 7), (.tmp 8)], none⟩,
     ⟨(some 10), .mv (.tmp 1), none⟩,
     ⟨(some 11), .mm true [(.tmp 9), (.tmp 10)], none⟩,
     ⟨(some 6), .mv (.tmp 11), none⟩])
  .ret))
def fixed_Clamp.f (x0 : Int) (lo1 : Int) (hi2 : Int) : Option (Int) := some (mx (mn x0 hi2) lo1)
theorem fixed_Clamp.ok {S : Seal} {x0 : Int} {lo1 : Int} {hi2 : Int} {r0_ : Int}(e : fixed_Clamp.f x0 lo1 hi2 = some r0_) :
    Cal Try.prog 91 [.int .i64 x0, .int .i64 lo1, .int .i64 hi2] [] S fun v H' S' => v = .int .i64 r0_ ∧ H' = [] ∧ S' = S := by
  unfold fixed_Clamp.f at e
  refine cal_of (c := c91) (N := 12) Try.func91 rfl rfl (by kernel_rfl) (rs := [.t 6]) (by kernel_rfl) (Nat.le_of_ble_eq_true rfl) ?_
  unfold c91
  refine w_seq ?_
  refine w_reg fun all => ?_
  refine t_qz 1 [0, 1, 2] (σ' := [(0, .int .i64 x0), (1, .int .i64 lo1), (2, .int .i64 hi2)]) (by kernel_rfl) ?_
  refine t_end ?_
  show W _ _ _ _ _ _ _
  refine w_seq ?_
  refine w_reg fun all => ?_
  refine t_qz 6 [6] (σ' := [(6, .int .i64 (mx (mn x0 hi2) lo1))]) (by kernel_rfl) ?_
  refine t_end ?_
  show W _ _ _ _ _ _ _
  refine w_ret ?_
  obtain rfl := Option.some.inj e
  exact ⟨[.int .i64 (mx (mn x0 hi2) lo1)], [], S, ⟨rfl, trivial⟩, VS.none, rfl, rfl, rfl⟩

def paint_Part.f (k : Nat) (p0_Kind : Int) (p0_A : Int) (p0_B : Int) (p0_P_X : Int) (p0_P_Y : Int) (p0_Q_X : Int) (p0_Q_Y : Int) (at1_X : Int) (at1_Y : Int) : Option (Int) := if p0_Kind = 1 then ((paint_linear.f p0_Kind p0_A p0_B p0_P_X p0_P_Y p0_Q_X p0_Q_Y at1_X at1_Y).bind fun t89 => (some t89)) else (if p0_Kind = 2 then (if p0_Q_X < 1 then (some 65536) else ((plane_Len2.f p0_P_X p0_P_Y at1_X at1_Y).bind fun t93 => ((fixed_Sqrt.f k (wr64 (t93 * 256))).bind fun t108 => ((fixed_Round.f (wr64 (4096 * t108)) p0_Q_X).bind fun t117 => ((fixed_Clamp.f t117 0 65536).bind fun t119 => (some t119)))))) else (some 0))
theorem paint_Part.ok {S : Seal} {k : Nat} {p0_Kind : Int} {p0_A : Int} {p0_B : Int} {p0_P_X : Int} {p0_P_Y : Int} {p0_Q_X : Int} {p0_Q_Y : Int} {at1_X : Int} {at1_Y : Int} {r0_ : Int}(e : paint_Part.f k p0_Kind p0_A p0_B p0_P_X p0_P_Y p0_Q_X p0_Q_Y at1_X at1_Y = some r0_) :
    Cal Try.prog 55 [.agg #[.int .i64 p0_Kind, .int .i64 p0_A, .int .i64 p0_B, .int .i64 p0_P_X, .int .i64 p0_P_Y, .int .i64 p0_Q_X, .int .i64 p0_Q_Y], .agg #[.int .i64 at1_X, .int .i64 at1_Y]] [] S fun v H' S' => v = .int .i64 r0_ ∧ H' = [] ∧ S' = S := by
  unfold paint_Part.f at e
  refine cal_of (c := c55) (N := 32) Try.func55 rfl rfl (by kernel_rfl) (rs := [.t 4]) (by kernel_rfl) (Nat.le_of_ble_eq_true rfl) ?_
  unfold c55
  refine w_seq ?_
  refine w_reg fun all => ?_
  refine t_a (.box rfl rfl rfl) fun b71 fb71 sb71 => ?_
  refine t_a (.box rfl rfl rfl) fun b72 fb72 sb72 => ?_
  refine t_qz 1 [2, 3] (σ' := [(2, .pointer (some ⟨b71, 0, none⟩)), (3, .pointer (some ⟨b72, 0, none⟩))]) (by kernel_rfl) ?_
  refine t_end ?_
  show W _ _ _ _ _ _ _
  refine w_seq ?_
  refine w_seq ?_
  refine w_reg fun all => ?_
  refine t_qz 1 [2, 3, 6] (σ' := [(2, .pointer (some ⟨b71, 0, none⟩)), (3, .pointer (some ⟨b72, 0, none⟩)), (6, .pointer (some ⟨b71, 0, none⟩))]) (by kernel_rfl) ?_
  refine t_v (.ld1 rfl rfl rfl (.at 1 rfl rfl)) ?_
  refine t_keep [2, 3, 7] (σ' := [(2, .pointer (some ⟨b71, 0, none⟩)), (3, .pointer (some ⟨b72, 0, none⟩)), (7, .int .i64 p0_Kind)]) (by kernel_rfl) ?_
  refine t_end ?_
  show W _ _ _ _ _ _ _
  refine w_block ?_
  refine w_seq ?_
  refine w_reg fun all => ?_
  by_cases c73 : p0_Kind = 1
  · rw [if_pos c73] at e
    have c73b : (p0_Kind == 1) = true := beq_iff_eq.mpr c73
    refine t_v (dv_quiet rfl (congrArg (fun t => some (Value.bool t)) c73b)) ?_
    refine t_qz 1 [2, 3, 7, 8] (σ' := [(2, .pointer (some ⟨b71, 0, none⟩)), (3, .pointer (some ⟨b72, 0, none⟩)), (7, .int .i64 p0_Kind), (8, .bool true)]) (by kernel_rfl) ?_
    refine t_end ?_
    show W _ _ _ _ _ _ _
    refine w_cond rfl (fun _ => ?_) (fun c_ => by cases c_)
    show W _ _ _ _ _ _ _
    refine w_seq ?_
    refine w_reg fun all => ?_
    refine t_v (.ldn rfl rfl rfl (.at 1 rfl rfl)) ?_
    refine t_v (.ldn rfl rfl rfl (.at 0 rfl rfl)) ?_
    obtain ⟨t89, h90, e⟩ := bind_of e
    refine t_v (.call (vs := [.agg #[.int .i64 p0_Kind, .int .i64 p0_A, .int .i64 p0_B, .int .i64 p0_P_X, .int .i64 p0_P_Y, .int .i64 p0_Q_X, .int .i64 p0_Q_Y], .agg #[.int .i64 at1_X, .int .i64 at1_Y]]) rfl rfl (by kernel_rfl) (paint_linear.ok h90)) ?_
    refine t_qz 1 [4] (σ' := [(4, .int .i64 t89)]) (by kernel_rfl) ?_
    refine t_end ?_
    show W _ _ _ _ _ _ _
    refine w_ret ?_
    obtain rfl := Option.some.inj e
    exact ⟨[.int .i64 t89], [], S, ⟨rfl, trivial⟩, VS.none, rfl, rfl, rfl⟩
  · rw [if_neg c73] at e
    have c73b : (p0_Kind == 1) = false := beq_eq_false_iff_ne.mpr c73
    refine t_v (dv_quiet rfl (congrArg (fun t => some (Value.bool t)) c73b)) ?_
    refine t_qz 1 [2, 3, 7, 8] (σ' := [(2, .pointer (some ⟨b71, 0, none⟩)), (3, .pointer (some ⟨b72, 0, none⟩)), (7, .int .i64 p0_Kind), (8, .bool false)]) (by kernel_rfl) ?_
    refine t_end ?_
    show W _ _ _ _ _ _ _
    refine w_cond rfl (fun c_ => by cases c_) (fun _ => ?_)
    show W _ _ _ _ _ _ _
    refine w_seq ?_
    refine w_reg fun all => ?_
    by_cases c91 : p0_Kind = 2
    · rw [if_pos c91] at e
      have c91b : (p0_Kind == 2) = true := beq_iff_eq.mpr c91
      refine t_v (dv_quiet rfl (congrArg (fun t => some (Value.bool t)) c91b)) ?_
      refine t_qz 1 [2, 3, 13] (σ' := [(2, .pointer (some ⟨b71, 0, none⟩)), (3, .pointer (some ⟨b72, 0, none⟩)), (13, .bool true)]) (by kernel_rfl) ?_
      refine t_end ?_
      show W _ _ _ _ _ _ _
      refine w_cond rfl (fun _ => ?_) (fun c_ => by cases c_)
      show W _ _ _ _ _ _ _
      refine w_seq ?_
      refine w_seq ?_
      refine w_reg fun all => ?_
      refine t_qz 2 [2, 3, 16] (σ' := [(2, .pointer (some ⟨b71, 0, none⟩)), (3, .pointer (some ⟨b72, 0, none⟩)), (16, .pointer (some ⟨b71, 5, none⟩))]) (by kernel_rfl) ?_
      refine t_v (.ld1 rfl rfl rfl (.at 1 rfl rfl)) ?_
      by_cases c92 : p0_Q_X < 1
      · rw [if_pos c92] at e
        have c92b : (decide (p0_Q_X < 1)) = true := decide_eq_true c92
        refine t_v (dv_quiet rfl (congrArg (fun t => some (Value.bool t)) c92b)) ?_
        refine t_keep [2, 3, 18] (σ' := [(2, .pointer (some ⟨b71, 0, none⟩)), (3, .pointer (some ⟨b72, 0, none⟩)), (18, .bool true)]) (by kernel_rfl) ?_
        refine t_end ?_
        show W _ _ _ _ _ _ _
        refine w_cond rfl (fun _ => ?_) (fun c_ => by cases c_)
        show W _ _ _ _ _ _ _
        refine w_seq ?_
        refine w_reg fun all => ?_
        refine t_qz 1 [4] (σ' := [(4, .int .i64 65536)]) (by kernel_rfl) ?_
        refine t_end ?_
        show W _ _ _ _ _ _ _
        refine w_ret ?_
        obtain rfl := Option.some.inj e
        exact ⟨[.int .i64 65536], [], S, ⟨rfl, trivial⟩, VS.none, rfl, rfl, rfl⟩
      · rw [if_neg c92] at e
        have c92b : (decide (p0_Q_X < 1)) = false := decide_eq_false c92
        refine t_v (dv_quiet rfl (congrArg (fun t => some (Value.bool t)) c92b)) ?_
        refine t_keep [2, 3, 18] (σ' := [(2, .pointer (some ⟨b71, 0, none⟩)), (3, .pointer (some ⟨b72, 0, none⟩)), (18, .bool false)]) (by kernel_rfl) ?_
        refine t_end ?_
        show W _ _ _ _ _ _ _
        refine w_cond rfl (fun c_ => by cases c_) (fun _ => ?_)
        show W _ _ _ _ _ _ _
        refine w_skip ?_
        show W _ _ _ _ _ _ _
        refine w_seq ?_
        refine w_reg fun all => ?_
        refine t_qz 1 [2, 3, 19] (σ' := [(2, .pointer (some ⟨b71, 0, none⟩)), (3, .pointer (some ⟨b72, 0, none⟩)), (19, .pointer (some ⟨b71, 3, none⟩))]) (by kernel_rfl) ?_
        refine t_v (.ldn rfl rfl rfl (.at 1 rfl rfl)) ?_
        refine t_v (.ldn rfl rfl rfl (.at 0 rfl rfl)) ?_
        obtain ⟨t93, h94, e⟩ := bind_of e
        refine t_v (.call (vs := [.agg #[.int .i64 p0_P_X, .int .i64 p0_P_Y], .agg #[.int .i64 at1_X, .int .i64 at1_Y]]) rfl rfl (by kernel_rfl) (plane_Len2.ok h94)) ?_
        obtain ⟨t108, h109, e⟩ := bind_of e
        refine t_qz 1 [2, 23] (σ' := [(2, .pointer (some ⟨b71, 0, none⟩)), (23, .int .i64 (wr64 (t93 * 256)))]) (by kernel_rfl) ?_
        refine t_v (.call (vs := [.int .i64 (wr64 (t93 * 256))]) rfl rfl (by kernel_rfl) (fixed_Sqrt.ok h109)) ?_
        refine t_qz 1 [2, 5] (σ' := [(2, .pointer (some ⟨b71, 0, none⟩)), (5, .int .i64 t108)]) (by kernel_rfl) ?_
        refine t_end ?_
        show W _ _ _ _ _ _ _
        refine w_seq ?_
        refine w_reg fun all => ?_
        refine t_qz 4 [26, 28] (σ' := [(26, .int .i64 (wr64 (4096 * t108))), (28, .pointer (some ⟨b71, 5, none⟩))]) (by kernel_rfl) ?_
        refine t_v (.ld1 rfl rfl rfl (.at 1 rfl rfl)) ?_
        obtain ⟨t117, h118, e⟩ := bind_of e
        refine t_v (.call (vs := [.int .i64 (wr64 (4096 * t108)), .int .i64 p0_Q_X]) rfl rfl (by kernel_rfl) (fixed_Round.ok h118)) ?_
        obtain ⟨t119, h120, e⟩ := bind_of e
        refine t_v (.call (vs := [.int .i64 t117, .int .i64 0, .int .i64 65536]) rfl rfl (by kernel_rfl) (fixed_Clamp.ok h120)) ?_
        refine t_qz 1 [4] (σ' := [(4, .int .i64 t119)]) (by kernel_rfl) ?_
        refine t_end ?_
        show W _ _ _ _ _ _ _
        refine w_ret ?_
        obtain rfl := Option.some.inj e
        exact ⟨[.int .i64 t119], [], S, ⟨rfl, trivial⟩, VS.none, rfl, rfl, rfl⟩
    · rw [if_neg c91] at e
      have c91b : (p0_Kind == 2) = false := beq_eq_false_iff_ne.mpr c91
      refine t_v (dv_quiet rfl (congrArg (fun t => some (Value.bool t)) c91b)) ?_
      refine t_qz 1 [2, 3, 13] (σ' := [(2, .pointer (some ⟨b71, 0, none⟩)), (3, .pointer (some ⟨b72, 0, none⟩)), (13, .bool false)]) (by kernel_rfl) ?_
      refine t_end ?_
      show W _ _ _ _ _ _ _
      refine w_cond rfl (fun c_ => by cases c_) (fun _ => ?_)
      show W _ _ _ _ _ _ _
      refine w_skip ?_
      show W _ _ _ _ _ _ _
      refine w_seq ?_
      refine w_reg fun all => ?_
      refine t_qz 1 [4] (σ' := [(4, .int .i64 0)]) (by kernel_rfl) ?_
      refine t_end ?_
      show W _ _ _ _ _ _ _
      refine w_ret ?_
      obtain rfl := Option.some.inj e
      exact ⟨[.int .i64 0], [], S, ⟨rfl, trivial⟩, VS.none, rfl, rfl, rfl⟩

/-- glyphicref1.Dot -/
def c77 : C :=
  (.seq (.reg [⟨(some 3), .box (.tmp 0), none⟩,
     ⟨(some 4), .box (.tmp 1), none⟩,
     ⟨(some 5), .box (.tmp 2), none⟩,
     ⟨(some 6), .mv (.const (.int .i64 0)), none⟩])
  (.seq (.reg [⟨(some 7), .pad 0 (.tmp 4), none⟩,
     ⟨(some 8), .ld none (.tmp 7), none⟩,
     ⟨(some 9), .pad 0 (.tmp 3), none⟩,
     ⟨(some 10), .ld none (.tmp 9), none⟩,
     ⟨(some 11), .bin .sub (.tmp 8) (.tmp 10), none⟩,
     ⟨(some 12), .pad 0 (.tmp 5), none⟩,
     ⟨(some 13), .ld none (.tmp 12), none⟩,
     ⟨(some 14), .pad 0 (.tmp 3), none⟩,
     ⟨(some 15), .ld none (.tmp 14), none⟩,
     ⟨(some 16), .bin .sub (.tmp 13) (.tmp 15), none⟩,
     ⟨(some 17), .bin .mul (.tmp 11) (.tmp 16), none⟩,
     ⟨(some 18), .pad 1 (.tmp 4), none⟩,
     ⟨(some 19), .ld none (.tmp 18), none⟩,
     ⟨(some 20), .pad 1 (.tmp 3), none⟩,
     ⟨(some 21), .ld none (.tmp 20), none⟩,
     ⟨(some 22), .bin .sub (.tmp 19) (.tmp 21), none⟩,
     ⟨(some 23), .pad 1 (.tmp 5), none⟩,
     ⟨(some 24), .ld none (.tmp 23), none⟩,
     ⟨(some 25), .pad 1 (.tmp 3), none⟩,
     ⟨(some 26), .ld none (.tmp 25), none⟩,
     ⟨(some 27), .bin .sub (.tmp 24) (.tmp 26), none⟩,
     ⟨(some 28), .bin .mul (.tmp 22) (.tmp 27), none⟩,
     ⟨(some 29), .bin .add (.tmp 17) (.tmp 28), none⟩,
     ⟨(some 6), .mv (.tmp 29), none⟩])
  .ret))
def glyphicref1_Dot.f (a0_X : Int) (a0_Y : Int) (b1_X : Int) (b1_Y : Int) (p2_X : Int) (p2_Y : Int) : Option (Int) := some (wr64 ((wr64 ((wr64 (b1_X - a0_X)) * (wr64 (p2_X - a0_X)))) + (wr64 ((wr64 (b1_Y - a0_Y)) * (wr64 (p2_Y - a0_Y))))))
theorem glyphicref1_Dot.ok {S : Seal} {a0_X : Int} {a0_Y : Int} {b1_X : Int} {b1_Y : Int} {p2_X : Int} {p2_Y : Int} {r0_ : Int}(e : glyphicref1_Dot.f a0_X a0_Y b1_X b1_Y p2_X p2_Y = some r0_) :
    Cal Try.prog 77 [.agg #[.int .i64 a0_X, .int .i64 a0_Y], .agg #[.int .i64 b1_X, .int .i64 b1_Y], .agg #[.int .i64 p2_X, .int .i64 p2_Y]] [] S fun v H' S' => v = .int .i64 r0_ ∧ H' = [] ∧ S' = S := by
  unfold glyphicref1_Dot.f at e
  refine cal_of (c := c77) (N := 30) Try.func77 rfl rfl (by kernel_rfl) (rs := [.t 6]) (by kernel_rfl) (Nat.le_of_ble_eq_true rfl) ?_
  unfold c77
  refine w_seq ?_
  refine w_reg fun all => ?_
  refine t_a (.box rfl rfl rfl) fun b128 fb128 sb128 => ?_
  refine t_a (.box rfl rfl rfl) fun b129 fb129 sb129 => ?_
  refine t_a (.box rfl rfl rfl) fun b130 fb130 sb130 => ?_
  refine t_qz 1 [3, 4, 5] (σ' := [(3, .pointer (some ⟨b128, 0, none⟩)), (4, .pointer (some ⟨b129, 0, none⟩)), (5, .pointer (some ⟨b130, 0, none⟩))]) (by kernel_rfl) ?_
  refine t_end ?_
  show W _ _ _ _ _ _ _
  refine w_seq ?_
  refine w_reg fun all => ?_
  refine t_qz 1 [3, 4, 5, 7] (σ' := [(3, .pointer (some ⟨b128, 0, none⟩)), (4, .pointer (some ⟨b129, 0, none⟩)), (5, .pointer (some ⟨b130, 0, none⟩)), (7, .pointer (some ⟨b129, 0, none⟩))]) (by kernel_rfl) ?_
  refine t_v (.ld1 rfl rfl rfl (.at 1 rfl rfl)) ?_
  refine t_qz 1 [3, 4, 5, 8, 9] (σ' := [(3, .pointer (some ⟨b128, 0, none⟩)), (4, .pointer (some ⟨b129, 0, none⟩)), (5, .pointer (some ⟨b130, 0, none⟩)), (8, .int .i64 b1_X), (9, .pointer (some ⟨b128, 0, none⟩))]) (by kernel_rfl) ?_
  refine t_v (.ld1 rfl rfl rfl (.at 2 rfl rfl)) ?_
  refine t_qz 2 [3, 4, 5, 11, 12] (σ' := [(3, .pointer (some ⟨b128, 0, none⟩)), (4, .pointer (some ⟨b129, 0, none⟩)), (5, .pointer (some ⟨b130, 0, none⟩)), (11, .int .i64 (wr64 (b1_X - a0_X))), (12, .pointer (some ⟨b130, 0, none⟩))]) (by kernel_rfl) ?_
  refine t_v (.ld1 rfl rfl rfl (.at 0 rfl rfl)) ?_
  refine t_qz 1 [3, 4, 5, 11, 13, 14] (σ' := [(3, .pointer (some ⟨b128, 0, none⟩)), (4, .pointer (some ⟨b129, 0, none⟩)), (5, .pointer (some ⟨b130, 0, none⟩)), (11, .int .i64 (wr64 (b1_X - a0_X))), (13, .int .i64 p2_X), (14, .pointer (some ⟨b128, 0, none⟩))]) (by kernel_rfl) ?_
  refine t_v (.ld1 rfl rfl rfl (.at 2 rfl rfl)) ?_
  refine t_qz 3 [3, 5, 17, 18] (σ' := [(3, .pointer (some ⟨b128, 0, none⟩)), (5, .pointer (some ⟨b130, 0, none⟩)), (17, .int .i64 (wr64 ((wr64 (b1_X - a0_X)) * (wr64 (p2_X - a0_X))))), (18, .pointer (some ⟨b129, 1, none⟩))]) (by kernel_rfl) ?_
  refine t_v (.ld1 rfl rfl rfl (.at 1 rfl rfl)) ?_
  refine t_qz 1 [3, 5, 17, 19, 20] (σ' := [(3, .pointer (some ⟨b128, 0, none⟩)), (5, .pointer (some ⟨b130, 0, none⟩)), (17, .int .i64 (wr64 ((wr64 (b1_X - a0_X)) * (wr64 (p2_X - a0_X))))), (19, .int .i64 b1_Y), (20, .pointer (some ⟨b128, 1, none⟩))]) (by kernel_rfl) ?_
  refine t_v (.ld1 rfl rfl rfl (.at 2 rfl rfl)) ?_
  refine t_qz 2 [3, 17, 22, 23] (σ' := [(3, .pointer (some ⟨b128, 0, none⟩)), (17, .int .i64 (wr64 ((wr64 (b1_X - a0_X)) * (wr64 (p2_X - a0_X))))), (22, .int .i64 (wr64 (b1_Y - a0_Y))), (23, .pointer (some ⟨b130, 1, none⟩))]) (by kernel_rfl) ?_
  refine t_v (.ld1 rfl rfl rfl (.at 0 rfl rfl)) ?_
  refine t_qz 1 [17, 22, 24, 25] (σ' := [(17, .int .i64 (wr64 ((wr64 (b1_X - a0_X)) * (wr64 (p2_X - a0_X))))), (22, .int .i64 (wr64 (b1_Y - a0_Y))), (24, .int .i64 p2_Y), (25, .pointer (some ⟨b128, 1, none⟩))]) (by kernel_rfl) ?_
  refine t_v (.ld1 rfl rfl rfl (.at 2 rfl rfl)) ?_
  refine t_qz 4 [6] (σ' := [(6, .int .i64 (wr64 ((wr64 ((wr64 (b1_X - a0_X)) * (wr64 (p2_X - a0_X)))) + (wr64 ((wr64 (b1_Y - a0_Y)) * (wr64 (p2_Y - a0_Y)))))))]) (by kernel_rfl) ?_
  refine t_end ?_
  show W _ _ _ _ _ _ _
  refine w_ret ?_
  obtain rfl := Option.some.inj e
  exact ⟨[.int .i64 (wr64 ((wr64 ((wr64 (b1_X - a0_X)) * (wr64 (p2_X - a0_X)))) + (wr64 ((wr64 (b1_Y - a0_Y)) * (wr64 (p2_Y - a0_Y))))))], [], S, ⟨rfl, trivial⟩, VS.none, rfl, rfl, rfl⟩

/-- glyphicref1.Len2 -/
def c78 : C :=
  (.seq (.reg [⟨(some 2), .box (.tmp 0), none⟩,
     ⟨(some 3), .box (.tmp 1), none⟩,
     ⟨(some 4), .mv (.const (.int .i64 0)), none⟩])
  (.seq (.reg [⟨(some 5), .ld (some 2) (.tmp 2), none⟩,
     ⟨(some 6), .ld (some 2) (.tmp 3), none⟩,
     ⟨(some 7), .ld (some 2) (.tmp 3), none⟩,
     ⟨(some 8), .call 77 [(.tmp 5), (.tmp 6), (.tmp 7)], none⟩,
     ⟨(some 4), .mv (.tmp 8), none⟩])
  .ret))
def glyphicref1_Len2.f (a0_X : Int) (a0_Y : Int) (b1_X : Int) (b1_Y : Int) : Option (Int) := (glyphicref1_Dot.f a0_X a0_Y b1_X b1_Y b1_X b1_Y).bind fun t131 => (some t131)
theorem glyphicref1_Len2.ok {S : Seal} {a0_X : Int} {a0_Y : Int} {b1_X : Int} {b1_Y : Int} {r0_ : Int}(e : glyphicref1_Len2.f a0_X a0_Y b1_X b1_Y = some r0_) :
    Cal Try.prog 78 [.agg #[.int .i64 a0_X, .int .i64 a0_Y], .agg #[.int .i64 b1_X, .int .i64 b1_Y]] [] S fun v H' S' => v = .int .i64 r0_ ∧ H' = [] ∧ S' = S := by
  unfold glyphicref1_Len2.f at e
  refine cal_of (c := c78) (N := 9) Try.func78 rfl rfl (by kernel_rfl) (rs := [.t 4]) (by kernel_rfl) (Nat.le_of_ble_eq_true rfl) ?_
  unfold c78
  refine w_seq ?_
  refine w_reg fun all => ?_
  refine t_a (.box rfl rfl rfl) fun b126 fb126 sb126 => ?_
  refine t_a (.box rfl rfl rfl) fun b127 fb127 sb127 => ?_
  refine t_qz 1 [2, 3] (σ' := [(2, .pointer (some ⟨b126, 0, none⟩)), (3, .pointer (some ⟨b127, 0, none⟩))]) (by kernel_rfl) ?_
  refine t_end ?_
  show W _ _ _ _ _ _ _
  refine w_seq ?_
  refine w_reg fun all => ?_
  refine t_v (.ldn rfl rfl rfl (.at 1 rfl rfl)) ?_
  refine t_v (.ldn rfl rfl rfl (.at 0 rfl rfl)) ?_
  refine t_v (.ldn rfl rfl rfl (.at 0 rfl rfl)) ?_
  obtain ⟨t131, h132, e⟩ := bind_of e
  refine t_v (.call (vs := [.agg #[.int .i64 a0_X, .int .i64 a0_Y], .agg #[.int .i64 b1_X, .int .i64 b1_Y], .agg #[.int .i64 b1_X, .int .i64 b1_Y]]) rfl rfl (by kernel_rfl) (glyphicref1_Dot.ok h132)) ?_
  refine t_qz 1 [4] (σ' := [(4, .int .i64 t131)]) (by kernel_rfl) ?_
  refine t_end ?_
  show W _ _ _ _ _ _ _
  refine w_ret ?_
  obtain rfl := Option.some.inj e
  exact ⟨[.int .i64 t131], [], S, ⟨rfl, trivial⟩, VS.none, rfl, rfl, rfl⟩

/-- glyphicref1.Sqrt -/
def c94 : C :=
  (.seq (.reg [⟨(some 2), .mv (.const (.int .i64 0)), none⟩])
  (.seq (.seq (.reg [⟨(some 6), .mv (.tmp 0), none⟩,
      ⟨(some 7), .bin .lss (.tmp 6) (.const (.int .i64 1)), none⟩])
   (.cond (.tmp 7)
    (.seq (.reg [⟨(some 2), .mv (.const (.int .i64 0)), none⟩])
     .ret)
    .skip))
  (.seq (.reg [⟨(some 3), .mv (.const (.int .i64 0)), none⟩])
  (.seq (.reg [⟨(some 4), .mv (.const (.int .i64 3037000499)), none⟩])
  (.seq (.block 0 (.loop (.seq (.seq (.reg [⟨(some 8), .mv (.tmp 3), none⟩,
         ⟨(some 9), .mv (.tmp 4), none⟩,
         ⟨(some 10), .bin .lss (.tmp 8) (.tmp 9), none⟩])
      (.cond (.tmp 10)
       .skip
       (.exit 0)))
     (.block 1 (.seq (.reg [⟨(some 11), .mv (.tmp 4), none⟩,
         ⟨(some 12), .mv (.tmp 4), none⟩,
         ⟨(some 13), .mv (.tmp 3), none⟩,
         ⟨(some 14), .bin .sub (.tmp 12) (.tmp 13), none⟩,
         ⟨(some 15), .bin .quo (.tmp 14) (.const (.int .i64 2)), none⟩,
         ⟨(some 16), .bin .sub (.tmp 11) (.tmp 15), none⟩,
         ⟨(some 5), .mv (.tmp 16), none⟩])
      (.seq (.reg [⟨(some 17), .mv (.tmp 5), none⟩,
         ⟨(some 18), .mv (.tmp 0), none⟩,
         ⟨(some 19), .mv (.tmp 5), none⟩,
         ⟨(some 20), .bin .quo (.tmp 18) (.tmp 19), none⟩,
         ⟨(some 21), .bin .leq (.tmp 17) (.tmp 20), none⟩])
      (.cond (.tmp 21)
       (.reg [⟨(some 22), .mv (.tmp 5), none⟩,
          ⟨(some 3), .mv (.tmp 22), none⟩])
       (.reg [⟨(some 23), .mv (.tmp 5), none⟩,
          ⟨(some 24), .bin .sub (.tmp 23) (.const (.int .i64 1)), none⟩,
          ⟨(some 4), .mv (.tmp 24), none⟩]))))))))
  (.seq (.reg [⟨(some 25), .mv (.tmp 3), none⟩,
     ⟨(some 2), .mv (.tmp 25), none⟩])
  .ret))))))
def glyphicref1_Sqrt.l0 : Nat → Int → Int → Int → Option (Int)
  | 0, _, _, _ => none
  | k + 1, n0, x154, x155 => if x154 < x155 then (if (wr64 (x155 - (wr64 (Int.tdiv (wr64 (x155 - x154)) 2)))) = 0 then none else (if (wr64 (x155 - (wr64 (Int.tdiv (wr64 (x155 - x154)) 2)))) ≤ (wr64 (Int.tdiv n0 (wr64 (x155 - (wr64 (Int.tdiv (wr64 (x155 - x154)) 2)))))) then (glyphicref1_Sqrt.l0 k n0 (wr64 (x155 - (wr64 (Int.tdiv (wr64 (x155 - x154)) 2)))) x155) else (glyphicref1_Sqrt.l0 k n0 x154 (wr64 ((wr64 (x155 - (wr64 (Int.tdiv (wr64 (x155 - x154)) 2)))) - 1))))) else (some x154)
def glyphicref1_Sqrt.f (k : Nat) (n0 : Int) : Option (Int) := if n0 < 1 then (some 0) else ((glyphicref1_Sqrt.l0 k n0 0 3037000499 : Option (Int)).bind fun x162 => (some x162))
theorem glyphicref1_Sqrt.ok {S : Seal} {k : Nat} {n0 : Int} {r0_ : Int}(e : glyphicref1_Sqrt.f k n0 = some r0_) :
    Cal Try.prog 94 [.int .i64 n0] [] S fun v H' S' => v = .int .i64 r0_ ∧ H' = [] ∧ S' = S := by
  unfold glyphicref1_Sqrt.f at e
  refine cal_of (c := c94) (N := 26) Try.func94 rfl rfl (by kernel_rfl) (rs := [.t 2]) (by kernel_rfl) (Nat.le_of_ble_eq_true rfl) ?_
  unfold c94
  refine w_seq ?_
  refine w_reg fun all => ?_
  refine t_qz 1 [0] (σ' := [(0, .int .i64 n0)]) (by kernel_rfl) ?_
  refine t_end ?_
  show W _ _ _ _ _ _ _
  refine w_seq ?_
  refine w_seq ?_
  refine w_reg fun all => ?_
  by_cases c150 : n0 < 1
  · rw [if_pos c150] at e
    have c150b : (decide (n0 < 1)) = true := decide_eq_true c150
    refine t_qz 1 [0, 6] (σ' := [(0, .int .i64 n0), (6, .int .i64 n0)]) (by kernel_rfl) ?_
    refine t_v (dv_quiet rfl (congrArg (fun t => some (Value.bool t)) c150b)) ?_
    refine t_keep [0, 7] (σ' := [(0, .int .i64 n0), (7, .bool true)]) (by kernel_rfl) ?_
    refine t_end ?_
    show W _ _ _ _ _ _ _
    refine w_cond rfl (fun _ => ?_) (fun c_ => by cases c_)
    show W _ _ _ _ _ _ _
    refine w_seq ?_
    refine w_reg fun all => ?_
    refine t_qz 1 [2] (σ' := [(2, .int .i64 0)]) (by kernel_rfl) ?_
    refine t_end ?_
    show W _ _ _ _ _ _ _
    refine w_ret ?_
    obtain rfl := Option.some.inj e
    exact ⟨[.int .i64 0], [], S, ⟨rfl, trivial⟩, VS.none, rfl, rfl, rfl⟩
  · rw [if_neg c150] at e
    have c150b : (decide (n0 < 1)) = false := decide_eq_false c150
    refine t_qz 1 [0, 6] (σ' := [(0, .int .i64 n0), (6, .int .i64 n0)]) (by kernel_rfl) ?_
    refine t_v (dv_quiet rfl (congrArg (fun t => some (Value.bool t)) c150b)) ?_
    refine t_keep [0, 7] (σ' := [(0, .int .i64 n0), (7, .bool false)]) (by kernel_rfl) ?_
    refine t_end ?_
    show W _ _ _ _ _ _ _
    refine w_cond rfl (fun c_ => by cases c_) (fun _ => ?_)
    show W _ _ _ _ _ _ _
    refine w_skip ?_
    show W _ _ _ _ _ _ _
    refine w_seq ?_
    refine w_reg fun all => ?_
    refine t_qz 1 [0, 3] (σ' := [(0, .int .i64 n0), (3, .int .i64 0)]) (by kernel_rfl) ?_
    refine t_end ?_
    show W _ _ _ _ _ _ _
    refine w_seq ?_
    refine w_reg fun all => ?_
    refine t_qz 1 [0, 3, 4] (σ' := [(0, .int .i64 n0), (3, .int .i64 0), (4, .int .i64 3037000499)]) (by kernel_rfl) ?_
    refine t_end ?_
    show W _ _ _ _ _ _ _
    obtain ⟨x162, e152, e⟩ := bind_of e
    refine w_cut [3] (fun σ_ H_ S_ => [(3, .int .i64 x162)] = σ_ ∧ ([] : List Own) = H_ ∧ S = S_) ?_ ?_
    · show W _ _ _ _ _ _ _
      refine w_block ?_
      refine w_kp [0, 3, 4] (σ' := [(0, .int .i64 n0), (3, .int .i64 0), (4, .int .i64 3037000499)]) (by kernel_rfl) ?_
      refine w_loop (fun n_ σ_ H_ S_ => ∃ x154 x155, [(0, .int .i64 n0), (3, .int .i64 x154), (4, .int .i64 x155)] = σ_ ∧ ([] : List Own) = H_ ∧ S = S_ ∧ glyphicref1_Sqrt.l0 n_ n0 x154 x155 = some x162) _ ⟨0, 3037000499, rfl, rfl, rfl, e152⟩ ?_
      rintro n161 σ_ H_ S_ ⟨x154, x155, rfl, rfl, rfl, e152⟩
      cases n161 with
      | zero => rw [glyphicref1_Sqrt.l0.eq_1] at e152; cases e152
      | succ k_ =>
        rw [glyphicref1_Sqrt.l0.eq_2] at e152
        refine w_seq ?_
        refine w_seq ?_
        refine w_reg fun all => ?_
        by_cases c156 : x154 < x155
        · rw [if_pos c156] at e152
          have c156b : (decide (x154 < x155)) = true := decide_eq_true c156
          refine t_qz 2 [0, 3, 4, 8, 9] (σ' := [(0, .int .i64 n0), (3, .int .i64 x154), (4, .int .i64 x155), (8, .int .i64 x154), (9, .int .i64 x155)]) (by kernel_rfl) ?_
          refine t_v (dv_quiet rfl (congrArg (fun t => some (Value.bool t)) c156b)) ?_
          refine t_keep [0, 3, 4, 10] (σ' := [(0, .int .i64 n0), (3, .int .i64 x154), (4, .int .i64 x155), (10, .bool true)]) (by kernel_rfl) ?_
          refine t_end ?_
          show W _ _ _ _ _ _ _
          refine w_cond rfl (fun _ => ?_) (fun c_ => by cases c_)
          show W _ _ _ _ _ _ _
          refine w_skip ?_
          show W _ _ _ _ _ _ _
          refine w_block ?_
          refine w_seq ?_
          refine w_reg fun all => ?_
          refine t_qz 7 [0, 3, 4, 5] (σ' := [(0, .int .i64 n0), (3, .int .i64 x154), (4, .int .i64 x155), (5, .int .i64 (wr64 (x155 - (wr64 (Int.tdiv (wr64 (x155 - x154)) 2)))))]) (by kernel_rfl) ?_
          refine t_end ?_
          show W _ _ _ _ _ _ _
          refine w_seq ?_
          refine w_reg fun all => ?_
          have c157 : ¬ (wr64 (x155 - (wr64 (Int.tdiv (wr64 (x155 - x154)) 2)))) = 0 := by
            intro h_; rw [if_pos h_] at e152; cases e152
          rw [if_neg c157] at e152
          refine t_qz 3 [0, 3, 4, 5, 17, 18, 19] (σ' := [(0, .int .i64 n0), (3, .int .i64 x154), (4, .int .i64 x155), (5, .int .i64 (wr64 (x155 - (wr64 (Int.tdiv (wr64 (x155 - x154)) 2))))), (17, .int .i64 (wr64 (x155 - (wr64 (Int.tdiv (wr64 (x155 - x154)) 2))))), (18, .int .i64 n0), (19, .int .i64 (wr64 (x155 - (wr64 (Int.tdiv (wr64 (x155 - x154)) 2)))))]) (by kernel_rfl) ?_
          refine t_v (.quiet rfl (qv_quo rfl rfl c157)) ?_
          by_cases c158 : (wr64 (x155 - (wr64 (Int.tdiv (wr64 (x155 - x154)) 2)))) ≤ (wr64 (Int.tdiv n0 (wr64 (x155 - (wr64 (Int.tdiv (wr64 (x155 - x154)) 2))))))
          · rw [if_pos c158] at e152
            have c158b : (decide ((wr64 (x155 - (wr64 (Int.tdiv (wr64 (x155 - x154)) 2)))) ≤ (wr64 (Int.tdiv n0 (wr64 (x155 - (wr64 (Int.tdiv (wr64 (x155 - x154)) 2)))))))) = true := decide_eq_true c158
            refine t_v (dv_quiet rfl (congrArg (fun t => some (Value.bool t)) c158b)) ?_
            refine t_keep [0, 3, 4, 5, 21] (σ' := [(0, .int .i64 n0), (3, .int .i64 x154), (4, .int .i64 x155), (5, .int .i64 (wr64 (x155 - (wr64 (Int.tdiv (wr64 (x155 - x154)) 2))))), (21, .bool true)]) (by kernel_rfl) ?_
            refine t_end ?_
            show W _ _ _ _ _ _ _
            refine w_cond rfl (fun _ => ?_) (fun c_ => by cases c_)
            show W _ _ _ _ _ _ _
            refine w_reg fun all => ?_
            refine t_qz 2 [0, 3, 4] (σ' := [(0, .int .i64 n0), (3, .int .i64 (wr64 (x155 - (wr64 (Int.tdiv (wr64 (x155 - x154)) 2))))), (4, .int .i64 x155)]) (by kernel_rfl) ?_
            refine t_end ?_
            exact ⟨k_, Nat.lt_succ_self _, [(0, .int .i64 n0), (3, .int .i64 (wr64 (x155 - (wr64 (Int.tdiv (wr64 (x155 - x154)) 2))))), (4, .int .i64 x155)], ([] : List Own), S, keep_sub [0, 3, 4] (by kernel_rfl), VS.sel [] (by kernel_rfl), wr64 (x155 - (wr64 (Int.tdiv (wr64 (x155 - x154)) 2))), x155, rfl, rfl, rfl, e152⟩
          · rw [if_neg c158] at e152
            have c158b : (decide ((wr64 (x155 - (wr64 (Int.tdiv (wr64 (x155 - x154)) 2)))) ≤ (wr64 (Int.tdiv n0 (wr64 (x155 - (wr64 (Int.tdiv (wr64 (x155 - x154)) 2)))))))) = false := decide_eq_false c158
            refine t_v (dv_quiet rfl (congrArg (fun t => some (Value.bool t)) c158b)) ?_
            refine t_keep [0, 3, 4, 5, 21] (σ' := [(0, .int .i64 n0), (3, .int .i64 x154), (4, .int .i64 x155), (5, .int .i64 (wr64 (x155 - (wr64 (Int.tdiv (wr64 (x155 - x154)) 2))))), (21, .bool false)]) (by kernel_rfl) ?_
            refine t_end ?_
            show W _ _ _ _ _ _ _
            refine w_cond rfl (fun c_ => by cases c_) (fun _ => ?_)
            show W _ _ _ _ _ _ _
            refine w_reg fun all => ?_
            refine t_qz 3 [0, 3, 4] (σ' := [(0, .int .i64 n0), (3, .int .i64 x154), (4, .int .i64 (wr64 ((wr64 (x155 - (wr64 (Int.tdiv (wr64 (x155 - x154)) 2)))) - 1)))]) (by kernel_rfl) ?_
            refine t_end ?_
            exact ⟨k_, Nat.lt_succ_self _, [(0, .int .i64 n0), (3, .int .i64 x154), (4, .int .i64 (wr64 ((wr64 (x155 - (wr64 (Int.tdiv (wr64 (x155 - x154)) 2)))) - 1)))], ([] : List Own), S, keep_sub [0, 3, 4] (by kernel_rfl), VS.sel [] (by kernel_rfl), x154, wr64 ((wr64 (x155 - (wr64 (Int.tdiv (wr64 (x155 - x154)) 2)))) - 1), rfl, rfl, rfl, e152⟩
        · rw [if_neg c156] at e152
          have c156b : (decide (x154 < x155)) = false := decide_eq_false c156
          refine t_qz 2 [0, 3, 4, 8, 9] (σ' := [(0, .int .i64 n0), (3, .int .i64 x154), (4, .int .i64 x155), (8, .int .i64 x154), (9, .int .i64 x155)]) (by kernel_rfl) ?_
          refine t_v (dv_quiet rfl (congrArg (fun t => some (Value.bool t)) c156b)) ?_
          refine t_keep [0, 3, 4, 10] (σ' := [(0, .int .i64 n0), (3, .int .i64 x154), (4, .int .i64 x155), (10, .bool false)]) (by kernel_rfl) ?_
          refine t_end ?_
          show W _ _ _ _ _ _ _
          refine w_cond rfl (fun c_ => by cases c_) (fun _ => ?_)
          show W _ _ _ _ _ _ _
          refine w_exit ?_
          obtain rfl := Option.some.inj e152
          exact ⟨([] : List Own), S, VS.sel [] (by kernel_rfl), by kernel_rfl, rfl, rfl⟩
    · rintro σ_ H_ S_ ⟨rfl, rfl, rfl⟩
      refine w_seq ?_
      refine w_reg fun all => ?_
      refine t_qz 2 [2] (σ' := [(2, .int .i64 x162)]) (by kernel_rfl) ?_
      refine t_end ?_
      show W _ _ _ _ _ _ _
      refine w_ret ?_
      obtain rfl := Option.some.inj e
      exact ⟨[.int .i64 x162], [], S, ⟨rfl, trivial⟩, VS.none, rfl, rfl, rfl⟩

/-- glyphicref1.Down -/
def c109 : C :=
  (.seq (.reg [⟨(some 4), .mv (.const (.int .i64 0)), none⟩])
  (.seq (.seq (.reg [⟨(some 6), .mv (.tmp 1), none⟩,
      ⟨(some 7), .bin .lss (.tmp 6) (.const (.int .i64 1)), none⟩])
   (.cond (.tmp 7)
    (.seq (.reg [⟨(some 4), .mv (.const (.int .i64 0)), none⟩])
     .ret)
    .skip))
  (.seq (.reg [⟨(some 8), .mv (.tmp 0), none⟩,
     ⟨(some 9), .mv (.tmp 1), none⟩,
     ⟨(some 10), .bin .quo (.tmp 8) (.tmp 9), none⟩,
     ⟨(some 5), .mv (.tmp 10), none⟩])
  (.seq (.seq (.reg [⟨(some 11), .mv (.tmp 0), none⟩,
      ⟨(some 12), .mv (.tmp 1), none⟩,
      ⟨(some 13), .bin .rem (.tmp 11) (.tmp 12), none⟩,
      ⟨(some 14), .bin .lss (.tmp 13) (.const (.int .i64 0)), none⟩])
   (.cond (.tmp 14)
    (.reg [⟨(some 15), .mv (.tmp 5), none⟩,
       ⟨(some 16), .bin .sub (.tmp 15) (.const (.int .i64 1)), none⟩,
       ⟨(some 5), .mv (.tmp 16), none⟩])
    .skip))
  (.seq (.reg [⟨(some 17), .mv (.tmp 5), none⟩,
     ⟨(some 4), .mv (.tmp 17), none⟩])
  .ret)))))
def glyphicref1_Down.f (a0 : Int) (b1 : Int) : Option (Int) := if b1 < 1 then (some 0) else (if b1 = 0 then none else (if (Int.tmod a0 b1) < 0 then (some (wr64 ((wr64 (Int.tdiv a0 b1)) - 1))) else (some (wr64 (Int.tdiv a0 b1)))))
theorem glyphicref1_Down.ok {S : Seal} {a0 : Int} {b1 : Int} {r0_ : Int}(e : glyphicref1_Down.f a0 b1 = some r0_) :
    Cal Try.prog 109 [.int .i64 a0, .int .i64 b1] [] S fun v H' S' => v = .int .i64 r0_ ∧ H' = [] ∧ S' = S := by
  unfold glyphicref1_Down.f at e
  refine cal_of (c := c109) (N := 18) Try.func109 rfl rfl (by kernel_rfl) (rs := [.t 4]) (by kernel_rfl) (Nat.le_of_ble_eq_true rfl) ?_
  unfold c109
  refine w_seq ?_
  refine w_reg fun all => ?_
  refine t_qz 1 [0, 1] (σ' := [(0, .int .i64 a0), (1, .int .i64 b1)]) (by kernel_rfl) ?_
  refine t_end ?_
  show W _ _ _ _ _ _ _
  refine w_seq ?_
  refine w_seq ?_
  refine w_reg fun all => ?_
  by_cases c166 : b1 < 1
  · rw [if_pos c166] at e
    have c166b : (decide (b1 < 1)) = true := decide_eq_true c166
    refine t_qz 1 [0, 1, 6] (σ' := [(0, .int .i64 a0), (1, .int .i64 b1), (6, .int .i64 b1)]) (by kernel_rfl) ?_
    refine t_v (dv_quiet rfl (congrArg (fun t => some (Value.bool t)) c166b)) ?_
    refine t_keep [0, 1, 7] (σ' := [(0, .int .i64 a0), (1, .int .i64 b1), (7, .bool true)]) (by kernel_rfl) ?_
    refine t_end ?_
    show W _ _ _ _ _ _ _
    refine w_cond rfl (fun _ => ?_) (fun c_ => by cases c_)
    show W _ _ _ _ _ _ _
    refine w_seq ?_
    refine w_reg fun all => ?_
    refine t_qz 1 [4] (σ' := [(4, .int .i64 0)]) (by kernel_rfl) ?_
    refine t_end ?_
    show W _ _ _ _ _ _ _
    refine w_ret ?_
    obtain rfl := Option.some.inj e
    exact ⟨[.int .i64 0], [], S, ⟨rfl, trivial⟩, VS.none, rfl, rfl, rfl⟩
  · rw [if_neg c166] at e
    have c166b : (decide (b1 < 1)) = false := decide_eq_false c166
    refine t_qz 1 [0, 1, 6] (σ' := [(0, .int .i64 a0), (1, .int .i64 b1), (6, .int .i64 b1)]) (by kernel_rfl) ?_
    refine t_v (dv_quiet rfl (congrArg (fun t => some (Value.bool t)) c166b)) ?_
    refine t_keep [0, 1, 7] (σ' := [(0, .int .i64 a0), (1, .int .i64 b1), (7, .bool false)]) (by kernel_rfl) ?_
    refine t_end ?_
    show W _ _ _ _ _ _ _
    refine w_cond rfl (fun c_ => by cases c_) (fun _ => ?_)
    show W _ _ _ _ _ _ _
    refine w_skip ?_
    show W _ _ _ _ _ _ _
    refine w_seq ?_
    refine w_reg fun all => ?_
    have c167 : ¬ b1 = 0 := by
      intro h_; rw [if_pos h_] at e; cases e
    rw [if_neg c167] at e
    refine t_qz 2 [0, 1, 8, 9] (σ' := [(0, .int .i64 a0), (1, .int .i64 b1), (8, .int .i64 a0), (9, .int .i64 b1)]) (by kernel_rfl) ?_
    refine t_v (.quiet rfl (qv_quo rfl rfl c167)) ?_
    refine t_qz 1 [0, 1, 5] (σ' := [(0, .int .i64 a0), (1, .int .i64 b1), (5, .int .i64 (wr64 (Int.tdiv a0 b1)))]) (by kernel_rfl) ?_
    refine t_end ?_
    show W _ _ _ _ _ _ _
    refine w_seq ?_
    refine w_seq ?_
    refine w_reg fun all => ?_
    refine t_qz 2 [5, 11, 12] (σ' := [(5, .int .i64 (wr64 (Int.tdiv a0 b1))), (11, .int .i64 a0), (12, .int .i64 b1)]) (by kernel_rfl) ?_
    refine t_v (.quiet rfl (qv_rem rfl rfl c167)) ?_
    by_cases c168 : (Int.tmod a0 b1) < 0
    · rw [if_pos c168] at e
      have c168b : (decide ((Int.tmod a0 b1) < 0)) = true := decide_eq_true c168
      refine t_v (dv_quiet rfl (congrArg (fun t => some (Value.bool t)) c168b)) ?_
      refine t_keep [5, 14] (σ' := [(5, .int .i64 (wr64 (Int.tdiv a0 b1))), (14, .bool true)]) (by kernel_rfl) ?_
      refine t_end ?_
      show W _ _ _ _ _ _ _
      refine w_cond rfl (fun _ => ?_) (fun c_ => by cases c_)
      show W _ _ _ _ _ _ _
      refine w_reg fun all => ?_
      refine t_qz 3 [5] (σ' := [(5, .int .i64 (wr64 ((wr64 (Int.tdiv a0 b1)) - 1)))]) (by kernel_rfl) ?_
      refine t_end ?_
      show W _ _ _ _ _ _ _
      refine w_seq ?_
      refine w_reg fun all => ?_
      refine t_qz 2 [4] (σ' := [(4, .int .i64 (wr64 ((wr64 (Int.tdiv a0 b1)) - 1)))]) (by kernel_rfl) ?_
      refine t_end ?_
      show W _ _ _ _ _ _ _
      refine w_ret ?_
      obtain rfl := Option.some.inj e
      exact ⟨[.int .i64 (wr64 ((wr64 (Int.tdiv a0 b1)) - 1))], [], S, ⟨rfl, trivial⟩, VS.none, rfl, rfl, rfl⟩
    · rw [if_neg c168] at e
      have c168b : (decide ((Int.tmod a0 b1) < 0)) = false := decide_eq_false c168
      refine t_v (dv_quiet rfl (congrArg (fun t => some (Value.bool t)) c168b)) ?_
      refine t_keep [5, 14] (σ' := [(5, .int .i64 (wr64 (Int.tdiv a0 b1))), (14, .bool false)]) (by kernel_rfl) ?_
      refine t_end ?_
      show W _ _ _ _ _ _ _
      refine w_cond rfl (fun c_ => by cases c_) (fun _ => ?_)
      show W _ _ _ _ _ _ _
      refine w_skip ?_
      show W _ _ _ _ _ _ _
      refine w_seq ?_
      refine w_reg fun all => ?_
      refine t_qz 2 [4] (σ' := [(4, .int .i64 (wr64 (Int.tdiv a0 b1)))]) (by kernel_rfl) ?_
      refine t_end ?_
      show W _ _ _ _ _ _ _
      refine w_ret ?_
      obtain rfl := Option.some.inj e
      exact ⟨[.int .i64 (wr64 (Int.tdiv a0 b1))], [], S, ⟨rfl, trivial⟩, VS.none, rfl, rfl, rfl⟩

/-- glyphicref1.Round -/
def c76 : C :=
  (.seq (.reg [⟨(some 4), .mv (.const (.int .i64 0)), none⟩])
  (.seq (.seq (.reg [⟨(some 7), .mv (.tmp 1), none⟩,
      ⟨(some 8), .bin .lss (.tmp 7) (.const (.int .i64 1)), none⟩])
   (.cond (.tmp 8)
    (.seq (.reg [⟨(some 4), .mv (.const (.int .i64 0)), none⟩])
     .ret)
    .skip))
  (.seq (.reg [⟨(some 9), .mv (.tmp 0), none⟩,
     ⟨(some 10), .mv (.tmp 1), none⟩,
     ⟨(some 11), .call 109 [(.tmp 9), (.tmp 10)], none⟩,
     ⟨(some 5), .mv (.tmp 11), none⟩])
  (.seq (.reg [⟨(some 12), .mv (.tmp 0), none⟩,
     ⟨(some 13), .mv (.tmp 5), none⟩,
     ⟨(some 14), .mv (.tmp 1), none⟩,
     ⟨(some 15), .bin .mul (.tmp 13) (.tmp 14), none⟩,
     ⟨(some 16), .bin .sub (.tmp 12) (.tmp 15), none⟩,
     ⟨(some 6), .mv (.tmp 16), none⟩])
  (.seq (.seq (.reg [⟨(some 17), .mv (.tmp 6), none⟩,
      ⟨(some 18), .mv (.tmp 1), none⟩,
      ⟨(some 19), .mv (.tmp 6), none⟩,
      ⟨(some 20), .bin .sub (.tmp 18) (.tmp 19), none⟩,
      ⟨(some 21), .bin .geq (.tmp 17) (.tmp 20), none⟩])
   (.cond (.tmp 21)
    (.reg [⟨(some 22), .mv (.tmp 5), none⟩,
       ⟨(some 23), .bin .add (.tmp 22) (.const (.int .i64 1)), none⟩,
       ⟨(some 5), .mv (.tmp 23), none⟩])
    .skip))
  (.seq (.reg [⟨(some 24), .mv (.tmp 5), none⟩,
     ⟨(some 4), .mv (.tmp 24), none⟩])
  .ret))))))
def glyphicref1_Round.f (a0 : Int) (b1 : Int) : Option (Int) := if b1 < 1 then (some 0) else ((glyphicref1_Down.f a0 b1).bind fun t169 => (if (wr64 (a0 - (wr64 (t169 * b1)))) ≥ (wr64 (b1 - (wr64 (a0 - (wr64 (t169 * b1)))))) then (some (wr64 (t169 + 1))) else (some t169)))
theorem glyphicref1_Round.ok {S : Seal} {a0 : Int} {b1 : Int} {r0_ : Int}(e : glyphicref1_Round.f a0 b1 = some r0_) :
    Cal Try.prog 76 [.int .i64 a0, .int .i64 b1] [] S fun v H' S' => v = .int .i64 r0_ ∧ H' = [] ∧ S' = S := by
  unfold glyphicref1_Round.f at e
  refine cal_of (c := c76) (N := 25) Try.func76 rfl rfl (by kernel_rfl) (rs := [.t 4]) (by kernel_rfl) (Nat.le_of_ble_eq_true rfl) ?_
  unfold c76
  refine w_seq ?_
  refine w_reg fun all => ?_
  refine t_qz 1 [0, 1] (σ' := [(0, .int .i64 a0), (1, .int .i64 b1)]) (by kernel_rfl) ?_
  refine t_end ?_
  show W _ _ _ _ _ _ _
  refine w_seq ?_
  refine w_seq ?_
  refine w_reg fun all => ?_
  by_cases c165 : b1 < 1
  · rw [if_pos c165] at e
    have c165b : (decide (b1 < 1)) = true := decide_eq_true c165
    refine t_qz 1 [0, 1, 7] (σ' := [(0, .int .i64 a0), (1, .int .i64 b1), (7, .int .i64 b1)]) (by kernel_rfl) ?_
    refine t_v (dv_quiet rfl (congrArg (fun t => some (Value.bool t)) c165b)) ?_
    refine t_keep [0, 1, 8] (σ' := [(0, .int .i64 a0), (1, .int .i64 b1), (8, .bool true)]) (by kernel_rfl) ?_
    refine t_end ?_
    show W _ _ _ _ _ _ _
    refine w_cond rfl (fun _ => ?_) (fun c_ => by cases c_)
    show W _ _ _ _ _ _ _
    refine w_seq ?_
    refine w_reg fun all => ?_
    refine t_qz 1 [4] (σ' := [(4, .int .i64 0)]) (by kernel_rfl) ?_
    refine t_end ?_
    show W _ _ _ _ _ _ _
    refine w_ret ?_
    obtain rfl := Option.some.inj e
    exact ⟨[.int .i64 0], [], S, ⟨rfl, trivial⟩, VS.none, rfl, rfl, rfl⟩
  · rw [if_neg c165] at e
    have c165b : (decide (b1 < 1)) = false := decide_eq_false c165
    refine t_qz 1 [0, 1, 7] (σ' := [(0, .int .i64 a0), (1, .int .i64 b1), (7, .int .i64 b1)]) (by kernel_rfl) ?_
    refine t_v (dv_quiet rfl (congrArg (fun t => some (Value.bool t)) c165b)) ?_
    refine t_keep [0, 1, 8] (σ' := [(0, .int .i64 a0), (1, .int .i64 b1), (8, .bool false)]) (by kernel_rfl) ?_
    refine t_end ?_
    show W _ _ _ _ _ _ _
    refine w_cond rfl (fun c_ => by cases c_) (fun _ => ?_)
    show W _ _ _ _ _ _ _
    refine w_skip ?_
    show W _ _ _ _ _ _ _
    refine w_seq ?_
    refine w_reg fun all => ?_
    obtain ⟨t169, h170, e⟩ := bind_of e
    refine t_qz 2 [0, 1, 9, 10] (σ' := [(0, .int .i64 a0), (1, .int .i64 b1), (9, .int .i64 a0), (10, .int .i64 b1)]) (by kernel_rfl) ?_
    refine t_v (.call (vs := [.int .i64 a0, .int .i64 b1]) rfl rfl (by kernel_rfl) (glyphicref1_Down.ok h170)) ?_
    refine t_qz 1 [0, 1, 5] (σ' := [(0, .int .i64 a0), (1, .int .i64 b1), (5, .int .i64 t169)]) (by kernel_rfl) ?_
    refine t_end ?_
    show W _ _ _ _ _ _ _
    refine w_seq ?_
    refine w_reg fun all => ?_
    refine t_qz 6 [1, 5, 6] (σ' := [(1, .int .i64 b1), (5, .int .i64 t169), (6, .int .i64 (wr64 (a0 - (wr64 (t169 * b1)))))]) (by kernel_rfl) ?_
    refine t_end ?_
    show W _ _ _ _ _ _ _
    refine w_seq ?_
    refine w_seq ?_
    refine w_reg fun all => ?_
    by_cases c171 : (wr64 (a0 - (wr64 (t169 * b1)))) ≥ (wr64 (b1 - (wr64 (a0 - (wr64 (t169 * b1))))))
    · rw [if_pos c171] at e
      have c171b : (decide ((wr64 (a0 - (wr64 (t169 * b1)))) ≥ (wr64 (b1 - (wr64 (a0 - (wr64 (t169 * b1)))))))) = true := decide_eq_true c171
      refine t_qz 4 [5, 17, 20] (σ' := [(5, .int .i64 t169), (17, .int .i64 (wr64 (a0 - (wr64 (t169 * b1))))), (20, .int .i64 (wr64 (b1 - (wr64 (a0 - (wr64 (t169 * b1)))))))]) (by kernel_rfl) ?_
      refine t_v (dv_quiet rfl (congrArg (fun t => some (Value.bool t)) c171b)) ?_
      refine t_keep [5, 21] (σ' := [(5, .int .i64 t169), (21, .bool true)]) (by kernel_rfl) ?_
      refine t_end ?_
      show W _ _ _ _ _ _ _
      refine w_cond rfl (fun _ => ?_) (fun c_ => by cases c_)
      show W _ _ _ _ _ _ _
      refine w_reg fun all => ?_
      refine t_qz 3 [5] (σ' := [(5, .int .i64 (wr64 (t169 + 1)))]) (by kernel_rfl) ?_
      refine t_end ?_
      show W _ _ _ _ _ _ _
      refine w_seq ?_
      refine w_reg fun all => ?_
      refine t_qz 2 [4] (σ' := [(4, .int .i64 (wr64 (t169 + 1)))]) (by kernel_rfl) ?_
      refine t_end ?_
      show W _ _ _ _ _ _ _
      refine w_ret ?_
      obtain rfl := Option.some.inj e
      exact ⟨[.int .i64 (wr64 (t169 + 1))], [], S, ⟨rfl, trivial⟩, VS.none, rfl, rfl, rfl⟩
    · rw [if_neg c171] at e
      have c171b : (decide ((wr64 (a0 - (wr64 (t169 * b1)))) ≥ (wr64 (b1 - (wr64 (a0 - (wr64 (t169 * b1)))))))) = false := decide_eq_false c171
      refine t_qz 4 [5, 17, 20] (σ' := [(5, .int .i64 t169), (17, .int .i64 (wr64 (a0 - (wr64 (t169 * b1))))), (20, .int .i64 (wr64 (b1 - (wr64 (a0 - (wr64 (t169 * b1)))))))]) (by kernel_rfl) ?_
      refine t_v (dv_quiet rfl (congrArg (fun t => some (Value.bool t)) c171b)) ?_
      refine t_keep [5, 21] (σ' := [(5, .int .i64 t169), (21, .bool false)]) (by kernel_rfl) ?_
      refine t_end ?_
      show W _ _ _ _ _ _ _
      refine w_cond rfl (fun c_ => by cases c_) (fun _ => ?_)
      show W _ _ _ _ _ _ _
      refine w_skip ?_
      show W _ _ _ _ _ _ _
      refine w_seq ?_
      refine w_reg fun all => ?_
      refine t_qz 2 [4] (σ' := [(4, .int .i64 t169)]) (by kernel_rfl) ?_
      refine t_end ?_
      show W _ _ _ _ _ _ _
      refine w_ret ?_
      obtain rfl := Option.some.inj e
      exact ⟨[.int .i64 t169], [], S, ⟨rfl, trivial⟩, VS.none, rfl, rfl, rfl⟩

/-- glyphicref1.Clamp -/
def c95 : C :=
  (.seq (.reg [⟨(some 6), .mv (.const (.int .i64 0)), none⟩])
  (.seq (.seq (.reg [⟨(some 7), .mv (.tmp 0), none⟩,
      ⟨(some 8), .mv (.tmp 2), none⟩,
      ⟨(some 9), .bin .gtr (.tmp 7) (.tmp 8), none⟩])
   (.cond (.tmp 9)
    (.reg [⟨(some 10), .mv (.tmp 2), none⟩,
       ⟨(some 0), .mv (.tmp 10), none⟩])
    .skip))
  (.seq (.seq (.reg [⟨(some 11), .mv (.tmp 0), none⟩,
      ⟨(some 12), .mv (.tmp 1), none⟩,
      ⟨(some 13), .bin .lss (.tmp 11) (.tmp 12), none⟩])
   (.cond (.tmp 13)
    (.reg [⟨(some 14), .mv (.tmp 1), none⟩,
       ⟨(some 0), .mv (.tmp 14), none⟩])
    .skip))
  (.seq (.reg [⟨(some 15), .mv (.tmp 0), none⟩,
     ⟨(some 6), .mv (.tmp 15), none⟩])
  .ret))))
def glyphicref1_Clamp.f (x0 : Int) (lo1 : Int) (hi2 : Int) : Option (Int) := if x0 > hi2 then (if hi2 < lo1 then (some lo1) else (some hi2)) else (if x0 < lo1 then (some lo1) else (some x0))
theorem glyphicref1_Clamp.ok {S : Seal} {x0 : Int} {lo1 : Int} {hi2 : Int} {r0_ : Int}(e : glyphicref1_Clamp.f x0 lo1 hi2 = some r0_) :
    Cal Try.prog 95 [.int .i64 x0, .int .i64 lo1, .int .i64 hi2] [] S fun v H' S' => v = .int .i64 r0_ ∧ H' = [] ∧ S' = S := by
  unfold glyphicref1_Clamp.f at e
  refine cal_of (c := c95) (N := 16) Try.func95 rfl rfl (by kernel_rfl) (rs := [.t 6]) (by kernel_rfl) (Nat.le_of_ble_eq_true rfl) ?_
  unfold c95
  refine w_seq ?_
  refine w_reg fun all => ?_
  refine t_qz 1 [0, 1, 2] (σ' := [(0, .int .i64 x0), (1, .int .i64 lo1), (2, .int .i64 hi2)]) (by kernel_rfl) ?_
  refine t_end ?_
  show W _ _ _ _ _ _ _
  refine w_seq ?_
  refine w_seq ?_
  refine w_reg fun all => ?_
  by_cases c174 : x0 > hi2
  · rw [if_pos c174] at e
    have c174b : (decide (x0 > hi2)) = true := decide_eq_true c174
    refine t_qz 2 [0, 1, 2, 7, 8] (σ' := [(0, .int .i64 x0), (1, .int .i64 lo1), (2, .int .i64 hi2), (7, .int .i64 x0), (8, .int .i64 hi2)]) (by kernel_rfl) ?_
    refine t_v (dv_quiet rfl (congrArg (fun t => some (Value.bool t)) c174b)) ?_
    refine t_keep [0, 1, 2, 9] (σ' := [(0, .int .i64 x0), (1, .int .i64 lo1), (2, .int .i64 hi2), (9, .bool true)]) (by kernel_rfl) ?_
    refine t_end ?_
    show W _ _ _ _ _ _ _
    refine w_cond rfl (fun _ => ?_) (fun c_ => by cases c_)
    show W _ _ _ _ _ _ _
    refine w_reg fun all => ?_
    refine t_qz 2 [0, 1] (σ' := [(0, .int .i64 hi2), (1, .int .i64 lo1)]) (by kernel_rfl) ?_
    refine t_end ?_
    show W _ _ _ _ _ _ _
    refine w_seq ?_
    refine w_seq ?_
    refine w_reg fun all => ?_
    by_cases c175 : hi2 < lo1
    · rw [if_pos c175] at e
      have c175b : (decide (hi2 < lo1)) = true := decide_eq_true c175
      refine t_qz 2 [0, 1, 11, 12] (σ' := [(0, .int .i64 hi2), (1, .int .i64 lo1), (11, .int .i64 hi2), (12, .int .i64 lo1)]) (by kernel_rfl) ?_
      refine t_v (dv_quiet rfl (congrArg (fun t => some (Value.bool t)) c175b)) ?_
      refine t_keep [0, 1, 13] (σ' := [(0, .int .i64 hi2), (1, .int .i64 lo1), (13, .bool true)]) (by kernel_rfl) ?_
      refine t_end ?_
      show W _ _ _ _ _ _ _
      refine w_cond rfl (fun _ => ?_) (fun c_ => by cases c_)
      show W _ _ _ _ _ _ _
      refine w_reg fun all => ?_
      refine t_qz 2 [0] (σ' := [(0, .int .i64 lo1)]) (by kernel_rfl) ?_
      refine t_end ?_
      show W _ _ _ _ _ _ _
      refine w_seq ?_
      refine w_reg fun all => ?_
      refine t_qz 2 [6] (σ' := [(6, .int .i64 lo1)]) (by kernel_rfl) ?_
      refine t_end ?_
      show W _ _ _ _ _ _ _
      refine w_ret ?_
      obtain rfl := Option.some.inj e
      exact ⟨[.int .i64 lo1], [], S, ⟨rfl, trivial⟩, VS.none, rfl, rfl, rfl⟩
    · rw [if_neg c175] at e
      have c175b : (decide (hi2 < lo1)) = false := decide_eq_false c175
      refine t_qz 2 [0, 1, 11, 12] (σ' := [(0, .int .i64 hi2), (1, .int .i64 lo1), (11, .int .i64 hi2), (12, .int .i64 lo1)]) (by kernel_rfl) ?_
      refine t_v (dv_quiet rfl (congrArg (fun t => some (Value.bool t)) c175b)) ?_
      refine t_keep [0, 1, 13] (σ' := [(0, .int .i64 hi2), (1, .int .i64 lo1), (13, .bool false)]) (by kernel_rfl) ?_
      refine t_end ?_
      show W _ _ _ _ _ _ _
      refine w_cond rfl (fun c_ => by cases c_) (fun _ => ?_)
      show W _ _ _ _ _ _ _
      refine w_skip ?_
      show W _ _ _ _ _ _ _
      refine w_seq ?_
      refine w_reg fun all => ?_
      refine t_qz 2 [6] (σ' := [(6, .int .i64 hi2)]) (by kernel_rfl) ?_
      refine t_end ?_
      show W _ _ _ _ _ _ _
      refine w_ret ?_
      obtain rfl := Option.some.inj e
      exact ⟨[.int .i64 hi2], [], S, ⟨rfl, trivial⟩, VS.none, rfl, rfl, rfl⟩
  · rw [if_neg c174] at e
    have c174b : (decide (x0 > hi2)) = false := decide_eq_false c174
    refine t_qz 2 [0, 1, 2, 7, 8] (σ' := [(0, .int .i64 x0), (1, .int .i64 lo1), (2, .int .i64 hi2), (7, .int .i64 x0), (8, .int .i64 hi2)]) (by kernel_rfl) ?_
    refine t_v (dv_quiet rfl (congrArg (fun t => some (Value.bool t)) c174b)) ?_
    refine t_keep [0, 1, 2, 9] (σ' := [(0, .int .i64 x0), (1, .int .i64 lo1), (2, .int .i64 hi2), (9, .bool false)]) (by kernel_rfl) ?_
    refine t_end ?_
    show W _ _ _ _ _ _ _
    refine w_cond rfl (fun c_ => by cases c_) (fun _ => ?_)
    show W _ _ _ _ _ _ _
    refine w_skip ?_
    show W _ _ _ _ _ _ _
    refine w_seq ?_
    refine w_seq ?_
    refine w_reg fun all => ?_
    by_cases c176 : x0 < lo1
    · rw [if_pos c176] at e
      have c176b : (decide (x0 < lo1)) = true := decide_eq_true c176
      refine t_qz 2 [0, 1, 11, 12] (σ' := [(0, .int .i64 x0), (1, .int .i64 lo1), (11, .int .i64 x0), (12, .int .i64 lo1)]) (by kernel_rfl) ?_
      refine t_v (dv_quiet rfl (congrArg (fun t => some (Value.bool t)) c176b)) ?_
      refine t_keep [0, 1, 13] (σ' := [(0, .int .i64 x0), (1, .int .i64 lo1), (13, .bool true)]) (by kernel_rfl) ?_
      refine t_end ?_
      show W _ _ _ _ _ _ _
      refine w_cond rfl (fun _ => ?_) (fun c_ => by cases c_)
      show W _ _ _ _ _ _ _
      refine w_reg fun all => ?_
      refine t_qz 2 [0] (σ' := [(0, .int .i64 lo1)]) (by kernel_rfl) ?_
      refine t_end ?_
      show W _ _ _ _ _ _ _
      refine w_seq ?_
      refine w_reg fun all => ?_
      refine t_qz 2 [6] (σ' := [(6, .int .i64 lo1)]) (by kernel_rfl) ?_
      refine t_end ?_
      show W _ _ _ _ _ _ _
      refine w_ret ?_
      obtain rfl := Option.some.inj e
      exact ⟨[.int .i64 lo1], [], S, ⟨rfl, trivial⟩, VS.none, rfl, rfl, rfl⟩
    · rw [if_neg c176] at e
      have c176b : (decide (x0 < lo1)) = false := decide_eq_false c176
      refine t_qz 2 [0, 1, 11, 12] (σ' := [(0, .int .i64 x0), (1, .int .i64 lo1), (11, .int .i64 x0), (12, .int .i64 lo1)]) (by kernel_rfl) ?_
      refine t_v (dv_quiet rfl (congrArg (fun t => some (Value.bool t)) c176b)) ?_
      refine t_keep [0, 1, 13] (σ' := [(0, .int .i64 x0), (1, .int .i64 lo1), (13, .bool false)]) (by kernel_rfl) ?_
      refine t_end ?_
      show W _ _ _ _ _ _ _
      refine w_cond rfl (fun c_ => by cases c_) (fun _ => ?_)
      show W _ _ _ _ _ _ _
      refine w_skip ?_
      show W _ _ _ _ _ _ _
      refine w_seq ?_
      refine w_reg fun all => ?_
      refine t_qz 2 [6] (σ' := [(6, .int .i64 x0)]) (by kernel_rfl) ?_
      refine t_end ?_
      show W _ _ _ _ _ _ _
      refine w_ret ?_
      obtain rfl := Option.some.inj e
      exact ⟨[.int .i64 x0], [], S, ⟨rfl, trivial⟩, VS.none, rfl, rfl, rfl⟩

/-- glyphicref20.Part -/
def c56 : C :=
  (.seq (.reg [⟨(some 2), .box (.tmp 0), none⟩,
     ⟨(some 3), .box (.tmp 1), none⟩,
     ⟨(some 4), .mv (.const (.int .i64 0)), none⟩])
  (.seq (.seq (.reg [⟨(some 12), .pad 0 (.tmp 2), none⟩,
      ⟨(some 13), .ld none (.tmp 12), none⟩])
   (.block 0 (.seq (.reg [⟨(some 15), .bin .eql (.tmp 13) (.const (.int .i64 1)), none⟩,
       ⟨(some 14), .mv (.tmp 15), none⟩])
    (.cond (.tmp 14)
     (.seq (.reg [⟨(some 16), .pad 3 (.tmp 2), none⟩,
         ⟨(some 17), .ld (some 2) (.tmp 16), none⟩,
         ⟨(some 18), .pad 5 (.tmp 2), none⟩,
         ⟨(some 19), .ld (some 2) (.tmp 18), none⟩,
         ⟨(some 20), .call 78 [(.tmp 17), (.tmp 19)], none⟩,
         ⟨(some 5), .mv (.tmp 20), none⟩])
      (.seq (.reg [⟨(some 21), .pad 3 (.tmp 2), none⟩,
         ⟨(some 22), .ld (some 2) (.tmp 21), none⟩,
         ⟨(some 23), .pad 5 (.tmp 2), none⟩,
         ⟨(some 24), .ld (some 2) (.tmp 23), none⟩,
         ⟨(some 25), .ld (some 2) (.tmp 3), none⟩,
         ⟨(some 26), .call 77 [(.tmp 22), (.tmp 24), (.tmp 25)], none⟩,
         ⟨(some 6), .mv (.tmp 26), none⟩])
      (.seq (.seq (.reg [⟨(some 27), .mv (.tmp 5), none⟩,
          ⟨(some 28), .bin .eql (.tmp 27) (.const (.int .i64 0)), none⟩,
          ⟨(some 29), .mv (.tmp 28), none⟩,
          ⟨(some 30), .mv (.tmp 6), (some (29, false))⟩,
          ⟨(some 31), .bin .leq (.tmp 30) (.const (.int .i64 0)), (some (29, false))⟩,
          ⟨(some 32), .pk (.tmp 29) (.const (.bool true)) (.tmp 31), none⟩])
       (.cond (.tmp 32)
        (.seq (.reg [⟨(some 4), .mv (.const (.int .i64 0)), none⟩])
         .ret)
        .skip))
      (.seq (.seq (.reg [⟨(some 33), .mv (.tmp 6), none⟩,
          ⟨(some 34), .mv (.tmp 5), none⟩,
          ⟨(some 35), .bin .geq (.tmp 33) (.tmp 34), none⟩])
       (.cond (.tmp 35)
        (.seq (.reg [⟨(some 4), .mv (.const (.int .i64 65536)), none⟩])
         .ret)
        .skip))
      (.seq (.reg [⟨(some 37), .mv (.tmp 6), none⟩,
         ⟨(some 38), .cnv .u64 (.tmp 37), none⟩,
         ⟨(some 39), .call 81 [(.tmp 38), (.const (.int .u64 65536))], none⟩,
         ⟨(some 36), .mv (.tmp 39), none⟩,
         ⟨(some 40), .xt 0 (.tmp 36), none⟩,
         ⟨(some 41), .xt 1 (.tmp 36), none⟩,
         ⟨(some 7), .mv (.tmp 40), none⟩,
         ⟨(some 8), .mv (.tmp 41), none⟩])
      (.seq (.reg [⟨(some 43), .mv (.tmp 7), none⟩,
         ⟨(some 44), .mv (.tmp 8), none⟩,
         ⟨(some 45), .mv (.tmp 5), none⟩,
         ⟨(some 46), .cnv .u64 (.tmp 45), none⟩,
         ⟨(some 47), .call 93 [(.tmp 43), (.tmp 44), (.tmp 46)], none⟩,
         ⟨(some 42), .mv (.tmp 47), none⟩,
         ⟨(some 48), .xt 0 (.tmp 42), none⟩,
         ⟨(some 49), .xt 1 (.tmp 42), none⟩,
         ⟨(some 9), .mv (.tmp 48), none⟩,
         ⟨(some 10), .mv (.tmp 49), none⟩])
      (.seq (.reg [⟨(some 50), .mv (.tmp 9), none⟩,
         ⟨(some 51), .cnv .i64 (.tmp 50), none⟩,
         ⟨(some 4), .mv (.tmp 51), none⟩])
      .ret)))))))
     (.seq (.reg [⟨(some 53), .bin .eql (.tmp 13) (.const (.int .i64 2)), none⟩,
         ⟨(some 52), .mv (.tmp 53), none⟩])
      (.cond (.tmp 52)
       (.seq (.seq (.reg [⟨(some 54), .pad 5 (.tmp 2), none⟩,
            ⟨(some 55), .pad 0 (.tmp 54), none⟩,
            ⟨(some 56), .ld none (.tmp 55), none⟩,
            ⟨(some 57), .bin .lss (.tmp 56) (.const (.int .i64 1)), none⟩])
         (.cond (.tmp 57)
          (.seq (.reg [⟨(some 4), .mv (.const (.int .i64 65536)), none⟩])
           .ret)
          .skip))
        (.seq (.reg [⟨(some 58), .pad 3 (.tmp 2), none⟩,
           ⟨(some 59), .ld (some 2) (.tmp 58), none⟩,
           ⟨(some 60), .ld (some 2) (.tmp 3), none⟩,
           ⟨(some 61), .call 78 [(.tmp 59), (.tmp 60)], none⟩,
           ⟨(some 62), .bin .mul (.tmp 61) (.const (.int .i64 256)), none⟩,
           ⟨(some 63), .call 94 [(.tmp 62)], none⟩,
           ⟨(some 11), .mv (.tmp 63), none⟩])
        (.seq (.reg [⟨(some 64), .mv (.tmp 11), none⟩,
           ⟨(some 65), .bin .mul (.const (.int .i64 4096)) (.tmp 64), none⟩,
           ⟨(some 66), .pad 5 (.tmp 2), none⟩,
           ⟨(some 67), .pad 0 (.tmp 66), none⟩,
           ⟨(some 68), .ld none (.tmp 67), none⟩,
           ⟨(some 69), .call 76 [(.tmp 65), (.tmp 68)], none⟩,
           ⟨(some 70), .call 95 [(.tmp 69), (.const (.int .i64 0)), (.const (.int .i64 65536))], none⟩,
           ⟨(some 4), .mv (.tmp 70), none⟩])
        .ret)))
       .skip))))))
  (.seq (.reg [⟨(some 4), .mv (.const (.int .i64 0)), none⟩])
  .ret)))
def glyphicref20_Part.f (k : Nat) (p0_Kind : Int) (p0_A : Int) (p0_B : Int) (p0_P_X : Int) (p0_P_Y : Int) (p0_Q_X : Int) (p0_Q_Y : Int) (at1_X : Int) (at1_Y : Int) : Option (Int) := if p0_Kind = 1 then ((glyphicref1_Len2.f p0_P_X p0_P_Y p0_Q_X p0_Q_Y).bind fun t133 => ((glyphicref1_Dot.f p0_P_X p0_P_Y p0_Q_X p0_Q_Y at1_X at1_Y).bind fun t135 => (if t133 = 0 then (some 0) else (if t135 ≤ 0 then (some 0) else (if t135 ≥ t133 then (some 65536) else ((bits_Mul64.f (wru64 t135) 65536).bind fun (t140, t141) => ((bits_Div64.f t140 t141 (wru64 t133)).bind fun (t143, t144) => (some (wr64 t143))))))))) else (if p0_Kind = 2 then (if p0_Q_X < 1 then (some 65536) else ((glyphicref1_Len2.f p0_P_X p0_P_Y at1_X at1_Y).bind fun t148 => ((glyphicref1_Sqrt.f k (wr64 (t148 * 256))).bind fun t163 => ((glyphicref1_Round.f (wr64 (4096 * t163)) p0_Q_X).bind fun t172 => ((glyphicref1_Clamp.f t172 0 65536).bind fun t177 => (some t177)))))) else (some 0))
theorem glyphicref20_Part.ok {S : Seal} {k : Nat} {p0_Kind : Int} {p0_A : Int} {p0_B : Int} {p0_P_X : Int} {p0_P_Y : Int} {p0_Q_X : Int} {p0_Q_Y : Int} {at1_X : Int} {at1_Y : Int} {r0_ : Int}(e : glyphicref20_Part.f k p0_Kind p0_A p0_B p0_P_X p0_P_Y p0_Q_X p0_Q_Y at1_X at1_Y = some r0_) :
    Cal Try.prog 56 [.agg #[.int .i64 p0_Kind, .int .i64 p0_A, .int .i64 p0_B, .int .i64 p0_P_X, .int .i64 p0_P_Y, .int .i64 p0_Q_X, .int .i64 p0_Q_Y], .agg #[.int .i64 at1_X, .int .i64 at1_Y]] [] S fun v H' S' => v = .int .i64 r0_ ∧ H' = [] ∧ S' = S := by
  unfold glyphicref20_Part.f at e
  refine cal_of (c := c56) (N := 71) Try.func56 rfl rfl (by kernel_rfl) (rs := [.t 4]) (by kernel_rfl) (Nat.le_of_ble_eq_true rfl) ?_
  unfold c56
  refine w_seq ?_
  refine w_reg fun all => ?_
  refine t_a (.box rfl rfl rfl) fun b123 fb123 sb123 => ?_
  refine t_a (.box rfl rfl rfl) fun b124 fb124 sb124 => ?_
  refine t_qz 1 [2, 3] (σ' := [(2, .pointer (some ⟨b123, 0, none⟩)), (3, .pointer (some ⟨b124, 0, none⟩))]) (by kernel_rfl) ?_
  refine t_end ?_
  show W _ _ _ _ _ _ _
  refine w_seq ?_
  refine w_seq ?_
  refine w_reg fun all => ?_
  refine t_qz 1 [2, 3, 12] (σ' := [(2, .pointer (some ⟨b123, 0, none⟩)), (3, .pointer (some ⟨b124, 0, none⟩)), (12, .pointer (some ⟨b123, 0, none⟩))]) (by kernel_rfl) ?_
  refine t_v (.ld1 rfl rfl rfl (.at 1 rfl rfl)) ?_
  refine t_keep [2, 3, 13] (σ' := [(2, .pointer (some ⟨b123, 0, none⟩)), (3, .pointer (some ⟨b124, 0, none⟩)), (13, .int .i64 p0_Kind)]) (by kernel_rfl) ?_
  refine t_end ?_
  show W _ _ _ _ _ _ _
  refine w_block ?_
  refine w_seq ?_
  refine w_reg fun all => ?_
  by_cases c125 : p0_Kind = 1
  · rw [if_pos c125] at e
    have c125b : (p0_Kind == 1) = true := beq_iff_eq.mpr c125
    refine t_v (dv_quiet rfl (congrArg (fun t => some (Value.bool t)) c125b)) ?_
    refine t_qz 1 [2, 3, 13, 14] (σ' := [(2, .pointer (some ⟨b123, 0, none⟩)), (3, .pointer (some ⟨b124, 0, none⟩)), (13, .int .i64 p0_Kind), (14, .bool true)]) (by kernel_rfl) ?_
    refine t_end ?_
    show W _ _ _ _ _ _ _
    refine w_cond rfl (fun _ => ?_) (fun c_ => by cases c_)
    show W _ _ _ _ _ _ _
    refine w_seq ?_
    refine w_reg fun all => ?_
    refine t_qz 1 [2, 3, 16] (σ' := [(2, .pointer (some ⟨b123, 0, none⟩)), (3, .pointer (some ⟨b124, 0, none⟩)), (16, .pointer (some ⟨b123, 3, none⟩))]) (by kernel_rfl) ?_
    refine t_v (.ldn rfl rfl rfl (.at 1 rfl rfl)) ?_
    refine t_qz 1 [2, 3, 17, 18] (σ' := [(2, .pointer (some ⟨b123, 0, none⟩)), (3, .pointer (some ⟨b124, 0, none⟩)), (17, .agg #[.int .i64 p0_P_X, .int .i64 p0_P_Y]), (18, .pointer (some ⟨b123, 5, none⟩))]) (by kernel_rfl) ?_
    refine t_v (.ldn rfl rfl rfl (.at 1 rfl rfl)) ?_
    obtain ⟨t133, h134, e⟩ := bind_of e
    refine t_v (.call (vs := [.agg #[.int .i64 p0_P_X, .int .i64 p0_P_Y], .agg #[.int .i64 p0_Q_X, .int .i64 p0_Q_Y]]) rfl rfl (by kernel_rfl) (glyphicref1_Len2.ok h134)) ?_
    refine t_qz 1 [2, 3, 5] (σ' := [(2, .pointer (some ⟨b123, 0, none⟩)), (3, .pointer (some ⟨b124, 0, none⟩)), (5, .int .i64 t133)]) (by kernel_rfl) ?_
    refine t_end ?_
    show W _ _ _ _ _ _ _
    refine w_seq ?_
    refine w_reg fun all => ?_
    refine t_qz 1 [2, 3, 5, 21] (σ' := [(2, .pointer (some ⟨b123, 0, none⟩)), (3, .pointer (some ⟨b124, 0, none⟩)), (5, .int .i64 t133), (21, .pointer (some ⟨b123, 3, none⟩))]) (by kernel_rfl) ?_
    refine t_v (.ldn rfl rfl rfl (.at 1 rfl rfl)) ?_
    refine t_qz 1 [3, 5, 22, 23] (σ' := [(3, .pointer (some ⟨b124, 0, none⟩)), (5, .int .i64 t133), (22, .agg #[.int .i64 p0_P_X, .int .i64 p0_P_Y]), (23, .pointer (some ⟨b123, 5, none⟩))]) (by kernel_rfl) ?_
    refine t_v (.ldn rfl rfl rfl (.at 1 rfl rfl)) ?_
    refine t_v (.ldn rfl rfl rfl (.at 0 rfl rfl)) ?_
    obtain ⟨t135, h136, e⟩ := bind_of e
    refine t_v (.call (vs := [.agg #[.int .i64 p0_P_X, .int .i64 p0_P_Y], .agg #[.int .i64 p0_Q_X, .int .i64 p0_Q_Y], .agg #[.int .i64 at1_X, .int .i64 at1_Y]]) rfl rfl (by kernel_rfl) (glyphicref1_Dot.ok h136)) ?_
    refine t_qz 1 [5, 6] (σ' := [(5, .int .i64 t133), (6, .int .i64 t135)]) (by kernel_rfl) ?_
    refine t_end ?_
    show W _ _ _ _ _ _ _
    refine w_seq ?_
    refine w_seq ?_
    refine w_reg fun all => ?_
    by_cases c137 : t133 = 0
    · rw [if_pos c137] at e
      have c137b : (t133 == 0) = true := beq_iff_eq.mpr c137
      refine t_qz 1 [5, 6, 27] (σ' := [(5, .int .i64 t133), (6, .int .i64 t135), (27, .int .i64 t133)]) (by kernel_rfl) ?_
      refine t_v (dv_quiet rfl (congrArg (fun t => some (Value.bool t)) c137b)) ?_
      refine t_qz 4 [5, 6, 32] (σ' := [(5, .int .i64 t133), (6, .int .i64 t135), (32, .bool true)]) (by kernel_rfl) ?_
      refine t_end ?_
      show W _ _ _ _ _ _ _
      refine w_cond rfl (fun _ => ?_) (fun c_ => by cases c_)
      show W _ _ _ _ _ _ _
      refine w_seq ?_
      refine w_reg fun all => ?_
      refine t_qz 1 [4] (σ' := [(4, .int .i64 0)]) (by kernel_rfl) ?_
      refine t_end ?_
      show W _ _ _ _ _ _ _
      refine w_ret ?_
      obtain rfl := Option.some.inj e
      exact ⟨[.int .i64 0], [], S, ⟨rfl, trivial⟩, VS.none, rfl, rfl, rfl⟩
    · rw [if_neg c137] at e
      have c137b : (t133 == 0) = false := beq_eq_false_iff_ne.mpr c137
      refine t_qz 1 [5, 6, 27] (σ' := [(5, .int .i64 t133), (6, .int .i64 t135), (27, .int .i64 t133)]) (by kernel_rfl) ?_
      refine t_v (dv_quiet rfl (congrArg (fun t => some (Value.bool t)) c137b)) ?_
      by_cases c138 : t135 ≤ 0
      · rw [if_pos c138] at e
        have c138b : (decide (t135 ≤ 0)) = true := decide_eq_true c138
        refine t_qz 2 [5, 6, 29, 30] (σ' := [(5, .int .i64 t133), (6, .int .i64 t135), (29, .bool false), (30, .int .i64 t135)]) (by kernel_rfl) ?_
        refine t_v (dv_quiet rfl (congrArg (fun t => some (Value.bool t)) c138b)) ?_
        refine t_qz 1 [5, 6, 32] (σ' := [(5, .int .i64 t133), (6, .int .i64 t135), (32, .bool true)]) (by kernel_rfl) ?_
        refine t_end ?_
        show W _ _ _ _ _ _ _
        refine w_cond rfl (fun _ => ?_) (fun c_ => by cases c_)
        show W _ _ _ _ _ _ _
        refine w_seq ?_
        refine w_reg fun all => ?_
        refine t_qz 1 [4] (σ' := [(4, .int .i64 0)]) (by kernel_rfl) ?_
        refine t_end ?_
        show W _ _ _ _ _ _ _
        refine w_ret ?_
        obtain rfl := Option.some.inj e
        exact ⟨[.int .i64 0], [], S, ⟨rfl, trivial⟩, VS.none, rfl, rfl, rfl⟩
      · rw [if_neg c138] at e
        have c138b : (decide (t135 ≤ 0)) = false := decide_eq_false c138
        refine t_qz 2 [5, 6, 29, 30] (σ' := [(5, .int .i64 t133), (6, .int .i64 t135), (29, .bool false), (30, .int .i64 t135)]) (by kernel_rfl) ?_
        refine t_v (dv_quiet rfl (congrArg (fun t => some (Value.bool t)) c138b)) ?_
        refine t_qz 1 [5, 6, 32] (σ' := [(5, .int .i64 t133), (6, .int .i64 t135), (32, .bool false)]) (by kernel_rfl) ?_
        refine t_end ?_
        show W _ _ _ _ _ _ _
        refine w_cond rfl (fun c_ => by cases c_) (fun _ => ?_)
        show W _ _ _ _ _ _ _
        refine w_skip ?_
        show W _ _ _ _ _ _ _
        refine w_seq ?_
        refine w_seq ?_
        refine w_reg fun all => ?_
        by_cases c139 : t135 ≥ t133
        · rw [if_pos c139] at e
          have c139b : (decide (t135 ≥ t133)) = true := decide_eq_true c139
          refine t_qz 2 [5, 6, 33, 34] (σ' := [(5, .int .i64 t133), (6, .int .i64 t135), (33, .int .i64 t135), (34, .int .i64 t133)]) (by kernel_rfl) ?_
          refine t_v (dv_quiet rfl (congrArg (fun t => some (Value.bool t)) c139b)) ?_
          refine t_keep [5, 6, 35] (σ' := [(5, .int .i64 t133), (6, .int .i64 t135), (35, .bool true)]) (by kernel_rfl) ?_
          refine t_end ?_
          show W _ _ _ _ _ _ _
          refine w_cond rfl (fun _ => ?_) (fun c_ => by cases c_)
          show W _ _ _ _ _ _ _
          refine w_seq ?_
          refine w_reg fun all => ?_
          refine t_qz 1 [4] (σ' := [(4, .int .i64 65536)]) (by kernel_rfl) ?_
          refine t_end ?_
          show W _ _ _ _ _ _ _
          refine w_ret ?_
          obtain rfl := Option.some.inj e
          exact ⟨[.int .i64 65536], [], S, ⟨rfl, trivial⟩, VS.none, rfl, rfl, rfl⟩
        · rw [if_neg c139] at e
          have c139b : (decide (t135 ≥ t133)) = false := decide_eq_false c139
          refine t_qz 2 [5, 6, 33, 34] (σ' := [(5, .int .i64 t133), (6, .int .i64 t135), (33, .int .i64 t135), (34, .int .i64 t133)]) (by kernel_rfl) ?_
          refine t_v (dv_quiet rfl (congrArg (fun t => some (Value.bool t)) c139b)) ?_
          refine t_keep [5, 6, 35] (σ' := [(5, .int .i64 t133), (6, .int .i64 t135), (35, .bool false)]) (by kernel_rfl) ?_
          refine t_end ?_
          show W _ _ _ _ _ _ _
          refine w_cond rfl (fun c_ => by cases c_) (fun _ => ?_)
          show W _ _ _ _ _ _ _
          refine w_skip ?_
          show W _ _ _ _ _ _ _
          refine w_seq ?_
          refine w_reg fun all => ?_
          obtain ⟨⟨t140, t141⟩, h142, e⟩ := bind_of e
          try dsimp only at e
          refine t_qz 2 [5, 38] (σ' := [(5, .int .i64 t133), (38, .int .u64 (wru64 t135))]) (by kernel_rfl) ?_
          refine t_v (.call (vs := [.int .u64 (wru64 t135), .int .u64 65536]) rfl rfl (by kernel_rfl) (bits_Mul64.ok h142)) ?_
          refine t_qz 5 [5, 7, 8] (σ' := [(5, .int .i64 t133), (7, .int .u64 t140), (8, .int .u64 t141)]) (by kernel_rfl) ?_
          refine t_end ?_
          show W _ _ _ _ _ _ _
          refine w_seq ?_
          refine w_reg fun all => ?_
          obtain ⟨⟨t143, t144⟩, h145, e⟩ := bind_of e
          try dsimp only at e
          refine t_qz 4 [43, 44, 46] (σ' := [(43, .int .u64 t140), (44, .int .u64 t141), (46, .int .u64 (wru64 t133))]) (by kernel_rfl) ?_
          refine t_v (.call (vs := [.int .u64 t140, .int .u64 t141, .int .u64 (wru64 t133)]) rfl rfl (by kernel_rfl) (bits_Div64.ok h145)) ?_
          refine t_qz 5 [9] (σ' := [(9, .int .u64 t143)]) (by kernel_rfl) ?_
          refine t_end ?_
          show W _ _ _ _ _ _ _
          refine w_seq ?_
          refine w_reg fun all => ?_
          refine t_qz 3 [4] (σ' := [(4, .int .i64 (wr64 t143))]) (by kernel_rfl) ?_
          refine t_end ?_
          show W _ _ _ _ _ _ _
          refine w_ret ?_
          obtain rfl := Option.some.inj e
          exact ⟨[.int .i64 (wr64 t143)], [], S, ⟨rfl, trivial⟩, VS.none, rfl, rfl, rfl⟩
  · rw [if_neg c125] at e
    have c125b : (p0_Kind == 1) = false := beq_eq_false_iff_ne.mpr c125
    refine t_v (dv_quiet rfl (congrArg (fun t => some (Value.bool t)) c125b)) ?_
    refine t_qz 1 [2, 3, 13, 14] (σ' := [(2, .pointer (some ⟨b123, 0, none⟩)), (3, .pointer (some ⟨b124, 0, none⟩)), (13, .int .i64 p0_Kind), (14, .bool false)]) (by kernel_rfl) ?_
    refine t_end ?_
    show W _ _ _ _ _ _ _
    refine w_cond rfl (fun c_ => by cases c_) (fun _ => ?_)
    show W _ _ _ _ _ _ _
    refine w_seq ?_
    refine w_reg fun all => ?_
    by_cases c146 : p0_Kind = 2
    · rw [if_pos c146] at e
      have c146b : (p0_Kind == 2) = true := beq_iff_eq.mpr c146
      refine t_v (dv_quiet rfl (congrArg (fun t => some (Value.bool t)) c146b)) ?_
      refine t_qz 1 [2, 3, 52] (σ' := [(2, .pointer (some ⟨b123, 0, none⟩)), (3, .pointer (some ⟨b124, 0, none⟩)), (52, .bool true)]) (by kernel_rfl) ?_
      refine t_end ?_
      show W _ _ _ _ _ _ _
      refine w_cond rfl (fun _ => ?_) (fun c_ => by cases c_)
      show W _ _ _ _ _ _ _
      refine w_seq ?_
      refine w_seq ?_
      refine w_reg fun all => ?_
      refine t_qz 2 [2, 3, 55] (σ' := [(2, .pointer (some ⟨b123, 0, none⟩)), (3, .pointer (some ⟨b124, 0, none⟩)), (55, .pointer (some ⟨b123, 5, none⟩))]) (by kernel_rfl) ?_
      refine t_v (.ld1 rfl rfl rfl (.at 1 rfl rfl)) ?_
      by_cases c147 : p0_Q_X < 1
      · rw [if_pos c147] at e
        have c147b : (decide (p0_Q_X < 1)) = true := decide_eq_true c147
        refine t_v (dv_quiet rfl (congrArg (fun t => some (Value.bool t)) c147b)) ?_
        refine t_keep [2, 3, 57] (σ' := [(2, .pointer (some ⟨b123, 0, none⟩)), (3, .pointer (some ⟨b124, 0, none⟩)), (57, .bool true)]) (by kernel_rfl) ?_
        refine t_end ?_
        show W _ _ _ _ _ _ _
        refine w_cond rfl (fun _ => ?_) (fun c_ => by cases c_)
        show W _ _ _ _ _ _ _
        refine w_seq ?_
        refine w_reg fun all => ?_
        refine t_qz 1 [4] (σ' := [(4, .int .i64 65536)]) (by kernel_rfl) ?_
        refine t_end ?_
        show W _ _ _ _ _ _ _
        refine w_ret ?_
        obtain rfl := Option.some.inj e
        exact ⟨[.int .i64 65536], [], S, ⟨rfl, trivial⟩, VS.none, rfl, rfl, rfl⟩
      · rw [if_neg c147] at e
        have c147b : (decide (p0_Q_X < 1)) = false := decide_eq_false c147
        refine t_v (dv_quiet rfl (congrArg (fun t => some (Value.bool t)) c147b)) ?_
        refine t_keep [2, 3, 57] (σ' := [(2, .pointer (some ⟨b123, 0, none⟩)), (3, .pointer (some ⟨b124, 0, none⟩)), (57, .bool false)]) (by kernel_rfl) ?_
        refine t_end ?_
        show W _ _ _ _ _ _ _
        refine w_cond rfl (fun c_ => by cases c_) (fun _ => ?_)
        show W _ _ _ _ _ _ _
        refine w_skip ?_
        show W _ _ _ _ _ _ _
        refine w_seq ?_
        refine w_reg fun all => ?_
        refine t_qz 1 [2, 3, 58] (σ' := [(2, .pointer (some ⟨b123, 0, none⟩)), (3, .pointer (some ⟨b124, 0, none⟩)), (58, .pointer (some ⟨b123, 3, none⟩))]) (by kernel_rfl) ?_
        refine t_v (.ldn rfl rfl rfl (.at 1 rfl rfl)) ?_
        refine t_v (.ldn rfl rfl rfl (.at 0 rfl rfl)) ?_
        obtain ⟨t148, h149, e⟩ := bind_of e
        refine t_v (.call (vs := [.agg #[.int .i64 p0_P_X, .int .i64 p0_P_Y], .agg #[.int .i64 at1_X, .int .i64 at1_Y]]) rfl rfl (by kernel_rfl) (glyphicref1_Len2.ok h149)) ?_
        obtain ⟨t163, h164, e⟩ := bind_of e
        refine t_qz 1 [2, 62] (σ' := [(2, .pointer (some ⟨b123, 0, none⟩)), (62, .int .i64 (wr64 (t148 * 256)))]) (by kernel_rfl) ?_
        refine t_v (.call (vs := [.int .i64 (wr64 (t148 * 256))]) rfl rfl (by kernel_rfl) (glyphicref1_Sqrt.ok h164)) ?_
        refine t_qz 1 [2, 11] (σ' := [(2, .pointer (some ⟨b123, 0, none⟩)), (11, .int .i64 t163)]) (by kernel_rfl) ?_
        refine t_end ?_
        show W _ _ _ _ _ _ _
        refine w_seq ?_
        refine w_reg fun all => ?_
        refine t_qz 4 [65, 67] (σ' := [(65, .int .i64 (wr64 (4096 * t163))), (67, .pointer (some ⟨b123, 5, none⟩))]) (by kernel_rfl) ?_
        refine t_v (.ld1 rfl rfl rfl (.at 1 rfl rfl)) ?_
        obtain ⟨t172, h173, e⟩ := bind_of e
        refine t_v (.call (vs := [.int .i64 (wr64 (4096 * t163)), .int .i64 p0_Q_X]) rfl rfl (by kernel_rfl) (glyphicref1_Round.ok h173)) ?_
        obtain ⟨t177, h178, e⟩ := bind_of e
        refine t_v (.call (vs := [.int .i64 t172, .int .i64 0, .int .i64 65536]) rfl rfl (by kernel_rfl) (glyphicref1_Clamp.ok h178)) ?_
        refine t_qz 1 [4] (σ' := [(4, .int .i64 t177)]) (by kernel_rfl) ?_
        refine t_end ?_
        show W _ _ _ _ _ _ _
        refine w_ret ?_
        obtain rfl := Option.some.inj e
        exact ⟨[.int .i64 t177], [], S, ⟨rfl, trivial⟩, VS.none, rfl, rfl, rfl⟩
    · rw [if_neg c146] at e
      have c146b : (p0_Kind == 2) = false := beq_eq_false_iff_ne.mpr c146
      refine t_v (dv_quiet rfl (congrArg (fun t => some (Value.bool t)) c146b)) ?_
      refine t_qz 1 [2, 3, 52] (σ' := [(2, .pointer (some ⟨b123, 0, none⟩)), (3, .pointer (some ⟨b124, 0, none⟩)), (52, .bool false)]) (by kernel_rfl) ?_
      refine t_end ?_
      show W _ _ _ _ _ _ _
      refine w_cond rfl (fun c_ => by cases c_) (fun _ => ?_)
      show W _ _ _ _ _ _ _
      refine w_skip ?_
      show W _ _ _ _ _ _ _
      refine w_seq ?_
      refine w_reg fun all => ?_
      refine t_qz 1 [4] (σ' := [(4, .int .i64 0)]) (by kernel_rfl) ?_
      refine t_end ?_
      show W _ _ _ _ _ _ _
      refine w_ret ?_
      obtain rfl := Option.some.inj e
      exact ⟨[.int .i64 0], [], S, ⟨rfl, trivial⟩, VS.none, rfl, rfl, rfl⟩

def color_Wide.f (c0_R : Int) (c0_G : Int) (c0_B : Int) (c0_A : Int) : Option (Int × Int × Int × Int) := some (wr64 (257 * (wr64 c0_R)), wr64 (257 * (wr64 c0_G)), wr64 (257 * (wr64 c0_B)), wr64 (257 * (wr64 c0_A)))
theorem color_Wide.ok {S : Seal} {c0_R : Int} {c0_G : Int} {c0_B : Int} {c0_A : Int} {r0_ : Int} {r1_ : Int} {r2_ : Int} {r3_ : Int}(e : color_Wide.f c0_R c0_G c0_B c0_A = some (r0_, r1_, r2_, r3_)) :
    Cal Try.prog 96 [.agg #[.int .u8 c0_R, .int .u8 c0_G, .int .u8 c0_B, .int .u8 c0_A]] [] S fun v H' S' => v = .agg #[.int .i64 r0_, .int .i64 r1_, .int .i64 r2_, .int .i64 r3_] ∧ H' = [] ∧ S' = S := by
  unfold color_Wide.f at e
  refine cal_of (c := c96) (N := 20) Try.func96 rfl rfl (by kernel_rfl) (rs := [.cn 4 2]) (by kernel_rfl) (Nat.le_of_ble_eq_true rfl) ?_
  unfold c96
  refine w_seq ?_
  refine w_reg fun all => ?_
  refine t_a (.box rfl rfl rfl) fun b190 fb190 sb190 => ?_
  refine t_a (.new rfl rfl) fun b191 fb191 sb191 => ?_
  refine t_keep [1, 2] (σ' := [(1, .pointer (some ⟨b190, 0, none⟩)), (2, .pointer (some ⟨b191, 0, none⟩))]) (by kernel_rfl) ?_
  refine t_end ?_
  show W _ _ _ _ _ _ _
  refine w_seq ?_
  refine w_reg fun all => ?_
  refine t_qz 1 [1, 2, 3] (σ' := [(1, .pointer (some ⟨b190, 0, none⟩)), (2, .pointer (some ⟨b191, 0, none⟩)), (3, .pointer (some ⟨b190, 0, none⟩))]) (by kernel_rfl) ?_
  refine t_v (.ld1 rfl rfl rfl (.at 1 rfl rfl)) ?_
  refine t_qz 3 [1, 2, 6, 7] (σ' := [(1, .pointer (some ⟨b190, 0, none⟩)), (2, .pointer (some ⟨b191, 0, none⟩)), (6, .int .i64 (wr64 (257 * (wr64 c0_R)))), (7, .pointer (some ⟨b190, 1, none⟩))]) (by kernel_rfl) ?_
  refine t_v (.ld1 rfl rfl rfl (.at 1 rfl rfl)) ?_
  refine t_qz 3 [1, 2, 6, 10, 11] (σ' := [(1, .pointer (some ⟨b190, 0, none⟩)), (2, .pointer (some ⟨b191, 0, none⟩)), (6, .int .i64 (wr64 (257 * (wr64 c0_R)))), (10, .int .i64 (wr64 (257 * (wr64 c0_G)))), (11, .pointer (some ⟨b190, 2, none⟩))]) (by kernel_rfl) ?_
  refine t_v (.ld1 rfl rfl rfl (.at 1 rfl rfl)) ?_
  refine t_qz 3 [2, 6, 10, 14, 15] (σ' := [(2, .pointer (some ⟨b191, 0, none⟩)), (6, .int .i64 (wr64 (257 * (wr64 c0_R)))), (10, .int .i64 (wr64 (257 * (wr64 c0_G)))), (14, .int .i64 (wr64 (257 * (wr64 c0_B)))), (15, .pointer (some ⟨b190, 3, none⟩))]) (by kernel_rfl) ?_
  refine t_v (.ld1 rfl rfl rfl (.at 1 rfl rfl)) ?_
  refine t_qz 3 [2, 19] (σ' := [(2, .pointer (some ⟨b191, 0, none⟩)), (19, .agg #[.int .i64 (wr64 (257 * (wr64 c0_R))), .int .i64 (wr64 (257 * (wr64 c0_G))), .int .i64 (wr64 (257 * (wr64 c0_B))), .int .i64 (wr64 (257 * (wr64 c0_A)))])]) (by kernel_rfl) ?_
  refine t_sti 0 (cs := [.int .i64 (wr64 (257 * (wr64 c0_R))), .int .i64 (wr64 (257 * (wr64 c0_G))), .int .i64 (wr64 (257 * (wr64 c0_B))), .int .i64 (wr64 (257 * (wr64 c0_A)))]) rfl rfl rfl rfl rfl rfl rfl rfl rfl ?_
  refine t_keep [2] (σ' := [(2, .pointer (some ⟨b191, 0, none⟩))]) (by kernel_rfl) ?_
  refine t_end ?_
  show W _ _ _ _ _ _ _
  refine w_ret ?_
  simp only [Option.some.injEq, Prod.mk.injEq] at e
  obtain ⟨rfl, rfl, rfl, rfl⟩ := e
  exact ⟨[.agg #[.int .i64 (wr64 (257 * (wr64 c0_R))), .int .i64 (wr64 (257 * (wr64 c0_G))), .int .i64 (wr64 (257 * (wr64 c0_B))), .int .i64 (wr64 (257 * (wr64 c0_A)))]], [], S, ⟨⟨_, _, _, rfl, .at 0 rfl rfl, rfl⟩, trivial⟩, VS.none, rfl, rfl, rfl⟩

def paint_Mix.f (a0_R : Int) (a0_G : Int) (a0_B : Int) (a0_A : Int) (b1_R : Int) (b1_G : Int) (b1_B : Int) (b1_A : Int) (t2 : Int) : Option (Int × Int × Int × Int) := (color_Wide.f a0_R a0_G a0_B a0_A).bind fun (t190, t191, t192, t193) => ((color_Wide.f b1_R b1_G b1_B b1_A).bind fun (t195, t196, t197, t198) => ((fixed_Round.f (wr64 ((wr64 (t190 * (wr64 (65536 - t2)))) + (wr64 (t195 * t2)))) 65536).bind fun t203 => ((fixed_Round.f (wr64 ((wr64 (t191 * (wr64 (65536 - t2)))) + (wr64 (t196 * t2)))) 65536).bind fun t205 => ((fixed_Round.f (wr64 ((wr64 (t192 * (wr64 (65536 - t2)))) + (wr64 (t197 * t2)))) 65536).bind fun t207 => ((fixed_Round.f (wr64 ((wr64 (t193 * (wr64 (65536 - t2)))) + (wr64 (t198 * t2)))) 65536).bind fun t209 => (some (t203, t205, t207, t209)))))))
theorem paint_Mix.ok {S : Seal} {a0_R : Int} {a0_G : Int} {a0_B : Int} {a0_A : Int} {b1_R : Int} {b1_G : Int} {b1_B : Int} {b1_A : Int} {t2 : Int} {r0_ : Int} {r1_ : Int} {r2_ : Int} {r3_ : Int}(e : paint_Mix.f a0_R a0_G a0_B a0_A b1_R b1_G b1_B b1_A t2 = some (r0_, r1_, r2_, r3_)) :
    Cal Try.prog 57 [.agg #[.int .u8 a0_R, .int .u8 a0_G, .int .u8 a0_B, .int .u8 a0_A], .agg #[.int .u8 b1_R, .int .u8 b1_G, .int .u8 b1_B, .int .u8 b1_A], .int .i64 t2] [] S fun v H' S' => v = .agg #[.int .i64 r0_, .int .i64 r1_, .int .i64 r2_, .int .i64 r3_] ∧ H' = [] ∧ S' = S := by
  unfold paint_Mix.f at e
  refine cal_of (c := c57) (N := 35) Try.func57 rfl rfl (by kernel_rfl) (rs := [.cn 4 6]) (by kernel_rfl) (Nat.le_of_ble_eq_true rfl) ?_
  unfold c57
  refine w_seq ?_
  refine w_reg fun all => ?_
  refine t_a (.box rfl rfl rfl) fun b187 fb187 sb187 => ?_
  refine t_a (.box rfl rfl rfl) fun b188 fb188 sb188 => ?_
  refine t_a (.new rfl rfl) fun b189 fb189 sb189 => ?_
  refine t_keep [2, 3, 4, 6] (σ' := [(2, .int .i64 t2), (3, .pointer (some ⟨b187, 0, none⟩)), (4, .pointer (some ⟨b188, 0, none⟩)), (6, .pointer (some ⟨b189, 0, none⟩))]) (by kernel_rfl) ?_
  refine t_end ?_
  show W _ _ _ _ _ _ _
  refine w_seq ?_
  obtain ⟨⟨t190, t191, t192, t193⟩, h194, e⟩ := bind_of e
  try dsimp only at e
  obtain ⟨⟨t195, t196, t197, t198⟩, h199, e⟩ := bind_of e
  try dsimp only at e
  refine w_drwE mixed 6 [.v (.agg #[.int .u8 a0_R, .int .u8 a0_G, .int .u8 a0_B, .int .u8 a0_A]), .v (.agg #[.int .i64 t190, .int .i64 t191, .int .i64 t192, .int .i64 t193]), .v (.agg #[.int .u8 b1_R, .int .u8 b1_G, .int .u8 b1_B, .int .u8 b1_A]), .v (.agg #[.int .i64 t195, .int .i64 t196, .int .i64 t197, .int .i64 t198]), .a [.int .i64 0, .int .i64 0, .int .i64 0, .int .i64 0] ptrTo, .a [.int .i64 0, .int .i64 0, .int .i64 0, .int .i64 0] ptrTo] (by kernel_rfl) ?_ ?_
  · refine .cons (.ldn rfl rfl rfl (.at 2 rfl rfl)) ?_
    refine .cons (.call (vs := [.agg #[.int .u8 a0_R, .int .u8 a0_G, .int .u8 a0_B, .int .u8 a0_A]]) rfl rfl (by kernel_rfl) (color_Wide.ok h194)) ?_
    refine .cons (.ldn rfl rfl rfl (.at 1 rfl rfl)) ?_
    refine .cons (.call (vs := [.agg #[.int .u8 b1_R, .int .u8 b1_G, .int .u8 b1_B, .int .u8 b1_A]]) rfl rfl (by kernel_rfl) (color_Wide.ok h199)) ?_
    refine .cons (.new rfl rfl) ?_
    refine .cons (.new rfl rfl) ?_
    exact .nil
  refine fk_q 4 [2, 6, 12, 14] (σ' := [(2, .int .i64 t2), (6, .pointer (some ⟨b189, 0, none⟩)), (12, .agg #[.int .i64 t190, .int .i64 t191, .int .i64 t192, .int .i64 t193]), (14, .agg #[.int .i64 t195, .int .i64 t196, .int .i64 t197, .int .i64 t198])]) t_more (by kernel_rfl) ?_
  refine fk_a fun b200 fb200 sb200 => ?_
  refine fk_a fun b201 fb201 sb201 => ?_
  refine fk_nil fun all => ?_
  refine t_sti 1 (cs := [.int .i64 t190, .int .i64 t191, .int .i64 t192, .int .i64 t193]) rfl rfl rfl rfl rfl rfl rfl rfl rfl ?_
  refine t_sti 0 (cs := [.int .i64 t195, .int .i64 t196, .int .i64 t197, .int .i64 t198]) rfl rfl rfl rfl rfl rfl rfl rfl rfl ?_
  refine t_keep [2, 6, 7, 8] (σ' := [(2, .int .i64 t2), (6, .pointer (some ⟨b189, 0, none⟩)), (7, .pointer (some ⟨b200, 0, none⟩)), (8, .pointer (some ⟨b201, 0, none⟩))]) (by kernel_rfl) ?_
  refine t_end ?_
  show W _ _ _ _ _ _ _
  refine w_seq ?_
  refine w_reg fun all => ?_
  refine t_a (.new rfl rfl) fun b202 fb202 sb202 => ?_
  refine t_keep [2, 6, 7, 8, 9] (σ' := [(2, .int .i64 t2), (6, .pointer (some ⟨b189, 0, none⟩)), (7, .pointer (some ⟨b200, 0, none⟩)), (8, .pointer (some ⟨b201, 0, none⟩)), (9, .pointer (some ⟨b202, 0, none⟩))]) (by kernel_rfl) ?_
  refine t_end ?_
  show W _ _ _ _ _ _ _
  refine w_seq ?_
  refine w_seq ?_
  refine w_reg fun all => ?_
  refine t_qz 1 [2, 6, 7, 8, 9, 15] (σ' := [(2, .int .i64 t2), (6, .pointer (some ⟨b189, 0, none⟩)), (7, .pointer (some ⟨b200, 0, none⟩)), (8, .pointer (some ⟨b201, 0, none⟩)), (9, .pointer (some ⟨b202, 0, none⟩)), (15, .int .i64 0)]) (by kernel_rfl) ?_
  refine t_end ?_
  show W _ _ _ _ _ _ _
  refine w_block ?_
  refine w_lun 5 ?_
  refine wl_step ?_
  refine w_seq ?_
  refine w_reg fun all => ?_
  refine t_qz 1 [2, 6, 7, 8, 9, 15, 16] (σ' := [(2, .int .i64 t2), (6, .pointer (some ⟨b189, 0, none⟩)), (7, .pointer (some ⟨b200, 0, none⟩)), (8, .pointer (some ⟨b201, 0, none⟩)), (9, .pointer (some ⟨b202, 0, none⟩)), (15, .int .i64 0), (16, .bool true)]) (by kernel_rfl) ?_
  refine t_end ?_
  show W _ _ _ _ _ _ _
  refine w_seq ?_
  refine w_cond rfl (fun _ => ?_) (fun c_ => by cases c_)
  show W _ _ _ _ _ _ _
  refine w_skip ?_
  show W _ _ _ _ _ _ _
  refine w_seq ?_
  refine w_block ?_
  refine w_seq ?_
  refine w_reg fun all => ?_
  refine t_qz 2 [2, 6, 7, 8, 9, 10, 15] (σ' := [(2, .int .i64 t2), (6, .pointer (some ⟨b189, 0, none⟩)), (7, .pointer (some ⟨b200, 0, none⟩)), (8, .pointer (some ⟨b201, 0, none⟩)), (9, .pointer (some ⟨b202, 0, none⟩)), (10, .int .i64 0), (15, .int .i64 0)]) (by kernel_rfl) ?_
  refine t_end ?_
  show W _ _ _ _ _ _ _
  obtain ⟨t203, h204, e⟩ := bind_of e
  refine w_drwE mixed 15 [.v (.int .i64 0), .v (.int .i64 0), .v (.pointer (some ⟨b200, 0, none⟩)), .v (.int .i64 t190), .v (.int .i64 t2), .v (.int .i64 (wr64 (65536 - t2))), .v (.int .i64 (wr64 (t190 * (wr64 (65536 - t2))))), .v (.int .i64 0), .v (.pointer (some ⟨b201, 0, none⟩)), .v (.int .i64 t195), .v (.int .i64 t2), .v (.int .i64 (wr64 (t195 * t2))), .v (.int .i64 (wr64 ((wr64 (t190 * (wr64 (65536 - t2)))) + (wr64 (t195 * t2))))), .v (.int .i64 t203), .v (.pointer (some ⟨b202, 0, none⟩))] (by kernel_rfl) ?_ ?_
  · refine DI.sq 3 (by kernel_rfl) rfl ?_
    refine .cons (.ld1 rfl rfl rfl (.at 2 rfl rfl)) ?_
    refine DI.sq 5 (by kernel_rfl) rfl ?_
    refine .cons (.ld1 rfl rfl rfl (.at 1 rfl rfl)) ?_
    refine DI.sq 3 (by kernel_rfl) rfl ?_
    refine .cons (.call (vs := [.int .i64 (wr64 ((wr64 (t190 * (wr64 (65536 - t2)))) + (wr64 (t195 * t2)))), .int .i64 65536]) rfl rfl (by kernel_rfl) (fixed_Round.ok h204)) ?_
    refine DI.sq 1 (by kernel_rfl) rfl ?_
    exact .nil
  refine fk_q 15 [2, 6, 7, 8, 9, 15, 31, 32] (σ' := [(2, .int .i64 t2), (6, .pointer (some ⟨b189, 0, none⟩)), (7, .pointer (some ⟨b200, 0, none⟩)), (8, .pointer (some ⟨b201, 0, none⟩)), (9, .pointer (some ⟨b202, 0, none⟩)), (15, .int .i64 0), (31, .int .i64 t203), (32, .pointer (some ⟨b202, 0, none⟩))]) t_more (by kernel_rfl) ?_
  refine fk_nil fun all => ?_
  refine t_sti 0 (cs := [.int .i64 t203, .int .i64 0, .int .i64 0, .int .i64 0]) rfl rfl rfl rfl rfl rfl rfl rfl rfl ?_
  refine t_keep [2, 6, 7, 8, 9, 15] (σ' := [(2, .int .i64 t2), (6, .pointer (some ⟨b189, 0, none⟩)), (7, .pointer (some ⟨b200, 0, none⟩)), (8, .pointer (some ⟨b201, 0, none⟩)), (9, .pointer (some ⟨b202, 0, none⟩)), (15, .int .i64 0)]) (by kernel_rfl) ?_
  refine t_end ?_
  show W _ _ _ _ _ _ _
  refine w_reg fun all => ?_
  refine t_qz 2 [2, 6, 7, 8, 9, 15] (σ' := [(2, .int .i64 t2), (6, .pointer (some ⟨b189, 0, none⟩)), (7, .pointer (some ⟨b200, 0, none⟩)), (8, .pointer (some ⟨b201, 0, none⟩)), (9, .pointer (some ⟨b202, 0, none⟩)), (15, .int .i64 1)]) (by kernel_rfl) ?_
  refine t_end ?_
  show WL _ _ _ _ _ _ _ _
  refine wl_step ?_
  refine w_seq ?_
  refine w_reg fun all => ?_
  refine t_qz 1 [2, 6, 7, 8, 9, 15, 16] (σ' := [(2, .int .i64 t2), (6, .pointer (some ⟨b189, 0, none⟩)), (7, .pointer (some ⟨b200, 0, none⟩)), (8, .pointer (some ⟨b201, 0, none⟩)), (9, .pointer (some ⟨b202, 0, none⟩)), (15, .int .i64 1), (16, .bool true)]) (by kernel_rfl) ?_
  refine t_end ?_
  show W _ _ _ _ _ _ _
  refine w_seq ?_
  refine w_cond rfl (fun _ => ?_) (fun c_ => by cases c_)
  show W _ _ _ _ _ _ _
  refine w_skip ?_
  show W _ _ _ _ _ _ _
  refine w_seq ?_
  refine w_block ?_
  refine w_seq ?_
  refine w_reg fun all => ?_
  refine t_qz 2 [2, 6, 7, 8, 9, 10, 15] (σ' := [(2, .int .i64 t2), (6, .pointer (some ⟨b189, 0, none⟩)), (7, .pointer (some ⟨b200, 0, none⟩)), (8, .pointer (some ⟨b201, 0, none⟩)), (9, .pointer (some ⟨b202, 0, none⟩)), (10, .int .i64 1), (15, .int .i64 1)]) (by kernel_rfl) ?_
  refine t_end ?_
  show W _ _ _ _ _ _ _
  obtain ⟨t205, h206, e⟩ := bind_of e
  refine w_drwE mixed 15 [.v (.int .i64 1), .v (.int .i64 1), .v (.pointer (some ⟨b200, 1, none⟩)), .v (.int .i64 t191), .v (.int .i64 t2), .v (.int .i64 (wr64 (65536 - t2))), .v (.int .i64 (wr64 (t191 * (wr64 (65536 - t2))))), .v (.int .i64 1), .v (.pointer (some ⟨b201, 1, none⟩)), .v (.int .i64 t196), .v (.int .i64 t2), .v (.int .i64 (wr64 (t196 * t2))), .v (.int .i64 (wr64 ((wr64 (t191 * (wr64 (65536 - t2)))) + (wr64 (t196 * t2))))), .v (.int .i64 t205), .v (.pointer (some ⟨b202, 1, none⟩))] (by kernel_rfl) ?_ ?_
  · refine DI.sq 3 (by kernel_rfl) rfl ?_
    refine .cons (.ld1 rfl rfl rfl (.at 2 rfl rfl)) ?_
    refine DI.sq 5 (by kernel_rfl) rfl ?_
    refine .cons (.ld1 rfl rfl rfl (.at 1 rfl rfl)) ?_
    refine DI.sq 3 (by kernel_rfl) rfl ?_
    refine .cons (.call (vs := [.int .i64 (wr64 ((wr64 (t191 * (wr64 (65536 - t2)))) + (wr64 (t196 * t2)))), .int .i64 65536]) rfl rfl (by kernel_rfl) (fixed_Round.ok h206)) ?_
    refine DI.sq 1 (by kernel_rfl) rfl ?_
    exact .nil
  refine fk_q 15 [2, 6, 7, 8, 9, 15, 31, 32] (σ' := [(2, .int .i64 t2), (6, .pointer (some ⟨b189, 0, none⟩)), (7, .pointer (some ⟨b200, 0, none⟩)), (8, .pointer (some ⟨b201, 0, none⟩)), (9, .pointer (some ⟨b202, 0, none⟩)), (15, .int .i64 1), (31, .int .i64 t205), (32, .pointer (some ⟨b202, 1, none⟩))]) t_more (by kernel_rfl) ?_
  refine fk_nil fun all => ?_
  refine t_sti 0 (cs := [.int .i64 t203, .int .i64 t205, .int .i64 0, .int .i64 0]) rfl rfl rfl rfl rfl rfl rfl rfl rfl ?_
  refine t_keep [2, 6, 7, 8, 9, 15] (σ' := [(2, .int .i64 t2), (6, .pointer (some ⟨b189, 0, none⟩)), (7, .pointer (some ⟨b200, 0, none⟩)), (8, .pointer (some ⟨b201, 0, none⟩)), (9, .pointer (some ⟨b202, 0, none⟩)), (15, .int .i64 1)]) (by kernel_rfl) ?_
  refine t_end ?_
  show W _ _ _ _ _ _ _
  refine w_reg fun all => ?_
  refine t_qz 2 [2, 6, 7, 8, 9, 15] (σ' := [(2, .int .i64 t2), (6, .pointer (some ⟨b189, 0, none⟩)), (7, .pointer (some ⟨b200, 0, none⟩)), (8, .pointer (some ⟨b201, 0, none⟩)), (9, .pointer (some ⟨b202, 0, none⟩)), (15, .int .i64 2)]) (by kernel_rfl) ?_
  refine t_end ?_
  show WL _ _ _ _ _ _ _ _
  refine wl_step ?_
  refine w_seq ?_
  refine w_reg fun all => ?_
  refine t_qz 1 [2, 6, 7, 8, 9, 15, 16] (σ' := [(2, .int .i64 t2), (6, .pointer (some ⟨b189, 0, none⟩)), (7, .pointer (some ⟨b200, 0, none⟩)), (8, .pointer (some ⟨b201, 0, none⟩)), (9, .pointer (some ⟨b202, 0, none⟩)), (15, .int .i64 2), (16, .bool true)]) (by kernel_rfl) ?_
  refine t_end ?_
  show W _ _ _ _ _ _ _
  refine w_seq ?_
  refine w_cond rfl (fun _ => ?_) (fun c_ => by cases c_)
  show W _ _ _ _ _ _ _
  refine w_skip ?_
  show W _ _ _ _ _ _ _
  refine w_seq ?_
  refine w_block ?_
  refine w_seq ?_
  refine w_reg fun all => ?_
  refine t_qz 2 [2, 6, 7, 8, 9, 10, 15] (σ' := [(2, .int .i64 t2), (6, .pointer (some ⟨b189, 0, none⟩)), (7, .pointer (some ⟨b200, 0, none⟩)), (8, .pointer (some ⟨b201, 0, none⟩)), (9, .pointer (some ⟨b202, 0, none⟩)), (10, .int .i64 2), (15, .int .i64 2)]) (by kernel_rfl) ?_
  refine t_end ?_
  show W _ _ _ _ _ _ _
  obtain ⟨t207, h208, e⟩ := bind_of e
  refine w_drwE mixed 15 [.v (.int .i64 2), .v (.int .i64 2), .v (.pointer (some ⟨b200, 2, none⟩)), .v (.int .i64 t192), .v (.int .i64 t2), .v (.int .i64 (wr64 (65536 - t2))), .v (.int .i64 (wr64 (t192 * (wr64 (65536 - t2))))), .v (.int .i64 2), .v (.pointer (some ⟨b201, 2, none⟩)), .v (.int .i64 t197), .v (.int .i64 t2), .v (.int .i64 (wr64 (t197 * t2))), .v (.int .i64 (wr64 ((wr64 (t192 * (wr64 (65536 - t2)))) + (wr64 (t197 * t2))))), .v (.int .i64 t207), .v (.pointer (some ⟨b202, 2, none⟩))] (by kernel_rfl) ?_ ?_
  · refine DI.sq 3 (by kernel_rfl) rfl ?_
    refine .cons (.ld1 rfl rfl rfl (.at 2 rfl rfl)) ?_
    refine DI.sq 5 (by kernel_rfl) rfl ?_
    refine .cons (.ld1 rfl rfl rfl (.at 1 rfl rfl)) ?_
    refine DI.sq 3 (by kernel_rfl) rfl ?_
    refine .cons (.call (vs := [.int .i64 (wr64 ((wr64 (t192 * (wr64 (65536 - t2)))) + (wr64 (t197 * t2)))), .int .i64 65536]) rfl rfl (by kernel_rfl) (fixed_Round.ok h208)) ?_
    refine DI.sq 1 (by kernel_rfl) rfl ?_
    exact .nil
  refine fk_q 15 [2, 6, 7, 8, 9, 15, 31, 32] (σ' := [(2, .int .i64 t2), (6, .pointer (some ⟨b189, 0, none⟩)), (7, .pointer (some ⟨b200, 0, none⟩)), (8, .pointer (some ⟨b201, 0, none⟩)), (9, .pointer (some ⟨b202, 0, none⟩)), (15, .int .i64 2), (31, .int .i64 t207), (32, .pointer (some ⟨b202, 2, none⟩))]) t_more (by kernel_rfl) ?_
  refine fk_nil fun all => ?_
  refine t_sti 0 (cs := [.int .i64 t203, .int .i64 t205, .int .i64 t207, .int .i64 0]) rfl rfl rfl rfl rfl rfl rfl rfl rfl ?_
  refine t_keep [2, 6, 7, 8, 9, 15] (σ' := [(2, .int .i64 t2), (6, .pointer (some ⟨b189, 0, none⟩)), (7, .pointer (some ⟨b200, 0, none⟩)), (8, .pointer (some ⟨b201, 0, none⟩)), (9, .pointer (some ⟨b202, 0, none⟩)), (15, .int .i64 2)]) (by kernel_rfl) ?_
  refine t_end ?_
  show W _ _ _ _ _ _ _
  refine w_reg fun all => ?_
  refine t_qz 2 [2, 6, 7, 8, 9, 15] (σ' := [(2, .int .i64 t2), (6, .pointer (some ⟨b189, 0, none⟩)), (7, .pointer (some ⟨b200, 0, none⟩)), (8, .pointer (some ⟨b201, 0, none⟩)), (9, .pointer (some ⟨b202, 0, none⟩)), (15, .int .i64 3)]) (by kernel_rfl) ?_
  refine t_end ?_
  show WL _ _ _ _ _ _ _ _
  refine wl_step ?_
  refine w_seq ?_
  refine w_reg fun all => ?_
  refine t_qz 1 [2, 6, 7, 8, 9, 15, 16] (σ' := [(2, .int .i64 t2), (6, .pointer (some ⟨b189, 0, none⟩)), (7, .pointer (some ⟨b200, 0, none⟩)), (8, .pointer (some ⟨b201, 0, none⟩)), (9, .pointer (some ⟨b202, 0, none⟩)), (15, .int .i64 3), (16, .bool true)]) (by kernel_rfl) ?_
  refine t_end ?_
  show W _ _ _ _ _ _ _
  refine w_seq ?_
  refine w_cond rfl (fun _ => ?_) (fun c_ => by cases c_)
  show W _ _ _ _ _ _ _
  refine w_skip ?_
  show W _ _ _ _ _ _ _
  refine w_seq ?_
  refine w_block ?_
  refine w_seq ?_
  refine w_reg fun all => ?_
  refine t_qz 2 [2, 6, 7, 8, 9, 10, 15] (σ' := [(2, .int .i64 t2), (6, .pointer (some ⟨b189, 0, none⟩)), (7, .pointer (some ⟨b200, 0, none⟩)), (8, .pointer (some ⟨b201, 0, none⟩)), (9, .pointer (some ⟨b202, 0, none⟩)), (10, .int .i64 3), (15, .int .i64 3)]) (by kernel_rfl) ?_
  refine t_end ?_
  show W _ _ _ _ _ _ _
  obtain ⟨t209, h210, e⟩ := bind_of e
  refine w_drwE mixed 15 [.v (.int .i64 3), .v (.int .i64 3), .v (.pointer (some ⟨b200, 3, none⟩)), .v (.int .i64 t193), .v (.int .i64 t2), .v (.int .i64 (wr64 (65536 - t2))), .v (.int .i64 (wr64 (t193 * (wr64 (65536 - t2))))), .v (.int .i64 3), .v (.pointer (some ⟨b201, 3, none⟩)), .v (.int .i64 t198), .v (.int .i64 t2), .v (.int .i64 (wr64 (t198 * t2))), .v (.int .i64 (wr64 ((wr64 (t193 * (wr64 (65536 - t2)))) + (wr64 (t198 * t2))))), .v (.int .i64 t209), .v (.pointer (some ⟨b202, 3, none⟩))] (by kernel_rfl) ?_ ?_
  · refine DI.sq 3 (by kernel_rfl) rfl ?_
    refine .cons (.ld1 rfl rfl rfl (.at 2 rfl rfl)) ?_
    refine DI.sq 5 (by kernel_rfl) rfl ?_
    refine .cons (.ld1 rfl rfl rfl (.at 1 rfl rfl)) ?_
    refine DI.sq 3 (by kernel_rfl) rfl ?_
    refine .cons (.call (vs := [.int .i64 (wr64 ((wr64 (t193 * (wr64 (65536 - t2)))) + (wr64 (t198 * t2)))), .int .i64 65536]) rfl rfl (by kernel_rfl) (fixed_Round.ok h210)) ?_
    refine DI.sq 1 (by kernel_rfl) rfl ?_
    exact .nil
  refine fk_q 15 [2, 6, 7, 8, 9, 15, 31, 32] (σ' := [(2, .int .i64 t2), (6, .pointer (some ⟨b189, 0, none⟩)), (7, .pointer (some ⟨b200, 0, none⟩)), (8, .pointer (some ⟨b201, 0, none⟩)), (9, .pointer (some ⟨b202, 0, none⟩)), (15, .int .i64 3), (31, .int .i64 t209), (32, .pointer (some ⟨b202, 3, none⟩))]) t_more (by kernel_rfl) ?_
  refine fk_nil fun all => ?_
  refine t_sti 0 (cs := [.int .i64 t203, .int .i64 t205, .int .i64 t207, .int .i64 t209]) rfl rfl rfl rfl rfl rfl rfl rfl rfl ?_
  refine t_keep [2, 6, 7, 8, 9, 15] (σ' := [(2, .int .i64 t2), (6, .pointer (some ⟨b189, 0, none⟩)), (7, .pointer (some ⟨b200, 0, none⟩)), (8, .pointer (some ⟨b201, 0, none⟩)), (9, .pointer (some ⟨b202, 0, none⟩)), (15, .int .i64 3)]) (by kernel_rfl) ?_
  refine t_end ?_
  show W _ _ _ _ _ _ _
  refine w_reg fun all => ?_
  refine t_qz 2 [2, 6, 7, 8, 9, 15] (σ' := [(2, .int .i64 t2), (6, .pointer (some ⟨b189, 0, none⟩)), (7, .pointer (some ⟨b200, 0, none⟩)), (8, .pointer (some ⟨b201, 0, none⟩)), (9, .pointer (some ⟨b202, 0, none⟩)), (15, .int .i64 4)]) (by kernel_rfl) ?_
  refine t_end ?_
  show WL _ _ _ _ _ _ _ _
  refine wl_step ?_
  refine w_seq ?_
  refine w_reg fun all => ?_
  refine t_qz 1 [2, 6, 7, 8, 9, 15, 16] (σ' := [(2, .int .i64 t2), (6, .pointer (some ⟨b189, 0, none⟩)), (7, .pointer (some ⟨b200, 0, none⟩)), (8, .pointer (some ⟨b201, 0, none⟩)), (9, .pointer (some ⟨b202, 0, none⟩)), (15, .int .i64 4), (16, .bool false)]) (by kernel_rfl) ?_
  refine t_end ?_
  show W _ _ _ _ _ _ _
  refine w_seq ?_
  refine w_cond rfl (fun c_ => by cases c_) (fun _ => ?_)
  show W _ _ _ _ _ _ _
  refine w_exit ?_
  show W _ _ _ _ _ _ _
  refine w_seq ?_
  refine w_reg fun all => ?_
  refine t_v (.ldn rfl rfl rfl (.at 0 rfl rfl)) ?_
  refine t_sti 3 (cs := [.int .i64 t203, .int .i64 t205, .int .i64 t207, .int .i64 t209]) rfl rfl rfl rfl rfl rfl rfl rfl rfl ?_
  refine t_keep [6] (σ' := [(6, .pointer (some ⟨b189, 0, none⟩))]) (by kernel_rfl) ?_
  refine t_end ?_
  show W _ _ _ _ _ _ _
  refine w_ret ?_
  simp only [Option.some.injEq, Prod.mk.injEq] at e
  obtain ⟨rfl, rfl, rfl, rfl⟩ := e
  exact ⟨[.agg #[.int .i64 t203, .int .i64 t205, .int .i64 t207, .int .i64 t209]], [], S, ⟨⟨_, _, _, rfl, .at 3 rfl rfl, rfl⟩, trivial⟩, VS.none, rfl, rfl, rfl⟩

/-- glyphicref1.Wide -/
def c97 : C :=
  (.seq (.reg [⟨(some 1), .box (.tmp 0), none⟩,
     ⟨(some 2), .new [(.int .i64 0), (.int .i64 0), (.int .i64 0), (.int .i64 0)], none⟩])
  (.seq (.reg [⟨(some 3), .pad 0 (.tmp 1), none⟩,
     ⟨(some 4), .ld none (.tmp 3), none⟩,
     ⟨(some 5), .cnv .i64 (.tmp 4), none⟩,
     ⟨(some 6), .bin .mul (.const (.int .i64 257)) (.tmp 5), none⟩,
     ⟨(some 7), .pad 1 (.tmp 1), none⟩,
     ⟨(some 8), .ld none (.tmp 7), none⟩,
     ⟨(some 9), .cnv .i64 (.tmp 8), none⟩,
     ⟨(some 10), .bin .mul (.const (.int .i64 257)) (.tmp 9), none⟩,
     ⟨(some 11), .pad 2 (.tmp 1), none⟩,
     ⟨(some 12), .ld none (.tmp 11), none⟩,
     ⟨(some 13), .cnv .i64 (.tmp 12), none⟩,
     ⟨(some 14), .bin .mul (.const (.int .i64 257)) (.tmp 13), none⟩,
     ⟨(some 15), .pad 3 (.tmp 1), none⟩,
     ⟨(some 16), .ld none (.tmp 15), none⟩,
     ⟨(some 17), .cnv .i64 (.tmp 16), none⟩,
     ⟨(some 18), .bin .mul (.const (.int .i64 257)) (.tmp 17), none⟩,
     ⟨(some 19), .bld [(.int .i64 0), (.int .i64 0), (.int .i64 0), (.int .i64 0)] [(0, 1, (.tmp 6)), (1, 1, (.tmp 10)), (2, 1, (.tmp 14)), (3, 1, (.tmp 18))], none⟩,
     ⟨none, .st 4 (.tmp 2) (.tmp 19), none⟩])
  .ret))
def glyphicref1_Wide.f (c0_R : Int) (c0_G : Int) (c0_B : Int) (c0_A : Int) : Option (Int × Int × Int × Int) := some (wr64 (257 * (wr64 c0_R)), wr64 (257 * (wr64 c0_G)), wr64 (257 * (wr64 c0_B)), wr64 (257 * (wr64 c0_A)))
theorem glyphicref1_Wide.ok {S : Seal} {c0_R : Int} {c0_G : Int} {c0_B : Int} {c0_A : Int} {r0_ : Int} {r1_ : Int} {r2_ : Int} {r3_ : Int}(e : glyphicref1_Wide.f c0_R c0_G c0_B c0_A = some (r0_, r1_, r2_, r3_)) :
    Cal Try.prog 97 [.agg #[.int .u8 c0_R, .int .u8 c0_G, .int .u8 c0_B, .int .u8 c0_A]] [] S fun v H' S' => v = .agg #[.int .i64 r0_, .int .i64 r1_, .int .i64 r2_, .int .i64 r3_] ∧ H' = [] ∧ S' = S := by
  unfold glyphicref1_Wide.f at e
  refine cal_of (c := c97) (N := 20) Try.func97 rfl rfl (by kernel_rfl) (rs := [.cn 4 2]) (by kernel_rfl) (Nat.le_of_ble_eq_true rfl) ?_
  unfold c97
  refine w_seq ?_
  refine w_reg fun all => ?_
  refine t_a (.box rfl rfl rfl) fun b219 fb219 sb219 => ?_
  refine t_a (.new rfl rfl) fun b220 fb220 sb220 => ?_
  refine t_keep [1, 2] (σ' := [(1, .pointer (some ⟨b219, 0, none⟩)), (2, .pointer (some ⟨b220, 0, none⟩))]) (by kernel_rfl) ?_
  refine t_end ?_
  show W _ _ _ _ _ _ _
  refine w_seq ?_
  refine w_reg fun all => ?_
  refine t_qz 1 [1, 2, 3] (σ' := [(1, .pointer (some ⟨b219, 0, none⟩)), (2, .pointer (some ⟨b220, 0, none⟩)), (3, .pointer (some ⟨b219, 0, none⟩))]) (by kernel_rfl) ?_
  refine t_v (.ld1 rfl rfl rfl (.at 1 rfl rfl)) ?_
  refine t_qz 3 [1, 2, 6, 7] (σ' := [(1, .pointer (some ⟨b219, 0, none⟩)), (2, .pointer (some ⟨b220, 0, none⟩)), (6, .int .i64 (wr64 (257 * (wr64 c0_R)))), (7, .pointer (some ⟨b219, 1, none⟩))]) (by kernel_rfl) ?_
  refine t_v (.ld1 rfl rfl rfl (.at 1 rfl rfl)) ?_
  refine t_qz 3 [1, 2, 6, 10, 11] (σ' := [(1, .pointer (some ⟨b219, 0, none⟩)), (2, .pointer (some ⟨b220, 0, none⟩)), (6, .int .i64 (wr64 (257 * (wr64 c0_R)))), (10, .int .i64 (wr64 (257 * (wr64 c0_G)))), (11, .pointer (some ⟨b219, 2, none⟩))]) (by kernel_rfl) ?_
  refine t_v (.ld1 rfl rfl rfl (.at 1 rfl rfl)) ?_
  refine t_qz 3 [2, 6, 10, 14, 15] (σ' := [(2, .pointer (some ⟨b220, 0, none⟩)), (6, .int .i64 (wr64 (257 * (wr64 c0_R)))), (10, .int .i64 (wr64 (257 * (wr64 c0_G)))), (14, .int .i64 (wr64 (257 * (wr64 c0_B)))), (15, .pointer (some ⟨b219, 3, none⟩))]) (by kernel_rfl) ?_
  refine t_v (.ld1 rfl rfl rfl (.at 1 rfl rfl)) ?_
  refine t_qz 3 [2, 19] (σ' := [(2, .pointer (some ⟨b220, 0, none⟩)), (19, .agg #[.int .i64 (wr64 (257 * (wr64 c0_R))), .int .i64 (wr64 (257 * (wr64 c0_G))), .int .i64 (wr64 (257 * (wr64 c0_B))), .int .i64 (wr64 (257 * (wr64 c0_A)))])]) (by kernel_rfl) ?_
  refine t_sti 0 (cs := [.int .i64 (wr64 (257 * (wr64 c0_R))), .int .i64 (wr64 (257 * (wr64 c0_G))), .int .i64 (wr64 (257 * (wr64 c0_B))), .int .i64 (wr64 (257 * (wr64 c0_A)))]) rfl rfl rfl rfl rfl rfl rfl rfl rfl ?_
  refine t_keep [2] (σ' := [(2, .pointer (some ⟨b220, 0, none⟩))]) (by kernel_rfl) ?_
  refine t_end ?_
  show W _ _ _ _ _ _ _
  refine w_ret ?_
  simp only [Option.some.injEq, Prod.mk.injEq] at e
  obtain ⟨rfl, rfl, rfl, rfl⟩ := e
  exact ⟨[.agg #[.int .i64 (wr64 (257 * (wr64 c0_R))), .int .i64 (wr64 (257 * (wr64 c0_G))), .int .i64 (wr64 (257 * (wr64 c0_B))), .int .i64 (wr64 (257 * (wr64 c0_A)))]], [], S, ⟨⟨_, _, _, rfl, .at 0 rfl rfl, rfl⟩, trivial⟩, VS.none, rfl, rfl, rfl⟩

/-- glyphicref20.Mix -/
def c58 : C :=
  (.seq (.reg [⟨(some 3), .box (.tmp 0), none⟩,
     ⟨(some 4), .box (.tmp 1), none⟩,
     ⟨(some 6), .new [(.int .i64 0), (.int .i64 0), (.int .i64 0), (.int .i64 0)], none⟩])
  (.seq (.reg [⟨(some 11), .ld (some 4) (.tmp 3), none⟩,
     ⟨(some 12), .call 97 [(.tmp 11)], none⟩,
     ⟨(some 7), .new [(.int .i64 0), (.int .i64 0), (.int .i64 0), (.int .i64 0)], none⟩,
     ⟨none, .st 4 (.tmp 7) (.tmp 12), none⟩])
  (.seq (.reg [⟨(some 13), .ld (some 4) (.tmp 4), none⟩,
     ⟨(some 14), .call 97 [(.tmp 13)], none⟩,
     ⟨(some 8), .new [(.int .i64 0), (.int .i64 0), (.int .i64 0), (.int .i64 0)], none⟩,
     ⟨none, .st 4 (.tmp 8) (.tmp 14), none⟩])
  (.seq (.reg [⟨(some 9), .new [(.int .i64 0), (.int .i64 0), (.int .i64 0), (.int .i64 0)], none⟩])
  (.seq (.seq (.reg [⟨(some 10), .mv (.const (.int .i64 0)), none⟩])
   (.block 0 (.loop (.seq (.seq (.reg [⟨(some 15), .mv (.tmp 10), none⟩,
         ⟨(some 16), .bin .lss (.tmp 15) (.const (.int .i64 4)), none⟩])
      (.cond (.tmp 16)
       .skip
       (.exit 0)))
     (.seq (.block 1 (.drw [⟨(some 19), .mv (.tmp 10), none⟩,
         ⟨(some 20), .mv (.tmp 10), none⟩,
         ⟨(some 21), .ixa 1 4 (.tmp 7) (.tmp 20), none⟩,
         ⟨(some 22), .ld none (.tmp 21), none⟩,
         ⟨(some 23), .mv (.tmp 2), none⟩,
         ⟨(some 24), .bin .sub (.const (.int .i64 65536)) (.tmp 23), none⟩,
         ⟨(some 25), .bin .mul (.tmp 22) (.tmp 24), none⟩,
         ⟨(some 26), .mv (.tmp 10), none⟩,
         ⟨(some 27), .ixa 1 4 (.tmp 8) (.tmp 26), none⟩,
         ⟨(some 28), .ld none (.tmp 27), none⟩,
         ⟨(some 29), .mv (.tmp 2), none⟩,
         ⟨(some 30), .bin .mul (.tmp 28) (.tmp 29), none⟩,
         ⟨(some 31), .bin .add (.tmp 25) (.tmp 30), none⟩,
         ⟨(some 32), .call 76 [(.tmp 31), (.const (.int .i64 65536))], none⟩,
         ⟨(some 33), .ixa 1 4 (.tmp 9) (.tmp 19), none⟩,
         ⟨none, .st 1 (.tmp 33) (.tmp 32), none⟩] [[], [], [1], [2], [], [4], [3, 5], [], [7], [8], [], [9, 10], [6, 11], [12], [0, 0, 1, 2, 3, 4, 5, 6, 7, 8, 9, 10, 11, 12, 13], [14, 13, 13, 0, 1, 2, 3, 4, 5, 6, 7, 8, 9, 10, 11, 12, 13]]))
     (.reg [⟨(some 17), .mv (.tmp 10), none⟩,
       ⟨(some 18), .bin .add (.tmp 17) (.const (.int .i64 1)), none⟩,
       ⟨(some 10), .mv (.tmp 18), none⟩]))))))
  (.seq (.reg [⟨(some 34), .ld (some 4) (.tmp 9), none⟩,
     ⟨none, .st 4 (.tmp 6) (.tmp 34), none⟩])
  .ret))))))
def glyphicref20_Mix.f (a0_R : Int) (a0_G : Int) (a0_B : Int) (a0_A : Int) (b1_R : Int) (b1_G : Int) (b1_B : Int) (b1_A : Int) (t2 : Int) : Option (Int × Int × Int × Int) := (glyphicref1_Wide.f a0_R a0_G a0_B a0_A).bind fun (t221, t222, t223, t224) => ((glyphicref1_Wide.f b1_R b1_G b1_B b1_A).bind fun (t227, t228, t229, t230) => ((glyphicref1_Round.f (wr64 ((wr64 (t221 * (wr64 (65536 - t2)))) + (wr64 (t227 * t2)))) 65536).bind fun t234 => ((glyphicref1_Round.f (wr64 ((wr64 (t222 * (wr64 (65536 - t2)))) + (wr64 (t228 * t2)))) 65536).bind fun t236 => ((glyphicref1_Round.f (wr64 ((wr64 (t223 * (wr64 (65536 - t2)))) + (wr64 (t229 * t2)))) 65536).bind fun t238 => ((glyphicref1_Round.f (wr64 ((wr64 (t224 * (wr64 (65536 - t2)))) + (wr64 (t230 * t2)))) 65536).bind fun t240 => (some (t234, t236, t238, t240)))))))
theorem glyphicref20_Mix.ok {S : Seal} {a0_R : Int} {a0_G : Int} {a0_B : Int} {a0_A : Int} {b1_R : Int} {b1_G : Int} {b1_B : Int} {b1_A : Int} {t2 : Int} {r0_ : Int} {r1_ : Int} {r2_ : Int} {r3_ : Int}(e : glyphicref20_Mix.f a0_R a0_G a0_B a0_A b1_R b1_G b1_B b1_A t2 = some (r0_, r1_, r2_, r3_)) :
    Cal Try.prog 58 [.agg #[.int .u8 a0_R, .int .u8 a0_G, .int .u8 a0_B, .int .u8 a0_A], .agg #[.int .u8 b1_R, .int .u8 b1_G, .int .u8 b1_B, .int .u8 b1_A], .int .i64 t2] [] S fun v H' S' => v = .agg #[.int .i64 r0_, .int .i64 r1_, .int .i64 r2_, .int .i64 r3_] ∧ H' = [] ∧ S' = S := by
  unfold glyphicref20_Mix.f at e
  refine cal_of (c := c58) (N := 35) Try.func58 rfl rfl (by kernel_rfl) (rs := [.cn 4 6]) (by kernel_rfl) (Nat.le_of_ble_eq_true rfl) ?_
  unfold c58
  refine w_seq ?_
  refine w_reg fun all => ?_
  refine t_a (.box rfl rfl rfl) fun b216 fb216 sb216 => ?_
  refine t_a (.box rfl rfl rfl) fun b217 fb217 sb217 => ?_
  refine t_a (.new rfl rfl) fun b218 fb218 sb218 => ?_
  refine t_keep [2, 3, 4, 6] (σ' := [(2, .int .i64 t2), (3, .pointer (some ⟨b216, 0, none⟩)), (4, .pointer (some ⟨b217, 0, none⟩)), (6, .pointer (some ⟨b218, 0, none⟩))]) (by kernel_rfl) ?_
  refine t_end ?_
  show W _ _ _ _ _ _ _
  refine w_seq ?_
  refine w_reg fun all => ?_
  refine t_v (.ldn rfl rfl rfl (.at 2 rfl rfl)) ?_
  obtain ⟨⟨t221, t222, t223, t224⟩, h225, e⟩ := bind_of e
  try dsimp only at e
  refine t_v (.call (vs := [.agg #[.int .u8 a0_R, .int .u8 a0_G, .int .u8 a0_B, .int .u8 a0_A]]) rfl rfl (by kernel_rfl) (glyphicref1_Wide.ok h225)) ?_
  refine t_a (.new rfl rfl) fun b226 fb226 sb226 => ?_
  refine t_sti 0 (cs := [.int .i64 t221, .int .i64 t222, .int .i64 t223, .int .i64 t224]) rfl rfl rfl rfl rfl rfl rfl rfl rfl ?_
  refine t_keep [2, 4, 6, 7] (σ' := [(2, .int .i64 t2), (4, .pointer (some ⟨b217, 0, none⟩)), (6, .pointer (some ⟨b218, 0, none⟩)), (7, .pointer (some ⟨b226, 0, none⟩))]) (by kernel_rfl) ?_
  refine t_end ?_
  show W _ _ _ _ _ _ _
  refine w_seq ?_
  refine w_reg fun all => ?_
  refine t_v (.ldn rfl rfl rfl (.at 2 rfl rfl)) ?_
  obtain ⟨⟨t227, t228, t229, t230⟩, h231, e⟩ := bind_of e
  try dsimp only at e
  refine t_v (.call (vs := [.agg #[.int .u8 b1_R, .int .u8 b1_G, .int .u8 b1_B, .int .u8 b1_A]]) rfl rfl (by kernel_rfl) (glyphicref1_Wide.ok h231)) ?_
  refine t_a (.new rfl rfl) fun b232 fb232 sb232 => ?_
  refine t_sti 0 (cs := [.int .i64 t227, .int .i64 t228, .int .i64 t229, .int .i64 t230]) rfl rfl rfl rfl rfl rfl rfl rfl rfl ?_
  refine t_keep [2, 6, 7, 8] (σ' := [(2, .int .i64 t2), (6, .pointer (some ⟨b218, 0, none⟩)), (7, .pointer (some ⟨b226, 0, none⟩)), (8, .pointer (some ⟨b232, 0, none⟩))]) (by kernel_rfl) ?_
  refine t_end ?_
  show W _ _ _ _ _ _ _
  refine w_seq ?_
  refine w_reg fun all => ?_
  refine t_a (.new rfl rfl) fun b233 fb233 sb233 => ?_
  refine t_keep [2, 6, 7, 8, 9] (σ' := [(2, .int .i64 t2), (6, .pointer (some ⟨b218, 0, none⟩)), (7, .pointer (some ⟨b226, 0, none⟩)), (8, .pointer (some ⟨b232, 0, none⟩)), (9, .pointer (some ⟨b233, 0, none⟩))]) (by kernel_rfl) ?_
  refine t_end ?_
  show W _ _ _ _ _ _ _
  refine w_seq ?_
  refine w_seq ?_
  refine w_reg fun all => ?_
  refine t_qz 1 [2, 6, 7, 8, 9, 10] (σ' := [(2, .int .i64 t2), (6, .pointer (some ⟨b218, 0, none⟩)), (7, .pointer (some ⟨b226, 0, none⟩)), (8, .pointer (some ⟨b232, 0, none⟩)), (9, .pointer (some ⟨b233, 0, none⟩)), (10, .int .i64 0)]) (by kernel_rfl) ?_
  refine t_end ?_
  show W _ _ _ _ _ _ _
  refine w_block ?_
  refine w_lun 5 ?_
  refine wl_step ?_
  refine w_seq ?_
  refine w_seq ?_
  refine w_reg fun all => ?_
  refine t_qz 2 [2, 6, 7, 8, 9, 10, 16] (σ' := [(2, .int .i64 t2), (6, .pointer (some ⟨b218, 0, none⟩)), (7, .pointer (some ⟨b226, 0, none⟩)), (8, .pointer (some ⟨b232, 0, none⟩)), (9, .pointer (some ⟨b233, 0, none⟩)), (10, .int .i64 0), (16, .bool true)]) (by kernel_rfl) ?_
  refine t_end ?_
  show W _ _ _ _ _ _ _
  refine w_cond rfl (fun _ => ?_) (fun c_ => by cases c_)
  show W _ _ _ _ _ _ _
  refine w_skip ?_
  show W _ _ _ _ _ _ _
  refine w_seq ?_
  refine w_block ?_
  obtain ⟨t234, h235, e⟩ := bind_of e
  refine w_drwE mixed 15 [.v (.int .i64 0), .v (.int .i64 0), .v (.pointer (some ⟨b226, 0, none⟩)), .v (.int .i64 t221), .v (.int .i64 t2), .v (.int .i64 (wr64 (65536 - t2))), .v (.int .i64 (wr64 (t221 * (wr64 (65536 - t2))))), .v (.int .i64 0), .v (.pointer (some ⟨b232, 0, none⟩)), .v (.int .i64 t227), .v (.int .i64 t2), .v (.int .i64 (wr64 (t227 * t2))), .v (.int .i64 (wr64 ((wr64 (t221 * (wr64 (65536 - t2)))) + (wr64 (t227 * t2))))), .v (.int .i64 t234), .v (.pointer (some ⟨b233, 0, none⟩))] (by kernel_rfl) ?_ ?_
  · refine DI.sq 3 (by kernel_rfl) rfl ?_
    refine .cons (.ld1 rfl rfl rfl (.at 2 rfl rfl)) ?_
    refine DI.sq 5 (by kernel_rfl) rfl ?_
    refine .cons (.ld1 rfl rfl rfl (.at 1 rfl rfl)) ?_
    refine DI.sq 3 (by kernel_rfl) rfl ?_
    refine .cons (.call (vs := [.int .i64 (wr64 ((wr64 (t221 * (wr64 (65536 - t2)))) + (wr64 (t227 * t2)))), .int .i64 65536]) rfl rfl (by kernel_rfl) (glyphicref1_Round.ok h235)) ?_
    refine DI.sq 1 (by kernel_rfl) rfl ?_
    exact .nil
  refine fk_q 15 [2, 6, 7, 8, 9, 10, 32, 33] (σ' := [(2, .int .i64 t2), (6, .pointer (some ⟨b218, 0, none⟩)), (7, .pointer (some ⟨b226, 0, none⟩)), (8, .pointer (some ⟨b232, 0, none⟩)), (9, .pointer (some ⟨b233, 0, none⟩)), (10, .int .i64 0), (32, .int .i64 t234), (33, .pointer (some ⟨b233, 0, none⟩))]) t_more (by kernel_rfl) ?_
  refine fk_nil fun all => ?_
  refine t_sti 0 (cs := [.int .i64 t234, .int .i64 0, .int .i64 0, .int .i64 0]) rfl rfl rfl rfl rfl rfl rfl rfl rfl ?_
  refine t_keep [2, 6, 7, 8, 9, 10] (σ' := [(2, .int .i64 t2), (6, .pointer (some ⟨b218, 0, none⟩)), (7, .pointer (some ⟨b226, 0, none⟩)), (8, .pointer (some ⟨b232, 0, none⟩)), (9, .pointer (some ⟨b233, 0, none⟩)), (10, .int .i64 0)]) (by kernel_rfl) ?_
  refine t_end ?_
  show W _ _ _ _ _ _ _
  refine w_reg fun all => ?_
  refine t_qz 3 [2, 6, 7, 8, 9, 10] (σ' := [(2, .int .i64 t2), (6, .pointer (some ⟨b218, 0, none⟩)), (7, .pointer (some ⟨b226, 0, none⟩)), (8, .pointer (some ⟨b232, 0, none⟩)), (9, .pointer (some ⟨b233, 0, none⟩)), (10, .int .i64 1)]) (by kernel_rfl) ?_
  refine t_end ?_
  show WL _ _ _ _ _ _ _ _
  refine wl_step ?_
  refine w_seq ?_
  refine w_seq ?_
  refine w_reg fun all => ?_
  refine t_qz 2 [2, 6, 7, 8, 9, 10, 16] (σ' := [(2, .int .i64 t2), (6, .pointer (some ⟨b218, 0, none⟩)), (7, .pointer (some ⟨b226, 0, none⟩)), (8, .pointer (some ⟨b232, 0, none⟩)), (9, .pointer (some ⟨b233, 0, none⟩)), (10, .int .i64 1), (16, .bool true)]) (by kernel_rfl) ?_
  refine t_end ?_
  show W _ _ _ _ _ _ _
  refine w_cond rfl (fun _ => ?_) (fun c_ => by cases c_)
  show W _ _ _ _ _ _ _
  refine w_skip ?_
  show W _ _ _ _ _ _ _
  refine w_seq ?_
  refine w_block ?_
  obtain ⟨t236, h237, e⟩ := bind_of e
  refine w_drwE mixed 15 [.v (.int .i64 1), .v (.int .i64 1), .v (.pointer (some ⟨b226, 1, none⟩)), .v (.int .i64 t222), .v (.int .i64 t2), .v (.int .i64 (wr64 (65536 - t2))), .v (.int .i64 (wr64 (t222 * (wr64 (65536 - t2))))), .v (.int .i64 1), .v (.pointer (some ⟨b232, 1, none⟩)), .v (.int .i64 t228), .v (.int .i64 t2), .v (.int .i64 (wr64 (t228 * t2))), .v (.int .i64 (wr64 ((wr64 (t222 * (wr64 (65536 - t2)))) + (wr64 (t228 * t2))))), .v (.int .i64 t236), .v (.pointer (some ⟨b233, 1, none⟩))] (by kernel_rfl) ?_ ?_
  · refine DI.sq 3 (by kernel_rfl) rfl ?_
    refine .cons (.ld1 rfl rfl rfl (.at 2 rfl rfl)) ?_
    refine DI.sq 5 (by kernel_rfl) rfl ?_
    refine .cons (.ld1 rfl rfl rfl (.at 1 rfl rfl)) ?_
    refine DI.sq 3 (by kernel_rfl) rfl ?_
    refine .cons (.call (vs := [.int .i64 (wr64 ((wr64 (t222 * (wr64 (65536 - t2)))) + (wr64 (t228 * t2)))), .int .i64 65536]) rfl rfl (by kernel_rfl) (glyphicref1_Round.ok h237)) ?_
    refine DI.sq 1 (by kernel_rfl) rfl ?_
    exact .nil
  refine fk_q 15 [2, 6, 7, 8, 9, 10, 32, 33] (σ' := [(2, .int .i64 t2), (6, .pointer (some ⟨b218, 0, none⟩)), (7, .pointer (some ⟨b226, 0, none⟩)), (8, .pointer (some ⟨b232, 0, none⟩)), (9, .pointer (some ⟨b233, 0, none⟩)), (10, .int .i64 1), (32, .int .i64 t236), (33, .pointer (some ⟨b233, 1, none⟩))]) t_more (by kernel_rfl) ?_
  refine fk_nil fun all => ?_
  refine t_sti 0 (cs := [.int .i64 t234, .int .i64 t236, .int .i64 0, .int .i64 0]) rfl rfl rfl rfl rfl rfl rfl rfl rfl ?_
  refine t_keep [2, 6, 7, 8, 9, 10] (σ' := [(2, .int .i64 t2), (6, .pointer (some ⟨b218, 0, none⟩)), (7, .pointer (some ⟨b226, 0, none⟩)), (8, .pointer (some ⟨b232, 0, none⟩)), (9, .pointer (some ⟨b233, 0, none⟩)), (10, .int .i64 1)]) (by kernel_rfl) ?_
  refine t_end ?_
  show W _ _ _ _ _ _ _
  refine w_reg fun all => ?_
  refine t_qz 3 [2, 6, 7, 8, 9, 10] (σ' := [(2, .int .i64 t2), (6, .pointer (some ⟨b218, 0, none⟩)), (7, .pointer (some ⟨b226, 0, none⟩)), (8, .pointer (some ⟨b232, 0, none⟩)), (9, .pointer (some ⟨b233, 0, none⟩)), (10, .int .i64 2)]) (by kernel_rfl) ?_
  refine t_end ?_
  show WL _ _ _ _ _ _ _ _
  refine wl_step ?_
  refine w_seq ?_
  refine w_seq ?_
  refine w_reg fun all => ?_
  refine t_qz 2 [2, 6, 7, 8, 9, 10, 16] (σ' := [(2, .int .i64 t2), (6, .pointer (some ⟨b218, 0, none⟩)), (7, .pointer (some ⟨b226, 0, none⟩)), (8, .pointer (some ⟨b232, 0, none⟩)), (9, .pointer (some ⟨b233, 0, none⟩)), (10, .int .i64 2), (16, .bool true)]) (by kernel_rfl) ?_
  refine t_end ?_
  show W _ _ _ _ _ _ _
  refine w_cond rfl (fun _ => ?_) (fun c_ => by cases c_)
  show W _ _ _ _ _ _ _
  refine w_skip ?_
  show W _ _ _ _ _ _ _
  refine w_seq ?_
  refine w_block ?_
  obtain ⟨t238, h239, e⟩ := bind_of e
  refine w_drwE mixed 15 [.v (.int .i64 2), .v (.int .i64 2), .v (.pointer (some ⟨b226, 2, none⟩)), .v (.int .i64 t223), .v (.int .i64 t2), .v (.int .i64 (wr64 (65536 - t2))), .v (.int .i64 (wr64 (t223 * (wr64 (65536 - t2))))), .v (.int .i64 2), .v (.pointer (some ⟨b232, 2, none⟩)), .v (.int .i64 t229), .v (.int .i64 t2), .v (.int .i64 (wr64 (t229 * t2))), .v (.int .i64 (wr64 ((wr64 (t223 * (wr64 (65536 - t2)))) + (wr64 (t229 * t2))))), .v (.int .i64 t238), .v (.pointer (some ⟨b233, 2, none⟩))] (by kernel_rfl) ?_ ?_
  · refine DI.sq 3 (by kernel_rfl) rfl ?_
    refine .cons (.ld1 rfl rfl rfl (.at 2 rfl rfl)) ?_
    refine DI.sq 5 (by kernel_rfl) rfl ?_
    refine .cons (.ld1 rfl rfl rfl (.at 1 rfl rfl)) ?_
    refine DI.sq 3 (by kernel_rfl) rfl ?_
    refine .cons (.call (vs := [.int .i64 (wr64 ((wr64 (t223 * (wr64 (65536 - t2)))) + (wr64 (t229 * t2)))), .int .i64 65536]) rfl rfl (by kernel_rfl) (glyphicref1_Round.ok h239)) ?_
    refine DI.sq 1 (by kernel_rfl) rfl ?_
    exact .nil
  refine fk_q 15 [2, 6, 7, 8, 9, 10, 32, 33] (σ' := [(2, .int .i64 t2), (6, .pointer (some ⟨b218, 0, none⟩)), (7, .pointer (some ⟨b226, 0, none⟩)), (8, .pointer (some ⟨b232, 0, none⟩)), (9, .pointer (some ⟨b233, 0, none⟩)), (10, .int .i64 2), (32, .int .i64 t238), (33, .pointer (some ⟨b233, 2, none⟩))]) t_more (by kernel_rfl) ?_
  refine fk_nil fun all => ?_
  refine t_sti 0 (cs := [.int .i64 t234, .int .i64 t236, .int .i64 t238, .int .i64 0]) rfl rfl rfl rfl rfl rfl rfl rfl rfl ?_
  refine t_keep [2, 6, 7, 8, 9, 10] (σ' := [(2, .int .i64 t2), (6, .pointer (some ⟨b218, 0, none⟩)), (7, .pointer (some ⟨b226, 0, none⟩)), (8, .pointer (some ⟨b232, 0, none⟩)), (9, .pointer (some ⟨b233, 0, none⟩)), (10, .int .i64 2)]) (by kernel_rfl) ?_
  refine t_end ?_
  show W _ _ _ _ _ _ _
  refine w_reg fun all => ?_
  refine t_qz 3 [2, 6, 7, 8, 9, 10] (σ' := [(2, .int .i64 t2), (6, .pointer (some ⟨b218, 0, none⟩)), (7, .pointer (some ⟨b226, 0, none⟩)), (8, .pointer (some ⟨b232, 0, none⟩)), (9, .pointer (some ⟨b233, 0, none⟩)), (10, .int .i64 3)]) (by kernel_rfl) ?_
  refine t_end ?_
  show WL _ _ _ _ _ _ _ _
  refine wl_step ?_
  refine w_seq ?_
  refine w_seq ?_
  refine w_reg fun all => ?_
  refine t_qz 2 [2, 6, 7, 8, 9, 10, 16] (σ' := [(2, .int .i64 t2), (6, .pointer (some ⟨b218, 0, none⟩)), (7, .pointer (some ⟨b226, 0, none⟩)), (8, .pointer (some ⟨b232, 0, none⟩)), (9, .pointer (some ⟨b233, 0, none⟩)), (10, .int .i64 3), (16, .bool true)]) (by kernel_rfl) ?_
  refine t_end ?_
  show W _ _ _ _ _ _ _
  refine w_cond rfl (fun _ => ?_) (fun c_ => by cases c_)
  show W _ _ _ _ _ _ _
  refine w_skip ?_
  show W _ _ _ _ _ _ _
  refine w_seq ?_
  refine w_block ?_
  obtain ⟨t240, h241, e⟩ := bind_of e
  refine w_drwE mixed 15 [.v (.int .i64 3), .v (.int .i64 3), .v (.pointer (some ⟨b226, 3, none⟩)), .v (.int .i64 t224), .v (.int .i64 t2), .v (.int .i64 (wr64 (65536 - t2))), .v (.int .i64 (wr64 (t224 * (wr64 (65536 - t2))))), .v (.int .i64 3), .v (.pointer (some ⟨b232, 3, none⟩)), .v (.int .i64 t230), .v (.int .i64 t2), .v (.int .i64 (wr64 (t230 * t2))), .v (.int .i64 (wr64 ((wr64 (t224 * (wr64 (65536 - t2)))) + (wr64 (t230 * t2))))), .v (.int .i64 t240), .v (.pointer (some ⟨b233, 3, none⟩))] (by kernel_rfl) ?_ ?_
  · refine DI.sq 3 (by kernel_rfl) rfl ?_
    refine .cons (.ld1 rfl rfl rfl (.at 2 rfl rfl)) ?_
    refine DI.sq 5 (by kernel_rfl) rfl ?_
    refine .cons (.ld1 rfl rfl rfl (.at 1 rfl rfl)) ?_
    refine DI.sq 3 (by kernel_rfl) rfl ?_
    refine .cons (.call (vs := [.int .i64 (wr64 ((wr64 (t224 * (wr64 (65536 - t2)))) + (wr64 (t230 * t2)))), .int .i64 65536]) rfl rfl (by kernel_rfl) (glyphicref1_Round.ok h241)) ?_
    refine DI.sq 1 (by kernel_rfl) rfl ?_
    exact .nil
  refine fk_q 15 [2, 6, 7, 8, 9, 10, 32, 33] (σ' := [(2, .int .i64 t2), (6, .pointer (some ⟨b218, 0, none⟩)), (7, .pointer (some ⟨b226, 0, none⟩)), (8, .pointer (some ⟨b232, 0, none⟩)), (9, .pointer (some ⟨b233, 0, none⟩)), (10, .int .i64 3), (32, .int .i64 t240), (33, .pointer (some ⟨b233, 3, none⟩))]) t_more (by kernel_rfl) ?_
  refine fk_nil fun all => ?_
  refine t_sti 0 (cs := [.int .i64 t234, .int .i64 t236, .int .i64 t238, .int .i64 t240]) rfl rfl rfl rfl rfl rfl rfl rfl rfl ?_
  refine t_keep [2, 6, 7, 8, 9, 10] (σ' := [(2, .int .i64 t2), (6, .pointer (some ⟨b218, 0, none⟩)), (7, .pointer (some ⟨b226, 0, none⟩)), (8, .pointer (some ⟨b232, 0, none⟩)), (9, .pointer (some ⟨b233, 0, none⟩)), (10, .int .i64 3)]) (by kernel_rfl) ?_
  refine t_end ?_
  show W _ _ _ _ _ _ _
  refine w_reg fun all => ?_
  refine t_qz 3 [2, 6, 7, 8, 9, 10] (σ' := [(2, .int .i64 t2), (6, .pointer (some ⟨b218, 0, none⟩)), (7, .pointer (some ⟨b226, 0, none⟩)), (8, .pointer (some ⟨b232, 0, none⟩)), (9, .pointer (some ⟨b233, 0, none⟩)), (10, .int .i64 4)]) (by kernel_rfl) ?_
  refine t_end ?_
  show WL _ _ _ _ _ _ _ _
  refine wl_step ?_
  refine w_seq ?_
  refine w_seq ?_
  refine w_reg fun all => ?_
  refine t_qz 2 [2, 6, 7, 8, 9, 10, 16] (σ' := [(2, .int .i64 t2), (6, .pointer (some ⟨b218, 0, none⟩)), (7, .pointer (some ⟨b226, 0, none⟩)), (8, .pointer (some ⟨b232, 0, none⟩)), (9, .pointer (some ⟨b233, 0, none⟩)), (10, .int .i64 4), (16, .bool false)]) (by kernel_rfl) ?_
  refine t_end ?_
  show W _ _ _ _ _ _ _
  refine w_cond rfl (fun c_ => by cases c_) (fun _ => ?_)
  show W _ _ _ _ _ _ _
  refine w_exit ?_
  show W _ _ _ _ _ _ _
  refine w_seq ?_
  refine w_reg fun all => ?_
  refine t_v (.ldn rfl rfl rfl (.at 0 rfl rfl)) ?_
  refine t_sti 3 (cs := [.int .i64 t234, .int .i64 t236, .int .i64 t238, .int .i64 t240]) rfl rfl rfl rfl rfl rfl rfl rfl rfl ?_
  refine t_keep [6] (σ' := [(6, .pointer (some ⟨b218, 0, none⟩))]) (by kernel_rfl) ?_
  refine t_end ?_
  show W _ _ _ _ _ _ _
  refine w_ret ?_
  simp only [Option.some.injEq, Prod.mk.injEq] at e
  obtain ⟨rfl, rfl, rfl, rfl⟩ := e
  exact ⟨[.agg #[.int .i64 t234, .int .i64 t236, .int .i64 t238, .int .i64 t240]], [], S, ⟨⟨_, _, _, rfl, .at 3 rfl rfl, rfl⟩, trivial⟩, VS.none, rfl, rfl, rfl⟩

/-- paint.At$1 -/
def c98 : C :=
  (.seq (.reg [⟨(some 3), .new [(.int .u8 0), (.int .u8 0), (.int .u8 0), (.int .u8 0)], none⟩])
  (.seq (.seq (.reg [⟨(some 4), .mv (.tmp 0), none⟩,
      ⟨(some 5), .bin .lss (.tmp 4) (.const (.int .i64 0)), none⟩,
      ⟨(some 6), .mv (.tmp 5), none⟩,
      ⟨(some 7), .mv (.tmp 0), (some (6, false))⟩,
      ⟨(some 8), .ld none (.tmp 1), (some (6, false))⟩,
      ⟨(some 9), .lns (.tmp 8), (some (6, false))⟩,
      ⟨(some 10), .bin .geq (.tmp 7) (.tmp 9), (some (6, false))⟩,
      ⟨(some 11), .pk (.tmp 6) (.const (.bool true)) (.tmp 10), none⟩])
   (.cond (.tmp 11)
    (.seq (.reg [⟨(some 12), .bld [(.int .u8 0), (.int .u8 0), (.int .u8 0), (.int .u8 0)] [], none⟩,
        ⟨none, .st 4 (.tmp 3) (.tmp 12), none⟩])
     .ret)
    .skip))
  (.seq (.reg [⟨(some 13), .ld none (.tmp 1), none⟩,
     ⟨(some 14), .mv (.tmp 0), none⟩,
     ⟨(some 15), .ixs 4 (.tmp 13) (.tmp 14), none⟩,
     ⟨(some 16), .ld (some 4) (.tmp 15), none⟩,
     ⟨none, .st 4 (.tmp 3) (.tmp 16), none⟩])
  .ret)))
def paint_At_1_v1.f (k0 : Int) (m1_0 : Int) (m1_1 : Int) (m1_2 : Int) (m1_3 : Int) (m1_4 : Int) (m1_5 : Int) (m1_6 : Int) (m1_7 : Int) (m1_8 : Int) (m1_9 : Int) (m1_10 : Int) (m1_11 : Int) : Option (Int × Int × Int × Int) := if k0 < 0 then (some (0, 0, 0, 0)) else (if k0 ≥ 3 then (some (0, 0, 0, 0)) else (if k0 = 0 then (some (m1_0, m1_1, m1_2, m1_3)) else (if k0 = 1 then (some (m1_4, m1_5, m1_6, m1_7)) else (if k0 = 2 then (some (m1_8, m1_9, m1_10, m1_11)) else (none)))))
theorem paint_At_1_v1.ok {S : Seal} {B0 B1 : Nat} {k0 : Int} {m1_0 : Int} {m1_1 : Int} {m1_2 : Int} {m1_3 : Int} {m1_4 : Int} {m1_5 : Int} {m1_6 : Int} {m1_7 : Int} {m1_8 : Int} {m1_9 : Int} {m1_10 : Int} {m1_11 : Int} {r0_ : Int} {r1_ : Int} {r2_ : Int} {r3_ : Int}(e : paint_At_1_v1.f k0 m1_0 m1_1 m1_2 m1_3 m1_4 m1_5 m1_6 m1_7 m1_8 m1_9 m1_10 m1_11 = some (r0_, r1_, r2_, r3_)) :
    Cal Try.prog 98 [.int .i64 k0, .pointer (some ⟨B0, 0, none⟩)] ([⟨B0, [.slice (some ⟨B1, 0, none⟩) 3 3], 1⟩, ⟨B1, [.int .u8 m1_0, .int .u8 m1_1, .int .u8 m1_2, .int .u8 m1_3, .int .u8 m1_4, .int .u8 m1_5, .int .u8 m1_6, .int .u8 m1_7, .int .u8 m1_8, .int .u8 m1_9, .int .u8 m1_10, .int .u8 m1_11], 12⟩] : List Own) S fun v H' S' => v = .agg #[.int .u8 r0_, .int .u8 r1_, .int .u8 r2_, .int .u8 r3_] ∧ H' = ([⟨B0, [.slice (some ⟨B1, 0, none⟩) 3 3], 1⟩, ⟨B1, [.int .u8 m1_0, .int .u8 m1_1, .int .u8 m1_2, .int .u8 m1_3, .int .u8 m1_4, .int .u8 m1_5, .int .u8 m1_6, .int .u8 m1_7, .int .u8 m1_8, .int .u8 m1_9, .int .u8 m1_10, .int .u8 m1_11], 12⟩] : List Own) ∧ S' = S := by
  unfold paint_At_1_v1.f at e
  refine cal_of (c := c98) (N := 17) Try.func98 rfl rfl (by kernel_rfl) (rs := [.cn 4 3]) (by kernel_rfl) (Nat.le_of_ble_eq_true rfl) ?_
  unfold c98
  refine w_seq ?_
  refine w_reg fun all => ?_
  refine t_a (.new rfl rfl) fun b257 fb257 sb257 => ?_
  refine t_keep [0, 1, 3] (σ' := [(0, .int .i64 k0), (1, .pointer (some ⟨B0, 0, none⟩)), (3, .pointer (some ⟨b257, 0, none⟩))]) (by kernel_rfl) ?_
  refine t_end ?_
  show W _ _ _ _ _ _ _
  refine w_seq ?_
  refine w_seq ?_
  refine w_reg fun all => ?_
  by_cases c258 : k0 < 0
  · rw [if_pos c258] at e
    have c258b : (decide (k0 < 0)) = true := decide_eq_true c258
    refine t_qz 1 [0, 1, 3, 4] (σ' := [(0, .int .i64 k0), (1, .pointer (some ⟨B0, 0, none⟩)), (3, .pointer (some ⟨b257, 0, none⟩)), (4, .int .i64 k0)]) (by kernel_rfl) ?_
    refine t_v (dv_quiet rfl (congrArg (fun t => some (Value.bool t)) c258b)) ?_
    refine t_qz 6 [0, 1, 3, 11] (σ' := [(0, .int .i64 k0), (1, .pointer (some ⟨B0, 0, none⟩)), (3, .pointer (some ⟨b257, 0, none⟩)), (11, .bool true)]) (by kernel_rfl) ?_
    refine t_end ?_
    show W _ _ _ _ _ _ _
    refine w_cond rfl (fun _ => ?_) (fun c_ => by cases c_)
    show W _ _ _ _ _ _ _
    refine w_seq ?_
    refine w_reg fun all => ?_
    refine t_qz 1 [3, 12] (σ' := [(3, .pointer (some ⟨b257, 0, none⟩)), (12, .agg #[.int .u8 0, .int .u8 0, .int .u8 0, .int .u8 0])]) (by kernel_rfl) ?_
    refine t_sti 0 (cs := [.int .u8 0, .int .u8 0, .int .u8 0, .int .u8 0]) rfl rfl rfl rfl rfl rfl rfl rfl rfl ?_
    refine t_keep [3] (σ' := [(3, .pointer (some ⟨b257, 0, none⟩))]) (by kernel_rfl) ?_
    refine t_end ?_
    show W _ _ _ _ _ _ _
    refine w_ret ?_
    simp only [Option.some.injEq, Prod.mk.injEq] at e
    obtain ⟨rfl, rfl, rfl, rfl⟩ := e
    exact ⟨[.agg #[.int .u8 0, .int .u8 0, .int .u8 0, .int .u8 0]], ([⟨B0, [.slice (some ⟨B1, 0, none⟩) 3 3], 1⟩, ⟨B1, [.int .u8 m1_0, .int .u8 m1_1, .int .u8 m1_2, .int .u8 m1_3, .int .u8 m1_4, .int .u8 m1_5, .int .u8 m1_6, .int .u8 m1_7, .int .u8 m1_8, .int .u8 m1_9, .int .u8 m1_10, .int .u8 m1_11], 12⟩] : List Own), S, ⟨⟨_, _, _, rfl, .at 0 rfl rfl, rfl⟩, trivial⟩, VS.sel [1, 1] (by kernel_rfl), rfl, rfl, rfl⟩
  · rw [if_neg c258] at e
    have c258b : (decide (k0 < 0)) = false := decide_eq_false c258
    refine t_qz 1 [0, 1, 3, 4] (σ' := [(0, .int .i64 k0), (1, .pointer (some ⟨B0, 0, none⟩)), (3, .pointer (some ⟨b257, 0, none⟩)), (4, .int .i64 k0)]) (by kernel_rfl) ?_
    refine t_v (dv_quiet rfl (congrArg (fun t => some (Value.bool t)) c258b)) ?_
    refine t_qz 2 [0, 1, 3, 6, 7] (σ' := [(0, .int .i64 k0), (1, .pointer (some ⟨B0, 0, none⟩)), (3, .pointer (some ⟨b257, 0, none⟩)), (6, .bool false), (7, .int .i64 k0)]) (by kernel_rfl) ?_
    refine t_v (.ld1 rfl rfl rfl (.at 1 rfl rfl)) ?_
    by_cases c259 : k0 ≥ 3
    · rw [if_pos c259] at e
      have c259b : (decide (k0 ≥ 3)) = true := decide_eq_true c259
      refine t_qz 1 [0, 1, 3, 6, 7, 9] (σ' := [(0, .int .i64 k0), (1, .pointer (some ⟨B0, 0, none⟩)), (3, .pointer (some ⟨b257, 0, none⟩)), (6, .bool false), (7, .int .i64 k0), (9, .int .i64 3)]) (by kernel_rfl) ?_
      refine t_v (dv_quiet rfl (congrArg (fun t => some (Value.bool t)) c259b)) ?_
      refine t_qz 1 [0, 1, 3, 11] (σ' := [(0, .int .i64 k0), (1, .pointer (some ⟨B0, 0, none⟩)), (3, .pointer (some ⟨b257, 0, none⟩)), (11, .bool true)]) (by kernel_rfl) ?_
      refine t_end ?_
      show W _ _ _ _ _ _ _
      refine w_cond rfl (fun _ => ?_) (fun c_ => by cases c_)
      show W _ _ _ _ _ _ _
      refine w_seq ?_
      refine w_reg fun all => ?_
      refine t_qz 1 [3, 12] (σ' := [(3, .pointer (some ⟨b257, 0, none⟩)), (12, .agg #[.int .u8 0, .int .u8 0, .int .u8 0, .int .u8 0])]) (by kernel_rfl) ?_
      refine t_sti 0 (cs := [.int .u8 0, .int .u8 0, .int .u8 0, .int .u8 0]) rfl rfl rfl rfl rfl rfl rfl rfl rfl ?_
      refine t_keep [3] (σ' := [(3, .pointer (some ⟨b257, 0, none⟩))]) (by kernel_rfl) ?_
      refine t_end ?_
      show W _ _ _ _ _ _ _
      refine w_ret ?_
      simp only [Option.some.injEq, Prod.mk.injEq] at e
      obtain ⟨rfl, rfl, rfl, rfl⟩ := e
      exact ⟨[.agg #[.int .u8 0, .int .u8 0, .int .u8 0, .int .u8 0]], ([⟨B0, [.slice (some ⟨B1, 0, none⟩) 3 3], 1⟩, ⟨B1, [.int .u8 m1_0, .int .u8 m1_1, .int .u8 m1_2, .int .u8 m1_3, .int .u8 m1_4, .int .u8 m1_5, .int .u8 m1_6, .int .u8 m1_7, .int .u8 m1_8, .int .u8 m1_9, .int .u8 m1_10, .int .u8 m1_11], 12⟩] : List Own), S, ⟨⟨_, _, _, rfl, .at 0 rfl rfl, rfl⟩, trivial⟩, VS.sel [1, 1] (by kernel_rfl), rfl, rfl, rfl⟩
    · rw [if_neg c259] at e
      have c259b : (decide (k0 ≥ 3)) = false := decide_eq_false c259
      refine t_qz 1 [0, 1, 3, 6, 7, 9] (σ' := [(0, .int .i64 k0), (1, .pointer (some ⟨B0, 0, none⟩)), (3, .pointer (some ⟨b257, 0, none⟩)), (6, .bool false), (7, .int .i64 k0), (9, .int .i64 3)]) (by kernel_rfl) ?_
      refine t_v (dv_quiet rfl (congrArg (fun t => some (Value.bool t)) c259b)) ?_
      refine t_qz 1 [0, 1, 3, 11] (σ' := [(0, .int .i64 k0), (1, .pointer (some ⟨B0, 0, none⟩)), (3, .pointer (some ⟨b257, 0, none⟩)), (11, .bool false)]) (by kernel_rfl) ?_
      refine t_end ?_
      show W _ _ _ _ _ _ _
      refine w_cond rfl (fun c_ => by cases c_) (fun _ => ?_)
      show W _ _ _ _ _ _ _
      refine w_skip ?_
      show W _ _ _ _ _ _ _
      refine w_seq ?_
      refine w_reg fun all => ?_
      refine t_v (.ld1 rfl rfl rfl (.at 1 rfl rfl)) ?_
      by_cases c260 : k0 = 0
      · rw [if_pos c260] at e
        have c260b : (k0 == 0) = true := beq_iff_eq.mpr c260
        refine t_qz 1 [3, 13, 14] (σ' := [(3, .pointer (some ⟨b257, 0, none⟩)), (13, .slice (some ⟨B1, 0, none⟩) 3 3), (14, .int .i64 k0)]) (by kernel_rfl) ?_
        refine t_v (.quiet rfl (ixs_at (j := 0) (u := .pointer (some ⟨B1, 0, none⟩)) rfl c260b (by kernel_rfl))) ?_
        refine t_v (.ldn rfl rfl rfl (.at 2 rfl rfl)) ?_
        refine t_sti 0 (cs := [.int .u8 m1_0, .int .u8 m1_1, .int .u8 m1_2, .int .u8 m1_3]) rfl rfl rfl rfl rfl rfl rfl rfl rfl ?_
        refine t_keep [3] (σ' := [(3, .pointer (some ⟨b257, 0, none⟩))]) (by kernel_rfl) ?_
        refine t_end ?_
        show W _ _ _ _ _ _ _
        refine w_ret ?_
        simp only [Option.some.injEq, Prod.mk.injEq] at e
        obtain ⟨rfl, rfl, rfl, rfl⟩ := e
        exact ⟨[.agg #[.int .u8 m1_0, .int .u8 m1_1, .int .u8 m1_2, .int .u8 m1_3]], ([⟨B0, [.slice (some ⟨B1, 0, none⟩) 3 3], 1⟩, ⟨B1, [.int .u8 m1_0, .int .u8 m1_1, .int .u8 m1_2, .int .u8 m1_3, .int .u8 m1_4, .int .u8 m1_5, .int .u8 m1_6, .int .u8 m1_7, .int .u8 m1_8, .int .u8 m1_9, .int .u8 m1_10, .int .u8 m1_11], 12⟩] : List Own), S, ⟨⟨_, _, _, rfl, .at 0 rfl rfl, rfl⟩, trivial⟩, VS.sel [1, 1] (by kernel_rfl), rfl, rfl, rfl⟩
      · rw [if_neg c260] at e
        have c260b : (k0 == 0) = false := beq_eq_false_iff_ne.mpr c260
        by_cases c261 : k0 = 1
        · rw [if_pos c261] at e
          have c261b : (k0 == 1) = true := beq_iff_eq.mpr c261
          refine t_qz 1 [3, 13, 14] (σ' := [(3, .pointer (some ⟨b257, 0, none⟩)), (13, .slice (some ⟨B1, 0, none⟩) 3 3), (14, .int .i64 k0)]) (by kernel_rfl) ?_
          refine t_v (.quiet rfl (ixs_at (j := 1) (u := .pointer (some ⟨B1, 4, none⟩)) rfl c261b (by kernel_rfl))) ?_
          refine t_v (.ldn rfl rfl rfl (.at 2 rfl rfl)) ?_
          refine t_sti 0 (cs := [.int .u8 m1_4, .int .u8 m1_5, .int .u8 m1_6, .int .u8 m1_7]) rfl rfl rfl rfl rfl rfl rfl rfl rfl ?_
          refine t_keep [3] (σ' := [(3, .pointer (some ⟨b257, 0, none⟩))]) (by kernel_rfl) ?_
          refine t_end ?_
          show W _ _ _ _ _ _ _
          refine w_ret ?_
          simp only [Option.some.injEq, Prod.mk.injEq] at e
          obtain ⟨rfl, rfl, rfl, rfl⟩ := e
          exact ⟨[.agg #[.int .u8 m1_4, .int .u8 m1_5, .int .u8 m1_6, .int .u8 m1_7]], ([⟨B0, [.slice (some ⟨B1, 0, none⟩) 3 3], 1⟩, ⟨B1, [.int .u8 m1_0, .int .u8 m1_1, .int .u8 m1_2, .int .u8 m1_3, .int .u8 m1_4, .int .u8 m1_5, .int .u8 m1_6, .int .u8 m1_7, .int .u8 m1_8, .int .u8 m1_9, .int .u8 m1_10, .int .u8 m1_11], 12⟩] : List Own), S, ⟨⟨_, _, _, rfl, .at 0 rfl rfl, rfl⟩, trivial⟩, VS.sel [1, 1] (by kernel_rfl), rfl, rfl, rfl⟩
        · rw [if_neg c261] at e
          have c261b : (k0 == 1) = false := beq_eq_false_iff_ne.mpr c261
          by_cases c262 : k0 = 2
          · rw [if_pos c262] at e
            have c262b : (k0 == 2) = true := beq_iff_eq.mpr c262
            refine t_qz 1 [3, 13, 14] (σ' := [(3, .pointer (some ⟨b257, 0, none⟩)), (13, .slice (some ⟨B1, 0, none⟩) 3 3), (14, .int .i64 k0)]) (by kernel_rfl) ?_
            refine t_v (.quiet rfl (ixs_at (j := 2) (u := .pointer (some ⟨B1, 8, none⟩)) rfl c262b (by kernel_rfl))) ?_
            refine t_v (.ldn rfl rfl rfl (.at 2 rfl rfl)) ?_
            refine t_sti 0 (cs := [.int .u8 m1_8, .int .u8 m1_9, .int .u8 m1_10, .int .u8 m1_11]) rfl rfl rfl rfl rfl rfl rfl rfl rfl ?_
            refine t_keep [3] (σ' := [(3, .pointer (some ⟨b257, 0, none⟩))]) (by kernel_rfl) ?_
            refine t_end ?_
            show W _ _ _ _ _ _ _
            refine w_ret ?_
            simp only [Option.some.injEq, Prod.mk.injEq] at e
            obtain ⟨rfl, rfl, rfl, rfl⟩ := e
            exact ⟨[.agg #[.int .u8 m1_8, .int .u8 m1_9, .int .u8 m1_10, .int .u8 m1_11]], ([⟨B0, [.slice (some ⟨B1, 0, none⟩) 3 3], 1⟩, ⟨B1, [.int .u8 m1_0, .int .u8 m1_1, .int .u8 m1_2, .int .u8 m1_3, .int .u8 m1_4, .int .u8 m1_5, .int .u8 m1_6, .int .u8 m1_7, .int .u8 m1_8, .int .u8 m1_9, .int .u8 m1_10, .int .u8 m1_11], 12⟩] : List Own), S, ⟨⟨_, _, _, rfl, .at 0 rfl rfl, rfl⟩, trivial⟩, VS.sel [1, 1] (by kernel_rfl), rfl, rfl, rfl⟩
          · rw [if_neg c262] at e
            have c262b : (k0 == 2) = false := beq_eq_false_iff_ne.mpr c262
            cases e

/-- paint.At -/
def c59 : C :=
  (.seq (.reg [⟨(some 3), .box (.tmp 0), none⟩,
     ⟨(some 4), .box (.tmp 1), none⟩,
     ⟨(some 5), .box (.tmp 2), none⟩,
     ⟨(some 6), .new [(.int .i64 0), (.int .i64 0), (.int .i64 0), (.int .i64 0)], none⟩])
  (.seq (.reg [⟨(some 8), .mkf 98 [(.tmp 4)], none⟩,
     ⟨(some 7), .mv (.tmp 8), none⟩])
  (.seq (.seq (.reg [⟨(some 9), .pad 0 (.tmp 3), none⟩,
      ⟨(some 10), .ld none (.tmp 9), none⟩,
      ⟨(some 11), .bin .eql (.tmp 10) (.const (.int .i64 0)), none⟩])
   (.cond (.tmp 11)
    (.reg [⟨(some 12), .pad 1 (.tmp 3), none⟩,
       ⟨(some 13), .ld none (.tmp 12), none⟩,
       ⟨(some 14), .pad 2 (.tmp 3), none⟩,
       ⟨none, .st 1 (.tmp 14) (.tmp 13), none⟩])
    .skip))
  (.seq (.drw [⟨(some 15), .mv (.tmp 7), none⟩,
     ⟨(some 16), .pad 1 (.tmp 3), none⟩,
     ⟨(some 17), .ld none (.tmp 16), none⟩,
     ⟨(some 18), .clo (.tmp 15) [(.tmp 17)], none⟩,
     ⟨(some 19), .mv (.tmp 7), none⟩,
     ⟨(some 20), .pad 2 (.tmp 3), none⟩,
     ⟨(some 21), .ld none (.tmp 20), none⟩,
     ⟨(some 22), .clo (.tmp 19) [(.tmp 21)], none⟩,
     ⟨(some 23), .ld (some 7) (.tmp 3), none⟩,
     ⟨(some 24), .ld (some 2) (.tmp 5), none⟩,
     ⟨(some 25), .call 55 [(.tmp 23), (.tmp 24)], none⟩,
     ⟨(some 26), .call 57 [(.tmp 18), (.tmp 22), (.tmp 25)], none⟩,
     ⟨none, .st 4 (.tmp 6) (.tmp 26), none⟩] [[], [], [1], [0, 2], [], [], [5], [4, 6, 3], [], [], [8, 9, 7], [3, 7, 10, 10], [11, 11, 0, 1, 2, 3, 4, 5, 6, 7, 8, 9, 10, 11]])
  .ret))))
def paint_At_v1.f (k : Nat) (p0_0 : Int) (p0_1 : Int) (p0_2 : Int) (p0_3 : Int) (p0_4 : Int) (p0_5 : Int) (p0_6 : Int) (at2_0 : Int) (at2_1 : Int) (m0_0 : Int) (m0_1 : Int) (m0_2 : Int) (m0_3 : Int) (m0_4 : Int) (m0_5 : Int) (m0_6 : Int) (m0_7 : Int) (m0_8 : Int) (m0_9 : Int) (m0_10 : Int) (m0_11 : Int) : Option (Int × Int × Int × Int) := (if p0_0 = 0 then (some p0_1) else (some p0_2) : Option (Int)).bind fun x256 => ((paint_At_1_v1.f p0_1 m0_0 m0_1 m0_2 m0_3 m0_4 m0_5 m0_6 m0_7 m0_8 m0_9 m0_10 m0_11).bind fun (t257, t258, t259, t260) => ((paint_At_1_v1.f x256 m0_0 m0_1 m0_2 m0_3 m0_4 m0_5 m0_6 m0_7 m0_8 m0_9 m0_10 m0_11).bind fun (t262, t263, t264, t265) => ((paint_Part.f k p0_0 p0_1 x256 p0_3 p0_4 p0_5 p0_6 at2_0 at2_1).bind fun t267 => ((paint_Mix.f t257 t258 t259 t260 t262 t263 t264 t265 t267).bind fun (t269, t270, t271, t272) => (some (t269, t270, t271, t272))))))
theorem paint_At_v1.ok {S : Seal} {B0 : Nat} {k : Nat} {p0_0 : Int} {p0_1 : Int} {p0_2 : Int} {p0_3 : Int} {p0_4 : Int} {p0_5 : Int} {p0_6 : Int} {at2_0 : Int} {at2_1 : Int} {m0_0 : Int} {m0_1 : Int} {m0_2 : Int} {m0_3 : Int} {m0_4 : Int} {m0_5 : Int} {m0_6 : Int} {m0_7 : Int} {m0_8 : Int} {m0_9 : Int} {m0_10 : Int} {m0_11 : Int} {r0_ : Int} {r1_ : Int} {r2_ : Int} {r3_ : Int}(e : paint_At_v1.f k p0_0 p0_1 p0_2 p0_3 p0_4 p0_5 p0_6 at2_0 at2_1 m0_0 m0_1 m0_2 m0_3 m0_4 m0_5 m0_6 m0_7 m0_8 m0_9 m0_10 m0_11 = some (r0_, r1_, r2_, r3_)) :
    Cal Try.prog 59 [.agg #[.int .i64 p0_0, .int .i64 p0_1, .int .i64 p0_2, .int .i64 p0_3, .int .i64 p0_4, .int .i64 p0_5, .int .i64 p0_6], .slice (some ⟨B0, 0, none⟩) 3 3, .agg #[.int .i64 at2_0, .int .i64 at2_1]] ([⟨B0, [.int .u8 m0_0, .int .u8 m0_1, .int .u8 m0_2, .int .u8 m0_3, .int .u8 m0_4, .int .u8 m0_5, .int .u8 m0_6, .int .u8 m0_7, .int .u8 m0_8, .int .u8 m0_9, .int .u8 m0_10, .int .u8 m0_11], 12⟩] : List Own) S fun v H' S' => v = .agg #[.int .i64 r0_, .int .i64 r1_, .int .i64 r2_, .int .i64 r3_] ∧ H' = ([⟨B0, [.int .u8 m0_0, .int .u8 m0_1, .int .u8 m0_2, .int .u8 m0_3, .int .u8 m0_4, .int .u8 m0_5, .int .u8 m0_6, .int .u8 m0_7, .int .u8 m0_8, .int .u8 m0_9, .int .u8 m0_10, .int .u8 m0_11], 12⟩] : List Own) ∧ S' = S := by
  unfold paint_At_v1.f at e
  refine cal_of (c := c59) (N := 27) Try.func59 rfl rfl (by kernel_rfl) (rs := [.cn 4 6]) (by kernel_rfl) (Nat.le_of_ble_eq_true rfl) ?_
  unfold c59
  refine w_seq ?_
  refine w_reg fun all => ?_
  refine t_a (.box rfl rfl rfl) fun b248 fb248 sb248 => ?_
  refine t_a (.box rfl rfl rfl) fun b249 fb249 sb249 => ?_
  refine t_a (.box rfl rfl rfl) fun b250 fb250 sb250 => ?_
  refine t_a (.new rfl rfl) fun b251 fb251 sb251 => ?_
  refine t_keep [3, 4, 5, 6] (σ' := [(3, .pointer (some ⟨b248, 0, none⟩)), (4, .pointer (some ⟨b249, 0, none⟩)), (5, .pointer (some ⟨b250, 0, none⟩)), (6, .pointer (some ⟨b251, 0, none⟩))]) (by kernel_rfl) ?_
  refine t_end ?_
  show W _ _ _ _ _ _ _
  refine w_seq ?_
  refine w_reg fun all => ?_
  refine t_qz 2 [3, 5, 6, 7] (σ' := [(3, .pointer (some ⟨b248, 0, none⟩)), (5, .pointer (some ⟨b250, 0, none⟩)), (6, .pointer (some ⟨b251, 0, none⟩)), (7, .func (.func 98) #[] #[.pointer (some ⟨b249, 0, none⟩)])]) (by kernel_rfl) ?_
  refine t_end ?_
  show W _ _ _ _ _ _ _
  obtain ⟨x256, e253, e⟩ := bind_of e
  refine w_cut [3, 5, 6, 7] (fun σ_ H_ S_ => [(3, .pointer (some ⟨b248, 0, none⟩)), (5, .pointer (some ⟨b250, 0, none⟩)), (6, .pointer (some ⟨b251, 0, none⟩)), (7, .func (.func 98) #[] #[.pointer (some ⟨b249, 0, none⟩)])] = σ_ ∧ ([⟨b251, [.int .i64 0, .int .i64 0, .int .i64 0, .int .i64 0], 4⟩, ⟨b250, [.int .i64 at2_0, .int .i64 at2_1], 2⟩, ⟨b249, [.slice (some ⟨B0, 0, none⟩) 3 3], 1⟩, ⟨b248, [.int .i64 p0_0, .int .i64 p0_1, .int .i64 x256, .int .i64 p0_3, .int .i64 p0_4, .int .i64 p0_5, .int .i64 p0_6], 7⟩, ⟨B0, [.int .u8 m0_0, .int .u8 m0_1, .int .u8 m0_2, .int .u8 m0_3, .int .u8 m0_4, .int .u8 m0_5, .int .u8 m0_6, .int .u8 m0_7, .int .u8 m0_8, .int .u8 m0_9, .int .u8 m0_10, .int .u8 m0_11], 12⟩] : List Own) = H_ ∧ S = S_) ?_ ?_
  · show W _ _ _ _ _ _ _
    refine w_seq ?_
    refine w_reg fun all => ?_
    refine t_qz 1 [3, 5, 6, 7, 9] (σ' := [(3, .pointer (some ⟨b248, 0, none⟩)), (5, .pointer (some ⟨b250, 0, none⟩)), (6, .pointer (some ⟨b251, 0, none⟩)), (7, .func (.func 98) #[] #[.pointer (some ⟨b249, 0, none⟩)]), (9, .pointer (some ⟨b248, 0, none⟩))]) (by kernel_rfl) ?_
    refine t_v (.ld1 rfl rfl rfl (.at 3 rfl rfl)) ?_
    by_cases c255 : p0_0 = 0
    · rw [if_pos c255] at e253
      have c255b : (p0_0 == 0) = true := beq_iff_eq.mpr c255
      refine t_v (dv_quiet rfl (congrArg (fun t => some (Value.bool t)) c255b)) ?_
      refine t_keep [3, 5, 6, 7, 11] (σ' := [(3, .pointer (some ⟨b248, 0, none⟩)), (5, .pointer (some ⟨b250, 0, none⟩)), (6, .pointer (some ⟨b251, 0, none⟩)), (7, .func (.func 98) #[] #[.pointer (some ⟨b249, 0, none⟩)]), (11, .bool true)]) (by kernel_rfl) ?_
      refine t_end ?_
      show W _ _ _ _ _ _ _
      refine w_cond rfl (fun _ => ?_) (fun c_ => by cases c_)
      show W _ _ _ _ _ _ _
      refine w_reg fun all => ?_
      refine t_qz 1 [3, 5, 6, 7, 12] (σ' := [(3, .pointer (some ⟨b248, 0, none⟩)), (5, .pointer (some ⟨b250, 0, none⟩)), (6, .pointer (some ⟨b251, 0, none⟩)), (7, .func (.func 98) #[] #[.pointer (some ⟨b249, 0, none⟩)]), (12, .pointer (some ⟨b248, 1, none⟩))]) (by kernel_rfl) ?_
      refine t_v (.ld1 rfl rfl rfl (.at 3 rfl rfl)) ?_
      refine t_qz 1 [3, 5, 6, 7, 13, 14] (σ' := [(3, .pointer (some ⟨b248, 0, none⟩)), (5, .pointer (some ⟨b250, 0, none⟩)), (6, .pointer (some ⟨b251, 0, none⟩)), (7, .func (.func 98) #[] #[.pointer (some ⟨b249, 0, none⟩)]), (13, .int .i64 p0_1), (14, .pointer (some ⟨b248, 2, none⟩))]) (by kernel_rfl) ?_
      refine t_sti 3 (cs := [.int .i64 p0_0, .int .i64 p0_1, .int .i64 p0_1, .int .i64 p0_3, .int .i64 p0_4, .int .i64 p0_5, .int .i64 p0_6]) rfl rfl rfl rfl rfl rfl rfl rfl rfl ?_
      refine t_keep [3, 5, 6, 7] (σ' := [(3, .pointer (some ⟨b248, 0, none⟩)), (5, .pointer (some ⟨b250, 0, none⟩)), (6, .pointer (some ⟨b251, 0, none⟩)), (7, .func (.func 98) #[] #[.pointer (some ⟨b249, 0, none⟩)])]) (by kernel_rfl) ?_
      refine t_end ?_
      obtain rfl := Option.some.inj e253
      exact ⟨([⟨b251, [.int .i64 0, .int .i64 0, .int .i64 0, .int .i64 0], 4⟩, ⟨b250, [.int .i64 at2_0, .int .i64 at2_1], 2⟩, ⟨b249, [.slice (some ⟨B0, 0, none⟩) 3 3], 1⟩, ⟨b248, [.int .i64 p0_0, .int .i64 p0_1, .int .i64 p0_1, .int .i64 p0_3, .int .i64 p0_4, .int .i64 p0_5, .int .i64 p0_6], 7⟩, ⟨B0, [.int .u8 m0_0, .int .u8 m0_1, .int .u8 m0_2, .int .u8 m0_3, .int .u8 m0_4, .int .u8 m0_5, .int .u8 m0_6, .int .u8 m0_7, .int .u8 m0_8, .int .u8 m0_9, .int .u8 m0_10, .int .u8 m0_11], 12⟩] : List Own), S, VS.sel [0, 0, 0, 0, 0] (by kernel_rfl), by kernel_rfl, rfl, rfl⟩
    · rw [if_neg c255] at e253
      have c255b : (p0_0 == 0) = false := beq_eq_false_iff_ne.mpr c255
      refine t_v (dv_quiet rfl (congrArg (fun t => some (Value.bool t)) c255b)) ?_
      refine t_keep [3, 5, 6, 7, 11] (σ' := [(3, .pointer (some ⟨b248, 0, none⟩)), (5, .pointer (some ⟨b250, 0, none⟩)), (6, .pointer (some ⟨b251, 0, none⟩)), (7, .func (.func 98) #[] #[.pointer (some ⟨b249, 0, none⟩)]), (11, .bool false)]) (by kernel_rfl) ?_
      refine t_end ?_
      show W _ _ _ _ _ _ _
      refine w_cond rfl (fun c_ => by cases c_) (fun _ => ?_)
      show W _ _ _ _ _ _ _
      refine w_skip ?_
      obtain rfl := Option.some.inj e253
      exact ⟨([⟨b251, [.int .i64 0, .int .i64 0, .int .i64 0, .int .i64 0], 4⟩, ⟨b250, [.int .i64 at2_0, .int .i64 at2_1], 2⟩, ⟨b249, [.slice (some ⟨B0, 0, none⟩) 3 3], 1⟩, ⟨b248, [.int .i64 p0_0, .int .i64 p0_1, .int .i64 p0_2, .int .i64 p0_3, .int .i64 p0_4, .int .i64 p0_5, .int .i64 p0_6], 7⟩, ⟨B0, [.int .u8 m0_0, .int .u8 m0_1, .int .u8 m0_2, .int .u8 m0_3, .int .u8 m0_4, .int .u8 m0_5, .int .u8 m0_6, .int .u8 m0_7, .int .u8 m0_8, .int .u8 m0_9, .int .u8 m0_10, .int .u8 m0_11], 12⟩] : List Own), S, VS.sel [0, 0, 0, 0, 0] (by kernel_rfl), by kernel_rfl, rfl, rfl⟩
  · rintro σ_ H_ S_ ⟨rfl, rfl, rfl⟩
    refine w_seq ?_
    obtain ⟨⟨t257, t258, t259, t260⟩, h261, e⟩ := bind_of e
    try dsimp only at e
    obtain ⟨⟨t262, t263, t264, t265⟩, h266, e⟩ := bind_of e
    try dsimp only at e
    obtain ⟨t267, h268, e⟩ := bind_of e
    obtain ⟨⟨t269, t270, t271, t272⟩, h273, e⟩ := bind_of e
    try dsimp only at e
    refine w_drwE mixed 12 [.v (.func (.func 98) #[] #[.pointer (some ⟨b249, 0, none⟩)]), .v (.pointer (some ⟨b248, 1, none⟩)), .v (.int .i64 p0_1), .v (.agg #[.int .u8 t257, .int .u8 t258, .int .u8 t259, .int .u8 t260]), .v (.func (.func 98) #[] #[.pointer (some ⟨b249, 0, none⟩)]), .v (.pointer (some ⟨b248, 2, none⟩)), .v (.int .i64 x256), .v (.agg #[.int .u8 t262, .int .u8 t263, .int .u8 t264, .int .u8 t265]), .v (.agg #[.int .i64 p0_0, .int .i64 p0_1, .int .i64 x256, .int .i64 p0_3, .int .i64 p0_4, .int .i64 p0_5, .int .i64 p0_6]), .v (.agg #[.int .i64 at2_0, .int .i64 at2_1]), .v (.int .i64 t267), .v (.agg #[.int .i64 t269, .int .i64 t270, .int .i64 t271, .int .i64 t272])] (by kernel_rfl) ?_ ?_
    · refine DI.sq 2 (by kernel_rfl) rfl ?_
      refine .cons (.ld1 rfl rfl rfl (.at 3 rfl rfl)) ?_
      refine .cons (.clor (vs := [.int .i64 p0_1]) (caps := #[.pointer (some ⟨b249, 0, none⟩)]) (A := ([⟨b249, [.slice (some ⟨B0, 0, none⟩) 3 3], 1⟩, ⟨B0, [.int .u8 m0_0, .int .u8 m0_1, .int .u8 m0_2, .int .u8 m0_3, .int .u8 m0_4, .int .u8 m0_5, .int .u8 m0_6, .int .u8 m0_7, .int .u8 m0_8, .int .u8 m0_9, .int .u8 m0_10, .int .u8 m0_11], 12⟩] : List Own)) (F0 := ([⟨b251, [.int .i64 0, .int .i64 0, .int .i64 0, .int .i64 0], 4⟩, ⟨b250, [.int .i64 at2_0, .int .i64 at2_1], 2⟩, ⟨b248, [.int .i64 p0_0, .int .i64 p0_1, .int .i64 x256, .int .i64 p0_3, .int .i64 p0_4, .int .i64 p0_5, .int .i64 p0_6], 7⟩] : List Own)) rfl rfl rfl (by kernel_rfl) (by kernel_rfl) (sel_perm (is := [2, 3]) (by kernel_rfl)) (paint_At_1_v1.ok h261)) ?_
      refine DI.sq 2 (by kernel_rfl) rfl ?_
      refine .cons (.ld1 rfl rfl rfl (.at 3 rfl rfl)) ?_
      refine .cons (.clor (vs := [.int .i64 x256]) (caps := #[.pointer (some ⟨b249, 0, none⟩)]) (A := ([⟨b249, [.slice (some ⟨B0, 0, none⟩) 3 3], 1⟩, ⟨B0, [.int .u8 m0_0, .int .u8 m0_1, .int .u8 m0_2, .int .u8 m0_3, .int .u8 m0_4, .int .u8 m0_5, .int .u8 m0_6, .int .u8 m0_7, .int .u8 m0_8, .int .u8 m0_9, .int .u8 m0_10, .int .u8 m0_11], 12⟩] : List Own)) (F0 := ([⟨b251, [.int .i64 0, .int .i64 0, .int .i64 0, .int .i64 0], 4⟩, ⟨b250, [.int .i64 at2_0, .int .i64 at2_1], 2⟩, ⟨b248, [.int .i64 p0_0, .int .i64 p0_1, .int .i64 x256, .int .i64 p0_3, .int .i64 p0_4, .int .i64 p0_5, .int .i64 p0_6], 7⟩] : List Own)) rfl rfl rfl (by kernel_rfl) (by kernel_rfl) (sel_perm (is := [2, 3]) (by kernel_rfl)) (paint_At_1_v1.ok h266)) ?_
      refine .cons (.ldn rfl rfl rfl (.at 3 rfl rfl)) ?_
      refine .cons (.ldn rfl rfl rfl (.at 1 rfl rfl)) ?_
      refine .cons (.call (vs := [.agg #[.int .i64 p0_0, .int .i64 p0_1, .int .i64 x256, .int .i64 p0_3, .int .i64 p0_4, .int .i64 p0_5, .int .i64 p0_6], .agg #[.int .i64 at2_0, .int .i64 at2_1]]) rfl rfl (by kernel_rfl) (paint_Part.ok h268)) ?_
      refine .cons (.call (vs := [.agg #[.int .u8 t257, .int .u8 t258, .int .u8 t259, .int .u8 t260], .agg #[.int .u8 t262, .int .u8 t263, .int .u8 t264, .int .u8 t265], .int .i64 t267]) rfl rfl (by kernel_rfl) (paint_Mix.ok h273)) ?_
      exact .nil
    refine fk_q 12 [6, 26] (σ' := [(6, .pointer (some ⟨b251, 0, none⟩)), (26, .agg #[.int .i64 t269, .int .i64 t270, .int .i64 t271, .int .i64 t272])]) t_more (by kernel_rfl) ?_
    refine fk_nil fun all => ?_
    refine t_sti 0 (cs := [.int .i64 t269, .int .i64 t270, .int .i64 t271, .int .i64 t272]) rfl rfl rfl rfl rfl rfl rfl rfl rfl ?_
    refine t_keep [6] (σ' := [(6, .pointer (some ⟨b251, 0, none⟩))]) (by kernel_rfl) ?_
    refine t_end ?_
    show W _ _ _ _ _ _ _
    refine w_ret ?_
    simp only [Option.some.injEq, Prod.mk.injEq] at e
    obtain ⟨rfl, rfl, rfl, rfl⟩ := e
    exact ⟨[.agg #[.int .i64 t269, .int .i64 t270, .int .i64 t271, .int .i64 t272]], ([⟨B0, [.int .u8 m0_0, .int .u8 m0_1, .int .u8 m0_2, .int .u8 m0_3, .int .u8 m0_4, .int .u8 m0_5, .int .u8 m0_6, .int .u8 m0_7, .int .u8 m0_8, .int .u8 m0_9, .int .u8 m0_10, .int .u8 m0_11], 12⟩] : List Own), S, ⟨⟨_, _, _, rfl, .at 0 rfl rfl, rfl⟩, trivial⟩, VS.sel [4] (by kernel_rfl), rfl, rfl, rfl⟩
end Go.Proofs.Ytpimfacaalkmdaa.QPaintSays
