/- Functions of the program as Lean functions, each with the proof of its walk. Written by gen.py, a program of these sessions. -/
import Derived.Test.YtiaigehjogpcaaaDoorE
import Derived.Test.YtiaigehjogpcaaaDoorProg
namespace Go.Proofs.YtiaigehjogpcaaaDoor.QScaleSays
open Go Go.RowKit Go.Proofs.YtiaigehjogpcaaaDoorE
set_option linter.unusedVariables false
set_option maxRecDepth 100000
set_option maxHeartbeats 8000000
theorem mixed : Tryd.prog.follows .mixedOrders = true := by kernel_rfl
abbrev gsE : List Nat := [2, 3, 4, 5, 6, 7, 8, 9, 10, 11, 12, 0, 1]

def E_i64 : En (Int) := ⟨1, fun t => [.int .i64 t], fun _ => rfl, fun _ => rfl⟩
def E_u84 : En (Int × Int × Int × Int) := ⟨4, fun t => [.int .u8 t.1, .int .u8 t.2.1, .int .u8 t.2.2.1, .int .u8 t.2.2.2], fun _ => rfl, fun _ => rfl⟩
def E_i647 : En (Int × Int × Int × Int × Int × Int × Int) := ⟨7, fun t => [.int .i64 t.1, .int .i64 t.2.1, .int .i64 t.2.2.1, .int .i64 t.2.2.2.1, .int .i64 t.2.2.2.2.1, .int .i64 t.2.2.2.2.2.1, .int .i64 t.2.2.2.2.2.2], fun _ => rfl, fun _ => rfl⟩
def N_0 : Nn (Int × Int × List (Int × Int × Int × Int × Int × Int × Int) × Bool) := ⟨4, fun R t vs => ∃ (a2 : Option Addr) (c2 : Nat), vs = [.int .i64 t.1, .int .i64 t.2.1, .slice a2 t.2.2.1.length c2, .bool t.2.2.2] ∧ SlN R (flatN E_i647) t.2.2.1 a2, fun ⟨_, _, e, _⟩ => by rw [e]; rfl, fun ⟨_, _, e, _⟩ => by rw [e]; rfl, fun le ⟨a2, c2, e, h2⟩ => ⟨a2, c2, e, h2.mono le⟩⟩
def N_1 : Nn (Int × Int × Int × Int × Int × Int × Int × Int × Int × Int × List (Int × Int × List (Int × Int × Int × Int × Int × Int × Int) × Bool)) := ⟨11, fun R t vs => ∃ (a10 : Option Addr) (c10 : Nat), vs = [.int .i64 t.1, .int .i64 t.2.1, .int .i64 t.2.2.1, .int .i64 t.2.2.2.1, .int .i64 t.2.2.2.2.1, .int .i64 t.2.2.2.2.2.1, .int .i64 t.2.2.2.2.2.2.1, .int .i64 t.2.2.2.2.2.2.2.1, .int .i64 t.2.2.2.2.2.2.2.2.1, .int .i64 t.2.2.2.2.2.2.2.2.2.1, .slice a10 t.2.2.2.2.2.2.2.2.2.2.length c10] ∧ SlN R N_0 t.2.2.2.2.2.2.2.2.2.2 a10, fun ⟨_, _, e, _⟩ => by rw [e]; rfl, fun ⟨_, _, e, _⟩ => by rw [e]; rfl, fun le ⟨a10, c10, e, h10⟩ => ⟨a10, c10, e, h10.mono le⟩⟩
/-- fixed.Down -/
def c21 : C :=
  (.seq (.reg [⟨(some 4), .mv (.const (.int .i64 0)), none⟩])
  (.seq (.seq (.reg [⟨(some 6), .mv (.tmp 1), none⟩,
      ⟨(some 7), .bin .lss (.tmp 6) (.const (.int .i64 1)), none⟩])
   (.cond (.tmp 7)
    (.seq (.reg [⟨(some 4), .mv (.const (.int .i64 0)), none⟩])
     .ret)
    .skip))
  (.seq (.reg [⟨(some 8), .mv (.tmp 0), none⟩,
     ⟨(some 9), .mv (.tmp 1), none⟩,
     ⟨(some 10), .bin .quo (.tmp 8) (.tmp 9), none⟩,
     ⟨(some 5), .mv (.tmp 10), none⟩])
  (.seq (.seq (.reg [⟨(some 11), .mv (.tmp 0), none⟩,
      ⟨(some 12), .mv (.tmp 1), none⟩,
      ⟨(some 13), .bin .rem (.tmp 11) (.tmp 12), none⟩,
      ⟨(some 14), .bin .lss (.tmp 13) (.const (.int .i64 0)), none⟩])
   (.cond (.tmp 14)
    (.reg [⟨(some 15), .mv (.tmp 5), none⟩,
       ⟨(some 16), .bin .sub (.tmp 15) (.const (.int .i64 1)), none⟩,
       ⟨(some 5), .mv (.tmp 16), none⟩])
    .skip))
  (.seq (.reg [⟨(some 17), .mv (.tmp 5), none⟩,
     ⟨(some 4), .mv (.tmp 17), none⟩])
  .ret)))))
def fixed_Down_v1.f  : Option (Unit) := some ()
theorem fixed_Down_v1.ok {S : Seal}  {A_ : Int → Addr} (hE_ : EO gsE S A_ 94) (e : fixed_Down_v1.f  = some ()) :
    Cal Tryd.prog 21 [.int .i64 (-5), .int .i64 1] [] S fun v H' S' => v = .int .i64 (-5) ∧ H' = [] ∧ S' = S := by
  unfold fixed_Down_v1.f at e
  refine cal_of (c := c21) (N := 18) Tryd.func21 rfl rfl (by kernel_rfl) (rs := [.t 4]) (by kernel_rfl) (Nat.le_of_ble_eq_true rfl) ?_
  unfold c21
  refine w_seq ?_
  refine w_reg fun all => ?_
  refine t_qz 1 [0, 1] (σ' := [(0, .int .i64 (-5)), (1, .int .i64 1)]) (by kernel_rfl) ?_
  refine t_end ?_
  show W _ _ _ _ _ _ _
  refine w_seq ?_
  refine w_seq ?_
  refine w_reg fun all => ?_
  refine t_qz 2 [0, 1, 7] (σ' := [(0, .int .i64 (-5)), (1, .int .i64 1), (7, .bool false)]) (by kernel_rfl) ?_
  refine t_end ?_
  show W _ _ _ _ _ _ _
  refine w_cond rfl (fun c_ => by cases c_) (fun _ => ?_)
  show W _ _ _ _ _ _ _
  refine w_skip ?_
  show W _ _ _ _ _ _ _
  refine w_seq ?_
  refine w_reg fun all => ?_
  refine t_qz 4 [0, 1, 5] (σ' := [(0, .int .i64 (-5)), (1, .int .i64 1), (5, .int .i64 (-5))]) (by kernel_rfl) ?_
  refine t_end ?_
  show W _ _ _ _ _ _ _
  refine w_seq ?_
  refine w_seq ?_
  refine w_reg fun all => ?_
  refine t_qz 4 [5, 14] (σ' := [(5, .int .i64 (-5)), (14, .bool false)]) (by kernel_rfl) ?_
  refine t_end ?_
  show W _ _ _ _ _ _ _
  refine w_cond rfl (fun c_ => by cases c_) (fun _ => ?_)
  show W _ _ _ _ _ _ _
  refine w_skip ?_
  show W _ _ _ _ _ _ _
  refine w_seq ?_
  refine w_reg fun all => ?_
  refine t_qz 2 [4] (σ' := [(4, .int .i64 (-5))]) (by kernel_rfl) ?_
  refine t_end ?_
  show W _ _ _ _ _ _ _
  refine w_ret ?_
  exact ⟨[.int .i64 (-5)], [], S, ⟨rfl, trivial⟩, VS.none, rfl, rfl, rfl⟩

/-- scale.Height -/
def c8 : C :=
  (.seq (.reg [⟨(some 2), .box (.tmp 0), none⟩,
     ⟨(some 4), .mv (.const (.int .i64 0)), none⟩])
  (.seq (.reg [⟨(some 5), .pad 1 (.tmp 2), none⟩,
     ⟨(some 6), .ld none (.tmp 5), none⟩,
     ⟨(some 7), .un .neg (.tmp 6), none⟩,
     ⟨(some 8), .mv (.tmp 1), none⟩,
     ⟨(some 9), .bin .mul (.tmp 7) (.tmp 8), none⟩,
     ⟨(some 10), .pad 0 (.tmp 2), none⟩,
     ⟨(some 11), .ld none (.tmp 10), none⟩,
     ⟨(some 12), .call 21 [(.tmp 9), (.tmp 11)], none⟩,
     ⟨(some 13), .un .neg (.tmp 12), none⟩,
     ⟨(some 4), .mv (.tmp 13), none⟩])
  .ret))
def scale_Height_v1.f  : Option (Unit) := (fixed_Down_v1.f).bind fun _ => (some ())
theorem scale_Height_v1.ok {S : Seal}  {A_ : Int → Addr} (hE_ : EO gsE S A_ 94) {a_i0_3 : Option Addr} {n_i0_3 c_i0_3 : Nat} {a_i0_4 : Option Addr} {n_i0_4 c_i0_4 : Nat} (e : scale_Height_v1.f  = some ()) :
    Cal Tryd.prog 8 [.agg #[.int .i64 1, .int .i64 1, .int .i64 0, .slice a_i0_3 n_i0_3 c_i0_3, .slice a_i0_4 n_i0_4 c_i0_4], .int .i64 5] [] S fun v H' S' => v = .int .i64 5 ∧ H' = [] ∧ S' = S := by
  unfold scale_Height_v1.f at e
  refine cal_of (c := c8) (N := 14) Tryd.func8 rfl rfl (by kernel_rfl) (rs := [.t 4]) (by kernel_rfl) (Nat.le_of_ble_eq_true rfl) ?_
  unfold c8
  refine w_seq ?_
  refine w_reg fun all => ?_
  refine t_a (.box rfl rfl rfl) fun b2 fb2 sb2 => ?_
  refine t_qz 1 [1, 2] (σ' := [(1, .int .i64 5), (2, .pointer (some ⟨b2, 0, none⟩))]) (by kernel_rfl) ?_
  refine t_end ?_
  show W _ _ _ _ _ _ _
  refine w_seq ?_
  refine w_reg fun all => ?_
  refine t_qz 1 [1, 2, 5] (σ' := [(1, .int .i64 5), (2, .pointer (some ⟨b2, 0, none⟩)), (5, .pointer (some ⟨b2, 1, none⟩))]) (by kernel_rfl) ?_
  refine t_v (.ld1 rfl rfl rfl (.at 0 rfl rfl)) ?_
  refine t_qz 4 [9, 10] (σ' := [(9, .int .i64 (-5)), (10, .pointer (some ⟨b2, 0, none⟩))]) (by kernel_rfl) ?_
  refine t_v (.ld1 rfl rfl rfl (.at 0 rfl rfl)) ?_
  obtain ⟨u_, h3, e⟩ := bind_of e
  refine t_v (.call (vs := [.int .i64 (-5), .int .i64 1]) rfl rfl (by kernel_rfl) (fixed_Down_v1.ok hE_ h3)) ?_
  refine t_qz 2 [4] (σ' := [(4, .int .i64 5)]) (by kernel_rfl) ?_
  refine t_end ?_
  show W _ _ _ _ _ _ _
  refine w_ret ?_
  exact ⟨[.int .i64 5], [], S, ⟨rfl, trivial⟩, VS.none, rfl, rfl, rfl⟩

def fixed_Down_v2.f  : Option (Unit) := some ()
theorem fixed_Down_v2.ok {S : Seal}  {A_ : Int → Addr} (hE_ : EO gsE S A_ 94) (e : fixed_Down_v2.f  = some ()) :
    Cal Tryd.prog 21 [.int .i64 512, .int .i64 1] [] S fun v H' S' => v = .int .i64 512 ∧ H' = [] ∧ S' = S := by
  unfold fixed_Down_v2.f at e
  refine cal_of (c := c21) (N := 18) Tryd.func21 rfl rfl (by kernel_rfl) (rs := [.t 4]) (by kernel_rfl) (Nat.le_of_ble_eq_true rfl) ?_
  unfold c21
  refine w_seq ?_
  refine w_reg fun all => ?_
  refine t_qz 1 [0, 1] (σ' := [(0, .int .i64 512), (1, .int .i64 1)]) (by kernel_rfl) ?_
  refine t_end ?_
  show W _ _ _ _ _ _ _
  refine w_seq ?_
  refine w_seq ?_
  refine w_reg fun all => ?_
  refine t_qz 2 [0, 1, 7] (σ' := [(0, .int .i64 512), (1, .int .i64 1), (7, .bool false)]) (by kernel_rfl) ?_
  refine t_end ?_
  show W _ _ _ _ _ _ _
  refine w_cond rfl (fun c_ => by cases c_) (fun _ => ?_)
  show W _ _ _ _ _ _ _
  refine w_skip ?_
  show W _ _ _ _ _ _ _
  refine w_seq ?_
  refine w_reg fun all => ?_
  refine t_qz 4 [0, 1, 5] (σ' := [(0, .int .i64 512), (1, .int .i64 1), (5, .int .i64 512)]) (by kernel_rfl) ?_
  refine t_end ?_
  show W _ _ _ _ _ _ _
  refine w_seq ?_
  refine w_seq ?_
  refine w_reg fun all => ?_
  refine t_qz 4 [5, 14] (σ' := [(5, .int .i64 512), (14, .bool false)]) (by kernel_rfl) ?_
  refine t_end ?_
  show W _ _ _ _ _ _ _
  refine w_cond rfl (fun c_ => by cases c_) (fun _ => ?_)
  show W _ _ _ _ _ _ _
  refine w_skip ?_
  show W _ _ _ _ _ _ _
  refine w_seq ?_
  refine w_reg fun all => ?_
  refine t_qz 2 [4] (σ' := [(4, .int .i64 512)]) (by kernel_rfl) ?_
  refine t_end ?_
  show W _ _ _ _ _ _ _
  refine w_ret ?_
  exact ⟨[.int .i64 512], [], S, ⟨rfl, trivial⟩, VS.none, rfl, rfl, rfl⟩

/-- fixed.Round -/
def c20 : C :=
  (.seq (.reg [⟨(some 4), .mv (.const (.int .i64 0)), none⟩])
  (.seq (.seq (.reg [⟨(some 7), .mv (.tmp 1), none⟩,
      ⟨(some 8), .bin .lss (.tmp 7) (.const (.int .i64 1)), none⟩])
   (.cond (.tmp 8)
    (.seq (.reg [⟨(some 4), .mv (.const (.int .i64 0)), none⟩])
     .ret)
    .skip))
  (.seq (.reg [⟨(some 9), .mv (.tmp 0), none⟩,
     ⟨(some 10), .mv (.tmp 1), none⟩,
     ⟨(some 11), .call 21 [(.tmp 9), (.tmp 10)], none⟩,
     ⟨(some 5), .mv (.tmp 11), none⟩])
  (.seq (.seq (.reg [⟨(some 12), .mv (.tmp 0), none⟩,
      ⟨(some 13), .mv (.tmp 5), none⟩,
      ⟨(some 14), .mv (.tmp 1), none⟩,
      ⟨(some 15), .bin .mul (.tmp 13) (.tmp 14), none⟩,
      ⟨(some 16), .bin .sub (.tmp 12) (.tmp 15), none⟩,
      ⟨(some 6), .mv (.tmp 16), none⟩])
   (.seq (.reg [⟨(some 17), .mv (.tmp 6), none⟩,
      ⟨(some 18), .mv (.tmp 1), none⟩,
      ⟨(some 19), .mv (.tmp 6), none⟩,
      ⟨(some 20), .bin .sub (.tmp 18) (.tmp 19), none⟩,
      ⟨(some 21), .bin .geq (.tmp 17) (.tmp 20), none⟩])
   (.cond (.tmp 21)
    (.reg [⟨(some 22), .mv (.tmp 5), none⟩,
       ⟨(some 23), .bin .add (.tmp 22) (.const (.int .i64 1)), none⟩,
       ⟨(some 5), .mv (.tmp 23), none⟩])
    .skip)))
  (.seq (.reg [⟨(some 24), .mv (.tmp 5), none⟩,
     ⟨(some 4), .mv (.tmp 24), none⟩])
  .ret)))))
def fixed_Round_v1.f  : Option (Unit) := (fixed_Down_v2.f).bind fun _ => (some ())
theorem fixed_Round_v1.ok {S : Seal}  {A_ : Int → Addr} (hE_ : EO gsE S A_ 94) (e : fixed_Round_v1.f  = some ()) :
    Cal Tryd.prog 20 [.int .i64 512, .int .i64 1] [] S fun v H' S' => v = .int .i64 512 ∧ H' = [] ∧ S' = S := by
  unfold fixed_Round_v1.f at e
  refine cal_of (c := c20) (N := 25) Tryd.func20 rfl rfl (by kernel_rfl) (rs := [.t 4]) (by kernel_rfl) (Nat.le_of_ble_eq_true rfl) ?_
  unfold c20
  refine w_seq ?_
  refine w_reg fun all => ?_
  refine t_qz 1 [0, 1] (σ' := [(0, .int .i64 512), (1, .int .i64 1)]) (by kernel_rfl) ?_
  refine t_end ?_
  show W _ _ _ _ _ _ _
  refine w_seq ?_
  refine w_seq ?_
  refine w_reg fun all => ?_
  refine t_qz 2 [0, 1, 8] (σ' := [(0, .int .i64 512), (1, .int .i64 1), (8, .bool false)]) (by kernel_rfl) ?_
  refine t_end ?_
  show W _ _ _ _ _ _ _
  refine w_cond rfl (fun c_ => by cases c_) (fun _ => ?_)
  show W _ _ _ _ _ _ _
  refine w_skip ?_
  show W _ _ _ _ _ _ _
  refine w_seq ?_
  refine w_reg fun all => ?_
  obtain ⟨u_, h6, e⟩ := bind_of e
  refine t_qz 2 [0, 1, 9, 10] (σ' := [(0, .int .i64 512), (1, .int .i64 1), (9, .int .i64 512), (10, .int .i64 1)]) (by kernel_rfl) ?_
  refine t_v (.call (vs := [.int .i64 512, .int .i64 1]) rfl rfl (by kernel_rfl) (fixed_Down_v2.ok hE_ h6)) ?_
  refine t_qz 1 [0, 1, 5] (σ' := [(0, .int .i64 512), (1, .int .i64 1), (5, .int .i64 512)]) (by kernel_rfl) ?_
  refine t_end ?_
  show W _ _ _ _ _ _ _
  refine w_seq ?_
  refine w_seq ?_
  refine w_reg fun all => ?_
  refine t_qz 6 [1, 5, 6] (σ' := [(1, .int .i64 1), (5, .int .i64 512), (6, .int .i64 0)]) (by kernel_rfl) ?_
  refine t_end ?_
  show W _ _ _ _ _ _ _
  refine w_seq ?_
  refine w_reg fun all => ?_
  refine t_qz 5 [5, 21] (σ' := [(5, .int .i64 512), (21, .bool false)]) (by kernel_rfl) ?_
  refine t_end ?_
  show W _ _ _ _ _ _ _
  refine w_cond rfl (fun c_ => by cases c_) (fun _ => ?_)
  show W _ _ _ _ _ _ _
  refine w_skip ?_
  show W _ _ _ _ _ _ _
  refine w_seq ?_
  refine w_reg fun all => ?_
  refine t_qz 2 [4] (σ' := [(4, .int .i64 512)]) (by kernel_rfl) ?_
  refine t_end ?_
  show W _ _ _ _ _ _ _
  refine w_ret ?_
  exact ⟨[.int .i64 512], [], S, ⟨rfl, trivial⟩, VS.none, rfl, rfl, rfl⟩

/-- scale.At -/
def c7 : C :=
  (.seq (.reg [⟨(some 3), .box (.tmp 0), none⟩,
     ⟨(some 6), .mv (.const (.int .i64 0)), none⟩])
  (.seq (.reg [⟨(some 7), .mv (.tmp 2), none⟩,
     ⟨(some 8), .mv (.tmp 1), none⟩,
     ⟨(some 9), .bin .mul (.tmp 7) (.tmp 8), none⟩,
     ⟨(some 10), .bin .mul (.tmp 9) (.const (.int .i64 256)), none⟩,
     ⟨(some 11), .pad 0 (.tmp 3), none⟩,
     ⟨(some 12), .ld none (.tmp 11), none⟩,
     ⟨(some 13), .pad 2 (.tmp 3), none⟩,
     ⟨(some 14), .ld none (.tmp 13), none⟩,
     ⟨(some 15), .bin .shl (.tmp 12) (.tmp 14), none⟩,
     ⟨(some 16), .call 20 [(.tmp 10), (.tmp 15)], none⟩,
     ⟨(some 6), .mv (.tmp 16), none⟩])
  .ret))
def scale_At_v1.f  : Option (Unit) := (fixed_Round_v1.f).bind fun _ => (some ())
theorem scale_At_v1.ok {S : Seal}  {A_ : Int → Addr} (hE_ : EO gsE S A_ 94) {a_i0_3 : Option Addr} {n_i0_3 c_i0_3 : Nat} {a_i0_4 : Option Addr} {n_i0_4 c_i0_4 : Nat} (e : scale_At_v1.f  = some ()) :
    Cal Tryd.prog 7 [.agg #[.int .i64 1, .int .i64 1, .int .i64 0, .slice a_i0_3 n_i0_3 c_i0_3, .slice a_i0_4 n_i0_4 c_i0_4], .int .i64 2, .int .i64 1] [] S fun v H' S' => v = .int .i64 512 ∧ H' = [] ∧ S' = S := by
  unfold scale_At_v1.f at e
  refine cal_of (c := c7) (N := 17) Tryd.func7 rfl rfl (by kernel_rfl) (rs := [.t 6]) (by kernel_rfl) (Nat.le_of_ble_eq_true rfl) ?_
  unfold c7
  refine w_seq ?_
  refine w_reg fun all => ?_
  refine t_a (.box rfl rfl rfl) fun b5 fb5 sb5 => ?_
  refine t_qz 1 [1, 2, 3] (σ' := [(1, .int .i64 2), (2, .int .i64 1), (3, .pointer (some ⟨b5, 0, none⟩))]) (by kernel_rfl) ?_
  refine t_end ?_
  show W _ _ _ _ _ _ _
  refine w_seq ?_
  refine w_reg fun all => ?_
  refine t_qz 5 [3, 10, 11] (σ' := [(3, .pointer (some ⟨b5, 0, none⟩)), (10, .int .i64 512), (11, .pointer (some ⟨b5, 0, none⟩))]) (by kernel_rfl) ?_
  refine t_v (.ld1 rfl rfl rfl (.at 0 rfl rfl)) ?_
  refine t_qz 1 [10, 12, 13] (σ' := [(10, .int .i64 512), (12, .int .i64 1), (13, .pointer (some ⟨b5, 2, none⟩))]) (by kernel_rfl) ?_
  refine t_v (.ld1 rfl rfl rfl (.at 0 rfl rfl)) ?_
  obtain ⟨u_, h7, e⟩ := bind_of e
  refine t_qz 1 [10, 15] (σ' := [(10, .int .i64 512), (15, .int .i64 1)]) (by kernel_rfl) ?_
  refine t_v (.call (vs := [.int .i64 512, .int .i64 1]) rfl rfl (by kernel_rfl) (fixed_Round_v1.ok hE_ h7)) ?_
  refine t_qz 1 [6] (σ' := [(6, .int .i64 512)]) (by kernel_rfl) ?_
  refine t_end ?_
  show W _ _ _ _ _ _ _
  refine w_ret ?_
  exact ⟨[.int .i64 512], [], S, ⟨rfl, trivial⟩, VS.none, rfl, rfl, rfl⟩

/-- scale.Check -/
def c11 : C :=
  (.seq (.reg [⟨(some 2), .box (.tmp 0), none⟩,
     ⟨(some 4), .mv (.const .nilIface), none⟩])
  (.seq (.block 0 (.seq (.reg [⟨(some 6), .mv (.tmp 1), none⟩,
       ⟨(some 7), .bin .lss (.tmp 6) (.const (.int .i64 1)), none⟩,
       ⟨(some 8), .mv (.tmp 7), none⟩,
       ⟨(some 9), .mv (.tmp 1), (some (8, false))⟩,
       ⟨(some 10), .bin .gtr (.tmp 9) (.const (.int .i64 16384)), (some (8, false))⟩,
       ⟨(some 11), .pk (.tmp 8) (.const (.bool true)) (.tmp 10), none⟩,
       ⟨(some 5), .mv (.tmp 11), none⟩])
    (.cond (.tmp 5)
     (.seq (.reg [⟨(some 12), .ld none (.global 0), none⟩,
         ⟨(some 4), .mv (.tmp 12), none⟩])
      .ret)
     (.seq (.reg [⟨(some 14), .ld (some 5) (.tmp 2), none⟩,
         ⟨(some 15), .mv (.tmp 1), none⟩,
         ⟨(some 16), .call 8 [(.tmp 14), (.tmp 15)], none⟩,
         ⟨(some 17), .bin .gtr (.tmp 16) (.const (.int .i64 16384)), none⟩,
         ⟨(some 13), .mv (.tmp 17), none⟩])
      (.cond (.tmp 13)
       (.seq (.reg [⟨(some 18), .ld none (.global 1), none⟩,
           ⟨(some 4), .mv (.tmp 18), none⟩])
        .ret)
       .skip)))))
  (.seq (.reg [⟨(some 4), .mv (.const .nilIface), none⟩])
  .ret)))
def scale_Check_v1.f  : Option (Unit) := some ()
theorem scale_Check_v1.ok {S : Seal}  {A_ : Int → Addr} (hE_ : EO gsE S A_ 94) {a_i0_3 : Option Addr} {n_i0_3 c_i0_3 : Nat} {a_i0_4 : Option Addr} {n_i0_4 c_i0_4 : Nat} (e : scale_Check_v1.f  = some ()) :
    Cal Tryd.prog 11 [.agg #[.int .i64 1, .int .i64 1, .int .i64 0, .slice a_i0_3 n_i0_3 c_i0_3, .slice a_i0_4 n_i0_4 c_i0_4], .int .i64 0] [] S fun v H' S' => v = .iface 94 (.pointer (some (A_ 1))) ∧ H' = [] ∧ S' = S := by
  unfold scale_Check_v1.f at e
  refine cal_of (c := c11) (N := 19) Tryd.func11 rfl rfl (by kernel_rfl) (rs := [.t 4]) (by kernel_rfl) (Nat.le_of_ble_eq_true rfl) ?_
  unfold c11
  refine w_seq ?_
  refine w_reg fun all => ?_
  refine t_a (.box rfl rfl rfl) fun b9 fb9 sb9 => ?_
  refine t_qz 1 [1, 2] (σ' := [(1, .int .i64 0), (2, .pointer (some ⟨b9, 0, none⟩))]) (by kernel_rfl) ?_
  refine t_end ?_
  show W _ _ _ _ _ _ _
  refine w_seq ?_
  refine w_block ?_
  refine w_seq ?_
  refine w_reg fun all => ?_
  refine t_qz 7 [1, 2, 5] (σ' := [(1, .int .i64 0), (2, .pointer (some ⟨b9, 0, none⟩)), (5, .bool true)]) (by kernel_rfl) ?_
  refine t_end ?_
  show W _ _ _ _ _ _ _
  refine w_cond rfl (fun _ => ?_) (fun c_ => by cases c_)
  show W _ _ _ _ _ _ _
  refine w_seq ?_
  refine w_reg fun all => ?_
  refine t_v (.ld1 rfl rfl rfl (hE_.atc 0 1 (by decide) (by decide))) ?_
  refine t_qz 1 [4] (σ' := [(4, .iface 94 (.pointer (some (A_ 1))))]) (by kernel_rfl) ?_
  refine t_end ?_
  show W _ _ _ _ _ _ _
  refine w_ret ?_
  exact ⟨[.iface 94 (.pointer (some (A_ 1)))], [], S, ⟨rfl, trivial⟩, VS.none, rfl, rfl, rfl⟩

/-- glyphiclaw20.first -/
def c6 : C :=
  (.seq (.reg [⟨(some 0), .mv (.const (.bool false)), none⟩])
  (.seq (.reg [⟨(some 2), .bld [(.int .i64 0), (.int .i64 0), (.int .i64 0), (.slice none 0 0), (.slice none 0 0)] [(0, 1, (.const (.int .i64 1))), (1, 1, (.const (.int .i64 1)))], none⟩,
     ⟨(some 1), .new [(.int .i64 0), (.int .i64 0), (.int .i64 0), (.slice none 0 0), (.slice none 0 0)], none⟩,
     ⟨none, .st 5 (.tmp 1) (.tmp 2), none⟩])
  (.seq (.reg [⟨(some 3), .ld (some 5) (.tmp 1), none⟩,
     ⟨(some 4), .call 8 [(.tmp 3), (.const (.int .i64 5))], none⟩,
     ⟨(some 5), .bin .eql (.tmp 4) (.const (.int .i64 5)), none⟩,
     ⟨(some 6), .mv (.tmp 5), none⟩,
     ⟨(some 7), .ld (some 5) (.tmp 1), (some (6, true))⟩,
     ⟨(some 8), .call 7 [(.tmp 7), (.const (.int .i64 2)), (.const (.int .i64 1))], (some (6, true))⟩,
     ⟨(some 9), .bin .eql (.tmp 8) (.const (.int .i64 512)), (some (6, true))⟩,
     ⟨(some 10), .pk (.tmp 6) (.tmp 9) (.const (.bool false)), none⟩,
     ⟨(some 11), .mv (.tmp 10), none⟩,
     ⟨(some 12), .ld (some 5) (.tmp 1), (some (11, true))⟩,
     ⟨(some 13), .call 11 [(.tmp 12), (.const (.int .i64 0))], (some (11, true))⟩,
     ⟨(some 14), .eqt true 38 (.tmp 13) (.const .nilIface), (some (11, true))⟩,
     ⟨(some 15), .pk (.tmp 11) (.tmp 14) (.const (.bool false)), none⟩,
     ⟨(some 0), .mv (.tmp 15), none⟩])
  .ret)))
def glyphiclaw20_first.f  : Option (Bool) := (scale_Height_v1.f).bind fun _ => ((scale_At_v1.f).bind fun _ => ((scale_Check_v1.f).bind fun _ => (some true)))
theorem glyphiclaw20_first.ok {S : Seal}  {r0_ : Bool}{A_ : Int → Addr} (hE_ : EO gsE S A_ 94) (e : glyphiclaw20_first.f  = some r0_) :
    Cal Tryd.prog 6 [] [] S fun v H' S' => v = .bool r0_ ∧ H' = [] ∧ S' = S := by
  unfold glyphiclaw20_first.f at e
  refine cal_of (c := c6) (N := 16) Tryd.func6 rfl rfl (by kernel_rfl) (rs := [.t 0]) (by kernel_rfl) (Nat.le_of_ble_eq_true rfl) ?_
  unfold c6
  refine w_seq ?_
  refine w_reg fun all => ?_
  refine t_qz 1 [] (σ' := []) (by kernel_rfl) ?_
  refine t_end ?_
  show W _ _ _ _ _ _ _
  refine w_seq ?_
  refine w_reg fun all => ?_
  refine t_qz 1 [2] (σ' := [(2, .agg #[.int .i64 1, .int .i64 1, .int .i64 0, .slice none 0 0, .slice none 0 0])]) (by kernel_rfl) ?_
  refine t_a (.new rfl rfl) fun b1 fb1 sb1 => ?_
  refine t_sti 0 (cs := [.int .i64 1, .int .i64 1, .int .i64 0, .slice none 0 0, .slice none 0 0]) rfl rfl rfl rfl rfl rfl rfl rfl rfl ?_
  refine t_keep [1] (σ' := [(1, .pointer (some ⟨b1, 0, none⟩))]) (by kernel_rfl) ?_
  refine t_end ?_
  show W _ _ _ _ _ _ _
  refine w_seq ?_
  refine w_reg fun all => ?_
  refine t_v (.ldn rfl rfl rfl (.at 0 rfl rfl)) ?_
  obtain ⟨u_, h4, e⟩ := bind_of e
  refine t_v (.call (vs := [.agg #[.int .i64 1, .int .i64 1, .int .i64 0, .slice none 0 0, .slice none 0 0], .int .i64 5]) rfl rfl (by kernel_rfl) (scale_Height_v1.ok hE_ h4)) ?_
  refine t_qz 2 [1, 6] (σ' := [(1, .pointer (some ⟨b1, 0, none⟩)), (6, .bool true)]) (by kernel_rfl) ?_
  refine t_v (.ldn rfl rfl rfl (.at 0 rfl rfl)) ?_
  obtain ⟨u_, h8, e⟩ := bind_of e
  refine t_v (.call (vs := [.agg #[.int .i64 1, .int .i64 1, .int .i64 0, .slice none 0 0, .slice none 0 0], .int .i64 2, .int .i64 1]) rfl rfl (by kernel_rfl) (scale_At_v1.ok hE_ h8)) ?_
  refine t_qz 3 [1, 11] (σ' := [(1, .pointer (some ⟨b1, 0, none⟩)), (11, .bool true)]) (by kernel_rfl) ?_
  refine t_v (.ldn rfl rfl rfl (.at 0 rfl rfl)) ?_
  obtain ⟨u_, h10, e⟩ := bind_of e
  refine t_v (.call (vs := [.agg #[.int .i64 1, .int .i64 1, .int .i64 0, .slice none 0 0, .slice none 0 0], .int .i64 0]) rfl rfl (by kernel_rfl) (scale_Check_v1.ok hE_ h10)) ?_
  refine t_v (.eqt (a := .iface 94 (.pointer (some (A_ 1)))) (b := .nilIface) (r := false) rfl rfl rfl rfl (by kernel_rfl) rfl) ?_
  refine t_qz 2 [0] (σ' := [(0, .bool true)]) (by kernel_rfl) ?_
  refine t_end ?_
  show W _ _ _ _ _ _ _
  refine w_ret ?_
  obtain rfl := Option.some.inj e
  exact ⟨[.bool true], [], S, ⟨rfl, trivial⟩, VS.none, rfl, rfl, rfl⟩

/-- glyphicworld.Number -/
def c13 : C :=
  (.seq (.reg [⟨(some 4), .mv (.const (.int .i64 0)), none⟩])
  (.seq (.reg [⟨(some 6), .mv (.tmp 0), none⟩,
     ⟨(some 7), .mv (.tmp 1), none⟩,
     ⟨(some 8), .bin .rem (.tmp 6) (.tmp 7), none⟩,
     ⟨(some 5), .mv (.tmp 8), none⟩])
  (.seq (.seq (.reg [⟨(some 9), .mv (.tmp 5), none⟩,
      ⟨(some 10), .bin .lss (.tmp 9) (.const (.int .i64 0)), none⟩])
   (.cond (.tmp 10)
    (.reg [⟨(some 11), .mv (.tmp 5), none⟩,
       ⟨(some 12), .mv (.tmp 1), none⟩,
       ⟨(some 13), .bin .add (.tmp 11) (.tmp 12), none⟩,
       ⟨(some 5), .mv (.tmp 13), none⟩])
    .skip))
  (.seq (.reg [⟨(some 14), .mv (.tmp 5), none⟩,
     ⟨(some 4), .mv (.tmp 14), none⟩])
  .ret))))
def glyphicworld_Number.f (n0 : Int) (below1 : Int) : Option (Int) := if below1 = 0 then none else (if (Int.tmod n0 below1) < 0 then (some (wr64 ((Int.tmod n0 below1) + below1))) else (some (Int.tmod n0 below1)))
theorem glyphicworld_Number.ok {S : Seal} {n0 : Int} {below1 : Int} {r0_ : Int}{A_ : Int → Addr} (hE_ : EO gsE S A_ 94) (e : glyphicworld_Number.f n0 below1 = some r0_) :
    Cal Tryd.prog 13 [.int .i64 n0, .int .i64 below1] [] S fun v H' S' => v = .int .i64 r0_ ∧ H' = [] ∧ S' = S := by
  unfold glyphicworld_Number.f at e
  refine cal_of (c := c13) (N := 15) Tryd.func13 rfl rfl (by kernel_rfl) (rs := [.t 4]) (by kernel_rfl) (Nat.le_of_ble_eq_true rfl) ?_
  unfold c13
  refine w_seq ?_
  refine w_reg fun all => ?_
  refine t_qz 1 [0, 1] (σ' := [(0, .int .i64 n0), (1, .int .i64 below1)]) (by kernel_rfl) ?_
  refine t_end ?_
  show W _ _ _ _ _ _ _
  refine w_seq ?_
  refine w_reg fun all => ?_
  have c31 : ¬ below1 = 0 := by
    intro h_; rw [if_pos h_] at e; cases e
  rw [if_neg c31] at e
  refine t_qz 2 [1, 6, 7] (σ' := [(1, .int .i64 below1), (6, .int .i64 n0), (7, .int .i64 below1)]) (by kernel_rfl) ?_
  refine t_v (.quiet rfl (qv_rem rfl rfl c31)) ?_
  refine t_qz 1 [1, 5] (σ' := [(1, .int .i64 below1), (5, .int .i64 (Int.tmod n0 below1))]) (by kernel_rfl) ?_
  refine t_end ?_
  show W _ _ _ _ _ _ _
  refine w_seq ?_
  refine w_seq ?_
  refine w_reg fun all => ?_
  by_cases c32 : (Int.tmod n0 below1) < 0
  · rw [if_pos c32] at e
    have c32b : (decide ((Int.tmod n0 below1) < 0)) = true := decide_eq_true c32
    refine t_qz 1 [1, 5, 9] (σ' := [(1, .int .i64 below1), (5, .int .i64 (Int.tmod n0 below1)), (9, .int .i64 (Int.tmod n0 below1))]) (by kernel_rfl) ?_
    refine t_v (dv_quiet rfl (congrArg (fun t => some (Value.bool t)) c32b)) ?_
    refine t_keep [1, 5, 10] (σ' := [(1, .int .i64 below1), (5, .int .i64 (Int.tmod n0 below1)), (10, .bool true)]) (by kernel_rfl) ?_
    refine t_end ?_
    show W _ _ _ _ _ _ _
    refine w_cond rfl (fun _ => ?_) (fun c_ => by cases c_)
    show W _ _ _ _ _ _ _
    refine w_reg fun all => ?_
    refine t_qz 4 [5] (σ' := [(5, .int .i64 (wr64 ((Int.tmod n0 below1) + below1)))]) (by kernel_rfl) ?_
    refine t_end ?_
    show W _ _ _ _ _ _ _
    refine w_seq ?_
    refine w_reg fun all => ?_
    refine t_qz 2 [4] (σ' := [(4, .int .i64 (wr64 ((Int.tmod n0 below1) + below1)))]) (by kernel_rfl) ?_
    refine t_end ?_
    show W _ _ _ _ _ _ _
    refine w_ret ?_
    obtain rfl := Option.some.inj e
    exact ⟨[.int .i64 (wr64 ((Int.tmod n0 below1) + below1))], [], S, ⟨rfl, trivial⟩, VS.none, rfl, rfl, rfl⟩
  · rw [if_neg c32] at e
    have c32b : (decide ((Int.tmod n0 below1) < 0)) = false := decide_eq_false c32
    refine t_qz 1 [1, 5, 9] (σ' := [(1, .int .i64 below1), (5, .int .i64 (Int.tmod n0 below1)), (9, .int .i64 (Int.tmod n0 below1))]) (by kernel_rfl) ?_
    refine t_v (dv_quiet rfl (congrArg (fun t => some (Value.bool t)) c32b)) ?_
    refine t_keep [1, 5, 10] (σ' := [(1, .int .i64 below1), (5, .int .i64 (Int.tmod n0 below1)), (10, .bool false)]) (by kernel_rfl) ?_
    refine t_end ?_
    show W _ _ _ _ _ _ _
    refine w_cond rfl (fun c_ => by cases c_) (fun _ => ?_)
    show W _ _ _ _ _ _ _
    refine w_skip ?_
    show W _ _ _ _ _ _ _
    refine w_seq ?_
    refine w_reg fun all => ?_
    refine t_qz 2 [4] (σ' := [(4, .int .i64 (Int.tmod n0 below1))]) (by kernel_rfl) ?_
    refine t_end ?_
    show W _ _ _ _ _ _ _
    refine w_ret ?_
    obtain rfl := Option.some.inj e
    exact ⟨[.int .i64 (Int.tmod n0 below1)], [], S, ⟨rfl, trivial⟩, VS.none, rfl, rfl, rfl⟩

/-- (*glyphicmake.Seq).Next -/
def c22 : C :=
  (.seq (.reg [⟨(some 4), .mv (.const (.int .i64 0)), none⟩])
  (.seq (.reg [⟨(some 5), .mv (.const (.int .i64 0)), none⟩])
  (.seq (.seq (.drw [⟨(some 6), .mv (.tmp 0), none⟩,
      ⟨(some 7), .nck (.tmp 6), none⟩,
      ⟨(some 8), .pad 1 (.tmp 7), none⟩,
      ⟨(some 9), .ld none (.tmp 8), none⟩,
      ⟨(some 10), .mv (.tmp 0), none⟩,
      ⟨(some 11), .nck (.tmp 10), none⟩,
      ⟨(some 12), .pad 0 (.tmp 11), none⟩,
      ⟨(some 13), .ld none (.tmp 12), none⟩,
      ⟨(some 14), .lns (.tmp 13), none⟩,
      ⟨(some 15), .bin .lss (.tmp 9) (.tmp 14), none⟩] [[], [0], [1], [2], [], [4], [5], [6], [7], [3, 8]])
   (.cond (.tmp 15)
    (.drw [⟨(some 16), .mv (.tmp 0), none⟩,
       ⟨(some 17), .nck (.tmp 16), none⟩,
       ⟨(some 18), .pad 0 (.tmp 17), none⟩,
       ⟨(some 19), .ld none (.tmp 18), none⟩,
       ⟨(some 20), .mv (.tmp 0), none⟩,
       ⟨(some 21), .nck (.tmp 20), none⟩,
       ⟨(some 22), .pad 1 (.tmp 21), none⟩,
       ⟨(some 23), .ld none (.tmp 22), none⟩,
       ⟨(some 24), .ixs 1 (.tmp 19) (.tmp 23), none⟩,
       ⟨(some 25), .ld none (.tmp 24), none⟩,
       ⟨(some 5), .mv (.tmp 25), none⟩] [[], [0], [1], [2], [], [4], [5], [6], [3, 7], [8], [9, 0, 1, 2, 3, 4, 5, 6, 7, 8, 9]])
    .skip))
  (.seq (.reg [⟨(some 26), .mv (.tmp 0), none⟩,
     ⟨(some 27), .mv (.tmp 0), none⟩,
     ⟨(some 28), .nck (.tmp 27), none⟩,
     ⟨(some 29), .pad 1 (.tmp 28), none⟩,
     ⟨(some 30), .ld none (.tmp 29), none⟩,
     ⟨(some 31), .bin .add (.tmp 30) (.const (.int .i64 1)), none⟩,
     ⟨(some 32), .nck (.tmp 26), none⟩,
     ⟨(some 33), .pad 1 (.tmp 32), none⟩,
     ⟨none, .st 1 (.tmp 33) (.tmp 31), none⟩])
  (.seq (.reg [⟨(some 34), .mv (.tmp 5), none⟩,
     ⟨(some 35), .mv (.tmp 1), none⟩,
     ⟨(some 36), .call 13 [(.tmp 34), (.tmp 35)], none⟩,
     ⟨(some 4), .mv (.tmp 36), none⟩])
  .ret)))))
def glyphicmake_Seq_Next_v1.f (below1 : Int) (m0_0 : List (Int)) (m0_1 : Int) : Option (Int × Int) := (if m0_1 < (m0_0.length : Int) then ((lgt m0_0 m0_1).bind fun x39 => (some x39)) else (some 0) : Option (Int)).bind fun x49 => ((glyphicworld_Number.f x49 below1).bind fun t50 => (some (t50, wr64 (m0_1 + 1))))
theorem glyphicmake_Seq_Next_v1.ok {S : Seal} {B0 : Nat} {below1 : Int} {m0_0 : List (Int)} {m0_1 : Int} {r0_ : Int} {r1_ : Int}{A_ : Int → Addr} (hE_ : EO gsE S A_ 94) {a_m0_0 : Option Addr} {c_m0_0 : Nat} (h_m0_0 : SlE S E_i64 m0_0 a_m0_0) (e : glyphicmake_Seq_Next_v1.f below1 m0_0 m0_1 = some (r0_, r1_)) :
    Cal Tryd.prog 22 [.pointer (some ⟨B0, 0, none⟩), .int .i64 below1] ([⟨B0, [.slice a_m0_0 m0_0.length c_m0_0, .int .i64 m0_1], 2⟩] : List Own) S fun v H' S' => v = .int .i64 r0_ ∧ H' = ([⟨B0, [.slice a_m0_0 m0_0.length c_m0_0, .int .i64 r1_], 2⟩] : List Own) ∧ S' = S := by
  unfold glyphicmake_Seq_Next_v1.f at e
  refine cal_of (c := c22) (N := 37) Tryd.func22 rfl rfl (by kernel_rfl) (rs := [.t 4]) (by kernel_rfl) (Nat.le_of_ble_eq_true rfl) ?_
  unfold c22
  refine w_seq ?_
  refine w_reg fun all => ?_
  refine t_qz 1 [0, 1] (σ' := [(0, .pointer (some ⟨B0, 0, none⟩)), (1, .int .i64 below1)]) (by kernel_rfl) ?_
  refine t_end ?_
  show W _ _ _ _ _ _ _
  refine w_seq ?_
  refine w_reg fun all => ?_
  refine t_qz 1 [0, 1, 5] (σ' := [(0, .pointer (some ⟨B0, 0, none⟩)), (1, .int .i64 below1), (5, .int .i64 0)]) (by kernel_rfl) ?_
  refine t_end ?_
  show W _ _ _ _ _ _ _
  obtain ⟨x49, e36, e⟩ := bind_of e
  refine w_cut [0, 1, 5] (fun σ_ H_ S_ => [(0, .pointer (some ⟨B0, 0, none⟩)), (1, .int .i64 below1), (5, .int .i64 x49)] = σ_ ∧ ([⟨B0, [.slice a_m0_0 m0_0.length c_m0_0, .int .i64 m0_1], 2⟩] : List Own) = H_ ∧ S = S_) ?_ ?_
  · show W _ _ _ _ _ _ _
    refine w_seq ?_
    by_cases c38 : m0_1 < (m0_0.length : Int)
    · rw [if_pos c38] at e36
      have c38b : (decide (m0_1 < (m0_0.length : Int))) = true := decide_eq_true c38
      refine w_drwE mixed 10 [.v (.pointer (some ⟨B0, 0, none⟩)), .v (.pointer (some ⟨B0, 0, none⟩)), .v (.pointer (some ⟨B0, 1, none⟩)), .v (.int .i64 m0_1), .v (.pointer (some ⟨B0, 0, none⟩)), .v (.pointer (some ⟨B0, 0, none⟩)), .v (.pointer (some ⟨B0, 0, none⟩)), .v (.slice a_m0_0 m0_0.length c_m0_0), .v (.int .i64 (m0_0.length : Int)), .v (.bool true)] (by kernel_rfl) ?_ ?_
      · refine DI.sq 3 (by kernel_rfl) rfl ?_
        refine .cons (.ld1 rfl rfl rfl (.at 0 rfl rfl)) ?_
        refine DI.sq 3 (by kernel_rfl) rfl ?_
        refine .cons (.ld1 rfl rfl rfl (.at 0 rfl rfl)) ?_
        refine DI.sq 1 (by kernel_rfl) rfl ?_
        refine .cons (dv_quiet rfl (congrArg (fun t => some (Value.bool t)) c38b)) ?_
        exact .nil
      refine fk_q 10 [0, 1, 5, 15] (σ' := [(0, .pointer (some ⟨B0, 0, none⟩)), (1, .int .i64 below1), (5, .int .i64 0), (15, .bool true)]) t_more (by kernel_rfl) ?_
      refine fk_nil fun all => ?_
      refine t_keep [0, 1, 5, 15] (σ' := [(0, .pointer (some ⟨B0, 0, none⟩)), (1, .int .i64 below1), (5, .int .i64 0), (15, .bool true)]) (by kernel_rfl) ?_
      refine t_end ?_
      show W _ _ _ _ _ _ _
      refine w_cond rfl (fun _ => ?_) (fun c_ => by cases c_)
      show W _ _ _ _ _ _ _
      obtain ⟨x39, hx40, e36⟩ := bind_of e36
      obtain ⟨lb41, lo42, ll43, la44, lS45, lv46, lz47, lu48⟩ := sle_get (E := E_i64) h_m0_0 hx40
      refine w_drwE mixed 11 [.v (.pointer (some ⟨B0, 0, none⟩)), .v (.pointer (some ⟨B0, 0, none⟩)), .v (.pointer (some ⟨B0, 0, none⟩)), .v (.slice a_m0_0 m0_0.length c_m0_0), .v (.pointer (some ⟨B0, 0, none⟩)), .v (.pointer (some ⟨B0, 0, none⟩)), .v (.pointer (some ⟨B0, 1, none⟩)), .v (.int .i64 m0_1), .v (.pointer (some ⟨lb41, lo42 + (m0_1).toNat * 1 + 0, none⟩)), .v (.int .i64 x39), .v (.int .i64 x39)] (by kernel_rfl) ?_ ?_
      · refine DI.sq 3 (by kernel_rfl) rfl ?_
        refine .cons (.ld1 rfl rfl rfl (.at 0 rfl rfl)) ?_
        refine DI.sq 3 (by kernel_rfl) rfl ?_
        refine .cons (.ld1 rfl rfl rfl (.at 0 rfl rfl)) ?_
        refine .cons (.quiet rfl (ixs_sle rfl rfl la44 lz47 lu48)) ?_
        refine .cons (.ld1 rfl rfl rfl (.sealed lS45 (subl_at lv46 rfl))) ?_
        refine DI.sq 1 (by kernel_rfl) rfl ?_
        exact .nil
      refine fk_q 11 [0, 1, 5] (σ' := [(0, .pointer (some ⟨B0, 0, none⟩)), (1, .int .i64 below1), (5, .int .i64 x39)]) t_more (by kernel_rfl) ?_
      refine fk_nil fun all => ?_
      refine t_keep [0, 1, 5] (σ' := [(0, .pointer (some ⟨B0, 0, none⟩)), (1, .int .i64 below1), (5, .int .i64 x39)]) (by kernel_rfl) ?_
      refine t_end ?_
      obtain rfl := Option.some.inj e36
      exact ⟨([⟨B0, [.slice a_m0_0 m0_0.length c_m0_0, .int .i64 m0_1], 2⟩] : List Own), S, VS.sel [0] (by kernel_rfl), by kernel_rfl, rfl, rfl⟩
    · rw [if_neg c38] at e36
      have c38b : (decide (m0_1 < (m0_0.length : Int))) = false := decide_eq_false c38
      refine w_drwE mixed 10 [.v (.pointer (some ⟨B0, 0, none⟩)), .v (.pointer (some ⟨B0, 0, none⟩)), .v (.pointer (some ⟨B0, 1, none⟩)), .v (.int .i64 m0_1), .v (.pointer (some ⟨B0, 0, none⟩)), .v (.pointer (some ⟨B0, 0, none⟩)), .v (.pointer (some ⟨B0, 0, none⟩)), .v (.slice a_m0_0 m0_0.length c_m0_0), .v (.int .i64 (m0_0.length : Int)), .v (.bool false)] (by kernel_rfl) ?_ ?_
      · refine DI.sq 3 (by kernel_rfl) rfl ?_
        refine .cons (.ld1 rfl rfl rfl (.at 0 rfl rfl)) ?_
        refine DI.sq 3 (by kernel_rfl) rfl ?_
        refine .cons (.ld1 rfl rfl rfl (.at 0 rfl rfl)) ?_
        refine DI.sq 1 (by kernel_rfl) rfl ?_
        refine .cons (dv_quiet rfl (congrArg (fun t => some (Value.bool t)) c38b)) ?_
        exact .nil
      refine fk_q 10 [0, 1, 5, 15] (σ' := [(0, .pointer (some ⟨B0, 0, none⟩)), (1, .int .i64 below1), (5, .int .i64 0), (15, .bool false)]) t_more (by kernel_rfl) ?_
      refine fk_nil fun all => ?_
      refine t_keep [0, 1, 5, 15] (σ' := [(0, .pointer (some ⟨B0, 0, none⟩)), (1, .int .i64 below1), (5, .int .i64 0), (15, .bool false)]) (by kernel_rfl) ?_
      refine t_end ?_
      show W _ _ _ _ _ _ _
      refine w_cond rfl (fun c_ => by cases c_) (fun _ => ?_)
      show W _ _ _ _ _ _ _
      refine w_skip ?_
      obtain rfl := Option.some.inj e36
      exact ⟨([⟨B0, [.slice a_m0_0 m0_0.length c_m0_0, .int .i64 m0_1], 2⟩] : List Own), S, VS.sel [0] (by kernel_rfl), by kernel_rfl, rfl, rfl⟩
  · rintro σ_ H_ S_ ⟨rfl, rfl, rfl⟩
    refine w_seq ?_
    refine w_reg fun all => ?_
    refine t_qz 4 [1, 5, 26, 29] (σ' := [(1, .int .i64 below1), (5, .int .i64 x49), (26, .pointer (some ⟨B0, 0, none⟩)), (29, .pointer (some ⟨B0, 1, none⟩))]) (by kernel_rfl) ?_
    refine t_v (.ld1 rfl rfl rfl (.at 0 rfl rfl)) ?_
    refine t_qz 3 [1, 5, 31, 33] (σ' := [(1, .int .i64 below1), (5, .int .i64 x49), (31, .int .i64 (wr64 (m0_1 + 1))), (33, .pointer (some ⟨B0, 1, none⟩))]) (by kernel_rfl) ?_
    refine t_sti 0 (cs := [.slice a_m0_0 m0_0.length c_m0_0, .int .i64 (wr64 (m0_1 + 1))]) rfl rfl rfl rfl rfl rfl rfl rfl rfl ?_
    refine t_keep [1, 5] (σ' := [(1, .int .i64 below1), (5, .int .i64 x49)]) (by kernel_rfl) ?_
    refine t_end ?_
    show W _ _ _ _ _ _ _
    refine w_seq ?_
    refine w_reg fun all => ?_
    obtain ⟨t50, h51, e⟩ := bind_of e
    refine t_qz 2 [34, 35] (σ' := [(34, .int .i64 x49), (35, .int .i64 below1)]) (by kernel_rfl) ?_
    refine t_v (.call (vs := [.int .i64 x49, .int .i64 below1]) rfl rfl (by kernel_rfl) (glyphicworld_Number.ok hE_ h51)) ?_
    refine t_qz 1 [4] (σ' := [(4, .int .i64 t50)]) (by kernel_rfl) ?_
    refine t_end ?_
    show W _ _ _ _ _ _ _
    refine w_ret ?_
    simp only [Option.some.injEq, Prod.mk.injEq] at e
    obtain ⟨rfl, rfl⟩ := e
    exact ⟨[.int .i64 t50], ([⟨B0, [.slice a_m0_0 m0_0.length c_m0_0, .int .i64 (wr64 (m0_1 + 1))], 2⟩] : List Own), S, ⟨rfl, trivial⟩, VS.sel [0] (by kernel_rfl), rfl, rfl, rfl⟩

/-- (*glyphicmake.Seq).more -/
def c23 : C :=
  (.seq (.reg [⟨(some 2), .mv (.const (.bool false)), none⟩])
  (.seq (.drw [⟨(some 3), .mv (.tmp 0), none⟩,
     ⟨(some 4), .nck (.tmp 3), none⟩,
     ⟨(some 5), .pad 1 (.tmp 4), none⟩,
     ⟨(some 6), .ld none (.tmp 5), none⟩,
     ⟨(some 7), .mv (.tmp 0), none⟩,
     ⟨(some 8), .nck (.tmp 7), none⟩,
     ⟨(some 9), .pad 0 (.tmp 8), none⟩,
     ⟨(some 10), .ld none (.tmp 9), none⟩,
     ⟨(some 11), .lns (.tmp 10), none⟩,
     ⟨(some 12), .bin .lss (.tmp 6) (.tmp 11), none⟩,
     ⟨(some 2), .mv (.tmp 12), none⟩] [[], [0], [1], [2], [], [4], [5], [6], [7], [3, 8], [9, 0, 1, 2, 3, 4, 5, 6, 7, 8, 9]])
  .ret))
def glyphicmake_Seq_more_v1.f (m0_0 : List (Int)) (m0_1 : Int) : Option (Bool) := some (decide (m0_1 < (m0_0.length : Int)))
theorem glyphicmake_Seq_more_v1.ok {S : Seal} {B0 : Nat} {m0_0 : List (Int)} {m0_1 : Int} {r0_ : Bool}{A_ : Int → Addr} (hE_ : EO gsE S A_ 94) {a_m0_0 : Option Addr} {c_m0_0 : Nat} (h_m0_0 : SlE S E_i64 m0_0 a_m0_0) (e : glyphicmake_Seq_more_v1.f m0_0 m0_1 = some r0_) :
    Cal Tryd.prog 23 [.pointer (some ⟨B0, 0, none⟩)] ([⟨B0, [.slice a_m0_0 m0_0.length c_m0_0, .int .i64 m0_1], 2⟩] : List Own) S fun v H' S' => v = .bool r0_ ∧ H' = ([⟨B0, [.slice a_m0_0 m0_0.length c_m0_0, .int .i64 m0_1], 2⟩] : List Own) ∧ S' = S := by
  unfold glyphicmake_Seq_more_v1.f at e
  refine cal_of (c := c23) (N := 13) Tryd.func23 rfl rfl (by kernel_rfl) (rs := [.t 2]) (by kernel_rfl) (Nat.le_of_ble_eq_true rfl) ?_
  unfold c23
  refine w_seq ?_
  refine w_reg fun all => ?_
  refine t_qz 1 [0] (σ' := [(0, .pointer (some ⟨B0, 0, none⟩))]) (by kernel_rfl) ?_
  refine t_end ?_
  show W _ _ _ _ _ _ _
  refine w_seq ?_
  refine w_drwE mixed 11 [.v (.pointer (some ⟨B0, 0, none⟩)), .v (.pointer (some ⟨B0, 0, none⟩)), .v (.pointer (some ⟨B0, 1, none⟩)), .v (.int .i64 m0_1), .v (.pointer (some ⟨B0, 0, none⟩)), .v (.pointer (some ⟨B0, 0, none⟩)), .v (.pointer (some ⟨B0, 0, none⟩)), .v (.slice a_m0_0 m0_0.length c_m0_0), .v (.int .i64 (m0_0.length : Int)), .v (.bool (decide (m0_1 < (m0_0.length : Int)))), .v (.bool (decide (m0_1 < (m0_0.length : Int))))] (by kernel_rfl) ?_ ?_
  · refine DI.sq 3 (by kernel_rfl) rfl ?_
    refine .cons (.ld1 rfl rfl rfl (.at 0 rfl rfl)) ?_
    refine DI.sq 3 (by kernel_rfl) rfl ?_
    refine .cons (.ld1 rfl rfl rfl (.at 0 rfl rfl)) ?_
    refine DI.sq 3 (by kernel_rfl) rfl ?_
    exact .nil
  refine fk_q 11 [2] (σ' := [(2, .bool (decide (m0_1 < (m0_0.length : Int))))]) t_more (by kernel_rfl) ?_
  refine fk_nil fun all => ?_
  refine t_keep [2] (σ' := [(2, .bool (decide (m0_1 < (m0_0.length : Int))))]) (by kernel_rfl) ?_
  refine t_end ?_
  show W _ _ _ _ _ _ _
  refine w_ret ?_
  obtain rfl := Option.some.inj e
  exact ⟨[.bool (decide (m0_1 < (m0_0.length : Int)))], ([⟨B0, [.slice a_m0_0 m0_0.length c_m0_0, .int .i64 m0_1], 2⟩] : List Own), S, ⟨rfl, trivial⟩, VS.sel [0] (by kernel_rfl), rfl, rfl, rfl⟩

/-- glyphicmake.Color -/
def c25 : C :=
  (.seq (.reg [⟨(some 2), .new [(.int .u8 0), (.int .u8 0), (.int .u8 0), (.int .u8 0)], none⟩])
  (.seq (.reg [⟨(some 3), .bld [(.int .u8 0), (.int .u8 0), (.int .u8 0), (.int .u8 0)] [(0, 1, (.const (.int .u8 255))), (3, 1, (.const (.int .u8 255)))], none⟩,
     ⟨(some 4), .bld [(.int .u8 0), (.int .u8 0), (.int .u8 0), (.int .u8 0)] [(1, 1, (.const (.int .u8 128))), (3, 1, (.const (.int .u8 255)))], none⟩,
     ⟨(some 5), .bld [(.int .u8 0), (.int .u8 0), (.int .u8 0), (.int .u8 0)] [(2, 1, (.const (.int .u8 200))), (3, 1, (.const (.int .u8 100)))], none⟩,
     ⟨(some 6), .bld [(.int .u8 0), (.int .u8 0), (.int .u8 0), (.int .u8 0)] [(0, 1, (.const (.int .u8 10))), (1, 1, (.const (.int .u8 20))), (2, 1, (.const (.int .u8 30))), (3, 1, (.const (.int .u8 1)))], none⟩,
     ⟨(some 7), .bld [(.int .u8 0), (.int .u8 0), (.int .u8 0), (.int .u8 0)] [(0, 1, (.const (.int .u8 255))), (1, 1, (.const (.int .u8 255))), (2, 1, (.const (.int .u8 255))), (3, 1, (.const (.int .u8 255)))], none⟩,
     ⟨(some 8), .bld [(.int .u8 0), (.int .u8 0), (.int .u8 0), (.int .u8 0)] [(3, 1, (.const (.int .u8 0)))], none⟩,
     ⟨(some 9), .bld [(.int .u8 0), (.int .u8 0), (.int .u8 0), (.int .u8 0)] [(0, 1, (.const (.int .u8 7))), (3, 1, (.const (.int .u8 254)))], none⟩,
     ⟨(some 10), .bsl [(.int .u8 0), (.int .u8 0), (.int .u8 0), (.int .u8 0), (.int .u8 0), (.int .u8 0), (.int .u8 0), (.int .u8 0), (.int .u8 0), (.int .u8 0), (.int .u8 0), (.int .u8 0), (.int .u8 0), (.int .u8 0), (.int .u8 0), (.int .u8 0), (.int .u8 0), (.int .u8 0), (.int .u8 0), (.int .u8 0), (.int .u8 0), (.int .u8 0), (.int .u8 0), (.int .u8 0), (.int .u8 0), (.int .u8 0), (.int .u8 0), (.int .u8 0)] 7 [(0, 4, (.tmp 3)), (4, 4, (.tmp 4)), (8, 4, (.tmp 5)), (12, 4, (.tmp 6)), (16, 4, (.tmp 7)), (20, 4, (.tmp 8)), (24, 4, (.tmp 9))], none⟩,
     ⟨(some 11), .mv (.tmp 0), none⟩,
     ⟨(some 12), .call 22 [(.tmp 11), (.const (.int .i64 7))], none⟩,
     ⟨(some 13), .ixs 4 (.tmp 10) (.tmp 12), none⟩,
     ⟨(some 14), .ld (some 4) (.tmp 13), none⟩,
     ⟨none, .st 4 (.tmp 2) (.tmp 14), none⟩])
  .ret))
def glyphicmake_Color_v1.f (m0_0 : List (Int)) (m0_1 : Int) : Option (Int × Int × Int × Int × Int) := (glyphicmake_Seq_Next_v1.f 7 m0_0 m0_1).bind fun (t110, t111) => (if t110 = 0 then (some (255, 0, 0, 255, t111)) else (if t110 = 1 then (some (0, 128, 0, 255, t111)) else (if t110 = 2 then (some (0, 0, 200, 100, t111)) else (if t110 = 3 then (some (10, 20, 30, 1, t111)) else (if t110 = 4 then (some (255, 255, 255, 255, t111)) else (if t110 = 5 then (some (0, 0, 0, 0, t111)) else (if t110 = 6 then (some (7, 0, 0, 254, t111)) else (none))))))))
theorem glyphicmake_Color_v1.ok {S : Seal} {B0 : Nat} {m0_0 : List (Int)} {m0_1 : Int} {r0_ : Int} {r1_ : Int} {r2_ : Int} {r3_ : Int} {r4_ : Int}{A_ : Int → Addr} (hE_ : EO gsE S A_ 94) {a_m0_0 : Option Addr} {c_m0_0 : Nat} (h_m0_0 : SlE S E_i64 m0_0 a_m0_0) (e : glyphicmake_Color_v1.f m0_0 m0_1 = some (r0_, r1_, r2_, r3_, r4_)) :
    Cal Tryd.prog 25 [.pointer (some ⟨B0, 0, none⟩)] ([⟨B0, [.slice a_m0_0 m0_0.length c_m0_0, .int .i64 m0_1], 2⟩] : List Own) S fun v H' S' => v = .agg #[.int .u8 r0_, .int .u8 r1_, .int .u8 r2_, .int .u8 r3_] ∧ H' = ([⟨B0, [.slice a_m0_0 m0_0.length c_m0_0, .int .i64 r4_], 2⟩] : List Own) ∧ S' = S := by
  unfold glyphicmake_Color_v1.f at e
  refine cal_of (c := c25) (N := 15) Tryd.func25 rfl rfl (by kernel_rfl) (rs := [.cn 4 2]) (by kernel_rfl) (Nat.le_of_ble_eq_true rfl) ?_
  unfold c25
  refine w_seq ?_
  refine w_reg fun all => ?_
  refine t_a (.new rfl rfl) fun b108 fb108 sb108 => ?_
  refine t_keep [0, 2] (σ' := [(0, .pointer (some ⟨B0, 0, none⟩)), (2, .pointer (some ⟨b108, 0, none⟩))]) (by kernel_rfl) ?_
  refine t_end ?_
  show W _ _ _ _ _ _ _
  refine w_seq ?_
  refine w_reg fun all => ?_
  refine t_qz 7 [0, 2, 3, 4, 5, 6, 7, 8, 9] (σ' := [(0, .pointer (some ⟨B0, 0, none⟩)), (2, .pointer (some ⟨b108, 0, none⟩)), (3, .agg #[.int .u8 255, .int .u8 0, .int .u8 0, .int .u8 255]), (4, .agg #[.int .u8 0, .int .u8 128, .int .u8 0, .int .u8 255]), (5, .agg #[.int .u8 0, .int .u8 0, .int .u8 200, .int .u8 100]), (6, .agg #[.int .u8 10, .int .u8 20, .int .u8 30, .int .u8 1]), (7, .agg #[.int .u8 255, .int .u8 255, .int .u8 255, .int .u8 255]), (8, .agg #[.int .u8 0, .int .u8 0, .int .u8 0, .int .u8 0]), (9, .agg #[.int .u8 7, .int .u8 0, .int .u8 0, .int .u8 254])]) (by kernel_rfl) ?_
  refine t_a (dv_bsl (cs := [.int .u8 255, .int .u8 0, .int .u8 0, .int .u8 255, .int .u8 0, .int .u8 128, .int .u8 0, .int .u8 255, .int .u8 0, .int .u8 0, .int .u8 200, .int .u8 100, .int .u8 10, .int .u8 20, .int .u8 30, .int .u8 1, .int .u8 255, .int .u8 255, .int .u8 255, .int .u8 255, .int .u8 0, .int .u8 0, .int .u8 0, .int .u8 0, .int .u8 7, .int .u8 0, .int .u8 0, .int .u8 254]) rfl rfl (by kernel_rfl)) fun b109 fb109 sb109 => ?_
  obtain ⟨⟨t110, t111⟩, h112, e⟩ := bind_of e
  try dsimp only at e
  refine t_qz 1 [2, 10, 11] (σ' := [(2, .pointer (some ⟨b108, 0, none⟩)), (10, .slice (some ⟨b109, 0, none⟩) 7 7), (11, .pointer (some ⟨B0, 0, none⟩))]) (by kernel_rfl) ?_
  refine t_call (vs := [.pointer (some ⟨B0, 0, none⟩), .int .i64 7]) (H1 := ([⟨B0, [.slice a_m0_0 m0_0.length c_m0_0, .int .i64 m0_1], 2⟩] : List Own)) (F := ([⟨b109, [.int .u8 255, .int .u8 0, .int .u8 0, .int .u8 255, .int .u8 0, .int .u8 128, .int .u8 0, .int .u8 255, .int .u8 0, .int .u8 0, .int .u8 200, .int .u8 100, .int .u8 10, .int .u8 20, .int .u8 30, .int .u8 1, .int .u8 255, .int .u8 255, .int .u8 255, .int .u8 255, .int .u8 0, .int .u8 0, .int .u8 0, .int .u8 0, .int .u8 7, .int .u8 0, .int .u8 0, .int .u8 254], 28⟩, ⟨b108, [.int .u8 0, .int .u8 0, .int .u8 0, .int .u8 0], 4⟩] : List Own)) rfl rfl (by kernel_rfl) (sel_perm (is := [2]) (by kernel_rfl)) (glyphicmake_Seq_Next_v1.ok hE_ h_m0_0 h112) ?_
  rintro _ _ S_ ⟨rfl, rfl, hS_⟩
  obtain rfl := hS_.symm
  by_cases c113 : t110 = 0
  · rw [if_pos c113] at e
    have c113b : (t110 == 0) = true := beq_iff_eq.mpr c113
    refine t_v (.quiet rfl (ixs_at (j := 0) (u := .pointer (some ⟨b109, 0, none⟩)) rfl c113b (by kernel_rfl))) ?_
    refine t_v (.ldn rfl rfl rfl (.at 1 rfl rfl)) ?_
    refine t_sti 2 (cs := [.int .u8 255, .int .u8 0, .int .u8 0, .int .u8 255]) rfl rfl rfl rfl rfl rfl rfl rfl rfl ?_
    refine t_keep [2] (σ' := [(2, .pointer (some ⟨b108, 0, none⟩))]) (by kernel_rfl) ?_
    refine t_end ?_
    show W _ _ _ _ _ _ _
    refine w_ret ?_
    simp only [Option.some.injEq, Prod.mk.injEq] at e
    obtain ⟨rfl, rfl, rfl, rfl, rfl⟩ := e
    exact ⟨[.agg #[.int .u8 255, .int .u8 0, .int .u8 0, .int .u8 255]], ([⟨B0, [.slice a_m0_0 m0_0.length c_m0_0, .int .i64 t111], 2⟩] : List Own), S, ⟨⟨_, _, _, rfl, .at 2 rfl rfl, rfl⟩, trivial⟩, VS.sel [0] (by kernel_rfl), rfl, rfl, rfl⟩
  · rw [if_neg c113] at e
    have c113b : (t110 == 0) = false := beq_eq_false_iff_ne.mpr c113
    by_cases c114 : t110 = 1
    · rw [if_pos c114] at e
      have c114b : (t110 == 1) = true := beq_iff_eq.mpr c114
      refine t_v (.quiet rfl (ixs_at (j := 1) (u := .pointer (some ⟨b109, 4, none⟩)) rfl c114b (by kernel_rfl))) ?_
      refine t_v (.ldn rfl rfl rfl (.at 1 rfl rfl)) ?_
      refine t_sti 2 (cs := [.int .u8 0, .int .u8 128, .int .u8 0, .int .u8 255]) rfl rfl rfl rfl rfl rfl rfl rfl rfl ?_
      refine t_keep [2] (σ' := [(2, .pointer (some ⟨b108, 0, none⟩))]) (by kernel_rfl) ?_
      refine t_end ?_
      show W _ _ _ _ _ _ _
      refine w_ret ?_
      simp only [Option.some.injEq, Prod.mk.injEq] at e
      obtain ⟨rfl, rfl, rfl, rfl, rfl⟩ := e
      exact ⟨[.agg #[.int .u8 0, .int .u8 128, .int .u8 0, .int .u8 255]], ([⟨B0, [.slice a_m0_0 m0_0.length c_m0_0, .int .i64 t111], 2⟩] : List Own), S, ⟨⟨_, _, _, rfl, .at 2 rfl rfl, rfl⟩, trivial⟩, VS.sel [0] (by kernel_rfl), rfl, rfl, rfl⟩
    · rw [if_neg c114] at e
      have c114b : (t110 == 1) = false := beq_eq_false_iff_ne.mpr c114
      by_cases c115 : t110 = 2
      · rw [if_pos c115] at e
        have c115b : (t110 == 2) = true := beq_iff_eq.mpr c115
        refine t_v (.quiet rfl (ixs_at (j := 2) (u := .pointer (some ⟨b109, 8, none⟩)) rfl c115b (by kernel_rfl))) ?_
        refine t_v (.ldn rfl rfl rfl (.at 1 rfl rfl)) ?_
        refine t_sti 2 (cs := [.int .u8 0, .int .u8 0, .int .u8 200, .int .u8 100]) rfl rfl rfl rfl rfl rfl rfl rfl rfl ?_
        refine t_keep [2] (σ' := [(2, .pointer (some ⟨b108, 0, none⟩))]) (by kernel_rfl) ?_
        refine t_end ?_
        show W _ _ _ _ _ _ _
        refine w_ret ?_
        simp only [Option.some.injEq, Prod.mk.injEq] at e
        obtain ⟨rfl, rfl, rfl, rfl, rfl⟩ := e
        exact ⟨[.agg #[.int .u8 0, .int .u8 0, .int .u8 200, .int .u8 100]], ([⟨B0, [.slice a_m0_0 m0_0.length c_m0_0, .int .i64 t111], 2⟩] : List Own), S, ⟨⟨_, _, _, rfl, .at 2 rfl rfl, rfl⟩, trivial⟩, VS.sel [0] (by kernel_rfl), rfl, rfl, rfl⟩
      · rw [if_neg c115] at e
        have c115b : (t110 == 2) = false := beq_eq_false_iff_ne.mpr c115
        by_cases c116 : t110 = 3
        · rw [if_pos c116] at e
          have c116b : (t110 == 3) = true := beq_iff_eq.mpr c116
          refine t_v (.quiet rfl (ixs_at (j := 3) (u := .pointer (some ⟨b109, 12, none⟩)) rfl c116b (by kernel_rfl))) ?_
          refine t_v (.ldn rfl rfl rfl (.at 1 rfl rfl)) ?_
          refine t_sti 2 (cs := [.int .u8 10, .int .u8 20, .int .u8 30, .int .u8 1]) rfl rfl rfl rfl rfl rfl rfl rfl rfl ?_
          refine t_keep [2] (σ' := [(2, .pointer (some ⟨b108, 0, none⟩))]) (by kernel_rfl) ?_
          refine t_end ?_
          show W _ _ _ _ _ _ _
          refine w_ret ?_
          simp only [Option.some.injEq, Prod.mk.injEq] at e
          obtain ⟨rfl, rfl, rfl, rfl, rfl⟩ := e
          exact ⟨[.agg #[.int .u8 10, .int .u8 20, .int .u8 30, .int .u8 1]], ([⟨B0, [.slice a_m0_0 m0_0.length c_m0_0, .int .i64 t111], 2⟩] : List Own), S, ⟨⟨_, _, _, rfl, .at 2 rfl rfl, rfl⟩, trivial⟩, VS.sel [0] (by kernel_rfl), rfl, rfl, rfl⟩
        · rw [if_neg c116] at e
          have c116b : (t110 == 3) = false := beq_eq_false_iff_ne.mpr c116
          by_cases c117 : t110 = 4
          · rw [if_pos c117] at e
            have c117b : (t110 == 4) = true := beq_iff_eq.mpr c117
            refine t_v (.quiet rfl (ixs_at (j := 4) (u := .pointer (some ⟨b109, 16, none⟩)) rfl c117b (by kernel_rfl))) ?_
            refine t_v (.ldn rfl rfl rfl (.at 1 rfl rfl)) ?_
            refine t_sti 2 (cs := [.int .u8 255, .int .u8 255, .int .u8 255, .int .u8 255]) rfl rfl rfl rfl rfl rfl rfl rfl rfl ?_
            refine t_keep [2] (σ' := [(2, .pointer (some ⟨b108, 0, none⟩))]) (by kernel_rfl) ?_
            refine t_end ?_
            show W _ _ _ _ _ _ _
            refine w_ret ?_
            simp only [Option.some.injEq, Prod.mk.injEq] at e
            obtain ⟨rfl, rfl, rfl, rfl, rfl⟩ := e
            exact ⟨[.agg #[.int .u8 255, .int .u8 255, .int .u8 255, .int .u8 255]], ([⟨B0, [.slice a_m0_0 m0_0.length c_m0_0, .int .i64 t111], 2⟩] : List Own), S, ⟨⟨_, _, _, rfl, .at 2 rfl rfl, rfl⟩, trivial⟩, VS.sel [0] (by kernel_rfl), rfl, rfl, rfl⟩
          · rw [if_neg c117] at e
            have c117b : (t110 == 4) = false := beq_eq_false_iff_ne.mpr c117
            by_cases c118 : t110 = 5
            · rw [if_pos c118] at e
              have c118b : (t110 == 5) = true := beq_iff_eq.mpr c118
              refine t_v (.quiet rfl (ixs_at (j := 5) (u := .pointer (some ⟨b109, 20, none⟩)) rfl c118b (by kernel_rfl))) ?_
              refine t_v (.ldn rfl rfl rfl (.at 1 rfl rfl)) ?_
              refine t_sti 2 (cs := [.int .u8 0, .int .u8 0, .int .u8 0, .int .u8 0]) rfl rfl rfl rfl rfl rfl rfl rfl rfl ?_
              refine t_keep [2] (σ' := [(2, .pointer (some ⟨b108, 0, none⟩))]) (by kernel_rfl) ?_
              refine t_end ?_
              show W _ _ _ _ _ _ _
              refine w_ret ?_
              simp only [Option.some.injEq, Prod.mk.injEq] at e
              obtain ⟨rfl, rfl, rfl, rfl, rfl⟩ := e
              exact ⟨[.agg #[.int .u8 0, .int .u8 0, .int .u8 0, .int .u8 0]], ([⟨B0, [.slice a_m0_0 m0_0.length c_m0_0, .int .i64 t111], 2⟩] : List Own), S, ⟨⟨_, _, _, rfl, .at 2 rfl rfl, rfl⟩, trivial⟩, VS.sel [0] (by kernel_rfl), rfl, rfl, rfl⟩
            · rw [if_neg c118] at e
              have c118b : (t110 == 5) = false := beq_eq_false_iff_ne.mpr c118
              by_cases c119 : t110 = 6
              · rw [if_pos c119] at e
                have c119b : (t110 == 6) = true := beq_iff_eq.mpr c119
                refine t_v (.quiet rfl (ixs_at (j := 6) (u := .pointer (some ⟨b109, 24, none⟩)) rfl c119b (by kernel_rfl))) ?_
                refine t_v (.ldn rfl rfl rfl (.at 1 rfl rfl)) ?_
                refine t_sti 2 (cs := [.int .u8 7, .int .u8 0, .int .u8 0, .int .u8 254]) rfl rfl rfl rfl rfl rfl rfl rfl rfl ?_
                refine t_keep [2] (σ' := [(2, .pointer (some ⟨b108, 0, none⟩))]) (by kernel_rfl) ?_
                refine t_end ?_
                show W _ _ _ _ _ _ _
                refine w_ret ?_
                simp only [Option.some.injEq, Prod.mk.injEq] at e
                obtain ⟨rfl, rfl, rfl, rfl, rfl⟩ := e
                exact ⟨[.agg #[.int .u8 7, .int .u8 0, .int .u8 0, .int .u8 254]], ([⟨B0, [.slice a_m0_0 m0_0.length c_m0_0, .int .i64 t111], 2⟩] : List Own), S, ⟨⟨_, _, _, rfl, .at 2 rfl rfl, rfl⟩, trivial⟩, VS.sel [0] (by kernel_rfl), rfl, rfl, rfl⟩
              · rw [if_neg c119] at e
                have c119b : (t110 == 6) = false := beq_eq_false_iff_ne.mpr c119
                cases e

/-- glyphicref.SameColor -/
def c42 : C :=
  (.seq (.reg [⟨(some 2), .box (.tmp 0), none⟩,
     ⟨(some 3), .box (.tmp 1), none⟩,
     ⟨(some 4), .mv (.const (.bool false)), none⟩])
  (.seq (.reg [⟨(some 5), .pad 0 (.tmp 2), none⟩,
     ⟨(some 6), .ld none (.tmp 5), none⟩,
     ⟨(some 7), .pad 0 (.tmp 3), none⟩,
     ⟨(some 8), .ld none (.tmp 7), none⟩,
     ⟨(some 9), .bin .eql (.tmp 6) (.tmp 8), none⟩,
     ⟨(some 10), .mv (.tmp 9), none⟩,
     ⟨(some 11), .pad 1 (.tmp 2), (some (10, true))⟩,
     ⟨(some 12), .ld none (.tmp 11), (some (10, true))⟩,
     ⟨(some 13), .pad 1 (.tmp 3), (some (10, true))⟩,
     ⟨(some 14), .ld none (.tmp 13), (some (10, true))⟩,
     ⟨(some 15), .bin .eql (.tmp 12) (.tmp 14), (some (10, true))⟩,
     ⟨(some 16), .pk (.tmp 10) (.tmp 15) (.const (.bool false)), none⟩,
     ⟨(some 17), .mv (.tmp 16), none⟩,
     ⟨(some 18), .pad 2 (.tmp 2), (some (17, true))⟩,
     ⟨(some 19), .ld none (.tmp 18), (some (17, true))⟩,
     ⟨(some 20), .pad 2 (.tmp 3), (some (17, true))⟩,
     ⟨(some 21), .ld none (.tmp 20), (some (17, true))⟩,
     ⟨(some 22), .bin .eql (.tmp 19) (.tmp 21), (some (17, true))⟩,
     ⟨(some 23), .pk (.tmp 17) (.tmp 22) (.const (.bool false)), none⟩,
     ⟨(some 24), .mv (.tmp 23), none⟩,
     ⟨(some 25), .pad 3 (.tmp 2), (some (24, true))⟩,
     ⟨(some 26), .ld none (.tmp 25), (some (24, true))⟩,
     ⟨(some 27), .pad 3 (.tmp 3), (some (24, true))⟩,
     ⟨(some 28), .ld none (.tmp 27), (some (24, true))⟩,
     ⟨(some 29), .bin .eql (.tmp 26) (.tmp 28), (some (24, true))⟩,
     ⟨(some 30), .pk (.tmp 24) (.tmp 29) (.const (.bool false)), none⟩,
     ⟨(some 4), .mv (.tmp 30), none⟩])
  .ret))
def glyphicref_SameColor.f (a0_R : Int) (a0_G : Int) (a0_B : Int) (a0_A : Int) (b1_R : Int) (b1_G : Int) (b1_B : Int) (b1_A : Int) : Option (Bool) := if a0_R = b1_R then (if a0_G = b1_G then (if a0_B = b1_B then (some (a0_A == b1_A)) else (some false)) else (some false)) else (some false)
theorem glyphicref_SameColor.ok {S : Seal} {a0_R : Int} {a0_G : Int} {a0_B : Int} {a0_A : Int} {b1_R : Int} {b1_G : Int} {b1_B : Int} {b1_A : Int} {r0_ : Bool}{A_ : Int → Addr} (hE_ : EO gsE S A_ 94) (e : glyphicref_SameColor.f a0_R a0_G a0_B a0_A b1_R b1_G b1_B b1_A = some r0_) :
    Cal Tryd.prog 42 [.agg #[.int .u8 a0_R, .int .u8 a0_G, .int .u8 a0_B, .int .u8 a0_A], .agg #[.int .u8 b1_R, .int .u8 b1_G, .int .u8 b1_B, .int .u8 b1_A]] [] S fun v H' S' => v = .bool r0_ ∧ H' = [] ∧ S' = S := by
  unfold glyphicref_SameColor.f at e
  refine cal_of (c := c42) (N := 31) Tryd.func42 rfl rfl (by kernel_rfl) (rs := [.t 4]) (by kernel_rfl) (Nat.le_of_ble_eq_true rfl) ?_
  unfold c42
  refine w_seq ?_
  refine w_reg fun all => ?_
  refine t_a (.box rfl rfl rfl) fun b130 fb130 sb130 => ?_
  refine t_a (.box rfl rfl rfl) fun b131 fb131 sb131 => ?_
  refine t_qz 1 [2, 3] (σ' := [(2, .pointer (some ⟨b130, 0, none⟩)), (3, .pointer (some ⟨b131, 0, none⟩))]) (by kernel_rfl) ?_
  refine t_end ?_
  show W _ _ _ _ _ _ _
  refine w_seq ?_
  refine w_reg fun all => ?_
  refine t_qz 1 [2, 3, 5] (σ' := [(2, .pointer (some ⟨b130, 0, none⟩)), (3, .pointer (some ⟨b131, 0, none⟩)), (5, .pointer (some ⟨b130, 0, none⟩))]) (by kernel_rfl) ?_
  refine t_v (.ld1 rfl rfl rfl (.at 1 rfl rfl)) ?_
  refine t_qz 1 [2, 3, 6, 7] (σ' := [(2, .pointer (some ⟨b130, 0, none⟩)), (3, .pointer (some ⟨b131, 0, none⟩)), (6, .int .u8 a0_R), (7, .pointer (some ⟨b131, 0, none⟩))]) (by kernel_rfl) ?_
  refine t_v (.ld1 rfl rfl rfl (.at 0 rfl rfl)) ?_
  by_cases c132 : a0_R = b1_R
  · rw [if_pos c132] at e
    have c132b : (a0_R == b1_R) = true := beq_iff_eq.mpr c132
    refine t_v (dv_quiet rfl (congrArg (fun t => some (Value.bool t)) c132b)) ?_
    refine t_qz 2 [2, 3, 10, 11] (σ' := [(2, .pointer (some ⟨b130, 0, none⟩)), (3, .pointer (some ⟨b131, 0, none⟩)), (10, .bool true), (11, .pointer (some ⟨b130, 1, none⟩))]) (by kernel_rfl) ?_
    refine t_v (.ld1 rfl rfl rfl (.at 1 rfl rfl)) ?_
    refine t_qz 1 [2, 3, 10, 12, 13] (σ' := [(2, .pointer (some ⟨b130, 0, none⟩)), (3, .pointer (some ⟨b131, 0, none⟩)), (10, .bool true), (12, .int .u8 a0_G), (13, .pointer (some ⟨b131, 1, none⟩))]) (by kernel_rfl) ?_
    refine t_v (.ld1 rfl rfl rfl (.at 0 rfl rfl)) ?_
    by_cases c133 : a0_G = b1_G
    · rw [if_pos c133] at e
      have c133b : (a0_G == b1_G) = true := beq_iff_eq.mpr c133
      refine t_v (dv_quiet rfl (congrArg (fun t => some (Value.bool t)) c133b)) ?_
      refine t_qz 3 [2, 3, 17, 18] (σ' := [(2, .pointer (some ⟨b130, 0, none⟩)), (3, .pointer (some ⟨b131, 0, none⟩)), (17, .bool true), (18, .pointer (some ⟨b130, 2, none⟩))]) (by kernel_rfl) ?_
      refine t_v (.ld1 rfl rfl rfl (.at 1 rfl rfl)) ?_
      refine t_qz 1 [2, 3, 17, 19, 20] (σ' := [(2, .pointer (some ⟨b130, 0, none⟩)), (3, .pointer (some ⟨b131, 0, none⟩)), (17, .bool true), (19, .int .u8 a0_B), (20, .pointer (some ⟨b131, 2, none⟩))]) (by kernel_rfl) ?_
      refine t_v (.ld1 rfl rfl rfl (.at 0 rfl rfl)) ?_
      by_cases c134 : a0_B = b1_B
      · rw [if_pos c134] at e
        have c134b : (a0_B == b1_B) = true := beq_iff_eq.mpr c134
        refine t_v (dv_quiet rfl (congrArg (fun t => some (Value.bool t)) c134b)) ?_
        refine t_qz 3 [3, 24, 25] (σ' := [(3, .pointer (some ⟨b131, 0, none⟩)), (24, .bool true), (25, .pointer (some ⟨b130, 3, none⟩))]) (by kernel_rfl) ?_
        refine t_v (.ld1 rfl rfl rfl (.at 1 rfl rfl)) ?_
        refine t_qz 1 [24, 26, 27] (σ' := [(24, .bool true), (26, .int .u8 a0_A), (27, .pointer (some ⟨b131, 3, none⟩))]) (by kernel_rfl) ?_
        refine t_v (.ld1 rfl rfl rfl (.at 0 rfl rfl)) ?_
        refine t_qz 3 [4] (σ' := [(4, .bool (a0_A == b1_A))]) (by kernel_rfl) ?_
        refine t_end ?_
        show W _ _ _ _ _ _ _
        refine w_ret ?_
        obtain rfl := Option.some.inj e
        exact ⟨[.bool (a0_A == b1_A)], [], S, ⟨rfl, trivial⟩, VS.none, rfl, rfl, rfl⟩
      · rw [if_neg c134] at e
        have c134b : (a0_B == b1_B) = false := beq_eq_false_iff_ne.mpr c134
        refine t_v (dv_quiet rfl (congrArg (fun t => some (Value.bool t)) c134b)) ?_
        refine t_qz 9 [4] (σ' := [(4, .bool false)]) (by kernel_rfl) ?_
        refine t_end ?_
        show W _ _ _ _ _ _ _
        refine w_ret ?_
        obtain rfl := Option.some.inj e
        exact ⟨[.bool false], [], S, ⟨rfl, trivial⟩, VS.none, rfl, rfl, rfl⟩
    · rw [if_neg c133] at e
      have c133b : (a0_G == b1_G) = false := beq_eq_false_iff_ne.mpr c133
      refine t_v (dv_quiet rfl (congrArg (fun t => some (Value.bool t)) c133b)) ?_
      refine t_qz 16 [4] (σ' := [(4, .bool false)]) (by kernel_rfl) ?_
      refine t_end ?_
      show W _ _ _ _ _ _ _
      refine w_ret ?_
      obtain rfl := Option.some.inj e
      exact ⟨[.bool false], [], S, ⟨rfl, trivial⟩, VS.none, rfl, rfl, rfl⟩
  · rw [if_neg c132] at e
    have c132b : (a0_R == b1_R) = false := beq_eq_false_iff_ne.mpr c132
    refine t_v (dv_quiet rfl (congrArg (fun t => some (Value.bool t)) c132b)) ?_
    refine t_qz 22 [4] (σ' := [(4, .bool false)]) (by kernel_rfl) ?_
    refine t_end ?_
    show W _ _ _ _ _ _ _
    refine w_ret ?_
    obtain rfl := Option.some.inj e
    exact ⟨[.bool false], [], S, ⟨rfl, trivial⟩, VS.none, rfl, rfl, rfl⟩

/-- glyphicref12.Find -/
def c36 : C :=
  (.seq (.reg [⟨(some 3), .box (.tmp 1), none⟩,
     ⟨(some 4), .mv (.const (.int .i64 0)), none⟩])
  (.seq (.seq (.reg [⟨(some 5), .mv (.const (.int .i64 0)), none⟩])
   (.block 0 (.loop (.seq (.seq (.reg [⟨(some 6), .mv (.tmp 5), none⟩,
         ⟨(some 7), .mv (.tmp 0), none⟩,
         ⟨(some 8), .lns (.tmp 7), none⟩,
         ⟨(some 9), .bin .lss (.tmp 6) (.tmp 8), none⟩])
      (.cond (.tmp 9)
       .skip
       (.exit 0)))
     (.seq (.block 1 (.seq (.drw [⟨(some 12), .mv (.tmp 0), none⟩,
          ⟨(some 13), .mv (.tmp 5), none⟩,
          ⟨(some 14), .ixs 4 (.tmp 12) (.tmp 13), none⟩,
          ⟨(some 15), .ld (some 4) (.tmp 14), none⟩,
          ⟨(some 16), .ld (some 4) (.tmp 3), none⟩,
          ⟨(some 17), .call 42 [(.tmp 15), (.tmp 16)], none⟩] [[], [], [0, 1], [2], [], [3, 4]])
       (.cond (.tmp 17)
        (.seq (.reg [⟨(some 18), .mv (.tmp 5), none⟩,
            ⟨(some 4), .mv (.tmp 18), none⟩])
         .ret)
        .skip)))
     (.reg [⟨(some 10), .mv (.tmp 5), none⟩,
       ⟨(some 11), .bin .add (.tmp 10) (.const (.int .i64 1)), none⟩,
       ⟨(some 5), .mv (.tmp 11), none⟩]))))))
  (.seq (.reg [⟨(some 4), .mv (.const (.int .i64 (-1))), none⟩])
  .ret)))
def glyphicref12_Find_v1.l0 : Nat → List (Int × Int × Int × Int) → Int → Int → Int → Int → Int → Option ((Int) ⊕ (Unit))
  | 0, _, _, _, _, _, _ => none
  | k + 1, l0, c1_0, c1_1, c1_2, c1_3, x115 => if x115 < (l0.length : Int) then ((lgt l0 x115).bind fun (x117, x118, x119, x120) => ((glyphicref_SameColor.f x117 x118 x119 x120 c1_0 c1_1 c1_2 c1_3).bind fun t130 => (if t130 = true then (some (.inl x115)) else (glyphicref12_Find_v1.l0 k l0 c1_0 c1_1 c1_2 c1_3 (wr64 (x115 + 1)))))) else (some (.inr ()))
def glyphicref12_Find_v1.f (k : Nat) (l0 : List (Int × Int × Int × Int)) (c1_0 : Int) (c1_1 : Int) (c1_2 : Int) (c1_3 : Int) : Option (Int) := (glyphicref12_Find_v1.l0 k l0 c1_0 c1_1 c1_2 c1_3 0 : Option ((Int) ⊕ (Unit))).bind fun s_ => match s_ with | .inl q134 => some q134 | .inr _ => (some (-1))
theorem glyphicref12_Find_v1.ok {S : Seal} {k : Nat} {l0 : List (Int × Int × Int × Int)} {c1_0 : Int} {c1_1 : Int} {c1_2 : Int} {c1_3 : Int} {r0_ : Int}{A_ : Int → Addr} (hE_ : EO gsE S A_ 94) {a_l0 : Option Addr} {c_l0 : Nat} (h_l0 : SlE S E_u84 l0 a_l0) (e : glyphicref12_Find_v1.f k l0 c1_0 c1_1 c1_2 c1_3 = some r0_) :
    Cal Tryd.prog 36 [.slice a_l0 l0.length c_l0, .agg #[.int .u8 c1_0, .int .u8 c1_1, .int .u8 c1_2, .int .u8 c1_3]] [] S fun v H' S' => v = .int .i64 r0_ ∧ H' = [] ∧ S' = S := by
  unfold glyphicref12_Find_v1.f at e
  refine cal_of (c := c36) (N := 19) Tryd.func36 rfl rfl (by kernel_rfl) (rs := [.t 4]) (by kernel_rfl) (Nat.le_of_ble_eq_true rfl) ?_
  unfold c36
  refine w_seq ?_
  refine w_reg fun all => ?_
  refine t_a (.box rfl rfl rfl) fun b111 fb111 sb111 => ?_
  refine t_qz 1 [0, 3] (σ' := [(0, .slice a_l0 l0.length c_l0), (3, .pointer (some ⟨b111, 0, none⟩))]) (by kernel_rfl) ?_
  refine t_end ?_
  show W _ _ _ _ _ _ _
  obtain ⟨s114, e113, e⟩ := bind_of e
  refine w_cut [] (fun σ_ H_ S_ => ∃ u_ : Unit, s114 = .inr u_ ∧ [] = σ_ ∧ ([⟨b111, [.int .u8 c1_0, .int .u8 c1_1, .int .u8 c1_2, .int .u8 c1_3], 4⟩] : List Own) = H_ ∧ S = S_) ?_ ?_
  · show W _ _ _ _ _ _ _
    refine w_seq ?_
    refine w_reg fun all => ?_
    refine t_qz 1 [0, 3, 5] (σ' := [(0, .slice a_l0 l0.length c_l0), (3, .pointer (some ⟨b111, 0, none⟩)), (5, .int .i64 0)]) (by kernel_rfl) ?_
    refine t_end ?_
    show W _ _ _ _ _ _ _
    refine w_block ?_
    refine w_kp [0, 3, 5] (σ' := [(0, .slice a_l0 l0.length c_l0), (3, .pointer (some ⟨b111, 0, none⟩)), (5, .int .i64 0)]) (by kernel_rfl) ?_
    refine w_loop (fun n_ σ_ H_ S_ => ∃ (x115 : Int), [(0, .slice a_l0 l0.length c_l0), (3, .pointer (some ⟨b111, 0, none⟩)), (5, .int .i64 x115)] = σ_ ∧ ([⟨b111, [.int .u8 c1_0, .int .u8 c1_1, .int .u8 c1_2, .int .u8 c1_3], 4⟩] : List Own) = H_ ∧ S = S_ ∧ glyphicref12_Find_v1.l0 n_ l0 c1_0 c1_1 c1_2 c1_3 x115 = some s114) _ ⟨0, rfl, rfl, rfl, e113⟩ ?_
    rintro n133 σ_ H_ S_ ⟨x115, rfl, rfl, rfl, e113⟩
    cases n133 with
    | zero => rw [glyphicref12_Find_v1.l0.eq_1] at e113; cases e113
    | succ k_ =>
      rw [glyphicref12_Find_v1.l0.eq_2] at e113
      refine w_seq ?_
      refine w_seq ?_
      refine w_reg fun all => ?_
      by_cases c116 : x115 < (l0.length : Int)
      · rw [if_pos c116] at e113
        have c116b : (decide (x115 < (l0.length : Int))) = true := decide_eq_true c116
        refine t_qz 3 [0, 3, 5, 6, 8] (σ' := [(0, .slice a_l0 l0.length c_l0), (3, .pointer (some ⟨b111, 0, none⟩)), (5, .int .i64 x115), (6, .int .i64 x115), (8, .int .i64 (l0.length : Int))]) (by kernel_rfl) ?_
        refine t_v (dv_quiet rfl (congrArg (fun t => some (Value.bool t)) c116b)) ?_
        refine t_keep [0, 3, 5, 9] (σ' := [(0, .slice a_l0 l0.length c_l0), (3, .pointer (some ⟨b111, 0, none⟩)), (5, .int .i64 x115), (9, .bool true)]) (by kernel_rfl) ?_
        refine t_end ?_
        show W _ _ _ _ _ _ _
        refine w_cond rfl (fun _ => ?_) (fun c_ => by cases c_)
        show W _ _ _ _ _ _ _
        refine w_skip ?_
        show W _ _ _ _ _ _ _
        refine w_seq ?_
        refine w_block ?_
        refine w_seq ?_
        obtain ⟨⟨x117, x118, x119, x120⟩, hx121, e113⟩ := bind_of e113
        try dsimp only at e113
        obtain ⟨lb122, lo123, ll124, la125, lS126, lv127, lz128, lu129⟩ := sle_get (E := E_u84) h_l0 hx121
        obtain ⟨t130, h131, e113⟩ := bind_of e113
        cases t130 with
        | true =>
          rw [if_pos rfl] at e113
          refine w_drwE mixed 6 [.v (.slice a_l0 l0.length c_l0), .v (.int .i64 x115), .v (.pointer (some ⟨lb122, lo123 + (x115).toNat * 4 + 0, none⟩)), .v (.agg #[.int .u8 x117, .int .u8 x118, .int .u8 x119, .int .u8 x120]), .v (.agg #[.int .u8 c1_0, .int .u8 c1_1, .int .u8 c1_2, .int .u8 c1_3]), .v (.bool true)] (by kernel_rfl) ?_ ?_
          · refine DI.sq 2 (by kernel_rfl) rfl ?_
            refine .cons (.quiet rfl (ixs_sle rfl rfl la125 lz128 lu129)) ?_
            refine .cons (.ldn (vs := [.int .u8 x117, .int .u8 x118, .int .u8 x119, .int .u8 x120]) rfl rfl rfl (.sealed lS126 (subl_sub lv127 (by kernel_rfl)))) ?_
            refine .cons (.ldn rfl rfl rfl (.at 0 rfl rfl)) ?_
            refine .cons (.call (vs := [.agg #[.int .u8 x117, .int .u8 x118, .int .u8 x119, .int .u8 x120], .agg #[.int .u8 c1_0, .int .u8 c1_1, .int .u8 c1_2, .int .u8 c1_3]]) rfl rfl (by kernel_rfl) (glyphicref_SameColor.ok hE_ h131)) ?_
            exact .nil
          refine fk_q 6 [0, 3, 5, 17] (σ' := [(0, .slice a_l0 l0.length c_l0), (3, .pointer (some ⟨b111, 0, none⟩)), (5, .int .i64 x115), (17, .bool true)]) t_more (by kernel_rfl) ?_
          refine fk_nil fun all => ?_
          refine t_keep [0, 3, 5, 17] (σ' := [(0, .slice a_l0 l0.length c_l0), (3, .pointer (some ⟨b111, 0, none⟩)), (5, .int .i64 x115), (17, .bool true)]) (by kernel_rfl) ?_
          refine t_end ?_
          show W _ _ _ _ _ _ _
          refine w_cond rfl (fun _ => ?_) (fun c_ => by cases c_)
          show W _ _ _ _ _ _ _
          refine w_seq ?_
          refine w_reg fun all => ?_
          refine t_qz 2 [4] (σ' := [(4, .int .i64 x115)]) (by kernel_rfl) ?_
          refine t_end ?_
          show W _ _ _ _ _ _ _
          refine w_ret ?_
          obtain rfl := Option.some.inj e113
          obtain rfl := Option.some.inj e
          exact ⟨[.int .i64 x115], [], S, ⟨rfl, trivial⟩, VS.none, rfl, rfl, rfl⟩
        | false =>
          rw [if_neg (by decide)] at e113
          refine w_drwE mixed 6 [.v (.slice a_l0 l0.length c_l0), .v (.int .i64 x115), .v (.pointer (some ⟨lb122, lo123 + (x115).toNat * 4 + 0, none⟩)), .v (.agg #[.int .u8 x117, .int .u8 x118, .int .u8 x119, .int .u8 x120]), .v (.agg #[.int .u8 c1_0, .int .u8 c1_1, .int .u8 c1_2, .int .u8 c1_3]), .v (.bool false)] (by kernel_rfl) ?_ ?_
          · refine DI.sq 2 (by kernel_rfl) rfl ?_
            refine .cons (.quiet rfl (ixs_sle rfl rfl la125 lz128 lu129)) ?_
            refine .cons (.ldn (vs := [.int .u8 x117, .int .u8 x118, .int .u8 x119, .int .u8 x120]) rfl rfl rfl (.sealed lS126 (subl_sub lv127 (by kernel_rfl)))) ?_
            refine .cons (.ldn rfl rfl rfl (.at 0 rfl rfl)) ?_
            refine .cons (.call (vs := [.agg #[.int .u8 x117, .int .u8 x118, .int .u8 x119, .int .u8 x120], .agg #[.int .u8 c1_0, .int .u8 c1_1, .int .u8 c1_2, .int .u8 c1_3]]) rfl rfl (by kernel_rfl) (glyphicref_SameColor.ok hE_ h131)) ?_
            exact .nil
          refine fk_q 6 [0, 3, 5, 17] (σ' := [(0, .slice a_l0 l0.length c_l0), (3, .pointer (some ⟨b111, 0, none⟩)), (5, .int .i64 x115), (17, .bool false)]) t_more (by kernel_rfl) ?_
          refine fk_nil fun all => ?_
          refine t_keep [0, 3, 5, 17] (σ' := [(0, .slice a_l0 l0.length c_l0), (3, .pointer (some ⟨b111, 0, none⟩)), (5, .int .i64 x115), (17, .bool false)]) (by kernel_rfl) ?_
          refine t_end ?_
          show W _ _ _ _ _ _ _
          refine w_cond rfl (fun c_ => by cases c_) (fun _ => ?_)
          show W _ _ _ _ _ _ _
          refine w_skip ?_
          show W _ _ _ _ _ _ _
          refine w_reg fun all => ?_
          refine t_qz 3 [0, 3, 5] (σ' := [(0, .slice a_l0 l0.length c_l0), (3, .pointer (some ⟨b111, 0, none⟩)), (5, .int .i64 (wr64 (x115 + 1)))]) (by kernel_rfl) ?_
          refine t_end ?_
          exact ⟨k_, Nat.lt_succ_self _, [(0, .slice a_l0 l0.length c_l0), (3, .pointer (some ⟨b111, 0, none⟩)), (5, .int .i64 (wr64 (x115 + 1)))], ([⟨b111, [.int .u8 c1_0, .int .u8 c1_1, .int .u8 c1_2, .int .u8 c1_3], 4⟩] : List Own), S, keep_sub [0, 3, 5] (by kernel_rfl), VS.sel [0] (by kernel_rfl), wr64 (x115 + 1), rfl, rfl, rfl, e113⟩
      · rw [if_neg c116] at e113
        have c116b : (decide (x115 < (l0.length : Int))) = false := decide_eq_false c116
        refine t_qz 3 [0, 3, 5, 6, 8] (σ' := [(0, .slice a_l0 l0.length c_l0), (3, .pointer (some ⟨b111, 0, none⟩)), (5, .int .i64 x115), (6, .int .i64 x115), (8, .int .i64 (l0.length : Int))]) (by kernel_rfl) ?_
        refine t_v (dv_quiet rfl (congrArg (fun t => some (Value.bool t)) c116b)) ?_
        refine t_keep [0, 3, 5, 9] (σ' := [(0, .slice a_l0 l0.length c_l0), (3, .pointer (some ⟨b111, 0, none⟩)), (5, .int .i64 x115), (9, .bool false)]) (by kernel_rfl) ?_
        refine t_end ?_
        show W _ _ _ _ _ _ _
        refine w_cond rfl (fun c_ => by cases c_) (fun _ => ?_)
        show W _ _ _ _ _ _ _
        refine w_exit ?_
        obtain rfl := Option.some.inj e113
        exact ⟨([⟨b111, [.int .u8 c1_0, .int .u8 c1_1, .int .u8 c1_2, .int .u8 c1_3], 4⟩] : List Own), S, VS.sel [0] (by kernel_rfl), (), rfl, by kernel_rfl, rfl, rfl⟩
  · rintro σ_ H_ S_ ⟨u_, rfl, rfl, rfl, rfl⟩
    dsimp only at e
    refine w_seq ?_
    refine w_reg fun all => ?_
    refine t_qz 1 [4] (σ' := [(4, .int .i64 (-1))]) (by kernel_rfl) ?_
    refine t_end ?_
    show W _ _ _ _ _ _ _
    refine w_ret ?_
    obtain rfl := Option.some.inj e
    exact ⟨[.int .i64 (-1)], [], S, ⟨rfl, trivial⟩, VS.none, rfl, rfl, rfl⟩

/-- glyphicmake.add -/
def c24 : C :=
  (.seq (.reg [⟨(some 3), .box (.tmp 1), none⟩,
     ⟨(some 4), .mv (.const (.int .i64 0)), none⟩])
  (.seq (.drw [⟨(some 6), .mv (.tmp 0), none⟩,
     ⟨(some 7), .nck (.tmp 6), none⟩,
     ⟨(some 8), .pad 3 (.tmp 7), none⟩,
     ⟨(some 9), .ld none (.tmp 8), none⟩,
     ⟨(some 10), .ld (some 4) (.tmp 3), none⟩,
     ⟨(some 11), .call 36 [(.tmp 9), (.tmp 10)], none⟩,
     ⟨(some 5), .mv (.tmp 11), none⟩] [[], [0], [1], [2], [], [3, 4], [5, 5, 0, 1, 2, 3, 4, 5]])
  (.seq (.seq (.reg [⟨(some 12), .mv (.tmp 5), none⟩,
      ⟨(some 13), .bin .geq (.tmp 12) (.const (.int .i64 0)), none⟩])
   (.cond (.tmp 13)
    (.seq (.reg [⟨(some 14), .mv (.tmp 5), none⟩,
        ⟨(some 4), .mv (.tmp 14), none⟩])
     .ret)
    .skip))
  (.seq (.drw [⟨(some 15), .mv (.tmp 0), none⟩,
     ⟨(some 16), .mv (.tmp 0), none⟩,
     ⟨(some 17), .nck (.tmp 16), none⟩,
     ⟨(some 18), .pad 3 (.tmp 17), none⟩,
     ⟨(some 19), .ld none (.tmp 18), none⟩,
     ⟨(some 20), .ld (some 4) (.tmp 3), none⟩,
     ⟨(some 21), .bsl [(.int .u8 0), (.int .u8 0), (.int .u8 0), (.int .u8 0)] 1 [(0, 4, (.tmp 20))], none⟩,
     ⟨(some 22), .app 64 4 4 [(.int .u8 0), (.int .u8 0), (.int .u8 0), (.int .u8 0)] (.tmp 19) (.tmp 21), none⟩,
     ⟨(some 23), .nck (.tmp 15), none⟩,
     ⟨(some 24), .pad 3 (.tmp 23), none⟩,
     ⟨none, .st 1 (.tmp 24) (.tmp 22), none⟩] [[], [], [1], [2], [3], [], [5], [4, 6], [0, 0, 1, 2, 3, 4, 5, 6, 7], [8, 0, 1, 2, 3, 4, 5, 6, 7], [9, 7, 7, 0, 1, 2, 3, 4, 5, 6, 7]])
  (.seq (.reg [⟨(some 25), .mv (.tmp 0), none⟩,
     ⟨(some 26), .nck (.tmp 25), none⟩,
     ⟨(some 27), .pad 3 (.tmp 26), none⟩,
     ⟨(some 28), .ld none (.tmp 27), none⟩,
     ⟨(some 29), .lns (.tmp 28), none⟩,
     ⟨(some 30), .bin .sub (.tmp 29) (.const (.int .i64 1)), none⟩,
     ⟨(some 4), .mv (.tmp 30), none⟩])
  .ret)))))
def glyphicmake_add_v1.f (k : Nat) (c1_0 : Int) (c1_1 : Int) (c1_2 : Int) (c1_3 : Int) (m0_0 : Int) (m0_1 : Int) (m0_2 : Int) (m1_L : List (Int × Int × Int × Int)) : Option (Int × List (Int × Int × Int × Int)) := (glyphicref12_Find_v1.f k m1_L c1_0 c1_1 c1_2 c1_3).bind fun t119 => (if t119 ≥ 0 then (some (t119, m1_L)) else ((lapp m1_L ([(c1_0, c1_1, c1_2, c1_3)] : List (Int × Int × Int × Int))).bind fun y123 => (some (wr64 ((y123.length : Int) - 1), y123))))
theorem glyphicmake_add_v1.ok {S : Seal} {B0 : Nat} {B1 : Option Nat} {nB1 : Nat} {k : Nat} {c1_0 : Int} {c1_1 : Int} {c1_2 : Int} {c1_3 : Int} {m0_0 : Int} {m0_1 : Int} {m0_2 : Int} {m1_L : List (Int × Int × Int × Int)} {r0_ : Int} {r1_ : List (Int × Int × Int × Int)}{A_ : Int → Addr} (hE_ : EO gsE S A_ 94) {a_m0_4 : Option Addr} {n_m0_4 c_m0_4 : Nat} (e : glyphicmake_add_v1.f k c1_0 c1_1 c1_2 c1_3 m0_0 m0_1 m0_2 m1_L = some (r0_, r1_)) :
    Cal Tryd.prog 24 [.pointer (some ⟨B0, 0, none⟩), .agg #[.int .u8 c1_0, .int .u8 c1_1, .int .u8 c1_2, .int .u8 c1_3]] ([⟨B0, [.int .i64 m0_0, .int .i64 m0_1, .int .i64 m0_2, .slice (ad B1) m1_L.length (nB1 / 4), .slice a_m0_4 n_m0_4 c_m0_4], 5⟩, ⟨B1, encL E_u84 m1_L, nB1⟩] : List Own) S fun v H' S' => ∃ (N0_ : Option Nat) (nN0_ : Nat) , v = .int .i64 r0_ ∧ H' = ([⟨N0_, encL E_u84 r1_, nN0_⟩, ⟨B0, [.int .i64 m0_0, .int .i64 m0_1, .int .i64 m0_2, .slice (ad N0_) r1_.length (nN0_ / 4), .slice a_m0_4 n_m0_4 c_m0_4], 5⟩] : List Own) ∧ S' = S := by
  unfold glyphicmake_add_v1.f at e
  refine cal_of (c := c24) (N := 31) Tryd.func24 rfl rfl (by kernel_rfl) (rs := [.t 4]) (by kernel_rfl) (Nat.le_of_ble_eq_true rfl) ?_
  unfold c24
  refine w_seq ?_
  refine w_reg fun all => ?_
  refine t_a (.box rfl rfl rfl) fun b118 fb118 sb118 => ?_
  refine t_qz 1 [0, 3] (σ' := [(0, .pointer (some ⟨B0, 0, none⟩)), (3, .pointer (some ⟨b118, 0, none⟩))]) (by kernel_rfl) ?_
  refine t_end ?_
  show W _ _ _ _ _ _ _
  refine w_seq ?_
  obtain ⟨t119, h120, e⟩ := bind_of e
  refine w_drwE mixed 7 [.v (.pointer (some ⟨B0, 0, none⟩)), .v (.pointer (some ⟨B0, 0, none⟩)), .v (.pointer (some ⟨B0, 3, none⟩)), .v (.slice (ad B1) m1_L.length (nB1 / 4)), .v (.agg #[.int .u8 c1_0, .int .u8 c1_1, .int .u8 c1_2, .int .u8 c1_3]), .v (.int .i64 t119), .v (.int .i64 t119)] (by kernel_rfl) ?_ ?_
  · refine DI.sq 3 (by kernel_rfl) rfl ?_
    refine .cons (.ld1 rfl rfl rfl (.at 1 rfl rfl)) ?_
    refine .cons (.ldn rfl rfl rfl (.at 0 rfl rfl)) ?_
    refine .cons (.callr (vs := [.slice (ad B1) m1_L.length (nB1 / 4), .agg #[.int .u8 c1_0, .int .u8 c1_1, .int .u8 c1_2, .int .u8 c1_3]]) (A := (([⟨B1, encL E_u84 m1_L, nB1⟩] : List Own) ++ [])) (F0 := ([⟨b118, [.int .u8 c1_0, .int .u8 c1_1, .int .u8 c1_2, .int .u8 c1_3], 4⟩, ⟨B0, [.int .i64 m0_0, .int .i64 m0_1, .int .i64 m0_2, .slice (ad B1) m1_L.length (nB1 / 4), .slice a_m0_4 n_m0_4 c_m0_4], 5⟩] : List Own)) rfl rfl (by kernel_rfl) (sel_perm (is := [2]) (by kernel_rfl)) (cal_lendFr ([⟨B1, encL E_u84 m1_L, nB1⟩] : List Own) fun S1_ le1_ hp1_ hs1_ hn1_ ex1_ => glyphicref12_Find_v1.ok (EO.mono hE_ le1_ hp1_) (SlE.ofAd (E := E_u84) (L := m1_L) (hn1_ _ (mem_at 0 rfl)) (by decide)) h120)) ?_
    refine DI.sq 1 (by kernel_rfl) rfl ?_
    exact .nil
  refine fk_q 7 [0, 3, 5] (σ' := [(0, .pointer (some ⟨B0, 0, none⟩)), (3, .pointer (some ⟨b118, 0, none⟩)), (5, .int .i64 t119)]) t_more (by kernel_rfl) ?_
  refine fk_nil fun all => ?_
  refine t_keep [0, 3, 5] (σ' := [(0, .pointer (some ⟨B0, 0, none⟩)), (3, .pointer (some ⟨b118, 0, none⟩)), (5, .int .i64 t119)]) (by kernel_rfl) ?_
  refine t_end ?_
  show W _ _ _ _ _ _ _
  refine w_seq ?_
  refine w_seq ?_
  refine w_reg fun all => ?_
  by_cases c121 : t119 ≥ 0
  · rw [if_pos c121] at e
    have c121b : (decide (t119 ≥ 0)) = true := decide_eq_true c121
    refine t_qz 1 [0, 3, 5, 12] (σ' := [(0, .pointer (some ⟨B0, 0, none⟩)), (3, .pointer (some ⟨b118, 0, none⟩)), (5, .int .i64 t119), (12, .int .i64 t119)]) (by kernel_rfl) ?_
    refine t_v (dv_quiet rfl (congrArg (fun t => some (Value.bool t)) c121b)) ?_
    refine t_keep [0, 3, 5, 13] (σ' := [(0, .pointer (some ⟨B0, 0, none⟩)), (3, .pointer (some ⟨b118, 0, none⟩)), (5, .int .i64 t119), (13, .bool true)]) (by kernel_rfl) ?_
    refine t_end ?_
    show W _ _ _ _ _ _ _
    refine w_cond rfl (fun _ => ?_) (fun c_ => by cases c_)
    show W _ _ _ _ _ _ _
    refine w_seq ?_
    refine w_reg fun all => ?_
    refine t_qz 2 [4] (σ' := [(4, .int .i64 t119)]) (by kernel_rfl) ?_
    refine t_end ?_
    show W _ _ _ _ _ _ _
    refine w_ret ?_
    simp only [Option.some.injEq, Prod.mk.injEq] at e
    obtain ⟨rfl, rfl⟩ := e
    exact ⟨[.int .i64 t119], ([⟨B1, encL E_u84 m1_L, nB1⟩, ⟨B0, [.int .i64 m0_0, .int .i64 m0_1, .int .i64 m0_2, .slice (ad B1) m1_L.length (nB1 / 4), .slice a_m0_4 n_m0_4 c_m0_4], 5⟩] : List Own), S, ⟨rfl, trivial⟩, VS.sel [2, 1] (by kernel_rfl), B1, nB1, rfl, rfl, rfl⟩
  · rw [if_neg c121] at e
    have c121b : (decide (t119 ≥ 0)) = false := decide_eq_false c121
    refine t_qz 1 [0, 3, 5, 12] (σ' := [(0, .pointer (some ⟨B0, 0, none⟩)), (3, .pointer (some ⟨b118, 0, none⟩)), (5, .int .i64 t119), (12, .int .i64 t119)]) (by kernel_rfl) ?_
    refine t_v (dv_quiet rfl (congrArg (fun t => some (Value.bool t)) c121b)) ?_
    refine t_keep [0, 3, 5, 13] (σ' := [(0, .pointer (some ⟨B0, 0, none⟩)), (3, .pointer (some ⟨b118, 0, none⟩)), (5, .int .i64 t119), (13, .bool false)]) (by kernel_rfl) ?_
    refine t_end ?_
    show W _ _ _ _ _ _ _
    refine w_cond rfl (fun c_ => by cases c_) (fun _ => ?_)
    show W _ _ _ _ _ _ _
    refine w_skip ?_
    show W _ _ _ _ _ _ _
    refine w_seq ?_
    obtain ⟨y123, hl124, e⟩ := bind_of e
    refine w_kp [0, 3] (σ' := [(0, .pointer (some ⟨B0, 0, none⟩)), (3, .pointer (some ⟨b118, 0, none⟩))]) (by kernel_rfl) ?_
    refine w_gameQ mixed (by kernel_rfl) fun all G hend hstep hqf => ?_
    have hg_7ff : ∀ (g125 : Option Nat) (ng125 : Nat) (g122 : Nat), G [true, true, true, true, true, true, true, true, true, true, true] [(0, .pointer (some ⟨B0, 0, none⟩))] ([⟨g125, encL E_u84 y123, ng125⟩, ⟨g122, [.int .u8 c1_0, .int .u8 c1_1, .int .u8 c1_2, .int .u8 c1_3], 4⟩, ⟨b118, [.int .u8 c1_0, .int .u8 c1_1, .int .u8 c1_2, .int .u8 c1_3], 4⟩, ⟨B0, [.int .i64 m0_0, .int .i64 m0_1, .int .i64 m0_2, .slice (ad g125) y123.length (ng125 / 4), .slice a_m0_4 n_m0_4 c_m0_4], 5⟩] : List Own) := by
      intro g125 ng125 g122
      refine hend _ _ _ (by kernel_rfl) ?_
      show W _ _ _ _ _ _ _
      refine w_seq ?_
      refine w_reg fun all => ?_
      refine t_qz 3 [27] (σ' := [(27, .pointer (some ⟨B0, 3, none⟩))]) (by kernel_rfl) ?_
      refine t_v (.ld1 rfl rfl rfl (.at 3 rfl rfl)) ?_
      refine t_qz 3 [4] (σ' := [(4, .int .i64 (wr64 ((y123.length : Int) - 1)))]) (by kernel_rfl) ?_
      refine t_end ?_
      show W _ _ _ _ _ _ _
      refine w_ret ?_
      simp only [Option.some.injEq, Prod.mk.injEq] at e
      obtain ⟨rfl, rfl⟩ := e
      exact ⟨[.int .i64 (wr64 ((y123.length : Int) - 1))], ([⟨g125, encL E_u84 y123, ng125⟩, ⟨B0, [.int .i64 m0_0, .int .i64 m0_1, .int .i64 m0_2, .slice (ad g125) y123.length (ng125 / 4), .slice a_m0_4 n_m0_4 c_m0_4], 5⟩] : List Own), S, ⟨rfl, trivial⟩, VS.sel [0, 2] (by kernel_rfl), g125, ng125, rfl, rfl, rfl⟩
    have hg_3ff : ∀ (g125 : Option Nat) (ng125 : Nat) (g122 : Nat), G [true, true, true, true, true, true, true, true, true, true, false] [(0, .pointer (some ⟨B0, 0, none⟩)), (22, .slice (ad g125) y123.length (ng125 / 4)), (24, .pointer (some ⟨B0, 3, none⟩))] ([⟨g125, encL E_u84 y123, ng125⟩, ⟨g122, [.int .u8 c1_0, .int .u8 c1_1, .int .u8 c1_2, .int .u8 c1_3], 4⟩, ⟨b118, [.int .u8 c1_0, .int .u8 c1_1, .int .u8 c1_2, .int .u8 c1_3], 4⟩, ⟨B0, [.int .i64 m0_0, .int .i64 m0_1, .int .i64 m0_2, .slice (ad B1) m1_L.length (nB1 / 4), .slice a_m0_4 n_m0_4 c_m0_4], 5⟩] : List Own) := by
      intro g125 ng125 g122
      refine hstep [10] _ _ _ (by kernel_rfl) (List.cons_ne_nil _ _) ⟨?_, trivial⟩
      · show T _ _ _ _ _ _ _ _
        refine t_sti 3 (cs := [.int .i64 m0_0, .int .i64 m0_1, .int .i64 m0_2, .slice (ad g125) y123.length (ng125 / 4), .slice a_m0_4 n_m0_4 c_m0_4]) rfl rfl rfl rfl rfl rfl rfl rfl rfl ?_
        exact t_fin [0] (hg_7ff g125 ng125 g122) (by kernel_rfl)
    have hg_1ff : ∀ (g125 : Option Nat) (ng125 : Nat) (g122 : Nat), G [true, true, true, true, true, true, true, true, true, false, false] [(0, .pointer (some ⟨B0, 0, none⟩)), (22, .slice (ad g125) y123.length (ng125 / 4)), (23, .pointer (some ⟨B0, 0, none⟩))] ([⟨g125, encL E_u84 y123, ng125⟩, ⟨g122, [.int .u8 c1_0, .int .u8 c1_1, .int .u8 c1_2, .int .u8 c1_3], 4⟩, ⟨b118, [.int .u8 c1_0, .int .u8 c1_1, .int .u8 c1_2, .int .u8 c1_3], 4⟩, ⟨B0, [.int .i64 m0_0, .int .i64 m0_1, .int .i64 m0_2, .slice (ad B1) m1_L.length (nB1 / 4), .slice a_m0_4 n_m0_4 c_m0_4], 5⟩] : List Own) := by
      intro g125 ng125 g122
      exact hqf 9 [0, 22, 24] _ _ _ _ (by kernel_rfl) (by kernel_rfl) (hg_3ff g125 ng125 g122)
    have hg_ff : ∀ (g125 : Option Nat) (ng125 : Nat) (g122 : Nat), G [true, true, true, true, true, true, true, true, false, false, false] [(0, .pointer (some ⟨B0, 0, none⟩)), (15, .pointer (some ⟨B0, 0, none⟩)), (22, .slice (ad g125) y123.length (ng125 / 4))] ([⟨g125, encL E_u84 y123, ng125⟩, ⟨g122, [.int .u8 c1_0, .int .u8 c1_1, .int .u8 c1_2, .int .u8 c1_3], 4⟩, ⟨b118, [.int .u8 c1_0, .int .u8 c1_1, .int .u8 c1_2, .int .u8 c1_3], 4⟩, ⟨B0, [.int .i64 m0_0, .int .i64 m0_1, .int .i64 m0_2, .slice (ad B1) m1_L.length (nB1 / 4), .slice a_m0_4 n_m0_4 c_m0_4], 5⟩] : List Own) := by
      intro g125 ng125 g122
      exact hqf 8 [0, 22, 23] _ _ _ _ (by kernel_rfl) (by kernel_rfl) (hg_1ff g125 ng125 g122)
    have hg_7f : ∀ (g122 : Nat), G [true, true, true, true, true, true, true, false, false, false, false] [(0, .pointer (some ⟨B0, 0, none⟩)), (15, .pointer (some ⟨B0, 0, none⟩)), (19, .slice (ad B1) m1_L.length (nB1 / 4)), (21, .slice (some ⟨g122, 0, none⟩) 1 1)] ([⟨g122, [.int .u8 c1_0, .int .u8 c1_1, .int .u8 c1_2, .int .u8 c1_3], 4⟩, ⟨b118, [.int .u8 c1_0, .int .u8 c1_1, .int .u8 c1_2, .int .u8 c1_3], 4⟩, ⟨B0, [.int .i64 m0_0, .int .i64 m0_1, .int .i64 m0_2, .slice (ad B1) m1_L.length (nB1 / 4), .slice a_m0_4 n_m0_4 c_m0_4], 5⟩, ⟨B1, encL E_u84 m1_L, nB1⟩] : List Own) := by
      intro g122
      refine hstep [7] _ _ _ (by kernel_rfl) (List.cons_ne_nil _ _) ⟨?_, trivial⟩
      · show T _ _ _ _ _ _ _ _
        refine t_appX (E := E_u84) (L := m1_L) (X := ([(c1_0, c1_1, c1_2, c1_3)] : List (Int × Int × Int × Int))) (F := ([⟨g122, [.int .u8 c1_0, .int .u8 c1_1, .int .u8 c1_2, .int .u8 c1_3], 4⟩, ⟨b118, [.int .u8 c1_0, .int .u8 c1_1, .int .u8 c1_2, .int .u8 c1_3], 4⟩, ⟨B0, [.int .i64 m0_0, .int .i64 m0_1, .int .i64 m0_2, .slice (ad B1) m1_L.length (nB1 / 4), .slice a_m0_4 n_m0_4 c_m0_4], 5⟩] : List Own)) rfl rfl rfl rfl (sel_perm (is := [3]) (by kernel_rfl)) rfl (Or.inr ⟨_, _, rfl, .at 0 rfl (by kernel_rfl)⟩) rfl (by decide) (by decide) rfl hl124 fun g125 ng125 => ?_
        exact t_fin [0, 15, 22] (hg_ff g125 ng125 g122) (by kernel_rfl)
    have hg_6f : ∀ (g122 : Nat), G [true, true, true, true, false, true, true, false, false, false, false] [(0, .pointer (some ⟨B0, 0, none⟩)), (15, .pointer (some ⟨B0, 0, none⟩)), (18, .pointer (some ⟨B0, 3, none⟩)), (21, .slice (some ⟨g122, 0, none⟩) 1 1)] ([⟨g122, [.int .u8 c1_0, .int .u8 c1_1, .int .u8 c1_2, .int .u8 c1_3], 4⟩, ⟨b118, [.int .u8 c1_0, .int .u8 c1_1, .int .u8 c1_2, .int .u8 c1_3], 4⟩, ⟨B0, [.int .i64 m0_0, .int .i64 m0_1, .int .i64 m0_2, .slice (ad B1) m1_L.length (nB1 / 4), .slice a_m0_4 n_m0_4 c_m0_4], 5⟩, ⟨B1, encL E_u84 m1_L, nB1⟩] : List Own) := by
      intro g122
      refine hstep [4] _ _ _ (by kernel_rfl) (List.cons_ne_nil _ _) ⟨?_, trivial⟩
      · show T _ _ _ _ _ _ _ _
        refine t_v (.ld1 rfl rfl rfl (.at 2 rfl rfl)) ?_
        exact t_fin [0, 15, 19, 21] (hg_7f g122) (by kernel_rfl)
    have hg_3f : G [true, true, true, true, true, true, false, false, false, false, false] [(0, .pointer (some ⟨B0, 0, none⟩)), (15, .pointer (some ⟨B0, 0, none⟩)), (19, .slice (ad B1) m1_L.length (nB1 / 4)), (20, .agg #[.int .u8 c1_0, .int .u8 c1_1, .int .u8 c1_2, .int .u8 c1_3])] ([⟨b118, [.int .u8 c1_0, .int .u8 c1_1, .int .u8 c1_2, .int .u8 c1_3], 4⟩, ⟨B0, [.int .i64 m0_0, .int .i64 m0_1, .int .i64 m0_2, .slice (ad B1) m1_L.length (nB1 / 4), .slice a_m0_4 n_m0_4 c_m0_4], 5⟩, ⟨B1, encL E_u84 m1_L, nB1⟩] : List Own) := by
      refine hstep [6] _ _ _ (by kernel_rfl) (List.cons_ne_nil _ _) ⟨?_, trivial⟩
      · show T _ _ _ _ _ _ _ _
        refine t_a (dv_bsl (cs := [.int .u8 c1_0, .int .u8 c1_1, .int .u8 c1_2, .int .u8 c1_3]) rfl rfl (by kernel_rfl)) fun g122 fg122 sg122 => ?_
        exact t_fin [0, 15, 19, 21] (hg_7f g122) (by kernel_rfl)
    have hg_2f : G [true, true, true, true, false, true, false, false, false, false, false] [(0, .pointer (some ⟨B0, 0, none⟩)), (15, .pointer (some ⟨B0, 0, none⟩)), (18, .pointer (some ⟨B0, 3, none⟩)), (20, .agg #[.int .u8 c1_0, .int .u8 c1_1, .int .u8 c1_2, .int .u8 c1_3])] ([⟨b118, [.int .u8 c1_0, .int .u8 c1_1, .int .u8 c1_2, .int .u8 c1_3], 4⟩, ⟨B0, [.int .i64 m0_0, .int .i64 m0_1, .int .i64 m0_2, .slice (ad B1) m1_L.length (nB1 / 4), .slice a_m0_4 n_m0_4 c_m0_4], 5⟩, ⟨B1, encL E_u84 m1_L, nB1⟩] : List Own) := by
      refine hstep [4, 6] _ _ _ (by kernel_rfl) (List.cons_ne_nil _ _) ⟨?_, ?_, trivial⟩
      · show T _ _ _ _ _ _ _ _
        refine t_v (.ld1 rfl rfl rfl (.at 1 rfl rfl)) ?_
        exact t_fin [0, 15, 19, 20] hg_3f (by kernel_rfl)
      · show T _ _ _ _ _ _ _ _
        refine t_a (dv_bsl (cs := [.int .u8 c1_0, .int .u8 c1_1, .int .u8 c1_2, .int .u8 c1_3]) rfl rfl (by kernel_rfl)) fun g122 fg122 sg122 => ?_
        exact t_fin [0, 15, 18, 21] (hg_6f g122) (by kernel_rfl)
    have hg_1f : G [true, true, true, true, true, false, false, false, false, false, false] [(0, .pointer (some ⟨B0, 0, none⟩)), (3, .pointer (some ⟨b118, 0, none⟩)), (15, .pointer (some ⟨B0, 0, none⟩)), (19, .slice (ad B1) m1_L.length (nB1 / 4))] ([⟨b118, [.int .u8 c1_0, .int .u8 c1_1, .int .u8 c1_2, .int .u8 c1_3], 4⟩, ⟨B0, [.int .i64 m0_0, .int .i64 m0_1, .int .i64 m0_2, .slice (ad B1) m1_L.length (nB1 / 4), .slice a_m0_4 n_m0_4 c_m0_4], 5⟩, ⟨B1, encL E_u84 m1_L, nB1⟩] : List Own) := by
      refine hstep [5] _ _ _ (by kernel_rfl) (List.cons_ne_nil _ _) ⟨?_, trivial⟩
      · show T _ _ _ _ _ _ _ _
        refine t_v (.ldn rfl rfl rfl (.at 0 rfl rfl)) ?_
        exact t_fin [0, 15, 19, 20] hg_3f (by kernel_rfl)
    have hg_f : G [true, true, true, true, false, false, false, false, false, false, false] [(0, .pointer (some ⟨B0, 0, none⟩)), (3, .pointer (some ⟨b118, 0, none⟩)), (15, .pointer (some ⟨B0, 0, none⟩)), (18, .pointer (some ⟨B0, 3, none⟩))] ([⟨b118, [.int .u8 c1_0, .int .u8 c1_1, .int .u8 c1_2, .int .u8 c1_3], 4⟩, ⟨B0, [.int .i64 m0_0, .int .i64 m0_1, .int .i64 m0_2, .slice (ad B1) m1_L.length (nB1 / 4), .slice a_m0_4 n_m0_4 c_m0_4], 5⟩, ⟨B1, encL E_u84 m1_L, nB1⟩] : List Own) := by
      refine hstep [4, 5] _ _ _ (by kernel_rfl) (List.cons_ne_nil _ _) ⟨?_, ?_, trivial⟩
      · show T _ _ _ _ _ _ _ _
        refine t_v (.ld1 rfl rfl rfl (.at 1 rfl rfl)) ?_
        exact t_fin [0, 3, 15, 19] hg_1f (by kernel_rfl)
      · show T _ _ _ _ _ _ _ _
        refine t_v (.ldn rfl rfl rfl (.at 0 rfl rfl)) ?_
        exact t_fin [0, 15, 18, 20] hg_2f (by kernel_rfl)
    have hg_7 : G [true, true, true, false, false, false, false, false, false, false, false] [(0, .pointer (some ⟨B0, 0, none⟩)), (3, .pointer (some ⟨b118, 0, none⟩)), (15, .pointer (some ⟨B0, 0, none⟩)), (17, .pointer (some ⟨B0, 0, none⟩))] ([⟨b118, [.int .u8 c1_0, .int .u8 c1_1, .int .u8 c1_2, .int .u8 c1_3], 4⟩, ⟨B0, [.int .i64 m0_0, .int .i64 m0_1, .int .i64 m0_2, .slice (ad B1) m1_L.length (nB1 / 4), .slice a_m0_4 n_m0_4 c_m0_4], 5⟩, ⟨B1, encL E_u84 m1_L, nB1⟩] : List Own) := by
      exact hqf 3 [0, 3, 15, 18] _ _ _ _ (by kernel_rfl) (by kernel_rfl) hg_f
    have hg_3 : G [true, true, false, false, false, false, false, false, false, false, false] [(0, .pointer (some ⟨B0, 0, none⟩)), (3, .pointer (some ⟨b118, 0, none⟩)), (15, .pointer (some ⟨B0, 0, none⟩)), (16, .pointer (some ⟨B0, 0, none⟩))] ([⟨b118, [.int .u8 c1_0, .int .u8 c1_1, .int .u8 c1_2, .int .u8 c1_3], 4⟩, ⟨B0, [.int .i64 m0_0, .int .i64 m0_1, .int .i64 m0_2, .slice (ad B1) m1_L.length (nB1 / 4), .slice a_m0_4 n_m0_4 c_m0_4], 5⟩, ⟨B1, encL E_u84 m1_L, nB1⟩] : List Own) := by
      exact hqf 2 [0, 3, 15, 17] _ _ _ _ (by kernel_rfl) (by kernel_rfl) hg_7
    have hg_1 : G [true, false, false, false, false, false, false, false, false, false, false] [(0, .pointer (some ⟨B0, 0, none⟩)), (3, .pointer (some ⟨b118, 0, none⟩)), (15, .pointer (some ⟨B0, 0, none⟩))] ([⟨b118, [.int .u8 c1_0, .int .u8 c1_1, .int .u8 c1_2, .int .u8 c1_3], 4⟩, ⟨B0, [.int .i64 m0_0, .int .i64 m0_1, .int .i64 m0_2, .slice (ad B1) m1_L.length (nB1 / 4), .slice a_m0_4 n_m0_4 c_m0_4], 5⟩, ⟨B1, encL E_u84 m1_L, nB1⟩] : List Own) := by
      exact hqf 1 [0, 3, 15, 16] _ _ _ _ (by kernel_rfl) (by kernel_rfl) hg_3
    have hg_0 : G [false, false, false, false, false, false, false, false, false, false, false] [(0, .pointer (some ⟨B0, 0, none⟩)), (3, .pointer (some ⟨b118, 0, none⟩))] ([⟨b118, [.int .u8 c1_0, .int .u8 c1_1, .int .u8 c1_2, .int .u8 c1_3], 4⟩, ⟨B0, [.int .i64 m0_0, .int .i64 m0_1, .int .i64 m0_2, .slice (ad B1) m1_L.length (nB1 / 4), .slice a_m0_4 n_m0_4 c_m0_4], 5⟩, ⟨B1, encL E_u84 m1_L, nB1⟩] : List Own) := by
      exact hqf 0 [0, 3, 15] _ _ _ _ (by kernel_rfl) (by kernel_rfl) hg_1
    exact hg_0

/-- glyphicmake.Point -/
def c26 : C :=
  (.seq (.reg [⟨(some 4), .new [(.int .i64 0), (.int .i64 0)], none⟩])
  (.seq (.reg [⟨(some 6), .mv (.tmp 0), none⟩,
     ⟨(some 7), .mv (.tmp 1), none⟩,
     ⟨(some 8), .bin .mul (.const (.int .i64 2)) (.tmp 7), none⟩,
     ⟨(some 9), .bin .add (.tmp 8) (.const (.int .i64 1)), none⟩,
     ⟨(some 10), .call 22 [(.tmp 6), (.tmp 9)], none⟩,
     ⟨(some 11), .mv (.tmp 1), none⟩,
     ⟨(some 12), .bin .sub (.tmp 10) (.tmp 11), none⟩,
     ⟨(some 5), .mv (.tmp 12), none⟩])
  (.seq (.reg [⟨(some 13), .mv (.tmp 5), none⟩,
     ⟨(some 14), .mv (.tmp 0), none⟩,
     ⟨(some 15), .mv (.tmp 1), none⟩,
     ⟨(some 16), .bin .mul (.const (.int .i64 2)) (.tmp 15), none⟩,
     ⟨(some 17), .bin .add (.tmp 16) (.const (.int .i64 1)), none⟩,
     ⟨(some 18), .call 22 [(.tmp 14), (.tmp 17)], none⟩,
     ⟨(some 19), .mv (.tmp 1), none⟩,
     ⟨(some 20), .bin .sub (.tmp 18) (.tmp 19), none⟩,
     ⟨(some 21), .bld [(.int .i64 0), (.int .i64 0)] [(0, 1, (.tmp 13)), (1, 1, (.tmp 20))], none⟩,
     ⟨none, .st 2 (.tmp 4) (.tmp 21), none⟩])
  .ret)))
def glyphicmake_Point_v1.f (far1 : Int) (m0_0 : List (Int)) (m0_1 : Int) : Option (Int × Int × Int) := (glyphicmake_Seq_Next_v1.f (wr64 ((wr64 (2 * far1)) + 1)) m0_0 m0_1).bind fun (t149, t150) => ((glyphicmake_Seq_Next_v1.f (wr64 ((wr64 (2 * far1)) + 1)) m0_0 t150).bind fun (t152, t153) => (some (wr64 (t149 - far1), wr64 (t152 - far1), t153)))
theorem glyphicmake_Point_v1.ok {S : Seal} {B0 : Nat} {far1 : Int} {m0_0 : List (Int)} {m0_1 : Int} {r0_ : Int} {r1_ : Int} {r2_ : Int}{A_ : Int → Addr} (hE_ : EO gsE S A_ 94) {a_m0_0 : Option Addr} {c_m0_0 : Nat} (h_m0_0 : SlE S E_i64 m0_0 a_m0_0) (e : glyphicmake_Point_v1.f far1 m0_0 m0_1 = some (r0_, r1_, r2_)) :
    Cal Tryd.prog 26 [.pointer (some ⟨B0, 0, none⟩), .int .i64 far1] ([⟨B0, [.slice a_m0_0 m0_0.length c_m0_0, .int .i64 m0_1], 2⟩] : List Own) S fun v H' S' => v = .agg #[.int .i64 r0_, .int .i64 r1_] ∧ H' = ([⟨B0, [.slice a_m0_0 m0_0.length c_m0_0, .int .i64 r2_], 2⟩] : List Own) ∧ S' = S := by
  unfold glyphicmake_Point_v1.f at e
  refine cal_of (c := c26) (N := 22) Tryd.func26 rfl rfl (by kernel_rfl) (rs := [.cn 2 4]) (by kernel_rfl) (Nat.le_of_ble_eq_true rfl) ?_
  unfold c26
  refine w_seq ?_
  refine w_reg fun all => ?_
  refine t_a (.new rfl rfl) fun b148 fb148 sb148 => ?_
  refine t_keep [0, 1, 4] (σ' := [(0, .pointer (some ⟨B0, 0, none⟩)), (1, .int .i64 far1), (4, .pointer (some ⟨b148, 0, none⟩))]) (by kernel_rfl) ?_
  refine t_end ?_
  show W _ _ _ _ _ _ _
  refine w_seq ?_
  refine w_reg fun all => ?_
  obtain ⟨⟨t149, t150⟩, h151, e⟩ := bind_of e
  try dsimp only at e
  refine t_qz 4 [0, 1, 4, 6, 9] (σ' := [(0, .pointer (some ⟨B0, 0, none⟩)), (1, .int .i64 far1), (4, .pointer (some ⟨b148, 0, none⟩)), (6, .pointer (some ⟨B0, 0, none⟩)), (9, .int .i64 (wr64 ((wr64 (2 * far1)) + 1)))]) (by kernel_rfl) ?_
  refine t_call (vs := [.pointer (some ⟨B0, 0, none⟩), .int .i64 (wr64 ((wr64 (2 * far1)) + 1))]) (H1 := ([⟨B0, [.slice a_m0_0 m0_0.length c_m0_0, .int .i64 m0_1], 2⟩] : List Own)) (F := ([⟨b148, [.int .i64 0, .int .i64 0], 2⟩] : List Own)) rfl rfl (by kernel_rfl) (sel_perm (is := [1]) (by kernel_rfl)) (glyphicmake_Seq_Next_v1.ok hE_ h_m0_0 h151) ?_
  rintro _ _ S_ ⟨rfl, rfl, hS_⟩
  obtain rfl := hS_.symm
  refine t_qz 3 [0, 1, 4, 5] (σ' := [(0, .pointer (some ⟨B0, 0, none⟩)), (1, .int .i64 far1), (4, .pointer (some ⟨b148, 0, none⟩)), (5, .int .i64 (wr64 (t149 - far1)))]) (by kernel_rfl) ?_
  refine t_end ?_
  show W _ _ _ _ _ _ _
  refine w_seq ?_
  refine w_reg fun all => ?_
  obtain ⟨⟨t152, t153⟩, h154, e⟩ := bind_of e
  try dsimp only at e
  refine t_qz 5 [1, 4, 13, 14, 17] (σ' := [(1, .int .i64 far1), (4, .pointer (some ⟨b148, 0, none⟩)), (13, .int .i64 (wr64 (t149 - far1))), (14, .pointer (some ⟨B0, 0, none⟩)), (17, .int .i64 (wr64 ((wr64 (2 * far1)) + 1)))]) (by kernel_rfl) ?_
  refine t_call (vs := [.pointer (some ⟨B0, 0, none⟩), .int .i64 (wr64 ((wr64 (2 * far1)) + 1))]) (H1 := ([⟨B0, [.slice a_m0_0 m0_0.length c_m0_0, .int .i64 t150], 2⟩] : List Own)) (F := ([⟨b148, [.int .i64 0, .int .i64 0], 2⟩] : List Own)) rfl rfl (by kernel_rfl) (sel_perm (is := [0]) (by kernel_rfl)) (glyphicmake_Seq_Next_v1.ok hE_ h_m0_0 h154) ?_
  rintro _ _ S_ ⟨rfl, rfl, hS_⟩
  obtain rfl := hS_.symm
  refine t_qz 3 [4, 21] (σ' := [(4, .pointer (some ⟨b148, 0, none⟩)), (21, .agg #[.int .i64 (wr64 (t149 - far1)), .int .i64 (wr64 (t152 - far1))])]) (by kernel_rfl) ?_
  refine t_sti 1 (cs := [.int .i64 (wr64 (t149 - far1)), .int .i64 (wr64 (t152 - far1))]) rfl rfl rfl rfl rfl rfl rfl rfl rfl ?_
  refine t_keep [4] (σ' := [(4, .pointer (some ⟨b148, 0, none⟩))]) (by kernel_rfl) ?_
  refine t_end ?_
  show W _ _ _ _ _ _ _
  refine w_ret ?_
  simp only [Option.some.injEq, Prod.mk.injEq] at e
  obtain ⟨rfl, rfl, rfl⟩ := e
  exact ⟨[.agg #[.int .i64 (wr64 (t149 - far1)), .int .i64 (wr64 (t152 - far1))]], ([⟨B0, [.slice a_m0_0 m0_0.length c_m0_0, .int .i64 t153], 2⟩] : List Own), S, ⟨⟨_, _, _, rfl, .at 1 rfl rfl, rfl⟩, trivial⟩, VS.sel [0] (by kernel_rfl), rfl, rfl, rfl⟩

/-- glyphicref.SamePoint -/
def c27 : C :=
  (.seq (.reg [⟨(some 2), .box (.tmp 0), none⟩,
     ⟨(some 3), .box (.tmp 1), none⟩,
     ⟨(some 4), .mv (.const (.bool false)), none⟩])
  (.seq (.reg [⟨(some 5), .pad 0 (.tmp 2), none⟩,
     ⟨(some 6), .ld none (.tmp 5), none⟩,
     ⟨(some 7), .pad 0 (.tmp 3), none⟩,
     ⟨(some 8), .ld none (.tmp 7), none⟩,
     ⟨(some 9), .bin .eql (.tmp 6) (.tmp 8), none⟩,
     ⟨(some 10), .mv (.tmp 9), none⟩,
     ⟨(some 11), .pad 1 (.tmp 2), (some (10, true))⟩,
     ⟨(some 12), .ld none (.tmp 11), (some (10, true))⟩,
     ⟨(some 13), .pad 1 (.tmp 3), (some (10, true))⟩,
     ⟨(some 14), .ld none (.tmp 13), (some (10, true))⟩,
     ⟨(some 15), .bin .eql (.tmp 12) (.tmp 14), (some (10, true))⟩,
     ⟨(some 16), .pk (.tmp 10) (.tmp 15) (.const (.bool false)), none⟩,
     ⟨(some 4), .mv (.tmp 16), none⟩])
  .ret))
def glyphicref_SamePoint.f (a0_X : Int) (a0_Y : Int) (b1_X : Int) (b1_Y : Int) : Option (Bool) := if a0_X = b1_X then (some (a0_Y == b1_Y)) else (some false)
theorem glyphicref_SamePoint.ok {S : Seal} {a0_X : Int} {a0_Y : Int} {b1_X : Int} {b1_Y : Int} {r0_ : Bool}{A_ : Int → Addr} (hE_ : EO gsE S A_ 94) (e : glyphicref_SamePoint.f a0_X a0_Y b1_X b1_Y = some r0_) :
    Cal Tryd.prog 27 [.agg #[.int .i64 a0_X, .int .i64 a0_Y], .agg #[.int .i64 b1_X, .int .i64 b1_Y]] [] S fun v H' S' => v = .bool r0_ ∧ H' = [] ∧ S' = S := by
  unfold glyphicref_SamePoint.f at e
  refine cal_of (c := c27) (N := 17) Tryd.func27 rfl rfl (by kernel_rfl) (rs := [.t 4]) (by kernel_rfl) (Nat.le_of_ble_eq_true rfl) ?_
  unfold c27
  refine w_seq ?_
  refine w_reg fun all => ?_
  refine t_a (.box rfl rfl rfl) fun b159 fb159 sb159 => ?_
  refine t_a (.box rfl rfl rfl) fun b160 fb160 sb160 => ?_
  refine t_qz 1 [2, 3] (σ' := [(2, .pointer (some ⟨b159, 0, none⟩)), (3, .pointer (some ⟨b160, 0, none⟩))]) (by kernel_rfl) ?_
  refine t_end ?_
  show W _ _ _ _ _ _ _
  refine w_seq ?_
  refine w_reg fun all => ?_
  refine t_qz 1 [2, 3, 5] (σ' := [(2, .pointer (some ⟨b159, 0, none⟩)), (3, .pointer (some ⟨b160, 0, none⟩)), (5, .pointer (some ⟨b159, 0, none⟩))]) (by kernel_rfl) ?_
  refine t_v (.ld1 rfl rfl rfl (.at 1 rfl rfl)) ?_
  refine t_qz 1 [2, 3, 6, 7] (σ' := [(2, .pointer (some ⟨b159, 0, none⟩)), (3, .pointer (some ⟨b160, 0, none⟩)), (6, .int .i64 a0_X), (7, .pointer (some ⟨b160, 0, none⟩))]) (by kernel_rfl) ?_
  refine t_v (.ld1 rfl rfl rfl (.at 0 rfl rfl)) ?_
  by_cases c161 : a0_X = b1_X
  · rw [if_pos c161] at e
    have c161b : (a0_X == b1_X) = true := beq_iff_eq.mpr c161
    refine t_v (dv_quiet rfl (congrArg (fun t => some (Value.bool t)) c161b)) ?_
    refine t_qz 2 [3, 10, 11] (σ' := [(3, .pointer (some ⟨b160, 0, none⟩)), (10, .bool true), (11, .pointer (some ⟨b159, 1, none⟩))]) (by kernel_rfl) ?_
    refine t_v (.ld1 rfl rfl rfl (.at 1 rfl rfl)) ?_
    refine t_qz 1 [10, 12, 13] (σ' := [(10, .bool true), (12, .int .i64 a0_Y), (13, .pointer (some ⟨b160, 1, none⟩))]) (by kernel_rfl) ?_
    refine t_v (.ld1 rfl rfl rfl (.at 0 rfl rfl)) ?_
    refine t_qz 3 [4] (σ' := [(4, .bool (a0_Y == b1_Y))]) (by kernel_rfl) ?_
    refine t_end ?_
    show W _ _ _ _ _ _ _
    refine w_ret ?_
    obtain rfl := Option.some.inj e
    exact ⟨[.bool (a0_Y == b1_Y)], [], S, ⟨rfl, trivial⟩, VS.none, rfl, rfl, rfl⟩
  · rw [if_neg c161] at e
    have c161b : (a0_X == b1_X) = false := beq_eq_false_iff_ne.mpr c161
    refine t_v (dv_quiet rfl (congrArg (fun t => some (Value.bool t)) c161b)) ?_
    refine t_qz 8 [4] (σ' := [(4, .bool false)]) (by kernel_rfl) ?_
    refine t_end ?_
    show W _ _ _ _ _ _ _
    refine w_ret ?_
    obtain rfl := Option.some.inj e
    exact ⟨[.bool false], [], S, ⟨rfl, trivial⟩, VS.none, rfl, rfl, rfl⟩

/-- glyphicmake.inside -/
def c37 : C :=
  (.seq (.reg [⟨(some 4), .new [(.int .i64 0), (.int .i64 0)], none⟩])
  (.seq (.seq (.reg [⟨(some 6), .mv (.tmp 0), none⟩,
      ⟨(some 7), .call 22 [(.tmp 6), (.const (.int .i64 12))], none⟩,
      ⟨(some 8), .bin .eql (.tmp 7) (.const (.int .i64 0)), none⟩])
   (.cond (.tmp 8)
    (.seq (.reg [⟨(some 9), .mv (.tmp 0), none⟩,
        ⟨(some 10), .mv (.tmp 1), none⟩,
        ⟨(some 11), .call 26 [(.tmp 9), (.tmp 10)], none⟩,
        ⟨none, .st 2 (.tmp 4) (.tmp 11), none⟩])
     .ret)
    .skip))
  (.seq (.reg [⟨(some 12), .mv (.tmp 0), none⟩,
     ⟨(some 13), .mv (.tmp 1), none⟩,
     ⟨(some 14), .bin .add (.tmp 13) (.const (.int .i64 1)), none⟩,
     ⟨(some 15), .call 22 [(.tmp 12), (.tmp 14)], none⟩,
     ⟨(some 5), .mv (.tmp 15), none⟩])
  (.seq (.reg [⟨(some 16), .mv (.tmp 5), none⟩,
     ⟨(some 17), .mv (.tmp 0), none⟩,
     ⟨(some 18), .mv (.tmp 1), none⟩,
     ⟨(some 19), .bin .add (.tmp 18) (.const (.int .i64 1)), none⟩,
     ⟨(some 20), .call 22 [(.tmp 17), (.tmp 19)], none⟩,
     ⟨(some 21), .bld [(.int .i64 0), (.int .i64 0)] [(0, 1, (.tmp 16)), (1, 1, (.tmp 20))], none⟩,
     ⟨none, .st 2 (.tmp 4) (.tmp 21), none⟩])
  .ret))))
def glyphicmake_inside_v1.f (far1 : Int) (m0_0 : List (Int)) (m0_1 : Int) : Option (Int × Int × Int) := (glyphicmake_Seq_Next_v1.f 12 m0_0 m0_1).bind fun (t205, t206) => (if t205 = 0 then ((glyphicmake_Point_v1.f far1 m0_0 t206).bind fun (t209, t210, t211) => (some (t209, t210, t211))) else ((glyphicmake_Seq_Next_v1.f (wr64 (far1 + 1)) m0_0 t206).bind fun (t213, t214) => ((glyphicmake_Seq_Next_v1.f (wr64 (far1 + 1)) m0_0 t214).bind fun (t216, t217) => (some (t213, t216, t217)))))
theorem glyphicmake_inside_v1.ok {S : Seal} {B0 : Nat} {far1 : Int} {m0_0 : List (Int)} {m0_1 : Int} {r0_ : Int} {r1_ : Int} {r2_ : Int}{A_ : Int → Addr} (hE_ : EO gsE S A_ 94) {a_m0_0 : Option Addr} {c_m0_0 : Nat} (h_m0_0 : SlE S E_i64 m0_0 a_m0_0) (e : glyphicmake_inside_v1.f far1 m0_0 m0_1 = some (r0_, r1_, r2_)) :
    Cal Tryd.prog 37 [.pointer (some ⟨B0, 0, none⟩), .int .i64 far1] ([⟨B0, [.slice a_m0_0 m0_0.length c_m0_0, .int .i64 m0_1], 2⟩] : List Own) S fun v H' S' => v = .agg #[.int .i64 r0_, .int .i64 r1_] ∧ H' = ([⟨B0, [.slice a_m0_0 m0_0.length c_m0_0, .int .i64 r2_], 2⟩] : List Own) ∧ S' = S := by
  unfold glyphicmake_inside_v1.f at e
  refine cal_of (c := c37) (N := 22) Tryd.func37 rfl rfl (by kernel_rfl) (rs := [.cn 2 4]) (by kernel_rfl) (Nat.le_of_ble_eq_true rfl) ?_
  unfold c37
  refine w_seq ?_
  refine w_reg fun all => ?_
  refine t_a (.new rfl rfl) fun b204 fb204 sb204 => ?_
  refine t_keep [0, 1, 4] (σ' := [(0, .pointer (some ⟨B0, 0, none⟩)), (1, .int .i64 far1), (4, .pointer (some ⟨b204, 0, none⟩))]) (by kernel_rfl) ?_
  refine t_end ?_
  show W _ _ _ _ _ _ _
  refine w_seq ?_
  refine w_seq ?_
  refine w_reg fun all => ?_
  obtain ⟨⟨t205, t206⟩, h207, e⟩ := bind_of e
  try dsimp only at e
  refine t_qz 1 [0, 1, 4, 6] (σ' := [(0, .pointer (some ⟨B0, 0, none⟩)), (1, .int .i64 far1), (4, .pointer (some ⟨b204, 0, none⟩)), (6, .pointer (some ⟨B0, 0, none⟩))]) (by kernel_rfl) ?_
  refine t_call (vs := [.pointer (some ⟨B0, 0, none⟩), .int .i64 12]) (H1 := ([⟨B0, [.slice a_m0_0 m0_0.length c_m0_0, .int .i64 m0_1], 2⟩] : List Own)) (F := ([⟨b204, [.int .i64 0, .int .i64 0], 2⟩] : List Own)) rfl rfl (by kernel_rfl) (sel_perm (is := [1]) (by kernel_rfl)) (glyphicmake_Seq_Next_v1.ok hE_ h_m0_0 h207) ?_
  rintro _ _ S_ ⟨rfl, rfl, hS_⟩
  obtain rfl := hS_.symm
  by_cases c208 : t205 = 0
  · rw [if_pos c208] at e
    have c208b : (t205 == 0) = true := beq_iff_eq.mpr c208
    refine t_v (dv_quiet rfl (congrArg (fun t => some (Value.bool t)) c208b)) ?_
    refine t_keep [0, 1, 4, 8] (σ' := [(0, .pointer (some ⟨B0, 0, none⟩)), (1, .int .i64 far1), (4, .pointer (some ⟨b204, 0, none⟩)), (8, .bool true)]) (by kernel_rfl) ?_
    refine t_end ?_
    show W _ _ _ _ _ _ _
    refine w_cond rfl (fun _ => ?_) (fun c_ => by cases c_)
    show W _ _ _ _ _ _ _
    refine w_seq ?_
    refine w_reg fun all => ?_
    obtain ⟨⟨t209, t210, t211⟩, h212, e⟩ := bind_of e
    try dsimp only at e
    refine t_qz 2 [4, 9, 10] (σ' := [(4, .pointer (some ⟨b204, 0, none⟩)), (9, .pointer (some ⟨B0, 0, none⟩)), (10, .int .i64 far1)]) (by kernel_rfl) ?_
    refine t_call (vs := [.pointer (some ⟨B0, 0, none⟩), .int .i64 far1]) (H1 := ([⟨B0, [.slice a_m0_0 m0_0.length c_m0_0, .int .i64 t206], 2⟩] : List Own)) (F := ([⟨b204, [.int .i64 0, .int .i64 0], 2⟩] : List Own)) rfl rfl (by kernel_rfl) (sel_perm (is := [0]) (by kernel_rfl)) (glyphicmake_Point_v1.ok hE_ h_m0_0 h212) ?_
    rintro _ _ S_ ⟨rfl, rfl, hS_⟩
    obtain rfl := hS_.symm
    refine t_sti 1 (cs := [.int .i64 t209, .int .i64 t210]) rfl rfl rfl rfl rfl rfl rfl rfl rfl ?_
    refine t_keep [4] (σ' := [(4, .pointer (some ⟨b204, 0, none⟩))]) (by kernel_rfl) ?_
    refine t_end ?_
    show W _ _ _ _ _ _ _
    refine w_ret ?_
    simp only [Option.some.injEq, Prod.mk.injEq] at e
    obtain ⟨rfl, rfl, rfl⟩ := e
    exact ⟨[.agg #[.int .i64 t209, .int .i64 t210]], ([⟨B0, [.slice a_m0_0 m0_0.length c_m0_0, .int .i64 t211], 2⟩] : List Own), S, ⟨⟨_, _, _, rfl, .at 1 rfl rfl, rfl⟩, trivial⟩, VS.sel [0] (by kernel_rfl), rfl, rfl, rfl⟩
  · rw [if_neg c208] at e
    have c208b : (t205 == 0) = false := beq_eq_false_iff_ne.mpr c208
    refine t_v (dv_quiet rfl (congrArg (fun t => some (Value.bool t)) c208b)) ?_
    refine t_keep [0, 1, 4, 8] (σ' := [(0, .pointer (some ⟨B0, 0, none⟩)), (1, .int .i64 far1), (4, .pointer (some ⟨b204, 0, none⟩)), (8, .bool false)]) (by kernel_rfl) ?_
    refine t_end ?_
    show W _ _ _ _ _ _ _
    refine w_cond rfl (fun c_ => by cases c_) (fun _ => ?_)
    show W _ _ _ _ _ _ _
    refine w_skip ?_
    show W _ _ _ _ _ _ _
    refine w_seq ?_
    refine w_reg fun all => ?_
    obtain ⟨⟨t213, t214⟩, h215, e⟩ := bind_of e
    try dsimp only at e
    refine t_qz 3 [0, 1, 4, 12, 14] (σ' := [(0, .pointer (some ⟨B0, 0, none⟩)), (1, .int .i64 far1), (4, .pointer (some ⟨b204, 0, none⟩)), (12, .pointer (some ⟨B0, 0, none⟩)), (14, .int .i64 (wr64 (far1 + 1)))]) (by kernel_rfl) ?_
    refine t_call (vs := [.pointer (some ⟨B0, 0, none⟩), .int .i64 (wr64 (far1 + 1))]) (H1 := ([⟨B0, [.slice a_m0_0 m0_0.length c_m0_0, .int .i64 t206], 2⟩] : List Own)) (F := ([⟨b204, [.int .i64 0, .int .i64 0], 2⟩] : List Own)) rfl rfl (by kernel_rfl) (sel_perm (is := [0]) (by kernel_rfl)) (glyphicmake_Seq_Next_v1.ok hE_ h_m0_0 h215) ?_
    rintro _ _ S_ ⟨rfl, rfl, hS_⟩
    obtain rfl := hS_.symm
    refine t_qz 1 [0, 1, 4, 5] (σ' := [(0, .pointer (some ⟨B0, 0, none⟩)), (1, .int .i64 far1), (4, .pointer (some ⟨b204, 0, none⟩)), (5, .int .i64 t213)]) (by kernel_rfl) ?_
    refine t_end ?_
    show W _ _ _ _ _ _ _
    refine w_seq ?_
    refine w_reg fun all => ?_
    obtain ⟨⟨t216, t217⟩, h218, e⟩ := bind_of e
    try dsimp only at e
    refine t_qz 4 [4, 16, 17, 19] (σ' := [(4, .pointer (some ⟨b204, 0, none⟩)), (16, .int .i64 t213), (17, .pointer (some ⟨B0, 0, none⟩)), (19, .int .i64 (wr64 (far1 + 1)))]) (by kernel_rfl) ?_
    refine t_call (vs := [.pointer (some ⟨B0, 0, none⟩), .int .i64 (wr64 (far1 + 1))]) (H1 := ([⟨B0, [.slice a_m0_0 m0_0.length c_m0_0, .int .i64 t214], 2⟩] : List Own)) (F := ([⟨b204, [.int .i64 0, .int .i64 0], 2⟩] : List Own)) rfl rfl (by kernel_rfl) (sel_perm (is := [0]) (by kernel_rfl)) (glyphicmake_Seq_Next_v1.ok hE_ h_m0_0 h218) ?_
    rintro _ _ S_ ⟨rfl, rfl, hS_⟩
    obtain rfl := hS_.symm
    refine t_qz 1 [4, 21] (σ' := [(4, .pointer (some ⟨b204, 0, none⟩)), (21, .agg #[.int .i64 t213, .int .i64 t216])]) (by kernel_rfl) ?_
    refine t_sti 1 (cs := [.int .i64 t213, .int .i64 t216]) rfl rfl rfl rfl rfl rfl rfl rfl rfl ?_
    refine t_keep [4] (σ' := [(4, .pointer (some ⟨b204, 0, none⟩))]) (by kernel_rfl) ?_
    refine t_end ?_
    show W _ _ _ _ _ _ _
    refine w_ret ?_
    simp only [Option.some.injEq, Prod.mk.injEq] at e
    obtain ⟨rfl, rfl, rfl⟩ := e
    exact ⟨[.agg #[.int .i64 t213, .int .i64 t216]], ([⟨B0, [.slice a_m0_0 m0_0.length c_m0_0, .int .i64 t217], 2⟩] : List Own), S, ⟨⟨_, _, _, rfl, .at 1 rfl rfl, rfl⟩, trivial⟩, VS.sel [0] (by kernel_rfl), rfl, rfl, rfl⟩

/-- glyphicmake.Path -/
def c28 : C :=
  (.seq (.reg [⟨(some 6), .new [(.int .i64 0), (.int .i64 0), (.slice none 0 0), (.bool false)], none⟩])
  (.seq (.reg [⟨(some 11), .mv (.tmp 0), none⟩,
     ⟨(some 12), .mv (.tmp 1), none⟩,
     ⟨(some 13), .call 37 [(.tmp 11), (.tmp 12)], none⟩,
     ⟨(some 14), .mv (.tmp 2), none⟩,
     ⟨(some 15), .bld [(.int .i64 0), (.int .i64 0), (.slice none 0 0), (.bool false)] [(0, 2, (.tmp 13)), (3, 1, (.tmp 14))], none⟩,
     ⟨(some 7), .new [(.int .i64 0), (.int .i64 0), (.slice none 0 0), (.bool false)], none⟩,
     ⟨none, .st 4 (.tmp 7) (.tmp 15), none⟩])
  (.seq (.seq (.reg [⟨(some 16), .mv (.tmp 0), none⟩,
      ⟨(some 17), .call 22 [(.tmp 16), (.const (.int .i64 4))], none⟩,
      ⟨(some 18), .bin .add (.const (.int .i64 1)) (.tmp 17), none⟩,
      ⟨(some 8), .mv (.tmp 18), none⟩])
   (.block 0 (.loop (.seq (.seq (.reg [⟨(some 19), .mv (.tmp 8), none⟩,
         ⟨(some 20), .bin .gtr (.tmp 19) (.const (.int .i64 0)), none⟩])
      (.cond (.tmp 20)
       .skip
       (.exit 0)))
     (.seq (.block 1 (.seq (.reg [⟨(some 23), .mv (.tmp 0), none⟩,
          ⟨(some 24), .call 22 [(.tmp 23), (.const (.int .i64 3))], none⟩,
          ⟨(some 25), .bin .add (.const (.int .i64 1)) (.tmp 24), none⟩,
          ⟨(some 26), .bld [(.int .i64 0), (.int .i64 0), (.int .i64 0), (.int .i64 0), (.int .i64 0), (.int .i64 0), (.int .i64 0)] [(0, 1, (.tmp 25))], none⟩,
          ⟨(some 9), .new [(.int .i64 0), (.int .i64 0), (.int .i64 0), (.int .i64 0), (.int .i64 0), (.int .i64 0), (.int .i64 0)], none⟩,
          ⟨none, .st 7 (.tmp 9) (.tmp 26), none⟩])
       (.seq (.seq (.reg [⟨(some 10), .mv (.const (.int .i64 0)), none⟩])
        (.block 2 (.loop (.seq (.seq (.reg [⟨(some 27), .mv (.tmp 10), none⟩,
              ⟨(some 28), .pad 0 (.tmp 9), none⟩,
              ⟨(some 29), .ld none (.tmp 28), none⟩,
              ⟨(some 30), .bin .lss (.tmp 27) (.tmp 29), none⟩])
           (.cond (.tmp 30)
            .skip
            (.exit 2)))
          (.seq (.block 3 (.reg [⟨(some 33), .mv (.tmp 10), none⟩,
              ⟨(some 34), .mv (.tmp 0), none⟩,
              ⟨(some 35), .mv (.tmp 1), none⟩,
              ⟨(some 36), .call 37 [(.tmp 34), (.tmp 35)], none⟩,
              ⟨(some 37), .pad 1 (.tmp 9), none⟩,
              ⟨(some 38), .ixa 2 3 (.tmp 37) (.tmp 33), none⟩,
              ⟨none, .st 2 (.tmp 38) (.tmp 36), none⟩]))
          (.reg [⟨(some 31), .mv (.tmp 10), none⟩,
            ⟨(some 32), .bin .add (.tmp 31) (.const (.int .i64 1)), none⟩,
            ⟨(some 10), .mv (.tmp 32), none⟩]))))))
       (.reg [⟨(some 39), .pad 2 (.tmp 7), none⟩,
         ⟨(some 40), .ld none (.tmp 39), none⟩,
         ⟨(some 41), .ld (some 7) (.tmp 9), none⟩,
         ⟨(some 42), .bsl [(.int .i64 0), (.int .i64 0), (.int .i64 0), (.int .i64 0), (.int .i64 0), (.int .i64 0), (.int .i64 0)] 1 [(0, 7, (.tmp 41))], none⟩,
         ⟨(some 43), .app 56 7 56 [(.int .i64 0), (.int .i64 0), (.int .i64 0), (.int .i64 0), (.int .i64 0), (.int .i64 0), (.int .i64 0)] (.tmp 40) (.tmp 42), none⟩,
         ⟨(some 44), .pad 2 (.tmp 7), none⟩,
         ⟨none, .st 1 (.tmp 44) (.tmp 43), none⟩]))))
     (.reg [⟨(some 21), .mv (.tmp 8), none⟩,
       ⟨(some 22), .bin .sub (.tmp 21) (.const (.int .i64 1)), none⟩,
       ⟨(some 8), .mv (.tmp 22), none⟩]))))))
  (.seq (.reg [⟨(some 45), .ld (some 4) (.tmp 7), none⟩,
     ⟨none, .st 4 (.tmp 6) (.tmp 45), none⟩])
  .ret))))
def glyphicmake_Path_v1.l1 : Nat → Int → List (Int) → Int → Int → Int → Int → Int → Int → Int → Int → Int → Option (Int × Int × Int × Int × Int × Int × Int)
  | 0, _, _, _, _, _, _, _, _, _, _, _ => none
  | k + 1, far1, m0_0, t304, x311, x312, x313, x314, x315, x316, x317, x318 => if x311 < (wr64 (1 + t304)) then ((glyphicmake_inside_v1.f far1 m0_0 x318).bind fun (t320, t321, t322) => (if x311 = 0 then (glyphicmake_Path_v1.l1 k far1 m0_0 t304 (wr64 (x311 + 1)) t320 t321 x314 x315 x316 x317 t322) else (if x311 = 1 then (glyphicmake_Path_v1.l1 k far1 m0_0 t304 (wr64 (x311 + 1)) x312 x313 t320 t321 x316 x317 t322) else (if x311 = 2 then (glyphicmake_Path_v1.l1 k far1 m0_0 t304 (wr64 (x311 + 1)) x312 x313 x314 x315 t320 t321 t322) else (none))))) else (some (x312, x313, x314, x315, x316, x317, x318))
def glyphicmake_Path_v1.l0 : Nat → Int → List (Int) → Int → List (Int × Int × Int × Int × Int × Int × Int) → Int → Option (List (Int × Int × Int × Int × Int × Int × Int) × Int)
  | 0, _, _, _, _, _ => none
  | k + 1, far1, m0_0, x296, y298, x299 => if x296 > 0 then (((glyphicmake_Seq_Next_v1.f 3 m0_0 x299).bind fun (t304, t305) => ((glyphicmake_Path_v1.l1 k far1 m0_0 t304 0 0 0 0 0 0 0 t305 : Option (Int × Int × Int × Int × Int × Int × Int)).bind fun (x331, x332, x333, x334, x335, x336, x337) => ((lapp y298 ([(wr64 (1 + t304), x331, x332, x333, x334, x335, x336)] : List (Int × Int × Int × Int × Int × Int × Int))).bind fun y339 => (some (x337, y339)))) : Option (Int × List (Int × Int × Int × Int × Int × Int × Int))).bind fun (x342, y344) => (glyphicmake_Path_v1.l0 k far1 m0_0 (wr64 (x296 - 1)) y344 x342)) else (some (y298, x299))
def glyphicmake_Path_v1.f (k : Nat) (far1 : Int) (closed2 : Bool) (m0_0 : List (Int)) (m0_1 : Int) : Option (Int × Int × Bool × List (Int × Int × Int × Int × Int × Int × Int) × Int) := (glyphicmake_inside_v1.f far1 m0_0 m0_1).bind fun (t285, t286, t287) => (((glyphicmake_Seq_Next_v1.f 4 m0_0 t287).bind fun (t293, t294) => (glyphicmake_Path_v1.l0 k far1 m0_0 (wr64 (1 + t293)) ([] : List (Int × Int × Int × Int × Int × Int × Int)) t294) : Option (List (Int × Int × Int × Int × Int × Int × Int) × Int)).bind fun (y348, x349) => (some (t285, t286, closed2, y348, x349)))
theorem glyphicmake_Path_v1.ok {S : Seal} {B0 : Nat} {k : Nat} {far1 : Int} {closed2 : Bool} {m0_0 : List (Int)} {m0_1 : Int} {r0_ : Int} {r1_ : Int} {r2_ : Bool} {r3_ : List (Int × Int × Int × Int × Int × Int × Int)} {r4_ : Int}{A_ : Int → Addr} (hE_ : EO gsE S A_ 94) {a_m0_0 : Option Addr} {c_m0_0 : Nat} (h_m0_0 : SlE S E_i64 m0_0 a_m0_0) (e : glyphicmake_Path_v1.f k far1 closed2 m0_0 m0_1 = some (r0_, r1_, r2_, r3_, r4_)) :
    Cal Tryd.prog 28 [.pointer (some ⟨B0, 0, none⟩), .int .i64 far1, .bool closed2] ([⟨B0, [.slice a_m0_0 m0_0.length c_m0_0, .int .i64 m0_1], 2⟩] : List Own) S fun v H' S' => ∃ (N0_ : Option Nat) (nN0_ : Nat) , v = .agg #[.int .i64 r0_, .int .i64 r1_, .slice (ad N0_) r3_.length (nN0_ / 7), .bool r2_] ∧ H' = ([⟨N0_, encL E_i647 r3_, nN0_⟩, ⟨B0, [.slice a_m0_0 m0_0.length c_m0_0, .int .i64 r4_], 2⟩] : List Own) ∧ S' = S := by
  unfold glyphicmake_Path_v1.f at e
  refine cal_of (c := c28) (N := 46) Tryd.func28 rfl rfl (by kernel_rfl) (rs := [.cn 4 6]) (by kernel_rfl) (Nat.le_of_ble_eq_true rfl) ?_
  unfold c28
  refine w_seq ?_
  refine w_reg fun all => ?_
  refine t_a (.new rfl rfl) fun b284 fb284 sb284 => ?_
  refine t_keep [0, 1, 2, 6] (σ' := [(0, .pointer (some ⟨B0, 0, none⟩)), (1, .int .i64 far1), (2, .bool closed2), (6, .pointer (some ⟨b284, 0, none⟩))]) (by kernel_rfl) ?_
  refine t_end ?_
  show W _ _ _ _ _ _ _
  refine w_seq ?_
  refine w_reg fun all => ?_
  obtain ⟨⟨t285, t286, t287⟩, h288, e⟩ := bind_of e
  try dsimp only at e
  refine t_qz 2 [0, 1, 2, 6, 11, 12] (σ' := [(0, .pointer (some ⟨B0, 0, none⟩)), (1, .int .i64 far1), (2, .bool closed2), (6, .pointer (some ⟨b284, 0, none⟩)), (11, .pointer (some ⟨B0, 0, none⟩)), (12, .int .i64 far1)]) (by kernel_rfl) ?_
  refine t_call (vs := [.pointer (some ⟨B0, 0, none⟩), .int .i64 far1]) (H1 := ([⟨B0, [.slice a_m0_0 m0_0.length c_m0_0, .int .i64 m0_1], 2⟩] : List Own)) (F := ([⟨b284, [.int .i64 0, .int .i64 0, .slice none 0 0, .bool false], 4⟩] : List Own)) rfl rfl (by kernel_rfl) (sel_perm (is := [1]) (by kernel_rfl)) (glyphicmake_inside_v1.ok hE_ h_m0_0 h288) ?_
  rintro _ _ S_ ⟨rfl, rfl, hS_⟩
  obtain rfl := hS_.symm
  refine t_qz 2 [0, 1, 6, 15] (σ' := [(0, .pointer (some ⟨B0, 0, none⟩)), (1, .int .i64 far1), (6, .pointer (some ⟨b284, 0, none⟩)), (15, .agg #[.int .i64 t285, .int .i64 t286, .slice none 0 0, .bool closed2])]) (by kernel_rfl) ?_
  refine t_a (.new rfl rfl) fun b289 fb289 sb289 => ?_
  refine t_sti 0 (cs := [.int .i64 t285, .int .i64 t286, .slice none 0 0, .bool closed2]) rfl rfl rfl rfl rfl rfl rfl rfl rfl ?_
  refine t_keep [0, 1, 6, 7] (σ' := [(0, .pointer (some ⟨B0, 0, none⟩)), (1, .int .i64 far1), (6, .pointer (some ⟨b284, 0, none⟩)), (7, .pointer (some ⟨b289, 0, none⟩))]) (by kernel_rfl) ?_
  refine t_end ?_
  show W _ _ _ _ _ _ _
  obtain ⟨⟨y348, x349⟩, e291, e⟩ := bind_of e
  try dsimp only at e
  refine w_cut [6, 7] (fun σ_ H_ S_ => ∃ (a347 : Option Nat) (na347 : Nat), [(6, .pointer (some ⟨b284, 0, none⟩)), (7, .pointer (some ⟨b289, 0, none⟩))] = σ_ ∧ ([⟨b289, [.int .i64 t285, .int .i64 t286, .slice (ad a347) y348.length (na347 / 7), .bool closed2], 4⟩, ⟨B0, [.slice a_m0_0 m0_0.length c_m0_0, .int .i64 x349], 2⟩, ⟨b284, [.int .i64 0, .int .i64 0, .slice none 0 0, .bool false], 4⟩, ⟨a347, encL E_i647 y348, na347⟩] : List Own) = H_ ∧ S = S_) ?_ ?_
  · show W _ _ _ _ _ _ _
    refine w_seq ?_
    refine w_reg fun all => ?_
    obtain ⟨⟨t293, t294⟩, h295, e291⟩ := bind_of e291
    try dsimp only at e291
    refine t_qz 1 [0, 1, 6, 7, 16] (σ' := [(0, .pointer (some ⟨B0, 0, none⟩)), (1, .int .i64 far1), (6, .pointer (some ⟨b284, 0, none⟩)), (7, .pointer (some ⟨b289, 0, none⟩)), (16, .pointer (some ⟨B0, 0, none⟩))]) (by kernel_rfl) ?_
    refine t_call (vs := [.pointer (some ⟨B0, 0, none⟩), .int .i64 4]) (H1 := ([⟨B0, [.slice a_m0_0 m0_0.length c_m0_0, .int .i64 t287], 2⟩] : List Own)) (F := ([⟨b289, [.int .i64 t285, .int .i64 t286, .slice none 0 0, .bool closed2], 4⟩, ⟨b284, [.int .i64 0, .int .i64 0, .slice none 0 0, .bool false], 4⟩] : List Own)) rfl rfl (by kernel_rfl) (sel_perm (is := [1]) (by kernel_rfl)) (glyphicmake_Seq_Next_v1.ok hE_ h_m0_0 h295) ?_
    rintro _ _ S_ ⟨rfl, rfl, hS_⟩
    obtain rfl := hS_.symm
    refine t_qz 2 [0, 1, 6, 7, 8] (σ' := [(0, .pointer (some ⟨B0, 0, none⟩)), (1, .int .i64 far1), (6, .pointer (some ⟨b284, 0, none⟩)), (7, .pointer (some ⟨b289, 0, none⟩)), (8, .int .i64 (wr64 (1 + t293)))]) (by kernel_rfl) ?_
    refine t_end ?_
    show W _ _ _ _ _ _ _
    refine w_block ?_
    refine w_vs VS.vac ?_
    refine w_kp [0, 1, 6, 7, 8] (σ' := [(0, .pointer (some ⟨B0, 0, none⟩)), (1, .int .i64 far1), (6, .pointer (some ⟨b284, 0, none⟩)), (7, .pointer (some ⟨b289, 0, none⟩)), (8, .int .i64 (wr64 (1 + t293)))]) (by kernel_rfl) ?_
    refine w_loop (fun n_ σ_ H_ S_ => ∃ (x296 : Int) (y298 : List (Int × Int × Int × Int × Int × Int × Int)) (x299 : Int), ∃ (a297 : Option Nat) (na297 : Nat), [(0, .pointer (some ⟨B0, 0, none⟩)), (1, .int .i64 far1), (6, .pointer (some ⟨b284, 0, none⟩)), (7, .pointer (some ⟨b289, 0, none⟩)), (8, .int .i64 x296)] = σ_ ∧ ([⟨a297, encL E_i647 y298, na297⟩, ⟨B0, [.slice a_m0_0 m0_0.length c_m0_0, .int .i64 x299], 2⟩, ⟨b289, [.int .i64 t285, .int .i64 t286, .slice (ad a297) y298.length (na297 / 7), .bool closed2], 4⟩, ⟨b284, [.int .i64 0, .int .i64 0, .slice none 0 0, .bool false], 4⟩] : List Own) = H_ ∧ S = S_ ∧ glyphicmake_Path_v1.l0 n_ far1 m0_0 x296 y298 x299 = some (y348, x349)) _ ⟨wr64 (1 + t293), ([] : List (Int × Int × Int × Int × Int × Int × Int)), t294, none, 0, rfl, rfl, rfl, e291⟩ ?_
    rintro n346 σ_ H_ S_ ⟨x296, y298, x299, a297, na297, rfl, rfl, rfl, e291⟩
    cases n346 with
    | zero => rw [glyphicmake_Path_v1.l0.eq_1] at e291; cases e291
    | succ k_ =>
      rw [glyphicmake_Path_v1.l0.eq_2] at e291
      refine w_seq ?_
      refine w_seq ?_
      refine w_reg fun all => ?_
      by_cases c300 : x296 > 0
      · rw [if_pos c300] at e291
        have c300b : (decide (x296 > 0)) = true := decide_eq_true c300
        refine t_qz 1 [0, 1, 6, 7, 8, 19] (σ' := [(0, .pointer (some ⟨B0, 0, none⟩)), (1, .int .i64 far1), (6, .pointer (some ⟨b284, 0, none⟩)), (7, .pointer (some ⟨b289, 0, none⟩)), (8, .int .i64 x296), (19, .int .i64 x296)]) (by kernel_rfl) ?_
        refine t_v (dv_quiet rfl (congrArg (fun t => some (Value.bool t)) c300b)) ?_
        refine t_keep [0, 1, 6, 7, 8, 20] (σ' := [(0, .pointer (some ⟨B0, 0, none⟩)), (1, .int .i64 far1), (6, .pointer (some ⟨b284, 0, none⟩)), (7, .pointer (some ⟨b289, 0, none⟩)), (8, .int .i64 x296), (20, .bool true)]) (by kernel_rfl) ?_
        refine t_end ?_
        show W _ _ _ _ _ _ _
        refine w_cond rfl (fun _ => ?_) (fun c_ => by cases c_)
        show W _ _ _ _ _ _ _
        refine w_skip ?_
        show W _ _ _ _ _ _ _
        obtain ⟨⟨x342, y344⟩, e302, e291⟩ := bind_of e291
        try dsimp only at e291
        refine w_cut [0, 1, 6, 7, 8] (fun σ_ H_ S_ => ∃ (a343 : Option Nat) (na343 : Nat), [(0, .pointer (some ⟨B0, 0, none⟩)), (1, .int .i64 far1), (6, .pointer (some ⟨b284, 0, none⟩)), (7, .pointer (some ⟨b289, 0, none⟩)), (8, .int .i64 x296)] = σ_ ∧ ([⟨B0, [.slice a_m0_0 m0_0.length c_m0_0, .int .i64 x342], 2⟩, ⟨b289, [.int .i64 t285, .int .i64 t286, .slice (ad a343) y344.length (na343 / 7), .bool closed2], 4⟩, ⟨b284, [.int .i64 0, .int .i64 0, .slice none 0 0, .bool false], 4⟩, ⟨a343, encL E_i647 y344, na343⟩] : List Own) = H_ ∧ S = S_) ?_ ?_
        · show W _ _ _ _ _ _ _
          refine w_block ?_
          refine w_seq ?_
          refine w_reg fun all => ?_
          obtain ⟨⟨t304, t305⟩, h306, e302⟩ := bind_of e302
          try dsimp only at e302
          refine t_qz 1 [0, 1, 6, 7, 8, 23] (σ' := [(0, .pointer (some ⟨B0, 0, none⟩)), (1, .int .i64 far1), (6, .pointer (some ⟨b284, 0, none⟩)), (7, .pointer (some ⟨b289, 0, none⟩)), (8, .int .i64 x296), (23, .pointer (some ⟨B0, 0, none⟩))]) (by kernel_rfl) ?_
          refine t_call (vs := [.pointer (some ⟨B0, 0, none⟩), .int .i64 3]) (H1 := ([⟨B0, [.slice a_m0_0 m0_0.length c_m0_0, .int .i64 x299], 2⟩] : List Own)) (F := ([⟨a297, encL E_i647 y298, na297⟩, ⟨b289, [.int .i64 t285, .int .i64 t286, .slice (ad a297) y298.length (na297 / 7), .bool closed2], 4⟩, ⟨b284, [.int .i64 0, .int .i64 0, .slice none 0 0, .bool false], 4⟩] : List Own)) rfl rfl (by kernel_rfl) (sel_perm (is := [1]) (by kernel_rfl)) (glyphicmake_Seq_Next_v1.ok hE_ h_m0_0 h306) ?_
          rintro _ _ S_ ⟨rfl, rfl, hS_⟩
          obtain rfl := hS_.symm
          refine t_qz 2 [0, 1, 6, 7, 8, 26] (σ' := [(0, .pointer (some ⟨B0, 0, none⟩)), (1, .int .i64 far1), (6, .pointer (some ⟨b284, 0, none⟩)), (7, .pointer (some ⟨b289, 0, none⟩)), (8, .int .i64 x296), (26, .agg #[.int .i64 (wr64 (1 + t304)), .int .i64 0, .int .i64 0, .int .i64 0, .int .i64 0, .int .i64 0, .int .i64 0])]) (by kernel_rfl) ?_
          refine t_a (.new rfl rfl) fun b307 fb307 sb307 => ?_
          refine t_sti 0 (cs := [.int .i64 (wr64 (1 + t304)), .int .i64 0, .int .i64 0, .int .i64 0, .int .i64 0, .int .i64 0, .int .i64 0]) rfl rfl rfl rfl rfl rfl rfl rfl rfl ?_
          refine t_keep [0, 1, 6, 7, 8, 9] (σ' := [(0, .pointer (some ⟨B0, 0, none⟩)), (1, .int .i64 far1), (6, .pointer (some ⟨b284, 0, none⟩)), (7, .pointer (some ⟨b289, 0, none⟩)), (8, .int .i64 x296), (9, .pointer (some ⟨b307, 0, none⟩))]) (by kernel_rfl) ?_
          refine t_end ?_
          show W _ _ _ _ _ _ _
          obtain ⟨⟨x331, x332, x333, x334, x335, x336, x337⟩, e309, e302⟩ := bind_of e302
          try dsimp only at e302
          refine w_cut [0, 1, 6, 7, 8, 9] (fun σ_ H_ S_ => [(0, .pointer (some ⟨B0, 0, none⟩)), (1, .int .i64 far1), (6, .pointer (some ⟨b284, 0, none⟩)), (7, .pointer (some ⟨b289, 0, none⟩)), (8, .int .i64 x296), (9, .pointer (some ⟨b307, 0, none⟩))] = σ_ ∧ ([⟨b307, [.int .i64 (wr64 (1 + t304)), .int .i64 x331, .int .i64 x332, .int .i64 x333, .int .i64 x334, .int .i64 x335, .int .i64 x336], 7⟩, ⟨B0, [.slice a_m0_0 m0_0.length c_m0_0, .int .i64 x337], 2⟩, ⟨b289, [.int .i64 t285, .int .i64 t286, .slice (ad a297) y298.length (na297 / 7), .bool closed2], 4⟩, ⟨b284, [.int .i64 0, .int .i64 0, .slice none 0 0, .bool false], 4⟩, ⟨a297, encL E_i647 y298, na297⟩] : List Own) = H_ ∧ S = S_) ?_ ?_
          · show W _ _ _ _ _ _ _
            refine w_seq ?_
            refine w_reg fun all => ?_
            refine t_qz 1 [0, 1, 6, 7, 8, 9, 10] (σ' := [(0, .pointer (some ⟨B0, 0, none⟩)), (1, .int .i64 far1), (6, .pointer (some ⟨b284, 0, none⟩)), (7, .pointer (some ⟨b289, 0, none⟩)), (8, .int .i64 x296), (9, .pointer (some ⟨b307, 0, none⟩)), (10, .int .i64 0)]) (by kernel_rfl) ?_
            refine t_end ?_
            show W _ _ _ _ _ _ _
            refine w_block ?_
            refine w_kp [0, 1, 6, 7, 8, 9, 10] (σ' := [(0, .pointer (some ⟨B0, 0, none⟩)), (1, .int .i64 far1), (6, .pointer (some ⟨b284, 0, none⟩)), (7, .pointer (some ⟨b289, 0, none⟩)), (8, .int .i64 x296), (9, .pointer (some ⟨b307, 0, none⟩)), (10, .int .i64 0)]) (by kernel_rfl) ?_
            refine w_loop (fun n_ σ_ H_ S_ => ∃ (x311 : Int) (x312 : Int) (x313 : Int) (x314 : Int) (x315 : Int) (x316 : Int) (x317 : Int) (x318 : Int), [(0, .pointer (some ⟨B0, 0, none⟩)), (1, .int .i64 far1), (6, .pointer (some ⟨b284, 0, none⟩)), (7, .pointer (some ⟨b289, 0, none⟩)), (8, .int .i64 x296), (9, .pointer (some ⟨b307, 0, none⟩)), (10, .int .i64 x311)] = σ_ ∧ ([⟨b307, [.int .i64 (wr64 (1 + t304)), .int .i64 x312, .int .i64 x313, .int .i64 x314, .int .i64 x315, .int .i64 x316, .int .i64 x317], 7⟩, ⟨B0, [.slice a_m0_0 m0_0.length c_m0_0, .int .i64 x318], 2⟩, ⟨a297, encL E_i647 y298, na297⟩, ⟨b289, [.int .i64 t285, .int .i64 t286, .slice (ad a297) y298.length (na297 / 7), .bool closed2], 4⟩, ⟨b284, [.int .i64 0, .int .i64 0, .slice none 0 0, .bool false], 4⟩] : List Own) = H_ ∧ S = S_ ∧ glyphicmake_Path_v1.l1 n_ far1 m0_0 t304 x311 x312 x313 x314 x315 x316 x317 x318 = some (x331, x332, x333, x334, x335, x336, x337)) _ ⟨0, 0, 0, 0, 0, 0, 0, t305, rfl, rfl, rfl, e309⟩ ?_
            rintro n330 σ_ H_ S_ ⟨x311, x312, x313, x314, x315, x316, x317, x318, rfl, rfl, rfl, e309⟩
            cases n330 with
            | zero => rw [glyphicmake_Path_v1.l1.eq_1] at e309; cases e309
            | succ k_ =>
              rw [glyphicmake_Path_v1.l1.eq_2] at e309
              refine w_seq ?_
              refine w_seq ?_
              refine w_reg fun all => ?_
              refine t_qz 2 [0, 1, 6, 7, 8, 9, 10, 27, 28] (σ' := [(0, .pointer (some ⟨B0, 0, none⟩)), (1, .int .i64 far1), (6, .pointer (some ⟨b284, 0, none⟩)), (7, .pointer (some ⟨b289, 0, none⟩)), (8, .int .i64 x296), (9, .pointer (some ⟨b307, 0, none⟩)), (10, .int .i64 x311), (27, .int .i64 x311), (28, .pointer (some ⟨b307, 0, none⟩))]) (by kernel_rfl) ?_
              refine t_v (.ld1 rfl rfl rfl (.at 0 rfl rfl)) ?_
              by_cases c319 : x311 < (wr64 (1 + t304))
              · rw [if_pos c319] at e309
                have c319b : (decide (x311 < (wr64 (1 + t304)))) = true := decide_eq_true c319
                refine t_v (dv_quiet rfl (congrArg (fun t => some (Value.bool t)) c319b)) ?_
                refine t_keep [0, 1, 6, 7, 8, 9, 10, 30] (σ' := [(0, .pointer (some ⟨B0, 0, none⟩)), (1, .int .i64 far1), (6, .pointer (some ⟨b284, 0, none⟩)), (7, .pointer (some ⟨b289, 0, none⟩)), (8, .int .i64 x296), (9, .pointer (some ⟨b307, 0, none⟩)), (10, .int .i64 x311), (30, .bool true)]) (by kernel_rfl) ?_
                refine t_end ?_
                show W _ _ _ _ _ _ _
                refine w_cond rfl (fun _ => ?_) (fun c_ => by cases c_)
                show W _ _ _ _ _ _ _
                refine w_skip ?_
                show W _ _ _ _ _ _ _
                refine w_seq ?_
                refine w_block ?_
                refine w_reg fun all => ?_
                obtain ⟨⟨t320, t321, t322⟩, h323, e309⟩ := bind_of e309
                try dsimp only at e309
                refine t_qz 3 [0, 1, 6, 7, 8, 9, 10, 33, 34, 35] (σ' := [(0, .pointer (some ⟨B0, 0, none⟩)), (1, .int .i64 far1), (6, .pointer (some ⟨b284, 0, none⟩)), (7, .pointer (some ⟨b289, 0, none⟩)), (8, .int .i64 x296), (9, .pointer (some ⟨b307, 0, none⟩)), (10, .int .i64 x311), (33, .int .i64 x311), (34, .pointer (some ⟨B0, 0, none⟩)), (35, .int .i64 far1)]) (by kernel_rfl) ?_
                refine t_call (vs := [.pointer (some ⟨B0, 0, none⟩), .int .i64 far1]) (H1 := ([⟨B0, [.slice a_m0_0 m0_0.length c_m0_0, .int .i64 x318], 2⟩] : List Own)) (F := ([⟨b307, [.int .i64 (wr64 (1 + t304)), .int .i64 x312, .int .i64 x313, .int .i64 x314, .int .i64 x315, .int .i64 x316, .int .i64 x317], 7⟩, ⟨a297, encL E_i647 y298, na297⟩, ⟨b289, [.int .i64 t285, .int .i64 t286, .slice (ad a297) y298.length (na297 / 7), .bool closed2], 4⟩, ⟨b284, [.int .i64 0, .int .i64 0, .slice none 0 0, .bool false], 4⟩] : List Own)) rfl rfl (by kernel_rfl) (sel_perm (is := [1]) (by kernel_rfl)) (glyphicmake_inside_v1.ok hE_ h_m0_0 h323) ?_
                rintro _ _ S_ ⟨rfl, rfl, hS_⟩
                obtain rfl := hS_.symm
                by_cases c324 : x311 = 0
                · rw [if_pos c324] at e309
                  have c324b : (x311 == 0) = true := beq_iff_eq.mpr c324
                  refine t_qz 1 [0, 1, 6, 7, 8, 9, 10, 33, 36, 37] (σ' := [(0, .pointer (some ⟨B0, 0, none⟩)), (1, .int .i64 far1), (6, .pointer (some ⟨b284, 0, none⟩)), (7, .pointer (some ⟨b289, 0, none⟩)), (8, .int .i64 x296), (9, .pointer (some ⟨b307, 0, none⟩)), (10, .int .i64 x311), (33, .int .i64 x311), (36, .agg #[.int .i64 t320, .int .i64 t321]), (37, .pointer (some ⟨b307, 1, none⟩))]) (by kernel_rfl) ?_
                  refine t_v (.quiet rfl (ixa_at (j := 0) (u := .pointer (some ⟨b307, 1, none⟩)) rfl c324b (by kernel_rfl))) ?_
                  refine t_sti 1 (cs := [.int .i64 (wr64 (1 + t304)), .int .i64 t320, .int .i64 t321, .int .i64 x314, .int .i64 x315, .int .i64 x316, .int .i64 x317]) rfl rfl rfl rfl rfl rfl rfl rfl rfl ?_
                  refine t_keep [0, 1, 6, 7, 8, 9, 10] (σ' := [(0, .pointer (some ⟨B0, 0, none⟩)), (1, .int .i64 far1), (6, .pointer (some ⟨b284, 0, none⟩)), (7, .pointer (some ⟨b289, 0, none⟩)), (8, .int .i64 x296), (9, .pointer (some ⟨b307, 0, none⟩)), (10, .int .i64 x311)]) (by kernel_rfl) ?_
                  refine t_end ?_
                  show W _ _ _ _ _ _ _
                  refine w_reg fun all => ?_
                  refine t_qz 3 [0, 1, 6, 7, 8, 9, 10] (σ' := [(0, .pointer (some ⟨B0, 0, none⟩)), (1, .int .i64 far1), (6, .pointer (some ⟨b284, 0, none⟩)), (7, .pointer (some ⟨b289, 0, none⟩)), (8, .int .i64 x296), (9, .pointer (some ⟨b307, 0, none⟩)), (10, .int .i64 (wr64 (x311 + 1)))]) (by kernel_rfl) ?_
                  refine t_end ?_
                  exact ⟨k_, Nat.lt_succ_self _, [(0, .pointer (some ⟨B0, 0, none⟩)), (1, .int .i64 far1), (6, .pointer (some ⟨b284, 0, none⟩)), (7, .pointer (some ⟨b289, 0, none⟩)), (8, .int .i64 x296), (9, .pointer (some ⟨b307, 0, none⟩)), (10, .int .i64 (wr64 (x311 + 1)))], ([⟨b307, [.int .i64 (wr64 (1 + t304)), .int .i64 t320, .int .i64 t321, .int .i64 x314, .int .i64 x315, .int .i64 x316, .int .i64 x317], 7⟩, ⟨B0, [.slice a_m0_0 m0_0.length c_m0_0, .int .i64 t322], 2⟩, ⟨a297, encL E_i647 y298, na297⟩, ⟨b289, [.int .i64 t285, .int .i64 t286, .slice (ad a297) y298.length (na297 / 7), .bool closed2], 4⟩, ⟨b284, [.int .i64 0, .int .i64 0, .slice none 0 0, .bool false], 4⟩] : List Own), S, keep_sub [0, 1, 6, 7, 8, 9, 10] (by kernel_rfl), VS.sel [1, 0, 0, 0, 0] (by kernel_rfl), wr64 (x311 + 1), t320, t321, x314, x315, x316, x317, t322, rfl, rfl, rfl, e309⟩
                · rw [if_neg c324] at e309
                  have c324b : (x311 == 0) = false := beq_eq_false_iff_ne.mpr c324
                  by_cases c326 : x311 = 1
                  · rw [if_pos c326] at e309
                    have c326b : (x311 == 1) = true := beq_iff_eq.mpr c326
                    refine t_qz 1 [0, 1, 6, 7, 8, 9, 10, 33, 36, 37] (σ' := [(0, .pointer (some ⟨B0, 0, none⟩)), (1, .int .i64 far1), (6, .pointer (some ⟨b284, 0, none⟩)), (7, .pointer (some ⟨b289, 0, none⟩)), (8, .int .i64 x296), (9, .pointer (some ⟨b307, 0, none⟩)), (10, .int .i64 x311), (33, .int .i64 x311), (36, .agg #[.int .i64 t320, .int .i64 t321]), (37, .pointer (some ⟨b307, 1, none⟩))]) (by kernel_rfl) ?_
                    refine t_v (.quiet rfl (ixa_at (j := 1) (u := .pointer (some ⟨b307, 3, none⟩)) rfl c326b (by kernel_rfl))) ?_
                    refine t_sti 1 (cs := [.int .i64 (wr64 (1 + t304)), .int .i64 x312, .int .i64 x313, .int .i64 t320, .int .i64 t321, .int .i64 x316, .int .i64 x317]) rfl rfl rfl rfl rfl rfl rfl rfl rfl ?_
                    refine t_keep [0, 1, 6, 7, 8, 9, 10] (σ' := [(0, .pointer (some ⟨B0, 0, none⟩)), (1, .int .i64 far1), (6, .pointer (some ⟨b284, 0, none⟩)), (7, .pointer (some ⟨b289, 0, none⟩)), (8, .int .i64 x296), (9, .pointer (some ⟨b307, 0, none⟩)), (10, .int .i64 x311)]) (by kernel_rfl) ?_
                    refine t_end ?_
                    show W _ _ _ _ _ _ _
                    refine w_reg fun all => ?_
                    refine t_qz 3 [0, 1, 6, 7, 8, 9, 10] (σ' := [(0, .pointer (some ⟨B0, 0, none⟩)), (1, .int .i64 far1), (6, .pointer (some ⟨b284, 0, none⟩)), (7, .pointer (some ⟨b289, 0, none⟩)), (8, .int .i64 x296), (9, .pointer (some ⟨b307, 0, none⟩)), (10, .int .i64 (wr64 (x311 + 1)))]) (by kernel_rfl) ?_
                    refine t_end ?_
                    exact ⟨k_, Nat.lt_succ_self _, [(0, .pointer (some ⟨B0, 0, none⟩)), (1, .int .i64 far1), (6, .pointer (some ⟨b284, 0, none⟩)), (7, .pointer (some ⟨b289, 0, none⟩)), (8, .int .i64 x296), (9, .pointer (some ⟨b307, 0, none⟩)), (10, .int .i64 (wr64 (x311 + 1)))], ([⟨b307, [.int .i64 (wr64 (1 + t304)), .int .i64 x312, .int .i64 x313, .int .i64 t320, .int .i64 t321, .int .i64 x316, .int .i64 x317], 7⟩, ⟨B0, [.slice a_m0_0 m0_0.length c_m0_0, .int .i64 t322], 2⟩, ⟨a297, encL E_i647 y298, na297⟩, ⟨b289, [.int .i64 t285, .int .i64 t286, .slice (ad a297) y298.length (na297 / 7), .bool closed2], 4⟩, ⟨b284, [.int .i64 0, .int .i64 0, .slice none 0 0, .bool false], 4⟩] : List Own), S, keep_sub [0, 1, 6, 7, 8, 9, 10] (by kernel_rfl), VS.sel [1, 0, 0, 0, 0] (by kernel_rfl), wr64 (x311 + 1), x312, x313, t320, t321, x316, x317, t322, rfl, rfl, rfl, e309⟩
                  · rw [if_neg c326] at e309
                    have c326b : (x311 == 1) = false := beq_eq_false_iff_ne.mpr c326
                    by_cases c328 : x311 = 2
                    · rw [if_pos c328] at e309
                      have c328b : (x311 == 2) = true := beq_iff_eq.mpr c328
                      refine t_qz 1 [0, 1, 6, 7, 8, 9, 10, 33, 36, 37] (σ' := [(0, .pointer (some ⟨B0, 0, none⟩)), (1, .int .i64 far1), (6, .pointer (some ⟨b284, 0, none⟩)), (7, .pointer (some ⟨b289, 0, none⟩)), (8, .int .i64 x296), (9, .pointer (some ⟨b307, 0, none⟩)), (10, .int .i64 x311), (33, .int .i64 x311), (36, .agg #[.int .i64 t320, .int .i64 t321]), (37, .pointer (some ⟨b307, 1, none⟩))]) (by kernel_rfl) ?_
                      refine t_v (.quiet rfl (ixa_at (j := 2) (u := .pointer (some ⟨b307, 5, none⟩)) rfl c328b (by kernel_rfl))) ?_
                      refine t_sti 1 (cs := [.int .i64 (wr64 (1 + t304)), .int .i64 x312, .int .i64 x313, .int .i64 x314, .int .i64 x315, .int .i64 t320, .int .i64 t321]) rfl rfl rfl rfl rfl rfl rfl rfl rfl ?_
                      refine t_keep [0, 1, 6, 7, 8, 9, 10] (σ' := [(0, .pointer (some ⟨B0, 0, none⟩)), (1, .int .i64 far1), (6, .pointer (some ⟨b284, 0, none⟩)), (7, .pointer (some ⟨b289, 0, none⟩)), (8, .int .i64 x296), (9, .pointer (some ⟨b307, 0, none⟩)), (10, .int .i64 x311)]) (by kernel_rfl) ?_
                      refine t_end ?_
                      show W _ _ _ _ _ _ _
                      refine w_reg fun all => ?_
                      refine t_qz 3 [0, 1, 6, 7, 8, 9, 10] (σ' := [(0, .pointer (some ⟨B0, 0, none⟩)), (1, .int .i64 far1), (6, .pointer (some ⟨b284, 0, none⟩)), (7, .pointer (some ⟨b289, 0, none⟩)), (8, .int .i64 x296), (9, .pointer (some ⟨b307, 0, none⟩)), (10, .int .i64 (wr64 (x311 + 1)))]) (by kernel_rfl) ?_
                      refine t_end ?_
                      exact ⟨k_, Nat.lt_succ_self _, [(0, .pointer (some ⟨B0, 0, none⟩)), (1, .int .i64 far1), (6, .pointer (some ⟨b284, 0, none⟩)), (7, .pointer (some ⟨b289, 0, none⟩)), (8, .int .i64 x296), (9, .pointer (some ⟨b307, 0, none⟩)), (10, .int .i64 (wr64 (x311 + 1)))], ([⟨b307, [.int .i64 (wr64 (1 + t304)), .int .i64 x312, .int .i64 x313, .int .i64 x314, .int .i64 x315, .int .i64 t320, .int .i64 t321], 7⟩, ⟨B0, [.slice a_m0_0 m0_0.length c_m0_0, .int .i64 t322], 2⟩, ⟨a297, encL E_i647 y298, na297⟩, ⟨b289, [.int .i64 t285, .int .i64 t286, .slice (ad a297) y298.length (na297 / 7), .bool closed2], 4⟩, ⟨b284, [.int .i64 0, .int .i64 0, .slice none 0 0, .bool false], 4⟩] : List Own), S, keep_sub [0, 1, 6, 7, 8, 9, 10] (by kernel_rfl), VS.sel [1, 0, 0, 0, 0] (by kernel_rfl), wr64 (x311 + 1), x312, x313, x314, x315, t320, t321, t322, rfl, rfl, rfl, e309⟩
                    · rw [if_neg c328] at e309
                      have c328b : (x311 == 2) = false := beq_eq_false_iff_ne.mpr c328
                      cases e309
              · rw [if_neg c319] at e309
                have c319b : (decide (x311 < (wr64 (1 + t304)))) = false := decide_eq_false c319
                refine t_v (dv_quiet rfl (congrArg (fun t => some (Value.bool t)) c319b)) ?_
                refine t_keep [0, 1, 6, 7, 8, 9, 10, 30] (σ' := [(0, .pointer (some ⟨B0, 0, none⟩)), (1, .int .i64 far1), (6, .pointer (some ⟨b284, 0, none⟩)), (7, .pointer (some ⟨b289, 0, none⟩)), (8, .int .i64 x296), (9, .pointer (some ⟨b307, 0, none⟩)), (10, .int .i64 x311), (30, .bool false)]) (by kernel_rfl) ?_
                refine t_end ?_
                show W _ _ _ _ _ _ _
                refine w_cond rfl (fun c_ => by cases c_) (fun _ => ?_)
                show W _ _ _ _ _ _ _
                refine w_exit ?_
                simp only [Option.some.injEq, Prod.mk.injEq] at e309
                obtain ⟨rfl, rfl, rfl, rfl, rfl, rfl, rfl⟩ := e309
                exact ⟨([⟨b307, [.int .i64 (wr64 (1 + t304)), .int .i64 x312, .int .i64 x313, .int .i64 x314, .int .i64 x315, .int .i64 x316, .int .i64 x317], 7⟩, ⟨B0, [.slice a_m0_0 m0_0.length c_m0_0, .int .i64 x318], 2⟩, ⟨b289, [.int .i64 t285, .int .i64 t286, .slice (ad a297) y298.length (na297 / 7), .bool closed2], 4⟩, ⟨b284, [.int .i64 0, .int .i64 0, .slice none 0 0, .bool false], 4⟩, ⟨a297, encL E_i647 y298, na297⟩] : List Own), S, VS.sel [0, 0, 1, 1, 0] (by kernel_rfl), by kernel_rfl, rfl, rfl⟩
          · rintro σ_ H_ S_ ⟨rfl, rfl, rfl⟩
            refine w_reg fun all => ?_
            refine t_qz 1 [0, 1, 6, 7, 8, 9, 39] (σ' := [(0, .pointer (some ⟨B0, 0, none⟩)), (1, .int .i64 far1), (6, .pointer (some ⟨b284, 0, none⟩)), (7, .pointer (some ⟨b289, 0, none⟩)), (8, .int .i64 x296), (9, .pointer (some ⟨b307, 0, none⟩)), (39, .pointer (some ⟨b289, 2, none⟩))]) (by kernel_rfl) ?_
            refine t_v (.ld1 rfl rfl rfl (.at 2 rfl rfl)) ?_
            refine t_v (.ldn rfl rfl rfl (.at 0 rfl rfl)) ?_
            refine t_a (dv_bsl (cs := [.int .i64 (wr64 (1 + t304)), .int .i64 x331, .int .i64 x332, .int .i64 x333, .int .i64 x334, .int .i64 x335, .int .i64 x336]) rfl rfl (by kernel_rfl)) fun b338 fb338 sb338 => ?_
            obtain ⟨y339, hl340, e302⟩ := bind_of e302
            refine t_appX (E := E_i647) (L := y298) (X := ([(wr64 (1 + t304), x331, x332, x333, x334, x335, x336)] : List (Int × Int × Int × Int × Int × Int × Int))) (F := ([⟨b338, [.int .i64 (wr64 (1 + t304)), .int .i64 x331, .int .i64 x332, .int .i64 x333, .int .i64 x334, .int .i64 x335, .int .i64 x336], 7⟩, ⟨b307, [.int .i64 (wr64 (1 + t304)), .int .i64 x331, .int .i64 x332, .int .i64 x333, .int .i64 x334, .int .i64 x335, .int .i64 x336], 7⟩, ⟨B0, [.slice a_m0_0 m0_0.length c_m0_0, .int .i64 x337], 2⟩, ⟨b289, [.int .i64 t285, .int .i64 t286, .slice (ad a297) y298.length (na297 / 7), .bool closed2], 4⟩, ⟨b284, [.int .i64 0, .int .i64 0, .slice none 0 0, .bool false], 4⟩] : List Own)) rfl rfl rfl rfl (sel_perm (is := [5]) (by kernel_rfl)) rfl (Or.inr ⟨_, _, rfl, .at 0 rfl (by kernel_rfl)⟩) rfl (by decide) (by decide) rfl hl340 fun a341 na341 => ?_
            refine t_qz 1 [0, 1, 6, 7, 8, 43, 44] (σ' := [(0, .pointer (some ⟨B0, 0, none⟩)), (1, .int .i64 far1), (6, .pointer (some ⟨b284, 0, none⟩)), (7, .pointer (some ⟨b289, 0, none⟩)), (8, .int .i64 x296), (43, .slice (ad a341) y339.length (na341 / 7)), (44, .pointer (some ⟨b289, 2, none⟩))]) (by kernel_rfl) ?_
            refine t_sti 4 (cs := [.int .i64 t285, .int .i64 t286, .slice (ad a341) y339.length (na341 / 7), .bool closed2]) rfl rfl rfl rfl rfl rfl rfl rfl rfl ?_
            refine t_keep [0, 1, 6, 7, 8] (σ' := [(0, .pointer (some ⟨B0, 0, none⟩)), (1, .int .i64 far1), (6, .pointer (some ⟨b284, 0, none⟩)), (7, .pointer (some ⟨b289, 0, none⟩)), (8, .int .i64 x296)]) (by kernel_rfl) ?_
            refine t_end ?_
            simp only [Option.some.injEq, Prod.mk.injEq] at e302
            obtain ⟨rfl, rfl⟩ := e302
            exact ⟨([⟨B0, [.slice a_m0_0 m0_0.length c_m0_0, .int .i64 x337], 2⟩, ⟨b289, [.int .i64 t285, .int .i64 t286, .slice (ad a341) y339.length (na341 / 7), .bool closed2], 4⟩, ⟨b284, [.int .i64 0, .int .i64 0, .slice none 0 0, .bool false], 4⟩, ⟨a341, encL E_i647 y339, na341⟩] : List Own), S, VS.sel [3, 3, 3, 0] (by kernel_rfl), a341, na341, by kernel_rfl, rfl, rfl⟩
        · rintro σ_ H_ S_ ⟨a343, na343, rfl, rfl, rfl⟩
          refine w_reg fun all => ?_
          refine t_qz 3 [0, 1, 6, 7, 8] (σ' := [(0, .pointer (some ⟨B0, 0, none⟩)), (1, .int .i64 far1), (6, .pointer (some ⟨b284, 0, none⟩)), (7, .pointer (some ⟨b289, 0, none⟩)), (8, .int .i64 (wr64 (x296 - 1)))]) (by kernel_rfl) ?_
          refine t_end ?_
          exact ⟨k_, Nat.lt_succ_self _, [(0, .pointer (some ⟨B0, 0, none⟩)), (1, .int .i64 far1), (6, .pointer (some ⟨b284, 0, none⟩)), (7, .pointer (some ⟨b289, 0, none⟩)), (8, .int .i64 (wr64 (x296 - 1)))], ([⟨a343, encL E_i647 y344, na343⟩, ⟨B0, [.slice a_m0_0 m0_0.length c_m0_0, .int .i64 x342], 2⟩, ⟨b289, [.int .i64 t285, .int .i64 t286, .slice (ad a343) y344.length (na343 / 7), .bool closed2], 4⟩, ⟨b284, [.int .i64 0, .int .i64 0, .slice none 0 0, .bool false], 4⟩] : List Own), S, keep_sub [0, 1, 6, 7, 8] (by kernel_rfl), VS.sel [3, 0, 0, 0] (by kernel_rfl), wr64 (x296 - 1), y344, x342, a343, na343, rfl, rfl, rfl, e291⟩
      · rw [if_neg c300] at e291
        have c300b : (decide (x296 > 0)) = false := decide_eq_false c300
        refine t_qz 1 [0, 1, 6, 7, 8, 19] (σ' := [(0, .pointer (some ⟨B0, 0, none⟩)), (1, .int .i64 far1), (6, .pointer (some ⟨b284, 0, none⟩)), (7, .pointer (some ⟨b289, 0, none⟩)), (8, .int .i64 x296), (19, .int .i64 x296)]) (by kernel_rfl) ?_
        refine t_v (dv_quiet rfl (congrArg (fun t => some (Value.bool t)) c300b)) ?_
        refine t_keep [0, 1, 6, 7, 8, 20] (σ' := [(0, .pointer (some ⟨B0, 0, none⟩)), (1, .int .i64 far1), (6, .pointer (some ⟨b284, 0, none⟩)), (7, .pointer (some ⟨b289, 0, none⟩)), (8, .int .i64 x296), (20, .bool false)]) (by kernel_rfl) ?_
        refine t_end ?_
        show W _ _ _ _ _ _ _
        refine w_cond rfl (fun c_ => by cases c_) (fun _ => ?_)
        show W _ _ _ _ _ _ _
        refine w_exit ?_
        simp only [Option.some.injEq, Prod.mk.injEq] at e291
        obtain ⟨rfl, rfl⟩ := e291
        exact ⟨([⟨b289, [.int .i64 t285, .int .i64 t286, .slice (ad a297) y298.length (na297 / 7), .bool closed2], 4⟩, ⟨B0, [.slice a_m0_0 m0_0.length c_m0_0, .int .i64 x299], 2⟩, ⟨b284, [.int .i64 0, .int .i64 0, .slice none 0 0, .bool false], 4⟩, ⟨a297, encL E_i647 y298, na297⟩] : List Own), S, VS.sel [2, 1, 1, 0] (by kernel_rfl), a297, na297, by kernel_rfl, rfl, rfl⟩
  · rintro σ_ H_ S_ ⟨a347, na347, rfl, rfl, rfl⟩
    refine w_seq ?_
    refine w_reg fun all => ?_
    refine t_v (.ldn rfl rfl rfl (.at 0 rfl rfl)) ?_
    refine t_sti 2 (cs := [.int .i64 t285, .int .i64 t286, .slice (ad a347) y348.length (na347 / 7), .bool closed2]) rfl rfl rfl rfl rfl rfl rfl rfl rfl ?_
    refine t_keep [6] (σ' := [(6, .pointer (some ⟨b284, 0, none⟩))]) (by kernel_rfl) ?_
    refine t_end ?_
    show W _ _ _ _ _ _ _
    refine w_ret ?_
    simp only [Option.some.injEq, Prod.mk.injEq] at e
    obtain ⟨rfl, rfl, rfl, rfl, rfl⟩ := e
    exact ⟨[.agg #[.int .i64 t285, .int .i64 t286, .slice (ad a347) y348.length (na347 / 7), .bool closed2]], ([⟨a347, encL E_i647 y348, na347⟩, ⟨B0, [.slice a_m0_0 m0_0.length c_m0_0, .int .i64 x349], 2⟩] : List Own), S, ⟨⟨_, _, _, rfl, .at 2 rfl rfl, rfl⟩, trivial⟩, VS.sel [3, 1] (by kernel_rfl), a347, na347, rfl, rfl, rfl⟩
end Go.Proofs.YtiaigehjogpcaaaDoor.QScaleSays
