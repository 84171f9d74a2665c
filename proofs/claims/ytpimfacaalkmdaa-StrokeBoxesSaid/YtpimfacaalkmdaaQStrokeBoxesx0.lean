/- Functions of the program as Lean functions, each with the proof of its walk. Written by gen.py, a program of these sessions. -/
import Derived.Test.YtpimfacaalkmdaaX
import Derived.Test.YtpimfacaalkmdaaProg
namespace Go.Proofs.Ytpimfacaalkmdaa.QStrokeBoxes
open Go Go.RowKit Go.Proofs.YtpimfacaalkmdaaE Go.Proofs.YtpimfacaalkmdaaX
set_option linter.unusedVariables false
set_option maxRecDepth 100000
set_option maxHeartbeats 8000000
theorem mixed : Try.prog.follows .mixedOrders = true := by kernel_rfl

def E_i64 : En (Int) := ⟨1, fun t => [.int .i64 t], fun _ => rfl, fun _ => rfl⟩
def E_i644 : En (Int × Int × Int × Int) := ⟨4, fun t => [.int .i64 t.1, .int .i64 t.2.1, .int .i64 t.2.2.1, .int .i64 t.2.2.2], fun _ => rfl, fun _ => rfl⟩
/-- slices.IndexFunc[[]api.Edge,api.Edge] -/
def c103 : C :=
  (.seq (.reg [⟨(some 4), .mv (.const (.int .i64 0)), none⟩])
  (.seq (.seq (.reg [⟨(some 6), .mv (.tmp 0), none⟩,
      ⟨(some 7), .lns (.tmp 6), none⟩,
      ⟨(some 8), .mv (.const (.int .i64 0)), none⟩])
   (.block 0 (.loop (.seq (.reg [⟨(some 9), .bin .lss (.tmp 8) (.tmp 7), none⟩])
     (.seq (.cond (.tmp 9)
       .skip
       (.exit 0))
     (.seq (.block 1 (.seq (.reg [⟨(some 10), .mv (.tmp 8), none⟩,
          ⟨(some 5), .mv (.tmp 10), none⟩])
       (.seq (.reg [⟨(some 11), .mv (.tmp 1), none⟩,
          ⟨(some 12), .mv (.tmp 0), none⟩,
          ⟨(some 13), .mv (.tmp 5), none⟩,
          ⟨(some 14), .ixs 4 (.tmp 12) (.tmp 13), none⟩,
          ⟨(some 15), .ld (some 4) (.tmp 14), none⟩,
          ⟨(some 16), .clo (.tmp 11) [(.tmp 15)], none⟩])
       (.cond (.tmp 16)
        (.seq (.reg [⟨(some 17), .mv (.tmp 5), none⟩,
            ⟨(some 4), .mv (.tmp 17), none⟩])
         .ret)
        .skip))))
     (.reg [⟨(some 18), .bin .add (.tmp 8) (.const (.int .i64 1)), none⟩,
       ⟨(some 8), .mv (.tmp 18), none⟩])))))))
  (.seq (.reg [⟨(some 4), .mv (.const (.int .i64 (-1))), none⟩])
  .ret)))
def api_Edge_v2.f  : Option (Unit) := some ()
theorem api_Edge_v2.ok {S : Seal} {B0 : Nat} {B1 : Nat}  (e : api_Edge_v2.f  = some ()) :
    Cal Try.prog 103 [.slice none 0 0, .func (.func 64) #[] #[.pointer (some ⟨B0, 0, none⟩), .pointer (some ⟨B1, 0, none⟩)]] ([⟨B0, [.int .i64 0, .int .i64 0], 2⟩, ⟨B1, [.int .i64 5], 1⟩] : List Own) S fun v H' S' => v = .int .i64 (-1) ∧ H' = ([⟨B0, [.int .i64 0, .int .i64 0], 2⟩, ⟨B1, [.int .i64 5], 1⟩] : List Own) ∧ S' = S := by
  unfold api_Edge_v2.f at e
  refine cal_of (c := c103) (N := 19) Try.func103 rfl rfl (by kernel_rfl) (rs := [.t 4]) (by kernel_rfl) (Nat.le_of_ble_eq_true rfl) ?_
  unfold c103
  refine w_seq ?_
  refine w_reg fun all => ?_
  refine t_qz 1 [0, 1] (σ' := [(0, .slice none 0 0), (1, .func (.func 64) #[] #[.pointer (some ⟨B0, 0, none⟩), .pointer (some ⟨B1, 0, none⟩)])]) (by kernel_rfl) ?_
  refine t_end ?_
  show W _ _ _ _ _ _ _
  refine w_seq ?_
  refine w_seq ?_
  refine w_reg fun all => ?_
  refine t_qz 3 [0, 1, 7, 8] (σ' := [(0, .slice none 0 0), (1, .func (.func 64) #[] #[.pointer (some ⟨B0, 0, none⟩), .pointer (some ⟨B1, 0, none⟩)]), (7, .int .i64 0), (8, .int .i64 0)]) (by kernel_rfl) ?_
  refine t_end ?_
  show W _ _ _ _ _ _ _
  refine w_block ?_
  refine w_lun 10 ?_
  refine wl_step ?_
  refine w_seq ?_
  refine w_reg fun all => ?_
  refine t_qz 1 [0, 1, 7, 8, 9] (σ' := [(0, .slice none 0 0), (1, .func (.func 64) #[] #[.pointer (some ⟨B0, 0, none⟩), .pointer (some ⟨B1, 0, none⟩)]), (7, .int .i64 0), (8, .int .i64 0), (9, .bool false)]) (by kernel_rfl) ?_
  refine t_end ?_
  show W _ _ _ _ _ _ _
  refine w_seq ?_
  refine w_cond rfl (fun c_ => by cases c_) (fun _ => ?_)
  show W _ _ _ _ _ _ _
  refine w_exit ?_
  show W _ _ _ _ _ _ _
  refine w_seq ?_
  refine w_reg fun all => ?_
  refine t_qz 1 [4] (σ' := [(4, .int .i64 (-1))]) (by kernel_rfl) ?_
  refine t_end ?_
  show W _ _ _ _ _ _ _
  refine w_ret ?_
  exact ⟨[.int .i64 (-1)], ([⟨B0, [.int .i64 0, .int .i64 0], 2⟩, ⟨B1, [.int .i64 5], 1⟩] : List Own), S, ⟨rfl, trivial⟩, VS.sel [0, 0] (by kernel_rfl), rfl, rfl, rfl⟩

/-- slices.ContainsFunc[[]api.Edge,api.Edge] -/
def c63 : C :=
  (.seq (.reg [⟨(some 4), .mv (.const (.bool false)), none⟩])
  (.seq (.reg [⟨(some 5), .mv (.tmp 0), none⟩,
     ⟨(some 6), .mv (.tmp 1), none⟩,
     ⟨(some 7), .call 103 [(.tmp 5), (.tmp 6)], none⟩,
     ⟨(some 8), .bin .geq (.tmp 7) (.const (.int .i64 0)), none⟩,
     ⟨(some 4), .mv (.tmp 8), none⟩])
  .ret))
def api_Edge_v1.f  : Option (Unit) := (api_Edge_v2.f).bind fun _ => (some ())
theorem api_Edge_v1.ok {S : Seal} {B0 : Nat} {B1 : Nat}  (e : api_Edge_v1.f  = some ()) :
    Cal Try.prog 63 [.slice none 0 0, .func (.func 64) #[] #[.pointer (some ⟨B0, 0, none⟩), .pointer (some ⟨B1, 0, none⟩)]] ([⟨B0, [.int .i64 0, .int .i64 0], 2⟩, ⟨B1, [.int .i64 5], 1⟩] : List Own) S fun v H' S' => v = .bool false ∧ H' = ([⟨B0, [.int .i64 0, .int .i64 0], 2⟩, ⟨B1, [.int .i64 5], 1⟩] : List Own) ∧ S' = S := by
  unfold api_Edge_v1.f at e
  refine cal_of (c := c63) (N := 9) Try.func63 rfl rfl (by kernel_rfl) (rs := [.t 4]) (by kernel_rfl) (Nat.le_of_ble_eq_true rfl) ?_
  unfold c63
  refine w_seq ?_
  refine w_reg fun all => ?_
  refine t_qz 1 [0, 1] (σ' := [(0, .slice none 0 0), (1, .func (.func 64) #[] #[.pointer (some ⟨B0, 0, none⟩), .pointer (some ⟨B1, 0, none⟩)])]) (by kernel_rfl) ?_
  refine t_end ?_
  show W _ _ _ _ _ _ _
  refine w_seq ?_
  refine w_reg fun all => ?_
  obtain ⟨u_, h4, e⟩ := bind_of e
  refine t_qz 2 [5, 6] (σ' := [(5, .slice none 0 0), (6, .func (.func 64) #[] #[.pointer (some ⟨B0, 0, none⟩), .pointer (some ⟨B1, 0, none⟩)])]) (by kernel_rfl) ?_
  refine t_v (.callr (vs := [.slice none 0 0, .func (.func 64) #[] #[.pointer (some ⟨B0, 0, none⟩), .pointer (some ⟨B1, 0, none⟩)]]) (A := ([⟨B0, [.int .i64 0, .int .i64 0], 2⟩, ⟨B1, [.int .i64 5], 1⟩] : List Own)) (F0 := ([] : List Own)) rfl rfl (by kernel_rfl) (sel_perm (is := [0, 0]) (by kernel_rfl)) (api_Edge_v2.ok h4)) ?_
  refine t_qz 2 [4] (σ' := [(4, .bool false)]) (by kernel_rfl) ?_
  refine t_end ?_
  show W _ _ _ _ _ _ _
  refine w_ret ?_
  exact ⟨[.bool false], ([⟨B0, [.int .i64 0, .int .i64 0], 2⟩, ⟨B1, [.int .i64 5], 1⟩] : List Own), S, ⟨rfl, trivial⟩, VS.sel [0, 0] (by kernel_rfl), rfl, rfl, rfl⟩

/-- stroke.Near -/
def c19 : C :=
  (.seq (.reg [⟨(some 4), .box (.tmp 1), none⟩,
     ⟨(some 5), .box (.tmp 2), none⟩,
     ⟨(some 6), .mv (.const (.bool false)), none⟩])
  (.seq (.reg [⟨(some 7), .mv (.tmp 0), none⟩,
     ⟨(some 8), .mkf 64 [(.tmp 5), (.tmp 4)], none⟩,
     ⟨(some 9), .call 63 [(.tmp 7), (.tmp 8)], none⟩,
     ⟨(some 6), .mv (.tmp 9), none⟩])
  .ret))
def stroke_Near_v1.f  : Option (Unit) := (api_Edge_v1.f).bind fun _ => (some ())
theorem stroke_Near_v1.ok {S : Seal}  (e : stroke_Near_v1.f  = some ()) :
    Cal Try.prog 19 [.slice none 0 0, .int .i64 5, .agg #[.int .i64 0, .int .i64 0]] [] S fun v H' S' => v = .bool false ∧ H' = [] ∧ S' = S := by
  unfold stroke_Near_v1.f at e
  refine cal_of (c := c19) (N := 10) Try.func19 rfl rfl (by kernel_rfl) (rs := [.t 6]) (by kernel_rfl) (Nat.le_of_ble_eq_true rfl) ?_
  unfold c19
  refine w_seq ?_
  refine w_reg fun all => ?_
  refine t_a (.box rfl rfl rfl) fun b2 fb2 sb2 => ?_
  refine t_a (.box rfl rfl rfl) fun b3 fb3 sb3 => ?_
  refine t_qz 1 [0, 4, 5] (σ' := [(0, .slice none 0 0), (4, .pointer (some ⟨b2, 0, none⟩)), (5, .pointer (some ⟨b3, 0, none⟩))]) (by kernel_rfl) ?_
  refine t_end ?_
  show W _ _ _ _ _ _ _
  refine w_seq ?_
  refine w_reg fun all => ?_
  obtain ⟨u_, h5, e⟩ := bind_of e
  refine t_qz 2 [7, 8] (σ' := [(7, .slice none 0 0), (8, .func (.func 64) #[] #[.pointer (some ⟨b3, 0, none⟩), .pointer (some ⟨b2, 0, none⟩)])]) (by kernel_rfl) ?_
  refine t_v (.callr (vs := [.slice none 0 0, .func (.func 64) #[] #[.pointer (some ⟨b3, 0, none⟩), .pointer (some ⟨b2, 0, none⟩)]]) (A := ([⟨b3, [.int .i64 0, .int .i64 0], 2⟩, ⟨b2, [.int .i64 5], 1⟩] : List Own)) (F0 := ([] : List Own)) rfl rfl (by kernel_rfl) (sel_perm (is := [0, 0]) (by kernel_rfl)) (api_Edge_v1.ok h5)) ?_
  refine t_qz 1 [6] (σ' := [(6, .bool false)]) (by kernel_rfl) ?_
  refine t_end ?_
  show W _ _ _ _ _ _ _
  refine w_ret ?_
  exact ⟨[.bool false], [], S, ⟨rfl, trivial⟩, VS.none, rfl, rfl, rfl⟩

/-- plane.Sub -/
def c116 : C :=
  (.seq (.reg [⟨(some 2), .box (.tmp 0), none⟩,
     ⟨(some 3), .box (.tmp 1), none⟩,
     ⟨(some 4), .new [(.int .i64 0), (.int .i64 0)], none⟩])
  (.seq (.reg [⟨(some 5), .pad 0 (.tmp 2), none⟩,
     ⟨(some 6), .ld none (.tmp 5), none⟩,
     ⟨(some 7), .pad 0 (.tmp 3), none⟩,
     ⟨(some 8), .ld none (.tmp 7), none⟩,
     ⟨(some 9), .bin .sub (.tmp 6) (.tmp 8), none⟩,
     ⟨(some 10), .pad 1 (.tmp 2), none⟩,
     ⟨(some 11), .ld none (.tmp 10), none⟩,
     ⟨(some 12), .pad 1 (.tmp 3), none⟩,
     ⟨(some 13), .ld none (.tmp 12), none⟩,
     ⟨(some 14), .bin .sub (.tmp 11) (.tmp 13), none⟩,
     ⟨(some 15), .bld [(.int .i64 0), (.int .i64 0)] [(0, 1, (.tmp 9)), (1, 1, (.tmp 14))], none⟩,
     ⟨none, .st 2 (.tmp 4) (.tmp 15), none⟩])
  .ret))
def plane_Sub_v1.f  : Option (Unit) := some ()
theorem plane_Sub_v1.ok {S : Seal}  (e : plane_Sub_v1.f  = some ()) :
    Cal Try.prog 116 [.agg #[.int .i64 5, .int .i64 0], .agg #[.int .i64 0, .int .i64 0]] [] S fun v H' S' => v = .agg #[.int .i64 5, .int .i64 0] ∧ H' = [] ∧ S' = S := by
  unfold plane_Sub_v1.f at e
  refine cal_of (c := c116) (N := 16) Try.func116 rfl rfl (by kernel_rfl) (rs := [.cn 2 4]) (by kernel_rfl) (Nat.le_of_ble_eq_true rfl) ?_
  unfold c116
  refine w_seq ?_
  refine w_reg fun all => ?_
  refine t_a (.box rfl rfl rfl) fun b16 fb16 sb16 => ?_
  refine t_a (.box rfl rfl rfl) fun b17 fb17 sb17 => ?_
  refine t_a (.new rfl rfl) fun b18 fb18 sb18 => ?_
  refine t_keep [2, 3, 4] (σ' := [(2, .pointer (some ⟨b16, 0, none⟩)), (3, .pointer (some ⟨b17, 0, none⟩)), (4, .pointer (some ⟨b18, 0, none⟩))]) (by kernel_rfl) ?_
  refine t_end ?_
  show W _ _ _ _ _ _ _
  refine w_seq ?_
  refine w_reg fun all => ?_
  refine t_qz 1 [2, 3, 4, 5] (σ' := [(2, .pointer (some ⟨b16, 0, none⟩)), (3, .pointer (some ⟨b17, 0, none⟩)), (4, .pointer (some ⟨b18, 0, none⟩)), (5, .pointer (some ⟨b16, 0, none⟩))]) (by kernel_rfl) ?_
  refine t_v (.ld1 rfl rfl rfl (.at 2 rfl rfl)) ?_
  refine t_qz 1 [2, 3, 4, 6, 7] (σ' := [(2, .pointer (some ⟨b16, 0, none⟩)), (3, .pointer (some ⟨b17, 0, none⟩)), (4, .pointer (some ⟨b18, 0, none⟩)), (6, .int .i64 5), (7, .pointer (some ⟨b17, 0, none⟩))]) (by kernel_rfl) ?_
  refine t_v (.ld1 rfl rfl rfl (.at 1 rfl rfl)) ?_
  refine t_qz 2 [3, 4, 9, 10] (σ' := [(3, .pointer (some ⟨b17, 0, none⟩)), (4, .pointer (some ⟨b18, 0, none⟩)), (9, .int .i64 5), (10, .pointer (some ⟨b16, 1, none⟩))]) (by kernel_rfl) ?_
  refine t_v (.ld1 rfl rfl rfl (.at 2 rfl rfl)) ?_
  refine t_qz 1 [4, 9, 11, 12] (σ' := [(4, .pointer (some ⟨b18, 0, none⟩)), (9, .int .i64 5), (11, .int .i64 0), (12, .pointer (some ⟨b17, 1, none⟩))]) (by kernel_rfl) ?_
  refine t_v (.ld1 rfl rfl rfl (.at 1 rfl rfl)) ?_
  refine t_qz 2 [4, 15] (σ' := [(4, .pointer (some ⟨b18, 0, none⟩)), (15, .agg #[.int .i64 5, .int .i64 0])]) (by kernel_rfl) ?_
  refine t_sti 0 (cs := [.int .i64 5, .int .i64 0]) rfl rfl rfl rfl rfl rfl rfl rfl rfl ?_
  refine t_keep [4] (σ' := [(4, .pointer (some ⟨b18, 0, none⟩))]) (by kernel_rfl) ?_
  refine t_end ?_
  show W _ _ _ _ _ _ _
  refine w_ret ?_
  exact ⟨[.agg #[.int .i64 5, .int .i64 0]], [], S, ⟨⟨_, _, _, rfl, .at 0 rfl rfl, rfl⟩, trivial⟩, VS.none, rfl, rfl, rfl⟩

def plane_Sub_v2.f  : Option (Unit) := some ()
theorem plane_Sub_v2.ok {S : Seal}  (e : plane_Sub_v2.f  = some ()) :
    Cal Try.prog 116 [.agg #[.int .i64 1, .int .i64 1], .agg #[.int .i64 0, .int .i64 0]] [] S fun v H' S' => v = .agg #[.int .i64 1, .int .i64 1] ∧ H' = [] ∧ S' = S := by
  unfold plane_Sub_v2.f at e
  refine cal_of (c := c116) (N := 16) Try.func116 rfl rfl (by kernel_rfl) (rs := [.cn 2 4]) (by kernel_rfl) (Nat.le_of_ble_eq_true rfl) ?_
  unfold c116
  refine w_seq ?_
  refine w_reg fun all => ?_
  refine t_a (.box rfl rfl rfl) fun b20 fb20 sb20 => ?_
  refine t_a (.box rfl rfl rfl) fun b21 fb21 sb21 => ?_
  refine t_a (.new rfl rfl) fun b22 fb22 sb22 => ?_
  refine t_keep [2, 3, 4] (σ' := [(2, .pointer (some ⟨b20, 0, none⟩)), (3, .pointer (some ⟨b21, 0, none⟩)), (4, .pointer (some ⟨b22, 0, none⟩))]) (by kernel_rfl) ?_
  refine t_end ?_
  show W _ _ _ _ _ _ _
  refine w_seq ?_
  refine w_reg fun all => ?_
  refine t_qz 1 [2, 3, 4, 5] (σ' := [(2, .pointer (some ⟨b20, 0, none⟩)), (3, .pointer (some ⟨b21, 0, none⟩)), (4, .pointer (some ⟨b22, 0, none⟩)), (5, .pointer (some ⟨b20, 0, none⟩))]) (by kernel_rfl) ?_
  refine t_v (.ld1 rfl rfl rfl (.at 2 rfl rfl)) ?_
  refine t_qz 1 [2, 3, 4, 6, 7] (σ' := [(2, .pointer (some ⟨b20, 0, none⟩)), (3, .pointer (some ⟨b21, 0, none⟩)), (4, .pointer (some ⟨b22, 0, none⟩)), (6, .int .i64 1), (7, .pointer (some ⟨b21, 0, none⟩))]) (by kernel_rfl) ?_
  refine t_v (.ld1 rfl rfl rfl (.at 1 rfl rfl)) ?_
  refine t_qz 2 [3, 4, 9, 10] (σ' := [(3, .pointer (some ⟨b21, 0, none⟩)), (4, .pointer (some ⟨b22, 0, none⟩)), (9, .int .i64 1), (10, .pointer (some ⟨b20, 1, none⟩))]) (by kernel_rfl) ?_
  refine t_v (.ld1 rfl rfl rfl (.at 2 rfl rfl)) ?_
  refine t_qz 1 [4, 9, 11, 12] (σ' := [(4, .pointer (some ⟨b22, 0, none⟩)), (9, .int .i64 1), (11, .int .i64 1), (12, .pointer (some ⟨b21, 1, none⟩))]) (by kernel_rfl) ?_
  refine t_v (.ld1 rfl rfl rfl (.at 1 rfl rfl)) ?_
  refine t_qz 2 [4, 15] (σ' := [(4, .pointer (some ⟨b22, 0, none⟩)), (15, .agg #[.int .i64 1, .int .i64 1])]) (by kernel_rfl) ?_
  refine t_sti 0 (cs := [.int .i64 1, .int .i64 1]) rfl rfl rfl rfl rfl rfl rfl rfl rfl ?_
  refine t_keep [4] (σ' := [(4, .pointer (some ⟨b22, 0, none⟩))]) (by kernel_rfl) ?_
  refine t_end ?_
  show W _ _ _ _ _ _ _
  refine w_ret ?_
  exact ⟨[.agg #[.int .i64 1, .int .i64 1]], [], S, ⟨⟨_, _, _, rfl, .at 0 rfl rfl, rfl⟩, trivial⟩, VS.none, rfl, rfl, rfl⟩

/-- plane.Dot -/
def c104 : C :=
  (.seq (.reg [⟨(some 3), .box (.tmp 0), none⟩,
     ⟨(some 4), .box (.tmp 1), none⟩,
     ⟨(some 5), .box (.tmp 2), none⟩,
     ⟨(some 6), .mv (.const (.int .i64 0)), none⟩])
  (.seq (.drw [⟨(some 9), .ld (some 2) (.tmp 4), none⟩,
     ⟨(some 10), .ld (some 2) (.tmp 3), none⟩,
     ⟨(some 11), .call 116 [(.tmp 9), (.tmp 10)], none⟩,
     ⟨(some 12), .ld (some 2) (.tmp 5), none⟩,
     ⟨(some 13), .ld (some 2) (.tmp 3), none⟩,
     ⟨(some 14), .call 116 [(.tmp 12), (.tmp 13)], none⟩,
     ⟨(some 7), .new [(.int .i64 0), (.int .i64 0)], none⟩,
     ⟨(some 8), .new [(.int .i64 0), (.int .i64 0)], none⟩,
     ⟨none, .st 2 (.tmp 7) (.tmp 11), none⟩,
     ⟨none, .st 2 (.tmp 8) (.tmp 14), none⟩] [[], [], [0, 1], [], [], [3, 4, 2], [], [], [6, 2, 5, 0, 1, 2, 6, 7], [7, 5, 8, 0, 1, 2, 3, 4, 5, 6, 7, 8]])
  (.seq (.reg [⟨(some 15), .pad 0 (.tmp 7), none⟩,
     ⟨(some 16), .ld none (.tmp 15), none⟩,
     ⟨(some 17), .pad 0 (.tmp 8), none⟩,
     ⟨(some 18), .ld none (.tmp 17), none⟩,
     ⟨(some 19), .bin .mul (.tmp 16) (.tmp 18), none⟩,
     ⟨(some 20), .pad 1 (.tmp 7), none⟩,
     ⟨(some 21), .ld none (.tmp 20), none⟩,
     ⟨(some 22), .pad 1 (.tmp 8), none⟩,
     ⟨(some 23), .ld none (.tmp 22), none⟩,
     ⟨(some 24), .bin .mul (.tmp 21) (.tmp 23), none⟩,
     ⟨(some 25), .bin .add (.tmp 19) (.tmp 24), none⟩,
     ⟨(some 6), .mv (.tmp 25), none⟩])
  .ret)))
def plane_Dot_v1.f  : Option (Unit) := (plane_Sub_v1.f).bind fun _ => ((plane_Sub_v2.f).bind fun _ => (some ()))
theorem plane_Dot_v1.ok {S : Seal}  (e : plane_Dot_v1.f  = some ()) :
    Cal Try.prog 104 [.agg #[.int .i64 0, .int .i64 0], .agg #[.int .i64 5, .int .i64 0], .agg #[.int .i64 1, .int .i64 1]] [] S fun v H' S' => v = .int .i64 5 ∧ H' = [] ∧ S' = S := by
  unfold plane_Dot_v1.f at e
  refine cal_of (c := c104) (N := 26) Try.func104 rfl rfl (by kernel_rfl) (rs := [.t 6]) (by kernel_rfl) (Nat.le_of_ble_eq_true rfl) ?_
  unfold c104
  refine w_seq ?_
  refine w_reg fun all => ?_
  refine t_a (.box rfl rfl rfl) fun b13 fb13 sb13 => ?_
  refine t_a (.box rfl rfl rfl) fun b14 fb14 sb14 => ?_
  refine t_a (.box rfl rfl rfl) fun b15 fb15 sb15 => ?_
  refine t_qz 1 [3, 4, 5] (σ' := [(3, .pointer (some ⟨b13, 0, none⟩)), (4, .pointer (some ⟨b14, 0, none⟩)), (5, .pointer (some ⟨b15, 0, none⟩))]) (by kernel_rfl) ?_
  refine t_end ?_
  show W _ _ _ _ _ _ _
  refine w_seq ?_
  obtain ⟨u_, h16, e⟩ := bind_of e
  obtain ⟨u_, h17, e⟩ := bind_of e
  refine w_drwE mixed 8 [.v (.agg #[.int .i64 5, .int .i64 0]), .v (.agg #[.int .i64 0, .int .i64 0]), .v (.agg #[.int .i64 5, .int .i64 0]), .v (.agg #[.int .i64 1, .int .i64 1]), .v (.agg #[.int .i64 0, .int .i64 0]), .v (.agg #[.int .i64 1, .int .i64 1]), .a [.int .i64 0, .int .i64 0] ptrTo, .a [.int .i64 0, .int .i64 0] ptrTo] (by kernel_rfl) ?_ ?_
  · refine .cons (.ldn rfl rfl rfl (.at 1 rfl rfl)) ?_
    refine .cons (.ldn rfl rfl rfl (.at 2 rfl rfl)) ?_
    refine .cons (.call (vs := [.agg #[.int .i64 5, .int .i64 0], .agg #[.int .i64 0, .int .i64 0]]) rfl rfl (by kernel_rfl) (plane_Sub_v1.ok h16)) ?_
    refine .cons (.ldn rfl rfl rfl (.at 0 rfl rfl)) ?_
    refine .cons (.ldn rfl rfl rfl (.at 2 rfl rfl)) ?_
    refine .cons (.call (vs := [.agg #[.int .i64 1, .int .i64 1], .agg #[.int .i64 0, .int .i64 0]]) rfl rfl (by kernel_rfl) (plane_Sub_v2.ok h17)) ?_
    refine .cons (.new rfl rfl) ?_
    refine .cons (.new rfl rfl) ?_
    exact .nil
  refine fk_q 6 [11, 14] (σ' := [(11, .agg #[.int .i64 5, .int .i64 0]), (14, .agg #[.int .i64 1, .int .i64 1])]) t_more (by kernel_rfl) ?_
  refine fk_a fun b18 fb18 sb18 => ?_
  refine fk_a fun b19 fb19 sb19 => ?_
  refine fk_nil fun all => ?_
  refine t_sti 1 (cs := [.int .i64 5, .int .i64 0]) rfl rfl rfl rfl rfl rfl rfl rfl rfl ?_
  refine t_sti 0 (cs := [.int .i64 1, .int .i64 1]) rfl rfl rfl rfl rfl rfl rfl rfl rfl ?_
  refine t_keep [7, 8] (σ' := [(7, .pointer (some ⟨b18, 0, none⟩)), (8, .pointer (some ⟨b19, 0, none⟩))]) (by kernel_rfl) ?_
  refine t_end ?_
  show W _ _ _ _ _ _ _
  refine w_seq ?_
  refine w_reg fun all => ?_
  refine t_qz 1 [7, 8, 15] (σ' := [(7, .pointer (some ⟨b18, 0, none⟩)), (8, .pointer (some ⟨b19, 0, none⟩)), (15, .pointer (some ⟨b18, 0, none⟩))]) (by kernel_rfl) ?_
  refine t_v (.ld1 rfl rfl rfl (.at 1 rfl rfl)) ?_
  refine t_qz 1 [7, 8, 16, 17] (σ' := [(7, .pointer (some ⟨b18, 0, none⟩)), (8, .pointer (some ⟨b19, 0, none⟩)), (16, .int .i64 5), (17, .pointer (some ⟨b19, 0, none⟩))]) (by kernel_rfl) ?_
  refine t_v (.ld1 rfl rfl rfl (.at 0 rfl rfl)) ?_
  refine t_qz 2 [8, 19, 20] (σ' := [(8, .pointer (some ⟨b19, 0, none⟩)), (19, .int .i64 5), (20, .pointer (some ⟨b18, 1, none⟩))]) (by kernel_rfl) ?_
  refine t_v (.ld1 rfl rfl rfl (.at 1 rfl rfl)) ?_
  refine t_qz 1 [19, 21, 22] (σ' := [(19, .int .i64 5), (21, .int .i64 0), (22, .pointer (some ⟨b19, 1, none⟩))]) (by kernel_rfl) ?_
  refine t_v (.ld1 rfl rfl rfl (.at 0 rfl rfl)) ?_
  refine t_qz 3 [6] (σ' := [(6, .int .i64 5)]) (by kernel_rfl) ?_
  refine t_end ?_
  show W _ _ _ _ _ _ _
  refine w_ret ?_
  exact ⟨[.int .i64 5], [], S, ⟨rfl, trivial⟩, VS.none, rfl, rfl, rfl⟩

def plane_Dot_v2.f  : Option (Unit) := (plane_Sub_v1.f).bind fun _ => ((plane_Sub_v1.f).bind fun _ => (some ()))
theorem plane_Dot_v2.ok {S : Seal}  (e : plane_Dot_v2.f  = some ()) :
    Cal Try.prog 104 [.agg #[.int .i64 0, .int .i64 0], .agg #[.int .i64 5, .int .i64 0], .agg #[.int .i64 5, .int .i64 0]] [] S fun v H' S' => v = .int .i64 25 ∧ H' = [] ∧ S' = S := by
  unfold plane_Dot_v2.f at e
  refine cal_of (c := c104) (N := 26) Try.func104 rfl rfl (by kernel_rfl) (rs := [.t 6]) (by kernel_rfl) (Nat.le_of_ble_eq_true rfl) ?_
  unfold c104
  refine w_seq ?_
  refine w_reg fun all => ?_
  refine t_a (.box rfl rfl rfl) fun b23 fb23 sb23 => ?_
  refine t_a (.box rfl rfl rfl) fun b24 fb24 sb24 => ?_
  refine t_a (.box rfl rfl rfl) fun b25 fb25 sb25 => ?_
  refine t_qz 1 [3, 4, 5] (σ' := [(3, .pointer (some ⟨b23, 0, none⟩)), (4, .pointer (some ⟨b24, 0, none⟩)), (5, .pointer (some ⟨b25, 0, none⟩))]) (by kernel_rfl) ?_
  refine t_end ?_
  show W _ _ _ _ _ _ _
  refine w_seq ?_
  obtain ⟨u_, h26, e⟩ := bind_of e
  obtain ⟨u_, h27, e⟩ := bind_of e
  refine w_drwE mixed 8 [.v (.agg #[.int .i64 5, .int .i64 0]), .v (.agg #[.int .i64 0, .int .i64 0]), .v (.agg #[.int .i64 5, .int .i64 0]), .v (.agg #[.int .i64 5, .int .i64 0]), .v (.agg #[.int .i64 0, .int .i64 0]), .v (.agg #[.int .i64 5, .int .i64 0]), .a [.int .i64 0, .int .i64 0] ptrTo, .a [.int .i64 0, .int .i64 0] ptrTo] (by kernel_rfl) ?_ ?_
  · refine .cons (.ldn rfl rfl rfl (.at 1 rfl rfl)) ?_
    refine .cons (.ldn rfl rfl rfl (.at 2 rfl rfl)) ?_
    refine .cons (.call (vs := [.agg #[.int .i64 5, .int .i64 0], .agg #[.int .i64 0, .int .i64 0]]) rfl rfl (by kernel_rfl) (plane_Sub_v1.ok h26)) ?_
    refine .cons (.ldn rfl rfl rfl (.at 0 rfl rfl)) ?_
    refine .cons (.ldn rfl rfl rfl (.at 2 rfl rfl)) ?_
    refine .cons (.call (vs := [.agg #[.int .i64 5, .int .i64 0], .agg #[.int .i64 0, .int .i64 0]]) rfl rfl (by kernel_rfl) (plane_Sub_v1.ok h27)) ?_
    refine .cons (.new rfl rfl) ?_
    refine .cons (.new rfl rfl) ?_
    exact .nil
  refine fk_q 6 [11, 14] (σ' := [(11, .agg #[.int .i64 5, .int .i64 0]), (14, .agg #[.int .i64 5, .int .i64 0])]) t_more (by kernel_rfl) ?_
  refine fk_a fun b28 fb28 sb28 => ?_
  refine fk_a fun b29 fb29 sb29 => ?_
  refine fk_nil fun all => ?_
  refine t_sti 1 (cs := [.int .i64 5, .int .i64 0]) rfl rfl rfl rfl rfl rfl rfl rfl rfl ?_
  refine t_sti 0 (cs := [.int .i64 5, .int .i64 0]) rfl rfl rfl rfl rfl rfl rfl rfl rfl ?_
  refine t_keep [7, 8] (σ' := [(7, .pointer (some ⟨b28, 0, none⟩)), (8, .pointer (some ⟨b29, 0, none⟩))]) (by kernel_rfl) ?_
  refine t_end ?_
  show W _ _ _ _ _ _ _
  refine w_seq ?_
  refine w_reg fun all => ?_
  refine t_qz 1 [7, 8, 15] (σ' := [(7, .pointer (some ⟨b28, 0, none⟩)), (8, .pointer (some ⟨b29, 0, none⟩)), (15, .pointer (some ⟨b28, 0, none⟩))]) (by kernel_rfl) ?_
  refine t_v (.ld1 rfl rfl rfl (.at 1 rfl rfl)) ?_
  refine t_qz 1 [7, 8, 16, 17] (σ' := [(7, .pointer (some ⟨b28, 0, none⟩)), (8, .pointer (some ⟨b29, 0, none⟩)), (16, .int .i64 5), (17, .pointer (some ⟨b29, 0, none⟩))]) (by kernel_rfl) ?_
  refine t_v (.ld1 rfl rfl rfl (.at 0 rfl rfl)) ?_
  refine t_qz 2 [8, 19, 20] (σ' := [(8, .pointer (some ⟨b29, 0, none⟩)), (19, .int .i64 25), (20, .pointer (some ⟨b28, 1, none⟩))]) (by kernel_rfl) ?_
  refine t_v (.ld1 rfl rfl rfl (.at 1 rfl rfl)) ?_
  refine t_qz 1 [19, 21, 22] (σ' := [(19, .int .i64 25), (21, .int .i64 0), (22, .pointer (some ⟨b29, 1, none⟩))]) (by kernel_rfl) ?_
  refine t_v (.ld1 rfl rfl rfl (.at 0 rfl rfl)) ?_
  refine t_qz 3 [6] (σ' := [(6, .int .i64 25)]) (by kernel_rfl) ?_
  refine t_end ?_
  show W _ _ _ _ _ _ _
  refine w_ret ?_
  exact ⟨[.int .i64 25], [], S, ⟨rfl, trivial⟩, VS.none, rfl, rfl, rfl⟩

/-- plane.Len2 -/
def c90 : C :=
  (.seq (.reg [⟨(some 2), .box (.tmp 0), none⟩,
     ⟨(some 3), .box (.tmp 1), none⟩,
     ⟨(some 4), .mv (.const (.int .i64 0)), none⟩])
  (.seq (.reg [⟨(some 5), .ld (some 2) (.tmp 2), none⟩,
     ⟨(some 6), .ld (some 2) (.tmp 3), none⟩,
     ⟨(some 7), .ld (some 2) (.tmp 3), none⟩,
     ⟨(some 8), .call 104 [(.tmp 5), (.tmp 6), (.tmp 7)], none⟩,
     ⟨(some 4), .mv (.tmp 8), none⟩])
  .ret))
def plane_Len2_v1.f  : Option (Unit) := (plane_Dot_v2.f).bind fun _ => (some ())
theorem plane_Len2_v1.ok {S : Seal}  (e : plane_Len2_v1.f  = some ()) :
    Cal Try.prog 90 [.agg #[.int .i64 0, .int .i64 0], .agg #[.int .i64 5, .int .i64 0]] [] S fun v H' S' => v = .int .i64 25 ∧ H' = [] ∧ S' = S := by
  unfold plane_Len2_v1.f at e
  refine cal_of (c := c90) (N := 9) Try.func90 rfl rfl (by kernel_rfl) (rs := [.t 4]) (by kernel_rfl) (Nat.le_of_ble_eq_true rfl) ?_
  unfold c90
  refine w_seq ?_
  refine w_reg fun all => ?_
  refine t_a (.box rfl rfl rfl) fun b21 fb21 sb21 => ?_
  refine t_a (.box rfl rfl rfl) fun b22 fb22 sb22 => ?_
  refine t_qz 1 [2, 3] (σ' := [(2, .pointer (some ⟨b21, 0, none⟩)), (3, .pointer (some ⟨b22, 0, none⟩))]) (by kernel_rfl) ?_
  refine t_end ?_
  show W _ _ _ _ _ _ _
  refine w_seq ?_
  refine w_reg fun all => ?_
  refine t_v (.ldn rfl rfl rfl (.at 1 rfl rfl)) ?_
  refine t_v (.ldn rfl rfl rfl (.at 0 rfl rfl)) ?_
  refine t_v (.ldn rfl rfl rfl (.at 0 rfl rfl)) ?_
  obtain ⟨u_, h30, e⟩ := bind_of e
  refine t_v (.call (vs := [.agg #[.int .i64 0, .int .i64 0], .agg #[.int .i64 5, .int .i64 0], .agg #[.int .i64 5, .int .i64 0]]) rfl rfl (by kernel_rfl) (plane_Dot_v2.ok h30)) ?_
  refine t_qz 1 [4] (σ' := [(4, .int .i64 25)]) (by kernel_rfl) ?_
  refine t_end ?_
  show W _ _ _ _ _ _ _
  refine w_ret ?_
  exact ⟨[.int .i64 25], [], S, ⟨rfl, trivial⟩, VS.none, rfl, rfl, rfl⟩

/-- plane.Cross -/
def c106 : C :=
  (.seq (.reg [⟨(some 3), .box (.tmp 0), none⟩,
     ⟨(some 4), .box (.tmp 1), none⟩,
     ⟨(some 5), .box (.tmp 2), none⟩,
     ⟨(some 6), .mv (.const (.int .i64 0)), none⟩])
  (.seq (.drw [⟨(some 9), .ld (some 2) (.tmp 4), none⟩,
     ⟨(some 10), .ld (some 2) (.tmp 3), none⟩,
     ⟨(some 11), .call 116 [(.tmp 9), (.tmp 10)], none⟩,
     ⟨(some 12), .ld (some 2) (.tmp 5), none⟩,
     ⟨(some 13), .ld (some 2) (.tmp 3), none⟩,
     ⟨(some 14), .call 116 [(.tmp 12), (.tmp 13)], none⟩,
     ⟨(some 7), .new [(.int .i64 0), (.int .i64 0)], none⟩,
     ⟨(some 8), .new [(.int .i64 0), (.int .i64 0)], none⟩,
     ⟨none, .st 2 (.tmp 7) (.tmp 11), none⟩,
     ⟨none, .st 2 (.tmp 8) (.tmp 14), none⟩] [[], [], [0, 1], [], [], [3, 4, 2], [], [], [6, 2, 5, 0, 1, 2, 6, 7], [7, 5, 8, 0, 1, 2, 3, 4, 5, 6, 7, 8]])
  (.seq (.reg [⟨(some 15), .pad 0 (.tmp 7), none⟩,
     ⟨(some 16), .ld none (.tmp 15), none⟩,
     ⟨(some 17), .pad 1 (.tmp 8), none⟩,
     ⟨(some 18), .ld none (.tmp 17), none⟩,
     ⟨(some 19), .bin .mul (.tmp 16) (.tmp 18), none⟩,
     ⟨(some 20), .pad 1 (.tmp 7), none⟩,
     ⟨(some 21), .ld none (.tmp 20), none⟩,
     ⟨(some 22), .pad 0 (.tmp 8), none⟩,
     ⟨(some 23), .ld none (.tmp 22), none⟩,
     ⟨(some 24), .bin .mul (.tmp 21) (.tmp 23), none⟩,
     ⟨(some 25), .bin .sub (.tmp 19) (.tmp 24), none⟩,
     ⟨(some 6), .mv (.tmp 25), none⟩])
  .ret)))
def plane_Cross_v1.f  : Option (Unit) := (plane_Sub_v1.f).bind fun _ => ((plane_Sub_v2.f).bind fun _ => (some ()))
theorem plane_Cross_v1.ok {S : Seal}  (e : plane_Cross_v1.f  = some ()) :
    Cal Try.prog 106 [.agg #[.int .i64 0, .int .i64 0], .agg #[.int .i64 5, .int .i64 0], .agg #[.int .i64 1, .int .i64 1]] [] S fun v H' S' => v = .int .i64 5 ∧ H' = [] ∧ S' = S := by
  unfold plane_Cross_v1.f at e
  refine cal_of (c := c106) (N := 26) Try.func106 rfl rfl (by kernel_rfl) (rs := [.t 6]) (by kernel_rfl) (Nat.le_of_ble_eq_true rfl) ?_
  unfold c106
  refine w_seq ?_
  refine w_reg fun all => ?_
  refine t_a (.box rfl rfl rfl) fun b15 fb15 sb15 => ?_
  refine t_a (.box rfl rfl rfl) fun b16 fb16 sb16 => ?_
  refine t_a (.box rfl rfl rfl) fun b17 fb17 sb17 => ?_
  refine t_qz 1 [3, 4, 5] (σ' := [(3, .pointer (some ⟨b15, 0, none⟩)), (4, .pointer (some ⟨b16, 0, none⟩)), (5, .pointer (some ⟨b17, 0, none⟩))]) (by kernel_rfl) ?_
  refine t_end ?_
  show W _ _ _ _ _ _ _
  refine w_seq ?_
  obtain ⟨u_, h18, e⟩ := bind_of e
  obtain ⟨u_, h19, e⟩ := bind_of e
  refine w_drwE mixed 8 [.v (.agg #[.int .i64 5, .int .i64 0]), .v (.agg #[.int .i64 0, .int .i64 0]), .v (.agg #[.int .i64 5, .int .i64 0]), .v (.agg #[.int .i64 1, .int .i64 1]), .v (.agg #[.int .i64 0, .int .i64 0]), .v (.agg #[.int .i64 1, .int .i64 1]), .a [.int .i64 0, .int .i64 0] ptrTo, .a [.int .i64 0, .int .i64 0] ptrTo] (by kernel_rfl) ?_ ?_
  · refine .cons (.ldn rfl rfl rfl (.at 1 rfl rfl)) ?_
    refine .cons (.ldn rfl rfl rfl (.at 2 rfl rfl)) ?_
    refine .cons (.call (vs := [.agg #[.int .i64 5, .int .i64 0], .agg #[.int .i64 0, .int .i64 0]]) rfl rfl (by kernel_rfl) (plane_Sub_v1.ok h18)) ?_
    refine .cons (.ldn rfl rfl rfl (.at 0 rfl rfl)) ?_
    refine .cons (.ldn rfl rfl rfl (.at 2 rfl rfl)) ?_
    refine .cons (.call (vs := [.agg #[.int .i64 1, .int .i64 1], .agg #[.int .i64 0, .int .i64 0]]) rfl rfl (by kernel_rfl) (plane_Sub_v2.ok h19)) ?_
    refine .cons (.new rfl rfl) ?_
    refine .cons (.new rfl rfl) ?_
    exact .nil
  refine fk_q 6 [11, 14] (σ' := [(11, .agg #[.int .i64 5, .int .i64 0]), (14, .agg #[.int .i64 1, .int .i64 1])]) t_more (by kernel_rfl) ?_
  refine fk_a fun b20 fb20 sb20 => ?_
  refine fk_a fun b21 fb21 sb21 => ?_
  refine fk_nil fun all => ?_
  refine t_sti 1 (cs := [.int .i64 5, .int .i64 0]) rfl rfl rfl rfl rfl rfl rfl rfl rfl ?_
  refine t_sti 0 (cs := [.int .i64 1, .int .i64 1]) rfl rfl rfl rfl rfl rfl rfl rfl rfl ?_
  refine t_keep [7, 8] (σ' := [(7, .pointer (some ⟨b20, 0, none⟩)), (8, .pointer (some ⟨b21, 0, none⟩))]) (by kernel_rfl) ?_
  refine t_end ?_
  show W _ _ _ _ _ _ _
  refine w_seq ?_
  refine w_reg fun all => ?_
  refine t_qz 1 [7, 8, 15] (σ' := [(7, .pointer (some ⟨b20, 0, none⟩)), (8, .pointer (some ⟨b21, 0, none⟩)), (15, .pointer (some ⟨b20, 0, none⟩))]) (by kernel_rfl) ?_
  refine t_v (.ld1 rfl rfl rfl (.at 1 rfl rfl)) ?_
  refine t_qz 1 [7, 8, 16, 17] (σ' := [(7, .pointer (some ⟨b20, 0, none⟩)), (8, .pointer (some ⟨b21, 0, none⟩)), (16, .int .i64 5), (17, .pointer (some ⟨b21, 1, none⟩))]) (by kernel_rfl) ?_
  refine t_v (.ld1 rfl rfl rfl (.at 0 rfl rfl)) ?_
  refine t_qz 2 [8, 19, 20] (σ' := [(8, .pointer (some ⟨b21, 0, none⟩)), (19, .int .i64 5), (20, .pointer (some ⟨b20, 1, none⟩))]) (by kernel_rfl) ?_
  refine t_v (.ld1 rfl rfl rfl (.at 1 rfl rfl)) ?_
  refine t_qz 1 [19, 21, 22] (σ' := [(19, .int .i64 5), (21, .int .i64 0), (22, .pointer (some ⟨b21, 0, none⟩))]) (by kernel_rfl) ?_
  refine t_v (.ld1 rfl rfl rfl (.at 0 rfl rfl)) ?_
  refine t_qz 3 [6] (σ' := [(6, .int .i64 5)]) (by kernel_rfl) ?_
  refine t_end ?_
  show W _ _ _ _ _ _ _
  refine w_ret ?_
  exact ⟨[.int .i64 5], [], S, ⟨rfl, trivial⟩, VS.none, rfl, rfl, rfl⟩

/-- plane.within$1 -/
def c117 : C :=
  (.seq (.reg [⟨(some 2), .mv (.const (.int .u64 0)), none⟩])
  (.seq (.reg [⟨(some 3), .mv (.tmp 0), none⟩,
     ⟨(some 4), .mv (.tmp 0), none⟩,
     ⟨(some 5), .un .neg (.tmp 4), none⟩,
     ⟨(some 6), .mm true [(.tmp 3), (.tmp 5)], none⟩,
     ⟨(some 7), .cnv .u64 (.tmp 6), none⟩,
     ⟨(some 2), .mv (.tmp 7), none⟩])
  .ret))
def plane_within_1_v1.f  : Option (Unit) := some ()
theorem plane_within_1_v1.ok {S : Seal}  (e : plane_within_1_v1.f  = some ()) :
    Cal Try.prog 117 [.int .i64 10] [] S fun v H' S' => v = .int .u64 10 ∧ H' = [] ∧ S' = S := by
  unfold plane_within_1_v1.f at e
  refine cal_of (c := c117) (N := 8) Try.func117 rfl rfl (by kernel_rfl) (rs := [.t 2]) (by kernel_rfl) (Nat.le_of_ble_eq_true rfl) ?_
  unfold c117
  refine w_seq ?_
  refine w_reg fun all => ?_
  refine t_qz 1 [0] (σ' := [(0, .int .i64 10)]) (by kernel_rfl) ?_
  refine t_end ?_
  show W _ _ _ _ _ _ _
  refine w_seq ?_
  refine w_reg fun all => ?_
  refine t_qz 6 [2] (σ' := [(2, .int .u64 10)]) (by kernel_rfl) ?_
  refine t_end ?_
  show W _ _ _ _ _ _ _
  refine w_ret ?_
  exact ⟨[.int .u64 10], [], S, ⟨rfl, trivial⟩, VS.none, rfl, rfl, rfl⟩

/-- math/bits.Mul64 -/
def c81 : C :=
  (.seq (.reg [⟨(some 4), .mv (.const (.int .u64 0)), none⟩,
     ⟨(some 5), .mv (.const (.int .u64 0)), none⟩])
  (.seq (.reg [⟨(some 14), .mv (.tmp 0), none⟩,
     ⟨(some 15), .bin .and (.tmp 14) (.const (.int .u64 4294967295)), none⟩,
     ⟨(some 6), .mv (.tmp 15), none⟩])
  (.seq (.reg [⟨(some 16), .mv (.tmp 0), none⟩,
     ⟨(some 17), .bin .shr (.tmp 16) (.const (.int .u64 32)), none⟩,
     ⟨(some 7), .mv (.tmp 17), none⟩])
  (.seq (.reg [⟨(some 18), .mv (.tmp 1), none⟩,
     ⟨(some 19), .bin .and (.tmp 18) (.const (.int .u64 4294967295)), none⟩,
     ⟨(some 8), .mv (.tmp 19), none⟩])
  (.seq (.reg [⟨(some 20), .mv (.tmp 1), none⟩,
     ⟨(some 21), .bin .shr (.tmp 20) (.const (.int .u64 32)), none⟩,
     ⟨(some 9), .mv (.tmp 21), none⟩])
  (.seq (.reg [⟨(some 22), .mv (.tmp 6), none⟩,
     ⟨(some 23), .mv (.tmp 8), none⟩,
     ⟨(some 24), .bin .mul (.tmp 22) (.tmp 23), none⟩,
     ⟨(some 10), .mv (.tmp 24), none⟩])
  (.seq (.reg [⟨(some 25), .mv (.tmp 7), none⟩,
     ⟨(some 26), .mv (.tmp 8), none⟩,
     ⟨(some 27), .bin .mul (.tmp 25) (.tmp 26), none⟩,
     ⟨(some 28), .mv (.tmp 10), none⟩,
     ⟨(some 29), .bin .shr (.tmp 28) (.const (.int .u64 32)), none⟩,
     ⟨(some 30), .bin .add (.tmp 27) (.tmp 29), none⟩,
     ⟨(some 11), .mv (.tmp 30), none⟩])
  (.seq (.reg [⟨(some 31), .mv (.tmp 11), none⟩,
     ⟨(some 32), .bin .and (.tmp 31) (.const (.int .u64 4294967295)), none⟩,
     ⟨(some 12), .mv (.tmp 32), none⟩])
  (.seq (.reg [⟨(some 33), .mv (.tmp 11), none⟩,
     ⟨(some 34), .bin .shr (.tmp 33) (.const (.int .u64 32)), none⟩,
     ⟨(some 13), .mv (.tmp 34), none⟩])
  (.seq (.reg [⟨(some 35), .mv (.tmp 12), none⟩,
     ⟨(some 36), .mv (.tmp 6), none⟩,
     ⟨(some 37), .mv (.tmp 9), none⟩,
     ⟨(some 38), .bin .mul (.tmp 36) (.tmp 37), none⟩,
     ⟨(some 39), .bin .add (.tmp 35) (.tmp 38), none⟩,
     ⟨(some 12), .mv (.tmp 39), none⟩])
  (.seq (.reg [⟨(some 40), .mv (.tmp 7), none⟩,
     ⟨(some 41), .mv (.tmp 9), none⟩,
     ⟨(some 42), .bin .mul (.tmp 40) (.tmp 41), none⟩,
     ⟨(some 43), .mv (.tmp 13), none⟩,
     ⟨(some 44), .bin .add (.tmp 42) (.tmp 43), none⟩,
     ⟨(some 45), .mv (.tmp 12), none⟩,
     ⟨(some 46), .bin .shr (.tmp 45) (.const (.int .u64 32)), none⟩,
     ⟨(some 47), .bin .add (.tmp 44) (.tmp 46), none⟩,
     ⟨(some 4), .mv (.tmp 47), none⟩])
  (.seq (.reg [⟨(some 48), .mv (.tmp 0), none⟩,
     ⟨(some 49), .mv (.tmp 1), none⟩,
     ⟨(some 50), .bin .mul (.tmp 48) (.tmp 49), none⟩,
     ⟨(some 5), .mv (.tmp 50), none⟩])
  .ret))))))))))))
def bits_Mul64_v1.f  : Option (Unit) := some ()
theorem bits_Mul64_v1.ok {S : Seal}  (e : bits_Mul64_v1.f  = some ()) :
    Cal Try.prog 81 [.int .u64 10, .int .u64 10] [] S fun v H' S' => v = .tuple #[.int .u64 0, .int .u64 100] ∧ H' = [] ∧ S' = S := by
  unfold bits_Mul64_v1.f at e
  refine cal_of (c := c81) (N := 51) Try.func81 rfl rfl (by kernel_rfl) (rs := [.t 4, .t 5]) (by kernel_rfl) (Nat.le_of_ble_eq_true rfl) ?_
  unfold c81
  refine w_seq ?_
  refine w_reg fun all => ?_
  refine t_qz 2 [0, 1] (σ' := [(0, .int .u64 10), (1, .int .u64 10)]) (by kernel_rfl) ?_
  refine t_end ?_
  show W _ _ _ _ _ _ _
  refine w_seq ?_
  refine w_reg fun all => ?_
  refine t_qz 3 [0, 1, 6] (σ' := [(0, .int .u64 10), (1, .int .u64 10), (6, .int .u64 10)]) (by kernel_rfl) ?_
  refine t_end ?_
  show W _ _ _ _ _ _ _
  refine w_seq ?_
  refine w_reg fun all => ?_
  refine t_qz 3 [0, 1, 6, 7] (σ' := [(0, .int .u64 10), (1, .int .u64 10), (6, .int .u64 10), (7, .int .u64 0)]) (by kernel_rfl) ?_
  refine t_end ?_
  show W _ _ _ _ _ _ _
  refine w_seq ?_
  refine w_reg fun all => ?_
  refine t_qz 3 [0, 1, 6, 7, 8] (σ' := [(0, .int .u64 10), (1, .int .u64 10), (6, .int .u64 10), (7, .int .u64 0), (8, .int .u64 10)]) (by kernel_rfl) ?_
  refine t_end ?_
  show W _ _ _ _ _ _ _
  refine w_seq ?_
  refine w_reg fun all => ?_
  refine t_qz 3 [0, 1, 6, 7, 8, 9] (σ' := [(0, .int .u64 10), (1, .int .u64 10), (6, .int .u64 10), (7, .int .u64 0), (8, .int .u64 10), (9, .int .u64 0)]) (by kernel_rfl) ?_
  refine t_end ?_
  show W _ _ _ _ _ _ _
  refine w_seq ?_
  refine w_reg fun all => ?_
  refine t_qz 4 [0, 1, 6, 7, 8, 9, 10] (σ' := [(0, .int .u64 10), (1, .int .u64 10), (6, .int .u64 10), (7, .int .u64 0), (8, .int .u64 10), (9, .int .u64 0), (10, .int .u64 100)]) (by kernel_rfl) ?_
  refine t_end ?_
  show W _ _ _ _ _ _ _
  refine w_seq ?_
  refine w_reg fun all => ?_
  refine t_qz 7 [0, 1, 6, 7, 9, 11] (σ' := [(0, .int .u64 10), (1, .int .u64 10), (6, .int .u64 10), (7, .int .u64 0), (9, .int .u64 0), (11, .int .u64 0)]) (by kernel_rfl) ?_
  refine t_end ?_
  show W _ _ _ _ _ _ _
  refine w_seq ?_
  refine w_reg fun all => ?_
  refine t_qz 3 [0, 1, 6, 7, 9, 11, 12] (σ' := [(0, .int .u64 10), (1, .int .u64 10), (6, .int .u64 10), (7, .int .u64 0), (9, .int .u64 0), (11, .int .u64 0), (12, .int .u64 0)]) (by kernel_rfl) ?_
  refine t_end ?_
  show W _ _ _ _ _ _ _
  refine w_seq ?_
  refine w_reg fun all => ?_
  refine t_qz 3 [0, 1, 6, 7, 9, 12, 13] (σ' := [(0, .int .u64 10), (1, .int .u64 10), (6, .int .u64 10), (7, .int .u64 0), (9, .int .u64 0), (12, .int .u64 0), (13, .int .u64 0)]) (by kernel_rfl) ?_
  refine t_end ?_
  show W _ _ _ _ _ _ _
  refine w_seq ?_
  refine w_reg fun all => ?_
  refine t_qz 6 [0, 1, 7, 9, 12, 13] (σ' := [(0, .int .u64 10), (1, .int .u64 10), (7, .int .u64 0), (9, .int .u64 0), (12, .int .u64 0), (13, .int .u64 0)]) (by kernel_rfl) ?_
  refine t_end ?_
  show W _ _ _ _ _ _ _
  refine w_seq ?_
  refine w_reg fun all => ?_
  refine t_qz 9 [0, 1, 4] (σ' := [(0, .int .u64 10), (1, .int .u64 10), (4, .int .u64 0)]) (by kernel_rfl) ?_
  refine t_end ?_
  show W _ _ _ _ _ _ _
  refine w_seq ?_
  refine w_reg fun all => ?_
  refine t_qz 4 [4, 5] (σ' := [(4, .int .u64 0), (5, .int .u64 100)]) (by kernel_rfl) ?_
  refine t_end ?_
  show W _ _ _ _ _ _ _
  refine w_ret ?_
  exact ⟨[.int .u64 0, .int .u64 100], [], S, ⟨rfl, rfl, trivial⟩, VS.none, rfl, rfl, rfl⟩

def plane_within_1_v2.f  : Option (Unit) := some ()
theorem plane_within_1_v2.ok {S : Seal}  (e : plane_within_1_v2.f  = some ()) :
    Cal Try.prog 117 [.int .i64 4] [] S fun v H' S' => v = .int .u64 4 ∧ H' = [] ∧ S' = S := by
  unfold plane_within_1_v2.f at e
  refine cal_of (c := c117) (N := 8) Try.func117 rfl rfl (by kernel_rfl) (rs := [.t 2]) (by kernel_rfl) (Nat.le_of_ble_eq_true rfl) ?_
  unfold c117
  refine w_seq ?_
  refine w_reg fun all => ?_
  refine t_qz 1 [0] (σ' := [(0, .int .i64 4)]) (by kernel_rfl) ?_
  refine t_end ?_
  show W _ _ _ _ _ _ _
  refine w_seq ?_
  refine w_reg fun all => ?_
  refine t_qz 6 [2] (σ' := [(2, .int .u64 4)]) (by kernel_rfl) ?_
  refine t_end ?_
  show W _ _ _ _ _ _ _
  refine w_ret ?_
  exact ⟨[.int .u64 4], [], S, ⟨rfl, trivial⟩, VS.none, rfl, rfl, rfl⟩

def plane_within_1_v3.f  : Option (Unit) := some ()
theorem plane_within_1_v3.ok {S : Seal}  (e : plane_within_1_v3.f  = some ()) :
    Cal Try.prog 117 [.int .i64 25] [] S fun v H' S' => v = .int .u64 25 ∧ H' = [] ∧ S' = S := by
  unfold plane_within_1_v3.f at e
  refine cal_of (c := c117) (N := 8) Try.func117 rfl rfl (by kernel_rfl) (rs := [.t 2]) (by kernel_rfl) (Nat.le_of_ble_eq_true rfl) ?_
  unfold c117
  refine w_seq ?_
  refine w_reg fun all => ?_
  refine t_qz 1 [0] (σ' := [(0, .int .i64 25)]) (by kernel_rfl) ?_
  refine t_end ?_
  show W _ _ _ _ _ _ _
  refine w_seq ?_
  refine w_reg fun all => ?_
  refine t_qz 6 [2] (σ' := [(2, .int .u64 25)]) (by kernel_rfl) ?_
  refine t_end ?_
  show W _ _ _ _ _ _ _
  refine w_ret ?_
  exact ⟨[.int .u64 25], [], S, ⟨rfl, trivial⟩, VS.none, rfl, rfl, rfl⟩

def bits_Mul64_v2.f  : Option (Unit) := some ()
theorem bits_Mul64_v2.ok {S : Seal}  (e : bits_Mul64_v2.f  = some ()) :
    Cal Try.prog 81 [.int .u64 4, .int .u64 25] [] S fun v H' S' => v = .tuple #[.int .u64 0, .int .u64 100] ∧ H' = [] ∧ S' = S := by
  unfold bits_Mul64_v2.f at e
  refine cal_of (c := c81) (N := 51) Try.func81 rfl rfl (by kernel_rfl) (rs := [.t 4, .t 5]) (by kernel_rfl) (Nat.le_of_ble_eq_true rfl) ?_
  unfold c81
  refine w_seq ?_
  refine w_reg fun all => ?_
  refine t_qz 2 [0, 1] (σ' := [(0, .int .u64 4), (1, .int .u64 25)]) (by kernel_rfl) ?_
  refine t_end ?_
  show W _ _ _ _ _ _ _
  refine w_seq ?_
  refine w_reg fun all => ?_
  refine t_qz 3 [0, 1, 6] (σ' := [(0, .int .u64 4), (1, .int .u64 25), (6, .int .u64 4)]) (by kernel_rfl) ?_
  refine t_end ?_
  show W _ _ _ _ _ _ _
  refine w_seq ?_
  refine w_reg fun all => ?_
  refine t_qz 3 [0, 1, 6, 7] (σ' := [(0, .int .u64 4), (1, .int .u64 25), (6, .int .u64 4), (7, .int .u64 0)]) (by kernel_rfl) ?_
  refine t_end ?_
  show W _ _ _ _ _ _ _
  refine w_seq ?_
  refine w_reg fun all => ?_
  refine t_qz 3 [0, 1, 6, 7, 8] (σ' := [(0, .int .u64 4), (1, .int .u64 25), (6, .int .u64 4), (7, .int .u64 0), (8, .int .u64 25)]) (by kernel_rfl) ?_
  refine t_end ?_
  show W _ _ _ _ _ _ _
  refine w_seq ?_
  refine w_reg fun all => ?_
  refine t_qz 3 [0, 1, 6, 7, 8, 9] (σ' := [(0, .int .u64 4), (1, .int .u64 25), (6, .int .u64 4), (7, .int .u64 0), (8, .int .u64 25), (9, .int .u64 0)]) (by kernel_rfl) ?_
  refine t_end ?_
  show W _ _ _ _ _ _ _
  refine w_seq ?_
  refine w_reg fun all => ?_
  refine t_qz 4 [0, 1, 6, 7, 8, 9, 10] (σ' := [(0, .int .u64 4), (1, .int .u64 25), (6, .int .u64 4), (7, .int .u64 0), (8, .int .u64 25), (9, .int .u64 0), (10, .int .u64 100)]) (by kernel_rfl) ?_
  refine t_end ?_
  show W _ _ _ _ _ _ _
  refine w_seq ?_
  refine w_reg fun all => ?_
  refine t_qz 7 [0, 1, 6, 7, 9, 11] (σ' := [(0, .int .u64 4), (1, .int .u64 25), (6, .int .u64 4), (7, .int .u64 0), (9, .int .u64 0), (11, .int .u64 0)]) (by kernel_rfl) ?_
  refine t_end ?_
  show W _ _ _ _ _ _ _
  refine w_seq ?_
  refine w_reg fun all => ?_
  refine t_qz 3 [0, 1, 6, 7, 9, 11, 12] (σ' := [(0, .int .u64 4), (1, .int .u64 25), (6, .int .u64 4), (7, .int .u64 0), (9, .int .u64 0), (11, .int .u64 0), (12, .int .u64 0)]) (by kernel_rfl) ?_
  refine t_end ?_
  show W _ _ _ _ _ _ _
  refine w_seq ?_
  refine w_reg fun all => ?_
  refine t_qz 3 [0, 1, 6, 7, 9, 12, 13] (σ' := [(0, .int .u64 4), (1, .int .u64 25), (6, .int .u64 4), (7, .int .u64 0), (9, .int .u64 0), (12, .int .u64 0), (13, .int .u64 0)]) (by kernel_rfl) ?_
  refine t_end ?_
  show W _ _ _ _ _ _ _
  refine w_seq ?_
  refine w_reg fun all => ?_
  refine t_qz 6 [0, 1, 7, 9, 12, 13] (σ' := [(0, .int .u64 4), (1, .int .u64 25), (7, .int .u64 0), (9, .int .u64 0), (12, .int .u64 0), (13, .int .u64 0)]) (by kernel_rfl) ?_
  refine t_end ?_
  show W _ _ _ _ _ _ _
  refine w_seq ?_
  refine w_reg fun all => ?_
  refine t_qz 9 [0, 1, 4] (σ' := [(0, .int .u64 4), (1, .int .u64 25), (4, .int .u64 0)]) (by kernel_rfl) ?_
  refine t_end ?_
  show W _ _ _ _ _ _ _
  refine w_seq ?_
  refine w_reg fun all => ?_
  refine t_qz 4 [4, 5] (σ' := [(4, .int .u64 0), (5, .int .u64 100)]) (by kernel_rfl) ?_
  refine t_end ?_
  show W _ _ _ _ _ _ _
  refine w_ret ?_
  exact ⟨[.int .u64 0, .int .u64 100], [], S, ⟨rfl, rfl, trivial⟩, VS.none, rfl, rfl, rfl⟩

/-- plane.within -/
def c105 : C :=
  (.seq (.reg [⟨(some 8), .mv (.const (.bool false)), none⟩])
  (.seq (.reg [⟨(some 9), .mv (.func 117), none⟩])
  (.seq (.reg [⟨(some 15), .mv (.tmp 9), none⟩,
     ⟨(some 16), .mv (.tmp 0), none⟩,
     ⟨(some 17), .clo (.tmp 15) [(.tmp 16)], none⟩,
     ⟨(some 18), .mv (.tmp 9), none⟩,
     ⟨(some 19), .mv (.tmp 1), none⟩,
     ⟨(some 20), .clo (.tmp 18) [(.tmp 19)], none⟩,
     ⟨(some 21), .call 81 [(.tmp 17), (.tmp 20)], none⟩,
     ⟨(some 14), .mv (.tmp 21), none⟩,
     ⟨(some 22), .xt 0 (.tmp 14), none⟩,
     ⟨(some 23), .xt 1 (.tmp 14), none⟩,
     ⟨(some 10), .mv (.tmp 22), none⟩,
     ⟨(some 11), .mv (.tmp 23), none⟩])
  (.seq (.reg [⟨(some 25), .mv (.tmp 9), none⟩,
     ⟨(some 26), .mv (.tmp 2), none⟩,
     ⟨(some 27), .clo (.tmp 25) [(.tmp 26)], none⟩,
     ⟨(some 28), .mv (.tmp 9), none⟩,
     ⟨(some 29), .mv (.tmp 3), none⟩,
     ⟨(some 30), .clo (.tmp 28) [(.tmp 29)], none⟩,
     ⟨(some 31), .call 81 [(.tmp 27), (.tmp 30)], none⟩,
     ⟨(some 24), .mv (.tmp 31), none⟩,
     ⟨(some 32), .xt 0 (.tmp 24), none⟩,
     ⟨(some 33), .xt 1 (.tmp 24), none⟩,
     ⟨(some 12), .mv (.tmp 32), none⟩,
     ⟨(some 13), .mv (.tmp 33), none⟩])
  (.seq (.reg [⟨(some 34), .mv (.tmp 10), none⟩,
     ⟨(some 35), .mv (.tmp 12), none⟩,
     ⟨(some 36), .bin .lss (.tmp 34) (.tmp 35), none⟩,
     ⟨(some 37), .mv (.tmp 36), none⟩,
     ⟨(some 38), .mv (.tmp 10), (some (37, false))⟩,
     ⟨(some 39), .mv (.tmp 12), (some (37, false))⟩,
     ⟨(some 40), .bin .eql (.tmp 38) (.tmp 39), (some (37, false))⟩,
     ⟨(some 41), .mv (.tmp 40), (some (37, false))⟩,
     ⟨(some 42), .mv (.tmp 11), (some (41, true))⟩,
     ⟨(some 43), .mv (.tmp 13), (some (41, true))⟩,
     ⟨(some 44), .bin .leq (.tmp 42) (.tmp 43), (some (41, true))⟩,
     ⟨(some 45), .pk (.tmp 41) (.tmp 44) (.const (.bool false)), (some (37, false))⟩,
     ⟨(some 46), .pk (.tmp 37) (.const (.bool true)) (.tmp 45), none⟩,
     ⟨(some 8), .mv (.tmp 46), none⟩])
  .ret)))))
def plane_within_v1.f  : Option (Unit) := (plane_within_1_v1.f).bind fun _ => ((plane_within_1_v1.f).bind fun _ => ((bits_Mul64_v1.f).bind fun _ => ((plane_within_1_v2.f).bind fun _ => ((plane_within_1_v3.f).bind fun _ => ((bits_Mul64_v2.f).bind fun _ => (some ()))))))
theorem plane_within_v1.ok {S : Seal}  (e : plane_within_v1.f  = some ()) :
    Cal Try.prog 105 [.int .i64 10, .int .i64 10, .int .i64 4, .int .i64 25] [] S fun v H' S' => v = .bool true ∧ H' = [] ∧ S' = S := by
  unfold plane_within_v1.f at e
  refine cal_of (c := c105) (N := 47) Try.func105 rfl rfl (by kernel_rfl) (rs := [.t 8]) (by kernel_rfl) (Nat.le_of_ble_eq_true rfl) ?_
  unfold c105
  refine w_seq ?_
  refine w_reg fun all => ?_
  refine t_qz 1 [0, 1, 2, 3] (σ' := [(0, .int .i64 10), (1, .int .i64 10), (2, .int .i64 4), (3, .int .i64 25)]) (by kernel_rfl) ?_
  refine t_end ?_
  show W _ _ _ _ _ _ _
  refine w_seq ?_
  refine w_reg fun all => ?_
  refine t_qz 1 [0, 1, 2, 3, 9] (σ' := [(0, .int .i64 10), (1, .int .i64 10), (2, .int .i64 4), (3, .int .i64 25), (9, .func (.func 117) #[] #[])]) (by kernel_rfl) ?_
  refine t_end ?_
  show W _ _ _ _ _ _ _
  refine w_seq ?_
  refine w_reg fun all => ?_
  obtain ⟨u_, h23, e⟩ := bind_of e
  refine t_qz 2 [1, 2, 3, 9, 15, 16] (σ' := [(1, .int .i64 10), (2, .int .i64 4), (3, .int .i64 25), (9, .func (.func 117) #[] #[]), (15, .func (.func 117) #[] #[]), (16, .int .i64 10)]) (by kernel_rfl) ?_
  refine t_v (.clor (vs := [.int .i64 10]) (caps := #[]) (A := ([] : List Own)) (F0 := ([] : List Own)) rfl rfl rfl (by kernel_rfl) (by kernel_rfl) (sel_perm (is := []) (by kernel_rfl)) (plane_within_1_v1.ok h23)) ?_
  obtain ⟨u_, h24, e⟩ := bind_of e
  refine t_qz 2 [2, 3, 9, 17, 18, 19] (σ' := [(2, .int .i64 4), (3, .int .i64 25), (9, .func (.func 117) #[] #[]), (17, .int .u64 10), (18, .func (.func 117) #[] #[]), (19, .int .i64 10)]) (by kernel_rfl) ?_
  refine t_v (.clor (vs := [.int .i64 10]) (caps := #[]) (A := ([] : List Own)) (F0 := ([] : List Own)) rfl rfl rfl (by kernel_rfl) (by kernel_rfl) (sel_perm (is := []) (by kernel_rfl)) (plane_within_1_v1.ok h24)) ?_
  obtain ⟨u_, h25, e⟩ := bind_of e
  refine t_v (.call (vs := [.int .u64 10, .int .u64 10]) rfl rfl (by kernel_rfl) (bits_Mul64_v1.ok h25)) ?_
  refine t_qz 5 [2, 3, 9, 10, 11] (σ' := [(2, .int .i64 4), (3, .int .i64 25), (9, .func (.func 117) #[] #[]), (10, .int .u64 0), (11, .int .u64 100)]) (by kernel_rfl) ?_
  refine t_end ?_
  show W _ _ _ _ _ _ _
  refine w_seq ?_
  refine w_reg fun all => ?_
  obtain ⟨u_, h26, e⟩ := bind_of e
  refine t_qz 2 [3, 9, 10, 11, 25, 26] (σ' := [(3, .int .i64 25), (9, .func (.func 117) #[] #[]), (10, .int .u64 0), (11, .int .u64 100), (25, .func (.func 117) #[] #[]), (26, .int .i64 4)]) (by kernel_rfl) ?_
  refine t_v (.clor (vs := [.int .i64 4]) (caps := #[]) (A := ([] : List Own)) (F0 := ([] : List Own)) rfl rfl rfl (by kernel_rfl) (by kernel_rfl) (sel_perm (is := []) (by kernel_rfl)) (plane_within_1_v2.ok h26)) ?_
  obtain ⟨u_, h27, e⟩ := bind_of e
  refine t_qz 2 [10, 11, 27, 28, 29] (σ' := [(10, .int .u64 0), (11, .int .u64 100), (27, .int .u64 4), (28, .func (.func 117) #[] #[]), (29, .int .i64 25)]) (by kernel_rfl) ?_
  refine t_v (.clor (vs := [.int .i64 25]) (caps := #[]) (A := ([] : List Own)) (F0 := ([] : List Own)) rfl rfl rfl (by kernel_rfl) (by kernel_rfl) (sel_perm (is := []) (by kernel_rfl)) (plane_within_1_v3.ok h27)) ?_
  obtain ⟨u_, h28, e⟩ := bind_of e
  refine t_v (.call (vs := [.int .u64 4, .int .u64 25]) rfl rfl (by kernel_rfl) (bits_Mul64_v2.ok h28)) ?_
  refine t_qz 5 [10, 11, 12, 13] (σ' := [(10, .int .u64 0), (11, .int .u64 100), (12, .int .u64 0), (13, .int .u64 100)]) (by kernel_rfl) ?_
  refine t_end ?_
  show W _ _ _ _ _ _ _
  refine w_seq ?_
  refine w_reg fun all => ?_
  refine t_qz 14 [8] (σ' := [(8, .bool true)]) (by kernel_rfl) ?_
  refine t_end ?_
  show W _ _ _ _ _ _ _
  refine w_ret ?_
  exact ⟨[.bool true], [], S, ⟨rfl, trivial⟩, VS.none, rfl, rfl, rfl⟩

/-- plane.Near -/
def c65 : C :=
  (.seq (.reg [⟨(some 4), .box (.tmp 0), none⟩,
     ⟨(some 5), .box (.tmp 1), none⟩,
     ⟨(some 6), .box (.tmp 2), none⟩,
     ⟨(some 8), .mv (.const (.bool false)), none⟩])
  (.seq (.drw [⟨(some 12), .ld (some 2) (.tmp 4), none⟩,
     ⟨(some 13), .ld (some 2) (.tmp 5), none⟩,
     ⟨(some 14), .ld (some 2) (.tmp 6), none⟩,
     ⟨(some 15), .call 104 [(.tmp 12), (.tmp 13), (.tmp 14)], none⟩,
     ⟨(some 16), .ld (some 2) (.tmp 4), none⟩,
     ⟨(some 17), .ld (some 2) (.tmp 5), none⟩,
     ⟨(some 18), .call 90 [(.tmp 16), (.tmp 17)], none⟩,
     ⟨(some 9), .mv (.tmp 15), none⟩,
     ⟨(some 10), .mv (.tmp 18), none⟩] [[], [], [], [0, 1, 2], [], [], [4, 5, 3], [3, 6, 0, 1, 2, 3], [6, 7, 0, 1, 2, 3, 4, 5, 6, 7]])
  (.seq (.block 0 (.seq (.reg [⟨(some 20), .mv (.tmp 9), none⟩,
       ⟨(some 21), .bin .leq (.tmp 20) (.const (.int .i64 0)), none⟩,
       ⟨(some 19), .mv (.tmp 21), none⟩])
    (.cond (.tmp 19)
     (.seq (.reg [⟨(some 22), .ld (some 2) (.tmp 4), none⟩,
         ⟨(some 23), .ld (some 2) (.tmp 6), none⟩,
         ⟨(some 24), .call 90 [(.tmp 22), (.tmp 23)], none⟩,
         ⟨(some 25), .mv (.tmp 3), none⟩,
         ⟨(some 26), .mv (.tmp 3), none⟩,
         ⟨(some 27), .call 105 [(.const (.int .i64 4)), (.tmp 24), (.tmp 25), (.tmp 26)], none⟩,
         ⟨(some 8), .mv (.tmp 27), none⟩])
      .ret)
     (.seq (.reg [⟨(some 29), .mv (.tmp 9), none⟩,
         ⟨(some 30), .mv (.tmp 10), none⟩,
         ⟨(some 31), .bin .geq (.tmp 29) (.tmp 30), none⟩,
         ⟨(some 28), .mv (.tmp 31), none⟩])
      (.cond (.tmp 28)
       (.seq (.reg [⟨(some 32), .ld (some 2) (.tmp 5), none⟩,
           ⟨(some 33), .ld (some 2) (.tmp 6), none⟩,
           ⟨(some 34), .call 90 [(.tmp 32), (.tmp 33)], none⟩,
           ⟨(some 35), .mv (.tmp 3), none⟩,
           ⟨(some 36), .mv (.tmp 3), none⟩,
           ⟨(some 37), .call 105 [(.const (.int .i64 4)), (.tmp 34), (.tmp 35), (.tmp 36)], none⟩,
           ⟨(some 8), .mv (.tmp 37), none⟩])
        .ret)
       .skip)))))
  (.seq (.reg [⟨(some 38), .ld (some 2) (.tmp 4), none⟩,
     ⟨(some 39), .ld (some 2) (.tmp 5), none⟩,
     ⟨(some 40), .ld (some 2) (.tmp 6), none⟩,
     ⟨(some 41), .call 106 [(.tmp 38), (.tmp 39), (.tmp 40)], none⟩,
     ⟨(some 42), .bin .mul (.const (.int .i64 2)) (.tmp 41), none⟩,
     ⟨(some 11), .mv (.tmp 42), none⟩])
  (.seq (.reg [⟨(some 43), .mv (.tmp 11), none⟩,
     ⟨(some 44), .mv (.tmp 11), none⟩,
     ⟨(some 45), .mv (.tmp 3), none⟩,
     ⟨(some 46), .mv (.tmp 3), none⟩,
     ⟨(some 47), .bin .mul (.tmp 45) (.tmp 46), none⟩,
     ⟨(some 48), .mv (.tmp 10), none⟩,
     ⟨(some 49), .call 105 [(.tmp 43), (.tmp 44), (.tmp 47), (.tmp 48)], none⟩,
     ⟨(some 8), .mv (.tmp 49), none⟩])
  .ret)))))
def plane_Near_v1.f  : Option (Unit) := (plane_Dot_v1.f).bind fun _ => ((plane_Len2_v1.f).bind fun _ => ((plane_Cross_v1.f).bind fun _ => ((plane_within_v1.f).bind fun _ => (some ()))))
theorem plane_Near_v1.ok {S : Seal}  (e : plane_Near_v1.f  = some ()) :
    Cal Try.prog 65 [.agg #[.int .i64 0, .int .i64 0], .agg #[.int .i64 5, .int .i64 0], .agg #[.int .i64 1, .int .i64 1], .int .i64 2] [] S fun v H' S' => v = .bool true ∧ H' = [] ∧ S' = S := by
  unfold plane_Near_v1.f at e
  refine cal_of (c := c65) (N := 50) Try.func65 rfl rfl (by kernel_rfl) (rs := [.t 8]) (by kernel_rfl) (Nat.le_of_ble_eq_true rfl) ?_
  unfold c65
  refine w_seq ?_
  refine w_reg fun all => ?_
  refine t_a (.box rfl rfl rfl) fun b10 fb10 sb10 => ?_
  refine t_a (.box rfl rfl rfl) fun b11 fb11 sb11 => ?_
  refine t_a (.box rfl rfl rfl) fun b12 fb12 sb12 => ?_
  refine t_qz 1 [3, 4, 5, 6] (σ' := [(3, .int .i64 2), (4, .pointer (some ⟨b10, 0, none⟩)), (5, .pointer (some ⟨b11, 0, none⟩)), (6, .pointer (some ⟨b12, 0, none⟩))]) (by kernel_rfl) ?_
  refine t_end ?_
  show W _ _ _ _ _ _ _
  refine w_seq ?_
  obtain ⟨u_, h13, e⟩ := bind_of e
  obtain ⟨u_, h14, e⟩ := bind_of e
  refine w_drwE mixed 9 [.v (.agg #[.int .i64 0, .int .i64 0]), .v (.agg #[.int .i64 5, .int .i64 0]), .v (.agg #[.int .i64 1, .int .i64 1]), .v (.int .i64 5), .v (.agg #[.int .i64 0, .int .i64 0]), .v (.agg #[.int .i64 5, .int .i64 0]), .v (.int .i64 25), .v (.int .i64 5), .v (.int .i64 25)] (by kernel_rfl) ?_ ?_
  · refine .cons (.ldn rfl rfl rfl (.at 2 rfl rfl)) ?_
    refine .cons (.ldn rfl rfl rfl (.at 1 rfl rfl)) ?_
    refine .cons (.ldn rfl rfl rfl (.at 0 rfl rfl)) ?_
    refine .cons (.call (vs := [.agg #[.int .i64 0, .int .i64 0], .agg #[.int .i64 5, .int .i64 0], .agg #[.int .i64 1, .int .i64 1]]) rfl rfl (by kernel_rfl) (plane_Dot_v1.ok h13)) ?_
    refine .cons (.ldn rfl rfl rfl (.at 2 rfl rfl)) ?_
    refine .cons (.ldn rfl rfl rfl (.at 1 rfl rfl)) ?_
    refine .cons (.call (vs := [.agg #[.int .i64 0, .int .i64 0], .agg #[.int .i64 5, .int .i64 0]]) rfl rfl (by kernel_rfl) (plane_Len2_v1.ok h14)) ?_
    refine DI.sq 2 (by kernel_rfl) rfl ?_
    exact .nil
  refine fk_q 9 [3, 4, 5, 6, 9, 10] (σ' := [(3, .int .i64 2), (4, .pointer (some ⟨b10, 0, none⟩)), (5, .pointer (some ⟨b11, 0, none⟩)), (6, .pointer (some ⟨b12, 0, none⟩)), (9, .int .i64 5), (10, .int .i64 25)]) t_more (by kernel_rfl) ?_
  refine fk_nil fun all => ?_
  refine t_keep [3, 4, 5, 6, 9, 10] (σ' := [(3, .int .i64 2), (4, .pointer (some ⟨b10, 0, none⟩)), (5, .pointer (some ⟨b11, 0, none⟩)), (6, .pointer (some ⟨b12, 0, none⟩)), (9, .int .i64 5), (10, .int .i64 25)]) (by kernel_rfl) ?_
  refine t_end ?_
  show W _ _ _ _ _ _ _
  refine w_seq ?_
  refine w_block ?_
  refine w_seq ?_
  refine w_reg fun all => ?_
  refine t_qz 3 [3, 4, 5, 6, 9, 10, 19] (σ' := [(3, .int .i64 2), (4, .pointer (some ⟨b10, 0, none⟩)), (5, .pointer (some ⟨b11, 0, none⟩)), (6, .pointer (some ⟨b12, 0, none⟩)), (9, .int .i64 5), (10, .int .i64 25), (19, .bool false)]) (by kernel_rfl) ?_
  refine t_end ?_
  show W _ _ _ _ _ _ _
  refine w_cond rfl (fun c_ => by cases c_) (fun _ => ?_)
  show W _ _ _ _ _ _ _
  refine w_seq ?_
  refine w_reg fun all => ?_
  refine t_qz 4 [3, 4, 5, 6, 10, 28] (σ' := [(3, .int .i64 2), (4, .pointer (some ⟨b10, 0, none⟩)), (5, .pointer (some ⟨b11, 0, none⟩)), (6, .pointer (some ⟨b12, 0, none⟩)), (10, .int .i64 25), (28, .bool false)]) (by kernel_rfl) ?_
  refine t_end ?_
  show W _ _ _ _ _ _ _
  refine w_cond rfl (fun c_ => by cases c_) (fun _ => ?_)
  show W _ _ _ _ _ _ _
  refine w_skip ?_
  show W _ _ _ _ _ _ _
  refine w_seq ?_
  refine w_reg fun all => ?_
  refine t_v (.ldn rfl rfl rfl (.at 2 rfl rfl)) ?_
  refine t_v (.ldn rfl rfl rfl (.at 1 rfl rfl)) ?_
  refine t_v (.ldn rfl rfl rfl (.at 0 rfl rfl)) ?_
  obtain ⟨u_, h22, e⟩ := bind_of e
  refine t_v (.call (vs := [.agg #[.int .i64 0, .int .i64 0], .agg #[.int .i64 5, .int .i64 0], .agg #[.int .i64 1, .int .i64 1]]) rfl rfl (by kernel_rfl) (plane_Cross_v1.ok h22)) ?_
  refine t_qz 2 [3, 10, 11] (σ' := [(3, .int .i64 2), (10, .int .i64 25), (11, .int .i64 10)]) (by kernel_rfl) ?_
  refine t_end ?_
  show W _ _ _ _ _ _ _
  refine w_seq ?_
  refine w_reg fun all => ?_
  obtain ⟨u_, h29, e⟩ := bind_of e
  refine t_qz 6 [43, 44, 47, 48] (σ' := [(43, .int .i64 10), (44, .int .i64 10), (47, .int .i64 4), (48, .int .i64 25)]) (by kernel_rfl) ?_
  refine t_v (.call (vs := [.int .i64 10, .int .i64 10, .int .i64 4, .int .i64 25]) rfl rfl (by kernel_rfl) (plane_within_v1.ok h29)) ?_
  refine t_qz 1 [8] (σ' := [(8, .bool true)]) (by kernel_rfl) ?_
  refine t_end ?_
  show W _ _ _ _ _ _ _
  refine w_ret ?_
  exact ⟨[.bool true], [], S, ⟨rfl, trivial⟩, VS.none, rfl, rfl, rfl⟩

/-- stroke.Near$1 -/
def c64 : C :=
  (.seq (.reg [⟨(some 3), .box (.tmp 0), none⟩,
     ⟨(some 4), .mv (.const (.bool false)), none⟩])
  (.seq (.reg [⟨(some 5), .pad 0 (.tmp 3), none⟩,
     ⟨(some 6), .ld (some 2) (.tmp 5), none⟩,
     ⟨(some 7), .pad 2 (.tmp 3), none⟩,
     ⟨(some 8), .ld (some 2) (.tmp 7), none⟩,
     ⟨(some 9), .ld (some 2) (.tmp 1), none⟩,
     ⟨(some 10), .ld none (.tmp 2), none⟩,
     ⟨(some 11), .call 65 [(.tmp 6), (.tmp 8), (.tmp 9), (.tmp 10)], none⟩,
     ⟨(some 4), .mv (.tmp 11), none⟩])
  .ret))
def stroke_Near_1_v1.f  : Option (Unit) := (plane_Near_v1.f).bind fun _ => (some ())
theorem stroke_Near_1_v1.ok {S : Seal} {B0 : Nat} {B1 : Nat}  (e : stroke_Near_1_v1.f  = some ()) :
    Cal Try.prog 64 [.agg #[.int .i64 0, .int .i64 0, .int .i64 5, .int .i64 0], .pointer (some ⟨B0, 0, none⟩), .pointer (some ⟨B1, 0, none⟩)] ([⟨B0, [.int .i64 1, .int .i64 1], 2⟩, ⟨B1, [.int .i64 2], 1⟩] : List Own) S fun v H' S' => v = .bool true ∧ H' = ([⟨B0, [.int .i64 1, .int .i64 1], 2⟩, ⟨B1, [.int .i64 2], 1⟩] : List Own) ∧ S' = S := by
  unfold stroke_Near_1_v1.f at e
  refine cal_of (c := c64) (N := 12) Try.func64 rfl rfl (by kernel_rfl) (rs := [.t 4]) (by kernel_rfl) (Nat.le_of_ble_eq_true rfl) ?_
  unfold c64
  refine w_seq ?_
  refine w_reg fun all => ?_
  refine t_a (.box rfl rfl rfl) fun b9 fb9 sb9 => ?_
  refine t_qz 1 [1, 2, 3] (σ' := [(1, .pointer (some ⟨B0, 0, none⟩)), (2, .pointer (some ⟨B1, 0, none⟩)), (3, .pointer (some ⟨b9, 0, none⟩))]) (by kernel_rfl) ?_
  refine t_end ?_
  show W _ _ _ _ _ _ _
  refine w_seq ?_
  refine w_reg fun all => ?_
  refine t_qz 1 [1, 2, 3, 5] (σ' := [(1, .pointer (some ⟨B0, 0, none⟩)), (2, .pointer (some ⟨B1, 0, none⟩)), (3, .pointer (some ⟨b9, 0, none⟩)), (5, .pointer (some ⟨b9, 0, none⟩))]) (by kernel_rfl) ?_
  refine t_v (.ldn rfl rfl rfl (.at 0 rfl rfl)) ?_
  refine t_qz 1 [1, 2, 6, 7] (σ' := [(1, .pointer (some ⟨B0, 0, none⟩)), (2, .pointer (some ⟨B1, 0, none⟩)), (6, .agg #[.int .i64 0, .int .i64 0]), (7, .pointer (some ⟨b9, 2, none⟩))]) (by kernel_rfl) ?_
  refine t_v (.ldn rfl rfl rfl (.at 0 rfl rfl)) ?_
  refine t_v (.ldn rfl rfl rfl (.at 1 rfl rfl)) ?_
  refine t_v (.ld1 rfl rfl rfl (.at 2 rfl rfl)) ?_
  obtain ⟨u_, h30, e⟩ := bind_of e
  refine t_v (.call (vs := [.agg #[.int .i64 0, .int .i64 0], .agg #[.int .i64 5, .int .i64 0], .agg #[.int .i64 1, .int .i64 1], .int .i64 2]) rfl rfl (by kernel_rfl) (plane_Near_v1.ok h30)) ?_
  refine t_qz 1 [4] (σ' := [(4, .bool true)]) (by kernel_rfl) ?_
  refine t_end ?_
  show W _ _ _ _ _ _ _
  refine w_ret ?_
  exact ⟨[.bool true], ([⟨B0, [.int .i64 1, .int .i64 1], 2⟩, ⟨B1, [.int .i64 2], 1⟩] : List Own), S, ⟨rfl, trivial⟩, VS.sel [1, 1] (by kernel_rfl), rfl, rfl, rfl⟩

def api_Edge_v4.f  : Option (Unit) := (stroke_Near_1_v1.f).bind fun _ => (some ())
theorem api_Edge_v4.ok {S : Seal} {B0 : Nat} {B1 : Nat} {B2 : Nat}  (e : api_Edge_v4.f  = some ()) :
    Cal Try.prog 103 [.slice (some ⟨B0, 0, none⟩) 1 1, .func (.func 64) #[] #[.pointer (some ⟨B1, 0, none⟩), .pointer (some ⟨B2, 0, none⟩)]] ([⟨B0, [.int .i64 0, .int .i64 0, .int .i64 5, .int .i64 0], 4⟩, ⟨B1, [.int .i64 1, .int .i64 1], 2⟩, ⟨B2, [.int .i64 2], 1⟩] : List Own) S fun v H' S' => v = .int .i64 0 ∧ H' = ([⟨B0, [.int .i64 0, .int .i64 0, .int .i64 5, .int .i64 0], 4⟩, ⟨B1, [.int .i64 1, .int .i64 1], 2⟩, ⟨B2, [.int .i64 2], 1⟩] : List Own) ∧ S' = S := by
  unfold api_Edge_v4.f at e
  refine cal_of (c := c103) (N := 19) Try.func103 rfl rfl (by kernel_rfl) (rs := [.t 4]) (by kernel_rfl) (Nat.le_of_ble_eq_true rfl) ?_
  unfold c103
  refine w_seq ?_
  refine w_reg fun all => ?_
  refine t_qz 1 [0, 1] (σ' := [(0, .slice (some ⟨B0, 0, none⟩) 1 1), (1, .func (.func 64) #[] #[.pointer (some ⟨B1, 0, none⟩), .pointer (some ⟨B2, 0, none⟩)])]) (by kernel_rfl) ?_
  refine t_end ?_
  show W _ _ _ _ _ _ _
  refine w_seq ?_
  refine w_seq ?_
  refine w_reg fun all => ?_
  refine t_qz 3 [0, 1, 7, 8] (σ' := [(0, .slice (some ⟨B0, 0, none⟩) 1 1), (1, .func (.func 64) #[] #[.pointer (some ⟨B1, 0, none⟩), .pointer (some ⟨B2, 0, none⟩)]), (7, .int .i64 1), (8, .int .i64 0)]) (by kernel_rfl) ?_
  refine t_end ?_
  show W _ _ _ _ _ _ _
  refine w_block ?_
  refine w_lun 10 ?_
  refine wl_step ?_
  refine w_seq ?_
  refine w_reg fun all => ?_
  refine t_qz 1 [0, 1, 7, 8, 9] (σ' := [(0, .slice (some ⟨B0, 0, none⟩) 1 1), (1, .func (.func 64) #[] #[.pointer (some ⟨B1, 0, none⟩), .pointer (some ⟨B2, 0, none⟩)]), (7, .int .i64 1), (8, .int .i64 0), (9, .bool true)]) (by kernel_rfl) ?_
  refine t_end ?_
  show W _ _ _ _ _ _ _
  refine w_seq ?_
  refine w_cond rfl (fun _ => ?_) (fun c_ => by cases c_)
  show W _ _ _ _ _ _ _
  refine w_skip ?_
  show W _ _ _ _ _ _ _
  refine w_seq ?_
  refine w_block ?_
  refine w_seq ?_
  refine w_reg fun all => ?_
  refine t_qz 2 [0, 1, 5, 7, 8] (σ' := [(0, .slice (some ⟨B0, 0, none⟩) 1 1), (1, .func (.func 64) #[] #[.pointer (some ⟨B1, 0, none⟩), .pointer (some ⟨B2, 0, none⟩)]), (5, .int .i64 0), (7, .int .i64 1), (8, .int .i64 0)]) (by kernel_rfl) ?_
  refine t_end ?_
  show W _ _ _ _ _ _ _
  refine w_seq ?_
  refine w_reg fun all => ?_
  refine t_qz 4 [0, 1, 5, 7, 8, 11, 14] (σ' := [(0, .slice (some ⟨B0, 0, none⟩) 1 1), (1, .func (.func 64) #[] #[.pointer (some ⟨B1, 0, none⟩), .pointer (some ⟨B2, 0, none⟩)]), (5, .int .i64 0), (7, .int .i64 1), (8, .int .i64 0), (11, .func (.func 64) #[] #[.pointer (some ⟨B1, 0, none⟩), .pointer (some ⟨B2, 0, none⟩)]), (14, .pointer (some ⟨B0, 0, none⟩))]) (by kernel_rfl) ?_
  refine t_v (.ldn rfl rfl rfl (.at 0 rfl rfl)) ?_
  obtain ⟨u_, h31, e⟩ := bind_of e
  refine t_v (.clor (vs := [.agg #[.int .i64 0, .int .i64 0, .int .i64 5, .int .i64 0]]) (caps := #[.pointer (some ⟨B1, 0, none⟩), .pointer (some ⟨B2, 0, none⟩)]) (A := ([⟨B1, [.int .i64 1, .int .i64 1], 2⟩, ⟨B2, [.int .i64 2], 1⟩] : List Own)) (F0 := ([⟨B0, [.int .i64 0, .int .i64 0, .int .i64 5, .int .i64 0], 4⟩] : List Own)) rfl rfl rfl (by kernel_rfl) (by kernel_rfl) (sel_perm (is := [1, 1]) (by kernel_rfl)) (stroke_Near_1_v1.ok h31)) ?_
  refine t_keep [0, 1, 5, 7, 8, 16] (σ' := [(0, .slice (some ⟨B0, 0, none⟩) 1 1), (1, .func (.func 64) #[] #[.pointer (some ⟨B1, 0, none⟩), .pointer (some ⟨B2, 0, none⟩)]), (5, .int .i64 0), (7, .int .i64 1), (8, .int .i64 0), (16, .bool true)]) (by kernel_rfl) ?_
  refine t_end ?_
  show W _ _ _ _ _ _ _
  refine w_cond rfl (fun _ => ?_) (fun c_ => by cases c_)
  show W _ _ _ _ _ _ _
  refine w_seq ?_
  refine w_reg fun all => ?_
  refine t_qz 2 [4] (σ' := [(4, .int .i64 0)]) (by kernel_rfl) ?_
  refine t_end ?_
  show W _ _ _ _ _ _ _
  refine w_ret ?_
  exact ⟨[.int .i64 0], ([⟨B0, [.int .i64 0, .int .i64 0, .int .i64 5, .int .i64 0], 4⟩, ⟨B1, [.int .i64 1, .int .i64 1], 2⟩, ⟨B2, [.int .i64 2], 1⟩] : List Own), S, ⟨rfl, trivial⟩, VS.sel [0, 0, 0] (by kernel_rfl), rfl, rfl, rfl⟩

def api_Edge_v3.f  : Option (Unit) := (api_Edge_v4.f).bind fun _ => (some ())
theorem api_Edge_v3.ok {S : Seal} {B0 : Nat} {B1 : Nat} {B2 : Nat}  (e : api_Edge_v3.f  = some ()) :
    Cal Try.prog 63 [.slice (some ⟨B0, 0, none⟩) 1 1, .func (.func 64) #[] #[.pointer (some ⟨B1, 0, none⟩), .pointer (some ⟨B2, 0, none⟩)]] ([⟨B0, [.int .i64 0, .int .i64 0, .int .i64 5, .int .i64 0], 4⟩, ⟨B1, [.int .i64 1, .int .i64 1], 2⟩, ⟨B2, [.int .i64 2], 1⟩] : List Own) S fun v H' S' => v = .bool true ∧ H' = ([⟨B0, [.int .i64 0, .int .i64 0, .int .i64 5, .int .i64 0], 4⟩, ⟨B1, [.int .i64 1, .int .i64 1], 2⟩, ⟨B2, [.int .i64 2], 1⟩] : List Own) ∧ S' = S := by
  unfold api_Edge_v3.f at e
  refine cal_of (c := c63) (N := 9) Try.func63 rfl rfl (by kernel_rfl) (rs := [.t 4]) (by kernel_rfl) (Nat.le_of_ble_eq_true rfl) ?_
  unfold c63
  refine w_seq ?_
  refine w_reg fun all => ?_
  refine t_qz 1 [0, 1] (σ' := [(0, .slice (some ⟨B0, 0, none⟩) 1 1), (1, .func (.func 64) #[] #[.pointer (some ⟨B1, 0, none⟩), .pointer (some ⟨B2, 0, none⟩)])]) (by kernel_rfl) ?_
  refine t_end ?_
  show W _ _ _ _ _ _ _
  refine w_seq ?_
  refine w_reg fun all => ?_
  obtain ⟨u_, h32, e⟩ := bind_of e
  refine t_qz 2 [5, 6] (σ' := [(5, .slice (some ⟨B0, 0, none⟩) 1 1), (6, .func (.func 64) #[] #[.pointer (some ⟨B1, 0, none⟩), .pointer (some ⟨B2, 0, none⟩)])]) (by kernel_rfl) ?_
  refine t_v (.callr (vs := [.slice (some ⟨B0, 0, none⟩) 1 1, .func (.func 64) #[] #[.pointer (some ⟨B1, 0, none⟩), .pointer (some ⟨B2, 0, none⟩)]]) (A := ([⟨B0, [.int .i64 0, .int .i64 0, .int .i64 5, .int .i64 0], 4⟩, ⟨B1, [.int .i64 1, .int .i64 1], 2⟩, ⟨B2, [.int .i64 2], 1⟩] : List Own)) (F0 := ([] : List Own)) rfl rfl (by kernel_rfl) (sel_perm (is := [0, 0, 0]) (by kernel_rfl)) (api_Edge_v4.ok h32)) ?_
  refine t_qz 2 [4] (σ' := [(4, .bool true)]) (by kernel_rfl) ?_
  refine t_end ?_
  show W _ _ _ _ _ _ _
  refine w_ret ?_
  exact ⟨[.bool true], ([⟨B0, [.int .i64 0, .int .i64 0, .int .i64 5, .int .i64 0], 4⟩, ⟨B1, [.int .i64 1, .int .i64 1], 2⟩, ⟨B2, [.int .i64 2], 1⟩] : List Own), S, ⟨rfl, trivial⟩, VS.sel [0, 0, 0] (by kernel_rfl), rfl, rfl, rfl⟩

def stroke_Near_v2.f  : Option (Unit) := (api_Edge_v3.f).bind fun _ => (some ())
theorem stroke_Near_v2.ok {S : Seal} {B0 : Nat}  (e : stroke_Near_v2.f  = some ()) :
    Cal Try.prog 19 [.slice (some ⟨B0, 0, none⟩) 1 1, .int .i64 2, .agg #[.int .i64 1, .int .i64 1]] ([⟨B0, [.int .i64 0, .int .i64 0, .int .i64 5, .int .i64 0], 4⟩] : List Own) S fun v H' S' => v = .bool true ∧ H' = ([⟨B0, [.int .i64 0, .int .i64 0, .int .i64 5, .int .i64 0], 4⟩] : List Own) ∧ S' = S := by
  unfold stroke_Near_v2.f at e
  refine cal_of (c := c19) (N := 10) Try.func19 rfl rfl (by kernel_rfl) (rs := [.t 6]) (by kernel_rfl) (Nat.le_of_ble_eq_true rfl) ?_
  unfold c19
  refine w_seq ?_
  refine w_reg fun all => ?_
  refine t_a (.box rfl rfl rfl) fun b7 fb7 sb7 => ?_
  refine t_a (.box rfl rfl rfl) fun b8 fb8 sb8 => ?_
  refine t_qz 1 [0, 4, 5] (σ' := [(0, .slice (some ⟨B0, 0, none⟩) 1 1), (4, .pointer (some ⟨b7, 0, none⟩)), (5, .pointer (some ⟨b8, 0, none⟩))]) (by kernel_rfl) ?_
  refine t_end ?_
  show W _ _ _ _ _ _ _
  refine w_seq ?_
  refine w_reg fun all => ?_
  obtain ⟨u_, h33, e⟩ := bind_of e
  refine t_qz 2 [7, 8] (σ' := [(7, .slice (some ⟨B0, 0, none⟩) 1 1), (8, .func (.func 64) #[] #[.pointer (some ⟨b8, 0, none⟩), .pointer (some ⟨b7, 0, none⟩)])]) (by kernel_rfl) ?_
  refine t_v (.callr (vs := [.slice (some ⟨B0, 0, none⟩) 1 1, .func (.func 64) #[] #[.pointer (some ⟨b8, 0, none⟩), .pointer (some ⟨b7, 0, none⟩)]]) (A := ([⟨B0, [.int .i64 0, .int .i64 0, .int .i64 5, .int .i64 0], 4⟩, ⟨b8, [.int .i64 1, .int .i64 1], 2⟩, ⟨b7, [.int .i64 2], 1⟩] : List Own)) (F0 := ([] : List Own)) rfl rfl (by kernel_rfl) (sel_perm (is := [2, 0, 0]) (by kernel_rfl)) (api_Edge_v3.ok h33)) ?_
  refine t_qz 1 [6] (σ' := [(6, .bool true)]) (by kernel_rfl) ?_
  refine t_end ?_
  show W _ _ _ _ _ _ _
  refine w_ret ?_
  exact ⟨[.bool true], ([⟨B0, [.int .i64 0, .int .i64 0, .int .i64 5, .int .i64 0], 4⟩] : List Own), S, ⟨rfl, trivial⟩, VS.sel [2] (by kernel_rfl), rfl, rfl, rfl⟩

/-- glyphiclaw23.first -/
def c16 : C :=
  (.seq (.reg [⟨(some 0), .mv (.const (.bool false)), none⟩])
  (.seq (.reg [⟨(some 2), .bld [(.int .i64 0), (.int .i64 0)] [(0, 1, (.const (.int .i64 5)))], none⟩,
     ⟨(some 3), .bld [(.int .i64 0), (.int .i64 0), (.int .i64 0), (.int .i64 0)] [(2, 2, (.tmp 2))], none⟩,
     ⟨(some 4), .bsl [(.int .i64 0), (.int .i64 0), (.int .i64 0), (.int .i64 0)] 1 [(0, 4, (.tmp 3))], none⟩,
     ⟨(some 1), .mv (.tmp 4), none⟩])
  (.seq (.reg [⟨(some 5), .bld [(.int .i64 0), (.int .i64 0)] [], none⟩,
     ⟨(some 6), .call 19 [(.const (.slice none 0 0)), (.const (.int .i64 5)), (.tmp 5)], none⟩,
     ⟨(some 7), .un .not (.tmp 6), none⟩,
     ⟨(some 8), .mv (.tmp 7), none⟩,
     ⟨(some 9), .mv (.tmp 1), (some (8, true))⟩,
     ⟨(some 10), .bld [(.int .i64 0), (.int .i64 0)] [(0, 1, (.const (.int .i64 1))), (1, 1, (.const (.int .i64 1)))], (some (8, true))⟩,
     ⟨(some 11), .call 19 [(.tmp 9), (.const (.int .i64 2)), (.tmp 10)], (some (8, true))⟩,
     ⟨(some 12), .pk (.tmp 8) (.tmp 11) (.const (.bool false)), none⟩,
     ⟨(some 0), .mv (.tmp 12), none⟩])
  .ret)))
def glyphiclaw23_first.f  : Option (Bool) := (stroke_Near_v1.f).bind fun _ => ((stroke_Near_v2.f).bind fun _ => (some true))
theorem glyphiclaw23_first.ok {S : Seal}  {r0_ : Bool}(e : glyphiclaw23_first.f  = some r0_) :
    Cal Try.prog 16 [] [] S fun v H' S' => v = .bool r0_ ∧ H' = [] ∧ S' = S := by
  unfold glyphiclaw23_first.f at e
  refine cal_of (c := c16) (N := 13) Try.func16 rfl rfl (by kernel_rfl) (rs := [.t 0]) (by kernel_rfl) (Nat.le_of_ble_eq_true rfl) ?_
  unfold c16
  refine w_seq ?_
  refine w_reg fun all => ?_
  refine t_qz 1 [] (σ' := []) (by kernel_rfl) ?_
  refine t_end ?_
  show W _ _ _ _ _ _ _
  refine w_seq ?_
  refine w_reg fun all => ?_
  refine t_qz 2 [3] (σ' := [(3, .agg #[.int .i64 0, .int .i64 0, .int .i64 5, .int .i64 0])]) (by kernel_rfl) ?_
  refine t_a (.bsl rfl rfl rfl rfl) fun b1 fb1 sb1 => ?_
  refine t_qz 1 [1] (σ' := [(1, .slice (some ⟨b1, 0, none⟩) 1 1)]) (by kernel_rfl) ?_
  refine t_end ?_
  show W _ _ _ _ _ _ _
  refine w_seq ?_
  refine w_reg fun all => ?_
  obtain ⟨u_, h6, e⟩ := bind_of e
  refine t_qz 1 [1, 5] (σ' := [(1, .slice (some ⟨b1, 0, none⟩) 1 1), (5, .agg #[.int .i64 0, .int .i64 0])]) (by kernel_rfl) ?_
  refine t_v (.call (vs := [.slice none 0 0, .int .i64 5, .agg #[.int .i64 0, .int .i64 0]]) rfl rfl (by kernel_rfl) (stroke_Near_v1.ok h6)) ?_
  obtain ⟨u_, h34, e⟩ := bind_of e
  refine t_qz 4 [8, 9, 10] (σ' := [(8, .bool true), (9, .slice (some ⟨b1, 0, none⟩) 1 1), (10, .agg #[.int .i64 1, .int .i64 1])]) (by kernel_rfl) ?_
  refine t_v (.callr (vs := [.slice (some ⟨b1, 0, none⟩) 1 1, .int .i64 2, .agg #[.int .i64 1, .int .i64 1]]) (A := ([⟨b1, [.int .i64 0, .int .i64 0, .int .i64 5, .int .i64 0], 4⟩] : List Own)) (F0 := ([] : List Own)) rfl rfl (by kernel_rfl) (sel_perm (is := [0]) (by kernel_rfl)) (stroke_Near_v2.ok h34)) ?_
  refine t_qz 2 [0] (σ' := [(0, .bool true)]) (by kernel_rfl) ?_
  refine t_end ?_
  show W _ _ _ _ _ _ _
  refine w_ret ?_
  obtain rfl := Option.some.inj e
  exact ⟨[.bool true], [], S, ⟨rfl, trivial⟩, VS.none, rfl, rfl, rfl⟩

/-- glyphicworld.Number -/
def c44 : C :=
  (.seq (.reg [⟨(some 4), .mv (.const (.int .i64 0)), none⟩])
  (.seq (.reg [⟨(some 6), .mv (.tmp 0), none⟩,
     ⟨(some 7), .mv (.tmp 1), none⟩,
     ⟨(some 8), .bin .rem (.tmp 6) (.tmp 7), none⟩,
     ⟨(some 5), .mv (.tmp 8), none⟩])
  (.seq (.seq (.reg [⟨(some 9), .mv (.tmp 5), none⟩,
      ⟨(some 10), .bin .lss (.tmp 9) (.const (.int .i64 0)), none⟩])
   (.cond (.tmp 10)
    (.reg [⟨(some 11), .mv (.tmp 5), none⟩,
       ⟨(some 12), .mv (.tmp 1), none⟩,
       ⟨(some 13), .bin .add (.tmp 11) (.tmp 12), none⟩,
       ⟨(some 5), .mv (.tmp 13), none⟩])
    .skip))
  (.seq (.reg [⟨(some 14), .mv (.tmp 5), none⟩,
     ⟨(some 4), .mv (.tmp 14), none⟩])
  .ret))))
def glyphicworld_Number.f (n0 : Int) (below1 : Int) : Option (Int) := if below1 = 0 then none else (if (Int.tmod n0 below1) < 0 then (some (wr64 ((Int.tmod n0 below1) + below1))) else (some (Int.tmod n0 below1)))
theorem glyphicworld_Number.ok {S : Seal} {n0 : Int} {below1 : Int} {r0_ : Int}(e : glyphicworld_Number.f n0 below1 = some r0_) :
    Cal Try.prog 44 [.int .i64 n0, .int .i64 below1] [] S fun v H' S' => v = .int .i64 r0_ ∧ H' = [] ∧ S' = S := by
  unfold glyphicworld_Number.f at e
  refine cal_of (c := c44) (N := 15) Try.func44 rfl rfl (by kernel_rfl) (rs := [.t 4]) (by kernel_rfl) (Nat.le_of_ble_eq_true rfl) ?_
  unfold c44
  refine w_seq ?_
  refine w_reg fun all => ?_
  refine t_qz 1 [0, 1] (σ' := [(0, .int .i64 n0), (1, .int .i64 below1)]) (by kernel_rfl) ?_
  refine t_end ?_
  show W _ _ _ _ _ _ _
  refine w_seq ?_
  refine w_reg fun all => ?_
  have c57 : ¬ below1 = 0 := by
    intro h_; rw [if_pos h_] at e; cases e
  rw [if_neg c57] at e
  refine t_qz 2 [1, 6, 7] (σ' := [(1, .int .i64 below1), (6, .int .i64 n0), (7, .int .i64 below1)]) (by kernel_rfl) ?_
  refine t_v (.quiet rfl (qv_rem rfl rfl c57)) ?_
  refine t_qz 1 [1, 5] (σ' := [(1, .int .i64 below1), (5, .int .i64 (Int.tmod n0 below1))]) (by kernel_rfl) ?_
  refine t_end ?_
  show W _ _ _ _ _ _ _
  refine w_seq ?_
  refine w_seq ?_
  refine w_reg fun all => ?_
  by_cases c58 : (Int.tmod n0 below1) < 0
  · rw [if_pos c58] at e
    have c58b : (decide ((Int.tmod n0 below1) < 0)) = true := decide_eq_true c58
    refine t_qz 1 [1, 5, 9] (σ' := [(1, .int .i64 below1), (5, .int .i64 (Int.tmod n0 below1)), (9, .int .i64 (Int.tmod n0 below1))]) (by kernel_rfl) ?_
    refine t_v (dv_quiet rfl (congrArg (fun t => some (Value.bool t)) c58b)) ?_
    refine t_keep [1, 5, 10] (σ' := [(1, .int .i64 below1), (5, .int .i64 (Int.tmod n0 below1)), (10, .bool true)]) (by kernel_rfl) ?_
    refine t_end ?_
    show W _ _ _ _ _ _ _
    refine w_cond rfl (fun _ => ?_) (fun c_ => by cases c_)
    show W _ _ _ _ _ _ _
    refine w_reg fun all => ?_
    refine t_qz 4 [5] (σ' := [(5, .int .i64 (wr64 ((Int.tmod n0 below1) + below1)))]) (by kernel_rfl) ?_
    refine t_end ?_
    show W _ _ _ _ _ _ _
    refine w_seq ?_
    refine w_reg fun all => ?_
    refine t_qz 2 [4] (σ' := [(4, .int .i64 (wr64 ((Int.tmod n0 below1) + below1)))]) (by kernel_rfl) ?_
    refine t_end ?_
    show W _ _ _ _ _ _ _
    refine w_ret ?_
    obtain rfl := Option.some.inj e
    exact ⟨[.int .i64 (wr64 ((Int.tmod n0 below1) + below1))], [], S, ⟨rfl, trivial⟩, VS.none, rfl, rfl, rfl⟩
  · rw [if_neg c58] at e
    have c58b : (decide ((Int.tmod n0 below1) < 0)) = false := decide_eq_false c58
    refine t_qz 1 [1, 5, 9] (σ' := [(1, .int .i64 below1), (5, .int .i64 (Int.tmod n0 below1)), (9, .int .i64 (Int.tmod n0 below1))]) (by kernel_rfl) ?_
    refine t_v (dv_quiet rfl (congrArg (fun t => some (Value.bool t)) c58b)) ?_
    refine t_keep [1, 5, 10] (σ' := [(1, .int .i64 below1), (5, .int .i64 (Int.tmod n0 below1)), (10, .bool false)]) (by kernel_rfl) ?_
    refine t_end ?_
    show W _ _ _ _ _ _ _
    refine w_cond rfl (fun c_ => by cases c_) (fun _ => ?_)
    show W _ _ _ _ _ _ _
    refine w_skip ?_
    show W _ _ _ _ _ _ _
    refine w_seq ?_
    refine w_reg fun all => ?_
    refine t_qz 2 [4] (σ' := [(4, .int .i64 (Int.tmod n0 below1))]) (by kernel_rfl) ?_
    refine t_end ?_
    show W _ _ _ _ _ _ _
    refine w_ret ?_
    obtain rfl := Option.some.inj e
    exact ⟨[.int .i64 (Int.tmod n0 below1)], [], S, ⟨rfl, trivial⟩, VS.none, rfl, rfl, rfl⟩

/-- (*glyphicmake.Seq).Next -/
def c37 : C :=
  (.seq (.reg [⟨(some 4), .mv (.const (.int .i64 0)), none⟩])
  (.seq (.reg [⟨(some 5), .mv (.const (.int .i64 0)), none⟩])
  (.seq (.seq (.drw [⟨(some 6), .mv (.tmp 0), none⟩,
      ⟨(some 7), .nck (.tmp 6), none⟩,
      ⟨(some 8), .pad 1 (.tmp 7), none⟩,
      ⟨(some 9), .ld none (.tmp 8), none⟩,
      ⟨(some 10), .mv (.tmp 0), none⟩,
      ⟨(some 11), .nck (.tmp 10), none⟩,
      ⟨(some 12), .pad 0 (.tmp 11), none⟩,
      ⟨(some 13), .ld none (.tmp 12), none⟩,
      ⟨(some 14), .lns (.tmp 13), none⟩,
      ⟨(some 15), .bin .lss (.tmp 9) (.tmp 14), none⟩] [[], [0], [1], [2], [], [4], [5], [6], [7], [3, 8]])
   (.cond (.tmp 15)
    (.drw [⟨(some 16), .mv (.tmp 0), none⟩,
       ⟨(some 17), .nck (.tmp 16), none⟩,
       ⟨(some 18), .pad 0 (.tmp 17), none⟩,
       ⟨(some 19), .ld none (.tmp 18), none⟩,
       ⟨(some 20), .mv (.tmp 0), none⟩,
       ⟨(some 21), .nck (.tmp 20), none⟩,
       ⟨(some 22), .pad 1 (.tmp 21), none⟩,
       ⟨(some 23), .ld none (.tmp 22), none⟩,
       ⟨(some 24), .ixs 1 (.tmp 19) (.tmp 23), none⟩,
       ⟨(some 25), .ld none (.tmp 24), none⟩,
       ⟨(some 5), .mv (.tmp 25), none⟩] [[], [0], [1], [2], [], [4], [5], [6], [3, 7], [8], [9, 0, 1, 2, 3, 4, 5, 6, 7, 8, 9]])
    .skip))
  (.seq (.reg [⟨(some 26), .mv (.tmp 0), none⟩,
     ⟨(some 27), .mv (.tmp 0), none⟩,
     ⟨(some 28), .nck (.tmp 27), none⟩,
     ⟨(some 29), .pad 1 (.tmp 28), none⟩,
     ⟨(some 30), .ld none (.tmp 29), none⟩,
     ⟨(some 31), .bin .add (.tmp 30) (.const (.int .i64 1)), none⟩,
     ⟨(some 32), .nck (.tmp 26), none⟩,
     ⟨(some 33), .pad 1 (.tmp 32), none⟩,
     ⟨none, .st 1 (.tmp 33) (.tmp 31), none⟩])
  (.seq (.reg [⟨(some 34), .mv (.tmp 5), none⟩,
     ⟨(some 35), .mv (.tmp 1), none⟩,
     ⟨(some 36), .call 44 [(.tmp 34), (.tmp 35)], none⟩,
     ⟨(some 4), .mv (.tmp 36), none⟩])
  .ret)))))
def glyphicmake_Seq_Next_v1.f (below1 : Int) (m0_0 : List (Int)) (m0_1 : Int) : Option (Int × Int) := (if m0_1 < (m0_0.length : Int) then ((lgt m0_0 m0_1).bind fun x65 => (some x65)) else (some 0) : Option (Int)).bind fun x75 => ((glyphicworld_Number.f x75 below1).bind fun t76 => (some (t76, wr64 (m0_1 + 1))))
theorem glyphicmake_Seq_Next_v1.ok {S : Seal} {B0 : Nat} {below1 : Int} {m0_0 : List (Int)} {m0_1 : Int} {r0_ : Int} {r1_ : Int}{a_m0_0 : Option Addr} {c_m0_0 : Nat} (h_m0_0 : SlE S E_i64 m0_0 a_m0_0) (e : glyphicmake_Seq_Next_v1.f below1 m0_0 m0_1 = some (r0_, r1_)) :
    Cal Try.prog 37 [.pointer (some ⟨B0, 0, none⟩), .int .i64 below1] ([⟨B0, [.slice a_m0_0 m0_0.length c_m0_0, .int .i64 m0_1], 2⟩] : List Own) S fun v H' S' => v = .int .i64 r0_ ∧ H' = ([⟨B0, [.slice a_m0_0 m0_0.length c_m0_0, .int .i64 r1_], 2⟩] : List Own) ∧ S' = S := by
  unfold glyphicmake_Seq_Next_v1.f at e
  refine cal_of (c := c37) (N := 37) Try.func37 rfl rfl (by kernel_rfl) (rs := [.t 4]) (by kernel_rfl) (Nat.le_of_ble_eq_true rfl) ?_
  unfold c37
  refine w_seq ?_
  refine w_reg fun all => ?_
  refine t_qz 1 [0, 1] (σ' := [(0, .pointer (some ⟨B0, 0, none⟩)), (1, .int .i64 below1)]) (by kernel_rfl) ?_
  refine t_end ?_
  show W _ _ _ _ _ _ _
  refine w_seq ?_
  refine w_reg fun all => ?_
  refine t_qz 1 [0, 1, 5] (σ' := [(0, .pointer (some ⟨B0, 0, none⟩)), (1, .int .i64 below1), (5, .int .i64 0)]) (by kernel_rfl) ?_
  refine t_end ?_
  show W _ _ _ _ _ _ _
  obtain ⟨x75, e62, e⟩ := bind_of e
  refine w_cut [0, 1, 5] (fun σ_ H_ S_ => [(0, .pointer (some ⟨B0, 0, none⟩)), (1, .int .i64 below1), (5, .int .i64 x75)] = σ_ ∧ ([⟨B0, [.slice a_m0_0 m0_0.length c_m0_0, .int .i64 m0_1], 2⟩] : List Own) = H_ ∧ S = S_) ?_ ?_
  · show W _ _ _ _ _ _ _
    refine w_seq ?_
    by_cases c64 : m0_1 < (m0_0.length : Int)
    · rw [if_pos c64] at e62
      have c64b : (decide (m0_1 < (m0_0.length : Int))) = true := decide_eq_true c64
      refine w_drwE mixed 10 [.v (.pointer (some ⟨B0, 0, none⟩)), .v (.pointer (some ⟨B0, 0, none⟩)), .v (.pointer (some ⟨B0, 1, none⟩)), .v (.int .i64 m0_1), .v (.pointer (some ⟨B0, 0, none⟩)), .v (.pointer (some ⟨B0, 0, none⟩)), .v (.pointer (some ⟨B0, 0, none⟩)), .v (.slice a_m0_0 m0_0.length c_m0_0), .v (.int .i64 (m0_0.length : Int)), .v (.bool true)] (by kernel_rfl) ?_ ?_
      · refine DI.sq 3 (by kernel_rfl) rfl ?_
        refine .cons (.ld1 rfl rfl rfl (.at 0 rfl rfl)) ?_
        refine DI.sq 3 (by kernel_rfl) rfl ?_
        refine .cons (.ld1 rfl rfl rfl (.at 0 rfl rfl)) ?_
        refine DI.sq 1 (by kernel_rfl) rfl ?_
        refine .cons (dv_quiet rfl (congrArg (fun t => some (Value.bool t)) c64b)) ?_
        exact .nil
      refine fk_q 10 [0, 1, 5, 15] (σ' := [(0, .pointer (some ⟨B0, 0, none⟩)), (1, .int .i64 below1), (5, .int .i64 0), (15, .bool true)]) t_more (by kernel_rfl) ?_
      refine fk_nil fun all => ?_
      refine t_keep [0, 1, 5, 15] (σ' := [(0, .pointer (some ⟨B0, 0, none⟩)), (1, .int .i64 below1), (5, .int .i64 0), (15, .bool true)]) (by kernel_rfl) ?_
      refine t_end ?_
      show W _ _ _ _ _ _ _
      refine w_cond rfl (fun _ => ?_) (fun c_ => by cases c_)
      show W _ _ _ _ _ _ _
      obtain ⟨x65, hx66, e62⟩ := bind_of e62
      obtain ⟨lb67, lo68, ll69, la70, lS71, lv72, lz73, lu74⟩ := sle_get (E := E_i64) h_m0_0 hx66
      refine w_drwE mixed 11 [.v (.pointer (some ⟨B0, 0, none⟩)), .v (.pointer (some ⟨B0, 0, none⟩)), .v (.pointer (some ⟨B0, 0, none⟩)), .v (.slice a_m0_0 m0_0.length c_m0_0), .v (.pointer (some ⟨B0, 0, none⟩)), .v (.pointer (some ⟨B0, 0, none⟩)), .v (.pointer (some ⟨B0, 1, none⟩)), .v (.int .i64 m0_1), .v (.pointer (some ⟨lb67, lo68 + (m0_1).toNat * 1 + 0, none⟩)), .v (.int .i64 x65), .v (.int .i64 x65)] (by kernel_rfl) ?_ ?_
      · refine DI.sq 3 (by kernel_rfl) rfl ?_
        refine .cons (.ld1 rfl rfl rfl (.at 0 rfl rfl)) ?_
        refine DI.sq 3 (by kernel_rfl) rfl ?_
        refine .cons (.ld1 rfl rfl rfl (.at 0 rfl rfl)) ?_
        refine .cons (.quiet rfl (ixs_sle rfl rfl la70 lz73 lu74)) ?_
        refine .cons (.ld1 rfl rfl rfl (.sealed lS71 (subl_at lv72 rfl))) ?_
        refine DI.sq 1 (by kernel_rfl) rfl ?_
        exact .nil
      refine fk_q 11 [0, 1, 5] (σ' := [(0, .pointer (some ⟨B0, 0, none⟩)), (1, .int .i64 below1), (5, .int .i64 x65)]) t_more (by kernel_rfl) ?_
      refine fk_nil fun all => ?_
      refine t_keep [0, 1, 5] (σ' := [(0, .pointer (some ⟨B0, 0, none⟩)), (1, .int .i64 below1), (5, .int .i64 x65)]) (by kernel_rfl) ?_
      refine t_end ?_
      obtain rfl := Option.some.inj e62
      exact ⟨([⟨B0, [.slice a_m0_0 m0_0.length c_m0_0, .int .i64 m0_1], 2⟩] : List Own), S, VS.sel [0] (by kernel_rfl), by kernel_rfl, rfl, rfl⟩
    · rw [if_neg c64] at e62
      have c64b : (decide (m0_1 < (m0_0.length : Int))) = false := decide_eq_false c64
      refine w_drwE mixed 10 [.v (.pointer (some ⟨B0, 0, none⟩)), .v (.pointer (some ⟨B0, 0, none⟩)), .v (.pointer (some ⟨B0, 1, none⟩)), .v (.int .i64 m0_1), .v (.pointer (some ⟨B0, 0, none⟩)), .v (.pointer (some ⟨B0, 0, none⟩)), .v (.pointer (some ⟨B0, 0, none⟩)), .v (.slice a_m0_0 m0_0.length c_m0_0), .v (.int .i64 (m0_0.length : Int)), .v (.bool false)] (by kernel_rfl) ?_ ?_
      · refine DI.sq 3 (by kernel_rfl) rfl ?_
        refine .cons (.ld1 rfl rfl rfl (.at 0 rfl rfl)) ?_
        refine DI.sq 3 (by kernel_rfl) rfl ?_
        refine .cons (.ld1 rfl rfl rfl (.at 0 rfl rfl)) ?_
        refine DI.sq 1 (by kernel_rfl) rfl ?_
        refine .cons (dv_quiet rfl (congrArg (fun t => some (Value.bool t)) c64b)) ?_
        exact .nil
      refine fk_q 10 [0, 1, 5, 15] (σ' := [(0, .pointer (some ⟨B0, 0, none⟩)), (1, .int .i64 below1), (5, .int .i64 0), (15, .bool false)]) t_more (by kernel_rfl) ?_
      refine fk_nil fun all => ?_
      refine t_keep [0, 1, 5, 15] (σ' := [(0, .pointer (some ⟨B0, 0, none⟩)), (1, .int .i64 below1), (5, .int .i64 0), (15, .bool false)]) (by kernel_rfl) ?_
      refine t_end ?_
      show W _ _ _ _ _ _ _
      refine w_cond rfl (fun c_ => by cases c_) (fun _ => ?_)
      show W _ _ _ _ _ _ _
      refine w_skip ?_
      obtain rfl := Option.some.inj e62
      exact ⟨([⟨B0, [.slice a_m0_0 m0_0.length c_m0_0, .int .i64 m0_1], 2⟩] : List Own), S, VS.sel [0] (by kernel_rfl), by kernel_rfl, rfl, rfl⟩
  · rintro σ_ H_ S_ ⟨rfl, rfl, rfl⟩
    refine w_seq ?_
    refine w_reg fun all => ?_
    refine t_qz 4 [1, 5, 26, 29] (σ' := [(1, .int .i64 below1), (5, .int .i64 x75), (26, .pointer (some ⟨B0, 0, none⟩)), (29, .pointer (some ⟨B0, 1, none⟩))]) (by kernel_rfl) ?_
    refine t_v (.ld1 rfl rfl rfl (.at 0 rfl rfl)) ?_
    refine t_qz 3 [1, 5, 31, 33] (σ' := [(1, .int .i64 below1), (5, .int .i64 x75), (31, .int .i64 (wr64 (m0_1 + 1))), (33, .pointer (some ⟨B0, 1, none⟩))]) (by kernel_rfl) ?_
    refine t_sti 0 (cs := [.slice a_m0_0 m0_0.length c_m0_0, .int .i64 (wr64 (m0_1 + 1))]) rfl rfl rfl rfl rfl rfl rfl rfl rfl ?_
    refine t_keep [1, 5] (σ' := [(1, .int .i64 below1), (5, .int .i64 x75)]) (by kernel_rfl) ?_
    refine t_end ?_
    show W _ _ _ _ _ _ _
    refine w_seq ?_
    refine w_reg fun all => ?_
    obtain ⟨t76, h77, e⟩ := bind_of e
    refine t_qz 2 [34, 35] (σ' := [(34, .int .i64 x75), (35, .int .i64 below1)]) (by kernel_rfl) ?_
    refine t_v (.call (vs := [.int .i64 x75, .int .i64 below1]) rfl rfl (by kernel_rfl) (glyphicworld_Number.ok h77)) ?_
    refine t_qz 1 [4] (σ' := [(4, .int .i64 t76)]) (by kernel_rfl) ?_
    refine t_end ?_
    show W _ _ _ _ _ _ _
    refine w_ret ?_
    simp only [Option.some.injEq, Prod.mk.injEq] at e
    obtain ⟨rfl, rfl⟩ := e
    exact ⟨[.int .i64 t76], ([⟨B0, [.slice a_m0_0 m0_0.length c_m0_0, .int .i64 (wr64 (m0_1 + 1))], 2⟩] : List Own), S, ⟨rfl, trivial⟩, VS.sel [0] (by kernel_rfl), rfl, rfl, rfl⟩

/-- glyphicmake.Point -/
def c18 : C :=
  (.seq (.reg [⟨(some 4), .new [(.int .i64 0), (.int .i64 0)], none⟩])
  (.seq (.reg [⟨(some 6), .mv (.tmp 0), none⟩,
     ⟨(some 7), .mv (.tmp 1), none⟩,
     ⟨(some 8), .bin .mul (.const (.int .i64 2)) (.tmp 7), none⟩,
     ⟨(some 9), .bin .add (.tmp 8) (.const (.int .i64 1)), none⟩,
     ⟨(some 10), .call 37 [(.tmp 6), (.tmp 9)], none⟩,
     ⟨(some 11), .mv (.tmp 1), none⟩,
     ⟨(some 12), .bin .sub (.tmp 10) (.tmp 11), none⟩,
     ⟨(some 5), .mv (.tmp 12), none⟩])
  (.seq (.reg [⟨(some 13), .mv (.tmp 5), none⟩,
     ⟨(some 14), .mv (.tmp 0), none⟩,
     ⟨(some 15), .mv (.tmp 1), none⟩,
     ⟨(some 16), .bin .mul (.const (.int .i64 2)) (.tmp 15), none⟩,
     ⟨(some 17), .bin .add (.tmp 16) (.const (.int .i64 1)), none⟩,
     ⟨(some 18), .call 37 [(.tmp 14), (.tmp 17)], none⟩,
     ⟨(some 19), .mv (.tmp 1), none⟩,
     ⟨(some 20), .bin .sub (.tmp 18) (.tmp 19), none⟩,
     ⟨(some 21), .bld [(.int .i64 0), (.int .i64 0)] [(0, 1, (.tmp 13)), (1, 1, (.tmp 20))], none⟩,
     ⟨none, .st 2 (.tmp 4) (.tmp 21), none⟩])
  .ret)))
def glyphicmake_Point_v1.f (far1 : Int) (m0_0 : List (Int)) (m0_1 : Int) : Option (Int × Int × Int) := (glyphicmake_Seq_Next_v1.f (wr64 ((wr64 (2 * far1)) + 1)) m0_0 m0_1).bind fun (t93, t94) => ((glyphicmake_Seq_Next_v1.f (wr64 ((wr64 (2 * far1)) + 1)) m0_0 t94).bind fun (t96, t97) => (some (wr64 (t93 - far1), wr64 (t96 - far1), t97)))
theorem glyphicmake_Point_v1.ok {S : Seal} {B0 : Nat} {far1 : Int} {m0_0 : List (Int)} {m0_1 : Int} {r0_ : Int} {r1_ : Int} {r2_ : Int}{a_m0_0 : Option Addr} {c_m0_0 : Nat} (h_m0_0 : SlE S E_i64 m0_0 a_m0_0) (e : glyphicmake_Point_v1.f far1 m0_0 m0_1 = some (r0_, r1_, r2_)) :
    Cal Try.prog 18 [.pointer (some ⟨B0, 0, none⟩), .int .i64 far1] ([⟨B0, [.slice a_m0_0 m0_0.length c_m0_0, .int .i64 m0_1], 2⟩] : List Own) S fun v H' S' => v = .agg #[.int .i64 r0_, .int .i64 r1_] ∧ H' = ([⟨B0, [.slice a_m0_0 m0_0.length c_m0_0, .int .i64 r2_], 2⟩] : List Own) ∧ S' = S := by
  unfold glyphicmake_Point_v1.f at e
  refine cal_of (c := c18) (N := 22) Try.func18 rfl rfl (by kernel_rfl) (rs := [.cn 2 4]) (by kernel_rfl) (Nat.le_of_ble_eq_true rfl) ?_
  unfold c18
  refine w_seq ?_
  refine w_reg fun all => ?_
  refine t_a (.new rfl rfl) fun b92 fb92 sb92 => ?_
  refine t_keep [0, 1, 4] (σ' := [(0, .pointer (some ⟨B0, 0, none⟩)), (1, .int .i64 far1), (4, .pointer (some ⟨b92, 0, none⟩))]) (by kernel_rfl) ?_
  refine t_end ?_
  show W _ _ _ _ _ _ _
  refine w_seq ?_
  refine w_reg fun all => ?_
  obtain ⟨⟨t93, t94⟩, h95, e⟩ := bind_of e
  try dsimp only at e
  refine t_qz 4 [0, 1, 4, 6, 9] (σ' := [(0, .pointer (some ⟨B0, 0, none⟩)), (1, .int .i64 far1), (4, .pointer (some ⟨b92, 0, none⟩)), (6, .pointer (some ⟨B0, 0, none⟩)), (9, .int .i64 (wr64 ((wr64 (2 * far1)) + 1)))]) (by kernel_rfl) ?_
  refine t_call (vs := [.pointer (some ⟨B0, 0, none⟩), .int .i64 (wr64 ((wr64 (2 * far1)) + 1))]) (H1 := ([⟨B0, [.slice a_m0_0 m0_0.length c_m0_0, .int .i64 m0_1], 2⟩] : List Own)) (F := ([⟨b92, [.int .i64 0, .int .i64 0], 2⟩] : List Own)) rfl rfl (by kernel_rfl) (sel_perm (is := [1]) (by kernel_rfl)) (glyphicmake_Seq_Next_v1.ok h_m0_0 h95) ?_
  rintro _ _ S_ ⟨rfl, rfl, hS_⟩
  obtain rfl := hS_.symm
  refine t_qz 3 [0, 1, 4, 5] (σ' := [(0, .pointer (some ⟨B0, 0, none⟩)), (1, .int .i64 far1), (4, .pointer (some ⟨b92, 0, none⟩)), (5, .int .i64 (wr64 (t93 - far1)))]) (by kernel_rfl) ?_
  refine t_end ?_
  show W _ _ _ _ _ _ _
  refine w_seq ?_
  refine w_reg fun all => ?_
  obtain ⟨⟨t96, t97⟩, h98, e⟩ := bind_of e
  try dsimp only at e
  refine t_qz 5 [1, 4, 13, 14, 17] (σ' := [(1, .int .i64 far1), (4, .pointer (some ⟨b92, 0, none⟩)), (13, .int .i64 (wr64 (t93 - far1))), (14, .pointer (some ⟨B0, 0, none⟩)), (17, .int .i64 (wr64 ((wr64 (2 * far1)) + 1)))]) (by kernel_rfl) ?_
  refine t_call (vs := [.pointer (some ⟨B0, 0, none⟩), .int .i64 (wr64 ((wr64 (2 * far1)) + 1))]) (H1 := ([⟨B0, [.slice a_m0_0 m0_0.length c_m0_0, .int .i64 t94], 2⟩] : List Own)) (F := ([⟨b92, [.int .i64 0, .int .i64 0], 2⟩] : List Own)) rfl rfl (by kernel_rfl) (sel_perm (is := [0]) (by kernel_rfl)) (glyphicmake_Seq_Next_v1.ok h_m0_0 h98) ?_
  rintro _ _ S_ ⟨rfl, rfl, hS_⟩
  obtain rfl := hS_.symm
  refine t_qz 3 [4, 21] (σ' := [(4, .pointer (some ⟨b92, 0, none⟩)), (21, .agg #[.int .i64 (wr64 (t93 - far1)), .int .i64 (wr64 (t96 - far1))])]) (by kernel_rfl) ?_
  refine t_sti 1 (cs := [.int .i64 (wr64 (t93 - far1)), .int .i64 (wr64 (t96 - far1))]) rfl rfl rfl rfl rfl rfl rfl rfl rfl ?_
  refine t_keep [4] (σ' := [(4, .pointer (some ⟨b92, 0, none⟩))]) (by kernel_rfl) ?_
  refine t_end ?_
  show W _ _ _ _ _ _ _
  refine w_ret ?_
  simp only [Option.some.injEq, Prod.mk.injEq] at e
  obtain ⟨rfl, rfl, rfl⟩ := e
  exact ⟨[.agg #[.int .i64 (wr64 (t93 - far1)), .int .i64 (wr64 (t96 - far1))]], ([⟨B0, [.slice a_m0_0 m0_0.length c_m0_0, .int .i64 t97], 2⟩] : List Own), S, ⟨⟨_, _, _, rfl, .at 1 rfl rfl, rfl⟩, trivial⟩, VS.sel [0] (by kernel_rfl), rfl, rfl, rfl⟩

/-- glyphicmake.Edges -/
def c17 : C :=
  (.seq (.reg [⟨(some 6), .mv (.const (.slice none 0 0)), none⟩])
  (.seq (.reg [⟨(some 7), .mv (.const (.slice none 0 0)), none⟩])
  (.seq (.seq (.reg [⟨(some 10), .mv (.tmp 0), none⟩,
      ⟨(some 11), .mv (.tmp 1), none⟩,
      ⟨(some 12), .bin .add (.tmp 11) (.const (.int .i64 1)), none⟩,
      ⟨(some 13), .call 37 [(.tmp 10), (.tmp 12)], none⟩,
      ⟨(some 8), .mv (.tmp 13), none⟩])
   (.block 0 (.loop (.seq (.seq (.reg [⟨(some 14), .mv (.tmp 8), none⟩,
         ⟨(some 15), .bin .gtr (.tmp 14) (.const (.int .i64 0)), none⟩])
      (.cond (.tmp 15)
       .skip
       (.exit 0)))
     (.seq (.block 1 (.seq (.reg [⟨(some 18), .mv (.tmp 0), none⟩,
          ⟨(some 19), .mv (.tmp 2), none⟩,
          ⟨(some 20), .call 18 [(.tmp 18), (.tmp 19)], none⟩,
          ⟨(some 9), .new [(.int .i64 0), (.int .i64 0)], none⟩,
          ⟨none, .st 2 (.tmp 9) (.tmp 20), none⟩])
       (.drw [⟨(some 21), .mv (.tmp 7), none⟩,
         ⟨(some 22), .ld (some 2) (.tmp 9), none⟩,
         ⟨(some 23), .mv (.tmp 0), none⟩,
         ⟨(some 24), .mv (.tmp 2), none⟩,
         ⟨(some 25), .call 18 [(.tmp 23), (.tmp 24)], none⟩,
         ⟨(some 26), .bld [(.int .i64 0), (.int .i64 0), (.int .i64 0), (.int .i64 0)] [(0, 2, (.tmp 22)), (2, 2, (.tmp 25))], none⟩,
         ⟨(some 27), .bsl [(.int .i64 0), (.int .i64 0), (.int .i64 0), (.int .i64 0)] 1 [(0, 4, (.tmp 26))], none⟩,
         ⟨(some 28), .app 36 4 32 [(.int .i64 0), (.int .i64 0), (.int .i64 0), (.int .i64 0)] (.tmp 21) (.tmp 27), none⟩,
         ⟨(some 7), .mv (.tmp 28), none⟩] [[], [], [], [], [2, 3], [1, 4], [5], [0, 6, 4], [7, 7, 0, 1, 2, 3, 4, 5, 6, 7]])))
     (.reg [⟨(some 16), .mv (.tmp 8), none⟩,
       ⟨(some 17), .bin .sub (.tmp 16) (.const (.int .i64 1)), none⟩,
       ⟨(some 8), .mv (.tmp 17), none⟩]))))))
  (.seq (.reg [⟨(some 29), .mv (.tmp 7), none⟩,
     ⟨(some 6), .mv (.tmp 29), none⟩])
  .ret))))
def glyphicmake_Edges_v1.l0 : Nat → Int → List (Int) → Int → List (Int × Int × Int × Int) → Int → Option (List (Int × Int × Int × Int) × Int)
  | 0, _, _, _, _, _ => none
  | k + 1, far2, m0_0, x110, y112, x113 => if x110 > 0 then ((glyphicmake_Point_v1.f far2 m0_0 x113).bind fun (t115, t116, t117) => ((glyphicmake_Point_v1.f far2 m0_0 t117).bind fun (t120, t121, t122) => ((lapp y112 ([(t115, t116, t120, t121)] : List (Int × Int × Int × Int))).bind fun y125 => (glyphicmake_Edges_v1.l0 k far2 m0_0 (wr64 (x110 - 1)) y125 t122)))) else (some (y112, x113))
def glyphicmake_Edges_v1.f (k : Nat) (most1 : Int) (far2 : Int) (m0_0 : List (Int)) (m0_1 : Int) : Option (List (Int × Int × Int × Int) × Int) := ((glyphicmake_Seq_Next_v1.f (wr64 (most1 + 1)) m0_0 m0_1).bind fun (t107, t108) => (glyphicmake_Edges_v1.l0 k far2 m0_0 t107 ([] : List (Int × Int × Int × Int)) t108) : Option (List (Int × Int × Int × Int) × Int)).bind fun (y131, x132) => (some (y131, x132))
theorem glyphicmake_Edges_v1.ok {S : Seal} {B0 : Nat} {k : Nat} {most1 : Int} {far2 : Int} {m0_0 : List (Int)} {m0_1 : Int} {r0_ : List (Int × Int × Int × Int)} {r1_ : Int}{a_m0_0 : Option Addr} {c_m0_0 : Nat} (h_m0_0 : SlE S E_i64 m0_0 a_m0_0) (e : glyphicmake_Edges_v1.f k most1 far2 m0_0 m0_1 = some (r0_, r1_)) :
    Cal Try.prog 17 [.pointer (some ⟨B0, 0, none⟩), .int .i64 most1, .int .i64 far2] ([⟨B0, [.slice a_m0_0 m0_0.length c_m0_0, .int .i64 m0_1], 2⟩] : List Own) S fun v H' S' => ∃ (N0_ : Option Nat) (nN0_ : Nat) , v = .slice (ad N0_) r0_.length (nN0_ / 4) ∧ H' = ([⟨N0_, encL E_i644 r0_, nN0_⟩, ⟨B0, [.slice a_m0_0 m0_0.length c_m0_0, .int .i64 r1_], 2⟩] : List Own) ∧ S' = S := by
  unfold glyphicmake_Edges_v1.f at e
  refine cal_of (c := c17) (N := 30) Try.func17 rfl rfl (by kernel_rfl) (rs := [.t 6]) (by kernel_rfl) (Nat.le_of_ble_eq_true rfl) ?_
  unfold c17
  refine w_seq ?_
  refine w_reg fun all => ?_
  refine t_qz 1 [0, 1, 2] (σ' := [(0, .pointer (some ⟨B0, 0, none⟩)), (1, .int .i64 most1), (2, .int .i64 far2)]) (by kernel_rfl) ?_
  refine t_end ?_
  show W _ _ _ _ _ _ _
  refine w_seq ?_
  refine w_reg fun all => ?_
  refine t_qz 1 [0, 1, 2, 7] (σ' := [(0, .pointer (some ⟨B0, 0, none⟩)), (1, .int .i64 most1), (2, .int .i64 far2), (7, .slice none 0 0)]) (by kernel_rfl) ?_
  refine t_end ?_
  show W _ _ _ _ _ _ _
  obtain ⟨⟨y131, x132⟩, e105, e⟩ := bind_of e
  try dsimp only at e
  refine w_cut [7] (fun σ_ H_ S_ => ∃ (a130 : Option Nat) (na130 : Nat), [(7, .slice (ad a130) y131.length (na130 / 4))] = σ_ ∧ ([⟨B0, [.slice a_m0_0 m0_0.length c_m0_0, .int .i64 x132], 2⟩, ⟨a130, encL E_i644 y131, na130⟩] : List Own) = H_ ∧ S = S_) ?_ ?_
  · show W _ _ _ _ _ _ _
    refine w_seq ?_
    refine w_reg fun all => ?_
    obtain ⟨⟨t107, t108⟩, h109, e105⟩ := bind_of e105
    try dsimp only at e105
    refine t_qz 3 [0, 2, 7, 10, 12] (σ' := [(0, .pointer (some ⟨B0, 0, none⟩)), (2, .int .i64 far2), (7, .slice none 0 0), (10, .pointer (some ⟨B0, 0, none⟩)), (12, .int .i64 (wr64 (most1 + 1)))]) (by kernel_rfl) ?_
    refine t_call (vs := [.pointer (some ⟨B0, 0, none⟩), .int .i64 (wr64 (most1 + 1))]) (H1 := ([⟨B0, [.slice a_m0_0 m0_0.length c_m0_0, .int .i64 m0_1], 2⟩] : List Own)) (F := ([] : List Own)) rfl rfl (by kernel_rfl) (sel_perm (is := [0]) (by kernel_rfl)) (glyphicmake_Seq_Next_v1.ok h_m0_0 h109) ?_
    rintro _ _ S_ ⟨rfl, rfl, hS_⟩
    obtain rfl := hS_.symm
    refine t_qz 1 [0, 2, 7, 8] (σ' := [(0, .pointer (some ⟨B0, 0, none⟩)), (2, .int .i64 far2), (7, .slice none 0 0), (8, .int .i64 t107)]) (by kernel_rfl) ?_
    refine t_end ?_
    show W _ _ _ _ _ _ _
    refine w_block ?_
    refine w_vs VS.vac ?_
    refine w_kp [0, 2, 7, 8] (σ' := [(0, .pointer (some ⟨B0, 0, none⟩)), (2, .int .i64 far2), (7, .slice (ad none) ([] : List (Int × Int × Int × Int)).length (0 / 4)), (8, .int .i64 t107)]) (by kernel_rfl) ?_
    refine w_loop (fun n_ σ_ H_ S_ => ∃ (x110 : Int) (y112 : List (Int × Int × Int × Int)) (x113 : Int), ∃ (a111 : Option Nat) (na111 : Nat), [(0, .pointer (some ⟨B0, 0, none⟩)), (2, .int .i64 far2), (7, .slice (ad a111) y112.length (na111 / 4)), (8, .int .i64 x110)] = σ_ ∧ ([⟨a111, encL E_i644 y112, na111⟩, ⟨B0, [.slice a_m0_0 m0_0.length c_m0_0, .int .i64 x113], 2⟩] : List Own) = H_ ∧ S = S_ ∧ glyphicmake_Edges_v1.l0 n_ far2 m0_0 x110 y112 x113 = some (y131, x132)) _ ⟨t107, ([] : List (Int × Int × Int × Int)), t108, none, 0, rfl, rfl, rfl, e105⟩ ?_
    rintro n129 σ_ H_ S_ ⟨x110, y112, x113, a111, na111, rfl, rfl, rfl, e105⟩
    cases n129 with
    | zero => rw [glyphicmake_Edges_v1.l0.eq_1] at e105; cases e105
    | succ k_ =>
      rw [glyphicmake_Edges_v1.l0.eq_2] at e105
      refine w_seq ?_
      refine w_seq ?_
      refine w_reg fun all => ?_
      by_cases c114 : x110 > 0
      · rw [if_pos c114] at e105
        have c114b : (decide (x110 > 0)) = true := decide_eq_true c114
        refine t_qz 1 [0, 2, 7, 8, 14] (σ' := [(0, .pointer (some ⟨B0, 0, none⟩)), (2, .int .i64 far2), (7, .slice (ad a111) y112.length (na111 / 4)), (8, .int .i64 x110), (14, .int .i64 x110)]) (by kernel_rfl) ?_
        refine t_v (dv_quiet rfl (congrArg (fun t => some (Value.bool t)) c114b)) ?_
        refine t_keep [0, 2, 7, 8, 15] (σ' := [(0, .pointer (some ⟨B0, 0, none⟩)), (2, .int .i64 far2), (7, .slice (ad a111) y112.length (na111 / 4)), (8, .int .i64 x110), (15, .bool true)]) (by kernel_rfl) ?_
        refine t_end ?_
        show W _ _ _ _ _ _ _
        refine w_cond rfl (fun _ => ?_) (fun c_ => by cases c_)
        show W _ _ _ _ _ _ _
        refine w_skip ?_
        show W _ _ _ _ _ _ _
        refine w_seq ?_
        refine w_block ?_
        refine w_seq ?_
        refine w_reg fun all => ?_
        obtain ⟨⟨t115, t116, t117⟩, h118, e105⟩ := bind_of e105
        try dsimp only at e105
        refine t_qz 2 [0, 2, 7, 8, 18, 19] (σ' := [(0, .pointer (some ⟨B0, 0, none⟩)), (2, .int .i64 far2), (7, .slice (ad a111) y112.length (na111 / 4)), (8, .int .i64 x110), (18, .pointer (some ⟨B0, 0, none⟩)), (19, .int .i64 far2)]) (by kernel_rfl) ?_
        refine t_call (vs := [.pointer (some ⟨B0, 0, none⟩), .int .i64 far2]) (H1 := ([⟨B0, [.slice a_m0_0 m0_0.length c_m0_0, .int .i64 x113], 2⟩] : List Own)) (F := ([⟨a111, encL E_i644 y112, na111⟩] : List Own)) rfl rfl (by kernel_rfl) (sel_perm (is := [1]) (by kernel_rfl)) (glyphicmake_Point_v1.ok h_m0_0 h118) ?_
        rintro _ _ S_ ⟨rfl, rfl, hS_⟩
        obtain rfl := hS_.symm
        refine t_a (.new rfl rfl) fun b119 fb119 sb119 => ?_
        refine t_sti 0 (cs := [.int .i64 t115, .int .i64 t116]) rfl rfl rfl rfl rfl rfl rfl rfl rfl ?_
        refine t_keep [0, 2, 7, 8, 9] (σ' := [(0, .pointer (some ⟨B0, 0, none⟩)), (2, .int .i64 far2), (7, .slice (ad a111) y112.length (na111 / 4)), (8, .int .i64 x110), (9, .pointer (some ⟨b119, 0, none⟩))]) (by kernel_rfl) ?_
        refine t_end ?_
        show W _ _ _ _ _ _ _
        obtain ⟨⟨t120, t121, t122⟩, h123, e105⟩ := bind_of e105
        try dsimp only at e105
        obtain ⟨y125, hl126, e105⟩ := bind_of e105
        refine w_kp [0, 2, 7, 8, 9] (σ' := [(0, .pointer (some ⟨B0, 0, none⟩)), (2, .int .i64 far2), (7, .slice (ad a111) y112.length (na111 / 4)), (8, .int .i64 x110), (9, .pointer (some ⟨b119, 0, none⟩))]) (by kernel_rfl) ?_
        refine w_gameQ mixed (by kernel_rfl) fun all G hend hstep hqf => ?_
        have hg_1ff : ∀ (g127 : Option Nat) (ng127 : Nat) (g124 : Nat), G [true, true, true, true, true, true, true, true, true] [(0, .pointer (some ⟨B0, 0, none⟩)), (2, .int .i64 far2), (7, .slice (ad g127) y125.length (ng127 / 4)), (8, .int .i64 x110)] ([⟨g127, encL E_i644 y125, ng127⟩, ⟨g124, [.int .i64 t115, .int .i64 t116, .int .i64 t120, .int .i64 t121], 4⟩, ⟨B0, [.slice a_m0_0 m0_0.length c_m0_0, .int .i64 t122], 2⟩, ⟨b119, [.int .i64 t115, .int .i64 t116], 2⟩] : List Own) := by
          intro g127 ng127 g124
          refine hend _ _ _ (by kernel_rfl) ?_
          show W _ _ _ _ _ _ _
          refine w_reg fun all => ?_
          refine t_qz 3 [0, 2, 7, 8] (σ' := [(0, .pointer (some ⟨B0, 0, none⟩)), (2, .int .i64 far2), (7, .slice (ad g127) y125.length (ng127 / 4)), (8, .int .i64 (wr64 (x110 - 1)))]) (by kernel_rfl) ?_
          refine t_end ?_
          exact ⟨k_, Nat.lt_succ_self _, [(0, .pointer (some ⟨B0, 0, none⟩)), (2, .int .i64 far2), (7, .slice (ad g127) y125.length (ng127 / 4)), (8, .int .i64 (wr64 (x110 - 1)))], ([⟨g127, encL E_i644 y125, ng127⟩, ⟨B0, [.slice a_m0_0 m0_0.length c_m0_0, .int .i64 t122], 2⟩] : List Own), S, keep_sub [0, 2, 7, 8] (by kernel_rfl), VS.sel [0, 1] (by kernel_rfl), wr64 (x110 - 1), y125, t122, g127, ng127, rfl, rfl, rfl, e105⟩
        have hg_ff : ∀ (g127 : Option Nat) (ng127 : Nat) (g124 : Nat), G [true, true, true, true, true, true, true, true, false] [(0, .pointer (some ⟨B0, 0, none⟩)), (2, .int .i64 far2), (7, .slice (ad a111) y112.length (na111 / 4)), (8, .int .i64 x110), (28, .slice (ad g127) y125.length (ng127 / 4))] ([⟨g127, encL E_i644 y125, ng127⟩, ⟨g124, [.int .i64 t115, .int .i64 t116, .int .i64 t120, .int .i64 t121], 4⟩, ⟨B0, [.slice a_m0_0 m0_0.length c_m0_0, .int .i64 t122], 2⟩, ⟨b119, [.int .i64 t115, .int .i64 t116], 2⟩] : List Own) := by
          intro g127 ng127 g124
          exact hqf 8 [0, 2, 7, 8] _ _ _ [(0, .pointer (some ⟨B0, 0, none⟩)), (2, .int .i64 far2), (7, .slice (ad g127) y125.length (ng127 / 4)), (8, .int .i64 x110)] (by kernel_rfl) (by kernel_rfl) (hg_1ff g127 ng127 g124)
        have hg_7f : ∀ (g124 : Nat), G [true, true, true, true, true, true, true, false, false] [(0, .pointer (some ⟨B0, 0, none⟩)), (2, .int .i64 far2), (7, .slice (ad a111) y112.length (na111 / 4)), (8, .int .i64 x110), (21, .slice (ad a111) y112.length (na111 / 4)), (27, .slice (some ⟨g124, 0, none⟩) 1 1)] ([⟨g124, [.int .i64 t115, .int .i64 t116, .int .i64 t120, .int .i64 t121], 4⟩, ⟨B0, [.slice a_m0_0 m0_0.length c_m0_0, .int .i64 t122], 2⟩, ⟨b119, [.int .i64 t115, .int .i64 t116], 2⟩, ⟨a111, encL E_i644 y112, na111⟩] : List Own) := by
          intro g124
          refine hstep [7] _ _ _ (by kernel_rfl) (List.cons_ne_nil _ _) ⟨?_, trivial⟩
          · show T _ _ _ _ _ _ _ _
            refine t_appX (E := E_i644) (L := y112) (X := ([(t115, t116, t120, t121)] : List (Int × Int × Int × Int))) (F := ([⟨g124, [.int .i64 t115, .int .i64 t116, .int .i64 t120, .int .i64 t121], 4⟩, ⟨B0, [.slice a_m0_0 m0_0.length c_m0_0, .int .i64 t122], 2⟩, ⟨b119, [.int .i64 t115, .int .i64 t116], 2⟩] : List Own)) rfl rfl rfl rfl (sel_perm (is := [3]) (by kernel_rfl)) rfl (Or.inr ⟨_, _, rfl, .at 0 rfl (by kernel_rfl)⟩) rfl (by decide) (by decide) rfl hl126 fun g127 ng127 => ?_
            refine t_keep [0, 2, 7, 8, 28] (σ' := [(0, .pointer (some ⟨B0, 0, none⟩)), (2, .int .i64 far2), (7, .slice (ad a111) y112.length (na111 / 4)), (8, .int .i64 x110), (28, .slice (ad g127) y125.length (ng127 / 4))]) (by kernel_rfl) ?_
            refine t_end ?_
            exact ⟨hg_ff g127 ng127 g124, rfl⟩
        have hg_3f : G [true, true, true, true, true, true, false, false, false] [(0, .pointer (some ⟨B0, 0, none⟩)), (2, .int .i64 far2), (7, .slice (ad a111) y112.length (na111 / 4)), (8, .int .i64 x110), (21, .slice (ad a111) y112.length (na111 / 4)), (26, .agg #[.int .i64 t115, .int .i64 t116, .int .i64 t120, .int .i64 t121])] ([⟨B0, [.slice a_m0_0 m0_0.length c_m0_0, .int .i64 t122], 2⟩, ⟨b119, [.int .i64 t115, .int .i64 t116], 2⟩, ⟨a111, encL E_i644 y112, na111⟩] : List Own) := by
          refine hstep [6] _ _ _ (by kernel_rfl) (List.cons_ne_nil _ _) ⟨?_, trivial⟩
          · show T _ _ _ _ _ _ _ _
            refine t_a (.bsl rfl rfl rfl rfl) fun g124 fg124 sg124 => ?_
            refine t_keep [0, 2, 7, 8, 21, 27] (σ' := [(0, .pointer (some ⟨B0, 0, none⟩)), (2, .int .i64 far2), (7, .slice (ad a111) y112.length (na111 / 4)), (8, .int .i64 x110), (21, .slice (ad a111) y112.length (na111 / 4)), (27, .slice (some ⟨g124, 0, none⟩) 1 1)]) (by kernel_rfl) ?_
            refine t_end ?_
            exact ⟨hg_7f g124, rfl⟩
        have hg_1f : G [true, true, true, true, true, false, false, false, false] [(0, .pointer (some ⟨B0, 0, none⟩)), (2, .int .i64 far2), (7, .slice (ad a111) y112.length (na111 / 4)), (8, .int .i64 x110), (21, .slice (ad a111) y112.length (na111 / 4)), (22, .agg #[.int .i64 t115, .int .i64 t116]), (25, .agg #[.int .i64 t120, .int .i64 t121])] ([⟨B0, [.slice a_m0_0 m0_0.length c_m0_0, .int .i64 t122], 2⟩, ⟨b119, [.int .i64 t115, .int .i64 t116], 2⟩, ⟨a111, encL E_i644 y112, na111⟩] : List Own) := by
          exact hqf 5 [0, 2, 7, 8, 21, 26] _ _ _ [(0, .pointer (some ⟨B0, 0, none⟩)), (2, .int .i64 far2), (7, .slice (ad a111) y112.length (na111 / 4)), (8, .int .i64 x110), (21, .slice (ad a111) y112.length (na111 / 4)), (26, .agg #[.int .i64 t115, .int .i64 t116, .int .i64 t120, .int .i64 t121])] (by kernel_rfl) (by kernel_rfl) hg_3f
        have hg_f : G [true, true, true, true, false, false, false, false, false] [(0, .pointer (some ⟨B0, 0, none⟩)), (2, .int .i64 far2), (7, .slice (ad a111) y112.length (na111 / 4)), (8, .int .i64 x110), (21, .slice (ad a111) y112.length (na111 / 4)), (22, .agg #[.int .i64 t115, .int .i64 t116]), (23, .pointer (some ⟨B0, 0, none⟩)), (24, .int .i64 far2)] ([⟨b119, [.int .i64 t115, .int .i64 t116], 2⟩, ⟨B0, [.slice a_m0_0 m0_0.length c_m0_0, .int .i64 t117], 2⟩, ⟨a111, encL E_i644 y112, na111⟩] : List Own) := by
          refine hstep [4] _ _ _ (by kernel_rfl) (List.cons_ne_nil _ _) ⟨?_, trivial⟩
          · show T _ _ _ _ _ _ _ _
            refine t_call (vs := [.pointer (some ⟨B0, 0, none⟩), .int .i64 far2]) (H1 := ([⟨B0, [.slice a_m0_0 m0_0.length c_m0_0, .int .i64 t117], 2⟩] : List Own)) (F := ([⟨b119, [.int .i64 t115, .int .i64 t116], 2⟩, ⟨a111, encL E_i644 y112, na111⟩] : List Own)) rfl rfl (by kernel_rfl) (sel_perm (is := [1]) (by kernel_rfl)) (glyphicmake_Point_v1.ok h_m0_0 h123) ?_
            rintro _ _ S_ ⟨rfl, rfl, hS_⟩
            obtain rfl := hS_.symm
            refine t_keep [0, 2, 7, 8, 21, 22, 25] (σ' := [(0, .pointer (some ⟨B0, 0, none⟩)), (2, .int .i64 far2), (7, .slice (ad a111) y112.length (na111 / 4)), (8, .int .i64 x110), (21, .slice (ad a111) y112.length (na111 / 4)), (22, .agg #[.int .i64 t115, .int .i64 t116]), (25, .agg #[.int .i64 t120, .int .i64 t121])]) (by kernel_rfl) ?_
            refine t_end ?_
            exact ⟨hg_1f, rfl⟩
        have hg_1d : G [true, false, true, true, true, false, false, false, false] [(0, .pointer (some ⟨B0, 0, none⟩)), (2, .int .i64 far2), (7, .slice (ad a111) y112.length (na111 / 4)), (8, .int .i64 x110), (9, .pointer (some ⟨b119, 0, none⟩)), (21, .slice (ad a111) y112.length (na111 / 4)), (25, .agg #[.int .i64 t120, .int .i64 t121])] ([⟨B0, [.slice a_m0_0 m0_0.length c_m0_0, .int .i64 t122], 2⟩, ⟨b119, [.int .i64 t115, .int .i64 t116], 2⟩, ⟨a111, encL E_i644 y112, na111⟩] : List Own) := by
          refine hstep [1] _ _ _ (by kernel_rfl) (List.cons_ne_nil _ _) ⟨?_, trivial⟩
          · show T _ _ _ _ _ _ _ _
            refine t_v (.ldn rfl rfl rfl (.at 1 rfl rfl)) ?_
            refine t_keep [0, 2, 7, 8, 21, 22, 25] (σ' := [(0, .pointer (some ⟨B0, 0, none⟩)), (2, .int .i64 far2), (7, .slice (ad a111) y112.length (na111 / 4)), (8, .int .i64 x110), (21, .slice (ad a111) y112.length (na111 / 4)), (22, .agg #[.int .i64 t115, .int .i64 t116]), (25, .agg #[.int .i64 t120, .int .i64 t121])]) (by kernel_rfl) ?_
            refine t_end ?_
            exact ⟨hg_1f, rfl⟩
        have hg_d : G [true, false, true, true, false, false, false, false, false] [(0, .pointer (some ⟨B0, 0, none⟩)), (2, .int .i64 far2), (7, .slice (ad a111) y112.length (na111 / 4)), (8, .int .i64 x110), (9, .pointer (some ⟨b119, 0, none⟩)), (21, .slice (ad a111) y112.length (na111 / 4)), (23, .pointer (some ⟨B0, 0, none⟩)), (24, .int .i64 far2)] ([⟨b119, [.int .i64 t115, .int .i64 t116], 2⟩, ⟨B0, [.slice a_m0_0 m0_0.length c_m0_0, .int .i64 t117], 2⟩, ⟨a111, encL E_i644 y112, na111⟩] : List Own) := by
          refine hstep [1, 4] _ _ _ (by kernel_rfl) (List.cons_ne_nil _ _) ⟨?_, ?_, trivial⟩
          · show T _ _ _ _ _ _ _ _
            refine t_v (.ldn rfl rfl rfl (.at 0 rfl rfl)) ?_
            refine t_keep [0, 2, 7, 8, 21, 22, 23, 24] (σ' := [(0, .pointer (some ⟨B0, 0, none⟩)), (2, .int .i64 far2), (7, .slice (ad a111) y112.length (na111 / 4)), (8, .int .i64 x110), (21, .slice (ad a111) y112.length (na111 / 4)), (22, .agg #[.int .i64 t115, .int .i64 t116]), (23, .pointer (some ⟨B0, 0, none⟩)), (24, .int .i64 far2)]) (by kernel_rfl) ?_
            refine t_end ?_
            exact ⟨hg_f, rfl⟩
          · show T _ _ _ _ _ _ _ _
            refine t_call (vs := [.pointer (some ⟨B0, 0, none⟩), .int .i64 far2]) (H1 := ([⟨B0, [.slice a_m0_0 m0_0.length c_m0_0, .int .i64 t117], 2⟩] : List Own)) (F := ([⟨b119, [.int .i64 t115, .int .i64 t116], 2⟩, ⟨a111, encL E_i644 y112, na111⟩] : List Own)) rfl rfl (by kernel_rfl) (sel_perm (is := [1]) (by kernel_rfl)) (glyphicmake_Point_v1.ok h_m0_0 h123) ?_
            rintro _ _ S_ ⟨rfl, rfl, hS_⟩
            obtain rfl := hS_.symm
            refine t_keep [0, 2, 7, 8, 9, 21, 25] (σ' := [(0, .pointer (some ⟨B0, 0, none⟩)), (2, .int .i64 far2), (7, .slice (ad a111) y112.length (na111 / 4)), (8, .int .i64 x110), (9, .pointer (some ⟨b119, 0, none⟩)), (21, .slice (ad a111) y112.length (na111 / 4)), (25, .agg #[.int .i64 t120, .int .i64 t121])]) (by kernel_rfl) ?_
            refine t_end ?_
            exact ⟨hg_1d, rfl⟩
        have hg_5 : G [true, false, true, false, false, false, false, false, false] [(0, .pointer (some ⟨B0, 0, none⟩)), (2, .int .i64 far2), (7, .slice (ad a111) y112.length (na111 / 4)), (8, .int .i64 x110), (9, .pointer (some ⟨b119, 0, none⟩)), (21, .slice (ad a111) y112.length (na111 / 4)), (23, .pointer (some ⟨B0, 0, none⟩))] ([⟨b119, [.int .i64 t115, .int .i64 t116], 2⟩, ⟨B0, [.slice a_m0_0 m0_0.length c_m0_0, .int .i64 t117], 2⟩, ⟨a111, encL E_i644 y112, na111⟩] : List Own) := by
          exact hqf 3 [0, 2, 7, 8, 9, 21, 23, 24] _ _ _ [(0, .pointer (some ⟨B0, 0, none⟩)), (2, .int .i64 far2), (7, .slice (ad a111) y112.length (na111 / 4)), (8, .int .i64 x110), (9, .pointer (some ⟨b119, 0, none⟩)), (21, .slice (ad a111) y112.length (na111 / 4)), (23, .pointer (some ⟨B0, 0, none⟩)), (24, .int .i64 far2)] (by kernel_rfl) (by kernel_rfl) hg_d
        have hg_1 : G [true, false, false, false, false, false, false, false, false] [(0, .pointer (some ⟨B0, 0, none⟩)), (2, .int .i64 far2), (7, .slice (ad a111) y112.length (na111 / 4)), (8, .int .i64 x110), (9, .pointer (some ⟨b119, 0, none⟩)), (21, .slice (ad a111) y112.length (na111 / 4))] ([⟨b119, [.int .i64 t115, .int .i64 t116], 2⟩, ⟨B0, [.slice a_m0_0 m0_0.length c_m0_0, .int .i64 t117], 2⟩, ⟨a111, encL E_i644 y112, na111⟩] : List Own) := by
          exact hqf 2 [0, 2, 7, 8, 9, 21, 23] _ _ _ [(0, .pointer (some ⟨B0, 0, none⟩)), (2, .int .i64 far2), (7, .slice (ad a111) y112.length (na111 / 4)), (8, .int .i64 x110), (9, .pointer (some ⟨b119, 0, none⟩)), (21, .slice (ad a111) y112.length (na111 / 4)), (23, .pointer (some ⟨B0, 0, none⟩))] (by kernel_rfl) (by kernel_rfl) hg_5
        have hg_0 : G [false, false, false, false, false, false, false, false, false] [(0, .pointer (some ⟨B0, 0, none⟩)), (2, .int .i64 far2), (7, .slice (ad a111) y112.length (na111 / 4)), (8, .int .i64 x110), (9, .pointer (some ⟨b119, 0, none⟩))] ([⟨b119, [.int .i64 t115, .int .i64 t116], 2⟩, ⟨B0, [.slice a_m0_0 m0_0.length c_m0_0, .int .i64 t117], 2⟩, ⟨a111, encL E_i644 y112, na111⟩] : List Own) := by
          exact hqf 0 [0, 2, 7, 8, 9, 21] _ _ _ [(0, .pointer (some ⟨B0, 0, none⟩)), (2, .int .i64 far2), (7, .slice (ad a111) y112.length (na111 / 4)), (8, .int .i64 x110), (9, .pointer (some ⟨b119, 0, none⟩)), (21, .slice (ad a111) y112.length (na111 / 4))] (by kernel_rfl) (by kernel_rfl) hg_1
        exact hg_0
      · rw [if_neg c114] at e105
        have c114b : (decide (x110 > 0)) = false := decide_eq_false c114
        refine t_qz 1 [0, 2, 7, 8, 14] (σ' := [(0, .pointer (some ⟨B0, 0, none⟩)), (2, .int .i64 far2), (7, .slice (ad a111) y112.length (na111 / 4)), (8, .int .i64 x110), (14, .int .i64 x110)]) (by kernel_rfl) ?_
        refine t_v (dv_quiet rfl (congrArg (fun t => some (Value.bool t)) c114b)) ?_
        refine t_keep [0, 2, 7, 8, 15] (σ' := [(0, .pointer (some ⟨B0, 0, none⟩)), (2, .int .i64 far2), (7, .slice (ad a111) y112.length (na111 / 4)), (8, .int .i64 x110), (15, .bool false)]) (by kernel_rfl) ?_
        refine t_end ?_
        show W _ _ _ _ _ _ _
        refine w_cond rfl (fun c_ => by cases c_) (fun _ => ?_)
        show W _ _ _ _ _ _ _
        refine w_exit ?_
        simp only [Option.some.injEq, Prod.mk.injEq] at e105
        obtain ⟨rfl, rfl⟩ := e105
        exact ⟨([⟨B0, [.slice a_m0_0 m0_0.length c_m0_0, .int .i64 x113], 2⟩, ⟨a111, encL E_i644 y112, na111⟩] : List Own), S, VS.sel [1, 0] (by kernel_rfl), a111, na111, by kernel_rfl, rfl, rfl⟩
  · rintro σ_ H_ S_ ⟨a130, na130, rfl, rfl, rfl⟩
    refine w_seq ?_
    refine w_reg fun all => ?_
    refine t_qz 2 [6] (σ' := [(6, .slice (ad a130) y131.length (na130 / 4))]) (by kernel_rfl) ?_
    refine t_end ?_
    show W _ _ _ _ _ _ _
    refine w_ret ?_
    simp only [Option.some.injEq, Prod.mk.injEq] at e
    obtain ⟨rfl, rfl⟩ := e
    exact ⟨[.slice (ad a130) y131.length (na130 / 4)], ([⟨a130, encL E_i644 y131, na130⟩, ⟨B0, [.slice a_m0_0 m0_0.length c_m0_0, .int .i64 x132], 2⟩] : List Own), S, ⟨rfl, trivial⟩, VS.sel [1, 0] (by kernel_rfl), a130, na130, rfl, rfl, rfl⟩

/-- glyphicref.Edges -/
def c20 : C :=
  (.seq (.reg [⟨(some 2), .mv (.const (.slice none 0 0)), none⟩])
  (.seq (.reg [⟨(some 5), .mv (.tmp 0), none⟩,
     ⟨(some 6), .lns (.tmp 5), none⟩,
     ⟨(some 7), .mks 4 32 [(.int .i64 0), (.int .i64 0), (.int .i64 0), (.int .i64 0)] (.const (.int .i64 0)) (.tmp 6), none⟩,
     ⟨(some 3), .mv (.tmp 7), none⟩])
  (.seq (.seq (.reg [⟨(some 4), .mv (.const (.int .i64 0)), none⟩])
   (.block 0 (.loop (.seq (.seq (.reg [⟨(some 8), .mv (.tmp 4), none⟩,
         ⟨(some 9), .mv (.tmp 0), none⟩,
         ⟨(some 10), .lns (.tmp 9), none⟩,
         ⟨(some 11), .bin .lss (.tmp 8) (.tmp 10), none⟩])
      (.cond (.tmp 11)
       .skip
       (.exit 0)))
     (.seq (.block 1 (.reg [⟨(some 14), .mv (.tmp 3), none⟩,
         ⟨(some 15), .mv (.tmp 0), none⟩,
         ⟨(some 16), .mv (.tmp 4), none⟩,
         ⟨(some 17), .ixs 4 (.tmp 15) (.tmp 16), none⟩,
         ⟨(some 18), .ld (some 4) (.tmp 17), none⟩,
         ⟨(some 19), .bsl [(.int .i64 0), (.int .i64 0), (.int .i64 0), (.int .i64 0)] 1 [(0, 4, (.tmp 18))], none⟩,
         ⟨(some 20), .app 36 4 32 [(.int .i64 0), (.int .i64 0), (.int .i64 0), (.int .i64 0)] (.tmp 14) (.tmp 19), none⟩,
         ⟨(some 3), .mv (.tmp 20), none⟩]))
     (.reg [⟨(some 12), .mv (.tmp 4), none⟩,
       ⟨(some 13), .bin .add (.tmp 12) (.const (.int .i64 1)), none⟩,
       ⟨(some 4), .mv (.tmp 13), none⟩]))))))
  (.seq (.reg [⟨(some 21), .mv (.tmp 3), none⟩,
     ⟨(some 2), .mv (.tmp 21), none⟩])
  .ret))))
def glyphicref_Edges_v1.l0 : Nat → List (Int × Int × Int × Int) → Int → List (Int × Int × Int × Int) → Option (List (Int × Int × Int × Int))
  | 0, _, _, _ => none
  | k + 1, l0, x143, y145 => if x143 < (l0.length : Int) then ((lgt l0 x143).bind fun (x147, x148, x149, x150) => ((lapp y145 ([(x147, x148, x149, x150)] : List (Int × Int × Int × Int))).bind fun y161 => (glyphicref_Edges_v1.l0 k l0 (wr64 (x143 + 1)) y161))) else (some y145)
def glyphicref_Edges_v1.f (k : Nat) (l0 : List (Int × Int × Int × Int)) : Option (List (Int × Int × Int × Int)) := (lmk ((0, 0, 0, 0) : Int × Int × Int × Int) 0 (l0.length : Int)).bind fun y137 => ((glyphicref_Edges_v1.l0 k l0 0 y137 : Option (List (Int × Int × Int × Int))).bind fun y167 => (some y167))
theorem glyphicref_Edges_v1.ok {S : Seal} {k : Nat} {l0 : List (Int × Int × Int × Int)} {r0_ : List (Int × Int × Int × Int)}{a_l0 : Option Addr} {c_l0 : Nat} (h_l0 : SlE S E_i644 l0 a_l0) (e : glyphicref_Edges_v1.f k l0 = some r0_) :
    Cal Try.prog 20 [.slice a_l0 l0.length c_l0] [] S fun v H' S' => ∃ (N0_ : Option Nat) (nN0_ : Nat) , v = .slice (ad N0_) r0_.length (nN0_ / 4) ∧ H' = ([⟨N0_, encL E_i644 r0_, nN0_⟩] : List Own) ∧ S' = S := by
  unfold glyphicref_Edges_v1.f at e
  refine cal_of (c := c20) (N := 22) Try.func20 rfl rfl (by kernel_rfl) (rs := [.t 2]) (by kernel_rfl) (Nat.le_of_ble_eq_true rfl) ?_
  unfold c20
  refine w_seq ?_
  refine w_reg fun all => ?_
  refine t_qz 1 [0] (σ' := [(0, .slice a_l0 l0.length c_l0)]) (by kernel_rfl) ?_
  refine t_end ?_
  show W _ _ _ _ _ _ _
  refine w_seq ?_
  refine w_reg fun all => ?_
  obtain ⟨y137, hl138, e⟩ := bind_of e
  refine t_qz 2 [0, 6] (σ' := [(0, .slice a_l0 l0.length c_l0), (6, .int .i64 (l0.length : Int))]) (by kernel_rfl) ?_
  refine t_mkl (E := E_i644) (x0 := (0, 0, 0, 0)) rfl rfl rfl rfl rfl (by decide) (by decide) rfl hl138 fun a139 na139 => ?_
  refine t_qz 1 [0, 3] (σ' := [(0, .slice a_l0 l0.length c_l0), (3, .slice (ad (some a139)) y137.length (na139 / 4))]) (by kernel_rfl) ?_
  refine t_end ?_
  show W _ _ _ _ _ _ _
  obtain ⟨y167, e141, e⟩ := bind_of e
  refine w_cut [3] (fun σ_ H_ S_ => ∃ (a166 : Option Nat) (na166 : Nat), [(3, .slice (ad a166) y167.length (na166 / 4))] = σ_ ∧ ([⟨a166, encL E_i644 y167, na166⟩] : List Own) = H_ ∧ S = S_) ?_ ?_
  · show W _ _ _ _ _ _ _
    refine w_seq ?_
    refine w_reg fun all => ?_
    refine t_qz 1 [0, 3, 4] (σ' := [(0, .slice a_l0 l0.length c_l0), (3, .slice (ad (some a139)) y137.length (na139 / 4)), (4, .int .i64 0)]) (by kernel_rfl) ?_
    refine t_end ?_
    show W _ _ _ _ _ _ _
    refine w_block ?_
    refine w_kp [0, 3, 4] (σ' := [(0, .slice a_l0 l0.length c_l0), (3, .slice (ad (some a139)) y137.length (na139 / 4)), (4, .int .i64 0)]) (by kernel_rfl) ?_
    refine w_loop (fun n_ σ_ H_ S_ => ∃ (x143 : Int) (y145 : List (Int × Int × Int × Int)), ∃ (a144 : Option Nat) (na144 : Nat), [(0, .slice a_l0 l0.length c_l0), (3, .slice (ad a144) y145.length (na144 / 4)), (4, .int .i64 x143)] = σ_ ∧ ([⟨a144, encL E_i644 y145, na144⟩] : List Own) = H_ ∧ S = S_ ∧ glyphicref_Edges_v1.l0 n_ l0 x143 y145 = some y167) _ ⟨0, y137, some a139, na139, rfl, rfl, rfl, e141⟩ ?_
    rintro n165 σ_ H_ S_ ⟨x143, y145, a144, na144, rfl, rfl, rfl, e141⟩
    cases n165 with
    | zero => rw [glyphicref_Edges_v1.l0.eq_1] at e141; cases e141
    | succ k_ =>
      rw [glyphicref_Edges_v1.l0.eq_2] at e141
      refine w_seq ?_
      refine w_seq ?_
      refine w_reg fun all => ?_
      by_cases c146 : x143 < (l0.length : Int)
      · rw [if_pos c146] at e141
        have c146b : (decide (x143 < (l0.length : Int))) = true := decide_eq_true c146
        refine t_qz 3 [0, 3, 4, 8, 10] (σ' := [(0, .slice a_l0 l0.length c_l0), (3, .slice (ad a144) y145.length (na144 / 4)), (4, .int .i64 x143), (8, .int .i64 x143), (10, .int .i64 (l0.length : Int))]) (by kernel_rfl) ?_
        refine t_v (dv_quiet rfl (congrArg (fun t => some (Value.bool t)) c146b)) ?_
        refine t_keep [0, 3, 4, 11] (σ' := [(0, .slice a_l0 l0.length c_l0), (3, .slice (ad a144) y145.length (na144 / 4)), (4, .int .i64 x143), (11, .bool true)]) (by kernel_rfl) ?_
        refine t_end ?_
        show W _ _ _ _ _ _ _
        refine w_cond rfl (fun _ => ?_) (fun c_ => by cases c_)
        show W _ _ _ _ _ _ _
        refine w_skip ?_
        show W _ _ _ _ _ _ _
        refine w_seq ?_
        refine w_block ?_
        refine w_reg fun all => ?_
        obtain ⟨⟨x147, x148, x149, x150⟩, hx151, e141⟩ := bind_of e141
        try dsimp only at e141
        obtain ⟨lb152, lo153, ll154, la155, lS156, lv157, lz158, lu159⟩ := sle_get (E := E_i644) h_l0 hx151
        refine t_qz 3 [0, 4, 14, 15, 16] (σ' := [(0, .slice a_l0 l0.length c_l0), (4, .int .i64 x143), (14, .slice (ad a144) y145.length (na144 / 4)), (15, .slice a_l0 l0.length c_l0), (16, .int .i64 x143)]) (by kernel_rfl) ?_
        refine t_v (.quiet rfl (ixs_sle rfl rfl la155 lz158 lu159)) ?_
        refine t_v (.ldn (vs := [.int .i64 x147, .int .i64 x148, .int .i64 x149, .int .i64 x150]) rfl rfl rfl (.sealed lS156 (subl_sub lv157 (by kernel_rfl)))) ?_
        refine t_a (.bsl rfl rfl rfl rfl) fun b160 fb160 sb160 => ?_
        obtain ⟨y161, hl162, e141⟩ := bind_of e141
        refine t_appX (E := E_i644) (L := y145) (X := ([(x147, x148, x149, x150)] : List (Int × Int × Int × Int))) (F := ([⟨b160, [.int .i64 x147, .int .i64 x148, .int .i64 x149, .int .i64 x150], 4⟩] : List Own)) rfl rfl rfl rfl (sel_perm (is := [1]) (by kernel_rfl)) rfl (Or.inr ⟨_, _, rfl, .at 0 rfl (by kernel_rfl)⟩) rfl (by decide) (by decide) rfl hl162 fun a163 na163 => ?_
        refine t_qz 1 [0, 3, 4] (σ' := [(0, .slice a_l0 l0.length c_l0), (3, .slice (ad a163) y161.length (na163 / 4)), (4, .int .i64 x143)]) (by kernel_rfl) ?_
        refine t_end ?_
        show W _ _ _ _ _ _ _
        refine w_reg fun all => ?_
        refine t_qz 3 [0, 3, 4] (σ' := [(0, .slice a_l0 l0.length c_l0), (3, .slice (ad a163) y161.length (na163 / 4)), (4, .int .i64 (wr64 (x143 + 1)))]) (by kernel_rfl) ?_
        refine t_end ?_
        exact ⟨k_, Nat.lt_succ_self _, [(0, .slice a_l0 l0.length c_l0), (3, .slice (ad a163) y161.length (na163 / 4)), (4, .int .i64 (wr64 (x143 + 1)))], ([⟨a163, encL E_i644 y161, na163⟩] : List Own), S, keep_sub [0, 3, 4] (by kernel_rfl), VS.sel [0] (by kernel_rfl), wr64 (x143 + 1), y161, a163, na163, rfl, rfl, rfl, e141⟩
      · rw [if_neg c146] at e141
        have c146b : (decide (x143 < (l0.length : Int))) = false := decide_eq_false c146
        refine t_qz 3 [0, 3, 4, 8, 10] (σ' := [(0, .slice a_l0 l0.length c_l0), (3, .slice (ad a144) y145.length (na144 / 4)), (4, .int .i64 x143), (8, .int .i64 x143), (10, .int .i64 (l0.length : Int))]) (by kernel_rfl) ?_
        refine t_v (dv_quiet rfl (congrArg (fun t => some (Value.bool t)) c146b)) ?_
        refine t_keep [0, 3, 4, 11] (σ' := [(0, .slice a_l0 l0.length c_l0), (3, .slice (ad a144) y145.length (na144 / 4)), (4, .int .i64 x143), (11, .bool false)]) (by kernel_rfl) ?_
        refine t_end ?_
        show W _ _ _ _ _ _ _
        refine w_cond rfl (fun c_ => by cases c_) (fun _ => ?_)
        show W _ _ _ _ _ _ _
        refine w_exit ?_
        obtain rfl := Option.some.inj e141
        exact ⟨([⟨a144, encL E_i644 y145, na144⟩] : List Own), S, VS.sel [0] (by kernel_rfl), a144, na144, by kernel_rfl, rfl, rfl⟩
  · rintro σ_ H_ S_ ⟨a166, na166, rfl, rfl, rfl⟩
    refine w_seq ?_
    refine w_reg fun all => ?_
    refine t_qz 2 [2] (σ' := [(2, .slice (ad a166) y167.length (na166 / 4))]) (by kernel_rfl) ?_
    refine t_end ?_
    show W _ _ _ _ _ _ _
    refine w_ret ?_
    obtain rfl := Option.some.inj e
    exact ⟨[.slice (ad a166) y167.length (na166 / 4)], ([⟨a166, encL E_i644 y167, na166⟩] : List Own), S, ⟨rfl, trivial⟩, VS.sel [0] (by kernel_rfl), a166, na166, rfl, rfl, rfl⟩

def plane_Sub.f (a0_X : Int) (a0_Y : Int) (b1_X : Int) (b1_Y : Int) : Option (Int × Int) := some (wr64 (a0_X - b1_X), wr64 (a0_Y - b1_Y))
theorem plane_Sub.ok {S : Seal} {a0_X : Int} {a0_Y : Int} {b1_X : Int} {b1_Y : Int} {r0_ : Int} {r1_ : Int}(e : plane_Sub.f a0_X a0_Y b1_X b1_Y = some (r0_, r1_)) :
    Cal Try.prog 116 [.agg #[.int .i64 a0_X, .int .i64 a0_Y], .agg #[.int .i64 b1_X, .int .i64 b1_Y]] [] S fun v H' S' => v = .agg #[.int .i64 r0_, .int .i64 r1_] ∧ H' = [] ∧ S' = S := by
  unfold plane_Sub.f at e
  refine cal_of (c := c116) (N := 16) Try.func116 rfl rfl (by kernel_rfl) (rs := [.cn 2 4]) (by kernel_rfl) (Nat.le_of_ble_eq_true rfl) ?_
  unfold c116
  refine w_seq ?_
  refine w_reg fun all => ?_
  refine t_a (.box rfl rfl rfl) fun b206 fb206 sb206 => ?_
  refine t_a (.box rfl rfl rfl) fun b207 fb207 sb207 => ?_
  refine t_a (.new rfl rfl) fun b208 fb208 sb208 => ?_
  refine t_keep [2, 3, 4] (σ' := [(2, .pointer (some ⟨b206, 0, none⟩)), (3, .pointer (some ⟨b207, 0, none⟩)), (4, .pointer (some ⟨b208, 0, none⟩))]) (by kernel_rfl) ?_
  refine t_end ?_
  show W _ _ _ _ _ _ _
  refine w_seq ?_
  refine w_reg fun all => ?_
  refine t_qz 1 [2, 3, 4, 5] (σ' := [(2, .pointer (some ⟨b206, 0, none⟩)), (3, .pointer (some ⟨b207, 0, none⟩)), (4, .pointer (some ⟨b208, 0, none⟩)), (5, .pointer (some ⟨b206, 0, none⟩))]) (by kernel_rfl) ?_
  refine t_v (.ld1 rfl rfl rfl (.at 2 rfl rfl)) ?_
  refine t_qz 1 [2, 3, 4, 6, 7] (σ' := [(2, .pointer (some ⟨b206, 0, none⟩)), (3, .pointer (some ⟨b207, 0, none⟩)), (4, .pointer (some ⟨b208, 0, none⟩)), (6, .int .i64 a0_X), (7, .pointer (some ⟨b207, 0, none⟩))]) (by kernel_rfl) ?_
  refine t_v (.ld1 rfl rfl rfl (.at 1 rfl rfl)) ?_
  refine t_qz 2 [3, 4, 9, 10] (σ' := [(3, .pointer (some ⟨b207, 0, none⟩)), (4, .pointer (some ⟨b208, 0, none⟩)), (9, .int .i64 (wr64 (a0_X - b1_X))), (10, .pointer (some ⟨b206, 1, none⟩))]) (by kernel_rfl) ?_
  refine t_v (.ld1 rfl rfl rfl (.at 2 rfl rfl)) ?_
  refine t_qz 1 [4, 9, 11, 12] (σ' := [(4, .pointer (some ⟨b208, 0, none⟩)), (9, .int .i64 (wr64 (a0_X - b1_X))), (11, .int .i64 a0_Y), (12, .pointer (some ⟨b207, 1, none⟩))]) (by kernel_rfl) ?_
  refine t_v (.ld1 rfl rfl rfl (.at 1 rfl rfl)) ?_
  refine t_qz 2 [4, 15] (σ' := [(4, .pointer (some ⟨b208, 0, none⟩)), (15, .agg #[.int .i64 (wr64 (a0_X - b1_X)), .int .i64 (wr64 (a0_Y - b1_Y))])]) (by kernel_rfl) ?_
  refine t_sti 0 (cs := [.int .i64 (wr64 (a0_X - b1_X)), .int .i64 (wr64 (a0_Y - b1_Y))]) rfl rfl rfl rfl rfl rfl rfl rfl rfl ?_
  refine t_keep [4] (σ' := [(4, .pointer (some ⟨b208, 0, none⟩))]) (by kernel_rfl) ?_
  refine t_end ?_
  show W _ _ _ _ _ _ _
  refine w_ret ?_
  simp only [Option.some.injEq, Prod.mk.injEq] at e
  obtain ⟨rfl, rfl⟩ := e
  exact ⟨[.agg #[.int .i64 (wr64 (a0_X - b1_X)), .int .i64 (wr64 (a0_Y - b1_Y))]], [], S, ⟨⟨_, _, _, rfl, .at 0 rfl rfl, rfl⟩, trivial⟩, VS.none, rfl, rfl, rfl⟩

def plane_Dot.f (a0_X : Int) (a0_Y : Int) (b1_X : Int) (b1_Y : Int) (p2_X : Int) (p2_Y : Int) : Option (Int) := (plane_Sub.f b1_X b1_Y a0_X a0_Y).bind fun (t206, t207) => ((plane_Sub.f p2_X p2_Y a0_X a0_Y).bind fun (t209, t210) => (some (wr64 ((wr64 (t206 * t209)) + (wr64 (t207 * t210))))))
theorem plane_Dot.ok {S : Seal} {a0_X : Int} {a0_Y : Int} {b1_X : Int} {b1_Y : Int} {p2_X : Int} {p2_Y : Int} {r0_ : Int}(e : plane_Dot.f a0_X a0_Y b1_X b1_Y p2_X p2_Y = some r0_) :
    Cal Try.prog 104 [.agg #[.int .i64 a0_X, .int .i64 a0_Y], .agg #[.int .i64 b1_X, .int .i64 b1_Y], .agg #[.int .i64 p2_X, .int .i64 p2_Y]] [] S fun v H' S' => v = .int .i64 r0_ ∧ H' = [] ∧ S' = S := by
  unfold plane_Dot.f at e
  refine cal_of (c := c104) (N := 26) Try.func104 rfl rfl (by kernel_rfl) (rs := [.t 6]) (by kernel_rfl) (Nat.le_of_ble_eq_true rfl) ?_
  unfold c104
  refine w_seq ?_
  refine w_reg fun all => ?_
  refine t_a (.box rfl rfl rfl) fun b203 fb203 sb203 => ?_
  refine t_a (.box rfl rfl rfl) fun b204 fb204 sb204 => ?_
  refine t_a (.box rfl rfl rfl) fun b205 fb205 sb205 => ?_
  refine t_qz 1 [3, 4, 5] (σ' := [(3, .pointer (some ⟨b203, 0, none⟩)), (4, .pointer (some ⟨b204, 0, none⟩)), (5, .pointer (some ⟨b205, 0, none⟩))]) (by kernel_rfl) ?_
  refine t_end ?_
  show W _ _ _ _ _ _ _
  refine w_seq ?_
  obtain ⟨⟨t206, t207⟩, h208, e⟩ := bind_of e
  try dsimp only at e
  obtain ⟨⟨t209, t210⟩, h211, e⟩ := bind_of e
  try dsimp only at e
  refine w_drwE mixed 8 [.v (.agg #[.int .i64 b1_X, .int .i64 b1_Y]), .v (.agg #[.int .i64 a0_X, .int .i64 a0_Y]), .v (.agg #[.int .i64 t206, .int .i64 t207]), .v (.agg #[.int .i64 p2_X, .int .i64 p2_Y]), .v (.agg #[.int .i64 a0_X, .int .i64 a0_Y]), .v (.agg #[.int .i64 t209, .int .i64 t210]), .a [.int .i64 0, .int .i64 0] ptrTo, .a [.int .i64 0, .int .i64 0] ptrTo] (by kernel_rfl) ?_ ?_
  · refine .cons (.ldn rfl rfl rfl (.at 1 rfl rfl)) ?_
    refine .cons (.ldn rfl rfl rfl (.at 2 rfl rfl)) ?_
    refine .cons (.call (vs := [.agg #[.int .i64 b1_X, .int .i64 b1_Y], .agg #[.int .i64 a0_X, .int .i64 a0_Y]]) rfl rfl (by kernel_rfl) (plane_Sub.ok h208)) ?_
    refine .cons (.ldn rfl rfl rfl (.at 0 rfl rfl)) ?_
    refine .cons (.ldn rfl rfl rfl (.at 2 rfl rfl)) ?_
    refine .cons (.call (vs := [.agg #[.int .i64 p2_X, .int .i64 p2_Y], .agg #[.int .i64 a0_X, .int .i64 a0_Y]]) rfl rfl (by kernel_rfl) (plane_Sub.ok h211)) ?_
    refine .cons (.new rfl rfl) ?_
    refine .cons (.new rfl rfl) ?_
    exact .nil
  refine fk_q 6 [11, 14] (σ' := [(11, .agg #[.int .i64 t206, .int .i64 t207]), (14, .agg #[.int .i64 t209, .int .i64 t210])]) t_more (by kernel_rfl) ?_
  refine fk_a fun b212 fb212 sb212 => ?_
  refine fk_a fun b213 fb213 sb213 => ?_
  refine fk_nil fun all => ?_
  refine t_sti 1 (cs := [.int .i64 t206, .int .i64 t207]) rfl rfl rfl rfl rfl rfl rfl rfl rfl ?_
  refine t_sti 0 (cs := [.int .i64 t209, .int .i64 t210]) rfl rfl rfl rfl rfl rfl rfl rfl rfl ?_
  refine t_keep [7, 8] (σ' := [(7, .pointer (some ⟨b212, 0, none⟩)), (8, .pointer (some ⟨b213, 0, none⟩))]) (by kernel_rfl) ?_
  refine t_end ?_
  show W _ _ _ _ _ _ _
  refine w_seq ?_
  refine w_reg fun all => ?_
  refine t_qz 1 [7, 8, 15] (σ' := [(7, .pointer (some ⟨b212, 0, none⟩)), (8, .pointer (some ⟨b213, 0, none⟩)), (15, .pointer (some ⟨b212, 0, none⟩))]) (by kernel_rfl) ?_
  refine t_v (.ld1 rfl rfl rfl (.at 1 rfl rfl)) ?_
  refine t_qz 1 [7, 8, 16, 17] (σ' := [(7, .pointer (some ⟨b212, 0, none⟩)), (8, .pointer (some ⟨b213, 0, none⟩)), (16, .int .i64 t206), (17, .pointer (some ⟨b213, 0, none⟩))]) (by kernel_rfl) ?_
  refine t_v (.ld1 rfl rfl rfl (.at 0 rfl rfl)) ?_
  refine t_qz 2 [8, 19, 20] (σ' := [(8, .pointer (some ⟨b213, 0, none⟩)), (19, .int .i64 (wr64 (t206 * t209))), (20, .pointer (some ⟨b212, 1, none⟩))]) (by kernel_rfl) ?_
  refine t_v (.ld1 rfl rfl rfl (.at 1 rfl rfl)) ?_
  refine t_qz 1 [19, 21, 22] (σ' := [(19, .int .i64 (wr64 (t206 * t209))), (21, .int .i64 t207), (22, .pointer (some ⟨b213, 1, none⟩))]) (by kernel_rfl) ?_
  refine t_v (.ld1 rfl rfl rfl (.at 0 rfl rfl)) ?_
  refine t_qz 3 [6] (σ' := [(6, .int .i64 (wr64 ((wr64 (t206 * t209)) + (wr64 (t207 * t210)))))]) (by kernel_rfl) ?_
  refine t_end ?_
  show W _ _ _ _ _ _ _
  refine w_ret ?_
  obtain rfl := Option.some.inj e
  exact ⟨[.int .i64 (wr64 ((wr64 (t206 * t209)) + (wr64 (t207 * t210))))], [], S, ⟨rfl, trivial⟩, VS.none, rfl, rfl, rfl⟩

def plane_Len2.f (a0_X : Int) (a0_Y : Int) (b1_X : Int) (b1_Y : Int) : Option (Int) := (plane_Dot.f a0_X a0_Y b1_X b1_Y b1_X b1_Y).bind fun t218 => (some t218)
theorem plane_Len2.ok {S : Seal} {a0_X : Int} {a0_Y : Int} {b1_X : Int} {b1_Y : Int} {r0_ : Int}(e : plane_Len2.f a0_X a0_Y b1_X b1_Y = some r0_) :
    Cal Try.prog 90 [.agg #[.int .i64 a0_X, .int .i64 a0_Y], .agg #[.int .i64 b1_X, .int .i64 b1_Y]] [] S fun v H' S' => v = .int .i64 r0_ ∧ H' = [] ∧ S' = S := by
  unfold plane_Len2.f at e
  refine cal_of (c := c90) (N := 9) Try.func90 rfl rfl (by kernel_rfl) (rs := [.t 4]) (by kernel_rfl) (Nat.le_of_ble_eq_true rfl) ?_
  unfold c90
  refine w_seq ?_
  refine w_reg fun all => ?_
  refine t_a (.box rfl rfl rfl) fun b216 fb216 sb216 => ?_
  refine t_a (.box rfl rfl rfl) fun b217 fb217 sb217 => ?_
  refine t_qz 1 [2, 3] (σ' := [(2, .pointer (some ⟨b216, 0, none⟩)), (3, .pointer (some ⟨b217, 0, none⟩))]) (by kernel_rfl) ?_
  refine t_end ?_
  show W _ _ _ _ _ _ _
  refine w_seq ?_
  refine w_reg fun all => ?_
  refine t_v (.ldn rfl rfl rfl (.at 1 rfl rfl)) ?_
  refine t_v (.ldn rfl rfl rfl (.at 0 rfl rfl)) ?_
  refine t_v (.ldn rfl rfl rfl (.at 0 rfl rfl)) ?_
  obtain ⟨t218, h219, e⟩ := bind_of e
  refine t_v (.call (vs := [.agg #[.int .i64 a0_X, .int .i64 a0_Y], .agg #[.int .i64 b1_X, .int .i64 b1_Y], .agg #[.int .i64 b1_X, .int .i64 b1_Y]]) rfl rfl (by kernel_rfl) (plane_Dot.ok h219)) ?_
  refine t_qz 1 [4] (σ' := [(4, .int .i64 t218)]) (by kernel_rfl) ?_
  refine t_end ?_
  show W _ _ _ _ _ _ _
  refine w_ret ?_
  obtain rfl := Option.some.inj e
  exact ⟨[.int .i64 t218], [], S, ⟨rfl, trivial⟩, VS.none, rfl, rfl, rfl⟩

def plane_within_1.f (n0 : Int) : Option (Int) := some (wru64 (mx n0 (wr64 (0 - n0))))
theorem plane_within_1.ok {S : Seal} {n0 : Int} {r0_ : Int}(e : plane_within_1.f n0 = some r0_) :
    Cal Try.prog 117 [.int .i64 n0] [] S fun v H' S' => v = .int .u64 r0_ ∧ H' = [] ∧ S' = S := by
  unfold plane_within_1.f at e
  refine cal_of (c := c117) (N := 8) Try.func117 rfl rfl (by kernel_rfl) (rs := [.t 2]) (by kernel_rfl) (Nat.le_of_ble_eq_true rfl) ?_
  unfold c117
  refine w_seq ?_
  refine w_reg fun all => ?_
  refine t_qz 1 [0] (σ' := [(0, .int .i64 n0)]) (by kernel_rfl) ?_
  refine t_end ?_
  show W _ _ _ _ _ _ _
  refine w_seq ?_
  refine w_reg fun all => ?_
  refine t_qz 6 [2] (σ' := [(2, .int .u64 (wru64 (mx n0 (wr64 (0 - n0)))))]) (by kernel_rfl) ?_
  refine t_end ?_
  show W _ _ _ _ _ _ _
  refine w_ret ?_
  obtain rfl := Option.some.inj e
  exact ⟨[.int .u64 (wru64 (mx n0 (wr64 (0 - n0))))], [], S, ⟨rfl, trivial⟩, VS.none, rfl, rfl, rfl⟩

def plane_within.f (a0 : Int) (b1 : Int) (c2 : Int) (d3 : Int) : Option (Bool) := (plane_within_1.f a0).bind fun t210 => ((plane_within_1.f b1).bind fun t212 => ((bits_Mul64.f t210 t212).bind fun (t214, t215) => ((plane_within_1.f c2).bind fun t217 => ((plane_within_1.f d3).bind fun t219 => ((bits_Mul64.f t217 t219).bind fun (t221, t222) => (if t214 < t221 then (some true) else (if t214 = t221 then (some (decide (t215 ≤ t222))) else (some false))))))))
theorem plane_within.ok {S : Seal} {a0 : Int} {b1 : Int} {c2 : Int} {d3 : Int} {r0_ : Bool}(e : plane_within.f a0 b1 c2 d3 = some r0_) :
    Cal Try.prog 105 [.int .i64 a0, .int .i64 b1, .int .i64 c2, .int .i64 d3] [] S fun v H' S' => v = .bool r0_ ∧ H' = [] ∧ S' = S := by
  unfold plane_within.f at e
  refine cal_of (c := c105) (N := 47) Try.func105 rfl rfl (by kernel_rfl) (rs := [.t 8]) (by kernel_rfl) (Nat.le_of_ble_eq_true rfl) ?_
  unfold c105
  refine w_seq ?_
  refine w_reg fun all => ?_
  refine t_qz 1 [0, 1, 2, 3] (σ' := [(0, .int .i64 a0), (1, .int .i64 b1), (2, .int .i64 c2), (3, .int .i64 d3)]) (by kernel_rfl) ?_
  refine t_end ?_
  show W _ _ _ _ _ _ _
  refine w_seq ?_
  refine w_reg fun all => ?_
  refine t_qz 1 [0, 1, 2, 3, 9] (σ' := [(0, .int .i64 a0), (1, .int .i64 b1), (2, .int .i64 c2), (3, .int .i64 d3), (9, .func (.func 117) #[] #[])]) (by kernel_rfl) ?_
  refine t_end ?_
  show W _ _ _ _ _ _ _
  refine w_seq ?_
  refine w_reg fun all => ?_
  obtain ⟨t210, h211, e⟩ := bind_of e
  refine t_qz 2 [1, 2, 3, 9, 15, 16] (σ' := [(1, .int .i64 b1), (2, .int .i64 c2), (3, .int .i64 d3), (9, .func (.func 117) #[] #[]), (15, .func (.func 117) #[] #[]), (16, .int .i64 a0)]) (by kernel_rfl) ?_
  refine t_v (.clor (vs := [.int .i64 a0]) (caps := #[]) (A := ([] : List Own)) (F0 := ([] : List Own)) rfl rfl rfl (by kernel_rfl) (by kernel_rfl) (sel_perm (is := []) (by kernel_rfl)) (plane_within_1.ok h211)) ?_
  obtain ⟨t212, h213, e⟩ := bind_of e
  refine t_qz 2 [2, 3, 9, 17, 18, 19] (σ' := [(2, .int .i64 c2), (3, .int .i64 d3), (9, .func (.func 117) #[] #[]), (17, .int .u64 t210), (18, .func (.func 117) #[] #[]), (19, .int .i64 b1)]) (by kernel_rfl) ?_
  refine t_v (.clor (vs := [.int .i64 b1]) (caps := #[]) (A := ([] : List Own)) (F0 := ([] : List Own)) rfl rfl rfl (by kernel_rfl) (by kernel_rfl) (sel_perm (is := []) (by kernel_rfl)) (plane_within_1.ok h213)) ?_
  obtain ⟨⟨t214, t215⟩, h216, e⟩ := bind_of e
  try dsimp only at e
  refine t_v (.call (vs := [.int .u64 t210, .int .u64 t212]) rfl rfl (by kernel_rfl) (bits_Mul64.ok h216)) ?_
  refine t_qz 5 [2, 3, 9, 10, 11] (σ' := [(2, .int .i64 c2), (3, .int .i64 d3), (9, .func (.func 117) #[] #[]), (10, .int .u64 t214), (11, .int .u64 t215)]) (by kernel_rfl) ?_
  refine t_end ?_
  show W _ _ _ _ _ _ _
  refine w_seq ?_
  refine w_reg fun all => ?_
  obtain ⟨t217, h218, e⟩ := bind_of e
  refine t_qz 2 [3, 9, 10, 11, 25, 26] (σ' := [(3, .int .i64 d3), (9, .func (.func 117) #[] #[]), (10, .int .u64 t214), (11, .int .u64 t215), (25, .func (.func 117) #[] #[]), (26, .int .i64 c2)]) (by kernel_rfl) ?_
  refine t_v (.clor (vs := [.int .i64 c2]) (caps := #[]) (A := ([] : List Own)) (F0 := ([] : List Own)) rfl rfl rfl (by kernel_rfl) (by kernel_rfl) (sel_perm (is := []) (by kernel_rfl)) (plane_within_1.ok h218)) ?_
  obtain ⟨t219, h220, e⟩ := bind_of e
  refine t_qz 2 [10, 11, 27, 28, 29] (σ' := [(10, .int .u64 t214), (11, .int .u64 t215), (27, .int .u64 t217), (28, .func (.func 117) #[] #[]), (29, .int .i64 d3)]) (by kernel_rfl) ?_
  refine t_v (.clor (vs := [.int .i64 d3]) (caps := #[]) (A := ([] : List Own)) (F0 := ([] : List Own)) rfl rfl rfl (by kernel_rfl) (by kernel_rfl) (sel_perm (is := []) (by kernel_rfl)) (plane_within_1.ok h220)) ?_
  obtain ⟨⟨t221, t222⟩, h223, e⟩ := bind_of e
  try dsimp only at e
  refine t_v (.call (vs := [.int .u64 t217, .int .u64 t219]) rfl rfl (by kernel_rfl) (bits_Mul64.ok h223)) ?_
  refine t_qz 5 [10, 11, 12, 13] (σ' := [(10, .int .u64 t214), (11, .int .u64 t215), (12, .int .u64 t221), (13, .int .u64 t222)]) (by kernel_rfl) ?_
  refine t_end ?_
  show W _ _ _ _ _ _ _
  refine w_seq ?_
  refine w_reg fun all => ?_
  by_cases c224 : t214 < t221
  · rw [if_pos c224] at e
    have c224b : (decide (t214 < t221)) = true := decide_eq_true c224
    refine t_qz 2 [10, 11, 12, 13, 34, 35] (σ' := [(10, .int .u64 t214), (11, .int .u64 t215), (12, .int .u64 t221), (13, .int .u64 t222), (34, .int .u64 t214), (35, .int .u64 t221)]) (by kernel_rfl) ?_
    refine t_v (dv_quiet rfl (congrArg (fun t => some (Value.bool t)) c224b)) ?_
    refine t_qz 11 [8] (σ' := [(8, .bool true)]) (by kernel_rfl) ?_
    refine t_end ?_
    show W _ _ _ _ _ _ _
    refine w_ret ?_
    obtain rfl := Option.some.inj e
    exact ⟨[.bool true], [], S, ⟨rfl, trivial⟩, VS.none, rfl, rfl, rfl⟩
  · rw [if_neg c224] at e
    have c224b : (decide (t214 < t221)) = false := decide_eq_false c224
    refine t_qz 2 [10, 11, 12, 13, 34, 35] (σ' := [(10, .int .u64 t214), (11, .int .u64 t215), (12, .int .u64 t221), (13, .int .u64 t222), (34, .int .u64 t214), (35, .int .u64 t221)]) (by kernel_rfl) ?_
    refine t_v (dv_quiet rfl (congrArg (fun t => some (Value.bool t)) c224b)) ?_
    by_cases c225 : t214 = t221
    · rw [if_pos c225] at e
      have c225b : (t214 == t221) = true := beq_iff_eq.mpr c225
      refine t_qz 3 [11, 13, 37, 38, 39] (σ' := [(11, .int .u64 t215), (13, .int .u64 t222), (37, .bool false), (38, .int .u64 t214), (39, .int .u64 t221)]) (by kernel_rfl) ?_
      refine t_v (dv_quiet rfl (congrArg (fun t => some (Value.bool t)) c225b)) ?_
      refine t_qz 7 [8] (σ' := [(8, .bool (decide (t215 ≤ t222)))]) (by kernel_rfl) ?_
      refine t_end ?_
      show W _ _ _ _ _ _ _
      refine w_ret ?_
      obtain rfl := Option.some.inj e
      exact ⟨[.bool (decide (t215 ≤ t222))], [], S, ⟨rfl, trivial⟩, VS.none, rfl, rfl, rfl⟩
    · rw [if_neg c225] at e
      have c225b : (t214 == t221) = false := beq_eq_false_iff_ne.mpr c225
      refine t_qz 3 [11, 13, 37, 38, 39] (σ' := [(11, .int .u64 t215), (13, .int .u64 t222), (37, .bool false), (38, .int .u64 t214), (39, .int .u64 t221)]) (by kernel_rfl) ?_
      refine t_v (dv_quiet rfl (congrArg (fun t => some (Value.bool t)) c225b)) ?_
      refine t_qz 7 [8] (σ' := [(8, .bool false)]) (by kernel_rfl) ?_
      refine t_end ?_
      show W _ _ _ _ _ _ _
      refine w_ret ?_
      obtain rfl := Option.some.inj e
      exact ⟨[.bool false], [], S, ⟨rfl, trivial⟩, VS.none, rfl, rfl, rfl⟩

def plane_Cross.f (a0_X : Int) (a0_Y : Int) (b1_X : Int) (b1_Y : Int) (p2_X : Int) (p2_Y : Int) : Option (Int) := (plane_Sub.f b1_X b1_Y a0_X a0_Y).bind fun (t220, t221) => ((plane_Sub.f p2_X p2_Y a0_X a0_Y).bind fun (t223, t224) => (some (wr64 ((wr64 (t220 * t224)) - (wr64 (t221 * t223))))))
theorem plane_Cross.ok {S : Seal} {a0_X : Int} {a0_Y : Int} {b1_X : Int} {b1_Y : Int} {p2_X : Int} {p2_Y : Int} {r0_ : Int}(e : plane_Cross.f a0_X a0_Y b1_X b1_Y p2_X p2_Y = some r0_) :
    Cal Try.prog 106 [.agg #[.int .i64 a0_X, .int .i64 a0_Y], .agg #[.int .i64 b1_X, .int .i64 b1_Y], .agg #[.int .i64 p2_X, .int .i64 p2_Y]] [] S fun v H' S' => v = .int .i64 r0_ ∧ H' = [] ∧ S' = S := by
  unfold plane_Cross.f at e
  refine cal_of (c := c106) (N := 26) Try.func106 rfl rfl (by kernel_rfl) (rs := [.t 6]) (by kernel_rfl) (Nat.le_of_ble_eq_true rfl) ?_
  unfold c106
  refine w_seq ?_
  refine w_reg fun all => ?_
  refine t_a (.box rfl rfl rfl) fun b217 fb217 sb217 => ?_
  refine t_a (.box rfl rfl rfl) fun b218 fb218 sb218 => ?_
  refine t_a (.box rfl rfl rfl) fun b219 fb219 sb219 => ?_
  refine t_qz 1 [3, 4, 5] (σ' := [(3, .pointer (some ⟨b217, 0, none⟩)), (4, .pointer (some ⟨b218, 0, none⟩)), (5, .pointer (some ⟨b219, 0, none⟩))]) (by kernel_rfl) ?_
  refine t_end ?_
  show W _ _ _ _ _ _ _
  refine w_seq ?_
  obtain ⟨⟨t220, t221⟩, h222, e⟩ := bind_of e
  try dsimp only at e
  obtain ⟨⟨t223, t224⟩, h225, e⟩ := bind_of e
  try dsimp only at e
  refine w_drwE mixed 8 [.v (.agg #[.int .i64 b1_X, .int .i64 b1_Y]), .v (.agg #[.int .i64 a0_X, .int .i64 a0_Y]), .v (.agg #[.int .i64 t220, .int .i64 t221]), .v (.agg #[.int .i64 p2_X, .int .i64 p2_Y]), .v (.agg #[.int .i64 a0_X, .int .i64 a0_Y]), .v (.agg #[.int .i64 t223, .int .i64 t224]), .a [.int .i64 0, .int .i64 0] ptrTo, .a [.int .i64 0, .int .i64 0] ptrTo] (by kernel_rfl) ?_ ?_
  · refine .cons (.ldn rfl rfl rfl (.at 1 rfl rfl)) ?_
    refine .cons (.ldn rfl rfl rfl (.at 2 rfl rfl)) ?_
    refine .cons (.call (vs := [.agg #[.int .i64 b1_X, .int .i64 b1_Y], .agg #[.int .i64 a0_X, .int .i64 a0_Y]]) rfl rfl (by kernel_rfl) (plane_Sub.ok h222)) ?_
    refine .cons (.ldn rfl rfl rfl (.at 0 rfl rfl)) ?_
    refine .cons (.ldn rfl rfl rfl (.at 2 rfl rfl)) ?_
    refine .cons (.call (vs := [.agg #[.int .i64 p2_X, .int .i64 p2_Y], .agg #[.int .i64 a0_X, .int .i64 a0_Y]]) rfl rfl (by kernel_rfl) (plane_Sub.ok h225)) ?_
    refine .cons (.new rfl rfl) ?_
    refine .cons (.new rfl rfl) ?_
    exact .nil
  refine fk_q 6 [11, 14] (σ' := [(11, .agg #[.int .i64 t220, .int .i64 t221]), (14, .agg #[.int .i64 t223, .int .i64 t224])]) t_more (by kernel_rfl) ?_
  refine fk_a fun b226 fb226 sb226 => ?_
  refine fk_a fun b227 fb227 sb227 => ?_
  refine fk_nil fun all => ?_
  refine t_sti 1 (cs := [.int .i64 t220, .int .i64 t221]) rfl rfl rfl rfl rfl rfl rfl rfl rfl ?_
  refine t_sti 0 (cs := [.int .i64 t223, .int .i64 t224]) rfl rfl rfl rfl rfl rfl rfl rfl rfl ?_
  refine t_keep [7, 8] (σ' := [(7, .pointer (some ⟨b226, 0, none⟩)), (8, .pointer (some ⟨b227, 0, none⟩))]) (by kernel_rfl) ?_
  refine t_end ?_
  show W _ _ _ _ _ _ _
  refine w_seq ?_
  refine w_reg fun all => ?_
  refine t_qz 1 [7, 8, 15] (σ' := [(7, .pointer (some ⟨b226, 0, none⟩)), (8, .pointer (some ⟨b227, 0, none⟩)), (15, .pointer (some ⟨b226, 0, none⟩))]) (by kernel_rfl) ?_
  refine t_v (.ld1 rfl rfl rfl (.at 1 rfl rfl)) ?_
  refine t_qz 1 [7, 8, 16, 17] (σ' := [(7, .pointer (some ⟨b226, 0, none⟩)), (8, .pointer (some ⟨b227, 0, none⟩)), (16, .int .i64 t220), (17, .pointer (some ⟨b227, 1, none⟩))]) (by kernel_rfl) ?_
  refine t_v (.ld1 rfl rfl rfl (.at 0 rfl rfl)) ?_
  refine t_qz 2 [8, 19, 20] (σ' := [(8, .pointer (some ⟨b227, 0, none⟩)), (19, .int .i64 (wr64 (t220 * t224))), (20, .pointer (some ⟨b226, 1, none⟩))]) (by kernel_rfl) ?_
  refine t_v (.ld1 rfl rfl rfl (.at 1 rfl rfl)) ?_
  refine t_qz 1 [19, 21, 22] (σ' := [(19, .int .i64 (wr64 (t220 * t224))), (21, .int .i64 t221), (22, .pointer (some ⟨b227, 0, none⟩))]) (by kernel_rfl) ?_
  refine t_v (.ld1 rfl rfl rfl (.at 0 rfl rfl)) ?_
  refine t_qz 3 [6] (σ' := [(6, .int .i64 (wr64 ((wr64 (t220 * t224)) - (wr64 (t221 * t223)))))]) (by kernel_rfl) ?_
  refine t_end ?_
  show W _ _ _ _ _ _ _
  refine w_ret ?_
  obtain rfl := Option.some.inj e
  exact ⟨[.int .i64 (wr64 ((wr64 (t220 * t224)) - (wr64 (t221 * t223))))], [], S, ⟨rfl, trivial⟩, VS.none, rfl, rfl, rfl⟩

def plane_Near.f (a0_X : Int) (a0_Y : Int) (b1_X : Int) (b1_Y : Int) (p2_X : Int) (p2_Y : Int) (w3 : Int) : Option (Bool) := (plane_Dot.f a0_X a0_Y b1_X b1_Y p2_X p2_Y).bind fun t203 => ((plane_Len2.f a0_X a0_Y b1_X b1_Y).bind fun t205 => (if t203 ≤ 0 then ((plane_Len2.f a0_X a0_Y p2_X p2_Y).bind fun t208 => ((plane_within.f 4 t208 w3 w3).bind fun t210 => (some t210))) else (if t203 ≥ t205 then ((plane_Len2.f b1_X b1_Y p2_X p2_Y).bind fun t213 => ((plane_within.f 4 t213 w3 w3).bind fun t215 => (some t215))) else ((plane_Cross.f a0_X a0_Y b1_X b1_Y p2_X p2_Y).bind fun t228 => ((plane_within.f (wr64 (2 * t228)) (wr64 (2 * t228)) (wr64 (w3 * w3)) t205).bind fun t230 => (some t230))))))
theorem plane_Near.ok {S : Seal} {a0_X : Int} {a0_Y : Int} {b1_X : Int} {b1_Y : Int} {p2_X : Int} {p2_Y : Int} {w3 : Int} {r0_ : Bool}(e : plane_Near.f a0_X a0_Y b1_X b1_Y p2_X p2_Y w3 = some r0_) :
    Cal Try.prog 65 [.agg #[.int .i64 a0_X, .int .i64 a0_Y], .agg #[.int .i64 b1_X, .int .i64 b1_Y], .agg #[.int .i64 p2_X, .int .i64 p2_Y], .int .i64 w3] [] S fun v H' S' => v = .bool r0_ ∧ H' = [] ∧ S' = S := by
  unfold plane_Near.f at e
  refine cal_of (c := c65) (N := 50) Try.func65 rfl rfl (by kernel_rfl) (rs := [.t 8]) (by kernel_rfl) (Nat.le_of_ble_eq_true rfl) ?_
  unfold c65
  refine w_seq ?_
  refine w_reg fun all => ?_
  refine t_a (.box rfl rfl rfl) fun b200 fb200 sb200 => ?_
  refine t_a (.box rfl rfl rfl) fun b201 fb201 sb201 => ?_
  refine t_a (.box rfl rfl rfl) fun b202 fb202 sb202 => ?_
  refine t_qz 1 [3, 4, 5, 6] (σ' := [(3, .int .i64 w3), (4, .pointer (some ⟨b200, 0, none⟩)), (5, .pointer (some ⟨b201, 0, none⟩)), (6, .pointer (some ⟨b202, 0, none⟩))]) (by kernel_rfl) ?_
  refine t_end ?_
  show W _ _ _ _ _ _ _
  refine w_seq ?_
  obtain ⟨t203, h204, e⟩ := bind_of e
  obtain ⟨t205, h206, e⟩ := bind_of e
  refine w_drwE mixed 9 [.v (.agg #[.int .i64 a0_X, .int .i64 a0_Y]), .v (.agg #[.int .i64 b1_X, .int .i64 b1_Y]), .v (.agg #[.int .i64 p2_X, .int .i64 p2_Y]), .v (.int .i64 t203), .v (.agg #[.int .i64 a0_X, .int .i64 a0_Y]), .v (.agg #[.int .i64 b1_X, .int .i64 b1_Y]), .v (.int .i64 t205), .v (.int .i64 t203), .v (.int .i64 t205)] (by kernel_rfl) ?_ ?_
  · refine .cons (.ldn rfl rfl rfl (.at 2 rfl rfl)) ?_
    refine .cons (.ldn rfl rfl rfl (.at 1 rfl rfl)) ?_
    refine .cons (.ldn rfl rfl rfl (.at 0 rfl rfl)) ?_
    refine .cons (.call (vs := [.agg #[.int .i64 a0_X, .int .i64 a0_Y], .agg #[.int .i64 b1_X, .int .i64 b1_Y], .agg #[.int .i64 p2_X, .int .i64 p2_Y]]) rfl rfl (by kernel_rfl) (plane_Dot.ok h204)) ?_
    refine .cons (.ldn rfl rfl rfl (.at 2 rfl rfl)) ?_
    refine .cons (.ldn rfl rfl rfl (.at 1 rfl rfl)) ?_
    refine .cons (.call (vs := [.agg #[.int .i64 a0_X, .int .i64 a0_Y], .agg #[.int .i64 b1_X, .int .i64 b1_Y]]) rfl rfl (by kernel_rfl) (plane_Len2.ok h206)) ?_
    refine DI.sq 2 (by kernel_rfl) rfl ?_
    exact .nil
  refine fk_q 9 [3, 4, 5, 6, 9, 10] (σ' := [(3, .int .i64 w3), (4, .pointer (some ⟨b200, 0, none⟩)), (5, .pointer (some ⟨b201, 0, none⟩)), (6, .pointer (some ⟨b202, 0, none⟩)), (9, .int .i64 t203), (10, .int .i64 t205)]) t_more (by kernel_rfl) ?_
  refine fk_nil fun all => ?_
  refine t_keep [3, 4, 5, 6, 9, 10] (σ' := [(3, .int .i64 w3), (4, .pointer (some ⟨b200, 0, none⟩)), (5, .pointer (some ⟨b201, 0, none⟩)), (6, .pointer (some ⟨b202, 0, none⟩)), (9, .int .i64 t203), (10, .int .i64 t205)]) (by kernel_rfl) ?_
  refine t_end ?_
  show W _ _ _ _ _ _ _
  refine w_seq ?_
  refine w_block ?_
  refine w_seq ?_
  refine w_reg fun all => ?_
  by_cases c207 : t203 ≤ 0
  · rw [if_pos c207] at e
    have c207b : (decide (t203 ≤ 0)) = true := decide_eq_true c207
    refine t_qz 1 [3, 4, 5, 6, 9, 10, 20] (σ' := [(3, .int .i64 w3), (4, .pointer (some ⟨b200, 0, none⟩)), (5, .pointer (some ⟨b201, 0, none⟩)), (6, .pointer (some ⟨b202, 0, none⟩)), (9, .int .i64 t203), (10, .int .i64 t205), (20, .int .i64 t203)]) (by kernel_rfl) ?_
    refine t_v (dv_quiet rfl (congrArg (fun t => some (Value.bool t)) c207b)) ?_
    refine t_qz 1 [3, 4, 5, 6, 9, 10, 19] (σ' := [(3, .int .i64 w3), (4, .pointer (some ⟨b200, 0, none⟩)), (5, .pointer (some ⟨b201, 0, none⟩)), (6, .pointer (some ⟨b202, 0, none⟩)), (9, .int .i64 t203), (10, .int .i64 t205), (19, .bool true)]) (by kernel_rfl) ?_
    refine t_end ?_
    show W _ _ _ _ _ _ _
    refine w_cond rfl (fun _ => ?_) (fun c_ => by cases c_)
    show W _ _ _ _ _ _ _
    refine w_seq ?_
    refine w_reg fun all => ?_
    refine t_v (.ldn rfl rfl rfl (.at 2 rfl rfl)) ?_
    refine t_v (.ldn rfl rfl rfl (.at 0 rfl rfl)) ?_
    obtain ⟨t208, h209, e⟩ := bind_of e
    refine t_v (.call (vs := [.agg #[.int .i64 a0_X, .int .i64 a0_Y], .agg #[.int .i64 p2_X, .int .i64 p2_Y]]) rfl rfl (by kernel_rfl) (plane_Len2.ok h209)) ?_
    obtain ⟨t210, h211, e⟩ := bind_of e
    refine t_qz 2 [24, 25, 26] (σ' := [(24, .int .i64 t208), (25, .int .i64 w3), (26, .int .i64 w3)]) (by kernel_rfl) ?_
    refine t_v (.call (vs := [.int .i64 4, .int .i64 t208, .int .i64 w3, .int .i64 w3]) rfl rfl (by kernel_rfl) (plane_within.ok h211)) ?_
    refine t_qz 1 [8] (σ' := [(8, .bool t210)]) (by kernel_rfl) ?_
    refine t_end ?_
    show W _ _ _ _ _ _ _
    refine w_ret ?_
    obtain rfl := Option.some.inj e
    exact ⟨[.bool t210], [], S, ⟨rfl, trivial⟩, VS.none, rfl, rfl, rfl⟩
  · rw [if_neg c207] at e
    have c207b : (decide (t203 ≤ 0)) = false := decide_eq_false c207
    refine t_qz 1 [3, 4, 5, 6, 9, 10, 20] (σ' := [(3, .int .i64 w3), (4, .pointer (some ⟨b200, 0, none⟩)), (5, .pointer (some ⟨b201, 0, none⟩)), (6, .pointer (some ⟨b202, 0, none⟩)), (9, .int .i64 t203), (10, .int .i64 t205), (20, .int .i64 t203)]) (by kernel_rfl) ?_
    refine t_v (dv_quiet rfl (congrArg (fun t => some (Value.bool t)) c207b)) ?_
    refine t_qz 1 [3, 4, 5, 6, 9, 10, 19] (σ' := [(3, .int .i64 w3), (4, .pointer (some ⟨b200, 0, none⟩)), (5, .pointer (some ⟨b201, 0, none⟩)), (6, .pointer (some ⟨b202, 0, none⟩)), (9, .int .i64 t203), (10, .int .i64 t205), (19, .bool false)]) (by kernel_rfl) ?_
    refine t_end ?_
    show W _ _ _ _ _ _ _
    refine w_cond rfl (fun c_ => by cases c_) (fun _ => ?_)
    show W _ _ _ _ _ _ _
    refine w_seq ?_
    refine w_reg fun all => ?_
    by_cases c212 : t203 ≥ t205
    · rw [if_pos c212] at e
      have c212b : (decide (t203 ≥ t205)) = true := decide_eq_true c212
      refine t_qz 2 [3, 4, 5, 6, 10, 29, 30] (σ' := [(3, .int .i64 w3), (4, .pointer (some ⟨b200, 0, none⟩)), (5, .pointer (some ⟨b201, 0, none⟩)), (6, .pointer (some ⟨b202, 0, none⟩)), (10, .int .i64 t205), (29, .int .i64 t203), (30, .int .i64 t205)]) (by kernel_rfl) ?_
      refine t_v (dv_quiet rfl (congrArg (fun t => some (Value.bool t)) c212b)) ?_
      refine t_qz 1 [3, 4, 5, 6, 10, 28] (σ' := [(3, .int .i64 w3), (4, .pointer (some ⟨b200, 0, none⟩)), (5, .pointer (some ⟨b201, 0, none⟩)), (6, .pointer (some ⟨b202, 0, none⟩)), (10, .int .i64 t205), (28, .bool true)]) (by kernel_rfl) ?_
      refine t_end ?_
      show W _ _ _ _ _ _ _
      refine w_cond rfl (fun _ => ?_) (fun c_ => by cases c_)
      show W _ _ _ _ _ _ _
      refine w_seq ?_
      refine w_reg fun all => ?_
      refine t_v (.ldn rfl rfl rfl (.at 1 rfl rfl)) ?_
      refine t_v (.ldn rfl rfl rfl (.at 0 rfl rfl)) ?_
      obtain ⟨t213, h214, e⟩ := bind_of e
      refine t_v (.call (vs := [.agg #[.int .i64 b1_X, .int .i64 b1_Y], .agg #[.int .i64 p2_X, .int .i64 p2_Y]]) rfl rfl (by kernel_rfl) (plane_Len2.ok h214)) ?_
      obtain ⟨t215, h216, e⟩ := bind_of e
      refine t_qz 2 [34, 35, 36] (σ' := [(34, .int .i64 t213), (35, .int .i64 w3), (36, .int .i64 w3)]) (by kernel_rfl) ?_
      refine t_v (.call (vs := [.int .i64 4, .int .i64 t213, .int .i64 w3, .int .i64 w3]) rfl rfl (by kernel_rfl) (plane_within.ok h216)) ?_
      refine t_qz 1 [8] (σ' := [(8, .bool t215)]) (by kernel_rfl) ?_
      refine t_end ?_
      show W _ _ _ _ _ _ _
      refine w_ret ?_
      obtain rfl := Option.some.inj e
      exact ⟨[.bool t215], [], S, ⟨rfl, trivial⟩, VS.none, rfl, rfl, rfl⟩
    · rw [if_neg c212] at e
      have c212b : (decide (t203 ≥ t205)) = false := decide_eq_false c212
      refine t_qz 2 [3, 4, 5, 6, 10, 29, 30] (σ' := [(3, .int .i64 w3), (4, .pointer (some ⟨b200, 0, none⟩)), (5, .pointer (some ⟨b201, 0, none⟩)), (6, .pointer (some ⟨b202, 0, none⟩)), (10, .int .i64 t205), (29, .int .i64 t203), (30, .int .i64 t205)]) (by kernel_rfl) ?_
      refine t_v (dv_quiet rfl (congrArg (fun t => some (Value.bool t)) c212b)) ?_
      refine t_qz 1 [3, 4, 5, 6, 10, 28] (σ' := [(3, .int .i64 w3), (4, .pointer (some ⟨b200, 0, none⟩)), (5, .pointer (some ⟨b201, 0, none⟩)), (6, .pointer (some ⟨b202, 0, none⟩)), (10, .int .i64 t205), (28, .bool false)]) (by kernel_rfl) ?_
      refine t_end ?_
      show W _ _ _ _ _ _ _
      refine w_cond rfl (fun c_ => by cases c_) (fun _ => ?_)
      show W _ _ _ _ _ _ _
      refine w_skip ?_
      show W _ _ _ _ _ _ _
      refine w_seq ?_
      refine w_reg fun all => ?_
      refine t_v (.ldn rfl rfl rfl (.at 2 rfl rfl)) ?_
      refine t_v (.ldn rfl rfl rfl (.at 1 rfl rfl)) ?_
      refine t_v (.ldn rfl rfl rfl (.at 0 rfl rfl)) ?_
      obtain ⟨t228, h229, e⟩ := bind_of e
      refine t_v (.call (vs := [.agg #[.int .i64 a0_X, .int .i64 a0_Y], .agg #[.int .i64 b1_X, .int .i64 b1_Y], .agg #[.int .i64 p2_X, .int .i64 p2_Y]]) rfl rfl (by kernel_rfl) (plane_Cross.ok h229)) ?_
      refine t_qz 2 [3, 10, 11] (σ' := [(3, .int .i64 w3), (10, .int .i64 t205), (11, .int .i64 (wr64 (2 * t228)))]) (by kernel_rfl) ?_
      refine t_end ?_
      show W _ _ _ _ _ _ _
      refine w_seq ?_
      refine w_reg fun all => ?_
      obtain ⟨t230, h231, e⟩ := bind_of e
      refine t_qz 6 [43, 44, 47, 48] (σ' := [(43, .int .i64 (wr64 (2 * t228))), (44, .int .i64 (wr64 (2 * t228))), (47, .int .i64 (wr64 (w3 * w3))), (48, .int .i64 t205)]) (by kernel_rfl) ?_
      refine t_v (.call (vs := [.int .i64 (wr64 (2 * t228)), .int .i64 (wr64 (2 * t228)), .int .i64 (wr64 (w3 * w3)), .int .i64 t205]) rfl rfl (by kernel_rfl) (plane_within.ok h231)) ?_
      refine t_qz 1 [8] (σ' := [(8, .bool t230)]) (by kernel_rfl) ?_
      refine t_end ?_
      show W _ _ _ _ _ _ _
      refine w_ret ?_
      obtain rfl := Option.some.inj e
      exact ⟨[.bool t230], [], S, ⟨rfl, trivial⟩, VS.none, rfl, rfl, rfl⟩

def stroke_Near_1_v2.f (e0_0 : Int) (e0_1 : Int) (e0_2 : Int) (e0_3 : Int) (m0_0 : Int) (m0_1 : Int) (m1_0 : Int) : Option (Bool) := (plane_Near.f e0_0 e0_1 e0_2 e0_3 m0_0 m0_1 m1_0).bind fun t232 => (some t232)
theorem stroke_Near_1_v2.ok {S : Seal} {B0 : Nat} {B1 : Nat} {e0_0 : Int} {e0_1 : Int} {e0_2 : Int} {e0_3 : Int} {m0_0 : Int} {m0_1 : Int} {m1_0 : Int} {r0_ : Bool}(e : stroke_Near_1_v2.f e0_0 e0_1 e0_2 e0_3 m0_0 m0_1 m1_0 = some r0_) :
    Cal Try.prog 64 [.agg #[.int .i64 e0_0, .int .i64 e0_1, .int .i64 e0_2, .int .i64 e0_3], .pointer (some ⟨B0, 0, none⟩), .pointer (some ⟨B1, 0, none⟩)] ([⟨B0, [.int .i64 m0_0, .int .i64 m0_1], 2⟩, ⟨B1, [.int .i64 m1_0], 1⟩] : List Own) S fun v H' S' => v = .bool r0_ ∧ H' = ([⟨B0, [.int .i64 m0_0, .int .i64 m0_1], 2⟩, ⟨B1, [.int .i64 m1_0], 1⟩] : List Own) ∧ S' = S := by
  unfold stroke_Near_1_v2.f at e
  refine cal_of (c := c64) (N := 12) Try.func64 rfl rfl (by kernel_rfl) (rs := [.t 4]) (by kernel_rfl) (Nat.le_of_ble_eq_true rfl) ?_
  unfold c64
  refine w_seq ?_
  refine w_reg fun all => ?_
  refine t_a (.box rfl rfl rfl) fun b199 fb199 sb199 => ?_
  refine t_qz 1 [1, 2, 3] (σ' := [(1, .pointer (some ⟨B0, 0, none⟩)), (2, .pointer (some ⟨B1, 0, none⟩)), (3, .pointer (some ⟨b199, 0, none⟩))]) (by kernel_rfl) ?_
  refine t_end ?_
  show W _ _ _ _ _ _ _
  refine w_seq ?_
  refine w_reg fun all => ?_
  refine t_qz 1 [1, 2, 3, 5] (σ' := [(1, .pointer (some ⟨B0, 0, none⟩)), (2, .pointer (some ⟨B1, 0, none⟩)), (3, .pointer (some ⟨b199, 0, none⟩)), (5, .pointer (some ⟨b199, 0, none⟩))]) (by kernel_rfl) ?_
  refine t_v (.ldn rfl rfl rfl (.at 0 rfl rfl)) ?_
  refine t_qz 1 [1, 2, 6, 7] (σ' := [(1, .pointer (some ⟨B0, 0, none⟩)), (2, .pointer (some ⟨B1, 0, none⟩)), (6, .agg #[.int .i64 e0_0, .int .i64 e0_1]), (7, .pointer (some ⟨b199, 2, none⟩))]) (by kernel_rfl) ?_
  refine t_v (.ldn rfl rfl rfl (.at 0 rfl rfl)) ?_
  refine t_v (.ldn rfl rfl rfl (.at 1 rfl rfl)) ?_
  refine t_v (.ld1 rfl rfl rfl (.at 2 rfl rfl)) ?_
  obtain ⟨t232, h233, e⟩ := bind_of e
  refine t_v (.call (vs := [.agg #[.int .i64 e0_0, .int .i64 e0_1], .agg #[.int .i64 e0_2, .int .i64 e0_3], .agg #[.int .i64 m0_0, .int .i64 m0_1], .int .i64 m1_0]) rfl rfl (by kernel_rfl) (plane_Near.ok h233)) ?_
  refine t_qz 1 [4] (σ' := [(4, .bool t232)]) (by kernel_rfl) ?_
  refine t_end ?_
  show W _ _ _ _ _ _ _
  refine w_ret ?_
  obtain rfl := Option.some.inj e
  exact ⟨[.bool t232], ([⟨B0, [.int .i64 m0_0, .int .i64 m0_1], 2⟩, ⟨B1, [.int .i64 m1_0], 1⟩] : List Own), S, ⟨rfl, trivial⟩, VS.sel [1, 1] (by kernel_rfl), rfl, rfl, rfl⟩

def api_Edge_v6.l0 : Nat → List (Int × Int × Int × Int) → Int → Int → Int → Int → Option ((Int) ⊕ (Unit))
  | 0, _, _, _, _, _ => none
  | k + 1, s0, m0_0, m0_1, m1_0, x184 => if x184 < (s0.length : Int) then ((lgt s0 x184).bind fun (x186, x187, x188, x189) => ((stroke_Near_1_v2.f x186 x187 x188 x189 m0_0 m0_1 m1_0).bind fun t234 => (if t234 = true then (some (.inl x184)) else (api_Edge_v6.l0 k s0 m0_0 m0_1 m1_0 (wr64 (x184 + 1)))))) else (some (.inr ()))
def api_Edge_v6.f (k : Nat) (s0 : List (Int × Int × Int × Int)) (m0_0 : Int) (m0_1 : Int) (m1_0 : Int) : Option (Int) := (api_Edge_v6.l0 k s0 m0_0 m0_1 m1_0 0 : Option ((Int) ⊕ (Unit))).bind fun s_ => match s_ with | .inl q238 => some q238 | .inr _ => (some (-1))
theorem api_Edge_v6.ok {S : Seal} {B0 : Nat} {B1 : Nat} {k : Nat} {s0 : List (Int × Int × Int × Int)} {m0_0 : Int} {m0_1 : Int} {m1_0 : Int} {r0_ : Int}{a_s0 : Option Addr} {c_s0 : Nat} (h_s0 : SlE S E_i644 s0 a_s0) (e : api_Edge_v6.f k s0 m0_0 m0_1 m1_0 = some r0_) :
    Cal Try.prog 103 [.slice a_s0 s0.length c_s0, .func (.func 64) #[] #[.pointer (some ⟨B0, 0, none⟩), .pointer (some ⟨B1, 0, none⟩)]] ([⟨B0, [.int .i64 m0_0, .int .i64 m0_1], 2⟩, ⟨B1, [.int .i64 m1_0], 1⟩] : List Own) S fun v H' S' => v = .int .i64 r0_ ∧ H' = ([⟨B0, [.int .i64 m0_0, .int .i64 m0_1], 2⟩, ⟨B1, [.int .i64 m1_0], 1⟩] : List Own) ∧ S' = S := by
  unfold api_Edge_v6.f at e
  refine cal_of (c := c103) (N := 19) Try.func103 rfl rfl (by kernel_rfl) (rs := [.t 4]) (by kernel_rfl) (Nat.le_of_ble_eq_true rfl) ?_
  unfold c103
  refine w_seq ?_
  refine w_reg fun all => ?_
  refine t_qz 1 [0, 1] (σ' := [(0, .slice a_s0 s0.length c_s0), (1, .func (.func 64) #[] #[.pointer (some ⟨B0, 0, none⟩), .pointer (some ⟨B1, 0, none⟩)])]) (by kernel_rfl) ?_
  refine t_end ?_
  show W _ _ _ _ _ _ _
  obtain ⟨s183, e182, e⟩ := bind_of e
  refine w_cut [] (fun σ_ H_ S_ => ∃ u_ : Unit, s183 = .inr u_ ∧ [] = σ_ ∧ ([⟨B0, [.int .i64 m0_0, .int .i64 m0_1], 2⟩, ⟨B1, [.int .i64 m1_0], 1⟩] : List Own) = H_ ∧ S = S_) ?_ ?_
  · show W _ _ _ _ _ _ _
    refine w_seq ?_
    refine w_reg fun all => ?_
    refine t_qz 3 [0, 1, 7, 8] (σ' := [(0, .slice a_s0 s0.length c_s0), (1, .func (.func 64) #[] #[.pointer (some ⟨B0, 0, none⟩), .pointer (some ⟨B1, 0, none⟩)]), (7, .int .i64 (s0.length : Int)), (8, .int .i64 0)]) (by kernel_rfl) ?_
    refine t_end ?_
    show W _ _ _ _ _ _ _
    refine w_block ?_
    refine w_kp [0, 1, 7, 8] (σ' := [(0, .slice a_s0 s0.length c_s0), (1, .func (.func 64) #[] #[.pointer (some ⟨B0, 0, none⟩), .pointer (some ⟨B1, 0, none⟩)]), (7, .int .i64 (s0.length : Int)), (8, .int .i64 0)]) (by kernel_rfl) ?_
    refine w_loop (fun n_ σ_ H_ S_ => ∃ (x184 : Int), [(0, .slice a_s0 s0.length c_s0), (1, .func (.func 64) #[] #[.pointer (some ⟨B0, 0, none⟩), .pointer (some ⟨B1, 0, none⟩)]), (7, .int .i64 (s0.length : Int)), (8, .int .i64 x184)] = σ_ ∧ ([⟨B0, [.int .i64 m0_0, .int .i64 m0_1], 2⟩, ⟨B1, [.int .i64 m1_0], 1⟩] : List Own) = H_ ∧ S = S_ ∧ api_Edge_v6.l0 n_ s0 m0_0 m0_1 m1_0 x184 = some s183) _ ⟨0, rfl, rfl, rfl, e182⟩ ?_
    rintro n237 σ_ H_ S_ ⟨x184, rfl, rfl, rfl, e182⟩
    cases n237 with
    | zero => rw [api_Edge_v6.l0.eq_1] at e182; cases e182
    | succ k_ =>
      rw [api_Edge_v6.l0.eq_2] at e182
      refine w_seq ?_
      refine w_reg fun all => ?_
      by_cases c185 : x184 < (s0.length : Int)
      · rw [if_pos c185] at e182
        have c185b : (decide (x184 < (s0.length : Int))) = true := decide_eq_true c185
        refine t_v (dv_quiet rfl (congrArg (fun t => some (Value.bool t)) c185b)) ?_
        refine t_keep [0, 1, 7, 8, 9] (σ' := [(0, .slice a_s0 s0.length c_s0), (1, .func (.func 64) #[] #[.pointer (some ⟨B0, 0, none⟩), .pointer (some ⟨B1, 0, none⟩)]), (7, .int .i64 (s0.length : Int)), (8, .int .i64 x184), (9, .bool true)]) (by kernel_rfl) ?_
        refine t_end ?_
        show W _ _ _ _ _ _ _
        refine w_seq ?_
        refine w_cond rfl (fun _ => ?_) (fun c_ => by cases c_)
        show W _ _ _ _ _ _ _
        refine w_skip ?_
        show W _ _ _ _ _ _ _
        refine w_seq ?_
        refine w_block ?_
        refine w_seq ?_
        refine w_reg fun all => ?_
        refine t_qz 2 [0, 1, 5, 7, 8] (σ' := [(0, .slice a_s0 s0.length c_s0), (1, .func (.func 64) #[] #[.pointer (some ⟨B0, 0, none⟩), .pointer (some ⟨B1, 0, none⟩)]), (5, .int .i64 x184), (7, .int .i64 (s0.length : Int)), (8, .int .i64 x184)]) (by kernel_rfl) ?_
        refine t_end ?_
        show W _ _ _ _ _ _ _
        refine w_seq ?_
        refine w_reg fun all => ?_
        obtain ⟨⟨x186, x187, x188, x189⟩, hx190, e182⟩ := bind_of e182
        try dsimp only at e182
        obtain ⟨lb191, lo192, ll193, la194, lS195, lv196, lz197, lu198⟩ := sle_get (E := E_i644) h_s0 hx190
        refine t_qz 3 [0, 1, 5, 7, 8, 11, 12, 13] (σ' := [(0, .slice a_s0 s0.length c_s0), (1, .func (.func 64) #[] #[.pointer (some ⟨B0, 0, none⟩), .pointer (some ⟨B1, 0, none⟩)]), (5, .int .i64 x184), (7, .int .i64 (s0.length : Int)), (8, .int .i64 x184), (11, .func (.func 64) #[] #[.pointer (some ⟨B0, 0, none⟩), .pointer (some ⟨B1, 0, none⟩)]), (12, .slice a_s0 s0.length c_s0), (13, .int .i64 x184)]) (by kernel_rfl) ?_
        refine t_v (.quiet rfl (ixs_sle rfl rfl la194 lz197 lu198)) ?_
        refine t_v (.ldn (vs := [.int .i64 x186, .int .i64 x187, .int .i64 x188, .int .i64 x189]) rfl rfl rfl (.sealed lS195 (subl_sub lv196 (by kernel_rfl)))) ?_
        obtain ⟨t234, h235, e182⟩ := bind_of e182
        cases t234 with
        | true =>
          rw [if_pos rfl] at e182
          refine t_v (.clor (vs := [.agg #[.int .i64 x186, .int .i64 x187, .int .i64 x188, .int .i64 x189]]) (caps := #[.pointer (some ⟨B0, 0, none⟩), .pointer (some ⟨B1, 0, none⟩)]) (A := ([⟨B0, [.int .i64 m0_0, .int .i64 m0_1], 2⟩, ⟨B1, [.int .i64 m1_0], 1⟩] : List Own)) (F0 := ([] : List Own)) rfl rfl rfl (by kernel_rfl) (by kernel_rfl) (sel_perm (is := [0, 0]) (by kernel_rfl)) (stroke_Near_1_v2.ok h235)) ?_
          refine t_keep [0, 1, 5, 7, 8, 16] (σ' := [(0, .slice a_s0 s0.length c_s0), (1, .func (.func 64) #[] #[.pointer (some ⟨B0, 0, none⟩), .pointer (some ⟨B1, 0, none⟩)]), (5, .int .i64 x184), (7, .int .i64 (s0.length : Int)), (8, .int .i64 x184), (16, .bool true)]) (by kernel_rfl) ?_
          refine t_end ?_
          show W _ _ _ _ _ _ _
          refine w_cond rfl (fun _ => ?_) (fun c_ => by cases c_)
          show W _ _ _ _ _ _ _
          refine w_seq ?_
          refine w_reg fun all => ?_
          refine t_qz 2 [4] (σ' := [(4, .int .i64 x184)]) (by kernel_rfl) ?_
          refine t_end ?_
          show W _ _ _ _ _ _ _
          refine w_ret ?_
          obtain rfl := Option.some.inj e182
          obtain rfl := Option.some.inj e
          exact ⟨[.int .i64 x184], ([⟨B0, [.int .i64 m0_0, .int .i64 m0_1], 2⟩, ⟨B1, [.int .i64 m1_0], 1⟩] : List Own), S, ⟨rfl, trivial⟩, VS.sel [0, 0] (by kernel_rfl), rfl, rfl, rfl⟩
        | false =>
          rw [if_neg (by decide)] at e182
          refine t_v (.clor (vs := [.agg #[.int .i64 x186, .int .i64 x187, .int .i64 x188, .int .i64 x189]]) (caps := #[.pointer (some ⟨B0, 0, none⟩), .pointer (some ⟨B1, 0, none⟩)]) (A := ([⟨B0, [.int .i64 m0_0, .int .i64 m0_1], 2⟩, ⟨B1, [.int .i64 m1_0], 1⟩] : List Own)) (F0 := ([] : List Own)) rfl rfl rfl (by kernel_rfl) (by kernel_rfl) (sel_perm (is := [0, 0]) (by kernel_rfl)) (stroke_Near_1_v2.ok h235)) ?_
          refine t_keep [0, 1, 5, 7, 8, 16] (σ' := [(0, .slice a_s0 s0.length c_s0), (1, .func (.func 64) #[] #[.pointer (some ⟨B0, 0, none⟩), .pointer (some ⟨B1, 0, none⟩)]), (5, .int .i64 x184), (7, .int .i64 (s0.length : Int)), (8, .int .i64 x184), (16, .bool false)]) (by kernel_rfl) ?_
          refine t_end ?_
          show W _ _ _ _ _ _ _
          refine w_cond rfl (fun c_ => by cases c_) (fun _ => ?_)
          show W _ _ _ _ _ _ _
          refine w_skip ?_
          show W _ _ _ _ _ _ _
          refine w_reg fun all => ?_
          refine t_qz 2 [0, 1, 7, 8] (σ' := [(0, .slice a_s0 s0.length c_s0), (1, .func (.func 64) #[] #[.pointer (some ⟨B0, 0, none⟩), .pointer (some ⟨B1, 0, none⟩)]), (7, .int .i64 (s0.length : Int)), (8, .int .i64 (wr64 (x184 + 1)))]) (by kernel_rfl) ?_
          refine t_end ?_
          exact ⟨k_, Nat.lt_succ_self _, [(0, .slice a_s0 s0.length c_s0), (1, .func (.func 64) #[] #[.pointer (some ⟨B0, 0, none⟩), .pointer (some ⟨B1, 0, none⟩)]), (7, .int .i64 (s0.length : Int)), (8, .int .i64 (wr64 (x184 + 1)))], ([⟨B0, [.int .i64 m0_0, .int .i64 m0_1], 2⟩, ⟨B1, [.int .i64 m1_0], 1⟩] : List Own), S, keep_sub [0, 1, 7, 8] (by kernel_rfl), VS.sel [0, 0] (by kernel_rfl), wr64 (x184 + 1), rfl, rfl, rfl, e182⟩
      · rw [if_neg c185] at e182
        have c185b : (decide (x184 < (s0.length : Int))) = false := decide_eq_false c185
        refine t_v (dv_quiet rfl (congrArg (fun t => some (Value.bool t)) c185b)) ?_
        refine t_keep [0, 1, 7, 8, 9] (σ' := [(0, .slice a_s0 s0.length c_s0), (1, .func (.func 64) #[] #[.pointer (some ⟨B0, 0, none⟩), .pointer (some ⟨B1, 0, none⟩)]), (7, .int .i64 (s0.length : Int)), (8, .int .i64 x184), (9, .bool false)]) (by kernel_rfl) ?_
        refine t_end ?_
        show W _ _ _ _ _ _ _
        refine w_seq ?_
        refine w_cond rfl (fun c_ => by cases c_) (fun _ => ?_)
        show W _ _ _ _ _ _ _
        refine w_exit ?_
        obtain rfl := Option.some.inj e182
        exact ⟨([⟨B0, [.int .i64 m0_0, .int .i64 m0_1], 2⟩, ⟨B1, [.int .i64 m1_0], 1⟩] : List Own), S, VS.sel [0, 0] (by kernel_rfl), (), rfl, by kernel_rfl, rfl, rfl⟩
  · rintro σ_ H_ S_ ⟨u_, rfl, rfl, rfl, rfl⟩
    dsimp only at e
    refine w_seq ?_
    refine w_reg fun all => ?_
    refine t_qz 1 [4] (σ' := [(4, .int .i64 (-1))]) (by kernel_rfl) ?_
    refine t_end ?_
    show W _ _ _ _ _ _ _
    refine w_ret ?_
    obtain rfl := Option.some.inj e
    exact ⟨[.int .i64 (-1)], ([⟨B0, [.int .i64 m0_0, .int .i64 m0_1], 2⟩, ⟨B1, [.int .i64 m1_0], 1⟩] : List Own), S, ⟨rfl, trivial⟩, VS.sel [0, 0] (by kernel_rfl), rfl, rfl, rfl⟩

def api_Edge_v5.f (k : Nat) (s0 : List (Int × Int × Int × Int)) (m0_0 : Int) (m0_1 : Int) (m1_0 : Int) : Option (Bool) := (api_Edge_v6.f k s0 m0_0 m0_1 m1_0).bind fun t239 => (some (decide (t239 ≥ 0)))
theorem api_Edge_v5.ok {S : Seal} {B0 : Nat} {B1 : Nat} {k : Nat} {s0 : List (Int × Int × Int × Int)} {m0_0 : Int} {m0_1 : Int} {m1_0 : Int} {r0_ : Bool}{a_s0 : Option Addr} {c_s0 : Nat} (h_s0 : SlE S E_i644 s0 a_s0) (e : api_Edge_v5.f k s0 m0_0 m0_1 m1_0 = some r0_) :
    Cal Try.prog 63 [.slice a_s0 s0.length c_s0, .func (.func 64) #[] #[.pointer (some ⟨B0, 0, none⟩), .pointer (some ⟨B1, 0, none⟩)]] ([⟨B0, [.int .i64 m0_0, .int .i64 m0_1], 2⟩, ⟨B1, [.int .i64 m1_0], 1⟩] : List Own) S fun v H' S' => v = .bool r0_ ∧ H' = ([⟨B0, [.int .i64 m0_0, .int .i64 m0_1], 2⟩, ⟨B1, [.int .i64 m1_0], 1⟩] : List Own) ∧ S' = S := by
  unfold api_Edge_v5.f at e
  refine cal_of (c := c63) (N := 9) Try.func63 rfl rfl (by kernel_rfl) (rs := [.t 4]) (by kernel_rfl) (Nat.le_of_ble_eq_true rfl) ?_
  unfold c63
  refine w_seq ?_
  refine w_reg fun all => ?_
  refine t_qz 1 [0, 1] (σ' := [(0, .slice a_s0 s0.length c_s0), (1, .func (.func 64) #[] #[.pointer (some ⟨B0, 0, none⟩), .pointer (some ⟨B1, 0, none⟩)])]) (by kernel_rfl) ?_
  refine t_end ?_
  show W _ _ _ _ _ _ _
  refine w_seq ?_
  refine w_reg fun all => ?_
  obtain ⟨t239, h240, e⟩ := bind_of e
  refine t_qz 2 [5, 6] (σ' := [(5, .slice a_s0 s0.length c_s0), (6, .func (.func 64) #[] #[.pointer (some ⟨B0, 0, none⟩), .pointer (some ⟨B1, 0, none⟩)])]) (by kernel_rfl) ?_
  refine t_v (.callr (vs := [.slice a_s0 s0.length c_s0, .func (.func 64) #[] #[.pointer (some ⟨B0, 0, none⟩), .pointer (some ⟨B1, 0, none⟩)]]) (A := ([⟨B0, [.int .i64 m0_0, .int .i64 m0_1], 2⟩, ⟨B1, [.int .i64 m1_0], 1⟩] : List Own)) (F0 := ([] : List Own)) rfl rfl (by kernel_rfl) (sel_perm (is := [0, 0]) (by kernel_rfl)) (api_Edge_v6.ok h_s0 h240)) ?_
  refine t_qz 2 [4] (σ' := [(4, .bool (decide (t239 ≥ 0)))]) (by kernel_rfl) ?_
  refine t_end ?_
  show W _ _ _ _ _ _ _
  refine w_ret ?_
  obtain rfl := Option.some.inj e
  exact ⟨[.bool (decide (t239 ≥ 0))], ([⟨B0, [.int .i64 m0_0, .int .i64 m0_1], 2⟩, ⟨B1, [.int .i64 m1_0], 1⟩] : List Own), S, ⟨rfl, trivial⟩, VS.sel [0, 0] (by kernel_rfl), rfl, rfl, rfl⟩

def stroke_Near_v3.f (k : Nat) (l0 : List (Int × Int × Int × Int)) (w1 : Int) (p2_0 : Int) (p2_1 : Int) : Option (Bool) := (api_Edge_v5.f k l0 p2_0 p2_1 w1).bind fun t241 => (some t241)
theorem stroke_Near_v3.ok {S : Seal} {k : Nat} {l0 : List (Int × Int × Int × Int)} {w1 : Int} {p2_0 : Int} {p2_1 : Int} {r0_ : Bool}{a_l0 : Option Addr} {c_l0 : Nat} (h_l0 : SlE S E_i644 l0 a_l0) (e : stroke_Near_v3.f k l0 w1 p2_0 p2_1 = some r0_) :
    Cal Try.prog 19 [.slice a_l0 l0.length c_l0, .int .i64 w1, .agg #[.int .i64 p2_0, .int .i64 p2_1]] [] S fun v H' S' => v = .bool r0_ ∧ H' = [] ∧ S' = S := by
  unfold stroke_Near_v3.f at e
  refine cal_of (c := c19) (N := 10) Try.func19 rfl rfl (by kernel_rfl) (rs := [.t 6]) (by kernel_rfl) (Nat.le_of_ble_eq_true rfl) ?_
  unfold c19
  refine w_seq ?_
  refine w_reg fun all => ?_
  refine t_a (.box rfl rfl rfl) fun b179 fb179 sb179 => ?_
  refine t_a (.box rfl rfl rfl) fun b180 fb180 sb180 => ?_
  refine t_qz 1 [0, 4, 5] (σ' := [(0, .slice a_l0 l0.length c_l0), (4, .pointer (some ⟨b179, 0, none⟩)), (5, .pointer (some ⟨b180, 0, none⟩))]) (by kernel_rfl) ?_
  refine t_end ?_
  show W _ _ _ _ _ _ _
  refine w_seq ?_
  refine w_reg fun all => ?_
  obtain ⟨t241, h242, e⟩ := bind_of e
  refine t_qz 2 [7, 8] (σ' := [(7, .slice a_l0 l0.length c_l0), (8, .func (.func 64) #[] #[.pointer (some ⟨b180, 0, none⟩), .pointer (some ⟨b179, 0, none⟩)])]) (by kernel_rfl) ?_
  refine t_v (.callr (vs := [.slice a_l0 l0.length c_l0, .func (.func 64) #[] #[.pointer (some ⟨b180, 0, none⟩), .pointer (some ⟨b179, 0, none⟩)]]) (A := ([⟨b180, [.int .i64 p2_0, .int .i64 p2_1], 2⟩, ⟨b179, [.int .i64 w1], 1⟩] : List Own)) (F0 := ([] : List Own)) rfl rfl (by kernel_rfl) (sel_perm (is := [0, 0]) (by kernel_rfl)) (api_Edge_v5.ok h_l0 h242)) ?_
  refine t_qz 1 [6] (σ' := [(6, .bool t241)]) (by kernel_rfl) ?_
  refine t_end ?_
  show W _ _ _ _ _ _ _
  refine w_ret ?_
  obtain rfl := Option.some.inj e
  exact ⟨[.bool t241], [], S, ⟨rfl, trivial⟩, VS.none, rfl, rfl, rfl⟩
end Go.Proofs.Ytpimfacaalkmdaa.QStrokeBoxes
