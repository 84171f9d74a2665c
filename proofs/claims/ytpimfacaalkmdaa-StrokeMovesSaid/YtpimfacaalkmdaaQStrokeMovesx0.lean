/- Functions of the program as Lean functions, each with the proof of its walk. Written by gen.py, a program of these sessions. -/
import Derived.Test.YtpimfacaalkmdaaX
import Derived.Test.YtpimfacaalkmdaaProg
namespace Go.Proofs.Ytpimfacaalkmdaa.QStrokeMoves
open Go Go.RowKit Go.Proofs.YtpimfacaalkmdaaE Go.Proofs.YtpimfacaalkmdaaX
set_option linter.unusedVariables false
set_option maxRecDepth 100000
set_option maxHeartbeats 8000000
theorem mixed : Try.prog.follows .mixedOrders = true := by kernel_rfl

def E_i64 : En (Int) := ⟨1, fun t => [.int .i64 t], fun _ => rfl, fun _ => rfl⟩
def E_i644 : En (Int × Int × Int × Int) := ⟨4, fun t => [.int .i64 t.1, .int .i64 t.2.1, .int .i64 t.2.2.1, .int .i64 t.2.2.2], fun _ => rfl, fun _ => rfl⟩
/-- slices.IndexFunc[[]api.Edge,api.Edge] -/
def c103 : C :=
  (.seq (.reg [⟨(some 4), .mv (.const (.int .i64 0)), none⟩])
  (.seq (.seq (.reg [⟨(some 6), .mv (.tmp 0), none⟩,
      ⟨(some 7), .lns (.tmp 6), none⟩,
      ⟨(some 8), .mv (.const (.int .i64 0)), none⟩])
   (.block 0 (.loop (.seq (.reg [⟨(some 9), .bin .lss (.tmp 8) (.tmp 7), none⟩])
     (.seq (.cond (.tmp 9)
       .skip
       (.exit 0))
     (.seq (.block 1 (.seq (.reg [⟨(some 10), .mv (.tmp 8), none⟩,
          ⟨(some 5), .mv (.tmp 10), none⟩])
       (.seq (.reg [⟨(some 11), .mv (.tmp 1), none⟩,
          ⟨(some 12), .mv (.tmp 0), none⟩,
          ⟨(some 13), .mv (.tmp 5), none⟩,
          ⟨(some 14), .ixs 4 (.tmp 12) (.tmp 13), none⟩,
          ⟨(some 15), .ld (some 4) (.tmp 14), none⟩,
          ⟨(some 16), .clo (.tmp 11) [(.tmp 15)], none⟩])
       (.cond (.tmp 16)
        (.seq (.reg [⟨(some 17), .mv (.tmp 5), none⟩,
            ⟨(some 4), .mv (.tmp 17), none⟩])
         .ret)
        .skip))))
     (.reg [⟨(some 18), .bin .add (.tmp 8) (.const (.int .i64 1)), none⟩,
       ⟨(some 8), .mv (.tmp 18), none⟩])))))))
  (.seq (.reg [⟨(some 4), .mv (.const (.int .i64 (-1))), none⟩])
  .ret)))
def api_Edge_v2.f  : Option (Unit) := some ()
theorem api_Edge_v2.ok {S : Seal} {B0 : Nat} {B1 : Nat}  (e : api_Edge_v2.f  = some ()) :
    Cal Try.prog 103 [.slice none 0 0, .func (.func 64) #[] #[.pointer (some ⟨B0, 0, none⟩), .pointer (some ⟨B1, 0, none⟩)]] ([⟨B0, [.int .i64 0, .int .i64 0], 2⟩, ⟨B1, [.int .i64 5], 1⟩] : List Own) S fun v H' S' => v = .int .i64 (-1) ∧ H' = ([⟨B0, [.int .i64 0, .int .i64 0], 2⟩, ⟨B1, [.int .i64 5], 1⟩] : List Own) ∧ S' = S := by
  unfold api_Edge_v2.f at e
  refine cal_of (c := c103) (N := 19) Try.func103 rfl rfl (by kernel_rfl) (rs := [.t 4]) (by kernel_rfl) (Nat.le_of_ble_eq_true rfl) ?_
  unfold c103
  refine w_seq ?_
  refine w_reg fun all => ?_
  refine t_qz 1 [0, 1] (σ' := [(0, .slice none 0 0), (1, .func (.func 64) #[] #[.pointer (some ⟨B0, 0, none⟩), .pointer (some ⟨B1, 0, none⟩)])]) (by kernel_rfl) ?_
  refine t_end ?_
  show W _ _ _ _ _ _ _
  refine w_seq ?_
  refine w_seq ?_
  refine w_reg fun all => ?_
  refine t_qz 3 [0, 1, 7, 8] (σ' := [(0, .slice none 0 0), (1, .func (.func 64) #[] #[.pointer (some ⟨B0, 0, none⟩), .pointer (some ⟨B1, 0, none⟩)]), (7, .int .i64 0), (8, .int .i64 0)]) (by kernel_rfl) ?_
  refine t_end ?_
  show W _ _ _ _ _ _ _
  refine w_block ?_
  refine w_lun 10 ?_
  refine wl_step ?_
  refine w_seq ?_
  refine w_reg fun all => ?_
  refine t_qz 1 [0, 1, 7, 8, 9] (σ' := [(0, .slice none 0 0), (1, .func (.func 64) #[] #[.pointer (some ⟨B0, 0, none⟩), .pointer (some ⟨B1, 0, none⟩)]), (7, .int .i64 0), (8, .int .i64 0), (9, .bool false)]) (by kernel_rfl) ?_
  refine t_end ?_
  show W _ _ _ _ _ _ _
  refine w_seq ?_
  refine w_cond rfl (fun c_ => by cases c_) (fun _ => ?_)
  show W _ _ _ _ _ _ _
  refine w_exit ?_
  show W _ _ _ _ _ _ _
  refine w_seq ?_
  refine w_reg fun all => ?_
  refine t_qz 1 [4] (σ' := [(4, .int .i64 (-1))]) (by kernel_rfl) ?_
  refine t_end ?_
  show W _ _ _ _ _ _ _
  refine w_ret ?_
  exact ⟨[.int .i64 (-1)], ([⟨B0, [.int .i64 0, .int .i64 0], 2⟩, ⟨B1, [.int .i64 5], 1⟩] : List Own), S, ⟨rfl, trivial⟩, VS.sel [0, 0] (by kernel_rfl), rfl, rfl, rfl⟩

/-- slices.ContainsFunc[[]api.Edge,api.Edge] -/
def c63 : C :=
  (.seq (.reg [⟨(some 4), .mv (.const (.bool false)), none⟩])
  (.seq (.reg [⟨(some 5), .mv (.tmp 0), none⟩,
     ⟨(some 6), .mv (.tmp 1), none⟩,
     ⟨(some 7), .call 103 [(.tmp 5), (.tmp 6)], none⟩,
     ⟨(some 8), .bin .geq (.tmp 7) (.const (.int .i64 0)), none⟩,
     ⟨(some 4), .mv (.tmp 8), none⟩])
  .ret))
def api_Edge_v1.f  : Option (Unit) := (api_Edge_v2.f).bind fun _ => (some ())
theorem api_Edge_v1.ok {S : Seal} {B0 : Nat} {B1 : Nat}  (e : api_Edge_v1.f  = some ()) :
    Cal Try.prog 63 [.slice none 0 0, .func (.func 64) #[] #[.pointer (some ⟨B0, 0, none⟩), .pointer (some ⟨B1, 0, none⟩)]] ([⟨B0, [.int .i64 0, .int .i64 0], 2⟩, ⟨B1, [.int .i64 5], 1⟩] : List Own) S fun v H' S' => v = .bool false ∧ H' = ([⟨B0, [.int .i64 0, .int .i64 0], 2⟩, ⟨B1, [.int .i64 5], 1⟩] : List Own) ∧ S' = S := by
  unfold api_Edge_v1.f at e
  refine cal_of (c := c63) (N := 9) Try.func63 rfl rfl (by kernel_rfl) (rs := [.t 4]) (by kernel_rfl) (Nat.le_of_ble_eq_true rfl) ?_
  unfold c63
  refine w_seq ?_
  refine w_reg fun all => ?_
  refine t_qz 1 [0, 1] (σ' := [(0, .slice none 0 0), (1, .func (.func 64) #[] #[.pointer (some ⟨B0, 0, none⟩), .pointer (some ⟨B1, 0, none⟩)])]) (by kernel_rfl) ?_
  refine t_end ?_
  show W _ _ _ _ _ _ _
  refine w_seq ?_
  refine w_reg fun all => ?_
  obtain ⟨u_, h5, e⟩ := bind_of e
  refine t_qz 2 [5, 6] (σ' := [(5, .slice none 0 0), (6, .func (.func 64) #[] #[.pointer (some ⟨B0, 0, none⟩), .pointer (some ⟨B1, 0, none⟩)])]) (by kernel_rfl) ?_
  refine t_v (.callr (vs := [.slice none 0 0, .func (.func 64) #[] #[.pointer (some ⟨B0, 0, none⟩), .pointer (some ⟨B1, 0, none⟩)]]) (A := ([⟨B0, [.int .i64 0, .int .i64 0], 2⟩, ⟨B1, [.int .i64 5], 1⟩] : List Own)) (F0 := ([] : List Own)) rfl rfl (by kernel_rfl) (sel_perm (is := [0, 0]) (by kernel_rfl)) (api_Edge_v2.ok h5)) ?_
  refine t_qz 2 [4] (σ' := [(4, .bool false)]) (by kernel_rfl) ?_
  refine t_end ?_
  show W _ _ _ _ _ _ _
  refine w_ret ?_
  exact ⟨[.bool false], ([⟨B0, [.int .i64 0, .int .i64 0], 2⟩, ⟨B1, [.int .i64 5], 1⟩] : List Own), S, ⟨rfl, trivial⟩, VS.sel [0, 0] (by kernel_rfl), rfl, rfl, rfl⟩

/-- stroke.Near -/
def c19 : C :=
  (.seq (.reg [⟨(some 4), .box (.tmp 1), none⟩,
     ⟨(some 5), .box (.tmp 2), none⟩,
     ⟨(some 6), .mv (.const (.bool false)), none⟩])
  (.seq (.reg [⟨(some 7), .mv (.tmp 0), none⟩,
     ⟨(some 8), .mkf 64 [(.tmp 5), (.tmp 4)], none⟩,
     ⟨(some 9), .call 63 [(.tmp 7), (.tmp 8)], none⟩,
     ⟨(some 6), .mv (.tmp 9), none⟩])
  .ret))
def stroke_Near_v1.f  : Option (Unit) := (api_Edge_v1.f).bind fun _ => (some ())
theorem stroke_Near_v1.ok {S : Seal}  (e : stroke_Near_v1.f  = some ()) :
    Cal Try.prog 19 [.slice none 0 0, .int .i64 5, .agg #[.int .i64 0, .int .i64 0]] [] S fun v H' S' => v = .bool false ∧ H' = [] ∧ S' = S := by
  unfold stroke_Near_v1.f at e
  refine cal_of (c := c19) (N := 10) Try.func19 rfl rfl (by kernel_rfl) (rs := [.t 6]) (by kernel_rfl) (Nat.le_of_ble_eq_true rfl) ?_
  unfold c19
  refine w_seq ?_
  refine w_reg fun all => ?_
  refine t_a (.box rfl rfl rfl) fun b3 fb3 sb3 => ?_
  refine t_a (.box rfl rfl rfl) fun b4 fb4 sb4 => ?_
  refine t_qz 1 [0, 4, 5] (σ' := [(0, .slice none 0 0), (4, .pointer (some ⟨b3, 0, none⟩)), (5, .pointer (some ⟨b4, 0, none⟩))]) (by kernel_rfl) ?_
  refine t_end ?_
  show W _ _ _ _ _ _ _
  refine w_seq ?_
  refine w_reg fun all => ?_
  obtain ⟨u_, h6, e⟩ := bind_of e
  refine t_qz 2 [7, 8] (σ' := [(7, .slice none 0 0), (8, .func (.func 64) #[] #[.pointer (some ⟨b4, 0, none⟩), .pointer (some ⟨b3, 0, none⟩)])]) (by kernel_rfl) ?_
  refine t_v (.callr (vs := [.slice none 0 0, .func (.func 64) #[] #[.pointer (some ⟨b4, 0, none⟩), .pointer (some ⟨b3, 0, none⟩)]]) (A := ([⟨b4, [.int .i64 0, .int .i64 0], 2⟩, ⟨b3, [.int .i64 5], 1⟩] : List Own)) (F0 := ([] : List Own)) rfl rfl (by kernel_rfl) (sel_perm (is := [0, 0]) (by kernel_rfl)) (api_Edge_v1.ok h6)) ?_
  refine t_qz 1 [6] (σ' := [(6, .bool false)]) (by kernel_rfl) ?_
  refine t_end ?_
  show W _ _ _ _ _ _ _
  refine w_ret ?_
  exact ⟨[.bool false], [], S, ⟨rfl, trivial⟩, VS.none, rfl, rfl, rfl⟩

/-- plane.Sub -/
def c116 : C :=
  (.seq (.reg [⟨(some 2), .box (.tmp 0), none⟩,
     ⟨(some 3), .box (.tmp 1), none⟩,
     ⟨(some 4), .new [(.int .i64 0), (.int .i64 0)], none⟩])
  (.seq (.reg [⟨(some 5), .pad 0 (.tmp 2), none⟩,
     ⟨(some 6), .ld none (.tmp 5), none⟩,
     ⟨(some 7), .pad 0 (.tmp 3), none⟩,
     ⟨(some 8), .ld none (.tmp 7), none⟩,
     ⟨(some 9), .bin .sub (.tmp 6) (.tmp 8), none⟩,
     ⟨(some 10), .pad 1 (.tmp 2), none⟩,
     ⟨(some 11), .ld none (.tmp 10), none⟩,
     ⟨(some 12), .pad 1 (.tmp 3), none⟩,
     ⟨(some 13), .ld none (.tmp 12), none⟩,
     ⟨(some 14), .bin .sub (.tmp 11) (.tmp 13), none⟩,
     ⟨(some 15), .bld [(.int .i64 0), (.int .i64 0)] [(0, 1, (.tmp 9)), (1, 1, (.tmp 14))], none⟩,
     ⟨none, .st 2 (.tmp 4) (.tmp 15), none⟩])
  .ret))
def plane_Sub_v1.f  : Option (Unit) := some ()
theorem plane_Sub_v1.ok {S : Seal}  (e : plane_Sub_v1.f  = some ()) :
    Cal Try.prog 116 [.agg #[.int .i64 5, .int .i64 0], .agg #[.int .i64 0, .int .i64 0]] [] S fun v H' S' => v = .agg #[.int .i64 5, .int .i64 0] ∧ H' = [] ∧ S' = S := by
  unfold plane_Sub_v1.f at e
  refine cal_of (c := c116) (N := 16) Try.func116 rfl rfl (by kernel_rfl) (rs := [.cn 2 4]) (by kernel_rfl) (Nat.le_of_ble_eq_true rfl) ?_
  unfold c116
  refine w_seq ?_
  refine w_reg fun all => ?_
  refine t_a (.box rfl rfl rfl) fun b17 fb17 sb17 => ?_
  refine t_a (.box rfl rfl rfl) fun b18 fb18 sb18 => ?_
  refine t_a (.new rfl rfl) fun b19 fb19 sb19 => ?_
  refine t_keep [2, 3, 4] (σ' := [(2, .pointer (some ⟨b17, 0, none⟩)), (3, .pointer (some ⟨b18, 0, none⟩)), (4, .pointer (some ⟨b19, 0, none⟩))]) (by kernel_rfl) ?_
  refine t_end ?_
  show W _ _ _ _ _ _ _
  refine w_seq ?_
  refine w_reg fun all => ?_
  refine t_qz 1 [2, 3, 4, 5] (σ' := [(2, .pointer (some ⟨b17, 0, none⟩)), (3, .pointer (some ⟨b18, 0, none⟩)), (4, .pointer (some ⟨b19, 0, none⟩)), (5, .pointer (some ⟨b17, 0, none⟩))]) (by kernel_rfl) ?_
  refine t_v (.ld1 rfl rfl rfl (.at 2 rfl rfl)) ?_
  refine t_qz 1 [2, 3, 4, 6, 7] (σ' := [(2, .pointer (some ⟨b17, 0, none⟩)), (3, .pointer (some ⟨b18, 0, none⟩)), (4, .pointer (some ⟨b19, 0, none⟩)), (6, .int .i64 5), (7, .pointer (some ⟨b18, 0, none⟩))]) (by kernel_rfl) ?_
  refine t_v (.ld1 rfl rfl rfl (.at 1 rfl rfl)) ?_
  refine t_qz 2 [3, 4, 9, 10] (σ' := [(3, .pointer (some ⟨b18, 0, none⟩)), (4, .pointer (some ⟨b19, 0, none⟩)), (9, .int .i64 5), (10, .pointer (some ⟨b17, 1, none⟩))]) (by kernel_rfl) ?_
  refine t_v (.ld1 rfl rfl rfl (.at 2 rfl rfl)) ?_
  refine t_qz 1 [4, 9, 11, 12] (σ' := [(4, .pointer (some ⟨b19, 0, none⟩)), (9, .int .i64 5), (11, .int .i64 0), (12, .pointer (some ⟨b18, 1, none⟩))]) (by kernel_rfl) ?_
  refine t_v (.ld1 rfl rfl rfl (.at 1 rfl rfl)) ?_
  refine t_qz 2 [4, 15] (σ' := [(4, .pointer (some ⟨b19, 0, none⟩)), (15, .agg #[.int .i64 5, .int .i64 0])]) (by kernel_rfl) ?_
  refine t_sti 0 (cs := [.int .i64 5, .int .i64 0]) rfl rfl rfl rfl rfl rfl rfl rfl rfl ?_
  refine t_keep [4] (σ' := [(4, .pointer (some ⟨b19, 0, none⟩))]) (by kernel_rfl) ?_
  refine t_end ?_
  show W _ _ _ _ _ _ _
  refine w_ret ?_
  exact ⟨[.agg #[.int .i64 5, .int .i64 0]], [], S, ⟨⟨_, _, _, rfl, .at 0 rfl rfl, rfl⟩, trivial⟩, VS.none, rfl, rfl, rfl⟩

def plane_Sub_v2.f  : Option (Unit) := some ()
theorem plane_Sub_v2.ok {S : Seal}  (e : plane_Sub_v2.f  = some ()) :
    Cal Try.prog 116 [.agg #[.int .i64 1, .int .i64 1], .agg #[.int .i64 0, .int .i64 0]] [] S fun v H' S' => v = .agg #[.int .i64 1, .int .i64 1] ∧ H' = [] ∧ S' = S := by
  unfold plane_Sub_v2.f at e
  refine cal_of (c := c116) (N := 16) Try.func116 rfl rfl (by kernel_rfl) (rs := [.cn 2 4]) (by kernel_rfl) (Nat.le_of_ble_eq_true rfl) ?_
  unfold c116
  refine w_seq ?_
  refine w_reg fun all => ?_
  refine t_a (.box rfl rfl rfl) fun b21 fb21 sb21 => ?_
  refine t_a (.box rfl rfl rfl) fun b22 fb22 sb22 => ?_
  refine t_a (.new rfl rfl) fun b23 fb23 sb23 => ?_
  refine t_keep [2, 3, 4] (σ' := [(2, .pointer (some ⟨b21, 0, none⟩)), (3, .pointer (some ⟨b22, 0, none⟩)), (4, .pointer (some ⟨b23, 0, none⟩))]) (by kernel_rfl) ?_
  refine t_end ?_
  show W _ _ _ _ _ _ _
  refine w_seq ?_
  refine w_reg fun all => ?_
  refine t_qz 1 [2, 3, 4, 5] (σ' := [(2, .pointer (some ⟨b21, 0, none⟩)), (3, .pointer (some ⟨b22, 0, none⟩)), (4, .pointer (some ⟨b23, 0, none⟩)), (5, .pointer (some ⟨b21, 0, none⟩))]) (by kernel_rfl) ?_
  refine t_v (.ld1 rfl rfl rfl (.at 2 rfl rfl)) ?_
  refine t_qz 1 [2, 3, 4, 6, 7] (σ' := [(2, .pointer (some ⟨b21, 0, none⟩)), (3, .pointer (some ⟨b22, 0, none⟩)), (4, .pointer (some ⟨b23, 0, none⟩)), (6, .int .i64 1), (7, .pointer (some ⟨b22, 0, none⟩))]) (by kernel_rfl) ?_
  refine t_v (.ld1 rfl rfl rfl (.at 1 rfl rfl)) ?_
  refine t_qz 2 [3, 4, 9, 10] (σ' := [(3, .pointer (some ⟨b22, 0, none⟩)), (4, .pointer (some ⟨b23, 0, none⟩)), (9, .int .i64 1), (10, .pointer (some ⟨b21, 1, none⟩))]) (by kernel_rfl) ?_
  refine t_v (.ld1 rfl rfl rfl (.at 2 rfl rfl)) ?_
  refine t_qz 1 [4, 9, 11, 12] (σ' := [(4, .pointer (some ⟨b23, 0, none⟩)), (9, .int .i64 1), (11, .int .i64 1), (12, .pointer (some ⟨b22, 1, none⟩))]) (by kernel_rfl) ?_
  refine t_v (.ld1 rfl rfl rfl (.at 1 rfl rfl)) ?_
  refine t_qz 2 [4, 15] (σ' := [(4, .pointer (some ⟨b23, 0, none⟩)), (15, .agg #[.int .i64 1, .int .i64 1])]) (by kernel_rfl) ?_
  refine t_sti 0 (cs := [.int .i64 1, .int .i64 1]) rfl rfl rfl rfl rfl rfl rfl rfl rfl ?_
  refine t_keep [4] (σ' := [(4, .pointer (some ⟨b23, 0, none⟩))]) (by kernel_rfl) ?_
  refine t_end ?_
  show W _ _ _ _ _ _ _
  refine w_ret ?_
  exact ⟨[.agg #[.int .i64 1, .int .i64 1]], [], S, ⟨⟨_, _, _, rfl, .at 0 rfl rfl, rfl⟩, trivial⟩, VS.none, rfl, rfl, rfl⟩

/-- plane.Dot -/
def c104 : C :=
  (.seq (.reg [⟨(some 3), .box (.tmp 0), none⟩,
     ⟨(some 4), .box (.tmp 1), none⟩,
     ⟨(some 5), .box (.tmp 2), none⟩,
     ⟨(some 6), .mv (.const (.int .i64 0)), none⟩])
  (.seq (.drw [⟨(some 9), .ld (some 2) (.tmp 4), none⟩,
     ⟨(some 10), .ld (some 2) (.tmp 3), none⟩,
     ⟨(some 11), .call 116 [(.tmp 9), (.tmp 10)], none⟩,
     ⟨(some 12), .ld (some 2) (.tmp 5), none⟩,
     ⟨(some 13), .ld (some 2) (.tmp 3), none⟩,
     ⟨(some 14), .call 116 [(.tmp 12), (.tmp 13)], none⟩,
     ⟨(some 7), .new [(.int .i64 0), (.int .i64 0)], none⟩,
     ⟨(some 8), .new [(.int .i64 0), (.int .i64 0)], none⟩,
     ⟨none, .st 2 (.tmp 7) (.tmp 11), none⟩,
     ⟨none, .st 2 (.tmp 8) (.tmp 14), none⟩] [[], [], [0, 1], [], [], [3, 4, 2], [], [], [6, 2, 5, 0, 1, 2, 6, 7], [7, 5, 8, 0, 1, 2, 3, 4, 5, 6, 7, 8]])
  (.seq (.reg [⟨(some 15), .pad 0 (.tmp 7), none⟩,
     ⟨(some 16), .ld none (.tmp 15), none⟩,
     ⟨(some 17), .pad 0 (.tmp 8), none⟩,
     ⟨(some 18), .ld none (.tmp 17), none⟩,
     ⟨(some 19), .bin .mul (.tmp 16) (.tmp 18), none⟩,
     ⟨(some 20), .pad 1 (.tmp 7), none⟩,
     ⟨(some 21), .ld none (.tmp 20), none⟩,
     ⟨(some 22), .pad 1 (.tmp 8), none⟩,
     ⟨(some 23), .ld none (.tmp 22), none⟩,
     ⟨(some 24), .bin .mul (.tmp 21) (.tmp 23), none⟩,
     ⟨(some 25), .bin .add (.tmp 19) (.tmp 24), none⟩,
     ⟨(some 6), .mv (.tmp 25), none⟩])
  .ret)))
def plane_Dot_v1.f  : Option (Unit) := (plane_Sub_v1.f).bind fun _ => ((plane_Sub_v2.f).bind fun _ => (some ()))
theorem plane_Dot_v1.ok {S : Seal}  (e : plane_Dot_v1.f  = some ()) :
    Cal Try.prog 104 [.agg #[.int .i64 0, .int .i64 0], .agg #[.int .i64 5, .int .i64 0], .agg #[.int .i64 1, .int .i64 1]] [] S fun v H' S' => v = .int .i64 5 ∧ H' = [] ∧ S' = S := by
  unfold plane_Dot_v1.f at e
  refine cal_of (c := c104) (N := 26) Try.func104 rfl rfl (by kernel_rfl) (rs := [.t 6]) (by kernel_rfl) (Nat.le_of_ble_eq_true rfl) ?_
  unfold c104
  refine w_seq ?_
  refine w_reg fun all => ?_
  refine t_a (.box rfl rfl rfl) fun b14 fb14 sb14 => ?_
  refine t_a (.box rfl rfl rfl) fun b15 fb15 sb15 => ?_
  refine t_a (.box rfl rfl rfl) fun b16 fb16 sb16 => ?_
  refine t_qz 1 [3, 4, 5] (σ' := [(3, .pointer (some ⟨b14, 0, none⟩)), (4, .pointer (some ⟨b15, 0, none⟩)), (5, .pointer (some ⟨b16, 0, none⟩))]) (by kernel_rfl) ?_
  refine t_end ?_
  show W _ _ _ _ _ _ _
  refine w_seq ?_
  obtain ⟨u_, h17, e⟩ := bind_of e
  obtain ⟨u_, h18, e⟩ := bind_of e
  refine w_drwE mixed 8 [.v (.agg #[.int .i64 5, .int .i64 0]), .v (.agg #[.int .i64 0, .int .i64 0]), .v (.agg #[.int .i64 5, .int .i64 0]), .v (.agg #[.int .i64 1, .int .i64 1]), .v (.agg #[.int .i64 0, .int .i64 0]), .v (.agg #[.int .i64 1, .int .i64 1]), .a [.int .i64 0, .int .i64 0] ptrTo, .a [.int .i64 0, .int .i64 0] ptrTo] (by kernel_rfl) ?_ ?_
  · refine .cons (.ldn rfl rfl rfl (.at 1 rfl rfl)) ?_
    refine .cons (.ldn rfl rfl rfl (.at 2 rfl rfl)) ?_
    refine .cons (.call (vs := [.agg #[.int .i64 5, .int .i64 0], .agg #[.int .i64 0, .int .i64 0]]) rfl rfl (by kernel_rfl) (plane_Sub_v1.ok h17)) ?_
    refine .cons (.ldn rfl rfl rfl (.at 0 rfl rfl)) ?_
    refine .cons (.ldn rfl rfl rfl (.at 2 rfl rfl)) ?_
    refine .cons (.call (vs := [.agg #[.int .i64 1, .int .i64 1], .agg #[.int .i64 0, .int .i64 0]]) rfl rfl (by kernel_rfl) (plane_Sub_v2.ok h18)) ?_
    refine .cons (.new rfl rfl) ?_
    refine .cons (.new rfl rfl) ?_
    exact .nil
  refine fk_q 6 [11, 14] (σ' := [(11, .agg #[.int .i64 5, .int .i64 0]), (14, .agg #[.int .i64 1, .int .i64 1])]) t_more (by kernel_rfl) ?_
  refine fk_a fun b19 fb19 sb19 => ?_
  refine fk_a fun b20 fb20 sb20 => ?_
  refine fk_nil fun all => ?_
  refine t_sti 1 (cs := [.int .i64 5, .int .i64 0]) rfl rfl rfl rfl rfl rfl rfl rfl rfl ?_
  refine t_sti 0 (cs := [.int .i64 1, .int .i64 1]) rfl rfl rfl rfl rfl rfl rfl rfl rfl ?_
  refine t_keep [7, 8] (σ' := [(7, .pointer (some ⟨b19, 0, none⟩)), (8, .pointer (some ⟨b20, 0, none⟩))]) (by kernel_rfl) ?_
  refine t_end ?_
  show W _ _ _ _ _ _ _
  refine w_seq ?_
  refine w_reg fun all => ?_
  refine t_qz 1 [7, 8, 15] (σ' := [(7, .pointer (some ⟨b19, 0, none⟩)), (8, .pointer (some ⟨b20, 0, none⟩)), (15, .pointer (some ⟨b19, 0, none⟩))]) (by kernel_rfl) ?_
  refine t_v (.ld1 rfl rfl rfl (.at 1 rfl rfl)) ?_
  refine t_qz 1 [7, 8, 16, 17] (σ' := [(7, .pointer (some ⟨b19, 0, none⟩)), (8, .pointer (some ⟨b20, 0, none⟩)), (16, .int .i64 5), (17, .pointer (some ⟨b20, 0, none⟩))]) (by kernel_rfl) ?_
  refine t_v (.ld1 rfl rfl rfl (.at 0 rfl rfl)) ?_
  refine t_qz 2 [8, 19, 20] (σ' := [(8, .pointer (some ⟨b20, 0, none⟩)), (19, .int .i64 5), (20, .pointer (some ⟨b19, 1, none⟩))]) (by kernel_rfl) ?_
  refine t_v (.ld1 rfl rfl rfl (.at 1 rfl rfl)) ?_
  refine t_qz 1 [19, 21, 22] (σ' := [(19, .int .i64 5), (21, .int .i64 0), (22, .pointer (some ⟨b20, 1, none⟩))]) (by kernel_rfl) ?_
  refine t_v (.ld1 rfl rfl rfl (.at 0 rfl rfl)) ?_
  refine t_qz 3 [6] (σ' := [(6, .int .i64 5)]) (by kernel_rfl) ?_
  refine t_end ?_
  show W _ _ _ _ _ _ _
  refine w_ret ?_
  exact ⟨[.int .i64 5], [], S, ⟨rfl, trivial⟩, VS.none, rfl, rfl, rfl⟩

def plane_Dot_v2.f  : Option (Unit) := (plane_Sub_v1.f).bind fun _ => ((plane_Sub_v1.f).bind fun _ => (some ()))
theorem plane_Dot_v2.ok {S : Seal}  (e : plane_Dot_v2.f  = some ()) :
    Cal Try.prog 104 [.agg #[.int .i64 0, .int .i64 0], .agg #[.int .i64 5, .int .i64 0], .agg #[.int .i64 5, .int .i64 0]] [] S fun v H' S' => v = .int .i64 25 ∧ H' = [] ∧ S' = S := by
  unfold plane_Dot_v2.f at e
  refine cal_of (c := c104) (N := 26) Try.func104 rfl rfl (by kernel_rfl) (rs := [.t 6]) (by kernel_rfl) (Nat.le_of_ble_eq_true rfl) ?_
  unfold c104
  refine w_seq ?_
  refine w_reg fun all => ?_
  refine t_a (.box rfl rfl rfl) fun b24 fb24 sb24 => ?_
  refine t_a (.box rfl rfl rfl) fun b25 fb25 sb25 => ?_
  refine t_a (.box rfl rfl rfl) fun b26 fb26 sb26 => ?_
  refine t_qz 1 [3, 4, 5] (σ' := [(3, .pointer (some ⟨b24, 0, none⟩)), (4, .pointer (some ⟨b25, 0, none⟩)), (5, .pointer (some ⟨b26, 0, none⟩))]) (by kernel_rfl) ?_
  refine t_end ?_
  show W _ _ _ _ _ _ _
  refine w_seq ?_
  obtain ⟨u_, h27, e⟩ := bind_of e
  obtain ⟨u_, h28, e⟩ := bind_of e
  refine w_drwE mixed 8 [.v (.agg #[.int .i64 5, .int .i64 0]), .v (.agg #[.int .i64 0, .int .i64 0]), .v (.agg #[.int .i64 5, .int .i64 0]), .v (.agg #[.int .i64 5, .int .i64 0]), .v (.agg #[.int .i64 0, .int .i64 0]), .v (.agg #[.int .i64 5, .int .i64 0]), .a [.int .i64 0, .int .i64 0] ptrTo, .a [.int .i64 0, .int .i64 0] ptrTo] (by kernel_rfl) ?_ ?_
  · refine .cons (.ldn rfl rfl rfl (.at 1 rfl rfl)) ?_
    refine .cons (.ldn rfl rfl rfl (.at 2 rfl rfl)) ?_
    refine .cons (.call (vs := [.agg #[.int .i64 5, .int .i64 0], .agg #[.int .i64 0, .int .i64 0]]) rfl rfl (by kernel_rfl) (plane_Sub_v1.ok h27)) ?_
    refine .cons (.ldn rfl rfl rfl (.at 0 rfl rfl)) ?_
    refine .cons (.ldn rfl rfl rfl (.at 2 rfl rfl)) ?_
    refine .cons (.call (vs := [.agg #[.int .i64 5, .int .i64 0], .agg #[.int .i64 0, .int .i64 0]]) rfl rfl (by kernel_rfl) (plane_Sub_v1.ok h28)) ?_
    refine .cons (.new rfl rfl) ?_
    refine .cons (.new rfl rfl) ?_
    exact .nil
  refine fk_q 6 [11, 14] (σ' := [(11, .agg #[.int .i64 5, .int .i64 0]), (14, .agg #[.int .i64 5, .int .i64 0])]) t_more (by kernel_rfl) ?_
  refine fk_a fun b29 fb29 sb29 => ?_
  refine fk_a fun b30 fb30 sb30 => ?_
  refine fk_nil fun all => ?_
  refine t_sti 1 (cs := [.int .i64 5, .int .i64 0]) rfl rfl rfl rfl rfl rfl rfl rfl rfl ?_
  refine t_sti 0 (cs := [.int .i64 5, .int .i64 0]) rfl rfl rfl rfl rfl rfl rfl rfl rfl ?_
  refine t_keep [7, 8] (σ' := [(7, .pointer (some ⟨b29, 0, none⟩)), (8, .pointer (some ⟨b30, 0, none⟩))]) (by kernel_rfl) ?_
  refine t_end ?_
  show W _ _ _ _ _ _ _
  refine w_seq ?_
  refine w_reg fun all => ?_
  refine t_qz 1 [7, 8, 15] (σ' := [(7, .pointer (some ⟨b29, 0, none⟩)), (8, .pointer (some ⟨b30, 0, none⟩)), (15, .pointer (some ⟨b29, 0, none⟩))]) (by kernel_rfl) ?_
  refine t_v (.ld1 rfl rfl rfl (.at 1 rfl rfl)) ?_
  refine t_qz 1 [7, 8, 16, 17] (σ' := [(7, .pointer (some ⟨b29, 0, none⟩)), (8, .pointer (some ⟨b30, 0, none⟩)), (16, .int .i64 5), (17, .pointer (some ⟨b30, 0, none⟩))]) (by kernel_rfl) ?_
  refine t_v (.ld1 rfl rfl rfl (.at 0 rfl rfl)) ?_
  refine t_qz 2 [8, 19, 20] (σ' := [(8, .pointer (some ⟨b30, 0, none⟩)), (19, .int .i64 25), (20, .pointer (some ⟨b29, 1, none⟩))]) (by kernel_rfl) ?_
  refine t_v (.ld1 rfl rfl rfl (.at 1 rfl rfl)) ?_
  refine t_qz 1 [19, 21, 22] (σ' := [(19, .int .i64 25), (21, .int .i64 0), (22, .pointer (some ⟨b30, 1, none⟩))]) (by kernel_rfl) ?_
  refine t_v (.ld1 rfl rfl rfl (.at 0 rfl rfl)) ?_
  refine t_qz 3 [6] (σ' := [(6, .int .i64 25)]) (by kernel_rfl) ?_
  refine t_end ?_
  show W _ _ _ _ _ _ _
  refine w_ret ?_
  exact ⟨[.int .i64 25], [], S, ⟨rfl, trivial⟩, VS.none, rfl, rfl, rfl⟩

/-- plane.Len2 -/
def c90 : C :=
  (.seq (.reg [⟨(some 2), .box (.tmp 0), none⟩,
     ⟨(some 3), .box (.tmp 1), none⟩,
     ⟨(some 4), .mv (.const (.int .i64 0)), none⟩])
  (.seq (.reg [⟨(some 5), .ld (some 2) (.tmp 2), none⟩,
     ⟨(some 6), .ld (some 2) (.tmp 3), none⟩,
     ⟨(some 7), .ld (some 2) (.tmp 3), none⟩,
     ⟨(some 8), .call 104 [(.tmp 5), (.tmp 6), (.tmp 7)], none⟩,
     ⟨(some 4), .mv (.tmp 8), none⟩])
  .ret))
def plane_Len2_v1.f  : Option (Unit) := (plane_Dot_v2.f).bind fun _ => (some ())
theorem plane_Len2_v1.ok {S : Seal}  (e : plane_Len2_v1.f  = some ()) :
    Cal Try.prog 90 [.agg #[.int .i64 0, .int .i64 0], .agg #[.int .i64 5, .int .i64 0]] [] S fun v H' S' => v = .int .i64 25 ∧ H' = [] ∧ S' = S := by
  unfold plane_Len2_v1.f at e
  refine cal_of (c := c90) (N := 9) Try.func90 rfl rfl (by kernel_rfl) (rs := [.t 4]) (by kernel_rfl) (Nat.le_of_ble_eq_true rfl) ?_
  unfold c90
  refine w_seq ?_
  refine w_reg fun all => ?_
  refine t_a (.box rfl rfl rfl) fun b22 fb22 sb22 => ?_
  refine t_a (.box rfl rfl rfl) fun b23 fb23 sb23 => ?_
  refine t_qz 1 [2, 3] (σ' := [(2, .pointer (some ⟨b22, 0, none⟩)), (3, .pointer (some ⟨b23, 0, none⟩))]) (by kernel_rfl) ?_
  refine t_end ?_
  show W _ _ _ _ _ _ _
  refine w_seq ?_
  refine w_reg fun all => ?_
  refine t_v (.ldn rfl rfl rfl (.at 1 rfl rfl)) ?_
  refine t_v (.ldn rfl rfl rfl (.at 0 rfl rfl)) ?_
  refine t_v (.ldn rfl rfl rfl (.at 0 rfl rfl)) ?_
  obtain ⟨u_, h31, e⟩ := bind_of e
  refine t_v (.call (vs := [.agg #[.int .i64 0, .int .i64 0], .agg #[.int .i64 5, .int .i64 0], .agg #[.int .i64 5, .int .i64 0]]) rfl rfl (by kernel_rfl) (plane_Dot_v2.ok h31)) ?_
  refine t_qz 1 [4] (σ' := [(4, .int .i64 25)]) (by kernel_rfl) ?_
  refine t_end ?_
  show W _ _ _ _ _ _ _
  refine w_ret ?_
  exact ⟨[.int .i64 25], [], S, ⟨rfl, trivial⟩, VS.none, rfl, rfl, rfl⟩

/-- plane.Cross -/
def c106 : C :=
  (.seq (.reg [⟨(some 3), .box (.tmp 0), none⟩,
     ⟨(some 4), .box (.tmp 1), none⟩,
     ⟨(some 5), .box (.tmp 2), none⟩,
     ⟨(some 6), .mv (.const (.int .i64 0)), none⟩])
  (.seq (.drw [⟨(some 9), .ld (some 2) (.tmp 4), none⟩,
     ⟨(some 10), .ld (some 2) (.tmp 3), none⟩,
     ⟨(some 11), .call 116 [(.tmp 9), (.tmp 10)], none⟩,
     ⟨(some 12), .ld (some 2) (.tmp 5), none⟩,
     ⟨(some 13), .ld (some 2) (.tmp 3), none⟩,
     ⟨(some 14), .call 116 [(.tmp 12), (.tmp 13)], none⟩,
     ⟨(some 7), .new [(.int .i64 0), (.int .i64 0)], none⟩,
     ⟨(some 8), .new [(.int .i64 0), (.int .i64 0)], none⟩,
     ⟨none, .st 2 (.tmp 7) (.tmp 11), none⟩,
     ⟨none, .st 2 (.tmp 8) (.tmp 14), none⟩] [[], [], [0, 1], [], [], [3, 4, 2], [], [], [6, 2, 5, 0, 1, 2, 6, 7], [7, 5, 8, 0, 1, 2, 3, 4, 5, 6, 7, 8]])
  (.seq (.reg [⟨(some 15), .pad 0 (.tmp 7), none⟩,
     ⟨(some 16), .ld none (.tmp 15), none⟩,
     ⟨(some 17), .pad 1 (.tmp 8), none⟩,
     ⟨(some 18), .ld none (.tmp 17), none⟩,
     ⟨(some 19), .bin .mul (.tmp 16) (.tmp 18), none⟩,
     ⟨(some 20), .pad 1 (.tmp 7), none⟩,
     ⟨(some 21), .ld none (.tmp 20), none⟩,
     ⟨(some 22), .pad 0 (.tmp 8), none⟩,
     ⟨(some 23), .ld none (.tmp 22), none⟩,
     ⟨(some 24), .bin .mul (.tmp 21) (.tmp 23), none⟩,
     ⟨(some 25), .bin .sub (.tmp 19) (.tmp 24), none⟩,
     ⟨(some 6), .mv (.tmp 25), none⟩])
  .ret)))
def plane_Cross_v1.f  : Option (Unit) := (plane_Sub_v1.f).bind fun _ => ((plane_Sub_v2.f).bind fun _ => (some ()))
theorem plane_Cross_v1.ok {S : Seal}  (e : plane_Cross_v1.f  = some ()) :
    Cal Try.prog 106 [.agg #[.int .i64 0, .int .i64 0], .agg #[.int .i64 5, .int .i64 0], .agg #[.int .i64 1, .int .i64 1]] [] S fun v H' S' => v = .int .i64 5 ∧ H' = [] ∧ S' = S := by
  unfold plane_Cross_v1.f at e
  refine cal_of (c := c106) (N := 26) Try.func106 rfl rfl (by kernel_rfl) (rs := [.t 6]) (by kernel_rfl) (Nat.le_of_ble_eq_true rfl) ?_
  unfold c106
  refine w_seq ?_
  refine w_reg fun all => ?_
  refine t_a (.box rfl rfl rfl) fun b16 fb16 sb16 => ?_
  refine t_a (.box rfl rfl rfl) fun b17 fb17 sb17 => ?_
  refine t_a (.box rfl rfl rfl) fun b18 fb18 sb18 => ?_
  refine t_qz 1 [3, 4, 5] (σ' := [(3, .pointer (some ⟨b16, 0, none⟩)), (4, .pointer (some ⟨b17, 0, none⟩)), (5, .pointer (some ⟨b18, 0, none⟩))]) (by kernel_rfl) ?_
  refine t_end ?_
  show W _ _ _ _ _ _ _
  refine w_seq ?_
  obtain ⟨u_, h19, e⟩ := bind_of e
  obtain ⟨u_, h20, e⟩ := bind_of e
  refine w_drwE mixed 8 [.v (.agg #[.int .i64 5, .int .i64 0]), .v (.agg #[.int .i64 0, .int .i64 0]), .v (.agg #[.int .i64 5, .int .i64 0]), .v (.agg #[.int .i64 1, .int .i64 1]), .v (.agg #[.int .i64 0, .int .i64 0]), .v (.agg #[.int .i64 1, .int .i64 1]), .a [.int .i64 0, .int .i64 0] ptrTo, .a [.int .i64 0, .int .i64 0] ptrTo] (by kernel_rfl) ?_ ?_
  · refine .cons (.ldn rfl rfl rfl (.at 1 rfl rfl)) ?_
    refine .cons (.ldn rfl rfl rfl (.at 2 rfl rfl)) ?_
    refine .cons (.call (vs := [.agg #[.int .i64 5, .int .i64 0], .agg #[.int .i64 0, .int .i64 0]]) rfl rfl (by kernel_rfl) (plane_Sub_v1.ok h19)) ?_
    refine .cons (.ldn rfl rfl rfl (.at 0 rfl rfl)) ?_
    refine .cons (.ldn rfl rfl rfl (.at 2 rfl rfl)) ?_
    refine .cons (.call (vs := [.agg #[.int .i64 1, .int .i64 1], .agg #[.int .i64 0, .int .i64 0]]) rfl rfl (by kernel_rfl) (plane_Sub_v2.ok h20)) ?_
    refine .cons (.new rfl rfl) ?_
    refine .cons (.new rfl rfl) ?_
    exact .nil
  refine fk_q 6 [11, 14] (σ' := [(11, .agg #[.int .i64 5, .int .i64 0]), (14, .agg #[.int .i64 1, .int .i64 1])]) t_more (by kernel_rfl) ?_
  refine fk_a fun b21 fb21 sb21 => ?_
  refine fk_a fun b22 fb22 sb22 => ?_
  refine fk_nil fun all => ?_
  refine t_sti 1 (cs := [.int .i64 5, .int .i64 0]) rfl rfl rfl rfl rfl rfl rfl rfl rfl ?_
  refine t_sti 0 (cs := [.int .i64 1, .int .i64 1]) rfl rfl rfl rfl rfl rfl rfl rfl rfl ?_
  refine t_keep [7, 8] (σ' := [(7, .pointer (some ⟨b21, 0, none⟩)), (8, .pointer (some ⟨b22, 0, none⟩))]) (by kernel_rfl) ?_
  refine t_end ?_
  show W _ _ _ _ _ _ _
  refine w_seq ?_
  refine w_reg fun all => ?_
  refine t_qz 1 [7, 8, 15] (σ' := [(7, .pointer (some ⟨b21, 0, none⟩)), (8, .pointer (some ⟨b22, 0, none⟩)), (15, .pointer (some ⟨b21, 0, none⟩))]) (by kernel_rfl) ?_
  refine t_v (.ld1 rfl rfl rfl (.at 1 rfl rfl)) ?_
  refine t_qz 1 [7, 8, 16, 17] (σ' := [(7, .pointer (some ⟨b21, 0, none⟩)), (8, .pointer (some ⟨b22, 0, none⟩)), (16, .int .i64 5), (17, .pointer (some ⟨b22, 1, none⟩))]) (by kernel_rfl) ?_
  refine t_v (.ld1 rfl rfl rfl (.at 0 rfl rfl)) ?_
  refine t_qz 2 [8, 19, 20] (σ' := [(8, .pointer (some ⟨b22, 0, none⟩)), (19, .int .i64 5), (20, .pointer (some ⟨b21, 1, none⟩))]) (by kernel_rfl) ?_
  refine t_v (.ld1 rfl rfl rfl (.at 1 rfl rfl)) ?_
  refine t_qz 1 [19, 21, 22] (σ' := [(19, .int .i64 5), (21, .int .i64 0), (22, .pointer (some ⟨b22, 0, none⟩))]) (by kernel_rfl) ?_
  refine t_v (.ld1 rfl rfl rfl (.at 0 rfl rfl)) ?_
  refine t_qz 3 [6] (σ' := [(6, .int .i64 5)]) (by kernel_rfl) ?_
  refine t_end ?_
  show W _ _ _ _ _ _ _
  refine w_ret ?_
  exact ⟨[.int .i64 5], [], S, ⟨rfl, trivial⟩, VS.none, rfl, rfl, rfl⟩

/-- plane.within$1 -/
def c117 : C :=
  (.seq (.reg [⟨(some 2), .mv (.const (.int .u64 0)), none⟩])
  (.seq (.reg [⟨(some 3), .mv (.tmp 0), none⟩,
     ⟨(some 4), .mv (.tmp 0), none⟩,
     ⟨(some 5), .un .neg (.tmp 4), none⟩,
     ⟨(some 6), .mm true [(.tmp 3), (.tmp 5)], none⟩,
     ⟨(some 7), .cnv .u64 (.tmp 6), none⟩,
     ⟨(some 2), .mv (.tmp 7), none⟩])
  .ret))
def plane_within_1_v1.f  : Option (Unit) := some ()
theorem plane_within_1_v1.ok {S : Seal}  (e : plane_within_1_v1.f  = some ()) :
    Cal Try.prog 117 [.int .i64 10] [] S fun v H' S' => v = .int .u64 10 ∧ H' = [] ∧ S' = S := by
  unfold plane_within_1_v1.f at e
  refine cal_of (c := c117) (N := 8) Try.func117 rfl rfl (by kernel_rfl) (rs := [.t 2]) (by kernel_rfl) (Nat.le_of_ble_eq_true rfl) ?_
  unfold c117
  refine w_seq ?_
  refine w_reg fun all => ?_
  refine t_qz 1 [0] (σ' := [(0, .int .i64 10)]) (by kernel_rfl) ?_
  refine t_end ?_
  show W _ _ _ _ _ _ _
  refine w_seq ?_
  refine w_reg fun all => ?_
  refine t_qz 6 [2] (σ' := [(2, .int .u64 10)]) (by kernel_rfl) ?_
  refine t_end ?_
  show W _ _ _ _ _ _ _
  refine w_ret ?_
  exact ⟨[.int .u64 10], [], S, ⟨rfl, trivial⟩, VS.none, rfl, rfl, rfl⟩

/-- math/bits.Mul64 -/
def c81 : C :=
  (.seq (.reg [⟨(some 4), .mv (.const (.int .u64 0)), none⟩,
     ⟨(some 5), .mv (.const (.int .u64 0)), none⟩])
  (.seq (.reg [⟨(some 14), .mv (.tmp 0), none⟩,
     ⟨(some 15), .bin .and (.tmp 14) (.const (.int .u64 4294967295)), none⟩,
     ⟨(some 6), .mv (.tmp 15), none⟩])
  (.seq (.reg [⟨(some 16), .mv (.tmp 0), none⟩,
     ⟨(some 17), .bin .shr (.tmp 16) (.const (.int .u64 32)), none⟩,
     ⟨(some 7), .mv (.tmp 17), none⟩])
  (.seq (.reg [⟨(some 18), .mv (.tmp 1), none⟩,
     ⟨(some 19), .bin .and (.tmp 18) (.const (.int .u64 4294967295)), none⟩,
     ⟨(some 8), .mv (.tmp 19), none⟩])
  (.seq (.reg [⟨(some 20), .mv (.tmp 1), none⟩,
     ⟨(some 21), .bin .shr (.tmp 20) (.const (.int .u64 32)), none⟩,
     ⟨(some 9), .mv (.tmp 21), none⟩])
  (.seq (.reg [⟨(some 22), .mv (.tmp 6), none⟩,
     ⟨(some 23), .mv (.tmp 8), none⟩,
     ⟨(some 24), .bin .mul (.tmp 22) (.tmp 23), none⟩,
     ⟨(some 10), .mv (.tmp 24), none⟩])
  (.seq (.reg [⟨(some 25), .mv (.tmp 7), none⟩,
     ⟨(some 26), .mv (.tmp 8), none⟩,
     ⟨(some 27), .bin .mul (.tmp 25) (.tmp 26), none⟩,
     ⟨(some 28), .mv (.tmp 10), none⟩,
     ⟨(some 29), .bin .shr (.tmp 28) (.const (.int .u64 32)), none⟩,
     ⟨(some 30), .bin .add (.tmp 27) (.tmp 29), none⟩,
     ⟨(some 11), .mv (.tmp 30), none⟩])
  (.seq (.reg [⟨(some 31), .mv (.tmp 11), none⟩,
     ⟨(some 32), .bin .and (.tmp 31) (.const (.int .u64 4294967295)), none⟩,
     ⟨(some 12), .mv (.tmp 32), none⟩])
  (.seq (.reg [⟨(some 33), .mv (.tmp 11), none⟩,
     ⟨(some 34), .bin .shr (.tmp 33) (.const (.int .u64 32)), none⟩,
     ⟨(some 13), .mv (.tmp 34), none⟩])
  (.seq (.reg [⟨(some 35), .mv (.tmp 12), none⟩,
     ⟨(some 36), .mv (.tmp 6), none⟩,
     ⟨(some 37), .mv (.tmp 9), none⟩,
     ⟨(some 38), .bin .mul (.tmp 36) (.tmp 37), none⟩,
     ⟨(some 39), .bin .add (.tmp 35) (.tmp 38), none⟩,
     ⟨(some 12), .mv (.tmp 39), none⟩])
  (.seq (.reg [⟨(some 40), .mv (.tmp 7), none⟩,
     ⟨(some 41), .mv (.tmp 9), none⟩,
     ⟨(some 42), .bin .mul (.tmp 40) (.tmp 41), none⟩,
     ⟨(some 43), .mv (.tmp 13), none⟩,
     ⟨(some 44), .bin .add (.tmp 42) (.tmp 43), none⟩,
     ⟨(some 45), .mv (.tmp 12), none⟩,
     ⟨(some 46), .bin .shr (.tmp 45) (.const (.int .u64 32)), none⟩,
     ⟨(some 47), .bin .add (.tmp 44) (.tmp 46), none⟩,
     ⟨(some 4), .mv (.tmp 47), none⟩])
  (.seq (.reg [⟨(some 48), .mv (.tmp 0), none⟩,
     ⟨(some 49), .mv (.tmp 1), none⟩,
     ⟨(some 50), .bin .mul (.tmp 48) (.tmp 49), none⟩,
     ⟨(some 5), .mv (.tmp 50), none⟩])
  .ret))))))))))))
def bits_Mul64_v1.f  : Option (Unit) := some ()
theorem bits_Mul64_v1.ok {S : Seal}  (e : bits_Mul64_v1.f  = some ()) :
    Cal Try.prog 81 [.int .u64 10, .int .u64 10] [] S fun v H' S' => v = .tuple #[.int .u64 0, .int .u64 100] ∧ H' = [] ∧ S' = S := by
  unfold bits_Mul64_v1.f at e
  refine cal_of (c := c81) (N := 51) Try.func81 rfl rfl (by kernel_rfl) (rs := [.t 4, .t 5]) (by kernel_rfl) (Nat.le_of_ble_eq_true rfl) ?_
  unfold c81
  refine w_seq ?_
  refine w_reg fun all => ?_
  refine t_qz 2 [0, 1] (σ' := [(0, .int .u64 10), (1, .int .u64 10)]) (by kernel_rfl) ?_
  refine t_end ?_
  show W _ _ _ _ _ _ _
  refine w_seq ?_
  refine w_reg fun all => ?_
  refine t_qz 3 [0, 1, 6] (σ' := [(0, .int .u64 10), (1, .int .u64 10), (6, .int .u64 10)]) (by kernel_rfl) ?_
  refine t_end ?_
  show W _ _ _ _ _ _ _
  refine w_seq ?_
  refine w_reg fun all => ?_
  refine t_qz 3 [0, 1, 6, 7] (σ' := [(0, .int .u64 10), (1, .int .u64 10), (6, .int .u64 10), (7, .int .u64 0)]) (by kernel_rfl) ?_
  refine t_end ?_
  show W _ _ _ _ _ _ _
  refine w_seq ?_
  refine w_reg fun all => ?_
  refine t_qz 3 [0, 1, 6, 7, 8] (σ' := [(0, .int .u64 10), (1, .int .u64 10), (6, .int .u64 10), (7, .int .u64 0), (8, .int .u64 10)]) (by kernel_rfl) ?_
  refine t_end ?_
  show W _ _ _ _ _ _ _
  refine w_seq ?_
  refine w_reg fun all => ?_
  refine t_qz 3 [0, 1, 6, 7, 8, 9] (σ' := [(0, .int .u64 10), (1, .int .u64 10), (6, .int .u64 10), (7, .int .u64 0), (8, .int .u64 10), (9, .int .u64 0)]) (by kernel_rfl) ?_
  refine t_end ?_
  show W _ _ _ _ _ _ _
  refine w_seq ?_
  refine w_reg fun all => ?_
  refine t_qz 4 [0, 1, 6, 7, 8, 9, 10] (σ' := [(0, .int .u64 10), (1, .int .u64 10), (6, .int .u64 10), (7, .int .u64 0), (8, .int .u64 10), (9, .int .u64 0), (10, .int .u64 100)]) (by kernel_rfl) ?_
  refine t_end ?_
  show W _ _ _ _ _ _ _
  refine w_seq ?_
  refine w_reg fun all => ?_
  refine t_qz 7 [0, 1, 6, 7, 9, 11] (σ' := [(0, .int .u64 10), (1, .int .u64 10), (6, .int .u64 10), (7, .int .u64 0), (9, .int .u64 0), (11, .int .u64 0)]) (by kernel_rfl) ?_
  refine t_end ?_
  show W _ _ _ _ _ _ _
  refine w_seq ?_
  refine w_reg fun all => ?_
  refine t_qz 3 [0, 1, 6, 7, 9, 11, 12] (σ' := [(0, .int .u64 10), (1, .int .u64 10), (6, .int .u64 10), (7, .int .u64 0), (9, .int .u64 0), (11, .int .u64 0), (12, .int .u64 0)]) (by kernel_rfl) ?_
  refine t_end ?_
  show W _ _ _ _ _ _ _
  refine w_seq ?_
  refine w_reg fun all => ?_
  refine t_qz 3 [0, 1, 6, 7, 9, 12, 13] (σ' := [(0, .int .u64 10), (1, .int .u64 10), (6, .int .u64 10), (7, .int .u64 0), (9, .int .u64 0), (12, .int .u64 0), (13, .int .u64 0)]) (by kernel_rfl) ?_
  refine t_end ?_
  show W _ _ _ _ _ _ _
  refine w_seq ?_
  refine w_reg fun all => ?_
  refine t_qz 6 [0, 1, 7, 9, 12, 13] (σ' := [(0, .int .u64 10), (1, .int .u64 10), (7, .int .u64 0), (9, .int .u64 0), (12, .int .u64 0), (13, .int .u64 0)]) (by kernel_rfl) ?_
  refine t_end ?_
  show W _ _ _ _ _ _ _
  refine w_seq ?_
  refine w_reg fun all => ?_
  refine t_qz 9 [0, 1, 4] (σ' := [(0, .int .u64 10), (1, .int .u64 10), (4, .int .u64 0)]) (by kernel_rfl) ?_
  refine t_end ?_
  show W _ _ _ _ _ _ _
  refine w_seq ?_
  refine w_reg fun all => ?_
  refine t_qz 4 [4, 5] (σ' := [(4, .int .u64 0), (5, .int .u64 100)]) (by kernel_rfl) ?_
  refine t_end ?_
  show W _ _ _ _ _ _ _
  refine w_ret ?_
  exact ⟨[.int .u64 0, .int .u64 100], [], S, ⟨rfl, rfl, trivial⟩, VS.none, rfl, rfl, rfl⟩

def plane_within_1_v2.f  : Option (Unit) := some ()
theorem plane_within_1_v2.ok {S : Seal}  (e : plane_within_1_v2.f  = some ()) :
    Cal Try.prog 117 [.int .i64 4] [] S fun v H' S' => v = .int .u64 4 ∧ H' = [] ∧ S' = S := by
  unfold plane_within_1_v2.f at e
  refine cal_of (c := c117) (N := 8) Try.func117 rfl rfl (by kernel_rfl) (rs := [.t 2]) (by kernel_rfl) (Nat.le_of_ble_eq_true rfl) ?_
  unfold c117
  refine w_seq ?_
  refine w_reg fun all => ?_
  refine t_qz 1 [0] (σ' := [(0, .int .i64 4)]) (by kernel_rfl) ?_
  refine t_end ?_
  show W _ _ _ _ _ _ _
  refine w_seq ?_
  refine w_reg fun all => ?_
  refine t_qz 6 [2] (σ' := [(2, .int .u64 4)]) (by kernel_rfl) ?_
  refine t_end ?_
  show W _ _ _ _ _ _ _
  refine w_ret ?_
  exact ⟨[.int .u64 4], [], S, ⟨rfl, trivial⟩, VS.none, rfl, rfl, rfl⟩

def plane_within_1_v3.f  : Option (Unit) := some ()
theorem plane_within_1_v3.ok {S : Seal}  (e : plane_within_1_v3.f  = some ()) :
    Cal Try.prog 117 [.int .i64 25] [] S fun v H' S' => v = .int .u64 25 ∧ H' = [] ∧ S' = S := by
  unfold plane_within_1_v3.f at e
  refine cal_of (c := c117) (N := 8) Try.func117 rfl rfl (by kernel_rfl) (rs := [.t 2]) (by kernel_rfl) (Nat.le_of_ble_eq_true rfl) ?_
  unfold c117
  refine w_seq ?_
  refine w_reg fun all => ?_
  refine t_qz 1 [0] (σ' := [(0, .int .i64 25)]) (by kernel_rfl) ?_
  refine t_end ?_
  show W _ _ _ _ _ _ _
  refine w_seq ?_
  refine w_reg fun all => ?_
  refine t_qz 6 [2] (σ' := [(2, .int .u64 25)]) (by kernel_rfl) ?_
  refine t_end ?_
  show W _ _ _ _ _ _ _
  refine w_ret ?_
  exact ⟨[.int .u64 25], [], S, ⟨rfl, trivial⟩, VS.none, rfl, rfl, rfl⟩

def bits_Mul64_v2.f  : Option (Unit) := some ()
theorem bits_Mul64_v2.ok {S : Seal}  (e : bits_Mul64_v2.f  = some ()) :
    Cal Try.prog 81 [.int .u64 4, .int .u64 25] [] S fun v H' S' => v = .tuple #[.int .u64 0, .int .u64 100] ∧ H' = [] ∧ S' = S := by
  unfold bits_Mul64_v2.f at e
  refine cal_of (c := c81) (N := 51) Try.func81 rfl rfl (by kernel_rfl) (rs := [.t 4, .t 5]) (by kernel_rfl) (Nat.le_of_ble_eq_true rfl) ?_
  unfold c81
  refine w_seq ?_
  refine w_reg fun all => ?_
  refine t_qz 2 [0, 1] (σ' := [(0, .int .u64 4), (1, .int .u64 25)]) (by kernel_rfl) ?_
  refine t_end ?_
  show W _ _ _ _ _ _ _
  refine w_seq ?_
  refine w_reg fun all => ?_
  refine t_qz 3 [0, 1, 6] (σ' := [(0, .int .u64 4), (1, .int .u64 25), (6, .int .u64 4)]) (by kernel_rfl) ?_
  refine t_end ?_
  show W _ _ _ _ _ _ _
  refine w_seq ?_
  refine w_reg fun all => ?_
  refine t_qz 3 [0, 1, 6, 7] (σ' := [(0, .int .u64 4), (1, .int .u64 25), (6, .int .u64 4), (7, .int .u64 0)]) (by kernel_rfl) ?_
  refine t_end ?_
  show W _ _ _ _ _ _ _
  refine w_seq ?_
  refine w_reg fun all => ?_
  refine t_qz 3 [0, 1, 6, 7, 8] (σ' := [(0, .int .u64 4), (1, .int .u64 25), (6, .int .u64 4), (7, .int .u64 0), (8, .int .u64 25)]) (by kernel_rfl) ?_
  refine t_end ?_
  show W _ _ _ _ _ _ _
  refine w_seq ?_
  refine w_reg fun all => ?_
  refine t_qz 3 [0, 1, 6, 7, 8, 9] (σ' := [(0, .int .u64 4), (1, .int .u64 25), (6, .int .u64 4), (7, .int .u64 0), (8, .int .u64 25), (9, .int .u64 0)]) (by kernel_rfl) ?_
  refine t_end ?_
  show W _ _ _ _ _ _ _
  refine w_seq ?_
  refine w_reg fun all => ?_
  refine t_qz 4 [0, 1, 6, 7, 8, 9, 10] (σ' := [(0, .int .u64 4), (1, .int .u64 25), (6, .int .u64 4), (7, .int .u64 0), (8, .int .u64 25), (9, .int .u64 0), (10, .int .u64 100)]) (by kernel_rfl) ?_
  refine t_end ?_
  show W _ _ _ _ _ _ _
  refine w_seq ?_
  refine w_reg fun all => ?_
  refine t_qz 7 [0, 1, 6, 7, 9, 11] (σ' := [(0, .int .u64 4), (1, .int .u64 25), (6, .int .u64 4), (7, .int .u64 0), (9, .int .u64 0), (11, .int .u64 0)]) (by kernel_rfl) ?_
  refine t_end ?_
  show W _ _ _ _ _ _ _
  refine w_seq ?_
  refine w_reg fun all => ?_
  refine t_qz 3 [0, 1, 6, 7, 9, 11, 12] (σ' := [(0, .int .u64 4), (1, .int .u64 25), (6, .int .u64 4), (7, .int .u64 0), (9, .int .u64 0), (11, .int .u64 0), (12, .int .u64 0)]) (by kernel_rfl) ?_
  refine t_end ?_
  show W _ _ _ _ _ _ _
  refine w_seq ?_
  refine w_reg fun all => ?_
  refine t_qz 3 [0, 1, 6, 7, 9, 12, 13] (σ' := [(0, .int .u64 4), (1, .int .u64 25), (6, .int .u64 4), (7, .int .u64 0), (9, .int .u64 0), (12, .int .u64 0), (13, .int .u64 0)]) (by kernel_rfl) ?_
  refine t_end ?_
  show W _ _ _ _ _ _ _
  refine w_seq ?_
  refine w_reg fun all => ?_
  refine t_qz 6 [0, 1, 7, 9, 12, 13] (σ' := [(0, .int .u64 4), (1, .int .u64 25), (7, .int .u64 0), (9, .int .u64 0), (12, .int .u64 0), (13, .int .u64 0)]) (by kernel_rfl) ?_
  refine t_end ?_
  show W _ _ _ _ _ _ _
  refine w_seq ?_
  refine w_reg fun all => ?_
  refine t_qz 9 [0, 1, 4] (σ' := [(0, .int .u64 4), (1, .int .u64 25), (4, .int .u64 0)]) (by kernel_rfl) ?_
  refine t_end ?_
  show W _ _ _ _ _ _ _
  refine w_seq ?_
  refine w_reg fun all => ?_
  refine t_qz 4 [4, 5] (σ' := [(4, .int .u64 0), (5, .int .u64 100)]) (by kernel_rfl) ?_
  refine t_end ?_
  show W _ _ _ _ _ _ _
  refine w_ret ?_
  exact ⟨[.int .u64 0, .int .u64 100], [], S, ⟨rfl, rfl, trivial⟩, VS.none, rfl, rfl, rfl⟩

/-- plane.within -/
def c105 : C :=
  (.seq (.reg [⟨(some 8), .mv (.const (.bool false)), none⟩])
  (.seq (.reg [⟨(some 9), .mv (.func 117), none⟩])
  (.seq (.reg [⟨(some 15), .mv (.tmp 9), none⟩,
     ⟨(some 16), .mv (.tmp 0), none⟩,
     ⟨(some 17), .clo (.tmp 15) [(.tmp 16)], none⟩,
     ⟨(some 18), .mv (.tmp 9), none⟩,
     ⟨(some 19), .mv (.tmp 1), none⟩,
     ⟨(some 20), .clo (.tmp 18) [(.tmp 19)], none⟩,
     ⟨(some 21), .call 81 [(.tmp 17), (.tmp 20)], none⟩,
     ⟨(some 14), .mv (.tmp 21), none⟩,
     ⟨(some 22), .xt 0 (.tmp 14), none⟩,
     ⟨(some 23), .xt 1 (.tmp 14), none⟩,
     ⟨(some 10), .mv (.tmp 22), none⟩,
     ⟨(some 11), .mv (.tmp 23), none⟩])
  (.seq (.reg [⟨(some 25), .mv (.tmp 9), none⟩,
     ⟨(some 26), .mv (.tmp 2), none⟩,
     ⟨(some 27), .clo (.tmp 25) [(.tmp 26)], none⟩,
     ⟨(some 28), .mv (.tmp 9), none⟩,
     ⟨(some 29), .mv (.tmp 3), none⟩,
     ⟨(some 30), .clo (.tmp 28) [(.tmp 29)], none⟩,
     ⟨(some 31), .call 81 [(.tmp 27), (.tmp 30)], none⟩,
     ⟨(some 24), .mv (.tmp 31), none⟩,
     ⟨(some 32), .xt 0 (.tmp 24), none⟩,
     ⟨(some 33), .xt 1 (.tmp 24), none⟩,
     ⟨(some 12), .mv (.tmp 32), none⟩,
     ⟨(some 13), .mv (.tmp 33), none⟩])
  (.seq (.reg [⟨(some 34), .mv (.tmp 10), none⟩,
     ⟨(some 35), .mv (.tmp 12), none⟩,
     ⟨(some 36), .bin .lss (.tmp 34) (.tmp 35), none⟩,
     ⟨(some 37), .mv (.tmp 36), none⟩,
     ⟨(some 38), .mv (.tmp 10), (some (37, false))⟩,
     ⟨(some 39), .mv (.tmp 12), (some (37, false))⟩,
     ⟨(some 40), .bin .eql (.tmp 38) (.tmp 39), (some (37, false))⟩,
     ⟨(some 41), .mv (.tmp 40), (some (37, false))⟩,
     ⟨(some 42), .mv (.tmp 11), (some (41, true))⟩,
     ⟨(some 43), .mv (.tmp 13), (some (41, true))⟩,
     ⟨(some 44), .bin .leq (.tmp 42) (.tmp 43), (some (41, true))⟩,
     ⟨(some 45), .pk (.tmp 41) (.tmp 44) (.const (.bool false)), (some (37, false))⟩,
     ⟨(some 46), .pk (.tmp 37) (.const (.bool true)) (.tmp 45), none⟩,
     ⟨(some 8), .mv (.tmp 46), none⟩])
  .ret)))))
def plane_within_v1.f  : Option (Unit) := (plane_within_1_v1.f).bind fun _ => ((plane_within_1_v1.f).bind fun _ => ((bits_Mul64_v1.f).bind fun _ => ((plane_within_1_v2.f).bind fun _ => ((plane_within_1_v3.f).bind fun _ => ((bits_Mul64_v2.f).bind fun _ => (some ()))))))
theorem plane_within_v1.ok {S : Seal}  (e : plane_within_v1.f  = some ()) :
    Cal Try.prog 105 [.int .i64 10, .int .i64 10, .int .i64 4, .int .i64 25] [] S fun v H' S' => v = .bool true ∧ H' = [] ∧ S' = S := by
  unfold plane_within_v1.f at e
  refine cal_of (c := c105) (N := 47) Try.func105 rfl rfl (by kernel_rfl) (rs := [.t 8]) (by kernel_rfl) (Nat.le_of_ble_eq_true rfl) ?_
  unfold c105
  refine w_seq ?_
  refine w_reg fun all => ?_
  refine t_qz 1 [0, 1, 2, 3] (σ' := [(0, .int .i64 10), (1, .int .i64 10), (2, .int .i64 4), (3, .int .i64 25)]) (by kernel_rfl) ?_
  refine t_end ?_
  show W _ _ _ _ _ _ _
  refine w_seq ?_
  refine w_reg fun all => ?_
  refine t_qz 1 [0, 1, 2, 3, 9] (σ' := [(0, .int .i64 10), (1, .int .i64 10), (2, .int .i64 4), (3, .int .i64 25), (9, .func (.func 117) #[] #[])]) (by kernel_rfl) ?_
  refine t_end ?_
  show W _ _ _ _ _ _ _
  refine w_seq ?_
  refine w_reg fun all => ?_
  obtain ⟨u_, h24, e⟩ := bind_of e
  refine t_qz 2 [1, 2, 3, 9, 15, 16] (σ' := [(1, .int .i64 10), (2, .int .i64 4), (3, .int .i64 25), (9, .func (.func 117) #[] #[]), (15, .func (.func 117) #[] #[]), (16, .int .i64 10)]) (by kernel_rfl) ?_
  refine t_v (.clor (vs := [.int .i64 10]) (caps := #[]) (A := ([] : List Own)) (F0 := ([] : List Own)) rfl rfl rfl (by kernel_rfl) (by kernel_rfl) (sel_perm (is := []) (by kernel_rfl)) (plane_within_1_v1.ok h24)) ?_
  obtain ⟨u_, h25, e⟩ := bind_of e
  refine t_qz 2 [2, 3, 9, 17, 18, 19] (σ' := [(2, .int .i64 4), (3, .int .i64 25), (9, .func (.func 117) #[] #[]), (17, .int .u64 10), (18, .func (.func 117) #[] #[]), (19, .int .i64 10)]) (by kernel_rfl) ?_
  refine t_v (.clor (vs := [.int .i64 10]) (caps := #[]) (A := ([] : List Own)) (F0 := ([] : List Own)) rfl rfl rfl (by kernel_rfl) (by kernel_rfl) (sel_perm (is := []) (by kernel_rfl)) (plane_within_1_v1.ok h25)) ?_
  obtain ⟨u_, h26, e⟩ := bind_of e
  refine t_v (.call (vs := [.int .u64 10, .int .u64 10]) rfl rfl (by kernel_rfl) (bits_Mul64_v1.ok h26)) ?_
  refine t_qz 5 [2, 3, 9, 10, 11] (σ' := [(2, .int .i64 4), (3, .int .i64 25), (9, .func (.func 117) #[] #[]), (10, .int .u64 0), (11, .int .u64 100)]) (by kernel_rfl) ?_
  refine t_end ?_
  show W _ _ _ _ _ _ _
  refine w_seq ?_
  refine w_reg fun all => ?_
  obtain ⟨u_, h27, e⟩ := bind_of e
  refine t_qz 2 [3, 9, 10, 11, 25, 26] (σ' := [(3, .int .i64 25), (9, .func (.func 117) #[] #[]), (10, .int .u64 0), (11, .int .u64 100), (25, .func (.func 117) #[] #[]), (26, .int .i64 4)]) (by kernel_rfl) ?_
  refine t_v (.clor (vs := [.int .i64 4]) (caps := #[]) (A := ([] : List Own)) (F0 := ([] : List Own)) rfl rfl rfl (by kernel_rfl) (by kernel_rfl) (sel_perm (is := []) (by kernel_rfl)) (plane_within_1_v2.ok h27)) ?_
  obtain ⟨u_, h28, e⟩ := bind_of e
  refine t_qz 2 [10, 11, 27, 28, 29] (σ' := [(10, .int .u64 0), (11, .int .u64 100), (27, .int .u64 4), (28, .func (.func 117) #[] #[]), (29, .int .i64 25)]) (by kernel_rfl) ?_
  refine t_v (.clor (vs := [.int .i64 25]) (caps := #[]) (A := ([] : List Own)) (F0 := ([] : List Own)) rfl rfl rfl (by kernel_rfl) (by kernel_rfl) (sel_perm (is := []) (by kernel_rfl)) (plane_within_1_v3.ok h28)) ?_
  obtain ⟨u_, h29, e⟩ := bind_of e
  refine t_v (.call (vs := [.int .u64 4, .int .u64 25]) rfl rfl (by kernel_rfl) (bits_Mul64_v2.ok h29)) ?_
  refine t_qz 5 [10, 11, 12, 13] (σ' := [(10, .int .u64 0), (11, .int .u64 100), (12, .int .u64 0), (13, .int .u64 100)]) (by kernel_rfl) ?_
  refine t_end ?_
  show W _ _ _ _ _ _ _
  refine w_seq ?_
  refine w_reg fun all => ?_
  refine t_qz 14 [8] (σ' := [(8, .bool true)]) (by kernel_rfl) ?_
  refine t_end ?_
  show W _ _ _ _ _ _ _
  refine w_ret ?_
  exact ⟨[.bool true], [], S, ⟨rfl, trivial⟩, VS.none, rfl, rfl, rfl⟩

/-- plane.Near -/
def c65 : C :=
  (.seq (.reg [⟨(some 4), .box (.tmp 0), none⟩,
     ⟨(some 5), .box (.tmp 1), none⟩,
     ⟨(some 6), .box (.tmp 2), none⟩,
     ⟨(some 8), .mv (.const (.bool false)), none⟩])
  (.seq (.drw [⟨(some 12), .ld (some 2) (.tmp 4), none⟩,
     ⟨(some 13), .ld (some 2) (.tmp 5), none⟩,
     ⟨(some 14), .ld (some 2) (.tmp 6), none⟩,
     ⟨(some 15), .call 104 [(.tmp 12), (.tmp 13), (.tmp 14)], none⟩,
     ⟨(some 16), .ld (some 2) (.tmp 4), none⟩,
     ⟨(some 17), .ld (some 2) (.tmp 5), none⟩,
     ⟨(some 18), .call 90 [(.tmp 16), (.tmp 17)], none⟩,
     ⟨(some 9), .mv (.tmp 15), none⟩,
     ⟨(some 10), .mv (.tmp 18), none⟩] [[], [], [], [0, 1, 2], [], [], [4, 5, 3], [3, 6, 0, 1, 2, 3], [6, 7, 0, 1, 2, 3, 4, 5, 6, 7]])
  (.seq (.block 0 (.seq (.reg [⟨(some 20), .mv (.tmp 9), none⟩,
       ⟨(some 21), .bin .leq (.tmp 20) (.const (.int .i64 0)), none⟩,
       ⟨(some 19), .mv (.tmp 21), none⟩])
    (.cond (.tmp 19)
     (.seq (.reg [⟨(some 22), .ld (some 2) (.tmp 4), none⟩,
         ⟨(some 23), .ld (some 2) (.tmp 6), none⟩,
         ⟨(some 24), .call 90 [(.tmp 22), (.tmp 23)], none⟩,
         ⟨(some 25), .mv (.tmp 3), none⟩,
         ⟨(some 26), .mv (.tmp 3), none⟩,
         ⟨(some 27), .call 105 [(.const (.int .i64 4)), (.tmp 24), (.tmp 25), (.tmp 26)], none⟩,
         ⟨(some 8), .mv (.tmp 27), none⟩])
      .ret)
     (.seq (.reg [⟨(some 29), .mv (.tmp 9), none⟩,
         ⟨(some 30), .mv (.tmp 10), none⟩,
         ⟨(some 31), .bin .geq (.tmp 29) (.tmp 30), none⟩,
         ⟨(some 28), .mv (.tmp 31), none⟩])
      (.cond (.tmp 28)
       (.seq (.reg [⟨(some 32), .ld (some 2) (.tmp 5), none⟩,
           ⟨(some 33), .ld (some 2) (.tmp 6), none⟩,
           ⟨(some 34), .call 90 [(.tmp 32), (.tmp 33)], none⟩,
           ⟨(some 35), .mv (.tmp 3), none⟩,
           ⟨(some 36), .mv (.tmp 3), none⟩,
           ⟨(some 37), .call 105 [(.const (.int .i64 4)), (.tmp 34), (.tmp 35), (.tmp 36)], none⟩,
           ⟨(some 8), .mv (.tmp 37), none⟩])
        .ret)
       .skip)))))
  (.seq (.reg [⟨(some 38), .ld (some 2) (.tmp 4), none⟩,
     ⟨(some 39), .ld (some 2) (.tmp 5), none⟩,
     ⟨(some 40), .ld (some 2) (.tmp 6), none⟩,
     ⟨(some 41), .call 106 [(.tmp 38), (.tmp 39), (.tmp 40)], none⟩,
     ⟨(some 42), .bin .mul (.const (.int .i64 2)) (.tmp 41), none⟩,
     ⟨(some 11), .mv (.tmp 42), none⟩])
  (.seq (.reg [⟨(some 43), .mv (.tmp 11), none⟩,
     ⟨(some 44), .mv (.tmp 11), none⟩,
     ⟨(some 45), .mv (.tmp 3), none⟩,
     ⟨(some 46), .mv (.tmp 3), none⟩,
     ⟨(some 47), .bin .mul (.tmp 45) (.tmp 46), none⟩,
     ⟨(some 48), .mv (.tmp 10), none⟩,
     ⟨(some 49), .call 105 [(.tmp 43), (.tmp 44), (.tmp 47), (.tmp 48)], none⟩,
     ⟨(some 8), .mv (.tmp 49), none⟩])
  .ret)))))
def plane_Near_v1.f  : Option (Unit) := (plane_Dot_v1.f).bind fun _ => ((plane_Len2_v1.f).bind fun _ => ((plane_Cross_v1.f).bind fun _ => ((plane_within_v1.f).bind fun _ => (some ()))))
theorem plane_Near_v1.ok {S : Seal}  (e : plane_Near_v1.f  = some ()) :
    Cal Try.prog 65 [.agg #[.int .i64 0, .int .i64 0], .agg #[.int .i64 5, .int .i64 0], .agg #[.int .i64 1, .int .i64 1], .int .i64 2] [] S fun v H' S' => v = .bool true ∧ H' = [] ∧ S' = S := by
  unfold plane_Near_v1.f at e
  refine cal_of (c := c65) (N := 50) Try.func65 rfl rfl (by kernel_rfl) (rs := [.t 8]) (by kernel_rfl) (Nat.le_of_ble_eq_true rfl) ?_
  unfold c65
  refine w_seq ?_
  refine w_reg fun all => ?_
  refine t_a (.box rfl rfl rfl) fun b11 fb11 sb11 => ?_
  refine t_a (.box rfl rfl rfl) fun b12 fb12 sb12 => ?_
  refine t_a (.box rfl rfl rfl) fun b13 fb13 sb13 => ?_
  refine t_qz 1 [3, 4, 5, 6] (σ' := [(3, .int .i64 2), (4, .pointer (some ⟨b11, 0, none⟩)), (5, .pointer (some ⟨b12, 0, none⟩)), (6, .pointer (some ⟨b13, 0, none⟩))]) (by kernel_rfl) ?_
  refine t_end ?_
  show W _ _ _ _ _ _ _
  refine w_seq ?_
  obtain ⟨u_, h14, e⟩ := bind_of e
  obtain ⟨u_, h15, e⟩ := bind_of e
  refine w_drwE mixed 9 [.v (.agg #[.int .i64 0, .int .i64 0]), .v (.agg #[.int .i64 5, .int .i64 0]), .v (.agg #[.int .i64 1, .int .i64 1]), .v (.int .i64 5), .v (.agg #[.int .i64 0, .int .i64 0]), .v (.agg #[.int .i64 5, .int .i64 0]), .v (.int .i64 25), .v (.int .i64 5), .v (.int .i64 25)] (by kernel_rfl) ?_ ?_
  · refine .cons (.ldn rfl rfl rfl (.at 2 rfl rfl)) ?_
    refine .cons (.ldn rfl rfl rfl (.at 1 rfl rfl)) ?_
    refine .cons (.ldn rfl rfl rfl (.at 0 rfl rfl)) ?_
    refine .cons (.call (vs := [.agg #[.int .i64 0, .int .i64 0], .agg #[.int .i64 5, .int .i64 0], .agg #[.int .i64 1, .int .i64 1]]) rfl rfl (by kernel_rfl) (plane_Dot_v1.ok h14)) ?_
    refine .cons (.ldn rfl rfl rfl (.at 2 rfl rfl)) ?_
    refine .cons (.ldn rfl rfl rfl (.at 1 rfl rfl)) ?_
    refine .cons (.call (vs := [.agg #[.int .i64 0, .int .i64 0], .agg #[.int .i64 5, .int .i64 0]]) rfl rfl (by kernel_rfl) (plane_Len2_v1.ok h15)) ?_
    refine DI.sq 2 (by kernel_rfl) rfl ?_
    exact .nil
  refine fk_q 9 [3, 4, 5, 6, 9, 10] (σ' := [(3, .int .i64 2), (4, .pointer (some ⟨b11, 0, none⟩)), (5, .pointer (some ⟨b12, 0, none⟩)), (6, .pointer (some ⟨b13, 0, none⟩)), (9, .int .i64 5), (10, .int .i64 25)]) t_more (by kernel_rfl) ?_
  refine fk_nil fun all => ?_
  refine t_keep [3, 4, 5, 6, 9, 10] (σ' := [(3, .int .i64 2), (4, .pointer (some ⟨b11, 0, none⟩)), (5, .pointer (some ⟨b12, 0, none⟩)), (6, .pointer (some ⟨b13, 0, none⟩)), (9, .int .i64 5), (10, .int .i64 25)]) (by kernel_rfl) ?_
  refine t_end ?_
  show W _ _ _ _ _ _ _
  refine w_seq ?_
  refine w_block ?_
  refine w_seq ?_
  refine w_reg fun all => ?_
  refine t_qz 3 [3, 4, 5, 6, 9, 10, 19] (σ' := [(3, .int .i64 2), (4, .pointer (some ⟨b11, 0, none⟩)), (5, .pointer (some ⟨b12, 0, none⟩)), (6, .pointer (some ⟨b13, 0, none⟩)), (9, .int .i64 5), (10, .int .i64 25), (19, .bool false)]) (by kernel_rfl) ?_
  refine t_end ?_
  show W _ _ _ _ _ _ _
  refine w_cond rfl (fun c_ => by cases c_) (fun _ => ?_)
  show W _ _ _ _ _ _ _
  refine w_seq ?_
  refine w_reg fun all => ?_
  refine t_qz 4 [3, 4, 5, 6, 10, 28] (σ' := [(3, .int .i64 2), (4, .pointer (some ⟨b11, 0, none⟩)), (5, .pointer (some ⟨b12, 0, none⟩)), (6, .pointer (some ⟨b13, 0, none⟩)), (10, .int .i64 25), (28, .bool false)]) (by kernel_rfl) ?_
  refine t_end ?_
  show W _ _ _ _ _ _ _
  refine w_cond rfl (fun c_ => by cases c_) (fun _ => ?_)
  show W _ _ _ _ _ _ _
  refine w_skip ?_
  show W _ _ _ _ _ _ _
  refine w_seq ?_
  refine w_reg fun all => ?_
  refine t_v (.ldn rfl rfl rfl (.at 2 rfl rfl)) ?_
  refine t_v (.ldn rfl rfl rfl (.at 1 rfl rfl)) ?_
  refine t_v (.ldn rfl rfl rfl (.at 0 rfl rfl)) ?_
  obtain ⟨u_, h23, e⟩ := bind_of e
  refine t_v (.call (vs := [.agg #[.int .i64 0, .int .i64 0], .agg #[.int .i64 5, .int .i64 0], .agg #[.int .i64 1, .int .i64 1]]) rfl rfl (by kernel_rfl) (plane_Cross_v1.ok h23)) ?_
  refine t_qz 2 [3, 10, 11] (σ' := [(3, .int .i64 2), (10, .int .i64 25), (11, .int .i64 10)]) (by kernel_rfl) ?_
  refine t_end ?_
  show W _ _ _ _ _ _ _
  refine w_seq ?_
  refine w_reg fun all => ?_
  obtain ⟨u_, h30, e⟩ := bind_of e
  refine t_qz 6 [43, 44, 47, 48] (σ' := [(43, .int .i64 10), (44, .int .i64 10), (47, .int .i64 4), (48, .int .i64 25)]) (by kernel_rfl) ?_
  refine t_v (.call (vs := [.int .i64 10, .int .i64 10, .int .i64 4, .int .i64 25]) rfl rfl (by kernel_rfl) (plane_within_v1.ok h30)) ?_
  refine t_qz 1 [8] (σ' := [(8, .bool true)]) (by kernel_rfl) ?_
  refine t_end ?_
  show W _ _ _ _ _ _ _
  refine w_ret ?_
  exact ⟨[.bool true], [], S, ⟨rfl, trivial⟩, VS.none, rfl, rfl, rfl⟩

/-- stroke.Near$1 -/
def c64 : C :=
  (.seq (.reg [⟨(some 3), .box (.tmp 0), none⟩,
     ⟨(some 4), .mv (.const (.bool false)), none⟩])
  (.seq (.reg [⟨(some 5), .pad 0 (.tmp 3), none⟩,
     ⟨(some 6), .ld (some 2) (.tmp 5), none⟩,
     ⟨(some 7), .pad 2 (.tmp 3), none⟩,
     ⟨(some 8), .ld (some 2) (.tmp 7), none⟩,
     ⟨(some 9), .ld (some 2) (.tmp 1), none⟩,
     ⟨(some 10), .ld none (.tmp 2), none⟩,
     ⟨(some 11), .call 65 [(.tmp 6), (.tmp 8), (.tmp 9), (.tmp 10)], none⟩,
     ⟨(some 4), .mv (.tmp 11), none⟩])
  .ret))
def stroke_Near_1_v1.f  : Option (Unit) := (plane_Near_v1.f).bind fun _ => (some ())
theorem stroke_Near_1_v1.ok {S : Seal} {B0 : Nat} {B1 : Nat}  (e : stroke_Near_1_v1.f  = some ()) :
    Cal Try.prog 64 [.agg #[.int .i64 0, .int .i64 0, .int .i64 5, .int .i64 0], .pointer (some ⟨B0, 0, none⟩), .pointer (some ⟨B1, 0, none⟩)] ([⟨B0, [.int .i64 1, .int .i64 1], 2⟩, ⟨B1, [.int .i64 2], 1⟩] : List Own) S fun v H' S' => v = .bool true ∧ H' = ([⟨B0, [.int .i64 1, .int .i64 1], 2⟩, ⟨B1, [.int .i64 2], 1⟩] : List Own) ∧ S' = S := by
  unfold stroke_Near_1_v1.f at e
  refine cal_of (c := c64) (N := 12) Try.func64 rfl rfl (by kernel_rfl) (rs := [.t 4]) (by kernel_rfl) (Nat.le_of_ble_eq_true rfl) ?_
  unfold c64
  refine w_seq ?_
  refine w_reg fun all => ?_
  refine t_a (.box rfl rfl rfl) fun b10 fb10 sb10 => ?_
  refine t_qz 1 [1, 2, 3] (σ' := [(1, .pointer (some ⟨B0, 0, none⟩)), (2, .pointer (some ⟨B1, 0, none⟩)), (3, .pointer (some ⟨b10, 0, none⟩))]) (by kernel_rfl) ?_
  refine t_end ?_
  show W _ _ _ _ _ _ _
  refine w_seq ?_
  refine w_reg fun all => ?_
  refine t_qz 1 [1, 2, 3, 5] (σ' := [(1, .pointer (some ⟨B0, 0, none⟩)), (2, .pointer (some ⟨B1, 0, none⟩)), (3, .pointer (some ⟨b10, 0, none⟩)), (5, .pointer (some ⟨b10, 0, none⟩))]) (by kernel_rfl) ?_
  refine t_v (.ldn rfl rfl rfl (.at 0 rfl rfl)) ?_
  refine t_qz 1 [1, 2, 6, 7] (σ' := [(1, .pointer (some ⟨B0, 0, none⟩)), (2, .pointer (some ⟨B1, 0, none⟩)), (6, .agg #[.int .i64 0, .int .i64 0]), (7, .pointer (some ⟨b10, 2, none⟩))]) (by kernel_rfl) ?_
  refine t_v (.ldn rfl rfl rfl (.at 0 rfl rfl)) ?_
  refine t_v (.ldn rfl rfl rfl (.at 1 rfl rfl)) ?_
  refine t_v (.ld1 rfl rfl rfl (.at 2 rfl rfl)) ?_
  obtain ⟨u_, h31, e⟩ := bind_of e
  refine t_v (.call (vs := [.agg #[.int .i64 0, .int .i64 0], .agg #[.int .i64 5, .int .i64 0], .agg #[.int .i64 1, .int .i64 1], .int .i64 2]) rfl rfl (by kernel_rfl) (plane_Near_v1.ok h31)) ?_
  refine t_qz 1 [4] (σ' := [(4, .bool true)]) (by kernel_rfl) ?_
  refine t_end ?_
  show W _ _ _ _ _ _ _
  refine w_ret ?_
  exact ⟨[.bool true], ([⟨B0, [.int .i64 1, .int .i64 1], 2⟩, ⟨B1, [.int .i64 2], 1⟩] : List Own), S, ⟨rfl, trivial⟩, VS.sel [1, 1] (by kernel_rfl), rfl, rfl, rfl⟩

def api_Edge_v4.f  : Option (Unit) := (stroke_Near_1_v1.f).bind fun _ => (some ())
theorem api_Edge_v4.ok {S : Seal} {B0 : Nat} {B1 : Nat} {B2 : Nat}  (e : api_Edge_v4.f  = some ()) :
    Cal Try.prog 103 [.slice (some ⟨B0, 0, none⟩) 1 1, .func (.func 64) #[] #[.pointer (some ⟨B1, 0, none⟩), .pointer (some ⟨B2, 0, none⟩)]] ([⟨B0, [.int .i64 0, .int .i64 0, .int .i64 5, .int .i64 0], 4⟩, ⟨B1, [.int .i64 1, .int .i64 1], 2⟩, ⟨B2, [.int .i64 2], 1⟩] : List Own) S fun v H' S' => v = .int .i64 0 ∧ H' = ([⟨B0, [.int .i64 0, .int .i64 0, .int .i64 5, .int .i64 0], 4⟩, ⟨B1, [.int .i64 1, .int .i64 1], 2⟩, ⟨B2, [.int .i64 2], 1⟩] : List Own) ∧ S' = S := by
  unfold api_Edge_v4.f at e
  refine cal_of (c := c103) (N := 19) Try.func103 rfl rfl (by kernel_rfl) (rs := [.t 4]) (by kernel_rfl) (Nat.le_of_ble_eq_true rfl) ?_
  unfold c103
  refine w_seq ?_
  refine w_reg fun all => ?_
  refine t_qz 1 [0, 1] (σ' := [(0, .slice (some ⟨B0, 0, none⟩) 1 1), (1, .func (.func 64) #[] #[.pointer (some ⟨B1, 0, none⟩), .pointer (some ⟨B2, 0, none⟩)])]) (by kernel_rfl) ?_
  refine t_end ?_
  show W _ _ _ _ _ _ _
  refine w_seq ?_
  refine w_seq ?_
  refine w_reg fun all => ?_
  refine t_qz 3 [0, 1, 7, 8] (σ' := [(0, .slice (some ⟨B0, 0, none⟩) 1 1), (1, .func (.func 64) #[] #[.pointer (some ⟨B1, 0, none⟩), .pointer (some ⟨B2, 0, none⟩)]), (7, .int .i64 1), (8, .int .i64 0)]) (by kernel_rfl) ?_
  refine t_end ?_
  show W _ _ _ _ _ _ _
  refine w_block ?_
  refine w_lun 10 ?_
  refine wl_step ?_
  refine w_seq ?_
  refine w_reg fun all => ?_
  refine t_qz 1 [0, 1, 7, 8, 9] (σ' := [(0, .slice (some ⟨B0, 0, none⟩) 1 1), (1, .func (.func 64) #[] #[.pointer (some ⟨B1, 0, none⟩), .pointer (some ⟨B2, 0, none⟩)]), (7, .int .i64 1), (8, .int .i64 0), (9, .bool true)]) (by kernel_rfl) ?_
  refine t_end ?_
  show W _ _ _ _ _ _ _
  refine w_seq ?_
  refine w_cond rfl (fun _ => ?_) (fun c_ => by cases c_)
  show W _ _ _ _ _ _ _
  refine w_skip ?_
  show W _ _ _ _ _ _ _
  refine w_seq ?_
  refine w_block ?_
  refine w_seq ?_
  refine w_reg fun all => ?_
  refine t_qz 2 [0, 1, 5, 7, 8] (σ' := [(0, .slice (some ⟨B0, 0, none⟩) 1 1), (1, .func (.func 64) #[] #[.pointer (some ⟨B1, 0, none⟩), .pointer (some ⟨B2, 0, none⟩)]), (5, .int .i64 0), (7, .int .i64 1), (8, .int .i64 0)]) (by kernel_rfl) ?_
  refine t_end ?_
  show W _ _ _ _ _ _ _
  refine w_seq ?_
  refine w_reg fun all => ?_
  refine t_qz 4 [0, 1, 5, 7, 8, 11, 14] (σ' := [(0, .slice (some ⟨B0, 0, none⟩) 1 1), (1, .func (.func 64) #[] #[.pointer (some ⟨B1, 0, none⟩), .pointer (some ⟨B2, 0, none⟩)]), (5, .int .i64 0), (7, .int .i64 1), (8, .int .i64 0), (11, .func (.func 64) #[] #[.pointer (some ⟨B1, 0, none⟩), .pointer (some ⟨B2, 0, none⟩)]), (14, .pointer (some ⟨B0, 0, none⟩))]) (by kernel_rfl) ?_
  refine t_v (.ldn rfl rfl rfl (.at 0 rfl rfl)) ?_
  obtain ⟨u_, h32, e⟩ := bind_of e
  refine t_v (.clor (vs := [.agg #[.int .i64 0, .int .i64 0, .int .i64 5, .int .i64 0]]) (caps := #[.pointer (some ⟨B1, 0, none⟩), .pointer (some ⟨B2, 0, none⟩)]) (A := ([⟨B1, [.int .i64 1, .int .i64 1], 2⟩, ⟨B2, [.int .i64 2], 1⟩] : List Own)) (F0 := ([⟨B0, [.int .i64 0, .int .i64 0, .int .i64 5, .int .i64 0], 4⟩] : List Own)) rfl rfl rfl (by kernel_rfl) (by kernel_rfl) (sel_perm (is := [1, 1]) (by kernel_rfl)) (stroke_Near_1_v1.ok h32)) ?_
  refine t_keep [0, 1, 5, 7, 8, 16] (σ' := [(0, .slice (some ⟨B0, 0, none⟩) 1 1), (1, .func (.func 64) #[] #[.pointer (some ⟨B1, 0, none⟩), .pointer (some ⟨B2, 0, none⟩)]), (5, .int .i64 0), (7, .int .i64 1), (8, .int .i64 0), (16, .bool true)]) (by kernel_rfl) ?_
  refine t_end ?_
  show W _ _ _ _ _ _ _
  refine w_cond rfl (fun _ => ?_) (fun c_ => by cases c_)
  show W _ _ _ _ _ _ _
  refine w_seq ?_
  refine w_reg fun all => ?_
  refine t_qz 2 [4] (σ' := [(4, .int .i64 0)]) (by kernel_rfl) ?_
  refine t_end ?_
  show W _ _ _ _ _ _ _
  refine w_ret ?_
  exact ⟨[.int .i64 0], ([⟨B0, [.int .i64 0, .int .i64 0, .int .i64 5, .int .i64 0], 4⟩, ⟨B1, [.int .i64 1, .int .i64 1], 2⟩, ⟨B2, [.int .i64 2], 1⟩] : List Own), S, ⟨rfl, trivial⟩, VS.sel [0, 0, 0] (by kernel_rfl), rfl, rfl, rfl⟩

def api_Edge_v3.f  : Option (Unit) := (api_Edge_v4.f).bind fun _ => (some ())
theorem api_Edge_v3.ok {S : Seal} {B0 : Nat} {B1 : Nat} {B2 : Nat}  (e : api_Edge_v3.f  = some ()) :
    Cal Try.prog 63 [.slice (some ⟨B0, 0, none⟩) 1 1, .func (.func 64) #[] #[.pointer (some ⟨B1, 0, none⟩), .pointer (some ⟨B2, 0, none⟩)]] ([⟨B0, [.int .i64 0, .int .i64 0, .int .i64 5, .int .i64 0], 4⟩, ⟨B1, [.int .i64 1, .int .i64 1], 2⟩, ⟨B2, [.int .i64 2], 1⟩] : List Own) S fun v H' S' => v = .bool true ∧ H' = ([⟨B0, [.int .i64 0, .int .i64 0, .int .i64 5, .int .i64 0], 4⟩, ⟨B1, [.int .i64 1, .int .i64 1], 2⟩, ⟨B2, [.int .i64 2], 1⟩] : List Own) ∧ S' = S := by
  unfold api_Edge_v3.f at e
  refine cal_of (c := c63) (N := 9) Try.func63 rfl rfl (by kernel_rfl) (rs := [.t 4]) (by kernel_rfl) (Nat.le_of_ble_eq_true rfl) ?_
  unfold c63
  refine w_seq ?_
  refine w_reg fun all => ?_
  refine t_qz 1 [0, 1] (σ' := [(0, .slice (some ⟨B0, 0, none⟩) 1 1), (1, .func (.func 64) #[] #[.pointer (some ⟨B1, 0, none⟩), .pointer (some ⟨B2, 0, none⟩)])]) (by kernel_rfl) ?_
  refine t_end ?_
  show W _ _ _ _ _ _ _
  refine w_seq ?_
  refine w_reg fun all => ?_
  obtain ⟨u_, h33, e⟩ := bind_of e
  refine t_qz 2 [5, 6] (σ' := [(5, .slice (some ⟨B0, 0, none⟩) 1 1), (6, .func (.func 64) #[] #[.pointer (some ⟨B1, 0, none⟩), .pointer (some ⟨B2, 0, none⟩)])]) (by kernel_rfl) ?_
  refine t_v (.callr (vs := [.slice (some ⟨B0, 0, none⟩) 1 1, .func (.func 64) #[] #[.pointer (some ⟨B1, 0, none⟩), .pointer (some ⟨B2, 0, none⟩)]]) (A := ([⟨B0, [.int .i64 0, .int .i64 0, .int .i64 5, .int .i64 0], 4⟩, ⟨B1, [.int .i64 1, .int .i64 1], 2⟩, ⟨B2, [.int .i64 2], 1⟩] : List Own)) (F0 := ([] : List Own)) rfl rfl (by kernel_rfl) (sel_perm (is := [0, 0, 0]) (by kernel_rfl)) (api_Edge_v4.ok h33)) ?_
  refine t_qz 2 [4] (σ' := [(4, .bool true)]) (by kernel_rfl) ?_
  refine t_end ?_
  show W _ _ _ _ _ _ _
  refine w_ret ?_
  exact ⟨[.bool true], ([⟨B0, [.int .i64 0, .int .i64 0, .int .i64 5, .int .i64 0], 4⟩, ⟨B1, [.int .i64 1, .int .i64 1], 2⟩, ⟨B2, [.int .i64 2], 1⟩] : List Own), S, ⟨rfl, trivial⟩, VS.sel [0, 0, 0] (by kernel_rfl), rfl, rfl, rfl⟩

def stroke_Near_v2.f  : Option (Unit) := (api_Edge_v3.f).bind fun _ => (some ())
theorem stroke_Near_v2.ok {S : Seal} {B0 : Nat}  (e : stroke_Near_v2.f  = some ()) :
    Cal Try.prog 19 [.slice (some ⟨B0, 0, none⟩) 1 1, .int .i64 2, .agg #[.int .i64 1, .int .i64 1]] ([⟨B0, [.int .i64 0, .int .i64 0, .int .i64 5, .int .i64 0], 4⟩] : List Own) S fun v H' S' => v = .bool true ∧ H' = ([⟨B0, [.int .i64 0, .int .i64 0, .int .i64 5, .int .i64 0], 4⟩] : List Own) ∧ S' = S := by
  unfold stroke_Near_v2.f at e
  refine cal_of (c := c19) (N := 10) Try.func19 rfl rfl (by kernel_rfl) (rs := [.t 6]) (by kernel_rfl) (Nat.le_of_ble_eq_true rfl) ?_
  unfold c19
  refine w_seq ?_
  refine w_reg fun all => ?_
  refine t_a (.box rfl rfl rfl) fun b8 fb8 sb8 => ?_
  refine t_a (.box rfl rfl rfl) fun b9 fb9 sb9 => ?_
  refine t_qz 1 [0, 4, 5] (σ' := [(0, .slice (some ⟨B0, 0, none⟩) 1 1), (4, .pointer (some ⟨b8, 0, none⟩)), (5, .pointer (some ⟨b9, 0, none⟩))]) (by kernel_rfl) ?_
  refine t_end ?_
  show W _ _ _ _ _ _ _
  refine w_seq ?_
  refine w_reg fun all => ?_
  obtain ⟨u_, h34, e⟩ := bind_of e
  refine t_qz 2 [7, 8] (σ' := [(7, .slice (some ⟨B0, 0, none⟩) 1 1), (8, .func (.func 64) #[] #[.pointer (some ⟨b9, 0, none⟩), .pointer (some ⟨b8, 0, none⟩)])]) (by kernel_rfl) ?_
  refine t_v (.callr (vs := [.slice (some ⟨B0, 0, none⟩) 1 1, .func (.func 64) #[] #[.pointer (some ⟨b9, 0, none⟩), .pointer (some ⟨b8, 0, none⟩)]]) (A := ([⟨B0, [.int .i64 0, .int .i64 0, .int .i64 5, .int .i64 0], 4⟩, ⟨b9, [.int .i64 1, .int .i64 1], 2⟩, ⟨b8, [.int .i64 2], 1⟩] : List Own)) (F0 := ([] : List Own)) rfl rfl (by kernel_rfl) (sel_perm (is := [2, 0, 0]) (by kernel_rfl)) (api_Edge_v3.ok h34)) ?_
  refine t_qz 1 [6] (σ' := [(6, .bool true)]) (by kernel_rfl) ?_
  refine t_end ?_
  show W _ _ _ _ _ _ _
  refine w_ret ?_
  exact ⟨[.bool true], ([⟨B0, [.int .i64 0, .int .i64 0, .int .i64 5, .int .i64 0], 4⟩] : List Own), S, ⟨rfl, trivial⟩, VS.sel [2] (by kernel_rfl), rfl, rfl, rfl⟩

/-- glyphiclaw23.first -/
def c16 : C :=
  (.seq (.reg [⟨(some 0), .mv (.const (.bool false)), none⟩])
  (.seq (.reg [⟨(some 2), .bld [(.int .i64 0), (.int .i64 0)] [(0, 1, (.const (.int .i64 5)))], none⟩,
     ⟨(some 3), .bld [(.int .i64 0), (.int .i64 0), (.int .i64 0), (.int .i64 0)] [(2, 2, (.tmp 2))], none⟩,
     ⟨(some 4), .bsl [(.int .i64 0), (.int .i64 0), (.int .i64 0), (.int .i64 0)] 1 [(0, 4, (.tmp 3))], none⟩,
     ⟨(some 1), .mv (.tmp 4), none⟩])
  (.seq (.reg [⟨(some 5), .bld [(.int .i64 0), (.int .i64 0)] [], none⟩,
     ⟨(some 6), .call 19 [(.const (.slice none 0 0)), (.const (.int .i64 5)), (.tmp 5)], none⟩,
     ⟨(some 7), .un .not (.tmp 6), none⟩,
     ⟨(some 8), .mv (.tmp 7), none⟩,
     ⟨(some 9), .mv (.tmp 1), (some (8, true))⟩,
     ⟨(some 10), .bld [(.int .i64 0), (.int .i64 0)] [(0, 1, (.const (.int .i64 1))), (1, 1, (.const (.int .i64 1)))], (some (8, true))⟩,
     ⟨(some 11), .call 19 [(.tmp 9), (.const (.int .i64 2)), (.tmp 10)], (some (8, true))⟩,
     ⟨(some 12), .pk (.tmp 8) (.tmp 11) (.const (.bool false)), none⟩,
     ⟨(some 0), .mv (.tmp 12), none⟩])
  .ret)))
def glyphiclaw23_first.f  : Option (Bool) := (stroke_Near_v1.f).bind fun _ => ((stroke_Near_v2.f).bind fun _ => (some true))
theorem glyphiclaw23_first.ok {S : Seal}  {r0_ : Bool}(e : glyphiclaw23_first.f  = some r0_) :
    Cal Try.prog 16 [] [] S fun v H' S' => v = .bool r0_ ∧ H' = [] ∧ S' = S := by
  unfold glyphiclaw23_first.f at e
  refine cal_of (c := c16) (N := 13) Try.func16 rfl rfl (by kernel_rfl) (rs := [.t 0]) (by kernel_rfl) (Nat.le_of_ble_eq_true rfl) ?_
  unfold c16
  refine w_seq ?_
  refine w_reg fun all => ?_
  refine t_qz 1 [] (σ' := []) (by kernel_rfl) ?_
  refine t_end ?_
  show W _ _ _ _ _ _ _
  refine w_seq ?_
  refine w_reg fun all => ?_
  refine t_qz 2 [3] (σ' := [(3, .agg #[.int .i64 0, .int .i64 0, .int .i64 5, .int .i64 0])]) (by kernel_rfl) ?_
  refine t_a (.bsl rfl rfl rfl rfl) fun b2 fb2 sb2 => ?_
  refine t_qz 1 [1] (σ' := [(1, .slice (some ⟨b2, 0, none⟩) 1 1)]) (by kernel_rfl) ?_
  refine t_end ?_
  show W _ _ _ _ _ _ _
  refine w_seq ?_
  refine w_reg fun all => ?_
  obtain ⟨u_, h7, e⟩ := bind_of e
  refine t_qz 1 [1, 5] (σ' := [(1, .slice (some ⟨b2, 0, none⟩) 1 1), (5, .agg #[.int .i64 0, .int .i64 0])]) (by kernel_rfl) ?_
  refine t_v (.call (vs := [.slice none 0 0, .int .i64 5, .agg #[.int .i64 0, .int .i64 0]]) rfl rfl (by kernel_rfl) (stroke_Near_v1.ok h7)) ?_
  obtain ⟨u_, h35, e⟩ := bind_of e
  refine t_qz 4 [8, 9, 10] (σ' := [(8, .bool true), (9, .slice (some ⟨b2, 0, none⟩) 1 1), (10, .agg #[.int .i64 1, .int .i64 1])]) (by kernel_rfl) ?_
  refine t_v (.callr (vs := [.slice (some ⟨b2, 0, none⟩) 1 1, .int .i64 2, .agg #[.int .i64 1, .int .i64 1]]) (A := ([⟨b2, [.int .i64 0, .int .i64 0, .int .i64 5, .int .i64 0], 4⟩] : List Own)) (F0 := ([] : List Own)) rfl rfl (by kernel_rfl) (sel_perm (is := [0]) (by kernel_rfl)) (stroke_Near_v2.ok h35)) ?_
  refine t_qz 2 [0] (σ' := [(0, .bool true)]) (by kernel_rfl) ?_
  refine t_end ?_
  show W _ _ _ _ _ _ _
  refine w_ret ?_
  obtain rfl := Option.some.inj e
  exact ⟨[.bool true], [], S, ⟨rfl, trivial⟩, VS.none, rfl, rfl, rfl⟩

/-- glyphicworld.Number -/
def c44 : C :=
  (.seq (.reg [⟨(some 4), .mv (.const (.int .i64 0)), none⟩])
  (.seq (.reg [⟨(some 6), .mv (.tmp 0), none⟩,
     ⟨(some 7), .mv (.tmp 1), none⟩,
     ⟨(some 8), .bin .rem (.tmp 6) (.tmp 7), none⟩,
     ⟨(some 5), .mv (.tmp 8), none⟩])
  (.seq (.seq (.reg [⟨(some 9), .mv (.tmp 5), none⟩,
      ⟨(some 10), .bin .lss (.tmp 9) (.const (.int .i64 0)), none⟩])
   (.cond (.tmp 10)
    (.reg [⟨(some 11), .mv (.tmp 5), none⟩,
       ⟨(some 12), .mv (.tmp 1), none⟩,
       ⟨(some 13), .bin .add (.tmp 11) (.tmp 12), none⟩,
       ⟨(some 5), .mv (.tmp 13), none⟩])
    .skip))
  (.seq (.reg [⟨(some 14), .mv (.tmp 5), none⟩,
     ⟨(some 4), .mv (.tmp 14), none⟩])
  .ret))))
def glyphicworld_Number.f (n0 : Int) (below1 : Int) : Option (Int) := if below1 = 0 then none else (if (Int.tmod n0 below1) < 0 then (some (wr64 ((Int.tmod n0 below1) + below1))) else (some (Int.tmod n0 below1)))
theorem glyphicworld_Number.ok {S : Seal} {n0 : Int} {below1 : Int} {r0_ : Int}(e : glyphicworld_Number.f n0 below1 = some r0_) :
    Cal Try.prog 44 [.int .i64 n0, .int .i64 below1] [] S fun v H' S' => v = .int .i64 r0_ ∧ H' = [] ∧ S' = S := by
  unfold glyphicworld_Number.f at e
  refine cal_of (c := c44) (N := 15) Try.func44 rfl rfl (by kernel_rfl) (rs := [.t 4]) (by kernel_rfl) (Nat.le_of_ble_eq_true rfl) ?_
  unfold c44
  refine w_seq ?_
  refine w_reg fun all => ?_
  refine t_qz 1 [0, 1] (σ' := [(0, .int .i64 n0), (1, .int .i64 below1)]) (by kernel_rfl) ?_
  refine t_end ?_
  show W _ _ _ _ _ _ _
  refine w_seq ?_
  refine w_reg fun all => ?_
  have c58 : ¬ below1 = 0 := by
    intro h_; rw [if_pos h_] at e; cases e
  rw [if_neg c58] at e
  refine t_qz 2 [1, 6, 7] (σ' := [(1, .int .i64 below1), (6, .int .i64 n0), (7, .int .i64 below1)]) (by kernel_rfl) ?_
  refine t_v (.quiet rfl (qv_rem rfl rfl c58)) ?_
  refine t_qz 1 [1, 5] (σ' := [(1, .int .i64 below1), (5, .int .i64 (Int.tmod n0 below1))]) (by kernel_rfl) ?_
  refine t_end ?_
  show W _ _ _ _ _ _ _
  refine w_seq ?_
  refine w_seq ?_
  refine w_reg fun all => ?_
  by_cases c59 : (Int.tmod n0 below1) < 0
  · rw [if_pos c59] at e
    have c59b : (decide ((Int.tmod n0 below1) < 0)) = true := decide_eq_true c59
    refine t_qz 1 [1, 5, 9] (σ' := [(1, .int .i64 below1), (5, .int .i64 (Int.tmod n0 below1)), (9, .int .i64 (Int.tmod n0 below1))]) (by kernel_rfl) ?_
    refine t_v (dv_quiet rfl (congrArg (fun t => some (Value.bool t)) c59b)) ?_
    refine t_keep [1, 5, 10] (σ' := [(1, .int .i64 below1), (5, .int .i64 (Int.tmod n0 below1)), (10, .bool true)]) (by kernel_rfl) ?_
    refine t_end ?_
    show W _ _ _ _ _ _ _
    refine w_cond rfl (fun _ => ?_) (fun c_ => by cases c_)
    show W _ _ _ _ _ _ _
    refine w_reg fun all => ?_
    refine t_qz 4 [5] (σ' := [(5, .int .i64 (wr64 ((Int.tmod n0 below1) + below1)))]) (by kernel_rfl) ?_
    refine t_end ?_
    show W _ _ _ _ _ _ _
    refine w_seq ?_
    refine w_reg fun all => ?_
    refine t_qz 2 [4] (σ' := [(4, .int .i64 (wr64 ((Int.tmod n0 below1) + below1)))]) (by kernel_rfl) ?_
    refine t_end ?_
    show W _ _ _ _ _ _ _
    refine w_ret ?_
    obtain rfl := Option.some.inj e
    exact ⟨[.int .i64 (wr64 ((Int.tmod n0 below1) + below1))], [], S, ⟨rfl, trivial⟩, VS.none, rfl, rfl, rfl⟩
  · rw [if_neg c59] at e
    have c59b : (decide ((Int.tmod n0 below1) < 0)) = false := decide_eq_false c59
    refine t_qz 1 [1, 5, 9] (σ' := [(1, .int .i64 below1), (5, .int .i64 (Int.tmod n0 below1)), (9, .int .i64 (Int.tmod n0 below1))]) (by kernel_rfl) ?_
    refine t_v (dv_quiet rfl (congrArg (fun t => some (Value.bool t)) c59b)) ?_
    refine t_keep [1, 5, 10] (σ' := [(1, .int .i64 below1), (5, .int .i64 (Int.tmod n0 below1)), (10, .bool false)]) (by kernel_rfl) ?_
    refine t_end ?_
    show W _ _ _ _ _ _ _
    refine w_cond rfl (fun c_ => by cases c_) (fun _ => ?_)
    show W _ _ _ _ _ _ _
    refine w_skip ?_
    show W _ _ _ _ _ _ _
    refine w_seq ?_
    refine w_reg fun all => ?_
    refine t_qz 2 [4] (σ' := [(4, .int .i64 (Int.tmod n0 below1))]) (by kernel_rfl) ?_
    refine t_end ?_
    show W _ _ _ _ _ _ _
    refine w_ret ?_
    obtain rfl := Option.some.inj e
    exact ⟨[.int .i64 (Int.tmod n0 below1)], [], S, ⟨rfl, trivial⟩, VS.none, rfl, rfl, rfl⟩

/-- (*glyphicmake.Seq).Next -/
def c37 : C :=
  (.seq (.reg [⟨(some 4), .mv (.const (.int .i64 0)), none⟩])
  (.seq (.reg [⟨(some 5), .mv (.const (.int .i64 0)), none⟩])
  (.seq (.seq (.drw [⟨(some 6), .mv (.tmp 0), none⟩,
      ⟨(some 7), .nck (.tmp 6), none⟩,
      ⟨(some 8), .pad 1 (.tmp 7), none⟩,
      ⟨(some 9), .ld none (.tmp 8), none⟩,
      ⟨(some 10), .mv (.tmp 0), none⟩,
      ⟨(some 11), .nck (.tmp 10), none⟩,
      ⟨(some 12), .pad 0 (.tmp 11), none⟩,
      ⟨(some 13), .ld none (.tmp 12), none⟩,
      ⟨(some 14), .lns (.tmp 13), none⟩,
      ⟨(some 15), .bin .lss (.tmp 9) (.tmp 14), none⟩] [[], [0], [1], [2], [], [4], [5], [6], [7], [3, 8]])
   (.cond (.tmp 15)
    (.drw [⟨(some 16), .mv (.tmp 0), none⟩,
       ⟨(some 17), .nck (.tmp 16), none⟩,
       ⟨(some 18), .pad 0 (.tmp 17), none⟩,
       ⟨(some 19), .ld none (.tmp 18), none⟩,
       ⟨(some 20), .mv (.tmp 0), none⟩,
       ⟨(some 21), .nck (.tmp 20), none⟩,
       ⟨(some 22), .pad 1 (.tmp 21), none⟩,
       ⟨(some 23), .ld none (.tmp 22), none⟩,
       ⟨(some 24), .ixs 1 (.tmp 19) (.tmp 23), none⟩,
       ⟨(some 25), .ld none (.tmp 24), none⟩,
       ⟨(some 5), .mv (.tmp 25), none⟩] [[], [0], [1], [2], [], [4], [5], [6], [3, 7], [8], [9, 0, 1, 2, 3, 4, 5, 6, 7, 8, 9]])
    .skip))
  (.seq (.reg [⟨(some 26), .mv (.tmp 0), none⟩,
     ⟨(some 27), .mv (.tmp 0), none⟩,
     ⟨(some 28), .nck (.tmp 27), none⟩,
     ⟨(some 29), .pad 1 (.tmp 28), none⟩,
     ⟨(some 30), .ld none (.tmp 29), none⟩,
     ⟨(some 31), .bin .add (.tmp 30) (.const (.int .i64 1)), none⟩,
     ⟨(some 32), .nck (.tmp 26), none⟩,
     ⟨(some 33), .pad 1 (.tmp 32), none⟩,
     ⟨none, .st 1 (.tmp 33) (.tmp 31), none⟩])
  (.seq (.reg [⟨(some 34), .mv (.tmp 5), none⟩,
     ⟨(some 35), .mv (.tmp 1), none⟩,
     ⟨(some 36), .call 44 [(.tmp 34), (.tmp 35)], none⟩,
     ⟨(some 4), .mv (.tmp 36), none⟩])
  .ret)))))
def glyphicmake_Seq_Next_v1.f (below1 : Int) (m0_0 : List (Int)) (m0_1 : Int) : Option (Int × Int) := (if m0_1 < (m0_0.length : Int) then ((lgt m0_0 m0_1).bind fun x66 => (some x66)) else (some 0) : Option (Int)).bind fun x76 => ((glyphicworld_Number.f x76 below1).bind fun t77 => (some (t77, wr64 (m0_1 + 1))))
theorem glyphicmake_Seq_Next_v1.ok {S : Seal} {B0 : Nat} {below1 : Int} {m0_0 : List (Int)} {m0_1 : Int} {r0_ : Int} {r1_ : Int}{a_m0_0 : Option Addr} {c_m0_0 : Nat} (h_m0_0 : SlE S E_i64 m0_0 a_m0_0) (e : glyphicmake_Seq_Next_v1.f below1 m0_0 m0_1 = some (r0_, r1_)) :
    Cal Try.prog 37 [.pointer (some ⟨B0, 0, none⟩), .int .i64 below1] ([⟨B0, [.slice a_m0_0 m0_0.length c_m0_0, .int .i64 m0_1], 2⟩] : List Own) S fun v H' S' => v = .int .i64 r0_ ∧ H' = ([⟨B0, [.slice a_m0_0 m0_0.length c_m0_0, .int .i64 r1_], 2⟩] : List Own) ∧ S' = S := by
  unfold glyphicmake_Seq_Next_v1.f at e
  refine cal_of (c := c37) (N := 37) Try.func37 rfl rfl (by kernel_rfl) (rs := [.t 4]) (by kernel_rfl) (Nat.le_of_ble_eq_true rfl) ?_
  unfold c37
  refine w_seq ?_
  refine w_reg fun all => ?_
  refine t_qz 1 [0, 1] (σ' := [(0, .pointer (some ⟨B0, 0, none⟩)), (1, .int .i64 below1)]) (by kernel_rfl) ?_
  refine t_end ?_
  show W _ _ _ _ _ _ _
  refine w_seq ?_
  refine w_reg fun all => ?_
  refine t_qz 1 [0, 1, 5] (σ' := [(0, .pointer (some ⟨B0, 0, none⟩)), (1, .int .i64 below1), (5, .int .i64 0)]) (by kernel_rfl) ?_
  refine t_end ?_
  show W _ _ _ _ _ _ _
  obtain ⟨x76, e63, e⟩ := bind_of e
  refine w_cut [0, 1, 5] (fun σ_ H_ S_ => [(0, .pointer (some ⟨B0, 0, none⟩)), (1, .int .i64 below1), (5, .int .i64 x76)] = σ_ ∧ ([⟨B0, [.slice a_m0_0 m0_0.length c_m0_0, .int .i64 m0_1], 2⟩] : List Own) = H_ ∧ S = S_) ?_ ?_
  · show W _ _ _ _ _ _ _
    refine w_seq ?_
    by_cases c65 : m0_1 < (m0_0.length : Int)
    · rw [if_pos c65] at e63
      have c65b : (decide (m0_1 < (m0_0.length : Int))) = true := decide_eq_true c65
      refine w_drwE mixed 10 [.v (.pointer (some ⟨B0, 0, none⟩)), .v (.pointer (some ⟨B0, 0, none⟩)), .v (.pointer (some ⟨B0, 1, none⟩)), .v (.int .i64 m0_1), .v (.pointer (some ⟨B0, 0, none⟩)), .v (.pointer (some ⟨B0, 0, none⟩)), .v (.pointer (some ⟨B0, 0, none⟩)), .v (.slice a_m0_0 m0_0.length c_m0_0), .v (.int .i64 (m0_0.length : Int)), .v (.bool true)] (by kernel_rfl) ?_ ?_
      · refine DI.sq 3 (by kernel_rfl) rfl ?_
        refine .cons (.ld1 rfl rfl rfl (.at 0 rfl rfl)) ?_
        refine DI.sq 3 (by kernel_rfl) rfl ?_
        refine .cons (.ld1 rfl rfl rfl (.at 0 rfl rfl)) ?_
        refine DI.sq 1 (by kernel_rfl) rfl ?_
        refine .cons (dv_quiet rfl (congrArg (fun t => some (Value.bool t)) c65b)) ?_
        exact .nil
      refine fk_q 10 [0, 1, 5, 15] (σ' := [(0, .pointer (some ⟨B0, 0, none⟩)), (1, .int .i64 below1), (5, .int .i64 0), (15, .bool true)]) t_more (by kernel_rfl) ?_
      refine fk_nil fun all => ?_
      refine t_keep [0, 1, 5, 15] (σ' := [(0, .pointer (some ⟨B0, 0, none⟩)), (1, .int .i64 below1), (5, .int .i64 0), (15, .bool true)]) (by kernel_rfl) ?_
      refine t_end ?_
      show W _ _ _ _ _ _ _
      refine w_cond rfl (fun _ => ?_) (fun c_ => by cases c_)
      show W _ _ _ _ _ _ _
      obtain ⟨x66, hx67, e63⟩ := bind_of e63
      obtain ⟨lb68, lo69, ll70, la71, lS72, lv73, lz74, lu75⟩ := sle_get (E := E_i64) h_m0_0 hx67
      refine w_drwE mixed 11 [.v (.pointer (some ⟨B0, 0, none⟩)), .v (.pointer (some ⟨B0, 0, none⟩)), .v (.pointer (some ⟨B0, 0, none⟩)), .v (.slice a_m0_0 m0_0.length c_m0_0), .v (.pointer (some ⟨B0, 0, none⟩)), .v (.pointer (some ⟨B0, 0, none⟩)), .v (.pointer (some ⟨B0, 1, none⟩)), .v (.int .i64 m0_1), .v (.pointer (some ⟨lb68, lo69 + (m0_1).toNat * 1 + 0, none⟩)), .v (.int .i64 x66), .v (.int .i64 x66)] (by kernel_rfl) ?_ ?_
      · refine DI.sq 3 (by kernel_rfl) rfl ?_
        refine .cons (.ld1 rfl rfl rfl (.at 0 rfl rfl)) ?_
        refine DI.sq 3 (by kernel_rfl) rfl ?_
        refine .cons (.ld1 rfl rfl rfl (.at 0 rfl rfl)) ?_
        refine .cons (.quiet rfl (ixs_sle rfl rfl la71 lz74 lu75)) ?_
        refine .cons (.ld1 rfl rfl rfl (.sealed lS72 (subl_at lv73 rfl))) ?_
        refine DI.sq 1 (by kernel_rfl) rfl ?_
        exact .nil
      refine fk_q 11 [0, 1, 5] (σ' := [(0, .pointer (some ⟨B0, 0, none⟩)), (1, .int .i64 below1), (5, .int .i64 x66)]) t_more (by kernel_rfl) ?_
      refine fk_nil fun all => ?_
      refine t_keep [0, 1, 5] (σ' := [(0, .pointer (some ⟨B0, 0, none⟩)), (1, .int .i64 below1), (5, .int .i64 x66)]) (by kernel_rfl) ?_
      refine t_end ?_
      obtain rfl := Option.some.inj e63
      exact ⟨([⟨B0, [.slice a_m0_0 m0_0.length c_m0_0, .int .i64 m0_1], 2⟩] : List Own), S, VS.sel [0] (by kernel_rfl), by kernel_rfl, rfl, rfl⟩
    · rw [if_neg c65] at e63
      have c65b : (decide (m0_1 < (m0_0.length : Int))) = false := decide_eq_false c65
      refine w_drwE mixed 10 [.v (.pointer (some ⟨B0, 0, none⟩)), .v (.pointer (some ⟨B0, 0, none⟩)), .v (.pointer (some ⟨B0, 1, none⟩)), .v (.int .i64 m0_1), .v (.pointer (some ⟨B0, 0, none⟩)), .v (.pointer (some ⟨B0, 0, none⟩)), .v (.pointer (some ⟨B0, 0, none⟩)), .v (.slice a_m0_0 m0_0.length c_m0_0), .v (.int .i64 (m0_0.length : Int)), .v (.bool false)] (by kernel_rfl) ?_ ?_
      · refine DI.sq 3 (by kernel_rfl) rfl ?_
        refine .cons (.ld1 rfl rfl rfl (.at 0 rfl rfl)) ?_
        refine DI.sq 3 (by kernel_rfl) rfl ?_
        refine .cons (.ld1 rfl rfl rfl (.at 0 rfl rfl)) ?_
        refine DI.sq 1 (by kernel_rfl) rfl ?_
        refine .cons (dv_quiet rfl (congrArg (fun t => some (Value.bool t)) c65b)) ?_
        exact .nil
      refine fk_q 10 [0, 1, 5, 15] (σ' := [(0, .pointer (some ⟨B0, 0, none⟩)), (1, .int .i64 below1), (5, .int .i64 0), (15, .bool false)]) t_more (by kernel_rfl) ?_
      refine fk_nil fun all => ?_
      refine t_keep [0, 1, 5, 15] (σ' := [(0, .pointer (some ⟨B0, 0, none⟩)), (1, .int .i64 below1), (5, .int .i64 0), (15, .bool false)]) (by kernel_rfl) ?_
      refine t_end ?_
      show W _ _ _ _ _ _ _
      refine w_cond rfl (fun c_ => by cases c_) (fun _ => ?_)
      show W _ _ _ _ _ _ _
      refine w_skip ?_
      obtain rfl := Option.some.inj e63
      exact ⟨([⟨B0, [.slice a_m0_0 m0_0.length c_m0_0, .int .i64 m0_1], 2⟩] : List Own), S, VS.sel [0] (by kernel_rfl), by kernel_rfl, rfl, rfl⟩
  · rintro σ_ H_ S_ ⟨rfl, rfl, rfl⟩
    refine w_seq ?_
    refine w_reg fun all => ?_
    refine t_qz 4 [1, 5, 26, 29] (σ' := [(1, .int .i64 below1), (5, .int .i64 x76), (26, .pointer (some ⟨B0, 0, none⟩)), (29, .pointer (some ⟨B0, 1, none⟩))]) (by kernel_rfl) ?_
    refine t_v (.ld1 rfl rfl rfl (.at 0 rfl rfl)) ?_
    refine t_qz 3 [1, 5, 31, 33] (σ' := [(1, .int .i64 below1), (5, .int .i64 x76), (31, .int .i64 (wr64 (m0_1 + 1))), (33, .pointer (some ⟨B0, 1, none⟩))]) (by kernel_rfl) ?_
    refine t_sti 0 (cs := [.slice a_m0_0 m0_0.length c_m0_0, .int .i64 (wr64 (m0_1 + 1))]) rfl rfl rfl rfl rfl rfl rfl rfl rfl ?_
    refine t_keep [1, 5] (σ' := [(1, .int .i64 below1), (5, .int .i64 x76)]) (by kernel_rfl) ?_
    refine t_end ?_
    show W _ _ _ _ _ _ _
    refine w_seq ?_
    refine w_reg fun all => ?_
    obtain ⟨t77, h78, e⟩ := bind_of e
    refine t_qz 2 [34, 35] (σ' := [(34, .int .i64 x76), (35, .int .i64 below1)]) (by kernel_rfl) ?_
    refine t_v (.call (vs := [.int .i64 x76, .int .i64 below1]) rfl rfl (by kernel_rfl) (glyphicworld_Number.ok h78)) ?_
    refine t_qz 1 [4] (σ' := [(4, .int .i64 t77)]) (by kernel_rfl) ?_
    refine t_end ?_
    show W _ _ _ _ _ _ _
    refine w_ret ?_
    simp only [Option.some.injEq, Prod.mk.injEq] at e
    obtain ⟨rfl, rfl⟩ := e
    exact ⟨[.int .i64 t77], ([⟨B0, [.slice a_m0_0 m0_0.length c_m0_0, .int .i64 (wr64 (m0_1 + 1))], 2⟩] : List Own), S, ⟨rfl, trivial⟩, VS.sel [0] (by kernel_rfl), rfl, rfl, rfl⟩

/-- glyphicmake.Point -/
def c18 : C :=
  (.seq (.reg [⟨(some 4), .new [(.int .i64 0), (.int .i64 0)], none⟩])
  (.seq (.reg [⟨(some 6), .mv (.tmp 0), none⟩,
     ⟨(some 7), .mv (.tmp 1), none⟩,
     ⟨(some 8), .bin .mul (.const (.int .i64 2)) (.tmp 7), none⟩,
     ⟨(some 9), .bin .add (.tmp 8) (.const (.int .i64 1)), none⟩,
     ⟨(some 10), .call 37 [(.tmp 6), (.tmp 9)], none⟩,
     ⟨(some 11), .mv (.tmp 1), none⟩,
     ⟨(some 12), .bin .sub (.tmp 10) (.tmp 11), none⟩,
     ⟨(some 5), .mv (.tmp 12), none⟩])
  (.seq (.reg [⟨(some 13), .mv (.tmp 5), none⟩,
     ⟨(some 14), .mv (.tmp 0), none⟩,
     ⟨(some 15), .mv (.tmp 1), none⟩,
     ⟨(some 16), .bin .mul (.const (.int .i64 2)) (.tmp 15), none⟩,
     ⟨(some 17), .bin .add (.tmp 16) (.const (.int .i64 1)), none⟩,
     ⟨(some 18), .call 37 [(.tmp 14), (.tmp 17)], none⟩,
     ⟨(some 19), .mv (.tmp 1), none⟩,
     ⟨(some 20), .bin .sub (.tmp 18) (.tmp 19), none⟩,
     ⟨(some 21), .bld [(.int .i64 0), (.int .i64 0)] [(0, 1, (.tmp 13)), (1, 1, (.tmp 20))], none⟩,
     ⟨none, .st 2 (.tmp 4) (.tmp 21), none⟩])
  .ret)))
def glyphicmake_Point_v1.f (far1 : Int) (m0_0 : List (Int)) (m0_1 : Int) : Option (Int × Int × Int) := (glyphicmake_Seq_Next_v1.f (wr64 ((wr64 (2 * far1)) + 1)) m0_0 m0_1).bind fun (t94, t95) => ((glyphicmake_Seq_Next_v1.f (wr64 ((wr64 (2 * far1)) + 1)) m0_0 t95).bind fun (t97, t98) => (some (wr64 (t94 - far1), wr64 (t97 - far1), t98)))
theorem glyphicmake_Point_v1.ok {S : Seal} {B0 : Nat} {far1 : Int} {m0_0 : List (Int)} {m0_1 : Int} {r0_ : Int} {r1_ : Int} {r2_ : Int}{a_m0_0 : Option Addr} {c_m0_0 : Nat} (h_m0_0 : SlE S E_i64 m0_0 a_m0_0) (e : glyphicmake_Point_v1.f far1 m0_0 m0_1 = some (r0_, r1_, r2_)) :
    Cal Try.prog 18 [.pointer (some ⟨B0, 0, none⟩), .int .i64 far1] ([⟨B0, [.slice a_m0_0 m0_0.length c_m0_0, .int .i64 m0_1], 2⟩] : List Own) S fun v H' S' => v = .agg #[.int .i64 r0_, .int .i64 r1_] ∧ H' = ([⟨B0, [.slice a_m0_0 m0_0.length c_m0_0, .int .i64 r2_], 2⟩] : List Own) ∧ S' = S := by
  unfold glyphicmake_Point_v1.f at e
  refine cal_of (c := c18) (N := 22) Try.func18 rfl rfl (by kernel_rfl) (rs := [.cn 2 4]) (by kernel_rfl) (Nat.le_of_ble_eq_true rfl) ?_
  unfold c18
  refine w_seq ?_
  refine w_reg fun all => ?_
  refine t_a (.new rfl rfl) fun b93 fb93 sb93 => ?_
  refine t_keep [0, 1, 4] (σ' := [(0, .pointer (some ⟨B0, 0, none⟩)), (1, .int .i64 far1), (4, .pointer (some ⟨b93, 0, none⟩))]) (by kernel_rfl) ?_
  refine t_end ?_
  show W _ _ _ _ _ _ _
  refine w_seq ?_
  refine w_reg fun all => ?_
  obtain ⟨⟨t94, t95⟩, h96, e⟩ := bind_of e
  try dsimp only at e
  refine t_qz 4 [0, 1, 4, 6, 9] (σ' := [(0, .pointer (some ⟨B0, 0, none⟩)), (1, .int .i64 far1), (4, .pointer (some ⟨b93, 0, none⟩)), (6, .pointer (some ⟨B0, 0, none⟩)), (9, .int .i64 (wr64 ((wr64 (2 * far1)) + 1)))]) (by kernel_rfl) ?_
  refine t_call (vs := [.pointer (some ⟨B0, 0, none⟩), .int .i64 (wr64 ((wr64 (2 * far1)) + 1))]) (H1 := ([⟨B0, [.slice a_m0_0 m0_0.length c_m0_0, .int .i64 m0_1], 2⟩] : List Own)) (F := ([⟨b93, [.int .i64 0, .int .i64 0], 2⟩] : List Own)) rfl rfl (by kernel_rfl) (sel_perm (is := [1]) (by kernel_rfl)) (glyphicmake_Seq_Next_v1.ok h_m0_0 h96) ?_
  rintro _ _ S_ ⟨rfl, rfl, hS_⟩
  obtain rfl := hS_.symm
  refine t_qz 3 [0, 1, 4, 5] (σ' := [(0, .pointer (some ⟨B0, 0, none⟩)), (1, .int .i64 far1), (4, .pointer (some ⟨b93, 0, none⟩)), (5, .int .i64 (wr64 (t94 - far1)))]) (by kernel_rfl) ?_
  refine t_end ?_
  show W _ _ _ _ _ _ _
  refine w_seq ?_
  refine w_reg fun all => ?_
  obtain ⟨⟨t97, t98⟩, h99, e⟩ := bind_of e
  try dsimp only at e
  refine t_qz 5 [1, 4, 13, 14, 17] (σ' := [(1, .int .i64 far1), (4, .pointer (some ⟨b93, 0, none⟩)), (13, .int .i64 (wr64 (t94 - far1))), (14, .pointer (some ⟨B0, 0, none⟩)), (17, .int .i64 (wr64 ((wr64 (2 * far1)) + 1)))]) (by kernel_rfl) ?_
  refine t_call (vs := [.pointer (some ⟨B0, 0, none⟩), .int .i64 (wr64 ((wr64 (2 * far1)) + 1))]) (H1 := ([⟨B0, [.slice a_m0_0 m0_0.length c_m0_0, .int .i64 t95], 2⟩] : List Own)) (F := ([⟨b93, [.int .i64 0, .int .i64 0], 2⟩] : List Own)) rfl rfl (by kernel_rfl) (sel_perm (is := [0]) (by kernel_rfl)) (glyphicmake_Seq_Next_v1.ok h_m0_0 h99) ?_
  rintro _ _ S_ ⟨rfl, rfl, hS_⟩
  obtain rfl := hS_.symm
  refine t_qz 3 [4, 21] (σ' := [(4, .pointer (some ⟨b93, 0, none⟩)), (21, .agg #[.int .i64 (wr64 (t94 - far1)), .int .i64 (wr64 (t97 - far1))])]) (by kernel_rfl) ?_
  refine t_sti 1 (cs := [.int .i64 (wr64 (t94 - far1)), .int .i64 (wr64 (t97 - far1))]) rfl rfl rfl rfl rfl rfl rfl rfl rfl ?_
  refine t_keep [4] (σ' := [(4, .pointer (some ⟨b93, 0, none⟩))]) (by kernel_rfl) ?_
  refine t_end ?_
  show W _ _ _ _ _ _ _
  refine w_ret ?_
  simp only [Option.some.injEq, Prod.mk.injEq] at e
  obtain ⟨rfl, rfl, rfl⟩ := e
  exact ⟨[.agg #[.int .i64 (wr64 (t94 - far1)), .int .i64 (wr64 (t97 - far1))]], ([⟨B0, [.slice a_m0_0 m0_0.length c_m0_0, .int .i64 t98], 2⟩] : List Own), S, ⟨⟨_, _, _, rfl, .at 1 rfl rfl, rfl⟩, trivial⟩, VS.sel [0] (by kernel_rfl), rfl, rfl, rfl⟩

/-- glyphicmake.Edges -/
def c17 : C :=
  (.seq (.reg [⟨(some 6), .mv (.const (.slice none 0 0)), none⟩])
  (.seq (.reg [⟨(some 7), .mv (.const (.slice none 0 0)), none⟩])
  (.seq (.seq (.reg [⟨(some 10), .mv (.tmp 0), none⟩,
      ⟨(some 11), .mv (.tmp 1), none⟩,
      ⟨(some 12), .bin .add (.tmp 11) (.const (.int .i64 1)), none⟩,
      ⟨(some 13), .call 37 [(.tmp 10), (.tmp 12)], none⟩,
      ⟨(some 8), .mv (.tmp 13), none⟩])
   (.block 0 (.loop (.seq (.seq (.reg [⟨(some 14), .mv (.tmp 8), none⟩,
         ⟨(some 15), .bin .gtr (.tmp 14) (.const (.int .i64 0)), none⟩])
      (.cond (.tmp 15)
       .skip
       (.exit 0)))
     (.seq (.block 1 (.seq (.reg [⟨(some 18), .mv (.tmp 0), none⟩,
          ⟨(some 19), .mv (.tmp 2), none⟩,
          ⟨(some 20), .call 18 [(.tmp 18), (.tmp 19)], none⟩,
          ⟨(some 9), .new [(.int .i64 0), (.int .i64 0)], none⟩,
          ⟨none, .st 2 (.tmp 9) (.tmp 20), none⟩])
       (.drw [⟨(some 21), .mv (.tmp 7), none⟩,
         ⟨(some 22), .ld (some 2) (.tmp 9), none⟩,
         ⟨(some 23), .mv (.tmp 0), none⟩,
         ⟨(some 24), .mv (.tmp 2), none⟩,
         ⟨(some 25), .call 18 [(.tmp 23), (.tmp 24)], none⟩,
         ⟨(some 26), .bld [(.int .i64 0), (.int .i64 0), (.int .i64 0), (.int .i64 0)] [(0, 2, (.tmp 22)), (2, 2, (.tmp 25))], none⟩,
         ⟨(some 27), .bsl [(.int .i64 0), (.int .i64 0), (.int .i64 0), (.int .i64 0)] 1 [(0, 4, (.tmp 26))], none⟩,
         ⟨(some 28), .app 36 4 32 [(.int .i64 0), (.int .i64 0), (.int .i64 0), (.int .i64 0)] (.tmp 21) (.tmp 27), none⟩,
         ⟨(some 7), .mv (.tmp 28), none⟩] [[], [], [], [], [2, 3], [1, 4], [5], [0, 6, 4], [7, 7, 0, 1, 2, 3, 4, 5, 6, 7]])))
     (.reg [⟨(some 16), .mv (.tmp 8), none⟩,
       ⟨(some 17), .bin .sub (.tmp 16) (.const (.int .i64 1)), none⟩,
       ⟨(some 8), .mv (.tmp 17), none⟩]))))))
  (.seq (.reg [⟨(some 29), .mv (.tmp 7), none⟩,
     ⟨(some 6), .mv (.tmp 29), none⟩])
  .ret))))
def glyphicmake_Edges_v1.l0 : Nat → Int → List (Int) → Int → List (Int × Int × Int × Int) → Int → Option (List (Int × Int × Int × Int) × Int)
  | 0, _, _, _, _, _ => none
  | k + 1, far2, m0_0, x111, y113, x114 => if x111 > 0 then ((glyphicmake_Point_v1.f far2 m0_0 x114).bind fun (t116, t117, t118) => ((glyphicmake_Point_v1.f far2 m0_0 t118).bind fun (t121, t122, t123) => ((lapp y113 ([(t116, t117, t121, t122)] : List (Int × Int × Int × Int))).bind fun y126 => (glyphicmake_Edges_v1.l0 k far2 m0_0 (wr64 (x111 - 1)) y126 t123)))) else (some (y113, x114))
def glyphicmake_Edges_v1.f (k : Nat) (most1 : Int) (far2 : Int) (m0_0 : List (Int)) (m0_1 : Int) : Option (List (Int × Int × Int × Int) × Int) := ((glyphicmake_Seq_Next_v1.f (wr64 (most1 + 1)) m0_0 m0_1).bind fun (t108, t109) => (glyphicmake_Edges_v1.l0 k far2 m0_0 t108 ([] : List (Int × Int × Int × Int)) t109) : Option (List (Int × Int × Int × Int) × Int)).bind fun (y132, x133) => (some (y132, x133))
theorem glyphicmake_Edges_v1.ok {S : Seal} {B0 : Nat} {k : Nat} {most1 : Int} {far2 : Int} {m0_0 : List (Int)} {m0_1 : Int} {r0_ : List (Int × Int × Int × Int)} {r1_ : Int}{a_m0_0 : Option Addr} {c_m0_0 : Nat} (h_m0_0 : SlE S E_i64 m0_0 a_m0_0) (e : glyphicmake_Edges_v1.f k most1 far2 m0_0 m0_1 = some (r0_, r1_)) :
    Cal Try.prog 17 [.pointer (some ⟨B0, 0, none⟩), .int .i64 most1, .int .i64 far2] ([⟨B0, [.slice a_m0_0 m0_0.length c_m0_0, .int .i64 m0_1], 2⟩] : List Own) S fun v H' S' => ∃ (N0_ : Option Nat) (nN0_ : Nat) , v = .slice (ad N0_) r0_.length (nN0_ / 4) ∧ H' = ([⟨N0_, encL E_i644 r0_, nN0_⟩, ⟨B0, [.slice a_m0_0 m0_0.length c_m0_0, .int .i64 r1_], 2⟩] : List Own) ∧ S' = S := by
  unfold glyphicmake_Edges_v1.f at e
  refine cal_of (c := c17) (N := 30) Try.func17 rfl rfl (by kernel_rfl) (rs := [.t 6]) (by kernel_rfl) (Nat.le_of_ble_eq_true rfl) ?_
  unfold c17
  refine w_seq ?_
  refine w_reg fun all => ?_
  refine t_qz 1 [0, 1, 2] (σ' := [(0, .pointer (some ⟨B0, 0, none⟩)), (1, .int .i64 most1), (2, .int .i64 far2)]) (by kernel_rfl) ?_
  refine t_end ?_
  show W _ _ _ _ _ _ _
  refine w_seq ?_
  refine w_reg fun all => ?_
  refine t_qz 1 [0, 1, 2, 7] (σ' := [(0, .pointer (some ⟨B0, 0, none⟩)), (1, .int .i64 most1), (2, .int .i64 far2), (7, .slice none 0 0)]) (by kernel_rfl) ?_
  refine t_end ?_
  show W _ _ _ _ _ _ _
  obtain ⟨⟨y132, x133⟩, e106, e⟩ := bind_of e
  try dsimp only at e
  refine w_cut [7] (fun σ_ H_ S_ => ∃ (a131 : Option Nat) (na131 : Nat), [(7, .slice (ad a131) y132.length (na131 / 4))] = σ_ ∧ ([⟨B0, [.slice a_m0_0 m0_0.length c_m0_0, .int .i64 x133], 2⟩, ⟨a131, encL E_i644 y132, na131⟩] : List Own) = H_ ∧ S = S_) ?_ ?_
  · show W _ _ _ _ _ _ _
    refine w_seq ?_
    refine w_reg fun all => ?_
    obtain ⟨⟨t108, t109⟩, h110, e106⟩ := bind_of e106
    try dsimp only at e106
    refine t_qz 3 [0, 2, 7, 10, 12] (σ' := [(0, .pointer (some ⟨B0, 0, none⟩)), (2, .int .i64 far2), (7, .slice none 0 0), (10, .pointer (some ⟨B0, 0, none⟩)), (12, .int .i64 (wr64 (most1 + 1)))]) (by kernel_rfl) ?_
    refine t_call (vs := [.pointer (some ⟨B0, 0, none⟩), .int .i64 (wr64 (most1 + 1))]) (H1 := ([⟨B0, [.slice a_m0_0 m0_0.length c_m0_0, .int .i64 m0_1], 2⟩] : List Own)) (F := ([] : List Own)) rfl rfl (by kernel_rfl) (sel_perm (is := [0]) (by kernel_rfl)) (glyphicmake_Seq_Next_v1.ok h_m0_0 h110) ?_
    rintro _ _ S_ ⟨rfl, rfl, hS_⟩
    obtain rfl := hS_.symm
    refine t_qz 1 [0, 2, 7, 8] (σ' := [(0, .pointer (some ⟨B0, 0, none⟩)), (2, .int .i64 far2), (7, .slice none 0 0), (8, .int .i64 t108)]) (by kernel_rfl) ?_
    refine t_end ?_
    show W _ _ _ _ _ _ _
    refine w_block ?_
    refine w_vs VS.vac ?_
    refine w_kp [0, 2, 7, 8] (σ' := [(0, .pointer (some ⟨B0, 0, none⟩)), (2, .int .i64 far2), (7, .slice (ad none) ([] : List (Int × Int × Int × Int)).length (0 / 4)), (8, .int .i64 t108)]) (by kernel_rfl) ?_
    refine w_loop (fun n_ σ_ H_ S_ => ∃ (x111 : Int) (y113 : List (Int × Int × Int × Int)) (x114 : Int), ∃ (a112 : Option Nat) (na112 : Nat), [(0, .pointer (some ⟨B0, 0, none⟩)), (2, .int .i64 far2), (7, .slice (ad a112) y113.length (na112 / 4)), (8, .int .i64 x111)] = σ_ ∧ ([⟨a112, encL E_i644 y113, na112⟩, ⟨B0, [.slice a_m0_0 m0_0.length c_m0_0, .int .i64 x114], 2⟩] : List Own) = H_ ∧ S = S_ ∧ glyphicmake_Edges_v1.l0 n_ far2 m0_0 x111 y113 x114 = some (y132, x133)) _ ⟨t108, ([] : List (Int × Int × Int × Int)), t109, none, 0, rfl, rfl, rfl, e106⟩ ?_
    rintro n130 σ_ H_ S_ ⟨x111, y113, x114, a112, na112, rfl, rfl, rfl, e106⟩
    cases n130 with
    | zero => rw [glyphicmake_Edges_v1.l0.eq_1] at e106; cases e106
    | succ k_ =>
      rw [glyphicmake_Edges_v1.l0.eq_2] at e106
      refine w_seq ?_
      refine w_seq ?_
      refine w_reg fun all => ?_
      by_cases c115 : x111 > 0
      · rw [if_pos c115] at e106
        have c115b : (decide (x111 > 0)) = true := decide_eq_true c115
        refine t_qz 1 [0, 2, 7, 8, 14] (σ' := [(0, .pointer (some ⟨B0, 0, none⟩)), (2, .int .i64 far2), (7, .slice (ad a112) y113.length (na112 / 4)), (8, .int .i64 x111), (14, .int .i64 x111)]) (by kernel_rfl) ?_
        refine t_v (dv_quiet rfl (congrArg (fun t => some (Value.bool t)) c115b)) ?_
        refine t_keep [0, 2, 7, 8, 15] (σ' := [(0, .pointer (some ⟨B0, 0, none⟩)), (2, .int .i64 far2), (7, .slice (ad a112) y113.length (na112 / 4)), (8, .int .i64 x111), (15, .bool true)]) (by kernel_rfl) ?_
        refine t_end ?_
        show W _ _ _ _ _ _ _
        refine w_cond rfl (fun _ => ?_) (fun c_ => by cases c_)
        show W _ _ _ _ _ _ _
        refine w_skip ?_
        show W _ _ _ _ _ _ _
        refine w_seq ?_
        refine w_block ?_
        refine w_seq ?_
        refine w_reg fun all => ?_
        obtain ⟨⟨t116, t117, t118⟩, h119, e106⟩ := bind_of e106
        try dsimp only at e106
        refine t_qz 2 [0, 2, 7, 8, 18, 19] (σ' := [(0, .pointer (some ⟨B0, 0, none⟩)), (2, .int .i64 far2), (7, .slice (ad a112) y113.length (na112 / 4)), (8, .int .i64 x111), (18, .pointer (some ⟨B0, 0, none⟩)), (19, .int .i64 far2)]) (by kernel_rfl) ?_
        refine t_call (vs := [.pointer (some ⟨B0, 0, none⟩), .int .i64 far2]) (H1 := ([⟨B0, [.slice a_m0_0 m0_0.length c_m0_0, .int .i64 x114], 2⟩] : List Own)) (F := ([⟨a112, encL E_i644 y113, na112⟩] : List Own)) rfl rfl (by kernel_rfl) (sel_perm (is := [1]) (by kernel_rfl)) (glyphicmake_Point_v1.ok h_m0_0 h119) ?_
        rintro _ _ S_ ⟨rfl, rfl, hS_⟩
        obtain rfl := hS_.symm
        refine t_a (.new rfl rfl) fun b120 fb120 sb120 => ?_
        refine t_sti 0 (cs := [.int .i64 t116, .int .i64 t117]) rfl rfl rfl rfl rfl rfl rfl rfl rfl ?_
        refine t_keep [0, 2, 7, 8, 9] (σ' := [(0, .pointer (some ⟨B0, 0, none⟩)), (2, .int .i64 far2), (7, .slice (ad a112) y113.length (na112 / 4)), (8, .int .i64 x111), (9, .pointer (some ⟨b120, 0, none⟩))]) (by kernel_rfl) ?_
        refine t_end ?_
        show W _ _ _ _ _ _ _
        obtain ⟨⟨t121, t122, t123⟩, h124, e106⟩ := bind_of e106
        try dsimp only at e106
        obtain ⟨y126, hl127, e106⟩ := bind_of e106
        refine w_kp [0, 2, 7, 8, 9] (σ' := [(0, .pointer (some ⟨B0, 0, none⟩)), (2, .int .i64 far2), (7, .slice (ad a112) y113.length (na112 / 4)), (8, .int .i64 x111), (9, .pointer (some ⟨b120, 0, none⟩))]) (by kernel_rfl) ?_
        refine w_gameQ mixed (by kernel_rfl) fun all G hend hstep hqf => ?_
        have hg_1ff : ∀ (g128 : Option Nat) (ng128 : Nat) (g125 : Nat), G [true, true, true, true, true, true, true, true, true] [(0, .pointer (some ⟨B0, 0, none⟩)), (2, .int .i64 far2), (7, .slice (ad g128) y126.length (ng128 / 4)), (8, .int .i64 x111)] ([⟨g128, encL E_i644 y126, ng128⟩, ⟨g125, [.int .i64 t116, .int .i64 t117, .int .i64 t121, .int .i64 t122], 4⟩, ⟨B0, [.slice a_m0_0 m0_0.length c_m0_0, .int .i64 t123], 2⟩, ⟨b120, [.int .i64 t116, .int .i64 t117], 2⟩] : List Own) := by
          intro g128 ng128 g125
          refine hend _ _ _ (by kernel_rfl) ?_
          show W _ _ _ _ _ _ _
          refine w_reg fun all => ?_
          refine t_qz 3 [0, 2, 7, 8] (σ' := [(0, .pointer (some ⟨B0, 0, none⟩)), (2, .int .i64 far2), (7, .slice (ad g128) y126.length (ng128 / 4)), (8, .int .i64 (wr64 (x111 - 1)))]) (by kernel_rfl) ?_
          refine t_end ?_
          exact ⟨k_, Nat.lt_succ_self _, [(0, .pointer (some ⟨B0, 0, none⟩)), (2, .int .i64 far2), (7, .slice (ad g128) y126.length (ng128 / 4)), (8, .int .i64 (wr64 (x111 - 1)))], ([⟨g128, encL E_i644 y126, ng128⟩, ⟨B0, [.slice a_m0_0 m0_0.length c_m0_0, .int .i64 t123], 2⟩] : List Own), S, keep_sub [0, 2, 7, 8] (by kernel_rfl), VS.sel [0, 1] (by kernel_rfl), wr64 (x111 - 1), y126, t123, g128, ng128, rfl, rfl, rfl, e106⟩
        have hg_ff : ∀ (g128 : Option Nat) (ng128 : Nat) (g125 : Nat), G [true, true, true, true, true, true, true, true, false] [(0, .pointer (some ⟨B0, 0, none⟩)), (2, .int .i64 far2), (7, .slice (ad a112) y113.length (na112 / 4)), (8, .int .i64 x111), (28, .slice (ad g128) y126.length (ng128 / 4))] ([⟨g128, encL E_i644 y126, ng128⟩, ⟨g125, [.int .i64 t116, .int .i64 t117, .int .i64 t121, .int .i64 t122], 4⟩, ⟨B0, [.slice a_m0_0 m0_0.length c_m0_0, .int .i64 t123], 2⟩, ⟨b120, [.int .i64 t116, .int .i64 t117], 2⟩] : List Own) := by
          intro g128 ng128 g125
          exact hqf 8 [0, 2, 7, 8] _ _ _ [(0, .pointer (some ⟨B0, 0, none⟩)), (2, .int .i64 far2), (7, .slice (ad g128) y126.length (ng128 / 4)), (8, .int .i64 x111)] (by kernel_rfl) (by kernel_rfl) (hg_1ff g128 ng128 g125)
        have hg_7f : ∀ (g125 : Nat), G [true, true, true, true, true, true, true, false, false] [(0, .pointer (some ⟨B0, 0, none⟩)), (2, .int .i64 far2), (7, .slice (ad a112) y113.length (na112 / 4)), (8, .int .i64 x111), (21, .slice (ad a112) y113.length (na112 / 4)), (27, .slice (some ⟨g125, 0, none⟩) 1 1)] ([⟨g125, [.int .i64 t116, .int .i64 t117, .int .i64 t121, .int .i64 t122], 4⟩, ⟨B0, [.slice a_m0_0 m0_0.length c_m0_0, .int .i64 t123], 2⟩, ⟨b120, [.int .i64 t116, .int .i64 t117], 2⟩, ⟨a112, encL E_i644 y113, na112⟩] : List Own) := by
          intro g125
          refine hstep [7] _ _ _ (by kernel_rfl) (List.cons_ne_nil _ _) ⟨?_, trivial⟩
          · show T _ _ _ _ _ _ _ _
            refine t_appX (E := E_i644) (L := y113) (X := ([(t116, t117, t121, t122)] : List (Int × Int × Int × Int))) (F := ([⟨g125, [.int .i64 t116, .int .i64 t117, .int .i64 t121, .int .i64 t122], 4⟩, ⟨B0, [.slice a_m0_0 m0_0.length c_m0_0, .int .i64 t123], 2⟩, ⟨b120, [.int .i64 t116, .int .i64 t117], 2⟩] : List Own)) rfl rfl rfl rfl (sel_perm (is := [3]) (by kernel_rfl)) rfl (Or.inr ⟨_, _, rfl, .at 0 rfl (by kernel_rfl)⟩) rfl (by decide) (by decide) rfl hl127 fun g128 ng128 => ?_
            refine t_keep [0, 2, 7, 8, 28] (σ' := [(0, .pointer (some ⟨B0, 0, none⟩)), (2, .int .i64 far2), (7, .slice (ad a112) y113.length (na112 / 4)), (8, .int .i64 x111), (28, .slice (ad g128) y126.length (ng128 / 4))]) (by kernel_rfl) ?_
            refine t_end ?_
            exact ⟨hg_ff g128 ng128 g125, rfl⟩
        have hg_3f : G [true, true, true, true, true, true, false, false, false] [(0, .pointer (some ⟨B0, 0, none⟩)), (2, .int .i64 far2), (7, .slice (ad a112) y113.length (na112 / 4)), (8, .int .i64 x111), (21, .slice (ad a112) y113.length (na112 / 4)), (26, .agg #[.int .i64 t116, .int .i64 t117, .int .i64 t121, .int .i64 t122])] ([⟨B0, [.slice a_m0_0 m0_0.length c_m0_0, .int .i64 t123], 2⟩, ⟨b120, [.int .i64 t116, .int .i64 t117], 2⟩, ⟨a112, encL E_i644 y113, na112⟩] : List Own) := by
          refine hstep [6] _ _ _ (by kernel_rfl) (List.cons_ne_nil _ _) ⟨?_, trivial⟩
          · show T _ _ _ _ _ _ _ _
            refine t_a (.bsl rfl rfl rfl rfl) fun g125 fg125 sg125 => ?_
            refine t_keep [0, 2, 7, 8, 21, 27] (σ' := [(0, .pointer (some ⟨B0, 0, none⟩)), (2, .int .i64 far2), (7, .slice (ad a112) y113.length (na112 / 4)), (8, .int .i64 x111), (21, .slice (ad a112) y113.length (na112 / 4)), (27, .slice (some ⟨g125, 0, none⟩) 1 1)]) (by kernel_rfl) ?_
            refine t_end ?_
            exact ⟨hg_7f g125, rfl⟩
        have hg_1f : G [true, true, true, true, true, false, false, false, false] [(0, .pointer (some ⟨B0, 0, none⟩)), (2, .int .i64 far2), (7, .slice (ad a112) y113.length (na112 / 4)), (8, .int .i64 x111), (21, .slice (ad a112) y113.length (na112 / 4)), (22, .agg #[.int .i64 t116, .int .i64 t117]), (25, .agg #[.int .i64 t121, .int .i64 t122])] ([⟨B0, [.slice a_m0_0 m0_0.length c_m0_0, .int .i64 t123], 2⟩, ⟨b120, [.int .i64 t116, .int .i64 t117], 2⟩, ⟨a112, encL E_i644 y113, na112⟩] : List Own) := by
          exact hqf 5 [0, 2, 7, 8, 21, 26] _ _ _ [(0, .pointer (some ⟨B0, 0, none⟩)), (2, .int .i64 far2), (7, .slice (ad a112) y113.length (na112 / 4)), (8, .int .i64 x111), (21, .slice (ad a112) y113.length (na112 / 4)), (26, .agg #[.int .i64 t116, .int .i64 t117, .int .i64 t121, .int .i64 t122])] (by kernel_rfl) (by kernel_rfl) hg_3f
        have hg_f : G [true, true, true, true, false, false, false, false, false] [(0, .pointer (some ⟨B0, 0, none⟩)), (2, .int .i64 far2), (7, .slice (ad a112) y113.length (na112 / 4)), (8, .int .i64 x111), (21, .slice (ad a112) y113.length (na112 / 4)), (22, .agg #[.int .i64 t116, .int .i64 t117]), (23, .pointer (some ⟨B0, 0, none⟩)), (24, .int .i64 far2)] ([⟨b120, [.int .i64 t116, .int .i64 t117], 2⟩, ⟨B0, [.slice a_m0_0 m0_0.length c_m0_0, .int .i64 t118], 2⟩, ⟨a112, encL E_i644 y113, na112⟩] : List Own) := by
          refine hstep [4] _ _ _ (by kernel_rfl) (List.cons_ne_nil _ _) ⟨?_, trivial⟩
          · show T _ _ _ _ _ _ _ _
            refine t_call (vs := [.pointer (some ⟨B0, 0, none⟩), .int .i64 far2]) (H1 := ([⟨B0, [.slice a_m0_0 m0_0.length c_m0_0, .int .i64 t118], 2⟩] : List Own)) (F := ([⟨b120, [.int .i64 t116, .int .i64 t117], 2⟩, ⟨a112, encL E_i644 y113, na112⟩] : List Own)) rfl rfl (by kernel_rfl) (sel_perm (is := [1]) (by kernel_rfl)) (glyphicmake_Point_v1.ok h_m0_0 h124) ?_
            rintro _ _ S_ ⟨rfl, rfl, hS_⟩
            obtain rfl := hS_.symm
            refine t_keep [0, 2, 7, 8, 21, 22, 25] (σ' := [(0, .pointer (some ⟨B0, 0, none⟩)), (2, .int .i64 far2), (7, .slice (ad a112) y113.length (na112 / 4)), (8, .int .i64 x111), (21, .slice (ad a112) y113.length (na112 / 4)), (22, .agg #[.int .i64 t116, .int .i64 t117]), (25, .agg #[.int .i64 t121, .int .i64 t122])]) (by kernel_rfl) ?_
            refine t_end ?_
            exact ⟨hg_1f, rfl⟩
        have hg_1d : G [true, false, true, true, true, false, false, false, false] [(0, .pointer (some ⟨B0, 0, none⟩)), (2, .int .i64 far2), (7, .slice (ad a112) y113.length (na112 / 4)), (8, .int .i64 x111), (9, .pointer (some ⟨b120, 0, none⟩)), (21, .slice (ad a112) y113.length (na112 / 4)), (25, .agg #[.int .i64 t121, .int .i64 t122])] ([⟨B0, [.slice a_m0_0 m0_0.length c_m0_0, .int .i64 t123], 2⟩, ⟨b120, [.int .i64 t116, .int .i64 t117], 2⟩, ⟨a112, encL E_i644 y113, na112⟩] : List Own) := by
          refine hstep [1] _ _ _ (by kernel_rfl) (List.cons_ne_nil _ _) ⟨?_, trivial⟩
          · show T _ _ _ _ _ _ _ _
            refine t_v (.ldn rfl rfl rfl (.at 1 rfl rfl)) ?_
            refine t_keep [0, 2, 7, 8, 21, 22, 25] (σ' := [(0, .pointer (some ⟨B0, 0, none⟩)), (2, .int .i64 far2), (7, .slice (ad a112) y113.length (na112 / 4)), (8, .int .i64 x111), (21, .slice (ad a112) y113.length (na112 / 4)), (22, .agg #[.int .i64 t116, .int .i64 t117]), (25, .agg #[.int .i64 t121, .int .i64 t122])]) (by kernel_rfl) ?_
            refine t_end ?_
            exact ⟨hg_1f, rfl⟩
        have hg_d : G [true, false, true, true, false, false, false, false, false] [(0, .pointer (some ⟨B0, 0, none⟩)), (2, .int .i64 far2), (7, .slice (ad a112) y113.length (na112 / 4)), (8, .int .i64 x111), (9, .pointer (some ⟨b120, 0, none⟩)), (21, .slice (ad a112) y113.length (na112 / 4)), (23, .pointer (some ⟨B0, 0, none⟩)), (24, .int .i64 far2)] ([⟨b120, [.int .i64 t116, .int .i64 t117], 2⟩, ⟨B0, [.slice a_m0_0 m0_0.length c_m0_0, .int .i64 t118], 2⟩, ⟨a112, encL E_i644 y113, na112⟩] : List Own) := by
          refine hstep [1, 4] _ _ _ (by kernel_rfl) (List.cons_ne_nil _ _) ⟨?_, ?_, trivial⟩
          · show T _ _ _ _ _ _ _ _
            refine t_v (.ldn rfl rfl rfl (.at 0 rfl rfl)) ?_
            refine t_keep [0, 2, 7, 8, 21, 22, 23, 24] (σ' := [(0, .pointer (some ⟨B0, 0, none⟩)), (2, .int .i64 far2), (7, .slice (ad a112) y113.length (na112 / 4)), (8, .int .i64 x111), (21, .slice (ad a112) y113.length (na112 / 4)), (22, .agg #[.int .i64 t116, .int .i64 t117]), (23, .pointer (some ⟨B0, 0, none⟩)), (24, .int .i64 far2)]) (by kernel_rfl) ?_
            refine t_end ?_
            exact ⟨hg_f, rfl⟩
          · show T _ _ _ _ _ _ _ _
            refine t_call (vs := [.pointer (some ⟨B0, 0, none⟩), .int .i64 far2]) (H1 := ([⟨B0, [.slice a_m0_0 m0_0.length c_m0_0, .int .i64 t118], 2⟩] : List Own)) (F := ([⟨b120, [.int .i64 t116, .int .i64 t117], 2⟩, ⟨a112, encL E_i644 y113, na112⟩] : List Own)) rfl rfl (by kernel_rfl) (sel_perm (is := [1]) (by kernel_rfl)) (glyphicmake_Point_v1.ok h_m0_0 h124) ?_
            rintro _ _ S_ ⟨rfl, rfl, hS_⟩
            obtain rfl := hS_.symm
            refine t_keep [0, 2, 7, 8, 9, 21, 25] (σ' := [(0, .pointer (some ⟨B0, 0, none⟩)), (2, .int .i64 far2), (7, .slice (ad a112) y113.length (na112 / 4)), (8, .int .i64 x111), (9, .pointer (some ⟨b120, 0, none⟩)), (21, .slice (ad a112) y113.length (na112 / 4)), (25, .agg #[.int .i64 t121, .int .i64 t122])]) (by kernel_rfl) ?_
            refine t_end ?_
            exact ⟨hg_1d, rfl⟩
        have hg_5 : G [true, false, true, false, false, false, false, false, false] [(0, .pointer (some ⟨B0, 0, none⟩)), (2, .int .i64 far2), (7, .slice (ad a112) y113.length (na112 / 4)), (8, .int .i64 x111), (9, .pointer (some ⟨b120, 0, none⟩)), (21, .slice (ad a112) y113.length (na112 / 4)), (23, .pointer (some ⟨B0, 0, none⟩))] ([⟨b120, [.int .i64 t116, .int .i64 t117], 2⟩, ⟨B0, [.slice a_m0_0 m0_0.length c_m0_0, .int .i64 t118], 2⟩, ⟨a112, encL E_i644 y113, na112⟩] : List Own) := by
          exact hqf 3 [0, 2, 7, 8, 9, 21, 23, 24] _ _ _ [(0, .pointer (some ⟨B0, 0, none⟩)), (2, .int .i64 far2), (7, .slice (ad a112) y113.length (na112 / 4)), (8, .int .i64 x111), (9, .pointer (some ⟨b120, 0, none⟩)), (21, .slice (ad a112) y113.length (na112 / 4)), (23, .pointer (some ⟨B0, 0, none⟩)), (24, .int .i64 far2)] (by kernel_rfl) (by kernel_rfl) hg_d
        have hg_1 : G [true, false, false, false, false, false, false, false, false] [(0, .pointer (some ⟨B0, 0, none⟩)), (2, .int .i64 far2), (7, .slice (ad a112) y113.length (na112 / 4)), (8, .int .i64 x111), (9, .pointer (some ⟨b120, 0, none⟩)), (21, .slice (ad a112) y113.length (na112 / 4))] ([⟨b120, [.int .i64 t116, .int .i64 t117], 2⟩, ⟨B0, [.slice a_m0_0 m0_0.length c_m0_0, .int .i64 t118], 2⟩, ⟨a112, encL E_i644 y113, na112⟩] : List Own) := by
          exact hqf 2 [0, 2, 7, 8, 9, 21, 23] _ _ _ [(0, .pointer (some ⟨B0, 0, none⟩)), (2, .int .i64 far2), (7, .slice (ad a112) y113.length (na112 / 4)), (8, .int .i64 x111), (9, .pointer (some ⟨b120, 0, none⟩)), (21, .slice (ad a112) y113.length (na112 / 4)), (23, .pointer (some ⟨B0, 0, none⟩))] (by kernel_rfl) (by kernel_rfl) hg_5
        have hg_0 : G [false, false, false, false, false, false, false, false, false] [(0, .pointer (some ⟨B0, 0, none⟩)), (2, .int .i64 far2), (7, .slice (ad a112) y113.length (na112 / 4)), (8, .int .i64 x111), (9, .pointer (some ⟨b120, 0, none⟩))] ([⟨b120, [.int .i64 t116, .int .i64 t117], 2⟩, ⟨B0, [.slice a_m0_0 m0_0.length c_m0_0, .int .i64 t118], 2⟩, ⟨a112, encL E_i644 y113, na112⟩] : List Own) := by
          exact hqf 0 [0, 2, 7, 8, 9, 21] _ _ _ [(0, .pointer (some ⟨B0, 0, none⟩)), (2, .int .i64 far2), (7, .slice (ad a112) y113.length (na112 / 4)), (8, .int .i64 x111), (9, .pointer (some ⟨b120, 0, none⟩)), (21, .slice (ad a112) y113.length (na112 / 4))] (by kernel_rfl) (by kernel_rfl) hg_1
        exact hg_0
      · rw [if_neg c115] at e106
        have c115b : (decide (x111 > 0)) = false := decide_eq_false c115
        refine t_qz 1 [0, 2, 7, 8, 14] (σ' := [(0, .pointer (some ⟨B0, 0, none⟩)), (2, .int .i64 far2), (7, .slice (ad a112) y113.length (na112 / 4)), (8, .int .i64 x111), (14, .int .i64 x111)]) (by kernel_rfl) ?_
        refine t_v (dv_quiet rfl (congrArg (fun t => some (Value.bool t)) c115b)) ?_
        refine t_keep [0, 2, 7, 8, 15] (σ' := [(0, .pointer (some ⟨B0, 0, none⟩)), (2, .int .i64 far2), (7, .slice (ad a112) y113.length (na112 / 4)), (8, .int .i64 x111), (15, .bool false)]) (by kernel_rfl) ?_
        refine t_end ?_
        show W _ _ _ _ _ _ _
        refine w_cond rfl (fun c_ => by cases c_) (fun _ => ?_)
        show W _ _ _ _ _ _ _
        refine w_exit ?_
        simp only [Option.some.injEq, Prod.mk.injEq] at e106
        obtain ⟨rfl, rfl⟩ := e106
        exact ⟨([⟨B0, [.slice a_m0_0 m0_0.length c_m0_0, .int .i64 x114], 2⟩, ⟨a112, encL E_i644 y113, na112⟩] : List Own), S, VS.sel [1, 0] (by kernel_rfl), a112, na112, by kernel_rfl, rfl, rfl⟩
  · rintro σ_ H_ S_ ⟨a131, na131, rfl, rfl, rfl⟩
    refine w_seq ?_
    refine w_reg fun all => ?_
    refine t_qz 2 [6] (σ' := [(6, .slice (ad a131) y132.length (na131 / 4))]) (by kernel_rfl) ?_
    refine t_end ?_
    show W _ _ _ _ _ _ _
    refine w_ret ?_
    simp only [Option.some.injEq, Prod.mk.injEq] at e
    obtain ⟨rfl, rfl⟩ := e
    exact ⟨[.slice (ad a131) y132.length (na131 / 4)], ([⟨a131, encL E_i644 y132, na131⟩, ⟨B0, [.slice a_m0_0 m0_0.length c_m0_0, .int .i64 x133], 2⟩] : List Own), S, ⟨rfl, trivial⟩, VS.sel [1, 0] (by kernel_rfl), a131, na131, rfl, rfl, rfl⟩

def plane_Sub.f (a0_X : Int) (a0_Y : Int) (b1_X : Int) (b1_Y : Int) : Option (Int × Int) := some (wr64 (a0_X - b1_X), wr64 (a0_Y - b1_Y))
theorem plane_Sub.ok {S : Seal} {a0_X : Int} {a0_Y : Int} {b1_X : Int} {b1_Y : Int} {r0_ : Int} {r1_ : Int}(e : plane_Sub.f a0_X a0_Y b1_X b1_Y = some (r0_, r1_)) :
    Cal Try.prog 116 [.agg #[.int .i64 a0_X, .int .i64 a0_Y], .agg #[.int .i64 b1_X, .int .i64 b1_Y]] [] S fun v H' S' => v = .agg #[.int .i64 r0_, .int .i64 r1_] ∧ H' = [] ∧ S' = S := by
  unfold plane_Sub.f at e
  refine cal_of (c := c116) (N := 16) Try.func116 rfl rfl (by kernel_rfl) (rs := [.cn 2 4]) (by kernel_rfl) (Nat.le_of_ble_eq_true rfl) ?_
  unfold c116
  refine w_seq ?_
  refine w_reg fun all => ?_
  refine t_a (.box rfl rfl rfl) fun b171 fb171 sb171 => ?_
  refine t_a (.box rfl rfl rfl) fun b172 fb172 sb172 => ?_
  refine t_a (.new rfl rfl) fun b173 fb173 sb173 => ?_
  refine t_keep [2, 3, 4] (σ' := [(2, .pointer (some ⟨b171, 0, none⟩)), (3, .pointer (some ⟨b172, 0, none⟩)), (4, .pointer (some ⟨b173, 0, none⟩))]) (by kernel_rfl) ?_
  refine t_end ?_
  show W _ _ _ _ _ _ _
  refine w_seq ?_
  refine w_reg fun all => ?_
  refine t_qz 1 [2, 3, 4, 5] (σ' := [(2, .pointer (some ⟨b171, 0, none⟩)), (3, .pointer (some ⟨b172, 0, none⟩)), (4, .pointer (some ⟨b173, 0, none⟩)), (5, .pointer (some ⟨b171, 0, none⟩))]) (by kernel_rfl) ?_
  refine t_v (.ld1 rfl rfl rfl (.at 2 rfl rfl)) ?_
  refine t_qz 1 [2, 3, 4, 6, 7] (σ' := [(2, .pointer (some ⟨b171, 0, none⟩)), (3, .pointer (some ⟨b172, 0, none⟩)), (4, .pointer (some ⟨b173, 0, none⟩)), (6, .int .i64 a0_X), (7, .pointer (some ⟨b172, 0, none⟩))]) (by kernel_rfl) ?_
  refine t_v (.ld1 rfl rfl rfl (.at 1 rfl rfl)) ?_
  refine t_qz 2 [3, 4, 9, 10] (σ' := [(3, .pointer (some ⟨b172, 0, none⟩)), (4, .pointer (some ⟨b173, 0, none⟩)), (9, .int .i64 (wr64 (a0_X - b1_X))), (10, .pointer (some ⟨b171, 1, none⟩))]) (by kernel_rfl) ?_
  refine t_v (.ld1 rfl rfl rfl (.at 2 rfl rfl)) ?_
  refine t_qz 1 [4, 9, 11, 12] (σ' := [(4, .pointer (some ⟨b173, 0, none⟩)), (9, .int .i64 (wr64 (a0_X - b1_X))), (11, .int .i64 a0_Y), (12, .pointer (some ⟨b172, 1, none⟩))]) (by kernel_rfl) ?_
  refine t_v (.ld1 rfl rfl rfl (.at 1 rfl rfl)) ?_
  refine t_qz 2 [4, 15] (σ' := [(4, .pointer (some ⟨b173, 0, none⟩)), (15, .agg #[.int .i64 (wr64 (a0_X - b1_X)), .int .i64 (wr64 (a0_Y - b1_Y))])]) (by kernel_rfl) ?_
  refine t_sti 0 (cs := [.int .i64 (wr64 (a0_X - b1_X)), .int .i64 (wr64 (a0_Y - b1_Y))]) rfl rfl rfl rfl rfl rfl rfl rfl rfl ?_
  refine t_keep [4] (σ' := [(4, .pointer (some ⟨b173, 0, none⟩))]) (by kernel_rfl) ?_
  refine t_end ?_
  show W _ _ _ _ _ _ _
  refine w_ret ?_
  simp only [Option.some.injEq, Prod.mk.injEq] at e
  obtain ⟨rfl, rfl⟩ := e
  exact ⟨[.agg #[.int .i64 (wr64 (a0_X - b1_X)), .int .i64 (wr64 (a0_Y - b1_Y))]], [], S, ⟨⟨_, _, _, rfl, .at 0 rfl rfl, rfl⟩, trivial⟩, VS.none, rfl, rfl, rfl⟩

def plane_Dot.f (a0_X : Int) (a0_Y : Int) (b1_X : Int) (b1_Y : Int) (p2_X : Int) (p2_Y : Int) : Option (Int) := (plane_Sub.f b1_X b1_Y a0_X a0_Y).bind fun (t171, t172) => ((plane_Sub.f p2_X p2_Y a0_X a0_Y).bind fun (t174, t175) => (some (wr64 ((wr64 (t171 * t174)) + (wr64 (t172 * t175))))))
theorem plane_Dot.ok {S : Seal} {a0_X : Int} {a0_Y : Int} {b1_X : Int} {b1_Y : Int} {p2_X : Int} {p2_Y : Int} {r0_ : Int}(e : plane_Dot.f a0_X a0_Y b1_X b1_Y p2_X p2_Y = some r0_) :
    Cal Try.prog 104 [.agg #[.int .i64 a0_X, .int .i64 a0_Y], .agg #[.int .i64 b1_X, .int .i64 b1_Y], .agg #[.int .i64 p2_X, .int .i64 p2_Y]] [] S fun v H' S' => v = .int .i64 r0_ ∧ H' = [] ∧ S' = S := by
  unfold plane_Dot.f at e
  refine cal_of (c := c104) (N := 26) Try.func104 rfl rfl (by kernel_rfl) (rs := [.t 6]) (by kernel_rfl) (Nat.le_of_ble_eq_true rfl) ?_
  unfold c104
  refine w_seq ?_
  refine w_reg fun all => ?_
  refine t_a (.box rfl rfl rfl) fun b168 fb168 sb168 => ?_
  refine t_a (.box rfl rfl rfl) fun b169 fb169 sb169 => ?_
  refine t_a (.box rfl rfl rfl) fun b170 fb170 sb170 => ?_
  refine t_qz 1 [3, 4, 5] (σ' := [(3, .pointer (some ⟨b168, 0, none⟩)), (4, .pointer (some ⟨b169, 0, none⟩)), (5, .pointer (some ⟨b170, 0, none⟩))]) (by kernel_rfl) ?_
  refine t_end ?_
  show W _ _ _ _ _ _ _
  refine w_seq ?_
  obtain ⟨⟨t171, t172⟩, h173, e⟩ := bind_of e
  try dsimp only at e
  obtain ⟨⟨t174, t175⟩, h176, e⟩ := bind_of e
  try dsimp only at e
  refine w_drwE mixed 8 [.v (.agg #[.int .i64 b1_X, .int .i64 b1_Y]), .v (.agg #[.int .i64 a0_X, .int .i64 a0_Y]), .v (.agg #[.int .i64 t171, .int .i64 t172]), .v (.agg #[.int .i64 p2_X, .int .i64 p2_Y]), .v (.agg #[.int .i64 a0_X, .int .i64 a0_Y]), .v (.agg #[.int .i64 t174, .int .i64 t175]), .a [.int .i64 0, .int .i64 0] ptrTo, .a [.int .i64 0, .int .i64 0] ptrTo] (by kernel_rfl) ?_ ?_
  · refine .cons (.ldn rfl rfl rfl (.at 1 rfl rfl)) ?_
    refine .cons (.ldn rfl rfl rfl (.at 2 rfl rfl)) ?_
    refine .cons (.call (vs := [.agg #[.int .i64 b1_X, .int .i64 b1_Y], .agg #[.int .i64 a0_X, .int .i64 a0_Y]]) rfl rfl (by kernel_rfl) (plane_Sub.ok h173)) ?_
    refine .cons (.ldn rfl rfl rfl (.at 0 rfl rfl)) ?_
    refine .cons (.ldn rfl rfl rfl (.at 2 rfl rfl)) ?_
    refine .cons (.call (vs := [.agg #[.int .i64 p2_X, .int .i64 p2_Y], .agg #[.int .i64 a0_X, .int .i64 a0_Y]]) rfl rfl (by kernel_rfl) (plane_Sub.ok h176)) ?_
    refine .cons (.new rfl rfl) ?_
    refine .cons (.new rfl rfl) ?_
    exact .nil
  refine fk_q 6 [11, 14] (σ' := [(11, .agg #[.int .i64 t171, .int .i64 t172]), (14, .agg #[.int .i64 t174, .int .i64 t175])]) t_more (by kernel_rfl) ?_
  refine fk_a fun b177 fb177 sb177 => ?_
  refine fk_a fun b178 fb178 sb178 => ?_
  refine fk_nil fun all => ?_
  refine t_sti 1 (cs := [.int .i64 t171, .int .i64 t172]) rfl rfl rfl rfl rfl rfl rfl rfl rfl ?_
  refine t_sti 0 (cs := [.int .i64 t174, .int .i64 t175]) rfl rfl rfl rfl rfl rfl rfl rfl rfl ?_
  refine t_keep [7, 8] (σ' := [(7, .pointer (some ⟨b177, 0, none⟩)), (8, .pointer (some ⟨b178, 0, none⟩))]) (by kernel_rfl) ?_
  refine t_end ?_
  show W _ _ _ _ _ _ _
  refine w_seq ?_
  refine w_reg fun all => ?_
  refine t_qz 1 [7, 8, 15] (σ' := [(7, .pointer (some ⟨b177, 0, none⟩)), (8, .pointer (some ⟨b178, 0, none⟩)), (15, .pointer (some ⟨b177, 0, none⟩))]) (by kernel_rfl) ?_
  refine t_v (.ld1 rfl rfl rfl (.at 1 rfl rfl)) ?_
  refine t_qz 1 [7, 8, 16, 17] (σ' := [(7, .pointer (some ⟨b177, 0, none⟩)), (8, .pointer (some ⟨b178, 0, none⟩)), (16, .int .i64 t171), (17, .pointer (some ⟨b178, 0, none⟩))]) (by kernel_rfl) ?_
  refine t_v (.ld1 rfl rfl rfl (.at 0 rfl rfl)) ?_
  refine t_qz 2 [8, 19, 20] (σ' := [(8, .pointer (some ⟨b178, 0, none⟩)), (19, .int .i64 (wr64 (t171 * t174))), (20, .pointer (some ⟨b177, 1, none⟩))]) (by kernel_rfl) ?_
  refine t_v (.ld1 rfl rfl rfl (.at 1 rfl rfl)) ?_
  refine t_qz 1 [19, 21, 22] (σ' := [(19, .int .i64 (wr64 (t171 * t174))), (21, .int .i64 t172), (22, .pointer (some ⟨b178, 1, none⟩))]) (by kernel_rfl) ?_
  refine t_v (.ld1 rfl rfl rfl (.at 0 rfl rfl)) ?_
  refine t_qz 3 [6] (σ' := [(6, .int .i64 (wr64 ((wr64 (t171 * t174)) + (wr64 (t172 * t175)))))]) (by kernel_rfl) ?_
  refine t_end ?_
  show W _ _ _ _ _ _ _
  refine w_ret ?_
  obtain rfl := Option.some.inj e
  exact ⟨[.int .i64 (wr64 ((wr64 (t171 * t174)) + (wr64 (t172 * t175))))], [], S, ⟨rfl, trivial⟩, VS.none, rfl, rfl, rfl⟩

def plane_Len2.f (a0_X : Int) (a0_Y : Int) (b1_X : Int) (b1_Y : Int) : Option (Int) := (plane_Dot.f a0_X a0_Y b1_X b1_Y b1_X b1_Y).bind fun t183 => (some t183)
theorem plane_Len2.ok {S : Seal} {a0_X : Int} {a0_Y : Int} {b1_X : Int} {b1_Y : Int} {r0_ : Int}(e : plane_Len2.f a0_X a0_Y b1_X b1_Y = some r0_) :
    Cal Try.prog 90 [.agg #[.int .i64 a0_X, .int .i64 a0_Y], .agg #[.int .i64 b1_X, .int .i64 b1_Y]] [] S fun v H' S' => v = .int .i64 r0_ ∧ H' = [] ∧ S' = S := by
  unfold plane_Len2.f at e
  refine cal_of (c := c90) (N := 9) Try.func90 rfl rfl (by kernel_rfl) (rs := [.t 4]) (by kernel_rfl) (Nat.le_of_ble_eq_true rfl) ?_
  unfold c90
  refine w_seq ?_
  refine w_reg fun all => ?_
  refine t_a (.box rfl rfl rfl) fun b181 fb181 sb181 => ?_
  refine t_a (.box rfl rfl rfl) fun b182 fb182 sb182 => ?_
  refine t_qz 1 [2, 3] (σ' := [(2, .pointer (some ⟨b181, 0, none⟩)), (3, .pointer (some ⟨b182, 0, none⟩))]) (by kernel_rfl) ?_
  refine t_end ?_
  show W _ _ _ _ _ _ _
  refine w_seq ?_
  refine w_reg fun all => ?_
  refine t_v (.ldn rfl rfl rfl (.at 1 rfl rfl)) ?_
  refine t_v (.ldn rfl rfl rfl (.at 0 rfl rfl)) ?_
  refine t_v (.ldn rfl rfl rfl (.at 0 rfl rfl)) ?_
  obtain ⟨t183, h184, e⟩ := bind_of e
  refine t_v (.call (vs := [.agg #[.int .i64 a0_X, .int .i64 a0_Y], .agg #[.int .i64 b1_X, .int .i64 b1_Y], .agg #[.int .i64 b1_X, .int .i64 b1_Y]]) rfl rfl (by kernel_rfl) (plane_Dot.ok h184)) ?_
  refine t_qz 1 [4] (σ' := [(4, .int .i64 t183)]) (by kernel_rfl) ?_
  refine t_end ?_
  show W _ _ _ _ _ _ _
  refine w_ret ?_
  obtain rfl := Option.some.inj e
  exact ⟨[.int .i64 t183], [], S, ⟨rfl, trivial⟩, VS.none, rfl, rfl, rfl⟩

def plane_within_1.f (n0 : Int) : Option (Int) := some (wru64 (mx n0 (wr64 (0 - n0))))
theorem plane_within_1.ok {S : Seal} {n0 : Int} {r0_ : Int}(e : plane_within_1.f n0 = some r0_) :
    Cal Try.prog 117 [.int .i64 n0] [] S fun v H' S' => v = .int .u64 r0_ ∧ H' = [] ∧ S' = S := by
  unfold plane_within_1.f at e
  refine cal_of (c := c117) (N := 8) Try.func117 rfl rfl (by kernel_rfl) (rs := [.t 2]) (by kernel_rfl) (Nat.le_of_ble_eq_true rfl) ?_
  unfold c117
  refine w_seq ?_
  refine w_reg fun all => ?_
  refine t_qz 1 [0] (σ' := [(0, .int .i64 n0)]) (by kernel_rfl) ?_
  refine t_end ?_
  show W _ _ _ _ _ _ _
  refine w_seq ?_
  refine w_reg fun all => ?_
  refine t_qz 6 [2] (σ' := [(2, .int .u64 (wru64 (mx n0 (wr64 (0 - n0)))))]) (by kernel_rfl) ?_
  refine t_end ?_
  show W _ _ _ _ _ _ _
  refine w_ret ?_
  obtain rfl := Option.some.inj e
  exact ⟨[.int .u64 (wru64 (mx n0 (wr64 (0 - n0))))], [], S, ⟨rfl, trivial⟩, VS.none, rfl, rfl, rfl⟩

def plane_within.f (a0 : Int) (b1 : Int) (c2 : Int) (d3 : Int) : Option (Bool) := (plane_within_1.f a0).bind fun t175 => ((plane_within_1.f b1).bind fun t177 => ((bits_Mul64.f t175 t177).bind fun (t179, t180) => ((plane_within_1.f c2).bind fun t182 => ((plane_within_1.f d3).bind fun t184 => ((bits_Mul64.f t182 t184).bind fun (t186, t187) => (if t179 < t186 then (some true) else (if t179 = t186 then (some (decide (t180 ≤ t187))) else (some false))))))))
theorem plane_within.ok {S : Seal} {a0 : Int} {b1 : Int} {c2 : Int} {d3 : Int} {r0_ : Bool}(e : plane_within.f a0 b1 c2 d3 = some r0_) :
    Cal Try.prog 105 [.int .i64 a0, .int .i64 b1, .int .i64 c2, .int .i64 d3] [] S fun v H' S' => v = .bool r0_ ∧ H' = [] ∧ S' = S := by
  unfold plane_within.f at e
  refine cal_of (c := c105) (N := 47) Try.func105 rfl rfl (by kernel_rfl) (rs := [.t 8]) (by kernel_rfl) (Nat.le_of_ble_eq_true rfl) ?_
  unfold c105
  refine w_seq ?_
  refine w_reg fun all => ?_
  refine t_qz 1 [0, 1, 2, 3] (σ' := [(0, .int .i64 a0), (1, .int .i64 b1), (2, .int .i64 c2), (3, .int .i64 d3)]) (by kernel_rfl) ?_
  refine t_end ?_
  show W _ _ _ _ _ _ _
  refine w_seq ?_
  refine w_reg fun all => ?_
  refine t_qz 1 [0, 1, 2, 3, 9] (σ' := [(0, .int .i64 a0), (1, .int .i64 b1), (2, .int .i64 c2), (3, .int .i64 d3), (9, .func (.func 117) #[] #[])]) (by kernel_rfl) ?_
  refine t_end ?_
  show W _ _ _ _ _ _ _
  refine w_seq ?_
  refine w_reg fun all => ?_
  obtain ⟨t175, h176, e⟩ := bind_of e
  refine t_qz 2 [1, 2, 3, 9, 15, 16] (σ' := [(1, .int .i64 b1), (2, .int .i64 c2), (3, .int .i64 d3), (9, .func (.func 117) #[] #[]), (15, .func (.func 117) #[] #[]), (16, .int .i64 a0)]) (by kernel_rfl) ?_
  refine t_v (.clor (vs := [.int .i64 a0]) (caps := #[]) (A := ([] : List Own)) (F0 := ([] : List Own)) rfl rfl rfl (by kernel_rfl) (by kernel_rfl) (sel_perm (is := []) (by kernel_rfl)) (plane_within_1.ok h176)) ?_
  obtain ⟨t177, h178, e⟩ := bind_of e
  refine t_qz 2 [2, 3, 9, 17, 18, 19] (σ' := [(2, .int .i64 c2), (3, .int .i64 d3), (9, .func (.func 117) #[] #[]), (17, .int .u64 t175), (18, .func (.func 117) #[] #[]), (19, .int .i64 b1)]) (by kernel_rfl) ?_
  refine t_v (.clor (vs := [.int .i64 b1]) (caps := #[]) (A := ([] : List Own)) (F0 := ([] : List Own)) rfl rfl rfl (by kernel_rfl) (by kernel_rfl) (sel_perm (is := []) (by kernel_rfl)) (plane_within_1.ok h178)) ?_
  obtain ⟨⟨t179, t180⟩, h181, e⟩ := bind_of e
  try dsimp only at e
  refine t_v (.call (vs := [.int .u64 t175, .int .u64 t177]) rfl rfl (by kernel_rfl) (bits_Mul64.ok h181)) ?_
  refine t_qz 5 [2, 3, 9, 10, 11] (σ' := [(2, .int .i64 c2), (3, .int .i64 d3), (9, .func (.func 117) #[] #[]), (10, .int .u64 t179), (11, .int .u64 t180)]) (by kernel_rfl) ?_
  refine t_end ?_
  show W _ _ _ _ _ _ _
  refine w_seq ?_
  refine w_reg fun all => ?_
  obtain ⟨t182, h183, e⟩ := bind_of e
  refine t_qz 2 [3, 9, 10, 11, 25, 26] (σ' := [(3, .int .i64 d3), (9, .func (.func 117) #[] #[]), (10, .int .u64 t179), (11, .int .u64 t180), (25, .func (.func 117) #[] #[]), (26, .int .i64 c2)]) (by kernel_rfl) ?_
  refine t_v (.clor (vs := [.int .i64 c2]) (caps := #[]) (A := ([] : List Own)) (F0 := ([] : List Own)) rfl rfl rfl (by kernel_rfl) (by kernel_rfl) (sel_perm (is := []) (by kernel_rfl)) (plane_within_1.ok h183)) ?_
  obtain ⟨t184, h185, e⟩ := bind_of e
  refine t_qz 2 [10, 11, 27, 28, 29] (σ' := [(10, .int .u64 t179), (11, .int .u64 t180), (27, .int .u64 t182), (28, .func (.func 117) #[] #[]), (29, .int .i64 d3)]) (by kernel_rfl) ?_
  refine t_v (.clor (vs := [.int .i64 d3]) (caps := #[]) (A := ([] : List Own)) (F0 := ([] : List Own)) rfl rfl rfl (by kernel_rfl) (by kernel_rfl) (sel_perm (is := []) (by kernel_rfl)) (plane_within_1.ok h185)) ?_
  obtain ⟨⟨t186, t187⟩, h188, e⟩ := bind_of e
  try dsimp only at e
  refine t_v (.call (vs := [.int .u64 t182, .int .u64 t184]) rfl rfl (by kernel_rfl) (bits_Mul64.ok h188)) ?_
  refine t_qz 5 [10, 11, 12, 13] (σ' := [(10, .int .u64 t179), (11, .int .u64 t180), (12, .int .u64 t186), (13, .int .u64 t187)]) (by kernel_rfl) ?_
  refine t_end ?_
  show W _ _ _ _ _ _ _
  refine w_seq ?_
  refine w_reg fun all => ?_
  by_cases c189 : t179 < t186
  · rw [if_pos c189] at e
    have c189b : (decide (t179 < t186)) = true := decide_eq_true c189
    refine t_qz 2 [10, 11, 12, 13, 34, 35] (σ' := [(10, .int .u64 t179), (11, .int .u64 t180), (12, .int .u64 t186), (13, .int .u64 t187), (34, .int .u64 t179), (35, .int .u64 t186)]) (by kernel_rfl) ?_
    refine t_v (dv_quiet rfl (congrArg (fun t => some (Value.bool t)) c189b)) ?_
    refine t_qz 11 [8] (σ' := [(8, .bool true)]) (by kernel_rfl) ?_
    refine t_end ?_
    show W _ _ _ _ _ _ _
    refine w_ret ?_
    obtain rfl := Option.some.inj e
    exact ⟨[.bool true], [], S, ⟨rfl, trivial⟩, VS.none, rfl, rfl, rfl⟩
  · rw [if_neg c189] at e
    have c189b : (decide (t179 < t186)) = false := decide_eq_false c189
    refine t_qz 2 [10, 11, 12, 13, 34, 35] (σ' := [(10, .int .u64 t179), (11, .int .u64 t180), (12, .int .u64 t186), (13, .int .u64 t187), (34, .int .u64 t179), (35, .int .u64 t186)]) (by kernel_rfl) ?_
    refine t_v (dv_quiet rfl (congrArg (fun t => some (Value.bool t)) c189b)) ?_
    by_cases c190 : t179 = t186
    · rw [if_pos c190] at e
      have c190b : (t179 == t186) = true := beq_iff_eq.mpr c190
      refine t_qz 3 [11, 13, 37, 38, 39] (σ' := [(11, .int .u64 t180), (13, .int .u64 t187), (37, .bool false), (38, .int .u64 t179), (39, .int .u64 t186)]) (by kernel_rfl) ?_
      refine t_v (dv_quiet rfl (congrArg (fun t => some (Value.bool t)) c190b)) ?_
      refine t_qz 7 [8] (σ' := [(8, .bool (decide (t180 ≤ t187)))]) (by kernel_rfl) ?_
      refine t_end ?_
      show W _ _ _ _ _ _ _
      refine w_ret ?_
      obtain rfl := Option.some.inj e
      exact ⟨[.bool (decide (t180 ≤ t187))], [], S, ⟨rfl, trivial⟩, VS.none, rfl, rfl, rfl⟩
    · rw [if_neg c190] at e
      have c190b : (t179 == t186) = false := beq_eq_false_iff_ne.mpr c190
      refine t_qz 3 [11, 13, 37, 38, 39] (σ' := [(11, .int .u64 t180), (13, .int .u64 t187), (37, .bool false), (38, .int .u64 t179), (39, .int .u64 t186)]) (by kernel_rfl) ?_
      refine t_v (dv_quiet rfl (congrArg (fun t => some (Value.bool t)) c190b)) ?_
      refine t_qz 7 [8] (σ' := [(8, .bool false)]) (by kernel_rfl) ?_
      refine t_end ?_
      show W _ _ _ _ _ _ _
      refine w_ret ?_
      obtain rfl := Option.some.inj e
      exact ⟨[.bool false], [], S, ⟨rfl, trivial⟩, VS.none, rfl, rfl, rfl⟩

def plane_Cross.f (a0_X : Int) (a0_Y : Int) (b1_X : Int) (b1_Y : Int) (p2_X : Int) (p2_Y : Int) : Option (Int) := (plane_Sub.f b1_X b1_Y a0_X a0_Y).bind fun (t185, t186) => ((plane_Sub.f p2_X p2_Y a0_X a0_Y).bind fun (t188, t189) => (some (wr64 ((wr64 (t185 * t189)) - (wr64 (t186 * t188))))))
theorem plane_Cross.ok {S : Seal} {a0_X : Int} {a0_Y : Int} {b1_X : Int} {b1_Y : Int} {p2_X : Int} {p2_Y : Int} {r0_ : Int}(e : plane_Cross.f a0_X a0_Y b1_X b1_Y p2_X p2_Y = some r0_) :
    Cal Try.prog 106 [.agg #[.int .i64 a0_X, .int .i64 a0_Y], .agg #[.int .i64 b1_X, .int .i64 b1_Y], .agg #[.int .i64 p2_X, .int .i64 p2_Y]] [] S fun v H' S' => v = .int .i64 r0_ ∧ H' = [] ∧ S' = S := by
  unfold plane_Cross.f at e
  refine cal_of (c := c106) (N := 26) Try.func106 rfl rfl (by kernel_rfl) (rs := [.t 6]) (by kernel_rfl) (Nat.le_of_ble_eq_true rfl) ?_
  unfold c106
  refine w_seq ?_
  refine w_reg fun all => ?_
  refine t_a (.box rfl rfl rfl) fun b182 fb182 sb182 => ?_
  refine t_a (.box rfl rfl rfl) fun b183 fb183 sb183 => ?_
  refine t_a (.box rfl rfl rfl) fun b184 fb184 sb184 => ?_
  refine t_qz 1 [3, 4, 5] (σ' := [(3, .pointer (some ⟨b182, 0, none⟩)), (4, .pointer (some ⟨b183, 0, none⟩)), (5, .pointer (some ⟨b184, 0, none⟩))]) (by kernel_rfl) ?_
  refine t_end ?_
  show W _ _ _ _ _ _ _
  refine w_seq ?_
  obtain ⟨⟨t185, t186⟩, h187, e⟩ := bind_of e
  try dsimp only at e
  obtain ⟨⟨t188, t189⟩, h190, e⟩ := bind_of e
  try dsimp only at e
  refine w_drwE mixed 8 [.v (.agg #[.int .i64 b1_X, .int .i64 b1_Y]), .v (.agg #[.int .i64 a0_X, .int .i64 a0_Y]), .v (.agg #[.int .i64 t185, .int .i64 t186]), .v (.agg #[.int .i64 p2_X, .int .i64 p2_Y]), .v (.agg #[.int .i64 a0_X, .int .i64 a0_Y]), .v (.agg #[.int .i64 t188, .int .i64 t189]), .a [.int .i64 0, .int .i64 0] ptrTo, .a [.int .i64 0, .int .i64 0] ptrTo] (by kernel_rfl) ?_ ?_
  · refine .cons (.ldn rfl rfl rfl (.at 1 rfl rfl)) ?_
    refine .cons (.ldn rfl rfl rfl (.at 2 rfl rfl)) ?_
    refine .cons (.call (vs := [.agg #[.int .i64 b1_X, .int .i64 b1_Y], .agg #[.int .i64 a0_X, .int .i64 a0_Y]]) rfl rfl (by kernel_rfl) (plane_Sub.ok h187)) ?_
    refine .cons (.ldn rfl rfl rfl (.at 0 rfl rfl)) ?_
    refine .cons (.ldn rfl rfl rfl (.at 2 rfl rfl)) ?_
    refine .cons (.call (vs := [.agg #[.int .i64 p2_X, .int .i64 p2_Y], .agg #[.int .i64 a0_X, .int .i64 a0_Y]]) rfl rfl (by kernel_rfl) (plane_Sub.ok h190)) ?_
    refine .cons (.new rfl rfl) ?_
    refine .cons (.new rfl rfl) ?_
    exact .nil
  refine fk_q 6 [11, 14] (σ' := [(11, .agg #[.int .i64 t185, .int .i64 t186]), (14, .agg #[.int .i64 t188, .int .i64 t189])]) t_more (by kernel_rfl) ?_
  refine fk_a fun b191 fb191 sb191 => ?_
  refine fk_a fun b192 fb192 sb192 => ?_
  refine fk_nil fun all => ?_
  refine t_sti 1 (cs := [.int .i64 t185, .int .i64 t186]) rfl rfl rfl rfl rfl rfl rfl rfl rfl ?_
  refine t_sti 0 (cs := [.int .i64 t188, .int .i64 t189]) rfl rfl rfl rfl rfl rfl rfl rfl rfl ?_
  refine t_keep [7, 8] (σ' := [(7, .pointer (some ⟨b191, 0, none⟩)), (8, .pointer (some ⟨b192, 0, none⟩))]) (by kernel_rfl) ?_
  refine t_end ?_
  show W _ _ _ _ _ _ _
  refine w_seq ?_
  refine w_reg fun all => ?_
  refine t_qz 1 [7, 8, 15] (σ' := [(7, .pointer (some ⟨b191, 0, none⟩)), (8, .pointer (some ⟨b192, 0, none⟩)), (15, .pointer (some ⟨b191, 0, none⟩))]) (by kernel_rfl) ?_
  refine t_v (.ld1 rfl rfl rfl (.at 1 rfl rfl)) ?_
  refine t_qz 1 [7, 8, 16, 17] (σ' := [(7, .pointer (some ⟨b191, 0, none⟩)), (8, .pointer (some ⟨b192, 0, none⟩)), (16, .int .i64 t185), (17, .pointer (some ⟨b192, 1, none⟩))]) (by kernel_rfl) ?_
  refine t_v (.ld1 rfl rfl rfl (.at 0 rfl rfl)) ?_
  refine t_qz 2 [8, 19, 20] (σ' := [(8, .pointer (some ⟨b192, 0, none⟩)), (19, .int .i64 (wr64 (t185 * t189))), (20, .pointer (some ⟨b191, 1, none⟩))]) (by kernel_rfl) ?_
  refine t_v (.ld1 rfl rfl rfl (.at 1 rfl rfl)) ?_
  refine t_qz 1 [19, 21, 22] (σ' := [(19, .int .i64 (wr64 (t185 * t189))), (21, .int .i64 t186), (22, .pointer (some ⟨b192, 0, none⟩))]) (by kernel_rfl) ?_
  refine t_v (.ld1 rfl rfl rfl (.at 0 rfl rfl)) ?_
  refine t_qz 3 [6] (σ' := [(6, .int .i64 (wr64 ((wr64 (t185 * t189)) - (wr64 (t186 * t188)))))]) (by kernel_rfl) ?_
  refine t_end ?_
  show W _ _ _ _ _ _ _
  refine w_ret ?_
  obtain rfl := Option.some.inj e
  exact ⟨[.int .i64 (wr64 ((wr64 (t185 * t189)) - (wr64 (t186 * t188))))], [], S, ⟨rfl, trivial⟩, VS.none, rfl, rfl, rfl⟩

def plane_Near.f (a0_X : Int) (a0_Y : Int) (b1_X : Int) (b1_Y : Int) (p2_X : Int) (p2_Y : Int) (w3 : Int) : Option (Bool) := (plane_Dot.f a0_X a0_Y b1_X b1_Y p2_X p2_Y).bind fun t168 => ((plane_Len2.f a0_X a0_Y b1_X b1_Y).bind fun t170 => (if t168 ≤ 0 then ((plane_Len2.f a0_X a0_Y p2_X p2_Y).bind fun t173 => ((plane_within.f 4 t173 w3 w3).bind fun t175 => (some t175))) else (if t168 ≥ t170 then ((plane_Len2.f b1_X b1_Y p2_X p2_Y).bind fun t178 => ((plane_within.f 4 t178 w3 w3).bind fun t180 => (some t180))) else ((plane_Cross.f a0_X a0_Y b1_X b1_Y p2_X p2_Y).bind fun t193 => ((plane_within.f (wr64 (2 * t193)) (wr64 (2 * t193)) (wr64 (w3 * w3)) t170).bind fun t195 => (some t195))))))
theorem plane_Near.ok {S : Seal} {a0_X : Int} {a0_Y : Int} {b1_X : Int} {b1_Y : Int} {p2_X : Int} {p2_Y : Int} {w3 : Int} {r0_ : Bool}(e : plane_Near.f a0_X a0_Y b1_X b1_Y p2_X p2_Y w3 = some r0_) :
    Cal Try.prog 65 [.agg #[.int .i64 a0_X, .int .i64 a0_Y], .agg #[.int .i64 b1_X, .int .i64 b1_Y], .agg #[.int .i64 p2_X, .int .i64 p2_Y], .int .i64 w3] [] S fun v H' S' => v = .bool r0_ ∧ H' = [] ∧ S' = S := by
  unfold plane_Near.f at e
  refine cal_of (c := c65) (N := 50) Try.func65 rfl rfl (by kernel_rfl) (rs := [.t 8]) (by kernel_rfl) (Nat.le_of_ble_eq_true rfl) ?_
  unfold c65
  refine w_seq ?_
  refine w_reg fun all => ?_
  refine t_a (.box rfl rfl rfl) fun b165 fb165 sb165 => ?_
  refine t_a (.box rfl rfl rfl) fun b166 fb166 sb166 => ?_
  refine t_a (.box rfl rfl rfl) fun b167 fb167 sb167 => ?_
  refine t_qz 1 [3, 4, 5, 6] (σ' := [(3, .int .i64 w3), (4, .pointer (some ⟨b165, 0, none⟩)), (5, .pointer (some ⟨b166, 0, none⟩)), (6, .pointer (some ⟨b167, 0, none⟩))]) (by kernel_rfl) ?_
  refine t_end ?_
  show W _ _ _ _ _ _ _
  refine w_seq ?_
  obtain ⟨t168, h169, e⟩ := bind_of e
  obtain ⟨t170, h171, e⟩ := bind_of e
  refine w_drwE mixed 9 [.v (.agg #[.int .i64 a0_X, .int .i64 a0_Y]), .v (.agg #[.int .i64 b1_X, .int .i64 b1_Y]), .v (.agg #[.int .i64 p2_X, .int .i64 p2_Y]), .v (.int .i64 t168), .v (.agg #[.int .i64 a0_X, .int .i64 a0_Y]), .v (.agg #[.int .i64 b1_X, .int .i64 b1_Y]), .v (.int .i64 t170), .v (.int .i64 t168), .v (.int .i64 t170)] (by kernel_rfl) ?_ ?_
  · refine .cons (.ldn rfl rfl rfl (.at 2 rfl rfl)) ?_
    refine .cons (.ldn rfl rfl rfl (.at 1 rfl rfl)) ?_
    refine .cons (.ldn rfl rfl rfl (.at 0 rfl rfl)) ?_
    refine .cons (.call (vs := [.agg #[.int .i64 a0_X, .int .i64 a0_Y], .agg #[.int .i64 b1_X, .int .i64 b1_Y], .agg #[.int .i64 p2_X, .int .i64 p2_Y]]) rfl rfl (by kernel_rfl) (plane_Dot.ok h169)) ?_
    refine .cons (.ldn rfl rfl rfl (.at 2 rfl rfl)) ?_
    refine .cons (.ldn rfl rfl rfl (.at 1 rfl rfl)) ?_
    refine .cons (.call (vs := [.agg #[.int .i64 a0_X, .int .i64 a0_Y], .agg #[.int .i64 b1_X, .int .i64 b1_Y]]) rfl rfl (by kernel_rfl) (plane_Len2.ok h171)) ?_
    refine DI.sq 2 (by kernel_rfl) rfl ?_
    exact .nil
  refine fk_q 9 [3, 4, 5, 6, 9, 10] (σ' := [(3, .int .i64 w3), (4, .pointer (some ⟨b165, 0, none⟩)), (5, .pointer (some ⟨b166, 0, none⟩)), (6, .pointer (some ⟨b167, 0, none⟩)), (9, .int .i64 t168), (10, .int .i64 t170)]) t_more (by kernel_rfl) ?_
  refine fk_nil fun all => ?_
  refine t_keep [3, 4, 5, 6, 9, 10] (σ' := [(3, .int .i64 w3), (4, .pointer (some ⟨b165, 0, none⟩)), (5, .pointer (some ⟨b166, 0, none⟩)), (6, .pointer (some ⟨b167, 0, none⟩)), (9, .int .i64 t168), (10, .int .i64 t170)]) (by kernel_rfl) ?_
  refine t_end ?_
  show W _ _ _ _ _ _ _
  refine w_seq ?_
  refine w_block ?_
  refine w_seq ?_
  refine w_reg fun all => ?_
  by_cases c172 : t168 ≤ 0
  · rw [if_pos c172] at e
    have c172b : (decide (t168 ≤ 0)) = true := decide_eq_true c172
    refine t_qz 1 [3, 4, 5, 6, 9, 10, 20] (σ' := [(3, .int .i64 w3), (4, .pointer (some ⟨b165, 0, none⟩)), (5, .pointer (some ⟨b166, 0, none⟩)), (6, .pointer (some ⟨b167, 0, none⟩)), (9, .int .i64 t168), (10, .int .i64 t170), (20, .int .i64 t168)]) (by kernel_rfl) ?_
    refine t_v (dv_quiet rfl (congrArg (fun t => some (Value.bool t)) c172b)) ?_
    refine t_qz 1 [3, 4, 5, 6, 9, 10, 19] (σ' := [(3, .int .i64 w3), (4, .pointer (some ⟨b165, 0, none⟩)), (5, .pointer (some ⟨b166, 0, none⟩)), (6, .pointer (some ⟨b167, 0, none⟩)), (9, .int .i64 t168), (10, .int .i64 t170), (19, .bool true)]) (by kernel_rfl) ?_
    refine t_end ?_
    show W _ _ _ _ _ _ _
    refine w_cond rfl (fun _ => ?_) (fun c_ => by cases c_)
    show W _ _ _ _ _ _ _
    refine w_seq ?_
    refine w_reg fun all => ?_
    refine t_v (.ldn rfl rfl rfl (.at 2 rfl rfl)) ?_
    refine t_v (.ldn rfl rfl rfl (.at 0 rfl rfl)) ?_
    obtain ⟨t173, h174, e⟩ := bind_of e
    refine t_v (.call (vs := [.agg #[.int .i64 a0_X, .int .i64 a0_Y], .agg #[.int .i64 p2_X, .int .i64 p2_Y]]) rfl rfl (by kernel_rfl) (plane_Len2.ok h174)) ?_
    obtain ⟨t175, h176, e⟩ := bind_of e
    refine t_qz 2 [24, 25, 26] (σ' := [(24, .int .i64 t173), (25, .int .i64 w3), (26, .int .i64 w3)]) (by kernel_rfl) ?_
    refine t_v (.call (vs := [.int .i64 4, .int .i64 t173, .int .i64 w3, .int .i64 w3]) rfl rfl (by kernel_rfl) (plane_within.ok h176)) ?_
    refine t_qz 1 [8] (σ' := [(8, .bool t175)]) (by kernel_rfl) ?_
    refine t_end ?_
    show W _ _ _ _ _ _ _
    refine w_ret ?_
    obtain rfl := Option.some.inj e
    exact ⟨[.bool t175], [], S, ⟨rfl, trivial⟩, VS.none, rfl, rfl, rfl⟩
  · rw [if_neg c172] at e
    have c172b : (decide (t168 ≤ 0)) = false := decide_eq_false c172
    refine t_qz 1 [3, 4, 5, 6, 9, 10, 20] (σ' := [(3, .int .i64 w3), (4, .pointer (some ⟨b165, 0, none⟩)), (5, .pointer (some ⟨b166, 0, none⟩)), (6, .pointer (some ⟨b167, 0, none⟩)), (9, .int .i64 t168), (10, .int .i64 t170), (20, .int .i64 t168)]) (by kernel_rfl) ?_
    refine t_v (dv_quiet rfl (congrArg (fun t => some (Value.bool t)) c172b)) ?_
    refine t_qz 1 [3, 4, 5, 6, 9, 10, 19] (σ' := [(3, .int .i64 w3), (4, .pointer (some ⟨b165, 0, none⟩)), (5, .pointer (some ⟨b166, 0, none⟩)), (6, .pointer (some ⟨b167, 0, none⟩)), (9, .int .i64 t168), (10, .int .i64 t170), (19, .bool false)]) (by kernel_rfl) ?_
    refine t_end ?_
    show W _ _ _ _ _ _ _
    refine w_cond rfl (fun c_ => by cases c_) (fun _ => ?_)
    show W _ _ _ _ _ _ _
    refine w_seq ?_
    refine w_reg fun all => ?_
    by_cases c177 : t168 ≥ t170
    · rw [if_pos c177] at e
      have c177b : (decide (t168 ≥ t170)) = true := decide_eq_true c177
      refine t_qz 2 [3, 4, 5, 6, 10, 29, 30] (σ' := [(3, .int .i64 w3), (4, .pointer (some ⟨b165, 0, none⟩)), (5, .pointer (some ⟨b166, 0, none⟩)), (6, .pointer (some ⟨b167, 0, none⟩)), (10, .int .i64 t170), (29, .int .i64 t168), (30, .int .i64 t170)]) (by kernel_rfl) ?_
      refine t_v (dv_quiet rfl (congrArg (fun t => some (Value.bool t)) c177b)) ?_
      refine t_qz 1 [3, 4, 5, 6, 10, 28] (σ' := [(3, .int .i64 w3), (4, .pointer (some ⟨b165, 0, none⟩)), (5, .pointer (some ⟨b166, 0, none⟩)), (6, .pointer (some ⟨b167, 0, none⟩)), (10, .int .i64 t170), (28, .bool true)]) (by kernel_rfl) ?_
      refine t_end ?_
      show W _ _ _ _ _ _ _
      refine w_cond rfl (fun _ => ?_) (fun c_ => by cases c_)
      show W _ _ _ _ _ _ _
      refine w_seq ?_
      refine w_reg fun all => ?_
      refine t_v (.ldn rfl rfl rfl (.at 1 rfl rfl)) ?_
      refine t_v (.ldn rfl rfl rfl (.at 0 rfl rfl)) ?_
      obtain ⟨t178, h179, e⟩ := bind_of e
      refine t_v (.call (vs := [.agg #[.int .i64 b1_X, .int .i64 b1_Y], .agg #[.int .i64 p2_X, .int .i64 p2_Y]]) rfl rfl (by kernel_rfl) (plane_Len2.ok h179)) ?_
      obtain ⟨t180, h181, e⟩ := bind_of e
      refine t_qz 2 [34, 35, 36] (σ' := [(34, .int .i64 t178), (35, .int .i64 w3), (36, .int .i64 w3)]) (by kernel_rfl) ?_
      refine t_v (.call (vs := [.int .i64 4, .int .i64 t178, .int .i64 w3, .int .i64 w3]) rfl rfl (by kernel_rfl) (plane_within.ok h181)) ?_
      refine t_qz 1 [8] (σ' := [(8, .bool t180)]) (by kernel_rfl) ?_
      refine t_end ?_
      show W _ _ _ _ _ _ _
      refine w_ret ?_
      obtain rfl := Option.some.inj e
      exact ⟨[.bool t180], [], S, ⟨rfl, trivial⟩, VS.none, rfl, rfl, rfl⟩
    · rw [if_neg c177] at e
      have c177b : (decide (t168 ≥ t170)) = false := decide_eq_false c177
      refine t_qz 2 [3, 4, 5, 6, 10, 29, 30] (σ' := [(3, .int .i64 w3), (4, .pointer (some ⟨b165, 0, none⟩)), (5, .pointer (some ⟨b166, 0, none⟩)), (6, .pointer (some ⟨b167, 0, none⟩)), (10, .int .i64 t170), (29, .int .i64 t168), (30, .int .i64 t170)]) (by kernel_rfl) ?_
      refine t_v (dv_quiet rfl (congrArg (fun t => some (Value.bool t)) c177b)) ?_
      refine t_qz 1 [3, 4, 5, 6, 10, 28] (σ' := [(3, .int .i64 w3), (4, .pointer (some ⟨b165, 0, none⟩)), (5, .pointer (some ⟨b166, 0, none⟩)), (6, .pointer (some ⟨b167, 0, none⟩)), (10, .int .i64 t170), (28, .bool false)]) (by kernel_rfl) ?_
      refine t_end ?_
      show W _ _ _ _ _ _ _
      refine w_cond rfl (fun c_ => by cases c_) (fun _ => ?_)
      show W _ _ _ _ _ _ _
      refine w_skip ?_
      show W _ _ _ _ _ _ _
      refine w_seq ?_
      refine w_reg fun all => ?_
      refine t_v (.ldn rfl rfl rfl (.at 2 rfl rfl)) ?_
      refine t_v (.ldn rfl rfl rfl (.at 1 rfl rfl)) ?_
      refine t_v (.ldn rfl rfl rfl (.at 0 rfl rfl)) ?_
      obtain ⟨t193, h194, e⟩ := bind_of e
      refine t_v (.call (vs := [.agg #[.int .i64 a0_X, .int .i64 a0_Y], .agg #[.int .i64 b1_X, .int .i64 b1_Y], .agg #[.int .i64 p2_X, .int .i64 p2_Y]]) rfl rfl (by kernel_rfl) (plane_Cross.ok h194)) ?_
      refine t_qz 2 [3, 10, 11] (σ' := [(3, .int .i64 w3), (10, .int .i64 t170), (11, .int .i64 (wr64 (2 * t193)))]) (by kernel_rfl) ?_
      refine t_end ?_
      show W _ _ _ _ _ _ _
      refine w_seq ?_
      refine w_reg fun all => ?_
      obtain ⟨t195, h196, e⟩ := bind_of e
      refine t_qz 6 [43, 44, 47, 48] (σ' := [(43, .int .i64 (wr64 (2 * t193))), (44, .int .i64 (wr64 (2 * t193))), (47, .int .i64 (wr64 (w3 * w3))), (48, .int .i64 t170)]) (by kernel_rfl) ?_
      refine t_v (.call (vs := [.int .i64 (wr64 (2 * t193)), .int .i64 (wr64 (2 * t193)), .int .i64 (wr64 (w3 * w3)), .int .i64 t170]) rfl rfl (by kernel_rfl) (plane_within.ok h196)) ?_
      refine t_qz 1 [8] (σ' := [(8, .bool t195)]) (by kernel_rfl) ?_
      refine t_end ?_
      show W _ _ _ _ _ _ _
      refine w_ret ?_
      obtain rfl := Option.some.inj e
      exact ⟨[.bool t195], [], S, ⟨rfl, trivial⟩, VS.none, rfl, rfl, rfl⟩

def stroke_Near_1_v2.f (e0_0 : Int) (e0_1 : Int) (e0_2 : Int) (e0_3 : Int) (m0_0 : Int) (m0_1 : Int) (m1_0 : Int) : Option (Bool) := (plane_Near.f e0_0 e0_1 e0_2 e0_3 m0_0 m0_1 m1_0).bind fun t197 => (some t197)
theorem stroke_Near_1_v2.ok {S : Seal} {B0 : Nat} {B1 : Nat} {e0_0 : Int} {e0_1 : Int} {e0_2 : Int} {e0_3 : Int} {m0_0 : Int} {m0_1 : Int} {m1_0 : Int} {r0_ : Bool}(e : stroke_Near_1_v2.f e0_0 e0_1 e0_2 e0_3 m0_0 m0_1 m1_0 = some r0_) :
    Cal Try.prog 64 [.agg #[.int .i64 e0_0, .int .i64 e0_1, .int .i64 e0_2, .int .i64 e0_3], .pointer (some ⟨B0, 0, none⟩), .pointer (some ⟨B1, 0, none⟩)] ([⟨B0, [.int .i64 m0_0, .int .i64 m0_1], 2⟩, ⟨B1, [.int .i64 m1_0], 1⟩] : List Own) S fun v H' S' => v = .bool r0_ ∧ H' = ([⟨B0, [.int .i64 m0_0, .int .i64 m0_1], 2⟩, ⟨B1, [.int .i64 m1_0], 1⟩] : List Own) ∧ S' = S := by
  unfold stroke_Near_1_v2.f at e
  refine cal_of (c := c64) (N := 12) Try.func64 rfl rfl (by kernel_rfl) (rs := [.t 4]) (by kernel_rfl) (Nat.le_of_ble_eq_true rfl) ?_
  unfold c64
  refine w_seq ?_
  refine w_reg fun all => ?_
  refine t_a (.box rfl rfl rfl) fun b164 fb164 sb164 => ?_
  refine t_qz 1 [1, 2, 3] (σ' := [(1, .pointer (some ⟨B0, 0, none⟩)), (2, .pointer (some ⟨B1, 0, none⟩)), (3, .pointer (some ⟨b164, 0, none⟩))]) (by kernel_rfl) ?_
  refine t_end ?_
  show W _ _ _ _ _ _ _
  refine w_seq ?_
  refine w_reg fun all => ?_
  refine t_qz 1 [1, 2, 3, 5] (σ' := [(1, .pointer (some ⟨B0, 0, none⟩)), (2, .pointer (some ⟨B1, 0, none⟩)), (3, .pointer (some ⟨b164, 0, none⟩)), (5, .pointer (some ⟨b164, 0, none⟩))]) (by kernel_rfl) ?_
  refine t_v (.ldn rfl rfl rfl (.at 0 rfl rfl)) ?_
  refine t_qz 1 [1, 2, 6, 7] (σ' := [(1, .pointer (some ⟨B0, 0, none⟩)), (2, .pointer (some ⟨B1, 0, none⟩)), (6, .agg #[.int .i64 e0_0, .int .i64 e0_1]), (7, .pointer (some ⟨b164, 2, none⟩))]) (by kernel_rfl) ?_
  refine t_v (.ldn rfl rfl rfl (.at 0 rfl rfl)) ?_
  refine t_v (.ldn rfl rfl rfl (.at 1 rfl rfl)) ?_
  refine t_v (.ld1 rfl rfl rfl (.at 2 rfl rfl)) ?_
  obtain ⟨t197, h198, e⟩ := bind_of e
  refine t_v (.call (vs := [.agg #[.int .i64 e0_0, .int .i64 e0_1], .agg #[.int .i64 e0_2, .int .i64 e0_3], .agg #[.int .i64 m0_0, .int .i64 m0_1], .int .i64 m1_0]) rfl rfl (by kernel_rfl) (plane_Near.ok h198)) ?_
  refine t_qz 1 [4] (σ' := [(4, .bool t197)]) (by kernel_rfl) ?_
  refine t_end ?_
  show W _ _ _ _ _ _ _
  refine w_ret ?_
  obtain rfl := Option.some.inj e
  exact ⟨[.bool t197], ([⟨B0, [.int .i64 m0_0, .int .i64 m0_1], 2⟩, ⟨B1, [.int .i64 m1_0], 1⟩] : List Own), S, ⟨rfl, trivial⟩, VS.sel [1, 1] (by kernel_rfl), rfl, rfl, rfl⟩

def api_Edge_v6.l0 : Nat → List (Int × Int × Int × Int) → Int → Int → Int → Int → Option ((Int) ⊕ (Unit))
  | 0, _, _, _, _, _ => none
  | k + 1, s0, m0_0, m0_1, m1_0, x149 => if x149 < (s0.length : Int) then ((lgt s0 x149).bind fun (x151, x152, x153, x154) => ((stroke_Near_1_v2.f x151 x152 x153 x154 m0_0 m0_1 m1_0).bind fun t199 => (if t199 = true then (some (.inl x149)) else (api_Edge_v6.l0 k s0 m0_0 m0_1 m1_0 (wr64 (x149 + 1)))))) else (some (.inr ()))
def api_Edge_v6.f (k : Nat) (s0 : List (Int × Int × Int × Int)) (m0_0 : Int) (m0_1 : Int) (m1_0 : Int) : Option (Int) := (api_Edge_v6.l0 k s0 m0_0 m0_1 m1_0 0 : Option ((Int) ⊕ (Unit))).bind fun s_ => match s_ with | .inl q203 => some q203 | .inr _ => (some (-1))
theorem api_Edge_v6.ok {S : Seal} {B0 : Nat} {B1 : Nat} {k : Nat} {s0 : List (Int × Int × Int × Int)} {m0_0 : Int} {m0_1 : Int} {m1_0 : Int} {r0_ : Int}{a_s0 : Option Addr} {c_s0 : Nat} (h_s0 : SlE S E_i644 s0 a_s0) (e : api_Edge_v6.f k s0 m0_0 m0_1 m1_0 = some r0_) :
    Cal Try.prog 103 [.slice a_s0 s0.length c_s0, .func (.func 64) #[] #[.pointer (some ⟨B0, 0, none⟩), .pointer (some ⟨B1, 0, none⟩)]] ([⟨B0, [.int .i64 m0_0, .int .i64 m0_1], 2⟩, ⟨B1, [.int .i64 m1_0], 1⟩] : List Own) S fun v H' S' => v = .int .i64 r0_ ∧ H' = ([⟨B0, [.int .i64 m0_0, .int .i64 m0_1], 2⟩, ⟨B1, [.int .i64 m1_0], 1⟩] : List Own) ∧ S' = S := by
  unfold api_Edge_v6.f at e
  refine cal_of (c := c103) (N := 19) Try.func103 rfl rfl (by kernel_rfl) (rs := [.t 4]) (by kernel_rfl) (Nat.le_of_ble_eq_true rfl) ?_
  unfold c103
  refine w_seq ?_
  refine w_reg fun all => ?_
  refine t_qz 1 [0, 1] (σ' := [(0, .slice a_s0 s0.length c_s0), (1, .func (.func 64) #[] #[.pointer (some ⟨B0, 0, none⟩), .pointer (some ⟨B1, 0, none⟩)])]) (by kernel_rfl) ?_
  refine t_end ?_
  show W _ _ _ _ _ _ _
  obtain ⟨s148, e147, e⟩ := bind_of e
  refine w_cut [] (fun σ_ H_ S_ => ∃ u_ : Unit, s148 = .inr u_ ∧ [] = σ_ ∧ ([⟨B0, [.int .i64 m0_0, .int .i64 m0_1], 2⟩, ⟨B1, [.int .i64 m1_0], 1⟩] : List Own) = H_ ∧ S = S_) ?_ ?_
  · show W _ _ _ _ _ _ _
    refine w_seq ?_
    refine w_reg fun all => ?_
    refine t_qz 3 [0, 1, 7, 8] (σ' := [(0, .slice a_s0 s0.length c_s0), (1, .func (.func 64) #[] #[.pointer (some ⟨B0, 0, none⟩), .pointer (some ⟨B1, 0, none⟩)]), (7, .int .i64 (s0.length : Int)), (8, .int .i64 0)]) (by kernel_rfl) ?_
    refine t_end ?_
    show W _ _ _ _ _ _ _
    refine w_block ?_
    refine w_kp [0, 1, 7, 8] (σ' := [(0, .slice a_s0 s0.length c_s0), (1, .func (.func 64) #[] #[.pointer (some ⟨B0, 0, none⟩), .pointer (some ⟨B1, 0, none⟩)]), (7, .int .i64 (s0.length : Int)), (8, .int .i64 0)]) (by kernel_rfl) ?_
    refine w_loop (fun n_ σ_ H_ S_ => ∃ (x149 : Int), [(0, .slice a_s0 s0.length c_s0), (1, .func (.func 64) #[] #[.pointer (some ⟨B0, 0, none⟩), .pointer (some ⟨B1, 0, none⟩)]), (7, .int .i64 (s0.length : Int)), (8, .int .i64 x149)] = σ_ ∧ ([⟨B0, [.int .i64 m0_0, .int .i64 m0_1], 2⟩, ⟨B1, [.int .i64 m1_0], 1⟩] : List Own) = H_ ∧ S = S_ ∧ api_Edge_v6.l0 n_ s0 m0_0 m0_1 m1_0 x149 = some s148) _ ⟨0, rfl, rfl, rfl, e147⟩ ?_
    rintro n202 σ_ H_ S_ ⟨x149, rfl, rfl, rfl, e147⟩
    cases n202 with
    | zero => rw [api_Edge_v6.l0.eq_1] at e147; cases e147
    | succ k_ =>
      rw [api_Edge_v6.l0.eq_2] at e147
      refine w_seq ?_
      refine w_reg fun all => ?_
      by_cases c150 : x149 < (s0.length : Int)
      · rw [if_pos c150] at e147
        have c150b : (decide (x149 < (s0.length : Int))) = true := decide_eq_true c150
        refine t_v (dv_quiet rfl (congrArg (fun t => some (Value.bool t)) c150b)) ?_
        refine t_keep [0, 1, 7, 8, 9] (σ' := [(0, .slice a_s0 s0.length c_s0), (1, .func (.func 64) #[] #[.pointer (some ⟨B0, 0, none⟩), .pointer (some ⟨B1, 0, none⟩)]), (7, .int .i64 (s0.length : Int)), (8, .int .i64 x149), (9, .bool true)]) (by kernel_rfl) ?_
        refine t_end ?_
        show W _ _ _ _ _ _ _
        refine w_seq ?_
        refine w_cond rfl (fun _ => ?_) (fun c_ => by cases c_)
        show W _ _ _ _ _ _ _
        refine w_skip ?_
        show W _ _ _ _ _ _ _
        refine w_seq ?_
        refine w_block ?_
        refine w_seq ?_
        refine w_reg fun all => ?_
        refine t_qz 2 [0, 1, 5, 7, 8] (σ' := [(0, .slice a_s0 s0.length c_s0), (1, .func (.func 64) #[] #[.pointer (some ⟨B0, 0, none⟩), .pointer (some ⟨B1, 0, none⟩)]), (5, .int .i64 x149), (7, .int .i64 (s0.length : Int)), (8, .int .i64 x149)]) (by kernel_rfl) ?_
        refine t_end ?_
        show W _ _ _ _ _ _ _
        refine w_seq ?_
        refine w_reg fun all => ?_
        obtain ⟨⟨x151, x152, x153, x154⟩, hx155, e147⟩ := bind_of e147
        try dsimp only at e147
        obtain ⟨lb156, lo157, ll158, la159, lS160, lv161, lz162, lu163⟩ := sle_get (E := E_i644) h_s0 hx155
        refine t_qz 3 [0, 1, 5, 7, 8, 11, 12, 13] (σ' := [(0, .slice a_s0 s0.length c_s0), (1, .func (.func 64) #[] #[.pointer (some ⟨B0, 0, none⟩), .pointer (some ⟨B1, 0, none⟩)]), (5, .int .i64 x149), (7, .int .i64 (s0.length : Int)), (8, .int .i64 x149), (11, .func (.func 64) #[] #[.pointer (some ⟨B0, 0, none⟩), .pointer (some ⟨B1, 0, none⟩)]), (12, .slice a_s0 s0.length c_s0), (13, .int .i64 x149)]) (by kernel_rfl) ?_
        refine t_v (.quiet rfl (ixs_sle rfl rfl la159 lz162 lu163)) ?_
        refine t_v (.ldn (vs := [.int .i64 x151, .int .i64 x152, .int .i64 x153, .int .i64 x154]) rfl rfl rfl (.sealed lS160 (subl_sub lv161 (by kernel_rfl)))) ?_
        obtain ⟨t199, h200, e147⟩ := bind_of e147
        cases t199 with
        | true =>
          rw [if_pos rfl] at e147
          refine t_v (.clor (vs := [.agg #[.int .i64 x151, .int .i64 x152, .int .i64 x153, .int .i64 x154]]) (caps := #[.pointer (some ⟨B0, 0, none⟩), .pointer (some ⟨B1, 0, none⟩)]) (A := ([⟨B0, [.int .i64 m0_0, .int .i64 m0_1], 2⟩, ⟨B1, [.int .i64 m1_0], 1⟩] : List Own)) (F0 := ([] : List Own)) rfl rfl rfl (by kernel_rfl) (by kernel_rfl) (sel_perm (is := [0, 0]) (by kernel_rfl)) (stroke_Near_1_v2.ok h200)) ?_
          refine t_keep [0, 1, 5, 7, 8, 16] (σ' := [(0, .slice a_s0 s0.length c_s0), (1, .func (.func 64) #[] #[.pointer (some ⟨B0, 0, none⟩), .pointer (some ⟨B1, 0, none⟩)]), (5, .int .i64 x149), (7, .int .i64 (s0.length : Int)), (8, .int .i64 x149), (16, .bool true)]) (by kernel_rfl) ?_
          refine t_end ?_
          show W _ _ _ _ _ _ _
          refine w_cond rfl (fun _ => ?_) (fun c_ => by cases c_)
          show W _ _ _ _ _ _ _
          refine w_seq ?_
          refine w_reg fun all => ?_
          refine t_qz 2 [4] (σ' := [(4, .int .i64 x149)]) (by kernel_rfl) ?_
          refine t_end ?_
          show W _ _ _ _ _ _ _
          refine w_ret ?_
          obtain rfl := Option.some.inj e147
          obtain rfl := Option.some.inj e
          exact ⟨[.int .i64 x149], ([⟨B0, [.int .i64 m0_0, .int .i64 m0_1], 2⟩, ⟨B1, [.int .i64 m1_0], 1⟩] : List Own), S, ⟨rfl, trivial⟩, VS.sel [0, 0] (by kernel_rfl), rfl, rfl, rfl⟩
        | false =>
          rw [if_neg (by decide)] at e147
          refine t_v (.clor (vs := [.agg #[.int .i64 x151, .int .i64 x152, .int .i64 x153, .int .i64 x154]]) (caps := #[.pointer (some ⟨B0, 0, none⟩), .pointer (some ⟨B1, 0, none⟩)]) (A := ([⟨B0, [.int .i64 m0_0, .int .i64 m0_1], 2⟩, ⟨B1, [.int .i64 m1_0], 1⟩] : List Own)) (F0 := ([] : List Own)) rfl rfl rfl (by kernel_rfl) (by kernel_rfl) (sel_perm (is := [0, 0]) (by kernel_rfl)) (stroke_Near_1_v2.ok h200)) ?_
          refine t_keep [0, 1, 5, 7, 8, 16] (σ' := [(0, .slice a_s0 s0.length c_s0), (1, .func (.func 64) #[] #[.pointer (some ⟨B0, 0, none⟩), .pointer (some ⟨B1, 0, none⟩)]), (5, .int .i64 x149), (7, .int .i64 (s0.length : Int)), (8, .int .i64 x149), (16, .bool false)]) (by kernel_rfl) ?_
          refine t_end ?_
          show W _ _ _ _ _ _ _
          refine w_cond rfl (fun c_ => by cases c_) (fun _ => ?_)
          show W _ _ _ _ _ _ _
          refine w_skip ?_
          show W _ _ _ _ _ _ _
          refine w_reg fun all => ?_
          refine t_qz 2 [0, 1, 7, 8] (σ' := [(0, .slice a_s0 s0.length c_s0), (1, .func (.func 64) #[] #[.pointer (some ⟨B0, 0, none⟩), .pointer (some ⟨B1, 0, none⟩)]), (7, .int .i64 (s0.length : Int)), (8, .int .i64 (wr64 (x149 + 1)))]) (by kernel_rfl) ?_
          refine t_end ?_
          exact ⟨k_, Nat.lt_succ_self _, [(0, .slice a_s0 s0.length c_s0), (1, .func (.func 64) #[] #[.pointer (some ⟨B0, 0, none⟩), .pointer (some ⟨B1, 0, none⟩)]), (7, .int .i64 (s0.length : Int)), (8, .int .i64 (wr64 (x149 + 1)))], ([⟨B0, [.int .i64 m0_0, .int .i64 m0_1], 2⟩, ⟨B1, [.int .i64 m1_0], 1⟩] : List Own), S, keep_sub [0, 1, 7, 8] (by kernel_rfl), VS.sel [0, 0] (by kernel_rfl), wr64 (x149 + 1), rfl, rfl, rfl, e147⟩
      · rw [if_neg c150] at e147
        have c150b : (decide (x149 < (s0.length : Int))) = false := decide_eq_false c150
        refine t_v (dv_quiet rfl (congrArg (fun t => some (Value.bool t)) c150b)) ?_
        refine t_keep [0, 1, 7, 8, 9] (σ' := [(0, .slice a_s0 s0.length c_s0), (1, .func (.func 64) #[] #[.pointer (some ⟨B0, 0, none⟩), .pointer (some ⟨B1, 0, none⟩)]), (7, .int .i64 (s0.length : Int)), (8, .int .i64 x149), (9, .bool false)]) (by kernel_rfl) ?_
        refine t_end ?_
        show W _ _ _ _ _ _ _
        refine w_seq ?_
        refine w_cond rfl (fun c_ => by cases c_) (fun _ => ?_)
        show W _ _ _ _ _ _ _
        refine w_exit ?_
        obtain rfl := Option.some.inj e147
        exact ⟨([⟨B0, [.int .i64 m0_0, .int .i64 m0_1], 2⟩, ⟨B1, [.int .i64 m1_0], 1⟩] : List Own), S, VS.sel [0, 0] (by kernel_rfl), (), rfl, by kernel_rfl, rfl, rfl⟩
  · rintro σ_ H_ S_ ⟨u_, rfl, rfl, rfl, rfl⟩
    dsimp only at e
    refine w_seq ?_
    refine w_reg fun all => ?_
    refine t_qz 1 [4] (σ' := [(4, .int .i64 (-1))]) (by kernel_rfl) ?_
    refine t_end ?_
    show W _ _ _ _ _ _ _
    refine w_ret ?_
    obtain rfl := Option.some.inj e
    exact ⟨[.int .i64 (-1)], ([⟨B0, [.int .i64 m0_0, .int .i64 m0_1], 2⟩, ⟨B1, [.int .i64 m1_0], 1⟩] : List Own), S, ⟨rfl, trivial⟩, VS.sel [0, 0] (by kernel_rfl), rfl, rfl, rfl⟩

def api_Edge_v5.f (k : Nat) (s0 : List (Int × Int × Int × Int)) (m0_0 : Int) (m0_1 : Int) (m1_0 : Int) : Option (Bool) := (api_Edge_v6.f k s0 m0_0 m0_1 m1_0).bind fun t204 => (some (decide (t204 ≥ 0)))
theorem api_Edge_v5.ok {S : Seal} {B0 : Nat} {B1 : Nat} {k : Nat} {s0 : List (Int × Int × Int × Int)} {m0_0 : Int} {m0_1 : Int} {m1_0 : Int} {r0_ : Bool}{a_s0 : Option Addr} {c_s0 : Nat} (h_s0 : SlE S E_i644 s0 a_s0) (e : api_Edge_v5.f k s0 m0_0 m0_1 m1_0 = some r0_) :
    Cal Try.prog 63 [.slice a_s0 s0.length c_s0, .func (.func 64) #[] #[.pointer (some ⟨B0, 0, none⟩), .pointer (some ⟨B1, 0, none⟩)]] ([⟨B0, [.int .i64 m0_0, .int .i64 m0_1], 2⟩, ⟨B1, [.int .i64 m1_0], 1⟩] : List Own) S fun v H' S' => v = .bool r0_ ∧ H' = ([⟨B0, [.int .i64 m0_0, .int .i64 m0_1], 2⟩, ⟨B1, [.int .i64 m1_0], 1⟩] : List Own) ∧ S' = S := by
  unfold api_Edge_v5.f at e
  refine cal_of (c := c63) (N := 9) Try.func63 rfl rfl (by kernel_rfl) (rs := [.t 4]) (by kernel_rfl) (Nat.le_of_ble_eq_true rfl) ?_
  unfold c63
  refine w_seq ?_
  refine w_reg fun all => ?_
  refine t_qz 1 [0, 1] (σ' := [(0, .slice a_s0 s0.length c_s0), (1, .func (.func 64) #[] #[.pointer (some ⟨B0, 0, none⟩), .pointer (some ⟨B1, 0, none⟩)])]) (by kernel_rfl) ?_
  refine t_end ?_
  show W _ _ _ _ _ _ _
  refine w_seq ?_
  refine w_reg fun all => ?_
  obtain ⟨t204, h205, e⟩ := bind_of e
  refine t_qz 2 [5, 6] (σ' := [(5, .slice a_s0 s0.length c_s0), (6, .func (.func 64) #[] #[.pointer (some ⟨B0, 0, none⟩), .pointer (some ⟨B1, 0, none⟩)])]) (by kernel_rfl) ?_
  refine t_v (.callr (vs := [.slice a_s0 s0.length c_s0, .func (.func 64) #[] #[.pointer (some ⟨B0, 0, none⟩), .pointer (some ⟨B1, 0, none⟩)]]) (A := ([⟨B0, [.int .i64 m0_0, .int .i64 m0_1], 2⟩, ⟨B1, [.int .i64 m1_0], 1⟩] : List Own)) (F0 := ([] : List Own)) rfl rfl (by kernel_rfl) (sel_perm (is := [0, 0]) (by kernel_rfl)) (api_Edge_v6.ok h_s0 h205)) ?_
  refine t_qz 2 [4] (σ' := [(4, .bool (decide (t204 ≥ 0)))]) (by kernel_rfl) ?_
  refine t_end ?_
  show W _ _ _ _ _ _ _
  refine w_ret ?_
  obtain rfl := Option.some.inj e
  exact ⟨[.bool (decide (t204 ≥ 0))], ([⟨B0, [.int .i64 m0_0, .int .i64 m0_1], 2⟩, ⟨B1, [.int .i64 m1_0], 1⟩] : List Own), S, ⟨rfl, trivial⟩, VS.sel [0, 0] (by kernel_rfl), rfl, rfl, rfl⟩

def stroke_Near_v3.f (k : Nat) (l0 : List (Int × Int × Int × Int)) (w1 : Int) (p2_0 : Int) (p2_1 : Int) : Option (Bool) := (api_Edge_v5.f k l0 p2_0 p2_1 w1).bind fun t206 => (some t206)
theorem stroke_Near_v3.ok {S : Seal} {k : Nat} {l0 : List (Int × Int × Int × Int)} {w1 : Int} {p2_0 : Int} {p2_1 : Int} {r0_ : Bool}{a_l0 : Option Addr} {c_l0 : Nat} (h_l0 : SlE S E_i644 l0 a_l0) (e : stroke_Near_v3.f k l0 w1 p2_0 p2_1 = some r0_) :
    Cal Try.prog 19 [.slice a_l0 l0.length c_l0, .int .i64 w1, .agg #[.int .i64 p2_0, .int .i64 p2_1]] [] S fun v H' S' => v = .bool r0_ ∧ H' = [] ∧ S' = S := by
  unfold stroke_Near_v3.f at e
  refine cal_of (c := c19) (N := 10) Try.func19 rfl rfl (by kernel_rfl) (rs := [.t 6]) (by kernel_rfl) (Nat.le_of_ble_eq_true rfl) ?_
  unfold c19
  refine w_seq ?_
  refine w_reg fun all => ?_
  refine t_a (.box rfl rfl rfl) fun b144 fb144 sb144 => ?_
  refine t_a (.box rfl rfl rfl) fun b145 fb145 sb145 => ?_
  refine t_qz 1 [0, 4, 5] (σ' := [(0, .slice a_l0 l0.length c_l0), (4, .pointer (some ⟨b144, 0, none⟩)), (5, .pointer (some ⟨b145, 0, none⟩))]) (by kernel_rfl) ?_
  refine t_end ?_
  show W _ _ _ _ _ _ _
  refine w_seq ?_
  refine w_reg fun all => ?_
  obtain ⟨t206, h207, e⟩ := bind_of e
  refine t_qz 2 [7, 8] (σ' := [(7, .slice a_l0 l0.length c_l0), (8, .func (.func 64) #[] #[.pointer (some ⟨b145, 0, none⟩), .pointer (some ⟨b144, 0, none⟩)])]) (by kernel_rfl) ?_
  refine t_v (.callr (vs := [.slice a_l0 l0.length c_l0, .func (.func 64) #[] #[.pointer (some ⟨b145, 0, none⟩), .pointer (some ⟨b144, 0, none⟩)]]) (A := ([⟨b145, [.int .i64 p2_0, .int .i64 p2_1], 2⟩, ⟨b144, [.int .i64 w1], 1⟩] : List Own)) (F0 := ([] : List Own)) rfl rfl (by kernel_rfl) (sel_perm (is := [0, 0]) (by kernel_rfl)) (api_Edge_v5.ok h_l0 h207)) ?_
  refine t_qz 1 [6] (σ' := [(6, .bool t206)]) (by kernel_rfl) ?_
  refine t_end ?_
  show W _ _ _ _ _ _ _
  refine w_ret ?_
  obtain rfl := Option.some.inj e
  exact ⟨[.bool t206], [], S, ⟨rfl, trivial⟩, VS.none, rfl, rfl, rfl⟩

/-- glyphicref.Edges -/
def c20 : C :=
  (.seq (.reg [⟨(some 2), .mv (.const (.slice none 0 0)), none⟩])
  (.seq (.reg [⟨(some 5), .mv (.tmp 0), none⟩,
     ⟨(some 6), .lns (.tmp 5), none⟩,
     ⟨(some 7), .mks 4 32 [(.int .i64 0), (.int .i64 0), (.int .i64 0), (.int .i64 0)] (.const (.int .i64 0)) (.tmp 6), none⟩,
     ⟨(some 3), .mv (.tmp 7), none⟩])
  (.seq (.seq (.reg [⟨(some 4), .mv (.const (.int .i64 0)), none⟩])
   (.block 0 (.loop (.seq (.seq (.reg [⟨(some 8), .mv (.tmp 4), none⟩,
         ⟨(some 9), .mv (.tmp 0), none⟩,
         ⟨(some 10), .lns (.tmp 9), none⟩,
         ⟨(some 11), .bin .lss (.tmp 8) (.tmp 10), none⟩])
      (.cond (.tmp 11)
       .skip
       (.exit 0)))
     (.seq (.block 1 (.reg [⟨(some 14), .mv (.tmp 3), none⟩,
         ⟨(some 15), .mv (.tmp 0), none⟩,
         ⟨(some 16), .mv (.tmp 4), none⟩,
         ⟨(some 17), .ixs 4 (.tmp 15) (.tmp 16), none⟩,
         ⟨(some 18), .ld (some 4) (.tmp 17), none⟩,
         ⟨(some 19), .bsl [(.int .i64 0), (.int .i64 0), (.int .i64 0), (.int .i64 0)] 1 [(0, 4, (.tmp 18))], none⟩,
         ⟨(some 20), .app 36 4 32 [(.int .i64 0), (.int .i64 0), (.int .i64 0), (.int .i64 0)] (.tmp 14) (.tmp 19), none⟩,
         ⟨(some 3), .mv (.tmp 20), none⟩]))
     (.reg [⟨(some 12), .mv (.tmp 4), none⟩,
       ⟨(some 13), .bin .add (.tmp 12) (.const (.int .i64 1)), none⟩,
       ⟨(some 4), .mv (.tmp 13), none⟩]))))))
  (.seq (.reg [⟨(some 21), .mv (.tmp 3), none⟩,
     ⟨(some 2), .mv (.tmp 21), none⟩])
  .ret))))
def glyphicref_Edges_v1.l0 : Nat → List (Int × Int × Int × Int) → Int → List (Int × Int × Int × Int) → Option (List (Int × Int × Int × Int))
  | 0, _, _, _ => none
  | k + 1, l0, x159, y161 => if x159 < (l0.length : Int) then ((lgt l0 x159).bind fun (x163, x164, x165, x166) => ((lapp y161 ([(x163, x164, x165, x166)] : List (Int × Int × Int × Int))).bind fun y177 => (glyphicref_Edges_v1.l0 k l0 (wr64 (x159 + 1)) y177))) else (some y161)
def glyphicref_Edges_v1.f (k : Nat) (l0 : List (Int × Int × Int × Int)) : Option (List (Int × Int × Int × Int)) := (lmk ((0, 0, 0, 0) : Int × Int × Int × Int) 0 (l0.length : Int)).bind fun y153 => ((glyphicref_Edges_v1.l0 k l0 0 y153 : Option (List (Int × Int × Int × Int))).bind fun y183 => (some y183))
theorem glyphicref_Edges_v1.ok {S : Seal} {k : Nat} {l0 : List (Int × Int × Int × Int)} {r0_ : List (Int × Int × Int × Int)}{a_l0 : Option Addr} {c_l0 : Nat} (h_l0 : SlE S E_i644 l0 a_l0) (e : glyphicref_Edges_v1.f k l0 = some r0_) :
    Cal Try.prog 20 [.slice a_l0 l0.length c_l0] [] S fun v H' S' => ∃ (N0_ : Option Nat) (nN0_ : Nat) , v = .slice (ad N0_) r0_.length (nN0_ / 4) ∧ H' = ([⟨N0_, encL E_i644 r0_, nN0_⟩] : List Own) ∧ S' = S := by
  unfold glyphicref_Edges_v1.f at e
  refine cal_of (c := c20) (N := 22) Try.func20 rfl rfl (by kernel_rfl) (rs := [.t 2]) (by kernel_rfl) (Nat.le_of_ble_eq_true rfl) ?_
  unfold c20
  refine w_seq ?_
  refine w_reg fun all => ?_
  refine t_qz 1 [0] (σ' := [(0, .slice a_l0 l0.length c_l0)]) (by kernel_rfl) ?_
  refine t_end ?_
  show W _ _ _ _ _ _ _
  refine w_seq ?_
  refine w_reg fun all => ?_
  obtain ⟨y153, hl154, e⟩ := bind_of e
  refine t_qz 2 [0, 6] (σ' := [(0, .slice a_l0 l0.length c_l0), (6, .int .i64 (l0.length : Int))]) (by kernel_rfl) ?_
  refine t_mkl (E := E_i644) (x0 := (0, 0, 0, 0)) rfl rfl rfl rfl rfl (by decide) (by decide) rfl hl154 fun a155 na155 => ?_
  refine t_qz 1 [0, 3] (σ' := [(0, .slice a_l0 l0.length c_l0), (3, .slice (ad (some a155)) y153.length (na155 / 4))]) (by kernel_rfl) ?_
  refine t_end ?_
  show W _ _ _ _ _ _ _
  obtain ⟨y183, e157, e⟩ := bind_of e
  refine w_cut [3] (fun σ_ H_ S_ => ∃ (a182 : Option Nat) (na182 : Nat), [(3, .slice (ad a182) y183.length (na182 / 4))] = σ_ ∧ ([⟨a182, encL E_i644 y183, na182⟩] : List Own) = H_ ∧ S = S_) ?_ ?_
  · show W _ _ _ _ _ _ _
    refine w_seq ?_
    refine w_reg fun all => ?_
    refine t_qz 1 [0, 3, 4] (σ' := [(0, .slice a_l0 l0.length c_l0), (3, .slice (ad (some a155)) y153.length (na155 / 4)), (4, .int .i64 0)]) (by kernel_rfl) ?_
    refine t_end ?_
    show W _ _ _ _ _ _ _
    refine w_block ?_
    refine w_kp [0, 3, 4] (σ' := [(0, .slice a_l0 l0.length c_l0), (3, .slice (ad (some a155)) y153.length (na155 / 4)), (4, .int .i64 0)]) (by kernel_rfl) ?_
    refine w_loop (fun n_ σ_ H_ S_ => ∃ (x159 : Int) (y161 : List (Int × Int × Int × Int)), ∃ (a160 : Option Nat) (na160 : Nat), [(0, .slice a_l0 l0.length c_l0), (3, .slice (ad a160) y161.length (na160 / 4)), (4, .int .i64 x159)] = σ_ ∧ ([⟨a160, encL E_i644 y161, na160⟩] : List Own) = H_ ∧ S = S_ ∧ glyphicref_Edges_v1.l0 n_ l0 x159 y161 = some y183) _ ⟨0, y153, some a155, na155, rfl, rfl, rfl, e157⟩ ?_
    rintro n181 σ_ H_ S_ ⟨x159, y161, a160, na160, rfl, rfl, rfl, e157⟩
    cases n181 with
    | zero => rw [glyphicref_Edges_v1.l0.eq_1] at e157; cases e157
    | succ k_ =>
      rw [glyphicref_Edges_v1.l0.eq_2] at e157
      refine w_seq ?_
      refine w_seq ?_
      refine w_reg fun all => ?_
      by_cases c162 : x159 < (l0.length : Int)
      · rw [if_pos c162] at e157
        have c162b : (decide (x159 < (l0.length : Int))) = true := decide_eq_true c162
        refine t_qz 3 [0, 3, 4, 8, 10] (σ' := [(0, .slice a_l0 l0.length c_l0), (3, .slice (ad a160) y161.length (na160 / 4)), (4, .int .i64 x159), (8, .int .i64 x159), (10, .int .i64 (l0.length : Int))]) (by kernel_rfl) ?_
        refine t_v (dv_quiet rfl (congrArg (fun t => some (Value.bool t)) c162b)) ?_
        refine t_keep [0, 3, 4, 11] (σ' := [(0, .slice a_l0 l0.length c_l0), (3, .slice (ad a160) y161.length (na160 / 4)), (4, .int .i64 x159), (11, .bool true)]) (by kernel_rfl) ?_
        refine t_end ?_
        show W _ _ _ _ _ _ _
        refine w_cond rfl (fun _ => ?_) (fun c_ => by cases c_)
        show W _ _ _ _ _ _ _
        refine w_skip ?_
        show W _ _ _ _ _ _ _
        refine w_seq ?_
        refine w_block ?_
        refine w_reg fun all => ?_
        obtain ⟨⟨x163, x164, x165, x166⟩, hx167, e157⟩ := bind_of e157
        try dsimp only at e157
        obtain ⟨lb168, lo169, ll170, la171, lS172, lv173, lz174, lu175⟩ := sle_get (E := E_i644) h_l0 hx167
        refine t_qz 3 [0, 4, 14, 15, 16] (σ' := [(0, .slice a_l0 l0.length c_l0), (4, .int .i64 x159), (14, .slice (ad a160) y161.length (na160 / 4)), (15, .slice a_l0 l0.length c_l0), (16, .int .i64 x159)]) (by kernel_rfl) ?_
        refine t_v (.quiet rfl (ixs_sle rfl rfl la171 lz174 lu175)) ?_
        refine t_v (.ldn (vs := [.int .i64 x163, .int .i64 x164, .int .i64 x165, .int .i64 x166]) rfl rfl rfl (.sealed lS172 (subl_sub lv173 (by kernel_rfl)))) ?_
        refine t_a (.bsl rfl rfl rfl rfl) fun b176 fb176 sb176 => ?_
        obtain ⟨y177, hl178, e157⟩ := bind_of e157
        refine t_appX (E := E_i644) (L := y161) (X := ([(x163, x164, x165, x166)] : List (Int × Int × Int × Int))) (F := ([⟨b176, [.int .i64 x163, .int .i64 x164, .int .i64 x165, .int .i64 x166], 4⟩] : List Own)) rfl rfl rfl rfl (sel_perm (is := [1]) (by kernel_rfl)) rfl (Or.inr ⟨_, _, rfl, .at 0 rfl (by kernel_rfl)⟩) rfl (by decide) (by decide) rfl hl178 fun a179 na179 => ?_
        refine t_qz 1 [0, 3, 4] (σ' := [(0, .slice a_l0 l0.length c_l0), (3, .slice (ad a179) y177.length (na179 / 4)), (4, .int .i64 x159)]) (by kernel_rfl) ?_
        refine t_end ?_
        show W _ _ _ _ _ _ _
        refine w_reg fun all => ?_
        refine t_qz 3 [0, 3, 4] (σ' := [(0, .slice a_l0 l0.length c_l0), (3, .slice (ad a179) y177.length (na179 / 4)), (4, .int .i64 (wr64 (x159 + 1)))]) (by kernel_rfl) ?_
        refine t_end ?_
        exact ⟨k_, Nat.lt_succ_self _, [(0, .slice a_l0 l0.length c_l0), (3, .slice (ad a179) y177.length (na179 / 4)), (4, .int .i64 (wr64 (x159 + 1)))], ([⟨a179, encL E_i644 y177, na179⟩] : List Own), S, keep_sub [0, 3, 4] (by kernel_rfl), VS.sel [0] (by kernel_rfl), wr64 (x159 + 1), y177, a179, na179, rfl, rfl, rfl, e157⟩
      · rw [if_neg c162] at e157
        have c162b : (decide (x159 < (l0.length : Int))) = false := decide_eq_false c162
        refine t_qz 3 [0, 3, 4, 8, 10] (σ' := [(0, .slice a_l0 l0.length c_l0), (3, .slice (ad a160) y161.length (na160 / 4)), (4, .int .i64 x159), (8, .int .i64 x159), (10, .int .i64 (l0.length : Int))]) (by kernel_rfl) ?_
        refine t_v (dv_quiet rfl (congrArg (fun t => some (Value.bool t)) c162b)) ?_
        refine t_keep [0, 3, 4, 11] (σ' := [(0, .slice a_l0 l0.length c_l0), (3, .slice (ad a160) y161.length (na160 / 4)), (4, .int .i64 x159), (11, .bool false)]) (by kernel_rfl) ?_
        refine t_end ?_
        show W _ _ _ _ _ _ _
        refine w_cond rfl (fun c_ => by cases c_) (fun _ => ?_)
        show W _ _ _ _ _ _ _
        refine w_exit ?_
        obtain rfl := Option.some.inj e157
        exact ⟨([⟨a160, encL E_i644 y161, na160⟩] : List Own), S, VS.sel [0] (by kernel_rfl), a160, na160, by kernel_rfl, rfl, rfl⟩
  · rintro σ_ H_ S_ ⟨a182, na182, rfl, rfl, rfl⟩
    refine w_seq ?_
    refine w_reg fun all => ?_
    refine t_qz 2 [2] (σ' := [(2, .slice (ad a182) y183.length (na182 / 4))]) (by kernel_rfl) ?_
    refine t_end ?_
    show W _ _ _ _ _ _ _
    refine w_ret ?_
    obtain rfl := Option.some.inj e
    exact ⟨[.slice (ad a182) y183.length (na182 / 4)], ([⟨a182, encL E_i644 y183, na182⟩] : List Own), S, ⟨rfl, trivial⟩, VS.sel [0] (by kernel_rfl), a182, na182, rfl, rfl, rfl⟩

/-- glyphiclaw23.plus -/
def c21 : C :=
  (.seq (.reg [⟨(some 2), .box (.tmp 0), none⟩,
     ⟨(some 3), .box (.tmp 1), none⟩,
     ⟨(some 4), .new [(.int .i64 0), (.int .i64 0)], none⟩])
  (.seq (.reg [⟨(some 5), .pad 0 (.tmp 2), none⟩,
     ⟨(some 6), .ld none (.tmp 5), none⟩,
     ⟨(some 7), .pad 0 (.tmp 3), none⟩,
     ⟨(some 8), .ld none (.tmp 7), none⟩,
     ⟨(some 9), .bin .add (.tmp 6) (.tmp 8), none⟩,
     ⟨(some 10), .pad 1 (.tmp 2), none⟩,
     ⟨(some 11), .ld none (.tmp 10), none⟩,
     ⟨(some 12), .pad 1 (.tmp 3), none⟩,
     ⟨(some 13), .ld none (.tmp 12), none⟩,
     ⟨(some 14), .bin .add (.tmp 11) (.tmp 13), none⟩,
     ⟨(some 15), .bld [(.int .i64 0), (.int .i64 0)] [(0, 1, (.tmp 9)), (1, 1, (.tmp 14))], none⟩,
     ⟨none, .st 2 (.tmp 4) (.tmp 15), none⟩])
  .ret))
def glyphiclaw23_plus.f (a0_X : Int) (a0_Y : Int) (b1_X : Int) (b1_Y : Int) : Option (Int × Int) := some (wr64 (a0_X + b1_X), wr64 (a0_Y + b1_Y))
theorem glyphiclaw23_plus.ok {S : Seal} {a0_X : Int} {a0_Y : Int} {b1_X : Int} {b1_Y : Int} {r0_ : Int} {r1_ : Int}(e : glyphiclaw23_plus.f a0_X a0_Y b1_X b1_Y = some (r0_, r1_)) :
    Cal Try.prog 21 [.agg #[.int .i64 a0_X, .int .i64 a0_Y], .agg #[.int .i64 b1_X, .int .i64 b1_Y]] [] S fun v H' S' => v = .agg #[.int .i64 r0_, .int .i64 r1_] ∧ H' = [] ∧ S' = S := by
  unfold glyphiclaw23_plus.f at e
  refine cal_of (c := c21) (N := 16) Try.func21 rfl rfl (by kernel_rfl) (rs := [.cn 2 4]) (by kernel_rfl) (Nat.le_of_ble_eq_true rfl) ?_
  unfold c21
  refine w_seq ?_
  refine w_reg fun all => ?_
  refine t_a (.box rfl rfl rfl) fun b179 fb179 sb179 => ?_
  refine t_a (.box rfl rfl rfl) fun b180 fb180 sb180 => ?_
  refine t_a (.new rfl rfl) fun b181 fb181 sb181 => ?_
  refine t_keep [2, 3, 4] (σ' := [(2, .pointer (some ⟨b179, 0, none⟩)), (3, .pointer (some ⟨b180, 0, none⟩)), (4, .pointer (some ⟨b181, 0, none⟩))]) (by kernel_rfl) ?_
  refine t_end ?_
  show W _ _ _ _ _ _ _
  refine w_seq ?_
  refine w_reg fun all => ?_
  refine t_qz 1 [2, 3, 4, 5] (σ' := [(2, .pointer (some ⟨b179, 0, none⟩)), (3, .pointer (some ⟨b180, 0, none⟩)), (4, .pointer (some ⟨b181, 0, none⟩)), (5, .pointer (some ⟨b179, 0, none⟩))]) (by kernel_rfl) ?_
  refine t_v (.ld1 rfl rfl rfl (.at 2 rfl rfl)) ?_
  refine t_qz 1 [2, 3, 4, 6, 7] (σ' := [(2, .pointer (some ⟨b179, 0, none⟩)), (3, .pointer (some ⟨b180, 0, none⟩)), (4, .pointer (some ⟨b181, 0, none⟩)), (6, .int .i64 a0_X), (7, .pointer (some ⟨b180, 0, none⟩))]) (by kernel_rfl) ?_
  refine t_v (.ld1 rfl rfl rfl (.at 1 rfl rfl)) ?_
  refine t_qz 2 [3, 4, 9, 10] (σ' := [(3, .pointer (some ⟨b180, 0, none⟩)), (4, .pointer (some ⟨b181, 0, none⟩)), (9, .int .i64 (wr64 (a0_X + b1_X))), (10, .pointer (some ⟨b179, 1, none⟩))]) (by kernel_rfl) ?_
  refine t_v (.ld1 rfl rfl rfl (.at 2 rfl rfl)) ?_
  refine t_qz 1 [4, 9, 11, 12] (σ' := [(4, .pointer (some ⟨b181, 0, none⟩)), (9, .int .i64 (wr64 (a0_X + b1_X))), (11, .int .i64 a0_Y), (12, .pointer (some ⟨b180, 1, none⟩))]) (by kernel_rfl) ?_
  refine t_v (.ld1 rfl rfl rfl (.at 1 rfl rfl)) ?_
  refine t_qz 2 [4, 15] (σ' := [(4, .pointer (some ⟨b181, 0, none⟩)), (15, .agg #[.int .i64 (wr64 (a0_X + b1_X)), .int .i64 (wr64 (a0_Y + b1_Y))])]) (by kernel_rfl) ?_
  refine t_sti 0 (cs := [.int .i64 (wr64 (a0_X + b1_X)), .int .i64 (wr64 (a0_Y + b1_Y))]) rfl rfl rfl rfl rfl rfl rfl rfl rfl ?_
  refine t_keep [4] (σ' := [(4, .pointer (some ⟨b181, 0, none⟩))]) (by kernel_rfl) ?_
  refine t_end ?_
  show W _ _ _ _ _ _ _
  refine w_ret ?_
  simp only [Option.some.injEq, Prod.mk.injEq] at e
  obtain ⟨rfl, rfl⟩ := e
  exact ⟨[.agg #[.int .i64 (wr64 (a0_X + b1_X)), .int .i64 (wr64 (a0_Y + b1_Y))]], [], S, ⟨⟨_, _, _, rfl, .at 0 rfl rfl, rfl⟩, trivial⟩, VS.none, rfl, rfl, rfl⟩

/-- glyphiclaw23.StrokeMoves -/
def c3 : C :=
  (.seq (.reg [⟨(some 5), .box (.tmp 1), none⟩,
     ⟨(some 8), .mv (.const (.bool false)), none⟩])
  (.seq (.reg [⟨(some 19), .call 16 [], none⟩,
     ⟨(some 9), .mv (.tmp 19), none⟩])
  (.seq (.seq (.reg [⟨(some 20), .mv (.tmp 9), none⟩,
      ⟨(some 21), .un .not (.tmp 20), none⟩])
   (.cond (.tmp 21)
    (.seq (.reg [⟨(some 8), .mv (.const (.bool false)), none⟩])
     .ret)
    .skip))
  (.seq (.seq (.reg [⟨(some 22), .mv (.tmp 0), none⟩,
      ⟨(some 23), .lns (.tmp 22), none⟩,
      ⟨(some 24), .bin .gtr (.tmp 23) (.const (.int .i64 100)), none⟩])
   (.cond (.tmp 24)
    (.seq (.reg [⟨(some 25), .mv (.tmp 9), none⟩,
        ⟨(some 8), .mv (.tmp 25), none⟩])
     .ret)
    .skip))
  (.seq (.reg [⟨(some 26), .pad 0 (.tmp 5), none⟩,
     ⟨(some 27), .ld none (.tmp 26), none⟩,
     ⟨(some 28), .bin .rem (.tmp 27) (.const (.int .i64 1000000)), none⟩,
     ⟨(some 29), .pad 1 (.tmp 5), none⟩,
     ⟨(some 30), .ld none (.tmp 29), none⟩,
     ⟨(some 31), .bin .rem (.tmp 30) (.const (.int .i64 1000000)), none⟩,
     ⟨(some 32), .bld [(.int .i64 0), (.int .i64 0)] [(0, 1, (.tmp 28)), (1, 1, (.tmp 31))], none⟩,
     ⟨none, .st 2 (.tmp 5) (.tmp 32), none⟩])
  (.seq (.reg [⟨(some 33), .mv (.tmp 2), none⟩,
     ⟨(some 34), .bin .rem (.tmp 33) (.const (.int .i64 100)), none⟩,
     ⟨(some 35), .bin .add (.tmp 34) (.const (.int .i64 100)), none⟩,
     ⟨(some 36), .bin .rem (.tmp 35) (.const (.int .i64 100)), none⟩,
     ⟨(some 2), .mv (.tmp 36), none⟩])
  (.seq (.reg [⟨(some 37), .mv (.tmp 0), none⟩,
     ⟨(some 38), .bld [(.slice none 0 0), (.int .i64 0)] [(0, 1, (.tmp 37))], none⟩,
     ⟨(some 39), .box (.tmp 38), none⟩,
     ⟨(some 10), .mv (.tmp 39), none⟩])
  (.seq (.reg [⟨(some 40), .mv (.tmp 10), none⟩,
     ⟨(some 41), .call 17 [(.tmp 40), (.const (.int .i64 8)), (.const (.int .i64 40))], none⟩,
     ⟨(some 11), .mv (.tmp 41), none⟩])
  (.seq (.reg [⟨(some 42), .mv (.tmp 10), none⟩,
     ⟨(some 43), .call 18 [(.tmp 42), (.const (.int .i64 60))], none⟩,
     ⟨(some 12), .new [(.int .i64 0), (.int .i64 0)], none⟩,
     ⟨none, .st 2 (.tmp 12) (.tmp 43), none⟩])
  (.seq (.seq (.reg [⟨(some 44), .mv (.tmp 11), none⟩,
      ⟨(some 45), .lns (.tmp 44), none⟩,
      ⟨(some 46), .bin .eql (.tmp 45) (.const (.int .i64 0)), none⟩])
   (.cond (.tmp 46)
    (.seq (.reg [⟨(some 47), .mv (.tmp 9), none⟩,
        ⟨(some 48), .mv (.tmp 47), none⟩,
        ⟨(some 49), .mv (.tmp 11), (some (48, true))⟩,
        ⟨(some 50), .mv (.tmp 2), (some (48, true))⟩,
        ⟨(some 51), .ld (some 2) (.tmp 12), (some (48, true))⟩,
        ⟨(some 52), .call 19 [(.tmp 49), (.tmp 50), (.tmp 51)], (some (48, true))⟩,
        ⟨(some 53), .un .not (.tmp 52), (some (48, true))⟩,
        ⟨(some 54), .pk (.tmp 48) (.tmp 53) (.const (.bool false)), none⟩,
        ⟨(some 8), .mv (.tmp 54), none⟩])
     .ret)
    .skip))
  (.seq (.reg [⟨(some 55), .mv (.tmp 3), none⟩,
     ⟨(some 56), .mv (.tmp 11), none⟩,
     ⟨(some 57), .lns (.tmp 56), none⟩,
     ⟨(some 58), .bin .rem (.tmp 55) (.tmp 57), none⟩,
     ⟨(some 59), .mv (.tmp 11), none⟩,
     ⟨(some 60), .lns (.tmp 59), none⟩,
     ⟨(some 61), .bin .add (.tmp 58) (.tmp 60), none⟩,
     ⟨(some 62), .mv (.tmp 11), none⟩,
     ⟨(some 63), .lns (.tmp 62), none⟩,
     ⟨(some 64), .bin .rem (.tmp 61) (.tmp 63), none⟩,
     ⟨(some 13), .mv (.tmp 64), none⟩])
  (.seq (.drw [⟨(some 65), .mv (.tmp 11), none⟩,
     ⟨(some 66), .mv (.tmp 13), none⟩,
     ⟨(some 67), .sls 4 (.tmp 65) (some (.tmp 66)) none, none⟩,
     ⟨(some 68), .call 20 [(.tmp 67)], none⟩,
     ⟨(some 69), .mv (.tmp 11), none⟩,
     ⟨(some 70), .mv (.tmp 13), none⟩,
     ⟨(some 71), .sls 4 (.tmp 69) none (some (.tmp 70)), none⟩,
     ⟨(some 72), .app 36 4 32 [(.int .i64 0), (.int .i64 0), (.int .i64 0), (.int .i64 0)] (.tmp 68) (.tmp 71), none⟩,
     ⟨(some 14), .mv (.tmp 72), none⟩] [[], [], [0, 1], [2], [], [], [4, 5], [3, 6, 3], [7, 7, 0, 1, 2, 3, 4, 5, 6, 7]])
  (.seq (.reg [⟨(some 15), .mv (.const (.slice none 0 0)), none⟩,
     ⟨(some 16), .mv (.const (.slice none 0 0)), none⟩])
  (.seq (.seq (.reg [⟨(some 17), .mv (.const (.int .i64 0)), none⟩])
   (.block 0 (.loop (.seq (.seq (.reg [⟨(some 73), .mv (.tmp 17), none⟩,
         ⟨(some 74), .mv (.tmp 11), none⟩,
         ⟨(some 75), .lns (.tmp 74), none⟩,
         ⟨(some 76), .bin .lss (.tmp 73) (.tmp 75), none⟩])
      (.cond (.tmp 76)
       .skip
       (.exit 0)))
     (.seq (.block 1 (.seq (.drw [⟨(some 79), .mv (.tmp 15), none⟩,
          ⟨(some 80), .mv (.tmp 11), none⟩,
          ⟨(some 81), .mv (.tmp 17), none⟩,
          ⟨(some 82), .ixs 4 (.tmp 80) (.tmp 81), none⟩,
          ⟨(some 83), .pad 0 (.tmp 82), none⟩,
          ⟨(some 84), .ld (some 2) (.tmp 83), none⟩,
          ⟨(some 85), .ld (some 2) (.tmp 5), none⟩,
          ⟨(some 86), .call 21 [(.tmp 84), (.tmp 85)], none⟩,
          ⟨(some 87), .mv (.tmp 11), none⟩,
          ⟨(some 88), .mv (.tmp 17), none⟩,
          ⟨(some 89), .ixs 4 (.tmp 87) (.tmp 88), none⟩,
          ⟨(some 90), .pad 2 (.tmp 89), none⟩,
          ⟨(some 91), .ld (some 2) (.tmp 90), none⟩,
          ⟨(some 92), .ld (some 2) (.tmp 5), none⟩,
          ⟨(some 93), .call 21 [(.tmp 91), (.tmp 92)], none⟩,
          ⟨(some 94), .bld [(.int .i64 0), (.int .i64 0), (.int .i64 0), (.int .i64 0)] [(0, 2, (.tmp 86)), (2, 2, (.tmp 93))], none⟩,
          ⟨(some 95), .bsl [(.int .i64 0), (.int .i64 0), (.int .i64 0), (.int .i64 0)] 1 [(0, 4, (.tmp 94))], none⟩,
          ⟨(some 96), .app 36 4 32 [(.int .i64 0), (.int .i64 0), (.int .i64 0), (.int .i64 0)] (.tmp 79) (.tmp 95), none⟩,
          ⟨(some 15), .mv (.tmp 96), none⟩] [[], [], [], [1, 2], [3], [4], [], [5, 6], [], [], [8, 9], [10], [11], [], [12, 13, 7], [7, 14], [15], [0, 16, 14], [17, 17, 0, 1, 2, 3, 4, 5, 6, 7, 8, 9, 10, 11, 12, 13, 14, 15, 16, 17]])
       (.drw [⟨(some 97), .mv (.tmp 16), none⟩,
         ⟨(some 98), .mv (.tmp 11), none⟩,
         ⟨(some 99), .mv (.tmp 17), none⟩,
         ⟨(some 100), .ixs 4 (.tmp 98) (.tmp 99), none⟩,
         ⟨(some 101), .pad 2 (.tmp 100), none⟩,
         ⟨(some 102), .ld (some 2) (.tmp 101), none⟩,
         ⟨(some 103), .mv (.tmp 11), none⟩,
         ⟨(some 104), .mv (.tmp 17), none⟩,
         ⟨(some 105), .ixs 4 (.tmp 103) (.tmp 104), none⟩,
         ⟨(some 106), .pad 0 (.tmp 105), none⟩,
         ⟨(some 107), .ld (some 2) (.tmp 106), none⟩,
         ⟨(some 108), .bld [(.int .i64 0), (.int .i64 0), (.int .i64 0), (.int .i64 0)] [(0, 2, (.tmp 102)), (2, 2, (.tmp 107))], none⟩,
         ⟨(some 109), .bsl [(.int .i64 0), (.int .i64 0), (.int .i64 0), (.int .i64 0)] 1 [(0, 4, (.tmp 108))], none⟩,
         ⟨(some 110), .app 36 4 32 [(.int .i64 0), (.int .i64 0), (.int .i64 0), (.int .i64 0)] (.tmp 97) (.tmp 109), none⟩,
         ⟨(some 16), .mv (.tmp 110), none⟩] [[], [], [], [1, 2], [3], [4], [], [], [6, 7], [8], [9], [5, 10], [11], [0, 12], [13, 13, 0, 1, 2, 3, 4, 5, 6, 7, 8, 9, 10, 11, 12, 13]])))
     (.reg [⟨(some 77), .mv (.tmp 17), none⟩,
       ⟨(some 78), .bin .add (.tmp 77) (.const (.int .i64 1)), none⟩,
       ⟨(some 17), .mv (.tmp 78), none⟩]))))))
  (.seq (.reg [⟨(some 111), .mv (.tmp 11), none⟩,
     ⟨(some 112), .mv (.tmp 2), none⟩,
     ⟨(some 113), .ld (some 2) (.tmp 12), none⟩,
     ⟨(some 114), .call 19 [(.tmp 111), (.tmp 112), (.tmp 113)], none⟩,
     ⟨(some 18), .mv (.tmp 114), none⟩])
  (.seq (.reg [⟨(some 115), .mv (.tmp 9), none⟩,
     ⟨(some 116), .mv (.tmp 115), none⟩,
     ⟨(some 117), .mv (.tmp 14), (some (116, true))⟩,
     ⟨(some 118), .mv (.tmp 2), (some (116, true))⟩,
     ⟨(some 119), .ld (some 2) (.tmp 12), (some (116, true))⟩,
     ⟨(some 120), .call 19 [(.tmp 117), (.tmp 118), (.tmp 119)], (some (116, true))⟩,
     ⟨(some 121), .mv (.tmp 18), (some (116, true))⟩,
     ⟨(some 122), .beq false (.tmp 120) (.tmp 121), (some (116, true))⟩,
     ⟨(some 123), .pk (.tmp 116) (.tmp 122) (.const (.bool false)), none⟩,
     ⟨(some 124), .mv (.tmp 123), none⟩,
     ⟨(some 125), .mv (.tmp 15), (some (124, true))⟩,
     ⟨(some 126), .mv (.tmp 2), (some (124, true))⟩,
     ⟨(some 127), .ld (some 2) (.tmp 12), (some (124, true))⟩,
     ⟨(some 128), .ld (some 2) (.tmp 5), (some (124, true))⟩,
     ⟨(some 129), .call 21 [(.tmp 127), (.tmp 128)], (some (124, true))⟩,
     ⟨(some 130), .call 19 [(.tmp 125), (.tmp 126), (.tmp 129)], (some (124, true))⟩,
     ⟨(some 131), .mv (.tmp 18), (some (124, true))⟩,
     ⟨(some 132), .beq false (.tmp 130) (.tmp 131), (some (124, true))⟩,
     ⟨(some 133), .pk (.tmp 124) (.tmp 132) (.const (.bool false)), none⟩,
     ⟨(some 134), .mv (.tmp 133), none⟩,
     ⟨(some 135), .mv (.tmp 16), (some (134, true))⟩,
     ⟨(some 136), .mv (.tmp 2), (some (134, true))⟩,
     ⟨(some 137), .ld (some 2) (.tmp 12), (some (134, true))⟩,
     ⟨(some 138), .call 19 [(.tmp 135), (.tmp 136), (.tmp 137)], (some (134, true))⟩,
     ⟨(some 139), .mv (.tmp 18), (some (134, true))⟩,
     ⟨(some 140), .beq false (.tmp 138) (.tmp 139), (some (134, true))⟩,
     ⟨(some 141), .pk (.tmp 134) (.tmp 140) (.const (.bool false)), none⟩,
     ⟨(some 8), .mv (.tmp 141), none⟩])
  .ret))))))))))))))))
def glyphiclaw23_StrokeMoves.l0 : Nat → Int → Int → Int → List (Int × Int × Int × Int) → Int → List (Int × Int × Int × Int) → List (Int × Int × Int × Int) → Option (Int × Bool × List (Int × Int × Int × Int) × List (Int × Int × Int × Int) × Int × Int)
  | 0, _, _, _, _, _, _, _ => none
  | k + 1, o1_X, o1_Y, A2, t134, x168, y170, y172 => if x168 < (t134.length : Int) then ((lgt t134 x168).bind fun (x174, x175, x176, x177) => ((glyphiclaw23_plus.f x174 x175 (Int.tmod o1_X 1000000) (Int.tmod o1_Y 1000000)).bind fun (t179, t180) => ((lgt t134 x168).bind fun (x182, x183, x184, x185) => ((glyphiclaw23_plus.f x184 x185 (Int.tmod o1_X 1000000) (Int.tmod o1_Y 1000000)).bind fun (t187, t188) => ((lapp y172 ([(t179, t180, t187, t188)] : List (Int × Int × Int × Int))).bind fun y191 => ((lgt t134 x168).bind fun (x194, x195, x196, x197) => ((lgt t134 x168).bind fun (x199, x200, x201, x202) => ((lapp y170 ([(x196, x197, x199, x200)] : List (Int × Int × Int × Int))).bind fun y205 => (glyphiclaw23_StrokeMoves.l0 k o1_X o1_Y A2 t134 (wr64 (x168 + 1)) y205 y191))))))))) else (some (Int.tmod (wr64 ((Int.tmod A2 100) + 100)) 100, true, y172, y170, Int.tmod o1_X 1000000, Int.tmod o1_Y 1000000))
def glyphiclaw23_StrokeMoves.f (k : Nat) (t0 : List (Int)) (o1_X : Int) (o1_Y : Int) (A2 : Int) (r3 : Int) : Option (Bool) := (glyphiclaw23_first.f).bind fun t36 => (if t36 = true then (if (t0.length : Int) > 100 then (some true) else ((glyphicmake_Edges_v1.f k 8 40 t0 0).bind fun (t134, t135) => ((glyphicmake_Point_v1.f 60 t0 t135).bind fun (t138, t139, t140) => (if (t134.length : Int) = 0 then ((stroke_Near_v3.f k t134 (Int.tmod (wr64 ((Int.tmod A2 100) + 100)) 100) t138 t139).bind fun t144 => (some (!t144))) else (if (t134.length : Int) = 0 then none else ((lsub t134 (Int.tmod (wr64 ((Int.tmod r3 (t134.length : Int)) + (t134.length : Int))) (t134.length : Int)) (t134.length : Int)).bind fun y147 => ((glyphicref_Edges_v1.f k y147).bind fun t153 => ((lsub t134 0 (Int.tmod (wr64 ((Int.tmod r3 (t134.length : Int)) + (t134.length : Int))) (t134.length : Int))).bind fun y156 => ((lapp t153 y156).bind fun y162 => ((glyphiclaw23_StrokeMoves.l0 k o1_X o1_Y A2 t134 0 ([] : List (Int × Int × Int × Int)) ([] : List (Int × Int × Int × Int)) : Option (Int × Bool × List (Int × Int × Int × Int) × List (Int × Int × Int × Int) × Int × Int)).bind fun (x210, x211, y213, y215, x216, x217) => ((stroke_Near_v3.f k t134 x210 t138 t139).bind fun t218 => (if x211 = true then ((stroke_Near_v3.f k y162 x210 t138 t139).bind fun t221 => (if t221 = t218 then ((glyphiclaw23_plus.f t138 t139 x216 x217).bind fun (t224, t225) => ((stroke_Near_v3.f k y213 x210 t224 t225).bind fun t227 => (if t227 = t218 then ((stroke_Near_v3.f k y215 x210 t138 t139).bind fun t230 => (some (t230 == t218))) else (some false)))) else (some false))) else (some false))))))))))))) else (some false))
theorem glyphiclaw23_StrokeMoves.ok {S : Seal} {k : Nat} {t0 : List (Int)} {o1_X : Int} {o1_Y : Int} {A2 : Int} {r3 : Int} {a_t0 : Option Addr} {c_t0 : Nat} (h_t0 : SlE S E_i64 t0 a_t0) (e : glyphiclaw23_StrokeMoves.f k t0 o1_X o1_Y A2 r3 = some true) :
    Cal Try.prog 3 [.slice a_t0 t0.length c_t0, .agg #[.int .i64 o1_X, .int .i64 o1_Y], .int .i64 A2, .int .i64 r3] [] S fun v H' S' => v = .bool true ∧ H' = [] ∧ S' = S := by
  unfold glyphiclaw23_StrokeMoves.f at e
  refine cal_of (c := c3) (N := 142) Try.func3 rfl rfl (by kernel_rfl) (rs := [.t 8]) (by kernel_rfl) (Nat.le_of_ble_eq_true rfl) ?_
  unfold c3
  refine w_seq ?_
  refine w_reg fun all => ?_
  refine t_a (.box rfl rfl rfl) fun b1 fb1 sb1 => ?_
  refine t_qz 1 [0, 2, 3, 5] (σ' := [(0, .slice a_t0 t0.length c_t0), (2, .int .i64 A2), (3, .int .i64 r3), (5, .pointer (some ⟨b1, 0, none⟩))]) (by kernel_rfl) ?_
  refine t_end ?_
  show W _ _ _ _ _ _ _
  refine w_seq ?_
  refine w_reg fun all => ?_
  obtain ⟨t36, h37, e⟩ := bind_of e
  cases t36 with
  | true =>
    rw [if_pos rfl] at e
    refine t_v (.call (vs := []) rfl rfl (by kernel_rfl) (glyphiclaw23_first.ok h37)) ?_
    refine t_qz 1 [0, 2, 3, 5, 9] (σ' := [(0, .slice a_t0 t0.length c_t0), (2, .int .i64 A2), (3, .int .i64 r3), (5, .pointer (some ⟨b1, 0, none⟩)), (9, .bool true)]) (by kernel_rfl) ?_
    refine t_end ?_
    show W _ _ _ _ _ _ _
    refine w_seq ?_
    refine w_seq ?_
    refine w_reg fun all => ?_
    refine t_qz 2 [0, 2, 3, 5, 9, 21] (σ' := [(0, .slice a_t0 t0.length c_t0), (2, .int .i64 A2), (3, .int .i64 r3), (5, .pointer (some ⟨b1, 0, none⟩)), (9, .bool true), (21, .bool false)]) (by kernel_rfl) ?_
    refine t_end ?_
    show W _ _ _ _ _ _ _
    refine w_cond rfl (fun c_ => by cases c_) (fun _ => ?_)
    show W _ _ _ _ _ _ _
    refine w_skip ?_
    show W _ _ _ _ _ _ _
    refine w_seq ?_
    refine w_seq ?_
    refine w_reg fun all => ?_
    by_cases c38 : (t0.length : Int) > 100
    · rw [if_pos c38] at e
      have c38b : (decide ((t0.length : Int) > 100)) = true := decide_eq_true c38
      refine t_qz 2 [0, 2, 3, 5, 9, 23] (σ' := [(0, .slice a_t0 t0.length c_t0), (2, .int .i64 A2), (3, .int .i64 r3), (5, .pointer (some ⟨b1, 0, none⟩)), (9, .bool true), (23, .int .i64 (t0.length : Int))]) (by kernel_rfl) ?_
      refine t_v (dv_quiet rfl (congrArg (fun t => some (Value.bool t)) c38b)) ?_
      refine t_keep [0, 2, 3, 5, 9, 24] (σ' := [(0, .slice a_t0 t0.length c_t0), (2, .int .i64 A2), (3, .int .i64 r3), (5, .pointer (some ⟨b1, 0, none⟩)), (9, .bool true), (24, .bool true)]) (by kernel_rfl) ?_
      refine t_end ?_
      show W _ _ _ _ _ _ _
      refine w_cond rfl (fun _ => ?_) (fun c_ => by cases c_)
      show W _ _ _ _ _ _ _
      refine w_seq ?_
      refine w_reg fun all => ?_
      refine t_qz 2 [8] (σ' := [(8, .bool true)]) (by kernel_rfl) ?_
      refine t_end ?_
      show W _ _ _ _ _ _ _
      refine w_ret ?_
      have hr_ := Option.some.inj e
      exact ⟨[.bool true], [], S, ⟨rfl, trivial⟩, VS.none, congrArg Value.bool hr_, rfl, rfl⟩
    · rw [if_neg c38] at e
      have c38b : (decide ((t0.length : Int) > 100)) = false := decide_eq_false c38
      refine t_qz 2 [0, 2, 3, 5, 9, 23] (σ' := [(0, .slice a_t0 t0.length c_t0), (2, .int .i64 A2), (3, .int .i64 r3), (5, .pointer (some ⟨b1, 0, none⟩)), (9, .bool true), (23, .int .i64 (t0.length : Int))]) (by kernel_rfl) ?_
      refine t_v (dv_quiet rfl (congrArg (fun t => some (Value.bool t)) c38b)) ?_
      refine t_keep [0, 2, 3, 5, 9, 24] (σ' := [(0, .slice a_t0 t0.length c_t0), (2, .int .i64 A2), (3, .int .i64 r3), (5, .pointer (some ⟨b1, 0, none⟩)), (9, .bool true), (24, .bool false)]) (by kernel_rfl) ?_
      refine t_end ?_
      show W _ _ _ _ _ _ _
      refine w_cond rfl (fun c_ => by cases c_) (fun _ => ?_)
      show W _ _ _ _ _ _ _
      refine w_skip ?_
      show W _ _ _ _ _ _ _
      refine w_seq ?_
      refine w_reg fun all => ?_
      refine t_qz 1 [0, 2, 3, 5, 9, 26] (σ' := [(0, .slice a_t0 t0.length c_t0), (2, .int .i64 A2), (3, .int .i64 r3), (5, .pointer (some ⟨b1, 0, none⟩)), (9, .bool true), (26, .pointer (some ⟨b1, 0, none⟩))]) (by kernel_rfl) ?_
      refine t_v (.ld1 rfl rfl rfl (.at 0 rfl rfl)) ?_
      refine t_qz 2 [0, 2, 3, 5, 9, 28, 29] (σ' := [(0, .slice a_t0 t0.length c_t0), (2, .int .i64 A2), (3, .int .i64 r3), (5, .pointer (some ⟨b1, 0, none⟩)), (9, .bool true), (28, .int .i64 (Int.tmod o1_X 1000000)), (29, .pointer (some ⟨b1, 1, none⟩))]) (by kernel_rfl) ?_
      refine t_v (.ld1 rfl rfl rfl (.at 0 rfl rfl)) ?_
      refine t_qz 2 [0, 2, 3, 5, 9, 32] (σ' := [(0, .slice a_t0 t0.length c_t0), (2, .int .i64 A2), (3, .int .i64 r3), (5, .pointer (some ⟨b1, 0, none⟩)), (9, .bool true), (32, .agg #[.int .i64 (Int.tmod o1_X 1000000), .int .i64 (Int.tmod o1_Y 1000000)])]) (by kernel_rfl) ?_
      refine t_sti 0 (cs := [.int .i64 (Int.tmod o1_X 1000000), .int .i64 (Int.tmod o1_Y 1000000)]) rfl rfl rfl rfl rfl rfl rfl rfl rfl ?_
      refine t_keep [0, 2, 3, 5, 9] (σ' := [(0, .slice a_t0 t0.length c_t0), (2, .int .i64 A2), (3, .int .i64 r3), (5, .pointer (some ⟨b1, 0, none⟩)), (9, .bool true)]) (by kernel_rfl) ?_
      refine t_end ?_
      show W _ _ _ _ _ _ _
      refine w_seq ?_
      refine w_reg fun all => ?_
      refine t_qz 5 [0, 2, 3, 5, 9] (σ' := [(0, .slice a_t0 t0.length c_t0), (2, .int .i64 (Int.tmod (wr64 ((Int.tmod A2 100) + 100)) 100)), (3, .int .i64 r3), (5, .pointer (some ⟨b1, 0, none⟩)), (9, .bool true)]) (by kernel_rfl) ?_
      refine t_end ?_
      show W _ _ _ _ _ _ _
      refine w_seq ?_
      refine w_reg fun all => ?_
      refine t_qz 2 [2, 3, 5, 9, 38] (σ' := [(2, .int .i64 (Int.tmod (wr64 ((Int.tmod A2 100) + 100)) 100)), (3, .int .i64 r3), (5, .pointer (some ⟨b1, 0, none⟩)), (9, .bool true), (38, .agg #[.slice a_t0 t0.length c_t0, .int .i64 0])]) (by kernel_rfl) ?_
      refine t_a (.box rfl rfl rfl) fun b39 fb39 sb39 => ?_
      refine t_qz 1 [2, 3, 5, 9, 10] (σ' := [(2, .int .i64 (Int.tmod (wr64 ((Int.tmod A2 100) + 100)) 100)), (3, .int .i64 r3), (5, .pointer (some ⟨b1, 0, none⟩)), (9, .bool true), (10, .pointer (some ⟨b39, 0, none⟩))]) (by kernel_rfl) ?_
      refine t_end ?_
      show W _ _ _ _ _ _ _
      refine w_seq ?_
      refine w_reg fun all => ?_
      obtain ⟨⟨t134, t135⟩, h136, e⟩ := bind_of e
      try dsimp only at e
      refine t_qz 1 [2, 3, 5, 9, 10, 40] (σ' := [(2, .int .i64 (Int.tmod (wr64 ((Int.tmod A2 100) + 100)) 100)), (3, .int .i64 r3), (5, .pointer (some ⟨b1, 0, none⟩)), (9, .bool true), (10, .pointer (some ⟨b39, 0, none⟩)), (40, .pointer (some ⟨b39, 0, none⟩))]) (by kernel_rfl) ?_
      refine t_call (vs := [.pointer (some ⟨b39, 0, none⟩), .int .i64 8, .int .i64 40]) (H1 := ([⟨b39, [.slice a_t0 t0.length c_t0, .int .i64 0], 2⟩] : List Own)) (F := ([⟨b1, [.int .i64 (Int.tmod o1_X 1000000), .int .i64 (Int.tmod o1_Y 1000000)], 2⟩] : List Own)) rfl rfl (by kernel_rfl) (sel_perm (is := [0]) (by kernel_rfl)) (glyphicmake_Edges_v1.ok h_t0 h136) ?_
      rintro _ _ S_ ⟨N137, nN137, rfl, rfl, hS_⟩
      obtain rfl := hS_.symm
      refine t_qz 1 [2, 3, 5, 9, 10, 11] (σ' := [(2, .int .i64 (Int.tmod (wr64 ((Int.tmod A2 100) + 100)) 100)), (3, .int .i64 r3), (5, .pointer (some ⟨b1, 0, none⟩)), (9, .bool true), (10, .pointer (some ⟨b39, 0, none⟩)), (11, .slice (ad N137) t134.length (nN137 / 4))]) (by kernel_rfl) ?_
      refine t_end ?_
      show W _ _ _ _ _ _ _
      refine w_seq ?_
      refine w_reg fun all => ?_
      obtain ⟨⟨t138, t139, t140⟩, h141, e⟩ := bind_of e
      try dsimp only at e
      refine t_qz 1 [2, 3, 5, 9, 11, 42] (σ' := [(2, .int .i64 (Int.tmod (wr64 ((Int.tmod A2 100) + 100)) 100)), (3, .int .i64 r3), (5, .pointer (some ⟨b1, 0, none⟩)), (9, .bool true), (11, .slice (ad N137) t134.length (nN137 / 4)), (42, .pointer (some ⟨b39, 0, none⟩))]) (by kernel_rfl) ?_
      refine t_call (vs := [.pointer (some ⟨b39, 0, none⟩), .int .i64 60]) (H1 := ([⟨b39, [.slice a_t0 t0.length c_t0, .int .i64 t135], 2⟩] : List Own)) (F := ([⟨N137, encL E_i644 t134, nN137⟩, ⟨b1, [.int .i64 (Int.tmod o1_X 1000000), .int .i64 (Int.tmod o1_Y 1000000)], 2⟩] : List Own)) rfl rfl (by kernel_rfl) (sel_perm (is := [1]) (by kernel_rfl)) (glyphicmake_Point_v1.ok h_t0 h141) ?_
      rintro _ _ S_ ⟨rfl, rfl, hS_⟩
      obtain rfl := hS_.symm
      refine t_a (.new rfl rfl) fun b142 fb142 sb142 => ?_
      refine t_sti 0 (cs := [.int .i64 t138, .int .i64 t139]) rfl rfl rfl rfl rfl rfl rfl rfl rfl ?_
      refine t_keep [2, 3, 5, 9, 11, 12] (σ' := [(2, .int .i64 (Int.tmod (wr64 ((Int.tmod A2 100) + 100)) 100)), (3, .int .i64 r3), (5, .pointer (some ⟨b1, 0, none⟩)), (9, .bool true), (11, .slice (ad N137) t134.length (nN137 / 4)), (12, .pointer (some ⟨b142, 0, none⟩))]) (by kernel_rfl) ?_
      refine t_end ?_
      show W _ _ _ _ _ _ _
      refine w_seq ?_
      refine w_seq ?_
      refine w_reg fun all => ?_
      by_cases c143 : (t134.length : Int) = 0
      · rw [if_pos c143] at e
        have c143b : ((t134.length : Int) == 0) = true := beq_iff_eq.mpr c143
        refine t_qz 2 [2, 3, 5, 9, 11, 12, 45] (σ' := [(2, .int .i64 (Int.tmod (wr64 ((Int.tmod A2 100) + 100)) 100)), (3, .int .i64 r3), (5, .pointer (some ⟨b1, 0, none⟩)), (9, .bool true), (11, .slice (ad N137) t134.length (nN137 / 4)), (12, .pointer (some ⟨b142, 0, none⟩)), (45, .int .i64 (t134.length : Int))]) (by kernel_rfl) ?_
        refine t_v (dv_quiet rfl (congrArg (fun t => some (Value.bool t)) c143b)) ?_
        refine t_keep [2, 3, 5, 9, 11, 12, 46] (σ' := [(2, .int .i64 (Int.tmod (wr64 ((Int.tmod A2 100) + 100)) 100)), (3, .int .i64 r3), (5, .pointer (some ⟨b1, 0, none⟩)), (9, .bool true), (11, .slice (ad N137) t134.length (nN137 / 4)), (12, .pointer (some ⟨b142, 0, none⟩)), (46, .bool true)]) (by kernel_rfl) ?_
        refine t_end ?_
        show W _ _ _ _ _ _ _
        refine w_cond rfl (fun _ => ?_) (fun c_ => by cases c_)
        show W _ _ _ _ _ _ _
        refine w_seq ?_
        refine w_reg fun all => ?_
        refine t_qz 4 [12, 48, 49, 50] (σ' := [(12, .pointer (some ⟨b142, 0, none⟩)), (48, .bool true), (49, .slice (ad N137) t134.length (nN137 / 4)), (50, .int .i64 (Int.tmod (wr64 ((Int.tmod A2 100) + 100)) 100))]) (by kernel_rfl) ?_
        refine t_v (.ldn rfl rfl rfl (.at 0 rfl rfl)) ?_
        obtain ⟨t144, h145, e⟩ := bind_of e
        refine t_v (.callr (vs := [.slice (ad N137) t134.length (nN137 / 4), .int .i64 (Int.tmod (wr64 ((Int.tmod A2 100) + 100)) 100), .agg #[.int .i64 t138, .int .i64 t139]]) (A := ([⟨N137, encL E_i644 t134, nN137⟩] : List Own)) (F0 := ([⟨b142, [.int .i64 t138, .int .i64 t139], 2⟩, ⟨b39, [.slice a_t0 t0.length c_t0, .int .i64 t140], 2⟩, ⟨b1, [.int .i64 (Int.tmod o1_X 1000000), .int .i64 (Int.tmod o1_Y 1000000)], 2⟩] : List Own)) rfl rfl (by kernel_rfl) (sel_perm (is := [2]) (by kernel_rfl)) (cal_lendr fun S1_ le1_ hS1_ => (stroke_Near_v3.ok (SlE.ofAd (E := E_i644) (L := t134) hS1_ (by decide)) h145))) ?_
        refine t_qz 3 [8] (σ' := [(8, .bool (!t144))]) (by kernel_rfl) ?_
        refine t_end ?_
        show W _ _ _ _ _ _ _
        refine w_ret ?_
        have hr_ := Option.some.inj e
        exact ⟨[.bool (!t144)], [], S, ⟨rfl, trivial⟩, VS.none, congrArg Value.bool hr_, rfl, rfl⟩
      · rw [if_neg c143] at e
        have c143b : ((t134.length : Int) == 0) = false := beq_eq_false_iff_ne.mpr c143
        refine t_qz 2 [2, 3, 5, 9, 11, 12, 45] (σ' := [(2, .int .i64 (Int.tmod (wr64 ((Int.tmod A2 100) + 100)) 100)), (3, .int .i64 r3), (5, .pointer (some ⟨b1, 0, none⟩)), (9, .bool true), (11, .slice (ad N137) t134.length (nN137 / 4)), (12, .pointer (some ⟨b142, 0, none⟩)), (45, .int .i64 (t134.length : Int))]) (by kernel_rfl) ?_
        refine t_v (dv_quiet rfl (congrArg (fun t => some (Value.bool t)) c143b)) ?_
        refine t_keep [2, 3, 5, 9, 11, 12, 46] (σ' := [(2, .int .i64 (Int.tmod (wr64 ((Int.tmod A2 100) + 100)) 100)), (3, .int .i64 r3), (5, .pointer (some ⟨b1, 0, none⟩)), (9, .bool true), (11, .slice (ad N137) t134.length (nN137 / 4)), (12, .pointer (some ⟨b142, 0, none⟩)), (46, .bool false)]) (by kernel_rfl) ?_
        refine t_end ?_
        show W _ _ _ _ _ _ _
        refine w_cond rfl (fun c_ => by cases c_) (fun _ => ?_)
        show W _ _ _ _ _ _ _
        refine w_skip ?_
        show W _ _ _ _ _ _ _
        refine w_seq ?_
        refine w_reg fun all => ?_
        have c146 : ¬ (t134.length : Int) = 0 := by
          intro h_; rw [if_pos h_] at e; cases e
        rw [if_neg c146] at e
        refine t_qz 3 [2, 5, 9, 11, 12, 55, 57] (σ' := [(2, .int .i64 (Int.tmod (wr64 ((Int.tmod A2 100) + 100)) 100)), (5, .pointer (some ⟨b1, 0, none⟩)), (9, .bool true), (11, .slice (ad N137) t134.length (nN137 / 4)), (12, .pointer (some ⟨b142, 0, none⟩)), (55, .int .i64 r3), (57, .int .i64 (t134.length : Int))]) (by kernel_rfl) ?_
        refine t_v (.quiet rfl (qv_rem rfl rfl c146)) ?_
        refine t_qz 5 [2, 5, 9, 11, 12, 61, 63] (σ' := [(2, .int .i64 (Int.tmod (wr64 ((Int.tmod A2 100) + 100)) 100)), (5, .pointer (some ⟨b1, 0, none⟩)), (9, .bool true), (11, .slice (ad N137) t134.length (nN137 / 4)), (12, .pointer (some ⟨b142, 0, none⟩)), (61, .int .i64 (wr64 ((Int.tmod r3 (t134.length : Int)) + (t134.length : Int)))), (63, .int .i64 (t134.length : Int))]) (by kernel_rfl) ?_
        refine t_v (.quiet rfl (qv_rem rfl rfl c146)) ?_
        refine t_qz 1 [2, 5, 9, 11, 12, 13] (σ' := [(2, .int .i64 (Int.tmod (wr64 ((Int.tmod A2 100) + 100)) 100)), (5, .pointer (some ⟨b1, 0, none⟩)), (9, .bool true), (11, .slice (ad N137) t134.length (nN137 / 4)), (12, .pointer (some ⟨b142, 0, none⟩)), (13, .int .i64 (Int.tmod (wr64 ((Int.tmod r3 (t134.length : Int)) + (t134.length : Int))) (t134.length : Int)))]) (by kernel_rfl) ?_
        refine t_end ?_
        show W _ _ _ _ _ _ _
        refine w_seq ?_
        obtain ⟨y147, hl148, e⟩ := bind_of e
        first | refine t_pure (fun w_ h_ => HOK.le h_ (j := 2) rfl) fun hM_ => ?_ | refine w_pure (fun w_ h_ => HOK.le h_ (j := 2) rfl) fun hM_ => ?_
        obtain ⟨q149, c150, hv152, hq151⟩ := cutN (E := E_i644) (z := 4) rfl (by decide) hM_ hl148
        obtain ⟨t153, h154, e⟩ := bind_of e
        obtain ⟨y156, hl157, e⟩ := bind_of e
        first | refine t_pure (fun w_ h_ => HOK.le h_ (j := 2) rfl) fun hM_ => ?_ | refine w_pure (fun w_ h_ => HOK.le h_ (j := 2) rfl) fun hM_ => ?_
        obtain ⟨q158, c159, hv161, hq160⟩ := cutN (E := E_i644) (z := 4) rfl (by decide) hM_ hl157
        obtain ⟨y162, hl163, e⟩ := bind_of e
        refine w_kp [2, 5, 9, 11, 12, 13] (σ' := [(2, .int .i64 (Int.tmod (wr64 ((Int.tmod A2 100) + 100)) 100)), (5, .pointer (some ⟨b1, 0, none⟩)), (9, .bool true), (11, .slice (ad N137) t134.length (nN137 / 4)), (12, .pointer (some ⟨b142, 0, none⟩)), (13, .int .i64 (Int.tmod (wr64 ((Int.tmod r3 (t134.length : Int)) + (t134.length : Int))) (t134.length : Int)))]) (by kernel_rfl) ?_
        refine w_gameQ mixed (by kernel_rfl) fun all G hend hstep hqf => ?_
        have hg_1ff : ∀ (g164 : Option Nat) (ng164 : Nat), G [true, true, true, true, true, true, true, true, true] [(2, .int .i64 (Int.tmod (wr64 ((Int.tmod A2 100) + 100)) 100)), (5, .pointer (some ⟨b1, 0, none⟩)), (9, .bool true), (11, .slice (ad N137) t134.length (nN137 / 4)), (12, .pointer (some ⟨b142, 0, none⟩)), (14, .slice (ad g164) y162.length (ng164 / 4))] ([⟨g164, encL E_i644 y162, ng164⟩, ⟨N137, encL E_i644 t134, nN137⟩, ⟨b142, [.int .i64 t138, .int .i64 t139], 2⟩, ⟨b39, [.slice a_t0 t0.length c_t0, .int .i64 t140], 2⟩, ⟨b1, [.int .i64 (Int.tmod o1_X 1000000), .int .i64 (Int.tmod o1_Y 1000000)], 2⟩] : List Own) := by
          intro g164 ng164
          refine hend _ _ _ (by kernel_rfl) ?_
          show W _ _ _ _ _ _ _
          refine w_seq ?_
          refine w_reg fun all => ?_
          refine t_qz 2 [2, 5, 9, 11, 12, 14, 15, 16] (σ' := [(2, .int .i64 (Int.tmod (wr64 ((Int.tmod A2 100) + 100)) 100)), (5, .pointer (some ⟨b1, 0, none⟩)), (9, .bool true), (11, .slice (ad N137) t134.length (nN137 / 4)), (12, .pointer (some ⟨b142, 0, none⟩)), (14, .slice (ad g164) y162.length (ng164 / 4)), (15, .slice none 0 0), (16, .slice none 0 0)]) (by kernel_rfl) ?_
          refine t_end ?_
          show W _ _ _ _ _ _ _
          obtain ⟨⟨x210, x211, y213, y215, x216, x217⟩, e166, e⟩ := bind_of e
          try dsimp only at e
          refine w_cut [2, 5, 9, 11, 12, 14, 15, 16] (fun σ_ H_ S_ => ∃ (a212 : Option Nat) (na212 : Nat) (a214 : Option Nat) (na214 : Nat), [(2, .int .i64 x210), (5, .pointer (some ⟨b1, 0, none⟩)), (9, .bool x211), (11, .slice (ad N137) t134.length (nN137 / 4)), (12, .pointer (some ⟨b142, 0, none⟩)), (14, .slice (ad g164) y162.length (ng164 / 4)), (15, .slice (ad a212) y213.length (na212 / 4)), (16, .slice (ad a214) y215.length (na214 / 4))] = σ_ ∧ ([⟨b142, [.int .i64 t138, .int .i64 t139], 2⟩, ⟨b39, [.slice a_t0 t0.length c_t0, .int .i64 t140], 2⟩, ⟨b1, [.int .i64 x216, .int .i64 x217], 2⟩, ⟨N137, encL E_i644 t134, nN137⟩, ⟨g164, encL E_i644 y162, ng164⟩, ⟨a212, encL E_i644 y213, na212⟩, ⟨a214, encL E_i644 y215, na214⟩] : List Own) = H_ ∧ S = S_) ?_ ?_
          · show W _ _ _ _ _ _ _
            refine w_seq ?_
            refine w_reg fun all => ?_
            refine t_qz 1 [2, 5, 9, 11, 12, 14, 15, 16, 17] (σ' := [(2, .int .i64 (Int.tmod (wr64 ((Int.tmod A2 100) + 100)) 100)), (5, .pointer (some ⟨b1, 0, none⟩)), (9, .bool true), (11, .slice (ad N137) t134.length (nN137 / 4)), (12, .pointer (some ⟨b142, 0, none⟩)), (14, .slice (ad g164) y162.length (ng164 / 4)), (15, .slice none 0 0), (16, .slice none 0 0), (17, .int .i64 0)]) (by kernel_rfl) ?_
            refine t_end ?_
            show W _ _ _ _ _ _ _
            refine w_block ?_
            refine w_vs VS.vac ?_
            refine w_vs VS.vac ?_
            refine w_kp [2, 5, 9, 11, 12, 14, 15, 16, 17] (σ' := [(2, .int .i64 (Int.tmod (wr64 ((Int.tmod A2 100) + 100)) 100)), (5, .pointer (some ⟨b1, 0, none⟩)), (9, .bool true), (11, .slice (ad N137) t134.length (nN137 / 4)), (12, .pointer (some ⟨b142, 0, none⟩)), (14, .slice (ad g164) y162.length (ng164 / 4)), (15, .slice (ad none) ([] : List (Int × Int × Int × Int)).length (0 / 4)), (16, .slice (ad none) ([] : List (Int × Int × Int × Int)).length (0 / 4)), (17, .int .i64 0)]) (by kernel_rfl) ?_
            refine w_loop (fun n_ σ_ H_ S_ => ∃ (x168 : Int) (y170 : List (Int × Int × Int × Int)) (y172 : List (Int × Int × Int × Int)), ∃ (a169 : Option Nat) (na169 : Nat) (a171 : Option Nat) (na171 : Nat), [(2, .int .i64 (Int.tmod (wr64 ((Int.tmod A2 100) + 100)) 100)), (5, .pointer (some ⟨b1, 0, none⟩)), (9, .bool true), (11, .slice (ad N137) t134.length (nN137 / 4)), (12, .pointer (some ⟨b142, 0, none⟩)), (14, .slice (ad g164) y162.length (ng164 / 4)), (15, .slice (ad a171) y172.length (na171 / 4)), (16, .slice (ad a169) y170.length (na169 / 4)), (17, .int .i64 x168)] = σ_ ∧ ([⟨a169, encL E_i644 y170, na169⟩, ⟨a171, encL E_i644 y172, na171⟩, ⟨g164, encL E_i644 y162, ng164⟩, ⟨N137, encL E_i644 t134, nN137⟩, ⟨b142, [.int .i64 t138, .int .i64 t139], 2⟩, ⟨b39, [.slice a_t0 t0.length c_t0, .int .i64 t140], 2⟩, ⟨b1, [.int .i64 (Int.tmod o1_X 1000000), .int .i64 (Int.tmod o1_Y 1000000)], 2⟩] : List Own) = H_ ∧ S = S_ ∧ glyphiclaw23_StrokeMoves.l0 n_ o1_X o1_Y A2 t134 x168 y170 y172 = some (x210, x211, y213, y215, x216, x217)) _ ⟨0, ([] : List (Int × Int × Int × Int)), ([] : List (Int × Int × Int × Int)), none, 0, none, 0, rfl, rfl, rfl, e166⟩ ?_
            rintro n209 σ_ H_ S_ ⟨x168, y170, y172, a169, na169, a171, na171, rfl, rfl, rfl, e166⟩
            cases n209 with
            | zero => rw [glyphiclaw23_StrokeMoves.l0.eq_1] at e166; cases e166
            | succ k_ =>
              rw [glyphiclaw23_StrokeMoves.l0.eq_2] at e166
              refine w_seq ?_
              refine w_seq ?_
              refine w_reg fun all => ?_
              by_cases c173 : x168 < (t134.length : Int)
              · rw [if_pos c173] at e166
                have c173b : (decide (x168 < (t134.length : Int))) = true := decide_eq_true c173
                refine t_qz 3 [2, 5, 9, 11, 12, 14, 15, 16, 17, 73, 75] (σ' := [(2, .int .i64 (Int.tmod (wr64 ((Int.tmod A2 100) + 100)) 100)), (5, .pointer (some ⟨b1, 0, none⟩)), (9, .bool true), (11, .slice (ad N137) t134.length (nN137 / 4)), (12, .pointer (some ⟨b142, 0, none⟩)), (14, .slice (ad g164) y162.length (ng164 / 4)), (15, .slice (ad a171) y172.length (na171 / 4)), (16, .slice (ad a169) y170.length (na169 / 4)), (17, .int .i64 x168), (73, .int .i64 x168), (75, .int .i64 (t134.length : Int))]) (by kernel_rfl) ?_
                refine t_v (dv_quiet rfl (congrArg (fun t => some (Value.bool t)) c173b)) ?_
                refine t_keep [2, 5, 9, 11, 12, 14, 15, 16, 17, 76] (σ' := [(2, .int .i64 (Int.tmod (wr64 ((Int.tmod A2 100) + 100)) 100)), (5, .pointer (some ⟨b1, 0, none⟩)), (9, .bool true), (11, .slice (ad N137) t134.length (nN137 / 4)), (12, .pointer (some ⟨b142, 0, none⟩)), (14, .slice (ad g164) y162.length (ng164 / 4)), (15, .slice (ad a171) y172.length (na171 / 4)), (16, .slice (ad a169) y170.length (na169 / 4)), (17, .int .i64 x168), (76, .bool true)]) (by kernel_rfl) ?_
                refine t_end ?_
                show W _ _ _ _ _ _ _
                refine w_cond rfl (fun _ => ?_) (fun c_ => by cases c_)
                show W _ _ _ _ _ _ _
                refine w_skip ?_
                show W _ _ _ _ _ _ _
                refine w_seq ?_
                refine w_block ?_
                refine w_seq ?_
                obtain ⟨⟨x174, x175, x176, x177⟩, hx178, e166⟩ := bind_of e166
                try dsimp only at e166
                obtain ⟨⟨t179, t180⟩, h181, e166⟩ := bind_of e166
                try dsimp only at e166
                obtain ⟨⟨x182, x183, x184, x185⟩, hx186, e166⟩ := bind_of e166
                try dsimp only at e166
                obtain ⟨⟨t187, t188⟩, h189, e166⟩ := bind_of e166
                try dsimp only at e166
                refine w_drwE mixed 17 [.v (.slice (ad a171) y172.length (na171 / 4)), .v (.slice (ad N137) t134.length (nN137 / 4)), .v (.int .i64 x168), .v (.pointer (some ⟨bk N137, (x168).toNat * 4 + 0, none⟩)), .v (.pointer (some ⟨bk N137, (x168).toNat * 4 + 0, none⟩)), .v (.agg #[.int .i64 x174, .int .i64 x175]), .v (.agg #[.int .i64 (Int.tmod o1_X 1000000), .int .i64 (Int.tmod o1_Y 1000000)]), .v (.agg #[.int .i64 t179, .int .i64 t180]), .v (.slice (ad N137) t134.length (nN137 / 4)), .v (.int .i64 x168), .v (.pointer (some ⟨bk N137, (x168).toNat * 4 + 0, none⟩)), .v (.pointer (some ⟨bk N137, (x168).toNat * 4 + 2, none⟩)), .v (.agg #[.int .i64 x184, .int .i64 x185]), .v (.agg #[.int .i64 (Int.tmod o1_X 1000000), .int .i64 (Int.tmod o1_Y 1000000)]), .v (.agg #[.int .i64 t187, .int .i64 t188]), .v (.agg #[.int .i64 t179, .int .i64 t180, .int .i64 t187, .int .i64 t188]), .a [.int .i64 t179, .int .i64 t180, .int .i64 t187, .int .i64 t188] (slTo 1)] (by kernel_rfl) ?_ ?_
                · refine DI.sq 3 (by kernel_rfl) rfl ?_
                  refine .cons (.quietH rfl (by intro h_; cases h_) (ixl (E := E_i644) (j := 3) rfl rfl rfl (by decide) rfl hx178)) ?_
                  refine DI.sq 1 (by kernel_rfl) rfl ?_
                  refine .cons (.ldn (vs := [.int .i64 x174, .int .i64 x175]) rfl rfl rfl (.lst 3 rfl (encL_sub (lgt_in hx178).1 (by kernel_rfl)))) ?_
                  refine .cons (.ldn rfl rfl rfl (.at 6 rfl rfl)) ?_
                  refine .cons (.call (vs := [.agg #[.int .i64 x174, .int .i64 x175], .agg #[.int .i64 (Int.tmod o1_X 1000000), .int .i64 (Int.tmod o1_Y 1000000)]]) rfl rfl (by kernel_rfl) (glyphiclaw23_plus.ok h181)) ?_
                  refine DI.sq 2 (by kernel_rfl) rfl ?_
                  refine .cons (.quietH rfl (by intro h_; cases h_) (ixl (E := E_i644) (j := 3) rfl rfl rfl (by decide) rfl hx186)) ?_
                  refine DI.sq 1 (by kernel_rfl) rfl ?_
                  refine .cons (.ldn (vs := [.int .i64 x184, .int .i64 x185]) rfl rfl rfl (.lst 3 rfl (encL_sub (lgt_in hx186).1 (by kernel_rfl)))) ?_
                  refine .cons (.ldn rfl rfl rfl (.at 6 rfl rfl)) ?_
                  refine .cons (.call (vs := [.agg #[.int .i64 x184, .int .i64 x185], .agg #[.int .i64 (Int.tmod o1_X 1000000), .int .i64 (Int.tmod o1_Y 1000000)]]) rfl rfl (by kernel_rfl) (glyphiclaw23_plus.ok h189)) ?_
                  refine DI.sq 1 (by kernel_rfl) rfl ?_
                  refine .cons (.bsl rfl rfl rfl rfl) ?_
                  exact .nil
                refine fk_q 16 [2, 5, 9, 11, 12, 14, 16, 17, 79] (σ' := [(2, .int .i64 (Int.tmod (wr64 ((Int.tmod A2 100) + 100)) 100)), (5, .pointer (some ⟨b1, 0, none⟩)), (9, .bool true), (11, .slice (ad N137) t134.length (nN137 / 4)), (12, .pointer (some ⟨b142, 0, none⟩)), (14, .slice (ad g164) y162.length (ng164 / 4)), (16, .slice (ad a169) y170.length (na169 / 4)), (17, .int .i64 x168), (79, .slice (ad a171) y172.length (na171 / 4))]) t_more (by kernel_rfl) ?_
                refine fk_a fun b190 fb190 sb190 => ?_
                refine fk_nil fun all => ?_
                obtain ⟨y191, hl192, e166⟩ := bind_of e166
                refine t_appX (E := E_i644) (L := y172) (X := ([(t179, t180, t187, t188)] : List (Int × Int × Int × Int))) (F := ([⟨b190, [.int .i64 t179, .int .i64 t180, .int .i64 t187, .int .i64 t188], 4⟩, ⟨a169, encL E_i644 y170, na169⟩, ⟨g164, encL E_i644 y162, ng164⟩, ⟨N137, encL E_i644 t134, nN137⟩, ⟨b142, [.int .i64 t138, .int .i64 t139], 2⟩, ⟨b39, [.slice a_t0 t0.length c_t0, .int .i64 t140], 2⟩, ⟨b1, [.int .i64 (Int.tmod o1_X 1000000), .int .i64 (Int.tmod o1_Y 1000000)], 2⟩] : List Own)) rfl rfl rfl rfl (sel_perm (is := [2]) (by kernel_rfl)) rfl (Or.inr ⟨_, _, rfl, .at 0 rfl (by kernel_rfl)⟩) rfl (by decide) (by decide) rfl hl192 fun a193 na193 => ?_
                refine t_qz 1 [2, 5, 9, 11, 12, 14, 15, 16, 17] (σ' := [(2, .int .i64 (Int.tmod (wr64 ((Int.tmod A2 100) + 100)) 100)), (5, .pointer (some ⟨b1, 0, none⟩)), (9, .bool true), (11, .slice (ad N137) t134.length (nN137 / 4)), (12, .pointer (some ⟨b142, 0, none⟩)), (14, .slice (ad g164) y162.length (ng164 / 4)), (15, .slice (ad a193) y191.length (na193 / 4)), (16, .slice (ad a169) y170.length (na169 / 4)), (17, .int .i64 x168)]) (by kernel_rfl) ?_
                refine t_end ?_
                show W _ _ _ _ _ _ _
                obtain ⟨⟨x194, x195, x196, x197⟩, hx198, e166⟩ := bind_of e166
                try dsimp only at e166
                obtain ⟨⟨x199, x200, x201, x202⟩, hx203, e166⟩ := bind_of e166
                try dsimp only at e166
                refine w_drwE mixed 13 [.v (.slice (ad a169) y170.length (na169 / 4)), .v (.slice (ad N137) t134.length (nN137 / 4)), .v (.int .i64 x168), .v (.pointer (some ⟨bk N137, (x168).toNat * 4 + 0, none⟩)), .v (.pointer (some ⟨bk N137, (x168).toNat * 4 + 2, none⟩)), .v (.agg #[.int .i64 x196, .int .i64 x197]), .v (.slice (ad N137) t134.length (nN137 / 4)), .v (.int .i64 x168), .v (.pointer (some ⟨bk N137, (x168).toNat * 4 + 0, none⟩)), .v (.pointer (some ⟨bk N137, (x168).toNat * 4 + 0, none⟩)), .v (.agg #[.int .i64 x199, .int .i64 x200]), .v (.agg #[.int .i64 x196, .int .i64 x197, .int .i64 x199, .int .i64 x200]), .a [.int .i64 x196, .int .i64 x197, .int .i64 x199, .int .i64 x200] (slTo 1)] (by kernel_rfl) ?_ ?_
                · refine DI.sq 3 (by kernel_rfl) rfl ?_
                  refine .cons (.quietH rfl (by intro h_; cases h_) (ixl (E := E_i644) (j := 4) rfl rfl rfl (by decide) rfl hx198)) ?_
                  refine DI.sq 1 (by kernel_rfl) rfl ?_
                  refine .cons (.ldn (vs := [.int .i64 x196, .int .i64 x197]) rfl rfl rfl (.lst 4 rfl (encL_sub (lgt_in hx198).1 (by kernel_rfl)))) ?_
                  refine DI.sq 2 (by kernel_rfl) rfl ?_
                  refine .cons (.quietH rfl (by intro h_; cases h_) (ixl (E := E_i644) (j := 4) rfl rfl rfl (by decide) rfl hx203)) ?_
                  refine DI.sq 1 (by kernel_rfl) rfl ?_
                  refine .cons (.ldn (vs := [.int .i64 x199, .int .i64 x200]) rfl rfl rfl (.lst 4 rfl (encL_sub (lgt_in hx203).1 (by kernel_rfl)))) ?_
                  refine DI.sq 1 (by kernel_rfl) rfl ?_
                  refine .cons (.bsl rfl rfl rfl rfl) ?_
                  exact .nil
                refine fk_q 12 [2, 5, 9, 11, 12, 14, 15, 17, 97] (σ' := [(2, .int .i64 (Int.tmod (wr64 ((Int.tmod A2 100) + 100)) 100)), (5, .pointer (some ⟨b1, 0, none⟩)), (9, .bool true), (11, .slice (ad N137) t134.length (nN137 / 4)), (12, .pointer (some ⟨b142, 0, none⟩)), (14, .slice (ad g164) y162.length (ng164 / 4)), (15, .slice (ad a193) y191.length (na193 / 4)), (17, .int .i64 x168), (97, .slice (ad a169) y170.length (na169 / 4))]) t_more (by kernel_rfl) ?_
                refine fk_a fun b204 fb204 sb204 => ?_
                refine fk_nil fun all => ?_
                obtain ⟨y205, hl206, e166⟩ := bind_of e166
                refine t_appX (E := E_i644) (L := y170) (X := ([(x196, x197, x199, x200)] : List (Int × Int × Int × Int))) (F := ([⟨b204, [.int .i64 x196, .int .i64 x197, .int .i64 x199, .int .i64 x200], 4⟩, ⟨a193, encL E_i644 y191, na193⟩, ⟨b190, [.int .i64 t179, .int .i64 t180, .int .i64 t187, .int .i64 t188], 4⟩, ⟨g164, encL E_i644 y162, ng164⟩, ⟨N137, encL E_i644 t134, nN137⟩, ⟨b142, [.int .i64 t138, .int .i64 t139], 2⟩, ⟨b39, [.slice a_t0 t0.length c_t0, .int .i64 t140], 2⟩, ⟨b1, [.int .i64 (Int.tmod o1_X 1000000), .int .i64 (Int.tmod o1_Y 1000000)], 2⟩] : List Own)) rfl rfl rfl rfl (sel_perm (is := [3]) (by kernel_rfl)) rfl (Or.inr ⟨_, _, rfl, .at 0 rfl (by kernel_rfl)⟩) rfl (by decide) (by decide) rfl hl206 fun a207 na207 => ?_
                refine t_qz 1 [2, 5, 9, 11, 12, 14, 15, 16, 17] (σ' := [(2, .int .i64 (Int.tmod (wr64 ((Int.tmod A2 100) + 100)) 100)), (5, .pointer (some ⟨b1, 0, none⟩)), (9, .bool true), (11, .slice (ad N137) t134.length (nN137 / 4)), (12, .pointer (some ⟨b142, 0, none⟩)), (14, .slice (ad g164) y162.length (ng164 / 4)), (15, .slice (ad a193) y191.length (na193 / 4)), (16, .slice (ad a207) y205.length (na207 / 4)), (17, .int .i64 x168)]) (by kernel_rfl) ?_
                refine t_end ?_
                show W _ _ _ _ _ _ _
                refine w_reg fun all => ?_
                refine t_qz 3 [2, 5, 9, 11, 12, 14, 15, 16, 17] (σ' := [(2, .int .i64 (Int.tmod (wr64 ((Int.tmod A2 100) + 100)) 100)), (5, .pointer (some ⟨b1, 0, none⟩)), (9, .bool true), (11, .slice (ad N137) t134.length (nN137 / 4)), (12, .pointer (some ⟨b142, 0, none⟩)), (14, .slice (ad g164) y162.length (ng164 / 4)), (15, .slice (ad a193) y191.length (na193 / 4)), (16, .slice (ad a207) y205.length (na207 / 4)), (17, .int .i64 (wr64 (x168 + 1)))]) (by kernel_rfl) ?_
                refine t_end ?_
                exact ⟨k_, Nat.lt_succ_self _, [(2, .int .i64 (Int.tmod (wr64 ((Int.tmod A2 100) + 100)) 100)), (5, .pointer (some ⟨b1, 0, none⟩)), (9, .bool true), (11, .slice (ad N137) t134.length (nN137 / 4)), (12, .pointer (some ⟨b142, 0, none⟩)), (14, .slice (ad g164) y162.length (ng164 / 4)), (15, .slice (ad a193) y191.length (na193 / 4)), (16, .slice (ad a207) y205.length (na207 / 4)), (17, .int .i64 (wr64 (x168 + 1)))], ([⟨a207, encL E_i644 y205, na207⟩, ⟨a193, encL E_i644 y191, na193⟩, ⟨g164, encL E_i644 y162, ng164⟩, ⟨N137, encL E_i644 t134, nN137⟩, ⟨b142, [.int .i64 t138, .int .i64 t139], 2⟩, ⟨b39, [.slice a_t0 t0.length c_t0, .int .i64 t140], 2⟩, ⟨b1, [.int .i64 (Int.tmod o1_X 1000000), .int .i64 (Int.tmod o1_Y 1000000)], 2⟩] : List Own), S, keep_sub [2, 5, 9, 11, 12, 14, 15, 16, 17] (by kernel_rfl), VS.sel [0, 1, 2, 2, 2, 2, 2] (by kernel_rfl), wr64 (x168 + 1), y205, y191, a207, na207, a193, na193, rfl, rfl, rfl, e166⟩
              · rw [if_neg c173] at e166
                have c173b : (decide (x168 < (t134.length : Int))) = false := decide_eq_false c173
                refine t_qz 3 [2, 5, 9, 11, 12, 14, 15, 16, 17, 73, 75] (σ' := [(2, .int .i64 (Int.tmod (wr64 ((Int.tmod A2 100) + 100)) 100)), (5, .pointer (some ⟨b1, 0, none⟩)), (9, .bool true), (11, .slice (ad N137) t134.length (nN137 / 4)), (12, .pointer (some ⟨b142, 0, none⟩)), (14, .slice (ad g164) y162.length (ng164 / 4)), (15, .slice (ad a171) y172.length (na171 / 4)), (16, .slice (ad a169) y170.length (na169 / 4)), (17, .int .i64 x168), (73, .int .i64 x168), (75, .int .i64 (t134.length : Int))]) (by kernel_rfl) ?_
                refine t_v (dv_quiet rfl (congrArg (fun t => some (Value.bool t)) c173b)) ?_
                refine t_keep [2, 5, 9, 11, 12, 14, 15, 16, 17, 76] (σ' := [(2, .int .i64 (Int.tmod (wr64 ((Int.tmod A2 100) + 100)) 100)), (5, .pointer (some ⟨b1, 0, none⟩)), (9, .bool true), (11, .slice (ad N137) t134.length (nN137 / 4)), (12, .pointer (some ⟨b142, 0, none⟩)), (14, .slice (ad g164) y162.length (ng164 / 4)), (15, .slice (ad a171) y172.length (na171 / 4)), (16, .slice (ad a169) y170.length (na169 / 4)), (17, .int .i64 x168), (76, .bool false)]) (by kernel_rfl) ?_
                refine t_end ?_
                show W _ _ _ _ _ _ _
                refine w_cond rfl (fun c_ => by cases c_) (fun _ => ?_)
                show W _ _ _ _ _ _ _
                refine w_exit ?_
                simp only [Option.some.injEq, Prod.mk.injEq] at e166
                obtain ⟨rfl, rfl, rfl, rfl, rfl, rfl⟩ := e166
                exact ⟨([⟨b142, [.int .i64 t138, .int .i64 t139], 2⟩, ⟨b39, [.slice a_t0 t0.length c_t0, .int .i64 t140], 2⟩, ⟨b1, [.int .i64 (Int.tmod o1_X 1000000), .int .i64 (Int.tmod o1_Y 1000000)], 2⟩, ⟨N137, encL E_i644 t134, nN137⟩, ⟨g164, encL E_i644 y162, ng164⟩, ⟨a171, encL E_i644 y172, na171⟩, ⟨a169, encL E_i644 y170, na169⟩] : List Own), S, VS.sel [4, 4, 4, 3, 2, 1, 0] (by kernel_rfl), a171, na171, a169, na169, by kernel_rfl, rfl, rfl⟩
          · rintro σ_ H_ S_ ⟨a212, na212, a214, na214, rfl, rfl, rfl⟩
            refine w_seq ?_
            refine w_reg fun all => ?_
            refine t_qz 2 [2, 5, 9, 12, 14, 15, 16, 111, 112] (σ' := [(2, .int .i64 x210), (5, .pointer (some ⟨b1, 0, none⟩)), (9, .bool x211), (12, .pointer (some ⟨b142, 0, none⟩)), (14, .slice (ad g164) y162.length (ng164 / 4)), (15, .slice (ad a212) y213.length (na212 / 4)), (16, .slice (ad a214) y215.length (na214 / 4)), (111, .slice (ad N137) t134.length (nN137 / 4)), (112, .int .i64 x210)]) (by kernel_rfl) ?_
            refine t_v (.ldn rfl rfl rfl (.at 0 rfl rfl)) ?_
            obtain ⟨t218, h219, e⟩ := bind_of e
            refine t_v (.callr (vs := [.slice (ad N137) t134.length (nN137 / 4), .int .i64 x210, .agg #[.int .i64 t138, .int .i64 t139]]) (A := ([⟨N137, encL E_i644 t134, nN137⟩] : List Own)) (F0 := ([⟨b142, [.int .i64 t138, .int .i64 t139], 2⟩, ⟨b39, [.slice a_t0 t0.length c_t0, .int .i64 t140], 2⟩, ⟨b1, [.int .i64 x216, .int .i64 x217], 2⟩, ⟨g164, encL E_i644 y162, ng164⟩, ⟨a212, encL E_i644 y213, na212⟩, ⟨a214, encL E_i644 y215, na214⟩] : List Own)) rfl rfl (by kernel_rfl) (sel_perm (is := [3]) (by kernel_rfl)) (cal_lendr fun S1_ le1_ hS1_ => (stroke_Near_v3.ok (SlE.ofAd (E := E_i644) (L := t134) hS1_ (by decide)) h219))) ?_
            refine t_qz 1 [2, 5, 9, 12, 14, 15, 16, 18] (σ' := [(2, .int .i64 x210), (5, .pointer (some ⟨b1, 0, none⟩)), (9, .bool x211), (12, .pointer (some ⟨b142, 0, none⟩)), (14, .slice (ad g164) y162.length (ng164 / 4)), (15, .slice (ad a212) y213.length (na212 / 4)), (16, .slice (ad a214) y215.length (na214 / 4)), (18, .bool t218)]) (by kernel_rfl) ?_
            refine t_end ?_
            show W _ _ _ _ _ _ _
            refine w_seq ?_
            refine w_reg fun all => ?_
            by_cases c220 : x211 = true
            · rw [if_pos c220] at e
              have c220b : x211 = true := c220
              refine t_v (dv_quiet rfl (congrArg (fun t => some (Value.bool t)) c220b)) ?_
              refine t_qz 3 [2, 5, 12, 15, 16, 18, 116, 117, 118] (σ' := [(2, .int .i64 x210), (5, .pointer (some ⟨b1, 0, none⟩)), (12, .pointer (some ⟨b142, 0, none⟩)), (15, .slice (ad a212) y213.length (na212 / 4)), (16, .slice (ad a214) y215.length (na214 / 4)), (18, .bool t218), (116, .bool true), (117, .slice (ad g164) y162.length (ng164 / 4)), (118, .int .i64 x210)]) (by kernel_rfl) ?_
              refine t_v (.ldn rfl rfl rfl (.at 0 rfl rfl)) ?_
              obtain ⟨t221, h222, e⟩ := bind_of e
              refine t_v (.callr (vs := [.slice (ad g164) y162.length (ng164 / 4), .int .i64 x210, .agg #[.int .i64 t138, .int .i64 t139]]) (A := ([⟨g164, encL E_i644 y162, ng164⟩] : List Own)) (F0 := ([⟨b142, [.int .i64 t138, .int .i64 t139], 2⟩, ⟨b39, [.slice a_t0 t0.length c_t0, .int .i64 t140], 2⟩, ⟨b1, [.int .i64 x216, .int .i64 x217], 2⟩, ⟨N137, encL E_i644 t134, nN137⟩, ⟨a212, encL E_i644 y213, na212⟩, ⟨a214, encL E_i644 y215, na214⟩] : List Own)) rfl rfl (by kernel_rfl) (sel_perm (is := [4]) (by kernel_rfl)) (cal_lendr fun S1_ le1_ hS1_ => (stroke_Near_v3.ok (SlE.ofAd (E := E_i644) (L := y162) hS1_ (by decide)) h222))) ?_
              by_cases c223 : t221 = t218
              · rw [if_pos c223] at e
                have c223b : (t221 == t218) = true := beq_iff_eq.mpr c223
                refine t_qz 1 [2, 5, 12, 15, 16, 18, 116, 120, 121] (σ' := [(2, .int .i64 x210), (5, .pointer (some ⟨b1, 0, none⟩)), (12, .pointer (some ⟨b142, 0, none⟩)), (15, .slice (ad a212) y213.length (na212 / 4)), (16, .slice (ad a214) y215.length (na214 / 4)), (18, .bool t218), (116, .bool true), (120, .bool t221), (121, .bool t218)]) (by kernel_rfl) ?_
                refine t_v (dv_quiet rfl (congrArg (fun t => some (Value.bool t)) c223b)) ?_
                refine t_qz 4 [2, 5, 12, 16, 18, 124, 125, 126] (σ' := [(2, .int .i64 x210), (5, .pointer (some ⟨b1, 0, none⟩)), (12, .pointer (some ⟨b142, 0, none⟩)), (16, .slice (ad a214) y215.length (na214 / 4)), (18, .bool t218), (124, .bool true), (125, .slice (ad a212) y213.length (na212 / 4)), (126, .int .i64 x210)]) (by kernel_rfl) ?_
                refine t_v (.ldn rfl rfl rfl (.at 0 rfl rfl)) ?_
                refine t_v (.ldn rfl rfl rfl (.at 2 rfl rfl)) ?_
                obtain ⟨⟨t224, t225⟩, h226, e⟩ := bind_of e
                try dsimp only at e
                refine t_v (.call (vs := [.agg #[.int .i64 t138, .int .i64 t139], .agg #[.int .i64 x216, .int .i64 x217]]) rfl rfl (by kernel_rfl) (glyphiclaw23_plus.ok h226)) ?_
                obtain ⟨t227, h228, e⟩ := bind_of e
                refine t_v (.callr (vs := [.slice (ad a212) y213.length (na212 / 4), .int .i64 x210, .agg #[.int .i64 t224, .int .i64 t225]]) (A := ([⟨a212, encL E_i644 y213, na212⟩] : List Own)) (F0 := ([⟨b142, [.int .i64 t138, .int .i64 t139], 2⟩, ⟨b39, [.slice a_t0 t0.length c_t0, .int .i64 t140], 2⟩, ⟨b1, [.int .i64 x216, .int .i64 x217], 2⟩, ⟨N137, encL E_i644 t134, nN137⟩, ⟨g164, encL E_i644 y162, ng164⟩, ⟨a214, encL E_i644 y215, na214⟩] : List Own)) rfl rfl (by kernel_rfl) (sel_perm (is := [5]) (by kernel_rfl)) (cal_lendr fun S1_ le1_ hS1_ => (stroke_Near_v3.ok (SlE.ofAd (E := E_i644) (L := y213) hS1_ (by decide)) h228))) ?_
                by_cases c229 : t227 = t218
                · rw [if_pos c229] at e
                  have c229b : (t227 == t218) = true := beq_iff_eq.mpr c229
                  refine t_qz 1 [2, 12, 16, 18, 124, 130, 131] (σ' := [(2, .int .i64 x210), (12, .pointer (some ⟨b142, 0, none⟩)), (16, .slice (ad a214) y215.length (na214 / 4)), (18, .bool t218), (124, .bool true), (130, .bool t227), (131, .bool t218)]) (by kernel_rfl) ?_
                  refine t_v (dv_quiet rfl (congrArg (fun t => some (Value.bool t)) c229b)) ?_
                  refine t_qz 4 [12, 18, 134, 135, 136] (σ' := [(12, .pointer (some ⟨b142, 0, none⟩)), (18, .bool t218), (134, .bool true), (135, .slice (ad a214) y215.length (na214 / 4)), (136, .int .i64 x210)]) (by kernel_rfl) ?_
                  refine t_v (.ldn rfl rfl rfl (.at 0 rfl rfl)) ?_
                  obtain ⟨t230, h231, e⟩ := bind_of e
                  refine t_v (.callr (vs := [.slice (ad a214) y215.length (na214 / 4), .int .i64 x210, .agg #[.int .i64 t138, .int .i64 t139]]) (A := ([⟨a214, encL E_i644 y215, na214⟩] : List Own)) (F0 := ([⟨b142, [.int .i64 t138, .int .i64 t139], 2⟩, ⟨b39, [.slice a_t0 t0.length c_t0, .int .i64 t140], 2⟩, ⟨b1, [.int .i64 x216, .int .i64 x217], 2⟩, ⟨N137, encL E_i644 t134, nN137⟩, ⟨g164, encL E_i644 y162, ng164⟩, ⟨a212, encL E_i644 y213, na212⟩] : List Own)) rfl rfl (by kernel_rfl) (sel_perm (is := [6]) (by kernel_rfl)) (cal_lendr fun S1_ le1_ hS1_ => (stroke_Near_v3.ok (SlE.ofAd (E := E_i644) (L := y215) hS1_ (by decide)) h231))) ?_
                  refine t_qz 4 [8] (σ' := [(8, .bool (t230 == t218))]) (by kernel_rfl) ?_
                  refine t_end ?_
                  show W _ _ _ _ _ _ _
                  refine w_ret ?_
                  have hr_ := Option.some.inj e
                  exact ⟨[.bool (t230 == t218)], [], S, ⟨rfl, trivial⟩, VS.none, congrArg Value.bool hr_, rfl, rfl⟩
                · rw [if_neg c229] at e
                  exact absurd (Option.some.inj e) (by decide)
              · rw [if_neg c223] at e
                exact absurd (Option.some.inj e) (by decide)
            · rw [if_neg c220] at e
              exact absurd (Option.some.inj e) (by decide)
        have hg_ff : ∀ (g164 : Option Nat) (ng164 : Nat), G [true, true, true, true, true, true, true, true, false] [(2, .int .i64 (Int.tmod (wr64 ((Int.tmod A2 100) + 100)) 100)), (5, .pointer (some ⟨b1, 0, none⟩)), (9, .bool true), (11, .slice (ad N137) t134.length (nN137 / 4)), (12, .pointer (some ⟨b142, 0, none⟩)), (72, .slice (ad g164) y162.length (ng164 / 4))] ([⟨g164, encL E_i644 y162, ng164⟩, ⟨N137, encL E_i644 t134, nN137⟩, ⟨b142, [.int .i64 t138, .int .i64 t139], 2⟩, ⟨b39, [.slice a_t0 t0.length c_t0, .int .i64 t140], 2⟩, ⟨b1, [.int .i64 (Int.tmod o1_X 1000000), .int .i64 (Int.tmod o1_Y 1000000)], 2⟩] : List Own) := by
          intro g164 ng164
          exact hqf 8 [2, 5, 9, 11, 12, 14] _ _ _ [(2, .int .i64 (Int.tmod (wr64 ((Int.tmod A2 100) + 100)) 100)), (5, .pointer (some ⟨b1, 0, none⟩)), (9, .bool true), (11, .slice (ad N137) t134.length (nN137 / 4)), (12, .pointer (some ⟨b142, 0, none⟩)), (14, .slice (ad g164) y162.length (ng164 / 4))] (by kernel_rfl) (by kernel_rfl) (hg_1ff g164 ng164)
        have hg_7f : ∀ (N155 : Option Nat) (nN155 : Nat), G [true, true, true, true, true, true, true, false, false] [(2, .int .i64 (Int.tmod (wr64 ((Int.tmod A2 100) + 100)) 100)), (5, .pointer (some ⟨b1, 0, none⟩)), (9, .bool true), (11, .slice (ad N137) t134.length (nN137 / 4)), (12, .pointer (some ⟨b142, 0, none⟩)), (68, .slice (ad N155) t153.length (nN155 / 4)), (71, .slice (some ⟨bk N137, q158, none⟩) y156.length c159)] ([⟨N137, encL E_i644 t134, nN137⟩, ⟨N155, encL E_i644 t153, nN155⟩, ⟨b142, [.int .i64 t138, .int .i64 t139], 2⟩, ⟨b39, [.slice a_t0 t0.length c_t0, .int .i64 t140], 2⟩, ⟨b1, [.int .i64 (Int.tmod o1_X 1000000), .int .i64 (Int.tmod o1_Y 1000000)], 2⟩] : List Own) := by
          intro N155 nN155
          refine hstep [7] _ _ _ (by kernel_rfl) (List.cons_ne_nil _ _) ⟨?_, trivial⟩
          · show T _ _ _ _ _ _ _ _
            refine t_appX (E := E_i644) (L := t153) (X := y156) (F := ([⟨N137, encL E_i644 t134, nN137⟩, ⟨b142, [.int .i64 t138, .int .i64 t139], 2⟩, ⟨b39, [.slice a_t0 t0.length c_t0, .int .i64 t140], 2⟩, ⟨b1, [.int .i64 (Int.tmod o1_X 1000000), .int .i64 (Int.tmod o1_Y 1000000)], 2⟩] : List Own)) rfl rfl rfl rfl (sel_perm (is := [1]) (by kernel_rfl)) rfl (apV (j := 0) rfl hv161 rfl) rfl (by decide) (by decide) rfl hl163 fun g164 ng164 => ?_
            refine t_keep [2, 5, 9, 11, 12, 72] (σ' := [(2, .int .i64 (Int.tmod (wr64 ((Int.tmod A2 100) + 100)) 100)), (5, .pointer (some ⟨b1, 0, none⟩)), (9, .bool true), (11, .slice (ad N137) t134.length (nN137 / 4)), (12, .pointer (some ⟨b142, 0, none⟩)), (72, .slice (ad g164) y162.length (ng164 / 4))]) (by kernel_rfl) ?_
            refine t_end ?_
            exact ⟨hg_ff g164 ng164, rfl⟩
        have hg_77 : G [true, true, true, false, true, true, true, false, false] [(2, .int .i64 (Int.tmod (wr64 ((Int.tmod A2 100) + 100)) 100)), (5, .pointer (some ⟨b1, 0, none⟩)), (9, .bool true), (11, .slice (ad N137) t134.length (nN137 / 4)), (12, .pointer (some ⟨b142, 0, none⟩)), (67, .slice (some ⟨bk N137, q149, none⟩) y147.length c150), (71, .slice (some ⟨bk N137, q158, none⟩) y156.length c159)] ([⟨b142, [.int .i64 t138, .int .i64 t139], 2⟩, ⟨b39, [.slice a_t0 t0.length c_t0, .int .i64 t140], 2⟩, ⟨N137, encL E_i644 t134, nN137⟩, ⟨b1, [.int .i64 (Int.tmod o1_X 1000000), .int .i64 (Int.tmod o1_Y 1000000)], 2⟩] : List Own) := by
          refine hstep [3] _ _ _ (by kernel_rfl) (List.cons_ne_nil _ _) ⟨?_, trivial⟩
          · show T _ _ _ _ _ _ _ _
            refine t_call (vs := [.slice (some ⟨bk N137, q149, none⟩) y147.length c150]) (H1 := ([⟨N137, encL E_i644 t134, nN137⟩] : List Own)) (F := ([⟨b142, [.int .i64 t138, .int .i64 t139], 2⟩, ⟨b39, [.slice a_t0 t0.length c_t0, .int .i64 t140], 2⟩, ⟨b1, [.int .i64 (Int.tmod o1_X 1000000), .int .i64 (Int.tmod o1_Y 1000000)], 2⟩] : List Own)) rfl rfl (by kernel_rfl) (sel_perm (is := [2]) (by kernel_rfl)) (cal_lend (Qc := fun v_ H_ => ∃ (N155 : Option Nat) (nN155 : Nat), v_ = (.slice (ad N155) t153.length (nN155 / 4)) ∧ H_ = ([⟨N155, encL E_i644 t153, nN155⟩] : List Own)) fun S1_ le1_ hS1_ => (glyphicref_Edges_v1.ok (SlE.of hv152 (by decide) hS1_) h154).mono fun _ _ _ ⟨N155, nN155, h1_, h2_, h3_⟩ => ⟨⟨N155, nN155, h1_, h2_⟩, h3_⟩) ?_
            rintro _ _ S_ ⟨⟨_, rfl, ⟨N155, nN155, rfl, rfl⟩⟩, hS_⟩
            obtain rfl := hS_.symm
            refine t_keep [2, 5, 9, 11, 12, 68, 71] (σ' := [(2, .int .i64 (Int.tmod (wr64 ((Int.tmod A2 100) + 100)) 100)), (5, .pointer (some ⟨b1, 0, none⟩)), (9, .bool true), (11, .slice (ad N137) t134.length (nN137 / 4)), (12, .pointer (some ⟨b142, 0, none⟩)), (68, .slice (ad N155) t153.length (nN155 / 4)), (71, .slice (some ⟨bk N137, q158, none⟩) y156.length c159)]) (by kernel_rfl) ?_
            refine t_end ?_
            exact ⟨hg_7f N155 nN155, rfl⟩
        have hg_3f : ∀ (N155 : Option Nat) (nN155 : Nat), G [true, true, true, true, true, true, false, false, false] [(2, .int .i64 (Int.tmod (wr64 ((Int.tmod A2 100) + 100)) 100)), (5, .pointer (some ⟨b1, 0, none⟩)), (9, .bool true), (11, .slice (ad N137) t134.length (nN137 / 4)), (12, .pointer (some ⟨b142, 0, none⟩)), (68, .slice (ad N155) t153.length (nN155 / 4)), (69, .slice (ad N137) t134.length (nN137 / 4)), (70, .int .i64 (Int.tmod (wr64 ((Int.tmod r3 (t134.length : Int)) + (t134.length : Int))) (t134.length : Int)))] ([⟨N137, encL E_i644 t134, nN137⟩, ⟨N155, encL E_i644 t153, nN155⟩, ⟨b142, [.int .i64 t138, .int .i64 t139], 2⟩, ⟨b39, [.slice a_t0 t0.length c_t0, .int .i64 t140], 2⟩, ⟨b1, [.int .i64 (Int.tmod o1_X 1000000), .int .i64 (Int.tmod o1_Y 1000000)], 2⟩] : List Own) := by
          intro N155 nN155
          refine hstep [6] _ _ _ (by kernel_rfl) (List.cons_ne_nil _ _) ⟨?_, trivial⟩
          · show T _ _ _ _ _ _ _ _
            refine t_v (.quietH rfl (by intro h_; cases h_) (hq160 (j := 0) rfl .no (.is rfl) rfl)) ?_
            refine t_keep [2, 5, 9, 11, 12, 68, 71] (σ' := [(2, .int .i64 (Int.tmod (wr64 ((Int.tmod A2 100) + 100)) 100)), (5, .pointer (some ⟨b1, 0, none⟩)), (9, .bool true), (11, .slice (ad N137) t134.length (nN137 / 4)), (12, .pointer (some ⟨b142, 0, none⟩)), (68, .slice (ad N155) t153.length (nN155 / 4)), (71, .slice (some ⟨bk N137, q158, none⟩) y156.length c159)]) (by kernel_rfl) ?_
            refine t_end ?_
            exact ⟨hg_7f N155 nN155, rfl⟩
        have hg_73 : G [true, true, false, false, true, true, true, false, false] [(2, .int .i64 (Int.tmod (wr64 ((Int.tmod A2 100) + 100)) 100)), (5, .pointer (some ⟨b1, 0, none⟩)), (9, .bool true), (11, .slice (ad N137) t134.length (nN137 / 4)), (12, .pointer (some ⟨b142, 0, none⟩)), (65, .slice (ad N137) t134.length (nN137 / 4)), (66, .int .i64 (Int.tmod (wr64 ((Int.tmod r3 (t134.length : Int)) + (t134.length : Int))) (t134.length : Int))), (71, .slice (some ⟨bk N137, q158, none⟩) y156.length c159)] ([⟨b142, [.int .i64 t138, .int .i64 t139], 2⟩, ⟨b39, [.slice a_t0 t0.length c_t0, .int .i64 t140], 2⟩, ⟨N137, encL E_i644 t134, nN137⟩, ⟨b1, [.int .i64 (Int.tmod o1_X 1000000), .int .i64 (Int.tmod o1_Y 1000000)], 2⟩] : List Own) := by
          refine hstep [2] _ _ _ (by kernel_rfl) (List.cons_ne_nil _ _) ⟨?_, trivial⟩
          · show T _ _ _ _ _ _ _ _
            refine t_v (.quietH rfl (by intro h_; cases h_) (hq151 (j := 2) rfl (.is rfl) .no rfl)) ?_
            refine t_keep [2, 5, 9, 11, 12, 67, 71] (σ' := [(2, .int .i64 (Int.tmod (wr64 ((Int.tmod A2 100) + 100)) 100)), (5, .pointer (some ⟨b1, 0, none⟩)), (9, .bool true), (11, .slice (ad N137) t134.length (nN137 / 4)), (12, .pointer (some ⟨b142, 0, none⟩)), (67, .slice (some ⟨bk N137, q149, none⟩) y147.length c150), (71, .slice (some ⟨bk N137, q158, none⟩) y156.length c159)]) (by kernel_rfl) ?_
            refine t_end ?_
            exact ⟨hg_77, rfl⟩
        have hg_37 : G [true, true, true, false, true, true, false, false, false] [(2, .int .i64 (Int.tmod (wr64 ((Int.tmod A2 100) + 100)) 100)), (5, .pointer (some ⟨b1, 0, none⟩)), (9, .bool true), (11, .slice (ad N137) t134.length (nN137 / 4)), (12, .pointer (some ⟨b142, 0, none⟩)), (67, .slice (some ⟨bk N137, q149, none⟩) y147.length c150), (69, .slice (ad N137) t134.length (nN137 / 4)), (70, .int .i64 (Int.tmod (wr64 ((Int.tmod r3 (t134.length : Int)) + (t134.length : Int))) (t134.length : Int)))] ([⟨b142, [.int .i64 t138, .int .i64 t139], 2⟩, ⟨b39, [.slice a_t0 t0.length c_t0, .int .i64 t140], 2⟩, ⟨N137, encL E_i644 t134, nN137⟩, ⟨b1, [.int .i64 (Int.tmod o1_X 1000000), .int .i64 (Int.tmod o1_Y 1000000)], 2⟩] : List Own) := by
          refine hstep [3, 6] _ _ _ (by kernel_rfl) (List.cons_ne_nil _ _) ⟨?_, ?_, trivial⟩
          · show T _ _ _ _ _ _ _ _
            refine t_call (vs := [.slice (some ⟨bk N137, q149, none⟩) y147.length c150]) (H1 := ([⟨N137, encL E_i644 t134, nN137⟩] : List Own)) (F := ([⟨b142, [.int .i64 t138, .int .i64 t139], 2⟩, ⟨b39, [.slice a_t0 t0.length c_t0, .int .i64 t140], 2⟩, ⟨b1, [.int .i64 (Int.tmod o1_X 1000000), .int .i64 (Int.tmod o1_Y 1000000)], 2⟩] : List Own)) rfl rfl (by kernel_rfl) (sel_perm (is := [2]) (by kernel_rfl)) (cal_lend (Qc := fun v_ H_ => ∃ (N155 : Option Nat) (nN155 : Nat), v_ = (.slice (ad N155) t153.length (nN155 / 4)) ∧ H_ = ([⟨N155, encL E_i644 t153, nN155⟩] : List Own)) fun S1_ le1_ hS1_ => (glyphicref_Edges_v1.ok (SlE.of hv152 (by decide) hS1_) h154).mono fun _ _ _ ⟨N155, nN155, h1_, h2_, h3_⟩ => ⟨⟨N155, nN155, h1_, h2_⟩, h3_⟩) ?_
            rintro _ _ S_ ⟨⟨_, rfl, ⟨N155, nN155, rfl, rfl⟩⟩, hS_⟩
            obtain rfl := hS_.symm
            refine t_keep [2, 5, 9, 11, 12, 68, 69, 70] (σ' := [(2, .int .i64 (Int.tmod (wr64 ((Int.tmod A2 100) + 100)) 100)), (5, .pointer (some ⟨b1, 0, none⟩)), (9, .bool true), (11, .slice (ad N137) t134.length (nN137 / 4)), (12, .pointer (some ⟨b142, 0, none⟩)), (68, .slice (ad N155) t153.length (nN155 / 4)), (69, .slice (ad N137) t134.length (nN137 / 4)), (70, .int .i64 (Int.tmod (wr64 ((Int.tmod r3 (t134.length : Int)) + (t134.length : Int))) (t134.length : Int)))]) (by kernel_rfl) ?_
            refine t_end ?_
            exact ⟨hg_3f N155 nN155, rfl⟩
          · show T _ _ _ _ _ _ _ _
            refine t_v (.quietH rfl (by intro h_; cases h_) (hq160 (j := 2) rfl .no (.is rfl) rfl)) ?_
            refine t_keep [2, 5, 9, 11, 12, 67, 71] (σ' := [(2, .int .i64 (Int.tmod (wr64 ((Int.tmod A2 100) + 100)) 100)), (5, .pointer (some ⟨b1, 0, none⟩)), (9, .bool true), (11, .slice (ad N137) t134.length (nN137 / 4)), (12, .pointer (some ⟨b142, 0, none⟩)), (67, .slice (some ⟨bk N137, q149, none⟩) y147.length c150), (71, .slice (some ⟨bk N137, q158, none⟩) y156.length c159)]) (by kernel_rfl) ?_
            refine t_end ?_
            exact ⟨hg_77, rfl⟩
        have hg_33 : G [true, true, false, false, true, true, false, false, false] [(2, .int .i64 (Int.tmod (wr64 ((Int.tmod A2 100) + 100)) 100)), (5, .pointer (some ⟨b1, 0, none⟩)), (9, .bool true), (11, .slice (ad N137) t134.length (nN137 / 4)), (12, .pointer (some ⟨b142, 0, none⟩)), (65, .slice (ad N137) t134.length (nN137 / 4)), (66, .int .i64 (Int.tmod (wr64 ((Int.tmod r3 (t134.length : Int)) + (t134.length : Int))) (t134.length : Int))), (69, .slice (ad N137) t134.length (nN137 / 4)), (70, .int .i64 (Int.tmod (wr64 ((Int.tmod r3 (t134.length : Int)) + (t134.length : Int))) (t134.length : Int)))] ([⟨b142, [.int .i64 t138, .int .i64 t139], 2⟩, ⟨b39, [.slice a_t0 t0.length c_t0, .int .i64 t140], 2⟩, ⟨N137, encL E_i644 t134, nN137⟩, ⟨b1, [.int .i64 (Int.tmod o1_X 1000000), .int .i64 (Int.tmod o1_Y 1000000)], 2⟩] : List Own) := by
          refine hstep [2, 6] _ _ _ (by kernel_rfl) (List.cons_ne_nil _ _) ⟨?_, ?_, trivial⟩
          · show T _ _ _ _ _ _ _ _
            refine t_v (.quietH rfl (by intro h_; cases h_) (hq151 (j := 2) rfl (.is rfl) .no rfl)) ?_
            refine t_keep [2, 5, 9, 11, 12, 67, 69, 70] (σ' := [(2, .int .i64 (Int.tmod (wr64 ((Int.tmod A2 100) + 100)) 100)), (5, .pointer (some ⟨b1, 0, none⟩)), (9, .bool true), (11, .slice (ad N137) t134.length (nN137 / 4)), (12, .pointer (some ⟨b142, 0, none⟩)), (67, .slice (some ⟨bk N137, q149, none⟩) y147.length c150), (69, .slice (ad N137) t134.length (nN137 / 4)), (70, .int .i64 (Int.tmod (wr64 ((Int.tmod r3 (t134.length : Int)) + (t134.length : Int))) (t134.length : Int)))]) (by kernel_rfl) ?_
            refine t_end ?_
            exact ⟨hg_37, rfl⟩
          · show T _ _ _ _ _ _ _ _
            refine t_v (.quietH rfl (by intro h_; cases h_) (hq160 (j := 2) rfl .no (.is rfl) rfl)) ?_
            refine t_keep [2, 5, 9, 11, 12, 65, 66, 71] (σ' := [(2, .int .i64 (Int.tmod (wr64 ((Int.tmod A2 100) + 100)) 100)), (5, .pointer (some ⟨b1, 0, none⟩)), (9, .bool true), (11, .slice (ad N137) t134.length (nN137 / 4)), (12, .pointer (some ⟨b142, 0, none⟩)), (65, .slice (ad N137) t134.length (nN137 / 4)), (66, .int .i64 (Int.tmod (wr64 ((Int.tmod r3 (t134.length : Int)) + (t134.length : Int))) (t134.length : Int))), (71, .slice (some ⟨bk N137, q158, none⟩) y156.length c159)]) (by kernel_rfl) ?_
            refine t_end ?_
            exact ⟨hg_73, rfl⟩
        have hg_13 : G [true, true, false, false, true, false, false, false, false] [(2, .int .i64 (Int.tmod (wr64 ((Int.tmod A2 100) + 100)) 100)), (5, .pointer (some ⟨b1, 0, none⟩)), (9, .bool true), (11, .slice (ad N137) t134.length (nN137 / 4)), (12, .pointer (some ⟨b142, 0, none⟩)), (13, .int .i64 (Int.tmod (wr64 ((Int.tmod r3 (t134.length : Int)) + (t134.length : Int))) (t134.length : Int))), (65, .slice (ad N137) t134.length (nN137 / 4)), (66, .int .i64 (Int.tmod (wr64 ((Int.tmod r3 (t134.length : Int)) + (t134.length : Int))) (t134.length : Int))), (69, .slice (ad N137) t134.length (nN137 / 4))] ([⟨b142, [.int .i64 t138, .int .i64 t139], 2⟩, ⟨b39, [.slice a_t0 t0.length c_t0, .int .i64 t140], 2⟩, ⟨N137, encL E_i644 t134, nN137⟩, ⟨b1, [.int .i64 (Int.tmod o1_X 1000000), .int .i64 (Int.tmod o1_Y 1000000)], 2⟩] : List Own) := by
          exact hqf 5 [2, 5, 9, 11, 12, 65, 66, 69, 70] _ _ _ [(2, .int .i64 (Int.tmod (wr64 ((Int.tmod A2 100) + 100)) 100)), (5, .pointer (some ⟨b1, 0, none⟩)), (9, .bool true), (11, .slice (ad N137) t134.length (nN137 / 4)), (12, .pointer (some ⟨b142, 0, none⟩)), (65, .slice (ad N137) t134.length (nN137 / 4)), (66, .int .i64 (Int.tmod (wr64 ((Int.tmod r3 (t134.length : Int)) + (t134.length : Int))) (t134.length : Int))), (69, .slice (ad N137) t134.length (nN137 / 4)), (70, .int .i64 (Int.tmod (wr64 ((Int.tmod r3 (t134.length : Int)) + (t134.length : Int))) (t134.length : Int)))] (by kernel_rfl) (by kernel_rfl) hg_33
        have hg_3 : G [true, true, false, false, false, false, false, false, false] [(2, .int .i64 (Int.tmod (wr64 ((Int.tmod A2 100) + 100)) 100)), (5, .pointer (some ⟨b1, 0, none⟩)), (9, .bool true), (11, .slice (ad N137) t134.length (nN137 / 4)), (12, .pointer (some ⟨b142, 0, none⟩)), (13, .int .i64 (Int.tmod (wr64 ((Int.tmod r3 (t134.length : Int)) + (t134.length : Int))) (t134.length : Int))), (65, .slice (ad N137) t134.length (nN137 / 4)), (66, .int .i64 (Int.tmod (wr64 ((Int.tmod r3 (t134.length : Int)) + (t134.length : Int))) (t134.length : Int)))] ([⟨b142, [.int .i64 t138, .int .i64 t139], 2⟩, ⟨b39, [.slice a_t0 t0.length c_t0, .int .i64 t140], 2⟩, ⟨N137, encL E_i644 t134, nN137⟩, ⟨b1, [.int .i64 (Int.tmod o1_X 1000000), .int .i64 (Int.tmod o1_Y 1000000)], 2⟩] : List Own) := by
          exact hqf 4 [2, 5, 9, 11, 12, 13, 65, 66, 69] _ _ _ [(2, .int .i64 (Int.tmod (wr64 ((Int.tmod A2 100) + 100)) 100)), (5, .pointer (some ⟨b1, 0, none⟩)), (9, .bool true), (11, .slice (ad N137) t134.length (nN137 / 4)), (12, .pointer (some ⟨b142, 0, none⟩)), (13, .int .i64 (Int.tmod (wr64 ((Int.tmod r3 (t134.length : Int)) + (t134.length : Int))) (t134.length : Int))), (65, .slice (ad N137) t134.length (nN137 / 4)), (66, .int .i64 (Int.tmod (wr64 ((Int.tmod r3 (t134.length : Int)) + (t134.length : Int))) (t134.length : Int))), (69, .slice (ad N137) t134.length (nN137 / 4))] (by kernel_rfl) (by kernel_rfl) hg_13
        have hg_1 : G [true, false, false, false, false, false, false, false, false] [(2, .int .i64 (Int.tmod (wr64 ((Int.tmod A2 100) + 100)) 100)), (5, .pointer (some ⟨b1, 0, none⟩)), (9, .bool true), (11, .slice (ad N137) t134.length (nN137 / 4)), (12, .pointer (some ⟨b142, 0, none⟩)), (13, .int .i64 (Int.tmod (wr64 ((Int.tmod r3 (t134.length : Int)) + (t134.length : Int))) (t134.length : Int))), (65, .slice (ad N137) t134.length (nN137 / 4))] ([⟨b142, [.int .i64 t138, .int .i64 t139], 2⟩, ⟨b39, [.slice a_t0 t0.length c_t0, .int .i64 t140], 2⟩, ⟨N137, encL E_i644 t134, nN137⟩, ⟨b1, [.int .i64 (Int.tmod o1_X 1000000), .int .i64 (Int.tmod o1_Y 1000000)], 2⟩] : List Own) := by
          exact hqf 1 [2, 5, 9, 11, 12, 13, 65, 66] _ _ _ [(2, .int .i64 (Int.tmod (wr64 ((Int.tmod A2 100) + 100)) 100)), (5, .pointer (some ⟨b1, 0, none⟩)), (9, .bool true), (11, .slice (ad N137) t134.length (nN137 / 4)), (12, .pointer (some ⟨b142, 0, none⟩)), (13, .int .i64 (Int.tmod (wr64 ((Int.tmod r3 (t134.length : Int)) + (t134.length : Int))) (t134.length : Int))), (65, .slice (ad N137) t134.length (nN137 / 4)), (66, .int .i64 (Int.tmod (wr64 ((Int.tmod r3 (t134.length : Int)) + (t134.length : Int))) (t134.length : Int)))] (by kernel_rfl) (by kernel_rfl) hg_3
        have hg_0 : G [false, false, false, false, false, false, false, false, false] [(2, .int .i64 (Int.tmod (wr64 ((Int.tmod A2 100) + 100)) 100)), (5, .pointer (some ⟨b1, 0, none⟩)), (9, .bool true), (11, .slice (ad N137) t134.length (nN137 / 4)), (12, .pointer (some ⟨b142, 0, none⟩)), (13, .int .i64 (Int.tmod (wr64 ((Int.tmod r3 (t134.length : Int)) + (t134.length : Int))) (t134.length : Int)))] ([⟨b142, [.int .i64 t138, .int .i64 t139], 2⟩, ⟨b39, [.slice a_t0 t0.length c_t0, .int .i64 t140], 2⟩, ⟨N137, encL E_i644 t134, nN137⟩, ⟨b1, [.int .i64 (Int.tmod o1_X 1000000), .int .i64 (Int.tmod o1_Y 1000000)], 2⟩] : List Own) := by
          exact hqf 0 [2, 5, 9, 11, 12, 13, 65] _ _ _ [(2, .int .i64 (Int.tmod (wr64 ((Int.tmod A2 100) + 100)) 100)), (5, .pointer (some ⟨b1, 0, none⟩)), (9, .bool true), (11, .slice (ad N137) t134.length (nN137 / 4)), (12, .pointer (some ⟨b142, 0, none⟩)), (13, .int .i64 (Int.tmod (wr64 ((Int.tmod r3 (t134.length : Int)) + (t134.length : Int))) (t134.length : Int))), (65, .slice (ad N137) t134.length (nN137 / 4))] (by kernel_rfl) (by kernel_rfl) hg_1
        exact hg_0
  | false =>
    rw [if_neg (by decide)] at e
    exact absurd (Option.some.inj e) (by decide)

def glyphiclaw23_StrokeMoves.Pure : Prop := ∀ (t0 : List (Int)) (o1_X : Int) (o1_Y : Int) (A2 : Int) (r3 : Int), (Lit.int .i64 o1_X).wf = true → (Lit.int .i64 o1_Y).wf = true → (Lit.int .i64 A2).wf = true → (Lit.int .i64 r3).wf = true → ∃ k, glyphiclaw23_StrokeMoves.f k t0 o1_X o1_Y A2 r3 = some true
theorem glyphiclaw23_StrokeMoves.walk (P : glyphiclaw23_StrokeMoves.Pure) (t0 : List (Int)) (o1_X : Int) (o1_Y : Int) (A2 : Int) (r3 : Int) (w : World) {S : Seal} (hS : HOK [] S w) {a_t0 : Option Addr} {c_t0 : Nat} (h_t0 : SlI S .i64 t0 a_t0) (ho1_X : (Lit.int .i64 o1_X).wf = true) (ho1_Y : (Lit.int .i64 o1_Y).wf = true) (hA2 : (Lit.int .i64 A2).wf = true) (hr3 : (Lit.int .i64 r3).wf = true) :
    Calls Try.prog 3 #[.slice a_t0 t0.length c_t0, .agg #[.int .i64 o1_X, .int .i64 o1_Y], .int .i64 A2, .int .i64 r3] w fun e w' => e = .returned (.bool true) ∧ Below w.heap.size w w' := let ⟨k, h⟩ := P t0 o1_X o1_Y A2 r3 ho1_X ho1_Y hA2 hr3; law_w hS (glyphiclaw23_StrokeMoves.ok (SlI.e h_t0) (k := k) h)
end Go.Proofs.Ytpimfacaalkmdaa.QStrokeMoves
