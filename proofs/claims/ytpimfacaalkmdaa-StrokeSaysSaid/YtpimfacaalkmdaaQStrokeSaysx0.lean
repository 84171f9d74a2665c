/- Functions of the program as Lean functions, each with the proof of its walk. Written by gen.py, a program of these sessions. -/
import Derived.Test.YtpimfacaalkmdaaX
import Derived.Test.YtpimfacaalkmdaaProg
namespace Go.Proofs.Ytpimfacaalkmdaa.QStrokeSays
open Go Go.RowKit Go.Proofs.YtpimfacaalkmdaaE Go.Proofs.YtpimfacaalkmdaaX
set_option linter.unusedVariables false
set_option maxRecDepth 100000
set_option maxHeartbeats 8000000
theorem mixed : Try.prog.follows .mixedOrders = true := by kernel_rfl

def E_i64 : En (Int) := ⟨1, fun t => [.int .i64 t], fun _ => rfl, fun _ => rfl⟩
def E_i644 : En (Int × Int × Int × Int) := ⟨4, fun t => [.int .i64 t.1, .int .i64 t.2.1, .int .i64 t.2.2.1, .int .i64 t.2.2.2], fun _ => rfl, fun _ => rfl⟩
/-- slices.IndexFunc[[]api.Edge,api.Edge] -/
def c103 : C :=
  (.seq (.reg [⟨(some 4), .mv (.const (.int .i64 0)), none⟩])
  (.seq (.seq (.reg [⟨(some 6), .mv (.tmp 0), none⟩,
      ⟨(some 7), .lns (.tmp 6), none⟩,
      ⟨(some 8), .mv (.const (.int .i64 0)), none⟩])
   (.block 0 (.loop (.seq (.reg [⟨(some 9), .bin .lss (.tmp 8) (.tmp 7), none⟩])
     (.seq (.cond (.tmp 9)
       .skip
       (.exit 0))
     (.seq (.block 1 (.seq (.reg [⟨(some 10), .mv (.tmp 8), none⟩,
          ⟨(some 5), .mv (.tmp 10), none⟩])
       (.seq (.reg [⟨(some 11), .mv (.tmp 1), none⟩,
          ⟨(some 12), .mv (.tmp 0), none⟩,
          ⟨(some 13), .mv (.tmp 5), none⟩,
          ⟨(some 14), .ixs 4 (.tmp 12) (.tmp 13), none⟩,
          ⟨(some 15), .ld (some 4) (.tmp 14), none⟩,
          ⟨(some 16), .clo (.tmp 11) [(.tmp 15)], none⟩])
       (.cond (.tmp 16)
        (.seq (.reg [⟨(some 17), .mv (.tmp 5), none⟩,
            ⟨(some 4), .mv (.tmp 17), none⟩])
         .ret)
        .skip))))
     (.reg [⟨(some 18), .bin .add (.tmp 8) (.const (.int .i64 1)), none⟩,
       ⟨(some 8), .mv (.tmp 18), none⟩])))))))
  (.seq (.reg [⟨(some 4), .mv (.const (.int .i64 (-1))), none⟩])
  .ret)))
def api_Edge_v2.f  : Option (Unit) := some ()
theorem api_Edge_v2.ok {S : Seal} {B0 : Nat} {B1 : Nat}  (e : api_Edge_v2.f  = some ()) :
    Cal Try.prog 103 [.slice none 0 0, .func (.func 64) #[] #[.pointer (some ⟨B0, 0, none⟩), .pointer (some ⟨B1, 0, none⟩)]] ([⟨B0, [.int .i64 0, .int .i64 0], 2⟩, ⟨B1, [.int .i64 5], 1⟩] : List Own) S fun v H' S' => v = .int .i64 (-1) ∧ H' = ([⟨B0, [.int .i64 0, .int .i64 0], 2⟩, ⟨B1, [.int .i64 5], 1⟩] : List Own) ∧ S' = S := by
  unfold api_Edge_v2.f at e
  refine cal_of (c := c103) (N := 19) Try.func103 rfl rfl (by kernel_rfl) (rs := [.t 4]) (by kernel_rfl) (Nat.le_of_ble_eq_true rfl) ?_
  unfold c103
  refine w_seq ?_
  refine w_reg fun all => ?_
  refine t_qz 1 [0, 1] (σ' := [(0, .slice none 0 0), (1, .func (.func 64) #[] #[.pointer (some ⟨B0, 0, none⟩), .pointer (some ⟨B1, 0, none⟩)])]) (by kernel_rfl) ?_
  refine t_end ?_
  show W _ _ _ _ _ _ _
  refine w_seq ?_
  refine w_seq ?_
  refine w_reg fun all => ?_
  refine t_qz 3 [0, 1, 7, 8] (σ' := [(0, .slice none 0 0), (1, .func (.func 64) #[] #[.pointer (some ⟨B0, 0, none⟩), .pointer (some ⟨B1, 0, none⟩)]), (7, .int .i64 0), (8, .int .i64 0)]) (by kernel_rfl) ?_
  refine t_end ?_
  show W _ _ _ _ _ _ _
  refine w_block ?_
  refine w_lun 10 ?_
  refine wl_step ?_
  refine w_seq ?_
  refine w_reg fun all => ?_
  refine t_qz 1 [0, 1, 7, 8, 9] (σ' := [(0, .slice none 0 0), (1, .func (.func 64) #[] #[.pointer (some ⟨B0, 0, none⟩), .pointer (some ⟨B1, 0, none⟩)]), (7, .int .i64 0), (8, .int .i64 0), (9, .bool false)]) (by kernel_rfl) ?_
  refine t_end ?_
  show W _ _ _ _ _ _ _
  refine w_seq ?_
  refine w_cond rfl (fun c_ => by cases c_) (fun _ => ?_)
  show W _ _ _ _ _ _ _
  refine w_exit ?_
  show W _ _ _ _ _ _ _
  refine w_seq ?_
  refine w_reg fun all => ?_
  refine t_qz 1 [4] (σ' := [(4, .int .i64 (-1))]) (by kernel_rfl) ?_
  refine t_end ?_
  show W _ _ _ _ _ _ _
  refine w_ret ?_
  exact ⟨[.int .i64 (-1)], ([⟨B0, [.int .i64 0, .int .i64 0], 2⟩, ⟨B1, [.int .i64 5], 1⟩] : List Own), S, ⟨rfl, trivial⟩, VS.sel [0, 0] (by kernel_rfl), rfl, rfl, rfl⟩

/-- slices.ContainsFunc[[]api.Edge,api.Edge] -/
def c63 : C :=
  (.seq (.reg [⟨(some 4), .mv (.const (.bool false)), none⟩])
  (.seq (.reg [⟨(some 5), .mv (.tmp 0), none⟩,
     ⟨(some 6), .mv (.tmp 1), none⟩,
     ⟨(some 7), .call 103 [(.tmp 5), (.tmp 6)], none⟩,
     ⟨(some 8), .bin .geq (.tmp 7) (.const (.int .i64 0)), none⟩,
     ⟨(some 4), .mv (.tmp 8), none⟩])
  .ret))
def api_Edge_v1.f  : Option (Unit) := (api_Edge_v2.f).bind fun _ => (some ())
theorem api_Edge_v1.ok {S : Seal} {B0 : Nat} {B1 : Nat}  (e : api_Edge_v1.f  = some ()) :
    Cal Try.prog 63 [.slice none 0 0, .func (.func 64) #[] #[.pointer (some ⟨B0, 0, none⟩), .pointer (some ⟨B1, 0, none⟩)]] ([⟨B0, [.int .i64 0, .int .i64 0], 2⟩, ⟨B1, [.int .i64 5], 1⟩] : List Own) S fun v H' S' => v = .bool false ∧ H' = ([⟨B0, [.int .i64 0, .int .i64 0], 2⟩, ⟨B1, [.int .i64 5], 1⟩] : List Own) ∧ S' = S := by
  unfold api_Edge_v1.f at e
  refine cal_of (c := c63) (N := 9) Try.func63 rfl rfl (by kernel_rfl) (rs := [.t 4]) (by kernel_rfl) (Nat.le_of_ble_eq_true rfl) ?_
  unfold c63
  refine w_seq ?_
  refine w_reg fun all => ?_
  refine t_qz 1 [0, 1] (σ' := [(0, .slice none 0 0), (1, .func (.func 64) #[] #[.pointer (some ⟨B0, 0, none⟩), .pointer (some ⟨B1, 0, none⟩)])]) (by kernel_rfl) ?_
  refine t_end ?_
  show W _ _ _ _ _ _ _
  refine w_seq ?_
  refine w_reg fun all => ?_
  obtain ⟨u_, h4, e⟩ := bind_of e
  refine t_qz 2 [5, 6] (σ' := [(5, .slice none 0 0), (6, .func (.func 64) #[] #[.pointer (some ⟨B0, 0, none⟩), .pointer (some ⟨B1, 0, none⟩)])]) (by kernel_rfl) ?_
  refine t_v (.callr (vs := [.slice none 0 0, .func (.func 64) #[] #[.pointer (some ⟨B0, 0, none⟩), .pointer (some ⟨B1, 0, none⟩)]]) (A := ([⟨B0, [.int .i64 0, .int .i64 0], 2⟩, ⟨B1, [.int .i64 5], 1⟩] : List Own)) (F0 := ([] : List Own)) rfl rfl (by kernel_rfl) (sel_perm (is := [0, 0]) (by kernel_rfl)) (api_Edge_v2.ok h4)) ?_
  refine t_qz 2 [4] (σ' := [(4, .bool false)]) (by kernel_rfl) ?_
  refine t_end ?_
  show W _ _ _ _ _ _ _
  refine w_ret ?_
  exact ⟨[.bool false], ([⟨B0, [.int .i64 0, .int .i64 0], 2⟩, ⟨B1, [.int .i64 5], 1⟩] : List Own), S, ⟨rfl, trivial⟩, VS.sel [0, 0] (by kernel_rfl), rfl, rfl, rfl⟩

/-- stroke.Near -/
def c19 : C :=
  (.seq (.reg [⟨(some 4), .box (.tmp 1), none⟩,
     ⟨(some 5), .box (.tmp 2), none⟩,
     ⟨(some 6), .mv (.const (.bool false)), none⟩])
  (.seq (.reg [⟨(some 7), .mv (.tmp 0), none⟩,
     ⟨(some 8), .mkf 64 [(.tmp 5), (.tmp 4)], none⟩,
     ⟨(some 9), .call 63 [(.tmp 7), (.tmp 8)], none⟩,
     ⟨(some 6), .mv (.tmp 9), none⟩])
  .ret))
def stroke_Near_v1.f  : Option (Unit) := (api_Edge_v1.f).bind fun _ => (some ())
theorem stroke_Near_v1.ok {S : Seal}  (e : stroke_Near_v1.f  = some ()) :
    Cal Try.prog 19 [.slice none 0 0, .int .i64 5, .agg #[.int .i64 0, .int .i64 0]] [] S fun v H' S' => v = .bool false ∧ H' = [] ∧ S' = S := by
  unfold stroke_Near_v1.f at e
  refine cal_of (c := c19) (N := 10) Try.func19 rfl rfl (by kernel_rfl) (rs := [.t 6]) (by kernel_rfl) (Nat.le_of_ble_eq_true rfl) ?_
  unfold c19
  refine w_seq ?_
  refine w_reg fun all => ?_
  refine t_a (.box rfl rfl rfl) fun b2 fb2 sb2 => ?_
  refine t_a (.box rfl rfl rfl) fun b3 fb3 sb3 => ?_
  refine t_qz 1 [0, 4, 5] (σ' := [(0, .slice none 0 0), (4, .pointer (some ⟨b2, 0, none⟩)), (5, .pointer (some ⟨b3, 0, none⟩))]) (by kernel_rfl) ?_
  refine t_end ?_
  show W _ _ _ _ _ _ _
  refine w_seq ?_
  refine w_reg fun all => ?_
  obtain ⟨u_, h5, e⟩ := bind_of e
  refine t_qz 2 [7, 8] (σ' := [(7, .slice none 0 0), (8, .func (.func 64) #[] #[.pointer (some ⟨b3, 0, none⟩), .pointer (some ⟨b2, 0, none⟩)])]) (by kernel_rfl) ?_
  refine t_v (.callr (vs := [.slice none 0 0, .func (.func 64) #[] #[.pointer (some ⟨b3, 0, none⟩), .pointer (some ⟨b2, 0, none⟩)]]) (A := ([⟨b3, [.int .i64 0, .int .i64 0], 2⟩, ⟨b2, [.int .i64 5], 1⟩] : List Own)) (F0 := ([] : List Own)) rfl rfl (by kernel_rfl) (sel_perm (is := [0, 0]) (by kernel_rfl)) (api_Edge_v1.ok h5)) ?_
  refine t_qz 1 [6] (σ' := [(6, .bool false)]) (by kernel_rfl) ?_
  refine t_end ?_
  show W _ _ _ _ _ _ _
  refine w_ret ?_
  exact ⟨[.bool false], [], S, ⟨rfl, trivial⟩, VS.none, rfl, rfl, rfl⟩

/-- plane.Sub -/
def c116 : C :=
  (.seq (.reg [⟨(some 2), .box (.tmp 0), none⟩,
     ⟨(some 3), .box (.tmp 1), none⟩,
     ⟨(some 4), .new [(.int .i64 0), (.int .i64 0)], none⟩])
  (.seq (.reg [⟨(some 5), .pad 0 (.tmp 2), none⟩,
     ⟨(some 6), .ld none (.tmp 5), none⟩,
     ⟨(some 7), .pad 0 (.tmp 3), none⟩,
     ⟨(some 8), .ld none (.tmp 7), none⟩,
     ⟨(some 9), .bin .sub (.tmp 6) (.tmp 8), none⟩,
     ⟨(some 10), .pad 1 (.tmp 2), none⟩,
     ⟨(some 11), .ld none (.tmp 10), none⟩,
     ⟨(some 12), .pad 1 (.tmp 3), none⟩,
     ⟨(some 13), .ld none (.tmp 12), none⟩,
     ⟨(some 14), .bin .sub (.tmp 11) (.tmp 13), none⟩,
     ⟨(some 15), .bld [(.int .i64 0), (.int .i64 0)] [(0, 1, (.tmp 9)), (1, 1, (.tmp 14))], none⟩,
     ⟨none, .st 2 (.tmp 4) (.tmp 15), none⟩])
  .ret))
def plane_Sub_v1.f  : Option (Unit) := some ()
theorem plane_Sub_v1.ok {S : Seal}  (e : plane_Sub_v1.f  = some ()) :
    Cal Try.prog 116 [.agg #[.int .i64 5, .int .i64 0], .agg #[.int .i64 0, .int .i64 0]] [] S fun v H' S' => v = .agg #[.int .i64 5, .int .i64 0] ∧ H' = [] ∧ S' = S := by
  unfold plane_Sub_v1.f at e
  refine cal_of (c := c116) (N := 16) Try.func116 rfl rfl (by kernel_rfl) (rs := [.cn 2 4]) (by kernel_rfl) (Nat.le_of_ble_eq_true rfl) ?_
  unfold c116
  refine w_seq ?_
  refine w_reg fun all => ?_
  refine t_a (.box rfl rfl rfl) fun b16 fb16 sb16 => ?_
  refine t_a (.box rfl rfl rfl) fun b17 fb17 sb17 => ?_
  refine t_a (.new rfl rfl) fun b18 fb18 sb18 => ?_
  refine t_keep [2, 3, 4] (σ' := [(2, .pointer (some ⟨b16, 0, none⟩)), (3, .pointer (some ⟨b17, 0, none⟩)), (4, .pointer (some ⟨b18, 0, none⟩))]) (by kernel_rfl) ?_
  refine t_end ?_
  show W _ _ _ _ _ _ _
  refine w_seq ?_
  refine w_reg fun all => ?_
  refine t_qz 1 [2, 3, 4, 5] (σ' := [(2, .pointer (some ⟨b16, 0, none⟩)), (3, .pointer (some ⟨b17, 0, none⟩)), (4, .pointer (some ⟨b18, 0, none⟩)), (5, .pointer (some ⟨b16, 0, none⟩))]) (by kernel_rfl) ?_
  refine t_v (.ld1 rfl rfl rfl (.at 2 rfl rfl)) ?_
  refine t_qz 1 [2, 3, 4, 6, 7] (σ' := [(2, .pointer (some ⟨b16, 0, none⟩)), (3, .pointer (some ⟨b17, 0, none⟩)), (4, .pointer (some ⟨b18, 0, none⟩)), (6, .int .i64 5), (7, .pointer (some ⟨b17, 0, none⟩))]) (by kernel_rfl) ?_
  refine t_v (.ld1 rfl rfl rfl (.at 1 rfl rfl)) ?_
  refine t_qz 2 [3, 4, 9, 10] (σ' := [(3, .pointer (some ⟨b17, 0, none⟩)), (4, .pointer (some ⟨b18, 0, none⟩)), (9, .int .i64 5), (10, .pointer (some ⟨b16, 1, none⟩))]) (by kernel_rfl) ?_
  refine t_v (.ld1 rfl rfl rfl (.at 2 rfl rfl)) ?_
  refine t_qz 1 [4, 9, 11, 12] (σ' := [(4, .pointer (some ⟨b18, 0, none⟩)), (9, .int .i64 5), (11, .int .i64 0), (12, .pointer (some ⟨b17, 1, none⟩))]) (by kernel_rfl) ?_
  refine t_v (.ld1 rfl rfl rfl (.at 1 rfl rfl)) ?_
  refine t_qz 2 [4, 15] (σ' := [(4, .pointer (some ⟨b18, 0, none⟩)), (15, .agg #[.int .i64 5, .int .i64 0])]) (by kernel_rfl) ?_
  refine t_sti 0 (cs := [.int .i64 5, .int .i64 0]) rfl rfl rfl rfl rfl rfl rfl rfl rfl ?_
  refine t_keep [4] (σ' := [(4, .pointer (some ⟨b18, 0, none⟩))]) (by kernel_rfl) ?_
  refine t_end ?_
  show W _ _ _ _ _ _ _
  refine w_ret ?_
  exact ⟨[.agg #[.int .i64 5, .int .i64 0]], [], S, ⟨⟨_, _, _, rfl, .at 0 rfl rfl, rfl⟩, trivial⟩, VS.none, rfl, rfl, rfl⟩

def plane_Sub_v2.f  : Option (Unit) := some ()
theorem plane_Sub_v2.ok {S : Seal}  (e : plane_Sub_v2.f  = some ()) :
    Cal Try.prog 116 [.agg #[.int .i64 1, .int .i64 1], .agg #[.int .i64 0, .int .i64 0]] [] S fun v H' S' => v = .agg #[.int .i64 1, .int .i64 1] ∧ H' = [] ∧ S' = S := by
  unfold plane_Sub_v2.f at e
  refine cal_of (c := c116) (N := 16) Try.func116 rfl rfl (by kernel_rfl) (rs := [.cn 2 4]) (by kernel_rfl) (Nat.le_of_ble_eq_true rfl) ?_
  unfold c116
  refine w_seq ?_
  refine w_reg fun all => ?_
  refine t_a (.box rfl rfl rfl) fun b20 fb20 sb20 => ?_
  refine t_a (.box rfl rfl rfl) fun b21 fb21 sb21 => ?_
  refine t_a (.new rfl rfl) fun b22 fb22 sb22 => ?_
  refine t_keep [2, 3, 4] (σ' := [(2, .pointer (some ⟨b20, 0, none⟩)), (3, .pointer (some ⟨b21, 0, none⟩)), (4, .pointer (some ⟨b22, 0, none⟩))]) (by kernel_rfl) ?_
  refine t_end ?_
  show W _ _ _ _ _ _ _
  refine w_seq ?_
  refine w_reg fun all => ?_
  refine t_qz 1 [2, 3, 4, 5] (σ' := [(2, .pointer (some ⟨b20, 0, none⟩)), (3, .pointer (some ⟨b21, 0, none⟩)), (4, .pointer (some ⟨b22, 0, none⟩)), (5, .pointer (some ⟨b20, 0, none⟩))]) (by kernel_rfl) ?_
  refine t_v (.ld1 rfl rfl rfl (.at 2 rfl rfl)) ?_
  refine t_qz 1 [2, 3, 4, 6, 7] (σ' := [(2, .pointer (some ⟨b20, 0, none⟩)), (3, .pointer (some ⟨b21, 0, none⟩)), (4, .pointer (some ⟨b22, 0, none⟩)), (6, .int .i64 1), (7, .pointer (some ⟨b21, 0, none⟩))]) (by kernel_rfl) ?_
  refine t_v (.ld1 rfl rfl rfl (.at 1 rfl rfl)) ?_
  refine t_qz 2 [3, 4, 9, 10] (σ' := [(3, .pointer (some ⟨b21, 0, none⟩)), (4, .pointer (some ⟨b22, 0, none⟩)), (9, .int .i64 1), (10, .pointer (some ⟨b20, 1, none⟩))]) (by kernel_rfl) ?_
  refine t_v (.ld1 rfl rfl rfl (.at 2 rfl rfl)) ?_
  refine t_qz 1 [4, 9, 11, 12] (σ' := [(4, .pointer (some ⟨b22, 0, none⟩)), (9, .int .i64 1), (11, .int .i64 1), (12, .pointer (some ⟨b21, 1, none⟩))]) (by kernel_rfl) ?_
  refine t_v (.ld1 rfl rfl rfl (.at 1 rfl rfl)) ?_
  refine t_qz 2 [4, 15] (σ' := [(4, .pointer (some ⟨b22, 0, none⟩)), (15, .agg #[.int .i64 1, .int .i64 1])]) (by kernel_rfl) ?_
  refine t_sti 0 (cs := [.int .i64 1, .int .i64 1]) rfl rfl rfl rfl rfl rfl rfl rfl rfl ?_
  refine t_keep [4] (σ' := [(4, .pointer (some ⟨b22, 0, none⟩))]) (by kernel_rfl) ?_
  refine t_end ?_
  show W _ _ _ _ _ _ _
  refine w_ret ?_
  exact ⟨[.agg #[.int .i64 1, .int .i64 1]], [], S, ⟨⟨_, _, _, rfl, .at 0 rfl rfl, rfl⟩, trivial⟩, VS.none, rfl, rfl, rfl⟩

/-- plane.Dot -/
def c104 : C :=
  (.seq (.reg [⟨(some 3), .box (.tmp 0), none⟩,
     ⟨(some 4), .box (.tmp 1), none⟩,
     ⟨(some 5), .box (.tmp 2), none⟩,
     ⟨(some 6), .mv (.const (.int .i64 0)), none⟩])
  (.seq (.drw [⟨(some 9), .ld (some 2) (.tmp 4), none⟩,
     ⟨(some 10), .ld (some 2) (.tmp 3), none⟩,
     ⟨(some 11), .call 116 [(.tmp 9), (.tmp 10)], none⟩,
     ⟨(some 12), .ld (some 2) (.tmp 5), none⟩,
     ⟨(some 13), .ld (some 2) (.tmp 3), none⟩,
     ⟨(some 14), .call 116 [(.tmp 12), (.tmp 13)], none⟩,
     ⟨(some 7), .new [(.int .i64 0), (.int .i64 0)], none⟩,
     ⟨(some 8), .new [(.int .i64 0), (.int .i64 0)], none⟩,
     ⟨none, .st 2 (.tmp 7) (.tmp 11), none⟩,
     ⟨none, .st 2 (.tmp 8) (.tmp 14), none⟩] [[], [], [0, 1], [], [], [3, 4, 2], [], [], [6, 2, 5, 0, 1, 2, 6, 7], [7, 5, 8, 0, 1, 2, 3, 4, 5, 6, 7, 8]])
  (.seq (.reg [⟨(some 15), .pad 0 (.tmp 7), none⟩,
     ⟨(some 16), .ld none (.tmp 15), none⟩,
     ⟨(some 17), .pad 0 (.tmp 8), none⟩,
     ⟨(some 18), .ld none (.tmp 17), none⟩,
     ⟨(some 19), .bin .mul (.tmp 16) (.tmp 18), none⟩,
     ⟨(some 20), .pad 1 (.tmp 7), none⟩,
     ⟨(some 21), .ld none (.tmp 20), none⟩,
     ⟨(some 22), .pad 1 (.tmp 8), none⟩,
     ⟨(some 23), .ld none (.tmp 22), none⟩,
     ⟨(some 24), .bin .mul (.tmp 21) (.tmp 23), none⟩,
     ⟨(some 25), .bin .add (.tmp 19) (.tmp 24), none⟩,
     ⟨(some 6), .mv (.tmp 25), none⟩])
  .ret)))
def plane_Dot_v1.f  : Option (Unit) := (plane_Sub_v1.f).bind fun _ => ((plane_Sub_v2.f).bind fun _ => (some ()))
theorem plane_Dot_v1.ok {S : Seal}  (e : plane_Dot_v1.f  = some ()) :
    Cal Try.prog 104 [.agg #[.int .i64 0, .int .i64 0], .agg #[.int .i64 5, .int .i64 0], .agg #[.int .i64 1, .int .i64 1]] [] S fun v H' S' => v = .int .i64 5 ∧ H' = [] ∧ S' = S := by
  unfold plane_Dot_v1.f at e
  refine cal_of (c := c104) (N := 26) Try.func104 rfl rfl (by kernel_rfl) (rs := [.t 6]) (by kernel_rfl) (Nat.le_of_ble_eq_true rfl) ?_
  unfold c104
  refine w_seq ?_
  refine w_reg fun all => ?_
  refine t_a (.box rfl rfl rfl) fun b13 fb13 sb13 => ?_
  refine t_a (.box rfl rfl rfl) fun b14 fb14 sb14 => ?_
  refine t_a (.box rfl rfl rfl) fun b15 fb15 sb15 => ?_
  refine t_qz 1 [3, 4, 5] (σ' := [(3, .pointer (some ⟨b13, 0, none⟩)), (4, .pointer (some ⟨b14, 0, none⟩)), (5, .pointer (some ⟨b15, 0, none⟩))]) (by kernel_rfl) ?_
  refine t_end ?_
  show W _ _ _ _ _ _ _
  refine w_seq ?_
  obtain ⟨u_, h16, e⟩ := bind_of e
  obtain ⟨u_, h17, e⟩ := bind_of e
  refine w_drwE mixed 8 [.v (.agg #[.int .i64 5, .int .i64 0]), .v (.agg #[.int .i64 0, .int .i64 0]), .v (.agg #[.int .i64 5, .int .i64 0]), .v (.agg #[.int .i64 1, .int .i64 1]), .v (.agg #[.int .i64 0, .int .i64 0]), .v (.agg #[.int .i64 1, .int .i64 1]), .a [.int .i64 0, .int .i64 0] ptrTo, .a [.int .i64 0, .int .i64 0] ptrTo] (by kernel_rfl) ?_ ?_
  · refine .cons (.ldn rfl rfl rfl (.at 1 rfl rfl)) ?_
    refine .cons (.ldn rfl rfl rfl (.at 2 rfl rfl)) ?_
    refine .cons (.call (vs := [.agg #[.int .i64 5, .int .i64 0], .agg #[.int .i64 0, .int .i64 0]]) rfl rfl (by kernel_rfl) (plane_Sub_v1.ok h16)) ?_
    refine .cons (.ldn rfl rfl rfl (.at 0 rfl rfl)) ?_
    refine .cons (.ldn rfl rfl rfl (.at 2 rfl rfl)) ?_
    refine .cons (.call (vs := [.agg #[.int .i64 1, .int .i64 1], .agg #[.int .i64 0, .int .i64 0]]) rfl rfl (by kernel_rfl) (plane_Sub_v2.ok h17)) ?_
    refine .cons (.new rfl rfl) ?_
    refine .cons (.new rfl rfl) ?_
    exact .nil
  refine fk_q 6 [11, 14] (σ' := [(11, .agg #[.int .i64 5, .int .i64 0]), (14, .agg #[.int .i64 1, .int .i64 1])]) t_more (by kernel_rfl) ?_
  refine fk_a fun b18 fb18 sb18 => ?_
  refine fk_a fun b19 fb19 sb19 => ?_
  refine fk_nil fun all => ?_
  refine t_sti 1 (cs := [.int .i64 5, .int .i64 0]) rfl rfl rfl rfl rfl rfl rfl rfl rfl ?_
  refine t_sti 0 (cs := [.int .i64 1, .int .i64 1]) rfl rfl rfl rfl rfl rfl rfl rfl rfl ?_
  refine t_keep [7, 8] (σ' := [(7, .pointer (some ⟨b18, 0, none⟩)), (8, .pointer (some ⟨b19, 0, none⟩))]) (by kernel_rfl) ?_
  refine t_end ?_
  show W _ _ _ _ _ _ _
  refine w_seq ?_
  refine w_reg fun all => ?_
  refine t_qz 1 [7, 8, 15] (σ' := [(7, .pointer (some ⟨b18, 0, none⟩)), (8, .pointer (some ⟨b19, 0, none⟩)), (15, .pointer (some ⟨b18, 0, none⟩))]) (by kernel_rfl) ?_
  refine t_v (.ld1 rfl rfl rfl (.at 1 rfl rfl)) ?_
  refine t_qz 1 [7, 8, 16, 17] (σ' := [(7, .pointer (some ⟨b18, 0, none⟩)), (8, .pointer (some ⟨b19, 0, none⟩)), (16, .int .i64 5), (17, .pointer (some ⟨b19, 0, none⟩))]) (by kernel_rfl) ?_
  refine t_v (.ld1 rfl rfl rfl (.at 0 rfl rfl)) ?_
  refine t_qz 2 [8, 19, 20] (σ' := [(8, .pointer (some ⟨b19, 0, none⟩)), (19, .int .i64 5), (20, .pointer (some ⟨b18, 1, none⟩))]) (by kernel_rfl) ?_
  refine t_v (.ld1 rfl rfl rfl (.at 1 rfl rfl)) ?_
  refine t_qz 1 [19, 21, 22] (σ' := [(19, .int .i64 5), (21, .int .i64 0), (22, .pointer (some ⟨b19, 1, none⟩))]) (by kernel_rfl) ?_
  refine t_v (.ld1 rfl rfl rfl (.at 0 rfl rfl)) ?_
  refine t_qz 3 [6] (σ' := [(6, .int .i64 5)]) (by kernel_rfl) ?_
  refine t_end ?_
  show W _ _ _ _ _ _ _
  refine w_ret ?_
  exact ⟨[.int .i64 5], [], S, ⟨rfl, trivial⟩, VS.none, rfl, rfl, rfl⟩

def plane_Dot_v2.f  : Option (Unit) := (plane_Sub_v1.f).bind fun _ => ((plane_Sub_v1.f).bind fun _ => (some ()))
theorem plane_Dot_v2.ok {S : Seal}  (e : plane_Dot_v2.f  = some ()) :
    Cal Try.prog 104 [.agg #[.int .i64 0, .int .i64 0], .agg #[.int .i64 5, .int .i64 0], .agg #[.int .i64 5, .int .i64 0]] [] S fun v H' S' => v = .int .i64 25 ∧ H' = [] ∧ S' = S := by
  unfold plane_Dot_v2.f at e
  refine cal_of (c := c104) (N := 26) Try.func104 rfl rfl (by kernel_rfl) (rs := [.t 6]) (by kernel_rfl) (Nat.le_of_ble_eq_true rfl) ?_
  unfold c104
  refine w_seq ?_
  refine w_reg fun all => ?_
  refine t_a (.box rfl rfl rfl) fun b23 fb23 sb23 => ?_
  refine t_a (.box rfl rfl rfl) fun b24 fb24 sb24 => ?_
  refine t_a (.box rfl rfl rfl) fun b25 fb25 sb25 => ?_
  refine t_qz 1 [3, 4, 5] (σ' := [(3, .pointer (some ⟨b23, 0, none⟩)), (4, .pointer (some ⟨b24, 0, none⟩)), (5, .pointer (some ⟨b25, 0, none⟩))]) (by kernel_rfl) ?_
  refine t_end ?_
  show W _ _ _ _ _ _ _
  refine w_seq ?_
  obtain ⟨u_, h26, e⟩ := bind_of e
  obtain ⟨u_, h27, e⟩ := bind_of e
  refine w_drwE mixed 8 [.v (.agg #[.int .i64 5, .int .i64 0]), .v (.agg #[.int .i64 0, .int .i64 0]), .v (.agg #[.int .i64 5, .int .i64 0]), .v (.agg #[.int .i64 5, .int .i64 0]), .v (.agg #[.int .i64 0, .int .i64 0]), .v (.agg #[.int .i64 5, .int .i64 0]), .a [.int .i64 0, .int .i64 0] ptrTo, .a [.int .i64 0, .int .i64 0] ptrTo] (by kernel_rfl) ?_ ?_
  · refine .cons (.ldn rfl rfl rfl (.at 1 rfl rfl)) ?_
    refine .cons (.ldn rfl rfl rfl (.at 2 rfl rfl)) ?_
    refine .cons (.call (vs := [.agg #[.int .i64 5, .int .i64 0], .agg #[.int .i64 0, .int .i64 0]]) rfl rfl (by kernel_rfl) (plane_Sub_v1.ok h26)) ?_
    refine .cons (.ldn rfl rfl rfl (.at 0 rfl rfl)) ?_
    refine .cons (.ldn rfl rfl rfl (.at 2 rfl rfl)) ?_
    refine .cons (.call (vs := [.agg #[.int .i64 5, .int .i64 0], .agg #[.int .i64 0, .int .i64 0]]) rfl rfl (by kernel_rfl) (plane_Sub_v1.ok h27)) ?_
    refine .cons (.new rfl rfl) ?_
    refine .cons (.new rfl rfl) ?_
    exact .nil
  refine fk_q 6 [11, 14] (σ' := [(11, .agg #[.int .i64 5, .int .i64 0]), (14, .agg #[.int .i64 5, .int .i64 0])]) t_more (by kernel_rfl) ?_
  refine fk_a fun b28 fb28 sb28 => ?_
  refine fk_a fun b29 fb29 sb29 => ?_
  refine fk_nil fun all => ?_
  refine t_sti 1 (cs := [.int .i64 5, .int .i64 0]) rfl rfl rfl rfl rfl rfl rfl rfl rfl ?_
  refine t_sti 0 (cs := [.int .i64 5, .int .i64 0]) rfl rfl rfl rfl rfl rfl rfl rfl rfl ?_
  refine t_keep [7, 8] (σ' := [(7, .pointer (some ⟨b28, 0, none⟩)), (8, .pointer (some ⟨b29, 0, none⟩))]) (by kernel_rfl) ?_
  refine t_end ?_
  show W _ _ _ _ _ _ _
  refine w_seq ?_
  refine w_reg fun all => ?_
  refine t_qz 1 [7, 8, 15] (σ' := [(7, .pointer (some ⟨b28, 0, none⟩)), (8, .pointer (some ⟨b29, 0, none⟩)), (15, .pointer (some ⟨b28, 0, none⟩))]) (by kernel_rfl) ?_
  refine t_v (.ld1 rfl rfl rfl (.at 1 rfl rfl)) ?_
  refine t_qz 1 [7, 8, 16, 17] (σ' := [(7, .pointer (some ⟨b28, 0, none⟩)), (8, .pointer (some ⟨b29, 0, none⟩)), (16, .int .i64 5), (17, .pointer (some ⟨b29, 0, none⟩))]) (by kernel_rfl) ?_
  refine t_v (.ld1 rfl rfl rfl (.at 0 rfl rfl)) ?_
  refine t_qz 2 [8, 19, 20] (σ' := [(8, .pointer (some ⟨b29, 0, none⟩)), (19, .int .i64 25), (20, .pointer (some ⟨b28, 1, none⟩))]) (by kernel_rfl) ?_
  refine t_v (.ld1 rfl rfl rfl (.at 1 rfl rfl)) ?_
  refine t_qz 1 [19, 21, 22] (σ' := [(19, .int .i64 25), (21, .int .i64 0), (22, .pointer (some ⟨b29, 1, none⟩))]) (by kernel_rfl) ?_
  refine t_v (.ld1 rfl rfl rfl (.at 0 rfl rfl)) ?_
  refine t_qz 3 [6] (σ' := [(6, .int .i64 25)]) (by kernel_rfl) ?_
  refine t_end ?_
  show W _ _ _ _ _ _ _
  refine w_ret ?_
  exact ⟨[.int .i64 25], [], S, ⟨rfl, trivial⟩, VS.none, rfl, rfl, rfl⟩

/-- plane.Len2 -/
def c90 : C :=
  (.seq (.reg [⟨(some 2), .box (.tmp 0), none⟩,
     ⟨(some 3), .box (.tmp 1), none⟩,
     ⟨(some 4), .mv (.const (.int .i64 0)), none⟩])
  (.seq (.reg [⟨(some 5), .ld (some 2) (.tmp 2), none⟩,
     ⟨(some 6), .ld (some 2) (.tmp 3), none⟩,
     ⟨(some 7), .ld (some 2) (.tmp 3), none⟩,
     ⟨(some 8), .call 104 [(.tmp 5), (.tmp 6), (.tmp 7)], none⟩,
     ⟨(some 4), .mv (.tmp 8), none⟩])
  .ret))
def plane_Len2_v1.f  : Option (Unit) := (plane_Dot_v2.f).bind fun _ => (some ())
theorem plane_Len2_v1.ok {S : Seal}  (e : plane_Len2_v1.f  = some ()) :
    Cal Try.prog 90 [.agg #[.int .i64 0, .int .i64 0], .agg #[.int .i64 5, .int .i64 0]] [] S fun v H' S' => v = .int .i64 25 ∧ H' = [] ∧ S' = S := by
  unfold plane_Len2_v1.f at e
  refine cal_of (c := c90) (N := 9) Try.func90 rfl rfl (by kernel_rfl) (rs := [.t 4]) (by kernel_rfl) (Nat.le_of_ble_eq_true rfl) ?_
  unfold c90
  refine w_seq ?_
  refine w_reg fun all => ?_
  refine t_a (.box rfl rfl rfl) fun b21 fb21 sb21 => ?_
  refine t_a (.box rfl rfl rfl) fun b22 fb22 sb22 => ?_
  refine t_qz 1 [2, 3] (σ' := [(2, .pointer (some ⟨b21, 0, none⟩)), (3, .pointer (some ⟨b22, 0, none⟩))]) (by kernel_rfl) ?_
  refine t_end ?_
  show W _ _ _ _ _ _ _
  refine w_seq ?_
  refine w_reg fun all => ?_
  refine t_v (.ldn rfl rfl rfl (.at 1 rfl rfl)) ?_
  refine t_v (.ldn rfl rfl rfl (.at 0 rfl rfl)) ?_
  refine t_v (.ldn rfl rfl rfl (.at 0 rfl rfl)) ?_
  obtain ⟨u_, h30, e⟩ := bind_of e
  refine t_v (.call (vs := [.agg #[.int .i64 0, .int .i64 0], .agg #[.int .i64 5, .int .i64 0], .agg #[.int .i64 5, .int .i64 0]]) rfl rfl (by kernel_rfl) (plane_Dot_v2.ok h30)) ?_
  refine t_qz 1 [4] (σ' := [(4, .int .i64 25)]) (by kernel_rfl) ?_
  refine t_end ?_
  show W _ _ _ _ _ _ _
  refine w_ret ?_
  exact ⟨[.int .i64 25], [], S, ⟨rfl, trivial⟩, VS.none, rfl, rfl, rfl⟩

/-- plane.Cross -/
def c106 : C :=
  (.seq (.reg [⟨(some 3), .box (.tmp 0), none⟩,
     ⟨(some 4), .box (.tmp 1), none⟩,
     ⟨(some 5), .box (.tmp 2), none⟩,
     ⟨(some 6), .mv (.const (.int .i64 0)), none⟩])
  (.seq (.drw [⟨(some 9), .ld (some 2) (.tmp 4), none⟩,
     ⟨(some 10), .ld (some 2) (.tmp 3), none⟩,
     ⟨(some 11), .call 116 [(.tmp 9), (.tmp 10)], none⟩,
     ⟨(some 12), .ld (some 2) (.tmp 5), none⟩,
     ⟨(some 13), .ld (some 2) (.tmp 3), none⟩,
     ⟨(some 14), .call 116 [(.tmp 12), (.tmp 13)], none⟩,
     ⟨(some 7), .new [(.int .i64 0), (.int .i64 0)], none⟩,
     ⟨(some 8), .new [(.int .i64 0), (.int .i64 0)], none⟩,
     ⟨none, .st 2 (.tmp 7) (.tmp 11), none⟩,
     ⟨none, .st 2 (.tmp 8) (.tmp 14), none⟩] [[], [], [0, 1], [], [], [3, 4, 2], [], [], [6, 2, 5, 0, 1, 2, 6, 7], [7, 5, 8, 0, 1, 2, 3, 4, 5, 6, 7, 8]])
  (.seq (.reg [⟨(some 15), .pad 0 (.tmp 7), none⟩,
     ⟨(some 16), .ld none (.tmp 15), none⟩,
     ⟨(some 17), .pad 1 (.tmp 8), none⟩,
     ⟨(some 18), .ld none (.tmp 17), none⟩,
     ⟨(some 19), .bin .mul (.tmp 16) (.tmp 18), none⟩,
     ⟨(some 20), .pad 1 (.tmp 7), none⟩,
     ⟨(some 21), .ld none (.tmp 20), none⟩,
     ⟨(some 22), .pad 0 (.tmp 8), none⟩,
     ⟨(some 23), .ld none (.tmp 22), none⟩,
     ⟨(some 24), .bin .mul (.tmp 21) (.tmp 23), none⟩,
     ⟨(some 25), .bin .sub (.tmp 19) (.tmp 24), none⟩,
     ⟨(some 6), .mv (.tmp 25), none⟩])
  .ret)))
def plane_Cross_v1.f  : Option (Unit) := (plane_Sub_v1.f).bind fun _ => ((plane_Sub_v2.f).bind fun _ => (some ()))
theorem plane_Cross_v1.ok {S : Seal}  (e : plane_Cross_v1.f  = some ()) :
    Cal Try.prog 106 [.agg #[.int .i64 0, .int .i64 0], .agg #[.int .i64 5, .int .i64 0], .agg #[.int .i64 1, .int .i64 1]] [] S fun v H' S' => v = .int .i64 5 ∧ H' = [] ∧ S' = S := by
  unfold plane_Cross_v1.f at e
  refine cal_of (c := c106) (N := 26) Try.func106 rfl rfl (by kernel_rfl) (rs := [.t 6]) (by kernel_rfl) (Nat.le_of_ble_eq_true rfl) ?_
  unfold c106
  refine w_seq ?_
  refine w_reg fun all => ?_
  refine t_a (.box rfl rfl rfl) fun b15 fb15 sb15 => ?_
  refine t_a (.box rfl rfl rfl) fun b16 fb16 sb16 => ?_
  refine t_a (.box rfl rfl rfl) fun b17 fb17 sb17 => ?_
  refine t_qz 1 [3, 4, 5] (σ' := [(3, .pointer (some ⟨b15, 0, none⟩)), (4, .pointer (some ⟨b16, 0, none⟩)), (5, .pointer (some ⟨b17, 0, none⟩))]) (by kernel_rfl) ?_
  refine t_end ?_
  show W _ _ _ _ _ _ _
  refine w_seq ?_
  obtain ⟨u_, h18, e⟩ := bind_of e
  obtain ⟨u_, h19, e⟩ := bind_of e
  refine w_drwE mixed 8 [.v (.agg #[.int .i64 5, .int .i64 0]), .v (.agg #[.int .i64 0, .int .i64 0]), .v (.agg #[.int .i64 5, .int .i64 0]), .v (.agg #[.int .i64 1, .int .i64 1]), .v (.agg #[.int .i64 0, .int .i64 0]), .v (.agg #[.int .i64 1, .int .i64 1]), .a [.int .i64 0, .int .i64 0] ptrTo, .a [.int .i64 0, .int .i64 0] ptrTo] (by kernel_rfl) ?_ ?_
  · refine .cons (.ldn rfl rfl rfl (.at 1 rfl rfl)) ?_
    refine .cons (.ldn rfl rfl rfl (.at 2 rfl rfl)) ?_
    refine .cons (.call (vs := [.agg #[.int .i64 5, .int .i64 0], .agg #[.int .i64 0, .int .i64 0]]) rfl rfl (by kernel_rfl) (plane_Sub_v1.ok h18)) ?_
    refine .cons (.ldn rfl rfl rfl (.at 0 rfl rfl)) ?_
    refine .cons (.ldn rfl rfl rfl (.at 2 rfl rfl)) ?_
    refine .cons (.call (vs := [.agg #[.int .i64 1, .int .i64 1], .agg #[.int .i64 0, .int .i64 0]]) rfl rfl (by kernel_rfl) (plane_Sub_v2.ok h19)) ?_
    refine .cons (.new rfl rfl) ?_
    refine .cons (.new rfl rfl) ?_
    exact .nil
  refine fk_q 6 [11, 14] (σ' := [(11, .agg #[.int .i64 5, .int .i64 0]), (14, .agg #[.int .i64 1, .int .i64 1])]) t_more (by kernel_rfl) ?_
  refine fk_a fun b20 fb20 sb20 => ?_
  refine fk_a fun b21 fb21 sb21 => ?_
  refine fk_nil fun all => ?_
  refine t_sti 1 (cs := [.int .i64 5, .int .i64 0]) rfl rfl rfl rfl rfl rfl rfl rfl rfl ?_
  refine t_sti 0 (cs := [.int .i64 1, .int .i64 1]) rfl rfl rfl rfl rfl rfl rfl rfl rfl ?_
  refine t_keep [7, 8] (σ' := [(7, .pointer (some ⟨b20, 0, none⟩)), (8, .pointer (some ⟨b21, 0, none⟩))]) (by kernel_rfl) ?_
  refine t_end ?_
  show W _ _ _ _ _ _ _
  refine w_seq ?_
  refine w_reg fun all => ?_
  refine t_qz 1 [7, 8, 15] (σ' := [(7, .pointer (some ⟨b20, 0, none⟩)), (8, .pointer (some ⟨b21, 0, none⟩)), (15, .pointer (some ⟨b20, 0, none⟩))]) (by kernel_rfl) ?_
  refine t_v (.ld1 rfl rfl rfl (.at 1 rfl rfl)) ?_
  refine t_qz 1 [7, 8, 16, 17] (σ' := [(7, .pointer (some ⟨b20, 0, none⟩)), (8, .pointer (some ⟨b21, 0, none⟩)), (16, .int .i64 5), (17, .pointer (some ⟨b21, 1, none⟩))]) (by kernel_rfl) ?_
  refine t_v (.ld1 rfl rfl rfl (.at 0 rfl rfl)) ?_
  refine t_qz 2 [8, 19, 20] (σ' := [(8, .pointer (some ⟨b21, 0, none⟩)), (19, .int .i64 5), (20, .pointer (some ⟨b20, 1, none⟩))]) (by kernel_rfl) ?_
  refine t_v (.ld1 rfl rfl rfl (.at 1 rfl rfl)) ?_
  refine t_qz 1 [19, 21, 22] (σ' := [(19, .int .i64 5), (21, .int .i64 0), (22, .pointer (some ⟨b21, 0, none⟩))]) (by kernel_rfl) ?_
  refine t_v (.ld1 rfl rfl rfl (.at 0 rfl rfl)) ?_
  refine t_qz 3 [6] (σ' := [(6, .int .i64 5)]) (by kernel_rfl) ?_
  refine t_end ?_
  show W _ _ _ _ _ _ _
  refine w_ret ?_
  exact ⟨[.int .i64 5], [], S, ⟨rfl, trivial⟩, VS.none, rfl, rfl, rfl⟩

/-- plane.within$1 -/
def c117 : C :=
  (.seq (.reg [⟨(some 2), .mv (.const (.int .u64 0)), none⟩])
  (.seq (.reg [⟨(some 3), .mv (.tmp 0), none⟩,
     ⟨(some 4), .mv (.tmp 0), none⟩,
     ⟨(some 5), .un .neg (.tmp 4), none⟩,
     ⟨(some 6), .mm true [(.tmp 3), (.tmp 5)], none⟩,
     ⟨(some 7), .cnv .u64 (.tmp 6), none⟩,
     ⟨(some 2), .mv (.tmp 7), none⟩])
  .ret))
def plane_within_1_v1.f  : Option (Unit) := some ()
theorem plane_within_1_v1.ok {S : Seal}  (e : plane_within_1_v1.f  = some ()) :
    Cal Try.prog 117 [.int .i64 10] [] S fun v H' S' => v = .int .u64 10 ∧ H' = [] ∧ S' = S := by
  unfold plane_within_1_v1.f at e
  refine cal_of (c := c117) (N := 8) Try.func117 rfl rfl (by kernel_rfl) (rs := [.t 2]) (by kernel_rfl) (Nat.le_of_ble_eq_true rfl) ?_
  unfold c117
  refine w_seq ?_
  refine w_reg fun all => ?_
  refine t_qz 1 [0] (σ' := [(0, .int .i64 10)]) (by kernel_rfl) ?_
  refine t_end ?_
  show W _ _ _ _ _ _ _
  refine w_seq ?_
  refine w_reg fun all => ?_
  refine t_qz 6 [2] (σ' := [(2, .int .u64 10)]) (by kernel_rfl) ?_
  refine t_end ?_
  show W _ _ _ _ _ _ _
  refine w_ret ?_
  exact ⟨[.int .u64 10], [], S, ⟨rfl, trivial⟩, VS.none, rfl, rfl, rfl⟩

/-- math/bits.Mul64 -/
def c81 : C :=
  (.seq (.reg [⟨(some 4), .mv (.const (.int .u64 0)), none⟩,
     ⟨(some 5), .mv (.const (.int .u64 0)), none⟩])
  (.seq (.reg [⟨(some 14), .mv (.tmp 0), none⟩,
     ⟨(some 15), .bin .and (.tmp 14) (.const (.int .u64 4294967295)), none⟩,
     ⟨(some 6), .mv (.tmp 15), none⟩])
  (.seq (.reg [⟨(some 16), .mv (.tmp 0), none⟩,
     ⟨(some 17), .bin .shr (.tmp 16) (.const (.int .u64 32)), none⟩,
     ⟨(some 7), .mv (.tmp 17), none⟩])
  (.seq (.reg [⟨(some 18), .mv (.tmp 1), none⟩,
     ⟨(some 19), .bin .and (.tmp 18) (.const (.int .u64 4294967295)), none⟩,
     ⟨(some 8), .mv (.tmp 19), none⟩])
  (.seq (.reg [⟨(some 20), .mv (.tmp 1), none⟩,
     ⟨(some 21), .bin .shr (.tmp 20) (.const (.int .u64 32)), none⟩,
     ⟨(some 9), .mv (.tmp 21), none⟩])
  (.seq (.reg [⟨(some 22), .mv (.tmp 6), none⟩,
     ⟨(some 23), .mv (.tmp 8), none⟩,
     ⟨(some 24), .bin .mul (.tmp 22) (.tmp 23), none⟩,
     ⟨(some 10), .mv (.tmp 24), none⟩])
  (.seq (.reg [⟨(some 25), .mv (.tmp 7), none⟩,
     ⟨(some 26), .mv (.tmp 8), none⟩,
     ⟨(some 27), .bin .mul (.tmp 25) (.tmp 26), none⟩,
     ⟨(some 28), .mv (.tmp 10), none⟩,
     ⟨(some 29), .bin .shr (.tmp 28) (.const (.int .u64 32)), none⟩,
     ⟨(some 30), .bin .add (.tmp 27) (.tmp 29), none⟩,
     ⟨(some 11), .mv (.tmp 30), none⟩])
  (.seq (.reg [⟨(some 31), .mv (.tmp 11), none⟩,
     ⟨(some 32), .bin .and (.tmp 31) (.const (.int .u64 4294967295)), none⟩,
     ⟨(some 12), .mv (.tmp 32), none⟩])
  (.seq (.reg [⟨(some 33), .mv (.tmp 11), none⟩,
     ⟨(some 34), .bin .shr (.tmp 33) (.const (.int .u64 32)), none⟩,
     ⟨(some 13), .mv (.tmp 34), none⟩])
  (.seq (.reg [⟨(some 35), .mv (.tmp 12), none⟩,
     ⟨(some 36), .mv (.tmp 6), none⟩,
     ⟨(some 37), .mv (.tmp 9), none⟩,
     ⟨(some 38), .bin .mul (.tmp 36) (.tmp 37), none⟩,
     ⟨(some 39), .bin .add (.tmp 35) (.tmp 38), none⟩,
     ⟨(some 12), .mv (.tmp 39), none⟩])
  (.seq (.reg [⟨(some 40), .mv (.tmp 7), none⟩,
     ⟨(some 41), .mv (.tmp 9), none⟩,
     ⟨(some 42), .bin .mul (.tmp 40) (.tmp 41), none⟩,
     ⟨(some 43), .mv (.tmp 13), none⟩,
     ⟨(some 44), .bin .add (.tmp 42) (.tmp 43), none⟩,
     ⟨(some 45), .mv (.tmp 12), none⟩,
     ⟨(some 46), .bin .shr (.tmp 45) (.const (.int .u64 32)), none⟩,
     ⟨(some 47), .bin .add (.tmp 44) (.tmp 46), none⟩,
     ⟨(some 4), .mv (.tmp 47), none⟩])
  (.seq (.reg [⟨(some 48), .mv (.tmp 0), none⟩,
     ⟨(some 49), .mv (.tmp 1), none⟩,
     ⟨(some 50), .bin .mul (.tmp 48) (.tmp 49), none⟩,
     ⟨(some 5), .mv (.tmp 50), none⟩])
  .ret))))))))))))
def bits_Mul64_v1.f  : Option (Unit) := some ()
theorem bits_Mul64_v1.ok {S : Seal}  (e : bits_Mul64_v1.f  = some ()) :
    Cal Try.prog 81 [.int .u64 10, .int .u64 10] [] S fun v H' S' => v = .tuple #[.int .u64 0, .int .u64 100] ∧ H' = [] ∧ S' = S := by
  unfold bits_Mul64_v1.f at e
  refine cal_of (c := c81) (N := 51) Try.func81 rfl rfl (by kernel_rfl) (rs := [.t 4, .t 5]) (by kernel_rfl) (Nat.le_of_ble_eq_true rfl) ?_
  unfold c81
  refine w_seq ?_
  refine w_reg fun all => ?_
  refine t_qz 2 [0, 1] (σ' := [(0, .int .u64 10), (1, .int .u64 10)]) (by kernel_rfl) ?_
  refine t_end ?_
  show W _ _ _ _ _ _ _
  refine w_seq ?_
  refine w_reg fun all => ?_
  refine t_qz 3 [0, 1, 6] (σ' := [(0, .int .u64 10), (1, .int .u64 10), (6, .int .u64 10)]) (by kernel_rfl) ?_
  refine t_end ?_
  show W _ _ _ _ _ _ _
  refine w_seq ?_
  refine w_reg fun all => ?_
  refine t_qz 3 [0, 1, 6, 7] (σ' := [(0, .int .u64 10), (1, .int .u64 10), (6, .int .u64 10), (7, .int .u64 0)]) (by kernel_rfl) ?_
  refine t_end ?_
  show W _ _ _ _ _ _ _
  refine w_seq ?_
  refine w_reg fun all => ?_
  refine t_qz 3 [0, 1, 6, 7, 8] (σ' := [(0, .int .u64 10), (1, .int .u64 10), (6, .int .u64 10), (7, .int .u64 0), (8, .int .u64 10)]) (by kernel_rfl) ?_
  refine t_end ?_
  show W _ _ _ _ _ _ _
  refine w_seq ?_
  refine w_reg fun all => ?_
  refine t_qz 3 [0, 1, 6, 7, 8, 9] (σ' := [(0, .int .u64 10), (1, .int .u64 10), (6, .int .u64 10), (7, .int .u64 0), (8, .int .u64 10), (9, .int .u64 0)]) (by kernel_rfl) ?_
  refine t_end ?_
  show W _ _ _ _ _ _ _
  refine w_seq ?_
  refine w_reg fun all => ?_
  refine t_qz 4 [0, 1, 6, 7, 8, 9, 10] (σ' := [(0, .int .u64 10), (1, .int .u64 10), (6, .int .u64 10), (7, .int .u64 0), (8, .int .u64 10), (9, .int .u64 0), (10, .int .u64 100)]) (by kernel_rfl) ?_
  refine t_end ?_
  show W _ _ _ _ _ _ _
  refine w_seq ?_
  refine w_reg fun all => ?_
  refine t_qz 7 [0, 1, 6, 7, 9, 11] (σ' := [(0, .int .u64 10), (1, .int .u64 10), (6, .int .u64 10), (7, .int .u64 0), (9, .int .u64 0), (11, .int .u64 0)]) (by kernel_rfl) ?_
  refine t_end ?_
  show W _ _ _ _ _ _ _
  refine w_seq ?_
  refine w_reg fun all => ?_
  refine t_qz 3 [0, 1, 6, 7, 9, 11, 12] (σ' := [(0, .int .u64 10), (1, .int .u64 10), (6, .int .u64 10), (7, .int .u64 0), (9, .int .u64 0), (11, .int .u64 0), (12, .int .u64 0)]) (by kernel_rfl) ?_
  refine t_end ?_
  show W _ _ _ _ _ _ _
  refine w_seq ?_
  refine w_reg fun all => ?_
  refine t_qz 3 [0, 1, 6, 7, 9, 12, 13] (σ' := [(0, .int .u64 10), (1, .int .u64 10), (6, .int .u64 10), (7, .int .u64 0), (9, .int .u64 0), (12, .int .u64 0), (13, .int .u64 0)]) (by kernel_rfl) ?_
  refine t_end ?_
  show W _ _ _ _ _ _ _
  refine w_seq ?_
  refine w_reg fun all => ?_
  refine t_qz 6 [0, 1, 7, 9, 12, 13] (σ' := [(0, .int .u64 10), (1, .int .u64 10), (7, .int .u64 0), (9, .int .u64 0), (12, .int .u64 0), (13, .int .u64 0)]) (by kernel_rfl) ?_
  refine t_end ?_
  show W _ _ _ _ _ _ _
  refine w_seq ?_
  refine w_reg fun all => ?_
  refine t_qz 9 [0, 1, 4] (σ' := [(0, .int .u64 10), (1, .int .u64 10), (4, .int .u64 0)]) (by kernel_rfl) ?_
  refine t_end ?_
  show W _ _ _ _ _ _ _
  refine w_seq ?_
  refine w_reg fun all => ?_
  refine t_qz 4 [4, 5] (σ' := [(4, .int .u64 0), (5, .int .u64 100)]) (by kernel_rfl) ?_
  refine t_end ?_
  show W _ _ _ _ _ _ _
  refine w_ret ?_
  exact ⟨[.int .u64 0, .int .u64 100], [], S, ⟨rfl, rfl, trivial⟩, VS.none, rfl, rfl, rfl⟩

def plane_within_1_v2.f  : Option (Unit) := some ()
theorem plane_within_1_v2.ok {S : Seal}  (e : plane_within_1_v2.f  = some ()) :
    Cal Try.prog 117 [.int .i64 4] [] S fun v H' S' => v = .int .u64 4 ∧ H' = [] ∧ S' = S := by
  unfold plane_within_1_v2.f at e
  refine cal_of (c := c117) (N := 8) Try.func117 rfl rfl (by kernel_rfl) (rs := [.t 2]) (by kernel_rfl) (Nat.le_of_ble_eq_true rfl) ?_
  unfold c117
  refine w_seq ?_
  refine w_reg fun all => ?_
  refine t_qz 1 [0] (σ' := [(0, .int .i64 4)]) (by kernel_rfl) ?_
  refine t_end ?_
  show W _ _ _ _ _ _ _
  refine w_seq ?_
  refine w_reg fun all => ?_
  refine t_qz 6 [2] (σ' := [(2, .int .u64 4)]) (by kernel_rfl) ?_
  refine t_end ?_
  show W _ _ _ _ _ _ _
  refine w_ret ?_
  exact ⟨[.int .u64 4], [], S, ⟨rfl, trivial⟩, VS.none, rfl, rfl, rfl⟩

def plane_within_1_v3.f  : Option (Unit) := some ()
theorem plane_within_1_v3.ok {S : Seal}  (e : plane_within_1_v3.f  = some ()) :
    Cal Try.prog 117 [.int .i64 25] [] S fun v H' S' => v = .int .u64 25 ∧ H' = [] ∧ S' = S := by
  unfold plane_within_1_v3.f at e
  refine cal_of (c := c117) (N := 8) Try.func117 rfl rfl (by kernel_rfl) (rs := [.t 2]) (by kernel_rfl) (Nat.le_of_ble_eq_true rfl) ?_
  unfold c117
  refine w_seq ?_
  refine w_reg fun all => ?_
  refine t_qz 1 [0] (σ' := [(0, .int .i64 25)]) (by kernel_rfl) ?_
  refine t_end ?_
  show W _ _ _ _ _ _ _
  refine w_seq ?_
  refine w_reg fun all => ?_
  refine t_qz 6 [2] (σ' := [(2, .int .u64 25)]) (by kernel_rfl) ?_
  refine t_end ?_
  show W _ _ _ _ _ _ _
  refine w_ret ?_
  exact ⟨[.int .u64 25], [], S, ⟨rfl, trivial⟩, VS.none, rfl, rfl, rfl⟩

def bits_Mul64_v2.f  : Option (Unit) := some ()
theorem bits_Mul64_v2.ok {S : Seal}  (e : bits_Mul64_v2.f  = some ()) :
    Cal Try.prog 81 [.int .u64 4, .int .u64 25] [] S fun v H' S' => v = .tuple #[.int .u64 0, .int .u64 100] ∧ H' = [] ∧ S' = S := by
  unfold bits_Mul64_v2.f at e
  refine cal_of (c := c81) (N := 51) Try.func81 rfl rfl (by kernel_rfl) (rs := [.t 4, .t 5]) (by kernel_rfl) (Nat.le_of_ble_eq_true rfl) ?_
  unfold c81
  refine w_seq ?_
  refine w_reg fun all => ?_
  refine t_qz 2 [0, 1] (σ' := [(0, .int .u64 4), (1, .int .u64 25)]) (by kernel_rfl) ?_
  refine t_end ?_
  show W _ _ _ _ _ _ _
  refine w_seq ?_
  refine w_reg fun all => ?_
  refine t_qz 3 [0, 1, 6] (σ' := [(0, .int .u64 4), (1, .int .u64 25), (6, .int .u64 4)]) (by kernel_rfl) ?_
  refine t_end ?_
  show W _ _ _ _ _ _ _
  refine w_seq ?_
  refine w_reg fun all => ?_
  refine t_qz 3 [0, 1, 6, 7] (σ' := [(0, .int .u64 4), (1, .int .u64 25), (6, .int .u64 4), (7, .int .u64 0)]) (by kernel_rfl) ?_
  refine t_end ?_
  show W _ _ _ _ _ _ _
  refine w_seq ?_
  refine w_reg fun all => ?_
  refine t_qz 3 [0, 1, 6, 7, 8] (σ' := [(0, .int .u64 4), (1, .int .u64 25), (6, .int .u64 4), (7, .int .u64 0), (8, .int .u64 25)]) (by kernel_rfl) ?_
  refine t_end ?_
  show W _ _ _ _ _ _ _
  refine w_seq ?_
  refine w_reg fun all => ?_
  refine t_qz 3 [0, 1, 6, 7, 8, 9] (σ' := [(0, .int .u64 4), (1, .int .u64 25), (6, .int .u64 4), (7, .int .u64 0), (8, .int .u64 25), (9, .int .u64 0)]) (by kernel_rfl) ?_
  refine t_end ?_
  show W _ _ _ _ _ _ _
  refine w_seq ?_
  refine w_reg fun all => ?_
  refine t_qz 4 [0, 1, 6, 7, 8, 9, 10] (σ' := [(0, .int .u64 4), (1, .int .u64 25), (6, .int .u64 4), (7, .int .u64 0), (8, .int .u64 25), (9, .int .u64 0), (10, .int .u64 100)]) (by kernel_rfl) ?_
  refine t_end ?_
  show W _ _ _ _ _ _ _
  refine w_seq ?_
  refine w_reg fun all => ?_
  refine t_qz 7 [0, 1, 6, 7, 9, 11] (σ' := [(0, .int .u64 4), (1, .int .u64 25), (6, .int .u64 4), (7, .int .u64 0), (9, .int .u64 0), (11, .int .u64 0)]) (by kernel_rfl) ?_
  refine t_end ?_
  show W _ _ _ _ _ _ _
  refine w_seq ?_
  refine w_reg fun all => ?_
  refine t_qz 3 [0, 1, 6, 7, 9, 11, 12] (σ' := [(0, .int .u64 4), (1, .int .u64 25), (6, .int .u64 4), (7, .int .u64 0), (9, .int .u64 0), (11, .int .u64 0), (12, .int .u64 0)]) (by kernel_rfl) ?_
  refine t_end ?_
  show W _ _ _ _ _ _ _
  refine w_seq ?_
  refine w_reg fun all => ?_
  refine t_qz 3 [0, 1, 6, 7, 9, 12, 13] (σ' := [(0, .int .u64 4), (1, .int .u64 25), (6, .int .u64 4), (7, .int .u64 0), (9, .int .u64 0), (12, .int .u64 0), (13, .int .u64 0)]) (by kernel_rfl) ?_
  refine t_end ?_
  show W _ _ _ _ _ _ _
  refine w_seq ?_
  refine w_reg fun all => ?_
  refine t_qz 6 [0, 1, 7, 9, 12, 13] (σ' := [(0, .int .u64 4), (1, .int .u64 25), (7, .int .u64 0), (9, .int .u64 0), (12, .int .u64 0), (13, .int .u64 0)]) (by kernel_rfl) ?_
  refine t_end ?_
  show W _ _ _ _ _ _ _
  refine w_seq ?_
  refine w_reg fun all => ?_
  refine t_qz 9 [0, 1, 4] (σ' := [(0, .int .u64 4), (1, .int .u64 25), (4, .int .u64 0)]) (by kernel_rfl) ?_
  refine t_end ?_
  show W _ _ _ _ _ _ _
  refine w_seq ?_
  refine w_reg fun all => ?_
  refine t_qz 4 [4, 5] (σ' := [(4, .int .u64 0), (5, .int .u64 100)]) (by kernel_rfl) ?_
  refine t_end ?_
  show W _ _ _ _ _ _ _
  refine w_ret ?_
  exact ⟨[.int .u64 0, .int .u64 100], [], S, ⟨rfl, rfl, trivial⟩, VS.none, rfl, rfl, rfl⟩

/-- plane.within -/
def c105 : C :=
  (.seq (.reg [⟨(some 8), .mv (.const (.bool false)), none⟩])
  (.seq (.reg [⟨(some 9), .mv (.func 117), none⟩])
  (.seq (.reg [⟨(some 15), .mv (.tmp 9), none⟩,
     ⟨(some 16), .mv (.tmp 0), none⟩,
     ⟨(some 17), .clo (.tmp 15) [(.tmp 16)], none⟩,
     ⟨(some 18), .mv (.tmp 9), none⟩,
     ⟨(some 19), .mv (.tmp 1), none⟩,
     ⟨(some 20), .clo (.tmp 18) [(.tmp 19)], none⟩,
     ⟨(some 21), .call 81 [(.tmp 17), (.tmp 20)], none⟩,
     ⟨(some 14), .mv (.tmp 21), none⟩,
     ⟨(some 22), .xt 0 (.tmp 14), none⟩,
     ⟨(some 23), .xt 1 (.tmp 14), none⟩,
     ⟨(some 10), .mv (.tmp 22), none⟩,
     ⟨(some 11), .mv (.tmp 23), none⟩])
  (.seq (.reg [⟨(some 25), .mv (.tmp 9), none⟩,
     ⟨(some 26), .mv (.tmp 2), none⟩,
     ⟨(some 27), .clo (.tmp 25) [(.tmp 26)], none⟩,
     ⟨(some 28), .mv (.tmp 9), none⟩,
     ⟨(some 29), .mv (.tmp 3), none⟩,
     ⟨(some 30), .clo (.tmp 28) [(.tmp 29)], none⟩,
     ⟨(some 31), .call 81 [(.tmp 27), (.tmp 30)], none⟩,
     ⟨(some 24), .mv (.tmp 31), none⟩,
     ⟨(some 32), .xt 0 (.tmp 24), none⟩,
     ⟨(some 33), .xt 1 (.tmp 24), none⟩,
     ⟨(some 12), .mv (.tmp 32), none⟩,
     ⟨(some 13), .mv (.tmp 33), none⟩])
  (.seq (.reg [⟨(some 34), .mv (.tmp 10), none⟩,
     ⟨(some 35), .mv (.tmp 12), none⟩,
     ⟨(some 36), .bin .lss (.tmp 34) (.tmp 35), none⟩,
     ⟨(some 37), .mv (.tmp 36), none⟩,
     ⟨(some 38), .mv (.tmp 10), (some (37, false))⟩,
     ⟨(some 39), .mv (.tmp 12), (some (37, false))⟩,
     ⟨(some 40), .bin .eql (.tmp 38) (.tmp 39), (some (37, false))⟩,
     ⟨(some 41), .mv (.tmp 40), (some (37, false))⟩,
     ⟨(some 42), .mv (.tmp 11), (some (41, true))⟩,
     ⟨(some 43), .mv (.tmp 13), (some (41, true))⟩,
     ⟨(some 44), .bin .leq (.tmp 42) (.tmp 43), (some (41, true))⟩,
     ⟨(some 45), .pk (.tmp 41) (.tmp 44) (.const (.bool false)), (some (37, false))⟩,
     ⟨(some 46), .pk (.tmp 37) (.const (.bool true)) (.tmp 45), none⟩,
     ⟨(some 8), .mv (.tmp 46), none⟩])
  .ret)))))
def plane_within_v1.f  : Option (Unit) := (plane_within_1_v1.f).bind fun _ => ((plane_within_1_v1.f).bind fun _ => ((bits_Mul64_v1.f).bind fun _ => ((plane_within_1_v2.f).bind fun _ => ((plane_within_1_v3.f).bind fun _ => ((bits_Mul64_v2.f).bind fun _ => (some ()))))))
theorem plane_within_v1.ok {S : Seal}  (e : plane_within_v1.f  = some ()) :
    Cal Try.prog 105 [.int .i64 10, .int .i64 10, .int .i64 4, .int .i64 25] [] S fun v H' S' => v = .bool true ∧ H' = [] ∧ S' = S := by
  unfold plane_within_v1.f at e
  refine cal_of (c := c105) (N := 47) Try.func105 rfl rfl (by kernel_rfl) (rs := [.t 8]) (by kernel_rfl) (Nat.le_of_ble_eq_true rfl) ?_
  unfold c105
  refine w_seq ?_
  refine w_reg fun all => ?_
  refine t_qz 1 [0, 1, 2, 3] (σ' := [(0, .int .i64 10), (1, .int .i64 10), (2, .int .i64 4), (3, .int .i64 25)]) (by kernel_rfl) ?_
  refine t_end ?_
  show W _ _ _ _ _ _ _
  refine w_seq ?_
  refine w_reg fun all => ?_
  refine t_qz 1 [0, 1, 2, 3, 9] (σ' := [(0, .int .i64 10), (1, .int .i64 10), (2, .int .i64 4), (3, .int .i64 25), (9, .func (.func 117) #[] #[])]) (by kernel_rfl) ?_
  refine t_end ?_
  show W _ _ _ _ _ _ _
  refine w_seq ?_
  refine w_reg fun all => ?_
  obtain ⟨u_, h23, e⟩ := bind_of e
  refine t_qz 2 [1, 2, 3, 9, 15, 16] (σ' := [(1, .int .i64 10), (2, .int .i64 4), (3, .int .i64 25), (9, .func (.func 117) #[] #[]), (15, .func (.func 117) #[] #[]), (16, .int .i64 10)]) (by kernel_rfl) ?_
  refine t_v (.clor (vs := [.int .i64 10]) (caps := #[]) (A := ([] : List Own)) (F0 := ([] : List Own)) rfl rfl rfl (by kernel_rfl) (by kernel_rfl) (sel_perm (is := []) (by kernel_rfl)) (plane_within_1_v1.ok h23)) ?_
  obtain ⟨u_, h24, e⟩ := bind_of e
  refine t_qz 2 [2, 3, 9, 17, 18, 19] (σ' := [(2, .int .i64 4), (3, .int .i64 25), (9, .func (.func 117) #[] #[]), (17, .int .u64 10), (18, .func (.func 117) #[] #[]), (19, .int .i64 10)]) (by kernel_rfl) ?_
  refine t_v (.clor (vs := [.int .i64 10]) (caps := #[]) (A := ([] : List Own)) (F0 := ([] : List Own)) rfl rfl rfl (by kernel_rfl) (by kernel_rfl) (sel_perm (is := []) (by kernel_rfl)) (plane_within_1_v1.ok h24)) ?_
  obtain ⟨u_, h25, e⟩ := bind_of e
  refine t_v (.call (vs := [.int .u64 10, .int .u64 10]) rfl rfl (by kernel_rfl) (bits_Mul64_v1.ok h25)) ?_
  refine t_qz 5 [2, 3, 9, 10, 11] (σ' := [(2, .int .i64 4), (3, .int .i64 25), (9, .func (.func 117) #[] #[]), (10, .int .u64 0), (11, .int .u64 100)]) (by kernel_rfl) ?_
  refine t_end ?_
  show W _ _ _ _ _ _ _
  refine w_seq ?_
  refine w_reg fun all => ?_
  obtain ⟨u_, h26, e⟩ := bind_of e
  refine t_qz 2 [3, 9, 10, 11, 25, 26] (σ' := [(3, .int .i64 25), (9, .func (.func 117) #[] #[]), (10, .int .u64 0), (11, .int .u64 100), (25, .func (.func 117) #[] #[]), (26, .int .i64 4)]) (by kernel_rfl) ?_
  refine t_v (.clor (vs := [.int .i64 4]) (caps := #[]) (A := ([] : List Own)) (F0 := ([] : List Own)) rfl rfl rfl (by kernel_rfl) (by kernel_rfl) (sel_perm (is := []) (by kernel_rfl)) (plane_within_1_v2.ok h26)) ?_
  obtain ⟨u_, h27, e⟩ := bind_of e
  refine t_qz 2 [10, 11, 27, 28, 29] (σ' := [(10, .int .u64 0), (11, .int .u64 100), (27, .int .u64 4), (28, .func (.func 117) #[] #[]), (29, .int .i64 25)]) (by kernel_rfl) ?_
  refine t_v (.clor (vs := [.int .i64 25]) (caps := #[]) (A := ([] : List Own)) (F0 := ([] : List Own)) rfl rfl rfl (by kernel_rfl) (by kernel_rfl) (sel_perm (is := []) (by kernel_rfl)) (plane_within_1_v3.ok h27)) ?_
  obtain ⟨u_, h28, e⟩ := bind_of e
  refine t_v (.call (vs := [.int .u64 4, .int .u64 25]) rfl rfl (by kernel_rfl) (bits_Mul64_v2.ok h28)) ?_
  refine t_qz 5 [10, 11, 12, 13] (σ' := [(10, .int .u64 0), (11, .int .u64 100), (12, .int .u64 0), (13, .int .u64 100)]) (by kernel_rfl) ?_
  refine t_end ?_
  show W _ _ _ _ _ _ _
  refine w_seq ?_
  refine w_reg fun all => ?_
  refine t_qz 14 [8] (σ' := [(8, .bool true)]) (by kernel_rfl) ?_
  refine t_end ?_
  show W _ _ _ _ _ _ _
  refine w_ret ?_
  exact ⟨[.bool true], [], S, ⟨rfl, trivial⟩, VS.none, rfl, rfl, rfl⟩

/-- plane.Near -/
def c65 : C :=
  (.seq (.reg [⟨(some 4), .box (.tmp 0), none⟩,
     ⟨(some 5), .box (.tmp 1), none⟩,
     ⟨(some 6), .box (.tmp 2), none⟩,
     ⟨(some 8), .mv (.const (.bool false)), none⟩])
  (.seq (.drw [⟨(some 12), .ld (some 2) (.tmp 4), none⟩,
     ⟨(some 13), .ld (some 2) (.tmp 5), none⟩,
     ⟨(some 14), .ld (some 2) (.tmp 6), none⟩,
     ⟨(some 15), .call 104 [(.tmp 12), (.tmp 13), (.tmp 14)], none⟩,
     ⟨(some 16), .ld (some 2) (.tmp 4), none⟩,
     ⟨(some 17), .ld (some 2) (.tmp 5), none⟩,
     ⟨(some 18), .call 90 [(.tmp 16), (.tmp 17)], none⟩,
     ⟨(some 9), .mv (.tmp 15), none⟩,
     ⟨(some 10), .mv (.tmp 18), none⟩] [[], [], [], [0, 1, 2], [], [], [4, 5, 3], [3, 6, 0, 1, 2, 3], [6, 7, 0, 1, 2, 3, 4, 5, 6, 7]])
  (.seq (.block 0 (.seq (.reg [⟨(some 20), .mv (.tmp 9), none⟩,
       ⟨(some 21), .bin .leq (.tmp 20) (.const (.int .i64 0)), none⟩,
       ⟨(some 19), .mv (.tmp 21), none⟩])
    (.cond (.tmp 19)
     (.seq (.reg [⟨(some 22), .ld (some 2) (.tmp 4), none⟩,
         ⟨(some 23), .ld (some 2) (.tmp 6), none⟩,
         ⟨(some 24), .call 90 [(.tmp 22), (.tmp 23)], none⟩,
         ⟨(some 25), .mv (.tmp 3), none⟩,
         ⟨(some 26), .mv (.tmp 3), none⟩,
         ⟨(some 27), .call 105 [(.const (.int .i64 4)), (.tmp 24), (.tmp 25), (.tmp 26)], none⟩,
         ⟨(some 8), .mv (.tmp 27), none⟩])
      .ret)
     (.seq (.reg [⟨(some 29), .mv (.tmp 9), none⟩,
         ⟨(some 30), .mv (.tmp 10), none⟩,
         ⟨(some 31), .bin .geq (.tmp 29) (.tmp 30), none⟩,
         ⟨(some 28), .mv (.tmp 31), none⟩])
      (.cond (.tmp 28)
       (.seq (.reg [⟨(some 32), .ld (some 2) (.tmp 5), none⟩,
           ⟨(some 33), .ld (some 2) (.tmp 6), none⟩,
           ⟨(some 34), .call 90 [(.tmp 32), (.tmp 33)], none⟩,
           ⟨(some 35), .mv (.tmp 3), none⟩,
           ⟨(some 36), .mv (.tmp 3), none⟩,
           ⟨(some 37), .call 105 [(.const (.int .i64 4)), (.tmp 34), (.tmp 35), (.tmp 36)], none⟩,
           ⟨(some 8), .mv (.tmp 37), none⟩])
        .ret)
       .skip)))))
  (.seq (.reg [⟨(some 38), .ld (some 2) (.tmp 4), none⟩,
     ⟨(some 39), .ld (some 2) (.tmp 5), none⟩,
     ⟨(some 40), .ld (some 2) (.tmp 6), none⟩,
     ⟨(some 41), .call 106 [(.tmp 38), (.tmp 39), (.tmp 40)], none⟩,
     ⟨(some 42), .bin .mul (.const (.int .i64 2)) (.tmp 41), none⟩,
     ⟨(some 11), .mv (.tmp 42), none⟩])
  (.seq (.reg [⟨(some 43), .mv (.tmp 11), none⟩,
     ⟨(some 44), .mv (.tmp 11), none⟩,
     ⟨(some 45), .mv (.tmp 3), none⟩,
     ⟨(some 46), .mv (.tmp 3), none⟩,
     ⟨(some 47), .bin .mul (.tmp 45) (.tmp 46), none⟩,
     ⟨(some 48), .mv (.tmp 10), none⟩,
     ⟨(some 49), .call 105 [(.tmp 43), (.tmp 44), (.tmp 47), (.tmp 48)], none⟩,
     ⟨(some 8), .mv (.tmp 49), none⟩])
  .ret)))))
def plane_Near_v1.f  : Option (Unit) := (plane_Dot_v1.f).bind fun _ => ((plane_Len2_v1.f).bind fun _ => ((plane_Cross_v1.f).bind fun _ => ((plane_within_v1.f).bind fun _ => (some ()))))
theorem plane_Near_v1.ok {S : Seal}  (e : plane_Near_v1.f  = some ()) :
    Cal Try.prog 65 [.agg #[.int .i64 0, .int .i64 0], .agg #[.int .i64 5, .int .i64 0], .agg #[.int .i64 1, .int .i64 1], .int .i64 2] [] S fun v H' S' => v = .bool true ∧ H' = [] ∧ S' = S := by
  unfold plane_Near_v1.f at e
  refine cal_of (c := c65) (N := 50) Try.func65 rfl rfl (by kernel_rfl) (rs := [.t 8]) (by kernel_rfl) (Nat.le_of_ble_eq_true rfl) ?_
  unfold c65
  refine w_seq ?_
  refine w_reg fun all => ?_
  refine t_a (.box rfl rfl rfl) fun b10 fb10 sb10 => ?_
  refine t_a (.box rfl rfl rfl) fun b11 fb11 sb11 => ?_
  refine t_a (.box rfl rfl rfl) fun b12 fb12 sb12 => ?_
  refine t_qz 1 [3, 4, 5, 6] (σ' := [(3, .int .i64 2), (4, .pointer (some ⟨b10, 0, none⟩)), (5, .pointer (some ⟨b11, 0, none⟩)), (6, .pointer (some ⟨b12, 0, none⟩))]) (by kernel_rfl) ?_
  refine t_end ?_
  show W _ _ _ _ _ _ _
  refine w_seq ?_
  obtain ⟨u_, h13, e⟩ := bind_of e
  obtain ⟨u_, h14, e⟩ := bind_of e
  refine w_drwE mixed 9 [.v (.agg #[.int .i64 0, .int .i64 0]), .v (.agg #[.int .i64 5, .int .i64 0]), .v (.agg #[.int .i64 1, .int .i64 1]), .v (.int .i64 5), .v (.agg #[.int .i64 0, .int .i64 0]), .v (.agg #[.int .i64 5, .int .i64 0]), .v (.int .i64 25), .v (.int .i64 5), .v (.int .i64 25)] (by kernel_rfl) ?_ ?_
  · refine .cons (.ldn rfl rfl rfl (.at 2 rfl rfl)) ?_
    refine .cons (.ldn rfl rfl rfl (.at 1 rfl rfl)) ?_
    refine .cons (.ldn rfl rfl rfl (.at 0 rfl rfl)) ?_
    refine .cons (.call (vs := [.agg #[.int .i64 0, .int .i64 0], .agg #[.int .i64 5, .int .i64 0], .agg #[.int .i64 1, .int .i64 1]]) rfl rfl (by kernel_rfl) (plane_Dot_v1.ok h13)) ?_
    refine .cons (.ldn rfl rfl rfl (.at 2 rfl rfl)) ?_
    refine .cons (.ldn rfl rfl rfl (.at 1 rfl rfl)) ?_
    refine .cons (.call (vs := [.agg #[.int .i64 0, .int .i64 0], .agg #[.int .i64 5, .int .i64 0]]) rfl rfl (by kernel_rfl) (plane_Len2_v1.ok h14)) ?_
    refine DI.sq 2 (by kernel_rfl) rfl ?_
    exact .nil
  refine fk_q 9 [3, 4, 5, 6, 9, 10] (σ' := [(3, .int .i64 2), (4, .pointer (some ⟨b10, 0, none⟩)), (5, .pointer (some ⟨b11, 0, none⟩)), (6, .pointer (some ⟨b12, 0, none⟩)), (9, .int .i64 5), (10, .int .i64 25)]) t_more (by kernel_rfl) ?_
  refine fk_nil fun all => ?_
  refine t_keep [3, 4, 5, 6, 9, 10] (σ' := [(3, .int .i64 2), (4, .pointer (some ⟨b10, 0, none⟩)), (5, .pointer (some ⟨b11, 0, none⟩)), (6, .pointer (some ⟨b12, 0, none⟩)), (9, .int .i64 5), (10, .int .i64 25)]) (by kernel_rfl) ?_
  refine t_end ?_
  show W _ _ _ _ _ _ _
  refine w_seq ?_
  refine w_block ?_
  refine w_seq ?_
  refine w_reg fun all => ?_
  refine t_qz 3 [3, 4, 5, 6, 9, 10, 19] (σ' := [(3, .int .i64 2), (4, .pointer (some ⟨b10, 0, none⟩)), (5, .pointer (some ⟨b11, 0, none⟩)), (6, .pointer (some ⟨b12, 0, none⟩)), (9, .int .i64 5), (10, .int .i64 25), (19, .bool false)]) (by kernel_rfl) ?_
  refine t_end ?_
  show W _ _ _ _ _ _ _
  refine w_cond rfl (fun c_ => by cases c_) (fun _ => ?_)
  show W _ _ _ _ _ _ _
  refine w_seq ?_
  refine w_reg fun all => ?_
  refine t_qz 4 [3, 4, 5, 6, 10, 28] (σ' := [(3, .int .i64 2), (4, .pointer (some ⟨b10, 0, none⟩)), (5, .pointer (some ⟨b11, 0, none⟩)), (6, .pointer (some ⟨b12, 0, none⟩)), (10, .int .i64 25), (28, .bool false)]) (by kernel_rfl) ?_
  refine t_end ?_
  show W _ _ _ _ _ _ _
  refine w_cond rfl (fun c_ => by cases c_) (fun _ => ?_)
  show W _ _ _ _ _ _ _
  refine w_skip ?_
  show W _ _ _ _ _ _ _
  refine w_seq ?_
  refine w_reg fun all => ?_
  refine t_v (.ldn rfl rfl rfl (.at 2 rfl rfl)) ?_
  refine t_v (.ldn rfl rfl rfl (.at 1 rfl rfl)) ?_
  refine t_v (.ldn rfl rfl rfl (.at 0 rfl rfl)) ?_
  obtain ⟨u_, h22, e⟩ := bind_of e
  refine t_v (.call (vs := [.agg #[.int .i64 0, .int .i64 0], .agg #[.int .i64 5, .int .i64 0], .agg #[.int .i64 1, .int .i64 1]]) rfl rfl (by kernel_rfl) (plane_Cross_v1.ok h22)) ?_
  refine t_qz 2 [3, 10, 11] (σ' := [(3, .int .i64 2), (10, .int .i64 25), (11, .int .i64 10)]) (by kernel_rfl) ?_
  refine t_end ?_
  show W _ _ _ _ _ _ _
  refine w_seq ?_
  refine w_reg fun all => ?_
  obtain ⟨u_, h29, e⟩ := bind_of e
  refine t_qz 6 [43, 44, 47, 48] (σ' := [(43, .int .i64 10), (44, .int .i64 10), (47, .int .i64 4), (48, .int .i64 25)]) (by kernel_rfl) ?_
  refine t_v (.call (vs := [.int .i64 10, .int .i64 10, .int .i64 4, .int .i64 25]) rfl rfl (by kernel_rfl) (plane_within_v1.ok h29)) ?_
  refine t_qz 1 [8] (σ' := [(8, .bool true)]) (by kernel_rfl) ?_
  refine t_end ?_
  show W _ _ _ _ _ _ _
  refine w_ret ?_
  exact ⟨[.bool true], [], S, ⟨rfl, trivial⟩, VS.none, rfl, rfl, rfl⟩

/-- stroke.Near$1 -/
def c64 : C :=
  (.seq (.reg [⟨(some 3), .box (.tmp 0), none⟩,
     ⟨(some 4), .mv (.const (.bool false)), none⟩])
  (.seq (.reg [⟨(some 5), .pad 0 (.tmp 3), none⟩,
     ⟨(some 6), .ld (some 2) (.tmp 5), none⟩,
     ⟨(some 7), .pad 2 (.tmp 3), none⟩,
     ⟨(some 8), .ld (some 2) (.tmp 7), none⟩,
     ⟨(some 9), .ld (some 2) (.tmp 1), none⟩,
     ⟨(some 10), .ld none (.tmp 2), none⟩,
     ⟨(some 11), .call 65 [(.tmp 6), (.tmp 8), (.tmp 9), (.tmp 10)], none⟩,
     ⟨(some 4), .mv (.tmp 11), none⟩])
  .ret))
def stroke_Near_1_v1.f  : Option (Unit) := (plane_Near_v1.f).bind fun _ => (some ())
theorem stroke_Near_1_v1.ok {S : Seal} {B0 : Nat} {B1 : Nat}  (e : stroke_Near_1_v1.f  = some ()) :
    Cal Try.prog 64 [.agg #[.int .i64 0, .int .i64 0, .int .i64 5, .int .i64 0], .pointer (some ⟨B0, 0, none⟩), .pointer (some ⟨B1, 0, none⟩)] ([⟨B0, [.int .i64 1, .int .i64 1], 2⟩, ⟨B1, [.int .i64 2], 1⟩] : List Own) S fun v H' S' => v = .bool true ∧ H' = ([⟨B0, [.int .i64 1, .int .i64 1], 2⟩, ⟨B1, [.int .i64 2], 1⟩] : List Own) ∧ S' = S := by
  unfold stroke_Near_1_v1.f at e
  refine cal_of (c := c64) (N := 12) Try.func64 rfl rfl (by kernel_rfl) (rs := [.t 4]) (by kernel_rfl) (Nat.le_of_ble_eq_true rfl) ?_
  unfold c64
  refine w_seq ?_
  refine w_reg fun all => ?_
  refine t_a (.box rfl rfl rfl) fun b9 fb9 sb9 => ?_
  refine t_qz 1 [1, 2, 3] (σ' := [(1, .pointer (some ⟨B0, 0, none⟩)), (2, .pointer (some ⟨B1, 0, none⟩)), (3, .pointer (some ⟨b9, 0, none⟩))]) (by kernel_rfl) ?_
  refine t_end ?_
  show W _ _ _ _ _ _ _
  refine w_seq ?_
  refine w_reg fun all => ?_
  refine t_qz 1 [1, 2, 3, 5] (σ' := [(1, .pointer (some ⟨B0, 0, none⟩)), (2, .pointer (some ⟨B1, 0, none⟩)), (3, .pointer (some ⟨b9, 0, none⟩)), (5, .pointer (some ⟨b9, 0, none⟩))]) (by kernel_rfl) ?_
  refine t_v (.ldn rfl rfl rfl (.at 0 rfl rfl)) ?_
  refine t_qz 1 [1, 2, 6, 7] (σ' := [(1, .pointer (some ⟨B0, 0, none⟩)), (2, .pointer (some ⟨B1, 0, none⟩)), (6, .agg #[.int .i64 0, .int .i64 0]), (7, .pointer (some ⟨b9, 2, none⟩))]) (by kernel_rfl) ?_
  refine t_v (.ldn rfl rfl rfl (.at 0 rfl rfl)) ?_
  refine t_v (.ldn rfl rfl rfl (.at 1 rfl rfl)) ?_
  refine t_v (.ld1 rfl rfl rfl (.at 2 rfl rfl)) ?_
  obtain ⟨u_, h30, e⟩ := bind_of e
  refine t_v (.call (vs := [.agg #[.int .i64 0, .int .i64 0], .agg #[.int .i64 5, .int .i64 0], .agg #[.int .i64 1, .int .i64 1], .int .i64 2]) rfl rfl (by kernel_rfl) (plane_Near_v1.ok h30)) ?_
  refine t_qz 1 [4] (σ' := [(4, .bool true)]) (by kernel_rfl) ?_
  refine t_end ?_
  show W _ _ _ _ _ _ _
  refine w_ret ?_
  exact ⟨[.bool true], ([⟨B0, [.int .i64 1, .int .i64 1], 2⟩, ⟨B1, [.int .i64 2], 1⟩] : List Own), S, ⟨rfl, trivial⟩, VS.sel [1, 1] (by kernel_rfl), rfl, rfl, rfl⟩

def api_Edge_v4.f  : Option (Unit) := (stroke_Near_1_v1.f).bind fun _ => (some ())
theorem api_Edge_v4.ok {S : Seal} {B0 : Nat} {B1 : Nat} {B2 : Nat}  (e : api_Edge_v4.f  = some ()) :
    Cal Try.prog 103 [.slice (some ⟨B0, 0, none⟩) 1 1, .func (.func 64) #[] #[.pointer (some ⟨B1, 0, none⟩), .pointer (some ⟨B2, 0, none⟩)]] ([⟨B0, [.int .i64 0, .int .i64 0, .int .i64 5, .int .i64 0], 4⟩, ⟨B1, [.int .i64 1, .int .i64 1], 2⟩, ⟨B2, [.int .i64 2], 1⟩] : List Own) S fun v H' S' => v = .int .i64 0 ∧ H' = ([⟨B0, [.int .i64 0, .int .i64 0, .int .i64 5, .int .i64 0], 4⟩, ⟨B1, [.int .i64 1, .int .i64 1], 2⟩, ⟨B2, [.int .i64 2], 1⟩] : List Own) ∧ S' = S := by
  unfold api_Edge_v4.f at e
  refine cal_of (c := c103) (N := 19) Try.func103 rfl rfl (by kernel_rfl) (rs := [.t 4]) (by kernel_rfl) (Nat.le_of_ble_eq_true rfl) ?_
  unfold c103
  refine w_seq ?_
  refine w_reg fun all => ?_
  refine t_qz 1 [0, 1] (σ' := [(0, .slice (some ⟨B0, 0, none⟩) 1 1), (1, .func (.func 64) #[] #[.pointer (some ⟨B1, 0, none⟩), .pointer (some ⟨B2, 0, none⟩)])]) (by kernel_rfl) ?_
  refine t_end ?_
  show W _ _ _ _ _ _ _
  refine w_seq ?_
  refine w_seq ?_
  refine w_reg fun all => ?_
  refine t_qz 3 [0, 1, 7, 8] (σ' := [(0, .slice (some ⟨B0, 0, none⟩) 1 1), (1, .func (.func 64) #[] #[.pointer (some ⟨B1, 0, none⟩), .pointer (some ⟨B2, 0, none⟩)]), (7, .int .i64 1), (8, .int .i64 0)]) (by kernel_rfl) ?_
  refine t_end ?_
  show W _ _ _ _ _ _ _
  refine w_block ?_
  refine w_lun 10 ?_
  refine wl_step ?_
  refine w_seq ?_
  refine w_reg fun all => ?_
  refine t_qz 1 [0, 1, 7, 8, 9] (σ' := [(0, .slice (some ⟨B0, 0, none⟩) 1 1), (1, .func (.func 64) #[] #[.pointer (some ⟨B1, 0, none⟩), .pointer (some ⟨B2, 0, none⟩)]), (7, .int .i64 1), (8, .int .i64 0), (9, .bool true)]) (by kernel_rfl) ?_
  refine t_end ?_
  show W _ _ _ _ _ _ _
  refine w_seq ?_
  refine w_cond rfl (fun _ => ?_) (fun c_ => by cases c_)
  show W _ _ _ _ _ _ _
  refine w_skip ?_
  show W _ _ _ _ _ _ _
  refine w_seq ?_
  refine w_block ?_
  refine w_seq ?_
  refine w_reg fun all => ?_
  refine t_qz 2 [0, 1, 5, 7, 8] (σ' := [(0, .slice (some ⟨B0, 0, none⟩) 1 1), (1, .func (.func 64) #[] #[.pointer (some ⟨B1, 0, none⟩), .pointer (some ⟨B2, 0, none⟩)]), (5, .int .i64 0), (7, .int .i64 1), (8, .int .i64 0)]) (by kernel_rfl) ?_
  refine t_end ?_
  show W _ _ _ _ _ _ _
  refine w_seq ?_
  refine w_reg fun all => ?_
  refine t_qz 4 [0, 1, 5, 7, 8, 11, 14] (σ' := [(0, .slice (some ⟨B0, 0, none⟩) 1 1), (1, .func (.func 64) #[] #[.pointer (some ⟨B1, 0, none⟩), .pointer (some ⟨B2, 0, none⟩)]), (5, .int .i64 0), (7, .int .i64 1), (8, .int .i64 0), (11, .func (.func 64) #[] #[.pointer (some ⟨B1, 0, none⟩), .pointer (some ⟨B2, 0, none⟩)]), (14, .pointer (some ⟨B0, 0, none⟩))]) (by kernel_rfl) ?_
  refine t_v (.ldn rfl rfl rfl (.at 0 rfl rfl)) ?_
  obtain ⟨u_, h31, e⟩ := bind_of e
  refine t_v (.clor (vs := [.agg #[.int .i64 0, .int .i64 0, .int .i64 5, .int .i64 0]]) (caps := #[.pointer (some ⟨B1, 0, none⟩), .pointer (some ⟨B2, 0, none⟩)]) (A := ([⟨B1, [.int .i64 1, .int .i64 1], 2⟩, ⟨B2, [.int .i64 2], 1⟩] : List Own)) (F0 := ([⟨B0, [.int .i64 0, .int .i64 0, .int .i64 5, .int .i64 0], 4⟩] : List Own)) rfl rfl rfl (by kernel_rfl) (by kernel_rfl) (sel_perm (is := [1, 1]) (by kernel_rfl)) (stroke_Near_1_v1.ok h31)) ?_
  refine t_keep [0, 1, 5, 7, 8, 16] (σ' := [(0, .slice (some ⟨B0, 0, none⟩) 1 1), (1, .func (.func 64) #[] #[.pointer (some ⟨B1, 0, none⟩), .pointer (some ⟨B2, 0, none⟩)]), (5, .int .i64 0), (7, .int .i64 1), (8, .int .i64 0), (16, .bool true)]) (by kernel_rfl) ?_
  refine t_end ?_
  show W _ _ _ _ _ _ _
  refine w_cond rfl (fun _ => ?_) (fun c_ => by cases c_)
  show W _ _ _ _ _ _ _
  refine w_seq ?_
  refine w_reg fun all => ?_
  refine t_qz 2 [4] (σ' := [(4, .int .i64 0)]) (by kernel_rfl) ?_
  refine t_end ?_
  show W _ _ _ _ _ _ _
  refine w_ret ?_
  exact ⟨[.int .i64 0], ([⟨B0, [.int .i64 0, .int .i64 0, .int .i64 5, .int .i64 0], 4⟩, ⟨B1, [.int .i64 1, .int .i64 1], 2⟩, ⟨B2, [.int .i64 2], 1⟩] : List Own), S, ⟨rfl, trivial⟩, VS.sel [0, 0, 0] (by kernel_rfl), rfl, rfl, rfl⟩

def api_Edge_v3.f  : Option (Unit) := (api_Edge_v4.f).bind fun _ => (some ())
theorem api_Edge_v3.ok {S : Seal} {B0 : Nat} {B1 : Nat} {B2 : Nat}  (e : api_Edge_v3.f  = some ()) :
    Cal Try.prog 63 [.slice (some ⟨B0, 0, none⟩) 1 1, .func (.func 64) #[] #[.pointer (some ⟨B1, 0, none⟩), .pointer (some ⟨B2, 0, none⟩)]] ([⟨B0, [.int .i64 0, .int .i64 0, .int .i64 5, .int .i64 0], 4⟩, ⟨B1, [.int .i64 1, .int .i64 1], 2⟩, ⟨B2, [.int .i64 2], 1⟩] : List Own) S fun v H' S' => v = .bool true ∧ H' = ([⟨B0, [.int .i64 0, .int .i64 0, .int .i64 5, .int .i64 0], 4⟩, ⟨B1, [.int .i64 1, .int .i64 1], 2⟩, ⟨B2, [.int .i64 2], 1⟩] : List Own) ∧ S' = S := by
  unfold api_Edge_v3.f at e
  refine cal_of (c := c63) (N := 9) Try.func63 rfl rfl (by kernel_rfl) (rs := [.t 4]) (by kernel_rfl) (Nat.le_of_ble_eq_true rfl) ?_
  unfold c63
  refine w_seq ?_
  refine w_reg fun all => ?_
  refine t_qz 1 [0, 1] (σ' := [(0, .slice (some ⟨B0, 0, none⟩) 1 1), (1, .func (.func 64) #[] #[.pointer (some ⟨B1, 0, none⟩), .pointer (some ⟨B2, 0, none⟩)])]) (by kernel_rfl) ?_
  refine t_end ?_
  show W _ _ _ _ _ _ _
  refine w_seq ?_
  refine w_reg fun all => ?_
  obtain ⟨u_, h32, e⟩ := bind_of e
  refine t_qz 2 [5, 6] (σ' := [(5, .slice (some ⟨B0, 0, none⟩) 1 1), (6, .func (.func 64) #[] #[.pointer (some ⟨B1, 0, none⟩), .pointer (some ⟨B2, 0, none⟩)])]) (by kernel_rfl) ?_
  refine t_v (.callr (vs := [.slice (some ⟨B0, 0, none⟩) 1 1, .func (.func 64) #[] #[.pointer (some ⟨B1, 0, none⟩), .pointer (some ⟨B2, 0, none⟩)]]) (A := ([⟨B0, [.int .i64 0, .int .i64 0, .int .i64 5, .int .i64 0], 4⟩, ⟨B1, [.int .i64 1, .int .i64 1], 2⟩, ⟨B2, [.int .i64 2], 1⟩] : List Own)) (F0 := ([] : List Own)) rfl rfl (by kernel_rfl) (sel_perm (is := [0, 0, 0]) (by kernel_rfl)) (api_Edge_v4.ok h32)) ?_
  refine t_qz 2 [4] (σ' := [(4, .bool true)]) (by kernel_rfl) ?_
  refine t_end ?_
  show W _ _ _ _ _ _ _
  refine w_ret ?_
  exact ⟨[.bool true], ([⟨B0, [.int .i64 0, .int .i64 0, .int .i64 5, .int .i64 0], 4⟩, ⟨B1, [.int .i64 1, .int .i64 1], 2⟩, ⟨B2, [.int .i64 2], 1⟩] : List Own), S, ⟨rfl, trivial⟩, VS.sel [0, 0, 0] (by kernel_rfl), rfl, rfl, rfl⟩

def stroke_Near_v2.f  : Option (Unit) := (api_Edge_v3.f).bind fun _ => (some ())
theorem stroke_Near_v2.ok {S : Seal} {B0 : Nat}  (e : stroke_Near_v2.f  = some ()) :
    Cal Try.prog 19 [.slice (some ⟨B0, 0, none⟩) 1 1, .int .i64 2, .agg #[.int .i64 1, .int .i64 1]] ([⟨B0, [.int .i64 0, .int .i64 0, .int .i64 5, .int .i64 0], 4⟩] : List Own) S fun v H' S' => v = .bool true ∧ H' = ([⟨B0, [.int .i64 0, .int .i64 0, .int .i64 5, .int .i64 0], 4⟩] : List Own) ∧ S' = S := by
  unfold stroke_Near_v2.f at e
  refine cal_of (c := c19) (N := 10) Try.func19 rfl rfl (by kernel_rfl) (rs := [.t 6]) (by kernel_rfl) (Nat.le_of_ble_eq_true rfl) ?_
  unfold c19
  refine w_seq ?_
  refine w_reg fun all => ?_
  refine t_a (.box rfl rfl rfl) fun b7 fb7 sb7 => ?_
  refine t_a (.box rfl rfl rfl) fun b8 fb8 sb8 => ?_
  refine t_qz 1 [0, 4, 5] (σ' := [(0, .slice (some ⟨B0, 0, none⟩) 1 1), (4, .pointer (some ⟨b7, 0, none⟩)), (5, .pointer (some ⟨b8, 0, none⟩))]) (by kernel_rfl) ?_
  refine t_end ?_
  show W _ _ _ _ _ _ _
  refine w_seq ?_
  refine w_reg fun all => ?_
  obtain ⟨u_, h33, e⟩ := bind_of e
  refine t_qz 2 [7, 8] (σ' := [(7, .slice (some ⟨B0, 0, none⟩) 1 1), (8, .func (.func 64) #[] #[.pointer (some ⟨b8, 0, none⟩), .pointer (some ⟨b7, 0, none⟩)])]) (by kernel_rfl) ?_
  refine t_v (.callr (vs := [.slice (some ⟨B0, 0, none⟩) 1 1, .func (.func 64) #[] #[.pointer (some ⟨b8, 0, none⟩), .pointer (some ⟨b7, 0, none⟩)]]) (A := ([⟨B0, [.int .i64 0, .int .i64 0, .int .i64 5, .int .i64 0], 4⟩, ⟨b8, [.int .i64 1, .int .i64 1], 2⟩, ⟨b7, [.int .i64 2], 1⟩] : List Own)) (F0 := ([] : List Own)) rfl rfl (by kernel_rfl) (sel_perm (is := [2, 0, 0]) (by kernel_rfl)) (api_Edge_v3.ok h33)) ?_
  refine t_qz 1 [6] (σ' := [(6, .bool true)]) (by kernel_rfl) ?_
  refine t_end ?_
  show W _ _ _ _ _ _ _
  refine w_ret ?_
  exact ⟨[.bool true], ([⟨B0, [.int .i64 0, .int .i64 0, .int .i64 5, .int .i64 0], 4⟩] : List Own), S, ⟨rfl, trivial⟩, VS.sel [2] (by kernel_rfl), rfl, rfl, rfl⟩

/-- glyphiclaw23.first -/
def c16 : C :=
  (.seq (.reg [⟨(some 0), .mv (.const (.bool false)), none⟩])
  (.seq (.reg [⟨(some 2), .bld [(.int .i64 0), (.int .i64 0)] [(0, 1, (.const (.int .i64 5)))], none⟩,
     ⟨(some 3), .bld [(.int .i64 0), (.int .i64 0), (.int .i64 0), (.int .i64 0)] [(2, 2, (.tmp 2))], none⟩,
     ⟨(some 4), .bsl [(.int .i64 0), (.int .i64 0), (.int .i64 0), (.int .i64 0)] 1 [(0, 4, (.tmp 3))], none⟩,
     ⟨(some 1), .mv (.tmp 4), none⟩])
  (.seq (.reg [⟨(some 5), .bld [(.int .i64 0), (.int .i64 0)] [], none⟩,
     ⟨(some 6), .call 19 [(.const (.slice none 0 0)), (.const (.int .i64 5)), (.tmp 5)], none⟩,
     ⟨(some 7), .un .not (.tmp 6), none⟩,
     ⟨(some 8), .mv (.tmp 7), none⟩,
     ⟨(some 9), .mv (.tmp 1), (some (8, true))⟩,
     ⟨(some 10), .bld [(.int .i64 0), (.int .i64 0)] [(0, 1, (.const (.int .i64 1))), (1, 1, (.const (.int .i64 1)))], (some (8, true))⟩,
     ⟨(some 11), .call 19 [(.tmp 9), (.const (.int .i64 2)), (.tmp 10)], (some (8, true))⟩,
     ⟨(some 12), .pk (.tmp 8) (.tmp 11) (.const (.bool false)), none⟩,
     ⟨(some 0), .mv (.tmp 12), none⟩])
  .ret)))
def glyphiclaw23_first.f  : Option (Bool) := (stroke_Near_v1.f).bind fun _ => ((stroke_Near_v2.f).bind fun _ => (some true))
theorem glyphiclaw23_first.ok {S : Seal}  {r0_ : Bool}(e : glyphiclaw23_first.f  = some r0_) :
    Cal Try.prog 16 [] [] S fun v H' S' => v = .bool r0_ ∧ H' = [] ∧ S' = S := by
  unfold glyphiclaw23_first.f at e
  refine cal_of (c := c16) (N := 13) Try.func16 rfl rfl (by kernel_rfl) (rs := [.t 0]) (by kernel_rfl) (Nat.le_of_ble_eq_true rfl) ?_
  unfold c16
  refine w_seq ?_
  refine w_reg fun all => ?_
  refine t_qz 1 [] (σ' := []) (by kernel_rfl) ?_
  refine t_end ?_
  show W _ _ _ _ _ _ _
  refine w_seq ?_
  refine w_reg fun all => ?_
  refine t_qz 2 [3] (σ' := [(3, .agg #[.int .i64 0, .int .i64 0, .int .i64 5, .int .i64 0])]) (by kernel_rfl) ?_
  refine t_a (.bsl rfl rfl rfl rfl) fun b1 fb1 sb1 => ?_
  refine t_qz 1 [1] (σ' := [(1, .slice (some ⟨b1, 0, none⟩) 1 1)]) (by kernel_rfl) ?_
  refine t_end ?_
  show W _ _ _ _ _ _ _
  refine w_seq ?_
  refine w_reg fun all => ?_
  obtain ⟨u_, h6, e⟩ := bind_of e
  refine t_qz 1 [1, 5] (σ' := [(1, .slice (some ⟨b1, 0, none⟩) 1 1), (5, .agg #[.int .i64 0, .int .i64 0])]) (by kernel_rfl) ?_
  refine t_v (.call (vs := [.slice none 0 0, .int .i64 5, .agg #[.int .i64 0, .int .i64 0]]) rfl rfl (by kernel_rfl) (stroke_Near_v1.ok h6)) ?_
  obtain ⟨u_, h34, e⟩ := bind_of e
  refine t_qz 4 [8, 9, 10] (σ' := [(8, .bool true), (9, .slice (some ⟨b1, 0, none⟩) 1 1), (10, .agg #[.int .i64 1, .int .i64 1])]) (by kernel_rfl) ?_
  refine t_v (.callr (vs := [.slice (some ⟨b1, 0, none⟩) 1 1, .int .i64 2, .agg #[.int .i64 1, .int .i64 1]]) (A := ([⟨b1, [.int .i64 0, .int .i64 0, .int .i64 5, .int .i64 0], 4⟩] : List Own)) (F0 := ([] : List Own)) rfl rfl (by kernel_rfl) (sel_perm (is := [0]) (by kernel_rfl)) (stroke_Near_v2.ok h34)) ?_
  refine t_qz 2 [0] (σ' := [(0, .bool true)]) (by kernel_rfl) ?_
  refine t_end ?_
  show W _ _ _ _ _ _ _
  refine w_ret ?_
  obtain rfl := Option.some.inj e
  exact ⟨[.bool true], [], S, ⟨rfl, trivial⟩, VS.none, rfl, rfl, rfl⟩

/-- glyphicworld.Number -/
def c44 : C :=
  (.seq (.reg [⟨(some 4), .mv (.const (.int .i64 0)), none⟩])
  (.seq (.reg [⟨(some 6), .mv (.tmp 0), none⟩,
     ⟨(some 7), .mv (.tmp 1), none⟩,
     ⟨(some 8), .bin .rem (.tmp 6) (.tmp 7), none⟩,
     ⟨(some 5), .mv (.tmp 8), none⟩])
  (.seq (.seq (.reg [⟨(some 9), .mv (.tmp 5), none⟩,
      ⟨(some 10), .bin .lss (.tmp 9) (.const (.int .i64 0)), none⟩])
   (.cond (.tmp 10)
    (.reg [⟨(some 11), .mv (.tmp 5), none⟩,
       ⟨(some 12), .mv (.tmp 1), none⟩,
       ⟨(some 13), .bin .add (.tmp 11) (.tmp 12), none⟩,
       ⟨(some 5), .mv (.tmp 13), none⟩])
    .skip))
  (.seq (.reg [⟨(some 14), .mv (.tmp 5), none⟩,
     ⟨(some 4), .mv (.tmp 14), none⟩])
  .ret))))
def glyphicworld_Number.f (n0 : Int) (below1 : Int) : Option (Int) := if below1 = 0 then none else (if (Int.tmod n0 below1) < 0 then (some (wr64 ((Int.tmod n0 below1) + below1))) else (some (Int.tmod n0 below1)))
theorem glyphicworld_Number.ok {S : Seal} {n0 : Int} {below1 : Int} {r0_ : Int}(e : glyphicworld_Number.f n0 below1 = some r0_) :
    Cal Try.prog 44 [.int .i64 n0, .int .i64 below1] [] S fun v H' S' => v = .int .i64 r0_ ∧ H' = [] ∧ S' = S := by
  unfold glyphicworld_Number.f at e
  refine cal_of (c := c44) (N := 15) Try.func44 rfl rfl (by kernel_rfl) (rs := [.t 4]) (by kernel_rfl) (Nat.le_of_ble_eq_true rfl) ?_
  unfold c44
  refine w_seq ?_
  refine w_reg fun all => ?_
  refine t_qz 1 [0, 1] (σ' := [(0, .int .i64 n0), (1, .int .i64 below1)]) (by kernel_rfl) ?_
  refine t_end ?_
  show W _ _ _ _ _ _ _
  refine w_seq ?_
  refine w_reg fun all => ?_
  have c63 : ¬ below1 = 0 := by
    intro h_; rw [if_pos h_] at e; cases e
  rw [if_neg c63] at e
  refine t_qz 2 [1, 6, 7] (σ' := [(1, .int .i64 below1), (6, .int .i64 n0), (7, .int .i64 below1)]) (by kernel_rfl) ?_
  refine t_v (.quiet rfl (qv_rem rfl rfl c63)) ?_
  refine t_qz 1 [1, 5] (σ' := [(1, .int .i64 below1), (5, .int .i64 (Int.tmod n0 below1))]) (by kernel_rfl) ?_
  refine t_end ?_
  show W _ _ _ _ _ _ _
  refine w_seq ?_
  refine w_seq ?_
  refine w_reg fun all => ?_
  by_cases c64 : (Int.tmod n0 below1) < 0
  · rw [if_pos c64] at e
    have c64b : (decide ((Int.tmod n0 below1) < 0)) = true := decide_eq_true c64
    refine t_qz 1 [1, 5, 9] (σ' := [(1, .int .i64 below1), (5, .int .i64 (Int.tmod n0 below1)), (9, .int .i64 (Int.tmod n0 below1))]) (by kernel_rfl) ?_
    refine t_v (dv_quiet rfl (congrArg (fun t => some (Value.bool t)) c64b)) ?_
    refine t_keep [1, 5, 10] (σ' := [(1, .int .i64 below1), (5, .int .i64 (Int.tmod n0 below1)), (10, .bool true)]) (by kernel_rfl) ?_
    refine t_end ?_
    show W _ _ _ _ _ _ _
    refine w_cond rfl (fun _ => ?_) (fun c_ => by cases c_)
    show W _ _ _ _ _ _ _
    refine w_reg fun all => ?_
    refine t_qz 4 [5] (σ' := [(5, .int .i64 (wr64 ((Int.tmod n0 below1) + below1)))]) (by kernel_rfl) ?_
    refine t_end ?_
    show W _ _ _ _ _ _ _
    refine w_seq ?_
    refine w_reg fun all => ?_
    refine t_qz 2 [4] (σ' := [(4, .int .i64 (wr64 ((Int.tmod n0 below1) + below1)))]) (by kernel_rfl) ?_
    refine t_end ?_
    show W _ _ _ _ _ _ _
    refine w_ret ?_
    obtain rfl := Option.some.inj e
    exact ⟨[.int .i64 (wr64 ((Int.tmod n0 below1) + below1))], [], S, ⟨rfl, trivial⟩, VS.none, rfl, rfl, rfl⟩
  · rw [if_neg c64] at e
    have c64b : (decide ((Int.tmod n0 below1) < 0)) = false := decide_eq_false c64
    refine t_qz 1 [1, 5, 9] (σ' := [(1, .int .i64 below1), (5, .int .i64 (Int.tmod n0 below1)), (9, .int .i64 (Int.tmod n0 below1))]) (by kernel_rfl) ?_
    refine t_v (dv_quiet rfl (congrArg (fun t => some (Value.bool t)) c64b)) ?_
    refine t_keep [1, 5, 10] (σ' := [(1, .int .i64 below1), (5, .int .i64 (Int.tmod n0 below1)), (10, .bool false)]) (by kernel_rfl) ?_
    refine t_end ?_
    show W _ _ _ _ _ _ _
    refine w_cond rfl (fun c_ => by cases c_) (fun _ => ?_)
    show W _ _ _ _ _ _ _
    refine w_skip ?_
    show W _ _ _ _ _ _ _
    refine w_seq ?_
    refine w_reg fun all => ?_
    refine t_qz 2 [4] (σ' := [(4, .int .i64 (Int.tmod n0 below1))]) (by kernel_rfl) ?_
    refine t_end ?_
    show W _ _ _ _ _ _ _
    refine w_ret ?_
    obtain rfl := Option.some.inj e
    exact ⟨[.int .i64 (Int.tmod n0 below1)], [], S, ⟨rfl, trivial⟩, VS.none, rfl, rfl, rfl⟩

/-- (*glyphicmake.Seq).Next -/
def c37 : C :=
  (.seq (.reg [⟨(some 4), .mv (.const (.int .i64 0)), none⟩])
  (.seq (.reg [⟨(some 5), .mv (.const (.int .i64 0)), none⟩])
  (.seq (.seq (.drw [⟨(some 6), .mv (.tmp 0), none⟩,
      ⟨(some 7), .nck (.tmp 6), none⟩,
      ⟨(some 8), .pad 1 (.tmp 7), none⟩,
      ⟨(some 9), .ld none (.tmp 8), none⟩,
      ⟨(some 10), .mv (.tmp 0), none⟩,
      ⟨(some 11), .nck (.tmp 10), none⟩,
      ⟨(some 12), .pad 0 (.tmp 11), none⟩,
      ⟨(some 13), .ld none (.tmp 12), none⟩,
      ⟨(some 14), .lns (.tmp 13), none⟩,
      ⟨(some 15), .bin .lss (.tmp 9) (.tmp 14), none⟩] [[], [0], [1], [2], [], [4], [5], [6], [7], [3, 8]])
   (.cond (.tmp 15)
    (.drw [⟨(some 16), .mv (.tmp 0), none⟩,
       ⟨(some 17), .nck (.tmp 16), none⟩,
       ⟨(some 18), .pad 0 (.tmp 17), none⟩,
       ⟨(some 19), .ld none (.tmp 18), none⟩,
       ⟨(some 20), .mv (.tmp 0), none⟩,
       ⟨(some 21), .nck (.tmp 20), none⟩,
       ⟨(some 22), .pad 1 (.tmp 21), none⟩,
       ⟨(some 23), .ld none (.tmp 22), none⟩,
       ⟨(some 24), .ixs 1 (.tmp 19) (.tmp 23), none⟩,
       ⟨(some 25), .ld none (.tmp 24), none⟩,
       ⟨(some 5), .mv (.tmp 25), none⟩] [[], [0], [1], [2], [], [4], [5], [6], [3, 7], [8], [9, 0, 1, 2, 3, 4, 5, 6, 7, 8, 9]])
    .skip))
  (.seq (.reg [⟨(some 26), .mv (.tmp 0), none⟩,
     ⟨(some 27), .mv (.tmp 0), none⟩,
     ⟨(some 28), .nck (.tmp 27), none⟩,
     ⟨(some 29), .pad 1 (.tmp 28), none⟩,
     ⟨(some 30), .ld none (.tmp 29), none⟩,
     ⟨(some 31), .bin .add (.tmp 30) (.const (.int .i64 1)), none⟩,
     ⟨(some 32), .nck (.tmp 26), none⟩,
     ⟨(some 33), .pad 1 (.tmp 32), none⟩,
     ⟨none, .st 1 (.tmp 33) (.tmp 31), none⟩])
  (.seq (.reg [⟨(some 34), .mv (.tmp 5), none⟩,
     ⟨(some 35), .mv (.tmp 1), none⟩,
     ⟨(some 36), .call 44 [(.tmp 34), (.tmp 35)], none⟩,
     ⟨(some 4), .mv (.tmp 36), none⟩])
  .ret)))))
def glyphicmake_Seq_Next_v1.f (below1 : Int) (m0_0 : List (Int)) (m0_1 : Int) : Option (Int × Int) := (if m0_1 < (m0_0.length : Int) then ((lgt m0_0 m0_1).bind fun x71 => (some x71)) else (some 0) : Option (Int)).bind fun x81 => ((glyphicworld_Number.f x81 below1).bind fun t82 => (some (t82, wr64 (m0_1 + 1))))
theorem glyphicmake_Seq_Next_v1.ok {S : Seal} {B0 : Nat} {below1 : Int} {m0_0 : List (Int)} {m0_1 : Int} {r0_ : Int} {r1_ : Int}{a_m0_0 : Option Addr} {c_m0_0 : Nat} (h_m0_0 : SlE S E_i64 m0_0 a_m0_0) (e : glyphicmake_Seq_Next_v1.f below1 m0_0 m0_1 = some (r0_, r1_)) :
    Cal Try.prog 37 [.pointer (some ⟨B0, 0, none⟩), .int .i64 below1] ([⟨B0, [.slice a_m0_0 m0_0.length c_m0_0, .int .i64 m0_1], 2⟩] : List Own) S fun v H' S' => v = .int .i64 r0_ ∧ H' = ([⟨B0, [.slice a_m0_0 m0_0.length c_m0_0, .int .i64 r1_], 2⟩] : List Own) ∧ S' = S := by
  unfold glyphicmake_Seq_Next_v1.f at e
  refine cal_of (c := c37) (N := 37) Try.func37 rfl rfl (by kernel_rfl) (rs := [.t 4]) (by kernel_rfl) (Nat.le_of_ble_eq_true rfl) ?_
  unfold c37
  refine w_seq ?_
  refine w_reg fun all => ?_
  refine t_qz 1 [0, 1] (σ' := [(0, .pointer (some ⟨B0, 0, none⟩)), (1, .int .i64 below1)]) (by kernel_rfl) ?_
  refine t_end ?_
  show W _ _ _ _ _ _ _
  refine w_seq ?_
  refine w_reg fun all => ?_
  refine t_qz 1 [0, 1, 5] (σ' := [(0, .pointer (some ⟨B0, 0, none⟩)), (1, .int .i64 below1), (5, .int .i64 0)]) (by kernel_rfl) ?_
  refine t_end ?_
  show W _ _ _ _ _ _ _
  obtain ⟨x81, e68, e⟩ := bind_of e
  refine w_cut [0, 1, 5] (fun σ_ H_ S_ => [(0, .pointer (some ⟨B0, 0, none⟩)), (1, .int .i64 below1), (5, .int .i64 x81)] = σ_ ∧ ([⟨B0, [.slice a_m0_0 m0_0.length c_m0_0, .int .i64 m0_1], 2⟩] : List Own) = H_ ∧ S = S_) ?_ ?_
  · show W _ _ _ _ _ _ _
    refine w_seq ?_
    by_cases c70 : m0_1 < (m0_0.length : Int)
    · rw [if_pos c70] at e68
      have c70b : (decide (m0_1 < (m0_0.length : Int))) = true := decide_eq_true c70
      refine w_drwE mixed 10 [.v (.pointer (some ⟨B0, 0, none⟩)), .v (.pointer (some ⟨B0, 0, none⟩)), .v (.pointer (some ⟨B0, 1, none⟩)), .v (.int .i64 m0_1), .v (.pointer (some ⟨B0, 0, none⟩)), .v (.pointer (some ⟨B0, 0, none⟩)), .v (.pointer (some ⟨B0, 0, none⟩)), .v (.slice a_m0_0 m0_0.length c_m0_0), .v (.int .i64 (m0_0.length : Int)), .v (.bool true)] (by kernel_rfl) ?_ ?_
      · refine DI.sq 3 (by kernel_rfl) rfl ?_
        refine .cons (.ld1 rfl rfl rfl (.at 0 rfl rfl)) ?_
        refine DI.sq 3 (by kernel_rfl) rfl ?_
        refine .cons (.ld1 rfl rfl rfl (.at 0 rfl rfl)) ?_
        refine DI.sq 1 (by kernel_rfl) rfl ?_
        refine .cons (dv_quiet rfl (congrArg (fun t => some (Value.bool t)) c70b)) ?_
        exact .nil
      refine fk_q 10 [0, 1, 5, 15] (σ' := [(0, .pointer (some ⟨B0, 0, none⟩)), (1, .int .i64 below1), (5, .int .i64 0), (15, .bool true)]) t_more (by kernel_rfl) ?_
      refine fk_nil fun all => ?_
      refine t_keep [0, 1, 5, 15] (σ' := [(0, .pointer (some ⟨B0, 0, none⟩)), (1, .int .i64 below1), (5, .int .i64 0), (15, .bool true)]) (by kernel_rfl) ?_
      refine t_end ?_
      show W _ _ _ _ _ _ _
      refine w_cond rfl (fun _ => ?_) (fun c_ => by cases c_)
      show W _ _ _ _ _ _ _
      obtain ⟨x71, hx72, e68⟩ := bind_of e68
      obtain ⟨lb73, lo74, ll75, la76, lS77, lv78, lz79, lu80⟩ := sle_get (E := E_i64) h_m0_0 hx72
      refine w_drwE mixed 11 [.v (.pointer (some ⟨B0, 0, none⟩)), .v (.pointer (some ⟨B0, 0, none⟩)), .v (.pointer (some ⟨B0, 0, none⟩)), .v (.slice a_m0_0 m0_0.length c_m0_0), .v (.pointer (some ⟨B0, 0, none⟩)), .v (.pointer (some ⟨B0, 0, none⟩)), .v (.pointer (some ⟨B0, 1, none⟩)), .v (.int .i64 m0_1), .v (.pointer (some ⟨lb73, lo74 + (m0_1).toNat * 1 + 0, none⟩)), .v (.int .i64 x71), .v (.int .i64 x71)] (by kernel_rfl) ?_ ?_
      · refine DI.sq 3 (by kernel_rfl) rfl ?_
        refine .cons (.ld1 rfl rfl rfl (.at 0 rfl rfl)) ?_
        refine DI.sq 3 (by kernel_rfl) rfl ?_
        refine .cons (.ld1 rfl rfl rfl (.at 0 rfl rfl)) ?_
        refine .cons (.quiet rfl (ixs_sle rfl rfl la76 lz79 lu80)) ?_
        refine .cons (.ld1 rfl rfl rfl (.sealed lS77 (subl_at lv78 rfl))) ?_
        refine DI.sq 1 (by kernel_rfl) rfl ?_
        exact .nil
      refine fk_q 11 [0, 1, 5] (σ' := [(0, .pointer (some ⟨B0, 0, none⟩)), (1, .int .i64 below1), (5, .int .i64 x71)]) t_more (by kernel_rfl) ?_
      refine fk_nil fun all => ?_
      refine t_keep [0, 1, 5] (σ' := [(0, .pointer (some ⟨B0, 0, none⟩)), (1, .int .i64 below1), (5, .int .i64 x71)]) (by kernel_rfl) ?_
      refine t_end ?_
      obtain rfl := Option.some.inj e68
      exact ⟨([⟨B0, [.slice a_m0_0 m0_0.length c_m0_0, .int .i64 m0_1], 2⟩] : List Own), S, VS.sel [0] (by kernel_rfl), by kernel_rfl, rfl, rfl⟩
    · rw [if_neg c70] at e68
      have c70b : (decide (m0_1 < (m0_0.length : Int))) = false := decide_eq_false c70
      refine w_drwE mixed 10 [.v (.pointer (some ⟨B0, 0, none⟩)), .v (.pointer (some ⟨B0, 0, none⟩)), .v (.pointer (some ⟨B0, 1, none⟩)), .v (.int .i64 m0_1), .v (.pointer (some ⟨B0, 0, none⟩)), .v (.pointer (some ⟨B0, 0, none⟩)), .v (.pointer (some ⟨B0, 0, none⟩)), .v (.slice a_m0_0 m0_0.length c_m0_0), .v (.int .i64 (m0_0.length : Int)), .v (.bool false)] (by kernel_rfl) ?_ ?_
      · refine DI.sq 3 (by kernel_rfl) rfl ?_
        refine .cons (.ld1 rfl rfl rfl (.at 0 rfl rfl)) ?_
        refine DI.sq 3 (by kernel_rfl) rfl ?_
        refine .cons (.ld1 rfl rfl rfl (.at 0 rfl rfl)) ?_
        refine DI.sq 1 (by kernel_rfl) rfl ?_
        refine .cons (dv_quiet rfl (congrArg (fun t => some (Value.bool t)) c70b)) ?_
        exact .nil
      refine fk_q 10 [0, 1, 5, 15] (σ' := [(0, .pointer (some ⟨B0, 0, none⟩)), (1, .int .i64 below1), (5, .int .i64 0), (15, .bool false)]) t_more (by kernel_rfl) ?_
      refine fk_nil fun all => ?_
      refine t_keep [0, 1, 5, 15] (σ' := [(0, .pointer (some ⟨B0, 0, none⟩)), (1, .int .i64 below1), (5, .int .i64 0), (15, .bool false)]) (by kernel_rfl) ?_
      refine t_end ?_
      show W _ _ _ _ _ _ _
      refine w_cond rfl (fun c_ => by cases c_) (fun _ => ?_)
      show W _ _ _ _ _ _ _
      refine w_skip ?_
      obtain rfl := Option.some.inj e68
      exact ⟨([⟨B0, [.slice a_m0_0 m0_0.length c_m0_0, .int .i64 m0_1], 2⟩] : List Own), S, VS.sel [0] (by kernel_rfl), by kernel_rfl, rfl, rfl⟩
  · rintro σ_ H_ S_ ⟨rfl, rfl, rfl⟩
    refine w_seq ?_
    refine w_reg fun all => ?_
    refine t_qz 4 [1, 5, 26, 29] (σ' := [(1, .int .i64 below1), (5, .int .i64 x81), (26, .pointer (some ⟨B0, 0, none⟩)), (29, .pointer (some ⟨B0, 1, none⟩))]) (by kernel_rfl) ?_
    refine t_v (.ld1 rfl rfl rfl (.at 0 rfl rfl)) ?_
    refine t_qz 3 [1, 5, 31, 33] (σ' := [(1, .int .i64 below1), (5, .int .i64 x81), (31, .int .i64 (wr64 (m0_1 + 1))), (33, .pointer (some ⟨B0, 1, none⟩))]) (by kernel_rfl) ?_
    refine t_sti 0 (cs := [.slice a_m0_0 m0_0.length c_m0_0, .int .i64 (wr64 (m0_1 + 1))]) rfl rfl rfl rfl rfl rfl rfl rfl rfl ?_
    refine t_keep [1, 5] (σ' := [(1, .int .i64 below1), (5, .int .i64 x81)]) (by kernel_rfl) ?_
    refine t_end ?_
    show W _ _ _ _ _ _ _
    refine w_seq ?_
    refine w_reg fun all => ?_
    obtain ⟨t82, h83, e⟩ := bind_of e
    refine t_qz 2 [34, 35] (σ' := [(34, .int .i64 x81), (35, .int .i64 below1)]) (by kernel_rfl) ?_
    refine t_v (.call (vs := [.int .i64 x81, .int .i64 below1]) rfl rfl (by kernel_rfl) (glyphicworld_Number.ok h83)) ?_
    refine t_qz 1 [4] (σ' := [(4, .int .i64 t82)]) (by kernel_rfl) ?_
    refine t_end ?_
    show W _ _ _ _ _ _ _
    refine w_ret ?_
    simp only [Option.some.injEq, Prod.mk.injEq] at e
    obtain ⟨rfl, rfl⟩ := e
    exact ⟨[.int .i64 t82], ([⟨B0, [.slice a_m0_0 m0_0.length c_m0_0, .int .i64 (wr64 (m0_1 + 1))], 2⟩] : List Own), S, ⟨rfl, trivial⟩, VS.sel [0] (by kernel_rfl), rfl, rfl, rfl⟩

/-- glyphicmake.Point -/
def c18 : C :=
  (.seq (.reg [⟨(some 4), .new [(.int .i64 0), (.int .i64 0)], none⟩])
  (.seq (.reg [⟨(some 6), .mv (.tmp 0), none⟩,
     ⟨(some 7), .mv (.tmp 1), none⟩,
     ⟨(some 8), .bin .mul (.const (.int .i64 2)) (.tmp 7), none⟩,
     ⟨(some 9), .bin .add (.tmp 8) (.const (.int .i64 1)), none⟩,
     ⟨(some 10), .call 37 [(.tmp 6), (.tmp 9)], none⟩,
     ⟨(some 11), .mv (.tmp 1), none⟩,
     ⟨(some 12), .bin .sub (.tmp 10) (.tmp 11), none⟩,
     ⟨(some 5), .mv (.tmp 12), none⟩])
  (.seq (.reg [⟨(some 13), .mv (.tmp 5), none⟩,
     ⟨(some 14), .mv (.tmp 0), none⟩,
     ⟨(some 15), .mv (.tmp 1), none⟩,
     ⟨(some 16), .bin .mul (.const (.int .i64 2)) (.tmp 15), none⟩,
     ⟨(some 17), .bin .add (.tmp 16) (.const (.int .i64 1)), none⟩,
     ⟨(some 18), .call 37 [(.tmp 14), (.tmp 17)], none⟩,
     ⟨(some 19), .mv (.tmp 1), none⟩,
     ⟨(some 20), .bin .sub (.tmp 18) (.tmp 19), none⟩,
     ⟨(some 21), .bld [(.int .i64 0), (.int .i64 0)] [(0, 1, (.tmp 13)), (1, 1, (.tmp 20))], none⟩,
     ⟨none, .st 2 (.tmp 4) (.tmp 21), none⟩])
  .ret)))
def glyphicmake_Point_v1.f (far1 : Int) (m0_0 : List (Int)) (m0_1 : Int) : Option (Int × Int × Int) := (glyphicmake_Seq_Next_v1.f (wr64 ((wr64 (2 * far1)) + 1)) m0_0 m0_1).bind fun (t99, t100) => ((glyphicmake_Seq_Next_v1.f (wr64 ((wr64 (2 * far1)) + 1)) m0_0 t100).bind fun (t102, t103) => (some (wr64 (t99 - far1), wr64 (t102 - far1), t103)))
theorem glyphicmake_Point_v1.ok {S : Seal} {B0 : Nat} {far1 : Int} {m0_0 : List (Int)} {m0_1 : Int} {r0_ : Int} {r1_ : Int} {r2_ : Int}{a_m0_0 : Option Addr} {c_m0_0 : Nat} (h_m0_0 : SlE S E_i64 m0_0 a_m0_0) (e : glyphicmake_Point_v1.f far1 m0_0 m0_1 = some (r0_, r1_, r2_)) :
    Cal Try.prog 18 [.pointer (some ⟨B0, 0, none⟩), .int .i64 far1] ([⟨B0, [.slice a_m0_0 m0_0.length c_m0_0, .int .i64 m0_1], 2⟩] : List Own) S fun v H' S' => v = .agg #[.int .i64 r0_, .int .i64 r1_] ∧ H' = ([⟨B0, [.slice a_m0_0 m0_0.length c_m0_0, .int .i64 r2_], 2⟩] : List Own) ∧ S' = S := by
  unfold glyphicmake_Point_v1.f at e
  refine cal_of (c := c18) (N := 22) Try.func18 rfl rfl (by kernel_rfl) (rs := [.cn 2 4]) (by kernel_rfl) (Nat.le_of_ble_eq_true rfl) ?_
  unfold c18
  refine w_seq ?_
  refine w_reg fun all => ?_
  refine t_a (.new rfl rfl) fun b98 fb98 sb98 => ?_
  refine t_keep [0, 1, 4] (σ' := [(0, .pointer (some ⟨B0, 0, none⟩)), (1, .int .i64 far1), (4, .pointer (some ⟨b98, 0, none⟩))]) (by kernel_rfl) ?_
  refine t_end ?_
  show W _ _ _ _ _ _ _
  refine w_seq ?_
  refine w_reg fun all => ?_
  obtain ⟨⟨t99, t100⟩, h101, e⟩ := bind_of e
  try dsimp only at e
  refine t_qz 4 [0, 1, 4, 6, 9] (σ' := [(0, .pointer (some ⟨B0, 0, none⟩)), (1, .int .i64 far1), (4, .pointer (some ⟨b98, 0, none⟩)), (6, .pointer (some ⟨B0, 0, none⟩)), (9, .int .i64 (wr64 ((wr64 (2 * far1)) + 1)))]) (by kernel_rfl) ?_
  refine t_call (vs := [.pointer (some ⟨B0, 0, none⟩), .int .i64 (wr64 ((wr64 (2 * far1)) + 1))]) (H1 := ([⟨B0, [.slice a_m0_0 m0_0.length c_m0_0, .int .i64 m0_1], 2⟩] : List Own)) (F := ([⟨b98, [.int .i64 0, .int .i64 0], 2⟩] : List Own)) rfl rfl (by kernel_rfl) (sel_perm (is := [1]) (by kernel_rfl)) (glyphicmake_Seq_Next_v1.ok h_m0_0 h101) ?_
  rintro _ _ S_ ⟨rfl, rfl, hS_⟩
  obtain rfl := hS_.symm
  refine t_qz 3 [0, 1, 4, 5] (σ' := [(0, .pointer (some ⟨B0, 0, none⟩)), (1, .int .i64 far1), (4, .pointer (some ⟨b98, 0, none⟩)), (5, .int .i64 (wr64 (t99 - far1)))]) (by kernel_rfl) ?_
  refine t_end ?_
  show W _ _ _ _ _ _ _
  refine w_seq ?_
  refine w_reg fun all => ?_
  obtain ⟨⟨t102, t103⟩, h104, e⟩ := bind_of e
  try dsimp only at e
  refine t_qz 5 [1, 4, 13, 14, 17] (σ' := [(1, .int .i64 far1), (4, .pointer (some ⟨b98, 0, none⟩)), (13, .int .i64 (wr64 (t99 - far1))), (14, .pointer (some ⟨B0, 0, none⟩)), (17, .int .i64 (wr64 ((wr64 (2 * far1)) + 1)))]) (by kernel_rfl) ?_
  refine t_call (vs := [.pointer (some ⟨B0, 0, none⟩), .int .i64 (wr64 ((wr64 (2 * far1)) + 1))]) (H1 := ([⟨B0, [.slice a_m0_0 m0_0.length c_m0_0, .int .i64 t100], 2⟩] : List Own)) (F := ([⟨b98, [.int .i64 0, .int .i64 0], 2⟩] : List Own)) rfl rfl (by kernel_rfl) (sel_perm (is := [0]) (by kernel_rfl)) (glyphicmake_Seq_Next_v1.ok h_m0_0 h104) ?_
  rintro _ _ S_ ⟨rfl, rfl, hS_⟩
  obtain rfl := hS_.symm
  refine t_qz 3 [4, 21] (σ' := [(4, .pointer (some ⟨b98, 0, none⟩)), (21, .agg #[.int .i64 (wr64 (t99 - far1)), .int .i64 (wr64 (t102 - far1))])]) (by kernel_rfl) ?_
  refine t_sti 1 (cs := [.int .i64 (wr64 (t99 - far1)), .int .i64 (wr64 (t102 - far1))]) rfl rfl rfl rfl rfl rfl rfl rfl rfl ?_
  refine t_keep [4] (σ' := [(4, .pointer (some ⟨b98, 0, none⟩))]) (by kernel_rfl) ?_
  refine t_end ?_
  show W _ _ _ _ _ _ _
  refine w_ret ?_
  simp only [Option.some.injEq, Prod.mk.injEq] at e
  obtain ⟨rfl, rfl, rfl⟩ := e
  exact ⟨[.agg #[.int .i64 (wr64 (t99 - far1)), .int .i64 (wr64 (t102 - far1))]], ([⟨B0, [.slice a_m0_0 m0_0.length c_m0_0, .int .i64 t103], 2⟩] : List Own), S, ⟨⟨_, _, _, rfl, .at 1 rfl rfl, rfl⟩, trivial⟩, VS.sel [0] (by kernel_rfl), rfl, rfl, rfl⟩

/-- glyphicmake.Edges -/
def c17 : C :=
  (.seq (.reg [⟨(some 6), .mv (.const (.slice none 0 0)), none⟩])
  (.seq (.reg [⟨(some 7), .mv (.const (.slice none 0 0)), none⟩])
  (.seq (.seq (.reg [⟨(some 10), .mv (.tmp 0), none⟩,
      ⟨(some 11), .mv (.tmp 1), none⟩,
      ⟨(some 12), .bin .add (.tmp 11) (.const (.int .i64 1)), none⟩,
      ⟨(some 13), .call 37 [(.tmp 10), (.tmp 12)], none⟩,
      ⟨(some 8), .mv (.tmp 13), none⟩])
   (.block 0 (.loop (.seq (.seq (.reg [⟨(some 14), .mv (.tmp 8), none⟩,
         ⟨(some 15), .bin .gtr (.tmp 14) (.const (.int .i64 0)), none⟩])
      (.cond (.tmp 15)
       .skip
       (.exit 0)))
     (.seq (.block 1 (.seq (.reg [⟨(some 18), .mv (.tmp 0), none⟩,
          ⟨(some 19), .mv (.tmp 2), none⟩,
          ⟨(some 20), .call 18 [(.tmp 18), (.tmp 19)], none⟩,
          ⟨(some 9), .new [(.int .i64 0), (.int .i64 0)], none⟩,
          ⟨none, .st 2 (.tmp 9) (.tmp 20), none⟩])
       (.drw [⟨(some 21), .mv (.tmp 7), none⟩,
         ⟨(some 22), .ld (some 2) (.tmp 9), none⟩,
         ⟨(some 23), .mv (.tmp 0), none⟩,
         ⟨(some 24), .mv (.tmp 2), none⟩,
         ⟨(some 25), .call 18 [(.tmp 23), (.tmp 24)], none⟩,
         ⟨(some 26), .bld [(.int .i64 0), (.int .i64 0), (.int .i64 0), (.int .i64 0)] [(0, 2, (.tmp 22)), (2, 2, (.tmp 25))], none⟩,
         ⟨(some 27), .bsl [(.int .i64 0), (.int .i64 0), (.int .i64 0), (.int .i64 0)] 1 [(0, 4, (.tmp 26))], none⟩,
         ⟨(some 28), .app 36 4 32 [(.int .i64 0), (.int .i64 0), (.int .i64 0), (.int .i64 0)] (.tmp 21) (.tmp 27), none⟩,
         ⟨(some 7), .mv (.tmp 28), none⟩] [[], [], [], [], [2, 3], [1, 4], [5], [0, 6, 4], [7, 7, 0, 1, 2, 3, 4, 5, 6, 7]])))
     (.reg [⟨(some 16), .mv (.tmp 8), none⟩,
       ⟨(some 17), .bin .sub (.tmp 16) (.const (.int .i64 1)), none⟩,
       ⟨(some 8), .mv (.tmp 17), none⟩]))))))
  (.seq (.reg [⟨(some 29), .mv (.tmp 7), none⟩,
     ⟨(some 6), .mv (.tmp 29), none⟩])
  .ret))))
def glyphicmake_Edges_v1.l0 : Nat → Int → List (Int) → Int → List (Int × Int × Int × Int) → Int → Option (List (Int × Int × Int × Int) × Int)
  | 0, _, _, _, _, _ => none
  | k + 1, far2, m0_0, x116, y118, x119 => if x116 > 0 then ((glyphicmake_Point_v1.f far2 m0_0 x119).bind fun (t121, t122, t123) => ((glyphicmake_Point_v1.f far2 m0_0 t123).bind fun (t126, t127, t128) => ((lapp y118 ([(t121, t122, t126, t127)] : List (Int × Int × Int × Int))).bind fun y131 => (glyphicmake_Edges_v1.l0 k far2 m0_0 (wr64 (x116 - 1)) y131 t128)))) else (some (y118, x119))
def glyphicmake_Edges_v1.f (k : Nat) (most1 : Int) (far2 : Int) (m0_0 : List (Int)) (m0_1 : Int) : Option (List (Int × Int × Int × Int) × Int) := ((glyphicmake_Seq_Next_v1.f (wr64 (most1 + 1)) m0_0 m0_1).bind fun (t113, t114) => (glyphicmake_Edges_v1.l0 k far2 m0_0 t113 ([] : List (Int × Int × Int × Int)) t114) : Option (List (Int × Int × Int × Int) × Int)).bind fun (y137, x138) => (some (y137, x138))
theorem glyphicmake_Edges_v1.ok {S : Seal} {B0 : Nat} {k : Nat} {most1 : Int} {far2 : Int} {m0_0 : List (Int)} {m0_1 : Int} {r0_ : List (Int × Int × Int × Int)} {r1_ : Int}{a_m0_0 : Option Addr} {c_m0_0 : Nat} (h_m0_0 : SlE S E_i64 m0_0 a_m0_0) (e : glyphicmake_Edges_v1.f k most1 far2 m0_0 m0_1 = some (r0_, r1_)) :
    Cal Try.prog 17 [.pointer (some ⟨B0, 0, none⟩), .int .i64 most1, .int .i64 far2] ([⟨B0, [.slice a_m0_0 m0_0.length c_m0_0, .int .i64 m0_1], 2⟩] : List Own) S fun v H' S' => ∃ (N0_ : Option Nat) (nN0_ : Nat) , v = .slice (ad N0_) r0_.length (nN0_ / 4) ∧ H' = ([⟨N0_, encL E_i644 r0_, nN0_⟩, ⟨B0, [.slice a_m0_0 m0_0.length c_m0_0, .int .i64 r1_], 2⟩] : List Own) ∧ S' = S := by
  unfold glyphicmake_Edges_v1.f at e
  refine cal_of (c := c17) (N := 30) Try.func17 rfl rfl (by kernel_rfl) (rs := [.t 6]) (by kernel_rfl) (Nat.le_of_ble_eq_true rfl) ?_
  unfold c17
  refine w_seq ?_
  refine w_reg fun all => ?_
  refine t_qz 1 [0, 1, 2] (σ' := [(0, .pointer (some ⟨B0, 0, none⟩)), (1, .int .i64 most1), (2, .int .i64 far2)]) (by kernel_rfl) ?_
  refine t_end ?_
  show W _ _ _ _ _ _ _
  refine w_seq ?_
  refine w_reg fun all => ?_
  refine t_qz 1 [0, 1, 2, 7] (σ' := [(0, .pointer (some ⟨B0, 0, none⟩)), (1, .int .i64 most1), (2, .int .i64 far2), (7, .slice none 0 0)]) (by kernel_rfl) ?_
  refine t_end ?_
  show W _ _ _ _ _ _ _
  obtain ⟨⟨y137, x138⟩, e111, e⟩ := bind_of e
  try dsimp only at e
  refine w_cut [7] (fun σ_ H_ S_ => ∃ (a136 : Option Nat) (na136 : Nat), [(7, .slice (ad a136) y137.length (na136 / 4))] = σ_ ∧ ([⟨B0, [.slice a_m0_0 m0_0.length c_m0_0, .int .i64 x138], 2⟩, ⟨a136, encL E_i644 y137, na136⟩] : List Own) = H_ ∧ S = S_) ?_ ?_
  · show W _ _ _ _ _ _ _
    refine w_seq ?_
    refine w_reg fun all => ?_
    obtain ⟨⟨t113, t114⟩, h115, e111⟩ := bind_of e111
    try dsimp only at e111
    refine t_qz 3 [0, 2, 7, 10, 12] (σ' := [(0, .pointer (some ⟨B0, 0, none⟩)), (2, .int .i64 far2), (7, .slice none 0 0), (10, .pointer (some ⟨B0, 0, none⟩)), (12, .int .i64 (wr64 (most1 + 1)))]) (by kernel_rfl) ?_
    refine t_call (vs := [.pointer (some ⟨B0, 0, none⟩), .int .i64 (wr64 (most1 + 1))]) (H1 := ([⟨B0, [.slice a_m0_0 m0_0.length c_m0_0, .int .i64 m0_1], 2⟩] : List Own)) (F := ([] : List Own)) rfl rfl (by kernel_rfl) (sel_perm (is := [0]) (by kernel_rfl)) (glyphicmake_Seq_Next_v1.ok h_m0_0 h115) ?_
    rintro _ _ S_ ⟨rfl, rfl, hS_⟩
    obtain rfl := hS_.symm
    refine t_qz 1 [0, 2, 7, 8] (σ' := [(0, .pointer (some ⟨B0, 0, none⟩)), (2, .int .i64 far2), (7, .slice none 0 0), (8, .int .i64 t113)]) (by kernel_rfl) ?_
    refine t_end ?_
    show W _ _ _ _ _ _ _
    refine w_block ?_
    refine w_vs VS.vac ?_
    refine w_kp [0, 2, 7, 8] (σ' := [(0, .pointer (some ⟨B0, 0, none⟩)), (2, .int .i64 far2), (7, .slice (ad none) ([] : List (Int × Int × Int × Int)).length (0 / 4)), (8, .int .i64 t113)]) (by kernel_rfl) ?_
    refine w_loop (fun n_ σ_ H_ S_ => ∃ (x116 : Int) (y118 : List (Int × Int × Int × Int)) (x119 : Int), ∃ (a117 : Option Nat) (na117 : Nat), [(0, .pointer (some ⟨B0, 0, none⟩)), (2, .int .i64 far2), (7, .slice (ad a117) y118.length (na117 / 4)), (8, .int .i64 x116)] = σ_ ∧ ([⟨a117, encL E_i644 y118, na117⟩, ⟨B0, [.slice a_m0_0 m0_0.length c_m0_0, .int .i64 x119], 2⟩] : List Own) = H_ ∧ S = S_ ∧ glyphicmake_Edges_v1.l0 n_ far2 m0_0 x116 y118 x119 = some (y137, x138)) _ ⟨t113, ([] : List (Int × Int × Int × Int)), t114, none, 0, rfl, rfl, rfl, e111⟩ ?_
    rintro n135 σ_ H_ S_ ⟨x116, y118, x119, a117, na117, rfl, rfl, rfl, e111⟩
    cases n135 with
    | zero => rw [glyphicmake_Edges_v1.l0.eq_1] at e111; cases e111
    | succ k_ =>
      rw [glyphicmake_Edges_v1.l0.eq_2] at e111
      refine w_seq ?_
      refine w_seq ?_
      refine w_reg fun all => ?_
      by_cases c120 : x116 > 0
      · rw [if_pos c120] at e111
        have c120b : (decide (x116 > 0)) = true := decide_eq_true c120
        refine t_qz 1 [0, 2, 7, 8, 14] (σ' := [(0, .pointer (some ⟨B0, 0, none⟩)), (2, .int .i64 far2), (7, .slice (ad a117) y118.length (na117 / 4)), (8, .int .i64 x116), (14, .int .i64 x116)]) (by kernel_rfl) ?_
        refine t_v (dv_quiet rfl (congrArg (fun t => some (Value.bool t)) c120b)) ?_
        refine t_keep [0, 2, 7, 8, 15] (σ' := [(0, .pointer (some ⟨B0, 0, none⟩)), (2, .int .i64 far2), (7, .slice (ad a117) y118.length (na117 / 4)), (8, .int .i64 x116), (15, .bool true)]) (by kernel_rfl) ?_
        refine t_end ?_
        show W _ _ _ _ _ _ _
        refine w_cond rfl (fun _ => ?_) (fun c_ => by cases c_)
        show W _ _ _ _ _ _ _
        refine w_skip ?_
        show W _ _ _ _ _ _ _
        refine w_seq ?_
        refine w_block ?_
        refine w_seq ?_
        refine w_reg fun all => ?_
        obtain ⟨⟨t121, t122, t123⟩, h124, e111⟩ := bind_of e111
        try dsimp only at e111
        refine t_qz 2 [0, 2, 7, 8, 18, 19] (σ' := [(0, .pointer (some ⟨B0, 0, none⟩)), (2, .int .i64 far2), (7, .slice (ad a117) y118.length (na117 / 4)), (8, .int .i64 x116), (18, .pointer (some ⟨B0, 0, none⟩)), (19, .int .i64 far2)]) (by kernel_rfl) ?_
        refine t_call (vs := [.pointer (some ⟨B0, 0, none⟩), .int .i64 far2]) (H1 := ([⟨B0, [.slice a_m0_0 m0_0.length c_m0_0, .int .i64 x119], 2⟩] : List Own)) (F := ([⟨a117, encL E_i644 y118, na117⟩] : List Own)) rfl rfl (by kernel_rfl) (sel_perm (is := [1]) (by kernel_rfl)) (glyphicmake_Point_v1.ok h_m0_0 h124) ?_
        rintro _ _ S_ ⟨rfl, rfl, hS_⟩
        obtain rfl := hS_.symm
        refine t_a (.new rfl rfl) fun b125 fb125 sb125 => ?_
        refine t_sti 0 (cs := [.int .i64 t121, .int .i64 t122]) rfl rfl rfl rfl rfl rfl rfl rfl rfl ?_
        refine t_keep [0, 2, 7, 8, 9] (σ' := [(0, .pointer (some ⟨B0, 0, none⟩)), (2, .int .i64 far2), (7, .slice (ad a117) y118.length (na117 / 4)), (8, .int .i64 x116), (9, .pointer (some ⟨b125, 0, none⟩))]) (by kernel_rfl) ?_
        refine t_end ?_
        show W _ _ _ _ _ _ _
        obtain ⟨⟨t126, t127, t128⟩, h129, e111⟩ := bind_of e111
        try dsimp only at e111
        obtain ⟨y131, hl132, e111⟩ := bind_of e111
        refine w_kp [0, 2, 7, 8, 9] (σ' := [(0, .pointer (some ⟨B0, 0, none⟩)), (2, .int .i64 far2), (7, .slice (ad a117) y118.length (na117 / 4)), (8, .int .i64 x116), (9, .pointer (some ⟨b125, 0, none⟩))]) (by kernel_rfl) ?_
        refine w_gameQ mixed (by kernel_rfl) fun all G hend hstep hqf => ?_
        have hg_1ff : ∀ (g133 : Option Nat) (ng133 : Nat) (g130 : Nat), G [true, true, true, true, true, true, true, true, true] [(0, .pointer (some ⟨B0, 0, none⟩)), (2, .int .i64 far2), (7, .slice (ad g133) y131.length (ng133 / 4)), (8, .int .i64 x116)] ([⟨g133, encL E_i644 y131, ng133⟩, ⟨g130, [.int .i64 t121, .int .i64 t122, .int .i64 t126, .int .i64 t127], 4⟩, ⟨B0, [.slice a_m0_0 m0_0.length c_m0_0, .int .i64 t128], 2⟩, ⟨b125, [.int .i64 t121, .int .i64 t122], 2⟩] : List Own) := by
          intro g133 ng133 g130
          refine hend _ _ _ (by kernel_rfl) ?_
          show W _ _ _ _ _ _ _
          refine w_reg fun all => ?_
          refine t_qz 3 [0, 2, 7, 8] (σ' := [(0, .pointer (some ⟨B0, 0, none⟩)), (2, .int .i64 far2), (7, .slice (ad g133) y131.length (ng133 / 4)), (8, .int .i64 (wr64 (x116 - 1)))]) (by kernel_rfl) ?_
          refine t_end ?_
          exact ⟨k_, Nat.lt_succ_self _, [(0, .pointer (some ⟨B0, 0, none⟩)), (2, .int .i64 far2), (7, .slice (ad g133) y131.length (ng133 / 4)), (8, .int .i64 (wr64 (x116 - 1)))], ([⟨g133, encL E_i644 y131, ng133⟩, ⟨B0, [.slice a_m0_0 m0_0.length c_m0_0, .int .i64 t128], 2⟩] : List Own), S, keep_sub [0, 2, 7, 8] (by kernel_rfl), VS.sel [0, 1] (by kernel_rfl), wr64 (x116 - 1), y131, t128, g133, ng133, rfl, rfl, rfl, e111⟩
        have hg_ff : ∀ (g133 : Option Nat) (ng133 : Nat) (g130 : Nat), G [true, true, true, true, true, true, true, true, false] [(0, .pointer (some ⟨B0, 0, none⟩)), (2, .int .i64 far2), (7, .slice (ad a117) y118.length (na117 / 4)), (8, .int .i64 x116), (28, .slice (ad g133) y131.length (ng133 / 4))] ([⟨g133, encL E_i644 y131, ng133⟩, ⟨g130, [.int .i64 t121, .int .i64 t122, .int .i64 t126, .int .i64 t127], 4⟩, ⟨B0, [.slice a_m0_0 m0_0.length c_m0_0, .int .i64 t128], 2⟩, ⟨b125, [.int .i64 t121, .int .i64 t122], 2⟩] : List Own) := by
          intro g133 ng133 g130
          exact hqf 8 [0, 2, 7, 8] _ _ _ [(0, .pointer (some ⟨B0, 0, none⟩)), (2, .int .i64 far2), (7, .slice (ad g133) y131.length (ng133 / 4)), (8, .int .i64 x116)] (by kernel_rfl) (by kernel_rfl) (hg_1ff g133 ng133 g130)
        have hg_7f : ∀ (g130 : Nat), G [true, true, true, true, true, true, true, false, false] [(0, .pointer (some ⟨B0, 0, none⟩)), (2, .int .i64 far2), (7, .slice (ad a117) y118.length (na117 / 4)), (8, .int .i64 x116), (21, .slice (ad a117) y118.length (na117 / 4)), (27, .slice (some ⟨g130, 0, none⟩) 1 1)] ([⟨g130, [.int .i64 t121, .int .i64 t122, .int .i64 t126, .int .i64 t127], 4⟩, ⟨B0, [.slice a_m0_0 m0_0.length c_m0_0, .int .i64 t128], 2⟩, ⟨b125, [.int .i64 t121, .int .i64 t122], 2⟩, ⟨a117, encL E_i644 y118, na117⟩] : List Own) := by
          intro g130
          refine hstep [7] _ _ _ (by kernel_rfl) (List.cons_ne_nil _ _) ⟨?_, trivial⟩
          · show T _ _ _ _ _ _ _ _
            refine t_appX (E := E_i644) (L := y118) (X := ([(t121, t122, t126, t127)] : List (Int × Int × Int × Int))) (F := ([⟨g130, [.int .i64 t121, .int .i64 t122, .int .i64 t126, .int .i64 t127], 4⟩, ⟨B0, [.slice a_m0_0 m0_0.length c_m0_0, .int .i64 t128], 2⟩, ⟨b125, [.int .i64 t121, .int .i64 t122], 2⟩] : List Own)) rfl rfl rfl rfl (sel_perm (is := [3]) (by kernel_rfl)) rfl (Or.inr ⟨_, _, rfl, .at 0 rfl (by kernel_rfl)⟩) rfl (by decide) (by decide) rfl hl132 fun g133 ng133 => ?_
            refine t_keep [0, 2, 7, 8, 28] (σ' := [(0, .pointer (some ⟨B0, 0, none⟩)), (2, .int .i64 far2), (7, .slice (ad a117) y118.length (na117 / 4)), (8, .int .i64 x116), (28, .slice (ad g133) y131.length (ng133 / 4))]) (by kernel_rfl) ?_
            refine t_end ?_
            exact ⟨hg_ff g133 ng133 g130, rfl⟩
        have hg_3f : G [true, true, true, true, true, true, false, false, false] [(0, .pointer (some ⟨B0, 0, none⟩)), (2, .int .i64 far2), (7, .slice (ad a117) y118.length (na117 / 4)), (8, .int .i64 x116), (21, .slice (ad a117) y118.length (na117 / 4)), (26, .agg #[.int .i64 t121, .int .i64 t122, .int .i64 t126, .int .i64 t127])] ([⟨B0, [.slice a_m0_0 m0_0.length c_m0_0, .int .i64 t128], 2⟩, ⟨b125, [.int .i64 t121, .int .i64 t122], 2⟩, ⟨a117, encL E_i644 y118, na117⟩] : List Own) := by
          refine hstep [6] _ _ _ (by kernel_rfl) (List.cons_ne_nil _ _) ⟨?_, trivial⟩
          · show T _ _ _ _ _ _ _ _
            refine t_a (.bsl rfl rfl rfl rfl) fun g130 fg130 sg130 => ?_
            refine t_keep [0, 2, 7, 8, 21, 27] (σ' := [(0, .pointer (some ⟨B0, 0, none⟩)), (2, .int .i64 far2), (7, .slice (ad a117) y118.length (na117 / 4)), (8, .int .i64 x116), (21, .slice (ad a117) y118.length (na117 / 4)), (27, .slice (some ⟨g130, 0, none⟩) 1 1)]) (by kernel_rfl) ?_
            refine t_end ?_
            exact ⟨hg_7f g130, rfl⟩
        have hg_1f : G [true, true, true, true, true, false, false, false, false] [(0, .pointer (some ⟨B0, 0, none⟩)), (2, .int .i64 far2), (7, .slice (ad a117) y118.length (na117 / 4)), (8, .int .i64 x116), (21, .slice (ad a117) y118.length (na117 / 4)), (22, .agg #[.int .i64 t121, .int .i64 t122]), (25, .agg #[.int .i64 t126, .int .i64 t127])] ([⟨B0, [.slice a_m0_0 m0_0.length c_m0_0, .int .i64 t128], 2⟩, ⟨b125, [.int .i64 t121, .int .i64 t122], 2⟩, ⟨a117, encL E_i644 y118, na117⟩] : List Own) := by
          exact hqf 5 [0, 2, 7, 8, 21, 26] _ _ _ [(0, .pointer (some ⟨B0, 0, none⟩)), (2, .int .i64 far2), (7, .slice (ad a117) y118.length (na117 / 4)), (8, .int .i64 x116), (21, .slice (ad a117) y118.length (na117 / 4)), (26, .agg #[.int .i64 t121, .int .i64 t122, .int .i64 t126, .int .i64 t127])] (by kernel_rfl) (by kernel_rfl) hg_3f
        have hg_f : G [true, true, true, true, false, false, false, false, false] [(0, .pointer (some ⟨B0, 0, none⟩)), (2, .int .i64 far2), (7, .slice (ad a117) y118.length (na117 / 4)), (8, .int .i64 x116), (21, .slice (ad a117) y118.length (na117 / 4)), (22, .agg #[.int .i64 t121, .int .i64 t122]), (23, .pointer (some ⟨B0, 0, none⟩)), (24, .int .i64 far2)] ([⟨b125, [.int .i64 t121, .int .i64 t122], 2⟩, ⟨B0, [.slice a_m0_0 m0_0.length c_m0_0, .int .i64 t123], 2⟩, ⟨a117, encL E_i644 y118, na117⟩] : List Own) := by
          refine hstep [4] _ _ _ (by kernel_rfl) (List.cons_ne_nil _ _) ⟨?_, trivial⟩
          · show T _ _ _ _ _ _ _ _
            refine t_call (vs := [.pointer (some ⟨B0, 0, none⟩), .int .i64 far2]) (H1 := ([⟨B0, [.slice a_m0_0 m0_0.length c_m0_0, .int .i64 t123], 2⟩] : List Own)) (F := ([⟨b125, [.int .i64 t121, .int .i64 t122], 2⟩, ⟨a117, encL E_i644 y118, na117⟩] : List Own)) rfl rfl (by kernel_rfl) (sel_perm (is := [1]) (by kernel_rfl)) (glyphicmake_Point_v1.ok h_m0_0 h129) ?_
            rintro _ _ S_ ⟨rfl, rfl, hS_⟩
            obtain rfl := hS_.symm
            refine t_keep [0, 2, 7, 8, 21, 22, 25] (σ' := [(0, .pointer (some ⟨B0, 0, none⟩)), (2, .int .i64 far2), (7, .slice (ad a117) y118.length (na117 / 4)), (8, .int .i64 x116), (21, .slice (ad a117) y118.length (na117 / 4)), (22, .agg #[.int .i64 t121, .int .i64 t122]), (25, .agg #[.int .i64 t126, .int .i64 t127])]) (by kernel_rfl) ?_
            refine t_end ?_
            exact ⟨hg_1f, rfl⟩
        have hg_1d : G [true, false, true, true, true, false, false, false, false] [(0, .pointer (some ⟨B0, 0, none⟩)), (2, .int .i64 far2), (7, .slice (ad a117) y118.length (na117 / 4)), (8, .int .i64 x116), (9, .pointer (some ⟨b125, 0, none⟩)), (21, .slice (ad a117) y118.length (na117 / 4)), (25, .agg #[.int .i64 t126, .int .i64 t127])] ([⟨B0, [.slice a_m0_0 m0_0.length c_m0_0, .int .i64 t128], 2⟩, ⟨b125, [.int .i64 t121, .int .i64 t122], 2⟩, ⟨a117, encL E_i644 y118, na117⟩] : List Own) := by
          refine hstep [1] _ _ _ (by kernel_rfl) (List.cons_ne_nil _ _) ⟨?_, trivial⟩
          · show T _ _ _ _ _ _ _ _
            refine t_v (.ldn rfl rfl rfl (.at 1 rfl rfl)) ?_
            refine t_keep [0, 2, 7, 8, 21, 22, 25] (σ' := [(0, .pointer (some ⟨B0, 0, none⟩)), (2, .int .i64 far2), (7, .slice (ad a117) y118.length (na117 / 4)), (8, .int .i64 x116), (21, .slice (ad a117) y118.length (na117 / 4)), (22, .agg #[.int .i64 t121, .int .i64 t122]), (25, .agg #[.int .i64 t126, .int .i64 t127])]) (by kernel_rfl) ?_
            refine t_end ?_
            exact ⟨hg_1f, rfl⟩
        have hg_d : G [true, false, true, true, false, false, false, false, false] [(0, .pointer (some ⟨B0, 0, none⟩)), (2, .int .i64 far2), (7, .slice (ad a117) y118.length (na117 / 4)), (8, .int .i64 x116), (9, .pointer (some ⟨b125, 0, none⟩)), (21, .slice (ad a117) y118.length (na117 / 4)), (23, .pointer (some ⟨B0, 0, none⟩)), (24, .int .i64 far2)] ([⟨b125, [.int .i64 t121, .int .i64 t122], 2⟩, ⟨B0, [.slice a_m0_0 m0_0.length c_m0_0, .int .i64 t123], 2⟩, ⟨a117, encL E_i644 y118, na117⟩] : List Own) := by
          refine hstep [1, 4] _ _ _ (by kernel_rfl) (List.cons_ne_nil _ _) ⟨?_, ?_, trivial⟩
          · show T _ _ _ _ _ _ _ _
            refine t_v (.ldn rfl rfl rfl (.at 0 rfl rfl)) ?_
            refine t_keep [0, 2, 7, 8, 21, 22, 23, 24] (σ' := [(0, .pointer (some ⟨B0, 0, none⟩)), (2, .int .i64 far2), (7, .slice (ad a117) y118.length (na117 / 4)), (8, .int .i64 x116), (21, .slice (ad a117) y118.length (na117 / 4)), (22, .agg #[.int .i64 t121, .int .i64 t122]), (23, .pointer (some ⟨B0, 0, none⟩)), (24, .int .i64 far2)]) (by kernel_rfl) ?_
            refine t_end ?_
            exact ⟨hg_f, rfl⟩
          · show T _ _ _ _ _ _ _ _
            refine t_call (vs := [.pointer (some ⟨B0, 0, none⟩), .int .i64 far2]) (H1 := ([⟨B0, [.slice a_m0_0 m0_0.length c_m0_0, .int .i64 t123], 2⟩] : List Own)) (F := ([⟨b125, [.int .i64 t121, .int .i64 t122], 2⟩, ⟨a117, encL E_i644 y118, na117⟩] : List Own)) rfl rfl (by kernel_rfl) (sel_perm (is := [1]) (by kernel_rfl)) (glyphicmake_Point_v1.ok h_m0_0 h129) ?_
            rintro _ _ S_ ⟨rfl, rfl, hS_⟩
            obtain rfl := hS_.symm
            refine t_keep [0, 2, 7, 8, 9, 21, 25] (σ' := [(0, .pointer (some ⟨B0, 0, none⟩)), (2, .int .i64 far2), (7, .slice (ad a117) y118.length (na117 / 4)), (8, .int .i64 x116), (9, .pointer (some ⟨b125, 0, none⟩)), (21, .slice (ad a117) y118.length (na117 / 4)), (25, .agg #[.int .i64 t126, .int .i64 t127])]) (by kernel_rfl) ?_
            refine t_end ?_
            exact ⟨hg_1d, rfl⟩
        have hg_5 : G [true, false, true, false, false, false, false, false, false] [(0, .pointer (some ⟨B0, 0, none⟩)), (2, .int .i64 far2), (7, .slice (ad a117) y118.length (na117 / 4)), (8, .int .i64 x116), (9, .pointer (some ⟨b125, 0, none⟩)), (21, .slice (ad a117) y118.length (na117 / 4)), (23, .pointer (some ⟨B0, 0, none⟩))] ([⟨b125, [.int .i64 t121, .int .i64 t122], 2⟩, ⟨B0, [.slice a_m0_0 m0_0.length c_m0_0, .int .i64 t123], 2⟩, ⟨a117, encL E_i644 y118, na117⟩] : List Own) := by
          exact hqf 3 [0, 2, 7, 8, 9, 21, 23, 24] _ _ _ [(0, .pointer (some ⟨B0, 0, none⟩)), (2, .int .i64 far2), (7, .slice (ad a117) y118.length (na117 / 4)), (8, .int .i64 x116), (9, .pointer (some ⟨b125, 0, none⟩)), (21, .slice (ad a117) y118.length (na117 / 4)), (23, .pointer (some ⟨B0, 0, none⟩)), (24, .int .i64 far2)] (by kernel_rfl) (by kernel_rfl) hg_d
        have hg_1 : G [true, false, false, false, false, false, false, false, false] [(0, .pointer (some ⟨B0, 0, none⟩)), (2, .int .i64 far2), (7, .slice (ad a117) y118.length (na117 / 4)), (8, .int .i64 x116), (9, .pointer (some ⟨b125, 0, none⟩)), (21, .slice (ad a117) y118.length (na117 / 4))] ([⟨b125, [.int .i64 t121, .int .i64 t122], 2⟩, ⟨B0, [.slice a_m0_0 m0_0.length c_m0_0, .int .i64 t123], 2⟩, ⟨a117, encL E_i644 y118, na117⟩] : List Own) := by
          exact hqf 2 [0, 2, 7, 8, 9, 21, 23] _ _ _ [(0, .pointer (some ⟨B0, 0, none⟩)), (2, .int .i64 far2), (7, .slice (ad a117) y118.length (na117 / 4)), (8, .int .i64 x116), (9, .pointer (some ⟨b125, 0, none⟩)), (21, .slice (ad a117) y118.length (na117 / 4)), (23, .pointer (some ⟨B0, 0, none⟩))] (by kernel_rfl) (by kernel_rfl) hg_5
        have hg_0 : G [false, false, false, false, false, false, false, false, false] [(0, .pointer (some ⟨B0, 0, none⟩)), (2, .int .i64 far2), (7, .slice (ad a117) y118.length (na117 / 4)), (8, .int .i64 x116), (9, .pointer (some ⟨b125, 0, none⟩))] ([⟨b125, [.int .i64 t121, .int .i64 t122], 2⟩, ⟨B0, [.slice a_m0_0 m0_0.length c_m0_0, .int .i64 t123], 2⟩, ⟨a117, encL E_i644 y118, na117⟩] : List Own) := by
          exact hqf 0 [0, 2, 7, 8, 9, 21] _ _ _ [(0, .pointer (some ⟨B0, 0, none⟩)), (2, .int .i64 far2), (7, .slice (ad a117) y118.length (na117 / 4)), (8, .int .i64 x116), (9, .pointer (some ⟨b125, 0, none⟩)), (21, .slice (ad a117) y118.length (na117 / 4))] (by kernel_rfl) (by kernel_rfl) hg_1
        exact hg_0
      · rw [if_neg c120] at e111
        have c120b : (decide (x116 > 0)) = false := decide_eq_false c120
        refine t_qz 1 [0, 2, 7, 8, 14] (σ' := [(0, .pointer (some ⟨B0, 0, none⟩)), (2, .int .i64 far2), (7, .slice (ad a117) y118.length (na117 / 4)), (8, .int .i64 x116), (14, .int .i64 x116)]) (by kernel_rfl) ?_
        refine t_v (dv_quiet rfl (congrArg (fun t => some (Value.bool t)) c120b)) ?_
        refine t_keep [0, 2, 7, 8, 15] (σ' := [(0, .pointer (some ⟨B0, 0, none⟩)), (2, .int .i64 far2), (7, .slice (ad a117) y118.length (na117 / 4)), (8, .int .i64 x116), (15, .bool false)]) (by kernel_rfl) ?_
        refine t_end ?_
        show W _ _ _ _ _ _ _
        refine w_cond rfl (fun c_ => by cases c_) (fun _ => ?_)
        show W _ _ _ _ _ _ _
        refine w_exit ?_
        simp only [Option.some.injEq, Prod.mk.injEq] at e111
        obtain ⟨rfl, rfl⟩ := e111
        exact ⟨([⟨B0, [.slice a_m0_0 m0_0.length c_m0_0, .int .i64 x119], 2⟩, ⟨a117, encL E_i644 y118, na117⟩] : List Own), S, VS.sel [1, 0] (by kernel_rfl), a117, na117, by kernel_rfl, rfl, rfl⟩
  · rintro σ_ H_ S_ ⟨a136, na136, rfl, rfl, rfl⟩
    refine w_seq ?_
    refine w_reg fun all => ?_
    refine t_qz 2 [6] (σ' := [(6, .slice (ad a136) y137.length (na136 / 4))]) (by kernel_rfl) ?_
    refine t_end ?_
    show W _ _ _ _ _ _ _
    refine w_ret ?_
    simp only [Option.some.injEq, Prod.mk.injEq] at e
    obtain ⟨rfl, rfl⟩ := e
    exact ⟨[.slice (ad a136) y137.length (na136 / 4)], ([⟨a136, encL E_i644 y137, na136⟩, ⟨B0, [.slice a_m0_0 m0_0.length c_m0_0, .int .i64 x138], 2⟩] : List Own), S, ⟨rfl, trivial⟩, VS.sel [1, 0] (by kernel_rfl), a136, na136, rfl, rfl, rfl⟩
end Go.Proofs.Ytpimfacaalkmdaa.QStrokeSays
