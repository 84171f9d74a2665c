/- Functions of the program as Lean functions, each with the proof of its walk. Written by gen.py, a program of these sessions. -/
import Derived.Test.YtijjgmkhgcofiaaX
import Derived.Test.YtijjgmkhgcofiaaProg
namespace Go.Proofs.Ytijjgmkhgcofiaa.QStrokeDots
open Go Go.RowKit Go.Proofs.YtijjgmkhgcofiaaE Go.Proofs.YtijjgmkhgcofiaaX
set_option linter.unusedVariables false
set_option maxRecDepth 100000
set_option maxHeartbeats 8000000
theorem mixed : Try.prog.follows .mixedOrders = true := by kernel_rfl

/-- slices.IndexFunc[[]api.Edge,api.Edge] -/
def c59 : C :=
  (.seq (.reg [⟨(some 4), .mv (.const (.int .i64 0)), none⟩])
  (.seq (.seq (.reg [⟨(some 6), .mv (.tmp 0), none⟩,
      ⟨(some 7), .lns (.tmp 6), none⟩,
      ⟨(some 8), .mv (.const (.int .i64 0)), none⟩])
   (.block 0 (.loop (.seq (.reg [⟨(some 9), .bin .lss (.tmp 8) (.tmp 7), none⟩])
     (.seq (.cond (.tmp 9)
       .skip
       (.exit 0))
     (.seq (.block 1 (.seq (.reg [⟨(some 10), .mv (.tmp 8), none⟩,
          ⟨(some 5), .mv (.tmp 10), none⟩])
       (.seq (.reg [⟨(some 11), .mv (.tmp 1), none⟩,
          ⟨(some 12), .mv (.tmp 0), none⟩,
          ⟨(some 13), .mv (.tmp 5), none⟩,
          ⟨(some 14), .ixs 4 (.tmp 12) (.tmp 13), none⟩,
          ⟨(some 15), .ld (some 4) (.tmp 14), none⟩,
          ⟨(some 16), .clo (.tmp 11) [(.tmp 15)], none⟩])
       (.cond (.tmp 16)
        (.seq (.reg [⟨(some 17), .mv (.tmp 5), none⟩,
            ⟨(some 4), .mv (.tmp 17), none⟩])
         .ret)
        .skip))))
     (.reg [⟨(some 18), .bin .add (.tmp 8) (.const (.int .i64 1)), none⟩,
       ⟨(some 8), .mv (.tmp 18), none⟩])))))))
  (.seq (.reg [⟨(some 4), .mv (.const (.int .i64 (-1))), none⟩])
  .ret)))
def api_Edge_v2.f  : Option (Unit) := some ()
theorem api_Edge_v2.ok {S : Seal} {B0 B1 : Nat}   (e : api_Edge_v2.f  = some ()) :
    Cal Try.prog 59 [.slice none 0 0, .func (.func 40) #[] #[.pointer (some ⟨B0, 0, none⟩), .pointer (some ⟨B1, 0, none⟩)]] ([⟨B0, [.int .i64 0, .int .i64 0], 2⟩, ⟨B1, [.int .i64 5], 1⟩] : List Own) S fun v H' S' => v = .int .i64 (-1) ∧ H' = ([⟨B0, [.int .i64 0, .int .i64 0], 2⟩, ⟨B1, [.int .i64 5], 1⟩] : List Own) ∧ S' = S := by
  unfold api_Edge_v2.f at e
  refine cal_of (c := c59) (N := 19) Try.func59 rfl rfl (by kernel_rfl) (rs := [.t 4]) (by kernel_rfl) (Nat.le_of_ble_eq_true rfl) ?_
  unfold c59
  refine w_seq ?_
  refine w_reg fun all => ?_
  refine t_qz 1 [0, 1] (σ' := [(0, .slice none 0 0), (1, .func (.func 40) #[] #[.pointer (some ⟨B0, 0, none⟩), .pointer (some ⟨B1, 0, none⟩)])]) (by kernel_rfl) ?_
  refine t_end ?_
  show W _ _ _ _ _ _ _
  refine w_seq ?_
  refine w_seq ?_
  refine w_reg fun all => ?_
  refine t_qz 3 [0, 1, 7, 8] (σ' := [(0, .slice none 0 0), (1, .func (.func 40) #[] #[.pointer (some ⟨B0, 0, none⟩), .pointer (some ⟨B1, 0, none⟩)]), (7, .int .i64 0), (8, .int .i64 0)]) (by kernel_rfl) ?_
  refine t_end ?_
  show W _ _ _ _ _ _ _
  refine w_block ?_
  refine w_lun 10 ?_
  refine wl_step ?_
  refine w_seq ?_
  refine w_reg fun all => ?_
  refine t_qz 1 [0, 1, 7, 8, 9] (σ' := [(0, .slice none 0 0), (1, .func (.func 40) #[] #[.pointer (some ⟨B0, 0, none⟩), .pointer (some ⟨B1, 0, none⟩)]), (7, .int .i64 0), (8, .int .i64 0), (9, .bool false)]) (by kernel_rfl) ?_
  refine t_end ?_
  show W _ _ _ _ _ _ _
  refine w_seq ?_
  refine w_cond rfl (fun c_ => by cases c_) (fun _ => ?_)
  show W _ _ _ _ _ _ _
  refine w_exit ?_
  show W _ _ _ _ _ _ _
  refine w_seq ?_
  refine w_reg fun all => ?_
  refine t_qz 1 [4] (σ' := [(4, .int .i64 (-1))]) (by kernel_rfl) ?_
  refine t_end ?_
  show W _ _ _ _ _ _ _
  refine w_ret ?_
  exact ⟨[.int .i64 (-1)], ([⟨B0, [.int .i64 0, .int .i64 0], 2⟩, ⟨B1, [.int .i64 5], 1⟩] : List Own), S, ⟨rfl, trivial⟩, VS.sel [0, 0] (by kernel_rfl), rfl, rfl, rfl⟩

/-- slices.ContainsFunc[[]api.Edge,api.Edge] -/
def c39 : C :=
  (.seq (.reg [⟨(some 4), .mv (.const (.bool false)), none⟩])
  (.seq (.reg [⟨(some 5), .mv (.tmp 0), none⟩,
     ⟨(some 6), .mv (.tmp 1), none⟩,
     ⟨(some 7), .call 59 [(.tmp 5), (.tmp 6)], none⟩,
     ⟨(some 8), .bin .geq (.tmp 7) (.const (.int .i64 0)), none⟩,
     ⟨(some 4), .mv (.tmp 8), none⟩])
  .ret))
def api_Edge_v1.f  : Option (Unit) := (api_Edge_v2.f).bind fun _ => (some ())
theorem api_Edge_v1.ok {S : Seal} {B0 B1 : Nat}   (e : api_Edge_v1.f  = some ()) :
    Cal Try.prog 39 [.slice none 0 0, .func (.func 40) #[] #[.pointer (some ⟨B0, 0, none⟩), .pointer (some ⟨B1, 0, none⟩)]] ([⟨B0, [.int .i64 0, .int .i64 0], 2⟩, ⟨B1, [.int .i64 5], 1⟩] : List Own) S fun v H' S' => v = .bool false ∧ H' = ([⟨B0, [.int .i64 0, .int .i64 0], 2⟩, ⟨B1, [.int .i64 5], 1⟩] : List Own) ∧ S' = S := by
  unfold api_Edge_v1.f at e
  refine cal_of (c := c39) (N := 9) Try.func39 rfl rfl (by kernel_rfl) (rs := [.t 4]) (by kernel_rfl) (Nat.le_of_ble_eq_true rfl) ?_
  unfold c39
  refine w_seq ?_
  refine w_reg fun all => ?_
  refine t_qz 1 [0, 1] (σ' := [(0, .slice none 0 0), (1, .func (.func 40) #[] #[.pointer (some ⟨B0, 0, none⟩), .pointer (some ⟨B1, 0, none⟩)])]) (by kernel_rfl) ?_
  refine t_end ?_
  show W _ _ _ _ _ _ _
  refine w_seq ?_
  refine w_reg fun all => ?_
  obtain ⟨u_, h5, e⟩ := bind_of e
  refine t_qz 2 [5, 6] (σ' := [(5, .slice none 0 0), (6, .func (.func 40) #[] #[.pointer (some ⟨B0, 0, none⟩), .pointer (some ⟨B1, 0, none⟩)])]) (by kernel_rfl) ?_
  refine t_v (.callr (vs := [.slice none 0 0, .func (.func 40) #[] #[.pointer (some ⟨B0, 0, none⟩), .pointer (some ⟨B1, 0, none⟩)]]) (A := ([⟨B0, [.int .i64 0, .int .i64 0], 2⟩, ⟨B1, [.int .i64 5], 1⟩] : List Own)) (F0 := ([] : List Own)) rfl rfl (by kernel_rfl) (sel_perm (is := [0, 0]) (by kernel_rfl)) (api_Edge_v2.ok h5)) ?_
  refine t_qz 2 [4] (σ' := [(4, .bool false)]) (by kernel_rfl) ?_
  refine t_end ?_
  show W _ _ _ _ _ _ _
  refine w_ret ?_
  exact ⟨[.bool false], ([⟨B0, [.int .i64 0, .int .i64 0], 2⟩, ⟨B1, [.int .i64 5], 1⟩] : List Own), S, ⟨rfl, trivial⟩, VS.sel [0, 0] (by kernel_rfl), rfl, rfl, rfl⟩

/-- stroke.Near -/
def c15 : C :=
  (.seq (.reg [⟨(some 4), .box (.tmp 1), none⟩,
     ⟨(some 5), .box (.tmp 2), none⟩,
     ⟨(some 6), .mv (.const (.bool false)), none⟩])
  (.seq (.reg [⟨(some 7), .mv (.tmp 0), none⟩,
     ⟨(some 8), .mkf 40 [(.tmp 5), (.tmp 4)], none⟩,
     ⟨(some 9), .call 39 [(.tmp 7), (.tmp 8)], none⟩,
     ⟨(some 6), .mv (.tmp 9), none⟩])
  .ret))
def stroke_Near_v1.f  : Option (Unit) := (api_Edge_v1.f).bind fun _ => (some ())
theorem stroke_Near_v1.ok {S : Seal}   (e : stroke_Near_v1.f  = some ()) :
    Cal Try.prog 15 [.slice none 0 0, .int .i64 5, .agg #[.int .i64 0, .int .i64 0]] [] S fun v H' S' => v = .bool false ∧ H' = [] ∧ S' = S := by
  unfold stroke_Near_v1.f at e
  refine cal_of (c := c15) (N := 10) Try.func15 rfl rfl (by kernel_rfl) (rs := [.t 6]) (by kernel_rfl) (Nat.le_of_ble_eq_true rfl) ?_
  unfold c15
  refine w_seq ?_
  refine w_reg fun all => ?_
  refine t_a (.box rfl rfl rfl) fun b3 fb3 sb3 => ?_
  refine t_a (.box rfl rfl rfl) fun b4 fb4 sb4 => ?_
  refine t_qz 1 [0, 4, 5] (σ' := [(0, .slice none 0 0), (4, .pointer (some ⟨b3, 0, none⟩)), (5, .pointer (some ⟨b4, 0, none⟩))]) (by kernel_rfl) ?_
  refine t_end ?_
  show W _ _ _ _ _ _ _
  refine w_seq ?_
  refine w_reg fun all => ?_
  obtain ⟨u_, h6, e⟩ := bind_of e
  refine t_qz 2 [7, 8] (σ' := [(7, .slice none 0 0), (8, .func (.func 40) #[] #[.pointer (some ⟨b4, 0, none⟩), .pointer (some ⟨b3, 0, none⟩)])]) (by kernel_rfl) ?_
  refine t_v (.callr (vs := [.slice none 0 0, .func (.func 40) #[] #[.pointer (some ⟨b4, 0, none⟩), .pointer (some ⟨b3, 0, none⟩)]]) (A := ([⟨b4, [.int .i64 0, .int .i64 0], 2⟩, ⟨b3, [.int .i64 5], 1⟩] : List Own)) (F0 := ([] : List Own)) rfl rfl (by kernel_rfl) (sel_perm (is := [0, 0]) (by kernel_rfl)) (api_Edge_v1.ok h6)) ?_
  refine t_qz 1 [6] (σ' := [(6, .bool false)]) (by kernel_rfl) ?_
  refine t_end ?_
  show W _ _ _ _ _ _ _
  refine w_ret ?_
  exact ⟨[.bool false], [], S, ⟨rfl, trivial⟩, VS.none, rfl, rfl, rfl⟩

/-- plane.Sub -/
def c67 : C :=
  (.seq (.reg [⟨(some 2), .box (.tmp 0), none⟩,
     ⟨(some 3), .box (.tmp 1), none⟩,
     ⟨(some 4), .new [(.int .i64 0), (.int .i64 0)], none⟩])
  (.seq (.reg [⟨(some 5), .pad 0 (.tmp 2), none⟩,
     ⟨(some 6), .ld none (.tmp 5), none⟩,
     ⟨(some 7), .pad 0 (.tmp 3), none⟩,
     ⟨(some 8), .ld none (.tmp 7), none⟩,
     ⟨(some 9), .bin .sub (.tmp 6) (.tmp 8), none⟩,
     ⟨(some 10), .pad 1 (.tmp 2), none⟩,
     ⟨(some 11), .ld none (.tmp 10), none⟩,
     ⟨(some 12), .pad 1 (.tmp 3), none⟩,
     ⟨(some 13), .ld none (.tmp 12), none⟩,
     ⟨(some 14), .bin .sub (.tmp 11) (.tmp 13), none⟩,
     ⟨(some 15), .bld [(.int .i64 0), (.int .i64 0)] [(0, 1, (.tmp 9)), (1, 1, (.tmp 14))], none⟩,
     ⟨none, .st 2 (.tmp 4) (.tmp 15), none⟩])
  .ret))
def plane_Sub_v1.f  : Option (Unit) := some ()
theorem plane_Sub_v1.ok {S : Seal}   (e : plane_Sub_v1.f  = some ()) :
    Cal Try.prog 67 [.agg #[.int .i64 5, .int .i64 0], .agg #[.int .i64 0, .int .i64 0]] [] S fun v H' S' => v = .agg #[.int .i64 5, .int .i64 0] ∧ H' = [] ∧ S' = S := by
  unfold plane_Sub_v1.f at e
  refine cal_of (c := c67) (N := 16) Try.func67 rfl rfl (by kernel_rfl) (rs := [.cn 2 4]) (by kernel_rfl) (Nat.le_of_ble_eq_true rfl) ?_
  unfold c67
  refine w_seq ?_
  refine w_reg fun all => ?_
  refine t_a (.box rfl rfl rfl) fun b17 fb17 sb17 => ?_
  refine t_a (.box rfl rfl rfl) fun b18 fb18 sb18 => ?_
  refine t_a (.new rfl rfl) fun b19 fb19 sb19 => ?_
  refine t_keep [2, 3, 4] (σ' := [(2, .pointer (some ⟨b17, 0, none⟩)), (3, .pointer (some ⟨b18, 0, none⟩)), (4, .pointer (some ⟨b19, 0, none⟩))]) (by kernel_rfl) ?_
  refine t_end ?_
  show W _ _ _ _ _ _ _
  refine w_seq ?_
  refine w_reg fun all => ?_
  refine t_qz 1 [2, 3, 4, 5] (σ' := [(2, .pointer (some ⟨b17, 0, none⟩)), (3, .pointer (some ⟨b18, 0, none⟩)), (4, .pointer (some ⟨b19, 0, none⟩)), (5, .pointer (some ⟨b17, 0, none⟩))]) (by kernel_rfl) ?_
  refine t_v (.ld1 rfl rfl rfl (.at 2 rfl rfl)) ?_
  refine t_qz 1 [2, 3, 4, 6, 7] (σ' := [(2, .pointer (some ⟨b17, 0, none⟩)), (3, .pointer (some ⟨b18, 0, none⟩)), (4, .pointer (some ⟨b19, 0, none⟩)), (6, .int .i64 5), (7, .pointer (some ⟨b18, 0, none⟩))]) (by kernel_rfl) ?_
  refine t_v (.ld1 rfl rfl rfl (.at 1 rfl rfl)) ?_
  refine t_qz 2 [3, 4, 9, 10] (σ' := [(3, .pointer (some ⟨b18, 0, none⟩)), (4, .pointer (some ⟨b19, 0, none⟩)), (9, .int .i64 5), (10, .pointer (some ⟨b17, 1, none⟩))]) (by kernel_rfl) ?_
  refine t_v (.ld1 rfl rfl rfl (.at 2 rfl rfl)) ?_
  refine t_qz 1 [4, 9, 11, 12] (σ' := [(4, .pointer (some ⟨b19, 0, none⟩)), (9, .int .i64 5), (11, .int .i64 0), (12, .pointer (some ⟨b18, 1, none⟩))]) (by kernel_rfl) ?_
  refine t_v (.ld1 rfl rfl rfl (.at 1 rfl rfl)) ?_
  refine t_qz 2 [4, 15] (σ' := [(4, .pointer (some ⟨b19, 0, none⟩)), (15, .agg #[.int .i64 5, .int .i64 0])]) (by kernel_rfl) ?_
  refine t_sti 0 (cs := [.int .i64 5, .int .i64 0]) rfl rfl rfl rfl rfl rfl rfl rfl rfl ?_
  refine t_keep [4] (σ' := [(4, .pointer (some ⟨b19, 0, none⟩))]) (by kernel_rfl) ?_
  refine t_end ?_
  show W _ _ _ _ _ _ _
  refine w_ret ?_
  exact ⟨[.agg #[.int .i64 5, .int .i64 0]], [], S, ⟨⟨_, _, _, rfl, .at 0 rfl rfl, rfl⟩, trivial⟩, VS.none, rfl, rfl, rfl⟩

def plane_Sub_v2.f  : Option (Unit) := some ()
theorem plane_Sub_v2.ok {S : Seal}   (e : plane_Sub_v2.f  = some ()) :
    Cal Try.prog 67 [.agg #[.int .i64 1, .int .i64 1], .agg #[.int .i64 0, .int .i64 0]] [] S fun v H' S' => v = .agg #[.int .i64 1, .int .i64 1] ∧ H' = [] ∧ S' = S := by
  unfold plane_Sub_v2.f at e
  refine cal_of (c := c67) (N := 16) Try.func67 rfl rfl (by kernel_rfl) (rs := [.cn 2 4]) (by kernel_rfl) (Nat.le_of_ble_eq_true rfl) ?_
  unfold c67
  refine w_seq ?_
  refine w_reg fun all => ?_
  refine t_a (.box rfl rfl rfl) fun b21 fb21 sb21 => ?_
  refine t_a (.box rfl rfl rfl) fun b22 fb22 sb22 => ?_
  refine t_a (.new rfl rfl) fun b23 fb23 sb23 => ?_
  refine t_keep [2, 3, 4] (σ' := [(2, .pointer (some ⟨b21, 0, none⟩)), (3, .pointer (some ⟨b22, 0, none⟩)), (4, .pointer (some ⟨b23, 0, none⟩))]) (by kernel_rfl) ?_
  refine t_end ?_
  show W _ _ _ _ _ _ _
  refine w_seq ?_
  refine w_reg fun all => ?_
  refine t_qz 1 [2, 3, 4, 5] (σ' := [(2, .pointer (some ⟨b21, 0, none⟩)), (3, .pointer (some ⟨b22, 0, none⟩)), (4, .pointer (some ⟨b23, 0, none⟩)), (5, .pointer (some ⟨b21, 0, none⟩))]) (by kernel_rfl) ?_
  refine t_v (.ld1 rfl rfl rfl (.at 2 rfl rfl)) ?_
  refine t_qz 1 [2, 3, 4, 6, 7] (σ' := [(2, .pointer (some ⟨b21, 0, none⟩)), (3, .pointer (some ⟨b22, 0, none⟩)), (4, .pointer (some ⟨b23, 0, none⟩)), (6, .int .i64 1), (7, .pointer (some ⟨b22, 0, none⟩))]) (by kernel_rfl) ?_
  refine t_v (.ld1 rfl rfl rfl (.at 1 rfl rfl)) ?_
  refine t_qz 2 [3, 4, 9, 10] (σ' := [(3, .pointer (some ⟨b22, 0, none⟩)), (4, .pointer (some ⟨b23, 0, none⟩)), (9, .int .i64 1), (10, .pointer (some ⟨b21, 1, none⟩))]) (by kernel_rfl) ?_
  refine t_v (.ld1 rfl rfl rfl (.at 2 rfl rfl)) ?_
  refine t_qz 1 [4, 9, 11, 12] (σ' := [(4, .pointer (some ⟨b23, 0, none⟩)), (9, .int .i64 1), (11, .int .i64 1), (12, .pointer (some ⟨b22, 1, none⟩))]) (by kernel_rfl) ?_
  refine t_v (.ld1 rfl rfl rfl (.at 1 rfl rfl)) ?_
  refine t_qz 2 [4, 15] (σ' := [(4, .pointer (some ⟨b23, 0, none⟩)), (15, .agg #[.int .i64 1, .int .i64 1])]) (by kernel_rfl) ?_
  refine t_sti 0 (cs := [.int .i64 1, .int .i64 1]) rfl rfl rfl rfl rfl rfl rfl rfl rfl ?_
  refine t_keep [4] (σ' := [(4, .pointer (some ⟨b23, 0, none⟩))]) (by kernel_rfl) ?_
  refine t_end ?_
  show W _ _ _ _ _ _ _
  refine w_ret ?_
  exact ⟨[.agg #[.int .i64 1, .int .i64 1]], [], S, ⟨⟨_, _, _, rfl, .at 0 rfl rfl, rfl⟩, trivial⟩, VS.none, rfl, rfl, rfl⟩

/-- plane.Dot -/
def c60 : C :=
  (.seq (.reg [⟨(some 3), .box (.tmp 0), none⟩,
     ⟨(some 4), .box (.tmp 1), none⟩,
     ⟨(some 5), .box (.tmp 2), none⟩,
     ⟨(some 6), .mv (.const (.int .i64 0)), none⟩])
  (.seq (.drw [⟨(some 9), .ld (some 2) (.tmp 4), none⟩,
     ⟨(some 10), .ld (some 2) (.tmp 3), none⟩,
     ⟨(some 11), .call 67 [(.tmp 9), (.tmp 10)], none⟩,
     ⟨(some 12), .ld (some 2) (.tmp 5), none⟩,
     ⟨(some 13), .ld (some 2) (.tmp 3), none⟩,
     ⟨(some 14), .call 67 [(.tmp 12), (.tmp 13)], none⟩,
     ⟨(some 7), .new [(.int .i64 0), (.int .i64 0)], none⟩,
     ⟨(some 8), .new [(.int .i64 0), (.int .i64 0)], none⟩,
     ⟨none, .st 2 (.tmp 7) (.tmp 11), none⟩,
     ⟨none, .st 2 (.tmp 8) (.tmp 14), none⟩] [[], [], [0, 1], [], [], [3, 4, 2], [], [], [6, 2, 5, 0, 1, 2, 6, 7], [7, 5, 8, 0, 1, 2, 3, 4, 5, 6, 7, 8]])
  (.seq (.reg [⟨(some 15), .pad 0 (.tmp 7), none⟩,
     ⟨(some 16), .ld none (.tmp 15), none⟩,
     ⟨(some 17), .pad 0 (.tmp 8), none⟩,
     ⟨(some 18), .ld none (.tmp 17), none⟩,
     ⟨(some 19), .bin .mul (.tmp 16) (.tmp 18), none⟩,
     ⟨(some 20), .pad 1 (.tmp 7), none⟩,
     ⟨(some 21), .ld none (.tmp 20), none⟩,
     ⟨(some 22), .pad 1 (.tmp 8), none⟩,
     ⟨(some 23), .ld none (.tmp 22), none⟩,
     ⟨(some 24), .bin .mul (.tmp 21) (.tmp 23), none⟩,
     ⟨(some 25), .bin .add (.tmp 19) (.tmp 24), none⟩,
     ⟨(some 6), .mv (.tmp 25), none⟩])
  .ret)))
def plane_Dot_v1.f  : Option (Unit) := (plane_Sub_v1.f).bind fun _ => ((plane_Sub_v2.f).bind fun _ => (some ()))
theorem plane_Dot_v1.ok {S : Seal}   (e : plane_Dot_v1.f  = some ()) :
    Cal Try.prog 60 [.agg #[.int .i64 0, .int .i64 0], .agg #[.int .i64 5, .int .i64 0], .agg #[.int .i64 1, .int .i64 1]] [] S fun v H' S' => v = .int .i64 5 ∧ H' = [] ∧ S' = S := by
  unfold plane_Dot_v1.f at e
  refine cal_of (c := c60) (N := 26) Try.func60 rfl rfl (by kernel_rfl) (rs := [.t 6]) (by kernel_rfl) (Nat.le_of_ble_eq_true rfl) ?_
  unfold c60
  refine w_seq ?_
  refine w_reg fun all => ?_
  refine t_a (.box rfl rfl rfl) fun b14 fb14 sb14 => ?_
  refine t_a (.box rfl rfl rfl) fun b15 fb15 sb15 => ?_
  refine t_a (.box rfl rfl rfl) fun b16 fb16 sb16 => ?_
  refine t_qz 1 [3, 4, 5] (σ' := [(3, .pointer (some ⟨b14, 0, none⟩)), (4, .pointer (some ⟨b15, 0, none⟩)), (5, .pointer (some ⟨b16, 0, none⟩))]) (by kernel_rfl) ?_
  refine t_end ?_
  show W _ _ _ _ _ _ _
  refine w_seq ?_
  obtain ⟨u_, h17, e⟩ := bind_of e
  obtain ⟨u_, h18, e⟩ := bind_of e
  refine w_drwE mixed 8 [.v (.agg #[.int .i64 5, .int .i64 0]), .v (.agg #[.int .i64 0, .int .i64 0]), .v (.agg #[.int .i64 5, .int .i64 0]), .v (.agg #[.int .i64 1, .int .i64 1]), .v (.agg #[.int .i64 0, .int .i64 0]), .v (.agg #[.int .i64 1, .int .i64 1]), .a [.int .i64 0, .int .i64 0] ptrTo, .a [.int .i64 0, .int .i64 0] ptrTo] (by kernel_rfl) ?_ ?_
  · refine .cons (.ldn rfl rfl rfl (.at 1 rfl rfl)) ?_
    refine .cons (.ldn rfl rfl rfl (.at 2 rfl rfl)) ?_
    refine .cons (.call (vs := [.agg #[.int .i64 5, .int .i64 0], .agg #[.int .i64 0, .int .i64 0]]) rfl rfl (by kernel_rfl) (plane_Sub_v1.ok h17)) ?_
    refine .cons (.ldn rfl rfl rfl (.at 0 rfl rfl)) ?_
    refine .cons (.ldn rfl rfl rfl (.at 2 rfl rfl)) ?_
    refine .cons (.call (vs := [.agg #[.int .i64 1, .int .i64 1], .agg #[.int .i64 0, .int .i64 0]]) rfl rfl (by kernel_rfl) (plane_Sub_v2.ok h18)) ?_
    refine .cons (.new rfl rfl) ?_
    refine .cons (.new rfl rfl) ?_
    exact .nil
  refine fk_q 6 [11, 14] (σ' := [(11, .agg #[.int .i64 5, .int .i64 0]), (14, .agg #[.int .i64 1, .int .i64 1])]) t_more (by kernel_rfl) ?_
  refine fk_a fun b19 fb19 sb19 => ?_
  refine fk_a fun b20 fb20 sb20 => ?_
  refine fk_nil fun all => ?_
  refine t_sti 1 (cs := [.int .i64 5, .int .i64 0]) rfl rfl rfl rfl rfl rfl rfl rfl rfl ?_
  refine t_sti 0 (cs := [.int .i64 1, .int .i64 1]) rfl rfl rfl rfl rfl rfl rfl rfl rfl ?_
  refine t_keep [7, 8] (σ' := [(7, .pointer (some ⟨b19, 0, none⟩)), (8, .pointer (some ⟨b20, 0, none⟩))]) (by kernel_rfl) ?_
  refine t_end ?_
  show W _ _ _ _ _ _ _
  refine w_seq ?_
  refine w_reg fun all => ?_
  refine t_qz 1 [7, 8, 15] (σ' := [(7, .pointer (some ⟨b19, 0, none⟩)), (8, .pointer (some ⟨b20, 0, none⟩)), (15, .pointer (some ⟨b19, 0, none⟩))]) (by kernel_rfl) ?_
  refine t_v (.ld1 rfl rfl rfl (.at 1 rfl rfl)) ?_
  refine t_qz 1 [7, 8, 16, 17] (σ' := [(7, .pointer (some ⟨b19, 0, none⟩)), (8, .pointer (some ⟨b20, 0, none⟩)), (16, .int .i64 5), (17, .pointer (some ⟨b20, 0, none⟩))]) (by kernel_rfl) ?_
  refine t_v (.ld1 rfl rfl rfl (.at 0 rfl rfl)) ?_
  refine t_qz 2 [8, 19, 20] (σ' := [(8, .pointer (some ⟨b20, 0, none⟩)), (19, .int .i64 5), (20, .pointer (some ⟨b19, 1, none⟩))]) (by kernel_rfl) ?_
  refine t_v (.ld1 rfl rfl rfl (.at 1 rfl rfl)) ?_
  refine t_qz 1 [19, 21, 22] (σ' := [(19, .int .i64 5), (21, .int .i64 0), (22, .pointer (some ⟨b20, 1, none⟩))]) (by kernel_rfl) ?_
  refine t_v (.ld1 rfl rfl rfl (.at 0 rfl rfl)) ?_
  refine t_qz 3 [6] (σ' := [(6, .int .i64 5)]) (by kernel_rfl) ?_
  refine t_end ?_
  show W _ _ _ _ _ _ _
  refine w_ret ?_
  exact ⟨[.int .i64 5], [], S, ⟨rfl, trivial⟩, VS.none, rfl, rfl, rfl⟩

def plane_Dot_v2.f  : Option (Unit) := (plane_Sub_v1.f).bind fun _ => ((plane_Sub_v1.f).bind fun _ => (some ()))
theorem plane_Dot_v2.ok {S : Seal}   (e : plane_Dot_v2.f  = some ()) :
    Cal Try.prog 60 [.agg #[.int .i64 0, .int .i64 0], .agg #[.int .i64 5, .int .i64 0], .agg #[.int .i64 5, .int .i64 0]] [] S fun v H' S' => v = .int .i64 25 ∧ H' = [] ∧ S' = S := by
  unfold plane_Dot_v2.f at e
  refine cal_of (c := c60) (N := 26) Try.func60 rfl rfl (by kernel_rfl) (rs := [.t 6]) (by kernel_rfl) (Nat.le_of_ble_eq_true rfl) ?_
  unfold c60
  refine w_seq ?_
  refine w_reg fun all => ?_
  refine t_a (.box rfl rfl rfl) fun b24 fb24 sb24 => ?_
  refine t_a (.box rfl rfl rfl) fun b25 fb25 sb25 => ?_
  refine t_a (.box rfl rfl rfl) fun b26 fb26 sb26 => ?_
  refine t_qz 1 [3, 4, 5] (σ' := [(3, .pointer (some ⟨b24, 0, none⟩)), (4, .pointer (some ⟨b25, 0, none⟩)), (5, .pointer (some ⟨b26, 0, none⟩))]) (by kernel_rfl) ?_
  refine t_end ?_
  show W _ _ _ _ _ _ _
  refine w_seq ?_
  obtain ⟨u_, h27, e⟩ := bind_of e
  obtain ⟨u_, h28, e⟩ := bind_of e
  refine w_drwE mixed 8 [.v (.agg #[.int .i64 5, .int .i64 0]), .v (.agg #[.int .i64 0, .int .i64 0]), .v (.agg #[.int .i64 5, .int .i64 0]), .v (.agg #[.int .i64 5, .int .i64 0]), .v (.agg #[.int .i64 0, .int .i64 0]), .v (.agg #[.int .i64 5, .int .i64 0]), .a [.int .i64 0, .int .i64 0] ptrTo, .a [.int .i64 0, .int .i64 0] ptrTo] (by kernel_rfl) ?_ ?_
  · refine .cons (.ldn rfl rfl rfl (.at 1 rfl rfl)) ?_
    refine .cons (.ldn rfl rfl rfl (.at 2 rfl rfl)) ?_
    refine .cons (.call (vs := [.agg #[.int .i64 5, .int .i64 0], .agg #[.int .i64 0, .int .i64 0]]) rfl rfl (by kernel_rfl) (plane_Sub_v1.ok h27)) ?_
    refine .cons (.ldn rfl rfl rfl (.at 0 rfl rfl)) ?_
    refine .cons (.ldn rfl rfl rfl (.at 2 rfl rfl)) ?_
    refine .cons (.call (vs := [.agg #[.int .i64 5, .int .i64 0], .agg #[.int .i64 0, .int .i64 0]]) rfl rfl (by kernel_rfl) (plane_Sub_v1.ok h28)) ?_
    refine .cons (.new rfl rfl) ?_
    refine .cons (.new rfl rfl) ?_
    exact .nil
  refine fk_q 6 [11, 14] (σ' := [(11, .agg #[.int .i64 5, .int .i64 0]), (14, .agg #[.int .i64 5, .int .i64 0])]) t_more (by kernel_rfl) ?_
  refine fk_a fun b29 fb29 sb29 => ?_
  refine fk_a fun b30 fb30 sb30 => ?_
  refine fk_nil fun all => ?_
  refine t_sti 1 (cs := [.int .i64 5, .int .i64 0]) rfl rfl rfl rfl rfl rfl rfl rfl rfl ?_
  refine t_sti 0 (cs := [.int .i64 5, .int .i64 0]) rfl rfl rfl rfl rfl rfl rfl rfl rfl ?_
  refine t_keep [7, 8] (σ' := [(7, .pointer (some ⟨b29, 0, none⟩)), (8, .pointer (some ⟨b30, 0, none⟩))]) (by kernel_rfl) ?_
  refine t_end ?_
  show W _ _ _ _ _ _ _
  refine w_seq ?_
  refine w_reg fun all => ?_
  refine t_qz 1 [7, 8, 15] (σ' := [(7, .pointer (some ⟨b29, 0, none⟩)), (8, .pointer (some ⟨b30, 0, none⟩)), (15, .pointer (some ⟨b29, 0, none⟩))]) (by kernel_rfl) ?_
  refine t_v (.ld1 rfl rfl rfl (.at 1 rfl rfl)) ?_
  refine t_qz 1 [7, 8, 16, 17] (σ' := [(7, .pointer (some ⟨b29, 0, none⟩)), (8, .pointer (some ⟨b30, 0, none⟩)), (16, .int .i64 5), (17, .pointer (some ⟨b30, 0, none⟩))]) (by kernel_rfl) ?_
  refine t_v (.ld1 rfl rfl rfl (.at 0 rfl rfl)) ?_
  refine t_qz 2 [8, 19, 20] (σ' := [(8, .pointer (some ⟨b30, 0, none⟩)), (19, .int .i64 25), (20, .pointer (some ⟨b29, 1, none⟩))]) (by kernel_rfl) ?_
  refine t_v (.ld1 rfl rfl rfl (.at 1 rfl rfl)) ?_
  refine t_qz 1 [19, 21, 22] (σ' := [(19, .int .i64 25), (21, .int .i64 0), (22, .pointer (some ⟨b30, 1, none⟩))]) (by kernel_rfl) ?_
  refine t_v (.ld1 rfl rfl rfl (.at 0 rfl rfl)) ?_
  refine t_qz 3 [6] (σ' := [(6, .int .i64 25)]) (by kernel_rfl) ?_
  refine t_end ?_
  show W _ _ _ _ _ _ _
  refine w_ret ?_
  exact ⟨[.int .i64 25], [], S, ⟨rfl, trivial⟩, VS.none, rfl, rfl, rfl⟩

/-- plane.Len2 -/
def c61 : C :=
  (.seq (.reg [⟨(some 2), .box (.tmp 0), none⟩,
     ⟨(some 3), .box (.tmp 1), none⟩,
     ⟨(some 4), .mv (.const (.int .i64 0)), none⟩])
  (.seq (.reg [⟨(some 5), .ld (some 2) (.tmp 2), none⟩,
     ⟨(some 6), .ld (some 2) (.tmp 3), none⟩,
     ⟨(some 7), .ld (some 2) (.tmp 3), none⟩,
     ⟨(some 8), .call 60 [(.tmp 5), (.tmp 6), (.tmp 7)], none⟩,
     ⟨(some 4), .mv (.tmp 8), none⟩])
  .ret))
def plane_Len2_v1.f  : Option (Unit) := (plane_Dot_v2.f).bind fun _ => (some ())
theorem plane_Len2_v1.ok {S : Seal}   (e : plane_Len2_v1.f  = some ()) :
    Cal Try.prog 61 [.agg #[.int .i64 0, .int .i64 0], .agg #[.int .i64 5, .int .i64 0]] [] S fun v H' S' => v = .int .i64 25 ∧ H' = [] ∧ S' = S := by
  unfold plane_Len2_v1.f at e
  refine cal_of (c := c61) (N := 9) Try.func61 rfl rfl (by kernel_rfl) (rs := [.t 4]) (by kernel_rfl) (Nat.le_of_ble_eq_true rfl) ?_
  unfold c61
  refine w_seq ?_
  refine w_reg fun all => ?_
  refine t_a (.box rfl rfl rfl) fun b22 fb22 sb22 => ?_
  refine t_a (.box rfl rfl rfl) fun b23 fb23 sb23 => ?_
  refine t_qz 1 [2, 3] (σ' := [(2, .pointer (some ⟨b22, 0, none⟩)), (3, .pointer (some ⟨b23, 0, none⟩))]) (by kernel_rfl) ?_
  refine t_end ?_
  show W _ _ _ _ _ _ _
  refine w_seq ?_
  refine w_reg fun all => ?_
  refine t_v (.ldn rfl rfl rfl (.at 1 rfl rfl)) ?_
  refine t_v (.ldn rfl rfl rfl (.at 0 rfl rfl)) ?_
  refine t_v (.ldn rfl rfl rfl (.at 0 rfl rfl)) ?_
  obtain ⟨u_, h31, e⟩ := bind_of e
  refine t_v (.call (vs := [.agg #[.int .i64 0, .int .i64 0], .agg #[.int .i64 5, .int .i64 0], .agg #[.int .i64 5, .int .i64 0]]) rfl rfl (by kernel_rfl) (plane_Dot_v2.ok h31)) ?_
  refine t_qz 1 [4] (σ' := [(4, .int .i64 25)]) (by kernel_rfl) ?_
  refine t_end ?_
  show W _ _ _ _ _ _ _
  refine w_ret ?_
  exact ⟨[.int .i64 25], [], S, ⟨rfl, trivial⟩, VS.none, rfl, rfl, rfl⟩

/-- plane.Cross -/
def c63 : C :=
  (.seq (.reg [⟨(some 3), .box (.tmp 0), none⟩,
     ⟨(some 4), .box (.tmp 1), none⟩,
     ⟨(some 5), .box (.tmp 2), none⟩,
     ⟨(some 6), .mv (.const (.int .i64 0)), none⟩])
  (.seq (.drw [⟨(some 9), .ld (some 2) (.tmp 4), none⟩,
     ⟨(some 10), .ld (some 2) (.tmp 3), none⟩,
     ⟨(some 11), .call 67 [(.tmp 9), (.tmp 10)], none⟩,
     ⟨(some 12), .ld (some 2) (.tmp 5), none⟩,
     ⟨(some 13), .ld (some 2) (.tmp 3), none⟩,
     ⟨(some 14), .call 67 [(.tmp 12), (.tmp 13)], none⟩,
     ⟨(some 7), .new [(.int .i64 0), (.int .i64 0)], none⟩,
     ⟨(some 8), .new [(.int .i64 0), (.int .i64 0)], none⟩,
     ⟨none, .st 2 (.tmp 7) (.tmp 11), none⟩,
     ⟨none, .st 2 (.tmp 8) (.tmp 14), none⟩] [[], [], [0, 1], [], [], [3, 4, 2], [], [], [6, 2, 5, 0, 1, 2, 6, 7], [7, 5, 8, 0, 1, 2, 3, 4, 5, 6, 7, 8]])
  (.seq (.reg [⟨(some 15), .pad 0 (.tmp 7), none⟩,
     ⟨(some 16), .ld none (.tmp 15), none⟩,
     ⟨(some 17), .pad 1 (.tmp 8), none⟩,
     ⟨(some 18), .ld none (.tmp 17), none⟩,
     ⟨(some 19), .bin .mul (.tmp 16) (.tmp 18), none⟩,
     ⟨(some 20), .pad 1 (.tmp 7), none⟩,
     ⟨(some 21), .ld none (.tmp 20), none⟩,
     ⟨(some 22), .pad 0 (.tmp 8), none⟩,
     ⟨(some 23), .ld none (.tmp 22), none⟩,
     ⟨(some 24), .bin .mul (.tmp 21) (.tmp 23), none⟩,
     ⟨(some 25), .bin .sub (.tmp 19) (.tmp 24), none⟩,
     ⟨(some 6), .mv (.tmp 25), none⟩])
  .ret)))
def plane_Cross_v1.f  : Option (Unit) := (plane_Sub_v1.f).bind fun _ => ((plane_Sub_v2.f).bind fun _ => (some ()))
theorem plane_Cross_v1.ok {S : Seal}   (e : plane_Cross_v1.f  = some ()) :
    Cal Try.prog 63 [.agg #[.int .i64 0, .int .i64 0], .agg #[.int .i64 5, .int .i64 0], .agg #[.int .i64 1, .int .i64 1]] [] S fun v H' S' => v = .int .i64 5 ∧ H' = [] ∧ S' = S := by
  unfold plane_Cross_v1.f at e
  refine cal_of (c := c63) (N := 26) Try.func63 rfl rfl (by kernel_rfl) (rs := [.t 6]) (by kernel_rfl) (Nat.le_of_ble_eq_true rfl) ?_
  unfold c63
  refine w_seq ?_
  refine w_reg fun all => ?_
  refine t_a (.box rfl rfl rfl) fun b16 fb16 sb16 => ?_
  refine t_a (.box rfl rfl rfl) fun b17 fb17 sb17 => ?_
  refine t_a (.box rfl rfl rfl) fun b18 fb18 sb18 => ?_
  refine t_qz 1 [3, 4, 5] (σ' := [(3, .pointer (some ⟨b16, 0, none⟩)), (4, .pointer (some ⟨b17, 0, none⟩)), (5, .pointer (some ⟨b18, 0, none⟩))]) (by kernel_rfl) ?_
  refine t_end ?_
  show W _ _ _ _ _ _ _
  refine w_seq ?_
  obtain ⟨u_, h19, e⟩ := bind_of e
  obtain ⟨u_, h20, e⟩ := bind_of e
  refine w_drwE mixed 8 [.v (.agg #[.int .i64 5, .int .i64 0]), .v (.agg #[.int .i64 0, .int .i64 0]), .v (.agg #[.int .i64 5, .int .i64 0]), .v (.agg #[.int .i64 1, .int .i64 1]), .v (.agg #[.int .i64 0, .int .i64 0]), .v (.agg #[.int .i64 1, .int .i64 1]), .a [.int .i64 0, .int .i64 0] ptrTo, .a [.int .i64 0, .int .i64 0] ptrTo] (by kernel_rfl) ?_ ?_
  · refine .cons (.ldn rfl rfl rfl (.at 1 rfl rfl)) ?_
    refine .cons (.ldn rfl rfl rfl (.at 2 rfl rfl)) ?_
    refine .cons (.call (vs := [.agg #[.int .i64 5, .int .i64 0], .agg #[.int .i64 0, .int .i64 0]]) rfl rfl (by kernel_rfl) (plane_Sub_v1.ok h19)) ?_
    refine .cons (.ldn rfl rfl rfl (.at 0 rfl rfl)) ?_
    refine .cons (.ldn rfl rfl rfl (.at 2 rfl rfl)) ?_
    refine .cons (.call (vs := [.agg #[.int .i64 1, .int .i64 1], .agg #[.int .i64 0, .int .i64 0]]) rfl rfl (by kernel_rfl) (plane_Sub_v2.ok h20)) ?_
    refine .cons (.new rfl rfl) ?_
    refine .cons (.new rfl rfl) ?_
    exact .nil
  refine fk_q 6 [11, 14] (σ' := [(11, .agg #[.int .i64 5, .int .i64 0]), (14, .agg #[.int .i64 1, .int .i64 1])]) t_more (by kernel_rfl) ?_
  refine fk_a fun b21 fb21 sb21 => ?_
  refine fk_a fun b22 fb22 sb22 => ?_
  refine fk_nil fun all => ?_
  refine t_sti 1 (cs := [.int .i64 5, .int .i64 0]) rfl rfl rfl rfl rfl rfl rfl rfl rfl ?_
  refine t_sti 0 (cs := [.int .i64 1, .int .i64 1]) rfl rfl rfl rfl rfl rfl rfl rfl rfl ?_
  refine t_keep [7, 8] (σ' := [(7, .pointer (some ⟨b21, 0, none⟩)), (8, .pointer (some ⟨b22, 0, none⟩))]) (by kernel_rfl) ?_
  refine t_end ?_
  show W _ _ _ _ _ _ _
  refine w_seq ?_
  refine w_reg fun all => ?_
  refine t_qz 1 [7, 8, 15] (σ' := [(7, .pointer (some ⟨b21, 0, none⟩)), (8, .pointer (some ⟨b22, 0, none⟩)), (15, .pointer (some ⟨b21, 0, none⟩))]) (by kernel_rfl) ?_
  refine t_v (.ld1 rfl rfl rfl (.at 1 rfl rfl)) ?_
  refine t_qz 1 [7, 8, 16, 17] (σ' := [(7, .pointer (some ⟨b21, 0, none⟩)), (8, .pointer (some ⟨b22, 0, none⟩)), (16, .int .i64 5), (17, .pointer (some ⟨b22, 1, none⟩))]) (by kernel_rfl) ?_
  refine t_v (.ld1 rfl rfl rfl (.at 0 rfl rfl)) ?_
  refine t_qz 2 [8, 19, 20] (σ' := [(8, .pointer (some ⟨b22, 0, none⟩)), (19, .int .i64 5), (20, .pointer (some ⟨b21, 1, none⟩))]) (by kernel_rfl) ?_
  refine t_v (.ld1 rfl rfl rfl (.at 1 rfl rfl)) ?_
  refine t_qz 1 [19, 21, 22] (σ' := [(19, .int .i64 5), (21, .int .i64 0), (22, .pointer (some ⟨b22, 0, none⟩))]) (by kernel_rfl) ?_
  refine t_v (.ld1 rfl rfl rfl (.at 0 rfl rfl)) ?_
  refine t_qz 3 [6] (σ' := [(6, .int .i64 5)]) (by kernel_rfl) ?_
  refine t_end ?_
  show W _ _ _ _ _ _ _
  refine w_ret ?_
  exact ⟨[.int .i64 5], [], S, ⟨rfl, trivial⟩, VS.none, rfl, rfl, rfl⟩

/-- plane.within$1 -/
def c68 : C :=
  (.seq (.reg [⟨(some 2), .mv (.const (.int .u64 0)), none⟩])
  (.seq (.reg [⟨(some 3), .mv (.tmp 0), none⟩,
     ⟨(some 4), .mv (.tmp 0), none⟩,
     ⟨(some 5), .un .neg (.tmp 4), none⟩,
     ⟨(some 6), .mm true [(.tmp 3), (.tmp 5)], none⟩,
     ⟨(some 7), .cnv .u64 (.tmp 6), none⟩,
     ⟨(some 2), .mv (.tmp 7), none⟩])
  .ret))
def plane_within_1_v1.f  : Option (Unit) := some ()
theorem plane_within_1_v1.ok {S : Seal}   (e : plane_within_1_v1.f  = some ()) :
    Cal Try.prog 68 [.int .i64 10] [] S fun v H' S' => v = .int .u64 10 ∧ H' = [] ∧ S' = S := by
  unfold plane_within_1_v1.f at e
  refine cal_of (c := c68) (N := 8) Try.func68 rfl rfl (by kernel_rfl) (rs := [.t 2]) (by kernel_rfl) (Nat.le_of_ble_eq_true rfl) ?_
  unfold c68
  refine w_seq ?_
  refine w_reg fun all => ?_
  refine t_qz 1 [0] (σ' := [(0, .int .i64 10)]) (by kernel_rfl) ?_
  refine t_end ?_
  show W _ _ _ _ _ _ _
  refine w_seq ?_
  refine w_reg fun all => ?_
  refine t_qz 6 [2] (σ' := [(2, .int .u64 10)]) (by kernel_rfl) ?_
  refine t_end ?_
  show W _ _ _ _ _ _ _
  refine w_ret ?_
  exact ⟨[.int .u64 10], [], S, ⟨rfl, trivial⟩, VS.none, rfl, rfl, rfl⟩

/-- math/bits.Mul64 -/
def c58 : C :=
  (.seq (.reg [⟨(some 4), .mv (.const (.int .u64 0)), none⟩,
     ⟨(some 5), .mv (.const (.int .u64 0)), none⟩])
  (.seq (.reg [⟨(some 14), .mv (.tmp 0), none⟩,
     ⟨(some 15), .bin .and (.tmp 14) (.const (.int .u64 4294967295)), none⟩,
     ⟨(some 6), .mv (.tmp 15), none⟩])
  (.seq (.reg [⟨(some 16), .mv (.tmp 0), none⟩,
     ⟨(some 17), .bin .shr (.tmp 16) (.const (.int .u64 32)), none⟩,
     ⟨(some 7), .mv (.tmp 17), none⟩])
  (.seq (.reg [⟨(some 18), .mv (.tmp 1), none⟩,
     ⟨(some 19), .bin .and (.tmp 18) (.const (.int .u64 4294967295)), none⟩,
     ⟨(some 8), .mv (.tmp 19), none⟩])
  (.seq (.reg [⟨(some 20), .mv (.tmp 1), none⟩,
     ⟨(some 21), .bin .shr (.tmp 20) (.const (.int .u64 32)), none⟩,
     ⟨(some 9), .mv (.tmp 21), none⟩])
  (.seq (.reg [⟨(some 22), .mv (.tmp 6), none⟩,
     ⟨(some 23), .mv (.tmp 8), none⟩,
     ⟨(some 24), .bin .mul (.tmp 22) (.tmp 23), none⟩,
     ⟨(some 10), .mv (.tmp 24), none⟩])
  (.seq (.reg [⟨(some 25), .mv (.tmp 7), none⟩,
     ⟨(some 26), .mv (.tmp 8), none⟩,
     ⟨(some 27), .bin .mul (.tmp 25) (.tmp 26), none⟩,
     ⟨(some 28), .mv (.tmp 10), none⟩,
     ⟨(some 29), .bin .shr (.tmp 28) (.const (.int .u64 32)), none⟩,
     ⟨(some 30), .bin .add (.tmp 27) (.tmp 29), none⟩,
     ⟨(some 11), .mv (.tmp 30), none⟩])
  (.seq (.reg [⟨(some 31), .mv (.tmp 11), none⟩,
     ⟨(some 32), .bin .and (.tmp 31) (.const (.int .u64 4294967295)), none⟩,
     ⟨(some 12), .mv (.tmp 32), none⟩])
  (.seq (.reg [⟨(some 33), .mv (.tmp 11), none⟩,
     ⟨(some 34), .bin .shr (.tmp 33) (.const (.int .u64 32)), none⟩,
     ⟨(some 13), .mv (.tmp 34), none⟩])
  (.seq (.reg [⟨(some 35), .mv (.tmp 12), none⟩,
     ⟨(some 36), .mv (.tmp 6), none⟩,
     ⟨(some 37), .mv (.tmp 9), none⟩,
     ⟨(some 38), .bin .mul (.tmp 36) (.tmp 37), none⟩,
     ⟨(some 39), .bin .add (.tmp 35) (.tmp 38), none⟩,
     ⟨(some 12), .mv (.tmp 39), none⟩])
  (.seq (.reg [⟨(some 40), .mv (.tmp 7), none⟩,
     ⟨(some 41), .mv (.tmp 9), none⟩,
     ⟨(some 42), .bin .mul (.tmp 40) (.tmp 41), none⟩,
     ⟨(some 43), .mv (.tmp 13), none⟩,
     ⟨(some 44), .bin .add (.tmp 42) (.tmp 43), none⟩,
     ⟨(some 45), .mv (.tmp 12), none⟩,
     ⟨(some 46), .bin .shr (.tmp 45) (.const (.int .u64 32)), none⟩,
     ⟨(some 47), .bin .add (.tmp 44) (.tmp 46), none⟩,
     ⟨(some 4), .mv (.tmp 47), none⟩])
  (.seq (.reg [⟨(some 48), .mv (.tmp 0), none⟩,
     ⟨(some 49), .mv (.tmp 1), none⟩,
     ⟨(some 50), .bin .mul (.tmp 48) (.tmp 49), none⟩,
     ⟨(some 5), .mv (.tmp 50), none⟩])
  .ret))))))))))))
def bits_Mul64_v1.f  : Option (Unit) := some ()
theorem bits_Mul64_v1.ok {S : Seal}   (e : bits_Mul64_v1.f  = some ()) :
    Cal Try.prog 58 [.int .u64 10, .int .u64 10] [] S fun v H' S' => v = .tuple #[.int .u64 0, .int .u64 100] ∧ H' = [] ∧ S' = S := by
  unfold bits_Mul64_v1.f at e
  refine cal_of (c := c58) (N := 51) Try.func58 rfl rfl (by kernel_rfl) (rs := [.t 4, .t 5]) (by kernel_rfl) (Nat.le_of_ble_eq_true rfl) ?_
  unfold c58
  refine w_seq ?_
  refine w_reg fun all => ?_
  refine t_qz 2 [0, 1] (σ' := [(0, .int .u64 10), (1, .int .u64 10)]) (by kernel_rfl) ?_
  refine t_end ?_
  show W _ _ _ _ _ _ _
  refine w_seq ?_
  refine w_reg fun all => ?_
  refine t_qz 3 [0, 1, 6] (σ' := [(0, .int .u64 10), (1, .int .u64 10), (6, .int .u64 10)]) (by kernel_rfl) ?_
  refine t_end ?_
  show W _ _ _ _ _ _ _
  refine w_seq ?_
  refine w_reg fun all => ?_
  refine t_qz 3 [0, 1, 6, 7] (σ' := [(0, .int .u64 10), (1, .int .u64 10), (6, .int .u64 10), (7, .int .u64 0)]) (by kernel_rfl) ?_
  refine t_end ?_
  show W _ _ _ _ _ _ _
  refine w_seq ?_
  refine w_reg fun all => ?_
  refine t_qz 3 [0, 1, 6, 7, 8] (σ' := [(0, .int .u64 10), (1, .int .u64 10), (6, .int .u64 10), (7, .int .u64 0), (8, .int .u64 10)]) (by kernel_rfl) ?_
  refine t_end ?_
  show W _ _ _ _ _ _ _
  refine w_seq ?_
  refine w_reg fun all => ?_
  refine t_qz 3 [0, 1, 6, 7, 8, 9] (σ' := [(0, .int .u64 10), (1, .int .u64 10), (6, .int .u64 10), (7, .int .u64 0), (8, .int .u64 10), (9, .int .u64 0)]) (by kernel_rfl) ?_
  refine t_end ?_
  show W _ _ _ _ _ _ _
  refine w_seq ?_
  refine w_reg fun all => ?_
  refine t_qz 4 [0, 1, 6, 7, 8, 9, 10] (σ' := [(0, .int .u64 10), (1, .int .u64 10), (6, .int .u64 10), (7, .int .u64 0), (8, .int .u64 10), (9, .int .u64 0), (10, .int .u64 100)]) (by kernel_rfl) ?_
  refine t_end ?_
  show W _ _ _ _ _ _ _
  refine w_seq ?_
  refine w_reg fun all => ?_
  refine t_qz 7 [0, 1, 6, 7, 9, 11] (σ' := [(0, .int .u64 10), (1, .int .u64 10), (6, .int .u64 10), (7, .int .u64 0), (9, .int .u64 0), (11, .int .u64 0)]) (by kernel_rfl) ?_
  refine t_end ?_
  show W _ _ _ _ _ _ _
  refine w_seq ?_
  refine w_reg fun all => ?_
  refine t_qz 3 [0, 1, 6, 7, 9, 11, 12] (σ' := [(0, .int .u64 10), (1, .int .u64 10), (6, .int .u64 10), (7, .int .u64 0), (9, .int .u64 0), (11, .int .u64 0), (12, .int .u64 0)]) (by kernel_rfl) ?_
  refine t_end ?_
  show W _ _ _ _ _ _ _
  refine w_seq ?_
  refine w_reg fun all => ?_
  refine t_qz 3 [0, 1, 6, 7, 9, 12, 13] (σ' := [(0, .int .u64 10), (1, .int .u64 10), (6, .int .u64 10), (7, .int .u64 0), (9, .int .u64 0), (12, .int .u64 0), (13, .int .u64 0)]) (by kernel_rfl) ?_
  refine t_end ?_
  show W _ _ _ _ _ _ _
  refine w_seq ?_
  refine w_reg fun all => ?_
  refine t_qz 6 [0, 1, 7, 9, 12, 13] (σ' := [(0, .int .u64 10), (1, .int .u64 10), (7, .int .u64 0), (9, .int .u64 0), (12, .int .u64 0), (13, .int .u64 0)]) (by kernel_rfl) ?_
  refine t_end ?_
  show W _ _ _ _ _ _ _
  refine w_seq ?_
  refine w_reg fun all => ?_
  refine t_qz 9 [0, 1, 4] (σ' := [(0, .int .u64 10), (1, .int .u64 10), (4, .int .u64 0)]) (by kernel_rfl) ?_
  refine t_end ?_
  show W _ _ _ _ _ _ _
  refine w_seq ?_
  refine w_reg fun all => ?_
  refine t_qz 4 [4, 5] (σ' := [(4, .int .u64 0), (5, .int .u64 100)]) (by kernel_rfl) ?_
  refine t_end ?_
  show W _ _ _ _ _ _ _
  refine w_ret ?_
  exact ⟨[.int .u64 0, .int .u64 100], [], S, ⟨rfl, rfl, trivial⟩, VS.none, rfl, rfl, rfl⟩

def plane_within_1_v2.f  : Option (Unit) := some ()
theorem plane_within_1_v2.ok {S : Seal}   (e : plane_within_1_v2.f  = some ()) :
    Cal Try.prog 68 [.int .i64 4] [] S fun v H' S' => v = .int .u64 4 ∧ H' = [] ∧ S' = S := by
  unfold plane_within_1_v2.f at e
  refine cal_of (c := c68) (N := 8) Try.func68 rfl rfl (by kernel_rfl) (rs := [.t 2]) (by kernel_rfl) (Nat.le_of_ble_eq_true rfl) ?_
  unfold c68
  refine w_seq ?_
  refine w_reg fun all => ?_
  refine t_qz 1 [0] (σ' := [(0, .int .i64 4)]) (by kernel_rfl) ?_
  refine t_end ?_
  show W _ _ _ _ _ _ _
  refine w_seq ?_
  refine w_reg fun all => ?_
  refine t_qz 6 [2] (σ' := [(2, .int .u64 4)]) (by kernel_rfl) ?_
  refine t_end ?_
  show W _ _ _ _ _ _ _
  refine w_ret ?_
  exact ⟨[.int .u64 4], [], S, ⟨rfl, trivial⟩, VS.none, rfl, rfl, rfl⟩

def plane_within_1_v3.f  : Option (Unit) := some ()
theorem plane_within_1_v3.ok {S : Seal}   (e : plane_within_1_v3.f  = some ()) :
    Cal Try.prog 68 [.int .i64 25] [] S fun v H' S' => v = .int .u64 25 ∧ H' = [] ∧ S' = S := by
  unfold plane_within_1_v3.f at e
  refine cal_of (c := c68) (N := 8) Try.func68 rfl rfl (by kernel_rfl) (rs := [.t 2]) (by kernel_rfl) (Nat.le_of_ble_eq_true rfl) ?_
  unfold c68
  refine w_seq ?_
  refine w_reg fun all => ?_
  refine t_qz 1 [0] (σ' := [(0, .int .i64 25)]) (by kernel_rfl) ?_
  refine t_end ?_
  show W _ _ _ _ _ _ _
  refine w_seq ?_
  refine w_reg fun all => ?_
  refine t_qz 6 [2] (σ' := [(2, .int .u64 25)]) (by kernel_rfl) ?_
  refine t_end ?_
  show W _ _ _ _ _ _ _
  refine w_ret ?_
  exact ⟨[.int .u64 25], [], S, ⟨rfl, trivial⟩, VS.none, rfl, rfl, rfl⟩

def bits_Mul64_v2.f  : Option (Unit) := some ()
theorem bits_Mul64_v2.ok {S : Seal}   (e : bits_Mul64_v2.f  = some ()) :
    Cal Try.prog 58 [.int .u64 4, .int .u64 25] [] S fun v H' S' => v = .tuple #[.int .u64 0, .int .u64 100] ∧ H' = [] ∧ S' = S := by
  unfold bits_Mul64_v2.f at e
  refine cal_of (c := c58) (N := 51) Try.func58 rfl rfl (by kernel_rfl) (rs := [.t 4, .t 5]) (by kernel_rfl) (Nat.le_of_ble_eq_true rfl) ?_
  unfold c58
  refine w_seq ?_
  refine w_reg fun all => ?_
  refine t_qz 2 [0, 1] (σ' := [(0, .int .u64 4), (1, .int .u64 25)]) (by kernel_rfl) ?_
  refine t_end ?_
  show W _ _ _ _ _ _ _
  refine w_seq ?_
  refine w_reg fun all => ?_
  refine t_qz 3 [0, 1, 6] (σ' := [(0, .int .u64 4), (1, .int .u64 25), (6, .int .u64 4)]) (by kernel_rfl) ?_
  refine t_end ?_
  show W _ _ _ _ _ _ _
  refine w_seq ?_
  refine w_reg fun all => ?_
  refine t_qz 3 [0, 1, 6, 7] (σ' := [(0, .int .u64 4), (1, .int .u64 25), (6, .int .u64 4), (7, .int .u64 0)]) (by kernel_rfl) ?_
  refine t_end ?_
  show W _ _ _ _ _ _ _
  refine w_seq ?_
  refine w_reg fun all => ?_
  refine t_qz 3 [0, 1, 6, 7, 8] (σ' := [(0, .int .u64 4), (1, .int .u64 25), (6, .int .u64 4), (7, .int .u64 0), (8, .int .u64 25)]) (by kernel_rfl) ?_
  refine t_end ?_
  show W _ _ _ _ _ _ _
  refine w_seq ?_
  refine w_reg fun all => ?_
  refine t_qz 3 [0, 1, 6, 7, 8, 9] (σ' := [(0, .int .u64 4), (1, .int .u64 25), (6, .int .u64 4), (7, .int .u64 0), (8, .int .u64 25), (9, .int .u64 0)]) (by kernel_rfl) ?_
  refine t_end ?_
  show W _ _ _ _ _ _ _
  refine w_seq ?_
  refine w_reg fun all => ?_
  refine t_qz 4 [0, 1, 6, 7, 8, 9, 10] (σ' := [(0, .int .u64 4), (1, .int .u64 25), (6, .int .u64 4), (7, .int .u64 0), (8, .int .u64 25), (9, .int .u64 0), (10, .int .u64 100)]) (by kernel_rfl) ?_
  refine t_end ?_
  show W _ _ _ _ _ _ _
  refine w_seq ?_
  refine w_reg fun all => ?_
  refine t_qz 7 [0, 1, 6, 7, 9, 11] (σ' := [(0, .int .u64 4), (1, .int .u64 25), (6, .int .u64 4), (7, .int .u64 0), (9, .int .u64 0), (11, .int .u64 0)]) (by kernel_rfl) ?_
  refine t_end ?_
  show W _ _ _ _ _ _ _
  refine w_seq ?_
  refine w_reg fun all => ?_
  refine t_qz 3 [0, 1, 6, 7, 9, 11, 12] (σ' := [(0, .int .u64 4), (1, .int .u64 25), (6, .int .u64 4), (7, .int .u64 0), (9, .int .u64 0), (11, .int .u64 0), (12, .int .u64 0)]) (by kernel_rfl) ?_
  refine t_end ?_
  show W _ _ _ _ _ _ _
  refine w_seq ?_
  refine w_reg fun all => ?_
  refine t_qz 3 [0, 1, 6, 7, 9, 12, 13] (σ' := [(0, .int .u64 4), (1, .int .u64 25), (6, .int .u64 4), (7, .int .u64 0), (9, .int .u64 0), (12, .int .u64 0), (13, .int .u64 0)]) (by kernel_rfl) ?_
  refine t_end ?_
  show W _ _ _ _ _ _ _
  refine w_seq ?_
  refine w_reg fun all => ?_
  refine t_qz 6 [0, 1, 7, 9, 12, 13] (σ' := [(0, .int .u64 4), (1, .int .u64 25), (7, .int .u64 0), (9, .int .u64 0), (12, .int .u64 0), (13, .int .u64 0)]) (by kernel_rfl) ?_
  refine t_end ?_
  show W _ _ _ _ _ _ _
  refine w_seq ?_
  refine w_reg fun all => ?_
  refine t_qz 9 [0, 1, 4] (σ' := [(0, .int .u64 4), (1, .int .u64 25), (4, .int .u64 0)]) (by kernel_rfl) ?_
  refine t_end ?_
  show W _ _ _ _ _ _ _
  refine w_seq ?_
  refine w_reg fun all => ?_
  refine t_qz 4 [4, 5] (σ' := [(4, .int .u64 0), (5, .int .u64 100)]) (by kernel_rfl) ?_
  refine t_end ?_
  show W _ _ _ _ _ _ _
  refine w_ret ?_
  exact ⟨[.int .u64 0, .int .u64 100], [], S, ⟨rfl, rfl, trivial⟩, VS.none, rfl, rfl, rfl⟩

/-- plane.within -/
def c62 : C :=
  (.seq (.reg [⟨(some 8), .mv (.const (.bool false)), none⟩])
  (.seq (.reg [⟨(some 9), .mv (.func 68), none⟩])
  (.seq (.reg [⟨(some 15), .mv (.tmp 9), none⟩,
     ⟨(some 16), .mv (.tmp 0), none⟩,
     ⟨(some 17), .clo (.tmp 15) [(.tmp 16)], none⟩,
     ⟨(some 18), .mv (.tmp 9), none⟩,
     ⟨(some 19), .mv (.tmp 1), none⟩,
     ⟨(some 20), .clo (.tmp 18) [(.tmp 19)], none⟩,
     ⟨(some 21), .call 58 [(.tmp 17), (.tmp 20)], none⟩,
     ⟨(some 14), .mv (.tmp 21), none⟩,
     ⟨(some 22), .xt 0 (.tmp 14), none⟩,
     ⟨(some 23), .xt 1 (.tmp 14), none⟩,
     ⟨(some 10), .mv (.tmp 22), none⟩,
     ⟨(some 11), .mv (.tmp 23), none⟩])
  (.seq (.reg [⟨(some 25), .mv (.tmp 9), none⟩,
     ⟨(some 26), .mv (.tmp 2), none⟩,
     ⟨(some 27), .clo (.tmp 25) [(.tmp 26)], none⟩,
     ⟨(some 28), .mv (.tmp 9), none⟩,
     ⟨(some 29), .mv (.tmp 3), none⟩,
     ⟨(some 30), .clo (.tmp 28) [(.tmp 29)], none⟩,
     ⟨(some 31), .call 58 [(.tmp 27), (.tmp 30)], none⟩,
     ⟨(some 24), .mv (.tmp 31), none⟩,
     ⟨(some 32), .xt 0 (.tmp 24), none⟩,
     ⟨(some 33), .xt 1 (.tmp 24), none⟩,
     ⟨(some 12), .mv (.tmp 32), none⟩,
     ⟨(some 13), .mv (.tmp 33), none⟩])
  (.seq (.reg [⟨(some 34), .mv (.tmp 10), none⟩,
     ⟨(some 35), .mv (.tmp 12), none⟩,
     ⟨(some 36), .bin .lss (.tmp 34) (.tmp 35), none⟩,
     ⟨(some 37), .mv (.tmp 36), none⟩,
     ⟨(some 38), .mv (.tmp 10), (some (37, false))⟩,
     ⟨(some 39), .mv (.tmp 12), (some (37, false))⟩,
     ⟨(some 40), .bin .eql (.tmp 38) (.tmp 39), (some (37, false))⟩,
     ⟨(some 41), .mv (.tmp 40), (some (37, false))⟩,
     ⟨(some 42), .mv (.tmp 11), (some (41, true))⟩,
     ⟨(some 43), .mv (.tmp 13), (some (41, true))⟩,
     ⟨(some 44), .bin .leq (.tmp 42) (.tmp 43), (some (41, true))⟩,
     ⟨(some 45), .pk (.tmp 41) (.tmp 44) (.const (.bool false)), (some (37, false))⟩,
     ⟨(some 46), .pk (.tmp 37) (.const (.bool true)) (.tmp 45), none⟩,
     ⟨(some 8), .mv (.tmp 46), none⟩])
  .ret)))))
def plane_within_v1.f  : Option (Unit) := (plane_within_1_v1.f).bind fun _ => ((plane_within_1_v1.f).bind fun _ => ((bits_Mul64_v1.f).bind fun _ => ((plane_within_1_v2.f).bind fun _ => ((plane_within_1_v3.f).bind fun _ => ((bits_Mul64_v2.f).bind fun _ => (some ()))))))
theorem plane_within_v1.ok {S : Seal}   (e : plane_within_v1.f  = some ()) :
    Cal Try.prog 62 [.int .i64 10, .int .i64 10, .int .i64 4, .int .i64 25] [] S fun v H' S' => v = .bool true ∧ H' = [] ∧ S' = S := by
  unfold plane_within_v1.f at e
  refine cal_of (c := c62) (N := 47) Try.func62 rfl rfl (by kernel_rfl) (rs := [.t 8]) (by kernel_rfl) (Nat.le_of_ble_eq_true rfl) ?_
  unfold c62
  refine w_seq ?_
  refine w_reg fun all => ?_
  refine t_qz 1 [0, 1, 2, 3] (σ' := [(0, .int .i64 10), (1, .int .i64 10), (2, .int .i64 4), (3, .int .i64 25)]) (by kernel_rfl) ?_
  refine t_end ?_
  show W _ _ _ _ _ _ _
  refine w_seq ?_
  refine w_reg fun all => ?_
  refine t_qz 1 [0, 1, 2, 3, 9] (σ' := [(0, .int .i64 10), (1, .int .i64 10), (2, .int .i64 4), (3, .int .i64 25), (9, .func (.func 68) #[] #[])]) (by kernel_rfl) ?_
  refine t_end ?_
  show W _ _ _ _ _ _ _
  refine w_seq ?_
  refine w_reg fun all => ?_
  obtain ⟨u_, h24, e⟩ := bind_of e
  refine t_qz 2 [1, 2, 3, 9, 15, 16] (σ' := [(1, .int .i64 10), (2, .int .i64 4), (3, .int .i64 25), (9, .func (.func 68) #[] #[]), (15, .func (.func 68) #[] #[]), (16, .int .i64 10)]) (by kernel_rfl) ?_
  refine t_v (.clor (vs := [.int .i64 10]) (caps := #[]) (A := ([] : List Own)) (F0 := ([] : List Own)) rfl rfl rfl (by kernel_rfl) (by kernel_rfl) (sel_perm (is := []) (by kernel_rfl)) (plane_within_1_v1.ok h24)) ?_
  obtain ⟨u_, h25, e⟩ := bind_of e
  refine t_qz 2 [2, 3, 9, 17, 18, 19] (σ' := [(2, .int .i64 4), (3, .int .i64 25), (9, .func (.func 68) #[] #[]), (17, .int .u64 10), (18, .func (.func 68) #[] #[]), (19, .int .i64 10)]) (by kernel_rfl) ?_
  refine t_v (.clor (vs := [.int .i64 10]) (caps := #[]) (A := ([] : List Own)) (F0 := ([] : List Own)) rfl rfl rfl (by kernel_rfl) (by kernel_rfl) (sel_perm (is := []) (by kernel_rfl)) (plane_within_1_v1.ok h25)) ?_
  obtain ⟨u_, h26, e⟩ := bind_of e
  refine t_v (.call (vs := [.int .u64 10, .int .u64 10]) rfl rfl (by kernel_rfl) (bits_Mul64_v1.ok h26)) ?_
  refine t_qz 5 [2, 3, 9, 10, 11] (σ' := [(2, .int .i64 4), (3, .int .i64 25), (9, .func (.func 68) #[] #[]), (10, .int .u64 0), (11, .int .u64 100)]) (by kernel_rfl) ?_
  refine t_end ?_
  show W _ _ _ _ _ _ _
  refine w_seq ?_
  refine w_reg fun all => ?_
  obtain ⟨u_, h27, e⟩ := bind_of e
  refine t_qz 2 [3, 9, 10, 11, 25, 26] (σ' := [(3, .int .i64 25), (9, .func (.func 68) #[] #[]), (10, .int .u64 0), (11, .int .u64 100), (25, .func (.func 68) #[] #[]), (26, .int .i64 4)]) (by kernel_rfl) ?_
  refine t_v (.clor (vs := [.int .i64 4]) (caps := #[]) (A := ([] : List Own)) (F0 := ([] : List Own)) rfl rfl rfl (by kernel_rfl) (by kernel_rfl) (sel_perm (is := []) (by kernel_rfl)) (plane_within_1_v2.ok h27)) ?_
  obtain ⟨u_, h28, e⟩ := bind_of e
  refine t_qz 2 [10, 11, 27, 28, 29] (σ' := [(10, .int .u64 0), (11, .int .u64 100), (27, .int .u64 4), (28, .func (.func 68) #[] #[]), (29, .int .i64 25)]) (by kernel_rfl) ?_
  refine t_v (.clor (vs := [.int .i64 25]) (caps := #[]) (A := ([] : List Own)) (F0 := ([] : List Own)) rfl rfl rfl (by kernel_rfl) (by kernel_rfl) (sel_perm (is := []) (by kernel_rfl)) (plane_within_1_v3.ok h28)) ?_
  obtain ⟨u_, h29, e⟩ := bind_of e
  refine t_v (.call (vs := [.int .u64 4, .int .u64 25]) rfl rfl (by kernel_rfl) (bits_Mul64_v2.ok h29)) ?_
  refine t_qz 5 [10, 11, 12, 13] (σ' := [(10, .int .u64 0), (11, .int .u64 100), (12, .int .u64 0), (13, .int .u64 100)]) (by kernel_rfl) ?_
  refine t_end ?_
  show W _ _ _ _ _ _ _
  refine w_seq ?_
  refine w_reg fun all => ?_
  refine t_qz 14 [8] (σ' := [(8, .bool true)]) (by kernel_rfl) ?_
  refine t_end ?_
  show W _ _ _ _ _ _ _
  refine w_ret ?_
  exact ⟨[.bool true], [], S, ⟨rfl, trivial⟩, VS.none, rfl, rfl, rfl⟩

/-- plane.Near -/
def c41 : C :=
  (.seq (.reg [⟨(some 4), .box (.tmp 0), none⟩,
     ⟨(some 5), .box (.tmp 1), none⟩,
     ⟨(some 6), .box (.tmp 2), none⟩,
     ⟨(some 8), .mv (.const (.bool false)), none⟩])
  (.seq (.drw [⟨(some 12), .ld (some 2) (.tmp 4), none⟩,
     ⟨(some 13), .ld (some 2) (.tmp 5), none⟩,
     ⟨(some 14), .ld (some 2) (.tmp 6), none⟩,
     ⟨(some 15), .call 60 [(.tmp 12), (.tmp 13), (.tmp 14)], none⟩,
     ⟨(some 16), .ld (some 2) (.tmp 4), none⟩,
     ⟨(some 17), .ld (some 2) (.tmp 5), none⟩,
     ⟨(some 18), .call 61 [(.tmp 16), (.tmp 17)], none⟩,
     ⟨(some 9), .mv (.tmp 15), none⟩,
     ⟨(some 10), .mv (.tmp 18), none⟩] [[], [], [], [0, 1, 2], [], [], [4, 5, 3], [3, 6, 0, 1, 2, 3], [6, 7, 0, 1, 2, 3, 4, 5, 6, 7]])
  (.seq (.block 0 (.seq (.reg [⟨(some 20), .mv (.tmp 9), none⟩,
       ⟨(some 21), .bin .leq (.tmp 20) (.const (.int .i64 0)), none⟩,
       ⟨(some 19), .mv (.tmp 21), none⟩])
    (.cond (.tmp 19)
     (.seq (.reg [⟨(some 22), .ld (some 2) (.tmp 4), none⟩,
         ⟨(some 23), .ld (some 2) (.tmp 6), none⟩,
         ⟨(some 24), .call 61 [(.tmp 22), (.tmp 23)], none⟩,
         ⟨(some 25), .mv (.tmp 3), none⟩,
         ⟨(some 26), .mv (.tmp 3), none⟩,
         ⟨(some 27), .call 62 [(.const (.int .i64 4)), (.tmp 24), (.tmp 25), (.tmp 26)], none⟩,
         ⟨(some 8), .mv (.tmp 27), none⟩])
      .ret)
     (.seq (.reg [⟨(some 29), .mv (.tmp 9), none⟩,
         ⟨(some 30), .mv (.tmp 10), none⟩,
         ⟨(some 31), .bin .geq (.tmp 29) (.tmp 30), none⟩,
         ⟨(some 28), .mv (.tmp 31), none⟩])
      (.cond (.tmp 28)
       (.seq (.reg [⟨(some 32), .ld (some 2) (.tmp 5), none⟩,
           ⟨(some 33), .ld (some 2) (.tmp 6), none⟩,
           ⟨(some 34), .call 61 [(.tmp 32), (.tmp 33)], none⟩,
           ⟨(some 35), .mv (.tmp 3), none⟩,
           ⟨(some 36), .mv (.tmp 3), none⟩,
           ⟨(some 37), .call 62 [(.const (.int .i64 4)), (.tmp 34), (.tmp 35), (.tmp 36)], none⟩,
           ⟨(some 8), .mv (.tmp 37), none⟩])
        .ret)
       .skip)))))
  (.seq (.reg [⟨(some 38), .ld (some 2) (.tmp 4), none⟩,
     ⟨(some 39), .ld (some 2) (.tmp 5), none⟩,
     ⟨(some 40), .ld (some 2) (.tmp 6), none⟩,
     ⟨(some 41), .call 63 [(.tmp 38), (.tmp 39), (.tmp 40)], none⟩,
     ⟨(some 42), .bin .mul (.const (.int .i64 2)) (.tmp 41), none⟩,
     ⟨(some 11), .mv (.tmp 42), none⟩])
  (.seq (.reg [⟨(some 43), .mv (.tmp 11), none⟩,
     ⟨(some 44), .mv (.tmp 11), none⟩,
     ⟨(some 45), .mv (.tmp 3), none⟩,
     ⟨(some 46), .mv (.tmp 3), none⟩,
     ⟨(some 47), .bin .mul (.tmp 45) (.tmp 46), none⟩,
     ⟨(some 48), .mv (.tmp 10), none⟩,
     ⟨(some 49), .call 62 [(.tmp 43), (.tmp 44), (.tmp 47), (.tmp 48)], none⟩,
     ⟨(some 8), .mv (.tmp 49), none⟩])
  .ret)))))
def plane_Near_v1.f  : Option (Unit) := (plane_Dot_v1.f).bind fun _ => ((plane_Len2_v1.f).bind fun _ => ((plane_Cross_v1.f).bind fun _ => ((plane_within_v1.f).bind fun _ => (some ()))))
theorem plane_Near_v1.ok {S : Seal}   (e : plane_Near_v1.f  = some ()) :
    Cal Try.prog 41 [.agg #[.int .i64 0, .int .i64 0], .agg #[.int .i64 5, .int .i64 0], .agg #[.int .i64 1, .int .i64 1], .int .i64 2] [] S fun v H' S' => v = .bool true ∧ H' = [] ∧ S' = S := by
  unfold plane_Near_v1.f at e
  refine cal_of (c := c41) (N := 50) Try.func41 rfl rfl (by kernel_rfl) (rs := [.t 8]) (by kernel_rfl) (Nat.le_of_ble_eq_true rfl) ?_
  unfold c41
  refine w_seq ?_
  refine w_reg fun all => ?_
  refine t_a (.box rfl rfl rfl) fun b11 fb11 sb11 => ?_
  refine t_a (.box rfl rfl rfl) fun b12 fb12 sb12 => ?_
  refine t_a (.box rfl rfl rfl) fun b13 fb13 sb13 => ?_
  refine t_qz 1 [3, 4, 5, 6] (σ' := [(3, .int .i64 2), (4, .pointer (some ⟨b11, 0, none⟩)), (5, .pointer (some ⟨b12, 0, none⟩)), (6, .pointer (some ⟨b13, 0, none⟩))]) (by kernel_rfl) ?_
  refine t_end ?_
  show W _ _ _ _ _ _ _
  refine w_seq ?_
  obtain ⟨u_, h14, e⟩ := bind_of e
  obtain ⟨u_, h15, e⟩ := bind_of e
  refine w_drwE mixed 9 [.v (.agg #[.int .i64 0, .int .i64 0]), .v (.agg #[.int .i64 5, .int .i64 0]), .v (.agg #[.int .i64 1, .int .i64 1]), .v (.int .i64 5), .v (.agg #[.int .i64 0, .int .i64 0]), .v (.agg #[.int .i64 5, .int .i64 0]), .v (.int .i64 25), .v (.int .i64 5), .v (.int .i64 25)] (by kernel_rfl) ?_ ?_
  · refine .cons (.ldn rfl rfl rfl (.at 2 rfl rfl)) ?_
    refine .cons (.ldn rfl rfl rfl (.at 1 rfl rfl)) ?_
    refine .cons (.ldn rfl rfl rfl (.at 0 rfl rfl)) ?_
    refine .cons (.call (vs := [.agg #[.int .i64 0, .int .i64 0], .agg #[.int .i64 5, .int .i64 0], .agg #[.int .i64 1, .int .i64 1]]) rfl rfl (by kernel_rfl) (plane_Dot_v1.ok h14)) ?_
    refine .cons (.ldn rfl rfl rfl (.at 2 rfl rfl)) ?_
    refine .cons (.ldn rfl rfl rfl (.at 1 rfl rfl)) ?_
    refine .cons (.call (vs := [.agg #[.int .i64 0, .int .i64 0], .agg #[.int .i64 5, .int .i64 0]]) rfl rfl (by kernel_rfl) (plane_Len2_v1.ok h15)) ?_
    refine DI.sq 2 (by kernel_rfl) rfl ?_
    exact .nil
  refine fk_q 9 [3, 4, 5, 6, 9, 10] (σ' := [(3, .int .i64 2), (4, .pointer (some ⟨b11, 0, none⟩)), (5, .pointer (some ⟨b12, 0, none⟩)), (6, .pointer (some ⟨b13, 0, none⟩)), (9, .int .i64 5), (10, .int .i64 25)]) t_more (by kernel_rfl) ?_
  refine fk_nil fun all => ?_
  refine t_keep [3, 4, 5, 6, 9, 10] (σ' := [(3, .int .i64 2), (4, .pointer (some ⟨b11, 0, none⟩)), (5, .pointer (some ⟨b12, 0, none⟩)), (6, .pointer (some ⟨b13, 0, none⟩)), (9, .int .i64 5), (10, .int .i64 25)]) (by kernel_rfl) ?_
  refine t_end ?_
  show W _ _ _ _ _ _ _
  refine w_seq ?_
  refine w_block ?_
  refine w_seq ?_
  refine w_reg fun all => ?_
  refine t_qz 3 [3, 4, 5, 6, 9, 10, 19] (σ' := [(3, .int .i64 2), (4, .pointer (some ⟨b11, 0, none⟩)), (5, .pointer (some ⟨b12, 0, none⟩)), (6, .pointer (some ⟨b13, 0, none⟩)), (9, .int .i64 5), (10, .int .i64 25), (19, .bool false)]) (by kernel_rfl) ?_
  refine t_end ?_
  show W _ _ _ _ _ _ _
  refine w_cond rfl (fun c_ => by cases c_) (fun _ => ?_)
  show W _ _ _ _ _ _ _
  refine w_seq ?_
  refine w_reg fun all => ?_
  refine t_qz 4 [3, 4, 5, 6, 10, 28] (σ' := [(3, .int .i64 2), (4, .pointer (some ⟨b11, 0, none⟩)), (5, .pointer (some ⟨b12, 0, none⟩)), (6, .pointer (some ⟨b13, 0, none⟩)), (10, .int .i64 25), (28, .bool false)]) (by kernel_rfl) ?_
  refine t_end ?_
  show W _ _ _ _ _ _ _
  refine w_cond rfl (fun c_ => by cases c_) (fun _ => ?_)
  show W _ _ _ _ _ _ _
  refine w_skip ?_
  show W _ _ _ _ _ _ _
  refine w_seq ?_
  refine w_reg fun all => ?_
  refine t_v (.ldn rfl rfl rfl (.at 2 rfl rfl)) ?_
  refine t_v (.ldn rfl rfl rfl (.at 1 rfl rfl)) ?_
  refine t_v (.ldn rfl rfl rfl (.at 0 rfl rfl)) ?_
  obtain ⟨u_, h23, e⟩ := bind_of e
  refine t_v (.call (vs := [.agg #[.int .i64 0, .int .i64 0], .agg #[.int .i64 5, .int .i64 0], .agg #[.int .i64 1, .int .i64 1]]) rfl rfl (by kernel_rfl) (plane_Cross_v1.ok h23)) ?_
  refine t_qz 2 [3, 10, 11] (σ' := [(3, .int .i64 2), (10, .int .i64 25), (11, .int .i64 10)]) (by kernel_rfl) ?_
  refine t_end ?_
  show W _ _ _ _ _ _ _
  refine w_seq ?_
  refine w_reg fun all => ?_
  obtain ⟨u_, h30, e⟩ := bind_of e
  refine t_qz 6 [43, 44, 47, 48] (σ' := [(43, .int .i64 10), (44, .int .i64 10), (47, .int .i64 4), (48, .int .i64 25)]) (by kernel_rfl) ?_
  refine t_v (.call (vs := [.int .i64 10, .int .i64 10, .int .i64 4, .int .i64 25]) rfl rfl (by kernel_rfl) (plane_within_v1.ok h30)) ?_
  refine t_qz 1 [8] (σ' := [(8, .bool true)]) (by kernel_rfl) ?_
  refine t_end ?_
  show W _ _ _ _ _ _ _
  refine w_ret ?_
  exact ⟨[.bool true], [], S, ⟨rfl, trivial⟩, VS.none, rfl, rfl, rfl⟩

/-- stroke.Near$1 -/
def c40 : C :=
  (.seq (.reg [⟨(some 3), .box (.tmp 0), none⟩,
     ⟨(some 4), .mv (.const (.bool false)), none⟩])
  (.seq (.reg [⟨(some 5), .pad 0 (.tmp 3), none⟩,
     ⟨(some 6), .ld (some 2) (.tmp 5), none⟩,
     ⟨(some 7), .pad 2 (.tmp 3), none⟩,
     ⟨(some 8), .ld (some 2) (.tmp 7), none⟩,
     ⟨(some 9), .ld (some 2) (.tmp 1), none⟩,
     ⟨(some 10), .ld none (.tmp 2), none⟩,
     ⟨(some 11), .call 41 [(.tmp 6), (.tmp 8), (.tmp 9), (.tmp 10)], none⟩,
     ⟨(some 4), .mv (.tmp 11), none⟩])
  .ret))
def stroke_Near_1_v1.f  : Option (Unit) := (plane_Near_v1.f).bind fun _ => (some ())
theorem stroke_Near_1_v1.ok {S : Seal} {B0 B1 : Nat}   (e : stroke_Near_1_v1.f  = some ()) :
    Cal Try.prog 40 [.agg #[.int .i64 0, .int .i64 0, .int .i64 5, .int .i64 0], .pointer (some ⟨B0, 0, none⟩), .pointer (some ⟨B1, 0, none⟩)] ([⟨B0, [.int .i64 1, .int .i64 1], 2⟩, ⟨B1, [.int .i64 2], 1⟩] : List Own) S fun v H' S' => v = .bool true ∧ H' = ([⟨B0, [.int .i64 1, .int .i64 1], 2⟩, ⟨B1, [.int .i64 2], 1⟩] : List Own) ∧ S' = S := by
  unfold stroke_Near_1_v1.f at e
  refine cal_of (c := c40) (N := 12) Try.func40 rfl rfl (by kernel_rfl) (rs := [.t 4]) (by kernel_rfl) (Nat.le_of_ble_eq_true rfl) ?_
  unfold c40
  refine w_seq ?_
  refine w_reg fun all => ?_
  refine t_a (.box rfl rfl rfl) fun b10 fb10 sb10 => ?_
  refine t_qz 1 [1, 2, 3] (σ' := [(1, .pointer (some ⟨B0, 0, none⟩)), (2, .pointer (some ⟨B1, 0, none⟩)), (3, .pointer (some ⟨b10, 0, none⟩))]) (by kernel_rfl) ?_
  refine t_end ?_
  show W _ _ _ _ _ _ _
  refine w_seq ?_
  refine w_reg fun all => ?_
  refine t_qz 1 [1, 2, 3, 5] (σ' := [(1, .pointer (some ⟨B0, 0, none⟩)), (2, .pointer (some ⟨B1, 0, none⟩)), (3, .pointer (some ⟨b10, 0, none⟩)), (5, .pointer (some ⟨b10, 0, none⟩))]) (by kernel_rfl) ?_
  refine t_v (.ldn rfl rfl rfl (.at 0 rfl rfl)) ?_
  refine t_qz 1 [1, 2, 6, 7] (σ' := [(1, .pointer (some ⟨B0, 0, none⟩)), (2, .pointer (some ⟨B1, 0, none⟩)), (6, .agg #[.int .i64 0, .int .i64 0]), (7, .pointer (some ⟨b10, 2, none⟩))]) (by kernel_rfl) ?_
  refine t_v (.ldn rfl rfl rfl (.at 0 rfl rfl)) ?_
  refine t_v (.ldn rfl rfl rfl (.at 1 rfl rfl)) ?_
  refine t_v (.ld1 rfl rfl rfl (.at 2 rfl rfl)) ?_
  obtain ⟨u_, h31, e⟩ := bind_of e
  refine t_v (.call (vs := [.agg #[.int .i64 0, .int .i64 0], .agg #[.int .i64 5, .int .i64 0], .agg #[.int .i64 1, .int .i64 1], .int .i64 2]) rfl rfl (by kernel_rfl) (plane_Near_v1.ok h31)) ?_
  refine t_qz 1 [4] (σ' := [(4, .bool true)]) (by kernel_rfl) ?_
  refine t_end ?_
  show W _ _ _ _ _ _ _
  refine w_ret ?_
  exact ⟨[.bool true], ([⟨B0, [.int .i64 1, .int .i64 1], 2⟩, ⟨B1, [.int .i64 2], 1⟩] : List Own), S, ⟨rfl, trivial⟩, VS.sel [1, 1] (by kernel_rfl), rfl, rfl, rfl⟩

def api_Edge_v4.f  : Option (Unit) := (stroke_Near_1_v1.f).bind fun _ => (some ())
theorem api_Edge_v4.ok {S : Seal} {B0 B1 B2 : Nat}   (e : api_Edge_v4.f  = some ()) :
    Cal Try.prog 59 [.slice (some ⟨B0, 0, none⟩) 1 1, .func (.func 40) #[] #[.pointer (some ⟨B1, 0, none⟩), .pointer (some ⟨B2, 0, none⟩)]] ([⟨B0, [.int .i64 0, .int .i64 0, .int .i64 5, .int .i64 0], 4⟩, ⟨B1, [.int .i64 1, .int .i64 1], 2⟩, ⟨B2, [.int .i64 2], 1⟩] : List Own) S fun v H' S' => v = .int .i64 0 ∧ H' = ([⟨B0, [.int .i64 0, .int .i64 0, .int .i64 5, .int .i64 0], 4⟩, ⟨B1, [.int .i64 1, .int .i64 1], 2⟩, ⟨B2, [.int .i64 2], 1⟩] : List Own) ∧ S' = S := by
  unfold api_Edge_v4.f at e
  refine cal_of (c := c59) (N := 19) Try.func59 rfl rfl (by kernel_rfl) (rs := [.t 4]) (by kernel_rfl) (Nat.le_of_ble_eq_true rfl) ?_
  unfold c59
  refine w_seq ?_
  refine w_reg fun all => ?_
  refine t_qz 1 [0, 1] (σ' := [(0, .slice (some ⟨B0, 0, none⟩) 1 1), (1, .func (.func 40) #[] #[.pointer (some ⟨B1, 0, none⟩), .pointer (some ⟨B2, 0, none⟩)])]) (by kernel_rfl) ?_
  refine t_end ?_
  show W _ _ _ _ _ _ _
  refine w_seq ?_
  refine w_seq ?_
  refine w_reg fun all => ?_
  refine t_qz 3 [0, 1, 7, 8] (σ' := [(0, .slice (some ⟨B0, 0, none⟩) 1 1), (1, .func (.func 40) #[] #[.pointer (some ⟨B1, 0, none⟩), .pointer (some ⟨B2, 0, none⟩)]), (7, .int .i64 1), (8, .int .i64 0)]) (by kernel_rfl) ?_
  refine t_end ?_
  show W _ _ _ _ _ _ _
  refine w_block ?_
  refine w_lun 10 ?_
  refine wl_step ?_
  refine w_seq ?_
  refine w_reg fun all => ?_
  refine t_qz 1 [0, 1, 7, 8, 9] (σ' := [(0, .slice (some ⟨B0, 0, none⟩) 1 1), (1, .func (.func 40) #[] #[.pointer (some ⟨B1, 0, none⟩), .pointer (some ⟨B2, 0, none⟩)]), (7, .int .i64 1), (8, .int .i64 0), (9, .bool true)]) (by kernel_rfl) ?_
  refine t_end ?_
  show W _ _ _ _ _ _ _
  refine w_seq ?_
  refine w_cond rfl (fun _ => ?_) (fun c_ => by cases c_)
  show W _ _ _ _ _ _ _
  refine w_skip ?_
  show W _ _ _ _ _ _ _
  refine w_seq ?_
  refine w_block ?_
  refine w_seq ?_
  refine w_reg fun all => ?_
  refine t_qz 2 [0, 1, 5, 7, 8] (σ' := [(0, .slice (some ⟨B0, 0, none⟩) 1 1), (1, .func (.func 40) #[] #[.pointer (some ⟨B1, 0, none⟩), .pointer (some ⟨B2, 0, none⟩)]), (5, .int .i64 0), (7, .int .i64 1), (8, .int .i64 0)]) (by kernel_rfl) ?_
  refine t_end ?_
  show W _ _ _ _ _ _ _
  refine w_seq ?_
  refine w_reg fun all => ?_
  refine t_qz 4 [0, 1, 5, 7, 8, 11, 14] (σ' := [(0, .slice (some ⟨B0, 0, none⟩) 1 1), (1, .func (.func 40) #[] #[.pointer (some ⟨B1, 0, none⟩), .pointer (some ⟨B2, 0, none⟩)]), (5, .int .i64 0), (7, .int .i64 1), (8, .int .i64 0), (11, .func (.func 40) #[] #[.pointer (some ⟨B1, 0, none⟩), .pointer (some ⟨B2, 0, none⟩)]), (14, .pointer (some ⟨B0, 0, none⟩))]) (by kernel_rfl) ?_
  refine t_v (.ldn rfl rfl rfl (.at 0 rfl rfl)) ?_
  obtain ⟨u_, h32, e⟩ := bind_of e
  refine t_v (.clor (vs := [.agg #[.int .i64 0, .int .i64 0, .int .i64 5, .int .i64 0]]) (caps := #[.pointer (some ⟨B1, 0, none⟩), .pointer (some ⟨B2, 0, none⟩)]) (A := ([⟨B1, [.int .i64 1, .int .i64 1], 2⟩, ⟨B2, [.int .i64 2], 1⟩] : List Own)) (F0 := ([⟨B0, [.int .i64 0, .int .i64 0, .int .i64 5, .int .i64 0], 4⟩] : List Own)) rfl rfl rfl (by kernel_rfl) (by kernel_rfl) (sel_perm (is := [1, 1]) (by kernel_rfl)) (stroke_Near_1_v1.ok h32)) ?_
  refine t_keep [0, 1, 5, 7, 8, 16] (σ' := [(0, .slice (some ⟨B0, 0, none⟩) 1 1), (1, .func (.func 40) #[] #[.pointer (some ⟨B1, 0, none⟩), .pointer (some ⟨B2, 0, none⟩)]), (5, .int .i64 0), (7, .int .i64 1), (8, .int .i64 0), (16, .bool true)]) (by kernel_rfl) ?_
  refine t_end ?_
  show W _ _ _ _ _ _ _
  refine w_cond rfl (fun _ => ?_) (fun c_ => by cases c_)
  show W _ _ _ _ _ _ _
  refine w_seq ?_
  refine w_reg fun all => ?_
  refine t_qz 2 [4] (σ' := [(4, .int .i64 0)]) (by kernel_rfl) ?_
  refine t_end ?_
  show W _ _ _ _ _ _ _
  refine w_ret ?_
  exact ⟨[.int .i64 0], ([⟨B0, [.int .i64 0, .int .i64 0, .int .i64 5, .int .i64 0], 4⟩, ⟨B1, [.int .i64 1, .int .i64 1], 2⟩, ⟨B2, [.int .i64 2], 1⟩] : List Own), S, ⟨rfl, trivial⟩, VS.sel [0, 0, 0] (by kernel_rfl), rfl, rfl, rfl⟩

def api_Edge_v3.f  : Option (Unit) := (api_Edge_v4.f).bind fun _ => (some ())
theorem api_Edge_v3.ok {S : Seal} {B0 B1 B2 : Nat}   (e : api_Edge_v3.f  = some ()) :
    Cal Try.prog 39 [.slice (some ⟨B0, 0, none⟩) 1 1, .func (.func 40) #[] #[.pointer (some ⟨B1, 0, none⟩), .pointer (some ⟨B2, 0, none⟩)]] ([⟨B0, [.int .i64 0, .int .i64 0, .int .i64 5, .int .i64 0], 4⟩, ⟨B1, [.int .i64 1, .int .i64 1], 2⟩, ⟨B2, [.int .i64 2], 1⟩] : List Own) S fun v H' S' => v = .bool true ∧ H' = ([⟨B0, [.int .i64 0, .int .i64 0, .int .i64 5, .int .i64 0], 4⟩, ⟨B1, [.int .i64 1, .int .i64 1], 2⟩, ⟨B2, [.int .i64 2], 1⟩] : List Own) ∧ S' = S := by
  unfold api_Edge_v3.f at e
  refine cal_of (c := c39) (N := 9) Try.func39 rfl rfl (by kernel_rfl) (rs := [.t 4]) (by kernel_rfl) (Nat.le_of_ble_eq_true rfl) ?_
  unfold c39
  refine w_seq ?_
  refine w_reg fun all => ?_
  refine t_qz 1 [0, 1] (σ' := [(0, .slice (some ⟨B0, 0, none⟩) 1 1), (1, .func (.func 40) #[] #[.pointer (some ⟨B1, 0, none⟩), .pointer (some ⟨B2, 0, none⟩)])]) (by kernel_rfl) ?_
  refine t_end ?_
  show W _ _ _ _ _ _ _
  refine w_seq ?_
  refine w_reg fun all => ?_
  obtain ⟨u_, h33, e⟩ := bind_of e
  refine t_qz 2 [5, 6] (σ' := [(5, .slice (some ⟨B0, 0, none⟩) 1 1), (6, .func (.func 40) #[] #[.pointer (some ⟨B1, 0, none⟩), .pointer (some ⟨B2, 0, none⟩)])]) (by kernel_rfl) ?_
  refine t_v (.callr (vs := [.slice (some ⟨B0, 0, none⟩) 1 1, .func (.func 40) #[] #[.pointer (some ⟨B1, 0, none⟩), .pointer (some ⟨B2, 0, none⟩)]]) (A := ([⟨B0, [.int .i64 0, .int .i64 0, .int .i64 5, .int .i64 0], 4⟩, ⟨B1, [.int .i64 1, .int .i64 1], 2⟩, ⟨B2, [.int .i64 2], 1⟩] : List Own)) (F0 := ([] : List Own)) rfl rfl (by kernel_rfl) (sel_perm (is := [0, 0, 0]) (by kernel_rfl)) (api_Edge_v4.ok h33)) ?_
  refine t_qz 2 [4] (σ' := [(4, .bool true)]) (by kernel_rfl) ?_
  refine t_end ?_
  show W _ _ _ _ _ _ _
  refine w_ret ?_
  exact ⟨[.bool true], ([⟨B0, [.int .i64 0, .int .i64 0, .int .i64 5, .int .i64 0], 4⟩, ⟨B1, [.int .i64 1, .int .i64 1], 2⟩, ⟨B2, [.int .i64 2], 1⟩] : List Own), S, ⟨rfl, trivial⟩, VS.sel [0, 0, 0] (by kernel_rfl), rfl, rfl, rfl⟩

def stroke_Near_v2.f  : Option (Unit) := (api_Edge_v3.f).bind fun _ => (some ())
theorem stroke_Near_v2.ok {S : Seal} {B0 : Nat}   (e : stroke_Near_v2.f  = some ()) :
    Cal Try.prog 15 [.slice (some ⟨B0, 0, none⟩) 1 1, .int .i64 2, .agg #[.int .i64 1, .int .i64 1]] ([⟨B0, [.int .i64 0, .int .i64 0, .int .i64 5, .int .i64 0], 4⟩] : List Own) S fun v H' S' => v = .bool true ∧ H' = ([⟨B0, [.int .i64 0, .int .i64 0, .int .i64 5, .int .i64 0], 4⟩] : List Own) ∧ S' = S := by
  unfold stroke_Near_v2.f at e
  refine cal_of (c := c15) (N := 10) Try.func15 rfl rfl (by kernel_rfl) (rs := [.t 6]) (by kernel_rfl) (Nat.le_of_ble_eq_true rfl) ?_
  unfold c15
  refine w_seq ?_
  refine w_reg fun all => ?_
  refine t_a (.box rfl rfl rfl) fun b8 fb8 sb8 => ?_
  refine t_a (.box rfl rfl rfl) fun b9 fb9 sb9 => ?_
  refine t_qz 1 [0, 4, 5] (σ' := [(0, .slice (some ⟨B0, 0, none⟩) 1 1), (4, .pointer (some ⟨b8, 0, none⟩)), (5, .pointer (some ⟨b9, 0, none⟩))]) (by kernel_rfl) ?_
  refine t_end ?_
  show W _ _ _ _ _ _ _
  refine w_seq ?_
  refine w_reg fun all => ?_
  obtain ⟨u_, h34, e⟩ := bind_of e
  refine t_qz 2 [7, 8] (σ' := [(7, .slice (some ⟨B0, 0, none⟩) 1 1), (8, .func (.func 40) #[] #[.pointer (some ⟨b9, 0, none⟩), .pointer (some ⟨b8, 0, none⟩)])]) (by kernel_rfl) ?_
  refine t_v (.callr (vs := [.slice (some ⟨B0, 0, none⟩) 1 1, .func (.func 40) #[] #[.pointer (some ⟨b9, 0, none⟩), .pointer (some ⟨b8, 0, none⟩)]]) (A := ([⟨B0, [.int .i64 0, .int .i64 0, .int .i64 5, .int .i64 0], 4⟩, ⟨b9, [.int .i64 1, .int .i64 1], 2⟩, ⟨b8, [.int .i64 2], 1⟩] : List Own)) (F0 := ([] : List Own)) rfl rfl (by kernel_rfl) (sel_perm (is := [2, 0, 0]) (by kernel_rfl)) (api_Edge_v3.ok h34)) ?_
  refine t_qz 1 [6] (σ' := [(6, .bool true)]) (by kernel_rfl) ?_
  refine t_end ?_
  show W _ _ _ _ _ _ _
  refine w_ret ?_
  exact ⟨[.bool true], ([⟨B0, [.int .i64 0, .int .i64 0, .int .i64 5, .int .i64 0], 4⟩] : List Own), S, ⟨rfl, trivial⟩, VS.sel [2] (by kernel_rfl), rfl, rfl, rfl⟩

/-- glyphiclaw23.first -/
def c12 : C :=
  (.seq (.reg [⟨(some 0), .mv (.const (.bool false)), none⟩])
  (.seq (.reg [⟨(some 2), .bld [(.int .i64 0), (.int .i64 0)] [(0, 1, (.const (.int .i64 5)))], none⟩,
     ⟨(some 3), .bld [(.int .i64 0), (.int .i64 0), (.int .i64 0), (.int .i64 0)] [(2, 2, (.tmp 2))], none⟩,
     ⟨(some 4), .bsl [(.int .i64 0), (.int .i64 0), (.int .i64 0), (.int .i64 0)] 1 [(0, 4, (.tmp 3))], none⟩,
     ⟨(some 1), .mv (.tmp 4), none⟩])
  (.seq (.reg [⟨(some 5), .bld [(.int .i64 0), (.int .i64 0)] [], none⟩,
     ⟨(some 6), .call 15 [(.const (.slice none 0 0)), (.const (.int .i64 5)), (.tmp 5)], none⟩,
     ⟨(some 7), .un .not (.tmp 6), none⟩,
     ⟨(some 8), .mv (.tmp 7), none⟩,
     ⟨(some 9), .mv (.tmp 1), (some (8, true))⟩,
     ⟨(some 10), .bld [(.int .i64 0), (.int .i64 0)] [(0, 1, (.const (.int .i64 1))), (1, 1, (.const (.int .i64 1)))], (some (8, true))⟩,
     ⟨(some 11), .call 15 [(.tmp 9), (.const (.int .i64 2)), (.tmp 10)], (some (8, true))⟩,
     ⟨(some 12), .pk (.tmp 8) (.tmp 11) (.const (.bool false)), none⟩,
     ⟨(some 0), .mv (.tmp 12), none⟩])
  .ret)))
def glyphiclaw23_first.f  : Option (Bool) := (stroke_Near_v1.f).bind fun _ => ((stroke_Near_v2.f).bind fun _ => (some true))
theorem glyphiclaw23_first.ok {S : Seal}  {r0_ : Bool} (e : glyphiclaw23_first.f  = some r0_) :
    Cal Try.prog 12 [] [] S fun v H' S' => v = .bool r0_ ∧ H' = [] ∧ S' = S := by
  unfold glyphiclaw23_first.f at e
  refine cal_of (c := c12) (N := 13) Try.func12 rfl rfl (by kernel_rfl) (rs := [.t 0]) (by kernel_rfl) (Nat.le_of_ble_eq_true rfl) ?_
  unfold c12
  refine w_seq ?_
  refine w_reg fun all => ?_
  refine t_qz 1 [] (σ' := []) (by kernel_rfl) ?_
  refine t_end ?_
  show W _ _ _ _ _ _ _
  refine w_seq ?_
  refine w_reg fun all => ?_
  refine t_qz 2 [3] (σ' := [(3, .agg #[.int .i64 0, .int .i64 0, .int .i64 5, .int .i64 0])]) (by kernel_rfl) ?_
  refine t_a (.bsl rfl rfl rfl rfl) fun b2 fb2 sb2 => ?_
  refine t_qz 1 [1] (σ' := [(1, .slice (some ⟨b2, 0, none⟩) 1 1)]) (by kernel_rfl) ?_
  refine t_end ?_
  show W _ _ _ _ _ _ _
  refine w_seq ?_
  refine w_reg fun all => ?_
  obtain ⟨u_, h7, e⟩ := bind_of e
  refine t_qz 1 [1, 5] (σ' := [(1, .slice (some ⟨b2, 0, none⟩) 1 1), (5, .agg #[.int .i64 0, .int .i64 0])]) (by kernel_rfl) ?_
  refine t_v (.call (vs := [.slice none 0 0, .int .i64 5, .agg #[.int .i64 0, .int .i64 0]]) rfl rfl (by kernel_rfl) (stroke_Near_v1.ok h7)) ?_
  obtain ⟨u_, h35, e⟩ := bind_of e
  refine t_qz 4 [8, 9, 10] (σ' := [(8, .bool true), (9, .slice (some ⟨b2, 0, none⟩) 1 1), (10, .agg #[.int .i64 1, .int .i64 1])]) (by kernel_rfl) ?_
  refine t_v (.callr (vs := [.slice (some ⟨b2, 0, none⟩) 1 1, .int .i64 2, .agg #[.int .i64 1, .int .i64 1]]) (A := ([⟨b2, [.int .i64 0, .int .i64 0, .int .i64 5, .int .i64 0], 4⟩] : List Own)) (F0 := ([] : List Own)) rfl rfl (by kernel_rfl) (sel_perm (is := [0]) (by kernel_rfl)) (stroke_Near_v2.ok h35)) ?_
  refine t_qz 2 [0] (σ' := [(0, .bool true)]) (by kernel_rfl) ?_
  refine t_end ?_
  show W _ _ _ _ _ _ _
  refine w_ret ?_
  obtain rfl := Option.some.inj e
  exact ⟨[.bool true], [], S, ⟨rfl, trivial⟩, VS.none, rfl, rfl, rfl⟩
end Go.Proofs.Ytijjgmkhgcofiaa.QStrokeDots
