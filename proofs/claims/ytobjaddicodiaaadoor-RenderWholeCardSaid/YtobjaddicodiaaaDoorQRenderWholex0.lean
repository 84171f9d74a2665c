/- Functions of the program as Lean functions, each with the proof of its walk. Written by gen.py, a program of these sessions. -/
import Derived.Test.YtobjaddicodiaaaDoorX
import Derived.Test.YtobjaddicodiaaaDoorProg
namespace Go.Proofs.YtobjaddicodiaaaDoor.QRenderWhole
open Go Go.RowKit Go.Proofs.YtobjaddicodiaaaDoorE Go.Proofs.YtobjaddicodiaaaDoorX
set_option linter.unusedVariables false
set_option maxRecDepth 100000
set_option maxHeartbeats 8000000
theorem mixed : Tryd.prog.follows .mixedOrders = true := by kernel_rfl
abbrev gsE : List Nat := [2, 1]
theorem lsame_ {a b : Nat} {u : Unit} (h : (if a = b then some () else none : Option Unit) = some u) : b = a := by split at h <;> rename_i q <;> first | exact q.symm | cases h
def E_i644 : En (Int × Int × Int × Int) := ⟨4, fun t => [.int .i64 t.1, .int .i64 t.2.1, .int .i64 t.2.2.1, .int .i64 t.2.2.2], fun _ => rfl, fun _ => rfl⟩
def E_u8 : En (Int) := ⟨1, fun t => [.int .u8 t], fun _ => rfl, fun _ => rfl⟩
def E_i647 : En (Int × Int × Int × Int × Int × Int × Int) := ⟨7, fun t => [.int .i64 t.1, .int .i64 t.2.1, .int .i64 t.2.2.1, .int .i64 t.2.2.2.1, .int .i64 t.2.2.2.2.1, .int .i64 t.2.2.2.2.2.1, .int .i64 t.2.2.2.2.2.2], fun _ => rfl, fun _ => rfl⟩
def N_0 : Nn (Int × Int × List (Int × Int × Int × Int × Int × Int × Int) × Bool) := ⟨4, fun R t vs => ∃ (a2 : Option Addr) (c2 : Nat), vs = [.int .i64 t.1, .int .i64 t.2.1, .slice a2 t.2.2.1.length c2, .bool t.2.2.2] ∧ SlN R (flatN E_i647) t.2.2.1 a2, fun ⟨_, _, e, _⟩ => by rw [e]; rfl, fun ⟨_, _, e, _⟩ => by rw [e]; rfl, fun le ⟨a2, c2, e, h2⟩ => ⟨a2, c2, e, h2.mono le⟩⟩
def N_1 : Nn (Int × Int × Int × Int × Int × Int × Int × Int × Int × Int × List (Int × Int × List (Int × Int × Int × Int × Int × Int × Int) × Bool)) := ⟨11, fun R t vs => ∃ (a10 : Option Addr) (c10 : Nat), vs = [.int .i64 t.1, .int .i64 t.2.1, .int .i64 t.2.2.1, .int .i64 t.2.2.2.1, .int .i64 t.2.2.2.2.1, .int .i64 t.2.2.2.2.2.1, .int .i64 t.2.2.2.2.2.2.1, .int .i64 t.2.2.2.2.2.2.2.1, .int .i64 t.2.2.2.2.2.2.2.2.1, .int .i64 t.2.2.2.2.2.2.2.2.2.1, .slice a10 t.2.2.2.2.2.2.2.2.2.2.length c10] ∧ SlN R N_0 t.2.2.2.2.2.2.2.2.2.2 a10, fun ⟨_, _, e, _⟩ => by rw [e]; rfl, fun ⟨_, _, e, _⟩ => by rw [e]; rfl, fun le ⟨a10, c10, e, h10⟩ => ⟨a10, c10, e, h10.mono le⟩⟩
def E_u64 : En (Int) := ⟨1, fun t => [.int .u64 t], fun _ => rfl, fun _ => rfl⟩
/-- fixed.Down -/
def c34 : C :=
  (.seq (.reg [oq 4 (.mv (.const (vI 0)))])
  (.seq (.seq (.reg [oq 6 (.mv (.tmp 1)),
      oq 7 (.bin .lss (.tmp 6) (.const (vI 1)))])
   (.cond (.tmp 7)
    (.seq (.reg [oq 4 (.mv (.const (vI 0)))])
     .ret)
    .skip))
  (.seq (.reg [oq 8 (.mv (.tmp 0)),
     oq 9 (.mv (.tmp 1)),
     oq 10 (.bin .quo (.tmp 8) (.tmp 9)),
     oq 5 (.mv (.tmp 10))])
  (.seq (.seq (.reg [oq 11 (.mv (.tmp 0)),
      oq 12 (.mv (.tmp 1)),
      oq 13 (.bin .rem (.tmp 11) (.tmp 12)),
      oq 14 (.bin .lss (.tmp 13) (.const (vI 0)))])
   (.cond (.tmp 14)
    (.reg [oq 15 (.mv (.tmp 5)),
       oq 16 (.bin .sub (.tmp 15) (.const (vI 1))),
       oq 5 (.mv (.tmp 16))])
    .skip))
  (.seq (.reg [oq 17 (.mv (.tmp 5)),
     oq 4 (.mv (.tmp 17))])
  .ret)))))
def fixed_Down.f (a0 : Int) (b1 : Int) : Option (Int) := if b1 < 1 then (some 0) else (if b1 = 0 then none else (if (Int.tmod a0 b1) < 0 then (some (wr64 ((wr64 (Int.tdiv a0 b1)) - 1))) else (some (wr64 (Int.tdiv a0 b1)))))
theorem fixed_Down.ok {S : Seal} {a0 : Int} {b1 : Int} {r0_ : Int}{A_ : Int → Addr} (hE_ : EO gsE S A_ 157) (e : fixed_Down.f a0 b1 = some r0_) :
    Cal Tryd.prog 34 [vI a0, vI b1] [] S fun v H' S' => v = vI r0_ ∧ H' = [] ∧ S' = S := by
 unfold fixed_Down.f at e
 refine cal_of (c := c34) (N := 18) Tryd.func34 rfl rfl (by kernel_rfl) (rs := [.t 4]) (by kernel_rfl) (Nat.le_of_ble_eq_true rfl) ?_
 unfold c34
 refine w_seq ?_
 refine w_reg fun all => ?_
 refine t_qz 1 [0, 1] (σ' := [(0, vI a0), (1, vI b1)]) (by kernel_rfl) ?_
 refine t_end ?_
 show W _ _ _ _ _ _ _
 refine w_seq ?_
 refine w_seq ?_
 refine w_reg fun all => ?_
 by_cases c9 : b1 < 1
 ·rw [if_pos c9] at e
  have c9b : (decide (b1 < 1)) = true := decide_eq_true c9
  refine t_qz 1 [0, 1, 6] (σ' := [(0, vI a0), (1, vI b1), (6, vI b1)]) (by kernel_rfl) ?_
  refine t_v (dv_quiet rfl (congrArg (fun t => some (Value.bool t)) c9b)) ?_
  refine t_keep [0, 1, 7] (σ' := [(0, vI a0), (1, vI b1), (7, vB true)]) (by kernel_rfl) ?_
  refine t_end ?_
  show W _ _ _ _ _ _ _
  refine w_cond rfl (fun _ => ?_) (fun c_ => by cases c_)
  show W _ _ _ _ _ _ _
  refine w_seq ?_
  refine w_reg fun all => ?_
  refine t_qz 1 [4] (σ' := [(4, vI 0)]) (by kernel_rfl) ?_
  refine t_end ?_
  show W _ _ _ _ _ _ _
  refine w_ret ?_
  obtain rfl := Option.some.inj e
  exact ⟨[vI 0], [], S, ⟨rfl, trivial⟩, VS.none, rfl, rfl, rfl⟩
 ·rw [if_neg c9] at e
  have c9b : (decide (b1 < 1)) = false := decide_eq_false c9
  refine t_qz 1 [0, 1, 6] (σ' := [(0, vI a0), (1, vI b1), (6, vI b1)]) (by kernel_rfl) ?_
  refine t_v (dv_quiet rfl (congrArg (fun t => some (Value.bool t)) c9b)) ?_
  refine t_keep [0, 1, 7] (σ' := [(0, vI a0), (1, vI b1), (7, vB false)]) (by kernel_rfl) ?_
  refine t_end ?_
  show W _ _ _ _ _ _ _
  refine w_cond rfl (fun c_ => by cases c_) (fun _ => ?_)
  show W _ _ _ _ _ _ _
  refine w_skip ?_
  show W _ _ _ _ _ _ _
  refine w_seq ?_
  refine w_reg fun all => ?_
  have c10 : ¬ b1 = 0 := by
   intro h_; rw [if_pos h_] at e; cases e
  rw [if_neg c10] at e
  refine t_qz 2 [0, 1, 8, 9] (σ' := [(0, vI a0), (1, vI b1), (8, vI a0), (9, vI b1)]) (by kernel_rfl) ?_
  refine t_v (.quiet rfl (qv_quo rfl rfl c10)) ?_
  refine t_qz 1 [0, 1, 5] (σ' := [(0, vI a0), (1, vI b1), (5, vI (wr64 (Int.tdiv a0 b1)))]) (by kernel_rfl) ?_
  refine t_end ?_
  show W _ _ _ _ _ _ _
  refine w_seq ?_
  refine w_seq ?_
  refine w_reg fun all => ?_
  refine t_qz 2 [5, 11, 12] (σ' := [(5, vI (wr64 (Int.tdiv a0 b1))), (11, vI a0), (12, vI b1)]) (by kernel_rfl) ?_
  refine t_v (.quiet rfl (qv_rem rfl rfl c10)) ?_
  by_cases c11 : (Int.tmod a0 b1) < 0
  ·rw [if_pos c11] at e
   have c11b : (decide ((Int.tmod a0 b1) < 0)) = true := decide_eq_true c11
   refine t_v (dv_quiet rfl (congrArg (fun t => some (Value.bool t)) c11b)) ?_
   refine t_keep [5, 14] (σ' := [(5, vI (wr64 (Int.tdiv a0 b1))), (14, vB true)]) (by kernel_rfl) ?_
   refine t_end ?_
   show W _ _ _ _ _ _ _
   refine w_cond rfl (fun _ => ?_) (fun c_ => by cases c_)
   show W _ _ _ _ _ _ _
   refine w_reg fun all => ?_
   refine t_qz 3 [5] (σ' := [(5, vI (wr64 ((wr64 (Int.tdiv a0 b1)) - 1)))]) (by kernel_rfl) ?_
   refine t_end ?_
   show W _ _ _ _ _ _ _
   refine w_seq ?_
   refine w_reg fun all => ?_
   refine t_qz 2 [4] (σ' := [(4, vI (wr64 ((wr64 (Int.tdiv a0 b1)) - 1)))]) (by kernel_rfl) ?_
   refine t_end ?_
   show W _ _ _ _ _ _ _
   refine w_ret ?_
   obtain rfl := Option.some.inj e
   exact ⟨[vI (wr64 ((wr64 (Int.tdiv a0 b1)) - 1))], [], S, ⟨rfl, trivial⟩, VS.none, rfl, rfl, rfl⟩
  ·rw [if_neg c11] at e
   have c11b : (decide ((Int.tmod a0 b1) < 0)) = false := decide_eq_false c11
   refine t_v (dv_quiet rfl (congrArg (fun t => some (Value.bool t)) c11b)) ?_
   refine t_keep [5, 14] (σ' := [(5, vI (wr64 (Int.tdiv a0 b1))), (14, vB false)]) (by kernel_rfl) ?_
   refine t_end ?_
   show W _ _ _ _ _ _ _
   refine w_cond rfl (fun c_ => by cases c_) (fun _ => ?_)
   show W _ _ _ _ _ _ _
   refine w_skip ?_
   show W _ _ _ _ _ _ _
   refine w_seq ?_
   refine w_reg fun all => ?_
   refine t_qz 2 [4] (σ' := [(4, vI (wr64 (Int.tdiv a0 b1)))]) (by kernel_rfl) ?_
   refine t_end ?_
   show W _ _ _ _ _ _ _
   refine w_ret ?_
   obtain rfl := Option.some.inj e
   exact ⟨[vI (wr64 (Int.tdiv a0 b1))], [], S, ⟨rfl, trivial⟩, VS.none, rfl, rfl, rfl⟩

/-- scale.Height -/
def c19 : C :=
  (.seq (.reg [oq 2 (.box (.tmp 0)),
     oq 4 (.mv (.const (vI 0)))])
  (.seq (.reg [oq 5 (.pad 1 (.tmp 2)),
     oq 6 (.ld none (.tmp 5)),
     oq 7 (.un .neg (.tmp 6)),
     oq 8 (.mv (.tmp 1)),
     oq 9 (.bin .mul (.tmp 7) (.tmp 8)),
     oq 10 (.pad 0 (.tmp 2)),
     oq 11 (.ld none (.tmp 10)),
     oq 12 (.call 34 [(.tmp 9), (.tmp 11)]),
     oq 13 (.un .neg (.tmp 12)),
     oq 4 (.mv (.tmp 13))])
  .ret))
def scale_Height_v1.f (i0_0 : Int) (i0_1 : Int) (i0_2 : Int) (w1 : Int) : Option (Int) := (fixed_Down.f (wr64 ((wr64 (0 - i0_1)) * w1)) i0_0).bind fun t12 => (some (wr64 (0 - t12)))
theorem scale_Height_v1.ok {S : Seal} {i0_0 : Int} {i0_1 : Int} {i0_2 : Int} {w1 : Int} {r0_ : Int}{A_ : Int → Addr} (hE_ : EO gsE S A_ 157) {a_i0_3 : Option Addr} {n_i0_3 c_i0_3 : Nat} {a_i0_4 : Option Addr} {n_i0_4 c_i0_4 : Nat} (e : scale_Height_v1.f i0_0 i0_1 i0_2 w1 = some r0_) :
    Cal Tryd.prog 19 [.agg #[vI i0_0, vI i0_1, vI i0_2, .slice a_i0_3 n_i0_3 c_i0_3, .slice a_i0_4 n_i0_4 c_i0_4], vI w1] [] S fun v H' S' => v = vI r0_ ∧ H' = [] ∧ S' = S := by
 unfold scale_Height_v1.f at e
 refine cal_of (c := c19) (N := 14) Tryd.func19 rfl rfl (by kernel_rfl) (rs := [.t 4]) (by kernel_rfl) (Nat.le_of_ble_eq_true rfl) ?_
 unfold c19
 refine w_seq ?_
 refine w_reg fun all => ?_
 refine t_a (.box rfl rfl rfl) fun b8 fb8 sb8 => ?_
 refine t_qz 1 [1, 2] (σ' := [(1, vI w1), (2, vP b8 0)]) (by kernel_rfl) ?_
 refine t_end ?_
 show W _ _ _ _ _ _ _
 refine w_seq ?_
 refine w_reg fun all => ?_
 refine t_qz 1 [1, 2, 5] (σ' := [(1, vI w1), (2, vP b8 0), (5, vP b8 1)]) (by kernel_rfl) ?_
 refine t_v (.ld1 rfl rfl rfl (.at 0 rfl rfl)) ?_
 refine t_qz 4 [9, 10] (σ' := [(9, vI (wr64 ((wr64 (0 - i0_1)) * w1))), (10, vP b8 0)]) (by kernel_rfl) ?_
 refine t_v (.ld1 rfl rfl rfl (.at 0 rfl rfl)) ?_
 obtain ⟨t12, h13, e⟩ := bind_of e
 refine t_v (.call (vs := [vI (wr64 ((wr64 (0 - i0_1)) * w1)), vI i0_0]) rfl rfl (by kernel_rfl) (fixed_Down.ok hE_ h13)) ?_
 refine t_qz 2 [4] (σ' := [(4, vI (wr64 (0 - t12)))]) (by kernel_rfl) ?_
 refine t_end ?_
 show W _ _ _ _ _ _ _
 refine w_ret ?_
 obtain rfl := Option.some.inj e
 exact ⟨[vI (wr64 (0 - t12))], [], S, ⟨rfl, trivial⟩, VS.none, rfl, rfl, rfl⟩

/-- scale.Check -/
def c30 : C :=
  (.seq (.reg [oq 2 (.box (.tmp 0)),
     oq 4 (.mv (.const .nilIface))])
  (.seq (.block 0 (.seq (.reg [oq 6 (.mv (.tmp 1)),
       oq 7 (.bin .lss (.tmp 6) (.const (vI 1))),
       oq 8 (.mv (.tmp 7)),
       ⟨(some 9), .mv (.tmp 1), (some (8, false))⟩,
       ⟨(some 10), .bin .gtr (.tmp 9) (.const (vI 16384)), (some (8, false))⟩,
       oq 11 (.pk (.tmp 8) (.const (vB true)) (.tmp 10)),
       oq 5 (.mv (.tmp 11))])
    (.cond (.tmp 5)
     (.seq (.reg [oq 12 (.ld none (.global 2)),
         oq 4 (.mv (.tmp 12))])
      .ret)
     (.seq (.reg [oq 14 (.ld (some 5) (.tmp 2)),
         oq 15 (.mv (.tmp 1)),
         oq 16 (.call 19 [(.tmp 14), (.tmp 15)]),
         oq 17 (.bin .gtr (.tmp 16) (.const (vI 16384))),
         oq 13 (.mv (.tmp 17))])
      (.cond (.tmp 13)
       (.seq (.reg [oq 18 (.ld none (.global 1)),
           oq 4 (.mv (.tmp 18))])
        .ret)
       .skip)))))
  (.seq (.reg [oq 4 (.mv (.const .nilIface))])
  .ret)))
def scale_Check_v1.f (i0_0 : Int) (i0_1 : Int) (i0_2 : Int) (w1 : Int) : Option (Int) := if w1 < 1 then (some 3) else (if w1 > 16384 then (some 3) else ((scale_Height_v1.f i0_0 i0_1 i0_2 w1).bind fun t14 => (if t14 > 16384 then (some 2) else (some 0))))
theorem scale_Check_v1.ok {S : Seal} {i0_0 : Int} {i0_1 : Int} {i0_2 : Int} {w1 : Int} {r0_ : Int}{A_ : Int → Addr} (hE_ : EO gsE S A_ 157) {a_i0_3 : Option Addr} {n_i0_3 c_i0_3 : Nat} {a_i0_4 : Option Addr} {n_i0_4 c_i0_4 : Nat} (e : scale_Check_v1.f i0_0 i0_1 i0_2 w1 = some r0_) :
    Cal Tryd.prog 30 [.agg #[vI i0_0, vI i0_1, vI i0_2, .slice a_i0_3 n_i0_3 c_i0_3, .slice a_i0_4 n_i0_4 c_i0_4], vI w1] [] S fun v H' S' => v = errV 157 A_ r0_ ∧ H' = [] ∧ S' = S := by
 unfold scale_Check_v1.f at e
 refine cal_of (c := c30) (N := 19) Tryd.func30 rfl rfl (by kernel_rfl) (rs := [.t 4]) (by kernel_rfl) (Nat.le_of_ble_eq_true rfl) ?_
 unfold c30
 refine w_seq ?_
 refine w_reg fun all => ?_
 refine t_a (.box rfl rfl rfl) fun b5 fb5 sb5 => ?_
 refine t_qz 1 [1, 2] (σ' := [(1, vI w1), (2, vP b5 0)]) (by kernel_rfl) ?_
 refine t_end ?_
 show W _ _ _ _ _ _ _
 refine w_seq ?_
 refine w_block ?_
 refine w_seq ?_
 refine w_reg fun all => ?_
 by_cases c6 : w1 < 1
 ·rw [if_pos c6] at e
  have c6b : (decide (w1 < 1)) = true := decide_eq_true c6
  refine t_qz 1 [1, 2, 6] (σ' := [(1, vI w1), (2, vP b5 0), (6, vI w1)]) (by kernel_rfl) ?_
  refine t_v (dv_quiet rfl (congrArg (fun t => some (Value.bool t)) c6b)) ?_
  refine t_qz 5 [1, 2, 5] (σ' := [(1, vI w1), (2, vP b5 0), (5, vB true)]) (by kernel_rfl) ?_
  refine t_end ?_
  show W _ _ _ _ _ _ _
  refine w_cond rfl (fun _ => ?_) (fun c_ => by cases c_)
  show W _ _ _ _ _ _ _
  refine w_seq ?_
  refine w_reg fun all => ?_
  refine t_v (.ld1 rfl rfl rfl (hE_.atc 2 3 (by decide) (by decide))) ?_
  refine t_qz 1 [4] (σ' := [(4, .iface 157 (.pointer (some (A_ 3))))]) (by kernel_rfl) ?_
  refine t_end ?_
  show W _ _ _ _ _ _ _
  refine w_ret ?_
  obtain rfl := Option.some.inj e
  exact ⟨[.iface 157 (.pointer (some (A_ 3)))], [], S, ⟨rfl, trivial⟩, VS.none, rfl, rfl, rfl⟩
 ·rw [if_neg c6] at e
  have c6b : (decide (w1 < 1)) = false := decide_eq_false c6
  refine t_qz 1 [1, 2, 6] (σ' := [(1, vI w1), (2, vP b5 0), (6, vI w1)]) (by kernel_rfl) ?_
  refine t_v (dv_quiet rfl (congrArg (fun t => some (Value.bool t)) c6b)) ?_
  by_cases c7 : w1 > 16384
  ·rw [if_pos c7] at e
   have c7b : (decide (w1 > 16384)) = true := decide_eq_true c7
   refine t_qz 2 [1, 2, 8, 9] (σ' := [(1, vI w1), (2, vP b5 0), (8, vB false), (9, vI w1)]) (by kernel_rfl) ?_
   refine t_v (dv_quiet rfl (congrArg (fun t => some (Value.bool t)) c7b)) ?_
   refine t_qz 2 [1, 2, 5] (σ' := [(1, vI w1), (2, vP b5 0), (5, vB true)]) (by kernel_rfl) ?_
   refine t_end ?_
   show W _ _ _ _ _ _ _
   refine w_cond rfl (fun _ => ?_) (fun c_ => by cases c_)
   show W _ _ _ _ _ _ _
   refine w_seq ?_
   refine w_reg fun all => ?_
   refine t_v (.ld1 rfl rfl rfl (hE_.atc 2 3 (by decide) (by decide))) ?_
   refine t_qz 1 [4] (σ' := [(4, .iface 157 (.pointer (some (A_ 3))))]) (by kernel_rfl) ?_
   refine t_end ?_
   show W _ _ _ _ _ _ _
   refine w_ret ?_
   obtain rfl := Option.some.inj e
   exact ⟨[.iface 157 (.pointer (some (A_ 3)))], [], S, ⟨rfl, trivial⟩, VS.none, rfl, rfl, rfl⟩
  ·rw [if_neg c7] at e
   have c7b : (decide (w1 > 16384)) = false := decide_eq_false c7
   refine t_qz 2 [1, 2, 8, 9] (σ' := [(1, vI w1), (2, vP b5 0), (8, vB false), (9, vI w1)]) (by kernel_rfl) ?_
   refine t_v (dv_quiet rfl (congrArg (fun t => some (Value.bool t)) c7b)) ?_
   refine t_qz 2 [1, 2, 5] (σ' := [(1, vI w1), (2, vP b5 0), (5, vB false)]) (by kernel_rfl) ?_
   refine t_end ?_
   show W _ _ _ _ _ _ _
   refine w_cond rfl (fun c_ => by cases c_) (fun _ => ?_)
   show W _ _ _ _ _ _ _
   refine w_seq ?_
   refine w_reg fun all => ?_
   refine t_v (.ldn rfl rfl rfl (.at 0 rfl rfl)) ?_
   obtain ⟨t14, h15, e⟩ := bind_of e
   refine t_qz 1 [14, 15] (σ' := [(14, .agg #[vI i0_0, vI i0_1, vI i0_2, .slice a_i0_3 n_i0_3 c_i0_3, .slice a_i0_4 n_i0_4 c_i0_4]), (15, vI w1)]) (by kernel_rfl) ?_
   refine t_v (.call (vs := [.agg #[vI i0_0, vI i0_1, vI i0_2, .slice a_i0_3 n_i0_3 c_i0_3, .slice a_i0_4 n_i0_4 c_i0_4], vI w1]) rfl rfl (by kernel_rfl) (scale_Height_v1.ok hE_ h15)) ?_
   by_cases c16 : t14 > 16384
   ·rw [if_pos c16] at e
    have c16b : (decide (t14 > 16384)) = true := decide_eq_true c16
    refine t_v (dv_quiet rfl (congrArg (fun t => some (Value.bool t)) c16b)) ?_
    refine t_qz 1 [13] (σ' := [(13, vB true)]) (by kernel_rfl) ?_
    refine t_end ?_
    show W _ _ _ _ _ _ _
    refine w_cond rfl (fun _ => ?_) (fun c_ => by cases c_)
    show W _ _ _ _ _ _ _
    refine w_seq ?_
    refine w_reg fun all => ?_
    refine t_v (.ld1 rfl rfl rfl (hE_.atc 1 2 (by decide) (by decide))) ?_
    refine t_qz 1 [4] (σ' := [(4, .iface 157 (.pointer (some (A_ 2))))]) (by kernel_rfl) ?_
    refine t_end ?_
    show W _ _ _ _ _ _ _
    refine w_ret ?_
    obtain rfl := Option.some.inj e
    exact ⟨[.iface 157 (.pointer (some (A_ 2)))], [], S, ⟨rfl, trivial⟩, VS.none, rfl, rfl, rfl⟩
   ·rw [if_neg c16] at e
    have c16b : (decide (t14 > 16384)) = false := decide_eq_false c16
    refine t_v (dv_quiet rfl (congrArg (fun t => some (Value.bool t)) c16b)) ?_
    refine t_qz 1 [13] (σ' := [(13, vB false)]) (by kernel_rfl) ?_
    refine t_end ?_
    show W _ _ _ _ _ _ _
    refine w_cond rfl (fun c_ => by cases c_) (fun _ => ?_)
    show W _ _ _ _ _ _ _
    refine w_skip ?_
    show W _ _ _ _ _ _ _
    refine w_seq ?_
    refine w_reg fun all => ?_
    refine t_qz 1 [4] (σ' := [(4, .nilIface)]) (by kernel_rfl) ?_
    refine t_end ?_
    show W _ _ _ _ _ _ _
    refine w_ret ?_
    obtain rfl := Option.some.inj e
    exact ⟨[.nilIface], [], S, ⟨rfl, trivial⟩, VS.none, rfl, rfl, rfl⟩

/-- render.Edges -/
def c17 : C :=
  (.seq (.reg [oq 2 (.box (.tmp 0)),
     oq 4 (.mv (.const (vI 0))),
     oq 5 (.mv (.const .nilIface))])
  (.seq (.seq (.reg [oq 12 (.ld (some 5) (.tmp 2)),
      oq 13 (.mv (.tmp 1)),
      oq 14 (.call 30 [(.tmp 12), (.tmp 13)]),
      oq 6 (.mv (.tmp 14))])
   (.seq (.reg [oq 15 (.mv (.tmp 6)),
      oq 16 (.eqt true 29 (.tmp 15) (.const .nilIface))])
   (.cond (.tmp 16)
    (.seq (.reg [oq 17 (.mv (.tmp 6)),
        oq 4 (.mv (.const (vI 0))),
        oq 5 (.mv (.tmp 17))])
     .ret)
    .skip)))
  (.seq (.reg [oq 7 (.mv (.const (vI 0)))])
  (.seq (.seq (.reg [oq 18 (.pad 4 (.tmp 2)),
      oq 19 (.ld none (.tmp 18)),
      oq 20 (.lns (.tmp 19)),
      oq 21 (.mv (.const (vI 0)))])
   (.block 0 (.loop (.seq (.reg [oq 22 (.bin .lss (.tmp 21) (.tmp 20))])
     (.seq (.cond (.tmp 22)
       .skip
       (.exit 0))
     (.seq (.block 1 (.seq (.reg [oq 23 (.ixs 11 (.tmp 19) (.tmp 21)),
          oq 24 (.ld (some 11) (.tmp 23)),
          oq 9 (.new [(vI 0), (vI 0), (vI 0), (vI 0), (vI 0), (vI 0), (vI 0), (vI 0), (vI 0), (vI 0), (.slice none 0 0)]),
          ⟨none, .st 11 (.tmp 9) (.tmp 24), none⟩])
       (.seq (.reg [oq 25 (.ld (some 5) (.tmp 2)),
          oq 26 (.mv (.tmp 1)),
          oq 27 (.ld (some 11) (.tmp 9)),
          oq 28 (.call 31 [(.tmp 25), (.tmp 26), (.tmp 27)]),
          oq 29 (.fld none 10 (.tmp 28)),
          oq 30 (.lns (.tmp 29)),
          oq 31 (.mv (.const (vI 0)))])
       (.block 2 (.loop (.seq (.reg [oq 32 (.bin .lss (.tmp 31) (.tmp 30))])
         (.seq (.cond (.tmp 32)
           .skip
           (.exit 2))
         (.seq (.block 3 (.seq (.reg [oq 33 (.ixs 4 (.tmp 29) (.tmp 31)),
              oq 34 (.ld (some 4) (.tmp 33)),
              oq 11 (.new [(vI 0), (vI 0), (.slice none 0 0), (vB false)]),
              ⟨none, .st 4 (.tmp 11) (.tmp 34), none⟩])
           (.reg [oq 35 (.mv (.tmp 7)),
             oq 36 (.ld (some 4) (.tmp 11)),
             oq 37 (.call 32 [(.tmp 36)]),
             oq 38 (.bin .add (.tmp 35) (.tmp 37)),
             oq 7 (.mv (.tmp 38))])))
         (.reg [oq 39 (.bin .add (.tmp 31) (.const (vI 1))),
           oq 31 (.mv (.tmp 39))])))))))))
     (.reg [oq 40 (.bin .add (.tmp 21) (.const (vI 1))),
       oq 21 (.mv (.tmp 40))])))))))
  (.seq (.seq (.reg [oq 41 (.mv (.tmp 7)),
      oq 42 (.bin .gtr (.tmp 41) (.const (vI 4194304)))])
   (.cond (.tmp 42)
    (.seq (.drw [oq 43 (.ld none (.global 1)),
        oq 4 (.mv (.const (vI 0))),
        oq 5 (.mv (.tmp 43))] [[], [], [0, 1, 0, 1]])
     .ret)
    .skip))
  (.seq (.reg [oq 44 (.mv (.tmp 7)),
     oq 4 (.mv (.tmp 44)),
     oq 5 (.mv (.const .nilIface))])
  .ret))))))
def render_Edges_v1.f (i0_0 : Int) (i0_1 : Int) (i0_2 : Int) (w1 : Int) : Option (Int × Int) := (scale_Check_v1.f i0_0 i0_1 i0_2 w1).bind fun t9 => (if t9 = 0 then (some (0, 0)) else (some (0, t9)))
theorem render_Edges_v1.ok {S : Seal} {i0_0 : Int} {i0_1 : Int} {i0_2 : Int} {w1 : Int} {r0_ : Int} {r1_ : Int}{A_ : Int → Addr} (hE_ : EO gsE S A_ 157) {a_i0_3 : Option Addr} {n_i0_3 c_i0_3 : Nat} (e : render_Edges_v1.f i0_0 i0_1 i0_2 w1 = some (r0_, r1_)) :
    Cal Tryd.prog 17 [.agg #[vI i0_0, vI i0_1, vI i0_2, .slice a_i0_3 n_i0_3 c_i0_3, .slice none 0 0], vI w1] [] S fun v H' S' => v = .tuple #[vI r0_, errV 157 A_ r1_] ∧ H' = [] ∧ S' = S := by
 unfold render_Edges_v1.f at e
 refine cal_of (c := c17) (N := 45) Tryd.func17 rfl rfl (by kernel_rfl) (rs := [.t 4, .t 5]) (by kernel_rfl) (Nat.le_of_ble_eq_true rfl) ?_
 unfold c17
 refine w_seq ?_
 refine w_reg fun all => ?_
 refine t_a (.box rfl rfl rfl) fun b8 fb8 sb8 => ?_
 refine t_qz 2 [1, 2] (σ' := [(1, vI w1), (2, vP b8 0)]) (by kernel_rfl) ?_
 refine t_end ?_
 show W _ _ _ _ _ _ _
 refine w_seq ?_
 refine w_seq ?_
 refine w_reg fun all => ?_
 refine t_v (.ldn rfl rfl rfl (.at 0 rfl rfl)) ?_
 obtain ⟨t9, h10, e⟩ := bind_of e
 refine t_qz 1 [1, 2, 12, 13] (σ' := [(1, vI w1), (2, vP b8 0), (12, .agg #[vI i0_0, vI i0_1, vI i0_2, .slice a_i0_3 n_i0_3 c_i0_3, .slice none 0 0]), (13, vI w1)]) (by kernel_rfl) ?_
 refine t_v (.call (vs := [.agg #[vI i0_0, vI i0_1, vI i0_2, .slice a_i0_3 n_i0_3 c_i0_3, .slice none 0 0], vI w1]) rfl rfl (by kernel_rfl) (scale_Check_v1.ok hE_ h10)) ?_
 refine t_qz 1 [1, 2, 6] (σ' := [(1, vI w1), (2, vP b8 0), (6, errV 157 A_ t9)]) (by kernel_rfl) ?_
 refine t_end ?_
 show W _ _ _ _ _ _ _
 refine w_seq ?_
 refine w_reg fun all => ?_
 by_cases c11 : t9 = 0
 ·rw [if_pos c11] at e
  have c11b : (t9 == 0) = true := beq_iff_eq.mpr c11
  refine t_qz 1 [1, 2, 6, 15] (σ' := [(1, vI w1), (2, vP b8 0), (6, errV 157 A_ t9), (15, errV 157 A_ t9)]) (by kernel_rfl) ?_
  refine t_v (.eqt (a := errV 157 A_ t9) (b := .nilIface) (r := t9 == 0) rfl rfl rfl rfl (eqErr (by kernel_rfl) rfl) (bnk c11b rfl)) ?_
  refine t_keep [1, 2, 6, 16] (σ' := [(1, vI w1), (2, vP b8 0), (6, errV 157 A_ t9), (16, vB false)]) (by kernel_rfl) ?_
  refine t_end ?_
  show W _ _ _ _ _ _ _
  refine w_cond rfl (fun c_ => by cases c_) (fun _ => ?_)
  show W _ _ _ _ _ _ _
  refine w_skip ?_
  show W _ _ _ _ _ _ _
  refine w_seq ?_
  refine w_reg fun all => ?_
  refine t_qz 1 [1, 2, 7] (σ' := [(1, vI w1), (2, vP b8 0), (7, vI 0)]) (by kernel_rfl) ?_
  refine t_end ?_
  show W _ _ _ _ _ _ _
  refine w_seq ?_
  refine w_seq ?_
  refine w_reg fun all => ?_
  refine t_qz 1 [1, 2, 7, 18] (σ' := [(1, vI w1), (2, vP b8 0), (7, vI 0), (18, vP b8 4)]) (by kernel_rfl) ?_
  refine t_v (.ld1 rfl rfl rfl (.at 0 rfl rfl)) ?_
  refine t_qz 2 [1, 2, 7, 19, 20, 21] (σ' := [(1, vI w1), (2, vP b8 0), (7, vI 0), (19, .slice none 0 0), (20, vI 0), (21, vI 0)]) (by kernel_rfl) ?_
  refine t_end ?_
  show W _ _ _ _ _ _ _
  refine w_block ?_
  refine w_lun 15 ?_
  refine wl_step ?_
  refine w_seq ?_
  refine w_reg fun all => ?_
  refine t_qz 1 [1, 2, 7, 19, 20, 21, 22] (σ' := [(1, vI w1), (2, vP b8 0), (7, vI 0), (19, .slice none 0 0), (20, vI 0), (21, vI 0), (22, vB false)]) (by kernel_rfl) ?_
  refine t_end ?_
  show W _ _ _ _ _ _ _
  refine w_seq ?_
  refine w_cond rfl (fun c_ => by cases c_) (fun _ => ?_)
  show W _ _ _ _ _ _ _
  refine w_exit ?_
  show W _ _ _ _ _ _ _
  refine w_seq ?_
  refine w_seq ?_
  refine w_reg fun all => ?_
  refine t_qz 2 [7, 42] (σ' := [(7, vI 0), (42, vB false)]) (by kernel_rfl) ?_
  refine t_end ?_
  show W _ _ _ _ _ _ _
  refine w_cond rfl (fun c_ => by cases c_) (fun _ => ?_)
  show W _ _ _ _ _ _ _
  refine w_skip ?_
  show W _ _ _ _ _ _ _
  refine w_seq ?_
  refine w_reg fun all => ?_
  refine t_qz 3 [4, 5] (σ' := [(4, vI 0), (5, .nilIface)]) (by kernel_rfl) ?_
  refine t_end ?_
  show W _ _ _ _ _ _ _
  refine w_ret ?_
  simp only [Option.some.injEq, Prod.mk.injEq] at e
  obtain ⟨rfl, rfl⟩ := e
  exact ⟨[vI 0, .nilIface], [], S, ⟨rfl, rfl, trivial⟩, VS.none, rfl, rfl, rfl⟩
 ·rw [if_neg c11] at e
  have c11b : (t9 == 0) = false := beq_eq_false_iff_ne.mpr c11
  refine t_qz 1 [1, 2, 6, 15] (σ' := [(1, vI w1), (2, vP b8 0), (6, errV 157 A_ t9), (15, errV 157 A_ t9)]) (by kernel_rfl) ?_
  refine t_v (.eqt (a := errV 157 A_ t9) (b := .nilIface) (r := t9 == 0) rfl rfl rfl rfl (eqErr (by kernel_rfl) rfl) (bnk c11b rfl)) ?_
  refine t_keep [1, 2, 6, 16] (σ' := [(1, vI w1), (2, vP b8 0), (6, errV 157 A_ t9), (16, vB true)]) (by kernel_rfl) ?_
  refine t_end ?_
  show W _ _ _ _ _ _ _
  refine w_cond rfl (fun _ => ?_) (fun c_ => by cases c_)
  show W _ _ _ _ _ _ _
  refine w_seq ?_
  refine w_reg fun all => ?_
  refine t_qz 3 [4, 5] (σ' := [(4, vI 0), (5, errV 157 A_ t9)]) (by kernel_rfl) ?_
  refine t_end ?_
  show W _ _ _ _ _ _ _
  refine w_ret ?_
  simp only [Option.some.injEq, Prod.mk.injEq] at e
  obtain ⟨rfl, rfl⟩ := e
  exact ⟨[vI 0, errV 157 A_ t9], [], S, ⟨rfl, rfl, trivial⟩, VS.none, rfl, rfl, rfl⟩

/-- render.layers -/
def c18 : C :=
  (.seq (.reg [oq 2 (.box (.tmp 0)),
     oq 4 (.mv (.const (.slice none 0 0)))])
  (.seq (.reg [oq 5 (.mv (.const (.slice none 0 0)))])
  (.seq (.seq (.reg [oq 11 (.pad 4 (.tmp 2)),
      oq 12 (.ld none (.tmp 11)),
      oq 13 (.lns (.tmp 12)),
      oq 14 (.mv (.const (vI 0)))])
   (.block 0 (.loop (.seq (.reg [oq 15 (.bin .lss (.tmp 14) (.tmp 13))])
     (.seq (.cond (.tmp 15)
       .skip
       (.exit 0))
     (.seq (.block 1 (.seq (.reg [oq 16 (.ixs 11 (.tmp 12) (.tmp 14)),
          oq 17 (.ld (some 11) (.tmp 16)),
          oq 7 (.new [(vI 0), (vI 0), (vI 0), (vI 0), (vI 0), (vI 0), (vI 0), (vI 0), (vI 0), (vI 0), (.slice none 0 0)]),
          ⟨none, .st 11 (.tmp 7) (.tmp 17), none⟩])
       (.seq (.reg [oq 18 (.ld (some 5) (.tmp 2)),
          oq 19 (.mv (.tmp 1)),
          oq 20 (.ld (some 11) (.tmp 7)),
          oq 21 (.call 31 [(.tmp 18), (.tmp 19), (.tmp 20)]),
          oq 22 (.bld [(vI 0), (vI 0), (vI 0), (vI 0), (vI 0), (vI 0), (vI 0), (vI 0), (vI 0), (vI 0), (.slice none 0 0), (.slice none 0 0)] [(0, 11, (.tmp 21))]),
          oq 8 (.new [(vI 0), (vI 0), (vI 0), (vI 0), (vI 0), (vI 0), (vI 0), (vI 0), (vI 0), (vI 0), (.slice none 0 0), (.slice none 0 0)]),
          ⟨none, .st 12 (.tmp 8) (.tmp 22), none⟩])
       (.seq (.seq (.reg [oq 23 (.pad 0 (.tmp 8)),
           oq 24 (.pad 10 (.tmp 23)),
           oq 25 (.ld none (.tmp 24)),
           oq 26 (.lns (.tmp 25)),
           oq 27 (.mv (.const (vI 0)))])
        (.block 2 (.loop (.seq (.reg [oq 28 (.bin .lss (.tmp 27) (.tmp 26))])
          (.seq (.cond (.tmp 28)
            .skip
            (.exit 2))
          (.seq (.block 3 (.seq (.reg [oq 29 (.ixs 4 (.tmp 25) (.tmp 27)),
               oq 30 (.ld (some 4) (.tmp 29)),
               oq 10 (.new [(vI 0), (vI 0), (.slice none 0 0), (vB false)]),
               ⟨none, .st 4 (.tmp 10) (.tmp 30), none⟩])
            (.drw [oq 31 (.pad 11 (.tmp 8)),
              oq 32 (.ld none (.tmp 31)),
              oq 33 (.ld (some 4) (.tmp 10)),
              oq 34 (.pad 0 (.tmp 7)),
              oq 35 (.ld none (.tmp 34)),
              oq 36 (.bin .eql (.tmp 35) (.const (vI 1))),
              oq 37 (.call 33 [(.tmp 33), (.tmp 36)]),
              oq 38 (.app 105 4 32 [(vI 0), (vI 0), (vI 0), (vI 0)] (.tmp 32) (.tmp 37)),
              oq 39 (.pad 11 (.tmp 8)),
              ⟨none, .st 1 (.tmp 39) (.tmp 38), none⟩] [[], [0], [], [], [3], [4], [2, 5], [1, 6, 6], [0, 1, 2, 3, 4, 5, 6, 7], [8, 7, 7, 0, 1, 2, 3, 4, 5, 6, 7]])))
          (.reg [oq 40 (.bin .add (.tmp 27) (.const (vI 1))),
            oq 27 (.mv (.tmp 40))])))))))
       (.reg [oq 41 (.mv (.tmp 5)),
         oq 42 (.ld (some 12) (.tmp 8)),
         oq 43 (.bsl [(vI 0), (vI 0), (vI 0), (vI 0), (vI 0), (vI 0), (vI 0), (vI 0), (vI 0), (vI 0), (.slice none 0 0), (.slice none 0 0)] 1 [(0, 12, (.tmp 42))]),
         oq 44 (.app 89 12 128 [(vI 0), (vI 0), (vI 0), (vI 0), (vI 0), (vI 0), (vI 0), (vI 0), (vI 0), (vI 0), (.slice none 0 0), (.slice none 0 0)] (.tmp 41) (.tmp 43)),
         oq 5 (.mv (.tmp 44))])))))
     (.reg [oq 45 (.bin .add (.tmp 14) (.const (vI 1))),
       oq 14 (.mv (.tmp 45))])))))))
  (.seq (.reg [oq 46 (.mv (.tmp 5)),
     oq 4 (.mv (.tmp 46))])
  .ret))))
def render_layers_v1.f (i0_0 : Int) (i0_1 : Int) (i0_2 : Int) (w1 : Int) : Option (Unit) := some ()
theorem render_layers_v1.ok {S : Seal} {i0_0 : Int} {i0_1 : Int} {i0_2 : Int} {w1 : Int} {A_ : Int → Addr} (hE_ : EO gsE S A_ 157) {a_i0_3 : Option Addr} {n_i0_3 c_i0_3 : Nat} (e : render_layers_v1.f i0_0 i0_1 i0_2 w1 = some ()) :
    Cal Tryd.prog 18 [.agg #[vI i0_0, vI i0_1, vI i0_2, .slice a_i0_3 n_i0_3 c_i0_3, .slice none 0 0], vI w1] [] S fun v H' S' => v = .slice none 0 0 ∧ H' = [] ∧ S' = S := by
 unfold render_layers_v1.f at e
 refine cal_of (c := c18) (N := 47) Tryd.func18 rfl rfl (by kernel_rfl) (rs := [.t 4]) (by kernel_rfl) (Nat.le_of_ble_eq_true rfl) ?_
 unfold c18
 refine w_seq ?_
 refine w_reg fun all => ?_
 refine t_a (.box rfl rfl rfl) fun b8 fb8 sb8 => ?_
 refine t_qz 1 [1, 2] (σ' := [(1, vI w1), (2, vP b8 0)]) (by kernel_rfl) ?_
 refine t_end ?_
 show W _ _ _ _ _ _ _
 refine w_seq ?_
 refine w_reg fun all => ?_
 refine t_qz 1 [1, 2, 5] (σ' := [(1, vI w1), (2, vP b8 0), (5, .slice none 0 0)]) (by kernel_rfl) ?_
 refine t_end ?_
 show W _ _ _ _ _ _ _
 refine w_seq ?_
 refine w_seq ?_
 refine w_reg fun all => ?_
 refine t_qz 1 [1, 2, 5, 11] (σ' := [(1, vI w1), (2, vP b8 0), (5, .slice none 0 0), (11, vP b8 4)]) (by kernel_rfl) ?_
 refine t_v (.ld1 rfl rfl rfl (.at 0 rfl rfl)) ?_
 refine t_qz 2 [1, 2, 5, 12, 13, 14] (σ' := [(1, vI w1), (2, vP b8 0), (5, .slice none 0 0), (12, .slice none 0 0), (13, vI 0), (14, vI 0)]) (by kernel_rfl) ?_
 refine t_end ?_
 show W _ _ _ _ _ _ _
 refine w_block ?_
 refine w_lun 15 ?_
 refine wl_step ?_
 refine w_seq ?_
 refine w_reg fun all => ?_
 refine t_qz 1 [1, 2, 5, 12, 13, 14, 15] (σ' := [(1, vI w1), (2, vP b8 0), (5, .slice none 0 0), (12, .slice none 0 0), (13, vI 0), (14, vI 0), (15, vB false)]) (by kernel_rfl) ?_
 refine t_end ?_
 show W _ _ _ _ _ _ _
 refine w_seq ?_
 refine w_cond rfl (fun c_ => by cases c_) (fun _ => ?_)
 show W _ _ _ _ _ _ _
 refine w_exit ?_
 show W _ _ _ _ _ _ _
 refine w_seq ?_
 refine w_reg fun all => ?_
 refine t_qz 2 [4] (σ' := [(4, .slice none 0 0)]) (by kernel_rfl) ?_
 refine t_end ?_
 show W _ _ _ _ _ _ _
 refine w_ret ?_
 exact ⟨[.slice none 0 0], [], S, ⟨rfl, trivial⟩, VS.none, rfl, rfl, rfl⟩

/-- fixed.Round -/
def c51 : C :=
  (.seq (.reg [oq 4 (.mv (.const (vI 0)))])
  (.seq (.seq (.reg [oq 7 (.mv (.tmp 1)),
      oq 8 (.bin .lss (.tmp 7) (.const (vI 1)))])
   (.cond (.tmp 8)
    (.seq (.reg [oq 4 (.mv (.const (vI 0)))])
     .ret)
    .skip))
  (.seq (.reg [oq 9 (.mv (.tmp 0)),
     oq 10 (.mv (.tmp 1)),
     oq 11 (.call 34 [(.tmp 9), (.tmp 10)]),
     oq 5 (.mv (.tmp 11))])
  (.seq (.seq (.reg [oq 12 (.mv (.tmp 0)),
      oq 13 (.mv (.tmp 5)),
      oq 14 (.mv (.tmp 1)),
      oq 15 (.bin .mul (.tmp 13) (.tmp 14)),
      oq 16 (.bin .sub (.tmp 12) (.tmp 15)),
      oq 6 (.mv (.tmp 16))])
   (.seq (.reg [oq 17 (.mv (.tmp 6)),
      oq 18 (.mv (.tmp 1)),
      oq 19 (.mv (.tmp 6)),
      oq 20 (.bin .sub (.tmp 18) (.tmp 19)),
      oq 21 (.bin .geq (.tmp 17) (.tmp 20))])
   (.cond (.tmp 21)
    (.reg [oq 22 (.mv (.tmp 5)),
       oq 23 (.bin .add (.tmp 22) (.const (vI 1))),
       oq 5 (.mv (.tmp 23))])
    .skip)))
  (.seq (.reg [oq 24 (.mv (.tmp 5)),
     oq 4 (.mv (.tmp 24))])
  .ret)))))
def fixed_Round.f (a0 : Int) (b1 : Int) : Option (Int) := if b1 < 1 then (some 0) else ((fixed_Down.f a0 b1).bind fun t44 => (if (wr64 (a0 - (wr64 (t44 * b1)))) ≥ (wr64 (b1 - (wr64 (a0 - (wr64 (t44 * b1)))))) then (some (wr64 (t44 + 1))) else (some t44)))
theorem fixed_Round.ok {S : Seal} {a0 : Int} {b1 : Int} {r0_ : Int}{A_ : Int → Addr} (hE_ : EO gsE S A_ 157) (e : fixed_Round.f a0 b1 = some r0_) :
    Cal Tryd.prog 51 [vI a0, vI b1] [] S fun v H' S' => v = vI r0_ ∧ H' = [] ∧ S' = S := by
 unfold fixed_Round.f at e
 refine cal_of (c := c51) (N := 25) Tryd.func51 rfl rfl (by kernel_rfl) (rs := [.t 4]) (by kernel_rfl) (Nat.le_of_ble_eq_true rfl) ?_
 unfold c51
 refine w_seq ?_
 refine w_reg fun all => ?_
 refine t_qz 1 [0, 1] (σ' := [(0, vI a0), (1, vI b1)]) (by kernel_rfl) ?_
 refine t_end ?_
 show W _ _ _ _ _ _ _
 refine w_seq ?_
 refine w_seq ?_
 refine w_reg fun all => ?_
 by_cases c43 : b1 < 1
 ·rw [if_pos c43] at e
  have c43b : (decide (b1 < 1)) = true := decide_eq_true c43
  refine t_qz 1 [0, 1, 7] (σ' := [(0, vI a0), (1, vI b1), (7, vI b1)]) (by kernel_rfl) ?_
  refine t_v (dv_quiet rfl (congrArg (fun t => some (Value.bool t)) c43b)) ?_
  refine t_keep [0, 1, 8] (σ' := [(0, vI a0), (1, vI b1), (8, vB true)]) (by kernel_rfl) ?_
  refine t_end ?_
  show W _ _ _ _ _ _ _
  refine w_cond rfl (fun _ => ?_) (fun c_ => by cases c_)
  show W _ _ _ _ _ _ _
  refine w_seq ?_
  refine w_reg fun all => ?_
  refine t_qz 1 [4] (σ' := [(4, vI 0)]) (by kernel_rfl) ?_
  refine t_end ?_
  show W _ _ _ _ _ _ _
  refine w_ret ?_
  obtain rfl := Option.some.inj e
  exact ⟨[vI 0], [], S, ⟨rfl, trivial⟩, VS.none, rfl, rfl, rfl⟩
 ·rw [if_neg c43] at e
  have c43b : (decide (b1 < 1)) = false := decide_eq_false c43
  refine t_qz 1 [0, 1, 7] (σ' := [(0, vI a0), (1, vI b1), (7, vI b1)]) (by kernel_rfl) ?_
  refine t_v (dv_quiet rfl (congrArg (fun t => some (Value.bool t)) c43b)) ?_
  refine t_keep [0, 1, 8] (σ' := [(0, vI a0), (1, vI b1), (8, vB false)]) (by kernel_rfl) ?_
  refine t_end ?_
  show W _ _ _ _ _ _ _
  refine w_cond rfl (fun c_ => by cases c_) (fun _ => ?_)
  show W _ _ _ _ _ _ _
  refine w_skip ?_
  show W _ _ _ _ _ _ _
  refine w_seq ?_
  refine w_reg fun all => ?_
  obtain ⟨t44, h45, e⟩ := bind_of e
  refine t_qz 2 [0, 1, 9, 10] (σ' := [(0, vI a0), (1, vI b1), (9, vI a0), (10, vI b1)]) (by kernel_rfl) ?_
  refine t_v (.call (vs := [vI a0, vI b1]) rfl rfl (by kernel_rfl) (fixed_Down.ok hE_ h45)) ?_
  refine t_qz 1 [0, 1, 5] (σ' := [(0, vI a0), (1, vI b1), (5, vI t44)]) (by kernel_rfl) ?_
  refine t_end ?_
  show W _ _ _ _ _ _ _
  refine w_seq ?_
  refine w_seq ?_
  refine w_reg fun all => ?_
  refine t_qz 6 [1, 5, 6] (σ' := [(1, vI b1), (5, vI t44), (6, vI (wr64 (a0 - (wr64 (t44 * b1)))))]) (by kernel_rfl) ?_
  refine t_end ?_
  show W _ _ _ _ _ _ _
  refine w_seq ?_
  refine w_reg fun all => ?_
  by_cases c46 : (wr64 (a0 - (wr64 (t44 * b1)))) ≥ (wr64 (b1 - (wr64 (a0 - (wr64 (t44 * b1))))))
  ·rw [if_pos c46] at e
   have c46b : (decide ((wr64 (a0 - (wr64 (t44 * b1)))) ≥ (wr64 (b1 - (wr64 (a0 - (wr64 (t44 * b1)))))))) = true := decide_eq_true c46
   refine t_qz 4 [5, 17, 20] (σ' := [(5, vI t44), (17, vI (wr64 (a0 - (wr64 (t44 * b1))))), (20, vI (wr64 (b1 - (wr64 (a0 - (wr64 (t44 * b1)))))))]) (by kernel_rfl) ?_
   refine t_v (dv_quiet rfl (congrArg (fun t => some (Value.bool t)) c46b)) ?_
   refine t_keep [5, 21] (σ' := [(5, vI t44), (21, vB true)]) (by kernel_rfl) ?_
   refine t_end ?_
   show W _ _ _ _ _ _ _
   refine w_cond rfl (fun _ => ?_) (fun c_ => by cases c_)
   show W _ _ _ _ _ _ _
   refine w_reg fun all => ?_
   refine t_qz 3 [5] (σ' := [(5, vI (wr64 (t44 + 1)))]) (by kernel_rfl) ?_
   refine t_end ?_
   show W _ _ _ _ _ _ _
   refine w_seq ?_
   refine w_reg fun all => ?_
   refine t_qz 2 [4] (σ' := [(4, vI (wr64 (t44 + 1)))]) (by kernel_rfl) ?_
   refine t_end ?_
   show W _ _ _ _ _ _ _
   refine w_ret ?_
   obtain rfl := Option.some.inj e
   exact ⟨[vI (wr64 (t44 + 1))], [], S, ⟨rfl, trivial⟩, VS.none, rfl, rfl, rfl⟩
  ·rw [if_neg c46] at e
   have c46b : (decide ((wr64 (a0 - (wr64 (t44 * b1)))) ≥ (wr64 (b1 - (wr64 (a0 - (wr64 (t44 * b1)))))))) = false := decide_eq_false c46
   refine t_qz 4 [5, 17, 20] (σ' := [(5, vI t44), (17, vI (wr64 (a0 - (wr64 (t44 * b1))))), (20, vI (wr64 (b1 - (wr64 (a0 - (wr64 (t44 * b1)))))))]) (by kernel_rfl) ?_
   refine t_v (dv_quiet rfl (congrArg (fun t => some (Value.bool t)) c46b)) ?_
   refine t_keep [5, 21] (σ' := [(5, vI t44), (21, vB false)]) (by kernel_rfl) ?_
   refine t_end ?_
   show W _ _ _ _ _ _ _
   refine w_cond rfl (fun c_ => by cases c_) (fun _ => ?_)
   show W _ _ _ _ _ _ _
   refine w_skip ?_
   show W _ _ _ _ _ _ _
   refine w_seq ?_
   refine w_reg fun all => ?_
   refine t_qz 2 [4] (σ' := [(4, vI t44)]) (by kernel_rfl) ?_
   refine t_end ?_
   show W _ _ _ _ _ _ _
   refine w_ret ?_
   obtain rfl := Option.some.inj e
   exact ⟨[vI t44], [], S, ⟨rfl, trivial⟩, VS.none, rfl, rfl, rfl⟩

/-- blend.Final -/
def c36 : C :=
  (.seq (.reg [oq 1 (.box (.tmp 0)),
     oq 2 (.new [(.int .u8 0), (.int .u8 0), (.int .u8 0), (.int .u8 0)])])
  (.seq (.reg [oq 5 (.ixa 1 4 (.tmp 1) (.const (vI 3))),
     oq 6 (.ld none (.tmp 5)),
     oq 7 (.call 51 [(.tmp 6), (.const (vI 257))]),
     oq 8 (.cnv .u8 (.tmp 7)),
     oq 9 (.bld [(.int .u8 0), (.int .u8 0), (.int .u8 0), (.int .u8 0)] [(3, 1, (.tmp 8))]),
     oq 3 (.new [(.int .u8 0), (.int .u8 0), (.int .u8 0), (.int .u8 0)]),
     ⟨none, .st 4 (.tmp 3) (.tmp 9), none⟩])
  (.seq (.seq (.reg [oq 10 (.mv (.const (vI 0)))])
   (.block 0 (.loop (.seq (.reg [oq 11 (.bin .lss (.tmp 10) (.const (vI 3)))])
     (.seq (.cond (.tmp 11)
       .skip
       (.exit 0))
     (.seq (.block 1 (.seq (.reg [oq 12 (.mv (.tmp 10)),
          oq 4 (.mv (.tmp 12))])
       (.drw [oq 13 (.mv (.tmp 4)),
         oq 14 (.mv (.tmp 4)),
         oq 15 (.ixa 1 4 (.tmp 1) (.tmp 14)),
         oq 16 (.ld none (.tmp 15)),
         oq 17 (.bin .mul (.tmp 16) (.const (vI 255))),
         oq 18 (.ixa 1 4 (.tmp 1) (.const (vI 3))),
         oq 19 (.ld none (.tmp 18)),
         oq 20 (.call 51 [(.tmp 17), (.tmp 19)]),
         oq 21 (.mm false [(.tmp 20), (.const (vI 255))]),
         oq 22 (.cnv .u8 (.tmp 21)),
         oq 23 (.ixa 1 4 (.tmp 3) (.tmp 13)),
         ⟨none, .st 1 (.tmp 23) (.tmp 22), none⟩] [[], [], [1], [2], [3], [], [5], [4, 6], [7], [8], [0, 0, 1, 2, 3, 4, 5, 6, 7, 8, 9], [10, 9, 7, 0, 1, 2, 3, 4, 5, 6, 7, 8, 9]])))
     (.reg [oq 24 (.bin .add (.tmp 10) (.const (vI 1))),
       oq 10 (.mv (.tmp 24))])))))))
  (.seq (.reg [oq 25 (.ld (some 4) (.tmp 3)),
     ⟨none, .st 4 (.tmp 2) (.tmp 25), none⟩])
  .ret))))
def blend_Final.f (v0_0 : Int) (v0_1 : Int) (v0_2 : Int) (v0_3 : Int) : Option (Int × Int × Int × Int) := (fixed_Round.f v0_3 257).bind fun t47 => ((fixed_Round.f (wr64 (v0_0 * 255)) v0_3).bind fun t50 => ((fixed_Round.f (wr64 (v0_1 * 255)) v0_3).bind fun t52 => ((fixed_Round.f (wr64 (v0_2 * 255)) v0_3).bind fun t54 => (some (wru8 (mn t50 255), wru8 (mn t52 255), wru8 (mn t54 255), wru8 t47)))))
theorem blend_Final.ok {S : Seal} {v0_0 : Int} {v0_1 : Int} {v0_2 : Int} {v0_3 : Int} {r0_ : Int} {r1_ : Int} {r2_ : Int} {r3_ : Int}{A_ : Int → Addr} (hE_ : EO gsE S A_ 157) (e : blend_Final.f v0_0 v0_1 v0_2 v0_3 = some (r0_, r1_, r2_, r3_)) :
    Cal Tryd.prog 36 [.agg #[vI v0_0, vI v0_1, vI v0_2, vI v0_3]] [] S fun v H' S' => v = .agg #[.int .u8 r0_, .int .u8 r1_, .int .u8 r2_, .int .u8 r3_] ∧ H' = [] ∧ S' = S := by
 unfold blend_Final.f at e
 refine cal_of (c := c36) (N := 26) Tryd.func36 rfl rfl (by kernel_rfl) (rs := [.cn 4 2]) (by kernel_rfl) (Nat.le_of_ble_eq_true rfl) ?_
 unfold c36
 refine w_seq ?_
 refine w_reg fun all => ?_
 refine t_a (.box rfl rfl rfl) fun b41 fb41 sb41 => ?_
 refine t_a (.new rfl rfl) fun b42 fb42 sb42 => ?_
 refine t_keep [1, 2] (σ' := [(1, vP b41 0), (2, vP b42 0)]) (by kernel_rfl) ?_
 refine t_end ?_
 show W _ _ _ _ _ _ _
 refine w_seq ?_
 refine w_reg fun all => ?_
 refine t_qz 1 [1, 2, 5] (σ' := [(1, vP b41 0), (2, vP b42 0), (5, vP b41 3)]) (by kernel_rfl) ?_
 refine t_v (.ld1 rfl rfl rfl (.at 1 rfl rfl)) ?_
 obtain ⟨t47, h48, e⟩ := bind_of e
 refine t_v (.call (vs := [vI v0_3, vI 257]) rfl rfl (by kernel_rfl) (fixed_Round.ok hE_ h48)) ?_
 refine t_qz 2 [1, 2, 9] (σ' := [(1, vP b41 0), (2, vP b42 0), (9, .agg #[.int .u8 0, .int .u8 0, .int .u8 0, .int .u8 (wru8 t47)])]) (by kernel_rfl) ?_
 refine t_a (.new rfl rfl) fun b49 fb49 sb49 => ?_
 refine t_sti 0 (cs := [.int .u8 0, .int .u8 0, .int .u8 0, .int .u8 (wru8 t47)]) rfl rfl rfl rfl rfl rfl rfl rfl rfl ?_
 refine t_keep [1, 2, 3] (σ' := [(1, vP b41 0), (2, vP b42 0), (3, vP b49 0)]) (by kernel_rfl) ?_
 refine t_end ?_
 show W _ _ _ _ _ _ _
 refine w_seq ?_
 refine w_seq ?_
 refine w_reg fun all => ?_
 refine t_qz 1 [1, 2, 3, 10] (σ' := [(1, vP b41 0), (2, vP b42 0), (3, vP b49 0), (10, vI 0)]) (by kernel_rfl) ?_
 refine t_end ?_
 show W _ _ _ _ _ _ _
 refine w_block ?_
 refine w_lun 15 ?_
 refine wl_step ?_
 refine w_seq ?_
 refine w_reg fun all => ?_
 refine t_qz 1 [1, 2, 3, 10, 11] (σ' := [(1, vP b41 0), (2, vP b42 0), (3, vP b49 0), (10, vI 0), (11, vB true)]) (by kernel_rfl) ?_
 refine t_end ?_
 show W _ _ _ _ _ _ _
 refine w_seq ?_
 refine w_cond rfl (fun _ => ?_) (fun c_ => by cases c_)
 show W _ _ _ _ _ _ _
 refine w_skip ?_
 show W _ _ _ _ _ _ _
 refine w_seq ?_
 refine w_block ?_
 refine w_seq ?_
 refine w_reg fun all => ?_
 refine t_qz 2 [1, 2, 3, 4, 10] (σ' := [(1, vP b41 0), (2, vP b42 0), (3, vP b49 0), (4, vI 0), (10, vI 0)]) (by kernel_rfl) ?_
 refine t_end ?_
 show W _ _ _ _ _ _ _
 obtain ⟨t50, h51, e⟩ := bind_of e
 refine w_drwE mixed 11 [.v (vI 0), .v (vI 0), .v (vP b41 0), .v (vI v0_0), .v (vI (wr64 (v0_0 * 255))), .v (vP b41 3), .v (vI v0_3), .v (vI t50), .v (vI (mn t50 255)), .v (.int .u8 (wru8 (mn t50 255))), .v (vP b49 0)] (by kernel_rfl) ?_ ?_
 ·refine DI.sq 3 (by kernel_rfl) rfl ?_
  refine .cons (.ld1 rfl rfl rfl (.at 2 rfl rfl)) ?_
  refine DI.sq 2 (by kernel_rfl) rfl ?_
  refine .cons (.ld1 rfl rfl rfl (.at 2 rfl rfl)) ?_
  refine .cons (.call (vs := [vI (wr64 (v0_0 * 255)), vI v0_3]) rfl rfl (by kernel_rfl) (fixed_Round.ok hE_ h51)) ?_
  refine DI.sq 3 (by kernel_rfl) rfl ?_
  exact .nil
 refine fk_q 11 [1, 2, 3, 10, 22, 23] (σ' := [(1, vP b41 0), (2, vP b42 0), (3, vP b49 0), (10, vI 0), (22, .int .u8 (wru8 (mn t50 255))), (23, vP b49 0)]) t_more (by kernel_rfl) ?_
 refine fk_nil fun all => ?_
 refine t_sti 0 (cs := [.int .u8 (wru8 (mn t50 255)), .int .u8 0, .int .u8 0, .int .u8 (wru8 t47)]) rfl rfl rfl rfl rfl rfl rfl rfl rfl ?_
 refine t_keep [1, 2, 3, 10] (σ' := [(1, vP b41 0), (2, vP b42 0), (3, vP b49 0), (10, vI 0)]) (by kernel_rfl) ?_
 refine t_end ?_
 show W _ _ _ _ _ _ _
 refine w_reg fun all => ?_
 refine t_qz 2 [1, 2, 3, 10] (σ' := [(1, vP b41 0), (2, vP b42 0), (3, vP b49 0), (10, vI 1)]) (by kernel_rfl) ?_
 refine t_end ?_
 show WL _ _ _ _ _ _ _ _
 refine wl_step ?_
 refine w_seq ?_
 refine w_reg fun all => ?_
 refine t_qz 1 [1, 2, 3, 10, 11] (σ' := [(1, vP b41 0), (2, vP b42 0), (3, vP b49 0), (10, vI 1), (11, vB true)]) (by kernel_rfl) ?_
 refine t_end ?_
 show W _ _ _ _ _ _ _
 refine w_seq ?_
 refine w_cond rfl (fun _ => ?_) (fun c_ => by cases c_)
 show W _ _ _ _ _ _ _
 refine w_skip ?_
 show W _ _ _ _ _ _ _
 refine w_seq ?_
 refine w_block ?_
 refine w_seq ?_
 refine w_reg fun all => ?_
 refine t_qz 2 [1, 2, 3, 4, 10] (σ' := [(1, vP b41 0), (2, vP b42 0), (3, vP b49 0), (4, vI 1), (10, vI 1)]) (by kernel_rfl) ?_
 refine t_end ?_
 show W _ _ _ _ _ _ _
 obtain ⟨t52, h53, e⟩ := bind_of e
 refine w_drwE mixed 11 [.v (vI 1), .v (vI 1), .v (vP b41 1), .v (vI v0_1), .v (vI (wr64 (v0_1 * 255))), .v (vP b41 3), .v (vI v0_3), .v (vI t52), .v (vI (mn t52 255)), .v (.int .u8 (wru8 (mn t52 255))), .v (vP b49 1)] (by kernel_rfl) ?_ ?_
 ·refine DI.sq 3 (by kernel_rfl) rfl ?_
  refine .cons (.ld1 rfl rfl rfl (.at 2 rfl rfl)) ?_
  refine DI.sq 2 (by kernel_rfl) rfl ?_
  refine .cons (.ld1 rfl rfl rfl (.at 2 rfl rfl)) ?_
  refine .cons (.call (vs := [vI (wr64 (v0_1 * 255)), vI v0_3]) rfl rfl (by kernel_rfl) (fixed_Round.ok hE_ h53)) ?_
  refine DI.sq 3 (by kernel_rfl) rfl ?_
  exact .nil
 refine fk_q 11 [1, 2, 3, 10, 22, 23] (σ' := [(1, vP b41 0), (2, vP b42 0), (3, vP b49 0), (10, vI 1), (22, .int .u8 (wru8 (mn t52 255))), (23, vP b49 1)]) t_more (by kernel_rfl) ?_
 refine fk_nil fun all => ?_
 refine t_sti 0 (cs := [.int .u8 (wru8 (mn t50 255)), .int .u8 (wru8 (mn t52 255)), .int .u8 0, .int .u8 (wru8 t47)]) rfl rfl rfl rfl rfl rfl rfl rfl rfl ?_
 refine t_keep [1, 2, 3, 10] (σ' := [(1, vP b41 0), (2, vP b42 0), (3, vP b49 0), (10, vI 1)]) (by kernel_rfl) ?_
 refine t_end ?_
 show W _ _ _ _ _ _ _
 refine w_reg fun all => ?_
 refine t_qz 2 [1, 2, 3, 10] (σ' := [(1, vP b41 0), (2, vP b42 0), (3, vP b49 0), (10, vI 2)]) (by kernel_rfl) ?_
 refine t_end ?_
 show WL _ _ _ _ _ _ _ _
 refine wl_step ?_
 refine w_seq ?_
 refine w_reg fun all => ?_
 refine t_qz 1 [1, 2, 3, 10, 11] (σ' := [(1, vP b41 0), (2, vP b42 0), (3, vP b49 0), (10, vI 2), (11, vB true)]) (by kernel_rfl) ?_
 refine t_end ?_
 show W _ _ _ _ _ _ _
 refine w_seq ?_
 refine w_cond rfl (fun _ => ?_) (fun c_ => by cases c_)
 show W _ _ _ _ _ _ _
 refine w_skip ?_
 show W _ _ _ _ _ _ _
 refine w_seq ?_
 refine w_block ?_
 refine w_seq ?_
 refine w_reg fun all => ?_
 refine t_qz 2 [1, 2, 3, 4, 10] (σ' := [(1, vP b41 0), (2, vP b42 0), (3, vP b49 0), (4, vI 2), (10, vI 2)]) (by kernel_rfl) ?_
 refine t_end ?_
 show W _ _ _ _ _ _ _
 obtain ⟨t54, h55, e⟩ := bind_of e
 refine w_drwE mixed 11 [.v (vI 2), .v (vI 2), .v (vP b41 2), .v (vI v0_2), .v (vI (wr64 (v0_2 * 255))), .v (vP b41 3), .v (vI v0_3), .v (vI t54), .v (vI (mn t54 255)), .v (.int .u8 (wru8 (mn t54 255))), .v (vP b49 2)] (by kernel_rfl) ?_ ?_
 ·refine DI.sq 3 (by kernel_rfl) rfl ?_
  refine .cons (.ld1 rfl rfl rfl (.at 2 rfl rfl)) ?_
  refine DI.sq 2 (by kernel_rfl) rfl ?_
  refine .cons (.ld1 rfl rfl rfl (.at 2 rfl rfl)) ?_
  refine .cons (.call (vs := [vI (wr64 (v0_2 * 255)), vI v0_3]) rfl rfl (by kernel_rfl) (fixed_Round.ok hE_ h55)) ?_
  refine DI.sq 3 (by kernel_rfl) rfl ?_
  exact .nil
 refine fk_q 11 [1, 2, 3, 10, 22, 23] (σ' := [(1, vP b41 0), (2, vP b42 0), (3, vP b49 0), (10, vI 2), (22, .int .u8 (wru8 (mn t54 255))), (23, vP b49 2)]) t_more (by kernel_rfl) ?_
 refine fk_nil fun all => ?_
 refine t_sti 0 (cs := [.int .u8 (wru8 (mn t50 255)), .int .u8 (wru8 (mn t52 255)), .int .u8 (wru8 (mn t54 255)), .int .u8 (wru8 t47)]) rfl rfl rfl rfl rfl rfl rfl rfl rfl ?_
 refine t_keep [1, 2, 3, 10] (σ' := [(1, vP b41 0), (2, vP b42 0), (3, vP b49 0), (10, vI 2)]) (by kernel_rfl) ?_
 refine t_end ?_
 show W _ _ _ _ _ _ _
 refine w_reg fun all => ?_
 refine t_qz 2 [1, 2, 3, 10] (σ' := [(1, vP b41 0), (2, vP b42 0), (3, vP b49 0), (10, vI 3)]) (by kernel_rfl) ?_
 refine t_end ?_
 show WL _ _ _ _ _ _ _ _
 refine wl_step ?_
 refine w_seq ?_
 refine w_reg fun all => ?_
 refine t_qz 1 [1, 2, 3, 10, 11] (σ' := [(1, vP b41 0), (2, vP b42 0), (3, vP b49 0), (10, vI 3), (11, vB false)]) (by kernel_rfl) ?_
 refine t_end ?_
 show W _ _ _ _ _ _ _
 refine w_seq ?_
 refine w_cond rfl (fun c_ => by cases c_) (fun _ => ?_)
 show W _ _ _ _ _ _ _
 refine w_exit ?_
 show W _ _ _ _ _ _ _
 refine w_seq ?_
 refine w_reg fun all => ?_
 refine t_v (.ldn rfl rfl rfl (.at 0 rfl rfl)) ?_
 refine t_sti 1 (cs := [.int .u8 (wru8 (mn t50 255)), .int .u8 (wru8 (mn t52 255)), .int .u8 (wru8 (mn t54 255)), .int .u8 (wru8 t47)]) rfl rfl rfl rfl rfl rfl rfl rfl rfl ?_
 refine t_keep [2] (σ' := [(2, vP b42 0)]) (by kernel_rfl) ?_
 refine t_end ?_
 show W _ _ _ _ _ _ _
 refine w_ret ?_
 simp only [Option.some.injEq, Prod.mk.injEq] at e
 obtain ⟨rfl, rfl, rfl, rfl⟩ := e
 exact ⟨[.agg #[.int .u8 (wru8 (mn t50 255)), .int .u8 (wru8 (mn t52 255)), .int .u8 (wru8 (mn t54 255)), .int .u8 (wru8 t47)]], [], S, ⟨⟨_, _, _, rfl, .at 1 rfl rfl, rfl⟩, trivial⟩, VS.none, rfl, rfl, rfl⟩

/-- render.row -/
def c20 : C :=
  (.seq (.reg [oq 4 (.box (.tmp 0)),
     oq 8 (.mv (.const (.slice none 0 0)))])
  (.seq (.reg [oq 16 (.mv (.tmp 2)),
     oq 17 (.mks 4 32 [(vI 0), (vI 0), (vI 0), (vI 0)] (.tmp 16) (.tmp 16)),
     oq 9 (.mv (.tmp 17))])
  (.seq (.seq (.reg [oq 18 (.mv (.tmp 1)),
      oq 19 (.lns (.tmp 18)),
      oq 20 (.mv (.const (vI 0)))])
   (.block 0 (.loop (.seq (.reg [oq 21 (.bin .lss (.tmp 20) (.tmp 19))])
     (.seq (.cond (.tmp 21)
       .skip
       (.exit 0))
     (.seq (.block 1 (.seq (.reg [oq 22 (.ixs 12 (.tmp 18) (.tmp 20)),
          oq 23 (.ld (some 12) (.tmp 22)),
          oq 11 (.new [(vI 0), (vI 0), (vI 0), (vI 0), (vI 0), (vI 0), (vI 0), (vI 0), (vI 0), (vI 0), (.slice none 0 0), (.slice none 0 0)]),
          ⟨none, .st 12 (.tmp 11) (.tmp 23), none⟩])
       (.reg [oq 24 (.ld (some 12) (.tmp 11)),
         oq 25 (.mv (.tmp 9)),
         oq 26 (.pad 3 (.tmp 4)),
         oq 27 (.ld none (.tmp 26)),
         oq 28 (.mv (.tmp 3)),
         oq 29 (.call 35 [(.tmp 24), (.tmp 25), (.tmp 27), (.tmp 28)])])))
     (.reg [oq 30 (.bin .add (.tmp 20) (.const (vI 1))),
       oq 20 (.mv (.tmp 30))])))))))
  (.seq (.reg [oq 31 (.mv (.tmp 2)),
     oq 32 (.bin .mul (.const (vI 4)) (.tmp 31)),
     oq 33 (.mks 1 1 [(.int .u8 0)] (.const (vI 0)) (.tmp 32)),
     oq 12 (.mv (.tmp 33))])
  (.seq (.seq (.reg [oq 34 (.mv (.tmp 9)),
      oq 35 (.lns (.tmp 34)),
      oq 36 (.mv (.const (vI 0)))])
   (.block 2 (.loop (.seq (.reg [oq 37 (.bin .lss (.tmp 36) (.tmp 35))])
     (.seq (.cond (.tmp 37)
       .skip
       (.exit 2))
     (.seq (.block 3 (.seq (.reg [oq 38 (.ixs 4 (.tmp 34) (.tmp 36)),
          oq 39 (.ld (some 4) (.tmp 38)),
          oq 14 (.new [(vI 0), (vI 0), (vI 0), (vI 0)]),
          ⟨none, .st 4 (.tmp 14) (.tmp 39), none⟩])
       (.seq (.reg [oq 40 (.ld (some 4) (.tmp 14)),
          oq 41 (.call 36 [(.tmp 40)]),
          oq 15 (.new [(.int .u8 0), (.int .u8 0), (.int .u8 0), (.int .u8 0)]),
          ⟨none, .st 4 (.tmp 15) (.tmp 41), none⟩])
       (.reg [oq 42 (.mv (.tmp 12)),
         oq 43 (.sla 1 4 (.tmp 15) none none),
         oq 44 (.app 5 1 1 [(.int .u8 0)] (.tmp 42) (.tmp 43)),
         oq 12 (.mv (.tmp 44))]))))
     (.reg [oq 45 (.bin .add (.tmp 36) (.const (vI 1))),
       oq 36 (.mv (.tmp 45))])))))))
  (.seq (.reg [oq 46 (.mv (.tmp 12)),
     oq 8 (.mv (.tmp 46))])
  .ret))))))
def render_row_v1.l0 : Nat → List (Int × Int × Int × Int) → Int → List (Int) → Option (List (Int))
  | 0, _, _, _ => none
  | k + 1, y19, x31, y33 => if x31 < (y19.length : Int) then ((lgt y19 x31).bind fun (x35, x36, x37, x38) => ((blend_Final.f x35 x36 x37 x38).bind fun (t56, t57, t58, t59) => ((lapp y33 ([t56, t57, t58, t59] : List (Int))).bind fun y62 => (render_row_v1.l0 k y19 (wr64 (x31 + 1)) y62)))) else (some y33)
def render_row_v1.f (k : Nat) (i0_0 : Int) (i0_1 : Int) (i0_2 : Int) (w2 : Int) (y3 : Int) : Option (List (Int)) := (lmk ((0, 0, 0, 0) : Int × Int × Int × Int) w2 w2).bind fun y19 => ((some () : Option (Unit)).bind fun _ => ((lmk (0 : Int) 0 (wr64 (4 * w2))).bind fun y25 => ((render_row_v1.l0 k y19 0 y25 : Option (List (Int))).bind fun y68 => (some y68))))
theorem render_row_v1.ok {S : Seal} {k : Nat} {i0_0 : Int} {i0_1 : Int} {i0_2 : Int} {w2 : Int} {y3 : Int} {r0_ : List (Int)}{A_ : Int → Addr} (hE_ : EO gsE S A_ 157) {a_i0_3 : Option Addr} {n_i0_3 c_i0_3 : Nat} {a_i0_4 : Option Addr} {n_i0_4 c_i0_4 : Nat} (e : render_row_v1.f k i0_0 i0_1 i0_2 w2 y3 = some r0_) :
    Cal Tryd.prog 20 [.agg #[vI i0_0, vI i0_1, vI i0_2, .slice a_i0_3 n_i0_3 c_i0_3, .slice a_i0_4 n_i0_4 c_i0_4], .slice none 0 0, vI w2, vI y3] [] S fun v H' S' => ∃ (N0_ : Option Nat) (nN0_ : Nat) , v = .slice (ad N0_) r0_.length (nN0_ / 1) ∧ H' = ([⟨N0_, encL E_u8 r0_, nN0_⟩] : List Own) ∧ S' = S := by
 unfold render_row_v1.f at e
 refine cal_of (c := c20) (N := 47) Tryd.func20 rfl rfl (by kernel_rfl) (rs := [.t 8]) (by kernel_rfl) (Nat.le_of_ble_eq_true rfl) ?_
 unfold c20
 refine w_seq ?_
 refine w_reg fun all => ?_
 refine t_a (.box rfl rfl rfl) fun b18 fb18 sb18 => ?_
 refine t_qz 1 [1, 2, 3, 4] (σ' := [(1, .slice none 0 0), (2, vI w2), (3, vI y3), (4, vP b18 0)]) (by kernel_rfl) ?_
 refine t_end ?_
 show W _ _ _ _ _ _ _
 refine w_seq ?_
 refine w_reg fun all => ?_
 obtain ⟨y19, hl20, e⟩ := bind_of e
 refine t_qz 1 [1, 2, 3, 4, 16] (σ' := [(1, .slice none 0 0), (2, vI w2), (3, vI y3), (4, vP b18 0), (16, vI w2)]) (by kernel_rfl) ?_
 refine t_mkl (E := E_i644) (x0 := (0, 0, 0, 0)) rfl rfl rfl rfl rfl (by decide) (by decide) rfl hl20 fun a21 na21 => ?_
 refine t_qz 1 [1, 2, 3, 4, 9] (σ' := [(1, .slice none 0 0), (2, vI w2), (3, vI y3), (4, vP b18 0), (9, .slice (ad (some a21)) y19.length (na21 / 4))]) (by kernel_rfl) ?_
 refine t_end ?_
 show W _ _ _ _ _ _ _
 obtain ⟨u_, e23, e⟩ := bind_of e
 refine w_cut [2, 9] (fun σ_ H_ S_ => [(2, vI w2), (9, .slice (ad (some a21)) y19.length (na21 / 4))] = σ_ ∧ ([⟨b18, [vI i0_0, vI i0_1, vI i0_2, .slice a_i0_3 n_i0_3 c_i0_3, .slice a_i0_4 n_i0_4 c_i0_4], 5⟩, ⟨some a21, encL E_i644 y19, na21⟩] : List Own) = H_ ∧ S = S_) ?_ ?_
 ·show W _ _ _ _ _ _ _
  refine w_seq ?_
  refine w_reg fun all => ?_
  refine t_qz 3 [2, 3, 4, 9, 18, 19, 20] (σ' := [(2, vI w2), (3, vI y3), (4, vP b18 0), (9, .slice (ad (some a21)) y19.length (na21 / 4)), (18, .slice none 0 0), (19, vI 0), (20, vI 0)]) (by kernel_rfl) ?_
  refine t_end ?_
  show W _ _ _ _ _ _ _
  refine w_block ?_
  refine w_lun 15 ?_
  refine wl_step ?_
  refine w_seq ?_
  refine w_reg fun all => ?_
  refine t_qz 1 [2, 3, 4, 9, 18, 19, 20, 21] (σ' := [(2, vI w2), (3, vI y3), (4, vP b18 0), (9, .slice (ad (some a21)) y19.length (na21 / 4)), (18, .slice none 0 0), (19, vI 0), (20, vI 0), (21, vB false)]) (by kernel_rfl) ?_
  refine t_end ?_
  show W _ _ _ _ _ _ _
  refine w_seq ?_
  refine w_cond rfl (fun c_ => by cases c_) (fun _ => ?_)
  show W _ _ _ _ _ _ _
  refine w_exit ?_
  exact ⟨([⟨b18, [vI i0_0, vI i0_1, vI i0_2, .slice a_i0_3 n_i0_3 c_i0_3, .slice a_i0_4 n_i0_4 c_i0_4], 5⟩, ⟨some a21, encL E_i644 y19, na21⟩] : List Own), S, VS.sel [1, 0] (by kernel_rfl), by kernel_rfl, rfl, rfl⟩
 ·rintro σ_ H_ S_ ⟨rfl, rfl, rfl⟩
  refine w_seq ?_
  refine w_reg fun all => ?_
  obtain ⟨y25, hl26, e⟩ := bind_of e
  refine t_qz 2 [9, 32] (σ' := [(9, .slice (ad (some a21)) y19.length (na21 / 4)), (32, vI (wr64 (4 * w2)))]) (by kernel_rfl) ?_
  refine t_mkl (E := E_u8) (x0 := 0) rfl rfl rfl rfl rfl (by decide) (by decide) rfl hl26 fun a27 na27 => ?_
  refine t_qz 1 [9, 12] (σ' := [(9, .slice (ad (some a21)) y19.length (na21 / 4)), (12, .slice (ad (some a27)) y25.length (na27 / 1))]) (by kernel_rfl) ?_
  refine t_end ?_
  show W _ _ _ _ _ _ _
  obtain ⟨y68, e29, e⟩ := bind_of e
  refine w_cut [12] (fun σ_ H_ S_ => ∃ (a67 : Option Nat) (na67 : Nat), [(12, .slice (ad a67) y68.length (na67 / 1))] = σ_ ∧ ([⟨b18, [vI i0_0, vI i0_1, vI i0_2, .slice a_i0_3 n_i0_3 c_i0_3, .slice a_i0_4 n_i0_4 c_i0_4], 5⟩, ⟨a67, encL E_u8 y68, na67⟩, ⟨some a21, encL E_i644 y19, na21⟩] : List Own) = H_ ∧ S = S_) ?_ ?_
  ·show W _ _ _ _ _ _ _
   refine w_seq ?_
   refine w_reg fun all => ?_
   refine t_qz 3 [12, 34, 35, 36] (σ' := [(12, .slice (ad (some a27)) y25.length (na27 / 1)), (34, .slice (ad (some a21)) y19.length (na21 / 4)), (35, vI (y19.length : Int)), (36, vI 0)]) (by kernel_rfl) ?_
   refine t_end ?_
   show W _ _ _ _ _ _ _
   refine w_block ?_
   refine w_kp [12, 34, 35, 36] (σ' := [(12, .slice (ad (some a27)) y25.length (na27 / 1)), (34, .slice (ad (some a21)) y19.length (na21 / 4)), (35, vI (y19.length : Int)), (36, vI 0)]) (by kernel_rfl) ?_
   refine w_loop (fun n_ σ_ H_ S_ => ∃ (x31 : Int) (y33 : List (Int)), ∃ (a32 : Option Nat) (na32 : Nat), [(12, .slice (ad a32) y33.length (na32 / 1)), (34, .slice (ad (some a21)) y19.length (na21 / 4)), (35, vI (y19.length : Int)), (36, vI x31)] = σ_ ∧ ([⟨a32, encL E_u8 y33, na32⟩, ⟨b18, [vI i0_0, vI i0_1, vI i0_2, .slice a_i0_3 n_i0_3 c_i0_3, .slice a_i0_4 n_i0_4 c_i0_4], 5⟩, ⟨some a21, encL E_i644 y19, na21⟩] : List Own) = H_ ∧ S = S_ ∧ render_row_v1.l0 n_ y19 x31 y33 = some y68) _ ⟨0, y25, some a27, na27, rfl, rfl, rfl, e29⟩ ?_
   rintro n66 σ_ H_ S_ ⟨x31, y33, a32, na32, rfl, rfl, rfl, e29⟩
   cases n66 with
   | zero => rw [render_row_v1.l0.eq_1] at e29; cases e29
   | succ k_ =>
    rw [render_row_v1.l0.eq_2] at e29
    refine w_seq ?_
    refine w_reg fun all => ?_
    by_cases c34 : x31 < (y19.length : Int)
    ·rw [if_pos c34] at e29
     have c34b : (decide (x31 < (y19.length : Int))) = true := decide_eq_true c34
     refine t_v (dv_quiet rfl (congrArg (fun t => some (Value.bool t)) c34b)) ?_
     refine t_keep [12, 34, 35, 36, 37] (σ' := [(12, .slice (ad a32) y33.length (na32 / 1)), (34, .slice (ad (some a21)) y19.length (na21 / 4)), (35, vI (y19.length : Int)), (36, vI x31), (37, vB true)]) (by kernel_rfl) ?_
     refine t_end ?_
     show W _ _ _ _ _ _ _
     refine w_seq ?_
     refine w_cond rfl (fun _ => ?_) (fun c_ => by cases c_)
     show W _ _ _ _ _ _ _
     refine w_skip ?_
     show W _ _ _ _ _ _ _
     refine w_seq ?_
     refine w_block ?_
     refine w_seq ?_
     refine w_reg fun all => ?_
     obtain ⟨⟨x35, x36, x37, x38⟩, hx39, e29⟩ := bind_of e29
     try dsimp only at e29
     refine t_v (.quietH rfl (by intro h_; cases h_) (ixl (E := E_i644) (j := 2) rfl rfl rfl (by decide) rfl hx39)) ?_
     refine t_v (.ldn (vs := [vI x35, vI x36, vI x37, vI x38]) rfl rfl rfl (.lst 2 rfl (encL_sub (lgt_in hx39).1 (by kernel_rfl)))) ?_
     refine t_a (.new rfl rfl) fun b40 fb40 sb40 => ?_
     refine t_sti 0 (cs := [vI x35, vI x36, vI x37, vI x38]) rfl rfl rfl rfl rfl rfl rfl rfl rfl ?_
     refine t_keep [12, 14, 34, 35, 36] (σ' := [(12, .slice (ad a32) y33.length (na32 / 1)), (14, vP b40 0), (34, .slice (ad (some a21)) y19.length (na21 / 4)), (35, vI (y19.length : Int)), (36, vI x31)]) (by kernel_rfl) ?_
     refine t_end ?_
     show W _ _ _ _ _ _ _
     refine w_seq ?_
     refine w_reg fun all => ?_
     refine t_v (.ldn rfl rfl rfl (.at 0 rfl rfl)) ?_
     obtain ⟨⟨t56, t57, t58, t59⟩, h60, e29⟩ := bind_of e29
     try dsimp only at e29
     refine t_v (.call (vs := [.agg #[vI x35, vI x36, vI x37, vI x38]]) rfl rfl (by kernel_rfl) (blend_Final.ok hE_ h60)) ?_
     refine t_a (.new rfl rfl) fun b61 fb61 sb61 => ?_
     refine t_sti 0 (cs := [.int .u8 t56, .int .u8 t57, .int .u8 t58, .int .u8 t59]) rfl rfl rfl rfl rfl rfl rfl rfl rfl ?_
     refine t_keep [12, 15, 34, 35, 36] (σ' := [(12, .slice (ad a32) y33.length (na32 / 1)), (15, vP b61 0), (34, .slice (ad (some a21)) y19.length (na21 / 4)), (35, vI (y19.length : Int)), (36, vI x31)]) (by kernel_rfl) ?_
     refine t_end ?_
     show W _ _ _ _ _ _ _
     refine w_reg fun all => ?_
     obtain ⟨y62, hl63, e29⟩ := bind_of e29
     refine t_qz 2 [34, 35, 36, 42, 43] (σ' := [(34, .slice (ad (some a21)) y19.length (na21 / 4)), (35, vI (y19.length : Int)), (36, vI x31), (42, .slice (ad a32) y33.length (na32 / 1)), (43, .slice (some ⟨b61, 0, none⟩) 4 4)]) (by kernel_rfl) ?_
     refine t_appX (E := E_u8) (L := y33) (X := ([t56, t57, t58, t59] : List (Int))) (F := ([⟨b61, [.int .u8 t56, .int .u8 t57, .int .u8 t58, .int .u8 t59], 4⟩, ⟨b40, [vI x35, vI x36, vI x37, vI x38], 4⟩, ⟨b18, [vI i0_0, vI i0_1, vI i0_2, .slice a_i0_3 n_i0_3 c_i0_3, .slice a_i0_4 n_i0_4 c_i0_4], 5⟩, ⟨some a21, encL E_i644 y19, na21⟩] : List Own)) rfl rfl rfl rfl (sel_perm (is := [2]) (by kernel_rfl)) rfl (Or.inr ⟨_, _, rfl, .at 0 rfl (by kernel_rfl)⟩) rfl (by decide) (by decide) rfl hl63 fun a64 na64 => ?_
     refine t_qz 1 [12, 34, 35, 36] (σ' := [(12, .slice (ad a64) y62.length (na64 / 1)), (34, .slice (ad (some a21)) y19.length (na21 / 4)), (35, vI (y19.length : Int)), (36, vI x31)]) (by kernel_rfl) ?_
     refine t_end ?_
     show W _ _ _ _ _ _ _
     refine w_reg fun all => ?_
     refine t_qz 2 [12, 34, 35, 36] (σ' := [(12, .slice (ad a64) y62.length (na64 / 1)), (34, .slice (ad (some a21)) y19.length (na21 / 4)), (35, vI (y19.length : Int)), (36, vI (wr64 (x31 + 1)))]) (by kernel_rfl) ?_
     refine t_end ?_
     exact ⟨k_, Nat.lt_succ_self _, [(12, .slice (ad a64) y62.length (na64 / 1)), (34, .slice (ad (some a21)) y19.length (na21 / 4)), (35, vI (y19.length : Int)), (36, vI (wr64 (x31 + 1)))], ([⟨a64, encL E_u8 y62, na64⟩, ⟨b18, [vI i0_0, vI i0_1, vI i0_2, .slice a_i0_3 n_i0_3 c_i0_3, .slice a_i0_4 n_i0_4 c_i0_4], 5⟩, ⟨some a21, encL E_i644 y19, na21⟩] : List Own), S, keep_sub [12, 34, 35, 36] (by kernel_rfl), VS.sel [0, 2, 2] (by kernel_rfl), wr64 (x31 + 1), y62, a64, na64, rfl, rfl, rfl, e29⟩
    ·rw [if_neg c34] at e29
     have c34b : (decide (x31 < (y19.length : Int))) = false := decide_eq_false c34
     refine t_v (dv_quiet rfl (congrArg (fun t => some (Value.bool t)) c34b)) ?_
     refine t_keep [12, 34, 35, 36, 37] (σ' := [(12, .slice (ad a32) y33.length (na32 / 1)), (34, .slice (ad (some a21)) y19.length (na21 / 4)), (35, vI (y19.length : Int)), (36, vI x31), (37, vB false)]) (by kernel_rfl) ?_
     refine t_end ?_
     show W _ _ _ _ _ _ _
     refine w_seq ?_
     refine w_cond rfl (fun c_ => by cases c_) (fun _ => ?_)
     show W _ _ _ _ _ _ _
     refine w_exit ?_
     obtain rfl := Option.some.inj e29
     exact ⟨([⟨b18, [vI i0_0, vI i0_1, vI i0_2, .slice a_i0_3 n_i0_3 c_i0_3, .slice a_i0_4 n_i0_4 c_i0_4], 5⟩, ⟨a32, encL E_u8 y33, na32⟩, ⟨some a21, encL E_i644 y19, na21⟩] : List Own), S, VS.sel [1, 0, 0] (by kernel_rfl), a32, na32, by kernel_rfl, rfl, rfl⟩
  ·rintro σ_ H_ S_ ⟨a67, na67, rfl, rfl, rfl⟩
   refine w_seq ?_
   refine w_reg fun all => ?_
   refine t_qz 2 [8] (σ' := [(8, .slice (ad a67) y68.length (na67 / 1))]) (by kernel_rfl) ?_
   refine t_end ?_
   show W _ _ _ _ _ _ _
   refine w_ret ?_
   obtain rfl := Option.some.inj e
   exact ⟨[.slice (ad a67) y68.length (na67 / 1)], ([⟨a67, encL E_u8 y68, na67⟩] : List Own), S, ⟨rfl, trivial⟩, VS.sel [1] (by kernel_rfl), a67, na67, rfl, rfl, rfl⟩

/-- render.Frame -/
def c7 : C :=
  (.seq (.reg [oq 2 (.box (.tmp 0)),
     oq 4 (.new [(vI 0), (vI 0), (.slice none 0 0)]),
     oq 5 (.mv (.const .nilIface))])
  (.seq (.seq (.reg [oq 12 (.ld (some 5) (.tmp 2)),
      oq 13 (.mv (.tmp 1)),
      oq 14 (.call 17 [(.tmp 12), (.tmp 13)]),
      oq 11 (.mv (.tmp 14)),
      oq 15 (.xt 0 (.tmp 11)),
      oq 16 (.xt 1 (.tmp 11)),
      oq 6 (.mv (.tmp 15)),
      oq 7 (.mv (.tmp 16))])
   (.seq (.reg [oq 17 (.mv (.tmp 7)),
      oq 18 (.eqt true 29 (.tmp 17) (.const .nilIface))])
   (.cond (.tmp 18)
    (.seq (.reg [oq 19 (.bld [(vI 0), (vI 0), (.slice none 0 0)] []),
        oq 20 (.mv (.tmp 7)),
        ⟨none, .st 3 (.tmp 4) (.tmp 19), none⟩,
        oq 5 (.mv (.tmp 20))])
     .ret)
    .skip)))
  (.seq (.reg [oq 21 (.ld (some 5) (.tmp 2)),
     oq 22 (.mv (.tmp 1)),
     oq 23 (.call 18 [(.tmp 21), (.tmp 22)]),
     oq 8 (.mv (.tmp 23))])
  (.seq (.reg [oq 24 (.mv (.tmp 1)),
     oq 25 (.ld (some 5) (.tmp 2)),
     oq 26 (.mv (.tmp 1)),
     oq 27 (.call 19 [(.tmp 25), (.tmp 26)]),
     oq 28 (.bld [(vI 0), (vI 0), (.slice none 0 0)] [(0, 1, (.tmp 24)), (1, 1, (.tmp 27))]),
     oq 9 (.new [(vI 0), (vI 0), (.slice none 0 0)]),
     ⟨none, .st 3 (.tmp 9) (.tmp 28), none⟩])
  (.seq (.seq (.reg [oq 29 (.pad 1 (.tmp 9)),
      oq 30 (.ld none (.tmp 29)),
      oq 31 (.mv (.const (vI 0)))])
   (.block 0 (.loop (.seq (.reg [oq 32 (.bin .lss (.tmp 31) (.tmp 30))])
     (.seq (.cond (.tmp 32)
       .skip
       (.exit 0))
     (.seq (.block 1 (.seq (.reg [oq 33 (.mv (.tmp 31)),
          oq 10 (.mv (.tmp 33))])
       (.drw [oq 34 (.pad 2 (.tmp 9)),
         oq 35 (.ld none (.tmp 34)),
         oq 36 (.ld (some 5) (.tmp 2)),
         oq 37 (.mv (.tmp 8)),
         oq 38 (.mv (.tmp 1)),
         oq 39 (.mv (.tmp 10)),
         oq 40 (.call 20 [(.tmp 36), (.tmp 37), (.tmp 38), (.tmp 39)]),
         oq 41 (.app 5 1 1 [(.int .u8 0)] (.tmp 35) (.tmp 40)),
         oq 42 (.pad 2 (.tmp 9)),
         ⟨none, .st 1 (.tmp 42) (.tmp 41), none⟩] [[], [0], [], [], [], [], [2, 3, 4, 5], [1, 6, 6], [0, 1, 2, 3, 4, 5, 6, 7], [8, 7, 7, 0, 1, 2, 3, 4, 5, 6, 7]])))
     (.reg [oq 43 (.bin .add (.tmp 31) (.const (vI 1))),
       oq 31 (.mv (.tmp 43))])))))))
  (.seq (.reg [oq 44 (.ld (some 3) (.tmp 9)),
     ⟨none, .st 3 (.tmp 4) (.tmp 44), none⟩,
     oq 5 (.mv (.const .nilIface))])
  .ret))))))
def render_Frame_v1.l0 : Nat → Int → Int → Int → Int → Int → Int → List (Int) → List (Int) → List (Int × Int × Int × Int × Int × Int × Int × Int × Int × Int × List (Int × Int × List (Int × Int × Int × Int × Int × Int × Int) × Bool)) → Option (List (Int) × List (Int) × List (Int × Int × Int × Int × Int × Int × Int × Int × Int × Int × List (Int × Int × List (Int × Int × Int × Int × Int × Int × Int) × Bool)))
  | 0, _, _, _, _, _, _, _, _, _ => none
  | k + 1, i0_0, i0_1, i0_2, w1, t80, x86, y88, y90, y92 => if x86 < t80 then ((render_row_v1.f k i0_0 i0_1 i0_2 w1 x86).bind fun t94 => ((lapp y88 t94).bind fun y97 => (render_Frame_v1.l0 k i0_0 i0_1 i0_2 w1 t80 (wr64 (x86 + 1)) y97 y90 y92))) else (some (y88, y90, y92))
def render_Frame_v1.f (k : Nat) (i0_0 : Int) (i0_1 : Int) (i0_2 : Int) (w1 : Int) : Option (Int × Int × Int × List (Int)) := (render_Edges_v1.f i0_0 i0_1 i0_2 w1).bind fun (t75, t76) => (if t76 = 0 then ((render_layers_v1.f i0_0 i0_1 i0_2 w1).bind fun _ => ((scale_Height_v1.f i0_0 i0_1 i0_2 w1).bind fun t80 => ((render_Frame_v1.l0 k i0_0 i0_1 i0_2 w1 t80 0 ([] : List (Int)) ([] : List (Int)) ([] : List (Int × Int × Int × Int × Int × Int × Int × Int × Int × Int × List (Int × Int × List (Int × Int × Int × Int × Int × Int × Int) × Bool))) : Option (List (Int) × List (Int) × List (Int × Int × Int × Int × Int × Int × Int × Int × Int × Int × List (Int × Int × List (Int × Int × Int × Int × Int × Int × Int) × Bool)))).bind fun (y103, y105, y107) => (some (w1, t80, 0, y103))))) else (some (0, 0, t76, ([] : List (Int)))))
theorem render_Frame_v1.ok {S : Seal} {k : Nat} {i0_0 : Int} {i0_1 : Int} {i0_2 : Int} {w1 : Int} {r0_ : Int} {r1_ : Int} {r2_ : Int} {r3_ : List (Int)}{A_ : Int → Addr} (hE_ : EO gsE S A_ 157) {a_i0_3 : Option Addr} {n_i0_3 c_i0_3 : Nat} (e : render_Frame_v1.f k i0_0 i0_1 i0_2 w1 = some (r0_, r1_, r2_, r3_)) :
    Cal Tryd.prog 7 [.agg #[vI i0_0, vI i0_1, vI i0_2, .slice a_i0_3 n_i0_3 c_i0_3, .slice none 0 0], vI w1] [] S fun v H' S' => ∃ (N0_ : Option Nat) (nN0_ : Nat) , v = .tuple #[.agg #[vI r0_, vI r1_, .slice (ad N0_) r3_.length (nN0_ / 1)], errV 157 A_ r2_] ∧ H' = ([⟨N0_, encL E_u8 r3_, nN0_⟩] : List Own) ∧ S' = S := by
 unfold render_Frame_v1.f at e
 refine cal_of (c := c7) (N := 45) Tryd.func7 rfl rfl (by kernel_rfl) (rs := [.cn 3 4, .t 5]) (by kernel_rfl) (Nat.le_of_ble_eq_true rfl) ?_
 unfold c7
 refine w_seq ?_
 refine w_reg fun all => ?_
 refine t_a (.box rfl rfl rfl) fun b73 fb73 sb73 => ?_
 refine t_a (.new rfl rfl) fun b74 fb74 sb74 => ?_
 refine t_qz 1 [1, 2, 4] (σ' := [(1, vI w1), (2, vP b73 0), (4, vP b74 0)]) (by kernel_rfl) ?_
 refine t_end ?_
 show W _ _ _ _ _ _ _
 refine w_seq ?_
 refine w_seq ?_
 refine w_reg fun all => ?_
 refine t_v (.ldn rfl rfl rfl (.at 1 rfl rfl)) ?_
 obtain ⟨⟨t75, t76⟩, h77, e⟩ := bind_of e
 try dsimp only at e
 refine t_qz 1 [1, 2, 4, 12, 13] (σ' := [(1, vI w1), (2, vP b73 0), (4, vP b74 0), (12, .agg #[vI i0_0, vI i0_1, vI i0_2, .slice a_i0_3 n_i0_3 c_i0_3, .slice none 0 0]), (13, vI w1)]) (by kernel_rfl) ?_
 refine t_v (.call (vs := [.agg #[vI i0_0, vI i0_1, vI i0_2, .slice a_i0_3 n_i0_3 c_i0_3, .slice none 0 0], vI w1]) rfl rfl (by kernel_rfl) (render_Edges_v1.ok hE_ h77)) ?_
 refine t_qz 5 [1, 2, 4, 7] (σ' := [(1, vI w1), (2, vP b73 0), (4, vP b74 0), (7, errV 157 A_ t76)]) (by kernel_rfl) ?_
 refine t_end ?_
 show W _ _ _ _ _ _ _
 refine w_seq ?_
 refine w_reg fun all => ?_
 by_cases c78 : t76 = 0
 ·rw [if_pos c78] at e
  have c78b : (t76 == 0) = true := beq_iff_eq.mpr c78
  refine t_qz 1 [1, 2, 4, 7, 17] (σ' := [(1, vI w1), (2, vP b73 0), (4, vP b74 0), (7, errV 157 A_ t76), (17, errV 157 A_ t76)]) (by kernel_rfl) ?_
  refine t_v (.eqt (a := errV 157 A_ t76) (b := .nilIface) (r := t76 == 0) rfl rfl rfl rfl (eqErr (by kernel_rfl) rfl) (bnk c78b rfl)) ?_
  refine t_keep [1, 2, 4, 7, 18] (σ' := [(1, vI w1), (2, vP b73 0), (4, vP b74 0), (7, errV 157 A_ t76), (18, vB false)]) (by kernel_rfl) ?_
  refine t_end ?_
  show W _ _ _ _ _ _ _
  refine w_cond rfl (fun c_ => by cases c_) (fun _ => ?_)
  show W _ _ _ _ _ _ _
  refine w_skip ?_
  show W _ _ _ _ _ _ _
  refine w_seq ?_
  refine w_reg fun all => ?_
  refine t_v (.ldn rfl rfl rfl (.at 1 rfl rfl)) ?_
  obtain ⟨u_, h79, e⟩ := bind_of e
  refine t_qz 1 [1, 2, 4, 21, 22] (σ' := [(1, vI w1), (2, vP b73 0), (4, vP b74 0), (21, .agg #[vI i0_0, vI i0_1, vI i0_2, .slice a_i0_3 n_i0_3 c_i0_3, .slice none 0 0]), (22, vI w1)]) (by kernel_rfl) ?_
  refine t_v (.call (vs := [.agg #[vI i0_0, vI i0_1, vI i0_2, .slice a_i0_3 n_i0_3 c_i0_3, .slice none 0 0], vI w1]) rfl rfl (by kernel_rfl) (render_layers_v1.ok hE_ h79)) ?_
  refine t_qz 1 [1, 2, 4, 8] (σ' := [(1, vI w1), (2, vP b73 0), (4, vP b74 0), (8, .slice none 0 0)]) (by kernel_rfl) ?_
  refine t_end ?_
  show W _ _ _ _ _ _ _
  refine w_seq ?_
  refine w_reg fun all => ?_
  refine t_qz 1 [1, 2, 4, 8, 24] (σ' := [(1, vI w1), (2, vP b73 0), (4, vP b74 0), (8, .slice none 0 0), (24, vI w1)]) (by kernel_rfl) ?_
  refine t_v (.ldn rfl rfl rfl (.at 1 rfl rfl)) ?_
  obtain ⟨t80, h81, e⟩ := bind_of e
  refine t_qz 1 [1, 2, 4, 8, 24, 25, 26] (σ' := [(1, vI w1), (2, vP b73 0), (4, vP b74 0), (8, .slice none 0 0), (24, vI w1), (25, .agg #[vI i0_0, vI i0_1, vI i0_2, .slice a_i0_3 n_i0_3 c_i0_3, .slice none 0 0]), (26, vI w1)]) (by kernel_rfl) ?_
  refine t_v (.call (vs := [.agg #[vI i0_0, vI i0_1, vI i0_2, .slice a_i0_3 n_i0_3 c_i0_3, .slice none 0 0], vI w1]) rfl rfl (by kernel_rfl) (scale_Height_v1.ok hE_ h81)) ?_
  refine t_qz 1 [1, 2, 4, 8, 28] (σ' := [(1, vI w1), (2, vP b73 0), (4, vP b74 0), (8, .slice none 0 0), (28, .agg #[vI w1, vI t80, .slice none 0 0])]) (by kernel_rfl) ?_
  refine t_a (.new rfl rfl) fun b82 fb82 sb82 => ?_
  refine t_sti 0 (cs := [vI w1, vI t80, .slice none 0 0]) rfl rfl rfl rfl rfl rfl rfl rfl rfl ?_
  refine t_keep [1, 2, 4, 8, 9] (σ' := [(1, vI w1), (2, vP b73 0), (4, vP b74 0), (8, .slice none 0 0), (9, vP b82 0)]) (by kernel_rfl) ?_
  refine t_end ?_
  show W _ _ _ _ _ _ _
  obtain ⟨⟨y103, y105, y107⟩, e84, e⟩ := bind_of e
  try dsimp only at e
  refine w_cut [4, 9] (fun σ_ H_ S_ => ∃ (a102 : Option Nat) (na102 : Nat) (a104 : Option Nat) (na104 : Nat) (a106 : Option Nat) (na106 : Nat) (csa106 : List Value) (Fa106 : List Own), [(4, vP b74 0), (9, vP b82 0)] = σ_ ∧ (([⟨b82, [vI w1, vI t80, .slice (ad a102) y103.length (na102 / 1)], 3⟩, ⟨b74, [vI 0, vI 0, .slice (ad a104) y105.length (na104 / 1)], 3⟩, ⟨b73, [vI i0_0, vI i0_1, vI i0_2, .slice a_i0_3 n_i0_3 c_i0_3, .slice (ad a106) y107.length (na106 / 11)], 5⟩, ⟨a102, encL E_u8 y103, na102⟩, ⟨a104, encL E_u8 y105, na104⟩, ⟨a106, csa106, na106⟩] : List Own) ++ (Fa106 ++ [])) = H_ ∧ S = S_ ∧ RL (rdOf (Fa106 ++ []) S) N_1 y107 csa106) ?_ ?_
  ·show W _ _ _ _ _ _ _
   refine w_seq ?_
   refine w_reg fun all => ?_
   refine t_qz 1 [1, 2, 4, 8, 9, 29] (σ' := [(1, vI w1), (2, vP b73 0), (4, vP b74 0), (8, .slice none 0 0), (9, vP b82 0), (29, vP b82 1)]) (by kernel_rfl) ?_
   refine t_v (.ld1 rfl rfl rfl (.at 0 rfl rfl)) ?_
   refine t_qz 1 [1, 2, 4, 8, 9, 30, 31] (σ' := [(1, vI w1), (2, vP b73 0), (4, vP b74 0), (8, .slice none 0 0), (9, vP b82 0), (30, vI t80), (31, vI 0)]) (by kernel_rfl) ?_
   refine t_end ?_
   show W _ _ _ _ _ _ _
   refine w_block ?_
   refine w_vs VS.vac ?_
   refine w_vs VS.vac ?_
   refine w_vs VS.vac ?_
   refine w_kp [1, 2, 4, 8, 9, 30, 31] (σ' := [(1, vI w1), (2, vP b73 0), (4, vP b74 0), (8, .slice none 0 0), (9, vP b82 0), (30, vI t80), (31, vI 0)]) (by kernel_rfl) ?_
   refine w_vs (H' := (([⟨none, encL E_u8 ([] : List (Int)), 0⟩, ⟨none, encL E_u8 ([] : List (Int)), 0⟩, ⟨none, [], 0⟩, ⟨b82, [vI w1, vI t80, .slice (ad none) ([] : List (Int)).length (0 / 1)], 3⟩, ⟨b74, [vI 0, vI 0, .slice (ad none) ([] : List (Int)).length (0 / 1)], 3⟩, ⟨b73, [vI i0_0, vI i0_1, vI i0_2, .slice a_i0_3 n_i0_3 c_i0_3, .slice (ad none) ([] : List (Int × Int × Int × Int × Int × Int × Int × Int × Int × Int × List (Int × Int × List (Int × Int × Int × Int × Int × Int × Int) × Bool))).length (0 / 11)], 5⟩] : List Own) ++ (([] : List Own) ++ []))) (S' := S) (VS.treeA (.l ([⟨none, encL E_u8 ([] : List (Int)), 0⟩, ⟨none, encL E_u8 ([] : List (Int)), 0⟩, ⟨none, [], 0⟩, ⟨b82, [vI w1, vI t80, .slice (ad none) ([] : List (Int)).length (0 / 1)], 3⟩, ⟨b74, [vI 0, vI 0, .slice (ad none) ([] : List (Int)).length (0 / 1)], 3⟩, ⟨b73, [vI i0_0, vI i0_1, vI i0_2, .slice a_i0_3 n_i0_3 c_i0_3, .slice (ad none) ([] : List (Int × Int × Int × Int × Int × Int × Int × Int × Int × Int × List (Int × Int × List (Int × Int × Int × Int × Int × Int × Int) × Bool))).length (0 / 11)], 5⟩] : List Own)) (.a (.l ([⟨none, encL E_u8 ([] : List (Int)), 0⟩, ⟨none, encL E_u8 ([] : List (Int)), 0⟩, ⟨none, [], 0⟩, ⟨b82, [vI w1, vI t80, .slice (ad none) ([] : List (Int)).length (0 / 1)], 3⟩, ⟨b74, [vI 0, vI 0, .slice (ad none) ([] : List (Int)).length (0 / 1)], 3⟩, ⟨b73, [vI i0_0, vI i0_1, vI i0_2, .slice a_i0_3 n_i0_3 c_i0_3, .slice (ad none) ([] : List (Int × Int × Int × Int × Int × Int × Int × Int × Int × Int × List (Int × Int × List (Int × Int × Int × Int × Int × Int × Int) × Bool))).length (0 / 11)], 5⟩] : List Own)) (.a (.l ([] : List Own)) (.l []))) [0, 0, 0, 0, 0, 0] (by kernel_rfl)) ?_
   refine w_loop (fun n_ σ_ H_ S_ => ∃ (x86 : Int) (y88 : List (Int)) (y90 : List (Int)) (y92 : List (Int × Int × Int × Int × Int × Int × Int × Int × Int × Int × List (Int × Int × List (Int × Int × Int × Int × Int × Int × Int) × Bool))), ∃ (a87 : Option Nat) (na87 : Nat) (a89 : Option Nat) (na89 : Nat) (a91 : Option Nat) (na91 : Nat) (csa91 : List Value) (Fa91 : List Own), [(1, vI w1), (2, vP b73 0), (4, vP b74 0), (8, .slice none 0 0), (9, vP b82 0), (30, vI t80), (31, vI x86)] = σ_ ∧ (([⟨a87, encL E_u8 y88, na87⟩, ⟨a89, encL E_u8 y90, na89⟩, ⟨a91, csa91, na91⟩, ⟨b82, [vI w1, vI t80, .slice (ad a87) y88.length (na87 / 1)], 3⟩, ⟨b74, [vI 0, vI 0, .slice (ad a89) y90.length (na89 / 1)], 3⟩, ⟨b73, [vI i0_0, vI i0_1, vI i0_2, .slice a_i0_3 n_i0_3 c_i0_3, .slice (ad a91) y92.length (na91 / 11)], 5⟩] : List Own) ++ (Fa91 ++ [])) = H_ ∧ S = S_ ∧ render_Frame_v1.l0 n_ i0_0 i0_1 i0_2 w1 t80 x86 y88 y90 y92 = some (y103, y105, y107) ∧ RL (rdOf (Fa91 ++ []) S) N_1 y92 csa91) _ ⟨0, ([] : List (Int)), ([] : List (Int)), ([] : List (Int × Int × Int × Int × Int × Int × Int × Int × Int × Int × List (Int × Int × List (Int × Int × Int × Int × Int × Int × Int) × Bool))), none, 0, none, 0, none, 0, [], ([] : List Own), rfl, rfl, rfl, e84, RL.mono (RL.nil (R := rdOf [] S) (E := N_1)) (rd_sub seg_hd)⟩ ?_
   rintro n101 σ_ H_ S_ ⟨x86, y88, y90, y92, a87, na87, a89, na89, a91, na91, csa91, Fa91, rfl, rfl, rfl, e84, hra91⟩
   cases n101 with
   | zero => rw [render_Frame_v1.l0.eq_1] at e84; cases e84
   | succ k_ =>
    rw [render_Frame_v1.l0.eq_2] at e84
    refine w_seq ?_
    refine w_reg fun all => ?_
    by_cases c93 : x86 < t80
    ·rw [if_pos c93] at e84
     have c93b : (decide (x86 < t80)) = true := decide_eq_true c93
     refine t_v (dv_quiet rfl (congrArg (fun t => some (Value.bool t)) c93b)) ?_
     refine t_keep [1, 2, 4, 8, 9, 30, 31, 32] (σ' := [(1, vI w1), (2, vP b73 0), (4, vP b74 0), (8, .slice none 0 0), (9, vP b82 0), (30, vI t80), (31, vI x86), (32, vB true)]) (by kernel_rfl) ?_
     refine t_end ?_
     show W _ _ _ _ _ _ _
     refine w_seq ?_
     refine w_cond rfl (fun _ => ?_) (fun c_ => by cases c_)
     show W _ _ _ _ _ _ _
     refine w_skip ?_
     show W _ _ _ _ _ _ _
     refine w_seq ?_
     refine w_block ?_
     refine w_seq ?_
     refine w_reg fun all => ?_
     refine t_qz 2 [1, 2, 4, 8, 9, 10, 30, 31] (σ' := [(1, vI w1), (2, vP b73 0), (4, vP b74 0), (8, .slice none 0 0), (9, vP b82 0), (10, vI x86), (30, vI t80), (31, vI x86)]) (by kernel_rfl) ?_
     refine t_end ?_
     show W _ _ _ _ _ _ _
     obtain ⟨t94, h95, e84⟩ := bind_of e84
     obtain ⟨y97, hl98, e84⟩ := bind_of e84
     refine w_kp [1, 2, 4, 8, 9, 10, 30, 31] (σ' := [(1, vI w1), (2, vP b73 0), (4, vP b74 0), (8, .slice none 0 0), (9, vP b82 0), (10, vI x86), (30, vI t80), (31, vI x86)]) (by kernel_rfl) ?_
     refine w_gameQ mixed (by kernel_rfl) fun all G hend hstep hqf => ?_
     have hg_3ff : ∀ (g99 : Option Nat) (ng99 : Nat) (N96 : Option Nat) (nN96 : Nat), G [true, true, true, true, true, true, true, true, true, true] [(1, vI w1), (2, vP b73 0), (4, vP b74 0), (8, .slice none 0 0), (9, vP b82 0), (30, vI t80), (31, vI x86)] (([⟨g99, encL E_u8 y97, ng99⟩, ⟨N96, encL E_u8 t94, nN96⟩, ⟨a89, encL E_u8 y90, na89⟩, ⟨a91, csa91, na91⟩, ⟨b82, [vI w1, vI t80, .slice (ad g99) y97.length (ng99 / 1)], 3⟩, ⟨b74, [vI 0, vI 0, .slice (ad a89) y90.length (na89 / 1)], 3⟩, ⟨b73, [vI i0_0, vI i0_1, vI i0_2, .slice a_i0_3 n_i0_3 c_i0_3, .slice (ad a91) y92.length (na91 / 11)], 5⟩] : List Own) ++ (Fa91 ++ [])) := by
      intro g99 ng99 N96 nN96
      refine hend _ _ _ (by kernel_rfl) ?_
      show W _ _ _ _ _ _ _
      refine w_reg fun all => ?_
      refine t_qz 2 [1, 2, 4, 8, 9, 30, 31] (σ' := [(1, vI w1), (2, vP b73 0), (4, vP b74 0), (8, .slice none 0 0), (9, vP b82 0), (30, vI t80), (31, vI (wr64 (x86 + 1)))]) (by kernel_rfl) ?_
      refine t_end ?_
      exact ⟨k_, Nat.lt_succ_self _, [(1, vI w1), (2, vP b73 0), (4, vP b74 0), (8, .slice none 0 0), (9, vP b82 0), (30, vI t80), (31, vI (wr64 (x86 + 1)))], (([⟨g99, encL E_u8 y97, ng99⟩, ⟨a89, encL E_u8 y90, na89⟩, ⟨a91, csa91, na91⟩, ⟨b82, [vI w1, vI t80, .slice (ad g99) y97.length (ng99 / 1)], 3⟩, ⟨b74, [vI 0, vI 0, .slice (ad a89) y90.length (na89 / 1)], 3⟩, ⟨b73, [vI i0_0, vI i0_1, vI i0_2, .slice a_i0_3 n_i0_3 c_i0_3, .slice (ad a91) y92.length (na91 / 11)], 5⟩] : List Own) ++ ((Fa91 ++ []) ++ [])), S, keep_sub [1, 2, 4, 8, 9, 30, 31] (by kernel_rfl), VS.treeA (.a (.l ([⟨g99, encL E_u8 y97, ng99⟩, ⟨N96, encL E_u8 t94, nN96⟩, ⟨a89, encL E_u8 y90, na89⟩, ⟨a91, csa91, na91⟩, ⟨b82, [vI w1, vI t80, .slice (ad g99) y97.length (ng99 / 1)], 3⟩, ⟨b74, [vI 0, vI 0, .slice (ad a89) y90.length (na89 / 1)], 3⟩, ⟨b73, [vI i0_0, vI i0_1, vI i0_2, .slice a_i0_3 n_i0_3 c_i0_3, .slice (ad a91) y92.length (na91 / 11)], 5⟩] : List Own)) (.a (.f Fa91) (.l []))) (.a (.l ([⟨g99, encL E_u8 y97, ng99⟩, ⟨a89, encL E_u8 y90, na89⟩, ⟨a91, csa91, na91⟩, ⟨b82, [vI w1, vI t80, .slice (ad g99) y97.length (ng99 / 1)], 3⟩, ⟨b74, [vI 0, vI 0, .slice (ad a89) y90.length (na89 / 1)], 3⟩, ⟨b73, [vI i0_0, vI i0_1, vI i0_2, .slice a_i0_3 n_i0_3 c_i0_3, .slice (ad a91) y92.length (na91 / 11)], 5⟩] : List Own)) (.a (.a (.f Fa91) (.l [])) (.l []))) [0, 1, 1, 1, 1, 1, 1] (by kernel_rfl), wr64 (x86 + 1), y97, y90, y92, g99, ng99, a89, na89, a91, na91, csa91, (Fa91 ++ []), rfl, rfl, rfl, e84, RL.mono hra91 (rd_sub seg_hd)⟩
     have hg_1ff : ∀ (g99 : Option Nat) (ng99 : Nat) (N96 : Option Nat) (nN96 : Nat), G [true, true, true, true, true, true, true, true, true, false] [(1, vI w1), (2, vP b73 0), (4, vP b74 0), (8, .slice none 0 0), (9, vP b82 0), (30, vI t80), (31, vI x86), (41, .slice (ad g99) y97.length (ng99 / 1)), (42, vP b82 2)] (([⟨g99, encL E_u8 y97, ng99⟩, ⟨N96, encL E_u8 t94, nN96⟩, ⟨a89, encL E_u8 y90, na89⟩, ⟨a91, csa91, na91⟩, ⟨b82, [vI w1, vI t80, .slice (ad a87) y88.length (na87 / 1)], 3⟩, ⟨b74, [vI 0, vI 0, .slice (ad a89) y90.length (na89 / 1)], 3⟩, ⟨b73, [vI i0_0, vI i0_1, vI i0_2, .slice a_i0_3 n_i0_3 c_i0_3, .slice (ad a91) y92.length (na91 / 11)], 5⟩] : List Own) ++ (Fa91 ++ [])) := by
      intro g99 ng99 N96 nN96
      refine hstep [9] _ _ _ (by kernel_rfl) (List.cons_ne_nil _ _) ⟨?_, trivial⟩
      ·show T _ _ _ _ _ _ _ _
       refine t_sti 4 (cs := [vI w1, vI t80, .slice (ad g99) y97.length (ng99 / 1)]) rfl rfl rfl rfl rfl rfl rfl rfl rfl ?_
       exact t_fin [1, 2, 4, 8, 9, 30, 31] (hg_3ff g99 ng99 N96 nN96) (by kernel_rfl)
     have hg_ff : ∀ (g99 : Option Nat) (ng99 : Nat) (N96 : Option Nat) (nN96 : Nat), G [true, true, true, true, true, true, true, true, false, false] [(1, vI w1), (2, vP b73 0), (4, vP b74 0), (8, .slice none 0 0), (9, vP b82 0), (30, vI t80), (31, vI x86), (41, .slice (ad g99) y97.length (ng99 / 1))] (([⟨g99, encL E_u8 y97, ng99⟩, ⟨N96, encL E_u8 t94, nN96⟩, ⟨a89, encL E_u8 y90, na89⟩, ⟨a91, csa91, na91⟩, ⟨b82, [vI w1, vI t80, .slice (ad a87) y88.length (na87 / 1)], 3⟩, ⟨b74, [vI 0, vI 0, .slice (ad a89) y90.length (na89 / 1)], 3⟩, ⟨b73, [vI i0_0, vI i0_1, vI i0_2, .slice a_i0_3 n_i0_3 c_i0_3, .slice (ad a91) y92.length (na91 / 11)], 5⟩] : List Own) ++ (Fa91 ++ [])) := by
      intro g99 ng99 N96 nN96
      exact hqf 8 [1, 2, 4, 8, 9, 30, 31, 41, 42] _ _ _ _ (by kernel_rfl) (by kernel_rfl) (hg_1ff g99 ng99 N96 nN96)
     have hg_7f : ∀ (N96 : Option Nat) (nN96 : Nat), G [true, true, true, true, true, true, true, false, false, false] [(1, vI w1), (2, vP b73 0), (4, vP b74 0), (8, .slice none 0 0), (9, vP b82 0), (30, vI t80), (31, vI x86), (35, .slice (ad a87) y88.length (na87 / 1)), (40, .slice (ad N96) t94.length (nN96 / 1))] (([⟨N96, encL E_u8 t94, nN96⟩, ⟨a87, encL E_u8 y88, na87⟩, ⟨a89, encL E_u8 y90, na89⟩, ⟨a91, csa91, na91⟩, ⟨b82, [vI w1, vI t80, .slice (ad a87) y88.length (na87 / 1)], 3⟩, ⟨b74, [vI 0, vI 0, .slice (ad a89) y90.length (na89 / 1)], 3⟩, ⟨b73, [vI i0_0, vI i0_1, vI i0_2, .slice a_i0_3 n_i0_3 c_i0_3, .slice (ad a91) y92.length (na91 / 11)], 5⟩] : List Own) ++ (Fa91 ++ [])) := by
      intro N96 nN96
      refine hstep [7] _ _ _ (by kernel_rfl) (List.cons_ne_nil _ _) ⟨?_, trivial⟩
      ·show T _ _ _ _ _ _ _ _
       refine t_pure (fun w_ h_ => apO (E := E_u8) (z := 1) h_ (j := 0) rfl rfl (by decide)) fun hy_ => ?_
       refine t_appX (E := E_u8) (L := y88) (X := t94) (F := (([⟨N96, encL E_u8 t94, nN96⟩, ⟨a89, encL E_u8 y90, na89⟩, ⟨a91, csa91, na91⟩, ⟨b82, [vI w1, vI t80, .slice (ad a87) y88.length (na87 / 1)], 3⟩, ⟨b74, [vI 0, vI 0, .slice (ad a89) y90.length (na89 / 1)], 3⟩, ⟨b73, [vI i0_0, vI i0_1, vI i0_2, .slice a_i0_3 n_i0_3 c_i0_3, .slice (ad a91) y92.length (na91 / 11)], 5⟩] : List Own) ++ (Fa91 ++ []))) rfl rfl rfl rfl (sel_perm (is := [1]) (by kernel_rfl)) rfl hy_ rfl (by decide) (by decide) rfl hl98 fun g99 ng99 => ?_
       exact t_fin [1, 2, 4, 8, 9, 30, 31, 41] (hg_ff g99 ng99 N96 nN96) (by kernel_rfl)
     have hg_7d : ∀ (N96 : Option Nat) (nN96 : Nat), G [true, false, true, true, true, true, true, false, false, false] [(1, vI w1), (2, vP b73 0), (4, vP b74 0), (8, .slice none 0 0), (9, vP b82 0), (30, vI t80), (31, vI x86), (34, vP b82 2), (40, .slice (ad N96) t94.length (nN96 / 1))] (([⟨N96, encL E_u8 t94, nN96⟩, ⟨a87, encL E_u8 y88, na87⟩, ⟨a89, encL E_u8 y90, na89⟩, ⟨a91, csa91, na91⟩, ⟨b82, [vI w1, vI t80, .slice (ad a87) y88.length (na87 / 1)], 3⟩, ⟨b74, [vI 0, vI 0, .slice (ad a89) y90.length (na89 / 1)], 3⟩, ⟨b73, [vI i0_0, vI i0_1, vI i0_2, .slice a_i0_3 n_i0_3 c_i0_3, .slice (ad a91) y92.length (na91 / 11)], 5⟩] : List Own) ++ (Fa91 ++ [])) := by
      intro N96 nN96
      refine hstep [1] _ _ _ (by kernel_rfl) (List.cons_ne_nil _ _) ⟨?_, trivial⟩
      ·show T _ _ _ _ _ _ _ _
       refine t_v (.ld1 rfl rfl rfl (.at 4 rfl rfl)) ?_
       exact t_fin [1, 2, 4, 8, 9, 30, 31, 35, 40] (hg_7f N96 nN96) (by kernel_rfl)
     have hg_3f : G [true, true, true, true, true, true, false, false, false, false] [(1, vI w1), (2, vP b73 0), (4, vP b74 0), (8, .slice none 0 0), (9, vP b82 0), (30, vI t80), (31, vI x86), (35, .slice (ad a87) y88.length (na87 / 1)), (36, .agg #[vI i0_0, vI i0_1, vI i0_2, .slice a_i0_3 n_i0_3 c_i0_3, .slice (ad a91) y92.length (na91 / 11)]), (37, .slice none 0 0), (38, vI w1), (39, vI x86)] (([⟨a87, encL E_u8 y88, na87⟩, ⟨a89, encL E_u8 y90, na89⟩, ⟨a91, csa91, na91⟩, ⟨b82, [vI w1, vI t80, .slice (ad a87) y88.length (na87 / 1)], 3⟩, ⟨b74, [vI 0, vI 0, .slice (ad a89) y90.length (na89 / 1)], 3⟩, ⟨b73, [vI i0_0, vI i0_1, vI i0_2, .slice a_i0_3 n_i0_3 c_i0_3, .slice (ad a91) y92.length (na91 / 11)], 5⟩] : List Own) ++ (Fa91 ++ [])) := by
      refine hstep [6] _ _ _ (by kernel_rfl) (List.cons_ne_nil _ _) ⟨?_, trivial⟩
      ·show T _ _ _ _ _ _ _ _
       refine t_call (vs := [.agg #[vI i0_0, vI i0_1, vI i0_2, .slice a_i0_3 n_i0_3 c_i0_3, .slice (ad a91) y92.length (na91 / 11)], .slice none 0 0, vI w1, vI x86]) (H1 := []) (F := (([⟨a87, encL E_u8 y88, na87⟩, ⟨a89, encL E_u8 y90, na89⟩, ⟨a91, csa91, na91⟩, ⟨b82, [vI w1, vI t80, .slice (ad a87) y88.length (na87 / 1)], 3⟩, ⟨b74, [vI 0, vI 0, .slice (ad a89) y90.length (na89 / 1)], 3⟩, ⟨b73, [vI i0_0, vI i0_1, vI i0_2, .slice a_i0_3 n_i0_3 c_i0_3, .slice (ad a91) y92.length (na91 / 11)], 5⟩] : List Own) ++ (Fa91 ++ []))) rfl rfl (by kernel_rfl) (sel_perm (is := []) (by kernel_rfl)) (render_row_v1.ok hE_ h95) ?_
       rintro _ _ S_ ⟨N96, nN96, rfl, rfl, hS_⟩
       obtain rfl := hS_.symm
       exact t_fin [1, 2, 4, 8, 9, 30, 31, 35, 40] (hg_7f N96 nN96) (by kernel_rfl)
     have hg_3b : G [true, true, false, true, true, true, false, false, false, false] [(1, vI w1), (2, vP b73 0), (4, vP b74 0), (8, .slice none 0 0), (9, vP b82 0), (30, vI t80), (31, vI x86), (35, .slice (ad a87) y88.length (na87 / 1)), (37, .slice none 0 0), (38, vI w1), (39, vI x86)] (([⟨a87, encL E_u8 y88, na87⟩, ⟨a89, encL E_u8 y90, na89⟩, ⟨a91, csa91, na91⟩, ⟨b82, [vI w1, vI t80, .slice (ad a87) y88.length (na87 / 1)], 3⟩, ⟨b74, [vI 0, vI 0, .slice (ad a89) y90.length (na89 / 1)], 3⟩, ⟨b73, [vI i0_0, vI i0_1, vI i0_2, .slice a_i0_3 n_i0_3 c_i0_3, .slice (ad a91) y92.length (na91 / 11)], 5⟩] : List Own) ++ (Fa91 ++ [])) := by
      refine hstep [2] _ _ _ (by kernel_rfl) (List.cons_ne_nil _ _) ⟨?_, trivial⟩
      ·show T _ _ _ _ _ _ _ _
       refine t_v (.ldn rfl rfl rfl (.at 5 rfl rfl)) ?_
       exact t_fin [1, 2, 4, 8, 9, 30, 31, 35, 36, 37, 38, 39] hg_3f (by kernel_rfl)
     have hg_3d : G [true, false, true, true, true, true, false, false, false, false] [(1, vI w1), (2, vP b73 0), (4, vP b74 0), (8, .slice none 0 0), (9, vP b82 0), (30, vI t80), (31, vI x86), (34, vP b82 2), (36, .agg #[vI i0_0, vI i0_1, vI i0_2, .slice a_i0_3 n_i0_3 c_i0_3, .slice (ad a91) y92.length (na91 / 11)]), (37, .slice none 0 0), (38, vI w1), (39, vI x86)] (([⟨a87, encL E_u8 y88, na87⟩, ⟨a89, encL E_u8 y90, na89⟩, ⟨a91, csa91, na91⟩, ⟨b82, [vI w1, vI t80, .slice (ad a87) y88.length (na87 / 1)], 3⟩, ⟨b74, [vI 0, vI 0, .slice (ad a89) y90.length (na89 / 1)], 3⟩, ⟨b73, [vI i0_0, vI i0_1, vI i0_2, .slice a_i0_3 n_i0_3 c_i0_3, .slice (ad a91) y92.length (na91 / 11)], 5⟩] : List Own) ++ (Fa91 ++ [])) := by
      refine hstep [1, 6] _ _ _ (by kernel_rfl) (List.cons_ne_nil _ _) ⟨?_, ?_, trivial⟩
      ·show T _ _ _ _ _ _ _ _
       refine t_v (.ld1 rfl rfl rfl (.at 3 rfl rfl)) ?_
       exact t_fin [1, 2, 4, 8, 9, 30, 31, 35, 36, 37, 38, 39] hg_3f (by kernel_rfl)
      ·show T _ _ _ _ _ _ _ _
       refine t_call (vs := [.agg #[vI i0_0, vI i0_1, vI i0_2, .slice a_i0_3 n_i0_3 c_i0_3, .slice (ad a91) y92.length (na91 / 11)], .slice none 0 0, vI w1, vI x86]) (H1 := []) (F := (([⟨a87, encL E_u8 y88, na87⟩, ⟨a89, encL E_u8 y90, na89⟩, ⟨a91, csa91, na91⟩, ⟨b82, [vI w1, vI t80, .slice (ad a87) y88.length (na87 / 1)], 3⟩, ⟨b74, [vI 0, vI 0, .slice (ad a89) y90.length (na89 / 1)], 3⟩, ⟨b73, [vI i0_0, vI i0_1, vI i0_2, .slice a_i0_3 n_i0_3 c_i0_3, .slice (ad a91) y92.length (na91 / 11)], 5⟩] : List Own) ++ (Fa91 ++ []))) rfl rfl (by kernel_rfl) (sel_perm (is := []) (by kernel_rfl)) (render_row_v1.ok hE_ h95) ?_
       rintro _ _ S_ ⟨N96, nN96, rfl, rfl, hS_⟩
       obtain rfl := hS_.symm
       exact t_fin [1, 2, 4, 8, 9, 30, 31, 34, 40] (hg_7d N96 nN96) (by kernel_rfl)
     have hg_39 : G [true, false, false, true, true, true, false, false, false, false] [(1, vI w1), (2, vP b73 0), (4, vP b74 0), (8, .slice none 0 0), (9, vP b82 0), (30, vI t80), (31, vI x86), (34, vP b82 2), (37, .slice none 0 0), (38, vI w1), (39, vI x86)] (([⟨a87, encL E_u8 y88, na87⟩, ⟨a89, encL E_u8 y90, na89⟩, ⟨a91, csa91, na91⟩, ⟨b82, [vI w1, vI t80, .slice (ad a87) y88.length (na87 / 1)], 3⟩, ⟨b74, [vI 0, vI 0, .slice (ad a89) y90.length (na89 / 1)], 3⟩, ⟨b73, [vI i0_0, vI i0_1, vI i0_2, .slice a_i0_3 n_i0_3 c_i0_3, .slice (ad a91) y92.length (na91 / 11)], 5⟩] : List Own) ++ (Fa91 ++ [])) := by
      refine hstep [1, 2] _ _ _ (by kernel_rfl) (List.cons_ne_nil _ _) ⟨?_, ?_, trivial⟩
      ·show T _ _ _ _ _ _ _ _
       refine t_v (.ld1 rfl rfl rfl (.at 3 rfl rfl)) ?_
       exact t_fin [1, 2, 4, 8, 9, 30, 31, 35, 37, 38, 39] hg_3b (by kernel_rfl)
      ·show T _ _ _ _ _ _ _ _
       refine t_v (.ldn rfl rfl rfl (.at 5 rfl rfl)) ?_
       exact t_fin [1, 2, 4, 8, 9, 30, 31, 34, 36, 37, 38, 39] hg_3d (by kernel_rfl)
     have hg_19 : G [true, false, false, true, true, false, false, false, false, false] [(1, vI w1), (2, vP b73 0), (4, vP b74 0), (8, .slice none 0 0), (9, vP b82 0), (10, vI x86), (30, vI t80), (31, vI x86), (34, vP b82 2), (37, .slice none 0 0), (38, vI w1)] (([⟨a87, encL E_u8 y88, na87⟩, ⟨a89, encL E_u8 y90, na89⟩, ⟨a91, csa91, na91⟩, ⟨b82, [vI w1, vI t80, .slice (ad a87) y88.length (na87 / 1)], 3⟩, ⟨b74, [vI 0, vI 0, .slice (ad a89) y90.length (na89 / 1)], 3⟩, ⟨b73, [vI i0_0, vI i0_1, vI i0_2, .slice a_i0_3 n_i0_3 c_i0_3, .slice (ad a91) y92.length (na91 / 11)], 5⟩] : List Own) ++ (Fa91 ++ [])) := by
      exact hqf 5 [1, 2, 4, 8, 9, 30, 31, 34, 37, 38, 39] _ _ _ _ (by kernel_rfl) (by kernel_rfl) hg_39
     have hg_9 : G [true, false, false, true, false, false, false, false, false, false] [(1, vI w1), (2, vP b73 0), (4, vP b74 0), (8, .slice none 0 0), (9, vP b82 0), (10, vI x86), (30, vI t80), (31, vI x86), (34, vP b82 2), (37, .slice none 0 0)] (([⟨a87, encL E_u8 y88, na87⟩, ⟨a89, encL E_u8 y90, na89⟩, ⟨a91, csa91, na91⟩, ⟨b82, [vI w1, vI t80, .slice (ad a87) y88.length (na87 / 1)], 3⟩, ⟨b74, [vI 0, vI 0, .slice (ad a89) y90.length (na89 / 1)], 3⟩, ⟨b73, [vI i0_0, vI i0_1, vI i0_2, .slice a_i0_3 n_i0_3 c_i0_3, .slice (ad a91) y92.length (na91 / 11)], 5⟩] : List Own) ++ (Fa91 ++ [])) := by
      exact hqf 4 [1, 2, 4, 8, 9, 10, 30, 31, 34, 37, 38] _ _ _ _ (by kernel_rfl) (by kernel_rfl) hg_19
     have hg_1 : G [true, false, false, false, false, false, false, false, false, false] [(1, vI w1), (2, vP b73 0), (4, vP b74 0), (8, .slice none 0 0), (9, vP b82 0), (10, vI x86), (30, vI t80), (31, vI x86), (34, vP b82 2)] (([⟨a87, encL E_u8 y88, na87⟩, ⟨a89, encL E_u8 y90, na89⟩, ⟨a91, csa91, na91⟩, ⟨b82, [vI w1, vI t80, .slice (ad a87) y88.length (na87 / 1)], 3⟩, ⟨b74, [vI 0, vI 0, .slice (ad a89) y90.length (na89 / 1)], 3⟩, ⟨b73, [vI i0_0, vI i0_1, vI i0_2, .slice a_i0_3 n_i0_3 c_i0_3, .slice (ad a91) y92.length (na91 / 11)], 5⟩] : List Own) ++ (Fa91 ++ [])) := by
      exact hqf 3 [1, 2, 4, 8, 9, 10, 30, 31, 34, 37] _ _ _ _ (by kernel_rfl) (by kernel_rfl) hg_9
     have hg_0 : G [false, false, false, false, false, false, false, false, false, false] [(1, vI w1), (2, vP b73 0), (4, vP b74 0), (8, .slice none 0 0), (9, vP b82 0), (10, vI x86), (30, vI t80), (31, vI x86)] (([⟨a87, encL E_u8 y88, na87⟩, ⟨a89, encL E_u8 y90, na89⟩, ⟨a91, csa91, na91⟩, ⟨b82, [vI w1, vI t80, .slice (ad a87) y88.length (na87 / 1)], 3⟩, ⟨b74, [vI 0, vI 0, .slice (ad a89) y90.length (na89 / 1)], 3⟩, ⟨b73, [vI i0_0, vI i0_1, vI i0_2, .slice a_i0_3 n_i0_3 c_i0_3, .slice (ad a91) y92.length (na91 / 11)], 5⟩] : List Own) ++ (Fa91 ++ [])) := by
      exact hqf 0 [1, 2, 4, 8, 9, 10, 30, 31, 34] _ _ _ _ (by kernel_rfl) (by kernel_rfl) hg_1
     exact hg_0
    ·rw [if_neg c93] at e84
     have c93b : (decide (x86 < t80)) = false := decide_eq_false c93
     refine t_v (dv_quiet rfl (congrArg (fun t => some (Value.bool t)) c93b)) ?_
     refine t_keep [1, 2, 4, 8, 9, 30, 31, 32] (σ' := [(1, vI w1), (2, vP b73 0), (4, vP b74 0), (8, .slice none 0 0), (9, vP b82 0), (30, vI t80), (31, vI x86), (32, vB false)]) (by kernel_rfl) ?_
     refine t_end ?_
     show W _ _ _ _ _ _ _
     refine w_seq ?_
     refine w_cond rfl (fun c_ => by cases c_) (fun _ => ?_)
     show W _ _ _ _ _ _ _
     refine w_exit ?_
     simp only [Option.some.injEq, Prod.mk.injEq] at e84
     obtain ⟨rfl, rfl, rfl⟩ := e84
     exact ⟨(([⟨b82, [vI w1, vI t80, .slice (ad a87) y88.length (na87 / 1)], 3⟩, ⟨b74, [vI 0, vI 0, .slice (ad a89) y90.length (na89 / 1)], 3⟩, ⟨b73, [vI i0_0, vI i0_1, vI i0_2, .slice a_i0_3 n_i0_3 c_i0_3, .slice (ad a91) y92.length (na91 / 11)], 5⟩, ⟨a87, encL E_u8 y88, na87⟩, ⟨a89, encL E_u8 y90, na89⟩, ⟨a91, csa91, na91⟩] : List Own) ++ ((Fa91 ++ []) ++ [])), S, VS.treeA (.a (.l ([⟨a87, encL E_u8 y88, na87⟩, ⟨a89, encL E_u8 y90, na89⟩, ⟨a91, csa91, na91⟩, ⟨b82, [vI w1, vI t80, .slice (ad a87) y88.length (na87 / 1)], 3⟩, ⟨b74, [vI 0, vI 0, .slice (ad a89) y90.length (na89 / 1)], 3⟩, ⟨b73, [vI i0_0, vI i0_1, vI i0_2, .slice a_i0_3 n_i0_3 c_i0_3, .slice (ad a91) y92.length (na91 / 11)], 5⟩] : List Own)) (.a (.f Fa91) (.l []))) (.a (.l ([⟨b82, [vI w1, vI t80, .slice (ad a87) y88.length (na87 / 1)], 3⟩, ⟨b74, [vI 0, vI 0, .slice (ad a89) y90.length (na89 / 1)], 3⟩, ⟨b73, [vI i0_0, vI i0_1, vI i0_2, .slice a_i0_3 n_i0_3 c_i0_3, .slice (ad a91) y92.length (na91 / 11)], 5⟩, ⟨a87, encL E_u8 y88, na87⟩, ⟨a89, encL E_u8 y90, na89⟩, ⟨a91, csa91, na91⟩] : List Own)) (.a (.a (.f Fa91) (.l [])) (.l []))) [3, 3, 3, 0, 0, 0, 0] (by kernel_rfl), a87, na87, a89, na89, a91, na91, csa91, (Fa91 ++ []), by kernel_rfl, rfl, rfl, RL.mono hra91 (rd_sub seg_hd)⟩
  ·rintro σ_ H_ S_ ⟨a102, na102, a104, na104, a106, na106, csa106, Fa106, rfl, rfl, rfl, hra106⟩
   refine w_seq ?_
   refine w_reg fun all => ?_
   refine t_v (.ldn rfl rfl rfl (.at 0 rfl rfl)) ?_
   refine t_sti 1 (cs := [vI w1, vI t80, .slice (ad a102) y103.length (na102 / 1)]) rfl rfl rfl rfl rfl rfl rfl rfl rfl ?_
   refine t_qz 1 [4, 5] (σ' := [(4, vP b74 0), (5, .nilIface)]) (by kernel_rfl) ?_
   refine t_end ?_
   show W _ _ _ _ _ _ _
   refine w_ret ?_
   simp only [Option.some.injEq, Prod.mk.injEq] at e
   obtain ⟨rfl, rfl, rfl, rfl⟩ := e
   exact ⟨[.agg #[vI w1, vI t80, .slice (ad a102) y103.length (na102 / 1)], .nilIface], ([⟨a102, encL E_u8 y103, na102⟩] : List Own), S, ⟨⟨_, _, _, rfl, .at 1 rfl rfl, rfl⟩, (show gt _ _ = some _ from (by kernel_rfl)), trivial⟩, VS.treeA (.a (.l ([⟨b82, [vI w1, vI t80, .slice (ad a102) y103.length (na102 / 1)], 3⟩, ⟨b74, [vI w1, vI t80, .slice (ad a102) y103.length (na102 / 1)], 3⟩, ⟨b73, [vI i0_0, vI i0_1, vI i0_2, .slice a_i0_3 n_i0_3 c_i0_3, .slice (ad a106) y107.length (na106 / 11)], 5⟩, ⟨a102, encL E_u8 y103, na102⟩, ⟨a104, encL E_u8 y105, na104⟩, ⟨a106, csa106, na106⟩] : List Own)) (.a (.f Fa106) (.l []))) (.l ([⟨a102, encL E_u8 y103, na102⟩] : List Own)) [3] (by kernel_rfl), a102, na102, rfl, rfl, rfl⟩
 ·rw [if_neg c78] at e
  have c78b : (t76 == 0) = false := beq_eq_false_iff_ne.mpr c78
  refine t_qz 1 [1, 2, 4, 7, 17] (σ' := [(1, vI w1), (2, vP b73 0), (4, vP b74 0), (7, errV 157 A_ t76), (17, errV 157 A_ t76)]) (by kernel_rfl) ?_
  refine t_v (.eqt (a := errV 157 A_ t76) (b := .nilIface) (r := t76 == 0) rfl rfl rfl rfl (eqErr (by kernel_rfl) rfl) (bnk c78b rfl)) ?_
  refine t_keep [1, 2, 4, 7, 18] (σ' := [(1, vI w1), (2, vP b73 0), (4, vP b74 0), (7, errV 157 A_ t76), (18, vB true)]) (by kernel_rfl) ?_
  refine t_end ?_
  show W _ _ _ _ _ _ _
  refine w_cond rfl (fun _ => ?_) (fun c_ => by cases c_)
  show W _ _ _ _ _ _ _
  refine w_seq ?_
  refine w_reg fun all => ?_
  refine t_qz 2 [4, 19, 20] (σ' := [(4, vP b74 0), (19, .agg #[vI 0, vI 0, .slice none 0 0]), (20, errV 157 A_ t76)]) (by kernel_rfl) ?_
  refine t_sti 0 (cs := [vI 0, vI 0, .slice none 0 0]) rfl rfl rfl rfl rfl rfl rfl rfl rfl ?_
  refine t_qz 1 [4, 5] (σ' := [(4, vP b74 0), (5, errV 157 A_ t76)]) (by kernel_rfl) ?_
  refine t_end ?_
  show W _ _ _ _ _ _ _
  refine w_ret ?_
  simp only [Option.some.injEq, Prod.mk.injEq] at e
  obtain ⟨rfl, rfl, rfl, rfl⟩ := e
  exact ⟨[.agg #[vI 0, vI 0, .slice (ad none) ([] : List (Int)).length (0 / 1)], errV 157 A_ t76], ([⟨none, encL E_u8 ([] : List (Int)), 0⟩] : List Own), S, ⟨⟨_, _, _, rfl, .at 0 rfl rfl, rfl⟩, (show gt _ _ = some _ from (by kernel_rfl)), trivial⟩, VS.trans VS.vac (VS.sel [0] (by kernel_rfl)), none, 0, rfl, rfl, rfl⟩

/-- glyphiclaw27.first -/
def c6 : C :=
  (.seq (.reg [oq 0 (.mv (.const (vB false)))])
  (.seq (.reg [oq 4 (.bld [(vI 0), (vI 0), (vI 0), (.slice none 0 0), (.slice none 0 0)] [(0, 1, (.const (vI 1))), (1, 1, (.const (vI 2)))]),
     oq 5 (.call 7 [(.tmp 4), (.const (vI 1))]),
     oq 3 (.mv (.tmp 5)),
     oq 6 (.xt 0 (.tmp 3)),
     oq 7 (.xt 1 (.tmp 3)),
     oq 1 (.new [(vI 0), (vI 0), (.slice none 0 0)]),
     ⟨none, .st 3 (.tmp 1) (.tmp 6), none⟩,
     oq 2 (.mv (.tmp 7))])
  (.seq (.reg [oq 8 (.mv (.tmp 2)),
     oq 9 (.eqt false 29 (.tmp 8) (.const .nilIface)),
     oq 10 (.mv (.tmp 9)),
     ⟨(some 11), .pad 0 (.tmp 1), (some (10, true))⟩,
     ⟨(some 12), .ld none (.tmp 11), (some (10, true))⟩,
     ⟨(some 13), .bin .eql (.tmp 12) (.const (vI 1)), (some (10, true))⟩,
     oq 14 (.pk (.tmp 10) (.tmp 13) (.const (vB false))),
     oq 15 (.mv (.tmp 14)),
     ⟨(some 16), .pad 1 (.tmp 1), (some (15, true))⟩,
     ⟨(some 17), .ld none (.tmp 16), (some (15, true))⟩,
     ⟨(some 18), .bin .eql (.tmp 17) (.const (vI 2)), (some (15, true))⟩,
     oq 19 (.pk (.tmp 15) (.tmp 18) (.const (vB false))),
     oq 20 (.mv (.tmp 19)),
     ⟨(some 21), .pad 2 (.tmp 1), (some (20, true))⟩,
     ⟨(some 22), .ld none (.tmp 21), (some (20, true))⟩,
     ⟨(some 23), .lns (.tmp 22), (some (20, true))⟩,
     ⟨(some 24), .bin .eql (.tmp 23) (.const (vI 8)), (some (20, true))⟩,
     oq 25 (.pk (.tmp 20) (.tmp 24) (.const (vB false))),
     oq 26 (.mv (.tmp 25)),
     ⟨(some 27), .pad 2 (.tmp 1), (some (26, true))⟩,
     ⟨(some 28), .ld none (.tmp 27), (some (26, true))⟩,
     ⟨(some 29), .ixs 1 (.tmp 28) (.const (vI 0)), (some (26, true))⟩,
     ⟨(some 30), .ld none (.tmp 29), (some (26, true))⟩,
     ⟨(some 31), .bin .eql (.tmp 30) (.const (.int .u8 0)), (some (26, true))⟩,
     oq 32 (.pk (.tmp 26) (.tmp 31) (.const (vB false))),
     oq 0 (.mv (.tmp 32))])
  .ret)))
def glyphiclaw27_first.f (k : Nat)  : Option (Bool) := (render_Frame_v1.f k 1 2 0 1).bind fun (t108, t109, t110, t111) => (if t110 = 0 then (if t108 = 1 then (if t109 = 2 then (if (t111.length : Int) = 8 then ((lgt t111 0).bind fun x119 => (some (x119 == 0))) else (some false)) else (some false)) else (some false)) else (some false))
theorem glyphiclaw27_first.ok {S : Seal} {k : Nat}  {r0_ : Bool}{A_ : Int → Addr} (hE_ : EO gsE S A_ 157) (e : glyphiclaw27_first.f k  = some r0_) :
    Cal Tryd.prog 6 [] [] S fun v H' S' => v = .bool r0_ ∧ H' = [] ∧ S' = S := by
 unfold glyphiclaw27_first.f at e
 refine cal_of (c := c6) (N := 33) Tryd.func6 rfl rfl (by kernel_rfl) (rs := [.t 0]) (by kernel_rfl) (Nat.le_of_ble_eq_true rfl) ?_
 unfold c6
 refine w_seq ?_
 refine w_reg fun all => ?_
 refine t_qz 1 [] (σ' := []) (by kernel_rfl) ?_
 refine t_end ?_
 show W _ _ _ _ _ _ _
 refine w_seq ?_
 refine w_reg fun all => ?_
 obtain ⟨⟨t108, t109, t110, t111⟩, h112, e⟩ := bind_of e
 try dsimp only at e
 refine t_qz 1 [4] (σ' := [(4, .agg #[vI 1, vI 2, vI 0, .slice none 0 0, .slice none 0 0])]) (by kernel_rfl) ?_
 refine t_call (vs := [.agg #[vI 1, vI 2, vI 0, .slice none 0 0, .slice none 0 0], vI 1]) (H1 := []) (F := ([] : List Own)) rfl rfl (by kernel_rfl) (sel_perm (is := []) (by kernel_rfl)) (render_Frame_v1.ok hE_ h112) ?_
 rintro _ _ S_ ⟨N113, nN113, rfl, rfl, hS_⟩
 obtain rfl := hS_.symm
 refine t_qz 3 [6, 7] (σ' := [(6, .agg #[vI t108, vI t109, .slice (ad N113) t111.length (nN113 / 1)]), (7, errV 157 A_ t110)]) (by kernel_rfl) ?_
 refine t_a (.new rfl rfl) fun b114 fb114 sb114 => ?_
 refine t_sti 0 (cs := [vI t108, vI t109, .slice (ad N113) t111.length (nN113 / 1)]) rfl rfl rfl rfl rfl rfl rfl rfl rfl ?_
 refine t_qz 1 [1, 2] (σ' := [(1, vP b114 0), (2, errV 157 A_ t110)]) (by kernel_rfl) ?_
 refine t_end ?_
 show W _ _ _ _ _ _ _
 refine w_seq ?_
 refine w_reg fun all => ?_
 by_cases c115 : t110 = 0
 ·rw [if_pos c115] at e
  have c115b : (t110 == 0) = true := beq_iff_eq.mpr c115
  refine t_qz 1 [1, 8] (σ' := [(1, vP b114 0), (8, errV 157 A_ t110)]) (by kernel_rfl) ?_
  refine t_v (.eqt (a := errV 157 A_ t110) (b := .nilIface) (r := t110 == 0) rfl rfl rfl rfl (eqErr (by kernel_rfl) rfl) (bnk c115b rfl)) ?_
  refine t_qz 2 [1, 10, 11] (σ' := [(1, vP b114 0), (10, vB true), (11, vP b114 0)]) (by kernel_rfl) ?_
  refine t_v (.ld1 rfl rfl rfl (.at 0 rfl rfl)) ?_
  by_cases c116 : t108 = 1
  ·rw [if_pos c116] at e
   have c116b : (t108 == 1) = true := beq_iff_eq.mpr c116
   refine t_v (dv_quiet rfl (congrArg (fun t => some (Value.bool t)) c116b)) ?_
   refine t_qz 3 [1, 15, 16] (σ' := [(1, vP b114 0), (15, vB true), (16, vP b114 1)]) (by kernel_rfl) ?_
   refine t_v (.ld1 rfl rfl rfl (.at 0 rfl rfl)) ?_
   by_cases c117 : t109 = 2
   ·rw [if_pos c117] at e
    have c117b : (t109 == 2) = true := beq_iff_eq.mpr c117
    refine t_v (dv_quiet rfl (congrArg (fun t => some (Value.bool t)) c117b)) ?_
    refine t_qz 3 [1, 20, 21] (σ' := [(1, vP b114 0), (20, vB true), (21, vP b114 2)]) (by kernel_rfl) ?_
    refine t_v (.ld1 rfl rfl rfl (.at 0 rfl rfl)) ?_
    by_cases c118 : (t111.length : Int) = 8
    ·rw [if_pos c118] at e
     have c118b : ((t111.length : Int) == 8) = true := beq_iff_eq.mpr c118
     refine t_qz 1 [1, 20, 23] (σ' := [(1, vP b114 0), (20, vB true), (23, vI (t111.length : Int))]) (by kernel_rfl) ?_
     refine t_v (dv_quiet rfl (congrArg (fun t => some (Value.bool t)) c118b)) ?_
     refine t_qz 3 [26, 27] (σ' := [(26, vB true), (27, vP b114 2)]) (by kernel_rfl) ?_
     refine t_v (.ld1 rfl rfl rfl (.at 0 rfl rfl)) ?_
     obtain ⟨x119, hx120, e⟩ := bind_of e
     refine t_v (.quietH rfl (by intro h_; cases h_) (ixl (E := E_u8) (j := 1) rfl rfl rfl (by decide) rfl hx120)) ?_
     refine t_v (.ld1 rfl rfl rfl (.lst 1 rfl (encL_at (lgt_in hx120).1 rfl))) ?_
     refine t_qz 3 [0] (σ' := [(0, .bool (x119 == 0))]) (by kernel_rfl) ?_
     refine t_end ?_
     show W _ _ _ _ _ _ _
     refine w_ret ?_
     obtain rfl := Option.some.inj e
     exact ⟨[.bool (x119 == 0)], [], S, ⟨rfl, trivial⟩, VS.none, rfl, rfl, rfl⟩
    ·rw [if_neg c118] at e
     have c118b : ((t111.length : Int) == 8) = false := beq_eq_false_iff_ne.mpr c118
     refine t_qz 1 [1, 20, 23] (σ' := [(1, vP b114 0), (20, vB true), (23, vI (t111.length : Int))]) (by kernel_rfl) ?_
     refine t_v (dv_quiet rfl (congrArg (fun t => some (Value.bool t)) c118b)) ?_
     refine t_qz 9 [0] (σ' := [(0, vB false)]) (by kernel_rfl) ?_
     refine t_end ?_
     show W _ _ _ _ _ _ _
     refine w_ret ?_
     obtain rfl := Option.some.inj e
     exact ⟨[vB false], [], S, ⟨rfl, trivial⟩, VS.none, rfl, rfl, rfl⟩
   ·rw [if_neg c117] at e
    have c117b : (t109 == 2) = false := beq_eq_false_iff_ne.mpr c117
    refine t_v (dv_quiet rfl (congrArg (fun t => some (Value.bool t)) c117b)) ?_
    refine t_qz 15 [0] (σ' := [(0, vB false)]) (by kernel_rfl) ?_
    refine t_end ?_
    show W _ _ _ _ _ _ _
    refine w_ret ?_
    obtain rfl := Option.some.inj e
    exact ⟨[vB false], [], S, ⟨rfl, trivial⟩, VS.none, rfl, rfl, rfl⟩
  ·rw [if_neg c116] at e
   have c116b : (t108 == 1) = false := beq_eq_false_iff_ne.mpr c116
   refine t_v (dv_quiet rfl (congrArg (fun t => some (Value.bool t)) c116b)) ?_
   refine t_qz 20 [0] (σ' := [(0, vB false)]) (by kernel_rfl) ?_
   refine t_end ?_
   show W _ _ _ _ _ _ _
   refine w_ret ?_
   obtain rfl := Option.some.inj e
   exact ⟨[vB false], [], S, ⟨rfl, trivial⟩, VS.none, rfl, rfl, rfl⟩
 ·rw [if_neg c115] at e
  have c115b : (t110 == 0) = false := beq_eq_false_iff_ne.mpr c115
  refine t_qz 1 [1, 8] (σ' := [(1, vP b114 0), (8, errV 157 A_ t110)]) (by kernel_rfl) ?_
  refine t_v (.eqt (a := errV 157 A_ t110) (b := .nilIface) (r := t110 == 0) rfl rfl rfl rfl (eqErr (by kernel_rfl) rfl) (bnk c115b rfl)) ?_
  refine t_qz 24 [0] (σ' := [(0, vB false)]) (by kernel_rfl) ?_
  refine t_end ?_
  show W _ _ _ _ _ _ _
  refine w_ret ?_
  obtain rfl := Option.some.inj e
  exact ⟨[vB false], [], S, ⟨rfl, trivial⟩, VS.none, rfl, rfl, rfl⟩

/-- glyphiclaw27.square -/
def c8 : C :=
  (.seq (.reg [oq 2 (.box (.tmp 0)),
     oq 4 (.new [(vI 0), (vI 0), (vI 0), (.slice none 0 0), (.slice none 0 0)])])
  (.seq (.reg [oq 6 (.mv (.tmp 1)),
     oq 7 (.bld [(vI 0), (vI 0)] [(0, 1, (.tmp 6))]),
     oq 8 (.bld [(vI 0), (vI 0), (vI 0), (vI 0), (vI 0), (vI 0)] [(0, 2, (.tmp 7))]),
     oq 9 (.bld [(vI 0), (vI 0), (vI 0), (vI 0), (vI 0), (vI 0), (vI 0)] [(0, 1, (.const (vI 1))), (1, 6, (.tmp 8))]),
     oq 10 (.mv (.tmp 1)),
     oq 11 (.mv (.tmp 1)),
     oq 12 (.bld [(vI 0), (vI 0)] [(0, 1, (.tmp 10)), (1, 1, (.tmp 11))]),
     oq 13 (.bld [(vI 0), (vI 0), (vI 0), (vI 0), (vI 0), (vI 0)] [(0, 2, (.tmp 12))]),
     oq 14 (.bld [(vI 0), (vI 0), (vI 0), (vI 0), (vI 0), (vI 0), (vI 0)] [(0, 1, (.const (vI 1))), (1, 6, (.tmp 13))]),
     oq 15 (.mv (.tmp 1)),
     oq 16 (.bld [(vI 0), (vI 0)] [(1, 1, (.tmp 15))]),
     oq 17 (.bld [(vI 0), (vI 0), (vI 0), (vI 0), (vI 0), (vI 0)] [(0, 2, (.tmp 16))]),
     oq 18 (.bld [(vI 0), (vI 0), (vI 0), (vI 0), (vI 0), (vI 0), (vI 0)] [(0, 1, (.const (vI 1))), (1, 6, (.tmp 17))]),
     oq 19 (.bsl [(vI 0), (vI 0), (vI 0), (vI 0), (vI 0), (vI 0), (vI 0), (vI 0), (vI 0), (vI 0), (vI 0), (vI 0), (vI 0), (vI 0), (vI 0), (vI 0), (vI 0), (vI 0), (vI 0), (vI 0), (vI 0)] 3 [(0, 7, (.tmp 9)), (7, 7, (.tmp 14)), (14, 7, (.tmp 18))]),
     oq 20 (.bld [(vI 0), (vI 0), (.slice none 0 0), (vB false)] [(2, 1, (.tmp 19))]),
     oq 5 (.new [(vI 0), (vI 0), (.slice none 0 0), (vB false)]),
     ⟨none, .st 4 (.tmp 5) (.tmp 20), none⟩])
  (.seq (.reg [oq 21 (.mv (.tmp 1)),
     oq 22 (.mv (.tmp 1)),
     oq 23 (.ld (some 4) (.tmp 2)),
     oq 24 (.bsl [(.int .u8 0), (.int .u8 0), (.int .u8 0), (.int .u8 0)] 1 [(0, 4, (.tmp 23))]),
     oq 25 (.ld (some 4) (.tmp 5)),
     oq 26 (.bsl [(vI 0), (vI 0), (.slice none 0 0), (vB false)] 1 [(0, 4, (.tmp 25))]),
     oq 27 (.bld [(vI 0), (vI 0), (vI 0), (vI 0), (vI 0), (vI 0), (vI 0), (vI 0), (vI 0), (vI 0), (.slice none 0 0)] [(0, 1, (.const (vI 1))), (10, 1, (.tmp 26))]),
     oq 28 (.bsl [(vI 0), (vI 0), (vI 0), (vI 0), (vI 0), (vI 0), (vI 0), (vI 0), (vI 0), (vI 0), (.slice none 0 0)] 1 [(0, 11, (.tmp 27))]),
     oq 29 (.bld [(vI 0), (vI 0), (vI 0), (.slice none 0 0), (.slice none 0 0)] [(0, 1, (.tmp 21)), (1, 1, (.tmp 22)), (3, 1, (.tmp 24)), (4, 1, (.tmp 28))]),
     ⟨none, .st 5 (.tmp 4) (.tmp 29), none⟩])
  .ret)))
def glyphiclaw27_square.f (c0_R : Int) (c0_G : Int) (c0_B : Int) (c0_A : Int) (n1 : Int) : Option (Int × Int × Int × Int × Int × Int × Int × Int × Int × Int) := some (n1, n1, c0_R, c0_G, c0_B, c0_A, n1, n1, n1, n1)
theorem glyphiclaw27_square.ok {S : Seal} {c0_R : Int} {c0_G : Int} {c0_B : Int} {c0_A : Int} {n1 : Int} {r0_ : Int} {r1_ : Int} {r2_ : Int} {r3_ : Int} {r4_ : Int} {r5_ : Int} {r6_ : Int} {r7_ : Int} {r8_ : Int} {r9_ : Int}{A_ : Int → Addr} (hE_ : EO gsE S A_ 157) (e : glyphiclaw27_square.f c0_R c0_G c0_B c0_A n1 = some (r0_, r1_, r2_, r3_, r4_, r5_, r6_, r7_, r8_, r9_)) :
    Cal Tryd.prog 8 [.agg #[.int .u8 c0_R, .int .u8 c0_G, .int .u8 c0_B, .int .u8 c0_A], vI n1] [] S fun v H' S' => ∃ (N0_ : Nat) (N1_ : Nat) (N2_ : Nat) (N3_ : Nat) , v = .agg #[vI r0_, vI r1_, vI 0, .slice (some ⟨N0_, 0, none⟩) 1 1, .slice (some ⟨N1_, 0, none⟩) 1 1] ∧ H' = ([⟨N0_, [.int .u8 r2_, .int .u8 r3_, .int .u8 r4_, .int .u8 r5_], 4⟩, ⟨N1_, [vI 1, vI 0, vI 0, vI 0, vI 0, vI 0, vI 0, vI 0, vI 0, vI 0, .slice (some ⟨N2_, 0, none⟩) 1 1], 11⟩, ⟨N2_, [vI 0, vI 0, .slice (some ⟨N3_, 0, none⟩) 3 3, vB false], 4⟩, ⟨N3_, [vI 1, vI r6_, vI 0, vI 0, vI 0, vI 0, vI 0, vI 1, vI r7_, vI r8_, vI 0, vI 0, vI 0, vI 0, vI 1, vI 0, vI r9_, vI 0, vI 0, vI 0, vI 0], 21⟩] : List Own) ∧ S' = S := by
 unfold glyphiclaw27_square.f at e
 refine cal_of (c := c8) (N := 30) Tryd.func8 rfl rfl (by kernel_rfl) (rs := [.cn 5 4]) (by kernel_rfl) (Nat.le_of_ble_eq_true rfl) ?_
 unfold c8
 refine w_seq ?_
 refine w_reg fun all => ?_
 refine t_a (.box rfl rfl rfl) fun b124 fb124 sb124 => ?_
 refine t_a (.new rfl rfl) fun b125 fb125 sb125 => ?_
 refine t_keep [1, 2, 4] (σ' := [(1, vI n1), (2, vP b124 0), (4, vP b125 0)]) (by kernel_rfl) ?_
 refine t_end ?_
 show W _ _ _ _ _ _ _
 refine w_seq ?_
 refine w_reg fun all => ?_
 refine t_qz 13 [1, 2, 4, 9, 14, 18] (σ' := [(1, vI n1), (2, vP b124 0), (4, vP b125 0), (9, .agg #[vI 1, vI n1, vI 0, vI 0, vI 0, vI 0, vI 0]), (14, .agg #[vI 1, vI n1, vI n1, vI 0, vI 0, vI 0, vI 0]), (18, .agg #[vI 1, vI 0, vI n1, vI 0, vI 0, vI 0, vI 0])]) (by kernel_rfl) ?_
 refine t_a (dv_bsl (cs := [vI 1, vI n1, vI 0, vI 0, vI 0, vI 0, vI 0, vI 1, vI n1, vI n1, vI 0, vI 0, vI 0, vI 0, vI 1, vI 0, vI n1, vI 0, vI 0, vI 0, vI 0]) rfl rfl (by kernel_rfl)) fun b126 fb126 sb126 => ?_
 refine t_qz 1 [1, 2, 4, 20] (σ' := [(1, vI n1), (2, vP b124 0), (4, vP b125 0), (20, .agg #[vI 0, vI 0, .slice (some ⟨b126, 0, none⟩) 3 3, vB false])]) (by kernel_rfl) ?_
 refine t_a (.new rfl rfl) fun b127 fb127 sb127 => ?_
 refine t_sti 0 (cs := [vI 0, vI 0, .slice (some ⟨b126, 0, none⟩) 3 3, vB false]) rfl rfl rfl rfl rfl rfl rfl rfl rfl ?_
 refine t_keep [1, 2, 4, 5] (σ' := [(1, vI n1), (2, vP b124 0), (4, vP b125 0), (5, vP b127 0)]) (by kernel_rfl) ?_
 refine t_end ?_
 show W _ _ _ _ _ _ _
 refine w_seq ?_
 refine w_reg fun all => ?_
 refine t_qz 2 [2, 4, 5, 21, 22] (σ' := [(2, vP b124 0), (4, vP b125 0), (5, vP b127 0), (21, vI n1), (22, vI n1)]) (by kernel_rfl) ?_
 refine t_v (.ldn rfl rfl rfl (.at 3 rfl rfl)) ?_
 refine t_a (dv_bsl (cs := [.int .u8 c0_R, .int .u8 c0_G, .int .u8 c0_B, .int .u8 c0_A]) rfl rfl (by kernel_rfl)) fun b128 fb128 sb128 => ?_
 refine t_v (.ldn rfl rfl rfl (.at 1 rfl rfl)) ?_
 refine t_a (dv_bsl (cs := [vI 0, vI 0, .slice (some ⟨b126, 0, none⟩) 3 3, vB false]) rfl rfl (by kernel_rfl)) fun b129 fb129 sb129 => ?_
 refine t_qz 1 [4, 21, 22, 24, 27] (σ' := [(4, vP b125 0), (21, vI n1), (22, vI n1), (24, .slice (some ⟨b128, 0, none⟩) 1 1), (27, .agg #[vI 1, vI 0, vI 0, vI 0, vI 0, vI 0, vI 0, vI 0, vI 0, vI 0, .slice (some ⟨b129, 0, none⟩) 1 1])]) (by kernel_rfl) ?_
 refine t_a (dv_bsl (cs := [vI 1, vI 0, vI 0, vI 0, vI 0, vI 0, vI 0, vI 0, vI 0, vI 0, .slice (some ⟨b129, 0, none⟩) 1 1]) rfl rfl (by kernel_rfl)) fun b130 fb130 sb130 => ?_
 refine t_qz 1 [4, 29] (σ' := [(4, vP b125 0), (29, .agg #[vI n1, vI n1, vI 0, .slice (some ⟨b128, 0, none⟩) 1 1, .slice (some ⟨b130, 0, none⟩) 1 1])]) (by kernel_rfl) ?_
 refine t_sti 5 (cs := [vI n1, vI n1, vI 0, .slice (some ⟨b128, 0, none⟩) 1 1, .slice (some ⟨b130, 0, none⟩) 1 1]) rfl rfl rfl rfl rfl rfl rfl rfl rfl ?_
 refine t_keep [4] (σ' := [(4, vP b125 0)]) (by kernel_rfl) ?_
 refine t_end ?_
 show W _ _ _ _ _ _ _
 refine w_ret ?_
 simp only [Option.some.injEq, Prod.mk.injEq] at e
 obtain ⟨rfl, rfl, rfl, rfl, rfl, rfl, rfl, rfl, rfl, rfl⟩ := e
 exact ⟨[.agg #[vI n1, vI n1, vI 0, .slice (some ⟨b128, 0, none⟩) 1 1, .slice (some ⟨b130, 0, none⟩) 1 1]], ([⟨b128, [.int .u8 c0_R, .int .u8 c0_G, .int .u8 c0_B, .int .u8 c0_A], 4⟩, ⟨b130, [vI 1, vI 0, vI 0, vI 0, vI 0, vI 0, vI 0, vI 0, vI 0, vI 0, .slice (some ⟨b129, 0, none⟩) 1 1], 11⟩, ⟨b129, [vI 0, vI 0, .slice (some ⟨b126, 0, none⟩) 3 3, vB false], 4⟩, ⟨b126, [vI 1, vI n1, vI 0, vI 0, vI 0, vI 0, vI 0, vI 1, vI n1, vI n1, vI 0, vI 0, vI 0, vI 0, vI 1, vI 0, vI n1, vI 0, vI 0, vI 0, vI 0], 21⟩] : List Own), S, ⟨⟨_, _, _, rfl, .at 5 rfl rfl, rfl⟩, trivial⟩, VS.sel [2, 0, 0, 1] (by kernel_rfl), b128, b130, b129, b126, rfl, rfl, rfl⟩

/-- scale.At -/
def c42 : C :=
  (.seq (.reg [oq 3 (.box (.tmp 0)),
     oq 6 (.mv (.const (vI 0)))])
  (.seq (.reg [oq 7 (.mv (.tmp 2)),
     oq 8 (.mv (.tmp 1)),
     oq 9 (.bin .mul (.tmp 7) (.tmp 8)),
     oq 10 (.bin .mul (.tmp 9) (.const (vI 256))),
     oq 11 (.pad 0 (.tmp 3)),
     oq 12 (.ld none (.tmp 11)),
     oq 13 (.pad 2 (.tmp 3)),
     oq 14 (.ld none (.tmp 13)),
     oq 15 (.bin .shl (.tmp 12) (.tmp 14)),
     oq 16 (.call 51 [(.tmp 10), (.tmp 15)]),
     oq 6 (.mv (.tmp 16))])
  .ret))
def scale_At_v1.f (i0_0 : Int) (i0_1 : Int) (i0_2 : Int) (w1 : Int) (v2 : Int) : Option (Int) := if i0_2 < 0 then none else ((fixed_Round.f (wr64 ((wr64 (v2 * w1)) * 256)) (wr64 (i0_0 * 2 ^ (min (Int.toNat i0_2) 64)))).bind fun t161 => (some t161))
theorem scale_At_v1.ok {S : Seal} {i0_0 : Int} {i0_1 : Int} {i0_2 : Int} {w1 : Int} {v2 : Int} {r0_ : Int}{A_ : Int → Addr} (hE_ : EO gsE S A_ 157) {a_i0_3 : Option Addr} {n_i0_3 c_i0_3 : Nat} {a_i0_4 : Option Addr} {n_i0_4 c_i0_4 : Nat} (e : scale_At_v1.f i0_0 i0_1 i0_2 w1 v2 = some r0_) :
    Cal Tryd.prog 42 [.agg #[vI i0_0, vI i0_1, vI i0_2, .slice a_i0_3 n_i0_3 c_i0_3, .slice a_i0_4 n_i0_4 c_i0_4], vI w1, vI v2] [] S fun v H' S' => v = vI r0_ ∧ H' = [] ∧ S' = S := by
 unfold scale_At_v1.f at e
 refine cal_of (c := c42) (N := 17) Tryd.func42 rfl rfl (by kernel_rfl) (rs := [.t 6]) (by kernel_rfl) (Nat.le_of_ble_eq_true rfl) ?_
 unfold c42
 refine w_seq ?_
 refine w_reg fun all => ?_
 refine t_a (.box rfl rfl rfl) fun b159 fb159 sb159 => ?_
 refine t_qz 1 [1, 2, 3] (σ' := [(1, vI w1), (2, vI v2), (3, vP b159 0)]) (by kernel_rfl) ?_
 refine t_end ?_
 show W _ _ _ _ _ _ _
 refine w_seq ?_
 refine w_reg fun all => ?_
 refine t_qz 5 [3, 10, 11] (σ' := [(3, vP b159 0), (10, vI (wr64 ((wr64 (v2 * w1)) * 256))), (11, vP b159 0)]) (by kernel_rfl) ?_
 refine t_v (.ld1 rfl rfl rfl (.at 0 rfl rfl)) ?_
 refine t_qz 1 [10, 12, 13] (σ' := [(10, vI (wr64 ((wr64 (v2 * w1)) * 256))), (12, vI i0_0), (13, vP b159 2)]) (by kernel_rfl) ?_
 refine t_v (.ld1 rfl rfl rfl (.at 0 rfl rfl)) ?_
 have c160 : ¬ i0_2 < 0 := by
  intro h_; rw [if_pos h_] at e; cases e
 rw [if_neg c160] at e
 refine t_v (.quiet rfl (qv_shl rfl rfl c160)) ?_
 obtain ⟨t161, h162, e⟩ := bind_of e
 refine t_v (.call (vs := [vI (wr64 ((wr64 (v2 * w1)) * 256)), vI (wr64 (i0_0 * 2 ^ (min (Int.toNat i0_2) 64)))]) rfl rfl (by kernel_rfl) (fixed_Round.ok hE_ h162)) ?_
 refine t_qz 1 [6] (σ' := [(6, vI t161)]) (by kernel_rfl) ?_
 refine t_end ?_
 show W _ _ _ _ _ _ _
 refine w_ret ?_
 obtain rfl := Option.some.inj e
 exact ⟨[vI t161], [], S, ⟨rfl, trivial⟩, VS.none, rfl, rfl, rfl⟩

/-- scale.Cmd$1 -/
def c41 : C :=
  (.seq (.reg [oq 3 (.box (.tmp 0)),
     oq 4 (.new [(vI 0), (vI 0)])])
  (.seq (.drw [oq 5 (.ld (some 5) (.tmp 1)),
     oq 6 (.ld none (.tmp 2)),
     oq 7 (.pad 0 (.tmp 3)),
     oq 8 (.ld none (.tmp 7)),
     oq 9 (.call 42 [(.tmp 5), (.tmp 6), (.tmp 8)]),
     oq 10 (.ld (some 5) (.tmp 1)),
     oq 11 (.ld none (.tmp 2)),
     oq 12 (.pad 1 (.tmp 3)),
     oq 13 (.ld none (.tmp 12)),
     oq 14 (.call 42 [(.tmp 10), (.tmp 11), (.tmp 13)]),
     oq 15 (.bld [(vI 0), (vI 0)] [(0, 1, (.tmp 9)), (1, 1, (.tmp 14))]),
     ⟨none, .st 2 (.tmp 4) (.tmp 15), none⟩] [[], [], [], [2], [0, 1, 3], [], [], [], [7], [5, 6, 8, 4], [4, 9], [10, 9, 0, 1, 2, 3, 4, 5, 6, 7, 8, 9, 10]])
  .ret))
def scale_Cmd_1_v1.f (p0_0 : Int) (p0_1 : Int) (m0_0 : Int) (m0_1 : Int) (m0_2 : Int) (m1_0 : Int) : Option (Int × Int) := (scale_At_v1.f m0_0 m0_1 m0_2 m1_0 p0_0).bind fun t159 => ((scale_At_v1.f m0_0 m0_1 m0_2 m1_0 p0_1).bind fun t161 => (some (t159, t161)))
theorem scale_Cmd_1_v1.ok {S : Seal} {B0 : Nat} {B1 : Nat} {p0_0 : Int} {p0_1 : Int} {m0_0 : Int} {m0_1 : Int} {m0_2 : Int} {m1_0 : Int} {r0_ : Int} {r1_ : Int}{A_ : Int → Addr} (hE_ : EO gsE S A_ 157) {a_m0_3 : Option Addr} {n_m0_3 c_m0_3 : Nat} {a_m0_4 : Option Addr} {n_m0_4 c_m0_4 : Nat} (e : scale_Cmd_1_v1.f p0_0 p0_1 m0_0 m0_1 m0_2 m1_0 = some (r0_, r1_)) :
    Cal Tryd.prog 41 [.agg #[vI p0_0, vI p0_1], vP B0 0, vP B1 0] ([⟨B0, [vI m0_0, vI m0_1, vI m0_2, .slice a_m0_3 n_m0_3 c_m0_3, .slice a_m0_4 n_m0_4 c_m0_4], 5⟩, ⟨B1, [vI m1_0], 1⟩] : List Own) S fun v H' S' => v = .agg #[vI r0_, vI r1_] ∧ H' = ([⟨B0, [vI m0_0, vI m0_1, vI m0_2, .slice a_m0_3 n_m0_3 c_m0_3, .slice a_m0_4 n_m0_4 c_m0_4], 5⟩, ⟨B1, [vI m1_0], 1⟩] : List Own) ∧ S' = S := by
 unfold scale_Cmd_1_v1.f at e
 refine cal_of (c := c41) (N := 16) Tryd.func41 rfl rfl (by kernel_rfl) (rs := [.cn 2 4]) (by kernel_rfl) (Nat.le_of_ble_eq_true rfl) ?_
 unfold c41
 refine w_seq ?_
 refine w_reg fun all => ?_
 refine t_a (.box rfl rfl rfl) fun b157 fb157 sb157 => ?_
 refine t_a (.new rfl rfl) fun b158 fb158 sb158 => ?_
 refine t_keep [1, 2, 3, 4] (σ' := [(1, vP B0 0), (2, vP B1 0), (3, vP b157 0), (4, vP b158 0)]) (by kernel_rfl) ?_
 refine t_end ?_
 show W _ _ _ _ _ _ _
 refine w_seq ?_
 obtain ⟨t159, h160, e⟩ := bind_of e
 obtain ⟨t161, h162, e⟩ := bind_of e
 refine w_drwE mixed 11 [.v (.agg #[vI m0_0, vI m0_1, vI m0_2, .slice a_m0_3 n_m0_3 c_m0_3, .slice a_m0_4 n_m0_4 c_m0_4]), .v (vI m1_0), .v (vP b157 0), .v (vI p0_0), .v (vI t159), .v (.agg #[vI m0_0, vI m0_1, vI m0_2, .slice a_m0_3 n_m0_3 c_m0_3, .slice a_m0_4 n_m0_4 c_m0_4]), .v (vI m1_0), .v (vP b157 1), .v (vI p0_1), .v (vI t161), .v (.agg #[vI t159, vI t161])] (by kernel_rfl) ?_ ?_
 ·refine .cons (.ldn rfl rfl rfl (.at 2 rfl rfl)) ?_
  refine .cons (.ld1 rfl rfl rfl (.at 3 rfl rfl)) ?_
  refine DI.sq 1 (by kernel_rfl) rfl ?_
  refine .cons (.ld1 rfl rfl rfl (.at 1 rfl rfl)) ?_
  refine .cons (.call (vs := [.agg #[vI m0_0, vI m0_1, vI m0_2, .slice a_m0_3 n_m0_3 c_m0_3, .slice a_m0_4 n_m0_4 c_m0_4], vI m1_0, vI p0_0]) rfl rfl (by kernel_rfl) (scale_At_v1.ok hE_ h160)) ?_
  refine .cons (.ldn rfl rfl rfl (.at 2 rfl rfl)) ?_
  refine .cons (.ld1 rfl rfl rfl (.at 3 rfl rfl)) ?_
  refine DI.sq 1 (by kernel_rfl) rfl ?_
  refine .cons (.ld1 rfl rfl rfl (.at 1 rfl rfl)) ?_
  refine .cons (.call (vs := [.agg #[vI m0_0, vI m0_1, vI m0_2, .slice a_m0_3 n_m0_3 c_m0_3, .slice a_m0_4 n_m0_4 c_m0_4], vI m1_0, vI p0_1]) rfl rfl (by kernel_rfl) (scale_At_v1.ok hE_ h162)) ?_
  refine DI.sq 1 (by kernel_rfl) rfl ?_
  exact .nil
 refine fk_q 11 [4, 15] (σ' := [(4, vP b158 0), (15, .agg #[vI t159, vI t161])]) t_more (by kernel_rfl) ?_
 refine fk_nil fun all => ?_
 refine t_sti 0 (cs := [vI t159, vI t161]) rfl rfl rfl rfl rfl rfl rfl rfl rfl ?_
 refine t_keep [4] (σ' := [(4, vP b158 0)]) (by kernel_rfl) ?_
 refine t_end ?_
 show W _ _ _ _ _ _ _
 refine w_ret ?_
 simp only [Option.some.injEq, Prod.mk.injEq] at e
 obtain ⟨rfl, rfl⟩ := e
 exact ⟨[.agg #[vI t159, vI t161]], ([⟨B0, [vI m0_0, vI m0_1, vI m0_2, .slice a_m0_3 n_m0_3 c_m0_3, .slice a_m0_4 n_m0_4 c_m0_4], 5⟩, ⟨B1, [vI m1_0], 1⟩] : List Own), S, ⟨⟨_, _, _, rfl, .at 0 rfl rfl, rfl⟩, trivial⟩, VS.sel [2, 2] (by kernel_rfl), rfl, rfl, rfl⟩

/-- scale.Cmd -/
def c31 : C :=
  (.seq (.reg [oq 3 (.box (.tmp 0)),
     oq 4 (.box (.tmp 1)),
     oq 5 (.box (.tmp 2)),
     oq 6 (.new [(vI 0), (vI 0), (vI 0), (vI 0), (vI 0), (vI 0), (vI 0), (vI 0), (vI 0), (vI 0), (.slice none 0 0)])])
  (.seq (.reg [oq 15 (.mkf 41 [(.tmp 3), (.tmp 4)]),
     oq 7 (.mv (.tmp 15))])
  (.seq (.drw [oq 16 (.mv (.tmp 7)),
     oq 17 (.pad 3 (.tmp 5)),
     oq 18 (.pad 3 (.tmp 17)),
     oq 19 (.ld (some 2) (.tmp 18)),
     oq 20 (.clo (.tmp 16) [(.tmp 19)]),
     oq 21 (.mv (.tmp 7)),
     oq 22 (.pad 3 (.tmp 5)),
     oq 23 (.pad 5 (.tmp 22)),
     oq 24 (.ld (some 2) (.tmp 23)),
     oq 25 (.clo (.tmp 21) [(.tmp 24)]),
     oq 26 (.pad 3 (.tmp 5)),
     oq 27 (.pad 3 (.tmp 26)),
     ⟨none, .st 2 (.tmp 27) (.tmp 20), none⟩,
     oq 28 (.pad 3 (.tmp 5)),
     oq 29 (.pad 5 (.tmp 28)),
     ⟨none, .st 2 (.tmp 29) (.tmp 25), none⟩] [[], [], [1], [2], [0, 3], [], [], [6], [7], [5, 8, 4], [0, 1, 2, 3, 4, 6, 7, 8], [10, 0, 1, 2, 3, 4, 6, 7, 8], [11, 4, 9, 0, 1, 2, 3, 4, 6, 7, 8], [0, 1, 2, 3, 4, 5, 6, 7, 8, 9, 10, 11, 12], [13, 0, 1, 2, 3, 4, 5, 6, 7, 8, 9, 10, 11, 12], [14, 9, 12, 0, 1, 2, 3, 4, 5, 6, 7, 8, 9, 10, 11, 12]])
  (.seq (.seq (.reg [oq 30 (.pad 3 (.tmp 5)),
      oq 31 (.pad 0 (.tmp 30)),
      oq 32 (.ld none (.tmp 31)),
      oq 33 (.bin .eql (.tmp 32) (.const (vI 2)))])
   (.cond (.tmp 33)
    (.reg [oq 34 (.pad 3 (.tmp 5)),
       oq 35 (.pad 5 (.tmp 34)),
       oq 36 (.pad 0 (.tmp 35)),
       oq 37 (.ld none (.tmp 36)),
       oq 38 (.mm true [(.tmp 37), (.const (vI 1))]),
       oq 39 (.pad 3 (.tmp 5)),
       oq 40 (.pad 5 (.tmp 39)),
       oq 41 (.pad 0 (.tmp 40)),
       ⟨none, .st 1 (.tmp 41) (.tmp 38), none⟩])
    .skip))
  (.seq (.seq (.reg [oq 42 (.pad 0 (.tmp 5)),
      oq 43 (.ld none (.tmp 42)),
      oq 44 (.bin .eql (.tmp 43) (.const (vI 2)))])
   (.cond (.tmp 44)
    (.reg [oq 45 (.ld (some 5) (.tmp 3)),
       oq 46 (.ld none (.tmp 4)),
       oq 47 (.pad 2 (.tmp 5)),
       oq 48 (.ld none (.tmp 47)),
       oq 49 (.call 42 [(.tmp 45), (.tmp 46), (.tmp 48)]),
       oq 50 (.mm true [(.tmp 49), (.const (vI 1))]),
       oq 51 (.pad 2 (.tmp 5)),
       ⟨none, .st 1 (.tmp 51) (.tmp 50), none⟩])
    .skip))
  (.seq (.reg [oq 52 (.pad 10 (.tmp 5)),
     oq 53 (.ld none (.tmp 52)),
     oq 8 (.mv (.tmp 53))])
  (.seq (.reg [oq 54 (.pad 10 (.tmp 5)),
     ⟨none, .st 1 (.tmp 54) (.const (.slice none 0 0)), none⟩])
  (.seq (.seq (.reg [oq 55 (.mv (.tmp 8)),
      oq 56 (.lns (.tmp 55)),
      oq 57 (.mv (.const (vI 0)))])
   (.block 0 (.loop (.seq (.reg [oq 58 (.bin .lss (.tmp 57) (.tmp 56))])
     (.seq (.cond (.tmp 58)
       .skip
       (.exit 0))
     (.seq (.block 1 (.seq (.reg [oq 59 (.ixs 4 (.tmp 55) (.tmp 57)),
          oq 60 (.ld (some 4) (.tmp 59)),
          oq 10 (.new [(vI 0), (vI 0), (.slice none 0 0), (vB false)]),
          ⟨none, .st 4 (.tmp 10) (.tmp 60), none⟩])
       (.seq (.drw [oq 61 (.mv (.tmp 7)),
          oq 62 (.pad 0 (.tmp 10)),
          oq 63 (.ld (some 2) (.tmp 62)),
          oq 64 (.clo (.tmp 61) [(.tmp 63)]),
          oq 65 (.pad 3 (.tmp 10)),
          oq 66 (.ld none (.tmp 65)),
          oq 67 (.bld [(vI 0), (vI 0), (.slice none 0 0), (vB false)] [(0, 2, (.tmp 64)), (3, 1, (.tmp 66))]),
          oq 11 (.new [(vI 0), (vI 0), (.slice none 0 0), (vB false)]),
          ⟨none, .st 4 (.tmp 11) (.tmp 67), none⟩] [[], [], [1], [0, 2], [], [4], [3, 5], [], [7, 6, 3, 0, 1, 2, 3, 4, 5, 6, 7]])
       (.seq (.seq (.reg [oq 68 (.pad 2 (.tmp 10)),
           oq 69 (.ld none (.tmp 68)),
           oq 70 (.lns (.tmp 69)),
           oq 71 (.mv (.const (vI 0)))])
        (.block 2 (.loop (.seq (.reg [oq 72 (.bin .lss (.tmp 71) (.tmp 70))])
          (.seq (.cond (.tmp 72)
            .skip
            (.exit 2))
          (.seq (.block 3 (.seq (.reg [oq 73 (.ixs 7 (.tmp 69) (.tmp 71)),
               oq 74 (.ld (some 7) (.tmp 73)),
               oq 13 (.new [(vI 0), (vI 0), (vI 0), (vI 0), (vI 0), (vI 0), (vI 0)]),
               ⟨none, .st 7 (.tmp 13) (.tmp 74), none⟩])
            (.seq (.seq (.reg [oq 75 (.mv (.const (vI 0)))])
             (.block 4 (.loop (.seq (.reg [oq 76 (.bin .lss (.tmp 75) (.const (vI 3)))])
               (.seq (.cond (.tmp 76)
                 .skip
                 (.exit 4))
               (.seq (.block 5 (.seq (.reg [oq 77 (.mv (.tmp 75)),
                    oq 14 (.mv (.tmp 77))])
                 (.reg [oq 78 (.mv (.tmp 14)),
                   oq 79 (.mv (.tmp 7)),
                   oq 80 (.mv (.tmp 14)),
                   oq 81 (.pad 1 (.tmp 13)),
                   oq 82 (.ixa 2 3 (.tmp 81) (.tmp 80)),
                   oq 83 (.ld (some 2) (.tmp 82)),
                   oq 84 (.clo (.tmp 79) [(.tmp 83)]),
                   oq 85 (.pad 1 (.tmp 13)),
                   oq 86 (.ixa 2 3 (.tmp 85) (.tmp 78)),
                   ⟨none, .st 2 (.tmp 86) (.tmp 84), none⟩])))
               (.reg [oq 87 (.bin .add (.tmp 75) (.const (vI 1))),
                 oq 75 (.mv (.tmp 87))])))))))
            (.reg [oq 88 (.pad 2 (.tmp 11)),
              oq 89 (.ld none (.tmp 88)),
              oq 90 (.ld (some 7) (.tmp 13)),
              oq 91 (.bsl [(vI 0), (vI 0), (vI 0), (vI 0), (vI 0), (vI 0), (vI 0)] 1 [(0, 7, (.tmp 90))]),
              oq 92 (.app 69 7 56 [(vI 0), (vI 0), (vI 0), (vI 0), (vI 0), (vI 0), (vI 0)] (.tmp 89) (.tmp 91)),
              oq 93 (.pad 2 (.tmp 11)),
              ⟨none, .st 1 (.tmp 93) (.tmp 92), none⟩]))))
          (.reg [oq 94 (.bin .add (.tmp 71) (.const (vI 1))),
            oq 71 (.mv (.tmp 94))])))))))
       (.reg [oq 95 (.pad 10 (.tmp 5)),
         oq 96 (.ld none (.tmp 95)),
         oq 97 (.ld (some 4) (.tmp 11)),
         oq 98 (.bsl [(vI 0), (vI 0), (.slice none 0 0), (vB false)] 1 [(0, 4, (.tmp 97))]),
         oq 99 (.app 72 4 48 [(vI 0), (vI 0), (.slice none 0 0), (vB false)] (.tmp 96) (.tmp 98)),
         oq 100 (.pad 10 (.tmp 5)),
         ⟨none, .st 1 (.tmp 100) (.tmp 99), none⟩])))))
     (.reg [oq 101 (.bin .add (.tmp 57) (.const (vI 1))),
       oq 57 (.mv (.tmp 101))])))))))
  (.seq (.reg [oq 102 (.ld (some 11) (.tmp 5)),
     ⟨none, .st 11 (.tmp 6) (.tmp 102), none⟩])
  .ret)))))))))
def scale_Cmd_v1.f (i0_0 : Int) (i0_1 : Int) (w1 : Int) (m1_1 : Int) (m1_8 : Int) (m1_9 : Int) (m1_16 : Int) : Option (Int × Int × Int × Int × Int × Int × Int × Int × Int × Int × Int × Int × Int × Int × Int × Int × Int × Int × Int × Int × Int × Int × Int × Int) := (scale_Cmd_1_v1.f 0 0 i0_0 i0_1 0 w1).bind fun (t157, t158) => ((scale_Cmd_1_v1.f 0 0 i0_0 i0_1 0 w1).bind fun (t160, t161) => ((scale_Cmd_1_v1.f 0 0 i0_0 i0_1 0 w1).bind fun (t164, t165) => ((scale_Cmd_1_v1.f m1_1 0 i0_0 i0_1 0 w1).bind fun (t169, t170) => ((scale_Cmd_1_v1.f 0 0 i0_0 i0_1 0 w1).bind fun (t172, t173) => ((scale_Cmd_1_v1.f 0 0 i0_0 i0_1 0 w1).bind fun (t175, t176) => ((scale_Cmd_1_v1.f m1_8 m1_9 i0_0 i0_1 0 w1).bind fun (t181, t182) => ((scale_Cmd_1_v1.f 0 0 i0_0 i0_1 0 w1).bind fun (t184, t185) => ((scale_Cmd_1_v1.f 0 0 i0_0 i0_1 0 w1).bind fun (t187, t188) => ((scale_Cmd_1_v1.f 0 m1_16 i0_0 i0_1 0 w1).bind fun (t193, t194) => ((scale_Cmd_1_v1.f 0 0 i0_0 i0_1 0 w1).bind fun (t196, t197) => ((scale_Cmd_1_v1.f 0 0 i0_0 i0_1 0 w1).bind fun (t199, t200) => (some (t157, t158, t160, t161, t164, t165, t169, t170, t172, t173, t175, t176, t181, t182, t184, t185, t187, t188, t193, t194, t196, t197, t199, t200)))))))))))))
theorem scale_Cmd_v1.ok {S : Seal} {B0 : Nat} {B1 : Nat} {i0_0 : Int} {i0_1 : Int} {w1 : Int} {m1_1 : Int} {m1_8 : Int} {m1_9 : Int} {m1_16 : Int} {r0_ : Int} {r1_ : Int} {r2_ : Int} {r3_ : Int} {r4_ : Int} {r5_ : Int} {r6_ : Int} {r7_ : Int} {r8_ : Int} {r9_ : Int} {r10_ : Int} {r11_ : Int} {r12_ : Int} {r13_ : Int} {r14_ : Int} {r15_ : Int} {r16_ : Int} {r17_ : Int} {r18_ : Int} {r19_ : Int} {r20_ : Int} {r21_ : Int} {r22_ : Int} {r23_ : Int}{A_ : Int → Addr} (hE_ : EO gsE S A_ 157) {a_i0_3 : Option Addr} {n_i0_3 c_i0_3 : Nat} {a_i0_4 : Option Addr} {n_i0_4 c_i0_4 : Nat} (e : scale_Cmd_v1.f i0_0 i0_1 w1 m1_1 m1_8 m1_9 m1_16 = some (r0_, r1_, r2_, r3_, r4_, r5_, r6_, r7_, r8_, r9_, r10_, r11_, r12_, r13_, r14_, r15_, r16_, r17_, r18_, r19_, r20_, r21_, r22_, r23_)) :
    Cal Tryd.prog 31 [.agg #[vI i0_0, vI i0_1, vI 0, .slice a_i0_3 n_i0_3 c_i0_3, .slice a_i0_4 n_i0_4 c_i0_4], vI w1, .agg #[vI 1, vI 0, vI 0, vI 0, vI 0, vI 0, vI 0, vI 0, vI 0, vI 0, .slice (some ⟨B0, 0, none⟩) 1 1]] ([⟨B0, [vI 0, vI 0, .slice (some ⟨B1, 0, none⟩) 3 3, vB false], 4⟩, ⟨B1, [vI 1, vI m1_1, vI 0, vI 0, vI 0, vI 0, vI 0, vI 1, vI m1_8, vI m1_9, vI 0, vI 0, vI 0, vI 0, vI 1, vI 0, vI m1_16, vI 0, vI 0, vI 0, vI 0], 21⟩] : List Own) S fun v H' S' => ∃ (N0_ nN0_ : Nat) (N1_ nN1_ : Nat) , v = .agg #[vI 1, vI 0, vI 0, vI 0, vI 0, vI 0, vI r0_, vI r1_, vI r2_, vI r3_, .slice (some ⟨N0_, 0, none⟩) 1 (nN0_ / 4)] ∧ H' = ([⟨N0_, [vI r4_, vI r5_, .slice (some ⟨N1_, 0, none⟩) 3 (nN1_ / 7), vB false], nN0_⟩, ⟨N1_, [vI 1, vI r6_, vI r7_, vI r8_, vI r9_, vI r10_, vI r11_, vI 1, vI r12_, vI r13_, vI r14_, vI r15_, vI r16_, vI r17_, vI 1, vI r18_, vI r19_, vI r20_, vI r21_, vI r22_, vI r23_], nN1_⟩, ⟨B0, [vI 0, vI 0, .slice (some ⟨B1, 0, none⟩) 3 3, vB false], 4⟩, ⟨B1, [vI 1, vI m1_1, vI 0, vI 0, vI 0, vI 0, vI 0, vI 1, vI m1_8, vI m1_9, vI 0, vI 0, vI 0, vI 0, vI 1, vI 0, vI m1_16, vI 0, vI 0, vI 0, vI 0], 21⟩] : List Own) ∧ S' = S := by
 unfold scale_Cmd_v1.f at e
 refine cal_of (c := c31) (N := 103) Tryd.func31 rfl rfl (by kernel_rfl) (rs := [.cn 11 6]) (by kernel_rfl) (Nat.le_of_ble_eq_true rfl) ?_
 unfold c31
 refine w_seq ?_
 refine w_reg fun all => ?_
 refine t_a (.box rfl rfl rfl) fun b153 fb153 sb153 => ?_
 refine t_a (.box rfl rfl rfl) fun b154 fb154 sb154 => ?_
 refine t_a (.box rfl rfl rfl) fun b155 fb155 sb155 => ?_
 refine t_a (.new rfl rfl) fun b156 fb156 sb156 => ?_
 refine t_keep [3, 4, 5, 6] (σ' := [(3, vP b153 0), (4, vP b154 0), (5, vP b155 0), (6, vP b156 0)]) (by kernel_rfl) ?_
 refine t_end ?_
 show W _ _ _ _ _ _ _
 refine w_seq ?_
 refine w_reg fun all => ?_
 refine t_qz 2 [3, 4, 5, 6, 7] (σ' := [(3, vP b153 0), (4, vP b154 0), (5, vP b155 0), (6, vP b156 0), (7, .func (.func 41) #[] #[vP b153 0, vP b154 0])]) (by kernel_rfl) ?_
 refine t_end ?_
 show W _ _ _ _ _ _ _
 refine w_seq ?_
 obtain ⟨⟨t157, t158⟩, h159, e⟩ := bind_of e
 try dsimp only at e
 obtain ⟨⟨t160, t161⟩, h162, e⟩ := bind_of e
 try dsimp only at e
 refine w_drwE mixed 12 [.v (.func (.func 41) #[] #[vP b153 0, vP b154 0]), .v (vP b155 3), .v (vP b155 6), .v (.agg #[vI 0, vI 0]), .v (.agg #[vI t157, vI t158]), .v (.func (.func 41) #[] #[vP b153 0, vP b154 0]), .v (vP b155 3), .v (vP b155 8), .v (.agg #[vI 0, vI 0]), .v (.agg #[vI t160, vI t161]), .v (vP b155 3), .v (vP b155 6)] (by kernel_rfl) ?_ ?_
 ·refine DI.sq 3 (by kernel_rfl) rfl ?_
  refine .cons (.ldn rfl rfl rfl (.at 1 rfl rfl)) ?_
  refine .cons (.clor (vs := [.agg #[vI 0, vI 0]]) (caps := #[vP b153 0, vP b154 0]) (A := ([⟨b153, [vI i0_0, vI i0_1, vI 0, .slice a_i0_3 n_i0_3 c_i0_3, .slice a_i0_4 n_i0_4 c_i0_4], 5⟩, ⟨b154, [vI w1], 1⟩] : List Own)) (F0 := ([⟨b156, [vI 0, vI 0, vI 0, vI 0, vI 0, vI 0, vI 0, vI 0, vI 0, vI 0, .slice none 0 0], 11⟩, ⟨b155, [vI 1, vI 0, vI 0, vI 0, vI 0, vI 0, vI 0, vI 0, vI 0, vI 0, .slice (some ⟨B0, 0, none⟩) 1 1], 11⟩, ⟨B0, [vI 0, vI 0, .slice (some ⟨B1, 0, none⟩) 3 3, vB false], 4⟩, ⟨B1, [vI 1, vI m1_1, vI 0, vI 0, vI 0, vI 0, vI 0, vI 1, vI m1_8, vI m1_9, vI 0, vI 0, vI 0, vI 0, vI 1, vI 0, vI m1_16, vI 0, vI 0, vI 0, vI 0], 21⟩] : List Own)) rfl rfl rfl (by kernel_rfl) (by kernel_rfl) (sel_perm (is := [3, 2]) (by kernel_rfl)) (scale_Cmd_1_v1.ok hE_ h159)) ?_
  refine DI.sq 3 (by kernel_rfl) rfl ?_
  refine .cons (.ldn rfl rfl rfl (.at 1 rfl rfl)) ?_
  refine .cons (.clor (vs := [.agg #[vI 0, vI 0]]) (caps := #[vP b153 0, vP b154 0]) (A := ([⟨b153, [vI i0_0, vI i0_1, vI 0, .slice a_i0_3 n_i0_3 c_i0_3, .slice a_i0_4 n_i0_4 c_i0_4], 5⟩, ⟨b154, [vI w1], 1⟩] : List Own)) (F0 := ([⟨b156, [vI 0, vI 0, vI 0, vI 0, vI 0, vI 0, vI 0, vI 0, vI 0, vI 0, .slice none 0 0], 11⟩, ⟨b155, [vI 1, vI 0, vI 0, vI 0, vI 0, vI 0, vI 0, vI 0, vI 0, vI 0, .slice (some ⟨B0, 0, none⟩) 1 1], 11⟩, ⟨B0, [vI 0, vI 0, .slice (some ⟨B1, 0, none⟩) 3 3, vB false], 4⟩, ⟨B1, [vI 1, vI m1_1, vI 0, vI 0, vI 0, vI 0, vI 0, vI 1, vI m1_8, vI m1_9, vI 0, vI 0, vI 0, vI 0, vI 1, vI 0, vI m1_16, vI 0, vI 0, vI 0, vI 0], 21⟩] : List Own)) rfl rfl rfl (by kernel_rfl) (by kernel_rfl) (sel_perm (is := [3, 2]) (by kernel_rfl)) (scale_Cmd_1_v1.ok hE_ h162)) ?_
  refine DI.sq 2 (by kernel_rfl) rfl ?_
  exact .nil
 refine fk_q 12 [3, 4, 5, 6, 7, 20, 25, 27] (σ' := [(3, vP b153 0), (4, vP b154 0), (5, vP b155 0), (6, vP b156 0), (7, .func (.func 41) #[] #[vP b153 0, vP b154 0]), (20, .agg #[vI t157, vI t158]), (25, .agg #[vI t160, vI t161]), (27, vP b155 6)]) t_more (by kernel_rfl) ?_
 refine fk_nil fun all => ?_
 refine t_sti 1 (cs := [vI 1, vI 0, vI 0, vI 0, vI 0, vI 0, vI t157, vI t158, vI 0, vI 0, .slice (some ⟨B0, 0, none⟩) 1 1]) rfl rfl rfl rfl rfl rfl rfl rfl rfl ?_
 refine t_qz 2 [3, 4, 5, 6, 7, 25, 29] (σ' := [(3, vP b153 0), (4, vP b154 0), (5, vP b155 0), (6, vP b156 0), (7, .func (.func 41) #[] #[vP b153 0, vP b154 0]), (25, .agg #[vI t160, vI t161]), (29, vP b155 8)]) (by kernel_rfl) ?_
 refine t_sti 1 (cs := [vI 1, vI 0, vI 0, vI 0, vI 0, vI 0, vI t157, vI t158, vI t160, vI t161, .slice (some ⟨B0, 0, none⟩) 1 1]) rfl rfl rfl rfl rfl rfl rfl rfl rfl ?_
 refine t_keep [3, 4, 5, 6, 7] (σ' := [(3, vP b153 0), (4, vP b154 0), (5, vP b155 0), (6, vP b156 0), (7, .func (.func 41) #[] #[vP b153 0, vP b154 0])]) (by kernel_rfl) ?_
 refine t_end ?_
 show W _ _ _ _ _ _ _
 refine w_seq ?_
 refine w_seq ?_
 refine w_reg fun all => ?_
 refine t_qz 2 [3, 4, 5, 6, 7, 31] (σ' := [(3, vP b153 0), (4, vP b154 0), (5, vP b155 0), (6, vP b156 0), (7, .func (.func 41) #[] #[vP b153 0, vP b154 0]), (31, vP b155 3)]) (by kernel_rfl) ?_
 refine t_v (.ld1 rfl rfl rfl (.at 1 rfl rfl)) ?_
 refine t_qz 1 [3, 4, 5, 6, 7, 33] (σ' := [(3, vP b153 0), (4, vP b154 0), (5, vP b155 0), (6, vP b156 0), (7, .func (.func 41) #[] #[vP b153 0, vP b154 0]), (33, vB false)]) (by kernel_rfl) ?_
 refine t_end ?_
 show W _ _ _ _ _ _ _
 refine w_cond rfl (fun c_ => by cases c_) (fun _ => ?_)
 show W _ _ _ _ _ _ _
 refine w_skip ?_
 show W _ _ _ _ _ _ _
 refine w_seq ?_
 refine w_seq ?_
 refine w_reg fun all => ?_
 refine t_qz 1 [3, 4, 5, 6, 7, 42] (σ' := [(3, vP b153 0), (4, vP b154 0), (5, vP b155 0), (6, vP b156 0), (7, .func (.func 41) #[] #[vP b153 0, vP b154 0]), (42, vP b155 0)]) (by kernel_rfl) ?_
 refine t_v (.ld1 rfl rfl rfl (.at 1 rfl rfl)) ?_
 refine t_qz 1 [3, 4, 5, 6, 7, 44] (σ' := [(3, vP b153 0), (4, vP b154 0), (5, vP b155 0), (6, vP b156 0), (7, .func (.func 41) #[] #[vP b153 0, vP b154 0]), (44, vB false)]) (by kernel_rfl) ?_
 refine t_end ?_
 show W _ _ _ _ _ _ _
 refine w_cond rfl (fun c_ => by cases c_) (fun _ => ?_)
 show W _ _ _ _ _ _ _
 refine w_skip ?_
 show W _ _ _ _ _ _ _
 refine w_seq ?_
 refine w_reg fun all => ?_
 refine t_qz 1 [5, 6, 7, 52] (σ' := [(5, vP b155 0), (6, vP b156 0), (7, .func (.func 41) #[] #[vP b153 0, vP b154 0]), (52, vP b155 10)]) (by kernel_rfl) ?_
 refine t_v (.ld1 rfl rfl rfl (.at 1 rfl rfl)) ?_
 refine t_qz 1 [5, 6, 7, 8] (σ' := [(5, vP b155 0), (6, vP b156 0), (7, .func (.func 41) #[] #[vP b153 0, vP b154 0]), (8, .slice (some ⟨B0, 0, none⟩) 1 1)]) (by kernel_rfl) ?_
 refine t_end ?_
 show W _ _ _ _ _ _ _
 refine w_seq ?_
 refine w_reg fun all => ?_
 refine t_qz 1 [5, 6, 7, 8, 54] (σ' := [(5, vP b155 0), (6, vP b156 0), (7, .func (.func 41) #[] #[vP b153 0, vP b154 0]), (8, .slice (some ⟨B0, 0, none⟩) 1 1), (54, vP b155 10)]) (by kernel_rfl) ?_
 refine t_sti 1 (cs := [vI 1, vI 0, vI 0, vI 0, vI 0, vI 0, vI t157, vI t158, vI t160, vI t161, .slice none 0 0]) rfl rfl rfl rfl rfl rfl rfl rfl rfl ?_
 refine t_keep [5, 6, 7, 8] (σ' := [(5, vP b155 0), (6, vP b156 0), (7, .func (.func 41) #[] #[vP b153 0, vP b154 0]), (8, .slice (some ⟨B0, 0, none⟩) 1 1)]) (by kernel_rfl) ?_
 refine t_end ?_
 show W _ _ _ _ _ _ _
 refine w_seq ?_
 refine w_seq ?_
 refine w_reg fun all => ?_
 refine t_qz 3 [5, 6, 7, 55, 56, 57] (σ' := [(5, vP b155 0), (6, vP b156 0), (7, .func (.func 41) #[] #[vP b153 0, vP b154 0]), (55, .slice (some ⟨B0, 0, none⟩) 1 1), (56, vI 1), (57, vI 0)]) (by kernel_rfl) ?_
 refine t_end ?_
 show W _ _ _ _ _ _ _
 refine w_block ?_
 refine w_lun 15 ?_
 refine wl_step ?_
 refine w_seq ?_
 refine w_reg fun all => ?_
 refine t_qz 1 [5, 6, 7, 55, 56, 57, 58] (σ' := [(5, vP b155 0), (6, vP b156 0), (7, .func (.func 41) #[] #[vP b153 0, vP b154 0]), (55, .slice (some ⟨B0, 0, none⟩) 1 1), (56, vI 1), (57, vI 0), (58, vB true)]) (by kernel_rfl) ?_
 refine t_end ?_
 show W _ _ _ _ _ _ _
 refine w_seq ?_
 refine w_cond rfl (fun _ => ?_) (fun c_ => by cases c_)
 show W _ _ _ _ _ _ _
 refine w_skip ?_
 show W _ _ _ _ _ _ _
 refine w_seq ?_
 refine w_block ?_
 refine w_seq ?_
 refine w_reg fun all => ?_
 refine t_qz 1 [5, 6, 7, 55, 56, 57, 59] (σ' := [(5, vP b155 0), (6, vP b156 0), (7, .func (.func 41) #[] #[vP b153 0, vP b154 0]), (55, .slice (some ⟨B0, 0, none⟩) 1 1), (56, vI 1), (57, vI 0), (59, vP B0 0)]) (by kernel_rfl) ?_
 refine t_v (.ldn rfl rfl rfl (.at 4 rfl rfl)) ?_
 refine t_a (.new rfl rfl) fun b163 fb163 sb163 => ?_
 refine t_sti 0 (cs := [vI 0, vI 0, .slice (some ⟨B1, 0, none⟩) 3 3, vB false]) rfl rfl rfl rfl rfl rfl rfl rfl rfl ?_
 refine t_keep [5, 6, 7, 10, 55, 56, 57] (σ' := [(5, vP b155 0), (6, vP b156 0), (7, .func (.func 41) #[] #[vP b153 0, vP b154 0]), (10, vP b163 0), (55, .slice (some ⟨B0, 0, none⟩) 1 1), (56, vI 1), (57, vI 0)]) (by kernel_rfl) ?_
 refine t_end ?_
 show W _ _ _ _ _ _ _
 refine w_seq ?_
 obtain ⟨⟨t164, t165⟩, h166, e⟩ := bind_of e
 try dsimp only at e
 refine w_drwE mixed 8 [.v (.func (.func 41) #[] #[vP b153 0, vP b154 0]), .v (vP b163 0), .v (.agg #[vI 0, vI 0]), .v (.agg #[vI t164, vI t165]), .v (vP b163 3), .v (vB false), .v (.agg #[vI t164, vI t165, .slice none 0 0, vB false]), .a [vI 0, vI 0, .slice none 0 0, vB false] ptrTo] (by kernel_rfl) ?_ ?_
 ·refine DI.sq 2 (by kernel_rfl) rfl ?_
  refine .cons (.ldn rfl rfl rfl (.at 0 rfl rfl)) ?_
  refine .cons (.clor (vs := [.agg #[vI 0, vI 0]]) (caps := #[vP b153 0, vP b154 0]) (A := ([⟨b153, [vI i0_0, vI i0_1, vI 0, .slice a_i0_3 n_i0_3 c_i0_3, .slice a_i0_4 n_i0_4 c_i0_4], 5⟩, ⟨b154, [vI w1], 1⟩] : List Own)) (F0 := ([⟨b163, [vI 0, vI 0, .slice (some ⟨B1, 0, none⟩) 3 3, vB false], 4⟩, ⟨b156, [vI 0, vI 0, vI 0, vI 0, vI 0, vI 0, vI 0, vI 0, vI 0, vI 0, .slice none 0 0], 11⟩, ⟨b155, [vI 1, vI 0, vI 0, vI 0, vI 0, vI 0, vI t157, vI t158, vI t160, vI t161, .slice none 0 0], 11⟩, ⟨B0, [vI 0, vI 0, .slice (some ⟨B1, 0, none⟩) 3 3, vB false], 4⟩, ⟨B1, [vI 1, vI m1_1, vI 0, vI 0, vI 0, vI 0, vI 0, vI 1, vI m1_8, vI m1_9, vI 0, vI 0, vI 0, vI 0, vI 1, vI 0, vI m1_16, vI 0, vI 0, vI 0, vI 0], 21⟩] : List Own)) rfl rfl rfl (by kernel_rfl) (by kernel_rfl) (sel_perm (is := [4, 3]) (by kernel_rfl)) (scale_Cmd_1_v1.ok hE_ h166)) ?_
  refine DI.sq 1 (by kernel_rfl) rfl ?_
  refine .cons (.ld1 rfl rfl rfl (.at 0 rfl rfl)) ?_
  refine DI.sq 1 (by kernel_rfl) rfl ?_
  refine .cons (.new rfl rfl) ?_
  exact .nil
 refine fk_q 7 [5, 6, 7, 10, 55, 56, 57, 67] (σ' := [(5, vP b155 0), (6, vP b156 0), (7, .func (.func 41) #[] #[vP b153 0, vP b154 0]), (10, vP b163 0), (55, .slice (some ⟨B0, 0, none⟩) 1 1), (56, vI 1), (57, vI 0), (67, .agg #[vI t164, vI t165, .slice none 0 0, vB false])]) t_more (by kernel_rfl) ?_
 refine fk_a fun b167 fb167 sb167 => ?_
 refine fk_nil fun all => ?_
 refine t_sti 0 (cs := [vI t164, vI t165, .slice none 0 0, vB false]) rfl rfl rfl rfl rfl rfl rfl rfl rfl ?_
 refine t_keep [5, 6, 7, 10, 11, 55, 56, 57] (σ' := [(5, vP b155 0), (6, vP b156 0), (7, .func (.func 41) #[] #[vP b153 0, vP b154 0]), (10, vP b163 0), (11, vP b167 0), (55, .slice (some ⟨B0, 0, none⟩) 1 1), (56, vI 1), (57, vI 0)]) (by kernel_rfl) ?_
 refine t_end ?_
 show W _ _ _ _ _ _ _
 refine w_seq ?_
 refine w_seq ?_
 refine w_reg fun all => ?_
 refine t_qz 1 [5, 6, 7, 11, 55, 56, 57, 68] (σ' := [(5, vP b155 0), (6, vP b156 0), (7, .func (.func 41) #[] #[vP b153 0, vP b154 0]), (11, vP b167 0), (55, .slice (some ⟨B0, 0, none⟩) 1 1), (56, vI 1), (57, vI 0), (68, vP b163 2)]) (by kernel_rfl) ?_
 refine t_v (.ld1 rfl rfl rfl (.at 1 rfl rfl)) ?_
 refine t_qz 2 [5, 6, 7, 11, 55, 56, 57, 69, 70, 71] (σ' := [(5, vP b155 0), (6, vP b156 0), (7, .func (.func 41) #[] #[vP b153 0, vP b154 0]), (11, vP b167 0), (55, .slice (some ⟨B0, 0, none⟩) 1 1), (56, vI 1), (57, vI 0), (69, .slice (some ⟨B1, 0, none⟩) 3 3), (70, vI 3), (71, vI 0)]) (by kernel_rfl) ?_
 refine t_end ?_
 show W _ _ _ _ _ _ _
 refine w_block ?_
 refine w_lun 15 ?_
 refine wl_step ?_
 refine w_seq ?_
 refine w_reg fun all => ?_
 refine t_qz 1 [5, 6, 7, 11, 55, 56, 57, 69, 70, 71, 72] (σ' := [(5, vP b155 0), (6, vP b156 0), (7, .func (.func 41) #[] #[vP b153 0, vP b154 0]), (11, vP b167 0), (55, .slice (some ⟨B0, 0, none⟩) 1 1), (56, vI 1), (57, vI 0), (69, .slice (some ⟨B1, 0, none⟩) 3 3), (70, vI 3), (71, vI 0), (72, vB true)]) (by kernel_rfl) ?_
 refine t_end ?_
 show W _ _ _ _ _ _ _
 refine w_seq ?_
 refine w_cond rfl (fun _ => ?_) (fun c_ => by cases c_)
 show W _ _ _ _ _ _ _
 refine w_skip ?_
 show W _ _ _ _ _ _ _
 refine w_seq ?_
 refine w_block ?_
 refine w_seq ?_
 refine w_reg fun all => ?_
 refine t_qz 1 [5, 6, 7, 11, 55, 56, 57, 69, 70, 71, 73] (σ' := [(5, vP b155 0), (6, vP b156 0), (7, .func (.func 41) #[] #[vP b153 0, vP b154 0]), (11, vP b167 0), (55, .slice (some ⟨B0, 0, none⟩) 1 1), (56, vI 1), (57, vI 0), (69, .slice (some ⟨B1, 0, none⟩) 3 3), (70, vI 3), (71, vI 0), (73, vP B1 0)]) (by kernel_rfl) ?_
 refine t_v (.ldn rfl rfl rfl (.at 7 rfl rfl)) ?_
 refine t_a (.new rfl rfl) fun b168 fb168 sb168 => ?_
 refine t_sti 0 (cs := [vI 1, vI m1_1, vI 0, vI 0, vI 0, vI 0, vI 0]) rfl rfl rfl rfl rfl rfl rfl rfl rfl ?_
 refine t_keep [5, 6, 7, 11, 13, 55, 56, 57, 69, 70, 71] (σ' := [(5, vP b155 0), (6, vP b156 0), (7, .func (.func 41) #[] #[vP b153 0, vP b154 0]), (11, vP b167 0), (13, vP b168 0), (55, .slice (some ⟨B0, 0, none⟩) 1 1), (56, vI 1), (57, vI 0), (69, .slice (some ⟨B1, 0, none⟩) 3 3), (70, vI 3), (71, vI 0)]) (by kernel_rfl) ?_
 refine t_end ?_
 show W _ _ _ _ _ _ _
 refine w_seq ?_
 refine w_seq ?_
 refine w_reg fun all => ?_
 refine t_qz 1 [5, 6, 7, 11, 13, 55, 56, 57, 69, 70, 71, 75] (σ' := [(5, vP b155 0), (6, vP b156 0), (7, .func (.func 41) #[] #[vP b153 0, vP b154 0]), (11, vP b167 0), (13, vP b168 0), (55, .slice (some ⟨B0, 0, none⟩) 1 1), (56, vI 1), (57, vI 0), (69, .slice (some ⟨B1, 0, none⟩) 3 3), (70, vI 3), (71, vI 0), (75, vI 0)]) (by kernel_rfl) ?_
 refine t_end ?_
 show W _ _ _ _ _ _ _
 refine w_block ?_
 refine w_lun 15 ?_
 refine wl_step ?_
 refine w_seq ?_
 refine w_reg fun all => ?_
 refine t_qz 1 [5, 6, 7, 11, 13, 55, 56, 57, 69, 70, 71, 75, 76] (σ' := [(5, vP b155 0), (6, vP b156 0), (7, .func (.func 41) #[] #[vP b153 0, vP b154 0]), (11, vP b167 0), (13, vP b168 0), (55, .slice (some ⟨B0, 0, none⟩) 1 1), (56, vI 1), (57, vI 0), (69, .slice (some ⟨B1, 0, none⟩) 3 3), (70, vI 3), (71, vI 0), (75, vI 0), (76, vB true)]) (by kernel_rfl) ?_
 refine t_end ?_
 show W _ _ _ _ _ _ _
 refine w_seq ?_
 refine w_cond rfl (fun _ => ?_) (fun c_ => by cases c_)
 show W _ _ _ _ _ _ _
 refine w_skip ?_
 show W _ _ _ _ _ _ _
 refine w_seq ?_
 refine w_block ?_
 refine w_seq ?_
 refine w_reg fun all => ?_
 refine t_qz 2 [5, 6, 7, 11, 13, 14, 55, 56, 57, 69, 70, 71, 75] (σ' := [(5, vP b155 0), (6, vP b156 0), (7, .func (.func 41) #[] #[vP b153 0, vP b154 0]), (11, vP b167 0), (13, vP b168 0), (14, vI 0), (55, .slice (some ⟨B0, 0, none⟩) 1 1), (56, vI 1), (57, vI 0), (69, .slice (some ⟨B1, 0, none⟩) 3 3), (70, vI 3), (71, vI 0), (75, vI 0)]) (by kernel_rfl) ?_
 refine t_end ?_
 show W _ _ _ _ _ _ _
 refine w_reg fun all => ?_
 refine t_qz 5 [5, 6, 7, 11, 13, 55, 56, 57, 69, 70, 71, 75, 78, 79, 82] (σ' := [(5, vP b155 0), (6, vP b156 0), (7, .func (.func 41) #[] #[vP b153 0, vP b154 0]), (11, vP b167 0), (13, vP b168 0), (55, .slice (some ⟨B0, 0, none⟩) 1 1), (56, vI 1), (57, vI 0), (69, .slice (some ⟨B1, 0, none⟩) 3 3), (70, vI 3), (71, vI 0), (75, vI 0), (78, vI 0), (79, .func (.func 41) #[] #[vP b153 0, vP b154 0]), (82, vP b168 1)]) (by kernel_rfl) ?_
 refine t_v (.ldn rfl rfl rfl (.at 0 rfl rfl)) ?_
 obtain ⟨⟨t169, t170⟩, h171, e⟩ := bind_of e
 try dsimp only at e
 refine t_v (.clor (vs := [.agg #[vI m1_1, vI 0]]) (caps := #[vP b153 0, vP b154 0]) (A := ([⟨b153, [vI i0_0, vI i0_1, vI 0, .slice a_i0_3 n_i0_3 c_i0_3, .slice a_i0_4 n_i0_4 c_i0_4], 5⟩, ⟨b154, [vI w1], 1⟩] : List Own)) (F0 := ([⟨b168, [vI 1, vI m1_1, vI 0, vI 0, vI 0, vI 0, vI 0], 7⟩, ⟨b167, [vI t164, vI t165, .slice none 0 0, vB false], 4⟩, ⟨b163, [vI 0, vI 0, .slice (some ⟨B1, 0, none⟩) 3 3, vB false], 4⟩, ⟨b156, [vI 0, vI 0, vI 0, vI 0, vI 0, vI 0, vI 0, vI 0, vI 0, vI 0, .slice none 0 0], 11⟩, ⟨b155, [vI 1, vI 0, vI 0, vI 0, vI 0, vI 0, vI t157, vI t158, vI t160, vI t161, .slice none 0 0], 11⟩, ⟨B0, [vI 0, vI 0, .slice (some ⟨B1, 0, none⟩) 3 3, vB false], 4⟩, ⟨B1, [vI 1, vI m1_1, vI 0, vI 0, vI 0, vI 0, vI 0, vI 1, vI m1_8, vI m1_9, vI 0, vI 0, vI 0, vI 0, vI 1, vI 0, vI m1_16, vI 0, vI 0, vI 0, vI 0], 21⟩] : List Own)) rfl rfl rfl (by kernel_rfl) (by kernel_rfl) (sel_perm (is := [6, 5]) (by kernel_rfl)) (scale_Cmd_1_v1.ok hE_ h171)) ?_
 refine t_qz 2 [5, 6, 7, 11, 13, 55, 56, 57, 69, 70, 71, 75, 84, 86] (σ' := [(5, vP b155 0), (6, vP b156 0), (7, .func (.func 41) #[] #[vP b153 0, vP b154 0]), (11, vP b167 0), (13, vP b168 0), (55, .slice (some ⟨B0, 0, none⟩) 1 1), (56, vI 1), (57, vI 0), (69, .slice (some ⟨B1, 0, none⟩) 3 3), (70, vI 3), (71, vI 0), (75, vI 0), (84, .agg #[vI t169, vI t170]), (86, vP b168 1)]) (by kernel_rfl) ?_
 refine t_sti 0 (cs := [vI 1, vI t169, vI t170, vI 0, vI 0, vI 0, vI 0]) rfl rfl rfl rfl rfl rfl rfl rfl rfl ?_
 refine t_keep [5, 6, 7, 11, 13, 55, 56, 57, 69, 70, 71, 75] (σ' := [(5, vP b155 0), (6, vP b156 0), (7, .func (.func 41) #[] #[vP b153 0, vP b154 0]), (11, vP b167 0), (13, vP b168 0), (55, .slice (some ⟨B0, 0, none⟩) 1 1), (56, vI 1), (57, vI 0), (69, .slice (some ⟨B1, 0, none⟩) 3 3), (70, vI 3), (71, vI 0), (75, vI 0)]) (by kernel_rfl) ?_
 refine t_end ?_
 show W _ _ _ _ _ _ _
 refine w_reg fun all => ?_
 refine t_qz 2 [5, 6, 7, 11, 13, 55, 56, 57, 69, 70, 71, 75] (σ' := [(5, vP b155 0), (6, vP b156 0), (7, .func (.func 41) #[] #[vP b153 0, vP b154 0]), (11, vP b167 0), (13, vP b168 0), (55, .slice (some ⟨B0, 0, none⟩) 1 1), (56, vI 1), (57, vI 0), (69, .slice (some ⟨B1, 0, none⟩) 3 3), (70, vI 3), (71, vI 0), (75, vI 1)]) (by kernel_rfl) ?_
 refine t_end ?_
 show WL _ _ _ _ _ _ _ _
 refine wl_step ?_
 refine w_seq ?_
 refine w_reg fun all => ?_
 refine t_qz 1 [5, 6, 7, 11, 13, 55, 56, 57, 69, 70, 71, 75, 76] (σ' := [(5, vP b155 0), (6, vP b156 0), (7, .func (.func 41) #[] #[vP b153 0, vP b154 0]), (11, vP b167 0), (13, vP b168 0), (55, .slice (some ⟨B0, 0, none⟩) 1 1), (56, vI 1), (57, vI 0), (69, .slice (some ⟨B1, 0, none⟩) 3 3), (70, vI 3), (71, vI 0), (75, vI 1), (76, vB true)]) (by kernel_rfl) ?_
 refine t_end ?_
 show W _ _ _ _ _ _ _
 refine w_seq ?_
 refine w_cond rfl (fun _ => ?_) (fun c_ => by cases c_)
 show W _ _ _ _ _ _ _
 refine w_skip ?_
 show W _ _ _ _ _ _ _
 refine w_seq ?_
 refine w_block ?_
 refine w_seq ?_
 refine w_reg fun all => ?_
 refine t_qz 2 [5, 6, 7, 11, 13, 14, 55, 56, 57, 69, 70, 71, 75] (σ' := [(5, vP b155 0), (6, vP b156 0), (7, .func (.func 41) #[] #[vP b153 0, vP b154 0]), (11, vP b167 0), (13, vP b168 0), (14, vI 1), (55, .slice (some ⟨B0, 0, none⟩) 1 1), (56, vI 1), (57, vI 0), (69, .slice (some ⟨B1, 0, none⟩) 3 3), (70, vI 3), (71, vI 0), (75, vI 1)]) (by kernel_rfl) ?_
 refine t_end ?_
 show W _ _ _ _ _ _ _
 refine w_reg fun all => ?_
 refine t_qz 5 [5, 6, 7, 11, 13, 55, 56, 57, 69, 70, 71, 75, 78, 79, 82] (σ' := [(5, vP b155 0), (6, vP b156 0), (7, .func (.func 41) #[] #[vP b153 0, vP b154 0]), (11, vP b167 0), (13, vP b168 0), (55, .slice (some ⟨B0, 0, none⟩) 1 1), (56, vI 1), (57, vI 0), (69, .slice (some ⟨B1, 0, none⟩) 3 3), (70, vI 3), (71, vI 0), (75, vI 1), (78, vI 1), (79, .func (.func 41) #[] #[vP b153 0, vP b154 0]), (82, vP b168 3)]) (by kernel_rfl) ?_
 refine t_v (.ldn rfl rfl rfl (.at 0 rfl rfl)) ?_
 obtain ⟨⟨t172, t173⟩, h174, e⟩ := bind_of e
 try dsimp only at e
 refine t_v (.clor (vs := [.agg #[vI 0, vI 0]]) (caps := #[vP b153 0, vP b154 0]) (A := ([⟨b153, [vI i0_0, vI i0_1, vI 0, .slice a_i0_3 n_i0_3 c_i0_3, .slice a_i0_4 n_i0_4 c_i0_4], 5⟩, ⟨b154, [vI w1], 1⟩] : List Own)) (F0 := ([⟨b168, [vI 1, vI t169, vI t170, vI 0, vI 0, vI 0, vI 0], 7⟩, ⟨b167, [vI t164, vI t165, .slice none 0 0, vB false], 4⟩, ⟨b163, [vI 0, vI 0, .slice (some ⟨B1, 0, none⟩) 3 3, vB false], 4⟩, ⟨b156, [vI 0, vI 0, vI 0, vI 0, vI 0, vI 0, vI 0, vI 0, vI 0, vI 0, .slice none 0 0], 11⟩, ⟨b155, [vI 1, vI 0, vI 0, vI 0, vI 0, vI 0, vI t157, vI t158, vI t160, vI t161, .slice none 0 0], 11⟩, ⟨B0, [vI 0, vI 0, .slice (some ⟨B1, 0, none⟩) 3 3, vB false], 4⟩, ⟨B1, [vI 1, vI m1_1, vI 0, vI 0, vI 0, vI 0, vI 0, vI 1, vI m1_8, vI m1_9, vI 0, vI 0, vI 0, vI 0, vI 1, vI 0, vI m1_16, vI 0, vI 0, vI 0, vI 0], 21⟩] : List Own)) rfl rfl rfl (by kernel_rfl) (by kernel_rfl) (sel_perm (is := [6, 5]) (by kernel_rfl)) (scale_Cmd_1_v1.ok hE_ h174)) ?_
 refine t_qz 2 [5, 6, 7, 11, 13, 55, 56, 57, 69, 70, 71, 75, 84, 86] (σ' := [(5, vP b155 0), (6, vP b156 0), (7, .func (.func 41) #[] #[vP b153 0, vP b154 0]), (11, vP b167 0), (13, vP b168 0), (55, .slice (some ⟨B0, 0, none⟩) 1 1), (56, vI 1), (57, vI 0), (69, .slice (some ⟨B1, 0, none⟩) 3 3), (70, vI 3), (71, vI 0), (75, vI 1), (84, .agg #[vI t172, vI t173]), (86, vP b168 3)]) (by kernel_rfl) ?_
 refine t_sti 0 (cs := [vI 1, vI t169, vI t170, vI t172, vI t173, vI 0, vI 0]) rfl rfl rfl rfl rfl rfl rfl rfl rfl ?_
 refine t_keep [5, 6, 7, 11, 13, 55, 56, 57, 69, 70, 71, 75] (σ' := [(5, vP b155 0), (6, vP b156 0), (7, .func (.func 41) #[] #[vP b153 0, vP b154 0]), (11, vP b167 0), (13, vP b168 0), (55, .slice (some ⟨B0, 0, none⟩) 1 1), (56, vI 1), (57, vI 0), (69, .slice (some ⟨B1, 0, none⟩) 3 3), (70, vI 3), (71, vI 0), (75, vI 1)]) (by kernel_rfl) ?_
 refine t_end ?_
 show W _ _ _ _ _ _ _
 refine w_reg fun all => ?_
 refine t_qz 2 [5, 6, 7, 11, 13, 55, 56, 57, 69, 70, 71, 75] (σ' := [(5, vP b155 0), (6, vP b156 0), (7, .func (.func 41) #[] #[vP b153 0, vP b154 0]), (11, vP b167 0), (13, vP b168 0), (55, .slice (some ⟨B0, 0, none⟩) 1 1), (56, vI 1), (57, vI 0), (69, .slice (some ⟨B1, 0, none⟩) 3 3), (70, vI 3), (71, vI 0), (75, vI 2)]) (by kernel_rfl) ?_
 refine t_end ?_
 show WL _ _ _ _ _ _ _ _
 refine wl_step ?_
 refine w_seq ?_
 refine w_reg fun all => ?_
 refine t_qz 1 [5, 6, 7, 11, 13, 55, 56, 57, 69, 70, 71, 75, 76] (σ' := [(5, vP b155 0), (6, vP b156 0), (7, .func (.func 41) #[] #[vP b153 0, vP b154 0]), (11, vP b167 0), (13, vP b168 0), (55, .slice (some ⟨B0, 0, none⟩) 1 1), (56, vI 1), (57, vI 0), (69, .slice (some ⟨B1, 0, none⟩) 3 3), (70, vI 3), (71, vI 0), (75, vI 2), (76, vB true)]) (by kernel_rfl) ?_
 refine t_end ?_
 show W _ _ _ _ _ _ _
 refine w_seq ?_
 refine w_cond rfl (fun _ => ?_) (fun c_ => by cases c_)
 show W _ _ _ _ _ _ _
 refine w_skip ?_
 show W _ _ _ _ _ _ _
 refine w_seq ?_
 refine w_block ?_
 refine w_seq ?_
 refine w_reg fun all => ?_
 refine t_qz 2 [5, 6, 7, 11, 13, 14, 55, 56, 57, 69, 70, 71, 75] (σ' := [(5, vP b155 0), (6, vP b156 0), (7, .func (.func 41) #[] #[vP b153 0, vP b154 0]), (11, vP b167 0), (13, vP b168 0), (14, vI 2), (55, .slice (some ⟨B0, 0, none⟩) 1 1), (56, vI 1), (57, vI 0), (69, .slice (some ⟨B1, 0, none⟩) 3 3), (70, vI 3), (71, vI 0), (75, vI 2)]) (by kernel_rfl) ?_
 refine t_end ?_
 show W _ _ _ _ _ _ _
 refine w_reg fun all => ?_
 refine t_qz 5 [5, 6, 7, 11, 13, 55, 56, 57, 69, 70, 71, 75, 78, 79, 82] (σ' := [(5, vP b155 0), (6, vP b156 0), (7, .func (.func 41) #[] #[vP b153 0, vP b154 0]), (11, vP b167 0), (13, vP b168 0), (55, .slice (some ⟨B0, 0, none⟩) 1 1), (56, vI 1), (57, vI 0), (69, .slice (some ⟨B1, 0, none⟩) 3 3), (70, vI 3), (71, vI 0), (75, vI 2), (78, vI 2), (79, .func (.func 41) #[] #[vP b153 0, vP b154 0]), (82, vP b168 5)]) (by kernel_rfl) ?_
 refine t_v (.ldn rfl rfl rfl (.at 0 rfl rfl)) ?_
 obtain ⟨⟨t175, t176⟩, h177, e⟩ := bind_of e
 try dsimp only at e
 refine t_v (.clor (vs := [.agg #[vI 0, vI 0]]) (caps := #[vP b153 0, vP b154 0]) (A := ([⟨b153, [vI i0_0, vI i0_1, vI 0, .slice a_i0_3 n_i0_3 c_i0_3, .slice a_i0_4 n_i0_4 c_i0_4], 5⟩, ⟨b154, [vI w1], 1⟩] : List Own)) (F0 := ([⟨b168, [vI 1, vI t169, vI t170, vI t172, vI t173, vI 0, vI 0], 7⟩, ⟨b167, [vI t164, vI t165, .slice none 0 0, vB false], 4⟩, ⟨b163, [vI 0, vI 0, .slice (some ⟨B1, 0, none⟩) 3 3, vB false], 4⟩, ⟨b156, [vI 0, vI 0, vI 0, vI 0, vI 0, vI 0, vI 0, vI 0, vI 0, vI 0, .slice none 0 0], 11⟩, ⟨b155, [vI 1, vI 0, vI 0, vI 0, vI 0, vI 0, vI t157, vI t158, vI t160, vI t161, .slice none 0 0], 11⟩, ⟨B0, [vI 0, vI 0, .slice (some ⟨B1, 0, none⟩) 3 3, vB false], 4⟩, ⟨B1, [vI 1, vI m1_1, vI 0, vI 0, vI 0, vI 0, vI 0, vI 1, vI m1_8, vI m1_9, vI 0, vI 0, vI 0, vI 0, vI 1, vI 0, vI m1_16, vI 0, vI 0, vI 0, vI 0], 21⟩] : List Own)) rfl rfl rfl (by kernel_rfl) (by kernel_rfl) (sel_perm (is := [6, 5]) (by kernel_rfl)) (scale_Cmd_1_v1.ok hE_ h177)) ?_
 refine t_qz 2 [5, 6, 7, 11, 13, 55, 56, 57, 69, 70, 71, 75, 84, 86] (σ' := [(5, vP b155 0), (6, vP b156 0), (7, .func (.func 41) #[] #[vP b153 0, vP b154 0]), (11, vP b167 0), (13, vP b168 0), (55, .slice (some ⟨B0, 0, none⟩) 1 1), (56, vI 1), (57, vI 0), (69, .slice (some ⟨B1, 0, none⟩) 3 3), (70, vI 3), (71, vI 0), (75, vI 2), (84, .agg #[vI t175, vI t176]), (86, vP b168 5)]) (by kernel_rfl) ?_
 refine t_sti 0 (cs := [vI 1, vI t169, vI t170, vI t172, vI t173, vI t175, vI t176]) rfl rfl rfl rfl rfl rfl rfl rfl rfl ?_
 refine t_keep [5, 6, 7, 11, 13, 55, 56, 57, 69, 70, 71, 75] (σ' := [(5, vP b155 0), (6, vP b156 0), (7, .func (.func 41) #[] #[vP b153 0, vP b154 0]), (11, vP b167 0), (13, vP b168 0), (55, .slice (some ⟨B0, 0, none⟩) 1 1), (56, vI 1), (57, vI 0), (69, .slice (some ⟨B1, 0, none⟩) 3 3), (70, vI 3), (71, vI 0), (75, vI 2)]) (by kernel_rfl) ?_
 refine t_end ?_
 show W _ _ _ _ _ _ _
 refine w_reg fun all => ?_
 refine t_qz 2 [5, 6, 7, 11, 13, 55, 56, 57, 69, 70, 71, 75] (σ' := [(5, vP b155 0), (6, vP b156 0), (7, .func (.func 41) #[] #[vP b153 0, vP b154 0]), (11, vP b167 0), (13, vP b168 0), (55, .slice (some ⟨B0, 0, none⟩) 1 1), (56, vI 1), (57, vI 0), (69, .slice (some ⟨B1, 0, none⟩) 3 3), (70, vI 3), (71, vI 0), (75, vI 3)]) (by kernel_rfl) ?_
 refine t_end ?_
 show WL _ _ _ _ _ _ _ _
 refine wl_step ?_
 refine w_seq ?_
 refine w_reg fun all => ?_
 refine t_qz 1 [5, 6, 7, 11, 13, 55, 56, 57, 69, 70, 71, 75, 76] (σ' := [(5, vP b155 0), (6, vP b156 0), (7, .func (.func 41) #[] #[vP b153 0, vP b154 0]), (11, vP b167 0), (13, vP b168 0), (55, .slice (some ⟨B0, 0, none⟩) 1 1), (56, vI 1), (57, vI 0), (69, .slice (some ⟨B1, 0, none⟩) 3 3), (70, vI 3), (71, vI 0), (75, vI 3), (76, vB false)]) (by kernel_rfl) ?_
 refine t_end ?_
 show W _ _ _ _ _ _ _
 refine w_seq ?_
 refine w_cond rfl (fun c_ => by cases c_) (fun _ => ?_)
 show W _ _ _ _ _ _ _
 refine w_exit ?_
 show W _ _ _ _ _ _ _
 refine w_reg fun all => ?_
 refine t_qz 1 [5, 6, 7, 11, 13, 55, 56, 57, 69, 70, 71, 88] (σ' := [(5, vP b155 0), (6, vP b156 0), (7, .func (.func 41) #[] #[vP b153 0, vP b154 0]), (11, vP b167 0), (13, vP b168 0), (55, .slice (some ⟨B0, 0, none⟩) 1 1), (56, vI 1), (57, vI 0), (69, .slice (some ⟨B1, 0, none⟩) 3 3), (70, vI 3), (71, vI 0), (88, vP b167 2)]) (by kernel_rfl) ?_
 refine t_v (.ld1 rfl rfl rfl (.at 1 rfl rfl)) ?_
 refine t_v (.ldn rfl rfl rfl (.at 0 rfl rfl)) ?_
 refine t_a (dv_bsl (cs := [vI 1, vI t169, vI t170, vI t172, vI t173, vI t175, vI t176]) rfl rfl (by kernel_rfl)) fun b178 fb178 sb178 => ?_
 refine t_app0 (news := [vI 1, vI t169, vI t170, vI t172, vI t173, vI t175, vI t176]) rfl rfl rfl rfl (.at 0 rfl rfl) (by decide) (by decide) (by decide) rfl fun b179 nb179 fb179 sb179 => ?_
 refine t_qz 1 [5, 6, 7, 11, 55, 56, 57, 69, 70, 71, 92, 93] (σ' := [(5, vP b155 0), (6, vP b156 0), (7, .func (.func 41) #[] #[vP b153 0, vP b154 0]), (11, vP b167 0), (55, .slice (some ⟨B0, 0, none⟩) 1 1), (56, vI 1), (57, vI 0), (69, .slice (some ⟨B1, 0, none⟩) 3 3), (70, vI 3), (71, vI 0), (92, .slice (some ⟨b179, 0, none⟩) 1 (nb179 / 7)), (93, vP b167 2)]) (by kernel_rfl) ?_
 refine t_sti 3 (cs := [vI t164, vI t165, .slice (some ⟨b179, 0, none⟩) 1 (nb179 / 7), vB false]) rfl rfl rfl rfl rfl rfl rfl rfl rfl ?_
 refine t_keep [5, 6, 7, 11, 55, 56, 57, 69, 70, 71] (σ' := [(5, vP b155 0), (6, vP b156 0), (7, .func (.func 41) #[] #[vP b153 0, vP b154 0]), (11, vP b167 0), (55, .slice (some ⟨B0, 0, none⟩) 1 1), (56, vI 1), (57, vI 0), (69, .slice (some ⟨B1, 0, none⟩) 3 3), (70, vI 3), (71, vI 0)]) (by kernel_rfl) ?_
 refine t_end ?_
 show W _ _ _ _ _ _ _
 refine w_reg fun all => ?_
 refine t_qz 2 [5, 6, 7, 11, 55, 56, 57, 69, 70, 71] (σ' := [(5, vP b155 0), (6, vP b156 0), (7, .func (.func 41) #[] #[vP b153 0, vP b154 0]), (11, vP b167 0), (55, .slice (some ⟨B0, 0, none⟩) 1 1), (56, vI 1), (57, vI 0), (69, .slice (some ⟨B1, 0, none⟩) 3 3), (70, vI 3), (71, vI 1)]) (by kernel_rfl) ?_
 refine t_end ?_
 show WL _ _ _ _ _ _ _ _
 refine wl_step ?_
 refine w_seq ?_
 refine w_reg fun all => ?_
 refine t_qz 1 [5, 6, 7, 11, 55, 56, 57, 69, 70, 71, 72] (σ' := [(5, vP b155 0), (6, vP b156 0), (7, .func (.func 41) #[] #[vP b153 0, vP b154 0]), (11, vP b167 0), (55, .slice (some ⟨B0, 0, none⟩) 1 1), (56, vI 1), (57, vI 0), (69, .slice (some ⟨B1, 0, none⟩) 3 3), (70, vI 3), (71, vI 1), (72, vB true)]) (by kernel_rfl) ?_
 refine t_end ?_
 show W _ _ _ _ _ _ _
 refine w_seq ?_
 refine w_cond rfl (fun _ => ?_) (fun c_ => by cases c_)
 show W _ _ _ _ _ _ _
 refine w_skip ?_
 show W _ _ _ _ _ _ _
 refine w_seq ?_
 refine w_block ?_
 refine w_seq ?_
 refine w_reg fun all => ?_
 refine t_qz 1 [5, 6, 7, 11, 55, 56, 57, 69, 70, 71, 73] (σ' := [(5, vP b155 0), (6, vP b156 0), (7, .func (.func 41) #[] #[vP b153 0, vP b154 0]), (11, vP b167 0), (55, .slice (some ⟨B0, 0, none⟩) 1 1), (56, vI 1), (57, vI 0), (69, .slice (some ⟨B1, 0, none⟩) 3 3), (70, vI 3), (71, vI 1), (73, vP B1 7)]) (by kernel_rfl) ?_
 refine t_v (.ldn rfl rfl rfl (.at 10 rfl rfl)) ?_
 refine t_a (.new rfl rfl) fun b180 fb180 sb180 => ?_
 refine t_sti 0 (cs := [vI 1, vI m1_8, vI m1_9, vI 0, vI 0, vI 0, vI 0]) rfl rfl rfl rfl rfl rfl rfl rfl rfl ?_
 refine t_keep [5, 6, 7, 11, 13, 55, 56, 57, 69, 70, 71] (σ' := [(5, vP b155 0), (6, vP b156 0), (7, .func (.func 41) #[] #[vP b153 0, vP b154 0]), (11, vP b167 0), (13, vP b180 0), (55, .slice (some ⟨B0, 0, none⟩) 1 1), (56, vI 1), (57, vI 0), (69, .slice (some ⟨B1, 0, none⟩) 3 3), (70, vI 3), (71, vI 1)]) (by kernel_rfl) ?_
 refine t_end ?_
 show W _ _ _ _ _ _ _
 refine w_seq ?_
 refine w_seq ?_
 refine w_reg fun all => ?_
 refine t_qz 1 [5, 6, 7, 11, 13, 55, 56, 57, 69, 70, 71, 75] (σ' := [(5, vP b155 0), (6, vP b156 0), (7, .func (.func 41) #[] #[vP b153 0, vP b154 0]), (11, vP b167 0), (13, vP b180 0), (55, .slice (some ⟨B0, 0, none⟩) 1 1), (56, vI 1), (57, vI 0), (69, .slice (some ⟨B1, 0, none⟩) 3 3), (70, vI 3), (71, vI 1), (75, vI 0)]) (by kernel_rfl) ?_
 refine t_end ?_
 show W _ _ _ _ _ _ _
 refine w_block ?_
 refine w_lun 15 ?_
 refine wl_step ?_
 refine w_seq ?_
 refine w_reg fun all => ?_
 refine t_qz 1 [5, 6, 7, 11, 13, 55, 56, 57, 69, 70, 71, 75, 76] (σ' := [(5, vP b155 0), (6, vP b156 0), (7, .func (.func 41) #[] #[vP b153 0, vP b154 0]), (11, vP b167 0), (13, vP b180 0), (55, .slice (some ⟨B0, 0, none⟩) 1 1), (56, vI 1), (57, vI 0), (69, .slice (some ⟨B1, 0, none⟩) 3 3), (70, vI 3), (71, vI 1), (75, vI 0), (76, vB true)]) (by kernel_rfl) ?_
 refine t_end ?_
 show W _ _ _ _ _ _ _
 refine w_seq ?_
 refine w_cond rfl (fun _ => ?_) (fun c_ => by cases c_)
 show W _ _ _ _ _ _ _
 refine w_skip ?_
 show W _ _ _ _ _ _ _
 refine w_seq ?_
 refine w_block ?_
 refine w_seq ?_
 refine w_reg fun all => ?_
 refine t_qz 2 [5, 6, 7, 11, 13, 14, 55, 56, 57, 69, 70, 71, 75] (σ' := [(5, vP b155 0), (6, vP b156 0), (7, .func (.func 41) #[] #[vP b153 0, vP b154 0]), (11, vP b167 0), (13, vP b180 0), (14, vI 0), (55, .slice (some ⟨B0, 0, none⟩) 1 1), (56, vI 1), (57, vI 0), (69, .slice (some ⟨B1, 0, none⟩) 3 3), (70, vI 3), (71, vI 1), (75, vI 0)]) (by kernel_rfl) ?_
 refine t_end ?_
 show W _ _ _ _ _ _ _
 refine w_reg fun all => ?_
 refine t_qz 5 [5, 6, 7, 11, 13, 55, 56, 57, 69, 70, 71, 75, 78, 79, 82] (σ' := [(5, vP b155 0), (6, vP b156 0), (7, .func (.func 41) #[] #[vP b153 0, vP b154 0]), (11, vP b167 0), (13, vP b180 0), (55, .slice (some ⟨B0, 0, none⟩) 1 1), (56, vI 1), (57, vI 0), (69, .slice (some ⟨B1, 0, none⟩) 3 3), (70, vI 3), (71, vI 1), (75, vI 0), (78, vI 0), (79, .func (.func 41) #[] #[vP b153 0, vP b154 0]), (82, vP b180 1)]) (by kernel_rfl) ?_
 refine t_v (.ldn rfl rfl rfl (.at 0 rfl rfl)) ?_
 obtain ⟨⟨t181, t182⟩, h183, e⟩ := bind_of e
 try dsimp only at e
 refine t_v (.clor (vs := [.agg #[vI m1_8, vI m1_9]]) (caps := #[vP b153 0, vP b154 0]) (A := ([⟨b153, [vI i0_0, vI i0_1, vI 0, .slice a_i0_3 n_i0_3 c_i0_3, .slice a_i0_4 n_i0_4 c_i0_4], 5⟩, ⟨b154, [vI w1], 1⟩] : List Own)) (F0 := ([⟨b180, [vI 1, vI m1_8, vI m1_9, vI 0, vI 0, vI 0, vI 0], 7⟩, ⟨b179, [vI 1, vI t169, vI t170, vI t172, vI t173, vI t175, vI t176], nb179⟩, ⟨b178, [vI 1, vI t169, vI t170, vI t172, vI t173, vI t175, vI t176], 7⟩, ⟨b168, [vI 1, vI t169, vI t170, vI t172, vI t173, vI t175, vI t176], 7⟩, ⟨b167, [vI t164, vI t165, .slice (some ⟨b179, 0, none⟩) 1 (nb179 / 7), vB false], 4⟩, ⟨b163, [vI 0, vI 0, .slice (some ⟨B1, 0, none⟩) 3 3, vB false], 4⟩, ⟨b156, [vI 0, vI 0, vI 0, vI 0, vI 0, vI 0, vI 0, vI 0, vI 0, vI 0, .slice none 0 0], 11⟩, ⟨b155, [vI 1, vI 0, vI 0, vI 0, vI 0, vI 0, vI t157, vI t158, vI t160, vI t161, .slice none 0 0], 11⟩, ⟨B0, [vI 0, vI 0, .slice (some ⟨B1, 0, none⟩) 3 3, vB false], 4⟩, ⟨B1, [vI 1, vI m1_1, vI 0, vI 0, vI 0, vI 0, vI 0, vI 1, vI m1_8, vI m1_9, vI 0, vI 0, vI 0, vI 0, vI 1, vI 0, vI m1_16, vI 0, vI 0, vI 0, vI 0], 21⟩] : List Own)) rfl rfl rfl (by kernel_rfl) (by kernel_rfl) (sel_perm (is := [9, 8]) (by kernel_rfl)) (scale_Cmd_1_v1.ok hE_ h183)) ?_
 refine t_qz 2 [5, 6, 7, 11, 13, 55, 56, 57, 69, 70, 71, 75, 84, 86] (σ' := [(5, vP b155 0), (6, vP b156 0), (7, .func (.func 41) #[] #[vP b153 0, vP b154 0]), (11, vP b167 0), (13, vP b180 0), (55, .slice (some ⟨B0, 0, none⟩) 1 1), (56, vI 1), (57, vI 0), (69, .slice (some ⟨B1, 0, none⟩) 3 3), (70, vI 3), (71, vI 1), (75, vI 0), (84, .agg #[vI t181, vI t182]), (86, vP b180 1)]) (by kernel_rfl) ?_
 refine t_sti 0 (cs := [vI 1, vI t181, vI t182, vI 0, vI 0, vI 0, vI 0]) rfl rfl rfl rfl rfl rfl rfl rfl rfl ?_
 refine t_keep [5, 6, 7, 11, 13, 55, 56, 57, 69, 70, 71, 75] (σ' := [(5, vP b155 0), (6, vP b156 0), (7, .func (.func 41) #[] #[vP b153 0, vP b154 0]), (11, vP b167 0), (13, vP b180 0), (55, .slice (some ⟨B0, 0, none⟩) 1 1), (56, vI 1), (57, vI 0), (69, .slice (some ⟨B1, 0, none⟩) 3 3), (70, vI 3), (71, vI 1), (75, vI 0)]) (by kernel_rfl) ?_
 refine t_end ?_
 show W _ _ _ _ _ _ _
 refine w_reg fun all => ?_
 refine t_qz 2 [5, 6, 7, 11, 13, 55, 56, 57, 69, 70, 71, 75] (σ' := [(5, vP b155 0), (6, vP b156 0), (7, .func (.func 41) #[] #[vP b153 0, vP b154 0]), (11, vP b167 0), (13, vP b180 0), (55, .slice (some ⟨B0, 0, none⟩) 1 1), (56, vI 1), (57, vI 0), (69, .slice (some ⟨B1, 0, none⟩) 3 3), (70, vI 3), (71, vI 1), (75, vI 1)]) (by kernel_rfl) ?_
 refine t_end ?_
 show WL _ _ _ _ _ _ _ _
 refine wl_step ?_
 refine w_seq ?_
 refine w_reg fun all => ?_
 refine t_qz 1 [5, 6, 7, 11, 13, 55, 56, 57, 69, 70, 71, 75, 76] (σ' := [(5, vP b155 0), (6, vP b156 0), (7, .func (.func 41) #[] #[vP b153 0, vP b154 0]), (11, vP b167 0), (13, vP b180 0), (55, .slice (some ⟨B0, 0, none⟩) 1 1), (56, vI 1), (57, vI 0), (69, .slice (some ⟨B1, 0, none⟩) 3 3), (70, vI 3), (71, vI 1), (75, vI 1), (76, vB true)]) (by kernel_rfl) ?_
 refine t_end ?_
 show W _ _ _ _ _ _ _
 refine w_seq ?_
 refine w_cond rfl (fun _ => ?_) (fun c_ => by cases c_)
 show W _ _ _ _ _ _ _
 refine w_skip ?_
 show W _ _ _ _ _ _ _
 refine w_seq ?_
 refine w_block ?_
 refine w_seq ?_
 refine w_reg fun all => ?_
 refine t_qz 2 [5, 6, 7, 11, 13, 14, 55, 56, 57, 69, 70, 71, 75] (σ' := [(5, vP b155 0), (6, vP b156 0), (7, .func (.func 41) #[] #[vP b153 0, vP b154 0]), (11, vP b167 0), (13, vP b180 0), (14, vI 1), (55, .slice (some ⟨B0, 0, none⟩) 1 1), (56, vI 1), (57, vI 0), (69, .slice (some ⟨B1, 0, none⟩) 3 3), (70, vI 3), (71, vI 1), (75, vI 1)]) (by kernel_rfl) ?_
 refine t_end ?_
 show W _ _ _ _ _ _ _
 refine w_reg fun all => ?_
 refine t_qz 5 [5, 6, 7, 11, 13, 55, 56, 57, 69, 70, 71, 75, 78, 79, 82] (σ' := [(5, vP b155 0), (6, vP b156 0), (7, .func (.func 41) #[] #[vP b153 0, vP b154 0]), (11, vP b167 0), (13, vP b180 0), (55, .slice (some ⟨B0, 0, none⟩) 1 1), (56, vI 1), (57, vI 0), (69, .slice (some ⟨B1, 0, none⟩) 3 3), (70, vI 3), (71, vI 1), (75, vI 1), (78, vI 1), (79, .func (.func 41) #[] #[vP b153 0, vP b154 0]), (82, vP b180 3)]) (by kernel_rfl) ?_
 refine t_v (.ldn rfl rfl rfl (.at 0 rfl rfl)) ?_
 obtain ⟨⟨t184, t185⟩, h186, e⟩ := bind_of e
 try dsimp only at e
 refine t_v (.clor (vs := [.agg #[vI 0, vI 0]]) (caps := #[vP b153 0, vP b154 0]) (A := ([⟨b153, [vI i0_0, vI i0_1, vI 0, .slice a_i0_3 n_i0_3 c_i0_3, .slice a_i0_4 n_i0_4 c_i0_4], 5⟩, ⟨b154, [vI w1], 1⟩] : List Own)) (F0 := ([⟨b180, [vI 1, vI t181, vI t182, vI 0, vI 0, vI 0, vI 0], 7⟩, ⟨b179, [vI 1, vI t169, vI t170, vI t172, vI t173, vI t175, vI t176], nb179⟩, ⟨b178, [vI 1, vI t169, vI t170, vI t172, vI t173, vI t175, vI t176], 7⟩, ⟨b168, [vI 1, vI t169, vI t170, vI t172, vI t173, vI t175, vI t176], 7⟩, ⟨b167, [vI t164, vI t165, .slice (some ⟨b179, 0, none⟩) 1 (nb179 / 7), vB false], 4⟩, ⟨b163, [vI 0, vI 0, .slice (some ⟨B1, 0, none⟩) 3 3, vB false], 4⟩, ⟨b156, [vI 0, vI 0, vI 0, vI 0, vI 0, vI 0, vI 0, vI 0, vI 0, vI 0, .slice none 0 0], 11⟩, ⟨b155, [vI 1, vI 0, vI 0, vI 0, vI 0, vI 0, vI t157, vI t158, vI t160, vI t161, .slice none 0 0], 11⟩, ⟨B0, [vI 0, vI 0, .slice (some ⟨B1, 0, none⟩) 3 3, vB false], 4⟩, ⟨B1, [vI 1, vI m1_1, vI 0, vI 0, vI 0, vI 0, vI 0, vI 1, vI m1_8, vI m1_9, vI 0, vI 0, vI 0, vI 0, vI 1, vI 0, vI m1_16, vI 0, vI 0, vI 0, vI 0], 21⟩] : List Own)) rfl rfl rfl (by kernel_rfl) (by kernel_rfl) (sel_perm (is := [9, 8]) (by kernel_rfl)) (scale_Cmd_1_v1.ok hE_ h186)) ?_
 refine t_qz 2 [5, 6, 7, 11, 13, 55, 56, 57, 69, 70, 71, 75, 84, 86] (σ' := [(5, vP b155 0), (6, vP b156 0), (7, .func (.func 41) #[] #[vP b153 0, vP b154 0]), (11, vP b167 0), (13, vP b180 0), (55, .slice (some ⟨B0, 0, none⟩) 1 1), (56, vI 1), (57, vI 0), (69, .slice (some ⟨B1, 0, none⟩) 3 3), (70, vI 3), (71, vI 1), (75, vI 1), (84, .agg #[vI t184, vI t185]), (86, vP b180 3)]) (by kernel_rfl) ?_
 refine t_sti 0 (cs := [vI 1, vI t181, vI t182, vI t184, vI t185, vI 0, vI 0]) rfl rfl rfl rfl rfl rfl rfl rfl rfl ?_
 refine t_keep [5, 6, 7, 11, 13, 55, 56, 57, 69, 70, 71, 75] (σ' := [(5, vP b155 0), (6, vP b156 0), (7, .func (.func 41) #[] #[vP b153 0, vP b154 0]), (11, vP b167 0), (13, vP b180 0), (55, .slice (some ⟨B0, 0, none⟩) 1 1), (56, vI 1), (57, vI 0), (69, .slice (some ⟨B1, 0, none⟩) 3 3), (70, vI 3), (71, vI 1), (75, vI 1)]) (by kernel_rfl) ?_
 refine t_end ?_
 show W _ _ _ _ _ _ _
 refine w_reg fun all => ?_
 refine t_qz 2 [5, 6, 7, 11, 13, 55, 56, 57, 69, 70, 71, 75] (σ' := [(5, vP b155 0), (6, vP b156 0), (7, .func (.func 41) #[] #[vP b153 0, vP b154 0]), (11, vP b167 0), (13, vP b180 0), (55, .slice (some ⟨B0, 0, none⟩) 1 1), (56, vI 1), (57, vI 0), (69, .slice (some ⟨B1, 0, none⟩) 3 3), (70, vI 3), (71, vI 1), (75, vI 2)]) (by kernel_rfl) ?_
 refine t_end ?_
 show WL _ _ _ _ _ _ _ _
 refine wl_step ?_
 refine w_seq ?_
 refine w_reg fun all => ?_
 refine t_qz 1 [5, 6, 7, 11, 13, 55, 56, 57, 69, 70, 71, 75, 76] (σ' := [(5, vP b155 0), (6, vP b156 0), (7, .func (.func 41) #[] #[vP b153 0, vP b154 0]), (11, vP b167 0), (13, vP b180 0), (55, .slice (some ⟨B0, 0, none⟩) 1 1), (56, vI 1), (57, vI 0), (69, .slice (some ⟨B1, 0, none⟩) 3 3), (70, vI 3), (71, vI 1), (75, vI 2), (76, vB true)]) (by kernel_rfl) ?_
 refine t_end ?_
 show W _ _ _ _ _ _ _
 refine w_seq ?_
 refine w_cond rfl (fun _ => ?_) (fun c_ => by cases c_)
 show W _ _ _ _ _ _ _
 refine w_skip ?_
 show W _ _ _ _ _ _ _
 refine w_seq ?_
 refine w_block ?_
 refine w_seq ?_
 refine w_reg fun all => ?_
 refine t_qz 2 [5, 6, 7, 11, 13, 14, 55, 56, 57, 69, 70, 71, 75] (σ' := [(5, vP b155 0), (6, vP b156 0), (7, .func (.func 41) #[] #[vP b153 0, vP b154 0]), (11, vP b167 0), (13, vP b180 0), (14, vI 2), (55, .slice (some ⟨B0, 0, none⟩) 1 1), (56, vI 1), (57, vI 0), (69, .slice (some ⟨B1, 0, none⟩) 3 3), (70, vI 3), (71, vI 1), (75, vI 2)]) (by kernel_rfl) ?_
 refine t_end ?_
 show W _ _ _ _ _ _ _
 refine w_reg fun all => ?_
 refine t_qz 5 [5, 6, 7, 11, 13, 55, 56, 57, 69, 70, 71, 75, 78, 79, 82] (σ' := [(5, vP b155 0), (6, vP b156 0), (7, .func (.func 41) #[] #[vP b153 0, vP b154 0]), (11, vP b167 0), (13, vP b180 0), (55, .slice (some ⟨B0, 0, none⟩) 1 1), (56, vI 1), (57, vI 0), (69, .slice (some ⟨B1, 0, none⟩) 3 3), (70, vI 3), (71, vI 1), (75, vI 2), (78, vI 2), (79, .func (.func 41) #[] #[vP b153 0, vP b154 0]), (82, vP b180 5)]) (by kernel_rfl) ?_
 refine t_v (.ldn rfl rfl rfl (.at 0 rfl rfl)) ?_
 obtain ⟨⟨t187, t188⟩, h189, e⟩ := bind_of e
 try dsimp only at e
 refine t_v (.clor (vs := [.agg #[vI 0, vI 0]]) (caps := #[vP b153 0, vP b154 0]) (A := ([⟨b153, [vI i0_0, vI i0_1, vI 0, .slice a_i0_3 n_i0_3 c_i0_3, .slice a_i0_4 n_i0_4 c_i0_4], 5⟩, ⟨b154, [vI w1], 1⟩] : List Own)) (F0 := ([⟨b180, [vI 1, vI t181, vI t182, vI t184, vI t185, vI 0, vI 0], 7⟩, ⟨b179, [vI 1, vI t169, vI t170, vI t172, vI t173, vI t175, vI t176], nb179⟩, ⟨b178, [vI 1, vI t169, vI t170, vI t172, vI t173, vI t175, vI t176], 7⟩, ⟨b168, [vI 1, vI t169, vI t170, vI t172, vI t173, vI t175, vI t176], 7⟩, ⟨b167, [vI t164, vI t165, .slice (some ⟨b179, 0, none⟩) 1 (nb179 / 7), vB false], 4⟩, ⟨b163, [vI 0, vI 0, .slice (some ⟨B1, 0, none⟩) 3 3, vB false], 4⟩, ⟨b156, [vI 0, vI 0, vI 0, vI 0, vI 0, vI 0, vI 0, vI 0, vI 0, vI 0, .slice none 0 0], 11⟩, ⟨b155, [vI 1, vI 0, vI 0, vI 0, vI 0, vI 0, vI t157, vI t158, vI t160, vI t161, .slice none 0 0], 11⟩, ⟨B0, [vI 0, vI 0, .slice (some ⟨B1, 0, none⟩) 3 3, vB false], 4⟩, ⟨B1, [vI 1, vI m1_1, vI 0, vI 0, vI 0, vI 0, vI 0, vI 1, vI m1_8, vI m1_9, vI 0, vI 0, vI 0, vI 0, vI 1, vI 0, vI m1_16, vI 0, vI 0, vI 0, vI 0], 21⟩] : List Own)) rfl rfl rfl (by kernel_rfl) (by kernel_rfl) (sel_perm (is := [9, 8]) (by kernel_rfl)) (scale_Cmd_1_v1.ok hE_ h189)) ?_
 refine t_qz 2 [5, 6, 7, 11, 13, 55, 56, 57, 69, 70, 71, 75, 84, 86] (σ' := [(5, vP b155 0), (6, vP b156 0), (7, .func (.func 41) #[] #[vP b153 0, vP b154 0]), (11, vP b167 0), (13, vP b180 0), (55, .slice (some ⟨B0, 0, none⟩) 1 1), (56, vI 1), (57, vI 0), (69, .slice (some ⟨B1, 0, none⟩) 3 3), (70, vI 3), (71, vI 1), (75, vI 2), (84, .agg #[vI t187, vI t188]), (86, vP b180 5)]) (by kernel_rfl) ?_
 refine t_sti 0 (cs := [vI 1, vI t181, vI t182, vI t184, vI t185, vI t187, vI t188]) rfl rfl rfl rfl rfl rfl rfl rfl rfl ?_
 refine t_keep [5, 6, 7, 11, 13, 55, 56, 57, 69, 70, 71, 75] (σ' := [(5, vP b155 0), (6, vP b156 0), (7, .func (.func 41) #[] #[vP b153 0, vP b154 0]), (11, vP b167 0), (13, vP b180 0), (55, .slice (some ⟨B0, 0, none⟩) 1 1), (56, vI 1), (57, vI 0), (69, .slice (some ⟨B1, 0, none⟩) 3 3), (70, vI 3), (71, vI 1), (75, vI 2)]) (by kernel_rfl) ?_
 refine t_end ?_
 show W _ _ _ _ _ _ _
 refine w_reg fun all => ?_
 refine t_qz 2 [5, 6, 7, 11, 13, 55, 56, 57, 69, 70, 71, 75] (σ' := [(5, vP b155 0), (6, vP b156 0), (7, .func (.func 41) #[] #[vP b153 0, vP b154 0]), (11, vP b167 0), (13, vP b180 0), (55, .slice (some ⟨B0, 0, none⟩) 1 1), (56, vI 1), (57, vI 0), (69, .slice (some ⟨B1, 0, none⟩) 3 3), (70, vI 3), (71, vI 1), (75, vI 3)]) (by kernel_rfl) ?_
 refine t_end ?_
 show WL _ _ _ _ _ _ _ _
 refine wl_step ?_
 refine w_seq ?_
 refine w_reg fun all => ?_
 refine t_qz 1 [5, 6, 7, 11, 13, 55, 56, 57, 69, 70, 71, 75, 76] (σ' := [(5, vP b155 0), (6, vP b156 0), (7, .func (.func 41) #[] #[vP b153 0, vP b154 0]), (11, vP b167 0), (13, vP b180 0), (55, .slice (some ⟨B0, 0, none⟩) 1 1), (56, vI 1), (57, vI 0), (69, .slice (some ⟨B1, 0, none⟩) 3 3), (70, vI 3), (71, vI 1), (75, vI 3), (76, vB false)]) (by kernel_rfl) ?_
 refine t_end ?_
 show W _ _ _ _ _ _ _
 refine w_seq ?_
 refine w_cond rfl (fun c_ => by cases c_) (fun _ => ?_)
 show W _ _ _ _ _ _ _
 refine w_exit ?_
 show W _ _ _ _ _ _ _
 refine w_reg fun all => ?_
 refine t_qz 1 [5, 6, 7, 11, 13, 55, 56, 57, 69, 70, 71, 88] (σ' := [(5, vP b155 0), (6, vP b156 0), (7, .func (.func 41) #[] #[vP b153 0, vP b154 0]), (11, vP b167 0), (13, vP b180 0), (55, .slice (some ⟨B0, 0, none⟩) 1 1), (56, vI 1), (57, vI 0), (69, .slice (some ⟨B1, 0, none⟩) 3 3), (70, vI 3), (71, vI 1), (88, vP b167 2)]) (by kernel_rfl) ?_
 refine t_v (.ld1 rfl rfl rfl (.at 4 rfl rfl)) ?_
 refine t_v (.ldn rfl rfl rfl (.at 0 rfl rfl)) ?_
 refine t_a (dv_bsl (cs := [vI 1, vI t181, vI t182, vI t184, vI t185, vI t187, vI t188]) rfl rfl (by kernel_rfl)) fun b190 fb190 sb190 => ?_
 refine t_app1 (cs := [vI 1, vI t169, vI t170, vI t172, vI t173, vI t175, vI t176]) (M := nb179) (F := ([⟨b190, [vI 1, vI t181, vI t182, vI t184, vI t185, vI t187, vI t188], 7⟩, ⟨b180, [vI 1, vI t181, vI t182, vI t184, vI t185, vI t187, vI t188], 7⟩, ⟨b178, [vI 1, vI t169, vI t170, vI t172, vI t173, vI t175, vI t176], 7⟩, ⟨b168, [vI 1, vI t169, vI t170, vI t172, vI t173, vI t175, vI t176], 7⟩, ⟨b167, [vI t164, vI t165, .slice (some ⟨b179, 0, none⟩) 1 (nb179 / 7), vB false], 4⟩, ⟨b163, [vI 0, vI 0, .slice (some ⟨B1, 0, none⟩) 3 3, vB false], 4⟩, ⟨b156, [vI 0, vI 0, vI 0, vI 0, vI 0, vI 0, vI 0, vI 0, vI 0, vI 0, .slice none 0 0], 11⟩, ⟨b155, [vI 1, vI 0, vI 0, vI 0, vI 0, vI 0, vI t157, vI t158, vI t160, vI t161, .slice none 0 0], 11⟩, ⟨b154, [vI w1], 1⟩, ⟨b153, [vI i0_0, vI i0_1, vI 0, .slice a_i0_3 n_i0_3 c_i0_3, .slice a_i0_4 n_i0_4 c_i0_4], 5⟩, ⟨B0, [vI 0, vI 0, .slice (some ⟨B1, 0, none⟩) 3 3, vB false], 4⟩, ⟨B1, [vI 1, vI m1_1, vI 0, vI 0, vI 0, vI 0, vI 0, vI 1, vI m1_8, vI m1_9, vI 0, vI 0, vI 0, vI 0, vI 1, vI 0, vI m1_16, vI 0, vI 0, vI 0, vI 0], 21⟩] : List Own)) (news := [vI 1, vI t181, vI t182, vI t184, vI t185, vI t187, vI t188]) rfl rfl rfl rfl (sel_perm (is := [2]) (by kernel_rfl)) (.at 0 rfl rfl) (by kernel_rfl) rfl rfl (by decide) (by decide) rfl fun b191 nb191 => ?_
 refine t_qz 1 [5, 6, 7, 11, 55, 56, 57, 69, 70, 71, 92, 93] (σ' := [(5, vP b155 0), (6, vP b156 0), (7, .func (.func 41) #[] #[vP b153 0, vP b154 0]), (11, vP b167 0), (55, .slice (some ⟨B0, 0, none⟩) 1 1), (56, vI 1), (57, vI 0), (69, .slice (some ⟨B1, 0, none⟩) 3 3), (70, vI 3), (71, vI 1), (92, .slice (some ⟨b191, 0, none⟩) 2 (nb191 / 7)), (93, vP b167 2)]) (by kernel_rfl) ?_
 refine t_sti 5 (cs := [vI t164, vI t165, .slice (some ⟨b191, 0, none⟩) 2 (nb191 / 7), vB false]) rfl rfl rfl rfl rfl rfl rfl rfl rfl ?_
 refine t_keep [5, 6, 7, 11, 55, 56, 57, 69, 70, 71] (σ' := [(5, vP b155 0), (6, vP b156 0), (7, .func (.func 41) #[] #[vP b153 0, vP b154 0]), (11, vP b167 0), (55, .slice (some ⟨B0, 0, none⟩) 1 1), (56, vI 1), (57, vI 0), (69, .slice (some ⟨B1, 0, none⟩) 3 3), (70, vI 3), (71, vI 1)]) (by kernel_rfl) ?_
 refine t_end ?_
 show W _ _ _ _ _ _ _
 refine w_reg fun all => ?_
 refine t_qz 2 [5, 6, 7, 11, 55, 56, 57, 69, 70, 71] (σ' := [(5, vP b155 0), (6, vP b156 0), (7, .func (.func 41) #[] #[vP b153 0, vP b154 0]), (11, vP b167 0), (55, .slice (some ⟨B0, 0, none⟩) 1 1), (56, vI 1), (57, vI 0), (69, .slice (some ⟨B1, 0, none⟩) 3 3), (70, vI 3), (71, vI 2)]) (by kernel_rfl) ?_
 refine t_end ?_
 show WL _ _ _ _ _ _ _ _
 refine wl_step ?_
 refine w_seq ?_
 refine w_reg fun all => ?_
 refine t_qz 1 [5, 6, 7, 11, 55, 56, 57, 69, 70, 71, 72] (σ' := [(5, vP b155 0), (6, vP b156 0), (7, .func (.func 41) #[] #[vP b153 0, vP b154 0]), (11, vP b167 0), (55, .slice (some ⟨B0, 0, none⟩) 1 1), (56, vI 1), (57, vI 0), (69, .slice (some ⟨B1, 0, none⟩) 3 3), (70, vI 3), (71, vI 2), (72, vB true)]) (by kernel_rfl) ?_
 refine t_end ?_
 show W _ _ _ _ _ _ _
 refine w_seq ?_
 refine w_cond rfl (fun _ => ?_) (fun c_ => by cases c_)
 show W _ _ _ _ _ _ _
 refine w_skip ?_
 show W _ _ _ _ _ _ _
 refine w_seq ?_
 refine w_block ?_
 refine w_seq ?_
 refine w_reg fun all => ?_
 refine t_qz 1 [5, 6, 7, 11, 55, 56, 57, 69, 70, 71, 73] (σ' := [(5, vP b155 0), (6, vP b156 0), (7, .func (.func 41) #[] #[vP b153 0, vP b154 0]), (11, vP b167 0), (55, .slice (some ⟨B0, 0, none⟩) 1 1), (56, vI 1), (57, vI 0), (69, .slice (some ⟨B1, 0, none⟩) 3 3), (70, vI 3), (71, vI 2), (73, vP B1 14)]) (by kernel_rfl) ?_
 refine t_v (.ldn rfl rfl rfl (.at 12 rfl rfl)) ?_
 refine t_a (.new rfl rfl) fun b192 fb192 sb192 => ?_
 refine t_sti 0 (cs := [vI 1, vI 0, vI m1_16, vI 0, vI 0, vI 0, vI 0]) rfl rfl rfl rfl rfl rfl rfl rfl rfl ?_
 refine t_keep [5, 6, 7, 11, 13, 55, 56, 57, 69, 70, 71] (σ' := [(5, vP b155 0), (6, vP b156 0), (7, .func (.func 41) #[] #[vP b153 0, vP b154 0]), (11, vP b167 0), (13, vP b192 0), (55, .slice (some ⟨B0, 0, none⟩) 1 1), (56, vI 1), (57, vI 0), (69, .slice (some ⟨B1, 0, none⟩) 3 3), (70, vI 3), (71, vI 2)]) (by kernel_rfl) ?_
 refine t_end ?_
 show W _ _ _ _ _ _ _
 refine w_seq ?_
 refine w_seq ?_
 refine w_reg fun all => ?_
 refine t_qz 1 [5, 6, 7, 11, 13, 55, 56, 57, 69, 70, 71, 75] (σ' := [(5, vP b155 0), (6, vP b156 0), (7, .func (.func 41) #[] #[vP b153 0, vP b154 0]), (11, vP b167 0), (13, vP b192 0), (55, .slice (some ⟨B0, 0, none⟩) 1 1), (56, vI 1), (57, vI 0), (69, .slice (some ⟨B1, 0, none⟩) 3 3), (70, vI 3), (71, vI 2), (75, vI 0)]) (by kernel_rfl) ?_
 refine t_end ?_
 show W _ _ _ _ _ _ _
 refine w_block ?_
 refine w_lun 15 ?_
 refine wl_step ?_
 refine w_seq ?_
 refine w_reg fun all => ?_
 refine t_qz 1 [5, 6, 7, 11, 13, 55, 56, 57, 69, 70, 71, 75, 76] (σ' := [(5, vP b155 0), (6, vP b156 0), (7, .func (.func 41) #[] #[vP b153 0, vP b154 0]), (11, vP b167 0), (13, vP b192 0), (55, .slice (some ⟨B0, 0, none⟩) 1 1), (56, vI 1), (57, vI 0), (69, .slice (some ⟨B1, 0, none⟩) 3 3), (70, vI 3), (71, vI 2), (75, vI 0), (76, vB true)]) (by kernel_rfl) ?_
 refine t_end ?_
 show W _ _ _ _ _ _ _
 refine w_seq ?_
 refine w_cond rfl (fun _ => ?_) (fun c_ => by cases c_)
 show W _ _ _ _ _ _ _
 refine w_skip ?_
 show W _ _ _ _ _ _ _
 refine w_seq ?_
 refine w_block ?_
 refine w_seq ?_
 refine w_reg fun all => ?_
 refine t_qz 2 [5, 6, 7, 11, 13, 14, 55, 56, 57, 69, 70, 71, 75] (σ' := [(5, vP b155 0), (6, vP b156 0), (7, .func (.func 41) #[] #[vP b153 0, vP b154 0]), (11, vP b167 0), (13, vP b192 0), (14, vI 0), (55, .slice (some ⟨B0, 0, none⟩) 1 1), (56, vI 1), (57, vI 0), (69, .slice (some ⟨B1, 0, none⟩) 3 3), (70, vI 3), (71, vI 2), (75, vI 0)]) (by kernel_rfl) ?_
 refine t_end ?_
 show W _ _ _ _ _ _ _
 refine w_reg fun all => ?_
 refine t_qz 5 [5, 6, 7, 11, 13, 55, 56, 57, 69, 70, 71, 75, 78, 79, 82] (σ' := [(5, vP b155 0), (6, vP b156 0), (7, .func (.func 41) #[] #[vP b153 0, vP b154 0]), (11, vP b167 0), (13, vP b192 0), (55, .slice (some ⟨B0, 0, none⟩) 1 1), (56, vI 1), (57, vI 0), (69, .slice (some ⟨B1, 0, none⟩) 3 3), (70, vI 3), (71, vI 2), (75, vI 0), (78, vI 0), (79, .func (.func 41) #[] #[vP b153 0, vP b154 0]), (82, vP b192 1)]) (by kernel_rfl) ?_
 refine t_v (.ldn rfl rfl rfl (.at 0 rfl rfl)) ?_
 obtain ⟨⟨t193, t194⟩, h195, e⟩ := bind_of e
 try dsimp only at e
 refine t_v (.clor (vs := [.agg #[vI 0, vI m1_16]]) (caps := #[vP b153 0, vP b154 0]) (A := ([⟨b153, [vI i0_0, vI i0_1, vI 0, .slice a_i0_3 n_i0_3 c_i0_3, .slice a_i0_4 n_i0_4 c_i0_4], 5⟩, ⟨b154, [vI w1], 1⟩] : List Own)) (F0 := ([⟨b192, [vI 1, vI 0, vI m1_16, vI 0, vI 0, vI 0, vI 0], 7⟩, ⟨b191, [vI 1, vI t169, vI t170, vI t172, vI t173, vI t175, vI t176, vI 1, vI t181, vI t182, vI t184, vI t185, vI t187, vI t188], nb191⟩, ⟨b190, [vI 1, vI t181, vI t182, vI t184, vI t185, vI t187, vI t188], 7⟩, ⟨b180, [vI 1, vI t181, vI t182, vI t184, vI t185, vI t187, vI t188], 7⟩, ⟨b178, [vI 1, vI t169, vI t170, vI t172, vI t173, vI t175, vI t176], 7⟩, ⟨b168, [vI 1, vI t169, vI t170, vI t172, vI t173, vI t175, vI t176], 7⟩, ⟨b167, [vI t164, vI t165, .slice (some ⟨b191, 0, none⟩) 2 (nb191 / 7), vB false], 4⟩, ⟨b163, [vI 0, vI 0, .slice (some ⟨B1, 0, none⟩) 3 3, vB false], 4⟩, ⟨b156, [vI 0, vI 0, vI 0, vI 0, vI 0, vI 0, vI 0, vI 0, vI 0, vI 0, .slice none 0 0], 11⟩, ⟨b155, [vI 1, vI 0, vI 0, vI 0, vI 0, vI 0, vI t157, vI t158, vI t160, vI t161, .slice none 0 0], 11⟩, ⟨B0, [vI 0, vI 0, .slice (some ⟨B1, 0, none⟩) 3 3, vB false], 4⟩, ⟨B1, [vI 1, vI m1_1, vI 0, vI 0, vI 0, vI 0, vI 0, vI 1, vI m1_8, vI m1_9, vI 0, vI 0, vI 0, vI 0, vI 1, vI 0, vI m1_16, vI 0, vI 0, vI 0, vI 0], 21⟩] : List Own)) rfl rfl rfl (by kernel_rfl) (by kernel_rfl) (sel_perm (is := [11, 10]) (by kernel_rfl)) (scale_Cmd_1_v1.ok hE_ h195)) ?_
 refine t_qz 2 [5, 6, 7, 11, 13, 55, 56, 57, 69, 70, 71, 75, 84, 86] (σ' := [(5, vP b155 0), (6, vP b156 0), (7, .func (.func 41) #[] #[vP b153 0, vP b154 0]), (11, vP b167 0), (13, vP b192 0), (55, .slice (some ⟨B0, 0, none⟩) 1 1), (56, vI 1), (57, vI 0), (69, .slice (some ⟨B1, 0, none⟩) 3 3), (70, vI 3), (71, vI 2), (75, vI 0), (84, .agg #[vI t193, vI t194]), (86, vP b192 1)]) (by kernel_rfl) ?_
 refine t_sti 0 (cs := [vI 1, vI t193, vI t194, vI 0, vI 0, vI 0, vI 0]) rfl rfl rfl rfl rfl rfl rfl rfl rfl ?_
 refine t_keep [5, 6, 7, 11, 13, 55, 56, 57, 69, 70, 71, 75] (σ' := [(5, vP b155 0), (6, vP b156 0), (7, .func (.func 41) #[] #[vP b153 0, vP b154 0]), (11, vP b167 0), (13, vP b192 0), (55, .slice (some ⟨B0, 0, none⟩) 1 1), (56, vI 1), (57, vI 0), (69, .slice (some ⟨B1, 0, none⟩) 3 3), (70, vI 3), (71, vI 2), (75, vI 0)]) (by kernel_rfl) ?_
 refine t_end ?_
 show W _ _ _ _ _ _ _
 refine w_reg fun all => ?_
 refine t_qz 2 [5, 6, 7, 11, 13, 55, 56, 57, 69, 70, 71, 75] (σ' := [(5, vP b155 0), (6, vP b156 0), (7, .func (.func 41) #[] #[vP b153 0, vP b154 0]), (11, vP b167 0), (13, vP b192 0), (55, .slice (some ⟨B0, 0, none⟩) 1 1), (56, vI 1), (57, vI 0), (69, .slice (some ⟨B1, 0, none⟩) 3 3), (70, vI 3), (71, vI 2), (75, vI 1)]) (by kernel_rfl) ?_
 refine t_end ?_
 show WL _ _ _ _ _ _ _ _
 refine wl_step ?_
 refine w_seq ?_
 refine w_reg fun all => ?_
 refine t_qz 1 [5, 6, 7, 11, 13, 55, 56, 57, 69, 70, 71, 75, 76] (σ' := [(5, vP b155 0), (6, vP b156 0), (7, .func (.func 41) #[] #[vP b153 0, vP b154 0]), (11, vP b167 0), (13, vP b192 0), (55, .slice (some ⟨B0, 0, none⟩) 1 1), (56, vI 1), (57, vI 0), (69, .slice (some ⟨B1, 0, none⟩) 3 3), (70, vI 3), (71, vI 2), (75, vI 1), (76, vB true)]) (by kernel_rfl) ?_
 refine t_end ?_
 show W _ _ _ _ _ _ _
 refine w_seq ?_
 refine w_cond rfl (fun _ => ?_) (fun c_ => by cases c_)
 show W _ _ _ _ _ _ _
 refine w_skip ?_
 show W _ _ _ _ _ _ _
 refine w_seq ?_
 refine w_block ?_
 refine w_seq ?_
 refine w_reg fun all => ?_
 refine t_qz 2 [5, 6, 7, 11, 13, 14, 55, 56, 57, 69, 70, 71, 75] (σ' := [(5, vP b155 0), (6, vP b156 0), (7, .func (.func 41) #[] #[vP b153 0, vP b154 0]), (11, vP b167 0), (13, vP b192 0), (14, vI 1), (55, .slice (some ⟨B0, 0, none⟩) 1 1), (56, vI 1), (57, vI 0), (69, .slice (some ⟨B1, 0, none⟩) 3 3), (70, vI 3), (71, vI 2), (75, vI 1)]) (by kernel_rfl) ?_
 refine t_end ?_
 show W _ _ _ _ _ _ _
 refine w_reg fun all => ?_
 refine t_qz 5 [5, 6, 7, 11, 13, 55, 56, 57, 69, 70, 71, 75, 78, 79, 82] (σ' := [(5, vP b155 0), (6, vP b156 0), (7, .func (.func 41) #[] #[vP b153 0, vP b154 0]), (11, vP b167 0), (13, vP b192 0), (55, .slice (some ⟨B0, 0, none⟩) 1 1), (56, vI 1), (57, vI 0), (69, .slice (some ⟨B1, 0, none⟩) 3 3), (70, vI 3), (71, vI 2), (75, vI 1), (78, vI 1), (79, .func (.func 41) #[] #[vP b153 0, vP b154 0]), (82, vP b192 3)]) (by kernel_rfl) ?_
 refine t_v (.ldn rfl rfl rfl (.at 0 rfl rfl)) ?_
 obtain ⟨⟨t196, t197⟩, h198, e⟩ := bind_of e
 try dsimp only at e
 refine t_v (.clor (vs := [.agg #[vI 0, vI 0]]) (caps := #[vP b153 0, vP b154 0]) (A := ([⟨b153, [vI i0_0, vI i0_1, vI 0, .slice a_i0_3 n_i0_3 c_i0_3, .slice a_i0_4 n_i0_4 c_i0_4], 5⟩, ⟨b154, [vI w1], 1⟩] : List Own)) (F0 := ([⟨b192, [vI 1, vI t193, vI t194, vI 0, vI 0, vI 0, vI 0], 7⟩, ⟨b191, [vI 1, vI t169, vI t170, vI t172, vI t173, vI t175, vI t176, vI 1, vI t181, vI t182, vI t184, vI t185, vI t187, vI t188], nb191⟩, ⟨b190, [vI 1, vI t181, vI t182, vI t184, vI t185, vI t187, vI t188], 7⟩, ⟨b180, [vI 1, vI t181, vI t182, vI t184, vI t185, vI t187, vI t188], 7⟩, ⟨b178, [vI 1, vI t169, vI t170, vI t172, vI t173, vI t175, vI t176], 7⟩, ⟨b168, [vI 1, vI t169, vI t170, vI t172, vI t173, vI t175, vI t176], 7⟩, ⟨b167, [vI t164, vI t165, .slice (some ⟨b191, 0, none⟩) 2 (nb191 / 7), vB false], 4⟩, ⟨b163, [vI 0, vI 0, .slice (some ⟨B1, 0, none⟩) 3 3, vB false], 4⟩, ⟨b156, [vI 0, vI 0, vI 0, vI 0, vI 0, vI 0, vI 0, vI 0, vI 0, vI 0, .slice none 0 0], 11⟩, ⟨b155, [vI 1, vI 0, vI 0, vI 0, vI 0, vI 0, vI t157, vI t158, vI t160, vI t161, .slice none 0 0], 11⟩, ⟨B0, [vI 0, vI 0, .slice (some ⟨B1, 0, none⟩) 3 3, vB false], 4⟩, ⟨B1, [vI 1, vI m1_1, vI 0, vI 0, vI 0, vI 0, vI 0, vI 1, vI m1_8, vI m1_9, vI 0, vI 0, vI 0, vI 0, vI 1, vI 0, vI m1_16, vI 0, vI 0, vI 0, vI 0], 21⟩] : List Own)) rfl rfl rfl (by kernel_rfl) (by kernel_rfl) (sel_perm (is := [11, 10]) (by kernel_rfl)) (scale_Cmd_1_v1.ok hE_ h198)) ?_
 refine t_qz 2 [5, 6, 7, 11, 13, 55, 56, 57, 69, 70, 71, 75, 84, 86] (σ' := [(5, vP b155 0), (6, vP b156 0), (7, .func (.func 41) #[] #[vP b153 0, vP b154 0]), (11, vP b167 0), (13, vP b192 0), (55, .slice (some ⟨B0, 0, none⟩) 1 1), (56, vI 1), (57, vI 0), (69, .slice (some ⟨B1, 0, none⟩) 3 3), (70, vI 3), (71, vI 2), (75, vI 1), (84, .agg #[vI t196, vI t197]), (86, vP b192 3)]) (by kernel_rfl) ?_
 refine t_sti 0 (cs := [vI 1, vI t193, vI t194, vI t196, vI t197, vI 0, vI 0]) rfl rfl rfl rfl rfl rfl rfl rfl rfl ?_
 refine t_keep [5, 6, 7, 11, 13, 55, 56, 57, 69, 70, 71, 75] (σ' := [(5, vP b155 0), (6, vP b156 0), (7, .func (.func 41) #[] #[vP b153 0, vP b154 0]), (11, vP b167 0), (13, vP b192 0), (55, .slice (some ⟨B0, 0, none⟩) 1 1), (56, vI 1), (57, vI 0), (69, .slice (some ⟨B1, 0, none⟩) 3 3), (70, vI 3), (71, vI 2), (75, vI 1)]) (by kernel_rfl) ?_
 refine t_end ?_
 show W _ _ _ _ _ _ _
 refine w_reg fun all => ?_
 refine t_qz 2 [5, 6, 7, 11, 13, 55, 56, 57, 69, 70, 71, 75] (σ' := [(5, vP b155 0), (6, vP b156 0), (7, .func (.func 41) #[] #[vP b153 0, vP b154 0]), (11, vP b167 0), (13, vP b192 0), (55, .slice (some ⟨B0, 0, none⟩) 1 1), (56, vI 1), (57, vI 0), (69, .slice (some ⟨B1, 0, none⟩) 3 3), (70, vI 3), (71, vI 2), (75, vI 2)]) (by kernel_rfl) ?_
 refine t_end ?_
 show WL _ _ _ _ _ _ _ _
 refine wl_step ?_
 refine w_seq ?_
 refine w_reg fun all => ?_
 refine t_qz 1 [5, 6, 7, 11, 13, 55, 56, 57, 69, 70, 71, 75, 76] (σ' := [(5, vP b155 0), (6, vP b156 0), (7, .func (.func 41) #[] #[vP b153 0, vP b154 0]), (11, vP b167 0), (13, vP b192 0), (55, .slice (some ⟨B0, 0, none⟩) 1 1), (56, vI 1), (57, vI 0), (69, .slice (some ⟨B1, 0, none⟩) 3 3), (70, vI 3), (71, vI 2), (75, vI 2), (76, vB true)]) (by kernel_rfl) ?_
 refine t_end ?_
 show W _ _ _ _ _ _ _
 refine w_seq ?_
 refine w_cond rfl (fun _ => ?_) (fun c_ => by cases c_)
 show W _ _ _ _ _ _ _
 refine w_skip ?_
 show W _ _ _ _ _ _ _
 refine w_seq ?_
 refine w_block ?_
 refine w_seq ?_
 refine w_reg fun all => ?_
 refine t_qz 2 [5, 6, 7, 11, 13, 14, 55, 56, 57, 69, 70, 71, 75] (σ' := [(5, vP b155 0), (6, vP b156 0), (7, .func (.func 41) #[] #[vP b153 0, vP b154 0]), (11, vP b167 0), (13, vP b192 0), (14, vI 2), (55, .slice (some ⟨B0, 0, none⟩) 1 1), (56, vI 1), (57, vI 0), (69, .slice (some ⟨B1, 0, none⟩) 3 3), (70, vI 3), (71, vI 2), (75, vI 2)]) (by kernel_rfl) ?_
 refine t_end ?_
 show W _ _ _ _ _ _ _
 refine w_reg fun all => ?_
 refine t_qz 5 [5, 6, 7, 11, 13, 55, 56, 57, 69, 70, 71, 75, 78, 79, 82] (σ' := [(5, vP b155 0), (6, vP b156 0), (7, .func (.func 41) #[] #[vP b153 0, vP b154 0]), (11, vP b167 0), (13, vP b192 0), (55, .slice (some ⟨B0, 0, none⟩) 1 1), (56, vI 1), (57, vI 0), (69, .slice (some ⟨B1, 0, none⟩) 3 3), (70, vI 3), (71, vI 2), (75, vI 2), (78, vI 2), (79, .func (.func 41) #[] #[vP b153 0, vP b154 0]), (82, vP b192 5)]) (by kernel_rfl) ?_
 refine t_v (.ldn rfl rfl rfl (.at 0 rfl rfl)) ?_
 obtain ⟨⟨t199, t200⟩, h201, e⟩ := bind_of e
 try dsimp only at e
 refine t_v (.clor (vs := [.agg #[vI 0, vI 0]]) (caps := #[vP b153 0, vP b154 0]) (A := ([⟨b153, [vI i0_0, vI i0_1, vI 0, .slice a_i0_3 n_i0_3 c_i0_3, .slice a_i0_4 n_i0_4 c_i0_4], 5⟩, ⟨b154, [vI w1], 1⟩] : List Own)) (F0 := ([⟨b192, [vI 1, vI t193, vI t194, vI t196, vI t197, vI 0, vI 0], 7⟩, ⟨b191, [vI 1, vI t169, vI t170, vI t172, vI t173, vI t175, vI t176, vI 1, vI t181, vI t182, vI t184, vI t185, vI t187, vI t188], nb191⟩, ⟨b190, [vI 1, vI t181, vI t182, vI t184, vI t185, vI t187, vI t188], 7⟩, ⟨b180, [vI 1, vI t181, vI t182, vI t184, vI t185, vI t187, vI t188], 7⟩, ⟨b178, [vI 1, vI t169, vI t170, vI t172, vI t173, vI t175, vI t176], 7⟩, ⟨b168, [vI 1, vI t169, vI t170, vI t172, vI t173, vI t175, vI t176], 7⟩, ⟨b167, [vI t164, vI t165, .slice (some ⟨b191, 0, none⟩) 2 (nb191 / 7), vB false], 4⟩, ⟨b163, [vI 0, vI 0, .slice (some ⟨B1, 0, none⟩) 3 3, vB false], 4⟩, ⟨b156, [vI 0, vI 0, vI 0, vI 0, vI 0, vI 0, vI 0, vI 0, vI 0, vI 0, .slice none 0 0], 11⟩, ⟨b155, [vI 1, vI 0, vI 0, vI 0, vI 0, vI 0, vI t157, vI t158, vI t160, vI t161, .slice none 0 0], 11⟩, ⟨B0, [vI 0, vI 0, .slice (some ⟨B1, 0, none⟩) 3 3, vB false], 4⟩, ⟨B1, [vI 1, vI m1_1, vI 0, vI 0, vI 0, vI 0, vI 0, vI 1, vI m1_8, vI m1_9, vI 0, vI 0, vI 0, vI 0, vI 1, vI 0, vI m1_16, vI 0, vI 0, vI 0, vI 0], 21⟩] : List Own)) rfl rfl rfl (by kernel_rfl) (by kernel_rfl) (sel_perm (is := [11, 10]) (by kernel_rfl)) (scale_Cmd_1_v1.ok hE_ h201)) ?_
 refine t_qz 2 [5, 6, 7, 11, 13, 55, 56, 57, 69, 70, 71, 75, 84, 86] (σ' := [(5, vP b155 0), (6, vP b156 0), (7, .func (.func 41) #[] #[vP b153 0, vP b154 0]), (11, vP b167 0), (13, vP b192 0), (55, .slice (some ⟨B0, 0, none⟩) 1 1), (56, vI 1), (57, vI 0), (69, .slice (some ⟨B1, 0, none⟩) 3 3), (70, vI 3), (71, vI 2), (75, vI 2), (84, .agg #[vI t199, vI t200]), (86, vP b192 5)]) (by kernel_rfl) ?_
 refine t_sti 0 (cs := [vI 1, vI t193, vI t194, vI t196, vI t197, vI t199, vI t200]) rfl rfl rfl rfl rfl rfl rfl rfl rfl ?_
 refine t_keep [5, 6, 7, 11, 13, 55, 56, 57, 69, 70, 71, 75] (σ' := [(5, vP b155 0), (6, vP b156 0), (7, .func (.func 41) #[] #[vP b153 0, vP b154 0]), (11, vP b167 0), (13, vP b192 0), (55, .slice (some ⟨B0, 0, none⟩) 1 1), (56, vI 1), (57, vI 0), (69, .slice (some ⟨B1, 0, none⟩) 3 3), (70, vI 3), (71, vI 2), (75, vI 2)]) (by kernel_rfl) ?_
 refine t_end ?_
 show W _ _ _ _ _ _ _
 refine w_reg fun all => ?_
 refine t_qz 2 [5, 6, 7, 11, 13, 55, 56, 57, 69, 70, 71, 75] (σ' := [(5, vP b155 0), (6, vP b156 0), (7, .func (.func 41) #[] #[vP b153 0, vP b154 0]), (11, vP b167 0), (13, vP b192 0), (55, .slice (some ⟨B0, 0, none⟩) 1 1), (56, vI 1), (57, vI 0), (69, .slice (some ⟨B1, 0, none⟩) 3 3), (70, vI 3), (71, vI 2), (75, vI 3)]) (by kernel_rfl) ?_
 refine t_end ?_
 show WL _ _ _ _ _ _ _ _
 refine wl_step ?_
 refine w_seq ?_
 refine w_reg fun all => ?_
 refine t_qz 1 [5, 6, 7, 11, 13, 55, 56, 57, 69, 70, 71, 75, 76] (σ' := [(5, vP b155 0), (6, vP b156 0), (7, .func (.func 41) #[] #[vP b153 0, vP b154 0]), (11, vP b167 0), (13, vP b192 0), (55, .slice (some ⟨B0, 0, none⟩) 1 1), (56, vI 1), (57, vI 0), (69, .slice (some ⟨B1, 0, none⟩) 3 3), (70, vI 3), (71, vI 2), (75, vI 3), (76, vB false)]) (by kernel_rfl) ?_
 refine t_end ?_
 show W _ _ _ _ _ _ _
 refine w_seq ?_
 refine w_cond rfl (fun c_ => by cases c_) (fun _ => ?_)
 show W _ _ _ _ _ _ _
 refine w_exit ?_
 show W _ _ _ _ _ _ _
 refine w_reg fun all => ?_
 refine t_qz 1 [5, 6, 7, 11, 13, 55, 56, 57, 69, 70, 71, 88] (σ' := [(5, vP b155 0), (6, vP b156 0), (7, .func (.func 41) #[] #[vP b153 0, vP b154 0]), (11, vP b167 0), (13, vP b192 0), (55, .slice (some ⟨B0, 0, none⟩) 1 1), (56, vI 1), (57, vI 0), (69, .slice (some ⟨B1, 0, none⟩) 3 3), (70, vI 3), (71, vI 2), (88, vP b167 2)]) (by kernel_rfl) ?_
 refine t_v (.ld1 rfl rfl rfl (.at 6 rfl rfl)) ?_
 refine t_v (.ldn rfl rfl rfl (.at 0 rfl rfl)) ?_
 refine t_a (dv_bsl (cs := [vI 1, vI t193, vI t194, vI t196, vI t197, vI t199, vI t200]) rfl rfl (by kernel_rfl)) fun b202 fb202 sb202 => ?_
 refine t_app1 (cs := [vI 1, vI t169, vI t170, vI t172, vI t173, vI t175, vI t176, vI 1, vI t181, vI t182, vI t184, vI t185, vI t187, vI t188]) (M := nb191) (F := ([⟨b202, [vI 1, vI t193, vI t194, vI t196, vI t197, vI t199, vI t200], 7⟩, ⟨b192, [vI 1, vI t193, vI t194, vI t196, vI t197, vI t199, vI t200], 7⟩, ⟨b190, [vI 1, vI t181, vI t182, vI t184, vI t185, vI t187, vI t188], 7⟩, ⟨b180, [vI 1, vI t181, vI t182, vI t184, vI t185, vI t187, vI t188], 7⟩, ⟨b178, [vI 1, vI t169, vI t170, vI t172, vI t173, vI t175, vI t176], 7⟩, ⟨b168, [vI 1, vI t169, vI t170, vI t172, vI t173, vI t175, vI t176], 7⟩, ⟨b167, [vI t164, vI t165, .slice (some ⟨b191, 0, none⟩) 2 (nb191 / 7), vB false], 4⟩, ⟨b163, [vI 0, vI 0, .slice (some ⟨B1, 0, none⟩) 3 3, vB false], 4⟩, ⟨b156, [vI 0, vI 0, vI 0, vI 0, vI 0, vI 0, vI 0, vI 0, vI 0, vI 0, .slice none 0 0], 11⟩, ⟨b155, [vI 1, vI 0, vI 0, vI 0, vI 0, vI 0, vI t157, vI t158, vI t160, vI t161, .slice none 0 0], 11⟩, ⟨b154, [vI w1], 1⟩, ⟨b153, [vI i0_0, vI i0_1, vI 0, .slice a_i0_3 n_i0_3 c_i0_3, .slice a_i0_4 n_i0_4 c_i0_4], 5⟩, ⟨B0, [vI 0, vI 0, .slice (some ⟨B1, 0, none⟩) 3 3, vB false], 4⟩, ⟨B1, [vI 1, vI m1_1, vI 0, vI 0, vI 0, vI 0, vI 0, vI 1, vI m1_8, vI m1_9, vI 0, vI 0, vI 0, vI 0, vI 1, vI 0, vI m1_16, vI 0, vI 0, vI 0, vI 0], 21⟩] : List Own)) (news := [vI 1, vI t193, vI t194, vI t196, vI t197, vI t199, vI t200]) rfl rfl rfl rfl (sel_perm (is := [2]) (by kernel_rfl)) (.at 0 rfl rfl) (by kernel_rfl) rfl rfl (by decide) (by decide) rfl fun b203 nb203 => ?_
 refine t_qz 1 [5, 6, 7, 11, 55, 56, 57, 69, 70, 71, 92, 93] (σ' := [(5, vP b155 0), (6, vP b156 0), (7, .func (.func 41) #[] #[vP b153 0, vP b154 0]), (11, vP b167 0), (55, .slice (some ⟨B0, 0, none⟩) 1 1), (56, vI 1), (57, vI 0), (69, .slice (some ⟨B1, 0, none⟩) 3 3), (70, vI 3), (71, vI 2), (92, .slice (some ⟨b203, 0, none⟩) 3 (nb203 / 7)), (93, vP b167 2)]) (by kernel_rfl) ?_
 refine t_sti 7 (cs := [vI t164, vI t165, .slice (some ⟨b203, 0, none⟩) 3 (nb203 / 7), vB false]) rfl rfl rfl rfl rfl rfl rfl rfl rfl ?_
 refine t_keep [5, 6, 7, 11, 55, 56, 57, 69, 70, 71] (σ' := [(5, vP b155 0), (6, vP b156 0), (7, .func (.func 41) #[] #[vP b153 0, vP b154 0]), (11, vP b167 0), (55, .slice (some ⟨B0, 0, none⟩) 1 1), (56, vI 1), (57, vI 0), (69, .slice (some ⟨B1, 0, none⟩) 3 3), (70, vI 3), (71, vI 2)]) (by kernel_rfl) ?_
 refine t_end ?_
 show W _ _ _ _ _ _ _
 refine w_reg fun all => ?_
 refine t_qz 2 [5, 6, 7, 11, 55, 56, 57, 69, 70, 71] (σ' := [(5, vP b155 0), (6, vP b156 0), (7, .func (.func 41) #[] #[vP b153 0, vP b154 0]), (11, vP b167 0), (55, .slice (some ⟨B0, 0, none⟩) 1 1), (56, vI 1), (57, vI 0), (69, .slice (some ⟨B1, 0, none⟩) 3 3), (70, vI 3), (71, vI 3)]) (by kernel_rfl) ?_
 refine t_end ?_
 show WL _ _ _ _ _ _ _ _
 refine wl_step ?_
 refine w_seq ?_
 refine w_reg fun all => ?_
 refine t_qz 1 [5, 6, 7, 11, 55, 56, 57, 69, 70, 71, 72] (σ' := [(5, vP b155 0), (6, vP b156 0), (7, .func (.func 41) #[] #[vP b153 0, vP b154 0]), (11, vP b167 0), (55, .slice (some ⟨B0, 0, none⟩) 1 1), (56, vI 1), (57, vI 0), (69, .slice (some ⟨B1, 0, none⟩) 3 3), (70, vI 3), (71, vI 3), (72, vB false)]) (by kernel_rfl) ?_
 refine t_end ?_
 show W _ _ _ _ _ _ _
 refine w_seq ?_
 refine w_cond rfl (fun c_ => by cases c_) (fun _ => ?_)
 show W _ _ _ _ _ _ _
 refine w_exit ?_
 show W _ _ _ _ _ _ _
 refine w_reg fun all => ?_
 refine t_qz 1 [5, 6, 7, 11, 55, 56, 57, 95] (σ' := [(5, vP b155 0), (6, vP b156 0), (7, .func (.func 41) #[] #[vP b153 0, vP b154 0]), (11, vP b167 0), (55, .slice (some ⟨B0, 0, none⟩) 1 1), (56, vI 1), (57, vI 0), (95, vP b155 10)]) (by kernel_rfl) ?_
 refine t_v (.ld1 rfl rfl rfl (.at 10 rfl rfl)) ?_
 refine t_v (.ldn rfl rfl rfl (.at 7 rfl rfl)) ?_
 refine t_a (dv_bsl (cs := [vI t164, vI t165, .slice (some ⟨b203, 0, none⟩) 3 (nb203 / 7), vB false]) rfl rfl (by kernel_rfl)) fun b204 fb204 sb204 => ?_
 refine t_app0 (news := [vI t164, vI t165, .slice (some ⟨b203, 0, none⟩) 3 (nb203 / 7), vB false]) rfl rfl rfl rfl (.at 0 rfl rfl) (by decide) (by decide) (by decide) rfl fun b205 nb205 fb205 sb205 => ?_
 refine t_qz 1 [5, 6, 7, 55, 56, 57, 99, 100] (σ' := [(5, vP b155 0), (6, vP b156 0), (7, .func (.func 41) #[] #[vP b153 0, vP b154 0]), (55, .slice (some ⟨B0, 0, none⟩) 1 1), (56, vI 1), (57, vI 0), (99, .slice (some ⟨b205, 0, none⟩) 1 (nb205 / 4)), (100, vP b155 10)]) (by kernel_rfl) ?_
 refine t_sti 12 (cs := [vI 1, vI 0, vI 0, vI 0, vI 0, vI 0, vI t157, vI t158, vI t160, vI t161, .slice (some ⟨b205, 0, none⟩) 1 (nb205 / 4)]) rfl rfl rfl rfl rfl rfl rfl rfl rfl ?_
 refine t_keep [5, 6, 7, 55, 56, 57] (σ' := [(5, vP b155 0), (6, vP b156 0), (7, .func (.func 41) #[] #[vP b153 0, vP b154 0]), (55, .slice (some ⟨B0, 0, none⟩) 1 1), (56, vI 1), (57, vI 0)]) (by kernel_rfl) ?_
 refine t_end ?_
 show W _ _ _ _ _ _ _
 refine w_reg fun all => ?_
 refine t_qz 2 [5, 6, 7, 55, 56, 57] (σ' := [(5, vP b155 0), (6, vP b156 0), (7, .func (.func 41) #[] #[vP b153 0, vP b154 0]), (55, .slice (some ⟨B0, 0, none⟩) 1 1), (56, vI 1), (57, vI 1)]) (by kernel_rfl) ?_
 refine t_end ?_
 show WL _ _ _ _ _ _ _ _
 refine wl_step ?_
 refine w_seq ?_
 refine w_reg fun all => ?_
 refine t_qz 1 [5, 6, 7, 55, 56, 57, 58] (σ' := [(5, vP b155 0), (6, vP b156 0), (7, .func (.func 41) #[] #[vP b153 0, vP b154 0]), (55, .slice (some ⟨B0, 0, none⟩) 1 1), (56, vI 1), (57, vI 1), (58, vB false)]) (by kernel_rfl) ?_
 refine t_end ?_
 show W _ _ _ _ _ _ _
 refine w_seq ?_
 refine w_cond rfl (fun c_ => by cases c_) (fun _ => ?_)
 show W _ _ _ _ _ _ _
 refine w_exit ?_
 show W _ _ _ _ _ _ _
 refine w_seq ?_
 refine w_reg fun all => ?_
 refine t_v (.ldn rfl rfl rfl (.at 12 rfl rfl)) ?_
 refine t_sti 11 (cs := [vI 1, vI 0, vI 0, vI 0, vI 0, vI 0, vI t157, vI t158, vI t160, vI t161, .slice (some ⟨b205, 0, none⟩) 1 (nb205 / 4)]) rfl rfl rfl rfl rfl rfl rfl rfl rfl ?_
 refine t_keep [6] (σ' := [(6, vP b156 0)]) (by kernel_rfl) ?_
 refine t_end ?_
 show W _ _ _ _ _ _ _
 refine w_ret ?_
 simp only [Option.some.injEq, Prod.mk.injEq] at e
 obtain ⟨rfl, rfl, rfl, rfl, rfl, rfl, rfl, rfl, rfl, rfl, rfl, rfl, rfl, rfl, rfl, rfl, rfl, rfl, rfl, rfl, rfl, rfl, rfl, rfl⟩ := e
 exact ⟨[.agg #[vI 1, vI 0, vI 0, vI 0, vI 0, vI 0, vI t157, vI t158, vI t160, vI t161, .slice (some ⟨b205, 0, none⟩) 1 (nb205 / 4)]], ([⟨b205, [vI t164, vI t165, .slice (some ⟨b203, 0, none⟩) 3 (nb203 / 7), vB false], nb205⟩, ⟨b203, [vI 1, vI t169, vI t170, vI t172, vI t173, vI t175, vI t176, vI 1, vI t181, vI t182, vI t184, vI t185, vI t187, vI t188, vI 1, vI t193, vI t194, vI t196, vI t197, vI t199, vI t200], nb203⟩, ⟨B0, [vI 0, vI 0, .slice (some ⟨B1, 0, none⟩) 3 3, vB false], 4⟩, ⟨B1, [vI 1, vI m1_1, vI 0, vI 0, vI 0, vI 0, vI 0, vI 1, vI m1_8, vI m1_9, vI 0, vI 0, vI 0, vI 0, vI 1, vI 0, vI m1_16, vI 0, vI 0, vI 0, vI 0], 21⟩] : List Own), S, ⟨⟨_, _, _, rfl, .at 11 rfl rfl, rfl⟩, trivial⟩, VS.sel [0, 1, 13, 13] (by kernel_rfl), b205, nb205, b203, nb203, rfl, rfl, rfl⟩

/-- flatten.Count -/
def c43 : C :=
  (.seq (.reg [oq 2 (.box (.tmp 0)),
     oq 3 (.box (.tmp 1)),
     oq 4 (.mv (.const (vI 0)))])
  (.seq (.reg [oq 5 (.mv (.const (vI 0)))])
  (.seq (.seq (.reg [oq 7 (.pad 0 (.tmp 3)),
      oq 8 (.ld none (.tmp 7))])
   (.block 0 (.seq (.reg [oq 10 (.bin .eql (.tmp 8) (.const (vI 1))),
       oq 9 (.mv (.tmp 10))])
    (.cond (.tmp 9)
     .skip
     (.seq (.reg [oq 12 (.bin .eql (.tmp 8) (.const (vI 2))),
         oq 11 (.mv (.tmp 12))])
      (.cond (.tmp 11)
       (.reg [oq 13 (.ld (some 2) (.tmp 2)),
          oq 14 (.pad 1 (.tmp 3)),
          oq 15 (.ixa 2 3 (.tmp 14) (.const (vI 0))),
          oq 16 (.ld (some 2) (.tmp 15)),
          oq 17 (.pad 1 (.tmp 3)),
          oq 18 (.ixa 2 3 (.tmp 17) (.const (vI 1))),
          oq 19 (.ld (some 2) (.tmp 18)),
          oq 20 (.call 55 [(.tmp 13), (.tmp 16), (.tmp 19)]),
          oq 5 (.mv (.tmp 20))])
       (.seq (.reg [oq 22 (.bin .eql (.tmp 8) (.const (vI 3))),
           oq 21 (.mv (.tmp 22))])
        (.cond (.tmp 21)
         (.drw [oq 23 (.ld (some 2) (.tmp 2)),
            oq 24 (.pad 1 (.tmp 3)),
            oq 25 (.ixa 2 3 (.tmp 24) (.const (vI 0))),
            oq 26 (.ld (some 2) (.tmp 25)),
            oq 27 (.pad 1 (.tmp 3)),
            oq 28 (.ixa 2 3 (.tmp 27) (.const (vI 1))),
            oq 29 (.ld (some 2) (.tmp 28)),
            oq 30 (.call 55 [(.tmp 23), (.tmp 26), (.tmp 29)]),
            oq 31 (.pad 1 (.tmp 3)),
            oq 32 (.ixa 2 3 (.tmp 31) (.const (vI 0))),
            oq 33 (.ld (some 2) (.tmp 32)),
            oq 34 (.pad 1 (.tmp 3)),
            oq 35 (.ixa 2 3 (.tmp 34) (.const (vI 1))),
            oq 36 (.ld (some 2) (.tmp 35)),
            oq 37 (.pad 1 (.tmp 3)),
            oq 38 (.ixa 2 3 (.tmp 37) (.const (vI 2))),
            oq 39 (.ld (some 2) (.tmp 38)),
            oq 40 (.call 55 [(.tmp 33), (.tmp 36), (.tmp 39)]),
            oq 41 (.mm true [(.tmp 30), (.tmp 40)]),
            oq 42 (.bin .mul (.const (vI 3)) (.tmp 41)),
            oq 5 (.mv (.tmp 42))] [[], [], [1], [2], [], [4], [5], [0, 3, 6], [], [8], [9], [], [11], [12], [], [14], [15], [10, 13, 16, 7], [7, 17], [18], [19, 17, 0, 1, 2, 3, 4, 5, 6, 7, 8, 9, 10, 11, 12, 13, 14, 15, 16, 17, 18, 19]])
         (.seq (.reg [oq 4 (.mv (.const (vI 0)))])
          .ret)))))))))
  (.seq (.reg [oq 6 (.mv (.const (vI 1)))])
  (.seq (.block 1 (.loop (.seq (.seq (.reg [oq 43 (.mv (.tmp 5)),
         oq 44 (.mv (.tmp 6)),
         oq 45 (.bin .mul (.const (vI 32)) (.tmp 44)),
         oq 46 (.mv (.tmp 6)),
         oq 47 (.bin .mul (.tmp 45) (.tmp 46)),
         oq 48 (.bin .gtr (.tmp 43) (.tmp 47))])
      (.cond (.tmp 48)
       .skip
       (.exit 1)))
     (.block 2 (.reg [oq 49 (.mv (.tmp 6)),
        oq 50 (.bin .mul (.tmp 49) (.const (vI 2))),
        oq 6 (.mv (.tmp 50))])))))
  (.seq (.reg [oq 51 (.mv (.tmp 6)),
     oq 4 (.mv (.tmp 51))])
  .ret))))))
def flatten_Count_v1.f (a0_0 : Int) (a0_1 : Int) (s1_1 : Int) (s1_2 : Int) (s1_3 : Int) (s1_4 : Int) (s1_5 : Int) (s1_6 : Int) : Option (Unit) := some ()
theorem flatten_Count_v1.ok {S : Seal} {a0_0 : Int} {a0_1 : Int} {s1_1 : Int} {s1_2 : Int} {s1_3 : Int} {s1_4 : Int} {s1_5 : Int} {s1_6 : Int} {A_ : Int → Addr} (hE_ : EO gsE S A_ 157) (e : flatten_Count_v1.f a0_0 a0_1 s1_1 s1_2 s1_3 s1_4 s1_5 s1_6 = some ()) :
    Cal Tryd.prog 43 [.agg #[vI a0_0, vI a0_1], .agg #[vI 1, vI s1_1, vI s1_2, vI s1_3, vI s1_4, vI s1_5, vI s1_6]] [] S fun v H' S' => v = vI 1 ∧ H' = [] ∧ S' = S := by
 unfold flatten_Count_v1.f at e
 refine cal_of (c := c43) (N := 52) Tryd.func43 rfl rfl (by kernel_rfl) (rs := [.t 4]) (by kernel_rfl) (Nat.le_of_ble_eq_true rfl) ?_
 unfold c43
 refine w_seq ?_
 refine w_reg fun all => ?_
 refine t_a (.box rfl rfl rfl) fun b237 fb237 sb237 => ?_
 refine t_a (.box rfl rfl rfl) fun b238 fb238 sb238 => ?_
 refine t_qz 1 [2, 3] (σ' := [(2, vP b237 0), (3, vP b238 0)]) (by kernel_rfl) ?_
 refine t_end ?_
 show W _ _ _ _ _ _ _
 refine w_seq ?_
 refine w_reg fun all => ?_
 refine t_qz 1 [2, 3, 5] (σ' := [(2, vP b237 0), (3, vP b238 0), (5, vI 0)]) (by kernel_rfl) ?_
 refine t_end ?_
 show W _ _ _ _ _ _ _
 refine w_seq ?_
 refine w_seq ?_
 refine w_reg fun all => ?_
 refine t_qz 1 [2, 3, 5, 7] (σ' := [(2, vP b237 0), (3, vP b238 0), (5, vI 0), (7, vP b238 0)]) (by kernel_rfl) ?_
 refine t_v (.ld1 rfl rfl rfl (.at 0 rfl rfl)) ?_
 refine t_keep [2, 3, 5, 8] (σ' := [(2, vP b237 0), (3, vP b238 0), (5, vI 0), (8, vI 1)]) (by kernel_rfl) ?_
 refine t_end ?_
 show W _ _ _ _ _ _ _
 refine w_block ?_
 refine w_seq ?_
 refine w_reg fun all => ?_
 refine t_qz 2 [2, 3, 5, 8, 9] (σ' := [(2, vP b237 0), (3, vP b238 0), (5, vI 0), (8, vI 1), (9, vB true)]) (by kernel_rfl) ?_
 refine t_end ?_
 show W _ _ _ _ _ _ _
 refine w_cond rfl (fun _ => ?_) (fun c_ => by cases c_)
 show W _ _ _ _ _ _ _
 refine w_skip ?_
 show W _ _ _ _ _ _ _
 refine w_seq ?_
 refine w_reg fun all => ?_
 refine t_qz 1 [5, 6] (σ' := [(5, vI 0), (6, vI 1)]) (by kernel_rfl) ?_
 refine t_end ?_
 show W _ _ _ _ _ _ _
 refine w_seq ?_
 refine w_block ?_
 refine w_lun 15 ?_
 refine wl_step ?_
 refine w_seq ?_
 refine w_seq ?_
 refine w_reg fun all => ?_
 refine t_qz 6 [5, 6, 48] (σ' := [(5, vI 0), (6, vI 1), (48, vB false)]) (by kernel_rfl) ?_
 refine t_end ?_
 show W _ _ _ _ _ _ _
 refine w_cond rfl (fun c_ => by cases c_) (fun _ => ?_)
 show W _ _ _ _ _ _ _
 refine w_exit ?_
 show W _ _ _ _ _ _ _
 refine w_seq ?_
 refine w_reg fun all => ?_
 refine t_qz 2 [4] (σ' := [(4, vI 1)]) (by kernel_rfl) ?_
 refine t_end ?_
 show W _ _ _ _ _ _ _
 refine w_ret ?_
 exact ⟨[vI 1], [], S, ⟨rfl, trivial⟩, VS.none, rfl, rfl, rfl⟩

/-- flatten.points -/
def c44 : C :=
  (.seq (.reg [oq 1 (.box (.tmp 0)),
     oq 2 (.mv (.const (.slice none 0 0)))])
  (.seq (.seq (.reg [oq 3 (.pad 0 (.tmp 1)),
      oq 4 (.ld none (.tmp 3)),
      oq 5 (.bin .lss (.tmp 4) (.const (vI 1))),
      oq 6 (.mv (.tmp 5)),
      ⟨(some 7), .pad 0 (.tmp 1), (some (6, false))⟩,
      ⟨(some 8), .ld none (.tmp 7), (some (6, false))⟩,
      ⟨(some 9), .bin .gtr (.tmp 8) (.const (vI 3)), (some (6, false))⟩,
      oq 10 (.pk (.tmp 6) (.const (vB true)) (.tmp 9))])
   (.cond (.tmp 10)
    (.seq (.reg [oq 2 (.mv (.const (.slice none 0 0)))])
     .ret)
    .skip))
  (.seq (.reg [oq 11 (.pad 1 (.tmp 1)),
     oq 12 (.pad 0 (.tmp 1)),
     oq 13 (.ld none (.tmp 12)),
     oq 14 (.sla 2 3 (.tmp 11) none (some (.tmp 13))),
     oq 2 (.mv (.tmp 14))])
  .ret)))
def flatten_points_v1.f (s0_1 : Int) (s0_2 : Int) (s0_3 : Int) (s0_4 : Int) (s0_5 : Int) (s0_6 : Int) : Option (Int × Int × Int × Int × Int × Int) := some (s0_1, s0_2, s0_3, s0_4, s0_5, s0_6)
theorem flatten_points_v1.ok {S : Seal} {s0_1 : Int} {s0_2 : Int} {s0_3 : Int} {s0_4 : Int} {s0_5 : Int} {s0_6 : Int} {r0_ : Int} {r1_ : Int} {r2_ : Int} {r3_ : Int} {r4_ : Int} {r5_ : Int}{A_ : Int → Addr} (hE_ : EO gsE S A_ 157) (e : flatten_points_v1.f s0_1 s0_2 s0_3 s0_4 s0_5 s0_6 = some (r0_, r1_, r2_, r3_, r4_, r5_)) :
    Cal Tryd.prog 44 [.agg #[vI 1, vI s0_1, vI s0_2, vI s0_3, vI s0_4, vI s0_5, vI s0_6]] [] S fun v H' S' => ∃ (N0_ : Nat) , v = .slice (some ⟨N0_, 1, none⟩) 1 3 ∧ H' = ([⟨N0_, [vI 1, vI r0_, vI r1_, vI r2_, vI r3_, vI r4_, vI r5_], 7⟩] : List Own) ∧ S' = S := by
 unfold flatten_points_v1.f at e
 refine cal_of (c := c44) (N := 15) Tryd.func44 rfl rfl (by kernel_rfl) (rs := [.t 2]) (by kernel_rfl) (Nat.le_of_ble_eq_true rfl) ?_
 unfold c44
 refine w_seq ?_
 refine w_reg fun all => ?_
 refine t_a (.box rfl rfl rfl) fun b240 fb240 sb240 => ?_
 refine t_qz 1 [1] (σ' := [(1, vP b240 0)]) (by kernel_rfl) ?_
 refine t_end ?_
 show W _ _ _ _ _ _ _
 refine w_seq ?_
 refine w_seq ?_
 refine w_reg fun all => ?_
 refine t_qz 1 [1, 3] (σ' := [(1, vP b240 0), (3, vP b240 0)]) (by kernel_rfl) ?_
 refine t_v (.ld1 rfl rfl rfl (.at 0 rfl rfl)) ?_
 refine t_qz 3 [1, 6, 7] (σ' := [(1, vP b240 0), (6, vB false), (7, vP b240 0)]) (by kernel_rfl) ?_
 refine t_v (.ld1 rfl rfl rfl (.at 0 rfl rfl)) ?_
 refine t_qz 2 [1, 10] (σ' := [(1, vP b240 0), (10, vB false)]) (by kernel_rfl) ?_
 refine t_end ?_
 show W _ _ _ _ _ _ _
 refine w_cond rfl (fun c_ => by cases c_) (fun _ => ?_)
 show W _ _ _ _ _ _ _
 refine w_skip ?_
 show W _ _ _ _ _ _ _
 refine w_seq ?_
 refine w_reg fun all => ?_
 refine t_qz 2 [11, 12] (σ' := [(11, vP b240 1), (12, vP b240 0)]) (by kernel_rfl) ?_
 refine t_v (.ld1 rfl rfl rfl (.at 0 rfl rfl)) ?_
 refine t_qz 2 [2] (σ' := [(2, .slice (some ⟨b240, 1, none⟩) 1 3)]) (by kernel_rfl) ?_
 refine t_end ?_
 show W _ _ _ _ _ _ _
 refine w_ret ?_
 simp only [Option.some.injEq, Prod.mk.injEq] at e
 obtain ⟨rfl, rfl, rfl, rfl, rfl, rfl⟩ := e
 exact ⟨[.slice (some ⟨b240, 1, none⟩) 1 3], ([⟨b240, [vI 1, vI s0_1, vI s0_2, vI s0_3, vI s0_4, vI s0_5, vI s0_6], 7⟩] : List Own), S, ⟨rfl, trivial⟩, VS.sel [0] (by kernel_rfl), b240, rfl, rfl, rfl⟩

/-- flatten.Size -/
def c32 : C :=
  (.seq (.reg [oq 1 (.box (.tmp 0)),
     oq 2 (.mv (.const (vI 0)))])
  (.seq (.reg [oq 3 (.mv (.const (vI 1)))])
  (.seq (.reg [oq 8 (.pad 0 (.tmp 1)),
     oq 9 (.ld (some 2) (.tmp 8)),
     oq 4 (.new [(vI 0), (vI 0)]),
     ⟨none, .st 2 (.tmp 4) (.tmp 9), none⟩])
  (.seq (.seq (.reg [oq 10 (.pad 2 (.tmp 1)),
      oq 11 (.ld none (.tmp 10)),
      oq 12 (.lns (.tmp 11)),
      oq 13 (.mv (.const (vI 0)))])
   (.block 0 (.loop (.seq (.reg [oq 14 (.bin .lss (.tmp 13) (.tmp 12))])
     (.seq (.cond (.tmp 14)
       .skip
       (.exit 0))
     (.seq (.block 1 (.seq (.reg [oq 15 (.ixs 7 (.tmp 11) (.tmp 13)),
          oq 16 (.ld (some 7) (.tmp 15)),
          oq 6 (.new [(vI 0), (vI 0), (vI 0), (vI 0), (vI 0), (vI 0), (vI 0)]),
          ⟨none, .st 7 (.tmp 6) (.tmp 16), none⟩])
       (.seq (.reg [oq 17 (.mv (.tmp 3)),
          oq 18 (.ld (some 2) (.tmp 4)),
          oq 19 (.ld (some 7) (.tmp 6)),
          oq 20 (.call 43 [(.tmp 18), (.tmp 19)]),
          oq 21 (.bin .add (.tmp 17) (.tmp 20)),
          oq 3 (.mv (.tmp 21))])
       (.seq (.reg [oq 22 (.ld (some 7) (.tmp 6)),
          oq 23 (.call 44 [(.tmp 22)]),
          oq 7 (.mv (.tmp 23))])
       (.seq (.reg [oq 24 (.mv (.tmp 7)),
          oq 25 (.lns (.tmp 24)),
          oq 26 (.bin .gtr (.tmp 25) (.const (vI 0)))])
       (.cond (.tmp 26)
        (.reg [oq 27 (.mv (.tmp 7)),
           oq 28 (.mv (.tmp 7)),
           oq 29 (.lns (.tmp 28)),
           oq 30 (.bin .sub (.tmp 29) (.const (vI 1))),
           oq 31 (.ixs 2 (.tmp 27) (.tmp 30)),
           oq 32 (.ld (some 2) (.tmp 31)),
           ⟨none, .st 2 (.tmp 4) (.tmp 32), none⟩])
        .skip))))))
     (.reg [oq 33 (.bin .add (.tmp 13) (.const (vI 1))),
       oq 13 (.mv (.tmp 33))])))))))
  (.seq (.reg [oq 34 (.mv (.tmp 3)),
     oq 2 (.mv (.tmp 34))])
  .ret)))))
def flatten_Size_v1.f (p0_0 : Int) (p0_1 : Int) (m0_1 : Int) (m0_2 : Int) (m0_3 : Int) (m0_4 : Int) (m0_5 : Int) (m0_6 : Int) (m0_8 : Int) (m0_9 : Int) (m0_10 : Int) (m0_11 : Int) (m0_12 : Int) (m0_13 : Int) (m0_15 : Int) (m0_16 : Int) (m0_17 : Int) (m0_18 : Int) (m0_19 : Int) (m0_20 : Int) : Option (Unit) := (flatten_Count_v1.f p0_0 p0_1 m0_1 m0_2 m0_3 m0_4 m0_5 m0_6).bind fun _ => ((flatten_points_v1.f m0_1 m0_2 m0_3 m0_4 m0_5 m0_6).bind fun (t241, t242, t243, t244, t245, t246) => ((flatten_Count_v1.f t241 t242 m0_8 m0_9 m0_10 m0_11 m0_12 m0_13).bind fun _ => ((flatten_points_v1.f m0_8 m0_9 m0_10 m0_11 m0_12 m0_13).bind fun (t251, t252, t253, t254, t255, t256) => ((flatten_Count_v1.f t251 t252 m0_15 m0_16 m0_17 m0_18 m0_19 m0_20).bind fun _ => ((flatten_points_v1.f m0_15 m0_16 m0_17 m0_18 m0_19 m0_20).bind fun (t261, t262, t263, t264, t265, t266) => (some ()))))))
theorem flatten_Size_v1.ok {S : Seal} {B0 nB0 : Nat} {p0_0 : Int} {p0_1 : Int} {m0_1 : Int} {m0_2 : Int} {m0_3 : Int} {m0_4 : Int} {m0_5 : Int} {m0_6 : Int} {m0_8 : Int} {m0_9 : Int} {m0_10 : Int} {m0_11 : Int} {m0_12 : Int} {m0_13 : Int} {m0_15 : Int} {m0_16 : Int} {m0_17 : Int} {m0_18 : Int} {m0_19 : Int} {m0_20 : Int} {A_ : Int → Addr} (hE_ : EO gsE S A_ 157) (e : flatten_Size_v1.f p0_0 p0_1 m0_1 m0_2 m0_3 m0_4 m0_5 m0_6 m0_8 m0_9 m0_10 m0_11 m0_12 m0_13 m0_15 m0_16 m0_17 m0_18 m0_19 m0_20 = some ()) :
    Cal Tryd.prog 32 [.agg #[vI p0_0, vI p0_1, .slice (some ⟨B0, 0, none⟩) 3 (nB0 / 7), vB false]] ([⟨B0, [vI 1, vI m0_1, vI m0_2, vI m0_3, vI m0_4, vI m0_5, vI m0_6, vI 1, vI m0_8, vI m0_9, vI m0_10, vI m0_11, vI m0_12, vI m0_13, vI 1, vI m0_15, vI m0_16, vI m0_17, vI m0_18, vI m0_19, vI m0_20], nB0⟩] : List Own) S fun v H' S' => v = vI 4 ∧ H' = ([⟨B0, [vI 1, vI m0_1, vI m0_2, vI m0_3, vI m0_4, vI m0_5, vI m0_6, vI 1, vI m0_8, vI m0_9, vI m0_10, vI m0_11, vI m0_12, vI m0_13, vI 1, vI m0_15, vI m0_16, vI m0_17, vI m0_18, vI m0_19, vI m0_20], nB0⟩] : List Own) ∧ S' = S := by
 unfold flatten_Size_v1.f at e
 refine cal_of (c := c32) (N := 35) Tryd.func32 rfl rfl (by kernel_rfl) (rs := [.t 2]) (by kernel_rfl) (Nat.le_of_ble_eq_true rfl) ?_
 unfold c32
 refine w_seq ?_
 refine w_reg fun all => ?_
 refine t_a (.box rfl rfl rfl) fun b234 fb234 sb234 => ?_
 refine t_qz 1 [1] (σ' := [(1, vP b234 0)]) (by kernel_rfl) ?_
 refine t_end ?_
 show W _ _ _ _ _ _ _
 refine w_seq ?_
 refine w_reg fun all => ?_
 refine t_qz 1 [1, 3] (σ' := [(1, vP b234 0), (3, vI 1)]) (by kernel_rfl) ?_
 refine t_end ?_
 show W _ _ _ _ _ _ _
 refine w_seq ?_
 refine w_reg fun all => ?_
 refine t_qz 1 [1, 3, 8] (σ' := [(1, vP b234 0), (3, vI 1), (8, vP b234 0)]) (by kernel_rfl) ?_
 refine t_v (.ldn rfl rfl rfl (.at 0 rfl rfl)) ?_
 refine t_a (.new rfl rfl) fun b235 fb235 sb235 => ?_
 refine t_sti 0 (cs := [vI p0_0, vI p0_1]) rfl rfl rfl rfl rfl rfl rfl rfl rfl ?_
 refine t_keep [1, 3, 4] (σ' := [(1, vP b234 0), (3, vI 1), (4, vP b235 0)]) (by kernel_rfl) ?_
 refine t_end ?_
 show W _ _ _ _ _ _ _
 refine w_seq ?_
 refine w_seq ?_
 refine w_reg fun all => ?_
 refine t_qz 1 [3, 4, 10] (σ' := [(3, vI 1), (4, vP b235 0), (10, vP b234 2)]) (by kernel_rfl) ?_
 refine t_v (.ld1 rfl rfl rfl (.at 1 rfl rfl)) ?_
 refine t_qz 2 [3, 4, 11, 12, 13] (σ' := [(3, vI 1), (4, vP b235 0), (11, .slice (some ⟨B0, 0, none⟩) 3 (nB0 / 7)), (12, vI 3), (13, vI 0)]) (by kernel_rfl) ?_
 refine t_end ?_
 show W _ _ _ _ _ _ _
 refine w_block ?_
 refine w_lun 15 ?_
 refine wl_step ?_
 refine w_seq ?_
 refine w_reg fun all => ?_
 refine t_qz 1 [3, 4, 11, 12, 13, 14] (σ' := [(3, vI 1), (4, vP b235 0), (11, .slice (some ⟨B0, 0, none⟩) 3 (nB0 / 7)), (12, vI 3), (13, vI 0), (14, vB true)]) (by kernel_rfl) ?_
 refine t_end ?_
 show W _ _ _ _ _ _ _
 refine w_seq ?_
 refine w_cond rfl (fun _ => ?_) (fun c_ => by cases c_)
 show W _ _ _ _ _ _ _
 refine w_skip ?_
 show W _ _ _ _ _ _ _
 refine w_seq ?_
 refine w_block ?_
 refine w_seq ?_
 refine w_reg fun all => ?_
 refine t_qz 1 [3, 4, 11, 12, 13, 15] (σ' := [(3, vI 1), (4, vP b235 0), (11, .slice (some ⟨B0, 0, none⟩) 3 (nB0 / 7)), (12, vI 3), (13, vI 0), (15, vP B0 0)]) (by kernel_rfl) ?_
 refine t_v (.ldn rfl rfl rfl (.at 2 rfl rfl)) ?_
 refine t_a (.new rfl rfl) fun b236 fb236 sb236 => ?_
 refine t_sti 0 (cs := [vI 1, vI m0_1, vI m0_2, vI m0_3, vI m0_4, vI m0_5, vI m0_6]) rfl rfl rfl rfl rfl rfl rfl rfl rfl ?_
 refine t_keep [3, 4, 6, 11, 12, 13] (σ' := [(3, vI 1), (4, vP b235 0), (6, vP b236 0), (11, .slice (some ⟨B0, 0, none⟩) 3 (nB0 / 7)), (12, vI 3), (13, vI 0)]) (by kernel_rfl) ?_
 refine t_end ?_
 show W _ _ _ _ _ _ _
 refine w_seq ?_
 refine w_reg fun all => ?_
 refine t_qz 1 [4, 6, 11, 12, 13, 17] (σ' := [(4, vP b235 0), (6, vP b236 0), (11, .slice (some ⟨B0, 0, none⟩) 3 (nB0 / 7)), (12, vI 3), (13, vI 0), (17, vI 1)]) (by kernel_rfl) ?_
 refine t_v (.ldn rfl rfl rfl (.at 1 rfl rfl)) ?_
 refine t_v (.ldn rfl rfl rfl (.at 0 rfl rfl)) ?_
 obtain ⟨u_, h239, e⟩ := bind_of e
 refine t_v (.call (vs := [.agg #[vI p0_0, vI p0_1], .agg #[vI 1, vI m0_1, vI m0_2, vI m0_3, vI m0_4, vI m0_5, vI m0_6]]) rfl rfl (by kernel_rfl) (flatten_Count_v1.ok hE_ h239)) ?_
 refine t_qz 2 [3, 4, 6, 11, 12, 13] (σ' := [(3, vI 2), (4, vP b235 0), (6, vP b236 0), (11, .slice (some ⟨B0, 0, none⟩) 3 (nB0 / 7)), (12, vI 3), (13, vI 0)]) (by kernel_rfl) ?_
 refine t_end ?_
 show W _ _ _ _ _ _ _
 refine w_seq ?_
 refine w_reg fun all => ?_
 refine t_v (.ldn rfl rfl rfl (.at 0 rfl rfl)) ?_
 obtain ⟨⟨t241, t242, t243, t244, t245, t246⟩, h247, e⟩ := bind_of e
 try dsimp only at e
 refine t_call (vs := [.agg #[vI 1, vI m0_1, vI m0_2, vI m0_3, vI m0_4, vI m0_5, vI m0_6]]) (H1 := []) (F := ([⟨b236, [vI 1, vI m0_1, vI m0_2, vI m0_3, vI m0_4, vI m0_5, vI m0_6], 7⟩, ⟨b235, [vI p0_0, vI p0_1], 2⟩, ⟨b234, [vI p0_0, vI p0_1, .slice (some ⟨B0, 0, none⟩) 3 (nB0 / 7), vB false], 4⟩, ⟨B0, [vI 1, vI m0_1, vI m0_2, vI m0_3, vI m0_4, vI m0_5, vI m0_6, vI 1, vI m0_8, vI m0_9, vI m0_10, vI m0_11, vI m0_12, vI m0_13, vI 1, vI m0_15, vI m0_16, vI m0_17, vI m0_18, vI m0_19, vI m0_20], nB0⟩] : List Own)) rfl rfl (by kernel_rfl) (sel_perm (is := []) (by kernel_rfl)) (flatten_points_v1.ok hE_ h247) ?_
 rintro _ _ S_ ⟨N248, rfl, rfl, hS_⟩
 obtain rfl := hS_.symm
 refine t_qz 1 [3, 4, 7, 11, 12, 13] (σ' := [(3, vI 2), (4, vP b235 0), (7, .slice (some ⟨N248, 1, none⟩) 1 3), (11, .slice (some ⟨B0, 0, none⟩) 3 (nB0 / 7)), (12, vI 3), (13, vI 0)]) (by kernel_rfl) ?_
 refine t_end ?_
 show W _ _ _ _ _ _ _
 refine w_seq ?_
 refine w_reg fun all => ?_
 refine t_qz 3 [3, 4, 7, 11, 12, 13, 26] (σ' := [(3, vI 2), (4, vP b235 0), (7, .slice (some ⟨N248, 1, none⟩) 1 3), (11, .slice (some ⟨B0, 0, none⟩) 3 (nB0 / 7)), (12, vI 3), (13, vI 0), (26, vB true)]) (by kernel_rfl) ?_
 refine t_end ?_
 show W _ _ _ _ _ _ _
 refine w_cond rfl (fun _ => ?_) (fun c_ => by cases c_)
 show W _ _ _ _ _ _ _
 refine w_reg fun all => ?_
 refine t_qz 5 [3, 4, 11, 12, 13, 31] (σ' := [(3, vI 2), (4, vP b235 0), (11, .slice (some ⟨B0, 0, none⟩) 3 (nB0 / 7)), (12, vI 3), (13, vI 0), (31, vP N248 1)]) (by kernel_rfl) ?_
 refine t_v (.ldn rfl rfl rfl (.at 0 rfl rfl)) ?_
 refine t_sti 2 (cs := [vI t241, vI t242]) rfl rfl rfl rfl rfl rfl rfl rfl rfl ?_
 refine t_keep [3, 4, 11, 12, 13] (σ' := [(3, vI 2), (4, vP b235 0), (11, .slice (some ⟨B0, 0, none⟩) 3 (nB0 / 7)), (12, vI 3), (13, vI 0)]) (by kernel_rfl) ?_
 refine t_end ?_
 show W _ _ _ _ _ _ _
 refine w_reg fun all => ?_
 refine t_qz 2 [3, 4, 11, 12, 13] (σ' := [(3, vI 2), (4, vP b235 0), (11, .slice (some ⟨B0, 0, none⟩) 3 (nB0 / 7)), (12, vI 3), (13, vI 1)]) (by kernel_rfl) ?_
 refine t_end ?_
 show WL _ _ _ _ _ _ _ _
 refine wl_step ?_
 refine w_seq ?_
 refine w_reg fun all => ?_
 refine t_qz 1 [3, 4, 11, 12, 13, 14] (σ' := [(3, vI 2), (4, vP b235 0), (11, .slice (some ⟨B0, 0, none⟩) 3 (nB0 / 7)), (12, vI 3), (13, vI 1), (14, vB true)]) (by kernel_rfl) ?_
 refine t_end ?_
 show W _ _ _ _ _ _ _
 refine w_seq ?_
 refine w_cond rfl (fun _ => ?_) (fun c_ => by cases c_)
 show W _ _ _ _ _ _ _
 refine w_skip ?_
 show W _ _ _ _ _ _ _
 refine w_seq ?_
 refine w_block ?_
 refine w_seq ?_
 refine w_reg fun all => ?_
 refine t_qz 1 [3, 4, 11, 12, 13, 15] (σ' := [(3, vI 2), (4, vP b235 0), (11, .slice (some ⟨B0, 0, none⟩) 3 (nB0 / 7)), (12, vI 3), (13, vI 1), (15, vP B0 7)]) (by kernel_rfl) ?_
 refine t_v (.ldn rfl rfl rfl (.at 4 rfl rfl)) ?_
 refine t_a (.new rfl rfl) fun b249 fb249 sb249 => ?_
 refine t_sti 0 (cs := [vI 1, vI m0_8, vI m0_9, vI m0_10, vI m0_11, vI m0_12, vI m0_13]) rfl rfl rfl rfl rfl rfl rfl rfl rfl ?_
 refine t_keep [3, 4, 6, 11, 12, 13] (σ' := [(3, vI 2), (4, vP b235 0), (6, vP b249 0), (11, .slice (some ⟨B0, 0, none⟩) 3 (nB0 / 7)), (12, vI 3), (13, vI 1)]) (by kernel_rfl) ?_
 refine t_end ?_
 show W _ _ _ _ _ _ _
 refine w_seq ?_
 refine w_reg fun all => ?_
 refine t_qz 1 [4, 6, 11, 12, 13, 17] (σ' := [(4, vP b235 0), (6, vP b249 0), (11, .slice (some ⟨B0, 0, none⟩) 3 (nB0 / 7)), (12, vI 3), (13, vI 1), (17, vI 2)]) (by kernel_rfl) ?_
 refine t_v (.ldn rfl rfl rfl (.at 3 rfl rfl)) ?_
 refine t_v (.ldn rfl rfl rfl (.at 0 rfl rfl)) ?_
 obtain ⟨u_, h250, e⟩ := bind_of e
 refine t_v (.call (vs := [.agg #[vI t241, vI t242], .agg #[vI 1, vI m0_8, vI m0_9, vI m0_10, vI m0_11, vI m0_12, vI m0_13]]) rfl rfl (by kernel_rfl) (flatten_Count_v1.ok hE_ h250)) ?_
 refine t_qz 2 [3, 4, 6, 11, 12, 13] (σ' := [(3, vI 3), (4, vP b235 0), (6, vP b249 0), (11, .slice (some ⟨B0, 0, none⟩) 3 (nB0 / 7)), (12, vI 3), (13, vI 1)]) (by kernel_rfl) ?_
 refine t_end ?_
 show W _ _ _ _ _ _ _
 refine w_seq ?_
 refine w_reg fun all => ?_
 refine t_v (.ldn rfl rfl rfl (.at 0 rfl rfl)) ?_
 obtain ⟨⟨t251, t252, t253, t254, t255, t256⟩, h257, e⟩ := bind_of e
 try dsimp only at e
 refine t_call (vs := [.agg #[vI 1, vI m0_8, vI m0_9, vI m0_10, vI m0_11, vI m0_12, vI m0_13]]) (H1 := []) (F := ([⟨b249, [vI 1, vI m0_8, vI m0_9, vI m0_10, vI m0_11, vI m0_12, vI m0_13], 7⟩, ⟨N248, [vI 1, vI t241, vI t242, vI t243, vI t244, vI t245, vI t246], 7⟩, ⟨b236, [vI 1, vI m0_1, vI m0_2, vI m0_3, vI m0_4, vI m0_5, vI m0_6], 7⟩, ⟨b235, [vI t241, vI t242], 2⟩, ⟨b234, [vI p0_0, vI p0_1, .slice (some ⟨B0, 0, none⟩) 3 (nB0 / 7), vB false], 4⟩, ⟨B0, [vI 1, vI m0_1, vI m0_2, vI m0_3, vI m0_4, vI m0_5, vI m0_6, vI 1, vI m0_8, vI m0_9, vI m0_10, vI m0_11, vI m0_12, vI m0_13, vI 1, vI m0_15, vI m0_16, vI m0_17, vI m0_18, vI m0_19, vI m0_20], nB0⟩] : List Own)) rfl rfl (by kernel_rfl) (sel_perm (is := []) (by kernel_rfl)) (flatten_points_v1.ok hE_ h257) ?_
 rintro _ _ S_ ⟨N258, rfl, rfl, hS_⟩
 obtain rfl := hS_.symm
 refine t_qz 1 [3, 4, 7, 11, 12, 13] (σ' := [(3, vI 3), (4, vP b235 0), (7, .slice (some ⟨N258, 1, none⟩) 1 3), (11, .slice (some ⟨B0, 0, none⟩) 3 (nB0 / 7)), (12, vI 3), (13, vI 1)]) (by kernel_rfl) ?_
 refine t_end ?_
 show W _ _ _ _ _ _ _
 refine w_seq ?_
 refine w_reg fun all => ?_
 refine t_qz 3 [3, 4, 7, 11, 12, 13, 26] (σ' := [(3, vI 3), (4, vP b235 0), (7, .slice (some ⟨N258, 1, none⟩) 1 3), (11, .slice (some ⟨B0, 0, none⟩) 3 (nB0 / 7)), (12, vI 3), (13, vI 1), (26, vB true)]) (by kernel_rfl) ?_
 refine t_end ?_
 show W _ _ _ _ _ _ _
 refine w_cond rfl (fun _ => ?_) (fun c_ => by cases c_)
 show W _ _ _ _ _ _ _
 refine w_reg fun all => ?_
 refine t_qz 5 [3, 4, 11, 12, 13, 31] (σ' := [(3, vI 3), (4, vP b235 0), (11, .slice (some ⟨B0, 0, none⟩) 3 (nB0 / 7)), (12, vI 3), (13, vI 1), (31, vP N258 1)]) (by kernel_rfl) ?_
 refine t_v (.ldn rfl rfl rfl (.at 0 rfl rfl)) ?_
 refine t_sti 4 (cs := [vI t251, vI t252]) rfl rfl rfl rfl rfl rfl rfl rfl rfl ?_
 refine t_keep [3, 4, 11, 12, 13] (σ' := [(3, vI 3), (4, vP b235 0), (11, .slice (some ⟨B0, 0, none⟩) 3 (nB0 / 7)), (12, vI 3), (13, vI 1)]) (by kernel_rfl) ?_
 refine t_end ?_
 show W _ _ _ _ _ _ _
 refine w_reg fun all => ?_
 refine t_qz 2 [3, 4, 11, 12, 13] (σ' := [(3, vI 3), (4, vP b235 0), (11, .slice (some ⟨B0, 0, none⟩) 3 (nB0 / 7)), (12, vI 3), (13, vI 2)]) (by kernel_rfl) ?_
 refine t_end ?_
 show WL _ _ _ _ _ _ _ _
 refine wl_step ?_
 refine w_seq ?_
 refine w_reg fun all => ?_
 refine t_qz 1 [3, 4, 11, 12, 13, 14] (σ' := [(3, vI 3), (4, vP b235 0), (11, .slice (some ⟨B0, 0, none⟩) 3 (nB0 / 7)), (12, vI 3), (13, vI 2), (14, vB true)]) (by kernel_rfl) ?_
 refine t_end ?_
 show W _ _ _ _ _ _ _
 refine w_seq ?_
 refine w_cond rfl (fun _ => ?_) (fun c_ => by cases c_)
 show W _ _ _ _ _ _ _
 refine w_skip ?_
 show W _ _ _ _ _ _ _
 refine w_seq ?_
 refine w_block ?_
 refine w_seq ?_
 refine w_reg fun all => ?_
 refine t_qz 1 [3, 4, 11, 12, 13, 15] (σ' := [(3, vI 3), (4, vP b235 0), (11, .slice (some ⟨B0, 0, none⟩) 3 (nB0 / 7)), (12, vI 3), (13, vI 2), (15, vP B0 14)]) (by kernel_rfl) ?_
 refine t_v (.ldn rfl rfl rfl (.at 6 rfl rfl)) ?_
 refine t_a (.new rfl rfl) fun b259 fb259 sb259 => ?_
 refine t_sti 0 (cs := [vI 1, vI m0_15, vI m0_16, vI m0_17, vI m0_18, vI m0_19, vI m0_20]) rfl rfl rfl rfl rfl rfl rfl rfl rfl ?_
 refine t_keep [3, 4, 6, 11, 12, 13] (σ' := [(3, vI 3), (4, vP b235 0), (6, vP b259 0), (11, .slice (some ⟨B0, 0, none⟩) 3 (nB0 / 7)), (12, vI 3), (13, vI 2)]) (by kernel_rfl) ?_
 refine t_end ?_
 show W _ _ _ _ _ _ _
 refine w_seq ?_
 refine w_reg fun all => ?_
 refine t_qz 1 [4, 6, 11, 12, 13, 17] (σ' := [(4, vP b235 0), (6, vP b259 0), (11, .slice (some ⟨B0, 0, none⟩) 3 (nB0 / 7)), (12, vI 3), (13, vI 2), (17, vI 3)]) (by kernel_rfl) ?_
 refine t_v (.ldn rfl rfl rfl (.at 5 rfl rfl)) ?_
 refine t_v (.ldn rfl rfl rfl (.at 0 rfl rfl)) ?_
 obtain ⟨u_, h260, e⟩ := bind_of e
 refine t_v (.call (vs := [.agg #[vI t251, vI t252], .agg #[vI 1, vI m0_15, vI m0_16, vI m0_17, vI m0_18, vI m0_19, vI m0_20]]) rfl rfl (by kernel_rfl) (flatten_Count_v1.ok hE_ h260)) ?_
 refine t_qz 2 [3, 4, 6, 11, 12, 13] (σ' := [(3, vI 4), (4, vP b235 0), (6, vP b259 0), (11, .slice (some ⟨B0, 0, none⟩) 3 (nB0 / 7)), (12, vI 3), (13, vI 2)]) (by kernel_rfl) ?_
 refine t_end ?_
 show W _ _ _ _ _ _ _
 refine w_seq ?_
 refine w_reg fun all => ?_
 refine t_v (.ldn rfl rfl rfl (.at 0 rfl rfl)) ?_
 obtain ⟨⟨t261, t262, t263, t264, t265, t266⟩, h267, e⟩ := bind_of e
 try dsimp only at e
 refine t_call (vs := [.agg #[vI 1, vI m0_15, vI m0_16, vI m0_17, vI m0_18, vI m0_19, vI m0_20]]) (H1 := []) (F := ([⟨b259, [vI 1, vI m0_15, vI m0_16, vI m0_17, vI m0_18, vI m0_19, vI m0_20], 7⟩, ⟨N258, [vI 1, vI t251, vI t252, vI t253, vI t254, vI t255, vI t256], 7⟩, ⟨b249, [vI 1, vI m0_8, vI m0_9, vI m0_10, vI m0_11, vI m0_12, vI m0_13], 7⟩, ⟨N248, [vI 1, vI t241, vI t242, vI t243, vI t244, vI t245, vI t246], 7⟩, ⟨b236, [vI 1, vI m0_1, vI m0_2, vI m0_3, vI m0_4, vI m0_5, vI m0_6], 7⟩, ⟨b235, [vI t251, vI t252], 2⟩, ⟨b234, [vI p0_0, vI p0_1, .slice (some ⟨B0, 0, none⟩) 3 (nB0 / 7), vB false], 4⟩, ⟨B0, [vI 1, vI m0_1, vI m0_2, vI m0_3, vI m0_4, vI m0_5, vI m0_6, vI 1, vI m0_8, vI m0_9, vI m0_10, vI m0_11, vI m0_12, vI m0_13, vI 1, vI m0_15, vI m0_16, vI m0_17, vI m0_18, vI m0_19, vI m0_20], nB0⟩] : List Own)) rfl rfl (by kernel_rfl) (sel_perm (is := []) (by kernel_rfl)) (flatten_points_v1.ok hE_ h267) ?_
 rintro _ _ S_ ⟨N268, rfl, rfl, hS_⟩
 obtain rfl := hS_.symm
 refine t_qz 1 [3, 4, 7, 11, 12, 13] (σ' := [(3, vI 4), (4, vP b235 0), (7, .slice (some ⟨N268, 1, none⟩) 1 3), (11, .slice (some ⟨B0, 0, none⟩) 3 (nB0 / 7)), (12, vI 3), (13, vI 2)]) (by kernel_rfl) ?_
 refine t_end ?_
 show W _ _ _ _ _ _ _
 refine w_seq ?_
 refine w_reg fun all => ?_
 refine t_qz 3 [3, 4, 7, 11, 12, 13, 26] (σ' := [(3, vI 4), (4, vP b235 0), (7, .slice (some ⟨N268, 1, none⟩) 1 3), (11, .slice (some ⟨B0, 0, none⟩) 3 (nB0 / 7)), (12, vI 3), (13, vI 2), (26, vB true)]) (by kernel_rfl) ?_
 refine t_end ?_
 show W _ _ _ _ _ _ _
 refine w_cond rfl (fun _ => ?_) (fun c_ => by cases c_)
 show W _ _ _ _ _ _ _
 refine w_reg fun all => ?_
 refine t_qz 5 [3, 4, 11, 12, 13, 31] (σ' := [(3, vI 4), (4, vP b235 0), (11, .slice (some ⟨B0, 0, none⟩) 3 (nB0 / 7)), (12, vI 3), (13, vI 2), (31, vP N268 1)]) (by kernel_rfl) ?_
 refine t_v (.ldn rfl rfl rfl (.at 0 rfl rfl)) ?_
 refine t_sti 6 (cs := [vI t261, vI t262]) rfl rfl rfl rfl rfl rfl rfl rfl rfl ?_
 refine t_keep [3, 4, 11, 12, 13] (σ' := [(3, vI 4), (4, vP b235 0), (11, .slice (some ⟨B0, 0, none⟩) 3 (nB0 / 7)), (12, vI 3), (13, vI 2)]) (by kernel_rfl) ?_
 refine t_end ?_
 show W _ _ _ _ _ _ _
 refine w_reg fun all => ?_
 refine t_qz 2 [3, 4, 11, 12, 13] (σ' := [(3, vI 4), (4, vP b235 0), (11, .slice (some ⟨B0, 0, none⟩) 3 (nB0 / 7)), (12, vI 3), (13, vI 3)]) (by kernel_rfl) ?_
 refine t_end ?_
 show WL _ _ _ _ _ _ _ _
 refine wl_step ?_
 refine w_seq ?_
 refine w_reg fun all => ?_
 refine t_qz 1 [3, 4, 11, 12, 13, 14] (σ' := [(3, vI 4), (4, vP b235 0), (11, .slice (some ⟨B0, 0, none⟩) 3 (nB0 / 7)), (12, vI 3), (13, vI 3), (14, vB false)]) (by kernel_rfl) ?_
 refine t_end ?_
 show W _ _ _ _ _ _ _
 refine w_seq ?_
 refine w_cond rfl (fun c_ => by cases c_) (fun _ => ?_)
 show W _ _ _ _ _ _ _
 refine w_exit ?_
 show W _ _ _ _ _ _ _
 refine w_seq ?_
 refine w_reg fun all => ?_
 refine t_qz 2 [2] (σ' := [(2, vI 4)]) (by kernel_rfl) ?_
 refine t_end ?_
 show W _ _ _ _ _ _ _
 refine w_ret ?_
 exact ⟨[vI 4], ([⟨B0, [vI 1, vI m0_1, vI m0_2, vI m0_3, vI m0_4, vI m0_5, vI m0_6, vI 1, vI m0_8, vI m0_9, vI m0_10, vI m0_11, vI m0_12, vI m0_13, vI 1, vI m0_15, vI m0_16, vI m0_17, vI m0_18, vI m0_19, vI m0_20], nB0⟩] : List Own), S, ⟨rfl, trivial⟩, VS.sel [8] (by kernel_rfl), rfl, rfl, rfl⟩

def render_Edges_v2.f (i0_0 : Int) (i0_1 : Int) (w1 : Int) (m2_1 : Int) (m2_8 : Int) (m2_9 : Int) (m2_16 : Int) : Option (Int × Int) := (scale_Check_v1.f i0_0 i0_1 0 w1).bind fun t271 => (if t271 = 0 then ((scale_Cmd_v1.f i0_0 i0_1 w1 m2_1 m2_8 m2_9 m2_16).bind fun (t275, t276, t277, t278, t279, t280, t281, t282, t283, t284, t285, t286, t287, t288, t289, t290, t291, t292, t293, t294, t295, t296, t297, t298) => ((flatten_Size_v1.f t279 t280 t281 t282 t283 t284 t285 t286 t287 t288 t289 t290 t291 t292 t293 t294 t295 t296 t297 t298).bind fun _ => (some (4, 0)))) else (some (0, t271)))
theorem render_Edges_v2.ok {S : Seal} {B0 : Nat} {B1 : Nat} {B2 : Nat} {i0_0 : Int} {i0_1 : Int} {w1 : Int} {m2_1 : Int} {m2_8 : Int} {m2_9 : Int} {m2_16 : Int} {r0_ : Int} {r1_ : Int}{A_ : Int → Addr} (hE_ : EO gsE S A_ 157) {a_i0_3 : Option Addr} {n_i0_3 c_i0_3 : Nat} (e : render_Edges_v2.f i0_0 i0_1 w1 m2_1 m2_8 m2_9 m2_16 = some (r0_, r1_)) :
    Cal Tryd.prog 17 [.agg #[vI i0_0, vI i0_1, vI 0, .slice a_i0_3 n_i0_3 c_i0_3, .slice (some ⟨B0, 0, none⟩) 1 1], vI w1] ([⟨B0, [vI 1, vI 0, vI 0, vI 0, vI 0, vI 0, vI 0, vI 0, vI 0, vI 0, .slice (some ⟨B1, 0, none⟩) 1 1], 11⟩, ⟨B1, [vI 0, vI 0, .slice (some ⟨B2, 0, none⟩) 3 3, vB false], 4⟩, ⟨B2, [vI 1, vI m2_1, vI 0, vI 0, vI 0, vI 0, vI 0, vI 1, vI m2_8, vI m2_9, vI 0, vI 0, vI 0, vI 0, vI 1, vI 0, vI m2_16, vI 0, vI 0, vI 0, vI 0], 21⟩] : List Own) S fun v H' S' => v = .tuple #[vI r0_, errV 157 A_ r1_] ∧ H' = ([⟨B0, [vI 1, vI 0, vI 0, vI 0, vI 0, vI 0, vI 0, vI 0, vI 0, vI 0, .slice (some ⟨B1, 0, none⟩) 1 1], 11⟩, ⟨B1, [vI 0, vI 0, .slice (some ⟨B2, 0, none⟩) 3 3, vB false], 4⟩, ⟨B2, [vI 1, vI m2_1, vI 0, vI 0, vI 0, vI 0, vI 0, vI 1, vI m2_8, vI m2_9, vI 0, vI 0, vI 0, vI 0, vI 1, vI 0, vI m2_16, vI 0, vI 0, vI 0, vI 0], 21⟩] : List Own) ∧ S' = S := by
 unfold render_Edges_v2.f at e
 refine cal_of (c := c17) (N := 45) Tryd.func17 rfl rfl (by kernel_rfl) (rs := [.t 4, .t 5]) (by kernel_rfl) (Nat.le_of_ble_eq_true rfl) ?_
 unfold c17
 refine w_seq ?_
 refine w_reg fun all => ?_
 refine t_a (.box rfl rfl rfl) fun b270 fb270 sb270 => ?_
 refine t_qz 2 [1, 2] (σ' := [(1, vI w1), (2, vP b270 0)]) (by kernel_rfl) ?_
 refine t_end ?_
 show W _ _ _ _ _ _ _
 refine w_seq ?_
 refine w_seq ?_
 refine w_reg fun all => ?_
 refine t_v (.ldn rfl rfl rfl (.at 0 rfl rfl)) ?_
 obtain ⟨t271, h272, e⟩ := bind_of e
 refine t_qz 1 [1, 2, 12, 13] (σ' := [(1, vI w1), (2, vP b270 0), (12, .agg #[vI i0_0, vI i0_1, vI 0, .slice a_i0_3 n_i0_3 c_i0_3, .slice (some ⟨B0, 0, none⟩) 1 1]), (13, vI w1)]) (by kernel_rfl) ?_
 refine t_v (.call (vs := [.agg #[vI i0_0, vI i0_1, vI 0, .slice a_i0_3 n_i0_3 c_i0_3, .slice (some ⟨B0, 0, none⟩) 1 1], vI w1]) rfl rfl (by kernel_rfl) (scale_Check_v1.ok hE_ h272)) ?_
 refine t_qz 1 [1, 2, 6] (σ' := [(1, vI w1), (2, vP b270 0), (6, errV 157 A_ t271)]) (by kernel_rfl) ?_
 refine t_end ?_
 show W _ _ _ _ _ _ _
 refine w_seq ?_
 refine w_reg fun all => ?_
 by_cases c273 : t271 = 0
 ·rw [if_pos c273] at e
  have c273b : (t271 == 0) = true := beq_iff_eq.mpr c273
  refine t_qz 1 [1, 2, 6, 15] (σ' := [(1, vI w1), (2, vP b270 0), (6, errV 157 A_ t271), (15, errV 157 A_ t271)]) (by kernel_rfl) ?_
  refine t_v (.eqt (a := errV 157 A_ t271) (b := .nilIface) (r := t271 == 0) rfl rfl rfl rfl (eqErr (by kernel_rfl) rfl) (bnk c273b rfl)) ?_
  refine t_keep [1, 2, 6, 16] (σ' := [(1, vI w1), (2, vP b270 0), (6, errV 157 A_ t271), (16, vB false)]) (by kernel_rfl) ?_
  refine t_end ?_
  show W _ _ _ _ _ _ _
  refine w_cond rfl (fun c_ => by cases c_) (fun _ => ?_)
  show W _ _ _ _ _ _ _
  refine w_skip ?_
  show W _ _ _ _ _ _ _
  refine w_seq ?_
  refine w_reg fun all => ?_
  refine t_qz 1 [1, 2, 7] (σ' := [(1, vI w1), (2, vP b270 0), (7, vI 0)]) (by kernel_rfl) ?_
  refine t_end ?_
  show W _ _ _ _ _ _ _
  refine w_seq ?_
  refine w_seq ?_
  refine w_reg fun all => ?_
  refine t_qz 1 [1, 2, 7, 18] (σ' := [(1, vI w1), (2, vP b270 0), (7, vI 0), (18, vP b270 4)]) (by kernel_rfl) ?_
  refine t_v (.ld1 rfl rfl rfl (.at 0 rfl rfl)) ?_
  refine t_qz 2 [1, 2, 7, 19, 20, 21] (σ' := [(1, vI w1), (2, vP b270 0), (7, vI 0), (19, .slice (some ⟨B0, 0, none⟩) 1 1), (20, vI 1), (21, vI 0)]) (by kernel_rfl) ?_
  refine t_end ?_
  show W _ _ _ _ _ _ _
  refine w_block ?_
  refine w_lun 15 ?_
  refine wl_step ?_
  refine w_seq ?_
  refine w_reg fun all => ?_
  refine t_qz 1 [1, 2, 7, 19, 20, 21, 22] (σ' := [(1, vI w1), (2, vP b270 0), (7, vI 0), (19, .slice (some ⟨B0, 0, none⟩) 1 1), (20, vI 1), (21, vI 0), (22, vB true)]) (by kernel_rfl) ?_
  refine t_end ?_
  show W _ _ _ _ _ _ _
  refine w_seq ?_
  refine w_cond rfl (fun _ => ?_) (fun c_ => by cases c_)
  show W _ _ _ _ _ _ _
  refine w_skip ?_
  show W _ _ _ _ _ _ _
  refine w_seq ?_
  refine w_block ?_
  refine w_seq ?_
  refine w_reg fun all => ?_
  refine t_qz 1 [1, 2, 7, 19, 20, 21, 23] (σ' := [(1, vI w1), (2, vP b270 0), (7, vI 0), (19, .slice (some ⟨B0, 0, none⟩) 1 1), (20, vI 1), (21, vI 0), (23, vP B0 0)]) (by kernel_rfl) ?_
  refine t_v (.ldn rfl rfl rfl (.at 1 rfl rfl)) ?_
  refine t_a (.new rfl rfl) fun b274 fb274 sb274 => ?_
  refine t_sti 0 (cs := [vI 1, vI 0, vI 0, vI 0, vI 0, vI 0, vI 0, vI 0, vI 0, vI 0, .slice (some ⟨B1, 0, none⟩) 1 1]) rfl rfl rfl rfl rfl rfl rfl rfl rfl ?_
  refine t_keep [1, 2, 7, 9, 19, 20, 21] (σ' := [(1, vI w1), (2, vP b270 0), (7, vI 0), (9, vP b274 0), (19, .slice (some ⟨B0, 0, none⟩) 1 1), (20, vI 1), (21, vI 0)]) (by kernel_rfl) ?_
  refine t_end ?_
  show W _ _ _ _ _ _ _
  refine w_seq ?_
  refine w_reg fun all => ?_
  refine t_v (.ldn rfl rfl rfl (.at 1 rfl rfl)) ?_
  refine t_qz 1 [1, 2, 7, 9, 19, 20, 21, 25, 26] (σ' := [(1, vI w1), (2, vP b270 0), (7, vI 0), (9, vP b274 0), (19, .slice (some ⟨B0, 0, none⟩) 1 1), (20, vI 1), (21, vI 0), (25, .agg #[vI i0_0, vI i0_1, vI 0, .slice a_i0_3 n_i0_3 c_i0_3, .slice (some ⟨B0, 0, none⟩) 1 1]), (26, vI w1)]) (by kernel_rfl) ?_
  refine t_v (.ldn rfl rfl rfl (.at 0 rfl rfl)) ?_
  obtain ⟨⟨t275, t276, t277, t278, t279, t280, t281, t282, t283, t284, t285, t286, t287, t288, t289, t290, t291, t292, t293, t294, t295, t296, t297, t298⟩, h299, e⟩ := bind_of e
  try dsimp only at e
  refine t_call (vs := [.agg #[vI i0_0, vI i0_1, vI 0, .slice a_i0_3 n_i0_3 c_i0_3, .slice (some ⟨B0, 0, none⟩) 1 1], vI w1, .agg #[vI 1, vI 0, vI 0, vI 0, vI 0, vI 0, vI 0, vI 0, vI 0, vI 0, .slice (some ⟨B1, 0, none⟩) 1 1]]) (H1 := ([⟨B1, [vI 0, vI 0, .slice (some ⟨B2, 0, none⟩) 3 3, vB false], 4⟩, ⟨B2, [vI 1, vI m2_1, vI 0, vI 0, vI 0, vI 0, vI 0, vI 1, vI m2_8, vI m2_9, vI 0, vI 0, vI 0, vI 0, vI 1, vI 0, vI m2_16, vI 0, vI 0, vI 0, vI 0], 21⟩] : List Own)) (F := ([⟨b274, [vI 1, vI 0, vI 0, vI 0, vI 0, vI 0, vI 0, vI 0, vI 0, vI 0, .slice (some ⟨B1, 0, none⟩) 1 1], 11⟩, ⟨b270, [vI i0_0, vI i0_1, vI 0, .slice a_i0_3 n_i0_3 c_i0_3, .slice (some ⟨B0, 0, none⟩) 1 1], 5⟩, ⟨B0, [vI 1, vI 0, vI 0, vI 0, vI 0, vI 0, vI 0, vI 0, vI 0, vI 0, .slice (some ⟨B1, 0, none⟩) 1 1], 11⟩] : List Own)) rfl rfl (by kernel_rfl) (sel_perm (is := [3, 3]) (by kernel_rfl)) (scale_Cmd_v1.ok hE_ h299) ?_
  rintro _ _ S_ ⟨N300, nN300, N301, nN301, rfl, rfl, hS_⟩
  obtain rfl := hS_.symm
  refine t_qz 3 [1, 2, 7, 19, 20, 21, 29, 30, 31] (σ' := [(1, vI w1), (2, vP b270 0), (7, vI 0), (19, .slice (some ⟨B0, 0, none⟩) 1 1), (20, vI 1), (21, vI 0), (29, .slice (some ⟨N300, 0, none⟩) 1 (nN300 / 4)), (30, vI 1), (31, vI 0)]) (by kernel_rfl) ?_
  refine t_end ?_
  show W _ _ _ _ _ _ _
  refine w_block ?_
  refine w_lun 15 ?_
  refine wl_step ?_
  refine w_seq ?_
  refine w_reg fun all => ?_
  refine t_qz 1 [1, 2, 7, 19, 20, 21, 29, 30, 31, 32] (σ' := [(1, vI w1), (2, vP b270 0), (7, vI 0), (19, .slice (some ⟨B0, 0, none⟩) 1 1), (20, vI 1), (21, vI 0), (29, .slice (some ⟨N300, 0, none⟩) 1 (nN300 / 4)), (30, vI 1), (31, vI 0), (32, vB true)]) (by kernel_rfl) ?_
  refine t_end ?_
  show W _ _ _ _ _ _ _
  refine w_seq ?_
  refine w_cond rfl (fun _ => ?_) (fun c_ => by cases c_)
  show W _ _ _ _ _ _ _
  refine w_skip ?_
  show W _ _ _ _ _ _ _
  refine w_seq ?_
  refine w_block ?_
  refine w_seq ?_
  refine w_reg fun all => ?_
  refine t_qz 1 [1, 2, 7, 19, 20, 21, 29, 30, 31, 33] (σ' := [(1, vI w1), (2, vP b270 0), (7, vI 0), (19, .slice (some ⟨B0, 0, none⟩) 1 1), (20, vI 1), (21, vI 0), (29, .slice (some ⟨N300, 0, none⟩) 1 (nN300 / 4)), (30, vI 1), (31, vI 0), (33, vP N300 0)]) (by kernel_rfl) ?_
  refine t_v (.ldn rfl rfl rfl (.at 0 rfl rfl)) ?_
  refine t_a (.new rfl rfl) fun b302 fb302 sb302 => ?_
  refine t_sti 0 (cs := [vI t279, vI t280, .slice (some ⟨N301, 0, none⟩) 3 (nN301 / 7), vB false]) rfl rfl rfl rfl rfl rfl rfl rfl rfl ?_
  refine t_keep [1, 2, 7, 11, 19, 20, 21, 29, 30, 31] (σ' := [(1, vI w1), (2, vP b270 0), (7, vI 0), (11, vP b302 0), (19, .slice (some ⟨B0, 0, none⟩) 1 1), (20, vI 1), (21, vI 0), (29, .slice (some ⟨N300, 0, none⟩) 1 (nN300 / 4)), (30, vI 1), (31, vI 0)]) (by kernel_rfl) ?_
  refine t_end ?_
  show W _ _ _ _ _ _ _
  refine w_reg fun all => ?_
  refine t_qz 1 [1, 2, 11, 19, 20, 21, 29, 30, 31, 35] (σ' := [(1, vI w1), (2, vP b270 0), (11, vP b302 0), (19, .slice (some ⟨B0, 0, none⟩) 1 1), (20, vI 1), (21, vI 0), (29, .slice (some ⟨N300, 0, none⟩) 1 (nN300 / 4)), (30, vI 1), (31, vI 0), (35, vI 0)]) (by kernel_rfl) ?_
  refine t_v (.ldn rfl rfl rfl (.at 0 rfl rfl)) ?_
  obtain ⟨u_, h303, e⟩ := bind_of e
  refine t_v (.callr (vs := [.agg #[vI t279, vI t280, .slice (some ⟨N301, 0, none⟩) 3 (nN301 / 7), vB false]]) (A := ([⟨N301, [vI 1, vI t281, vI t282, vI t283, vI t284, vI t285, vI t286, vI 1, vI t287, vI t288, vI t289, vI t290, vI t291, vI t292, vI 1, vI t293, vI t294, vI t295, vI t296, vI t297, vI t298], nN301⟩] : List Own)) (F0 := ([⟨b302, [vI t279, vI t280, .slice (some ⟨N301, 0, none⟩) 3 (nN301 / 7), vB false], 4⟩, ⟨N300, [vI t279, vI t280, .slice (some ⟨N301, 0, none⟩) 3 (nN301 / 7), vB false], nN300⟩, ⟨B1, [vI 0, vI 0, .slice (some ⟨B2, 0, none⟩) 3 3, vB false], 4⟩, ⟨B2, [vI 1, vI m2_1, vI 0, vI 0, vI 0, vI 0, vI 0, vI 1, vI m2_8, vI m2_9, vI 0, vI 0, vI 0, vI 0, vI 1, vI 0, vI m2_16, vI 0, vI 0, vI 0, vI 0], 21⟩, ⟨b274, [vI 1, vI 0, vI 0, vI 0, vI 0, vI 0, vI 0, vI 0, vI 0, vI 0, .slice (some ⟨B1, 0, none⟩) 1 1], 11⟩, ⟨b270, [vI i0_0, vI i0_1, vI 0, .slice a_i0_3 n_i0_3 c_i0_3, .slice (some ⟨B0, 0, none⟩) 1 1], 5⟩, ⟨B0, [vI 1, vI 0, vI 0, vI 0, vI 0, vI 0, vI 0, vI 0, vI 0, vI 0, .slice (some ⟨B1, 0, none⟩) 1 1], 11⟩] : List Own)) rfl rfl (by kernel_rfl) (sel_perm (is := [2]) (by kernel_rfl)) (flatten_Size_v1.ok hE_ h303)) ?_
  refine t_qz 2 [1, 2, 7, 19, 20, 21, 29, 30, 31] (σ' := [(1, vI w1), (2, vP b270 0), (7, vI 4), (19, .slice (some ⟨B0, 0, none⟩) 1 1), (20, vI 1), (21, vI 0), (29, .slice (some ⟨N300, 0, none⟩) 1 (nN300 / 4)), (30, vI 1), (31, vI 0)]) (by kernel_rfl) ?_
  refine t_end ?_
  show W _ _ _ _ _ _ _
  refine w_reg fun all => ?_
  refine t_qz 2 [1, 2, 7, 19, 20, 21, 29, 30, 31] (σ' := [(1, vI w1), (2, vP b270 0), (7, vI 4), (19, .slice (some ⟨B0, 0, none⟩) 1 1), (20, vI 1), (21, vI 0), (29, .slice (some ⟨N300, 0, none⟩) 1 (nN300 / 4)), (30, vI 1), (31, vI 1)]) (by kernel_rfl) ?_
  refine t_end ?_
  show WL _ _ _ _ _ _ _ _
  refine wl_step ?_
  refine w_seq ?_
  refine w_reg fun all => ?_
  refine t_qz 1 [1, 2, 7, 19, 20, 21, 29, 30, 31, 32] (σ' := [(1, vI w1), (2, vP b270 0), (7, vI 4), (19, .slice (some ⟨B0, 0, none⟩) 1 1), (20, vI 1), (21, vI 0), (29, .slice (some ⟨N300, 0, none⟩) 1 (nN300 / 4)), (30, vI 1), (31, vI 1), (32, vB false)]) (by kernel_rfl) ?_
  refine t_end ?_
  show W _ _ _ _ _ _ _
  refine w_seq ?_
  refine w_cond rfl (fun c_ => by cases c_) (fun _ => ?_)
  show W _ _ _ _ _ _ _
  refine w_exit ?_
  show W _ _ _ _ _ _ _
  refine w_reg fun all => ?_
  refine t_qz 2 [1, 2, 7, 19, 20, 21] (σ' := [(1, vI w1), (2, vP b270 0), (7, vI 4), (19, .slice (some ⟨B0, 0, none⟩) 1 1), (20, vI 1), (21, vI 1)]) (by kernel_rfl) ?_
  refine t_end ?_
  show WL _ _ _ _ _ _ _ _
  refine wl_step ?_
  refine w_seq ?_
  refine w_reg fun all => ?_
  refine t_qz 1 [1, 2, 7, 19, 20, 21, 22] (σ' := [(1, vI w1), (2, vP b270 0), (7, vI 4), (19, .slice (some ⟨B0, 0, none⟩) 1 1), (20, vI 1), (21, vI 1), (22, vB false)]) (by kernel_rfl) ?_
  refine t_end ?_
  show W _ _ _ _ _ _ _
  refine w_seq ?_
  refine w_cond rfl (fun c_ => by cases c_) (fun _ => ?_)
  show W _ _ _ _ _ _ _
  refine w_exit ?_
  show W _ _ _ _ _ _ _
  refine w_seq ?_
  refine w_seq ?_
  refine w_reg fun all => ?_
  refine t_qz 2 [7, 42] (σ' := [(7, vI 4), (42, vB false)]) (by kernel_rfl) ?_
  refine t_end ?_
  show W _ _ _ _ _ _ _
  refine w_cond rfl (fun c_ => by cases c_) (fun _ => ?_)
  show W _ _ _ _ _ _ _
  refine w_skip ?_
  show W _ _ _ _ _ _ _
  refine w_seq ?_
  refine w_reg fun all => ?_
  refine t_qz 3 [4, 5] (σ' := [(4, vI 4), (5, .nilIface)]) (by kernel_rfl) ?_
  refine t_end ?_
  show W _ _ _ _ _ _ _
  refine w_ret ?_
  simp only [Option.some.injEq, Prod.mk.injEq] at e
  obtain ⟨rfl, rfl⟩ := e
  exact ⟨[vI 4, .nilIface], ([⟨B0, [vI 1, vI 0, vI 0, vI 0, vI 0, vI 0, vI 0, vI 0, vI 0, vI 0, .slice (some ⟨B1, 0, none⟩) 1 1], 11⟩, ⟨B1, [vI 0, vI 0, .slice (some ⟨B2, 0, none⟩) 3 3, vB false], 4⟩, ⟨B2, [vI 1, vI m2_1, vI 0, vI 0, vI 0, vI 0, vI 0, vI 1, vI m2_8, vI m2_9, vI 0, vI 0, vI 0, vI 0, vI 1, vI 0, vI m2_16, vI 0, vI 0, vI 0, vI 0], 21⟩] : List Own), S, ⟨rfl, rfl, trivial⟩, VS.sel [7, 3, 3] (by kernel_rfl), rfl, rfl, rfl⟩
 ·rw [if_neg c273] at e
  have c273b : (t271 == 0) = false := beq_eq_false_iff_ne.mpr c273
  refine t_qz 1 [1, 2, 6, 15] (σ' := [(1, vI w1), (2, vP b270 0), (6, errV 157 A_ t271), (15, errV 157 A_ t271)]) (by kernel_rfl) ?_
  refine t_v (.eqt (a := errV 157 A_ t271) (b := .nilIface) (r := t271 == 0) rfl rfl rfl rfl (eqErr (by kernel_rfl) rfl) (bnk c273b rfl)) ?_
  refine t_keep [1, 2, 6, 16] (σ' := [(1, vI w1), (2, vP b270 0), (6, errV 157 A_ t271), (16, vB true)]) (by kernel_rfl) ?_
  refine t_end ?_
  show W _ _ _ _ _ _ _
  refine w_cond rfl (fun _ => ?_) (fun c_ => by cases c_)
  show W _ _ _ _ _ _ _
  refine w_seq ?_
  refine w_reg fun all => ?_
  refine t_qz 3 [4, 5] (σ' := [(4, vI 0), (5, errV 157 A_ t271)]) (by kernel_rfl) ?_
  refine t_end ?_
  show W _ _ _ _ _ _ _
  refine w_ret ?_
  simp only [Option.some.injEq, Prod.mk.injEq] at e
  obtain ⟨rfl, rfl⟩ := e
  exact ⟨[vI 0, errV 157 A_ t271], ([⟨B0, [vI 1, vI 0, vI 0, vI 0, vI 0, vI 0, vI 0, vI 0, vI 0, vI 0, .slice (some ⟨B1, 0, none⟩) 1 1], 11⟩, ⟨B1, [vI 0, vI 0, .slice (some ⟨B2, 0, none⟩) 3 3, vB false], 4⟩, ⟨B2, [vI 1, vI m2_1, vI 0, vI 0, vI 0, vI 0, vI 0, vI 1, vI m2_8, vI m2_9, vI 0, vI 0, vI 0, vI 0, vI 1, vI 0, vI m2_16, vI 0, vI 0, vI 0, vI 0], 21⟩] : List Own), S, ⟨rfl, rfl, trivial⟩, VS.sel [1, 1, 1] (by kernel_rfl), rfl, rfl, rfl⟩

/-- flatten.mix -/
def c56 : C :=
  (.seq (.reg [oq 6 (.mv (.const (vI 0)))])
  (.seq (.reg [oq 8 (.mv (.tmp 1)),
     oq 9 (.mv (.tmp 0)),
     oq 10 (.bin .sub (.tmp 8) (.tmp 9)),
     oq 7 (.mv (.tmp 10))])
  (.seq (.seq (.reg [oq 11 (.mv (.tmp 2)),
      oq 12 (.lns (.tmp 11))])
   (.block 0 (.seq (.reg [oq 14 (.bin .eql (.tmp 12) (.const (vI 1))),
       oq 13 (.mv (.tmp 14))])
    (.cond (.tmp 13)
     (.seq (.reg [oq 15 (.mv (.tmp 2)),
         oq 16 (.ixs 1 (.tmp 15) (.const (vI 0))),
         oq 17 (.ld none (.tmp 16)),
         oq 6 (.mv (.tmp 17))])
      .ret)
     (.seq (.reg [oq 19 (.bin .eql (.tmp 12) (.const (vI 2))),
         oq 18 (.mv (.tmp 19))])
      (.cond (.tmp 18)
       (.seq (.drw [oq 20 (.mv (.tmp 7)),
           oq 21 (.mv (.tmp 2)),
           oq 22 (.ixs 1 (.tmp 21) (.const (vI 0))),
           oq 23 (.ld none (.tmp 22)),
           oq 24 (.bin .mul (.tmp 20) (.tmp 23)),
           oq 25 (.mv (.tmp 0)),
           oq 26 (.mv (.tmp 2)),
           oq 27 (.ixs 1 (.tmp 26) (.const (vI 1))),
           oq 28 (.ld none (.tmp 27)),
           oq 29 (.bin .mul (.tmp 25) (.tmp 28)),
           oq 30 (.bin .add (.tmp 24) (.tmp 29)),
           oq 31 (.mv (.tmp 1)),
           oq 32 (.call 51 [(.tmp 30), (.tmp 31)]),
           oq 6 (.mv (.tmp 32))] [[], [], [1], [2], [0, 3], [], [], [6], [7], [5, 8], [4, 9], [], [10, 11], [12, 12, 0, 1, 2, 3, 4, 5, 6, 7, 8, 9, 10, 11, 12]])
        .ret)
       (.seq (.reg [oq 34 (.bin .eql (.tmp 12) (.const (vI 3))),
           oq 33 (.mv (.tmp 34))])
        (.cond (.tmp 33)
         (.seq (.drw [oq 35 (.mv (.tmp 7)),
             oq 36 (.mv (.tmp 7)),
             oq 37 (.bin .mul (.tmp 35) (.tmp 36)),
             oq 38 (.mv (.tmp 2)),
             oq 39 (.ixs 1 (.tmp 38) (.const (vI 0))),
             oq 40 (.ld none (.tmp 39)),
             oq 41 (.bin .mul (.tmp 37) (.tmp 40)),
             oq 42 (.mv (.tmp 0)),
             oq 43 (.bin .mul (.const (vI 2)) (.tmp 42)),
             oq 44 (.mv (.tmp 7)),
             oq 45 (.bin .mul (.tmp 43) (.tmp 44)),
             oq 46 (.mv (.tmp 2)),
             oq 47 (.ixs 1 (.tmp 46) (.const (vI 1))),
             oq 48 (.ld none (.tmp 47)),
             oq 49 (.bin .mul (.tmp 45) (.tmp 48)),
             oq 50 (.bin .add (.tmp 41) (.tmp 49)),
             oq 51 (.mv (.tmp 0)),
             oq 52 (.mv (.tmp 0)),
             oq 53 (.bin .mul (.tmp 51) (.tmp 52)),
             oq 54 (.mv (.tmp 2)),
             oq 55 (.ixs 1 (.tmp 54) (.const (vI 2))),
             oq 56 (.ld none (.tmp 55)),
             oq 57 (.bin .mul (.tmp 53) (.tmp 56)),
             oq 58 (.bin .add (.tmp 50) (.tmp 57)),
             oq 59 (.mv (.tmp 1)),
             oq 60 (.mv (.tmp 1)),
             oq 61 (.bin .mul (.tmp 59) (.tmp 60)),
             oq 62 (.call 51 [(.tmp 58), (.tmp 61)]),
             oq 6 (.mv (.tmp 62))] [[], [], [0, 1], [], [3], [4], [2, 5], [], [7], [], [8, 9], [], [11], [12], [10, 13], [6, 14], [], [], [16, 17], [], [19], [20], [18, 21], [15, 22], [], [], [24, 25], [23, 26], [27, 27, 0, 1, 2, 3, 4, 5, 6, 7, 8, 9, 10, 11, 12, 13, 14, 15, 16, 17, 18, 19, 20, 21, 22, 23, 24, 25, 26, 27]])
          .ret)
         .skip))))))))
  (.seq (.drw [oq 63 (.mv (.tmp 7)),
     oq 64 (.mv (.tmp 7)),
     oq 65 (.bin .mul (.tmp 63) (.tmp 64)),
     oq 66 (.mv (.tmp 7)),
     oq 67 (.bin .mul (.tmp 65) (.tmp 66)),
     oq 68 (.mv (.tmp 2)),
     oq 69 (.ixs 1 (.tmp 68) (.const (vI 0))),
     oq 70 (.ld none (.tmp 69)),
     oq 71 (.bin .mul (.tmp 67) (.tmp 70)),
     oq 72 (.mv (.tmp 0)),
     oq 73 (.bin .mul (.const (vI 3)) (.tmp 72)),
     oq 74 (.mv (.tmp 7)),
     oq 75 (.bin .mul (.tmp 73) (.tmp 74)),
     oq 76 (.mv (.tmp 7)),
     oq 77 (.bin .mul (.tmp 75) (.tmp 76)),
     oq 78 (.mv (.tmp 2)),
     oq 79 (.ixs 1 (.tmp 78) (.const (vI 1))),
     oq 80 (.ld none (.tmp 79)),
     oq 81 (.bin .mul (.tmp 77) (.tmp 80)),
     oq 82 (.bin .add (.tmp 71) (.tmp 81)),
     oq 83 (.mv (.tmp 0)),
     oq 84 (.bin .mul (.const (vI 3)) (.tmp 83)),
     oq 85 (.mv (.tmp 0)),
     oq 86 (.bin .mul (.tmp 84) (.tmp 85)),
     oq 87 (.mv (.tmp 7)),
     oq 88 (.bin .mul (.tmp 86) (.tmp 87)),
     oq 89 (.mv (.tmp 2)),
     oq 90 (.ixs 1 (.tmp 89) (.const (vI 2))),
     oq 91 (.ld none (.tmp 90)),
     oq 92 (.bin .mul (.tmp 88) (.tmp 91)),
     oq 93 (.bin .add (.tmp 82) (.tmp 92)),
     oq 94 (.mv (.tmp 0)),
     oq 95 (.mv (.tmp 0)),
     oq 96 (.bin .mul (.tmp 94) (.tmp 95)),
     oq 97 (.mv (.tmp 0)),
     oq 98 (.bin .mul (.tmp 96) (.tmp 97)),
     oq 99 (.mv (.tmp 2)),
     oq 100 (.ixs 1 (.tmp 99) (.const (vI 3))),
     oq 101 (.ld none (.tmp 100)),
     oq 102 (.bin .mul (.tmp 98) (.tmp 101)),
     oq 103 (.bin .add (.tmp 93) (.tmp 102)),
     oq 104 (.mv (.tmp 1)),
     oq 105 (.mv (.tmp 1)),
     oq 106 (.bin .mul (.tmp 104) (.tmp 105)),
     oq 107 (.mv (.tmp 1)),
     oq 108 (.bin .mul (.tmp 106) (.tmp 107)),
     oq 109 (.call 51 [(.tmp 103), (.tmp 108)]),
     oq 6 (.mv (.tmp 109))] [[], [], [0, 1], [], [2, 3], [], [5], [6], [4, 7], [], [9], [], [10, 11], [], [12, 13], [], [15], [16], [14, 17], [8, 18], [], [20], [], [21, 22], [], [23, 24], [], [26], [27], [25, 28], [19, 29], [], [], [31, 32], [], [33, 34], [], [36], [37], [35, 38], [30, 39], [], [], [41, 42], [], [43, 44], [40, 45], [46, 46, 0, 1, 2, 3, 4, 5, 6, 7, 8, 9, 10, 11, 12, 13, 14, 15, 16, 17, 18, 19, 20, 21, 22, 23, 24, 25, 26, 27, 28, 29, 30, 31, 32, 33, 34, 35, 36, 37, 38, 39, 40, 41, 42, 43, 44, 45, 46]])
  .ret))))
def flatten_mix_v1.f (i0 : Int) (n1 : Int) (m0_0 : Int) (m0_1 : Int) : Option (Int) := (fixed_Round.f (wr64 ((wr64 ((wr64 (n1 - i0)) * m0_0)) + (wr64 (i0 * m0_1)))) n1).bind fun t216 => (some t216)
theorem flatten_mix_v1.ok {S : Seal} {B0 nB0 : Nat} {i0 : Int} {n1 : Int} {m0_0 : Int} {m0_1 : Int} {r0_ : Int}{A_ : Int → Addr} (hE_ : EO gsE S A_ 157) (e : flatten_mix_v1.f i0 n1 m0_0 m0_1 = some r0_) :
    Cal Tryd.prog 56 [vI i0, vI n1, .slice (some ⟨B0, 0, none⟩) 2 (nB0 / 1)] ([⟨B0, [vI m0_0, vI m0_1], nB0⟩] : List Own) S fun v H' S' => v = vI r0_ ∧ H' = ([⟨B0, [vI m0_0, vI m0_1], nB0⟩] : List Own) ∧ S' = S := by
 unfold flatten_mix_v1.f at e
 refine cal_of (c := c56) (N := 110) Tryd.func56 rfl rfl (by kernel_rfl) (rs := [.t 6]) (by kernel_rfl) (Nat.le_of_ble_eq_true rfl) ?_
 unfold c56
 refine w_seq ?_
 refine w_reg fun all => ?_
 refine t_qz 1 [0, 1, 2] (σ' := [(0, vI i0), (1, vI n1), (2, .slice (some ⟨B0, 0, none⟩) 2 (nB0 / 1))]) (by kernel_rfl) ?_
 refine t_end ?_
 show W _ _ _ _ _ _ _
 refine w_seq ?_
 refine w_reg fun all => ?_
 refine t_qz 4 [0, 1, 2, 7] (σ' := [(0, vI i0), (1, vI n1), (2, .slice (some ⟨B0, 0, none⟩) 2 (nB0 / 1)), (7, vI (wr64 (n1 - i0)))]) (by kernel_rfl) ?_
 refine t_end ?_
 show W _ _ _ _ _ _ _
 refine w_seq ?_
 refine w_seq ?_
 refine w_reg fun all => ?_
 refine t_qz 2 [0, 1, 2, 7, 12] (σ' := [(0, vI i0), (1, vI n1), (2, .slice (some ⟨B0, 0, none⟩) 2 (nB0 / 1)), (7, vI (wr64 (n1 - i0))), (12, vI 2)]) (by kernel_rfl) ?_
 refine t_end ?_
 show W _ _ _ _ _ _ _
 refine w_block ?_
 refine w_seq ?_
 refine w_reg fun all => ?_
 refine t_qz 2 [0, 1, 2, 7, 12, 13] (σ' := [(0, vI i0), (1, vI n1), (2, .slice (some ⟨B0, 0, none⟩) 2 (nB0 / 1)), (7, vI (wr64 (n1 - i0))), (12, vI 2), (13, vB false)]) (by kernel_rfl) ?_
 refine t_end ?_
 show W _ _ _ _ _ _ _
 refine w_cond rfl (fun c_ => by cases c_) (fun _ => ?_)
 show W _ _ _ _ _ _ _
 refine w_seq ?_
 refine w_reg fun all => ?_
 refine t_qz 2 [0, 1, 2, 7, 12, 18] (σ' := [(0, vI i0), (1, vI n1), (2, .slice (some ⟨B0, 0, none⟩) 2 (nB0 / 1)), (7, vI (wr64 (n1 - i0))), (12, vI 2), (18, vB true)]) (by kernel_rfl) ?_
 refine t_end ?_
 show W _ _ _ _ _ _ _
 refine w_cond rfl (fun _ => ?_) (fun c_ => by cases c_)
 show W _ _ _ _ _ _ _
 refine w_seq ?_
 obtain ⟨t216, h217, e⟩ := bind_of e
 refine w_drwE mixed 14 [.v (vI (wr64 (n1 - i0))), .v (.slice (some ⟨B0, 0, none⟩) 2 (nB0 / 1)), .v (vP B0 0), .v (vI m0_0), .v (vI (wr64 ((wr64 (n1 - i0)) * m0_0))), .v (vI i0), .v (.slice (some ⟨B0, 0, none⟩) 2 (nB0 / 1)), .v (vP B0 1), .v (vI m0_1), .v (vI (wr64 (i0 * m0_1))), .v (vI (wr64 ((wr64 ((wr64 (n1 - i0)) * m0_0)) + (wr64 (i0 * m0_1))))), .v (vI n1), .v (vI t216), .v (vI t216)] (by kernel_rfl) ?_ ?_
 ·refine DI.sq 3 (by kernel_rfl) rfl ?_
  refine .cons (.ld1 rfl rfl rfl (.at 0 rfl rfl)) ?_
  refine DI.sq 4 (by kernel_rfl) rfl ?_
  refine .cons (.ld1 rfl rfl rfl (.at 0 rfl rfl)) ?_
  refine DI.sq 3 (by kernel_rfl) rfl ?_
  refine .cons (.call (vs := [vI (wr64 ((wr64 ((wr64 (n1 - i0)) * m0_0)) + (wr64 (i0 * m0_1)))), vI n1]) rfl rfl (by kernel_rfl) (fixed_Round.ok hE_ h217)) ?_
  refine DI.sq 1 (by kernel_rfl) rfl ?_
  exact .nil
 refine fk_q 14 [6] (σ' := [(6, vI t216)]) t_more (by kernel_rfl) ?_
 refine fk_nil fun all => ?_
 refine t_keep [6] (σ' := [(6, vI t216)]) (by kernel_rfl) ?_
 refine t_end ?_
 show W _ _ _ _ _ _ _
 refine w_ret ?_
 obtain rfl := Option.some.inj e
 exact ⟨[vI t216], ([⟨B0, [vI m0_0, vI m0_1], nB0⟩] : List Own), S, ⟨rfl, trivial⟩, VS.sel [0] (by kernel_rfl), rfl, rfl, rfl⟩
end Go.Proofs.YtobjaddicodiaaaDoor.QRenderWhole
