/- Functions of the program as Lean functions, each with the proof of its walk. Written by gen.py, a program of these sessions. -/
import Derived.Test.YtobjaddicodiaaaDoorX
import Derived.Test.YtobjaddicodiaaaDoorProg
namespace Go.Proofs.YtobjaddicodiaaaDoor.QRenderRows
open Go Go.RowKit Go.Proofs.YtobjaddicodiaaaDoorE Go.Proofs.YtobjaddicodiaaaDoorX
set_option linter.unusedVariables false
set_option maxRecDepth 100000
set_option maxHeartbeats 8000000
theorem mixed : Tryd.prog.follows .mixedOrders = true := by kernel_rfl
abbrev gsE : List Nat := [3, 4, 5, 6, 0, 7, 8, 9, 10, 11, 12, 2, 1]
theorem lsame_ {a b : Nat} {u : Unit} (h : (if a = b then some () else none : Option Unit) = some u) : b = a := by split at h <;> rename_i q <;> first | exact q.symm | cases h
def E_i64 : En (Int) := ⟨1, fun t => [.int .i64 t], fun _ => rfl, fun _ => rfl⟩
def E_u84 : En (Int × Int × Int × Int) := ⟨4, fun t => [.int .u8 t.1, .int .u8 t.2.1, .int .u8 t.2.2.1, .int .u8 t.2.2.2], fun _ => rfl, fun _ => rfl⟩
def E_i647 : En (Int × Int × Int × Int × Int × Int × Int) := ⟨7, fun t => [.int .i64 t.1, .int .i64 t.2.1, .int .i64 t.2.2.1, .int .i64 t.2.2.2.1, .int .i64 t.2.2.2.2.1, .int .i64 t.2.2.2.2.2.1, .int .i64 t.2.2.2.2.2.2], fun _ => rfl, fun _ => rfl⟩
def N_0 : Nn (Int × Int × List (Int × Int × Int × Int × Int × Int × Int) × Bool) := ⟨4, fun R t vs => ∃ (a2 : Option Addr) (c2 : Nat), vs = [.int .i64 t.1, .int .i64 t.2.1, .slice a2 t.2.2.1.length c2, .bool t.2.2.2] ∧ SlN R (flatN E_i647) t.2.2.1 a2, fun ⟨_, _, e, _⟩ => by rw [e]; rfl, fun ⟨_, _, e, _⟩ => by rw [e]; rfl, fun le ⟨a2, c2, e, h2⟩ => ⟨a2, c2, e, h2.mono le⟩⟩
def N_1 : Nn (Int × Int × Int × Int × Int × Int × Int × Int × Int × Int × List (Int × Int × List (Int × Int × Int × Int × Int × Int × Int) × Bool)) := ⟨11, fun R t vs => ∃ (a10 : Option Addr) (c10 : Nat), vs = [.int .i64 t.1, .int .i64 t.2.1, .int .i64 t.2.2.1, .int .i64 t.2.2.2.1, .int .i64 t.2.2.2.2.1, .int .i64 t.2.2.2.2.2.1, .int .i64 t.2.2.2.2.2.2.1, .int .i64 t.2.2.2.2.2.2.2.1, .int .i64 t.2.2.2.2.2.2.2.2.1, .int .i64 t.2.2.2.2.2.2.2.2.2.1, .slice a10 t.2.2.2.2.2.2.2.2.2.2.length c10] ∧ SlN R N_0 t.2.2.2.2.2.2.2.2.2.2 a10, fun ⟨_, _, e, _⟩ => by rw [e]; rfl, fun ⟨_, _, e, _⟩ => by rw [e]; rfl, fun le ⟨a10, c10, e, h10⟩ => ⟨a10, c10, e, h10.mono le⟩⟩
def E_i644 : En (Int × Int × Int × Int) := ⟨4, fun t => [.int .i64 t.1, .int .i64 t.2.1, .int .i64 t.2.2.1, .int .i64 t.2.2.2], fun _ => rfl, fun _ => rfl⟩
def N_2 : Nn (Int × Int × Int × Int × Int × Int × Int × Int × Int × Int × List (Int × Int × List (Int × Int × Int × Int × Int × Int × Int) × Bool) × List (Int × Int × Int × Int)) := ⟨12, fun R t vs => ∃ (a10 : Option Addr) (c10 : Nat) (a11 : Option Addr) (c11 : Nat), vs = [.int .i64 t.1, .int .i64 t.2.1, .int .i64 t.2.2.1, .int .i64 t.2.2.2.1, .int .i64 t.2.2.2.2.1, .int .i64 t.2.2.2.2.2.1, .int .i64 t.2.2.2.2.2.2.1, .int .i64 t.2.2.2.2.2.2.2.1, .int .i64 t.2.2.2.2.2.2.2.2.1, .int .i64 t.2.2.2.2.2.2.2.2.2.1, .slice a10 t.2.2.2.2.2.2.2.2.2.2.1.length c10, .slice a11 t.2.2.2.2.2.2.2.2.2.2.2.length c11] ∧ SlN R N_0 t.2.2.2.2.2.2.2.2.2.2.1 a10 ∧ SlN R (flatN E_i644) t.2.2.2.2.2.2.2.2.2.2.2 a11, fun ⟨_, _, _, _, e, _⟩ => by rw [e]; rfl, fun ⟨_, _, _, _, e, _⟩ => by rw [e]; rfl, fun le ⟨a10, c10, a11, c11, e, h10, h11⟩ => ⟨a10, c10, a11, c11, e, h10.mono le, h11.mono le⟩⟩
def E_u64 : En (Int) := ⟨1, fun t => [.int .u64 t], fun _ => rfl, fun _ => rfl⟩
def E_u8 : En (Int) := ⟨1, fun t => [.int .u8 t], fun _ => rfl, fun _ => rfl⟩
/-- fixed.Down -/
def c34 : C := (.seq (.reg [oq 4 (.mv (.const (vI 0)))]) (.seq (.seq (.reg [oq 6 (.mv 1), oq 7 (.bin .lss 6 (.const (vI 1)))]) (.cond 7 (.seq (.reg [oq 4 (.mv (.const (vI 0)))]) .ret) .skip)) (.seq (.reg [oq 8 (.mv 0), oq 9 (.mv 1), oq 10 (.bin .quo 8 9), oq 5 (.mv 10)]) (.seq (.seq (.reg [oq 11 (.mv 0), oq 12 (.mv 1), oq 13 (.bin .rem 11 12), oq 14 (.bin .lss 13 (.const (vI 0)))]) (.cond 14 (.reg [oq 15 (.mv 5), oq 16 (.bin .sub 15 (.const (vI 1))), oq 5 (.mv 16)]) .skip)) (.seq (.reg [oq 17 (.mv 5), oq 4 (.mv 17)]) .ret)))))
def fixed_Down.f (a0 : Int) (b1 : Int) : Option (Int) := if b1 < 1 then (some 0) else (if b1 = 0 then none else (if (Int.tmod a0 b1) < 0 then (some (wr64 ((wr64 (Int.tdiv a0 b1)) - 1))) else (some (wr64 (Int.tdiv a0 b1)))))
theorem fixed_Down.ok {S : Seal} {a0 b1 r0_ : Int}{A_ : Int → Addr} (hE_ : EO gsE S A_ 157) (e : fixed_Down.f a0 b1 = some r0_) :
    Cal Tryd.prog 34 [vI a0, vI b1] [] S fun v H' S' => v = vI r0_ ∧ H' = [] ∧ S' = S := by
 unfold fixed_Down.f at e
 refine cal_of (c := c34) (N := 18) Tryd.func34 rfl rfl (by kernel_rfl) (rs := [.t 4]) (by kernel_rfl) (Nat.le_of_ble_eq_true rfl) ?_
 unfold c34
 refine wx mixed 1 [] 0 [] (zWL [] ?_)
 refine w_ (w_seq ?_)
 by_cases c8 : b1 < 1
 ·rw [if_pos c8] at e
  have c8b : (decide (b1 < 1)) = true := decide_eq_true c8
  refine wxM mixed 1 [] 0 [(1, spQ (.bin .lss 6 (.const (vI 1))) [vI b1, vI 1] (congrArg (fun t => some (Value.bool t)) c8b))] (zWL [] ?_)
  refine w_ (w_ct (w_ ?_))
  refine wxM mixed 1 [] 0 [] (zWL [] ?_)
  refine w_ (w_ret ?_)
  obtain rfl := Option.some.inj e
  exact ⟨[_], [], S, ⟨(show gt _ _ = some _ from (by kernel_rfl)), trivial⟩, VS.none, rfl, rfl, rfl⟩
 ·rw [if_neg c8] at e
  have c8b : (decide (b1 < 1)) = false := decide_eq_false c8
  refine wqM mixed [] 0 .nrm [(1, spQ (.bin .lss 6 (.const (vI 1))) [vI b1, vI 1] (congrArg (fun t => some (Value.bool t)) c8b))] (zQL [] ?_)
  refine w_ ?_
  have c9 : ¬ b1 = 0 := by
   intro h_; rw [if_pos h_] at e; cases e
  rw [if_neg c9] at e
  refine wxM mixed 1 [] 0 [(2, spQ (.bin .quo 8 9) [vI a0, vI b1] (qv_quo rfl rfl c9))] (zWL [] ?_)
  refine w_ ?_
  by_cases c10 : (Int.tmod a0 b1) < 0
  ·rw [if_pos c10] at e
   have c10b : (decide ((Int.tmod a0 b1) < 0)) = true := decide_eq_true c10
   refine wxM mixed 2 [] 0 [(2, spQ (.bin .rem 11 12) [vI a0, vI b1] (qv_rem rfl rfl c9)), (3, spQ (.bin .lss 13 (.const (vI 0))) [vI (Int.tmod a0 b1), vI 0] (congrArg (fun t => some (Value.bool t)) c10b))] (zWL [] ?_)
   refine w_ (w_ret ?_)
   obtain rfl := Option.some.inj e
   exact ⟨[_], [], S, ⟨(show gt _ _ = some _ from (by kernel_rfl)), trivial⟩, VS.none, rfl, rfl, rfl⟩
  ·rw [if_neg c10] at e
   have c10b : (decide ((Int.tmod a0 b1) < 0)) = false := decide_eq_false c10
   refine wxM mixed 2 [] 0 [(2, spQ (.bin .rem 11 12) [vI a0, vI b1] (qv_rem rfl rfl c9)), (3, spQ (.bin .lss 13 (.const (vI 0))) [vI (Int.tmod a0 b1), vI 0] (congrArg (fun t => some (Value.bool t)) c10b))] (zWL [] ?_)
   refine w_ (w_ret ?_)
   obtain rfl := Option.some.inj e
   exact ⟨[_], [], S, ⟨(show gt _ _ = some _ from (by kernel_rfl)), trivial⟩, VS.none, rfl, rfl, rfl⟩

/-- scale.Height -/
def c19 : C := (.seq (.reg [oq 2 (.box 0), oq 4 (.mv (.const (vI 0)))]) (.seq (.reg [oq 5 (.pad 1 2), oq 6 (.ld none 5), oq 7 (.un .neg 6), oq 8 (.mv 1), oq 9 (.bin .mul 7 8), oq 10 (.pad 0 2), oq 11 (.ld none 10), oq 12 (.call 34 [9, 11]), oq 13 (.un .neg 12), oq 4 (.mv 13)]) .ret))
def scale_Height_v1.f (i0_0 : Int) (i0_1 : Int) (i0_2 : Int) (w1 : Int) : Option (Int) := (fixed_Down.f (wr64 ((wr64 (0 - i0_1)) * w1)) i0_0).bind fun t8 => (some (wr64 (0 - t8)))
theorem scale_Height_v1.ok {S : Seal} {i0_0 i0_1 i0_2 w1 r0_ : Int}{A_ : Int → Addr} (hE_ : EO gsE S A_ 157) {a_i0_3 : Option Addr} {n_i0_3 c_i0_3 : Nat} {a_i0_4 : Option Addr} {n_i0_4 c_i0_4 : Nat} (e : scale_Height_v1.f i0_0 i0_1 i0_2 w1 = some r0_) :
    Cal Tryd.prog 19 [.agg #[vI i0_0, vI i0_1, vI i0_2, .slice a_i0_3 n_i0_3 c_i0_3, .slice a_i0_4 n_i0_4 c_i0_4], vI w1] [] S fun v H' S' => v = vI r0_ ∧ H' = [] ∧ S' = S := by
 unfold scale_Height_v1.f at e
 refine cal_of (c := c19) (N := 14) Tryd.func19 rfl rfl (by kernel_rfl) (rs := [.t 4]) (by kernel_rfl) (Nat.le_of_ble_eq_true rfl) ?_
 unfold c19
 obtain ⟨t8, h9, e⟩ := bind_of e
 refine wx mixed 2 [0, 0] 1 [(9, spP 34 [9, 11] (fixed_Down.ok hE_ h9))] fun b7 => zWL [0] ?_
 refine w_ (w_ret ?_)
 obtain rfl := Option.some.inj e
 exact ⟨[_], [], S, ⟨(show gt _ _ = some _ from (by kernel_rfl)), trivial⟩, VS.none, rfl, rfl, rfl⟩

/-- scale.Check -/
def c30 : C := (.seq (.reg [oq 2 (.box 0), oq 4 (.mv (.const .nilIface))]) (.seq (.block 0 (.seq (.reg [oq 6 (.mv 1), oq 7 (.bin .lss 6 (.const (vI 1))), oq 8 (.mv 7), ⟨(some 9), .mv 1, (some (8, false))⟩, ⟨(some 10), .bin .gtr 9 (.const (vI 16384)), (some (8, false))⟩, oq 11 (.pk 8 (.const (vB true)) 10), oq 5 (.mv 11)]) (.cond 5 (.seq (.reg [oq 12 (.ld none (.global 2)), oq 4 (.mv 12)]) .ret) (.seq (.reg [oq 14 (.ld (some 5) 2), oq 15 (.mv 1), oq 16 (.call 19 [14, 15]), oq 17 (.bin .gtr 16 (.const (vI 16384))), oq 13 (.mv 17)]) (.cond 13 (.seq (.reg [oq 18 (.ld none (.global 1)), oq 4 (.mv 18)]) .ret) .skip))))) (.seq (.reg [oq 4 (.mv (.const .nilIface))]) .ret)))
def scale_Check_v1.f (i0_0 : Int) (i0_1 : Int) (i0_2 : Int) (w1 : Int) : Option (Int) := if w1 < 1 then (some 3) else (if w1 > 16384 then (some 3) else ((scale_Height_v1.f i0_0 i0_1 i0_2 w1).bind fun t7 => (if t7 > 16384 then (some 2) else (some 0))))
theorem scale_Check_v1.ok {S : Seal} {i0_0 i0_1 i0_2 w1 r0_ : Int}{A_ : Int → Addr} (hE_ : EO gsE S A_ 157) {a_i0_3 : Option Addr} {n_i0_3 c_i0_3 : Nat} {a_i0_4 : Option Addr} {n_i0_4 c_i0_4 : Nat} (e : scale_Check_v1.f i0_0 i0_1 i0_2 w1 = some r0_) :
    Cal Tryd.prog 30 [.agg #[vI i0_0, vI i0_1, vI i0_2, .slice a_i0_3 n_i0_3 c_i0_3, .slice a_i0_4 n_i0_4 c_i0_4], vI w1] [] S fun v H' S' => v = errV 157 A_ r0_ ∧ H' = [] ∧ S' = S := by
 unfold scale_Check_v1.f at e
 refine cal_of (c := c30) (N := 19) Tryd.func30 rfl rfl (by kernel_rfl) (rs := [.t 4]) (by kernel_rfl) (Nat.le_of_ble_eq_true rfl) ?_
 unfold c30
 refine wx mixed 1 [] 1 [] fun b4 => zWL [] ?_
 refine w_ (w_seq (w_block ?_))
 by_cases c5 : w1 < 1
 ·rw [if_pos c5] at e
  have c5b : (decide (w1 < 1)) = true := decide_eq_true c5
  refine wxM mixed 1 [] 0 [(1, spQ (.bin .lss 6 (.const (vI 1))) [vI w1, vI 1] (congrArg (fun t => some (Value.bool t)) c5b))] (zWL [] ?_)
  refine w_ (w_ct (w_ ?_))
  refine wxM mixed 1 [] 0 [(0, spL1 (.global 2) 2 0 [] (fun _ => hE_.atc 2 3 (by decide) (by decide)))] (zWL [0] ?_)
  refine w_ (w_ret ?_)
  obtain rfl := Option.some.inj e
  exact ⟨[_], [], S, ⟨(show gt _ _ = some _ from (by kernel_rfl)), trivial⟩, VS.none, rfl, rfl, rfl⟩
 ·rw [if_neg c5] at e
  have c5b : (decide (w1 < 1)) = false := decide_eq_false c5
  by_cases c6 : w1 > 16384
  ·rw [if_pos c6] at e
   have c6b : (decide (w1 > 16384)) = true := decide_eq_true c6
   refine wxM mixed 1 [] 0 [(1, spQ (.bin .lss 6 (.const (vI 1))) [vI w1, vI 1] (congrArg (fun t => some (Value.bool t)) c5b)), (4, spQ (.bin .gtr 9 (.const (vI 16384))) [vI w1, vI 16384] (congrArg (fun t => some (Value.bool t)) c6b))] (zWL [] ?_)
   refine w_ (w_ct (w_ ?_))
   refine wxM mixed 1 [] 0 [(0, spL1 (.global 2) 2 0 [] (fun _ => hE_.atc 2 3 (by decide) (by decide)))] (zWL [0] ?_)
   refine w_ (w_ret ?_)
   obtain rfl := Option.some.inj e
   exact ⟨[_], [], S, ⟨(show gt _ _ = some _ from (by kernel_rfl)), trivial⟩, VS.none, rfl, rfl, rfl⟩
  ·rw [if_neg c6] at e
   have c6b : (decide (w1 > 16384)) = false := decide_eq_false c6
   refine wxM mixed 1 [] 0 [(1, spQ (.bin .lss 6 (.const (vI 1))) [vI w1, vI 1] (congrArg (fun t => some (Value.bool t)) c5b)), (4, spQ (.bin .gtr 9 (.const (vI 16384))) [vI w1, vI 16384] (congrArg (fun t => some (Value.bool t)) c6b))] (zWL [] ?_)
   refine w_ (w_cf (w_ ?_))
   obtain ⟨t7, h8, e⟩ := bind_of e
   by_cases c9 : t7 > 16384
   ·rw [if_pos c9] at e
    have c9b : (decide (t7 > 16384)) = true := decide_eq_true c9
    refine wxM mixed 1 [0] 0 [(2, spP 19 [14, 15] (vs := [.agg #[vI i0_0, vI i0_1, vI i0_2, .slice a_i0_3 n_i0_3 c_i0_3, .slice a_i0_4 n_i0_4 c_i0_4], vI w1]) (scale_Height_v1.ok hE_ h8)), (3, spQ (.bin .gtr 16 (.const (vI 16384))) [vI t7, vI 16384] (congrArg (fun t => some (Value.bool t)) c9b))] (zWL [0] ?_)
    refine w_ (w_ct (w_ ?_))
    refine wxM mixed 1 [] 0 [(0, spL1 (.global 1) 1 0 [] (fun _ => hE_.atc 1 2 (by decide) (by decide)))] (zWL [] ?_)
    refine w_ (w_ret ?_)
    obtain rfl := Option.some.inj e
    exact ⟨[_], [], S, ⟨(show gt _ _ = some _ from (by kernel_rfl)), trivial⟩, VS.none, rfl, rfl, rfl⟩
   ·rw [if_neg c9] at e
    have c9b : (decide (t7 > 16384)) = false := decide_eq_false c9
    refine wqM mixed [0] 0 .nrm [(2, spP 19 [14, 15] (vs := [.agg #[vI i0_0, vI i0_1, vI i0_2, .slice a_i0_3 n_i0_3 c_i0_3, .slice a_i0_4 n_i0_4 c_i0_4], vI w1]) (scale_Height_v1.ok hE_ h8)), (3, spQ (.bin .gtr 16 (.const (vI 16384))) [vI t7, vI 16384] (congrArg (fun t => some (Value.bool t)) c9b))] (zQL [0] ?_)
    refine w_ ?_
    refine wxM mixed 1 [] 0 [] (zWL [] ?_)
    refine w_ (w_ret ?_)
    obtain rfl := Option.some.inj e
    exact ⟨[_], [], S, ⟨(show gt _ _ = some _ from (by kernel_rfl)), trivial⟩, VS.none, rfl, rfl, rfl⟩

/-- fixed.Round -/
def c51 : C := (.seq (.reg [oq 4 (.mv (.const (vI 0)))]) (.seq (.seq (.reg [oq 7 (.mv 1), oq 8 (.bin .lss 7 (.const (vI 1)))]) (.cond 8 (.seq (.reg [oq 4 (.mv (.const (vI 0)))]) .ret) .skip)) (.seq (.reg [oq 9 (.mv 0), oq 10 (.mv 1), oq 11 (.call 34 [9, 10]), oq 5 (.mv 11)]) (.seq (.seq (.reg [oq 12 (.mv 0), oq 13 (.mv 5), oq 14 (.mv 1), oq 15 (.bin .mul 13 14), oq 16 (.bin .sub 12 15), oq 6 (.mv 16)]) (.seq (.reg [oq 17 (.mv 6), oq 18 (.mv 1), oq 19 (.mv 6), oq 20 (.bin .sub 18 19), oq 21 (.bin .geq 17 20)]) (.cond 21 (.reg [oq 22 (.mv 5), oq 23 (.bin .add 22 (.const (vI 1))), oq 5 (.mv 23)]) .skip))) (.seq (.reg [oq 24 (.mv 5), oq 4 (.mv 24)]) .ret)))))
def fixed_Round.f (a0 : Int) (b1 : Int) : Option (Int) := if b1 < 1 then (some 0) else ((fixed_Down.f a0 b1).bind fun t46 => (if (wr64 (a0 - (wr64 (t46 * b1)))) ≥ (wr64 (b1 - (wr64 (a0 - (wr64 (t46 * b1)))))) then (some (wr64 (t46 + 1))) else (some t46)))
theorem fixed_Round.ok {S : Seal} {a0 b1 r0_ : Int}{A_ : Int → Addr} (hE_ : EO gsE S A_ 157) (e : fixed_Round.f a0 b1 = some r0_) :
    Cal Tryd.prog 51 [vI a0, vI b1] [] S fun v H' S' => v = vI r0_ ∧ H' = [] ∧ S' = S := by
 unfold fixed_Round.f at e
 refine cal_of (c := c51) (N := 25) Tryd.func51 rfl rfl (by kernel_rfl) (rs := [.t 4]) (by kernel_rfl) (Nat.le_of_ble_eq_true rfl) ?_
 unfold c51
 refine wx mixed 1 [] 0 [] (zWL [] ?_)
 refine w_ (w_seq ?_)
 by_cases c45 : b1 < 1
 ·rw [if_pos c45] at e
  have c45b : (decide (b1 < 1)) = true := decide_eq_true c45
  refine wxM mixed 1 [] 0 [(1, spQ (.bin .lss 7 (.const (vI 1))) [vI b1, vI 1] (congrArg (fun t => some (Value.bool t)) c45b))] (zWL [] ?_)
  refine w_ (w_ct (w_ ?_))
  refine wxM mixed 1 [] 0 [] (zWL [] ?_)
  refine w_ (w_ret ?_)
  obtain rfl := Option.some.inj e
  exact ⟨[_], [], S, ⟨(show gt _ _ = some _ from (by kernel_rfl)), trivial⟩, VS.none, rfl, rfl, rfl⟩
 ·rw [if_neg c45] at e
  have c45b : (decide (b1 < 1)) = false := decide_eq_false c45
  refine wqM mixed [] 0 .nrm [(1, spQ (.bin .lss 7 (.const (vI 1))) [vI b1, vI 1] (congrArg (fun t => some (Value.bool t)) c45b))] (zQL [] ?_)
  refine w_ ?_
  obtain ⟨t46, h47, e⟩ := bind_of e
  refine wxM mixed 1 [] 0 [(2, spP 34 [9, 10] (fixed_Down.ok hE_ h47))] (zWL [] ?_)
  refine w_ ?_
  by_cases c48 : (wr64 (a0 - (wr64 (t46 * b1)))) ≥ (wr64 (b1 - (wr64 (a0 - (wr64 (t46 * b1))))))
  ·rw [if_pos c48] at e
   have c48b : (decide ((wr64 (a0 - (wr64 (t46 * b1)))) ≥ (wr64 (b1 - (wr64 (a0 - (wr64 (t46 * b1)))))))) = true := decide_eq_true c48
   refine wxM mixed 2 [] 0 [(10, spQ (.bin .geq 17 20) [vI (wr64 (a0 - (wr64 (t46 * b1)))), vI (wr64 (b1 - (wr64 (a0 - (wr64 (t46 * b1))))))] (congrArg (fun t => some (Value.bool t)) c48b))] (zWL [] ?_)
   refine w_ (w_ret ?_)
   obtain rfl := Option.some.inj e
   exact ⟨[_], [], S, ⟨(show gt _ _ = some _ from (by kernel_rfl)), trivial⟩, VS.none, rfl, rfl, rfl⟩
  ·rw [if_neg c48] at e
   have c48b : (decide ((wr64 (a0 - (wr64 (t46 * b1)))) ≥ (wr64 (b1 - (wr64 (a0 - (wr64 (t46 * b1)))))))) = false := decide_eq_false c48
   refine wxM mixed 2 [] 0 [(10, spQ (.bin .geq 17 20) [vI (wr64 (a0 - (wr64 (t46 * b1)))), vI (wr64 (b1 - (wr64 (a0 - (wr64 (t46 * b1))))))] (congrArg (fun t => some (Value.bool t)) c48b))] (zWL [] ?_)
   refine w_ (w_ret ?_)
   obtain rfl := Option.some.inj e
   exact ⟨[_], [], S, ⟨(show gt _ _ = some _ from (by kernel_rfl)), trivial⟩, VS.none, rfl, rfl, rfl⟩

/-- scale.At -/
def c42 : C := (.seq (.reg [oq 3 (.box 0), oq 6 (.mv (.const (vI 0)))]) (.seq (.reg [oq 7 (.mv 2), oq 8 (.mv 1), oq 9 (.bin .mul 7 8), oq 10 (.bin .mul 9 (.const (vI 256))), oq 11 (.pad 0 3), oq 12 (.ld none 11), oq 13 (.pad 2 3), oq 14 (.ld none 13), oq 15 (.bin .shl 12 14), oq 16 (.call 51 [10, 15]), oq 6 (.mv 16)]) .ret))
def scale_At_v1.f (i0_0 : Int) (i0_1 : Int) (i0_2 : Int) (w1 : Int) (v2 : Int) : Option (Int) := if i0_2 < 0 then none else ((fixed_Round.f (wr64 ((wr64 (v2 * w1)) * 256)) (wr64 (i0_0 * 2 ^ (min (Int.toNat i0_2) 64)))).bind fun t45 => (some t45))
theorem scale_At_v1.ok {S : Seal} {i0_0 i0_1 i0_2 w1 v2 r0_ : Int}{A_ : Int → Addr} (hE_ : EO gsE S A_ 157) {a_i0_3 : Option Addr} {n_i0_3 c_i0_3 : Nat} {a_i0_4 : Option Addr} {n_i0_4 c_i0_4 : Nat} (e : scale_At_v1.f i0_0 i0_1 i0_2 w1 v2 = some r0_) :
    Cal Tryd.prog 42 [.agg #[vI i0_0, vI i0_1, vI i0_2, .slice a_i0_3 n_i0_3 c_i0_3, .slice a_i0_4 n_i0_4 c_i0_4], vI w1, vI v2] [] S fun v H' S' => v = vI r0_ ∧ H' = [] ∧ S' = S := by
 unfold scale_At_v1.f at e
 refine cal_of (c := c42) (N := 17) Tryd.func42 rfl rfl (by kernel_rfl) (rs := [.t 6]) (by kernel_rfl) (Nat.le_of_ble_eq_true rfl) ?_
 unfold c42
 have c44 : ¬ i0_2 < 0 := by
  intro h_; rw [if_pos h_] at e; cases e
 rw [if_neg c44] at e
 obtain ⟨t45, h46, e⟩ := bind_of e
 refine wx mixed 2 [0, 0] 1 [(10, spQ (.bin .shl 12 14) [vI i0_0, vI i0_2] (qv_shl rfl rfl c44)), (11, spP 51 [10, 15] (fixed_Round.ok hE_ h46))] fun b43 => zWL [0] ?_
 refine w_ (w_ret ?_)
 obtain rfl := Option.some.inj e
 exact ⟨[_], [], S, ⟨(show gt _ _ = some _ from (by kernel_rfl)), trivial⟩, VS.none, rfl, rfl, rfl⟩

/-- scale.Cmd$1 -/
def c41 : C := (.seq (.reg [oq 3 (.box 0), oq 4 (.new [(vI 0), (vI 0)])]) (.seq (.drw [oq 5 (.ld (some 5) 1), oq 6 (.ld none 2), oq 7 (.pad 0 3), oq 8 (.ld none 7), oq 9 (.call 42 [5, 6, 8]), oq 10 (.ld (some 5) 1), oq 11 (.ld none 2), oq 12 (.pad 1 3), oq 13 (.ld none 12), oq 14 (.call 42 [10, 11, 13]), oq 15 (.bld [(vI 0), (vI 0)] [(0, 1, 9), (1, 1, 14)]), ⟨none, .st 2 4 15, none⟩] [[], [], [], [2], [0, 1, 3], [], [], [], [7], [5, 6, 8, 4], [4, 9], [10, 9, 0, 1, 2, 3, 4, 5, 6, 7, 8, 9, 10]]) .ret))
def scale_Cmd_1_v1.f (p0_0 : Int) (p0_1 : Int) (m0_0 : Int) (m0_1 : Int) (m0_2 : Int) (m1_0 : Int) : Option (Int × Int) := (scale_At_v1.f m0_0 m0_1 m0_2 m1_0 p0_0).bind fun t43 => ((scale_At_v1.f m0_0 m0_1 m0_2 m1_0 p0_1).bind fun t45 => (some (t43, t45)))
theorem scale_Cmd_1_v1.ok {S : Seal} {B0 B1 : Nat} {p0_0 p0_1 m0_0 m0_1 m0_2 m1_0 r0_ r1_ : Int}{A_ : Int → Addr} (hE_ : EO gsE S A_ 157) {a_m0_3 : Option Addr} {n_m0_3 c_m0_3 : Nat} {a_m0_4 : Option Addr} {n_m0_4 c_m0_4 : Nat} (e : scale_Cmd_1_v1.f p0_0 p0_1 m0_0 m0_1 m0_2 m1_0 = some (r0_, r1_)) :
    Cal Tryd.prog 41 [.agg #[vI p0_0, vI p0_1], vP B0 0, vP B1 0] ([⟨B0, [vI m0_0, vI m0_1, vI m0_2, .slice a_m0_3 n_m0_3 c_m0_3, .slice a_m0_4 n_m0_4 c_m0_4], 5⟩, ⟨B1, [vI m1_0], 1⟩] : List Own) S fun v H' S' => v = .agg #[vI r0_, vI r1_] ∧ H' = ([⟨B0, [vI m0_0, vI m0_1, vI m0_2, .slice a_m0_3 n_m0_3 c_m0_3, .slice a_m0_4 n_m0_4 c_m0_4], 5⟩, ⟨B1, [vI m1_0], 1⟩] : List Own) ∧ S' = S := by
 unfold scale_Cmd_1_v1.f at e
 refine cal_of (c := c41) (N := 16) Tryd.func41 rfl rfl (by kernel_rfl) (rs := [.cn 2 4]) (by kernel_rfl) (Nat.le_of_ble_eq_true rfl) ?_
 unfold c41
 obtain ⟨t43, h44, e⟩ := bind_of e
 obtain ⟨t45, h46, e⟩ := bind_of e
 refine wx mixed 2 [0, 1, 2, 0, 1, 2, 3] 2 [(6, spP 42 [5, 6, 8] (vs := [.agg #[vI m0_0, vI m0_1, vI m0_2, .slice a_m0_3 n_m0_3 c_m0_3, .slice a_m0_4 n_m0_4 c_m0_4], vI m1_0, vI p0_0]) (scale_At_v1.ok hE_ h44)), (11, spP 42 [10, 11, 13] (vs := [.agg #[vI m0_0, vI m0_1, vI m0_2, .slice a_m0_3 n_m0_3 c_m0_3, .slice a_m0_4 n_m0_4 c_m0_4], vI m1_0, vI p0_1]) (scale_At_v1.ok hE_ h46))] fun b41 b42 => zWL [2] ?_
 refine w_ (w_as [(4, vP b42 0)] ([⟨b42, [vI t43, vI t45], 2⟩, ⟨B0, [vI m0_0, vI m0_1, vI m0_2, .slice a_m0_3 n_m0_3 c_m0_3, .slice a_m0_4 n_m0_4 c_m0_4], 5⟩, ⟨B1, [vI m1_0], 1⟩] : List Own) ?_)
 refine w_ret ?_
 simp only [Option.some.injEq, Prod.mk.injEq] at e
 obtain ⟨rfl, rfl⟩ := e
 exact ⟨[_], _, S, ⟨⟨_, _, _, rfl, .at 0 rfl rfl, rfl⟩, trivial⟩, VS.sel [1, 1] (by kernel_rfl), rfl, rfl, rfl⟩

/-- scale.Cmd -/
def c31 : C := (.seq (.reg [oq 3 (.box 0), oq 4 (.box 1), oq 5 (.box 2), oq 6 (.new [(vI 0), (vI 0), (vI 0), (vI 0), (vI 0), (vI 0), (vI 0), (vI 0), (vI 0), (vI 0), (.slice none 0 0)])]) (.seq (.reg [oq 15 (.mkf 41 [3, 4]), oq 7 (.mv 15)]) (.seq (.drw [oq 16 (.mv 7), oq 17 (.pad 3 5), oq 18 (.pad 3 17), oq 19 (.ld (some 2) 18), oq 20 (.clo 16 [19]), oq 21 (.mv 7), oq 22 (.pad 3 5), oq 23 (.pad 5 22), oq 24 (.ld (some 2) 23), oq 25 (.clo 21 [24]), oq 26 (.pad 3 5), oq 27 (.pad 3 26), ⟨none, .st 2 27 20, none⟩, oq 28 (.pad 3 5), oq 29 (.pad 5 28), ⟨none, .st 2 29 25, none⟩] [[], [], [1], [2], [0, 3], [], [], [6], [7], [5, 8, 4], [0, 1, 2, 3, 4, 6, 7, 8], [10, 0, 1, 2, 3, 4, 6, 7, 8], [11, 4, 9, 0, 1, 2, 3, 4, 6, 7, 8], [0, 1, 2, 3, 4, 5, 6, 7, 8, 9, 10, 11, 12], [13, 0, 1, 2, 3, 4, 5, 6, 7, 8, 9, 10, 11, 12], [14, 9, 12, 0, 1, 2, 3, 4, 5, 6, 7, 8, 9, 10, 11, 12]]) (.seq (.seq (.reg [oq 30 (.pad 3 5), oq 31 (.pad 0 30), oq 32 (.ld none 31), oq 33 (.bin .eql 32 (.const (vI 2)))]) (.cond 33 (.reg [oq 34 (.pad 3 5), oq 35 (.pad 5 34), oq 36 (.pad 0 35), oq 37 (.ld none 36), oq 38 (.mm true [37, (.const (vI 1))]), oq 39 (.pad 3 5), oq 40 (.pad 5 39), oq 41 (.pad 0 40), ⟨none, .st 1 41 38, none⟩]) .skip)) (.seq (.seq (.reg [oq 42 (.pad 0 5), oq 43 (.ld none 42), oq 44 (.bin .eql 43 (.const (vI 2)))]) (.cond 44 (.reg [oq 45 (.ld (some 5) 3), oq 46 (.ld none 4), oq 47 (.pad 2 5), oq 48 (.ld none 47), oq 49 (.call 42 [45, 46, 48]), oq 50 (.mm true [49, (.const (vI 1))]), oq 51 (.pad 2 5), ⟨none, .st 1 51 50, none⟩]) .skip)) (.seq (.reg [oq 52 (.pad 10 5), oq 53 (.ld none 52), oq 8 (.mv 53)]) (.seq (.reg [oq 54 (.pad 10 5), ⟨none, .st 1 54 (.const (.slice none 0 0)), none⟩]) (.seq (.seq (.reg [oq 55 (.mv 8), oq 56 (.lns 55), oq 57 (.mv (.const (vI 0)))]) (.block 0 (.loop (.seq (.reg [oq 58 (.bin .lss 57 56)]) (.seq (.cond 58 .skip (.exit 0)) (.seq (.block 1 (.seq (.reg [oq 59 (.ixs 4 55 57), oq 60 (.ld (some 4) 59), oq 10 (.new [(vI 0), (vI 0), (.slice none 0 0), (vB false)]), ⟨none, .st 4 10 60, none⟩]) (.seq (.drw [oq 61 (.mv 7), oq 62 (.pad 0 10), oq 63 (.ld (some 2) 62), oq 64 (.clo 61 [63]), oq 65 (.pad 3 10), oq 66 (.ld none 65), oq 67 (.bld [(vI 0), (vI 0), (.slice none 0 0), (vB false)] [(0, 2, 64), (3, 1, 66)]), oq 11 (.new [(vI 0), (vI 0), (.slice none 0 0), (vB false)]), ⟨none, .st 4 11 67, none⟩] [[], [], [1], [0, 2], [], [4], [3, 5], [], [7, 6, 3, 0, 1, 2, 3, 4, 5, 6, 7]]) (.seq (.seq (.reg [oq 68 (.pad 2 10), oq 69 (.ld none 68), oq 70 (.lns 69), oq 71 (.mv (.const (vI 0)))]) (.block 2 (.loop (.seq (.reg [oq 72 (.bin .lss 71 70)]) (.seq (.cond 72 .skip (.exit 2)) (.seq (.block 3 (.seq (.reg [oq 73 (.ixs 7 69 71), oq 74 (.ld (some 7) 73), oq 13 (.new [(vI 0), (vI 0), (vI 0), (vI 0), (vI 0), (vI 0), (vI 0)]), ⟨none, .st 7 13 74, none⟩]) (.seq (.seq (.reg [oq 75 (.mv (.const (vI 0)))]) (.block 4 (.loop (.seq (.reg [oq 76 (.bin .lss 75 (.const (vI 3)))]) (.seq (.cond 76 .skip (.exit 4)) (.seq (.block 5 (.seq (.reg [oq 77 (.mv 75), oq 14 (.mv 77)]) (.reg [oq 78 (.mv 14), oq 79 (.mv 7), oq 80 (.mv 14), oq 81 (.pad 1 13), oq 82 (.ixa 2 3 81 80), oq 83 (.ld (some 2) 82), oq 84 (.clo 79 [83]), oq 85 (.pad 1 13), oq 86 (.ixa 2 3 85 78), ⟨none, .st 2 86 84, none⟩]))) (.reg [oq 87 (.bin .add 75 (.const (vI 1))), oq 75 (.mv 87)]))))))) (.reg [oq 88 (.pad 2 11), oq 89 (.ld none 88), oq 90 (.ld (some 7) 13), oq 91 (.bsl [(vI 0), (vI 0), (vI 0), (vI 0), (vI 0), (vI 0), (vI 0)] 1 [(0, 7, 90)]), oq 92 (.app 69 7 56 [(vI 0), (vI 0), (vI 0), (vI 0), (vI 0), (vI 0), (vI 0)] 89 91), oq 93 (.pad 2 11), ⟨none, .st 1 93 92, none⟩])))) (.reg [oq 94 (.bin .add 71 (.const (vI 1))), oq 71 (.mv 94)]))))))) (.reg [oq 95 (.pad 10 5), oq 96 (.ld none 95), oq 97 (.ld (some 4) 11), oq 98 (.bsl [(vI 0), (vI 0), (.slice none 0 0), (vB false)] 1 [(0, 4, 97)]), oq 99 (.app 72 4 48 [(vI 0), (vI 0), (.slice none 0 0), (vB false)] 96 98), oq 100 (.pad 10 5), ⟨none, .st 1 100 99, none⟩]))))) (.reg [oq 101 (.bin .add 57 (.const (vI 1))), oq 57 (.mv 101)]))))))) (.seq (.reg [oq 102 (.ld (some 11) 5), ⟨none, .st 11 6 102, none⟩]) .ret)))))))))
def scale_Cmd_v1.l1 : Nat → Int → Int → Int → Int → List (Int × Int × Int × Int × Int × Int × Int) → Int → List (Int × Int × Int × Int × Int × Int × Int) → Option (List (Int × Int × Int × Int × Int × Int × Int))
  | 0, _, _, _, _, _, _, _ => none
  | k + 1, i0_0, i0_1, i0_2, w1, x71, x93, y95 => if x93 < (x71.length : Int) then (((lgt x71 x93).bind fun (x100, x101, x102, x103, x104, x105, x106) => ((scale_Cmd_1_v1.f x101 x102 i0_0 i0_1 i0_2 w1).bind fun (t117, t118) => ((scale_Cmd_1_v1.f x103 x104 i0_0 i0_1 i0_2 w1).bind fun (t120, t121) => ((scale_Cmd_1_v1.f x105 x106 i0_0 i0_1 i0_2 w1).bind fun (t123, t124) => ((lapp y95 ([(x100, t117, t118, t120, t121, t123, t124)] : List (Int × Int × Int × Int × Int × Int × Int))).bind fun y127 => (some y127))))) : Option (List (Int × Int × Int × Int × Int × Int × Int))).bind fun y131 => (scale_Cmd_v1.l1 k i0_0 i0_1 i0_2 w1 x71 (wr64 (x93 + 1)) y131)) else (some y95)
def scale_Cmd_v1.l0 : Nat → Int → Int → Int → Int → List (Int × Int × List (Int × Int × Int × Int × Int × Int × Int) × Bool) → Int → List (Int × Int × List (Int × Int × Int × Int × Int × Int × Int) × Bool) → Option (List (Int × Int × List (Int × Int × Int × Int × Int × Int × Int) × Bool))
  | 0, _, _, _, _, _, _, _ => none
  | k + 1, i0_0, i0_1, i0_2, w1, c2_10, x62, y64 => if x62 < (c2_10.length : Int) then (((lgt c2_10 x62).bind fun (x69, x70, x71, x72) => ((scale_Cmd_1_v1.f x69 x70 i0_0 i0_1 i0_2 w1).bind fun (t86, t87) => ((scale_Cmd_v1.l1 k i0_0 i0_1 i0_2 w1 x71 0 ([] : List (Int × Int × Int × Int × Int × Int × Int)) : Option (List (Int × Int × Int × Int × Int × Int × Int))).bind fun y135 => ((lapp y64 ([(t86, t87, y135, x72)] : List (Int × Int × List (Int × Int × Int × Int × Int × Int × Int) × Bool))).bind fun y137 => (some y137)))) : Option (List (Int × Int × List (Int × Int × Int × Int × Int × Int × Int) × Bool))).bind fun y141 => (scale_Cmd_v1.l0 k i0_0 i0_1 i0_2 w1 c2_10 (wr64 (x62 + 1)) y141)) else (some y64)
def scale_Cmd_v1.f (k : Nat) (i0_0 : Int) (i0_1 : Int) (i0_2 : Int) (w1 : Int) (c2_0 : Int) (c2_1 : Int) (c2_2 : Int) (c2_3 : Int) (c2_4 : Int) (c2_5 : Int) (c2_6 : Int) (c2_7 : Int) (c2_8 : Int) (c2_9 : Int) (c2_10 : List (Int × Int × List (Int × Int × Int × Int × Int × Int × Int) × Bool)) : Option (Int × Int × Int × Int × Int × Int × Int × Int × Int × Int × List (Int × Int × List (Int × Int × Int × Int × Int × Int × Int) × Bool)) := (scale_Cmd_1_v1.f c2_6 c2_7 i0_0 i0_1 i0_2 w1).bind fun (t41, t42) => ((scale_Cmd_1_v1.f c2_8 c2_9 i0_0 i0_1 i0_2 w1).bind fun (t44, t45) => ((if c2_3 = 2 then (some (mx t44 1)) else (some t44) : Option (Int)).bind fun x51 => ((if c2_0 = 2 then ((scale_At_v1.f i0_0 i0_1 i0_2 w1 c2_2).bind fun t56 => (some (mx t56 1))) else (some c2_2) : Option (Int)).bind fun x58 => ((scale_Cmd_v1.l0 k i0_0 i0_1 i0_2 w1 c2_10 0 ([] : List (Int × Int × List (Int × Int × Int × Int × Int × Int × Int) × Bool)) : Option (List (Int × Int × List (Int × Int × Int × Int × Int × Int × Int) × Bool))).bind fun y145 => (some (c2_0, c2_1, x58, c2_3, c2_4, c2_5, t41, t42, x51, t45, y145))))))
theorem scale_Cmd_v1.ok {S : Seal} {k : Nat} {i0_0 i0_1 i0_2 w1 c2_0 c2_1 c2_2 c2_3 c2_4 c2_5 c2_6 c2_7 c2_8 c2_9 : Int} {c2_10 : List (Int × Int × List (Int × Int × Int × Int × Int × Int × Int) × Bool)} {r0_ r1_ r2_ r3_ r4_ r5_ r6_ r7_ r8_ r9_ : Int} {r10_ : List (Int × Int × List (Int × Int × Int × Int × Int × Int × Int) × Bool)}{A_ : Int → Addr} (hE_ : EO gsE S A_ 157) {a_i0_3 : Option Addr} {n_i0_3 c_i0_3 : Nat} {a_i0_4 : Option Addr} {n_i0_4 c_i0_4 : Nat} {a_c2_10 : Option Addr} {c_c2_10 : Nat} (h_c2_10 : SlN (rdOf [] S) N_0 c2_10 a_c2_10) (e : scale_Cmd_v1.f k i0_0 i0_1 i0_2 w1 c2_0 c2_1 c2_2 c2_3 c2_4 c2_5 c2_6 c2_7 c2_8 c2_9 c2_10 = some (r0_, r1_, r2_, r3_, r4_, r5_, r6_, r7_, r8_, r9_, r10_)) :
    Cal Tryd.prog 31 [.agg #[vI i0_0, vI i0_1, vI i0_2, .slice a_i0_3 n_i0_3 c_i0_3, .slice a_i0_4 n_i0_4 c_i0_4], vI w1, .agg #[vI c2_0, vI c2_1, vI c2_2, vI c2_3, vI c2_4, vI c2_5, vI c2_6, vI c2_7, vI c2_8, vI c2_9, .slice a_c2_10 c2_10.length c_c2_10]] [] S fun v H' S' => ∃ (a0_ : Option Addr) (c0_ : Nat) (NF_ : List Own), v = .agg #[vI r0_, vI r1_, vI r2_, vI r3_, vI r4_, vI r5_, vI r6_, vI r7_, vI r8_, vI r9_, .slice a0_ r10_.length c0_] ∧ H' = (NF_ ++ []) ∧ S' = S ∧ SlN (rdOf (NF_ ++ []) S) N_0 r10_ a0_ := by
 unfold scale_Cmd_v1.f at e
 refine cal_of (c := c31) (N := 103) Tryd.func31 rfl rfl (by kernel_rfl) (rs := [.cn 11 6]) (by kernel_rfl) (Nat.le_of_ble_eq_true rfl) ?_
 unfold c31
 refine wx mixed 2 [] 4 [] fun b37 b38 b39 b40 => zWL [] ?_
 refine w_ ?_
 obtain ⟨⟨t41, t42⟩, h43, e⟩ := bind_of e
 try dsimp only at e
 obtain ⟨⟨t44, t45⟩, h46, e⟩ := bind_of e
 try dsimp only at e
 refine wxM mixed 1 [1, 3, 2, 1, 3, 2, 1, 1] 0 [(4, spRc 41 #[vP b37 0, vP b38 0] 16 [19] [.agg #[vI c2_6, vI c2_7]] [[⟨b37, [vI i0_0, vI i0_1, vI i0_2, .slice a_i0_3 n_i0_3 c_i0_3, .slice a_i0_4 n_i0_4 c_i0_4], 5⟩], [⟨b38, [vI w1], 1⟩]] (by kernel_rfl) (scale_Cmd_1_v1.ok hE_ h43) rfl), (9, spRc 41 #[vP b37 0, vP b38 0] 21 [24] [.agg #[vI c2_8, vI c2_9]] [[⟨b37, [vI i0_0, vI i0_1, vI i0_2, .slice a_i0_3 n_i0_3 c_i0_3, .slice a_i0_4 n_i0_4 c_i0_4], 5⟩], [⟨b38, [vI w1], 1⟩]] (by kernel_rfl) (scale_Cmd_1_v1.ok hE_ h46) rfl)] (zWL [] ?_)
 refine w_ ?_
 obtain ⟨x51, e48, e⟩ := bind_of e
 refine w_cut [3, 4, 5, 6, 7] (fun σ_ H_ S_ => [(3, vP b37 0), (4, vP b38 0), (5, vP b39 0), (6, vP b40 0), (7, .func (.func 41) #[] #[vP b37 0, vP b38 0])] = σ_ ∧ ([⟨b39, [vI c2_0, vI c2_1, vI c2_2, vI c2_3, vI c2_4, vI c2_5, vI t41, vI t42, vI x51, vI t45, .slice a_c2_10 c2_10.length c_c2_10], 11⟩, ⟨b40, [vI 0, vI 0, vI 0, vI 0, vI 0, vI 0, vI 0, vI 0, vI 0, vI 0, .slice none 0 0], 11⟩, ⟨b38, [vI w1], 1⟩, ⟨b37, [vI i0_0, vI i0_1, vI i0_2, .slice a_i0_3 n_i0_3 c_i0_3, .slice a_i0_4 n_i0_4 c_i0_4], 5⟩] : List Own) = H_ ∧ S = S_) ?_ ?_
 ·refine w_ ?_
  by_cases c50 : c2_3 = 2
  ·rw [if_pos c50] at e48
   have c50b : (c2_3 == 2) = true := beq_iff_eq.mpr c50
   refine wqM mixed [0, 0, 0] 0 .nrm [(3, spQ (.bin .eql 32 (.const (vI 2))) [vI c2_3, vI 2] (congrArg (fun t => some (Value.bool t)) c50b))] (zQL [] ?_)
   obtain rfl := Option.some.inj e48
   exact ⟨_, S, VS.lb [0, 0, 0, 0] (by kernel_rfl), by kernel_rfl, rfl, rfl⟩
  ·rw [if_neg c50] at e48
   have c50b : (c2_3 == 2) = false := beq_eq_false_iff_ne.mpr c50
   refine wqM mixed [0] 0 .nrm [(3, spQ (.bin .eql 32 (.const (vI 2))) [vI c2_3, vI 2] (congrArg (fun t => some (Value.bool t)) c50b))] (zQL [] ?_)
   obtain rfl := Option.some.inj e48
   exact ⟨_, S, VS.lb [0, 0, 0, 0] (by kernel_rfl), by kernel_rfl, rfl, rfl⟩
 ·rintro σ_ H_ S_ ⟨rfl, rfl, rfl⟩
  obtain ⟨x58, e53, e⟩ := bind_of e
  refine w_cut [5, 6, 7] (fun σ_ H_ S_ => [(5, vP b39 0), (6, vP b40 0), (7, .func (.func 41) #[] #[vP b37 0, vP b38 0])] = σ_ ∧ ([⟨b39, [vI c2_0, vI c2_1, vI x58, vI c2_3, vI c2_4, vI c2_5, vI t41, vI t42, vI x51, vI t45, .slice a_c2_10 c2_10.length c_c2_10], 11⟩, ⟨b40, [vI 0, vI 0, vI 0, vI 0, vI 0, vI 0, vI 0, vI 0, vI 0, vI 0, .slice none 0 0], 11⟩, ⟨b38, [vI w1], 1⟩, ⟨b37, [vI i0_0, vI i0_1, vI i0_2, .slice a_i0_3 n_i0_3 c_i0_3, .slice a_i0_4 n_i0_4 c_i0_4], 5⟩] : List Own) = H_ ∧ S = S_) ?_ ?_
  ·refine w_ ?_
   by_cases c55 : c2_0 = 2
   ·rw [if_pos c55] at e53
    have c55b : (c2_0 == 2) = true := beq_iff_eq.mpr c55
    obtain ⟨t56, h57, e53⟩ := bind_of e53
    refine wq mixed [0, 3, 2, 0, 0] 0 .nrm [(2, spQ (.bin .eql 43 (.const (vI 2))) [vI c2_0, vI 2] (congrArg (fun t => some (Value.bool t)) c55b)), (7, spP 42 [45, 46, 48] (vs := [.agg #[vI i0_0, vI i0_1, vI i0_2, .slice a_i0_3 n_i0_3 c_i0_3, .slice a_i0_4 n_i0_4 c_i0_4], vI w1, vI c2_2]) (scale_At_v1.ok hE_ h57))] (zQL [] ?_)
    obtain rfl := Option.some.inj e53
    exact ⟨_, S, VS.lb [0, 0, 0, 0] (by kernel_rfl), by kernel_rfl, rfl, rfl⟩
   ·rw [if_neg c55] at e53
    have c55b : (c2_0 == 2) = false := beq_eq_false_iff_ne.mpr c55
    refine wq mixed [0] 0 .nrm [(2, spQ (.bin .eql 43 (.const (vI 2))) [vI c2_0, vI 2] (congrArg (fun t => some (Value.bool t)) c55b))] (zQL [] ?_)
    obtain rfl := Option.some.inj e53
    exact ⟨_, S, VS.lb [0, 0, 0, 0] (by kernel_rfl), by kernel_rfl, rfl, rfl⟩
  ·rintro σ_ H_ S_ ⟨rfl, rfl, rfl⟩
   refine wx mixed 2 [0, 0] 0 [] (zWL [] ?_)
   refine w_ ?_
   obtain ⟨y145, e60, e⟩ := bind_of e
   refine w_cut [5, 6] (fun σ_ H_ S_ => ∃ (a144 : Option Nat) (na144 : Nat) (csa144 : List Value) (Fa144 : List Own), [(5, vP b39 0), (6, vP b40 0)] = σ_ ∧ (([⟨b39, [vI c2_0, vI c2_1, vI x58, vI c2_3, vI c2_4, vI c2_5, vI t41, vI t42, vI x51, vI t45, .slice (ad a144) y145.length (na144 / 4)], 11⟩, ⟨b40, [vI 0, vI 0, vI 0, vI 0, vI 0, vI 0, vI 0, vI 0, vI 0, vI 0, .slice none 0 0], 11⟩, ⟨b38, [vI w1], 1⟩, ⟨b37, [vI i0_0, vI i0_1, vI i0_2, .slice a_i0_3 n_i0_3 c_i0_3, .slice a_i0_4 n_i0_4 c_i0_4], 5⟩, ⟨a144, csa144, na144⟩] : List Own) ++ (Fa144 ++ [])) = H_ ∧ S = S_ ∧ RL (rdOf (Fa144 ++ []) S) N_0 y145 csa144) ?_ ?_
   ·refine w_ ?_
    refine wxM mixed 1 [] 0 [] (zWL [] ?_)
    refine w_ (w_block (w_vs VS.vac ?_))
    refine wk [(5, vP b39 0), (6, vP b40 0), (7, .func (.func 41) #[] #[vP b37 0, vP b38 0]), (55, .slice a_c2_10 c2_10.length c_c2_10), (56, vI (c2_10.length : Int)), (57, vI 0)] (w_vs (H' := (([⟨none, [], 0⟩, ⟨b39, [vI c2_0, vI c2_1, vI x58, vI c2_3, vI c2_4, vI c2_5, vI t41, vI t42, vI x51, vI t45, .slice (ad none) ([] : List (Int × Int × List (Int × Int × Int × Int × Int × Int × Int) × Bool)).length (0 / 4)], 11⟩, ⟨b40, [vI 0, vI 0, vI 0, vI 0, vI 0, vI 0, vI 0, vI 0, vI 0, vI 0, .slice none 0 0], 11⟩, ⟨b38, [vI w1], 1⟩, ⟨b37, [vI i0_0, vI i0_1, vI i0_2, .slice a_i0_3 n_i0_3 c_i0_3, .slice a_i0_4 n_i0_4 c_i0_4], 5⟩] : List Own) ++ (([] : List Own) ++ []))) (S' := S) (VS.as ([⟨none, [], 0⟩, ⟨b39, [vI c2_0, vI c2_1, vI x58, vI c2_3, vI c2_4, vI c2_5, vI t41, vI t42, vI x51, vI t45, .slice (ad none) ([] : List (Int × Int × List (Int × Int × Int × Int × Int × Int × Int) × Bool)).length (0 / 4)], 11⟩, ⟨b40, [vI 0, vI 0, vI 0, vI 0, vI 0, vI 0, vI 0, vI 0, vI 0, vI 0, .slice none 0 0], 11⟩, ⟨b38, [vI w1], 1⟩, ⟨b37, [vI i0_0, vI i0_1, vI i0_2, .slice a_i0_3 n_i0_3 c_i0_3, .slice a_i0_4 n_i0_4 c_i0_4], 5⟩] : List Own) (VS.treeA (.l ([⟨none, [], 0⟩, ⟨b39, [vI c2_0, vI c2_1, vI x58, vI c2_3, vI c2_4, vI c2_5, vI t41, vI t42, vI x51, vI t45, .slice (ad none) ([] : List (Int × Int × List (Int × Int × Int × Int × Int × Int × Int) × Bool)).length (0 / 4)], 11⟩, ⟨b40, [vI 0, vI 0, vI 0, vI 0, vI 0, vI 0, vI 0, vI 0, vI 0, vI 0, .slice none 0 0], 11⟩, ⟨b38, [vI w1], 1⟩, ⟨b37, [vI i0_0, vI i0_1, vI i0_2, .slice a_i0_3 n_i0_3 c_i0_3, .slice a_i0_4 n_i0_4 c_i0_4], 5⟩] : List Own)) (.a (.l ([⟨none, [], 0⟩, ⟨b39, [vI c2_0, vI c2_1, vI x58, vI c2_3, vI c2_4, vI c2_5, vI t41, vI t42, vI x51, vI t45, .slice (ad none) ([] : List (Int × Int × List (Int × Int × Int × Int × Int × Int × Int) × Bool)).length (0 / 4)], 11⟩, ⟨b40, [vI 0, vI 0, vI 0, vI 0, vI 0, vI 0, vI 0, vI 0, vI 0, vI 0, .slice none 0 0], 11⟩, ⟨b38, [vI w1], 1⟩, ⟨b37, [vI i0_0, vI i0_1, vI i0_2, .slice a_i0_3 n_i0_3 c_i0_3, .slice a_i0_4 n_i0_4 c_i0_4], 5⟩] : List Own)) (.a (.l ([] : List Own)) (.l []))) [0, 0, 0, 0, 0] (by kernel_rfl))) ?_)
    refine w_loop (fun n_ σ_ H_ S_ => ∃ (x62 : Int) (y64 : List (Int × Int × List (Int × Int × Int × Int × Int × Int × Int) × Bool)), ∃ (a63 : Option Nat) (na63 : Nat) (csa63 : List Value) (Fa63 : List Own), [(5, vP b39 0), (6, vP b40 0), (7, .func (.func 41) #[] #[vP b37 0, vP b38 0]), (55, .slice a_c2_10 c2_10.length c_c2_10), (56, vI (c2_10.length : Int)), (57, vI x62)] = σ_ ∧ (([⟨a63, csa63, na63⟩, ⟨b39, [vI c2_0, vI c2_1, vI x58, vI c2_3, vI c2_4, vI c2_5, vI t41, vI t42, vI x51, vI t45, .slice (ad a63) y64.length (na63 / 4)], 11⟩, ⟨b40, [vI 0, vI 0, vI 0, vI 0, vI 0, vI 0, vI 0, vI 0, vI 0, vI 0, .slice none 0 0], 11⟩, ⟨b38, [vI w1], 1⟩, ⟨b37, [vI i0_0, vI i0_1, vI i0_2, .slice a_i0_3 n_i0_3 c_i0_3, .slice a_i0_4 n_i0_4 c_i0_4], 5⟩] : List Own) ++ (Fa63 ++ [])) = H_ ∧ S = S_ ∧ scale_Cmd_v1.l0 n_ i0_0 i0_1 i0_2 w1 c2_10 x62 y64 = some y145 ∧ RL (rdOf (Fa63 ++ []) S) N_0 y64 csa63) _ ⟨0, ([] : List (Int × Int × List (Int × Int × Int × Int × Int × Int × Int) × Bool)), none, 0, [], ([] : List Own), rfl, rfl, rfl, e60, RL.mono (RL.nil (R := rdOf [] S) (E := N_0)) (rd_sub seg_hd)⟩ ?_
    rintro n143 σ_ H_ S_ ⟨x62, y64, a63, na63, csa63, Fa63, rfl, rfl, rfl, e60, hra63⟩
    cases n143 with
    | zero => rw [scale_Cmd_v1.l0.eq_1] at e60; cases e60
    | succ k_ =>
     rw [scale_Cmd_v1.l0.eq_2] at e60
     by_cases c65 : x62 < (c2_10.length : Int)
     ·rw [if_pos c65] at e60
      have c65b : (decide (x62 < (c2_10.length : Int))) = true := decide_eq_true c65
      refine wxF mixed [Fa63] 2 [] 0 [(0, spQ (.bin .lss 57 56) [vI x62, vI (c2_10.length : Int)] (congrArg (fun t => some (Value.bool t)) c65b))] (zWL [] ?_)
      refine w_ ?_
      obtain ⟨y141, e67, e60⟩ := bind_of e60
      refine w_cut [5, 6, 7, 55, 56, 57] (fun σ_ H_ S_ => ∃ (a140 : Option Nat) (na140 : Nat) (csa140 : List Value) (Fa140 : List Own), [(5, vP b39 0), (6, vP b40 0), (7, .func (.func 41) #[] #[vP b37 0, vP b38 0]), (55, .slice a_c2_10 c2_10.length c_c2_10), (56, vI (c2_10.length : Int)), (57, vI x62)] = σ_ ∧ (([⟨b39, [vI c2_0, vI c2_1, vI x58, vI c2_3, vI c2_4, vI c2_5, vI t41, vI t42, vI x51, vI t45, .slice (ad a140) y141.length (na140 / 4)], 11⟩, ⟨b40, [vI 0, vI 0, vI 0, vI 0, vI 0, vI 0, vI 0, vI 0, vI 0, vI 0, .slice none 0 0], 11⟩, ⟨b38, [vI w1], 1⟩, ⟨b37, [vI i0_0, vI i0_1, vI i0_2, .slice a_i0_3 n_i0_3 c_i0_3, .slice a_i0_4 n_i0_4 c_i0_4], 5⟩, ⟨a140, csa140, na140⟩] : List Own) ++ (Fa140 ++ [])) = H_ ∧ S = S_ ∧ RL (rdOf (Fa140 ++ []) S) N_0 y141 csa140) ?_ ?_
      ·refine w_ (w_block ?_)
       obtain ⟨⟨x69, x70, x71, x72⟩, hx73, e67⟩ := bind_of e67
       try dsimp only at e67
       obtain ⟨lb74, lo75, ll76, vs_, la77, lR78, lv79, hrep_, lz80, lu81⟩ := sln_get (E := N_0) h_c2_10 hx73
       obtain ⟨na82, nc83, rfl, nh84⟩ := hrep_
       obtain ⟨⟨t86, t87⟩, h88, e67⟩ := bind_of e67
       try dsimp only at e67
       refine wxM mixed 2 [6, 6, 4, 3, 6, 7] 2 [(0, spQ (.ixs 4 55 57) [.slice a_c2_10 c2_10.length c_c2_10, vI x62] (ixs_sle rfl rfl la77 lz80 lu81)), (1, spLn 59 lb74 (lo75 + (x62).toNat * 4 + 0) 4 [] (vs := [vI x69, vI x70, .slice na82 x71.length nc83, .bool x72]) (fun _ => rd_n lR78 sub_nil (subl_sub lv79 (by kernel_rfl)))), (7, spRc 41 #[vP b37 0, vP b38 0] 61 [63] [.agg #[vI x69, vI x70]] [[⟨b37, [vI i0_0, vI i0_1, vI i0_2, .slice a_i0_3 n_i0_3 c_i0_3, .slice a_i0_4 n_i0_4 c_i0_4], 5⟩], [⟨b38, [vI w1], 1⟩]] (by kernel_rfl) (scale_Cmd_1_v1.ok hE_ h88) rfl)] fun b85 b89 => zWL [] ?_
       refine w_ ?_
       obtain ⟨y135, e91, e67⟩ := bind_of e67
       refine w_cut [5, 6, 7, 11, 55, 56, 57] (fun σ_ H_ S_ => ∃ (a134 : Option Nat) (na134 : Nat), [(5, vP b39 0), (6, vP b40 0), (7, .func (.func 41) #[] #[vP b37 0, vP b38 0]), (11, vP b89 0), (55, .slice a_c2_10 c2_10.length c_c2_10), (56, vI (c2_10.length : Int)), (57, vI x62)] = σ_ ∧ (([⟨b89, [vI t86, vI t87, .slice (ad a134) y135.length (na134 / 7), .bool x72], 4⟩, ⟨b39, [vI c2_0, vI c2_1, vI x58, vI c2_3, vI c2_4, vI c2_5, vI t41, vI t42, vI x51, vI t45, .slice (ad a63) y64.length (na63 / 4)], 11⟩, ⟨b40, [vI 0, vI 0, vI 0, vI 0, vI 0, vI 0, vI 0, vI 0, vI 0, vI 0, .slice none 0 0], 11⟩, ⟨b38, [vI w1], 1⟩, ⟨b37, [vI i0_0, vI i0_1, vI i0_2, .slice a_i0_3 n_i0_3 c_i0_3, .slice a_i0_4 n_i0_4 c_i0_4], 5⟩, ⟨a134, encL E_i647 y135, na134⟩, ⟨a63, csa63, na63⟩] : List Own) ++ (Fa63 ++ [])) = H_ ∧ S = S_) ?_ ?_
       ·refine w_ ?_
        refine wxM mixed 1 [1] 0 [] (zWL [1] ?_)
        refine w_ (w_block (w_vs VS.vac ?_))
        refine wk [(5, vP b39 0), (6, vP b40 0), (7, .func (.func 41) #[] #[vP b37 0, vP b38 0]), (11, vP b89 0), (55, .slice a_c2_10 c2_10.length c_c2_10), (56, vI (c2_10.length : Int)), (57, vI x62), (69, .slice na82 x71.length nc83), (70, vI (x71.length : Int)), (71, vI 0)] (w_vs (H' := (([⟨none, encL E_i647 ([] : List (Int × Int × Int × Int × Int × Int × Int)), 0⟩, ⟨b89, [vI t86, vI t87, .slice (ad none) ([] : List (Int × Int × Int × Int × Int × Int × Int)).length (0 / 7), .bool x72], 4⟩, ⟨a63, csa63, na63⟩, ⟨b39, [vI c2_0, vI c2_1, vI x58, vI c2_3, vI c2_4, vI c2_5, vI t41, vI t42, vI x51, vI t45, .slice (ad a63) y64.length (na63 / 4)], 11⟩, ⟨b40, [vI 0, vI 0, vI 0, vI 0, vI 0, vI 0, vI 0, vI 0, vI 0, vI 0, .slice none 0 0], 11⟩, ⟨b38, [vI w1], 1⟩, ⟨b37, [vI i0_0, vI i0_1, vI i0_2, .slice a_i0_3 n_i0_3 c_i0_3, .slice a_i0_4 n_i0_4 c_i0_4], 5⟩] : List Own) ++ (Fa63 ++ []))) (S' := S) (VS.as (([⟨none, encL E_i647 ([] : List (Int × Int × Int × Int × Int × Int × Int)), 0⟩, ⟨b89, [vI t86, vI t87, .slice (ad none) ([] : List (Int × Int × Int × Int × Int × Int × Int)).length (0 / 7), .bool x72], 4⟩, ⟨a63, csa63, na63⟩, ⟨b39, [vI c2_0, vI c2_1, vI x58, vI c2_3, vI c2_4, vI c2_5, vI t41, vI t42, vI x51, vI t45, .slice (ad a63) y64.length (na63 / 4)], 11⟩, ⟨b40, [vI 0, vI 0, vI 0, vI 0, vI 0, vI 0, vI 0, vI 0, vI 0, vI 0, .slice none 0 0], 11⟩, ⟨b38, [vI w1], 1⟩, ⟨b37, [vI i0_0, vI i0_1, vI i0_2, .slice a_i0_3 n_i0_3 c_i0_3, .slice a_i0_4 n_i0_4 c_i0_4], 5⟩] : List Own) ++ (Fa63 ++ [])) (VS.selT 7 [0, 0, 0, 0, 0, 0, 0] (by kernel_rfl))) ?_)
        refine w_loop (fun n_ σ_ H_ S_ => ∃ (x93 : Int) (y95 : List (Int × Int × Int × Int × Int × Int × Int)), ∃ (a94 : Option Nat) (na94 : Nat), [(5, vP b39 0), (6, vP b40 0), (7, .func (.func 41) #[] #[vP b37 0, vP b38 0]), (11, vP b89 0), (55, .slice a_c2_10 c2_10.length c_c2_10), (56, vI (c2_10.length : Int)), (57, vI x62), (69, .slice na82 x71.length nc83), (70, vI (x71.length : Int)), (71, vI x93)] = σ_ ∧ (([⟨a94, encL E_i647 y95, na94⟩, ⟨b89, [vI t86, vI t87, .slice (ad a94) y95.length (na94 / 7), .bool x72], 4⟩, ⟨a63, csa63, na63⟩, ⟨b39, [vI c2_0, vI c2_1, vI x58, vI c2_3, vI c2_4, vI c2_5, vI t41, vI t42, vI x51, vI t45, .slice (ad a63) y64.length (na63 / 4)], 11⟩, ⟨b40, [vI 0, vI 0, vI 0, vI 0, vI 0, vI 0, vI 0, vI 0, vI 0, vI 0, .slice none 0 0], 11⟩, ⟨b38, [vI w1], 1⟩, ⟨b37, [vI i0_0, vI i0_1, vI i0_2, .slice a_i0_3 n_i0_3 c_i0_3, .slice a_i0_4 n_i0_4 c_i0_4], 5⟩] : List Own) ++ (Fa63 ++ [])) = H_ ∧ S = S_ ∧ scale_Cmd_v1.l1 n_ i0_0 i0_1 i0_2 w1 x71 x93 y95 = some y135) _ ⟨0, ([] : List (Int × Int × Int × Int × Int × Int × Int)), none, 0, rfl, rfl, rfl, e91⟩ ?_
        rintro n133 σ_ H_ S_ ⟨x93, y95, a94, na94, rfl, rfl, rfl, e91⟩
        cases n133 with
        | zero => rw [scale_Cmd_v1.l1.eq_1] at e91; cases e91
        | succ k_ =>
         rw [scale_Cmd_v1.l1.eq_2] at e91
         by_cases c96 : x93 < (x71.length : Int)
         ·rw [if_pos c96] at e91
          have c96b : (decide (x93 < (x71.length : Int))) = true := decide_eq_true c96
          refine wxF mixed [Fa63] 2 [] 0 [(0, spQ (.bin .lss 71 70) [vI x93, vI (x71.length : Int)] (congrArg (fun t => some (Value.bool t)) c96b))] (zWL [] ?_)
          refine w_ ?_
          obtain ⟨y131, e98, e91⟩ := bind_of e91
          refine w_cut [5, 6, 7, 11, 55, 56, 57, 69, 70, 71] (fun σ_ H_ S_ => ∃ (a130 : Option Nat) (na130 : Nat), [(5, vP b39 0), (6, vP b40 0), (7, .func (.func 41) #[] #[vP b37 0, vP b38 0]), (11, vP b89 0), (55, .slice a_c2_10 c2_10.length c_c2_10), (56, vI (c2_10.length : Int)), (57, vI x62), (69, .slice na82 x71.length nc83), (70, vI (x71.length : Int)), (71, vI x93)] = σ_ ∧ (([⟨b89, [vI t86, vI t87, .slice (ad a130) y131.length (na130 / 7), .bool x72], 4⟩, ⟨b39, [vI c2_0, vI c2_1, vI x58, vI c2_3, vI c2_4, vI c2_5, vI t41, vI t42, vI x51, vI t45, .slice (ad a63) y64.length (na63 / 4)], 11⟩, ⟨b40, [vI 0, vI 0, vI 0, vI 0, vI 0, vI 0, vI 0, vI 0, vI 0, vI 0, .slice none 0 0], 11⟩, ⟨b38, [vI w1], 1⟩, ⟨b37, [vI i0_0, vI i0_1, vI i0_2, .slice a_i0_3 n_i0_3 c_i0_3, .slice a_i0_4 n_i0_4 c_i0_4], 5⟩, ⟨a130, encL E_i647 y131, na130⟩, ⟨a63, csa63, na63⟩] : List Own) ++ (Fa63 ++ [])) = H_ ∧ S = S_) ?_ ?_
          ·refine w_ (w_block ?_)
           obtain ⟨⟨x100, x101, x102, x103, x104, x105, x106⟩, hx107, e98⟩ := bind_of e98
           try dsimp only at e98
           obtain ⟨lb108, lo109, ll110, vs_, la111, lR112, lv113, hrep_, lz114, lu115⟩ := sln_get (E := (flatN E_i647)) nh84 hx107
           obtain rfl := (show vs_ = _ from hrep_)
           obtain ⟨⟨t117, t118⟩, h119, e98⟩ := bind_of e98
           try dsimp only at e98
           obtain ⟨⟨t120, t121⟩, h122, e98⟩ := bind_of e98
           try dsimp only at e98
           obtain ⟨⟨t123, t124⟩, h125, e98⟩ := bind_of e98
           try dsimp only at e98
           refine wxM mixed 2 [8, 8, 6, 5, 8, 8, 6, 5, 8, 8, 6, 5, 8] 1 [(0, spQ (.ixs 7 69 71) [.slice na82 x71.length nc83, vI x93] (ixs_sle rfl rfl la111 lz114 lu115)), (1, spLn 73 lb108 (lo109 + (x93).toNat * 7 + 0) 7 [] (vs := [vI x100, vI x101, vI x102, vI x103, vI x104, vI x105, vI x106]) (fun _ => rd_n lR112 sub_nil (subl_sub lv113 (by kernel_rfl)))), (14, spRc 41 #[vP b37 0, vP b38 0] 79 [83] [.agg #[vI x101, vI x102]] [[⟨b37, [vI i0_0, vI i0_1, vI i0_2, .slice a_i0_3 n_i0_3 c_i0_3, .slice a_i0_4 n_i0_4 c_i0_4], 5⟩], [⟨b38, [vI w1], 1⟩]] (by kernel_rfl) (scale_Cmd_1_v1.ok hE_ h119) rfl), (29, spRc 41 #[vP b37 0, vP b38 0] 79 [83] [.agg #[vI x103, vI x104]] [[⟨b37, [vI i0_0, vI i0_1, vI i0_2, .slice a_i0_3 n_i0_3 c_i0_3, .slice a_i0_4 n_i0_4 c_i0_4], 5⟩], [⟨b38, [vI w1], 1⟩]] (by kernel_rfl) (scale_Cmd_1_v1.ok hE_ h122) rfl), (44, spRc 41 #[vP b37 0, vP b38 0] 79 [83] [.agg #[vI x105, vI x106]] [[⟨b37, [vI i0_0, vI i0_1, vI i0_2, .slice a_i0_3 n_i0_3 c_i0_3, .slice a_i0_4 n_i0_4 c_i0_4], 5⟩], [⟨b38, [vI w1], 1⟩]] (by kernel_rfl) (scale_Cmd_1_v1.ok hE_ h125) rfl)] fun b116 => zWL [] ?_
           refine w_ (w_reg fun all => txM 4 [2, 0] 1 [] fun b126 => zTL [0] ?_)
           obtain ⟨y127, hl128, e98⟩ := bind_of e98
           refine txM 3 [1, 0, 2] 0 [(0, spX 69 7 56 [(vI 0), (vI 0), (vI 0), (vI 0), (vI 0), (vI 0), (vI 0)] 89 91 (E := E_i647) (L := y95) (X := ([(x100, t117, t118, t120, t121, t123, t124)] : List (Int × Int × Int × Int × Int × Int × Int))) a94 na94 (some ⟨b126, 0, none⟩) 1 1 [[⟨b126, [vI x100, vI t117, vI t118, vI t120, vI t121, vI t123, vI t124], 7⟩]] (fun _ => Or.inr ⟨_, _, rfl, .at 1 rfl (by kernel_rfl)⟩) hl128)] fun a129 na129 => zTL [0] ?_
           refine t_end ?_
           obtain rfl := Option.some.inj e98
           exact ⟨_, S, VS.lb [0, 2, 2, 2, 2, 0, 0, 0] (by kernel_rfl), a129, na129, by kernel_rfl, rfl, rfl⟩
          ·rintro σ_ H_ S_ ⟨a130, na130, rfl, rfl, rfl⟩
           refine wqF mixed [Fa63] [] 0 .nrm [] (zQL [] ?_)
           exact ⟨k_, Nat.lt_succ_self _, _, _, S, keep_sub [5, 6, 7, 11, 55, 56, 57, 69, 70, 71] (by kernel_rfl), VS.lb [5, 0, 4, 0, 0, 0, 0, 0] (by kernel_rfl), wr64 (x93 + 1), y131, a130, na130, rfl, rfl, rfl, e91⟩
         ·rw [if_neg c96] at e91
          have c96b : (decide (x93 < (x71.length : Int))) = false := decide_eq_false c96
          refine wqF mixed [Fa63] [] 0 (.ex 2) [(0, spQ (.bin .lss 71 70) [vI x93, vI (x71.length : Int)] (congrArg (fun t => some (Value.bool t)) c96b))] (zQL [] ?_)
          obtain rfl := Option.some.inj e91
          exact ⟨_, S, VS.lb [1, 2, 2, 2, 2, 0, 0, 0] (by kernel_rfl), a94, na94, by kernel_rfl, rfl, rfl⟩
       ·rintro σ_ H_ S_ ⟨a134, na134, rfl, rfl, rfl⟩
        refine w_reg fun all => t_someB 5 (a := a134) (cs := encL E_i647 y135) (M := na134) (by kernel_rfl) fun hba134_ => ?_
        refine txF [Fa63] 4 [1, 0] 1 [] fun b136 => zTL [0] ?_
        refine t_someB 5 (a := a134) (cs := encL E_i647 y135) (M := na134) (by kernel_rfl) fun hba134_ => ?_
        obtain ⟨y137, hl138, e67⟩ := bind_of e67
        refine txM 3 [6, 0, 1] 0 [(0, spN 72 4 48 [(vI 0), (vI 0), (.slice none 0 0), (vB false)] 96 98 (Rd_ := rdOf (([⟨a134, encL E_i647 y135, na134⟩] : List Own) ++ (Fa63 ++ [])) S) (E := N_0) (L := y64) (X := ([(t86, t87, y135, x72)] : List (Int × Int × List (Int × Int × Int × Int × Int × Int × Int) × Bool))) (cs := csa63) (ds := [vI t86, vI t87, .slice (ad a134) y135.length (na134 / 7), .bool x72]) a63 na63 b136 0 1 1 [[⟨b136, [vI t86, vI t87, .slice (ad a134) y135.length (na134 / 7), .bool x72], 4⟩]] (RL.mono hra63 (rd_sub (sub_app (seg_in 1 (X := (Fa63 ++ [])) rfl seg_hd) sub_nil))) (RL.one (E := N_0) ⟨_, _, rfl, SlN.own (RL.flat (E := E_i647)) hba134_ (by decide) (fun _ hk_ => Or.inl ⟨_, mem_at 0 rfl, hk_, rfl⟩)⟩) (fun _ => .at 1 rfl (by kernel_rfl)) hl138)] fun a139 na139 csa139 => zTL [0] (fun hra139 => ?_)
        refine t_end ?_
        obtain rfl := Option.some.inj e67
        exact ⟨_, S, VS.as (([⟨b39, [vI c2_0, vI c2_1, vI x58, vI c2_3, vI c2_4, vI c2_5, vI t41, vI t42, vI x51, vI t45, .slice (ad a139) y137.length (na139 / 4)], 11⟩, ⟨a139, csa139, na139⟩, ⟨b40, [vI 0, vI 0, vI 0, vI 0, vI 0, vI 0, vI 0, vI 0, vI 0, vI 0, .slice none 0 0], 11⟩, ⟨b38, [vI w1], 1⟩, ⟨b37, [vI i0_0, vI i0_1, vI i0_2, .slice a_i0_3 n_i0_3 c_i0_3, .slice a_i0_4 n_i0_4 c_i0_4], 5⟩, ⟨a134, encL E_i647 y135, na134⟩] : List Own) ++ (Fa63 ++ [])) (VS.treeA (.a (.l ([⟨b39, [vI c2_0, vI c2_1, vI x58, vI c2_3, vI c2_4, vI c2_5, vI t41, vI t42, vI x51, vI t45, .slice (ad a139) y137.length (na139 / 4)], 11⟩, ⟨a139, csa139, na139⟩, ⟨b40, [vI 0, vI 0, vI 0, vI 0, vI 0, vI 0, vI 0, vI 0, vI 0, vI 0, .slice none 0 0], 11⟩, ⟨b38, [vI w1], 1⟩, ⟨b37, [vI i0_0, vI i0_1, vI i0_2, .slice a_i0_3 n_i0_3 c_i0_3, .slice a_i0_4 n_i0_4 c_i0_4], 5⟩, ⟨a134, encL E_i647 y135, na134⟩] : List Own)) (.a (.f Fa63) (.l []))) (.a (.l ([⟨b39, [vI c2_0, vI c2_1, vI x58, vI c2_3, vI c2_4, vI c2_5, vI t41, vI t42, vI x51, vI t45, .slice (ad a139) y137.length (na139 / 4)], 11⟩, ⟨b40, [vI 0, vI 0, vI 0, vI 0, vI 0, vI 0, vI 0, vI 0, vI 0, vI 0, .slice none 0 0], 11⟩, ⟨b38, [vI w1], 1⟩, ⟨b37, [vI i0_0, vI i0_1, vI i0_2, .slice a_i0_3 n_i0_3 c_i0_3, .slice a_i0_4 n_i0_4 c_i0_4], 5⟩, ⟨a139, csa139, na139⟩] : List Own)) (.a (.a (.l ([⟨a134, encL E_i647 y135, na134⟩] : List Own)) (.a (.f Fa63) (.l []))) (.l []))) [0, 1, 1, 1, 0, 0, 0] (by kernel_rfl)), a139, na139, csa139, (([⟨a134, encL E_i647 y135, na134⟩] : List Own) ++ (Fa63 ++ [])), by kernel_rfl, rfl, rfl, RL.mono hra139 (rd_sub seg_hd)⟩
      ·rintro σ_ H_ S_ ⟨a140, na140, csa140, Fa140, rfl, rfl, rfl, hra140⟩
       refine wqF mixed [Fa140] [] 0 .nrm [] (zQL [] ?_)
       exact ⟨k_, Nat.lt_succ_self _, _, _, S, keep_sub [5, 6, 7, 55, 56, 57] (by kernel_rfl), VS.as (([⟨b39, [vI c2_0, vI c2_1, vI x58, vI c2_3, vI c2_4, vI c2_5, vI t41, vI t42, vI x51, vI t45, .slice (ad a140) y141.length (na140 / 4)], 11⟩, ⟨b40, [vI 0, vI 0, vI 0, vI 0, vI 0, vI 0, vI 0, vI 0, vI 0, vI 0, .slice none 0 0], 11⟩, ⟨b38, [vI w1], 1⟩, ⟨b37, [vI i0_0, vI i0_1, vI i0_2, .slice a_i0_3 n_i0_3 c_i0_3, .slice a_i0_4 n_i0_4 c_i0_4], 5⟩, ⟨a140, csa140, na140⟩] : List Own) ++ (Fa140 ++ [])) (VS.treeA (.a (.l ([⟨b39, [vI c2_0, vI c2_1, vI x58, vI c2_3, vI c2_4, vI c2_5, vI t41, vI t42, vI x51, vI t45, .slice (ad a140) y141.length (na140 / 4)], 11⟩, ⟨b40, [vI 0, vI 0, vI 0, vI 0, vI 0, vI 0, vI 0, vI 0, vI 0, vI 0, .slice none 0 0], 11⟩, ⟨b38, [vI w1], 1⟩, ⟨b37, [vI i0_0, vI i0_1, vI i0_2, .slice a_i0_3 n_i0_3 c_i0_3, .slice a_i0_4 n_i0_4 c_i0_4], 5⟩, ⟨a140, csa140, na140⟩] : List Own)) (.a (.f Fa140) (.l []))) (.a (.l ([⟨a140, csa140, na140⟩, ⟨b39, [vI c2_0, vI c2_1, vI x58, vI c2_3, vI c2_4, vI c2_5, vI t41, vI t42, vI x51, vI t45, .slice (ad a140) y141.length (na140 / 4)], 11⟩, ⟨b40, [vI 0, vI 0, vI 0, vI 0, vI 0, vI 0, vI 0, vI 0, vI 0, vI 0, .slice none 0 0], 11⟩, ⟨b38, [vI w1], 1⟩, ⟨b37, [vI i0_0, vI i0_1, vI i0_2, .slice a_i0_3 n_i0_3 c_i0_3, .slice a_i0_4 n_i0_4 c_i0_4], 5⟩] : List Own)) (.a (.a (.f Fa140) (.l [])) (.l []))) [4, 0, 0, 0, 0, 0] (by kernel_rfl)), wr64 (x62 + 1), y141, a140, na140, csa140, (Fa140 ++ []), rfl, rfl, rfl, e60, RL.mono hra140 (rd_sub seg_hd)⟩
     ·rw [if_neg c65] at e60
      have c65b : (decide (x62 < (c2_10.length : Int))) = false := decide_eq_false c65
      refine wqF mixed [Fa63] [] 0 (.ex 0) [(0, spQ (.bin .lss 57 56) [vI x62, vI (c2_10.length : Int)] (congrArg (fun t => some (Value.bool t)) c65b))] (zQL [] ?_)
      obtain rfl := Option.some.inj e60
      exact ⟨_, S, VS.as (([⟨a63, csa63, na63⟩, ⟨b39, [vI c2_0, vI c2_1, vI x58, vI c2_3, vI c2_4, vI c2_5, vI t41, vI t42, vI x51, vI t45, .slice (ad a63) y64.length (na63 / 4)], 11⟩, ⟨b40, [vI 0, vI 0, vI 0, vI 0, vI 0, vI 0, vI 0, vI 0, vI 0, vI 0, .slice none 0 0], 11⟩, ⟨b38, [vI w1], 1⟩, ⟨b37, [vI i0_0, vI i0_1, vI i0_2, .slice a_i0_3 n_i0_3 c_i0_3, .slice a_i0_4 n_i0_4 c_i0_4], 5⟩] : List Own) ++ (Fa63 ++ [])) (VS.treeA (.a (.l ([⟨a63, csa63, na63⟩, ⟨b39, [vI c2_0, vI c2_1, vI x58, vI c2_3, vI c2_4, vI c2_5, vI t41, vI t42, vI x51, vI t45, .slice (ad a63) y64.length (na63 / 4)], 11⟩, ⟨b40, [vI 0, vI 0, vI 0, vI 0, vI 0, vI 0, vI 0, vI 0, vI 0, vI 0, .slice none 0 0], 11⟩, ⟨b38, [vI w1], 1⟩, ⟨b37, [vI i0_0, vI i0_1, vI i0_2, .slice a_i0_3 n_i0_3 c_i0_3, .slice a_i0_4 n_i0_4 c_i0_4], 5⟩] : List Own)) (.a (.f Fa63) (.l []))) (.a (.l ([⟨b39, [vI c2_0, vI c2_1, vI x58, vI c2_3, vI c2_4, vI c2_5, vI t41, vI t42, vI x51, vI t45, .slice (ad a63) y64.length (na63 / 4)], 11⟩, ⟨b40, [vI 0, vI 0, vI 0, vI 0, vI 0, vI 0, vI 0, vI 0, vI 0, vI 0, .slice none 0 0], 11⟩, ⟨b38, [vI w1], 1⟩, ⟨b37, [vI i0_0, vI i0_1, vI i0_2, .slice a_i0_3 n_i0_3 c_i0_3, .slice a_i0_4 n_i0_4 c_i0_4], 5⟩, ⟨a63, csa63, na63⟩] : List Own)) (.a (.a (.f Fa63) (.l [])) (.l []))) [1, 1, 1, 1, 0, 0] (by kernel_rfl)), a63, na63, csa63, (Fa63 ++ []), by kernel_rfl, rfl, rfl, RL.mono hra63 (rd_sub seg_hd)⟩
   ·rintro σ_ H_ S_ ⟨a144, na144, csa144, Fa144, rfl, rfl, rfl, hra144⟩
    refine wxF mixed [Fa144] 1 [0, 1] 0 [] (zWL [0, 2, 3] ?_)
    refine w_ (w_as [(6, vP b40 0)] (([⟨b40, [vI c2_0, vI c2_1, vI x58, vI c2_3, vI c2_4, vI c2_5, vI t41, vI t42, vI x51, vI t45, .slice (ad a144) y145.length (na144 / 4)], 11⟩, ⟨a144, csa144, na144⟩] : List Own) ++ (Fa144 ++ [])) ?_)
    refine w_someB 1 rfl fun hz1_ => ?_
    refine w_ret ?_
    simp only [Option.some.injEq, Prod.mk.injEq] at e
    obtain ⟨rfl, rfl, rfl, rfl, rfl, rfl, rfl, rfl, rfl, rfl, rfl⟩ := e
    exact ⟨[_], _, S, ⟨⟨_, _, _, rfl, .at 0 rfl rfl, rfl⟩, trivial⟩, VS.treeA (.a (.l ([⟨b40, [vI c2_0, vI c2_1, vI x58, vI c2_3, vI c2_4, vI c2_5, vI t41, vI t42, vI x51, vI t45, .slice (ad a144) y145.length (na144 / 4)], 11⟩, ⟨a144, csa144, na144⟩] : List Own)) (.a (.f Fa144) (.l []))) (.a (.a (.l ([⟨a144, csa144, na144⟩] : List Own)) (.a (.f Fa144) (.l []))) (.l [])) [1, 1] (by kernel_rfl), (ad a144), (na144 / 4), (([⟨a144, csa144, na144⟩] : List Own) ++ (Fa144 ++ [])), rfl, rfl, rfl, SlN.mono (SlN.own (E := N_0) (RL.mono hra144 (rd_sub (sub_app (seg_in 1 (X := (Fa144 ++ [])) rfl seg_hd) sub_nil))) hz1_ (by decide) (fun _ hk_ => Or.inl ⟨_, mem_at 0 rfl, hk_, rfl⟩)) (rd_sub fun e_ he_ => seg_hd e_ ((sub_app (sub_cons (mem_at 0 rfl) sub_nil) (sub_app (seg_in 1 (X := (Fa144 ++ [])) rfl seg_hd) sub_nil)) e_ he_))⟩

/-- flatten.bend -/
def c55 : C := (.seq (.reg [oq 3 (.box 0), oq 4 (.box 1), oq 5 (.box 2), oq 6 (.mv (.const (vI 0)))]) (.seq (.drw [oq 9 (.pad 0 3), oq 10 (.ld none 9), oq 11 (.pad 0 4), oq 12 (.ld none 11), oq 13 (.bin .mul (.const (vI 2)) 12), oq 14 (.bin .sub 10 13), oq 15 (.pad 0 5), oq 16 (.ld none 15), oq 17 (.bin .add 14 16), oq 18 (.pad 1 3), oq 19 (.ld none 18), oq 20 (.pad 1 4), oq 21 (.ld none 20), oq 22 (.bin .mul (.const (vI 2)) 21), oq 23 (.bin .sub 19 22), oq 24 (.pad 1 5), oq 25 (.ld none 24), oq 26 (.bin .add 23 25), oq 7 (.mv 17), oq 8 (.mv 26)] [[], [0], [], [2], [3], [1, 4], [], [6], [5, 7], [], [9], [], [11], [12], [10, 13], [], [15], [14, 16], [8, 0, 1, 2, 3, 4, 5, 6, 7, 8], [17, 18, 0, 1, 2, 3, 4, 5, 6, 7, 8, 9, 10, 11, 12, 13, 14, 15, 16, 17, 18]]) (.seq (.reg [oq 27 (.mv 7), oq 28 (.mv 7), oq 29 (.un .neg 28), oq 30 (.mm true [27, 29]), oq 31 (.mv 8), oq 32 (.mv 8), oq 33 (.un .neg 32), oq 34 (.mm true [31, 33]), oq 35 (.bin .add 30 34), oq 6 (.mv 35)]) .ret)))
def flatten_bend.f (a0_X : Int) (a0_Y : Int) (b1_X : Int) (b1_Y : Int) (c2_X : Int) (c2_Y : Int) : Option (Int) := some (wr64 ((mx (wr64 ((wr64 (a0_X - (wr64 (2 * b1_X)))) + c2_X)) (wr64 (0 - (wr64 ((wr64 (a0_X - (wr64 (2 * b1_X)))) + c2_X))))) + (mx (wr64 ((wr64 (a0_Y - (wr64 (2 * b1_Y)))) + c2_Y)) (wr64 (0 - (wr64 ((wr64 (a0_Y - (wr64 (2 * b1_Y)))) + c2_Y)))))))
theorem flatten_bend.ok {S : Seal} {a0_X a0_Y b1_X b1_Y c2_X c2_Y r0_ : Int}{A_ : Int → Addr} (hE_ : EO gsE S A_ 157) (e : flatten_bend.f a0_X a0_Y b1_X b1_Y c2_X c2_Y = some r0_) :
    Cal Tryd.prog 55 [.agg #[vI a0_X, vI a0_Y], .agg #[vI b1_X, vI b1_Y], .agg #[vI c2_X, vI c2_Y]] [] S fun v H' S' => v = vI r0_ ∧ H' = [] ∧ S' = S := by
 unfold flatten_bend.f at e
 refine cal_of (c := c55) (N := 36) Tryd.func55 rfl rfl (by kernel_rfl) (rs := [.t 6]) (by kernel_rfl) (Nat.le_of_ble_eq_true rfl) ?_
 unfold c55
 refine wx mixed 3 [0, 1, 2, 0, 1, 2] 3 [] fun b102 b103 b104 => zWL [2, 1, 0] ?_
 refine w_ (w_ret ?_)
 obtain rfl := Option.some.inj e
 exact ⟨[_], [], S, ⟨(show gt _ _ = some _ from (by kernel_rfl)), trivial⟩, VS.none, rfl, rfl, rfl⟩

/-- flatten.Count -/
def c43 : C := (.seq (.reg [oq 2 (.box 0), oq 3 (.box 1), oq 4 (.mv (.const (vI 0)))]) (.seq (.reg [oq 5 (.mv (.const (vI 0)))]) (.seq (.seq (.reg [oq 7 (.pad 0 3), oq 8 (.ld none 7)]) (.block 0 (.seq (.reg [oq 10 (.bin .eql 8 (.const (vI 1))), oq 9 (.mv 10)]) (.cond 9 .skip (.seq (.reg [oq 12 (.bin .eql 8 (.const (vI 2))), oq 11 (.mv 12)]) (.cond 11 (.reg [oq 13 (.ld (some 2) 2), oq 14 (.pad 1 3), oq 15 (.ixa 2 3 14 (.const (vI 0))), oq 16 (.ld (some 2) 15), oq 17 (.pad 1 3), oq 18 (.ixa 2 3 17 (.const (vI 1))), oq 19 (.ld (some 2) 18), oq 20 (.call 55 [13, 16, 19]), oq 5 (.mv 20)]) (.seq (.reg [oq 22 (.bin .eql 8 (.const (vI 3))), oq 21 (.mv 22)]) (.cond 21 (.drw [oq 23 (.ld (some 2) 2), oq 24 (.pad 1 3), oq 25 (.ixa 2 3 24 (.const (vI 0))), oq 26 (.ld (some 2) 25), oq 27 (.pad 1 3), oq 28 (.ixa 2 3 27 (.const (vI 1))), oq 29 (.ld (some 2) 28), oq 30 (.call 55 [23, 26, 29]), oq 31 (.pad 1 3), oq 32 (.ixa 2 3 31 (.const (vI 0))), oq 33 (.ld (some 2) 32), oq 34 (.pad 1 3), oq 35 (.ixa 2 3 34 (.const (vI 1))), oq 36 (.ld (some 2) 35), oq 37 (.pad 1 3), oq 38 (.ixa 2 3 37 (.const (vI 2))), oq 39 (.ld (some 2) 38), oq 40 (.call 55 [33, 36, 39]), oq 41 (.mm true [30, 40]), oq 42 (.bin .mul (.const (vI 3)) 41), oq 5 (.mv 42)] [[], [], [1], [2], [], [4], [5], [0, 3, 6], [], [8], [9], [], [11], [12], [], [14], [15], [10, 13, 16, 7], [7, 17], [18], [19, 17, 0, 1, 2, 3, 4, 5, 6, 7, 8, 9, 10, 11, 12, 13, 14, 15, 16, 17, 18, 19]]) (.seq (.reg [oq 4 (.mv (.const (vI 0)))]) .ret))))))))) (.seq (.reg [oq 6 (.mv (.const (vI 1)))]) (.seq (.block 1 (.loop (.seq (.seq (.reg [oq 43 (.mv 5), oq 44 (.mv 6), oq 45 (.bin .mul (.const (vI 32)) 44), oq 46 (.mv 6), oq 47 (.bin .mul 45 46), oq 48 (.bin .gtr 43 47)]) (.cond 48 .skip (.exit 1))) (.block 2 (.reg [oq 49 (.mv 6), oq 50 (.bin .mul 49 (.const (vI 2))), oq 6 (.mv 50)]))))) (.seq (.reg [oq 51 (.mv 6), oq 4 (.mv 51)]) .ret))))))
def flatten_Count.l0 : Nat → Int → Int → Option (Int)
  | 0, _, _ => none
  | k + 1, x112, x116 => if x112 > (wr64 ((wr64 (32 * x116)) * x116)) then (flatten_Count.l0 k x112 (wr64 (x116 * 2))) else (some x116)
def flatten_Count.f (k : Nat) (a0_X : Int) (a0_Y : Int) (s1_Kind : Int) (s1_P_0_X : Int) (s1_P_0_Y : Int) (s1_P_1_X : Int) (s1_P_1_Y : Int) (s1_P_2_X : Int) (s1_P_2_Y : Int) : Option (Int) := (if s1_Kind = 1 then (some (.inr 0)) else (if s1_Kind = 2 then ((flatten_bend.f a0_X a0_Y s1_P_0_X s1_P_0_Y s1_P_1_X s1_P_1_Y).bind fun t105 => (some (.inr t105))) else (if s1_Kind = 3 then ((flatten_bend.f a0_X a0_Y s1_P_0_X s1_P_0_Y s1_P_1_X s1_P_1_Y).bind fun t108 => ((flatten_bend.f s1_P_0_X s1_P_0_Y s1_P_1_X s1_P_1_Y s1_P_2_X s1_P_2_Y).bind fun t110 => (some (.inr (wr64 (3 * (mx t108 t110))))))) else (some (.inl 0)))) : Option ((Int) ⊕ (Int))).bind fun s_ => match s_ with | .inl q121 => some q121 | .inr x112 => ((flatten_Count.l0 k x112 1 : Option (Int)).bind fun x120 => (some x120))
theorem flatten_Count.ok {S : Seal} {k : Nat} {a0_X a0_Y s1_Kind s1_P_0_X s1_P_0_Y s1_P_1_X s1_P_1_Y s1_P_2_X s1_P_2_Y r0_ : Int}{A_ : Int → Addr} (hE_ : EO gsE S A_ 157) (e : flatten_Count.f k a0_X a0_Y s1_Kind s1_P_0_X s1_P_0_Y s1_P_1_X s1_P_1_Y s1_P_2_X s1_P_2_Y = some r0_) :
    Cal Tryd.prog 43 [.agg #[vI a0_X, vI a0_Y], .agg #[vI s1_Kind, vI s1_P_0_X, vI s1_P_0_Y, vI s1_P_1_X, vI s1_P_1_Y, vI s1_P_2_X, vI s1_P_2_Y]] [] S fun v H' S' => v = vI r0_ ∧ H' = [] ∧ S' = S := by
 unfold flatten_Count.f at e
 refine cal_of (c := c43) (N := 52) Tryd.func43 rfl rfl (by kernel_rfl) (rs := [.t 4]) (by kernel_rfl) (Nat.le_of_ble_eq_true rfl) ?_
 unfold c43
 refine wx mixed 2 [] 2 [] fun b98 b99 => zWL [] ?_
 refine w_ ?_
 obtain ⟨s102, e101, e⟩ := bind_of e
 refine w_cut [5] (fun σ_ H_ S_ => ∃ (x112 : Int), s102 = .inr x112 ∧ [(5, vI x112)] = σ_ ∧ ([] : List Own) = H_ ∧ S = S_) ?_ ?_
 ·refine w_ ?_
  refine wxM mixed 1 [0] 0 [] (zWL [] ?_)
  refine w_ (w_block ?_)
  by_cases c103 : s1_Kind = 1
  ·rw [if_pos c103] at e101
   have c103b : (s1_Kind == 1) = true := beq_iff_eq.mpr c103
   refine wqM mixed [] 0 .nrm [(0, spQ (.bin .eql 8 (.const (vI 1))) [vI s1_Kind, vI 1] (congrArg (fun t => some (Value.bool t)) c103b))] (zQL [0, 1] ?_)
   obtain rfl := Option.some.inj e101
   exact ⟨_, S, VS.lb [] (by kernel_rfl), 0, rfl, by kernel_rfl, rfl, rfl⟩
  ·rw [if_neg c103] at e101
   have c103b : (s1_Kind == 1) = false := beq_eq_false_iff_ne.mpr c103
   refine wxM mixed 1 [] 0 [(0, spQ (.bin .eql 8 (.const (vI 1))) [vI s1_Kind, vI 1] (congrArg (fun t => some (Value.bool t)) c103b))] (zWL [] ?_)
   refine w_ (w_cf (w_ ?_))
   by_cases c104 : s1_Kind = 2
   ·rw [if_pos c104] at e101
    have c104b : (s1_Kind == 2) = true := beq_iff_eq.mpr c104
    obtain ⟨t105, h106, e101⟩ := bind_of e101
    refine wqM mixed [1, 0, 0] 0 .nrm [(0, spQ (.bin .eql 8 (.const (vI 2))) [vI s1_Kind, vI 2] (congrArg (fun t => some (Value.bool t)) c104b)), (9, spP 55 [13, 16, 19] (flatten_bend.ok hE_ h106))] (zQL [0, 1] ?_)
    obtain rfl := Option.some.inj e101
    exact ⟨_, S, VS.lb [] (by kernel_rfl), t105, rfl, by kernel_rfl, rfl, rfl⟩
   ·rw [if_neg c104] at e101
    have c104b : (s1_Kind == 2) = false := beq_eq_false_iff_ne.mpr c104
    refine wxM mixed 1 [] 0 [(0, spQ (.bin .eql 8 (.const (vI 2))) [vI s1_Kind, vI 2] (congrArg (fun t => some (Value.bool t)) c104b))] (zWL [] ?_)
    refine w_ (w_cf (w_ ?_))
    by_cases c107 : s1_Kind = 3
    ·rw [if_pos c107] at e101
     have c107b : (s1_Kind == 3) = true := beq_iff_eq.mpr c107
     obtain ⟨t108, h109, e101⟩ := bind_of e101
     obtain ⟨t110, h111, e101⟩ := bind_of e101
     refine wqM mixed [1, 0, 0, 0, 0, 0] 0 .nrm [(0, spQ (.bin .eql 8 (.const (vI 3))) [vI s1_Kind, vI 3] (congrArg (fun t => some (Value.bool t)) c107b)), (9, spP 55 [23, 26, 29] (flatten_bend.ok hE_ h109)), (19, spP 55 [33, 36, 39] (flatten_bend.ok hE_ h111))] (zQL [0, 1] ?_)
     obtain rfl := Option.some.inj e101
     exact ⟨_, S, VS.lb [] (by kernel_rfl), wr64 (3 * (mx t108 t110)), rfl, by kernel_rfl, rfl, rfl⟩
    ·rw [if_neg c107] at e101
     have c107b : (s1_Kind == 3) = false := beq_eq_false_iff_ne.mpr c107
     refine wxM mixed 1 [] 0 [(0, spQ (.bin .eql 8 (.const (vI 3))) [vI s1_Kind, vI 3] (congrArg (fun t => some (Value.bool t)) c107b))] (zWL [] ?_)
     refine w_ (w_cf (w_ ?_))
     refine wxM mixed 1 [] 0 [] (zW [(4, vI 0)] [0, 1] [] ([] : List Own) ?_)
     refine w_ (w_ret ?_)
     obtain rfl := Option.some.inj e101
     obtain rfl := Option.some.inj e
     exact ⟨[_], [], S, ⟨rfl, trivial⟩, VS.none, rfl, rfl, rfl⟩
 ·rintro σ_ H_ S_ ⟨x112, rfl, rfl, rfl, rfl⟩
  dsimp only at e
  refine wx mixed 1 [] 0 [] (zWL [] ?_)
  refine w_ ?_
  obtain ⟨x120, e114, e⟩ := bind_of e
  refine w_cut [6] (fun σ_ H_ S_ => [(6, vI x120)] = σ_ ∧ ([] : List Own) = H_ ∧ S = S_) ?_ ?_
  ·refine w_ (w_block (wk [(5, vI x112), (6, vI 1)] (w_vs (H' := ([] : List Own)) (S' := S) (VS.lb [] (by kernel_rfl)) ?_)))
   refine w_loop (fun n_ σ_ H_ S_ => ∃ (x116 : Int), [(5, vI x112), (6, vI x116)] = σ_ ∧ ([] : List Own) = H_ ∧ S = S_ ∧ flatten_Count.l0 n_ x112 x116 = some x120) _ ⟨1, rfl, rfl, rfl, e114⟩ ?_
   rintro n119 σ_ H_ S_ ⟨x116, rfl, rfl, rfl, e114⟩
   cases n119 with
   | zero => rw [flatten_Count.l0.eq_1] at e114; cases e114
   | succ k_ =>
    rw [flatten_Count.l0.eq_2] at e114
    by_cases c117 : x112 > (wr64 ((wr64 (32 * x116)) * x116))
    ·rw [if_pos c117] at e114
     have c117b : (decide (x112 > (wr64 ((wr64 (32 * x116)) * x116)))) = true := decide_eq_true c117
     refine wq mixed [] 0 .nrm [(5, spQ (.bin .gtr 43 47) [vI x112, vI (wr64 ((wr64 (32 * x116)) * x116))] (congrArg (fun t => some (Value.bool t)) c117b))] (zQL [] ?_)
     exact ⟨k_, Nat.lt_succ_self _, _, _, S, keep_sub [5, 6] (by kernel_rfl), VS.lb [] (by kernel_rfl), wr64 (x116 * 2), rfl, rfl, rfl, e114⟩
    ·rw [if_neg c117] at e114
     have c117b : (decide (x112 > (wr64 ((wr64 (32 * x116)) * x116)))) = false := decide_eq_false c117
     refine wq mixed [] 0 (.ex 1) [(5, spQ (.bin .gtr 43 47) [vI x112, vI (wr64 ((wr64 (32 * x116)) * x116))] (congrArg (fun t => some (Value.bool t)) c117b))] (zQL [] ?_)
     obtain rfl := Option.some.inj e114
     exact ⟨_, S, VS.lb [] (by kernel_rfl), by kernel_rfl, rfl, rfl⟩
  ·rintro σ_ H_ S_ ⟨rfl, rfl, rfl⟩
   refine wx mixed 1 [] 0 [] (zWL [] ?_)
   refine w_ (w_ret ?_)
   obtain rfl := Option.some.inj e
   exact ⟨[_], [], S, ⟨(show gt _ _ = some _ from (by kernel_rfl)), trivial⟩, VS.none, rfl, rfl, rfl⟩

/-- flatten.points -/
def c44 : C := (.seq (.reg [oq 1 (.box 0), oq 2 (.mv (.const (.slice none 0 0)))]) (.seq (.seq (.reg [oq 3 (.pad 0 1), oq 4 (.ld none 3), oq 5 (.bin .lss 4 (.const (vI 1))), oq 6 (.mv 5), ⟨(some 7), .pad 0 1, (some (6, false))⟩, ⟨(some 8), .ld none 7, (some (6, false))⟩, ⟨(some 9), .bin .gtr 8 (.const (vI 3)), (some (6, false))⟩, oq 10 (.pk 6 (.const (vB true)) 9)]) (.cond 10 (.seq (.reg [oq 2 (.mv (.const (.slice none 0 0)))]) .ret) .skip)) (.seq (.reg [oq 11 (.pad 1 1), oq 12 (.pad 0 1), oq 13 (.ld none 12), oq 14 (.sla 2 3 11 none (some 13)), oq 2 (.mv 14)]) .ret)))
def flatten_points_v1.f (s0_1 : Int) (s0_2 : Int) (s0_3 : Int) (s0_4 : Int) (s0_5 : Int) (s0_6 : Int) : Option (Int × Int × Int × Int × Int × Int × Int) := some (1, s0_1, s0_2, s0_3, s0_4, s0_5, s0_6)
theorem flatten_points_v1.ok {S : Seal} {s0_1 s0_2 s0_3 s0_4 s0_5 s0_6 r0_ r1_ r2_ r3_ r4_ r5_ r6_ : Int}{A_ : Int → Addr} (hE_ : EO gsE S A_ 157) (e : flatten_points_v1.f s0_1 s0_2 s0_3 s0_4 s0_5 s0_6 = some (r0_, r1_, r2_, r3_, r4_, r5_, r6_)) :
    Cal Tryd.prog 44 [.agg #[vI 1, vI s0_1, vI s0_2, vI s0_3, vI s0_4, vI s0_5, vI s0_6]] [] S fun v H' S' => ∃ (N0_ : Nat) , v = .slice (some ⟨N0_, 1, none⟩) 1 3 ∧ H' = ([⟨N0_, [vI r0_, vI r1_, vI r2_, vI r3_, vI r4_, vI r5_, vI r6_], 7⟩] : List Own) ∧ S' = S := by
 unfold flatten_points_v1.f at e
 refine cal_of (c := c44) (N := 15) Tryd.func44 rfl rfl (by kernel_rfl) (rs := [.t 2]) (by kernel_rfl) (Nat.le_of_ble_eq_true rfl) ?_
 unfold c44
 refine wx mixed 3 [0, 0, 0] 1 [] fun b125 => zWL [] ?_
 refine w_ (w_ret ?_)
 simp only [Option.some.injEq, Prod.mk.injEq] at e
 obtain ⟨rfl, rfl, rfl, rfl, rfl, rfl, rfl⟩ := e
 exact ⟨[_], _, S, ⟨(show gt _ _ = some _ from (by kernel_rfl)), trivial⟩, VS.lb [0] (by kernel_rfl), b125, rfl, rfl, rfl⟩

def flatten_points_v2.f (s0_1 : Int) (s0_2 : Int) (s0_3 : Int) (s0_4 : Int) (s0_5 : Int) (s0_6 : Int) : Option (Int × Int × Int × Int × Int × Int × Int) := some (2, s0_1, s0_2, s0_3, s0_4, s0_5, s0_6)
theorem flatten_points_v2.ok {S : Seal} {s0_1 s0_2 s0_3 s0_4 s0_5 s0_6 r0_ r1_ r2_ r3_ r4_ r5_ r6_ : Int}{A_ : Int → Addr} (hE_ : EO gsE S A_ 157) (e : flatten_points_v2.f s0_1 s0_2 s0_3 s0_4 s0_5 s0_6 = some (r0_, r1_, r2_, r3_, r4_, r5_, r6_)) :
    Cal Tryd.prog 44 [.agg #[vI 2, vI s0_1, vI s0_2, vI s0_3, vI s0_4, vI s0_5, vI s0_6]] [] S fun v H' S' => ∃ (N0_ : Nat) , v = .slice (some ⟨N0_, 1, none⟩) 2 3 ∧ H' = ([⟨N0_, [vI r0_, vI r1_, vI r2_, vI r3_, vI r4_, vI r5_, vI r6_], 7⟩] : List Own) ∧ S' = S := by
 unfold flatten_points_v2.f at e
 refine cal_of (c := c44) (N := 15) Tryd.func44 rfl rfl (by kernel_rfl) (rs := [.t 2]) (by kernel_rfl) (Nat.le_of_ble_eq_true rfl) ?_
 unfold c44
 refine wx mixed 3 [0, 0, 0] 1 [] fun b136 => zWL [] ?_
 refine w_ (w_ret ?_)
 simp only [Option.some.injEq, Prod.mk.injEq] at e
 obtain ⟨rfl, rfl, rfl, rfl, rfl, rfl, rfl⟩ := e
 exact ⟨[_], _, S, ⟨(show gt _ _ = some _ from (by kernel_rfl)), trivial⟩, VS.lb [0] (by kernel_rfl), b136, rfl, rfl, rfl⟩

def flatten_points_v3.f (s0_1 : Int) (s0_2 : Int) (s0_3 : Int) (s0_4 : Int) (s0_5 : Int) (s0_6 : Int) : Option (Int × Int × Int × Int × Int × Int × Int) := some (3, s0_1, s0_2, s0_3, s0_4, s0_5, s0_6)
theorem flatten_points_v3.ok {S : Seal} {s0_1 s0_2 s0_3 s0_4 s0_5 s0_6 r0_ r1_ r2_ r3_ r4_ r5_ r6_ : Int}{A_ : Int → Addr} (hE_ : EO gsE S A_ 157) (e : flatten_points_v3.f s0_1 s0_2 s0_3 s0_4 s0_5 s0_6 = some (r0_, r1_, r2_, r3_, r4_, r5_, r6_)) :
    Cal Tryd.prog 44 [.agg #[vI 3, vI s0_1, vI s0_2, vI s0_3, vI s0_4, vI s0_5, vI s0_6]] [] S fun v H' S' => ∃ (N0_ : Nat) , v = .slice (some ⟨N0_, 1, none⟩) 3 3 ∧ H' = ([⟨N0_, [vI r0_, vI r1_, vI r2_, vI r3_, vI r4_, vI r5_, vI r6_], 7⟩] : List Own) ∧ S' = S := by
 unfold flatten_points_v3.f at e
 refine cal_of (c := c44) (N := 15) Tryd.func44 rfl rfl (by kernel_rfl) (rs := [.t 2]) (by kernel_rfl) (Nat.le_of_ble_eq_true rfl) ?_
 unfold c44
 refine wx mixed 3 [0, 0, 0] 1 [] fun b147 => zWL [] ?_
 refine w_ (w_ret ?_)
 simp only [Option.some.injEq, Prod.mk.injEq] at e
 obtain ⟨rfl, rfl, rfl, rfl, rfl, rfl, rfl⟩ := e
 exact ⟨[_], _, S, ⟨(show gt _ _ = some _ from (by kernel_rfl)), trivial⟩, VS.lb [0] (by kernel_rfl), b147, rfl, rfl, rfl⟩

/-- flatten.Size -/
def c32 : C := (.seq (.reg [oq 1 (.box 0), oq 2 (.mv (.const (vI 0)))]) (.seq (.reg [oq 3 (.mv (.const (vI 1)))]) (.seq (.reg [oq 8 (.pad 0 1), oq 9 (.ld (some 2) 8), oq 4 (.new [(vI 0), (vI 0)]), ⟨none, .st 2 4 9, none⟩]) (.seq (.seq (.reg [oq 10 (.pad 2 1), oq 11 (.ld none 10), oq 12 (.lns 11), oq 13 (.mv (.const (vI 0)))]) (.block 0 (.loop (.seq (.reg [oq 14 (.bin .lss 13 12)]) (.seq (.cond 14 .skip (.exit 0)) (.seq (.block 1 (.seq (.reg [oq 15 (.ixs 7 11 13), oq 16 (.ld (some 7) 15), oq 6 (.new [(vI 0), (vI 0), (vI 0), (vI 0), (vI 0), (vI 0), (vI 0)]), ⟨none, .st 7 6 16, none⟩]) (.seq (.reg [oq 17 (.mv 3), oq 18 (.ld (some 2) 4), oq 19 (.ld (some 7) 6), oq 20 (.call 43 [18, 19]), oq 21 (.bin .add 17 20), oq 3 (.mv 21)]) (.seq (.reg [oq 22 (.ld (some 7) 6), oq 23 (.call 44 [22]), oq 7 (.mv 23)]) (.seq (.reg [oq 24 (.mv 7), oq 25 (.lns 24), oq 26 (.bin .gtr 25 (.const (vI 0)))]) (.cond 26 (.reg [oq 27 (.mv 7), oq 28 (.mv 7), oq 29 (.lns 28), oq 30 (.bin .sub 29 (.const (vI 1))), oq 31 (.ixs 2 27 30), oq 32 (.ld (some 2) 31), ⟨none, .st 2 4 32, none⟩]) .skip)))))) (.reg [oq 33 (.bin .add 13 (.const (vI 1))), oq 13 (.mv 33)]))))))) (.seq (.reg [oq 34 (.mv 3), oq 2 (.mv 34)]) .ret)))))
def flatten_Size_v1.l0 : Nat → List (Int × Int × Int × Int × Int × Int × Int) → Int → Int → Int → Int → Option (Int × Int × Int)
  | 0, _, _, _, _, _ => none
  | k + 1, p0_2, x78, x79, x80, x81 => if x79 < (p0_2.length : Int) then ((lgt p0_2 x79).bind fun (x83, x84, x85, x86, x87, x88, x89) => ((flatten_Count.f k x80 x81 x83 x84 x85 x86 x87 x88 x89).bind fun t100 => (if x83 = 1 then ((flatten_points_v1.f x84 x85 x86 x87 x88 x89).bind fun (t103, t104, t105, t106, t107, t108, t109) => (flatten_Size_v1.l0 k p0_2 (wr64 (x78 + t100)) (wr64 (x79 + 1)) t104 t105)) else (if x83 = 2 then ((flatten_points_v2.f x84 x85 x86 x87 x88 x89).bind fun (t114, t115, t116, t117, t118, t119, t120) => (flatten_Size_v1.l0 k p0_2 (wr64 (x78 + t100)) (wr64 (x79 + 1)) t117 t118)) else (if x83 = 3 then ((flatten_points_v3.f x84 x85 x86 x87 x88 x89).bind fun (t125, t126, t127, t128, t129, t130, t131) => (flatten_Size_v1.l0 k p0_2 (wr64 (x78 + t100)) (wr64 (x79 + 1)) t130 t131)) else (none)))))) else (some (x78, x80, x81))
def flatten_Size_v1.f (k : Nat) (p0_0 : Int) (p0_1 : Int) (p0_2 : List (Int × Int × Int × Int × Int × Int × Int)) (p0_3 : Bool) : Option (Int) := (flatten_Size_v1.l0 k p0_2 1 0 p0_0 p0_1 : Option (Int × Int × Int)).bind fun (x136, x137, x138) => (some x136)
theorem flatten_Size_v1.ok {S : Seal} {k : Nat} {p0_0 p0_1 : Int} {p0_2 : List (Int × Int × Int × Int × Int × Int × Int)} {p0_3 : Bool} {r0_ : Int}{A_ : Int → Addr} (hE_ : EO gsE S A_ 157) {a_p0_2 : Option Addr} {c_p0_2 : Nat} (h_p0_2 : SlE S E_i647 p0_2 a_p0_2) (e : flatten_Size_v1.f k p0_0 p0_1 p0_2 p0_3 = some r0_) :
    Cal Tryd.prog 32 [.agg #[vI p0_0, vI p0_1, .slice a_p0_2 p0_2.length c_p0_2, .bool p0_3]] [] S fun v H' S' => v = vI r0_ ∧ H' = [] ∧ S' = S := by
 unfold flatten_Size_v1.f at e
 refine cal_of (c := c32) (N := 35) Tryd.func32 rfl rfl (by kernel_rfl) (rs := [.t 2]) (by kernel_rfl) (Nat.le_of_ble_eq_true rfl) ?_
 unfold c32
 refine wx mixed 3 [0, 1] 2 [] fun b73 b74 => zWL [] ?_
 refine w_ ?_
 obtain ⟨⟨x136, x137, x138⟩, e76, e⟩ := bind_of e
 try dsimp only at e
 refine w_cut [3] (fun σ_ H_ S_ => [(3, vI x136)] = σ_ ∧ ([⟨b74, [vI x137, vI x138], 2⟩] : List Own) = H_ ∧ S = S_) ?_ ?_
 ·refine w_ ?_
  refine wxM mixed 1 [1] 0 [] (zWL [1] ?_)
  refine w_ (w_block (wk [(3, vI 1), (4, vP b74 0), (11, .slice a_p0_2 p0_2.length c_p0_2), (12, vI (p0_2.length : Int)), (13, vI 0)] (w_vs (H' := ([⟨b74, [vI p0_0, vI p0_1], 2⟩] : List Own)) (S' := S) (VS.lb [0] (by kernel_rfl)) ?_)))
  refine w_loop (fun n_ σ_ H_ S_ => ∃ (x78 : Int) (x79 : Int) (x80 : Int) (x81 : Int), [(3, vI x78), (4, vP b74 0), (11, .slice a_p0_2 p0_2.length c_p0_2), (12, vI (p0_2.length : Int)), (13, vI x79)] = σ_ ∧ ([⟨b74, [vI x80, vI x81], 2⟩] : List Own) = H_ ∧ S = S_ ∧ flatten_Size_v1.l0 n_ p0_2 x78 x79 x80 x81 = some (x136, x137, x138)) _ ⟨1, 0, p0_0, p0_1, rfl, rfl, rfl, e76⟩ ?_
  rintro n135 σ_ H_ S_ ⟨x78, x79, x80, x81, rfl, rfl, rfl, e76⟩
  cases n135 with
  | zero => rw [flatten_Size_v1.l0.eq_1] at e76; cases e76
  | succ k_ =>
   rw [flatten_Size_v1.l0.eq_2] at e76
   by_cases c82 : x79 < (p0_2.length : Int)
   ·rw [if_pos c82] at e76
    have c82b : (decide (x79 < (p0_2.length : Int))) = true := decide_eq_true c82
    refine wx mixed 2 [] 0 [(0, spQ (.bin .lss 13 12) [vI x79, vI (p0_2.length : Int)] (congrArg (fun t => some (Value.bool t)) c82b))] (zWL [] ?_)
    refine w_ (w_seq (w_block ?_))
    obtain ⟨⟨x83, x84, x85, x86, x87, x88, x89⟩, hx90, e76⟩ := bind_of e76
    try dsimp only at e76
    obtain ⟨lb91, lo92, ll93, la94, lS95, lv96, lz97, lu98⟩ := sle_get (E := E_i647) h_p0_2 hx90
    obtain ⟨t100, h101, e76⟩ := bind_of e76
    refine wxM mixed 2 [1, 0, 1] 1 [(0, spQ (.ixs 7 11 13) [.slice a_p0_2 p0_2.length c_p0_2, vI x79] (ixs_sle rfl rfl la94 lz97 lu98)), (1, spLn 15 lb91 (lo92 + (x79).toNat * 7 + 0) 7 [] (vs := [vI x83, vI x84, vI x85, vI x86, vI x87, vI x88, vI x89]) (fun _ => .sealed lS95 (subl_sub lv96 (by kernel_rfl)))), (7, spP 43 [18, 19] (flatten_Count.ok hE_ h101))] fun b99 => zWL [] ?_
    refine w_ (w_seq (w_reg fun all => ?_))
    refine txM 1 [0] 0 [] (zTL [0] ?_)
    refine t_as [(3, vI (wr64 (x78 + t100))), (4, vP b74 0), (11, .slice a_p0_2 p0_2.length c_p0_2), (12, vI (p0_2.length : Int)), (13, vI x79), (22, .agg #[vI x83, vI x84, vI x85, vI x86, vI x87, vI x88, vI x89])] ([⟨b74, [vI x80, vI x81], 2⟩] : List Own) ?_
    by_cases c102 : x83 = 1
    ·rw [if_pos c102] at e76
     have c102b : (x83 == 1) = true := beq_iff_eq.mpr c102
     obtain ⟨⟨t103, t104, t105, t106, t107, t108, t109⟩, h110, e76⟩ := bind_of e76
     try dsimp only at e76
     refine t_call (vs := [.agg #[vI 1, vI x84, vI x85, vI x86, vI x87, vI x88, vI x89]]) (H1 := []) (F := ([⟨b74, [vI x80, vI x81], 2⟩] : List Own)) rfl rfl (Eq.trans (b := (some [.agg #[vI x83, vI x84, vI x85, vI x86, vI x87, vI x88, vI x89]] : Option (List Value))) (by kernel_rfl) (congrArg (fun q_ => (some [.agg #[vI q_, vI x84, vI x85, vI x86, vI x87, vI x88, vI x89]] : Option (List Value))) c102)) (sel_perm (is := []) (by kernel_rfl)) (flatten_points_v1.ok hE_ h110) ?_
     rintro _ _ S_ ⟨N111, rfl, rfl, hS_⟩
     obtain rfl := hS_.symm
     refine tx 1 [] 0 [] (zTL [] ?_)
     refine t_end (w_ ?_)
     refine wqM mixed [0, 1] 0 .nrm [] (zQL [0] ?_)
     refine w_ ?_
     refine wqM mixed [] 0 .nrm [] (zQL [] ?_)
     exact ⟨k_, Nat.lt_succ_self _, _, _, S, keep_sub [3, 4, 11, 12, 13] (by kernel_rfl), VS.lb [0] (by kernel_rfl), wr64 (x78 + t100), wr64 (x79 + 1), t104, t105, rfl, rfl, rfl, e76⟩
    ·rw [if_neg c102] at e76
     have c102b : (x83 == 1) = false := beq_eq_false_iff_ne.mpr c102
     by_cases c113 : x83 = 2
     ·rw [if_pos c113] at e76
      have c113b : (x83 == 2) = true := beq_iff_eq.mpr c113
      obtain ⟨⟨t114, t115, t116, t117, t118, t119, t120⟩, h121, e76⟩ := bind_of e76
      try dsimp only at e76
      refine t_call (vs := [.agg #[vI 2, vI x84, vI x85, vI x86, vI x87, vI x88, vI x89]]) (H1 := []) (F := ([⟨b74, [vI x80, vI x81], 2⟩] : List Own)) rfl rfl (Eq.trans (b := (some [.agg #[vI x83, vI x84, vI x85, vI x86, vI x87, vI x88, vI x89]] : Option (List Value))) (by kernel_rfl) (congrArg (fun q_ => (some [.agg #[vI q_, vI x84, vI x85, vI x86, vI x87, vI x88, vI x89]] : Option (List Value))) c113)) (sel_perm (is := []) (by kernel_rfl)) (flatten_points_v2.ok hE_ h121) ?_
      rintro _ _ S_ ⟨N122, rfl, rfl, hS_⟩
      obtain rfl := hS_.symm
      refine tx 1 [] 0 [] (zTL [] ?_)
      refine t_end (w_ ?_)
      refine wqM mixed [0, 1] 0 .nrm [] (zQL [0] ?_)
      refine w_ ?_
      refine wqM mixed [] 0 .nrm [] (zQL [] ?_)
      exact ⟨k_, Nat.lt_succ_self _, _, _, S, keep_sub [3, 4, 11, 12, 13] (by kernel_rfl), VS.lb [0] (by kernel_rfl), wr64 (x78 + t100), wr64 (x79 + 1), t117, t118, rfl, rfl, rfl, e76⟩
     ·rw [if_neg c113] at e76
      have c113b : (x83 == 2) = false := beq_eq_false_iff_ne.mpr c113
      by_cases c124 : x83 = 3
      ·rw [if_pos c124] at e76
       have c124b : (x83 == 3) = true := beq_iff_eq.mpr c124
       obtain ⟨⟨t125, t126, t127, t128, t129, t130, t131⟩, h132, e76⟩ := bind_of e76
       try dsimp only at e76
       refine t_call (vs := [.agg #[vI 3, vI x84, vI x85, vI x86, vI x87, vI x88, vI x89]]) (H1 := []) (F := ([⟨b74, [vI x80, vI x81], 2⟩] : List Own)) rfl rfl (Eq.trans (b := (some [.agg #[vI x83, vI x84, vI x85, vI x86, vI x87, vI x88, vI x89]] : Option (List Value))) (by kernel_rfl) (congrArg (fun q_ => (some [.agg #[vI q_, vI x84, vI x85, vI x86, vI x87, vI x88, vI x89]] : Option (List Value))) c124)) (sel_perm (is := []) (by kernel_rfl)) (flatten_points_v3.ok hE_ h132) ?_
       rintro _ _ S_ ⟨N133, rfl, rfl, hS_⟩
       obtain rfl := hS_.symm
       refine tx 1 [] 0 [] (zTL [] ?_)
       refine t_end (w_ ?_)
       refine wqM mixed [0, 1] 0 .nrm [] (zQL [0] ?_)
       refine w_ ?_
       refine wqM mixed [] 0 .nrm [] (zQL [] ?_)
       exact ⟨k_, Nat.lt_succ_self _, _, _, S, keep_sub [3, 4, 11, 12, 13] (by kernel_rfl), VS.lb [0] (by kernel_rfl), wr64 (x78 + t100), wr64 (x79 + 1), t130, t131, rfl, rfl, rfl, e76⟩
      ·rw [if_neg c124] at e76
       have c124b : (x83 == 3) = false := beq_eq_false_iff_ne.mpr c124
       cases e76
   ·rw [if_neg c82] at e76
    have c82b : (decide (x79 < (p0_2.length : Int))) = false := decide_eq_false c82
    refine wq mixed [] 0 (.ex 0) [(0, spQ (.bin .lss 13 12) [vI x79, vI (p0_2.length : Int)] (congrArg (fun t => some (Value.bool t)) c82b))] (zQL [] ?_)
    simp only [Option.some.injEq, Prod.mk.injEq] at e76
    obtain ⟨rfl, rfl, rfl⟩ := e76
    exact ⟨_, S, VS.lb [0] (by kernel_rfl), by kernel_rfl, rfl, rfl⟩
 ·rintro σ_ H_ S_ ⟨rfl, rfl, rfl⟩
  refine wx mixed 1 [] 0 [] (zWL [0] ?_)
  refine w_ (w_ret ?_)
  obtain rfl := Option.some.inj e
  exact ⟨[_], [], S, ⟨(show gt _ _ = some _ from (by kernel_rfl)), trivial⟩, VS.none, rfl, rfl, rfl⟩

/-- render.Edges -/
def c17 : C := (.seq (.reg [oq 2 (.box 0), oq 4 (.mv (.const (vI 0))), oq 5 (.mv (.const .nilIface))]) (.seq (.seq (.reg [oq 12 (.ld (some 5) 2), oq 13 (.mv 1), oq 14 (.call 30 [12, 13]), oq 6 (.mv 14)]) (.seq (.reg [oq 15 (.mv 6), oq 16 (.eqt true 29 15 (.const .nilIface))]) (.cond 16 (.seq (.reg [oq 17 (.mv 6), oq 4 (.mv (.const (vI 0))), oq 5 (.mv 17)]) .ret) .skip))) (.seq (.reg [oq 7 (.mv (.const (vI 0)))]) (.seq (.seq (.reg [oq 18 (.pad 4 2), oq 19 (.ld none 18), oq 20 (.lns 19), oq 21 (.mv (.const (vI 0)))]) (.block 0 (.loop (.seq (.reg [oq 22 (.bin .lss 21 20)]) (.seq (.cond 22 .skip (.exit 0)) (.seq (.block 1 (.seq (.reg [oq 23 (.ixs 11 19 21), oq 24 (.ld (some 11) 23), oq 9 (.new [(vI 0), (vI 0), (vI 0), (vI 0), (vI 0), (vI 0), (vI 0), (vI 0), (vI 0), (vI 0), (.slice none 0 0)]), ⟨none, .st 11 9 24, none⟩]) (.seq (.reg [oq 25 (.ld (some 5) 2), oq 26 (.mv 1), oq 27 (.ld (some 11) 9), oq 28 (.call 31 [25, 26, 27]), oq 29 (.fld none 10 28), oq 30 (.lns 29), oq 31 (.mv (.const (vI 0)))]) (.block 2 (.loop (.seq (.reg [oq 32 (.bin .lss 31 30)]) (.seq (.cond 32 .skip (.exit 2)) (.seq (.block 3 (.seq (.reg [oq 33 (.ixs 4 29 31), oq 34 (.ld (some 4) 33), oq 11 (.new [(vI 0), (vI 0), (.slice none 0 0), (vB false)]), ⟨none, .st 4 11 34, none⟩]) (.reg [oq 35 (.mv 7), oq 36 (.ld (some 4) 11), oq 37 (.call 32 [36]), oq 38 (.bin .add 35 37), oq 7 (.mv 38)]))) (.reg [oq 39 (.bin .add 31 (.const (vI 1))), oq 31 (.mv 39)]))))))))) (.reg [oq 40 (.bin .add 21 (.const (vI 1))), oq 21 (.mv 40)]))))))) (.seq (.seq (.reg [oq 41 (.mv 7), oq 42 (.bin .gtr 41 (.const (vI 4194304)))]) (.cond 42 (.seq (.drw [oq 43 (.ld none (.global 1)), oq 4 (.mv (.const (vI 0))), oq 5 (.mv 43)] [[], [], [0, 1, 0, 1]]) .ret) .skip)) (.seq (.reg [oq 44 (.mv 7), oq 4 (.mv 44), oq 5 (.mv (.const .nilIface))]) .ret))))))
def render_Edges_v1.l1 : Nat → List (Int × Int × List (Int × Int × Int × Int × Int × Int × Int) × Bool) → Int → Int → Option (Int)
  | 0, _, _, _ => none
  | k + 1, t50, x53, x54 => if x54 < (t50.length : Int) then ((lgt t50 x54).bind fun (x56, x57, x58, x59) => ((flatten_Size_v1.f k x56 x57 x58 x59).bind fun t73 => (render_Edges_v1.l1 k t50 (wr64 (x53 + t73)) (wr64 (x54 + 1))))) else (some x53)
def render_Edges_v1.l0 : Nat → Int → Int → Int → List (Int × Int × Int × Int × Int × Int × Int × Int × Int × Int × List (Int × Int × List (Int × Int × Int × Int × Int × Int × Int) × Bool)) → Int → Int → Int → Option (Int)
  | 0, _, _, _, _, _, _, _ => none
  | k + 1, i0_0, i0_1, i0_2, i0_4, w1, x10, x11 => if x11 < (i0_4.length : Int) then (((lgt i0_4 x11).bind fun (x16, x17, x18, x19, x20, x21, x22, x23, x24, x25, x26) => ((scale_Cmd_v1.f k i0_0 i0_1 i0_2 w1 x16 x17 x18 x19 x20 x21 x22 x23 x24 x25 x26).bind fun (t40, t41, t42, t43, t44, t45, t46, t47, t48, t49, t50) => (render_Edges_v1.l1 k t50 x10 0)) : Option (Int)).bind fun x77 => (render_Edges_v1.l0 k i0_0 i0_1 i0_2 i0_4 w1 x77 (wr64 (x11 + 1)))) else (some x10)
def render_Edges_v1.f (k : Nat) (i0_0 : Int) (i0_1 : Int) (i0_2 : Int) (i0_4 : List (Int × Int × Int × Int × Int × Int × Int × Int × Int × Int × List (Int × Int × List (Int × Int × Int × Int × Int × Int × Int) × Bool))) (w1 : Int) : Option (Int × Int) := (scale_Check_v1.f i0_0 i0_1 i0_2 w1).bind fun t4 => (if t4 = 0 then ((render_Edges_v1.l0 k i0_0 i0_1 i0_2 i0_4 w1 0 0 : Option (Int)).bind fun x80 => (if x80 > 4194304 then (some (0, 2)) else (some (x80, 0)))) else (some (0, t4)))
theorem render_Edges_v1.ok {S : Seal} {k : Nat} {i0_0 i0_1 i0_2 : Int} {i0_4 : List (Int × Int × Int × Int × Int × Int × Int × Int × Int × Int × List (Int × Int × List (Int × Int × Int × Int × Int × Int × Int) × Bool))} {w1 r0_ r1_ : Int}{A_ : Int → Addr} (hE_ : EO gsE S A_ 157) {a_i0_3 : Option Addr} {n_i0_3 c_i0_3 : Nat} {a_i0_4 : Option Addr} {c_i0_4 : Nat} (h_i0_4 : SlN (rdOf [] S) N_1 i0_4 a_i0_4) (e : render_Edges_v1.f k i0_0 i0_1 i0_2 i0_4 w1 = some (r0_, r1_)) :
    Cal Tryd.prog 17 [.agg #[vI i0_0, vI i0_1, vI i0_2, .slice a_i0_3 n_i0_3 c_i0_3, .slice a_i0_4 i0_4.length c_i0_4], vI w1] [] S fun v H' S' => v = .tuple #[vI r0_, errV 157 A_ r1_] ∧ H' = [] ∧ S' = S := by
 unfold render_Edges_v1.f at e
 refine cal_of (c := c17) (N := 45) Tryd.func17 rfl rfl (by kernel_rfl) (rs := [.t 4, .t 5]) (by kernel_rfl) (Nat.le_of_ble_eq_true rfl) ?_
 unfold c17
 refine wx mixed 1 [] 1 [] fun b3 => zWL [] ?_
 refine w_ (w_seq ?_)
 obtain ⟨t4, h5, e⟩ := bind_of e
 refine wxM mixed 1 [0] 0 [(2, spP 30 [12, 13] (vs := [.agg #[vI i0_0, vI i0_1, vI i0_2, .slice a_i0_3 n_i0_3 c_i0_3, .slice a_i0_4 i0_4.length c_i0_4], vI w1]) (scale_Check_v1.ok hE_ h5))] (zWL [] ?_)
 refine w_ ?_
 by_cases c6 : t4 = 0
 ·rw [if_pos c6] at e
  have c6b : (t4 == 0) = true := beq_iff_eq.mpr c6
  refine wqM mixed [] 0 .nrm [(1, spE true 29 15 (.const .nilIface) (a := errV 157 A_ t4) (b := .nilIface) (r := t4 == 0) (eqErr (by kernel_rfl) rfl) (bnk c6b rfl))] (zQL [] ?_)
  refine w_ ?_
  refine wxM mixed 1 [] 0 [] (zWL [] ?_)
  refine w_ ?_
  obtain ⟨x80, e8, e⟩ := bind_of e
  refine w_cut [7] (fun σ_ H_ S_ => [(7, vI x80)] = σ_ ∧ ([⟨b3, [vI i0_0, vI i0_1, vI i0_2, .slice a_i0_3 n_i0_3 c_i0_3, .slice a_i0_4 i0_4.length c_i0_4], 5⟩] : List Own) = H_ ∧ S = S_) ?_ ?_
  ·refine w_ ?_
   refine wxM mixed 1 [0] 0 [] (zWL [] ?_)
   refine w_ (w_block (wk [(1, vI w1), (2, vP b3 0), (7, vI 0), (19, .slice a_i0_4 i0_4.length c_i0_4), (20, vI (i0_4.length : Int)), (21, vI 0)] (w_vs (H' := ([⟨b3, [vI i0_0, vI i0_1, vI i0_2, .slice a_i0_3 n_i0_3 c_i0_3, .slice a_i0_4 i0_4.length c_i0_4], 5⟩] : List Own)) (S' := S) (VS.lb [0] (by kernel_rfl)) ?_)))
   refine w_loop (fun n_ σ_ H_ S_ => ∃ (x10 : Int) (x11 : Int), [(1, vI w1), (2, vP b3 0), (7, vI x10), (19, .slice a_i0_4 i0_4.length c_i0_4), (20, vI (i0_4.length : Int)), (21, vI x11)] = σ_ ∧ ([⟨b3, [vI i0_0, vI i0_1, vI i0_2, .slice a_i0_3 n_i0_3 c_i0_3, .slice a_i0_4 i0_4.length c_i0_4], 5⟩] : List Own) = H_ ∧ S = S_ ∧ render_Edges_v1.l0 n_ i0_0 i0_1 i0_2 i0_4 w1 x10 x11 = some x80) _ ⟨0, 0, rfl, rfl, rfl, e8⟩ ?_
   rintro n79 σ_ H_ S_ ⟨x10, x11, rfl, rfl, rfl, e8⟩
   cases n79 with
   | zero => rw [render_Edges_v1.l0.eq_1] at e8; cases e8
   | succ k_ =>
    rw [render_Edges_v1.l0.eq_2] at e8
    by_cases c12 : x11 < (i0_4.length : Int)
    ·rw [if_pos c12] at e8
     have c12b : (decide (x11 < (i0_4.length : Int))) = true := decide_eq_true c12
     refine wx mixed 2 [] 0 [(0, spQ (.bin .lss 21 20) [vI x11, vI (i0_4.length : Int)] (congrArg (fun t => some (Value.bool t)) c12b))] (zWL [] ?_)
     refine w_ ?_
     obtain ⟨x77, e14, e8⟩ := bind_of e8
     refine w_cut [1, 2, 7, 19, 20, 21] (fun σ_ H_ S_ => [(1, vI w1), (2, vP b3 0), (7, vI x77), (19, .slice a_i0_4 i0_4.length c_i0_4), (20, vI (i0_4.length : Int)), (21, vI x11)] = σ_ ∧ ([⟨b3, [vI i0_0, vI i0_1, vI i0_2, .slice a_i0_3 n_i0_3 c_i0_3, .slice a_i0_4 i0_4.length c_i0_4], 5⟩] : List Own) = H_ ∧ S = S_) ?_ ?_
     ·refine w_ (w_block ?_)
      obtain ⟨⟨x16, x17, x18, x19, x20, x21, x22, x23, x24, x25, x26⟩, hx27, e14⟩ := bind_of e14
      try dsimp only at e14
      obtain ⟨lb28, lo29, ll30, vs_, la31, lR32, lv33, hrep_, lz34, lu35⟩ := sln_get (E := N_1) h_i0_4 hx27
      obtain ⟨na36, nc37, rfl, nh38⟩ := hrep_
      refine wxM mixed 1 [1] 1 [(0, spQ (.ixs 11 19 21) [.slice a_i0_4 i0_4.length c_i0_4, vI x11] (ixs_sle rfl rfl la31 lz34 lu35)), (1, spLn 23 lb28 (lo29 + (x11).toNat * 11 + 0) 11 [] (vs := [vI x16, vI x17, vI x18, vI x19, vI x20, vI x21, vI x22, vI x23, vI x24, vI x25, .slice na36 x26.length nc37]) (fun _ => rd_n lR32 sub_nil (subl_sub lv33 (by kernel_rfl))))] fun b39 => zWL [] ?_
      refine w_ (w_seq (w_reg fun all => ?_))
      refine txM 3 [1, 0] 0 [] (zTL [0] ?_)
      refine t_as [(1, vI w1), (2, vP b3 0), (7, vI x10), (19, .slice a_i0_4 i0_4.length c_i0_4), (20, vI (i0_4.length : Int)), (21, vI x11), (25, .agg #[vI i0_0, vI i0_1, vI i0_2, .slice a_i0_3 n_i0_3 c_i0_3, .slice a_i0_4 i0_4.length c_i0_4]), (26, vI w1), (27, .agg #[vI x16, vI x17, vI x18, vI x19, vI x20, vI x21, vI x22, vI x23, vI x24, vI x25, .slice na36 x26.length nc37])] ([⟨b3, [vI i0_0, vI i0_1, vI i0_2, .slice a_i0_3 n_i0_3 c_i0_3, .slice a_i0_4 i0_4.length c_i0_4], 5⟩] : List Own) ?_
      obtain ⟨⟨t40, t41, t42, t43, t44, t45, t46, t47, t48, t49, t50⟩, h51, e14⟩ := bind_of e14
      try dsimp only at e14
      refine t_call (vs := [.agg #[vI i0_0, vI i0_1, vI i0_2, .slice a_i0_3 n_i0_3 c_i0_3, .slice a_i0_4 i0_4.length c_i0_4], vI w1, .agg #[vI x16, vI x17, vI x18, vI x19, vI x20, vI x21, vI x22, vI x23, vI x24, vI x25, .slice na36 x26.length nc37]]) (H1 := []) (F := ([⟨b3, [vI i0_0, vI i0_1, vI i0_2, .slice a_i0_3 n_i0_3 c_i0_3, .slice a_i0_4 i0_4.length c_i0_4], 5⟩] : List Own)) rfl rfl (by kernel_rfl) (sel_perm (is := []) (by kernel_rfl)) (scale_Cmd_v1.ok hE_ nh38 h51) ?_
      rintro _ _ S_ ⟨Q52a0, Q52c0, Q52F, rfl, rfl, hS_, Q52h0⟩
      obtain rfl := hS_.symm
      refine t_vs (H' := (([⟨b3, [vI i0_0, vI i0_1, vI i0_2, .slice a_i0_3 n_i0_3 c_i0_3, .slice a_i0_4 i0_4.length c_i0_4], 5⟩] : List Own) ++ (Q52F ++ []))) (S' := S) (VS.treeA (.a (.a (.f Q52F) (.l [])) (.l ([⟨b3, [vI i0_0, vI i0_1, vI i0_2, .slice a_i0_3 n_i0_3 c_i0_3, .slice a_i0_4 i0_4.length c_i0_4], 5⟩] : List Own))) (.a (.l ([⟨b3, [vI i0_0, vI i0_1, vI i0_2, .slice a_i0_3 n_i0_3 c_i0_3, .slice a_i0_4 i0_4.length c_i0_4], 5⟩] : List Own)) (.a (.f Q52F) (.l []))) [1, 0] (by kernel_rfl)) ?_
      refine txF [Q52F] 3 [] 0 [] (zTL [] ?_)
      refine t_end (w_ (w_block (wk [(1, vI w1), (2, vP b3 0), (7, vI x10), (19, .slice a_i0_4 i0_4.length c_i0_4), (20, vI (i0_4.length : Int)), (21, vI x11), (29, .slice Q52a0 t50.length Q52c0), (30, vI (t50.length : Int)), (31, vI 0)] (w_vs (H' := (([⟨b3, [vI i0_0, vI i0_1, vI i0_2, .slice a_i0_3 n_i0_3 c_i0_3, .slice a_i0_4 i0_4.length c_i0_4], 5⟩] : List Own) ++ (Q52F ++ []))) (S' := S) (VS.lb [0, 0] (by kernel_rfl)) ?_))))
      refine w_loop (fun n_ σ_ H_ S_ => ∃ (x53 : Int) (x54 : Int), [(1, vI w1), (2, vP b3 0), (7, vI x53), (19, .slice a_i0_4 i0_4.length c_i0_4), (20, vI (i0_4.length : Int)), (21, vI x11), (29, .slice Q52a0 t50.length Q52c0), (30, vI (t50.length : Int)), (31, vI x54)] = σ_ ∧ (([⟨b3, [vI i0_0, vI i0_1, vI i0_2, .slice a_i0_3 n_i0_3 c_i0_3, .slice a_i0_4 i0_4.length c_i0_4], 5⟩] : List Own) ++ (Q52F ++ [])) = H_ ∧ S = S_ ∧ render_Edges_v1.l1 n_ t50 x53 x54 = some x77) _ ⟨x10, 0, rfl, rfl, rfl, e14⟩ ?_
      rintro n76 σ_ H_ S_ ⟨x53, x54, rfl, rfl, rfl, e14⟩
      cases n76 with
      | zero => rw [render_Edges_v1.l1.eq_1] at e14; cases e14
      | succ k_ =>
       rw [render_Edges_v1.l1.eq_2] at e14
       by_cases c55 : x54 < (t50.length : Int)
       ·rw [if_pos c55] at e14
        have c55b : (decide (x54 < (t50.length : Int))) = true := decide_eq_true c55
        refine wxF mixed [Q52F] 2 [] 0 [(0, spQ (.bin .lss 31 30) [vI x54, vI (t50.length : Int)] (congrArg (fun t => some (Value.bool t)) c55b))] (zWL [] ?_)
        refine w_ (w_seq (w_block (w_seq (w_reg fun all => ?_))))
        obtain ⟨⟨x56, x57, x58, x59⟩, hx60, e14⟩ := bind_of e14
        try dsimp only at e14
        obtain ⟨lb61, lo62, ll63, vs_, la64, lR65, lv66, hrep_, lz67, lu68⟩ := sln_get (E := N_0) Q52h0 hx60
        obtain ⟨na69, nc70, rfl, nh71⟩ := hrep_
        refine txM 1 [] 0 [(0, spQ (.ixs 4 29 31) [.slice Q52a0 t50.length Q52c0, vI x54] (ixs_sle rfl rfl la64 lz67 lu68))] (zTL [] ?_)
        refine t_as [(1, vI w1), (2, vP b3 0), (7, vI x53), (19, .slice a_i0_4 i0_4.length c_i0_4), (20, vI (i0_4.length : Int)), (21, vI x11), (29, .slice Q52a0 t50.length Q52c0), (30, vI (t50.length : Int)), (31, vI x54), (33, vP lb61 (lo62 + (x54).toNat * 4 + 0))] (([⟨b3, [vI i0_0, vI i0_1, vI i0_2, .slice a_i0_3 n_i0_3 c_i0_3, .slice a_i0_4 i0_4.length c_i0_4], 5⟩] : List Own) ++ (Q52F ++ [])) ?_
        refine t_v (.ldn (vs := [vI x56, vI x57, .slice na69 x58.length nc70, .bool x59]) rfl rfl rfl (rd_n lR65 (sub_app (seg_in 1 (X := (Q52F ++ [])) rfl seg_hd) sub_nil) (subl_sub lv66 (by kernel_rfl)))) (txF [Q52F] 2 [2] 1 [] fun b72 => zTL [] ?_)
        refine t_end (w_ (w_reg fun all => ?_))
        refine txM 2 [0] 0 [] (zTL [0] ?_)
        refine t_as [(1, vI w1), (2, vP b3 0), (19, .slice a_i0_4 i0_4.length c_i0_4), (20, vI (i0_4.length : Int)), (21, vI x11), (29, .slice Q52a0 t50.length Q52c0), (30, vI (t50.length : Int)), (31, vI x54), (35, vI x53), (36, .agg #[vI x56, vI x57, .slice na69 x58.length nc70, .bool x59])] (([⟨b3, [vI i0_0, vI i0_1, vI i0_2, .slice a_i0_3 n_i0_3 c_i0_3, .slice a_i0_4 i0_4.length c_i0_4], 5⟩] : List Own) ++ (Q52F ++ [])) ?_
        obtain ⟨t73, h74, e14⟩ := bind_of e14
        refine t_v (.callr (vs := [.agg #[vI x56, vI x57, .slice na69 x58.length nc70, .bool x59]]) (A := ((Q52F ++ []) ++ [])) (F0 := ([⟨b3, [vI i0_0, vI i0_1, vI i0_2, .slice a_i0_3 n_i0_3 c_i0_3, .slice a_i0_4 i0_4.length c_i0_4], 5⟩] : List Own)) rfl rfl (by kernel_rfl) (tree_perm (.a (.l ([⟨b3, [vI i0_0, vI i0_1, vI i0_2, .slice a_i0_3 n_i0_3 c_i0_3, .slice a_i0_4 i0_4.length c_i0_4], 5⟩] : List Own)) (.a (.f Q52F) (.l []))) (.a (.a (.f Q52F) (.l [])) (.l ([] : List Own))) (.l ([⟨b3, [vI i0_0, vI i0_1, vI i0_2, .slice a_i0_3 n_i0_3 c_i0_3, .slice a_i0_4 i0_4.length c_i0_4], 5⟩] : List Own)) [1] (by kernel_rfl)) (cal_lendFr (Q52F ++ []) fun S1_ le1_ hp1_ hs1_ hn1_ ex1_ => flatten_Size_v1.ok (EO.mono hE_ le1_ hp1_) (SlE.ofN (SlN.mono nh71 (rd_lend hs1_ le1_ (sub_app (seg_in 0 (X := (Q52F ++ [])) rfl seg_hd) sub_nil)))) h74)) ?_
        refine txF [Q52F] 2 [] 0 [] (zTL [] ?_)
        refine t_end (w_ ?_)
        refine wqM mixed [] 0 .nrm [] (zQL [] ?_)
        exact ⟨k_, Nat.lt_succ_self _, _, _, S, keep_sub [1, 2, 7, 19, 20, 21, 29, 30, 31] (by kernel_rfl), VS.lb [0, 0] (by kernel_rfl), wr64 (x53 + t73), wr64 (x54 + 1), rfl, rfl, rfl, e14⟩
       ·rw [if_neg c55] at e14
        have c55b : (decide (x54 < (t50.length : Int))) = false := decide_eq_false c55
        refine wqF mixed [Q52F] [] 0 (.ex 2) [(0, spQ (.bin .lss 31 30) [vI x54, vI (t50.length : Int)] (congrArg (fun t => some (Value.bool t)) c55b))] (zQL [] ?_)
        obtain rfl := Option.some.inj e14
        exact ⟨_, S, VS.lb [0] (by kernel_rfl), by kernel_rfl, rfl, rfl⟩
     ·rintro σ_ H_ S_ ⟨rfl, rfl, rfl⟩
      refine wq mixed [] 0 .nrm [] (zQL [] ?_)
      exact ⟨k_, Nat.lt_succ_self _, _, _, S, keep_sub [1, 2, 7, 19, 20, 21] (by kernel_rfl), VS.lb [0] (by kernel_rfl), x77, wr64 (x11 + 1), rfl, rfl, rfl, e8⟩
    ·rw [if_neg c12] at e8
     have c12b : (decide (x11 < (i0_4.length : Int))) = false := decide_eq_false c12
     refine wq mixed [] 0 (.ex 0) [(0, spQ (.bin .lss 21 20) [vI x11, vI (i0_4.length : Int)] (congrArg (fun t => some (Value.bool t)) c12b))] (zQL [] ?_)
     obtain rfl := Option.some.inj e8
     exact ⟨_, S, VS.lb [0] (by kernel_rfl), by kernel_rfl, rfl, rfl⟩
  ·rintro σ_ H_ S_ ⟨rfl, rfl, rfl⟩
   refine w_seq ?_
   by_cases c81 : x80 > 4194304
   ·rw [if_pos c81] at e
    have c81b : (decide (x80 > 4194304)) = true := decide_eq_true c81
    refine wx mixed 1 [] 0 [(1, spQ (.bin .gtr 41 (.const (vI 4194304))) [vI x80, vI 4194304] (congrArg (fun t => some (Value.bool t)) c81b))] (zWL [0] ?_)
    refine w_ (w_ct (w_ ?_))
    refine wxM mixed 1 [] 0 [(0, spL1 (.global 1) 1 0 [] (fun _ => hE_.atc 1 2 (by decide) (by decide)))] (zWL [] ?_)
    refine w_ (w_ret ?_)
    simp only [Option.some.injEq, Prod.mk.injEq] at e
    obtain ⟨rfl, rfl⟩ := e
    exact ⟨[_, _], [], S, ⟨(show gt _ _ = some _ from (by kernel_rfl)), (show gt _ _ = some _ from (by kernel_rfl)), trivial⟩, VS.none, rfl, rfl, rfl⟩
   ·rw [if_neg c81] at e
    have c81b : (decide (x80 > 4194304)) = false := decide_eq_false c81
    refine wq mixed [] 0 .nrm [(1, spQ (.bin .gtr 41 (.const (vI 4194304))) [vI x80, vI 4194304] (congrArg (fun t => some (Value.bool t)) c81b))] (zQL [0] ?_)
    refine w_ ?_
    refine wxM mixed 1 [] 0 [] (zWL [] ?_)
    refine w_ (w_ret ?_)
    simp only [Option.some.injEq, Prod.mk.injEq] at e
    obtain ⟨rfl, rfl⟩ := e
    exact ⟨[_, _], [], S, ⟨(show gt _ _ = some _ from (by kernel_rfl)), (show gt _ _ = some _ from (by kernel_rfl)), trivial⟩, VS.none, rfl, rfl, rfl⟩
 ·rw [if_neg c6] at e
  have c6b : (t4 == 0) = false := beq_eq_false_iff_ne.mpr c6
  refine wxM mixed 1 [] 0 [(1, spE true 29 15 (.const .nilIface) (a := errV 157 A_ t4) (b := .nilIface) (r := t4 == 0) (eqErr (by kernel_rfl) rfl) (bnk c6b rfl))] (zWL [] ?_)
  refine w_ (w_ct (w_ ?_))
  refine wxM mixed 1 [] 0 [] (zWL [0] ?_)
  refine w_ (w_ret ?_)
  simp only [Option.some.injEq, Prod.mk.injEq] at e
  obtain ⟨rfl, rfl⟩ := e
  exact ⟨[_, _], [], S, ⟨(show gt _ _ = some _ from (by kernel_rfl)), (show gt _ _ = some _ from (by kernel_rfl)), trivial⟩, VS.none, rfl, rfl, rfl⟩

/-- flatten.mix -/
def c56 : C := (.seq (.reg [oq 6 (.mv (.const (vI 0)))]) (.seq (.reg [oq 8 (.mv 1), oq 9 (.mv 0), oq 10 (.bin .sub 8 9), oq 7 (.mv 10)]) (.seq (.seq (.reg [oq 11 (.mv 2), oq 12 (.lns 11)]) (.block 0 (.seq (.reg [oq 14 (.bin .eql 12 (.const (vI 1))), oq 13 (.mv 14)]) (.cond 13 (.seq (.reg [oq 15 (.mv 2), oq 16 (.ixs 1 15 (.const (vI 0))), oq 17 (.ld none 16), oq 6 (.mv 17)]) .ret) (.seq (.reg [oq 19 (.bin .eql 12 (.const (vI 2))), oq 18 (.mv 19)]) (.cond 18 (.seq (.drw [oq 20 (.mv 7), oq 21 (.mv 2), oq 22 (.ixs 1 21 (.const (vI 0))), oq 23 (.ld none 22), oq 24 (.bin .mul 20 23), oq 25 (.mv 0), oq 26 (.mv 2), oq 27 (.ixs 1 26 (.const (vI 1))), oq 28 (.ld none 27), oq 29 (.bin .mul 25 28), oq 30 (.bin .add 24 29), oq 31 (.mv 1), oq 32 (.call 51 [30, 31]), oq 6 (.mv 32)] [[], [], [1], [2], [0, 3], [], [], [6], [7], [5, 8], [4, 9], [], [10, 11], [12, 12, 0, 1, 2, 3, 4, 5, 6, 7, 8, 9, 10, 11, 12]]) .ret) (.seq (.reg [oq 34 (.bin .eql 12 (.const (vI 3))), oq 33 (.mv 34)]) (.cond 33 (.seq (.drw [oq 35 (.mv 7), oq 36 (.mv 7), oq 37 (.bin .mul 35 36), oq 38 (.mv 2), oq 39 (.ixs 1 38 (.const (vI 0))), oq 40 (.ld none 39), oq 41 (.bin .mul 37 40), oq 42 (.mv 0), oq 43 (.bin .mul (.const (vI 2)) 42), oq 44 (.mv 7), oq 45 (.bin .mul 43 44), oq 46 (.mv 2), oq 47 (.ixs 1 46 (.const (vI 1))), oq 48 (.ld none 47), oq 49 (.bin .mul 45 48), oq 50 (.bin .add 41 49), oq 51 (.mv 0), oq 52 (.mv 0), oq 53 (.bin .mul 51 52), oq 54 (.mv 2), oq 55 (.ixs 1 54 (.const (vI 2))), oq 56 (.ld none 55), oq 57 (.bin .mul 53 56), oq 58 (.bin .add 50 57), oq 59 (.mv 1), oq 60 (.mv 1), oq 61 (.bin .mul 59 60), oq 62 (.call 51 [58, 61]), oq 6 (.mv 62)] [[], [], [0, 1], [], [3], [4], [2, 5], [], [7], [], [8, 9], [], [11], [12], [10, 13], [6, 14], [], [], [16, 17], [], [19], [20], [18, 21], [15, 22], [], [], [24, 25], [23, 26], [27, 27, 0, 1, 2, 3, 4, 5, 6, 7, 8, 9, 10, 11, 12, 13, 14, 15, 16, 17, 18, 19, 20, 21, 22, 23, 24, 25, 26, 27]]) .ret) .skip)))))))) (.seq (.drw [oq 63 (.mv 7), oq 64 (.mv 7), oq 65 (.bin .mul 63 64), oq 66 (.mv 7), oq 67 (.bin .mul 65 66), oq 68 (.mv 2), oq 69 (.ixs 1 68 (.const (vI 0))), oq 70 (.ld none 69), oq 71 (.bin .mul 67 70), oq 72 (.mv 0), oq 73 (.bin .mul (.const (vI 3)) 72), oq 74 (.mv 7), oq 75 (.bin .mul 73 74), oq 76 (.mv 7), oq 77 (.bin .mul 75 76), oq 78 (.mv 2), oq 79 (.ixs 1 78 (.const (vI 1))), oq 80 (.ld none 79), oq 81 (.bin .mul 77 80), oq 82 (.bin .add 71 81), oq 83 (.mv 0), oq 84 (.bin .mul (.const (vI 3)) 83), oq 85 (.mv 0), oq 86 (.bin .mul 84 85), oq 87 (.mv 7), oq 88 (.bin .mul 86 87), oq 89 (.mv 2), oq 90 (.ixs 1 89 (.const (vI 2))), oq 91 (.ld none 90), oq 92 (.bin .mul 88 91), oq 93 (.bin .add 82 92), oq 94 (.mv 0), oq 95 (.mv 0), oq 96 (.bin .mul 94 95), oq 97 (.mv 0), oq 98 (.bin .mul 96 97), oq 99 (.mv 2), oq 100 (.ixs 1 99 (.const (vI 3))), oq 101 (.ld none 100), oq 102 (.bin .mul 98 101), oq 103 (.bin .add 93 102), oq 104 (.mv 1), oq 105 (.mv 1), oq 106 (.bin .mul 104 105), oq 107 (.mv 1), oq 108 (.bin .mul 106 107), oq 109 (.call 51 [103, 108]), oq 6 (.mv 109)] [[], [], [0, 1], [], [2, 3], [], [5], [6], [4, 7], [], [9], [], [10, 11], [], [12, 13], [], [15], [16], [14, 17], [8, 18], [], [20], [], [21, 22], [], [23, 24], [], [26], [27], [25, 28], [19, 29], [], [], [31, 32], [], [33, 34], [], [36], [37], [35, 38], [30, 39], [], [], [41, 42], [], [43, 44], [40, 45], [46, 46, 0, 1, 2, 3, 4, 5, 6, 7, 8, 9, 10, 11, 12, 13, 14, 15, 16, 17, 18, 19, 20, 21, 22, 23, 24, 25, 26, 27, 28, 29, 30, 31, 32, 33, 34, 35, 36, 37, 38, 39, 40, 41, 42, 43, 44, 45, 46]]) .ret))))
def flatten_mix_v1.f (i0 : Int) (n1 : Int) (m0_0 : Int) (m0_1 : Int) : Option (Int) := (fixed_Round.f (wr64 ((wr64 ((wr64 (n1 - i0)) * m0_0)) + (wr64 (i0 * m0_1)))) n1).bind fun t131 => (some t131)
theorem flatten_mix_v1.ok {S : Seal} {B0 nB0 : Nat} {i0 n1 m0_0 m0_1 r0_ : Int}{A_ : Int → Addr} (hE_ : EO gsE S A_ 157) (e : flatten_mix_v1.f i0 n1 m0_0 m0_1 = some r0_) :
    Cal Tryd.prog 56 [vI i0, vI n1, .slice (some ⟨B0, 0, none⟩) 2 (nB0 / 1)] ([⟨B0, [vI m0_0, vI m0_1], nB0⟩] : List Own) S fun v H' S' => v = vI r0_ ∧ H' = ([⟨B0, [vI m0_0, vI m0_1], nB0⟩] : List Own) ∧ S' = S := by
 unfold flatten_mix_v1.f at e
 refine cal_of (c := c56) (N := 110) Tryd.func56 rfl rfl (by kernel_rfl) (rs := [.t 6]) (by kernel_rfl) (Nat.le_of_ble_eq_true rfl) ?_
 unfold c56
 refine wx mixed 2 [] 0 [] (zWL [] ?_)
 refine w_ (w_seq ?_)
 refine wxM mixed 1 [] 0 [] (zWL [] ?_)
 refine w_ (w_block ?_)
 refine wxM mixed 1 [] 0 [] (zWL [] ?_)
 refine w_ (w_cf (w_ ?_))
 refine wxM mixed 1 [] 0 [] (zWL [] ?_)
 refine w_ (w_ct (w_ ?_))
 obtain ⟨t131, h132, e⟩ := bind_of e
 refine wxM mixed 1 [0, 0] 0 [(12, spP 51 [30, 31] (fixed_Round.ok hE_ h132))] (zWL [] ?_)
 refine w_ (w_ret ?_)
 obtain rfl := Option.some.inj e
 exact ⟨[_], _, S, ⟨(show gt _ _ = some _ from (by kernel_rfl)), trivial⟩, VS.lb [0] (by kernel_rfl), rfl, rfl, rfl⟩

/-- flatten.Point -/
def c46 : C := (.seq (.reg [oq 4 (.box 0), oq 5 (.box 1), oq 8 (.new [(vI 0), (vI 0)])]) (.seq (.drw [oq 13 (.pad 0 4), oq 14 (.ld none 13), oq 15 (.bsl [(vI 0)] 1 [(0, 1, 14)]), oq 16 (.pad 1 4), oq 17 (.ld none 16), oq 18 (.bsl [(vI 0)] 1 [(0, 1, 17)]), oq 9 (.mv 15), oq 10 (.mv 18)] [[], [0], [1], [], [3], [4], [2, 0, 1, 2], [5, 6, 0, 1, 2, 3, 4, 5, 6]]) (.seq (.seq (.reg [oq 19 (.ld (some 7) 5), oq 20 (.call 44 [19]), oq 21 (.lns 20), oq 22 (.mv (.const (vI 0)))]) (.block 0 (.loop (.seq (.reg [oq 23 (.bin .lss 22 21)]) (.seq (.cond 23 .skip (.exit 0)) (.seq (.block 1 (.seq (.reg [oq 24 (.ixs 2 20 22), oq 25 (.ld (some 2) 24), oq 12 (.new [(vI 0), (vI 0)]), ⟨none, .st 2 12 25, none⟩]) (.drw [oq 26 (.mv 9), oq 27 (.pad 0 12), oq 28 (.ld none 27), oq 29 (.bsl [(vI 0)] 1 [(0, 1, 28)]), oq 30 (.app 2 1 8 [(vI 0)] 26 29), oq 31 (.mv 10), oq 32 (.pad 1 12), oq 33 (.ld none 32), oq 34 (.bsl [(vI 0)] 1 [(0, 1, 33)]), oq 35 (.app 2 1 8 [(vI 0)] 31 34), oq 9 (.mv 30), oq 10 (.mv 35)] [[], [], [1], [2], [0, 3], [], [], [6], [7], [5, 8, 4], [4, 9, 0, 1, 2, 3, 4], [9, 10, 0, 1, 2, 3, 4, 5, 6, 7, 8, 9, 10]]))) (.reg [oq 36 (.bin .add 22 (.const (vI 1))), oq 22 (.mv 36)]))))))) (.seq (.reg [oq 37 (.mv 2), oq 38 (.mv 3), oq 39 (.mv 9), oq 40 (.call 56 [37, 38, 39]), oq 41 (.mv 2), oq 42 (.mv 3), oq 43 (.mv 10), oq 44 (.call 56 [41, 42, 43]), oq 45 (.bld [(vI 0), (vI 0)] [(0, 1, 40), (1, 1, 44)]), ⟨none, .st 2 8 45, none⟩]) .ret))))
def flatten_Point_v1.f (a0_0 : Int) (a0_1 : Int) (s1_1 : Int) (s1_2 : Int) (s1_3 : Int) (s1_4 : Int) (s1_5 : Int) (s1_6 : Int) (i2 : Int) (n3 : Int) : Option (Int × Int) := (flatten_points_v1.f s1_1 s1_2 s1_3 s1_4 s1_5 s1_6).bind fun (t117, t118, t119, t120, t121, t122, t123) => ((flatten_mix_v1.f i2 n3 a0_0 t118).bind fun t131 => ((flatten_mix_v1.f i2 n3 a0_1 t119).bind fun t133 => (some (t131, t133))))
theorem flatten_Point_v1.ok {S : Seal} {a0_0 a0_1 s1_1 s1_2 s1_3 s1_4 s1_5 s1_6 i2 n3 r0_ r1_ : Int}{A_ : Int → Addr} (hE_ : EO gsE S A_ 157) (e : flatten_Point_v1.f a0_0 a0_1 s1_1 s1_2 s1_3 s1_4 s1_5 s1_6 i2 n3 = some (r0_, r1_)) :
    Cal Tryd.prog 46 [.agg #[vI a0_0, vI a0_1], .agg #[vI 1, vI s1_1, vI s1_2, vI s1_3, vI s1_4, vI s1_5, vI s1_6], vI i2, vI n3] [] S fun v H' S' => v = .agg #[vI r0_, vI r1_] ∧ H' = [] ∧ S' = S := by
 unfold flatten_Point_v1.f at e
 refine cal_of (c := c46) (N := 46) Tryd.func46 rfl rfl (by kernel_rfl) (rs := [.cn 2 8]) (by kernel_rfl) (Nat.le_of_ble_eq_true rfl) ?_
 unfold c46
 obtain ⟨⟨t117, t118, t119, t120, t121, t122, t123⟩, h124, e⟩ := bind_of e
 try dsimp only at e
 refine wx mixed 3 [0, 0, 1, 5, 6, 6, 3, 7, 6, 4, 9] 12 [(12, spC 44 [19] [] [] [0] 1 (fun l_ => .slice (some ⟨(l_.N 0), 1, none⟩) 1 3) (fun l_ => [[⟨(l_.N 0), [vI t117, vI t118, vI t119, vI t120, vI t121, vI t122, vI t123], 7⟩]]) (vs := [.agg #[vI 1, vI s1_1, vI s1_2, vI s1_3, vI s1_4, vI s1_5, vI s1_6]]) rfl (((flatten_points_v1.ok hE_ h124)).mono fun _ _ _ ⟨N125, h1_, h2_, h3_⟩ => ⟨un ⟨[N125], [], [], [], []⟩, h1_.trans (by kernel_rfl), h2_.trans (by kernel_rfl), h3_⟩))] fun b112 b113 b114 b115 b116 b126 b127 b128 nb128 b129 b130 nb130 N125 => zWL [9, 7, 6, 5, 1, 0] ?_
 refine w_ ?_
 obtain ⟨t131, h132, e⟩ := bind_of e
 obtain ⟨t133, h134, e⟩ := bind_of e
 refine wxM mixed 1 [1, 0, 2] 0 [(3, spR 56 [37, 38, 39] [[⟨b128, [vI a0_0, vI t118], nb128⟩]] (vs := [vI i2, vI n3, .slice (some ⟨b128, 0, none⟩) 2 (nb128 / 1)]) (flatten_mix_v1.ok hE_ h132) rfl), (7, spR 56 [41, 42, 43] [[⟨b130, [vI a0_1, vI t119], nb130⟩]] (vs := [vI i2, vI n3, .slice (some ⟨b130, 0, none⟩) 2 (nb130 / 1)]) (flatten_mix_v1.ok hE_ h134) rfl)] (zWL [0, 1] ?_)
 refine w_ (w_as [(8, vP b114 0)] ([⟨b114, [vI t131, vI t133], 2⟩] : List Own) ?_)
 refine w_ret ?_
 simp only [Option.some.injEq, Prod.mk.injEq] at e
 obtain ⟨rfl, rfl⟩ := e
 exact ⟨[_], [], S, ⟨⟨_, _, _, rfl, .at 0 rfl rfl, rfl⟩, trivial⟩, VS.none, rfl, rfl, rfl⟩

def flatten_mix_v2.f (i0 : Int) (n1 : Int) (m0_0 : Int) (m0_1 : Int) (m0_2 : Int) : Option (Int) := (fixed_Round.f (wr64 ((wr64 ((wr64 ((wr64 ((wr64 (n1 - i0)) * (wr64 (n1 - i0)))) * m0_0)) + (wr64 ((wr64 ((wr64 (2 * i0)) * (wr64 (n1 - i0)))) * m0_1)))) + (wr64 ((wr64 (i0 * i0)) * m0_2)))) (wr64 (n1 * n1))).bind fun t163 => (some t163)
theorem flatten_mix_v2.ok {S : Seal} {B0 nB0 : Nat} {i0 n1 m0_0 m0_1 m0_2 r0_ : Int}{A_ : Int → Addr} (hE_ : EO gsE S A_ 157) (e : flatten_mix_v2.f i0 n1 m0_0 m0_1 m0_2 = some r0_) :
    Cal Tryd.prog 56 [vI i0, vI n1, .slice (some ⟨B0, 0, none⟩) 3 (nB0 / 1)] ([⟨B0, [vI m0_0, vI m0_1, vI m0_2], nB0⟩] : List Own) S fun v H' S' => v = vI r0_ ∧ H' = ([⟨B0, [vI m0_0, vI m0_1, vI m0_2], nB0⟩] : List Own) ∧ S' = S := by
 unfold flatten_mix_v2.f at e
 refine cal_of (c := c56) (N := 110) Tryd.func56 rfl rfl (by kernel_rfl) (rs := [.t 6]) (by kernel_rfl) (Nat.le_of_ble_eq_true rfl) ?_
 unfold c56
 refine wx mixed 2 [] 0 [] (zWL [] ?_)
 refine w_ (w_seq ?_)
 refine wxM mixed 1 [] 0 [] (zWL [] ?_)
 refine w_ (w_block ?_)
 refine wxM mixed 1 [] 0 [] (zWL [] ?_)
 refine w_ (w_cf (w_ ?_))
 refine wxM mixed 1 [] 0 [] (zWL [] ?_)
 refine w_ (w_cf (w_ ?_))
 refine wxM mixed 1 [] 0 [] (zWL [] ?_)
 refine w_ (w_ct (w_ ?_))
 obtain ⟨t163, h164, e⟩ := bind_of e
 refine wxM mixed 1 [0, 0, 0] 0 [(27, spP 51 [58, 61] (fixed_Round.ok hE_ h164))] (zW1 [(6, vI t163)] ([⟨B0, [vI m0_0, vI m0_1, vI m0_2], nB0⟩] : List Own) ?_)
 refine w_ (w_ret ?_)
 obtain rfl := Option.some.inj e
 exact ⟨[_], _, S, ⟨rfl, trivial⟩, VS.sel [0] (by kernel_rfl), rfl, rfl, rfl⟩

def flatten_Point_v2.f (a0_0 : Int) (a0_1 : Int) (s1_1 : Int) (s1_2 : Int) (s1_3 : Int) (s1_4 : Int) (s1_5 : Int) (s1_6 : Int) (i2 : Int) (n3 : Int) : Option (Int × Int) := (flatten_points_v2.f s1_1 s1_2 s1_3 s1_4 s1_5 s1_6).bind fun (t144, t145, t146, t147, t148, t149, t150) => ((flatten_mix_v2.f i2 n3 a0_0 t145 t147).bind fun t163 => ((flatten_mix_v2.f i2 n3 a0_1 t146 t148).bind fun t165 => (some (t163, t165))))
theorem flatten_Point_v2.ok {S : Seal} {a0_0 a0_1 s1_1 s1_2 s1_3 s1_4 s1_5 s1_6 i2 n3 r0_ r1_ : Int}{A_ : Int → Addr} (hE_ : EO gsE S A_ 157) (e : flatten_Point_v2.f a0_0 a0_1 s1_1 s1_2 s1_3 s1_4 s1_5 s1_6 i2 n3 = some (r0_, r1_)) :
    Cal Tryd.prog 46 [.agg #[vI a0_0, vI a0_1], .agg #[vI 2, vI s1_1, vI s1_2, vI s1_3, vI s1_4, vI s1_5, vI s1_6], vI i2, vI n3] [] S fun v H' S' => v = .agg #[vI r0_, vI r1_] ∧ H' = [] ∧ S' = S := by
 unfold flatten_Point_v2.f at e
 refine cal_of (c := c46) (N := 46) Tryd.func46 rfl rfl (by kernel_rfl) (rs := [.cn 2 8]) (by kernel_rfl) (Nat.le_of_ble_eq_true rfl) ?_
 unfold c46
 obtain ⟨⟨t144, t145, t146, t147, t148, t149, t150⟩, h151, e⟩ := bind_of e
 try dsimp only at e
 refine wx mixed 3 [0, 0, 1, 5, 6, 6, 3, 7, 6, 4, 9, 5, 11, 11, 3, 12, 11, 4, 14] 19 [(12, spC 44 [19] [] [] [0] 1 (fun l_ => .slice (some ⟨(l_.N 0), 1, none⟩) 2 3) (fun l_ => [[⟨(l_.N 0), [vI t144, vI t145, vI t146, vI t147, vI t148, vI t149, vI t150], 7⟩]]) (vs := [.agg #[vI 2, vI s1_1, vI s1_2, vI s1_3, vI s1_4, vI s1_5, vI s1_6]]) rfl (((flatten_points_v2.ok hE_ h151)).mono fun _ _ _ ⟨N152, h1_, h2_, h3_⟩ => ⟨un ⟨[N152], [], [], [], []⟩, h1_.trans (by kernel_rfl), h2_.trans (by kernel_rfl), h3_⟩))] fun b139 b140 b141 b142 b143 b153 b154 b155 nb155 b156 b157 nb157 b158 b159 b160 nb160 b161 b162 nb162 N152 => zWL [14, 12, 11, 9, 7, 6, 5, 1, 0] ?_
 refine w_ ?_
 obtain ⟨t163, h164, e⟩ := bind_of e
 obtain ⟨t165, h166, e⟩ := bind_of e
 refine wxM mixed 1 [1, 0, 2] 0 [(3, spR 56 [37, 38, 39] [[⟨b160, [vI a0_0, vI t145, vI t147], nb160⟩]] (vs := [vI i2, vI n3, .slice (some ⟨b160, 0, none⟩) 3 (nb160 / 1)]) (flatten_mix_v2.ok hE_ h164) rfl), (7, spR 56 [41, 42, 43] [[⟨b162, [vI a0_1, vI t146, vI t148], nb162⟩]] (vs := [vI i2, vI n3, .slice (some ⟨b162, 0, none⟩) 3 (nb162 / 1)]) (flatten_mix_v2.ok hE_ h166) rfl)] (zWL [0, 1] ?_)
 refine w_ (w_as [(8, vP b141 0)] ([⟨b141, [vI t163, vI t165], 2⟩] : List Own) ?_)
 refine w_ret ?_
 simp only [Option.some.injEq, Prod.mk.injEq] at e
 obtain ⟨rfl, rfl⟩ := e
 exact ⟨[_], [], S, ⟨⟨_, _, _, rfl, .at 0 rfl rfl, rfl⟩, trivial⟩, VS.none, rfl, rfl, rfl⟩

def flatten_mix_v3.f (i0 : Int) (n1 : Int) (m0_0 : Int) (m0_1 : Int) (m0_2 : Int) (m0_3 : Int) : Option (Int) := (fixed_Round.f (wr64 ((wr64 ((wr64 ((wr64 ((wr64 ((wr64 ((wr64 (n1 - i0)) * (wr64 (n1 - i0)))) * (wr64 (n1 - i0)))) * m0_0)) + (wr64 ((wr64 ((wr64 ((wr64 (3 * i0)) * (wr64 (n1 - i0)))) * (wr64 (n1 - i0)))) * m0_1)))) + (wr64 ((wr64 ((wr64 ((wr64 (3 * i0)) * i0)) * (wr64 (n1 - i0)))) * m0_2)))) + (wr64 ((wr64 ((wr64 (i0 * i0)) * i0)) * m0_3)))) (wr64 ((wr64 (n1 * n1)) * n1))).bind fun t200 => (some t200)
theorem flatten_mix_v3.ok {S : Seal} {B0 nB0 : Nat} {i0 n1 m0_0 m0_1 m0_2 m0_3 r0_ : Int}{A_ : Int → Addr} (hE_ : EO gsE S A_ 157) (e : flatten_mix_v3.f i0 n1 m0_0 m0_1 m0_2 m0_3 = some r0_) :
    Cal Tryd.prog 56 [vI i0, vI n1, .slice (some ⟨B0, 0, none⟩) 4 (nB0 / 1)] ([⟨B0, [vI m0_0, vI m0_1, vI m0_2, vI m0_3], nB0⟩] : List Own) S fun v H' S' => v = vI r0_ ∧ H' = ([⟨B0, [vI m0_0, vI m0_1, vI m0_2, vI m0_3], nB0⟩] : List Own) ∧ S' = S := by
 unfold flatten_mix_v3.f at e
 refine cal_of (c := c56) (N := 110) Tryd.func56 rfl rfl (by kernel_rfl) (rs := [.t 6]) (by kernel_rfl) (Nat.le_of_ble_eq_true rfl) ?_
 unfold c56
 obtain ⟨t200, h201, e⟩ := bind_of e
 refine wx mixed 4 [0, 0, 0, 0] 0 [(59, spP 51 [103, 108] (fixed_Round.ok hE_ h201))] (zWL [] ?_)
 refine w_ (w_ret ?_)
 obtain rfl := Option.some.inj e
 exact ⟨[_], _, S, ⟨(show gt _ _ = some _ from (by kernel_rfl)), trivial⟩, VS.lb [0] (by kernel_rfl), rfl, rfl, rfl⟩

def flatten_Point_v3.f (a0_0 : Int) (a0_1 : Int) (s1_1 : Int) (s1_2 : Int) (s1_3 : Int) (s1_4 : Int) (s1_5 : Int) (s1_6 : Int) (i2 : Int) (n3 : Int) : Option (Int × Int) := (flatten_points_v3.f s1_1 s1_2 s1_3 s1_4 s1_5 s1_6).bind fun (t176, t177, t178, t179, t180, t181, t182) => ((flatten_mix_v3.f i2 n3 a0_0 t177 t179 t181).bind fun t200 => ((flatten_mix_v3.f i2 n3 a0_1 t178 t180 t182).bind fun t202 => (some (t200, t202))))
theorem flatten_Point_v3.ok {S : Seal} {a0_0 a0_1 s1_1 s1_2 s1_3 s1_4 s1_5 s1_6 i2 n3 r0_ r1_ : Int}{A_ : Int → Addr} (hE_ : EO gsE S A_ 157) (e : flatten_Point_v3.f a0_0 a0_1 s1_1 s1_2 s1_3 s1_4 s1_5 s1_6 i2 n3 = some (r0_, r1_)) :
    Cal Tryd.prog 46 [.agg #[vI a0_0, vI a0_1], .agg #[vI 3, vI s1_1, vI s1_2, vI s1_3, vI s1_4, vI s1_5, vI s1_6], vI i2, vI n3] [] S fun v H' S' => v = .agg #[vI r0_, vI r1_] ∧ H' = [] ∧ S' = S := by
 unfold flatten_Point_v3.f at e
 refine cal_of (c := c46) (N := 46) Tryd.func46 rfl rfl (by kernel_rfl) (rs := [.cn 2 8]) (by kernel_rfl) (Nat.le_of_ble_eq_true rfl) ?_
 unfold c46
 obtain ⟨⟨t176, t177, t178, t179, t180, t181, t182⟩, h183, e⟩ := bind_of e
 try dsimp only at e
 refine wx mixed 3 [0, 0, 1, 5, 6, 6, 3, 7, 6, 4, 9, 5, 11, 11, 3, 12, 11, 4, 14, 5, 16, 16, 3, 17, 16, 4, 19] 26 [(12, spC 44 [19] [] [] [0] 1 (fun l_ => .slice (some ⟨(l_.N 0), 1, none⟩) 3 3) (fun l_ => [[⟨(l_.N 0), [vI t176, vI t177, vI t178, vI t179, vI t180, vI t181, vI t182], 7⟩]]) (vs := [.agg #[vI 3, vI s1_1, vI s1_2, vI s1_3, vI s1_4, vI s1_5, vI s1_6]]) rfl (((flatten_points_v3.ok hE_ h183)).mono fun _ _ _ ⟨N184, h1_, h2_, h3_⟩ => ⟨un ⟨[N184], [], [], [], []⟩, h1_.trans (by kernel_rfl), h2_.trans (by kernel_rfl), h3_⟩))] fun b171 b172 b173 b174 b175 b185 b186 b187 nb187 b188 b189 nb189 b190 b191 b192 nb192 b193 b194 nb194 b195 b196 b197 nb197 b198 b199 nb199 N184 => zWL [19, 17, 16, 14, 12, 11, 9, 7, 6, 5, 1, 0] ?_
 refine w_ ?_
 obtain ⟨t200, h201, e⟩ := bind_of e
 obtain ⟨t202, h203, e⟩ := bind_of e
 refine wxM mixed 1 [1, 0, 2] 0 [(3, spR 56 [37, 38, 39] [[⟨b197, [vI a0_0, vI t177, vI t179, vI t181], nb197⟩]] (vs := [vI i2, vI n3, .slice (some ⟨b197, 0, none⟩) 4 (nb197 / 1)]) (flatten_mix_v3.ok hE_ h201) rfl), (7, spR 56 [41, 42, 43] [[⟨b199, [vI a0_1, vI t178, vI t180, vI t182], nb199⟩]] (vs := [vI i2, vI n3, .slice (some ⟨b199, 0, none⟩) 4 (nb199 / 1)]) (flatten_mix_v3.ok hE_ h203) rfl)] (zWL [0, 1] ?_)
 refine w_ (w_as [(8, vP b173 0)] ([⟨b173, [vI t200, vI t202], 2⟩] : List Own) ?_)
 refine w_ret ?_
 simp only [Option.some.injEq, Prod.mk.injEq] at e
 obtain ⟨rfl, rfl⟩ := e
 exact ⟨[_], [], S, ⟨⟨_, _, _, rfl, .at 0 rfl rfl, rfl⟩, trivial⟩, VS.none, rfl, rfl, rfl⟩

/-- flatten.Path$1 -/
def c45 : C := (.seq (.reg [oq 3 (.box 0)]) (.seq (.seq (.reg [oq 4 (.ld (some 2) 1), oq 5 (.ld (some 2) 3), oq 6 (.eqt true 49 4 5)]) (.cond 6 (.reg [oq 7 (.ld none 2), oq 8 (.ld (some 2) 1), oq 9 (.ld (some 2) 3), oq 10 (.bld [(vI 0), (vI 0), (vI 0), (vI 0)] [(0, 2, 8), (2, 2, 9)]), oq 11 (.bsl [(vI 0), (vI 0), (vI 0), (vI 0)] 1 [(0, 4, 10)]), oq 12 (.app 105 4 32 [(vI 0), (vI 0), (vI 0), (vI 0)] 7 11), ⟨none, .st 1 2 12, none⟩]) .skip)) (.reg [oq 13 (.ld (some 2) 3), ⟨none, .st 2 1 13, none⟩])))
def flatten_Path_1_v1.f (to0_0 : Int) (to0_1 : Int) (m0_0 : Int) (m0_1 : Int) (m2_L : List (Int × Int × Int × Int)) : Option (List (Int × Int × Int × Int) × Int × Int) := if ((m0_0 == to0_0) && (m0_1 == to0_1)) = true then (some (m2_L, to0_0, to0_1)) else ((lapp m2_L ([(m0_0, m0_1, to0_0, to0_1)] : List (Int × Int × Int × Int))).bind fun y126 => (some (y126, to0_0, to0_1)))
theorem flatten_Path_1_v1.ok {S : Seal} {B0 B1 : Nat} {B2 : Option Nat} {nB2 : Nat} {to0_0 to0_1 m0_0 m0_1 : Int} {m2_L : List (Int × Int × Int × Int)} {r0_ : List (Int × Int × Int × Int)} {r1_ r2_ : Int}{A_ : Int → Addr} (hE_ : EO gsE S A_ 157) (e : flatten_Path_1_v1.f to0_0 to0_1 m0_0 m0_1 m2_L = some (r0_, r1_, r2_)) :
    Cal Tryd.prog 45 [.agg #[vI to0_0, vI to0_1], vP B0 0, vP B1 0] ([⟨B0, [vI m0_0, vI m0_1], 2⟩, ⟨B1, [.slice (ad B2) m2_L.length (nB2 / 4)], 1⟩, ⟨B2, encL E_i644 m2_L, nB2⟩] : List Own) S fun v H' S' => ∃ (N0_ : Option Nat) (nN0_ : Nat) , v = .tuple #[] ∧ H' = ([⟨N0_, encL E_i644 r0_, nN0_⟩, ⟨B0, [vI r1_, vI r2_], 2⟩, ⟨B1, [.slice (ad N0_) r0_.length (nN0_ / 4)], 1⟩] : List Own) ∧ S' = S := by
 unfold flatten_Path_1_v1.f at e
 refine cal_of (c := c45) (N := 14) Tryd.func45 rfl rfl (by kernel_rfl) (rs := []) (by kernel_rfl) (Nat.le_of_ble_eq_true rfl) ?_
 unfold c45
 refine wx mixed 1 [] 1 [] fun b123 => zWL [] ?_
 refine w_ (w_seq ?_)
 by_cases c124 : ((m0_0 == to0_0) && (m0_1 == to0_1)) = true
 ·rw [if_pos c124] at e
  have c124b : ((m0_0 == to0_0) && (m0_1 == to0_1)) = true := c124
  refine wqM mixed [1, 0] 0 .nrm [(2, spE true 49 4 5 (a := .agg #[vI m0_0, vI m0_1]) (b := .agg #[vI to0_0, vI to0_1]) (r := (m0_0 == to0_0) && (m0_1 == to0_1)) (by kernel_rfl) (bnk c124b rfl))] (zQL [] ?_)
  refine w_ ?_
  refine wqM mixed [0, 1] 0 .nrm [] (zQ [] [0] [] ([⟨B0, [vI to0_0, vI to0_1], 2⟩, ⟨B1, [.slice (ad B2) m2_L.length (nB2 / 4)], 1⟩, ⟨B2, encL E_i644 m2_L, nB2⟩] : List Own) ?_)
  simp only [Option.some.injEq, Prod.mk.injEq] at e
  obtain ⟨rfl, rfl, rfl⟩ := e
  exact ⟨[], _, S, trivial, VS.sel [2, 0, 0] (by kernel_rfl), B2, nB2, rfl, rfl, rfl⟩
 ·rw [if_neg c124] at e
  have c124b : ((m0_0 == to0_0) && (m0_1 == to0_1)) = false := Bool.eq_false_iff.mpr c124
  refine wxM mixed 1 [1, 0] 0 [(2, spE true 49 4 5 (a := .agg #[vI m0_0, vI m0_1]) (b := .agg #[vI to0_0, vI to0_1]) (r := (m0_0 == to0_0) && (m0_1 == to0_1)) (by kernel_rfl) (bnk c124b rfl))] (zWL [] ?_)
  refine w_ (w_ct (w_ (w_reg fun all => txM 5 [2, 1, 0] 1 [] fun b125 => zTL [] ?_)))
  obtain ⟨y126, hl127, e⟩ := bind_of e
  refine txM 2 [4, 0, 3] 0 [(0, spX 105 4 32 [(vI 0), (vI 0), (vI 0), (vI 0)] 7 11 (E := E_i644) (L := m2_L) (X := ([(m0_0, m0_1, to0_0, to0_1)] : List (Int × Int × Int × Int))) B2 nB2 (some ⟨b125, 0, none⟩) 1 1 [[⟨b125, [vI m0_0, vI m0_1, vI to0_0, vI to0_1], 4⟩]] (fun _ => Or.inr ⟨_, _, rfl, .at 1 rfl (by kernel_rfl)⟩) hl127)] fun a128 na128 => zTL [0] ?_
  refine t_end (w_ ?_)
  refine wqM mixed [2, 3] 0 .nrm [] (zQ [] [2] [] ([⟨B0, [vI to0_0, vI to0_1], 2⟩, ⟨B1, [.slice (ad a128) y126.length (na128 / 4)], 1⟩, ⟨a128, encL E_i644 y126, na128⟩] : List Own) ?_)
  simp only [Option.some.injEq, Prod.mk.injEq] at e
  obtain ⟨rfl, rfl, rfl⟩ := e
  exact ⟨[], _, S, trivial, VS.sel [2, 0, 0] (by kernel_rfl), a128, na128, rfl, rfl, rfl⟩

/-- flatten.Path -/
def c33 : C := (.seq (.reg [oq 2 (.box 0), oq 4 (.mv (.const (.slice none 0 0)))]) (.seq (.reg [oq 5 (.new [(.slice none 0 0)])]) (.seq (.reg [oq 13 (.pad 0 2), oq 14 (.ld (some 2) 13), oq 6 (.new [(vI 0), (vI 0)]), ⟨none, .st 2 6 14, none⟩]) (.seq (.reg [oq 15 (.mkf 45 [6, 5]), oq 7 (.mv 15)]) (.seq (.seq (.reg [oq 16 (.pad 2 2), oq 17 (.ld none 16), oq 18 (.lns 17), oq 19 (.mv (.const (vI 0)))]) (.block 0 (.loop (.seq (.reg [oq 20 (.bin .lss 19 18)]) (.seq (.cond 20 .skip (.exit 0)) (.seq (.block 1 (.seq (.reg [oq 21 (.ixs 7 17 19), oq 22 (.ld (some 7) 21), oq 9 (.new [(vI 0), (vI 0), (vI 0), (vI 0), (vI 0), (vI 0), (vI 0)]), ⟨none, .st 7 9 22, none⟩]) (.seq (.drw [oq 23 (.ld (some 2) 6), oq 24 (.ld (some 2) 6), oq 25 (.ld (some 7) 9), oq 26 (.call 43 [24, 25]), oq 10 (.new [(vI 0), (vI 0)]), ⟨none, .st 2 10 23, none⟩, oq 11 (.mv 26)] [[], [], [], [1, 2], [], [4, 0, 3, 0, 4], [3, 5, 0, 1, 2, 3, 4, 5]]) (.seq (.reg [oq 12 (.mv (.const (vI 1)))]) (.block 2 (.loop (.seq (.seq (.reg [oq 27 (.mv 12), oq 28 (.mv 11), oq 29 (.bin .leq 27 28)]) (.cond 29 .skip (.exit 2))) (.seq (.block 3 (.reg [oq 32 (.mv 7), oq 33 (.ld (some 2) 10), oq 34 (.ld (some 7) 9), oq 35 (.mv 12), oq 36 (.mv 11), oq 37 (.call 46 [33, 34, 35, 36]), oq 38 (.clo 32 [37])])) (.reg [oq 30 (.mv 12), oq 31 (.bin .add 30 (.const (vI 1))), oq 12 (.mv 31)]))))))))) (.reg [oq 39 (.bin .add 19 (.const (vI 1))), oq 19 (.mv 39)]))))))) (.seq (.seq (.reg [oq 40 (.mv 1), oq 41 (.mv 40), ⟨(some 42), .pad 3 2, (some (41, false))⟩, ⟨(some 43), .ld none 42, (some (41, false))⟩, oq 44 (.pk 41 (.const (vB true)) 43)]) (.cond 44 (.reg [oq 45 (.mv 7), oq 46 (.pad 0 2), oq 47 (.ld (some 2) 46), oq 48 (.clo 45 [47])]) .skip)) (.seq (.reg [oq 49 (.ld none 5), oq 4 (.mv 49)]) .ret)))))))
def flatten_Path_v1.l1 : Nat → Int → Int → Int → Int → Int → Int → Int → Int → Int → Int → Int → List (Int × Int × Int × Int) → Int → Int → Option (Int × Int × List (Int × Int × Int × Int))
  | 0, _, _, _, _, _, _, _, _, _, _, _, _, _, _ => none
  | k + 1, x87, x88, x93, x94, x95, x96, x97, x98, x99, t110, x113, y115, x116, x117 => if x113 ≤ t110 then (if x93 = 1 then ((flatten_Point_v1.f x87 x88 x94 x95 x96 x97 x98 x99 x113 t110).bind fun (t120, t121) => ((flatten_Path_1_v1.f t120 t121 x116 x117 y115).bind fun (t123, t124, t125) => (flatten_Path_v1.l1 k x87 x88 x93 x94 x95 x96 x97 x98 x99 t110 (wr64 (x113 + 1)) t123 t124 t125))) else (if x93 = 2 then ((flatten_Point_v2.f x87 x88 x94 x95 x96 x97 x98 x99 x113 t110).bind fun (t130, t131) => ((flatten_Path_1_v1.f t130 t131 x116 x117 y115).bind fun (t133, t134, t135) => (flatten_Path_v1.l1 k x87 x88 x93 x94 x95 x96 x97 x98 x99 t110 (wr64 (x113 + 1)) t133 t134 t135))) else (if x93 = 3 then ((flatten_Point_v3.f x87 x88 x94 x95 x96 x97 x98 x99 x113 t110).bind fun (t140, t141) => ((flatten_Path_1_v1.f t140 t141 x116 x117 y115).bind fun (t143, t144, t145) => (flatten_Path_v1.l1 k x87 x88 x93 x94 x95 x96 x97 x98 x99 t110 (wr64 (x113 + 1)) t143 t144 t145))) else (none)))) else (some (x116, x117, y115))
def flatten_Path_v1.l0 : Nat → List (Int × Int × Int × Int × Int × Int × Int) → Int → List (Int × Int × Int × Int) → Int → Int → Option (Int × Int × List (Int × Int × Int × Int))
  | 0, _, _, _, _, _ => none
  | k + 1, p0_2, x84, y86, x87, x88 => if x84 < (p0_2.length : Int) then (((lgt p0_2 x84).bind fun (x93, x94, x95, x96, x97, x98, x99) => ((flatten_Count.f k x87 x88 x93 x94 x95 x96 x97 x98 x99).bind fun t110 => (flatten_Path_v1.l1 k x87 x88 x93 x94 x95 x96 x97 x98 x99 t110 1 y86 x87 x88)) : Option (Int × Int × List (Int × Int × Int × Int))).bind fun (x150, x151, y153) => (flatten_Path_v1.l0 k p0_2 (wr64 (x84 + 1)) y153 x150 x151)) else (some (x87, x88, y86))
def flatten_Path_v1.f (k : Nat) (p0_0 : Int) (p0_1 : Int) (p0_2 : List (Int × Int × Int × Int × Int × Int × Int)) (p0_3 : Bool) (shut1 : Bool) : Option (List (Int × Int × Int × Int)) := (flatten_Path_v1.l0 k p0_2 0 ([] : List (Int × Int × Int × Int)) p0_0 p0_1 : Option (Int × Int × List (Int × Int × Int × Int))).bind fun (x156, x157, y159) => (if shut1 = true then ((flatten_Path_1_v1.f p0_0 p0_1 x156 x157 y159).bind fun (t161, t162, t163) => (some t161)) else (if p0_3 = true then ((flatten_Path_1_v1.f p0_0 p0_1 x156 x157 y159).bind fun (t167, t168, t169) => (some t167)) else (some y159)))
theorem flatten_Path_v1.ok {S : Seal} {k : Nat} {p0_0 p0_1 : Int} {p0_2 : List (Int × Int × Int × Int × Int × Int × Int)} {p0_3 shut1 : Bool} {r0_ : List (Int × Int × Int × Int)}{A_ : Int → Addr} (hE_ : EO gsE S A_ 157) {a_p0_2 : Option Addr} {c_p0_2 : Nat} (h_p0_2 : SlE S E_i647 p0_2 a_p0_2) (e : flatten_Path_v1.f k p0_0 p0_1 p0_2 p0_3 shut1 = some r0_) :
    Cal Tryd.prog 33 [.agg #[vI p0_0, vI p0_1, .slice a_p0_2 p0_2.length c_p0_2, .bool p0_3], .bool shut1] [] S fun v H' S' => ∃ (N0_ : Option Nat) (nN0_ : Nat) , v = .slice (ad N0_) r0_.length (nN0_ / 4) ∧ H' = ([⟨N0_, encL E_i644 r0_, nN0_⟩] : List Own) ∧ S' = S := by
 unfold flatten_Path_v1.f at e
 refine cal_of (c := c33) (N := 50) Tryd.func33 rfl rfl (by kernel_rfl) (rs := [.t 4]) (by kernel_rfl) (Nat.le_of_ble_eq_true rfl) ?_
 unfold c33
 refine wx mixed 4 [0, 2] 3 [] fun b78 b79 b80 => zWL [] ?_
 refine w_ ?_
 obtain ⟨⟨x156, x157, y159⟩, e82, e⟩ := bind_of e
 try dsimp only at e
 refine w_cut [1, 2, 5, 7] (fun σ_ H_ S_ => ∃ (a158 : Option Nat) (na158 : Nat), [(1, .bool shut1), (2, vP b78 0), (5, vP b79 0), (7, .func (.func 45) #[] #[vP b80 0, vP b79 0])] = σ_ ∧ ([⟨b80, [vI x156, vI x157], 2⟩, ⟨b79, [.slice (ad a158) y159.length (na158 / 4)], 1⟩, ⟨b78, [vI p0_0, vI p0_1, .slice a_p0_2 p0_2.length c_p0_2, .bool p0_3], 4⟩, ⟨a158, encL E_i644 y159, na158⟩] : List Own) = H_ ∧ S = S_) ?_ ?_
 ·refine w_ ?_
  refine wxM mixed 1 [2] 0 [] (zWL [] ?_)
  refine w_ (w_block (w_vs VS.vac ?_))
  refine wk [(1, .bool shut1), (2, vP b78 0), (5, vP b79 0), (6, vP b80 0), (7, .func (.func 45) #[] #[vP b80 0, vP b79 0]), (17, .slice a_p0_2 p0_2.length c_p0_2), (18, vI (p0_2.length : Int)), (19, vI 0)] (w_vs (H' := ([⟨none, encL E_i644 ([] : List (Int × Int × Int × Int)), 0⟩, ⟨b80, [vI p0_0, vI p0_1], 2⟩, ⟨b79, [.slice (ad none) ([] : List (Int × Int × Int × Int)).length (0 / 4)], 1⟩, ⟨b78, [vI p0_0, vI p0_1, .slice a_p0_2 p0_2.length c_p0_2, .bool p0_3], 4⟩] : List Own)) (S' := S) (VS.as ([⟨none, encL E_i644 ([] : List (Int × Int × Int × Int)), 0⟩, ⟨b80, [vI p0_0, vI p0_1], 2⟩, ⟨b79, [.slice (ad none) ([] : List (Int × Int × Int × Int)).length (0 / 4)], 1⟩, ⟨b78, [vI p0_0, vI p0_1, .slice a_p0_2 p0_2.length c_p0_2, .bool p0_3], 4⟩] : List Own) (VS.sel [0, 0, 0, 0] (by kernel_rfl))) ?_)
  refine w_loop (fun n_ σ_ H_ S_ => ∃ (x84 : Int) (y86 : List (Int × Int × Int × Int)) (x87 : Int) (x88 : Int), ∃ (a85 : Option Nat) (na85 : Nat), [(1, .bool shut1), (2, vP b78 0), (5, vP b79 0), (6, vP b80 0), (7, .func (.func 45) #[] #[vP b80 0, vP b79 0]), (17, .slice a_p0_2 p0_2.length c_p0_2), (18, vI (p0_2.length : Int)), (19, vI x84)] = σ_ ∧ ([⟨a85, encL E_i644 y86, na85⟩, ⟨b80, [vI x87, vI x88], 2⟩, ⟨b79, [.slice (ad a85) y86.length (na85 / 4)], 1⟩, ⟨b78, [vI p0_0, vI p0_1, .slice a_p0_2 p0_2.length c_p0_2, .bool p0_3], 4⟩] : List Own) = H_ ∧ S = S_ ∧ flatten_Path_v1.l0 n_ p0_2 x84 y86 x87 x88 = some (x156, x157, y159)) _ ⟨0, ([] : List (Int × Int × Int × Int)), p0_0, p0_1, none, 0, rfl, rfl, rfl, e82⟩ ?_
  rintro n155 σ_ H_ S_ ⟨x84, y86, x87, x88, a85, na85, rfl, rfl, rfl, e82⟩
  cases n155 with
  | zero => rw [flatten_Path_v1.l0.eq_1] at e82; cases e82
  | succ k_ =>
   rw [flatten_Path_v1.l0.eq_2] at e82
   by_cases c89 : x84 < (p0_2.length : Int)
   ·rw [if_pos c89] at e82
    have c89b : (decide (x84 < (p0_2.length : Int))) = true := decide_eq_true c89
    refine wx mixed 2 [] 0 [(0, spQ (.bin .lss 19 18) [vI x84, vI (p0_2.length : Int)] (congrArg (fun t => some (Value.bool t)) c89b))] (zWL [] ?_)
    refine w_ ?_
    obtain ⟨⟨x150, x151, y153⟩, e91, e82⟩ := bind_of e82
    try dsimp only at e82
    refine w_cut [1, 2, 5, 6, 7, 17, 18, 19] (fun σ_ H_ S_ => ∃ (a152 : Option Nat) (na152 : Nat), [(1, .bool shut1), (2, vP b78 0), (5, vP b79 0), (6, vP b80 0), (7, .func (.func 45) #[] #[vP b80 0, vP b79 0]), (17, .slice a_p0_2 p0_2.length c_p0_2), (18, vI (p0_2.length : Int)), (19, vI x84)] = σ_ ∧ ([⟨b80, [vI x150, vI x151], 2⟩, ⟨b79, [.slice (ad a152) y153.length (na152 / 4)], 1⟩, ⟨b78, [vI p0_0, vI p0_1, .slice a_p0_2 p0_2.length c_p0_2, .bool p0_3], 4⟩, ⟨a152, encL E_i644 y153, na152⟩] : List Own) = H_ ∧ S = S_) ?_ ?_
    ·refine w_ (w_block ?_)
     obtain ⟨⟨x93, x94, x95, x96, x97, x98, x99⟩, hx100, e91⟩ := bind_of e91
     try dsimp only at e91
     obtain ⟨lb101, lo102, ll103, la104, lS105, lv106, lz107, lu108⟩ := sle_get (E := E_i647) h_p0_2 hx100
     obtain ⟨t110, h111, e91⟩ := bind_of e91
     refine wxM mixed 3 [4, 1, 1, 4, 5] 2 [(0, spQ (.ixs 7 17 19) [.slice a_p0_2 p0_2.length c_p0_2, vI x84] (ixs_sle rfl rfl la104 lz107 lu108)), (1, spLn 21 lb101 (lo102 + (x84).toNat * 7 + 0) 7 [] (vs := [vI x93, vI x94, vI x95, vI x96, vI x97, vI x98, vI x99]) (fun _ => .sealed lS105 (subl_sub lv106 (by kernel_rfl)))), (7, spP 43 [24, 25] (flatten_Count.ok hE_ h111))] fun b109 b112 => zWL [] ?_
     refine w_ (w_block (wk [(1, .bool shut1), (2, vP b78 0), (5, vP b79 0), (6, vP b80 0), (7, .func (.func 45) #[] #[vP b80 0, vP b79 0]), (9, vP b109 0), (10, vP b112 0), (11, vI t110), (12, vI 1), (17, .slice a_p0_2 p0_2.length c_p0_2), (18, vI (p0_2.length : Int)), (19, vI x84)] (w_vs (H' := ([⟨b112, [vI x87, vI x88], 2⟩, ⟨b109, [vI x93, vI x94, vI x95, vI x96, vI x97, vI x98, vI x99], 7⟩, ⟨a85, encL E_i644 y86, na85⟩, ⟨b80, [vI x87, vI x88], 2⟩, ⟨b79, [.slice (ad a85) y86.length (na85 / 4)], 1⟩, ⟨b78, [vI p0_0, vI p0_1, .slice a_p0_2 p0_2.length c_p0_2, .bool p0_3], 4⟩] : List Own)) (S' := S) (VS.lb [0, 0, 0, 0, 0, 0] (by kernel_rfl)) ?_)))
     refine w_loop (fun n_ σ_ H_ S_ => ∃ (x113 : Int) (y115 : List (Int × Int × Int × Int)) (x116 : Int) (x117 : Int), ∃ (a114 : Option Nat) (na114 : Nat), [(1, .bool shut1), (2, vP b78 0), (5, vP b79 0), (6, vP b80 0), (7, .func (.func 45) #[] #[vP b80 0, vP b79 0]), (9, vP b109 0), (10, vP b112 0), (11, vI t110), (12, vI x113), (17, .slice a_p0_2 p0_2.length c_p0_2), (18, vI (p0_2.length : Int)), (19, vI x84)] = σ_ ∧ ([⟨b112, [vI x87, vI x88], 2⟩, ⟨b109, [vI x93, vI x94, vI x95, vI x96, vI x97, vI x98, vI x99], 7⟩, ⟨a114, encL E_i644 y115, na114⟩, ⟨b80, [vI x116, vI x117], 2⟩, ⟨b79, [.slice (ad a114) y115.length (na114 / 4)], 1⟩, ⟨b78, [vI p0_0, vI p0_1, .slice a_p0_2 p0_2.length c_p0_2, .bool p0_3], 4⟩] : List Own) = H_ ∧ S = S_ ∧ flatten_Path_v1.l1 n_ x87 x88 x93 x94 x95 x96 x97 x98 x99 t110 x113 y115 x116 x117 = some (x150, x151, y153)) _ ⟨1, y86, x87, x88, a85, na85, rfl, rfl, rfl, e91⟩ ?_
     rintro n149 σ_ H_ S_ ⟨x113, y115, x116, x117, a114, na114, rfl, rfl, rfl, e91⟩
     cases n149 with
     | zero => rw [flatten_Path_v1.l1.eq_1] at e91; cases e91
     | succ k_ =>
      rw [flatten_Path_v1.l1.eq_2] at e91
      by_cases c118 : x113 ≤ t110
      ·rw [if_pos c118] at e91
       have c118b : (decide (x113 ≤ t110)) = true := decide_eq_true c118
       by_cases c119 : x93 = 1
       ·rw [if_pos c119] at e91
        have c119b : (x93 == 1) = true := beq_iff_eq.mpr c119
        obtain ⟨⟨t120, t121⟩, h122, e91⟩ := bind_of e91
        try dsimp only at e91
        obtain ⟨⟨t123, t124, t125⟩, h126, e91⟩ := bind_of e91
        try dsimp only at e91
        refine wq mixed [0, 1, 3, 4, 2] 0 .nrm [(2, spQ (.bin .leq 27 28) [vI x113, vI t110] (congrArg (fun t => some (Value.bool t)) c118b)), (8, spP 46 [33, 34, 35, 36] (vs := [.agg #[vI x87, vI x88], .agg #[vI x93, vI x94, vI x95, vI x96, vI x97, vI x98, vI x99], vI x113, vI t110]) ((congrArg (fun q_ => Cal _ 46 [.agg #[vI x87, vI x88], .agg #[vI q_, vI x94, vI x95, vI x96, vI x97, vI x98, vI x99], vI x113, vI t110] [] _ fun v' H' S' => v' = .agg #[vI t120, vI t121] ∧ H' = [] ∧ S' = _) c119).mpr (flatten_Point_v1.ok hE_ h122))), (9, spCc 45 #[vP b80 0, vP b79 0] 32 [37] [.agg #[vI t120, vI t121]] [[⟨b80, [vI x116, vI x117], 2⟩], [⟨b79, [.slice (ad a114) y115.length (na114 / 4)], 1⟩], [⟨a114, encL E_i644 y115, na114⟩]] [] [1, 0] 3 (fun l_ => .tuple #[]) (fun l_ => [[⟨(l_.O 0), encL E_i644 t123, (l_.N 0)⟩], [⟨b80, [vI t124, vI t125], 2⟩], [⟨b79, [.slice (ad (l_.O 0)) t123.length ((l_.N 0) / 4)], 1⟩]]) (by kernel_rfl) rfl (((flatten_Path_1_v1.ok hE_ h126)).mono fun _ _ _ ⟨N127, nN127, h1_, h2_, h3_⟩ => ⟨un ⟨[nN127], [N127], [], [], []⟩, h1_.trans (by kernel_rfl), h2_.trans (by kernel_rfl), h3_⟩))] fun N127 nN127 => zQL [] ?_
        exact ⟨k_, Nat.lt_succ_self _, _, _, S, keep_sub [1, 2, 5, 6, 7, 9, 10, 11, 12, 17, 18, 19] (by kernel_rfl), VS.lb [3, 3, 0, 0, 0, 0] (by kernel_rfl), wr64 (x113 + 1), t123, t124, t125, N127, nN127, rfl, rfl, rfl, e91⟩
       ·rw [if_neg c119] at e91
        have c119b : (x93 == 1) = false := beq_eq_false_iff_ne.mpr c119
        by_cases c129 : x93 = 2
        ·rw [if_pos c129] at e91
         have c129b : (x93 == 2) = true := beq_iff_eq.mpr c129
         obtain ⟨⟨t130, t131⟩, h132, e91⟩ := bind_of e91
         try dsimp only at e91
         obtain ⟨⟨t133, t134, t135⟩, h136, e91⟩ := bind_of e91
         try dsimp only at e91
         refine wq mixed [0, 1, 3, 4, 2] 0 .nrm [(2, spQ (.bin .leq 27 28) [vI x113, vI t110] (congrArg (fun t => some (Value.bool t)) c118b)), (8, spP 46 [33, 34, 35, 36] (vs := [.agg #[vI x87, vI x88], .agg #[vI x93, vI x94, vI x95, vI x96, vI x97, vI x98, vI x99], vI x113, vI t110]) ((congrArg (fun q_ => Cal _ 46 [.agg #[vI x87, vI x88], .agg #[vI q_, vI x94, vI x95, vI x96, vI x97, vI x98, vI x99], vI x113, vI t110] [] _ fun v' H' S' => v' = .agg #[vI t130, vI t131] ∧ H' = [] ∧ S' = _) c129).mpr (flatten_Point_v2.ok hE_ h132))), (9, spCc 45 #[vP b80 0, vP b79 0] 32 [37] [.agg #[vI t130, vI t131]] [[⟨b80, [vI x116, vI x117], 2⟩], [⟨b79, [.slice (ad a114) y115.length (na114 / 4)], 1⟩], [⟨a114, encL E_i644 y115, na114⟩]] [] [1, 0] 3 (fun l_ => .tuple #[]) (fun l_ => [[⟨(l_.O 0), encL E_i644 t133, (l_.N 0)⟩], [⟨b80, [vI t134, vI t135], 2⟩], [⟨b79, [.slice (ad (l_.O 0)) t133.length ((l_.N 0) / 4)], 1⟩]]) (by kernel_rfl) rfl (((flatten_Path_1_v1.ok hE_ h136)).mono fun _ _ _ ⟨N137, nN137, h1_, h2_, h3_⟩ => ⟨un ⟨[nN137], [N137], [], [], []⟩, h1_.trans (by kernel_rfl), h2_.trans (by kernel_rfl), h3_⟩))] fun N137 nN137 => zQL [] ?_
         exact ⟨k_, Nat.lt_succ_self _, _, _, S, keep_sub [1, 2, 5, 6, 7, 9, 10, 11, 12, 17, 18, 19] (by kernel_rfl), VS.lb [3, 3, 0, 0, 0, 0] (by kernel_rfl), wr64 (x113 + 1), t133, t134, t135, N137, nN137, rfl, rfl, rfl, e91⟩
        ·rw [if_neg c129] at e91
         have c129b : (x93 == 2) = false := beq_eq_false_iff_ne.mpr c129
         by_cases c139 : x93 = 3
         ·rw [if_pos c139] at e91
          have c139b : (x93 == 3) = true := beq_iff_eq.mpr c139
          obtain ⟨⟨t140, t141⟩, h142, e91⟩ := bind_of e91
          try dsimp only at e91
          obtain ⟨⟨t143, t144, t145⟩, h146, e91⟩ := bind_of e91
          try dsimp only at e91
          refine wq mixed [0, 1, 3, 4, 2] 0 .nrm [(2, spQ (.bin .leq 27 28) [vI x113, vI t110] (congrArg (fun t => some (Value.bool t)) c118b)), (8, spP 46 [33, 34, 35, 36] (vs := [.agg #[vI x87, vI x88], .agg #[vI x93, vI x94, vI x95, vI x96, vI x97, vI x98, vI x99], vI x113, vI t110]) ((congrArg (fun q_ => Cal _ 46 [.agg #[vI x87, vI x88], .agg #[vI q_, vI x94, vI x95, vI x96, vI x97, vI x98, vI x99], vI x113, vI t110] [] _ fun v' H' S' => v' = .agg #[vI t140, vI t141] ∧ H' = [] ∧ S' = _) c139).mpr (flatten_Point_v3.ok hE_ h142))), (9, spCc 45 #[vP b80 0, vP b79 0] 32 [37] [.agg #[vI t140, vI t141]] [[⟨b80, [vI x116, vI x117], 2⟩], [⟨b79, [.slice (ad a114) y115.length (na114 / 4)], 1⟩], [⟨a114, encL E_i644 y115, na114⟩]] [] [1, 0] 3 (fun l_ => .tuple #[]) (fun l_ => [[⟨(l_.O 0), encL E_i644 t143, (l_.N 0)⟩], [⟨b80, [vI t144, vI t145], 2⟩], [⟨b79, [.slice (ad (l_.O 0)) t143.length ((l_.N 0) / 4)], 1⟩]]) (by kernel_rfl) rfl (((flatten_Path_1_v1.ok hE_ h146)).mono fun _ _ _ ⟨N147, nN147, h1_, h2_, h3_⟩ => ⟨un ⟨[nN147], [N147], [], [], []⟩, h1_.trans (by kernel_rfl), h2_.trans (by kernel_rfl), h3_⟩))] fun N147 nN147 => zQL [] ?_
          exact ⟨k_, Nat.lt_succ_self _, _, _, S, keep_sub [1, 2, 5, 6, 7, 9, 10, 11, 12, 17, 18, 19] (by kernel_rfl), VS.lb [3, 3, 0, 0, 0, 0] (by kernel_rfl), wr64 (x113 + 1), t143, t144, t145, N147, nN147, rfl, rfl, rfl, e91⟩
         ·rw [if_neg c139] at e91
          have c139b : (x93 == 3) = false := beq_eq_false_iff_ne.mpr c139
          cases e91
      ·rw [if_neg c118] at e91
       have c118b : (decide (x113 ≤ t110)) = false := decide_eq_false c118
       refine wq mixed [] 0 (.ex 2) [(2, spQ (.bin .leq 27 28) [vI x113, vI t110] (congrArg (fun t => some (Value.bool t)) c118b))] (zQL [] ?_)
       simp only [Option.some.injEq, Prod.mk.injEq] at e91
       obtain ⟨rfl, rfl, rfl⟩ := e91
       exact ⟨_, S, VS.lb [3, 3, 3, 2] (by kernel_rfl), a114, na114, by kernel_rfl, rfl, rfl⟩
    ·rintro σ_ H_ S_ ⟨a152, na152, rfl, rfl, rfl⟩
     refine wq mixed [] 0 .nrm [] (zQL [] ?_)
     exact ⟨k_, Nat.lt_succ_self _, _, _, S, keep_sub [1, 2, 5, 6, 7, 17, 18, 19] (by kernel_rfl), VS.lb [3, 0, 0, 0] (by kernel_rfl), wr64 (x84 + 1), y153, x150, x151, a152, na152, rfl, rfl, rfl, e82⟩
   ·rw [if_neg c89] at e82
    have c89b : (decide (x84 < (p0_2.length : Int))) = false := decide_eq_false c89
    refine wq mixed [] 0 (.ex 0) [(0, spQ (.bin .lss 19 18) [vI x84, vI (p0_2.length : Int)] (congrArg (fun t => some (Value.bool t)) c89b))] (zQL [] ?_)
    simp only [Option.some.injEq, Prod.mk.injEq] at e82
    obtain ⟨rfl, rfl, rfl⟩ := e82
    exact ⟨_, S, VS.lb [1, 1, 1, 0] (by kernel_rfl), a85, na85, by kernel_rfl, rfl, rfl⟩
 ·rintro σ_ H_ S_ ⟨a158, na158, rfl, rfl, rfl⟩
  by_cases c160 : shut1 = true
  ·rw [if_pos c160] at e
   have c160b : shut1 = true := c160
   obtain ⟨⟨t161, t162, t163⟩, h164, e⟩ := bind_of e
   try dsimp only at e
   refine wx mixed 2 [0, 2, 0, 1, 3, 6] 0 [(0, spQ (.mv 1) [.bool shut1] (congrArg (fun t => some (Value.bool t)) c160b)), (8, spCc 45 #[vP b80 0, vP b79 0] 45 [47] [.agg #[vI p0_0, vI p0_1]] [[⟨b80, [vI x156, vI x157], 2⟩], [⟨b79, [.slice (ad a158) y159.length (na158 / 4)], 1⟩], [⟨a158, encL E_i644 y159, na158⟩]] [] [1, 0] 3 (fun l_ => .tuple #[]) (fun l_ => [[⟨(l_.O 0), encL E_i644 t161, (l_.N 0)⟩], [⟨b80, [vI t162, vI t163], 2⟩], [⟨b79, [.slice (ad (l_.O 0)) t161.length ((l_.N 0) / 4)], 1⟩]]) (by kernel_rfl) rfl (((flatten_Path_1_v1.ok hE_ h164)).mono fun _ _ _ ⟨N165, nN165, h1_, h2_, h3_⟩ => ⟨un ⟨[nN165], [N165], [], [], []⟩, h1_.trans (by kernel_rfl), h2_.trans (by kernel_rfl), h3_⟩))] fun N165 nN165 => zWL [5, 6, 2] ?_
   refine w_ (w_ret ?_)
   obtain rfl := Option.some.inj e
   exact ⟨[_], _, S, ⟨(show gt _ _ = some _ from (by kernel_rfl)), trivial⟩, VS.lb [0] (by kernel_rfl), N165, nN165, rfl, rfl, rfl⟩
  ·rw [if_neg c160] at e
   have c160b : shut1 = false := Bool.eq_false_iff.mpr c160
   by_cases c166 : p0_3 = true
   ·rw [if_pos c166] at e
    have c166b : p0_3 = true := c166
    obtain ⟨⟨t167, t168, t169⟩, h170, e⟩ := bind_of e
    try dsimp only at e
    refine wx mixed 2 [2, 2, 0, 1, 3, 6] 0 [(0, spQ (.mv 1) [.bool shut1] (congrArg (fun t => some (Value.bool t)) c160b)), (3, spTo (spL1 42 b78 3 [[⟨b78, [vI p0_0, vI p0_1, .slice a_p0_2 p0_2.length c_p0_2, .bool p0_3], 4⟩]] (fun _ => .at 0 rfl rfl)) (vB true) (congrArg (fun t => Value.bool t) c166b)), (8, spCc 45 #[vP b80 0, vP b79 0] 45 [47] [.agg #[vI p0_0, vI p0_1]] [[⟨b80, [vI x156, vI x157], 2⟩], [⟨b79, [.slice (ad a158) y159.length (na158 / 4)], 1⟩], [⟨a158, encL E_i644 y159, na158⟩]] [] [1, 0] 3 (fun l_ => .tuple #[]) (fun l_ => [[⟨(l_.O 0), encL E_i644 t167, (l_.N 0)⟩], [⟨b80, [vI t168, vI t169], 2⟩], [⟨b79, [.slice (ad (l_.O 0)) t167.length ((l_.N 0) / 4)], 1⟩]]) (by kernel_rfl) rfl (((flatten_Path_1_v1.ok hE_ h170)).mono fun _ _ _ ⟨N171, nN171, h1_, h2_, h3_⟩ => ⟨un ⟨[nN171], [N171], [], [], []⟩, h1_.trans (by kernel_rfl), h2_.trans (by kernel_rfl), h3_⟩))] fun N171 nN171 => zWL [5, 6, 2] ?_
    refine w_ (w_ret ?_)
    obtain rfl := Option.some.inj e
    exact ⟨[_], _, S, ⟨(show gt _ _ = some _ from (by kernel_rfl)), trivial⟩, VS.lb [0] (by kernel_rfl), N171, nN171, rfl, rfl, rfl⟩
   ·rw [if_neg c166] at e
    have c166b : p0_3 = false := Bool.eq_false_iff.mpr c166
    refine wx mixed 2 [2, 1] 0 [(0, spQ (.mv 1) [.bool shut1] (congrArg (fun t => some (Value.bool t)) c160b)), (3, spTo (spL1 42 b78 3 [[⟨b78, [vI p0_0, vI p0_1, .slice a_p0_2 p0_2.length c_p0_2, .bool p0_3], 4⟩]] (fun _ => .at 0 rfl rfl)) (vB false) (congrArg (fun t => Value.bool t) c166b))] (zWL [0, 1, 2] ?_)
    refine w_ (w_ret ?_)
    obtain rfl := Option.some.inj e
    exact ⟨[_], _, S, ⟨(show gt _ _ = some _ from (by kernel_rfl)), trivial⟩, VS.lb [0] (by kernel_rfl), a158, na158, rfl, rfl, rfl⟩

/-- render.layers -/
def c18 : C := (.seq (.reg [oq 2 (.box 0), oq 4 (.mv (.const (.slice none 0 0)))]) (.seq (.reg [oq 5 (.mv (.const (.slice none 0 0)))]) (.seq (.seq (.reg [oq 11 (.pad 4 2), oq 12 (.ld none 11), oq 13 (.lns 12), oq 14 (.mv (.const (vI 0)))]) (.block 0 (.loop (.seq (.reg [oq 15 (.bin .lss 14 13)]) (.seq (.cond 15 .skip (.exit 0)) (.seq (.block 1 (.seq (.reg [oq 16 (.ixs 11 12 14), oq 17 (.ld (some 11) 16), oq 7 (.new [(vI 0), (vI 0), (vI 0), (vI 0), (vI 0), (vI 0), (vI 0), (vI 0), (vI 0), (vI 0), (.slice none 0 0)]), ⟨none, .st 11 7 17, none⟩]) (.seq (.reg [oq 18 (.ld (some 5) 2), oq 19 (.mv 1), oq 20 (.ld (some 11) 7), oq 21 (.call 31 [18, 19, 20]), oq 22 (.bld [(vI 0), (vI 0), (vI 0), (vI 0), (vI 0), (vI 0), (vI 0), (vI 0), (vI 0), (vI 0), (.slice none 0 0), (.slice none 0 0)] [(0, 11, 21)]), oq 8 (.new [(vI 0), (vI 0), (vI 0), (vI 0), (vI 0), (vI 0), (vI 0), (vI 0), (vI 0), (vI 0), (.slice none 0 0), (.slice none 0 0)]), ⟨none, .st 12 8 22, none⟩]) (.seq (.seq (.reg [oq 23 (.pad 0 8), oq 24 (.pad 10 23), oq 25 (.ld none 24), oq 26 (.lns 25), oq 27 (.mv (.const (vI 0)))]) (.block 2 (.loop (.seq (.reg [oq 28 (.bin .lss 27 26)]) (.seq (.cond 28 .skip (.exit 2)) (.seq (.block 3 (.seq (.reg [oq 29 (.ixs 4 25 27), oq 30 (.ld (some 4) 29), oq 10 (.new [(vI 0), (vI 0), (.slice none 0 0), (vB false)]), ⟨none, .st 4 10 30, none⟩]) (.drw [oq 31 (.pad 11 8), oq 32 (.ld none 31), oq 33 (.ld (some 4) 10), oq 34 (.pad 0 7), oq 35 (.ld none 34), oq 36 (.bin .eql 35 (.const (vI 1))), oq 37 (.call 33 [33, 36]), oq 38 (.app 105 4 32 [(vI 0), (vI 0), (vI 0), (vI 0)] 32 37), oq 39 (.pad 11 8), ⟨none, .st 1 39 38, none⟩] [[], [0], [], [], [3], [4], [2, 5], [1, 6, 6], [0, 1, 2, 3, 4, 5, 6, 7], [8, 7, 7, 0, 1, 2, 3, 4, 5, 6, 7]]))) (.reg [oq 40 (.bin .add 27 (.const (vI 1))), oq 27 (.mv 40)]))))))) (.reg [oq 41 (.mv 5), oq 42 (.ld (some 12) 8), oq 43 (.bsl [(vI 0), (vI 0), (vI 0), (vI 0), (vI 0), (vI 0), (vI 0), (vI 0), (vI 0), (vI 0), (.slice none 0 0), (.slice none 0 0)] 1 [(0, 12, 42)]), oq 44 (.app 89 12 128 [(vI 0), (vI 0), (vI 0), (vI 0), (vI 0), (vI 0), (vI 0), (vI 0), (vI 0), (vI 0), (.slice none 0 0), (.slice none 0 0)] 41 43), oq 5 (.mv 44)]))))) (.reg [oq 45 (.bin .add 14 (.const (vI 1))), oq 14 (.mv 45)]))))))) (.seq (.reg [oq 46 (.mv 5), oq 4 (.mv 46)]) .ret))))
def render_layers_v1.l1 : Nat → Int → List (Int × Int × List (Int × Int × Int × Int × Int × Int × Int) × Bool) → Int → List (Int × Int × Int × Int) → Option (List (Int × Int × Int × Int))
  | 0, _, _, _, _ => none
  | k + 1, x18, t52, x59, y61 => if x59 < (t52.length : Int) then ((lgt t52 x59).bind fun (x63, x64, x65, x66) => ((flatten_Path_v1.f k x63 x64 x65 x66 (x18 == 1)).bind fun t80 => ((lapp y61 t80).bind fun y83 => (render_layers_v1.l1 k x18 t52 (wr64 (x59 + 1)) y83)))) else (some y61)
def render_layers_v1.l0 : Nat → Int → Int → Int → List (Int × Int × Int × Int × Int × Int × Int × Int × Int × Int × List (Int × Int × List (Int × Int × Int × Int × Int × Int × Int) × Bool)) → Int → Int → List (Int × Int × Int × Int × Int × Int × Int × Int × Int × Int × List (Int × Int × List (Int × Int × Int × Int × Int × Int × Int) × Bool) × List (Int × Int × Int × Int)) → Option (List (Int × Int × Int × Int × Int × Int × Int × Int × Int × Int × List (Int × Int × List (Int × Int × Int × Int × Int × Int × Int) × Bool) × List (Int × Int × Int × Int)))
  | 0, _, _, _, _, _, _, _ => none
  | k + 1, i0_0, i0_1, i0_2, i0_4, w1, x11, y13 => if x11 < (i0_4.length : Int) then (((lgt i0_4 x11).bind fun (x18, x19, x20, x21, x22, x23, x24, x25, x26, x27, x28) => ((scale_Cmd_v1.f k i0_0 i0_1 i0_2 w1 x18 x19 x20 x21 x22 x23 x24 x25 x26 x27 x28).bind fun (t42, t43, t44, t45, t46, t47, t48, t49, t50, t51, t52) => ((render_layers_v1.l1 k x18 t52 0 ([] : List (Int × Int × Int × Int)) : Option (List (Int × Int × Int × Int))).bind fun y89 => ((lapp y13 ([(t42, t43, t44, t45, t46, t47, t48, t49, t50, t51, t52, y89)] : List (Int × Int × Int × Int × Int × Int × Int × Int × Int × Int × List (Int × Int × List (Int × Int × Int × Int × Int × Int × Int) × Bool) × List (Int × Int × Int × Int)))).bind fun y91 => (some y91)))) : Option (List (Int × Int × Int × Int × Int × Int × Int × Int × Int × Int × List (Int × Int × List (Int × Int × Int × Int × Int × Int × Int) × Bool) × List (Int × Int × Int × Int)))).bind fun y95 => (render_layers_v1.l0 k i0_0 i0_1 i0_2 i0_4 w1 (wr64 (x11 + 1)) y95)) else (some y13)
def render_layers_v1.f (k : Nat) (i0_0 : Int) (i0_1 : Int) (i0_2 : Int) (i0_4 : List (Int × Int × Int × Int × Int × Int × Int × Int × Int × Int × List (Int × Int × List (Int × Int × Int × Int × Int × Int × Int) × Bool))) (w1 : Int) : Option (List (Int × Int × Int × Int × Int × Int × Int × Int × Int × Int × List (Int × Int × List (Int × Int × Int × Int × Int × Int × Int) × Bool) × List (Int × Int × Int × Int))) := (render_layers_v1.l0 k i0_0 i0_1 i0_2 i0_4 w1 0 ([] : List (Int × Int × Int × Int × Int × Int × Int × Int × Int × Int × List (Int × Int × List (Int × Int × Int × Int × Int × Int × Int) × Bool) × List (Int × Int × Int × Int))) : Option (List (Int × Int × Int × Int × Int × Int × Int × Int × Int × Int × List (Int × Int × List (Int × Int × Int × Int × Int × Int × Int) × Bool) × List (Int × Int × Int × Int)))).bind fun y99 => (some y99)
theorem render_layers_v1.ok {S : Seal} {k : Nat} {i0_0 i0_1 i0_2 : Int} {i0_4 : List (Int × Int × Int × Int × Int × Int × Int × Int × Int × Int × List (Int × Int × List (Int × Int × Int × Int × Int × Int × Int) × Bool))} {w1 : Int} {r0_ : List (Int × Int × Int × Int × Int × Int × Int × Int × Int × Int × List (Int × Int × List (Int × Int × Int × Int × Int × Int × Int) × Bool) × List (Int × Int × Int × Int))}{A_ : Int → Addr} (hE_ : EO gsE S A_ 157) {a_i0_3 : Option Addr} {n_i0_3 c_i0_3 : Nat} {a_i0_4 : Option Addr} {c_i0_4 : Nat} (h_i0_4 : SlN (rdOf [] S) N_1 i0_4 a_i0_4) (e : render_layers_v1.f k i0_0 i0_1 i0_2 i0_4 w1 = some r0_) :
    Cal Tryd.prog 18 [.agg #[vI i0_0, vI i0_1, vI i0_2, .slice a_i0_3 n_i0_3 c_i0_3, .slice a_i0_4 i0_4.length c_i0_4], vI w1] [] S fun v H' S' => ∃ (a0_ : Option Addr) (c0_ : Nat) (NF_ : List Own), v = .slice a0_ r0_.length c0_ ∧ H' = (NF_ ++ []) ∧ S' = S ∧ SlN (rdOf (NF_ ++ []) S) N_2 r0_ a0_ := by
 unfold render_layers_v1.f at e
 refine cal_of (c := c18) (N := 47) Tryd.func18 rfl rfl (by kernel_rfl) (rs := [.t 4]) (by kernel_rfl) (Nat.le_of_ble_eq_true rfl) ?_
 unfold c18
 refine wx mixed 2 [] 1 [] fun b7 => zWL [] ?_
 refine w_ ?_
 obtain ⟨y99, e9, e⟩ := bind_of e
 refine w_cut [5] (fun σ_ H_ S_ => ∃ (a98 : Option Nat) (na98 : Nat) (csa98 : List Value) (Fa98 : List Own), [(5, .slice (ad a98) y99.length (na98 / 12))] = σ_ ∧ (([⟨b7, [vI i0_0, vI i0_1, vI i0_2, .slice a_i0_3 n_i0_3 c_i0_3, .slice a_i0_4 i0_4.length c_i0_4], 5⟩, ⟨a98, csa98, na98⟩] : List Own) ++ (Fa98 ++ [])) = H_ ∧ S = S_ ∧ RL (rdOf (Fa98 ++ []) S) N_2 y99 csa98) ?_ ?_
 ·refine w_ ?_
  refine wxM mixed 1 [0] 0 [] (zWL [] ?_)
  refine w_ (w_block (w_vs VS.vac ?_))
  refine wk [(1, vI w1), (2, vP b7 0), (5, .slice (ad none) ([] : List (Int × Int × Int × Int × Int × Int × Int × Int × Int × Int × List (Int × Int × List (Int × Int × Int × Int × Int × Int × Int) × Bool) × List (Int × Int × Int × Int))).length (0 / 12)), (12, .slice a_i0_4 i0_4.length c_i0_4), (13, vI (i0_4.length : Int)), (14, vI 0)] (w_vs (H' := (([⟨none, [], 0⟩, ⟨b7, [vI i0_0, vI i0_1, vI i0_2, .slice a_i0_3 n_i0_3 c_i0_3, .slice a_i0_4 i0_4.length c_i0_4], 5⟩] : List Own) ++ (([] : List Own) ++ []))) (S' := S) (VS.as ([⟨none, [], 0⟩, ⟨b7, [vI i0_0, vI i0_1, vI i0_2, .slice a_i0_3 n_i0_3 c_i0_3, .slice a_i0_4 i0_4.length c_i0_4], 5⟩] : List Own) (VS.treeA (.l ([⟨none, [], 0⟩, ⟨b7, [vI i0_0, vI i0_1, vI i0_2, .slice a_i0_3 n_i0_3 c_i0_3, .slice a_i0_4 i0_4.length c_i0_4], 5⟩] : List Own)) (.a (.l ([⟨none, [], 0⟩, ⟨b7, [vI i0_0, vI i0_1, vI i0_2, .slice a_i0_3 n_i0_3 c_i0_3, .slice a_i0_4 i0_4.length c_i0_4], 5⟩] : List Own)) (.a (.l ([] : List Own)) (.l []))) [0, 0] (by kernel_rfl))) ?_)
  refine w_loop (fun n_ σ_ H_ S_ => ∃ (x11 : Int) (y13 : List (Int × Int × Int × Int × Int × Int × Int × Int × Int × Int × List (Int × Int × List (Int × Int × Int × Int × Int × Int × Int) × Bool) × List (Int × Int × Int × Int))), ∃ (a12 : Option Nat) (na12 : Nat) (csa12 : List Value) (Fa12 : List Own), [(1, vI w1), (2, vP b7 0), (5, .slice (ad a12) y13.length (na12 / 12)), (12, .slice a_i0_4 i0_4.length c_i0_4), (13, vI (i0_4.length : Int)), (14, vI x11)] = σ_ ∧ (([⟨a12, csa12, na12⟩, ⟨b7, [vI i0_0, vI i0_1, vI i0_2, .slice a_i0_3 n_i0_3 c_i0_3, .slice a_i0_4 i0_4.length c_i0_4], 5⟩] : List Own) ++ (Fa12 ++ [])) = H_ ∧ S = S_ ∧ render_layers_v1.l0 n_ i0_0 i0_1 i0_2 i0_4 w1 x11 y13 = some y99 ∧ RL (rdOf (Fa12 ++ []) S) N_2 y13 csa12) _ ⟨0, ([] : List (Int × Int × Int × Int × Int × Int × Int × Int × Int × Int × List (Int × Int × List (Int × Int × Int × Int × Int × Int × Int) × Bool) × List (Int × Int × Int × Int))), none, 0, [], ([] : List Own), rfl, rfl, rfl, e9, RL.mono (RL.nil (R := rdOf [] S) (E := N_2)) (rd_sub seg_hd)⟩ ?_
  rintro n97 σ_ H_ S_ ⟨x11, y13, a12, na12, csa12, Fa12, rfl, rfl, rfl, e9, hra12⟩
  cases n97 with
  | zero => rw [render_layers_v1.l0.eq_1] at e9; cases e9
  | succ k_ =>
   rw [render_layers_v1.l0.eq_2] at e9
   by_cases c14 : x11 < (i0_4.length : Int)
   ·rw [if_pos c14] at e9
    have c14b : (decide (x11 < (i0_4.length : Int))) = true := decide_eq_true c14
    refine wxF mixed [Fa12] 2 [] 0 [(0, spQ (.bin .lss 14 13) [vI x11, vI (i0_4.length : Int)] (congrArg (fun t => some (Value.bool t)) c14b))] (zWL [] ?_)
    refine w_ ?_
    obtain ⟨y95, e16, e9⟩ := bind_of e9
    refine w_cut [1, 2, 5, 12, 13, 14] (fun σ_ H_ S_ => ∃ (a94 : Option Nat) (na94 : Nat) (csa94 : List Value) (Fa94 : List Own), [(1, vI w1), (2, vP b7 0), (5, .slice (ad a94) y95.length (na94 / 12)), (12, .slice a_i0_4 i0_4.length c_i0_4), (13, vI (i0_4.length : Int)), (14, vI x11)] = σ_ ∧ (([⟨b7, [vI i0_0, vI i0_1, vI i0_2, .slice a_i0_3 n_i0_3 c_i0_3, .slice a_i0_4 i0_4.length c_i0_4], 5⟩, ⟨a94, csa94, na94⟩] : List Own) ++ (Fa94 ++ [])) = H_ ∧ S = S_ ∧ RL (rdOf (Fa94 ++ []) S) N_2 y95 csa94) ?_ ?_
    ·refine w_ (w_block ?_)
     obtain ⟨⟨x18, x19, x20, x21, x22, x23, x24, x25, x26, x27, x28⟩, hx29, e16⟩ := bind_of e16
     try dsimp only at e16
     obtain ⟨lb30, lo31, ll32, vs_, la33, lR34, lv35, hrep_, lz36, lu37⟩ := sln_get (E := N_1) h_i0_4 hx29
     obtain ⟨na38, nc39, rfl, nh40⟩ := hrep_
     refine wxM mixed 1 [3] 1 [(0, spQ (.ixs 11 12 14) [.slice a_i0_4 i0_4.length c_i0_4, vI x11] (ixs_sle rfl rfl la33 lz36 lu37)), (1, spLn 16 lb30 (lo31 + (x11).toNat * 11 + 0) 11 [] (vs := [vI x18, vI x19, vI x20, vI x21, vI x22, vI x23, vI x24, vI x25, vI x26, vI x27, .slice na38 x28.length nc39]) (fun _ => rd_n lR34 sub_nil (subl_sub lv35 (by kernel_rfl))))] fun b41 => zWL [] ?_
     refine w_ (w_seq (w_reg fun all => ?_))
     refine txM 3 [2, 0] 0 [] (zTL [] ?_)
     refine t_as [(1, vI w1), (2, vP b7 0), (5, .slice (ad a12) y13.length (na12 / 12)), (7, vP b41 0), (12, .slice a_i0_4 i0_4.length c_i0_4), (13, vI (i0_4.length : Int)), (14, vI x11), (18, .agg #[vI i0_0, vI i0_1, vI i0_2, .slice a_i0_3 n_i0_3 c_i0_3, .slice a_i0_4 i0_4.length c_i0_4]), (19, vI w1), (20, .agg #[vI x18, vI x19, vI x20, vI x21, vI x22, vI x23, vI x24, vI x25, vI x26, vI x27, .slice na38 x28.length nc39])] (([⟨b41, [vI x18, vI x19, vI x20, vI x21, vI x22, vI x23, vI x24, vI x25, vI x26, vI x27, .slice na38 x28.length nc39], 11⟩, ⟨a12, csa12, na12⟩, ⟨b7, [vI i0_0, vI i0_1, vI i0_2, .slice a_i0_3 n_i0_3 c_i0_3, .slice a_i0_4 i0_4.length c_i0_4], 5⟩] : List Own) ++ (Fa12 ++ [])) ?_
     obtain ⟨⟨t42, t43, t44, t45, t46, t47, t48, t49, t50, t51, t52⟩, h53, e16⟩ := bind_of e16
     try dsimp only at e16
     refine t_call (vs := [.agg #[vI i0_0, vI i0_1, vI i0_2, .slice a_i0_3 n_i0_3 c_i0_3, .slice a_i0_4 i0_4.length c_i0_4], vI w1, .agg #[vI x18, vI x19, vI x20, vI x21, vI x22, vI x23, vI x24, vI x25, vI x26, vI x27, .slice na38 x28.length nc39]]) (H1 := []) (F := (([⟨b41, [vI x18, vI x19, vI x20, vI x21, vI x22, vI x23, vI x24, vI x25, vI x26, vI x27, .slice na38 x28.length nc39], 11⟩, ⟨a12, csa12, na12⟩, ⟨b7, [vI i0_0, vI i0_1, vI i0_2, .slice a_i0_3 n_i0_3 c_i0_3, .slice a_i0_4 i0_4.length c_i0_4], 5⟩] : List Own) ++ (Fa12 ++ []))) rfl rfl (by kernel_rfl) (sel_perm (is := []) (by kernel_rfl)) (scale_Cmd_v1.ok hE_ nh40 h53) ?_
     rintro _ _ S_ ⟨Q54a0, Q54c0, Q54F, rfl, rfl, hS_, Q54h0⟩
     obtain rfl := hS_.symm
     refine t_vs (H' := (([⟨b41, [vI x18, vI x19, vI x20, vI x21, vI x22, vI x23, vI x24, vI x25, vI x26, vI x27, .slice na38 x28.length nc39], 11⟩, ⟨a12, csa12, na12⟩, ⟨b7, [vI i0_0, vI i0_1, vI i0_2, .slice a_i0_3 n_i0_3 c_i0_3, .slice a_i0_4 i0_4.length c_i0_4], 5⟩] : List Own) ++ (Q54F ++ (Fa12 ++ [])))) (S' := S) (VS.treeA (.a (.a (.f Q54F) (.l [])) (.a (.l ([⟨b41, [vI x18, vI x19, vI x20, vI x21, vI x22, vI x23, vI x24, vI x25, vI x26, vI x27, .slice na38 x28.length nc39], 11⟩, ⟨a12, csa12, na12⟩, ⟨b7, [vI i0_0, vI i0_1, vI i0_2, .slice a_i0_3 n_i0_3 c_i0_3, .slice a_i0_4 i0_4.length c_i0_4], 5⟩] : List Own)) (.a (.f Fa12) (.l [])))) (.a (.l ([⟨b41, [vI x18, vI x19, vI x20, vI x21, vI x22, vI x23, vI x24, vI x25, vI x26, vI x27, .slice na38 x28.length nc39], 11⟩, ⟨a12, csa12, na12⟩, ⟨b7, [vI i0_0, vI i0_1, vI i0_2, .slice a_i0_3 n_i0_3 c_i0_3, .slice a_i0_4 i0_4.length c_i0_4], 5⟩] : List Own)) (.a (.f Q54F) (.a (.f Fa12) (.l [])))) [1, 1, 1, 0, 0] (by kernel_rfl)) ?_
     refine txF [Q54F, Fa12] 3 [5] 1 [] fun b55 => zTL [] ?_
     refine t_end (w_ ?_)
     obtain ⟨y89, e57, e16⟩ := bind_of e16
     refine w_cut [1, 2, 5, 8, 12, 13, 14] (fun σ_ H_ S_ => ∃ (a88 : Option Nat) (na88 : Nat), [(1, vI w1), (2, vP b7 0), (5, .slice (ad a12) y13.length (na12 / 12)), (8, vP b55 0), (12, .slice a_i0_4 i0_4.length c_i0_4), (13, vI (i0_4.length : Int)), (14, vI x11)] = σ_ ∧ (([⟨b55, [vI t42, vI t43, vI t44, vI t45, vI t46, vI t47, vI t48, vI t49, vI t50, vI t51, .slice Q54a0 t52.length Q54c0, .slice (ad a88) y89.length (na88 / 4)], 12⟩, ⟨b41, [vI x18, vI x19, vI x20, vI x21, vI x22, vI x23, vI x24, vI x25, vI x26, vI x27, .slice na38 x28.length nc39], 11⟩, ⟨b7, [vI i0_0, vI i0_1, vI i0_2, .slice a_i0_3 n_i0_3 c_i0_3, .slice a_i0_4 i0_4.length c_i0_4], 5⟩, ⟨a12, csa12, na12⟩, ⟨a88, encL E_i644 y89, na88⟩] : List Own) ++ (Q54F ++ (Fa12 ++ []))) = H_ ∧ S = S_) ?_ ?_
     ·refine w_ ?_
      refine wxM mixed 1 [0] 0 [] (zWL [] ?_)
      refine w_ (w_block (w_vs VS.vac ?_))
      refine wk [(1, vI w1), (2, vP b7 0), (5, .slice (ad a12) y13.length (na12 / 12)), (7, vP b41 0), (8, vP b55 0), (12, .slice a_i0_4 i0_4.length c_i0_4), (13, vI (i0_4.length : Int)), (14, vI x11), (25, .slice Q54a0 t52.length Q54c0), (26, vI (t52.length : Int)), (27, vI 0)] (w_vs (H' := (([⟨none, encL E_i644 ([] : List (Int × Int × Int × Int)), 0⟩, ⟨b55, [vI t42, vI t43, vI t44, vI t45, vI t46, vI t47, vI t48, vI t49, vI t50, vI t51, .slice Q54a0 t52.length Q54c0, .slice (ad none) ([] : List (Int × Int × Int × Int)).length (0 / 4)], 12⟩, ⟨b41, [vI x18, vI x19, vI x20, vI x21, vI x22, vI x23, vI x24, vI x25, vI x26, vI x27, .slice na38 x28.length nc39], 11⟩, ⟨a12, csa12, na12⟩, ⟨b7, [vI i0_0, vI i0_1, vI i0_2, .slice a_i0_3 n_i0_3 c_i0_3, .slice a_i0_4 i0_4.length c_i0_4], 5⟩] : List Own) ++ (Q54F ++ (Fa12 ++ [])))) (S' := S) (VS.as (([⟨none, encL E_i644 ([] : List (Int × Int × Int × Int)), 0⟩, ⟨b55, [vI t42, vI t43, vI t44, vI t45, vI t46, vI t47, vI t48, vI t49, vI t50, vI t51, .slice Q54a0 t52.length Q54c0, .slice (ad none) ([] : List (Int × Int × Int × Int)).length (0 / 4)], 12⟩, ⟨b41, [vI x18, vI x19, vI x20, vI x21, vI x22, vI x23, vI x24, vI x25, vI x26, vI x27, .slice na38 x28.length nc39], 11⟩, ⟨a12, csa12, na12⟩, ⟨b7, [vI i0_0, vI i0_1, vI i0_2, .slice a_i0_3 n_i0_3 c_i0_3, .slice a_i0_4 i0_4.length c_i0_4], 5⟩] : List Own) ++ (Q54F ++ (Fa12 ++ []))) (VS.selT 5 [0, 0, 0, 0, 0] (by kernel_rfl))) ?_)
      refine w_loop (fun n_ σ_ H_ S_ => ∃ (x59 : Int) (y61 : List (Int × Int × Int × Int)), ∃ (a60 : Option Nat) (na60 : Nat), [(1, vI w1), (2, vP b7 0), (5, .slice (ad a12) y13.length (na12 / 12)), (7, vP b41 0), (8, vP b55 0), (12, .slice a_i0_4 i0_4.length c_i0_4), (13, vI (i0_4.length : Int)), (14, vI x11), (25, .slice Q54a0 t52.length Q54c0), (26, vI (t52.length : Int)), (27, vI x59)] = σ_ ∧ (([⟨a60, encL E_i644 y61, na60⟩, ⟨b55, [vI t42, vI t43, vI t44, vI t45, vI t46, vI t47, vI t48, vI t49, vI t50, vI t51, .slice Q54a0 t52.length Q54c0, .slice (ad a60) y61.length (na60 / 4)], 12⟩, ⟨b41, [vI x18, vI x19, vI x20, vI x21, vI x22, vI x23, vI x24, vI x25, vI x26, vI x27, .slice na38 x28.length nc39], 11⟩, ⟨a12, csa12, na12⟩, ⟨b7, [vI i0_0, vI i0_1, vI i0_2, .slice a_i0_3 n_i0_3 c_i0_3, .slice a_i0_4 i0_4.length c_i0_4], 5⟩] : List Own) ++ (Q54F ++ (Fa12 ++ []))) = H_ ∧ S = S_ ∧ render_layers_v1.l1 n_ x18 t52 x59 y61 = some y89) _ ⟨0, ([] : List (Int × Int × Int × Int)), none, 0, rfl, rfl, rfl, e57⟩ ?_
      rintro n87 σ_ H_ S_ ⟨x59, y61, a60, na60, rfl, rfl, rfl, e57⟩
      cases n87 with
      | zero => rw [render_layers_v1.l1.eq_1] at e57; cases e57
      | succ k_ =>
       rw [render_layers_v1.l1.eq_2] at e57
       by_cases c62 : x59 < (t52.length : Int)
       ·rw [if_pos c62] at e57
        have c62b : (decide (x59 < (t52.length : Int))) = true := decide_eq_true c62
        refine wxF mixed [Q54F, Fa12] 2 [] 0 [(0, spQ (.bin .lss 27 26) [vI x59, vI (t52.length : Int)] (congrArg (fun t => some (Value.bool t)) c62b))] (zWL [] ?_)
        refine w_ (w_seq (w_block (w_seq (w_reg fun all => ?_))))
        obtain ⟨⟨x63, x64, x65, x66⟩, hx67, e57⟩ := bind_of e57
        try dsimp only at e57
        obtain ⟨lb68, lo69, ll70, vs_, la71, lR72, lv73, hrep_, lz74, lu75⟩ := sln_get (E := N_0) Q54h0 hx67
        obtain ⟨na76, nc77, rfl, nh78⟩ := hrep_
        refine txM 1 [] 0 [(0, spQ (.ixs 4 25 27) [.slice Q54a0 t52.length Q54c0, vI x59] (ixs_sle rfl rfl la71 lz74 lu75))] (zTL [] ?_)
        refine t_as [(1, vI w1), (2, vP b7 0), (5, .slice (ad a12) y13.length (na12 / 12)), (7, vP b41 0), (8, vP b55 0), (12, .slice a_i0_4 i0_4.length c_i0_4), (13, vI (i0_4.length : Int)), (14, vI x11), (25, .slice Q54a0 t52.length Q54c0), (26, vI (t52.length : Int)), (27, vI x59), (29, vP lb68 (lo69 + (x59).toNat * 4 + 0))] (([⟨a60, encL E_i644 y61, na60⟩, ⟨b55, [vI t42, vI t43, vI t44, vI t45, vI t46, vI t47, vI t48, vI t49, vI t50, vI t51, .slice Q54a0 t52.length Q54c0, .slice (ad a60) y61.length (na60 / 4)], 12⟩, ⟨b41, [vI x18, vI x19, vI x20, vI x21, vI x22, vI x23, vI x24, vI x25, vI x26, vI x27, .slice na38 x28.length nc39], 11⟩, ⟨a12, csa12, na12⟩, ⟨b7, [vI i0_0, vI i0_1, vI i0_2, .slice a_i0_3 n_i0_3 c_i0_3, .slice a_i0_4 i0_4.length c_i0_4], 5⟩] : List Own) ++ (Q54F ++ (Fa12 ++ []))) ?_
        refine t_v (.ldn (vs := [vI x63, vI x64, .slice na76 x65.length nc77, .bool x66]) rfl rfl rfl (rd_n lR72 (sub_app (seg_in 5 (X := (Q54F ++ (Fa12 ++ []))) rfl seg_hd) sub_nil) (subl_sub lv73 (by kernel_rfl)))) (txF [Q54F, Fa12] 2 [7] 1 [] fun b79 => zTL [] ?_)
        refine t_end (w_ (w_as [(1, vI w1), (2, vP b7 0), (5, .slice (ad a12) y13.length (na12 / 12)), (7, vP b41 0), (8, vP b55 0), (10, vP b79 0), (12, .slice a_i0_4 i0_4.length c_i0_4), (13, vI (i0_4.length : Int)), (14, vI x11), (25, .slice Q54a0 t52.length Q54c0), (26, vI (t52.length : Int)), (27, vI x59)] (([⟨b79, [vI x63, vI x64, .slice na76 x65.length nc77, .bool x66], 4⟩, ⟨a60, encL E_i644 y61, na60⟩, ⟨b55, [vI t42, vI t43, vI t44, vI t45, vI t46, vI t47, vI t48, vI t49, vI t50, vI t51, .slice Q54a0 t52.length Q54c0, .slice (ad a60) y61.length (na60 / 4)], 12⟩, ⟨b41, [vI x18, vI x19, vI x20, vI x21, vI x22, vI x23, vI x24, vI x25, vI x26, vI x27, .slice na38 x28.length nc39], 11⟩, ⟨a12, csa12, na12⟩, ⟨b7, [vI i0_0, vI i0_1, vI i0_2, .slice a_i0_3 n_i0_3 c_i0_3, .slice a_i0_4 i0_4.length c_i0_4], 5⟩] : List Own) ++ (Q54F ++ (Fa12 ++ []))) ?_))
        obtain ⟨t80, h81, e57⟩ := bind_of e57
        obtain ⟨y83, hl84, e57⟩ := bind_of e57
        refine wk [(1, vI w1), (2, vP b7 0), (5, .slice (ad a12) y13.length (na12 / 12)), (7, vP b41 0), (8, vP b55 0), (10, vP b79 0), (12, .slice a_i0_4 i0_4.length c_i0_4), (13, vI (i0_4.length : Int)), (14, vI x11), (25, .slice Q54a0 t52.length Q54c0), (26, vI (t52.length : Int)), (27, vI x59)] (w_gameQ mixed (by kernel_rfl) fun all G hend hstep hqf => ?_)
        have hg_3ff : ∀ (g85 : Option Nat) (ng85 : Nat) (N82 : Option Nat) (nN82 : Nat), G [true, true, true, true, true, true, true, true, true, true] [(1, vI w1), (2, vP b7 0), (5, .slice (ad a12) y13.length (na12 / 12)), (7, vP b41 0), (8, vP b55 0), (12, .slice a_i0_4 i0_4.length c_i0_4), (13, vI (i0_4.length : Int)), (14, vI x11), (25, .slice Q54a0 t52.length Q54c0), (26, vI (t52.length : Int)), (27, vI x59)] (([⟨g85, encL E_i644 y83, ng85⟩, ⟨N82, encL E_i644 t80, nN82⟩, ⟨b79, [vI x63, vI x64, .slice na76 x65.length nc77, .bool x66], 4⟩, ⟨b55, [vI t42, vI t43, vI t44, vI t45, vI t46, vI t47, vI t48, vI t49, vI t50, vI t51, .slice Q54a0 t52.length Q54c0, .slice (ad g85) y83.length (ng85 / 4)], 12⟩, ⟨b41, [vI x18, vI x19, vI x20, vI x21, vI x22, vI x23, vI x24, vI x25, vI x26, vI x27, .slice na38 x28.length nc39], 11⟩, ⟨a12, csa12, na12⟩, ⟨b7, [vI i0_0, vI i0_1, vI i0_2, .slice a_i0_3 n_i0_3 c_i0_3, .slice a_i0_4 i0_4.length c_i0_4], 5⟩] : List Own) ++ (Q54F ++ (Fa12 ++ []))) := by
         intro g85 ng85 N82 nN82
         refine hend _ _ _ (by kernel_rfl) ?_
         refine w_ ?_
         refine wqF mixed [Q54F, Fa12] [] 0 .nrm [] (zQL [2] ?_)
         exact ⟨k_, Nat.lt_succ_self _, _, _, S, keep_sub [1, 2, 5, 7, 8, 12, 13, 14, 25, 26, 27] (by kernel_rfl), VS.lb [0, 1, 1, 1, 1, 1, 1] (by kernel_rfl), wr64 (x59 + 1), y83, g85, ng85, rfl, rfl, rfl, e57⟩
        have hg_1ff : ∀ (g85 : Option Nat) (ng85 : Nat) (N82 : Option Nat) (nN82 : Nat), G [true, true, true, true, true, true, true, true, true, false] [(1, vI w1), (2, vP b7 0), (5, .slice (ad a12) y13.length (na12 / 12)), (7, vP b41 0), (8, vP b55 0), (12, .slice a_i0_4 i0_4.length c_i0_4), (13, vI (i0_4.length : Int)), (14, vI x11), (25, .slice Q54a0 t52.length Q54c0), (26, vI (t52.length : Int)), (27, vI x59), (38, .slice (ad g85) y83.length (ng85 / 4)), (39, vP b55 11)] (([⟨g85, encL E_i644 y83, ng85⟩, ⟨N82, encL E_i644 t80, nN82⟩, ⟨b79, [vI x63, vI x64, .slice na76 x65.length nc77, .bool x66], 4⟩, ⟨b55, [vI t42, vI t43, vI t44, vI t45, vI t46, vI t47, vI t48, vI t49, vI t50, vI t51, .slice Q54a0 t52.length Q54c0, .slice (ad a60) y61.length (na60 / 4)], 12⟩, ⟨b41, [vI x18, vI x19, vI x20, vI x21, vI x22, vI x23, vI x24, vI x25, vI x26, vI x27, .slice na38 x28.length nc39], 11⟩, ⟨a12, csa12, na12⟩, ⟨b7, [vI i0_0, vI i0_1, vI i0_2, .slice a_i0_3 n_i0_3 c_i0_3, .slice a_i0_4 i0_4.length c_i0_4], 5⟩] : List Own) ++ (Q54F ++ (Fa12 ++ []))) := by
         intro g85 ng85 N82 nN82
         refine hstep [9] _ _ _ (by kernel_rfl) (List.cons_ne_nil _ _) ⟨?_, trivial⟩
         ·refine tT (t_sti 3 (cs := [vI t42, vI t43, vI t44, vI t45, vI t46, vI t47, vI t48, vI t49, vI t50, vI t51, .slice Q54a0 t52.length Q54c0, .slice (ad g85) y83.length (ng85 / 4)]) rfl rfl rfl rfl rfl rfl rfl rfl rfl ?_)
          exact tfx (hg_3ff g85 ng85 N82 nN82)
        have hg_7f : ∀ (N82 : Option Nat) (nN82 : Nat), G [true, true, true, true, true, true, true, false, false, false] [(1, vI w1), (2, vP b7 0), (5, .slice (ad a12) y13.length (na12 / 12)), (7, vP b41 0), (8, vP b55 0), (12, .slice a_i0_4 i0_4.length c_i0_4), (13, vI (i0_4.length : Int)), (14, vI x11), (25, .slice Q54a0 t52.length Q54c0), (26, vI (t52.length : Int)), (27, vI x59), (32, .slice (ad a60) y61.length (na60 / 4)), (37, .slice (ad N82) t80.length (nN82 / 4))] (([⟨N82, encL E_i644 t80, nN82⟩, ⟨b79, [vI x63, vI x64, .slice na76 x65.length nc77, .bool x66], 4⟩, ⟨a60, encL E_i644 y61, na60⟩, ⟨b55, [vI t42, vI t43, vI t44, vI t45, vI t46, vI t47, vI t48, vI t49, vI t50, vI t51, .slice Q54a0 t52.length Q54c0, .slice (ad a60) y61.length (na60 / 4)], 12⟩, ⟨b41, [vI x18, vI x19, vI x20, vI x21, vI x22, vI x23, vI x24, vI x25, vI x26, vI x27, .slice na38 x28.length nc39], 11⟩, ⟨a12, csa12, na12⟩, ⟨b7, [vI i0_0, vI i0_1, vI i0_2, .slice a_i0_3 n_i0_3 c_i0_3, .slice a_i0_4 i0_4.length c_i0_4], 5⟩] : List Own) ++ (Q54F ++ (Fa12 ++ []))) := by
         intro N82 nN82
         refine hstep [7] _ _ _ (by kernel_rfl) (List.cons_ne_nil _ _) ⟨?_, trivial⟩
         ·refine tT (t_pure (fun w_ h_ => apO (E := E_i644) (z := 4) h_ (j := 0) rfl rfl (by decide)) fun hy_ => ?_)
          refine t_appX (E := E_i644) (L := y61) (X := t80) (F := (([⟨N82, encL E_i644 t80, nN82⟩, ⟨b79, [vI x63, vI x64, .slice na76 x65.length nc77, .bool x66], 4⟩, ⟨b55, [vI t42, vI t43, vI t44, vI t45, vI t46, vI t47, vI t48, vI t49, vI t50, vI t51, .slice Q54a0 t52.length Q54c0, .slice (ad a60) y61.length (na60 / 4)], 12⟩, ⟨b41, [vI x18, vI x19, vI x20, vI x21, vI x22, vI x23, vI x24, vI x25, vI x26, vI x27, .slice na38 x28.length nc39], 11⟩, ⟨a12, csa12, na12⟩, ⟨b7, [vI i0_0, vI i0_1, vI i0_2, .slice a_i0_3 n_i0_3 c_i0_3, .slice a_i0_4 i0_4.length c_i0_4], 5⟩] : List Own) ++ (Q54F ++ (Fa12 ++ [])))) rfl rfl rfl rfl (sel_perm (is := [2]) (by kernel_rfl)) rfl hy_ rfl (by decide) (by decide) rfl hl84 fun g85 ng85 => ?_
          exact t_fin0 (hqf 8 [1, 2, 5, 7, 8, 12, 13, 14, 25, 26, 27, 38, 39] _ _ _ _ (by kernel_rfl) (by kernel_rfl) (hg_1ff g85 ng85 N82 nN82))
        have hg_3f : G [true, true, true, true, true, true, false, false, false, false] [(1, vI w1), (2, vP b7 0), (5, .slice (ad a12) y13.length (na12 / 12)), (7, vP b41 0), (8, vP b55 0), (12, .slice a_i0_4 i0_4.length c_i0_4), (13, vI (i0_4.length : Int)), (14, vI x11), (25, .slice Q54a0 t52.length Q54c0), (26, vI (t52.length : Int)), (27, vI x59), (32, .slice (ad a60) y61.length (na60 / 4)), (33, .agg #[vI x63, vI x64, .slice na76 x65.length nc77, .bool x66]), (36, .bool (x18 == 1))] (([⟨b79, [vI x63, vI x64, .slice na76 x65.length nc77, .bool x66], 4⟩, ⟨a60, encL E_i644 y61, na60⟩, ⟨b55, [vI t42, vI t43, vI t44, vI t45, vI t46, vI t47, vI t48, vI t49, vI t50, vI t51, .slice Q54a0 t52.length Q54c0, .slice (ad a60) y61.length (na60 / 4)], 12⟩, ⟨b41, [vI x18, vI x19, vI x20, vI x21, vI x22, vI x23, vI x24, vI x25, vI x26, vI x27, .slice na38 x28.length nc39], 11⟩, ⟨a12, csa12, na12⟩, ⟨b7, [vI i0_0, vI i0_1, vI i0_2, .slice a_i0_3 n_i0_3 c_i0_3, .slice a_i0_4 i0_4.length c_i0_4], 5⟩] : List Own) ++ (Q54F ++ (Fa12 ++ []))) := by
         refine hstep [6] _ _ _ (by kernel_rfl) (List.cons_ne_nil _ _) ⟨?_, trivial⟩
         ·refine tT (t_call (vs := [.agg #[vI x63, vI x64, .slice na76 x65.length nc77, .bool x66], .bool (x18 == 1)]) (H1 := ((Q54F ++ []) ++ [])) (F := (([⟨b79, [vI x63, vI x64, .slice na76 x65.length nc77, .bool x66], 4⟩, ⟨a60, encL E_i644 y61, na60⟩, ⟨b55, [vI t42, vI t43, vI t44, vI t45, vI t46, vI t47, vI t48, vI t49, vI t50, vI t51, .slice Q54a0 t52.length Q54c0, .slice (ad a60) y61.length (na60 / 4)], 12⟩, ⟨b41, [vI x18, vI x19, vI x20, vI x21, vI x22, vI x23, vI x24, vI x25, vI x26, vI x27, .slice na38 x28.length nc39], 11⟩, ⟨a12, csa12, na12⟩, ⟨b7, [vI i0_0, vI i0_1, vI i0_2, .slice a_i0_3 n_i0_3 c_i0_3, .slice a_i0_4 i0_4.length c_i0_4], 5⟩] : List Own) ++ (Fa12 ++ []))) rfl rfl (by kernel_rfl) (tree_perm (.a (.l ([⟨b79, [vI x63, vI x64, .slice na76 x65.length nc77, .bool x66], 4⟩, ⟨a60, encL E_i644 y61, na60⟩, ⟨b55, [vI t42, vI t43, vI t44, vI t45, vI t46, vI t47, vI t48, vI t49, vI t50, vI t51, .slice Q54a0 t52.length Q54c0, .slice (ad a60) y61.length (na60 / 4)], 12⟩, ⟨b41, [vI x18, vI x19, vI x20, vI x21, vI x22, vI x23, vI x24, vI x25, vI x26, vI x27, .slice na38 x28.length nc39], 11⟩, ⟨a12, csa12, na12⟩, ⟨b7, [vI i0_0, vI i0_1, vI i0_2, .slice a_i0_3 n_i0_3 c_i0_3, .slice a_i0_4 i0_4.length c_i0_4], 5⟩] : List Own)) (.a (.f Q54F) (.a (.f Fa12) (.l [])))) (.a (.a (.f Q54F) (.l [])) (.l ([] : List Own))) (.a (.l ([⟨b79, [vI x63, vI x64, .slice na76 x65.length nc77, .bool x66], 4⟩, ⟨a60, encL E_i644 y61, na60⟩, ⟨b55, [vI t42, vI t43, vI t44, vI t45, vI t46, vI t47, vI t48, vI t49, vI t50, vI t51, .slice Q54a0 t52.length Q54c0, .slice (ad a60) y61.length (na60 / 4)], 12⟩, ⟨b41, [vI x18, vI x19, vI x20, vI x21, vI x22, vI x23, vI x24, vI x25, vI x26, vI x27, .slice na38 x28.length nc39], 11⟩, ⟨a12, csa12, na12⟩, ⟨b7, [vI i0_0, vI i0_1, vI i0_2, .slice a_i0_3 n_i0_3 c_i0_3, .slice a_i0_4 i0_4.length c_i0_4], 5⟩] : List Own)) (.a (.f Fa12) (.l []))) [6] (by kernel_rfl)) (cal_lendF (Qc := fun v_ H_ => ∃ (N82 : Option Nat) (nN82 : Nat), v_ = (.slice (ad N82) t80.length (nN82 / 4)) ∧ H_ = ([⟨N82, encL E_i644 t80, nN82⟩] : List Own)) (Q54F ++ []) fun S1_ le1_ hp1_ hs1_ hn1_ ex1_ => (flatten_Path_v1.ok (EO.mono hE_ le1_ hp1_) (SlE.ofN (SlN.mono nh78 (rd_lend hs1_ le1_ (sub_app (seg_in 0 (X := (Q54F ++ [])) rfl seg_hd) sub_nil)))) h81).mono fun _ _ _ ⟨N82, nN82, h1_, h2_, h3_⟩ => ⟨⟨N82, nN82, h1_, h2_⟩, h3_⟩) ?_)
          rintro _ _ S_ ⟨⟨_, rfl, N82, nN82, rfl, rfl⟩, hS_⟩
          obtain rfl := hS_.symm
          refine t_vs (H' := (([⟨N82, encL E_i644 t80, nN82⟩, ⟨b79, [vI x63, vI x64, .slice na76 x65.length nc77, .bool x66], 4⟩, ⟨a60, encL E_i644 y61, na60⟩, ⟨b55, [vI t42, vI t43, vI t44, vI t45, vI t46, vI t47, vI t48, vI t49, vI t50, vI t51, .slice Q54a0 t52.length Q54c0, .slice (ad a60) y61.length (na60 / 4)], 12⟩, ⟨b41, [vI x18, vI x19, vI x20, vI x21, vI x22, vI x23, vI x24, vI x25, vI x26, vI x27, .slice na38 x28.length nc39], 11⟩, ⟨a12, csa12, na12⟩, ⟨b7, [vI i0_0, vI i0_1, vI i0_2, .slice a_i0_3 n_i0_3 c_i0_3, .slice a_i0_4 i0_4.length c_i0_4], 5⟩] : List Own) ++ (Q54F ++ (Fa12 ++ [])))) (S' := S) (VS.treeA (.a (.a (.a (.f Q54F) (.l [])) (.l ([⟨N82, encL E_i644 t80, nN82⟩] : List Own))) (.a (.l ([⟨b79, [vI x63, vI x64, .slice na76 x65.length nc77, .bool x66], 4⟩, ⟨a60, encL E_i644 y61, na60⟩, ⟨b55, [vI t42, vI t43, vI t44, vI t45, vI t46, vI t47, vI t48, vI t49, vI t50, vI t51, .slice Q54a0 t52.length Q54c0, .slice (ad a60) y61.length (na60 / 4)], 12⟩, ⟨b41, [vI x18, vI x19, vI x20, vI x21, vI x22, vI x23, vI x24, vI x25, vI x26, vI x27, .slice na38 x28.length nc39], 11⟩, ⟨a12, csa12, na12⟩, ⟨b7, [vI i0_0, vI i0_1, vI i0_2, .slice a_i0_3 n_i0_3 c_i0_3, .slice a_i0_4 i0_4.length c_i0_4], 5⟩] : List Own)) (.a (.f Fa12) (.l [])))) (.a (.l ([⟨N82, encL E_i644 t80, nN82⟩, ⟨b79, [vI x63, vI x64, .slice na76 x65.length nc77, .bool x66], 4⟩, ⟨a60, encL E_i644 y61, na60⟩, ⟨b55, [vI t42, vI t43, vI t44, vI t45, vI t46, vI t47, vI t48, vI t49, vI t50, vI t51, .slice Q54a0 t52.length Q54c0, .slice (ad a60) y61.length (na60 / 4)], 12⟩, ⟨b41, [vI x18, vI x19, vI x20, vI x21, vI x22, vI x23, vI x24, vI x25, vI x26, vI x27, .slice na38 x28.length nc39], 11⟩, ⟨a12, csa12, na12⟩, ⟨b7, [vI i0_0, vI i0_1, vI i0_2, .slice a_i0_3 n_i0_3 c_i0_3, .slice a_i0_4 i0_4.length c_i0_4], 5⟩] : List Own)) (.a (.f Q54F) (.a (.f Fa12) (.l [])))) [1, 1, 1, 1, 1, 1, 1, 0, 0] (by kernel_rfl)) ?_
          exact tfx (hg_7f N82 nN82)
        have hg_3b : G [true, true, false, true, true, true, false, false, false, false] [(1, vI w1), (2, vP b7 0), (5, .slice (ad a12) y13.length (na12 / 12)), (7, vP b41 0), (8, vP b55 0), (10, vP b79 0), (12, .slice a_i0_4 i0_4.length c_i0_4), (13, vI (i0_4.length : Int)), (14, vI x11), (25, .slice Q54a0 t52.length Q54c0), (26, vI (t52.length : Int)), (27, vI x59), (32, .slice (ad a60) y61.length (na60 / 4)), (36, .bool (x18 == 1))] (([⟨b79, [vI x63, vI x64, .slice na76 x65.length nc77, .bool x66], 4⟩, ⟨a60, encL E_i644 y61, na60⟩, ⟨b55, [vI t42, vI t43, vI t44, vI t45, vI t46, vI t47, vI t48, vI t49, vI t50, vI t51, .slice Q54a0 t52.length Q54c0, .slice (ad a60) y61.length (na60 / 4)], 12⟩, ⟨b41, [vI x18, vI x19, vI x20, vI x21, vI x22, vI x23, vI x24, vI x25, vI x26, vI x27, .slice na38 x28.length nc39], 11⟩, ⟨a12, csa12, na12⟩, ⟨b7, [vI i0_0, vI i0_1, vI i0_2, .slice a_i0_3 n_i0_3 c_i0_3, .slice a_i0_4 i0_4.length c_i0_4], 5⟩] : List Own) ++ (Q54F ++ (Fa12 ++ []))) := by
         refine hstep [2] _ _ _ (by kernel_rfl) (List.cons_ne_nil _ _) ⟨?_, trivial⟩
         ·refine tT (t_v (.ldn rfl rfl rfl (.at 0 rfl rfl)) ?_)
          exact tfx hg_3f
        have hg_3d : G [true, false, true, true, true, true, false, false, false, false] [(1, vI w1), (2, vP b7 0), (5, .slice (ad a12) y13.length (na12 / 12)), (7, vP b41 0), (8, vP b55 0), (12, .slice a_i0_4 i0_4.length c_i0_4), (13, vI (i0_4.length : Int)), (14, vI x11), (25, .slice Q54a0 t52.length Q54c0), (26, vI (t52.length : Int)), (27, vI x59), (31, vP b55 11), (33, .agg #[vI x63, vI x64, .slice na76 x65.length nc77, .bool x66]), (36, .bool (x18 == 1))] (([⟨b79, [vI x63, vI x64, .slice na76 x65.length nc77, .bool x66], 4⟩, ⟨a60, encL E_i644 y61, na60⟩, ⟨b55, [vI t42, vI t43, vI t44, vI t45, vI t46, vI t47, vI t48, vI t49, vI t50, vI t51, .slice Q54a0 t52.length Q54c0, .slice (ad a60) y61.length (na60 / 4)], 12⟩, ⟨b41, [vI x18, vI x19, vI x20, vI x21, vI x22, vI x23, vI x24, vI x25, vI x26, vI x27, .slice na38 x28.length nc39], 11⟩, ⟨a12, csa12, na12⟩, ⟨b7, [vI i0_0, vI i0_1, vI i0_2, .slice a_i0_3 n_i0_3 c_i0_3, .slice a_i0_4 i0_4.length c_i0_4], 5⟩] : List Own) ++ (Q54F ++ (Fa12 ++ []))) := by
         refine hstep [1, 6] _ _ _ (by kernel_rfl) (List.cons_ne_nil _ _) ⟨?_, ?_, trivial⟩
         ·refine tT (t_v (.ld1 rfl rfl rfl (.at 2 rfl rfl)) ?_)
          exact tfx hg_3f
         ·refine tT (t_call (vs := [.agg #[vI x63, vI x64, .slice na76 x65.length nc77, .bool x66], .bool (x18 == 1)]) (H1 := ((Q54F ++ []) ++ [])) (F := (([⟨b79, [vI x63, vI x64, .slice na76 x65.length nc77, .bool x66], 4⟩, ⟨a60, encL E_i644 y61, na60⟩, ⟨b55, [vI t42, vI t43, vI t44, vI t45, vI t46, vI t47, vI t48, vI t49, vI t50, vI t51, .slice Q54a0 t52.length Q54c0, .slice (ad a60) y61.length (na60 / 4)], 12⟩, ⟨b41, [vI x18, vI x19, vI x20, vI x21, vI x22, vI x23, vI x24, vI x25, vI x26, vI x27, .slice na38 x28.length nc39], 11⟩, ⟨a12, csa12, na12⟩, ⟨b7, [vI i0_0, vI i0_1, vI i0_2, .slice a_i0_3 n_i0_3 c_i0_3, .slice a_i0_4 i0_4.length c_i0_4], 5⟩] : List Own) ++ (Fa12 ++ []))) rfl rfl (by kernel_rfl) (tree_perm (.a (.l ([⟨b79, [vI x63, vI x64, .slice na76 x65.length nc77, .bool x66], 4⟩, ⟨a60, encL E_i644 y61, na60⟩, ⟨b55, [vI t42, vI t43, vI t44, vI t45, vI t46, vI t47, vI t48, vI t49, vI t50, vI t51, .slice Q54a0 t52.length Q54c0, .slice (ad a60) y61.length (na60 / 4)], 12⟩, ⟨b41, [vI x18, vI x19, vI x20, vI x21, vI x22, vI x23, vI x24, vI x25, vI x26, vI x27, .slice na38 x28.length nc39], 11⟩, ⟨a12, csa12, na12⟩, ⟨b7, [vI i0_0, vI i0_1, vI i0_2, .slice a_i0_3 n_i0_3 c_i0_3, .slice a_i0_4 i0_4.length c_i0_4], 5⟩] : List Own)) (.a (.f Q54F) (.a (.f Fa12) (.l [])))) (.a (.a (.f Q54F) (.l [])) (.l ([] : List Own))) (.a (.l ([⟨b79, [vI x63, vI x64, .slice na76 x65.length nc77, .bool x66], 4⟩, ⟨a60, encL E_i644 y61, na60⟩, ⟨b55, [vI t42, vI t43, vI t44, vI t45, vI t46, vI t47, vI t48, vI t49, vI t50, vI t51, .slice Q54a0 t52.length Q54c0, .slice (ad a60) y61.length (na60 / 4)], 12⟩, ⟨b41, [vI x18, vI x19, vI x20, vI x21, vI x22, vI x23, vI x24, vI x25, vI x26, vI x27, .slice na38 x28.length nc39], 11⟩, ⟨a12, csa12, na12⟩, ⟨b7, [vI i0_0, vI i0_1, vI i0_2, .slice a_i0_3 n_i0_3 c_i0_3, .slice a_i0_4 i0_4.length c_i0_4], 5⟩] : List Own)) (.a (.f Fa12) (.l []))) [6] (by kernel_rfl)) (cal_lendF (Qc := fun v_ H_ => ∃ (N82 : Option Nat) (nN82 : Nat), v_ = (.slice (ad N82) t80.length (nN82 / 4)) ∧ H_ = ([⟨N82, encL E_i644 t80, nN82⟩] : List Own)) (Q54F ++ []) fun S1_ le1_ hp1_ hs1_ hn1_ ex1_ => (flatten_Path_v1.ok (EO.mono hE_ le1_ hp1_) (SlE.ofN (SlN.mono nh78 (rd_lend hs1_ le1_ (sub_app (seg_in 0 (X := (Q54F ++ [])) rfl seg_hd) sub_nil)))) h81).mono fun _ _ _ ⟨N82, nN82, h1_, h2_, h3_⟩ => ⟨⟨N82, nN82, h1_, h2_⟩, h3_⟩) ?_)
          rintro _ _ S_ ⟨⟨_, rfl, N82, nN82, rfl, rfl⟩, hS_⟩
          obtain rfl := hS_.symm
          refine t_vs (H' := (([⟨N82, encL E_i644 t80, nN82⟩, ⟨b79, [vI x63, vI x64, .slice na76 x65.length nc77, .bool x66], 4⟩, ⟨a60, encL E_i644 y61, na60⟩, ⟨b55, [vI t42, vI t43, vI t44, vI t45, vI t46, vI t47, vI t48, vI t49, vI t50, vI t51, .slice Q54a0 t52.length Q54c0, .slice (ad a60) y61.length (na60 / 4)], 12⟩, ⟨b41, [vI x18, vI x19, vI x20, vI x21, vI x22, vI x23, vI x24, vI x25, vI x26, vI x27, .slice na38 x28.length nc39], 11⟩, ⟨a12, csa12, na12⟩, ⟨b7, [vI i0_0, vI i0_1, vI i0_2, .slice a_i0_3 n_i0_3 c_i0_3, .slice a_i0_4 i0_4.length c_i0_4], 5⟩] : List Own) ++ (Q54F ++ (Fa12 ++ [])))) (S' := S) (VS.treeA (.a (.a (.a (.f Q54F) (.l [])) (.l ([⟨N82, encL E_i644 t80, nN82⟩] : List Own))) (.a (.l ([⟨b79, [vI x63, vI x64, .slice na76 x65.length nc77, .bool x66], 4⟩, ⟨a60, encL E_i644 y61, na60⟩, ⟨b55, [vI t42, vI t43, vI t44, vI t45, vI t46, vI t47, vI t48, vI t49, vI t50, vI t51, .slice Q54a0 t52.length Q54c0, .slice (ad a60) y61.length (na60 / 4)], 12⟩, ⟨b41, [vI x18, vI x19, vI x20, vI x21, vI x22, vI x23, vI x24, vI x25, vI x26, vI x27, .slice na38 x28.length nc39], 11⟩, ⟨a12, csa12, na12⟩, ⟨b7, [vI i0_0, vI i0_1, vI i0_2, .slice a_i0_3 n_i0_3 c_i0_3, .slice a_i0_4 i0_4.length c_i0_4], 5⟩] : List Own)) (.a (.f Fa12) (.l [])))) (.a (.l ([⟨N82, encL E_i644 t80, nN82⟩, ⟨b79, [vI x63, vI x64, .slice na76 x65.length nc77, .bool x66], 4⟩, ⟨a60, encL E_i644 y61, na60⟩, ⟨b55, [vI t42, vI t43, vI t44, vI t45, vI t46, vI t47, vI t48, vI t49, vI t50, vI t51, .slice Q54a0 t52.length Q54c0, .slice (ad a60) y61.length (na60 / 4)], 12⟩, ⟨b41, [vI x18, vI x19, vI x20, vI x21, vI x22, vI x23, vI x24, vI x25, vI x26, vI x27, .slice na38 x28.length nc39], 11⟩, ⟨a12, csa12, na12⟩, ⟨b7, [vI i0_0, vI i0_1, vI i0_2, .slice a_i0_3 n_i0_3 c_i0_3, .slice a_i0_4 i0_4.length c_i0_4], 5⟩] : List Own)) (.a (.f Q54F) (.a (.f Fa12) (.l [])))) [1, 1, 1, 1, 1, 1, 1, 0, 0] (by kernel_rfl)) ?_
          refine tf [(1, vI w1), (2, vP b7 0), (5, .slice (ad a12) y13.length (na12 / 12)), (7, vP b41 0), (8, vP b55 0), (12, .slice a_i0_4 i0_4.length c_i0_4), (13, vI (i0_4.length : Int)), (14, vI x11), (25, .slice Q54a0 t52.length Q54c0), (26, vI (t52.length : Int)), (27, vI x59), (31, vP b55 11), (37, .slice (ad N82) t80.length (nN82 / 4))] ?_
          refine hstep [1] _ _ _ (by kernel_rfl) (List.cons_ne_nil _ _) ⟨?_, trivial⟩
          ·refine tT (t_v (.ld1 rfl rfl rfl (.at 3 rfl rfl)) ?_)
           exact tfx (hg_7f N82 nN82)
        have hg_f : G [true, true, true, true, false, false, false, false, false, false] [(1, vI w1), (2, vP b7 0), (5, .slice (ad a12) y13.length (na12 / 12)), (7, vP b41 0), (8, vP b55 0), (12, .slice a_i0_4 i0_4.length c_i0_4), (13, vI (i0_4.length : Int)), (14, vI x11), (25, .slice Q54a0 t52.length Q54c0), (26, vI (t52.length : Int)), (27, vI x59), (32, .slice (ad a60) y61.length (na60 / 4)), (33, .agg #[vI x63, vI x64, .slice na76 x65.length nc77, .bool x66]), (34, vP b41 0)] (([⟨b79, [vI x63, vI x64, .slice na76 x65.length nc77, .bool x66], 4⟩, ⟨a60, encL E_i644 y61, na60⟩, ⟨b55, [vI t42, vI t43, vI t44, vI t45, vI t46, vI t47, vI t48, vI t49, vI t50, vI t51, .slice Q54a0 t52.length Q54c0, .slice (ad a60) y61.length (na60 / 4)], 12⟩, ⟨b41, [vI x18, vI x19, vI x20, vI x21, vI x22, vI x23, vI x24, vI x25, vI x26, vI x27, .slice na38 x28.length nc39], 11⟩, ⟨a12, csa12, na12⟩, ⟨b7, [vI i0_0, vI i0_1, vI i0_2, .slice a_i0_3 n_i0_3 c_i0_3, .slice a_i0_4 i0_4.length c_i0_4], 5⟩] : List Own) ++ (Q54F ++ (Fa12 ++ []))) := by
         refine hstep [4] _ _ _ (by kernel_rfl) (List.cons_ne_nil _ _) ⟨?_, trivial⟩
         ·refine tT (t_v (.ld1 rfl rfl rfl (.at 3 rfl rfl)) ?_)
          exact t_fin0 (hqf 5 [1, 2, 5, 7, 8, 12, 13, 14, 25, 26, 27, 32, 33, 36] _ _ _ _ (by kernel_rfl) (by kernel_rfl) hg_3f)
        have hg_39 : G [true, false, false, true, true, true, false, false, false, false] [(1, vI w1), (2, vP b7 0), (5, .slice (ad a12) y13.length (na12 / 12)), (7, vP b41 0), (8, vP b55 0), (10, vP b79 0), (12, .slice a_i0_4 i0_4.length c_i0_4), (13, vI (i0_4.length : Int)), (14, vI x11), (25, .slice Q54a0 t52.length Q54c0), (26, vI (t52.length : Int)), (27, vI x59), (31, vP b55 11), (36, .bool (x18 == 1))] (([⟨b79, [vI x63, vI x64, .slice na76 x65.length nc77, .bool x66], 4⟩, ⟨a60, encL E_i644 y61, na60⟩, ⟨b55, [vI t42, vI t43, vI t44, vI t45, vI t46, vI t47, vI t48, vI t49, vI t50, vI t51, .slice Q54a0 t52.length Q54c0, .slice (ad a60) y61.length (na60 / 4)], 12⟩, ⟨b41, [vI x18, vI x19, vI x20, vI x21, vI x22, vI x23, vI x24, vI x25, vI x26, vI x27, .slice na38 x28.length nc39], 11⟩, ⟨a12, csa12, na12⟩, ⟨b7, [vI i0_0, vI i0_1, vI i0_2, .slice a_i0_3 n_i0_3 c_i0_3, .slice a_i0_4 i0_4.length c_i0_4], 5⟩] : List Own) ++ (Q54F ++ (Fa12 ++ []))) := by
         refine hstep [1, 2] _ _ _ (by kernel_rfl) (List.cons_ne_nil _ _) ⟨?_, ?_, trivial⟩
         ·refine tT (t_v (.ld1 rfl rfl rfl (.at 2 rfl rfl)) ?_)
          exact tfx hg_3b
         ·refine tT (t_v (.ldn rfl rfl rfl (.at 0 rfl rfl)) ?_)
          exact tfx hg_3d
        have hg_9 : G [true, false, false, true, false, false, false, false, false, false] [(1, vI w1), (2, vP b7 0), (5, .slice (ad a12) y13.length (na12 / 12)), (7, vP b41 0), (8, vP b55 0), (10, vP b79 0), (12, .slice a_i0_4 i0_4.length c_i0_4), (13, vI (i0_4.length : Int)), (14, vI x11), (25, .slice Q54a0 t52.length Q54c0), (26, vI (t52.length : Int)), (27, vI x59), (31, vP b55 11), (34, vP b41 0)] (([⟨b79, [vI x63, vI x64, .slice na76 x65.length nc77, .bool x66], 4⟩, ⟨a60, encL E_i644 y61, na60⟩, ⟨b55, [vI t42, vI t43, vI t44, vI t45, vI t46, vI t47, vI t48, vI t49, vI t50, vI t51, .slice Q54a0 t52.length Q54c0, .slice (ad a60) y61.length (na60 / 4)], 12⟩, ⟨b41, [vI x18, vI x19, vI x20, vI x21, vI x22, vI x23, vI x24, vI x25, vI x26, vI x27, .slice na38 x28.length nc39], 11⟩, ⟨a12, csa12, na12⟩, ⟨b7, [vI i0_0, vI i0_1, vI i0_2, .slice a_i0_3 n_i0_3 c_i0_3, .slice a_i0_4 i0_4.length c_i0_4], 5⟩] : List Own) ++ (Q54F ++ (Fa12 ++ []))) := by
         refine hstep [1, 2, 4] _ _ _ (by kernel_rfl) (List.cons_ne_nil _ _) ⟨?_, ?_, ?_, trivial⟩
         ·refine tT (t_v (.ld1 rfl rfl rfl (.at 2 rfl rfl)) (tf [(1, vI w1), (2, vP b7 0), (5, .slice (ad a12) y13.length (na12 / 12)), (7, vP b41 0), (8, vP b55 0), (10, vP b79 0), (12, .slice a_i0_4 i0_4.length c_i0_4), (13, vI (i0_4.length : Int)), (14, vI x11), (25, .slice Q54a0 t52.length Q54c0), (26, vI (t52.length : Int)), (27, vI x59), (32, .slice (ad a60) y61.length (na60 / 4)), (34, vP b41 0)] ?_))
          refine hstep [2, 4] _ _ _ (by kernel_rfl) (List.cons_ne_nil _ _) ⟨?_, ?_, trivial⟩
          ·refine tT (t_v (.ldn rfl rfl rfl (.at 0 rfl rfl)) ?_)
           exact tfx hg_f
          ·refine tT (t_v (.ld1 rfl rfl rfl (.at 3 rfl rfl)) ?_)
           exact t_fin0 (hqf 5 [1, 2, 5, 7, 8, 10, 12, 13, 14, 25, 26, 27, 32, 36] _ _ _ _ (by kernel_rfl) (by kernel_rfl) hg_3b)
         ·refine tT (t_v (.ldn rfl rfl rfl (.at 0 rfl rfl)) (tf [(1, vI w1), (2, vP b7 0), (5, .slice (ad a12) y13.length (na12 / 12)), (7, vP b41 0), (8, vP b55 0), (12, .slice a_i0_4 i0_4.length c_i0_4), (13, vI (i0_4.length : Int)), (14, vI x11), (25, .slice Q54a0 t52.length Q54c0), (26, vI (t52.length : Int)), (27, vI x59), (31, vP b55 11), (33, .agg #[vI x63, vI x64, .slice na76 x65.length nc77, .bool x66]), (34, vP b41 0)] ?_))
          refine hstep [1, 4] _ _ _ (by kernel_rfl) (List.cons_ne_nil _ _) ⟨?_, ?_, trivial⟩
          ·refine tT (t_v (.ld1 rfl rfl rfl (.at 2 rfl rfl)) ?_)
           exact tfx hg_f
          ·refine tT (t_v (.ld1 rfl rfl rfl (.at 3 rfl rfl)) ?_)
           exact t_fin0 (hqf 5 [1, 2, 5, 7, 8, 12, 13, 14, 25, 26, 27, 31, 33, 36] _ _ _ _ (by kernel_rfl) (by kernel_rfl) hg_3d)
         ·refine tT (t_v (.ld1 rfl rfl rfl (.at 3 rfl rfl)) ?_)
          exact t_fin0 (hqf 5 [1, 2, 5, 7, 8, 10, 12, 13, 14, 25, 26, 27, 31, 36] _ _ _ _ (by kernel_rfl) (by kernel_rfl) hg_39)
        have hg_0 : G [false, false, false, false, false, false, false, false, false, false] [(1, vI w1), (2, vP b7 0), (5, .slice (ad a12) y13.length (na12 / 12)), (7, vP b41 0), (8, vP b55 0), (10, vP b79 0), (12, .slice a_i0_4 i0_4.length c_i0_4), (13, vI (i0_4.length : Int)), (14, vI x11), (25, .slice Q54a0 t52.length Q54c0), (26, vI (t52.length : Int)), (27, vI x59)] (([⟨b79, [vI x63, vI x64, .slice na76 x65.length nc77, .bool x66], 4⟩, ⟨a60, encL E_i644 y61, na60⟩, ⟨b55, [vI t42, vI t43, vI t44, vI t45, vI t46, vI t47, vI t48, vI t49, vI t50, vI t51, .slice Q54a0 t52.length Q54c0, .slice (ad a60) y61.length (na60 / 4)], 12⟩, ⟨b41, [vI x18, vI x19, vI x20, vI x21, vI x22, vI x23, vI x24, vI x25, vI x26, vI x27, .slice na38 x28.length nc39], 11⟩, ⟨a12, csa12, na12⟩, ⟨b7, [vI i0_0, vI i0_1, vI i0_2, .slice a_i0_3 n_i0_3 c_i0_3, .slice a_i0_4 i0_4.length c_i0_4], 5⟩] : List Own) ++ (Q54F ++ (Fa12 ++ []))) := by
         exact hqf 0 [1, 2, 5, 7, 8, 10, 12, 13, 14, 25, 26, 27, 31] _ _ _ _ (by kernel_rfl) (by kernel_rfl) (hqf 3 [1, 2, 5, 7, 8, 10, 12, 13, 14, 25, 26, 27, 31, 34] _ [(1, vI w1), (2, vP b7 0), (5, .slice (ad a12) y13.length (na12 / 12)), (7, vP b41 0), (8, vP b55 0), (10, vP b79 0), (12, .slice a_i0_4 i0_4.length c_i0_4), (13, vI (i0_4.length : Int)), (14, vI x11), (25, .slice Q54a0 t52.length Q54c0), (26, vI (t52.length : Int)), (27, vI x59), (31, vP b55 11)] _ _ (by kernel_rfl) (by kernel_rfl) hg_9)
        exact hg_0
       ·rw [if_neg c62] at e57
        have c62b : (decide (x59 < (t52.length : Int))) = false := decide_eq_false c62
        refine wqF mixed [Q54F, Fa12] [] 0 (.ex 2) [(0, spQ (.bin .lss 27 26) [vI x59, vI (t52.length : Int)] (congrArg (fun t => some (Value.bool t)) c62b))] (zQL [] ?_)
        obtain rfl := Option.some.inj e57
        exact ⟨_, S, VS.lb [1, 1, 2, 1, 0, 0, 0] (by kernel_rfl), a60, na60, by kernel_rfl, rfl, rfl⟩
     ·rintro σ_ H_ S_ ⟨a88, na88, rfl, rfl, rfl⟩
      refine w_reg fun all => t_someB 4 (a := a88) (cs := encL E_i644 y89) (M := na88) (by kernel_rfl) fun hba88_ => ?_
      refine txF [Q54F, Fa12] 3 [0] 1 [] fun b90 => zTL [0, 1] ?_
      refine t_someB 3 (a := a88) (cs := encL E_i644 y89) (M := na88) (by kernel_rfl) fun hba88_ => ?_
      obtain ⟨y91, hl92, e16⟩ := bind_of e16
      refine txM 2 [2, 0] 0 [(0, spN 89 12 128 [(vI 0), (vI 0), (vI 0), (vI 0), (vI 0), (vI 0), (vI 0), (vI 0), (vI 0), (vI 0), (.slice none 0 0), (.slice none 0 0)] 41 43 (Rd_ := rdOf (([⟨a88, encL E_i644 y89, na88⟩] : List Own) ++ (Fa12 ++ (Q54F ++ []))) S) (E := N_2) (L := y13) (X := ([(t42, t43, t44, t45, t46, t47, t48, t49, t50, t51, t52, y89)] : List (Int × Int × Int × Int × Int × Int × Int × Int × Int × Int × List (Int × Int × List (Int × Int × Int × Int × Int × Int × Int) × Bool) × List (Int × Int × Int × Int)))) (cs := csa12) (ds := [vI t42, vI t43, vI t44, vI t45, vI t46, vI t47, vI t48, vI t49, vI t50, vI t51, .slice Q54a0 t52.length Q54c0, .slice (ad a88) y89.length (na88 / 4)]) a12 na12 b90 0 1 1 [[⟨b90, [vI t42, vI t43, vI t44, vI t45, vI t46, vI t47, vI t48, vI t49, vI t50, vI t51, .slice Q54a0 t52.length Q54c0, .slice (ad a88) y89.length (na88 / 4)], 12⟩]] (RL.mono hra12 (rd_sub (sub_app (seg_in 1 (X := (Fa12 ++ (Q54F ++ []))) rfl seg_hd) sub_nil))) (RL.one (E := N_2) ⟨Q54a0, Q54c0, _, _, rfl, SlN.mono Q54h0 (rd_sub (sub_app (seg_in 1 (X := (Fa12 ++ (Q54F ++ []))) rfl (seg_tl seg_hd)) sub_nil)), SlN.own (RL.flat (E := E_i644)) hba88_ (by decide) (fun _ hk_ => Or.inl ⟨_, mem_at 0 rfl, hk_, rfl⟩)⟩) (fun _ => .at 1 rfl (by kernel_rfl)) hl92)] fun a93 na93 csa93 => zTL [0] (fun hra93 => ?_)
      refine t_end ?_
      obtain rfl := Option.some.inj e16
      exact ⟨_, S, VS.as (([⟨a93, csa93, na93⟩, ⟨b7, [vI i0_0, vI i0_1, vI i0_2, .slice a_i0_3 n_i0_3 c_i0_3, .slice a_i0_4 i0_4.length c_i0_4], 5⟩, ⟨a88, encL E_i644 y89, na88⟩] : List Own) ++ (Q54F ++ (Fa12 ++ []))) (VS.treeA (.a (.l ([⟨a93, csa93, na93⟩, ⟨b7, [vI i0_0, vI i0_1, vI i0_2, .slice a_i0_3 n_i0_3 c_i0_3, .slice a_i0_4 i0_4.length c_i0_4], 5⟩, ⟨a88, encL E_i644 y89, na88⟩] : List Own)) (.a (.f Q54F) (.a (.f Fa12) (.l [])))) (.a (.l ([⟨b7, [vI i0_0, vI i0_1, vI i0_2, .slice a_i0_3 n_i0_3 c_i0_3, .slice a_i0_4 i0_4.length c_i0_4], 5⟩, ⟨a93, csa93, na93⟩] : List Own)) (.a (.a (.l ([⟨a88, encL E_i644 y89, na88⟩] : List Own)) (.a (.f Fa12) (.a (.f Q54F) (.l [])))) (.l []))) [1, 0, 0, 1, 0] (by kernel_rfl)), a93, na93, csa93, (([⟨a88, encL E_i644 y89, na88⟩] : List Own) ++ (Fa12 ++ (Q54F ++ []))), by kernel_rfl, rfl, rfl, RL.mono hra93 (rd_sub seg_hd)⟩
    ·rintro σ_ H_ S_ ⟨a94, na94, csa94, Fa94, rfl, rfl, rfl, hra94⟩
     refine wqF mixed [Fa94] [] 0 .nrm [] (zQL [] ?_)
     exact ⟨k_, Nat.lt_succ_self _, _, _, S, keep_sub [1, 2, 5, 12, 13, 14] (by kernel_rfl), VS.as (([⟨b7, [vI i0_0, vI i0_1, vI i0_2, .slice a_i0_3 n_i0_3 c_i0_3, .slice a_i0_4 i0_4.length c_i0_4], 5⟩, ⟨a94, csa94, na94⟩] : List Own) ++ (Fa94 ++ [])) (VS.treeA (.a (.l ([⟨b7, [vI i0_0, vI i0_1, vI i0_2, .slice a_i0_3 n_i0_3 c_i0_3, .slice a_i0_4 i0_4.length c_i0_4], 5⟩, ⟨a94, csa94, na94⟩] : List Own)) (.a (.f Fa94) (.l []))) (.a (.l ([⟨a94, csa94, na94⟩, ⟨b7, [vI i0_0, vI i0_1, vI i0_2, .slice a_i0_3 n_i0_3 c_i0_3, .slice a_i0_4 i0_4.length c_i0_4], 5⟩] : List Own)) (.a (.a (.f Fa94) (.l [])) (.l []))) [1, 0, 0] (by kernel_rfl)), wr64 (x11 + 1), y95, a94, na94, csa94, (Fa94 ++ []), rfl, rfl, rfl, e9, RL.mono hra94 (rd_sub seg_hd)⟩
   ·rw [if_neg c14] at e9
    have c14b : (decide (x11 < (i0_4.length : Int))) = false := decide_eq_false c14
    refine wqF mixed [Fa12] [] 0 (.ex 0) [(0, spQ (.bin .lss 14 13) [vI x11, vI (i0_4.length : Int)] (congrArg (fun t => some (Value.bool t)) c14b))] (zQL [] ?_)
    obtain rfl := Option.some.inj e9
    exact ⟨_, S, VS.as (([⟨a12, csa12, na12⟩, ⟨b7, [vI i0_0, vI i0_1, vI i0_2, .slice a_i0_3 n_i0_3 c_i0_3, .slice a_i0_4 i0_4.length c_i0_4], 5⟩] : List Own) ++ (Fa12 ++ [])) (VS.treeA (.a (.l ([⟨a12, csa12, na12⟩, ⟨b7, [vI i0_0, vI i0_1, vI i0_2, .slice a_i0_3 n_i0_3 c_i0_3, .slice a_i0_4 i0_4.length c_i0_4], 5⟩] : List Own)) (.a (.f Fa12) (.l []))) (.a (.l ([⟨b7, [vI i0_0, vI i0_1, vI i0_2, .slice a_i0_3 n_i0_3 c_i0_3, .slice a_i0_4 i0_4.length c_i0_4], 5⟩, ⟨a12, csa12, na12⟩] : List Own)) (.a (.a (.f Fa12) (.l [])) (.l []))) [1, 0, 0] (by kernel_rfl)), a12, na12, csa12, (Fa12 ++ []), by kernel_rfl, rfl, rfl, RL.mono hra12 (rd_sub seg_hd)⟩
 ·rintro σ_ H_ S_ ⟨a98, na98, csa98, Fa98, rfl, rfl, rfl, hra98⟩
  refine wxF mixed [Fa98] 1 [] 0 [] (zWL [0] ?_)
  refine w_ (w_as [(4, .slice (ad a98) y99.length (na98 / 12))] (([⟨a98, csa98, na98⟩] : List Own) ++ (Fa98 ++ [])) ?_)
  refine w_someB 0 rfl fun hz0_ => ?_
  refine w_ret ?_
  obtain rfl := Option.some.inj e
  exact ⟨[_], _, S, ⟨rfl, trivial⟩, VS.treeA (.a (.l ([⟨a98, csa98, na98⟩] : List Own)) (.a (.f Fa98) (.l []))) (.a (.a (.l ([⟨a98, csa98, na98⟩] : List Own)) (.a (.f Fa98) (.l []))) (.l [])) [0, 0] (by kernel_rfl), (ad a98), (na98 / 12), (([⟨a98, csa98, na98⟩] : List Own) ++ (Fa98 ++ [])), rfl, rfl, rfl, SlN.mono (SlN.own (E := N_2) (RL.mono hra98 (rd_sub (sub_app (seg_in 1 (X := (Fa98 ++ [])) rfl seg_hd) sub_nil))) hz0_ (by decide) (fun _ hk_ => Or.inl ⟨_, mem_at 0 rfl, hk_, rfl⟩)) (rd_sub fun e_ he_ => seg_hd e_ ((sub_app (sub_cons (mem_at 0 rfl) sub_nil) (sub_app (seg_in 1 (X := (Fa98 ++ [])) rfl seg_hd) sub_nil)) e_ he_))⟩

/-- sweep.Sample -/
def c76 : C := (.seq (.reg [oq 6 (.new [(vI 0), (vI 0)])]) (.seq (.reg [oq 7 (.mv 0), oq 8 (.bin .mul 7 (.const (vI 256))), oq 9 (.mv 2), oq 10 (.bin .rem 9 (.const (vI 8))), oq 11 (.bin .mul (.const (vI 32)) 10), oq 12 (.bin .add 8 11), oq 13 (.bin .add 12 (.const (vI 16))), oq 14 (.mv 1), oq 15 (.bin .mul 14 (.const (vI 256))), oq 16 (.mv 2), oq 17 (.bin .quo 16 (.const (vI 8))), oq 18 (.bin .mul (.const (vI 32)) 17), oq 19 (.bin .add 15 18), oq 20 (.bin .add 19 (.const (vI 16))), oq 21 (.bld [(vI 0), (vI 0)] [(0, 1, 13), (1, 1, 20)]), ⟨none, .st 2 6 21, none⟩]) .ret))
def sweep_Sample.f (x0 : Int) (y1 : Int) (k2 : Int) : Option (Int × Int) := some (wr64 ((wr64 ((wr64 (x0 * 256)) + (wr64 (32 * (Int.tmod k2 8))))) + 16), wr64 ((wr64 ((wr64 (y1 * 256)) + (wr64 (32 * (wr64 (Int.tdiv k2 8)))))) + 16))
theorem sweep_Sample.ok {S : Seal} {x0 y1 k2 r0_ r1_ : Int}{A_ : Int → Addr} (hE_ : EO gsE S A_ 157) (e : sweep_Sample.f x0 y1 k2 = some (r0_, r1_)) :
    Cal Tryd.prog 76 [vI x0, vI y1, vI k2] [] S fun v H' S' => v = .agg #[vI r0_, vI r1_] ∧ H' = [] ∧ S' = S := by
 unfold sweep_Sample.f at e
 refine cal_of (c := c76) (N := 22) Tryd.func76 rfl rfl (by kernel_rfl) (rs := [.cn 2 6]) (by kernel_rfl) (Nat.le_of_ble_eq_true rfl) ?_
 unfold c76
 refine wx mixed 2 [0] 1 [] fun b63 => zWL [] ?_
 refine w_ (w_as [(6, vP b63 0)] ([⟨b63, [vI (wr64 ((wr64 ((wr64 (x0 * 256)) + (wr64 (32 * (Int.tmod k2 8))))) + 16)), vI (wr64 ((wr64 ((wr64 (y1 * 256)) + (wr64 (32 * (wr64 (Int.tdiv k2 8)))))) + 16))], 2⟩] : List Own) ?_)
 refine w_ret ?_
 simp only [Option.some.injEq, Prod.mk.injEq] at e
 obtain ⟨rfl, rfl⟩ := e
 exact ⟨[_], [], S, ⟨⟨_, _, _, rfl, .at 0 rfl rfl, rfl⟩, trivial⟩, VS.none, rfl, rfl, rfl⟩

/-- stroke.Box -/
def c84 : C := (.seq (.reg [oq 4 (.new [(vI 0), (vI 0)]), oq 5 (.new [(vI 0), (vI 0)]), oq 6 (.mv (.const (vB false)))]) (.seq (.seq (.reg [oq 14 (.mv 0), oq 15 (.lns 14), oq 16 (.bin .eql 15 (.const (vI 0)))]) (.cond 16 (.seq (.reg [oq 17 (.bld [(vI 0), (vI 0)] []), oq 18 (.bld [(vI 0), (vI 0)] []), ⟨none, .st 2 4 17, none⟩, ⟨none, .st 2 5 18, none⟩, oq 6 (.mv (.const (vB false)))]) .ret) .skip)) (.seq (.drw [oq 19 (.mv 0), oq 20 (.ixs 4 19 (.const (vI 0))), oq 21 (.pad 0 20), oq 22 (.ld (some 2) 21), oq 23 (.mv 0), oq 24 (.ixs 4 23 (.const (vI 0))), oq 25 (.pad 0 24), oq 26 (.ld (some 2) 25), oq 7 (.new [(vI 0), (vI 0)]), oq 8 (.new [(vI 0), (vI 0)]), ⟨none, .st 2 7 22, none⟩, ⟨none, .st 2 8 26, none⟩] [[], [0], [1], [2], [], [4], [5], [6], [], [], [8, 3, 0, 1, 2, 3, 8, 9], [9, 7, 10, 0, 1, 2, 3, 4, 5, 6, 7, 8, 9, 10]]) (.seq (.seq (.reg [oq 27 (.mv 0), oq 28 (.lns 27), oq 29 (.mv (.const (vI 0)))]) (.block 0 (.loop (.seq (.reg [oq 30 (.bin .lss 29 28)]) (.seq (.cond 30 .skip (.exit 0)) (.seq (.block 1 (.seq (.reg [oq 31 (.ixs 4 27 29), oq 32 (.ld (some 4) 31), oq 10 (.new [(vI 0), (vI 0), (vI 0), (vI 0)]), ⟨none, .st 4 10 32, none⟩]) (.seq (.reg [oq 33 (.pad 0 10), oq 34 (.ld (some 2) 33), oq 35 (.pad 2 10), oq 36 (.ld (some 2) 35), oq 37 (.bld [(vI 0), (vI 0), (vI 0), (vI 0)] [(0, 2, 34), (2, 2, 36)]), oq 38 (.mv (.const (vI 0)))]) (.block 2 (.loop (.seq (.reg [oq 39 (.bin .lss 38 (.const (vI 2)))]) (.seq (.cond 39 .skip (.exit 2)) (.seq (.block 3 (.seq (.reg [oq 40 (.ixv (some 2) 2 2 37 38), oq 12 (.new [(vI 0), (vI 0)]), ⟨none, .st 2 12 40, none⟩]) (.seq (.reg [oq 41 (.pad 0 7), oq 42 (.ld none 41), oq 43 (.pad 0 12), oq 44 (.ld none 43), oq 45 (.mm false [42, 44]), oq 46 (.pad 1 7), oq 47 (.ld none 46), oq 48 (.pad 1 12), oq 49 (.ld none 48), oq 50 (.mm false [47, 49]), oq 51 (.bld [(vI 0), (vI 0)] [(0, 1, 45), (1, 1, 50)]), ⟨none, .st 2 7 51, none⟩]) (.reg [oq 52 (.pad 0 8), oq 53 (.ld none 52), oq 54 (.pad 0 12), oq 55 (.ld none 54), oq 56 (.mm true [53, 55]), oq 57 (.pad 1 8), oq 58 (.ld none 57), oq 59 (.pad 1 12), oq 60 (.ld none 59), oq 61 (.mm true [58, 60]), oq 62 (.bld [(vI 0), (vI 0)] [(0, 1, 56), (1, 1, 61)]), ⟨none, .st 2 8 62, none⟩])))) (.reg [oq 63 (.bin .add 38 (.const (vI 1))), oq 38 (.mv 63)]))))))))) (.reg [oq 64 (.bin .add 29 (.const (vI 1))), oq 29 (.mv 64)]))))))) (.seq (.reg [oq 65 (.mv 1), oq 66 (.bin .add 65 (.const (vI 1))), oq 67 (.bin .quo 66 (.const (vI 2))), oq 13 (.mv 67)]) (.seq (.drw [oq 68 (.pad 0 7), oq 69 (.ld none 68), oq 70 (.mv 13), oq 71 (.bin .sub 69 70), oq 72 (.pad 1 7), oq 73 (.ld none 72), oq 74 (.mv 13), oq 75 (.bin .sub 73 74), oq 76 (.bld [(vI 0), (vI 0)] [(0, 1, 71), (1, 1, 75)]), oq 77 (.pad 0 8), oq 78 (.ld none 77), oq 79 (.mv 13), oq 80 (.bin .add 78 79), oq 81 (.pad 1 8), oq 82 (.ld none 81), oq 83 (.mv 13), oq 84 (.bin .add 82 83), oq 85 (.bld [(vI 0), (vI 0)] [(0, 1, 80), (1, 1, 84)]), ⟨none, .st 2 4 76, none⟩, ⟨none, .st 2 5 85, none⟩, oq 6 (.mv (.const (vB true)))] [[], [0], [], [1, 2], [], [4], [], [5, 6], [3, 7], [], [9], [], [10, 11], [], [13], [], [14, 15], [12, 16], [8, 0, 1, 2, 3, 4, 5, 6, 7, 8], [17, 18, 0, 1, 2, 3, 4, 5, 6, 7, 8, 9, 10, 11, 12, 13, 14, 15, 16, 17, 18], [19, 0, 1, 2, 3, 4, 5, 6, 7, 8, 9, 10, 11, 12, 13, 14, 15, 16, 17, 18, 19]]) .ret))))))
def stroke_Box_v1.f (w1 : Int) (m0_0 : Int) (m0_1 : Int) (m0_2 : Int) (m0_3 : Int) : Option (Int × Int × Int × Int × Bool) := some (wr64 ((mn (mn m0_0 m0_0) m0_2) - (wr64 (Int.tdiv (wr64 (w1 + 1)) 2))), wr64 ((mn (mn m0_1 m0_1) m0_3) - (wr64 (Int.tdiv (wr64 (w1 + 1)) 2))), wr64 ((mx (mx m0_0 m0_0) m0_2) + (wr64 (Int.tdiv (wr64 (w1 + 1)) 2))), wr64 ((mx (mx m0_1 m0_1) m0_3) + (wr64 (Int.tdiv (wr64 (w1 + 1)) 2))), true)
theorem stroke_Box_v1.ok {S : Seal} {B0 : Nat} {w1 m0_0 m0_1 m0_2 m0_3 r0_ r1_ r2_ r3_ : Int} {r4_ : Bool}{A_ : Int → Addr} (hE_ : EO gsE S A_ 157) (e : stroke_Box_v1.f w1 m0_0 m0_1 m0_2 m0_3 = some (r0_, r1_, r2_, r3_, r4_)) :
    Cal Tryd.prog 84 [.slice (some ⟨B0, 0, none⟩) 1 1, vI w1] ([⟨B0, [vI m0_0, vI m0_1, vI m0_2, vI m0_3], 4⟩] : List Own) S fun v H' S' => v = .tuple #[.agg #[vI r0_, vI r1_], .agg #[vI r2_, vI r3_], .bool r4_] ∧ H' = ([⟨B0, [vI m0_0, vI m0_1, vI m0_2, vI m0_3], 4⟩] : List Own) ∧ S' = S := by
 unfold stroke_Box_v1.f at e
 refine cal_of (c := c84) (N := 86) Tryd.func84 rfl rfl (by kernel_rfl) (rs := [.cn 2 4, .cn 2 5, .t 6]) (by kernel_rfl) (Nat.le_of_ble_eq_true rfl) ?_
 unfold c84
 refine wx mixed 6 [0, 0, 3, 4, 0, 5, 5, 5, 6, 3, 6, 3, 6, 3, 4, 6, 4, 6, 4, 7, 3, 7, 3, 7, 3, 4, 7, 4, 7, 4, 3, 3, 4, 4, 1, 2] 7 [] fun b89 b90 b91 b92 b93 b94 b95 => zWL [4, 3, 7, 6, 5] ?_
 refine w_ (w_as [(4, vP b89 0), (5, vP b90 0), (6, vB true)] ([⟨b90, [vI (wr64 ((mx (mx m0_0 m0_0) m0_2) + (wr64 (Int.tdiv (wr64 (w1 + 1)) 2)))), vI (wr64 ((mx (mx m0_1 m0_1) m0_3) + (wr64 (Int.tdiv (wr64 (w1 + 1)) 2))))], 2⟩, ⟨b89, [vI (wr64 ((mn (mn m0_0 m0_0) m0_2) - (wr64 (Int.tdiv (wr64 (w1 + 1)) 2)))), vI (wr64 ((mn (mn m0_1 m0_1) m0_3) - (wr64 (Int.tdiv (wr64 (w1 + 1)) 2))))], 2⟩, ⟨B0, [vI m0_0, vI m0_1, vI m0_2, vI m0_3], 4⟩] : List Own) ?_)
 refine w_ret ?_
 simp only [Option.some.injEq, Prod.mk.injEq] at e
 obtain ⟨rfl, rfl, rfl, rfl, rfl⟩ := e
 exact ⟨[_, _, _], _, S, ⟨⟨_, _, _, rfl, .at 1 rfl rfl, rfl⟩, ⟨_, _, _, rfl, .at 0 rfl rfl, rfl⟩, rfl, trivial⟩, VS.sel [2] (by kernel_rfl), rfl, rfl, rfl⟩

/-- sweep.crossing -/
def c75 : C := (.seq (.reg [oq 6 (.mv (.const (.slice none 0 0)))]) (.seq (.reg [oq 7 (.mv (.const (.slice none 0 0)))]) (.seq (.seq (.reg [oq 13 (.mv 0), oq 14 (.lns 13), oq 15 (.mv (.const (vI 0)))]) (.block 0 (.loop (.seq (.reg [oq 16 (.bin .lss 15 14)]) (.seq (.cond 16 .skip (.exit 0)) (.seq (.block 1 (.seq (.reg [oq 17 (.ixs 4 13 15), oq 18 (.ld (some 4) 17), oq 9 (.new [(vI 0), (vI 0), (vI 0), (vI 0)]), ⟨none, .st 4 9 18, none⟩]) (.seq (.reg [oq 20 (.ld (some 4) 9), oq 21 (.bsl [(vI 0), (vI 0), (vI 0), (vI 0)] 1 [(0, 4, 20)]), oq 22 (.mv 1), oq 23 (.call 84 [21, 22]), oq 19 (.mv 23), oq 24 (.xt 0 19), oq 25 (.xt 1 19), oq 26 (.xt 2 19), oq 10 (.new [(vI 0), (vI 0)]), oq 11 (.new [(vI 0), (vI 0)]), ⟨none, .st 2 10 24, none⟩, ⟨none, .st 2 11 25, none⟩, oq 12 (.mv 26)]) (.seq (.reg [oq 27 (.pad 1 10), oq 28 (.ld none 27), oq 29 (.mv 2), oq 30 (.bin .leq 28 29), oq 31 (.mv 30), ⟨(some 32), .mv 2, (some (31, true))⟩, ⟨(some 33), .pad 1 11, (some (31, true))⟩, ⟨(some 34), .ld none 33, (some (31, true))⟩, ⟨(some 35), .bin .leq 32 34, (some (31, true))⟩, oq 36 (.pk 31 35 (.const (vB false)))]) (.cond 36 (.reg [oq 37 (.mv 7), oq 38 (.ld (some 4) 9), oq 39 (.bsl [(vI 0), (vI 0), (vI 0), (vI 0)] 1 [(0, 4, 38)]), oq 40 (.app 105 4 32 [(vI 0), (vI 0), (vI 0), (vI 0)] 37 39), oq 7 (.mv 40)]) .skip))))) (.reg [oq 41 (.bin .add 15 (.const (vI 1))), oq 15 (.mv 41)]))))))) (.seq (.reg [oq 42 (.mv 7), oq 6 (.mv 42)]) .ret))))
def sweep_crossing_v1.l0 : Nat → List (Int × Int × Int × Int) → Int → Int → Int → List (Int × Int × Int × Int) → Option (List (Int × Int × Int × Int))
  | 0, _, _, _, _, _ => none
  | k + 1, l0, wide1, y2, x70, y72 => if x70 < (l0.length : Int) then ((lgt l0 x70).bind fun (x74, x75, x76, x77) => ((stroke_Box_v1.f wide1 x74 x75 x76 x77).bind fun (t89, t90, t91, t92, t93) => (if t90 ≤ y2 then (if y2 ≤ t92 then ((lapp y72 ([(x74, x75, x76, x77)] : List (Int × Int × Int × Int))).bind fun y100 => (sweep_crossing_v1.l0 k l0 wide1 y2 (wr64 (x70 + 1)) y100)) else (sweep_crossing_v1.l0 k l0 wide1 y2 (wr64 (x70 + 1)) y72)) else (sweep_crossing_v1.l0 k l0 wide1 y2 (wr64 (x70 + 1)) y72)))) else (some y72)
def sweep_crossing_v1.f (k : Nat) (l0 : List (Int × Int × Int × Int)) (wide1 : Int) (y2 : Int) : Option (List (Int × Int × Int × Int)) := (sweep_crossing_v1.l0 k l0 wide1 y2 0 ([] : List (Int × Int × Int × Int)) : Option (List (Int × Int × Int × Int))).bind fun y108 => (some y108)
theorem sweep_crossing_v1.ok {S : Seal} {k : Nat} {l0 : List (Int × Int × Int × Int)} {wide1 y2 : Int} {r0_ : List (Int × Int × Int × Int)}{A_ : Int → Addr} (hE_ : EO gsE S A_ 157) {a_l0 : Option Addr} {c_l0 : Nat} (h_l0 : SlE S E_i644 l0 a_l0) (e : sweep_crossing_v1.f k l0 wide1 y2 = some r0_) :
    Cal Tryd.prog 75 [.slice a_l0 l0.length c_l0, vI wide1, vI y2] [] S fun v H' S' => ∃ (N0_ : Option Nat) (nN0_ : Nat) , v = .slice (ad N0_) r0_.length (nN0_ / 4) ∧ H' = ([⟨N0_, encL E_i644 r0_, nN0_⟩] : List Own) ∧ S' = S := by
 unfold sweep_crossing_v1.f at e
 refine cal_of (c := c75) (N := 43) Tryd.func75 rfl rfl (by kernel_rfl) (rs := [.t 6]) (by kernel_rfl) (Nat.le_of_ble_eq_true rfl) ?_
 unfold c75
 refine wx mixed 2 [] 0 [] (zWL [] ?_)
 refine w_ ?_
 obtain ⟨y108, e68, e⟩ := bind_of e
 refine w_cut [7] (fun σ_ H_ S_ => ∃ (a107 : Option Nat) (na107 : Nat), [(7, .slice (ad a107) y108.length (na107 / 4))] = σ_ ∧ ([⟨a107, encL E_i644 y108, na107⟩] : List Own) = H_ ∧ S = S_) ?_ ?_
 ·refine w_ ?_
  refine wxM mixed 1 [] 0 [] (zWL [] ?_)
  refine w_ (w_block (w_vs VS.vac ?_))
  refine wk [(1, vI wide1), (2, vI y2), (7, .slice (ad none) ([] : List (Int × Int × Int × Int)).length (0 / 4)), (13, .slice a_l0 l0.length c_l0), (14, vI (l0.length : Int)), (15, vI 0)] (w_vs (H' := ([⟨none, encL E_i644 ([] : List (Int × Int × Int × Int)), 0⟩] : List Own)) (S' := S) (VS.as ([⟨none, encL E_i644 ([] : List (Int × Int × Int × Int)), 0⟩] : List Own) (VS.sel [0] (by kernel_rfl))) ?_)
  refine w_loop (fun n_ σ_ H_ S_ => ∃ (x70 : Int) (y72 : List (Int × Int × Int × Int)), ∃ (a71 : Option Nat) (na71 : Nat), [(1, vI wide1), (2, vI y2), (7, .slice (ad a71) y72.length (na71 / 4)), (13, .slice a_l0 l0.length c_l0), (14, vI (l0.length : Int)), (15, vI x70)] = σ_ ∧ ([⟨a71, encL E_i644 y72, na71⟩] : List Own) = H_ ∧ S = S_ ∧ sweep_crossing_v1.l0 n_ l0 wide1 y2 x70 y72 = some y108) _ ⟨0, ([] : List (Int × Int × Int × Int)), none, 0, rfl, rfl, rfl, e68⟩ ?_
  rintro n106 σ_ H_ S_ ⟨x70, y72, a71, na71, rfl, rfl, rfl, e68⟩
  cases n106 with
  | zero => rw [sweep_crossing_v1.l0.eq_1] at e68; cases e68
  | succ k_ =>
   rw [sweep_crossing_v1.l0.eq_2] at e68
   by_cases c73 : x70 < (l0.length : Int)
   ·rw [if_pos c73] at e68
    have c73b : (decide (x70 < (l0.length : Int))) = true := decide_eq_true c73
    refine wx mixed 2 [] 0 [(0, spQ (.bin .lss 15 14) [vI x70, vI (l0.length : Int)] (congrArg (fun t => some (Value.bool t)) c73b))] (zWL [] ?_)
    refine w_ (w_seq (w_block ?_))
    obtain ⟨⟨x74, x75, x76, x77⟩, hx78, e68⟩ := bind_of e68
    try dsimp only at e68
    obtain ⟨lb79, lo80, ll81, la82, lS83, lv84, lz85, lu86⟩ := sle_get (E := E_i644) h_l0 hx78
    refine wxM mixed 1 [1] 1 [(0, spQ (.ixs 4 13 15) [.slice a_l0 l0.length c_l0, vI x70] (ixs_sle rfl rfl la82 lz85 lu86)), (1, spLn 17 lb79 (lo80 + (x70).toNat * 4 + 0) 4 [] (vs := [vI x74, vI x75, vI x76, vI x77]) (fun _ => .sealed lS83 (subl_sub lv84 (by kernel_rfl))))] fun b87 => zWL [] ?_
    refine w_ (w_seq (w_reg fun all => txM 3 [0] 1 [] fun b88 => zTL [] ?_))
    obtain ⟨⟨t89, t90, t91, t92, t93⟩, h94, e68⟩ := bind_of e68
    try dsimp only at e68
    refine txM 10 [0, 3, 4] 2 [(0, spR 84 [21, 22] [[⟨b88, [vI x74, vI x75, vI x76, vI x77], 4⟩]] (vs := [.slice (some ⟨b88, 0, none⟩) 1 1, vI wide1]) (stroke_Box_v1.ok hE_ h94) rfl)] fun b95 b96 => zTL [0] ?_
    refine t_end (w_ ?_)
    by_cases c97 : t90 ≤ y2
    ·rw [if_pos c97] at e68
     have c97b : (decide (t90 ≤ y2)) = true := decide_eq_true c97
     by_cases c98 : y2 ≤ t92
     ·rw [if_pos c98] at e68
      have c98b : (decide (y2 ≤ t92)) = true := decide_eq_true c98
      refine wxM mixed 1 [1, 0] 0 [(3, spQ (.bin .leq 28 29) [vI t90, vI y2] (congrArg (fun t => some (Value.bool t)) c97b)), (8, spQ (.bin .leq 32 34) [vI y2, vI t92] (congrArg (fun t => some (Value.bool t)) c98b))] (zWL [0, 1] ?_)
      refine w_ (w_ct (w_ (w_reg fun all => txM 3 [0] 1 [] fun b99 => zT [(1, vI wide1), (2, vI y2), (13, .slice a_l0 l0.length c_l0), (14, vI (l0.length : Int)), (15, vI x70), (37, .slice (ad a71) y72.length (na71 / 4)), (39, .slice (some ⟨b99, 0, none⟩) 1 1)] [0] [] ([⟨b99, [vI x74, vI x75, vI x76, vI x77], 4⟩, ⟨a71, encL E_i644 y72, na71⟩] : List Own) ?_)))
      obtain ⟨y100, hl101, e68⟩ := bind_of e68
      refine tx 2 [1, 0] 0 [(0, spX 105 4 32 [(vI 0), (vI 0), (vI 0), (vI 0)] 37 39 (E := E_i644) (L := y72) (X := ([(x74, x75, x76, x77)] : List (Int × Int × Int × Int))) a71 na71 (some ⟨b99, 0, none⟩) 1 1 [[⟨b99, [vI x74, vI x75, vI x76, vI x77], 4⟩]] (fun _ => Or.inr ⟨_, _, rfl, .at 1 rfl (by kernel_rfl)⟩) hl101)] fun a102 na102 => zTL [0] ?_
      refine t_end (w_ ?_)
      refine wqM mixed [] 0 .nrm [] (zQL [] ?_)
      exact ⟨k_, Nat.lt_succ_self _, _, _, S, keep_sub [1, 2, 7, 13, 14, 15] (by kernel_rfl), VS.lb [0] (by kernel_rfl), wr64 (x70 + 1), y100, a102, na102, rfl, rfl, rfl, e68⟩
     ·rw [if_neg c98] at e68
      have c98b : (decide (y2 ≤ t92)) = false := decide_eq_false c98
      refine wqM mixed [1, 0] 0 .nrm [(3, spQ (.bin .leq 28 29) [vI t90, vI y2] (congrArg (fun t => some (Value.bool t)) c97b)), (8, spQ (.bin .leq 32 34) [vI y2, vI t92] (congrArg (fun t => some (Value.bool t)) c98b))] (zQL [0, 1, 2] ?_)
      refine w_ ?_
      refine wqM mixed [] 0 .nrm [] (zQ1 [(1, vI wide1), (2, vI y2), (7, .slice (ad a71) y72.length (na71 / 4)), (13, .slice a_l0 l0.length c_l0), (14, vI (l0.length : Int)), (15, vI (wr64 (x70 + 1)))] ([⟨a71, encL E_i644 y72, na71⟩] : List Own) ?_)
      exact ⟨k_, Nat.lt_succ_self _, _, _, S, keep_sub [1, 2, 7, 13, 14, 15] (by kernel_rfl), VS.sel [0] (by kernel_rfl), wr64 (x70 + 1), y72, a71, na71, rfl, rfl, rfl, e68⟩
    ·rw [if_neg c97] at e68
     have c97b : (decide (t90 ≤ y2)) = false := decide_eq_false c97
     refine wqM mixed [1, 0] 0 .nrm [(3, spQ (.bin .leq 28 29) [vI t90, vI y2] (congrArg (fun t => some (Value.bool t)) c97b))] (zQL [0, 1, 2] ?_)
     refine w_ ?_
     refine wqM mixed [] 0 .nrm [] (zQ1 [(1, vI wide1), (2, vI y2), (7, .slice (ad a71) y72.length (na71 / 4)), (13, .slice a_l0 l0.length c_l0), (14, vI (l0.length : Int)), (15, vI (wr64 (x70 + 1)))] ([⟨a71, encL E_i644 y72, na71⟩] : List Own) ?_)
     exact ⟨k_, Nat.lt_succ_self _, _, _, S, keep_sub [1, 2, 7, 13, 14, 15] (by kernel_rfl), VS.sel [0] (by kernel_rfl), wr64 (x70 + 1), y72, a71, na71, rfl, rfl, rfl, e68⟩
   ·rw [if_neg c73] at e68
    have c73b : (decide (x70 < (l0.length : Int))) = false := decide_eq_false c73
    refine wq mixed [] 0 (.ex 0) [(0, spQ (.bin .lss 15 14) [vI x70, vI (l0.length : Int)] (congrArg (fun t => some (Value.bool t)) c73b))] (zQL [] ?_)
    obtain rfl := Option.some.inj e68
    exact ⟨_, S, VS.lb [0] (by kernel_rfl), a71, na71, by kernel_rfl, rfl, rfl⟩
 ·rintro σ_ H_ S_ ⟨a107, na107, rfl, rfl, rfl⟩
  refine wx mixed 1 [] 0 [] (zWL [] ?_)
  refine w_ (w_ret ?_)
  obtain rfl := Option.some.inj e
  exact ⟨[_], _, S, ⟨(show gt _ _ = some _ from (by kernel_rfl)), trivial⟩, VS.lb [0] (by kernel_rfl), a107, na107, rfl, rfl, rfl⟩

/-- plane.Sub -/
def c89 : C := (.seq (.reg [oq 2 (.box 0), oq 3 (.box 1), oq 4 (.new [(vI 0), (vI 0)])]) (.seq (.reg [oq 5 (.pad 0 2), oq 6 (.ld none 5), oq 7 (.pad 0 3), oq 8 (.ld none 7), oq 9 (.bin .sub 6 8), oq 10 (.pad 1 2), oq 11 (.ld none 10), oq 12 (.pad 1 3), oq 13 (.ld none 12), oq 14 (.bin .sub 11 13), oq 15 (.bld [(vI 0), (vI 0)] [(0, 1, 9), (1, 1, 14)]), ⟨none, .st 2 4 15, none⟩]) .ret))
def plane_Sub.f (a0_X : Int) (a0_Y : Int) (b1_X : Int) (b1_Y : Int) : Option (Int × Int) := some (wr64 (a0_X - b1_X), wr64 (a0_Y - b1_Y))
theorem plane_Sub.ok {S : Seal} {a0_X a0_Y b1_X b1_Y r0_ r1_ : Int}{A_ : Int → Addr} (hE_ : EO gsE S A_ 157) (e : plane_Sub.f a0_X a0_Y b1_X b1_Y = some (r0_, r1_)) :
    Cal Tryd.prog 89 [.agg #[vI a0_X, vI a0_Y], .agg #[vI b1_X, vI b1_Y]] [] S fun v H' S' => v = .agg #[vI r0_, vI r1_] ∧ H' = [] ∧ S' = S := by
 unfold plane_Sub.f at e
 refine cal_of (c := c89) (N := 16) Tryd.func89 rfl rfl (by kernel_rfl) (rs := [.cn 2 4]) (by kernel_rfl) (Nat.le_of_ble_eq_true rfl) ?_
 unfold c89
 refine wx mixed 2 [0, 1, 0, 1, 2] 3 [] fun b118 b119 b120 => zWL [1, 0] ?_
 refine w_ (w_as [(4, vP b120 0)] ([⟨b120, [vI (wr64 (a0_X - b1_X)), vI (wr64 (a0_Y - b1_Y))], 2⟩] : List Own) ?_)
 refine w_ret ?_
 simp only [Option.some.injEq, Prod.mk.injEq] at e
 obtain ⟨rfl, rfl⟩ := e
 exact ⟨[_], [], S, ⟨⟨_, _, _, rfl, .at 0 rfl rfl, rfl⟩, trivial⟩, VS.none, rfl, rfl, rfl⟩

/-- plane.Cross -/
def c88 : C := (.seq (.reg [oq 3 (.box 0), oq 4 (.box 1), oq 5 (.box 2), oq 6 (.mv (.const (vI 0)))]) (.seq (.drw [oq 9 (.ld (some 2) 4), oq 10 (.ld (some 2) 3), oq 11 (.call 89 [9, 10]), oq 12 (.ld (some 2) 5), oq 13 (.ld (some 2) 3), oq 14 (.call 89 [12, 13]), oq 7 (.new [(vI 0), (vI 0)]), oq 8 (.new [(vI 0), (vI 0)]), ⟨none, .st 2 7 11, none⟩, ⟨none, .st 2 8 14, none⟩] [[], [], [0, 1], [], [], [3, 4, 2], [], [], [6, 2, 5, 0, 1, 2, 6, 7], [7, 5, 8, 0, 1, 2, 3, 4, 5, 6, 7, 8]]) (.seq (.reg [oq 15 (.pad 0 7), oq 16 (.ld none 15), oq 17 (.pad 1 8), oq 18 (.ld none 17), oq 19 (.bin .mul 16 18), oq 20 (.pad 1 7), oq 21 (.ld none 20), oq 22 (.pad 0 8), oq 23 (.ld none 22), oq 24 (.bin .mul 21 23), oq 25 (.bin .sub 19 24), oq 6 (.mv 25)]) .ret)))
def plane_Cross.f (a0_X : Int) (a0_Y : Int) (b1_X : Int) (b1_Y : Int) (p2_X : Int) (p2_Y : Int) : Option (Int) := (plane_Sub.f b1_X b1_Y a0_X a0_Y).bind fun (t118, t119) => ((plane_Sub.f p2_X p2_Y a0_X a0_Y).bind fun (t121, t122) => (some (wr64 ((wr64 (t118 * t122)) - (wr64 (t119 * t121))))))
theorem plane_Cross.ok {S : Seal} {a0_X a0_Y b1_X b1_Y p2_X p2_Y r0_ : Int}{A_ : Int → Addr} (hE_ : EO gsE S A_ 157) (e : plane_Cross.f a0_X a0_Y b1_X b1_Y p2_X p2_Y = some r0_) :
    Cal Tryd.prog 88 [.agg #[vI a0_X, vI a0_Y], .agg #[vI b1_X, vI b1_Y], .agg #[vI p2_X, vI p2_Y]] [] S fun v H' S' => v = vI r0_ ∧ H' = [] ∧ S' = S := by
 unfold plane_Cross.f at e
 refine cal_of (c := c88) (N := 26) Tryd.func88 rfl rfl (by kernel_rfl) (rs := [.t 6]) (by kernel_rfl) (Nat.le_of_ble_eq_true rfl) ?_
 unfold c88
 obtain ⟨⟨t118, t119⟩, h120, e⟩ := bind_of e
 try dsimp only at e
 obtain ⟨⟨t121, t122⟩, h123, e⟩ := bind_of e
 try dsimp only at e
 refine wx mixed 3 [1, 0, 2, 0, 3, 4, 3, 4, 3, 4] 5 [(6, spP 89 [9, 10] (plane_Sub.ok hE_ h120)), (9, spP 89 [12, 13] (plane_Sub.ok hE_ h123))] fun b115 b116 b117 b124 b125 => zWL [4, 3, 2, 1, 0] ?_
 refine w_ (w_ret ?_)
 obtain rfl := Option.some.inj e
 exact ⟨[_], [], S, ⟨(show gt _ _ = some _ from (by kernel_rfl)), trivial⟩, VS.none, rfl, rfl, rfl⟩

/-- wind.One -/
def c85 : C := (.seq (.reg [oq 2 (.box 0), oq 3 (.box 1), oq 4 (.mv (.const (vI 0)))]) (.seq (.block 0 (.seq (.reg [oq 6 (.pad 0 2), oq 7 (.pad 1 6), oq 8 (.ld none 7), oq 9 (.pad 1 3), oq 10 (.ld none 9), oq 11 (.bin .leq 8 10), oq 12 (.mv 11), ⟨(some 13), .pad 2 2, (some (12, true))⟩, ⟨(some 14), .pad 1 13, (some (12, true))⟩, ⟨(some 15), .ld none 14, (some (12, true))⟩, ⟨(some 16), .pad 1 3, (some (12, true))⟩, ⟨(some 17), .ld none 16, (some (12, true))⟩, ⟨(some 18), .bin .gtr 15 17, (some (12, true))⟩, oq 19 (.pk 12 18 (.const (vB false))), oq 20 (.mv 19), ⟨(some 21), .pad 0 2, (some (20, true))⟩, ⟨(some 22), .ld (some 2) 21, (some (20, true))⟩, ⟨(some 23), .pad 2 2, (some (20, true))⟩, ⟨(some 24), .ld (some 2) 23, (some (20, true))⟩, ⟨(some 25), .ld (some 2) 3, (some (20, true))⟩, ⟨(some 26), .call 88 [22, 24, 25], (some (20, true))⟩, ⟨(some 27), .bin .gtr 26 (.const (vI 0)), (some (20, true))⟩, oq 28 (.pk 20 27 (.const (vB false))), oq 5 (.mv 28)]) (.cond 5 (.seq (.reg [oq 4 (.mv (.const (vI 1)))]) .ret) (.seq (.reg [oq 30 (.pad 2 2), oq 31 (.pad 1 30), oq 32 (.ld none 31), oq 33 (.pad 1 3), oq 34 (.ld none 33), oq 35 (.bin .leq 32 34), oq 36 (.mv 35), ⟨(some 37), .pad 0 2, (some (36, true))⟩, ⟨(some 38), .pad 1 37, (some (36, true))⟩, ⟨(some 39), .ld none 38, (some (36, true))⟩, ⟨(some 40), .pad 1 3, (some (36, true))⟩, ⟨(some 41), .ld none 40, (some (36, true))⟩, ⟨(some 42), .bin .gtr 39 41, (some (36, true))⟩, oq 43 (.pk 36 42 (.const (vB false))), oq 44 (.mv 43), ⟨(some 45), .pad 0 2, (some (44, true))⟩, ⟨(some 46), .ld (some 2) 45, (some (44, true))⟩, ⟨(some 47), .pad 2 2, (some (44, true))⟩, ⟨(some 48), .ld (some 2) 47, (some (44, true))⟩, ⟨(some 49), .ld (some 2) 3, (some (44, true))⟩, ⟨(some 50), .call 88 [46, 48, 49], (some (44, true))⟩, ⟨(some 51), .bin .lss 50 (.const (vI 0)), (some (44, true))⟩, oq 52 (.pk 44 51 (.const (vB false))), oq 29 (.mv 52)]) (.cond 29 (.seq (.reg [oq 4 (.mv (.const (vI (-1))))]) .ret) .skip))))) (.seq (.reg [oq 4 (.mv (.const (vI 0)))]) .ret)))
def wind_One.f (e0_A_X : Int) (e0_A_Y : Int) (e0_B_X : Int) (e0_B_Y : Int) (p1_X : Int) (p1_Y : Int) : Option (Int) := (if e0_A_Y ≤ p1_Y then (if e0_B_Y > p1_Y then ((plane_Cross.f e0_A_X e0_A_Y e0_B_X e0_B_Y p1_X p1_Y).bind fun t118 => (if t118 > 0 then (some true) else (some false))) else (some false)) else (some false) : Option (Bool)).bind fun x121 => (if x121 = true then (some 1) else (if e0_B_Y ≤ p1_Y then (if e0_A_Y > p1_Y then ((plane_Cross.f e0_A_X e0_A_Y e0_B_X e0_B_Y p1_X p1_Y).bind fun t125 => (if t125 < 0 then (some (-1)) else (some 0))) else (some 0)) else (some 0)))
theorem wind_One.ok {S : Seal} {e0_A_X e0_A_Y e0_B_X e0_B_Y p1_X p1_Y r0_ : Int}{A_ : Int → Addr} (hE_ : EO gsE S A_ 157) (e : wind_One.f e0_A_X e0_A_Y e0_B_X e0_B_Y p1_X p1_Y = some r0_) :
    Cal Tryd.prog 85 [.agg #[vI e0_A_X, vI e0_A_Y, vI e0_B_X, vI e0_B_Y], .agg #[vI p1_X, vI p1_Y]] [] S fun v H' S' => v = vI r0_ ∧ H' = [] ∧ S' = S := by
 unfold wind_One.f at e
 refine cal_of (c := c85) (N := 53) Tryd.func85 rfl rfl (by kernel_rfl) (rs := [.t 4]) (by kernel_rfl) (Nat.le_of_ble_eq_true rfl) ?_
 unfold c85
 refine wx mixed 1 [] 2 [] fun b111 b112 => zWL [] ?_
 refine w_ (w_seq (w_block ?_))
 obtain ⟨x121, e114, e⟩ := bind_of e
 refine w_cut [2, 3, 5] (fun σ_ H_ S_ => [(2, vP b111 0), (3, vP b112 0), (5, .bool x121)] = σ_ ∧ ([⟨b112, [vI p1_X, vI p1_Y], 2⟩, ⟨b111, [vI e0_A_X, vI e0_A_Y, vI e0_B_X, vI e0_B_Y], 4⟩] : List Own) = H_ ∧ S = S_) ?_ ?_
 ·refine w_ ?_
  by_cases c116 : e0_A_Y ≤ p1_Y
  ·rw [if_pos c116] at e114
   have c116b : (decide (e0_A_Y ≤ p1_Y)) = true := decide_eq_true c116
   by_cases c117 : e0_B_Y > p1_Y
   ·rw [if_pos c117] at e114
    have c117b : (decide (e0_B_Y > p1_Y)) = true := decide_eq_true c117
    obtain ⟨t118, h119, e114⟩ := bind_of e114
    by_cases c120 : t118 > 0
    ·rw [if_pos c120] at e114
     have c120b : (decide (t118 > 0)) = true := decide_eq_true c120
     refine wqM mixed [1, 0, 1, 0, 1, 1, 0] 0 .nrm [(5, spQ (.bin .leq 8 10) [vI e0_A_Y, vI p1_Y] (congrArg (fun t => some (Value.bool t)) c116b)), (12, spQ (.bin .gtr 15 17) [vI e0_B_Y, vI p1_Y] (congrArg (fun t => some (Value.bool t)) c117b)), (20, spP 88 [22, 24, 25] (plane_Cross.ok hE_ h119)), (21, spQ (.bin .gtr 26 (.const (vI 0))) [vI t118, vI 0] (congrArg (fun t => some (Value.bool t)) c120b))] (zQL [] ?_)
     obtain rfl := Option.some.inj e114
     exact ⟨_, S, VS.lb [0, 0] (by kernel_rfl), by kernel_rfl, rfl, rfl⟩
    ·rw [if_neg c120] at e114
     have c120b : (decide (t118 > 0)) = false := decide_eq_false c120
     refine wqM mixed [1, 0, 1, 0, 1, 1, 0] 0 .nrm [(5, spQ (.bin .leq 8 10) [vI e0_A_Y, vI p1_Y] (congrArg (fun t => some (Value.bool t)) c116b)), (12, spQ (.bin .gtr 15 17) [vI e0_B_Y, vI p1_Y] (congrArg (fun t => some (Value.bool t)) c117b)), (20, spP 88 [22, 24, 25] (plane_Cross.ok hE_ h119)), (21, spQ (.bin .gtr 26 (.const (vI 0))) [vI t118, vI 0] (congrArg (fun t => some (Value.bool t)) c120b))] (zQL [] ?_)
     obtain rfl := Option.some.inj e114
     exact ⟨_, S, VS.lb [0, 0] (by kernel_rfl), by kernel_rfl, rfl, rfl⟩
   ·rw [if_neg c117] at e114
    have c117b : (decide (e0_B_Y > p1_Y)) = false := decide_eq_false c117
    refine wqM mixed [1, 0, 1, 0, 0, 0, 0] 0 .nrm [(5, spQ (.bin .leq 8 10) [vI e0_A_Y, vI p1_Y] (congrArg (fun t => some (Value.bool t)) c116b)), (12, spQ (.bin .gtr 15 17) [vI e0_B_Y, vI p1_Y] (congrArg (fun t => some (Value.bool t)) c117b))] (zQL [] ?_)
    obtain rfl := Option.some.inj e114
    exact ⟨_, S, VS.lb [0, 0] (by kernel_rfl), by kernel_rfl, rfl, rfl⟩
  ·rw [if_neg c116] at e114
   have c116b : (decide (e0_A_Y ≤ p1_Y)) = false := decide_eq_false c116
   refine wqM mixed [1, 0, 0, 0, 0, 0, 0] 0 .nrm [(5, spQ (.bin .leq 8 10) [vI e0_A_Y, vI p1_Y] (congrArg (fun t => some (Value.bool t)) c116b))] (zQL [] ?_)
   obtain rfl := Option.some.inj e114
   exact ⟨_, S, VS.lb [0, 0] (by kernel_rfl), by kernel_rfl, rfl, rfl⟩
 ·rintro σ_ H_ S_ ⟨rfl, rfl, rfl⟩
  by_cases c122 : x121 = true
  ·rw [if_pos c122] at e
   have c122b : x121 = true := c122
   refine w_cond (t := true) (congrArg (fun t => some (Value.bool t)) c122b) (fun _ => ?_) (fun c_ => by cases c_)
   refine wx mixed 1 [] 0 [] (zWL [0, 1] ?_)
   refine w_ (w_ret ?_)
   obtain rfl := Option.some.inj e
   exact ⟨[_], [], S, ⟨(show gt _ _ = some _ from (by kernel_rfl)), trivial⟩, VS.none, rfl, rfl, rfl⟩
  ·rw [if_neg c122] at e
   have c122b : x121 = false := Bool.eq_false_iff.mpr c122
   refine w_cond (t := false) (congrArg (fun t => some (Value.bool t)) c122b) (fun c_ => by cases c_) (fun _ => ?_)
   by_cases c123 : e0_B_Y ≤ p1_Y
   ·rw [if_pos c123] at e
    have c123b : (decide (e0_B_Y ≤ p1_Y)) = true := decide_eq_true c123
    by_cases c124 : e0_A_Y > p1_Y
    ·rw [if_pos c124] at e
     have c124b : (decide (e0_A_Y > p1_Y)) = true := decide_eq_true c124
     obtain ⟨t125, h126, e⟩ := bind_of e
     by_cases c127 : t125 < 0
     ·rw [if_pos c127] at e
      have c127b : (decide (t125 < 0)) = true := decide_eq_true c127
      refine wx mixed 1 [1, 0, 1, 0, 1, 1, 0] 0 [(5, spQ (.bin .leq 32 34) [vI e0_B_Y, vI p1_Y] (congrArg (fun t => some (Value.bool t)) c123b)), (12, spQ (.bin .gtr 39 41) [vI e0_A_Y, vI p1_Y] (congrArg (fun t => some (Value.bool t)) c124b)), (20, spP 88 [46, 48, 49] (plane_Cross.ok hE_ h126)), (21, spQ (.bin .lss 50 (.const (vI 0))) [vI t125, vI 0] (congrArg (fun t => some (Value.bool t)) c127b))] (zWL [0, 1] ?_)
      refine w_ (w_ct (w_ ?_))
      refine wxM mixed 1 [] 0 [] (zWL [] ?_)
      refine w_ (w_ret ?_)
      obtain rfl := Option.some.inj e
      exact ⟨[_], [], S, ⟨(show gt _ _ = some _ from (by kernel_rfl)), trivial⟩, VS.none, rfl, rfl, rfl⟩
     ·rw [if_neg c127] at e
      have c127b : (decide (t125 < 0)) = false := decide_eq_false c127
      refine wq mixed [1, 0, 1, 0, 1, 1, 0] 0 .nrm [(5, spQ (.bin .leq 32 34) [vI e0_B_Y, vI p1_Y] (congrArg (fun t => some (Value.bool t)) c123b)), (12, spQ (.bin .gtr 39 41) [vI e0_A_Y, vI p1_Y] (congrArg (fun t => some (Value.bool t)) c124b)), (20, spP 88 [46, 48, 49] (plane_Cross.ok hE_ h126)), (21, spQ (.bin .lss 50 (.const (vI 0))) [vI t125, vI 0] (congrArg (fun t => some (Value.bool t)) c127b))] (zQL [0, 1] ?_)
      refine w_ ?_
      refine wxM mixed 1 [] 0 [] (zWL [] ?_)
      refine w_ (w_ret ?_)
      obtain rfl := Option.some.inj e
      exact ⟨[_], [], S, ⟨(show gt _ _ = some _ from (by kernel_rfl)), trivial⟩, VS.none, rfl, rfl, rfl⟩
    ·rw [if_neg c124] at e
     have c124b : (decide (e0_A_Y > p1_Y)) = false := decide_eq_false c124
     refine wq mixed [1, 0, 1, 0, 0, 0, 0] 0 .nrm [(5, spQ (.bin .leq 32 34) [vI e0_B_Y, vI p1_Y] (congrArg (fun t => some (Value.bool t)) c123b)), (12, spQ (.bin .gtr 39 41) [vI e0_A_Y, vI p1_Y] (congrArg (fun t => some (Value.bool t)) c124b))] (zQL [0, 1] ?_)
     refine w_ ?_
     refine wxM mixed 1 [] 0 [] (zWL [] ?_)
     refine w_ (w_ret ?_)
     obtain rfl := Option.some.inj e
     exact ⟨[_], [], S, ⟨(show gt _ _ = some _ from (by kernel_rfl)), trivial⟩, VS.none, rfl, rfl, rfl⟩
   ·rw [if_neg c123] at e
    have c123b : (decide (e0_B_Y ≤ p1_Y)) = false := decide_eq_false c123
    refine wq mixed [1, 0, 0, 0, 0, 0, 0] 0 .nrm [(5, spQ (.bin .leq 32 34) [vI e0_B_Y, vI p1_Y] (congrArg (fun t => some (Value.bool t)) c123b))] (zQL [0, 1] ?_)
    refine w_ ?_
    refine wxM mixed 1 [] 0 [] (zWL [] ?_)
    refine w_ (w_ret ?_)
    obtain rfl := Option.some.inj e
    exact ⟨[_], [], S, ⟨(show gt _ _ = some _ from (by kernel_rfl)), trivial⟩, VS.none, rfl, rfl, rfl⟩

/-- wind.Number -/
def c77 : C := (.seq (.reg [oq 3 (.box 1), oq 4 (.mv (.const (vI 0)))]) (.seq (.reg [oq 5 (.mv (.const (vI 0)))]) (.seq (.seq (.reg [oq 8 (.mv 0), oq 9 (.lns 8), oq 10 (.mv (.const (vI 0)))]) (.block 0 (.loop (.seq (.reg [oq 11 (.bin .lss 10 9)]) (.seq (.cond 11 .skip (.exit 0)) (.seq (.block 1 (.seq (.reg [oq 12 (.ixs 4 8 10), oq 13 (.ld (some 4) 12), oq 7 (.new [(vI 0), (vI 0), (vI 0), (vI 0)]), ⟨none, .st 4 7 13, none⟩]) (.reg [oq 14 (.mv 5), oq 15 (.ld (some 4) 7), oq 16 (.ld (some 2) 3), oq 17 (.call 85 [15, 16]), oq 18 (.bin .add 14 17), oq 5 (.mv 18)]))) (.reg [oq 19 (.bin .add 10 (.const (vI 1))), oq 10 (.mv 19)]))))))) (.seq (.reg [oq 20 (.mv 5), oq 4 (.mv 20)]) .ret))))
def wind_Number_v1.l0 : Nat → List (Int × Int × Int × Int) → Int → Int → Int → Int → Option (Int)
  | 0, _, _, _, _, _ => none
  | k + 1, l0, p1_0, p1_1, x94, x95 => if x95 < (l0.length : Int) then ((lgt l0 x95).bind fun (x97, x98, x99, x100) => ((wind_One.f x97 x98 x99 x100 p1_0 p1_1).bind fun t128 => (wind_Number_v1.l0 k l0 p1_0 p1_1 (wr64 (x94 + t128)) (wr64 (x95 + 1))))) else (some x94)
def wind_Number_v1.f (k : Nat) (l0 : List (Int × Int × Int × Int)) (p1_0 : Int) (p1_1 : Int) : Option (Int) := (wind_Number_v1.l0 k l0 p1_0 p1_1 0 0 : Option (Int)).bind fun x132 => (some x132)
theorem wind_Number_v1.ok {S : Seal} {k : Nat} {l0 : List (Int × Int × Int × Int)} {p1_0 p1_1 r0_ : Int}{A_ : Int → Addr} (hE_ : EO gsE S A_ 157) {a_l0 : Option Addr} {c_l0 : Nat} (h_l0 : SlE S E_i644 l0 a_l0) (e : wind_Number_v1.f k l0 p1_0 p1_1 = some r0_) :
    Cal Tryd.prog 77 [.slice a_l0 l0.length c_l0, .agg #[vI p1_0, vI p1_1]] [] S fun v H' S' => v = vI r0_ ∧ H' = [] ∧ S' = S := by
 unfold wind_Number_v1.f at e
 refine cal_of (c := c77) (N := 21) Tryd.func77 rfl rfl (by kernel_rfl) (rs := [.t 4]) (by kernel_rfl) (Nat.le_of_ble_eq_true rfl) ?_
 unfold c77
 refine wx mixed 2 [] 1 [] fun b90 => zWL [] ?_
 refine w_ ?_
 obtain ⟨x132, e92, e⟩ := bind_of e
 refine w_cut [5] (fun σ_ H_ S_ => [(5, vI x132)] = σ_ ∧ ([⟨b90, [vI p1_0, vI p1_1], 2⟩] : List Own) = H_ ∧ S = S_) ?_ ?_
 ·refine w_ ?_
  refine wxM mixed 1 [] 0 [] (zWL [] ?_)
  refine w_ (w_block (wk [(3, vP b90 0), (5, vI 0), (8, .slice a_l0 l0.length c_l0), (9, vI (l0.length : Int)), (10, vI 0)] (w_vs (H' := ([⟨b90, [vI p1_0, vI p1_1], 2⟩] : List Own)) (S' := S) (VS.lb [0] (by kernel_rfl)) ?_)))
  refine w_loop (fun n_ σ_ H_ S_ => ∃ (x94 : Int) (x95 : Int), [(3, vP b90 0), (5, vI x94), (8, .slice a_l0 l0.length c_l0), (9, vI (l0.length : Int)), (10, vI x95)] = σ_ ∧ ([⟨b90, [vI p1_0, vI p1_1], 2⟩] : List Own) = H_ ∧ S = S_ ∧ wind_Number_v1.l0 n_ l0 p1_0 p1_1 x94 x95 = some x132) _ ⟨0, 0, rfl, rfl, rfl, e92⟩ ?_
  rintro n131 σ_ H_ S_ ⟨x94, x95, rfl, rfl, rfl, e92⟩
  cases n131 with
  | zero => rw [wind_Number_v1.l0.eq_1] at e92; cases e92
  | succ k_ =>
   rw [wind_Number_v1.l0.eq_2] at e92
   by_cases c96 : x95 < (l0.length : Int)
   ·rw [if_pos c96] at e92
    have c96b : (decide (x95 < (l0.length : Int))) = true := decide_eq_true c96
    obtain ⟨⟨x97, x98, x99, x100⟩, hx101, e92⟩ := bind_of e92
    try dsimp only at e92
    obtain ⟨lb102, lo103, ll104, la105, lS106, lv107, lz108, lu109⟩ := sle_get (E := E_i644) h_l0 hx101
    obtain ⟨t128, h129, e92⟩ := bind_of e92
    refine wq mixed [1, 1, 0] 1 .nrm [(0, spQ (.bin .lss 10 9) [vI x95, vI (l0.length : Int)] (congrArg (fun t => some (Value.bool t)) c96b)), (1, spQ (.ixs 4 8 10) [.slice a_l0 l0.length c_l0, vI x95] (ixs_sle rfl rfl la105 lz108 lu109)), (2, spLn 12 lb102 (lo103 + (x95).toNat * 4 + 0) 4 [] (vs := [vI x97, vI x98, vI x99, vI x100]) (fun _ => .sealed lS106 (subl_sub lv107 (by kernel_rfl)))), (8, spP 85 [15, 16] (wind_One.ok hE_ h129))] fun b110 => zQL [1] ?_
    exact ⟨k_, Nat.lt_succ_self _, _, _, S, keep_sub [3, 5, 8, 9, 10] (by kernel_rfl), VS.lb [0] (by kernel_rfl), wr64 (x94 + t128), wr64 (x95 + 1), rfl, rfl, rfl, e92⟩
   ·rw [if_neg c96] at e92
    have c96b : (decide (x95 < (l0.length : Int))) = false := decide_eq_false c96
    refine wq mixed [] 0 (.ex 0) [(0, spQ (.bin .lss 10 9) [vI x95, vI (l0.length : Int)] (congrArg (fun t => some (Value.bool t)) c96b))] (zQL [] ?_)
    obtain rfl := Option.some.inj e92
    exact ⟨_, S, VS.lb [0] (by kernel_rfl), by kernel_rfl, rfl, rfl⟩
 ·rintro σ_ H_ S_ ⟨rfl, rfl, rfl⟩
  refine wx mixed 1 [] 0 [] (zWL [0] ?_)
  refine w_ (w_ret ?_)
  obtain rfl := Option.some.inj e
  exact ⟨[_], [], S, ⟨(show gt _ _ = some _ from (by kernel_rfl)), trivial⟩, VS.none, rfl, rfl, rfl⟩

/-- wind.Inside -/
def c67 : C := (.seq (.reg [oq 5 (.box 2), oq 6 (.mv (.const (vB false)))]) (.seq (.reg [oq 8 (.mv 0), oq 9 (.ld (some 2) 5), oq 10 (.call 77 [8, 9]), oq 7 (.mv 10)]) (.seq (.seq (.reg [oq 11 (.mv 1), oq 12 (.bin .eql 11 (.const (vI 0)))]) (.cond 12 (.seq (.reg [oq 13 (.mv 7), oq 14 (.bin .rem 13 (.const (vI 2))), oq 15 (.bin .neq 14 (.const (vI 0))), oq 6 (.mv 15)]) .ret) .skip)) (.seq (.reg [oq 16 (.mv 7), oq 17 (.bin .neq 16 (.const (vI 0))), oq 6 (.mv 17)]) .ret))))
def wind_Inside_v1.f (k : Nat) (l0 : List (Int × Int × Int × Int)) (rule1 : Int) (p2_0 : Int) (p2_1 : Int) : Option (Bool) := (wind_Number_v1.f k l0 p2_0 p2_1).bind fun t90 => (if rule1 = 0 then (some ((Int.tmod t90 2) != 0)) else (some (t90 != 0)))
theorem wind_Inside_v1.ok {S : Seal} {k : Nat} {l0 : List (Int × Int × Int × Int)} {rule1 p2_0 p2_1 : Int} {r0_ : Bool}{A_ : Int → Addr} (hE_ : EO gsE S A_ 157) {a_l0 : Option Addr} {c_l0 : Nat} (h_l0 : SlE S E_i644 l0 a_l0) (e : wind_Inside_v1.f k l0 rule1 p2_0 p2_1 = some r0_) :
    Cal Tryd.prog 67 [.slice a_l0 l0.length c_l0, vI rule1, .agg #[vI p2_0, vI p2_1]] [] S fun v H' S' => v = .bool r0_ ∧ H' = [] ∧ S' = S := by
 unfold wind_Inside_v1.f at e
 refine cal_of (c := c67) (N := 18) Tryd.func67 rfl rfl (by kernel_rfl) (rs := [.t 6]) (by kernel_rfl) (Nat.le_of_ble_eq_true rfl) ?_
 unfold c67
 obtain ⟨t90, h91, e⟩ := bind_of e
 refine wx mixed 2 [0] 1 [(4, spP 77 [8, 9] (vs := [.slice a_l0 l0.length c_l0, .agg #[vI p2_0, vI p2_1]]) (wind_Number_v1.ok hE_ h_l0 h91))] fun b89 => zWL [0] ?_
 refine w_ (w_seq ?_)
 by_cases c92 : rule1 = 0
 ·rw [if_pos c92] at e
  have c92b : (rule1 == 0) = true := beq_iff_eq.mpr c92
  refine wxM mixed 1 [] 0 [(1, spQ (.bin .eql 11 (.const (vI 0))) [vI rule1, vI 0] (congrArg (fun t => some (Value.bool t)) c92b))] (zWL [] ?_)
  refine w_ (w_ct (w_ ?_))
  refine wxM mixed 1 [] 0 [] (zWL [] ?_)
  refine w_ (w_ret ?_)
  obtain rfl := Option.some.inj e
  exact ⟨[_], [], S, ⟨(show gt _ _ = some _ from (by kernel_rfl)), trivial⟩, VS.none, rfl, rfl, rfl⟩
 ·rw [if_neg c92] at e
  have c92b : (rule1 == 0) = false := beq_eq_false_iff_ne.mpr c92
  refine wqM mixed [] 0 .nrm [(1, spQ (.bin .eql 11 (.const (vI 0))) [vI rule1, vI 0] (congrArg (fun t => some (Value.bool t)) c92b))] (zQL [] ?_)
  refine w_ ?_
  refine wxM mixed 1 [] 0 [] (zWL [] ?_)
  refine w_ (w_ret ?_)
  obtain rfl := Option.some.inj e
  exact ⟨[_], [], S, ⟨(show gt _ _ = some _ from (by kernel_rfl)), trivial⟩, VS.none, rfl, rfl, rfl⟩

/-- sweep.Fill$1 -/
def c66 : C := (.seq (.reg [oq 4 (.box 1), oq 5 (.mv (.const (vB false)))]) (.seq (.reg [oq 6 (.mv 0), oq 7 (.ld none 2), oq 8 (.ld (some 2) 4), oq 9 (.call 67 [6, 7, 8]), oq 5 (.mv 9)]) .ret))
def sweep_Fill_1_v1.f (k : Nat) (l0 : List (Int × Int × Int × Int)) (p1_0 : Int) (p1_1 : Int) (m0_0 : Int) : Option (Bool) := (wind_Inside_v1.f k l0 m0_0 p1_0 p1_1).bind fun t89 => (some t89)
theorem sweep_Fill_1_v1.ok {S : Seal} {B0 k : Nat} {l0 : List (Int × Int × Int × Int)} {p1_0 p1_1 m0_0 : Int} {r0_ : Bool}{A_ : Int → Addr} (hE_ : EO gsE S A_ 157) {a_l0 : Option Addr} {c_l0 : Nat} (h_l0 : SlE S E_i644 l0 a_l0) (e : sweep_Fill_1_v1.f k l0 p1_0 p1_1 m0_0 = some r0_) :
    Cal Tryd.prog 66 [.slice a_l0 l0.length c_l0, .agg #[vI p1_0, vI p1_1], vP B0 0] ([⟨B0, [vI m0_0], 1⟩] : List Own) S fun v H' S' => v = .bool r0_ ∧ H' = ([⟨B0, [vI m0_0], 1⟩] : List Own) ∧ S' = S := by
 unfold sweep_Fill_1_v1.f at e
 refine cal_of (c := c66) (N := 10) Tryd.func66 rfl rfl (by kernel_rfl) (rs := [.t 5]) (by kernel_rfl) (Nat.le_of_ble_eq_true rfl) ?_
 unfold c66
 obtain ⟨t89, h90, e⟩ := bind_of e
 refine wx mixed 2 [0, 1] 1 [(5, spP 67 [6, 7, 8] (vs := [.slice a_l0 l0.length c_l0, vI m0_0, .agg #[vI p1_0, vI p1_1]]) (wind_Inside_v1.ok hE_ h_l0 h90))] fun b88 => zWL [1] ?_
 refine w_ (w_ret ?_)
 obtain rfl := Option.some.inj e
 exact ⟨[_], _, S, ⟨(show gt _ _ = some _ from (by kernel_rfl)), trivial⟩, VS.lb [0] (by kernel_rfl), rfl, rfl, rfl⟩

/-- sweep.masks -/
def c65 : C := (.seq (.reg [oq 10 (.mv (.const (.slice none 0 0)))]) (.seq (.seq (.reg [oq 16 (.mv 3), oq 17 (.bin .lss 16 (.const (vI 1)))]) (.cond 17 (.seq (.reg [oq 10 (.mv (.const (.slice none 0 0)))]) .ret) .skip)) (.seq (.reg [oq 18 (.mv 3), oq 19 (.mks 1 8 [(.int .u64 0)] 18 18), oq 11 (.mv 19)]) (.seq (.seq (.reg [oq 20 (.mv (.const (vI 0)))]) (.block 0 (.loop (.seq (.reg [oq 21 (.bin .lss 20 (.const (vI 8)))]) (.seq (.cond 21 .skip (.exit 0)) (.seq (.block 1 (.seq (.reg [oq 22 (.mv 20), oq 12 (.mv 22)]) (.seq (.reg [oq 23 (.mv 0), oq 24 (.mv 1), oq 25 (.mv 2), oq 26 (.mv 12), oq 27 (.bin .mul 26 (.const (vI 8))), oq 28 (.call 76 [(.const (vI 0)), 25, 27]), oq 29 (.fld none 1 28), oq 30 (.call 75 [23, 24, 29]), oq 13 (.mv 30)]) (.seq (.reg [oq 14 (.mv (.const (vI 0)))]) (.block 2 (.loop (.seq (.seq (.reg [oq 31 (.mv 14), oq 32 (.mv 3), oq 33 (.bin .lss 31 32), oq 34 (.mv 33), ⟨(some 35), .mv 13, (some (34, true))⟩, ⟨(some 36), .lns 35, (some (34, true))⟩, ⟨(some 37), .bin .gtr 36 (.const (vI 0)), (some (34, true))⟩, oq 38 (.pk 34 37 (.const (vB false)))]) (.cond 38 .skip (.exit 2))) (.seq (.block 3 (.seq (.reg [oq 41 (.mv 12), oq 42 (.bin .mul 41 (.const (vI 8))), oq 15 (.mv 42)]) (.block 4 (.loop (.seq (.seq (.reg [oq 43 (.mv 15), oq 44 (.mv 12), oq 45 (.bin .add 44 (.const (vI 1))), oq 46 (.bin .mul 45 (.const (vI 8))), oq 47 (.bin .lss 43 46)]) (.cond 47 .skip (.exit 4))) (.seq (.block 5 (.seq (.reg [oq 50 (.mv 4), oq 51 (.mv 13), oq 52 (.mv 14), oq 53 (.mv 2), oq 54 (.mv 15), oq 55 (.call 76 [52, 53, 54]), oq 56 (.clo 50 [51, 55])]) (.cond 56 (.drw [oq 57 (.mv 11), oq 58 (.mv 14), oq 59 (.ixs 1 57 58), oq 60 (.ld none 59), oq 61 (.mv 15), oq 62 (.bin .shl (.const (.int .u64 1)) 61), oq 63 (.bin .or 60 62), oq 64 (.ixs 1 57 58), ⟨none, .st 1 64 63, none⟩] [[], [], [0, 1], [2], [], [4], [3, 5], [0, 1, 0, 1, 2, 3, 4, 5, 6], [7, 6, 0, 1, 2, 3, 4, 5, 6]]) .skip))) (.reg [oq 48 (.mv 15), oq 49 (.bin .add 48 (.const (vI 1))), oq 15 (.mv 49)]))))))) (.reg [oq 39 (.mv 14), oq 40 (.bin .add 39 (.const (vI 1))), oq 14 (.mv 40)]))))))))) (.reg [oq 65 (.bin .add 20 (.const (vI 1))), oq 20 (.mv 65)]))))))) (.seq (.reg [oq 66 (.mv 11), oq 10 (.mv 66)]) .ret)))))
def sweep_masks_v1.l2 : Nat → Int → Int → Int → List (Int × Int × Int × Int) → Int → Int → List (Int) → Option (List (Int))
  | 0, _, _, _, _, _, _, _ => none
  | k + 1, y2, m0_0, x118, t127, x130, x137, y138 => if x137 < (wr64 ((wr64 (x118 + 1)) * 8)) then ((sweep_Sample.f x130 y2 x137).bind fun (t140, t141) => ((sweep_Fill_1_v1.f k t127 t140 t141 m0_0).bind fun t143 => (if t143 = true then ((lgt y138 x130).bind fun x145 => (if x137 < 0 then none else ((lgt y138 x130).bind fun x148 => ((lput y138 x130 (bits .or .u64 x145 (wru64 (1 * 2 ^ (min (Int.toNat x137) 64))))).bind fun y150 => (sweep_masks_v1.l2 k y2 m0_0 x118 t127 x130 (wr64 (x137 + 1)) y150))))) else (sweep_masks_v1.l2 k y2 m0_0 x118 t127 x130 (wr64 (x137 + 1)) y138)))) else (some y138)
def sweep_masks_v1.l1 : Nat → Int → Int → Int → Int → List (Int × Int × Int × Int) → Int → List (Int) → Option (List (Int))
  | 0, _, _, _, _, _, _, _ => none
  | k + 1, y2, w3, m0_0, x118, t127, x130, y131 => if x130 < w3 then (if (t127.length : Int) > 0 then ((sweep_masks_v1.l2 k y2 m0_0 x118 t127 x130 (wr64 (x118 * 8)) y131 : Option (List (Int))).bind fun y156 => (sweep_masks_v1.l1 k y2 w3 m0_0 x118 t127 (wr64 (x130 + 1)) y156)) else (some y131)) else (some y131)
def sweep_masks_v1.l0 : Nat → List (Int × Int × Int × Int) → Int → Int → Int → Int → Int → List (Int) → Option (List (Int))
  | 0, _, _, _, _, _, _, _ => none
  | k + 1, l0, wide1, y2, w3, m0_0, x118, y119 => if x118 < 8 then (((sweep_Sample.f 0 y2 (wr64 (x118 * 8))).bind fun (t124, t125) => ((sweep_crossing_v1.f k l0 wide1 t125).bind fun t127 => (sweep_masks_v1.l1 k y2 w3 m0_0 x118 t127 0 y119)) : Option (List (Int))).bind fun y159 => (sweep_masks_v1.l0 k l0 wide1 y2 w3 m0_0 (wr64 (x118 + 1)) y159)) else (some y119)
def sweep_masks_v1.f (k : Nat) (l0 : List (Int × Int × Int × Int)) (wide1 : Int) (y2 : Int) (w3 : Int) (m0_0 : Int) : Option (List (Int)) := if w3 < 1 then (some ([] : List (Int))) else ((lmk (0 : Int) w3 w3).bind fun y112 => ((sweep_masks_v1.l0 k l0 wide1 y2 w3 m0_0 0 y112 : Option (List (Int))).bind fun y162 => (some y162)))
theorem sweep_masks_v1.ok {S : Seal} {B0 k : Nat} {l0 : List (Int × Int × Int × Int)} {wide1 y2 w3 m0_0 : Int} {r0_ : List (Int)}{A_ : Int → Addr} (hE_ : EO gsE S A_ 157) {a_l0 : Option Addr} {c_l0 : Nat} (h_l0 : SlE S E_i644 l0 a_l0) (e : sweep_masks_v1.f k l0 wide1 y2 w3 m0_0 = some r0_) :
    Cal Tryd.prog 65 [.slice a_l0 l0.length c_l0, vI wide1, vI y2, vI w3, .func (.func 66) #[] #[vP B0 0]] ([⟨B0, [vI m0_0], 1⟩] : List Own) S fun v H' S' => ∃ (N0_ : Option Nat) (nN0_ : Nat) , v = .slice (ad N0_) r0_.length (nN0_ / 1) ∧ H' = ([⟨N0_, encL E_u64 r0_, nN0_⟩, ⟨B0, [vI m0_0], 1⟩] : List Own) ∧ S' = S := by
 unfold sweep_masks_v1.f at e
 refine cal_of (c := c65) (N := 67) Tryd.func65 rfl rfl (by kernel_rfl) (rs := [.t 10]) (by kernel_rfl) (Nat.le_of_ble_eq_true rfl) ?_
 unfold c65
 refine wx mixed 1 [] 0 [] (zWL [] ?_)
 refine w_ (w_seq ?_)
 by_cases c111 : w3 < 1
 ·rw [if_pos c111] at e
  have c111b : (decide (w3 < 1)) = true := decide_eq_true c111
  refine wxM mixed 1 [] 0 [(1, spQ (.bin .lss 16 (.const (vI 1))) [vI w3, vI 1] (congrArg (fun t => some (Value.bool t)) c111b))] (zWL [] ?_)
  refine w_ (w_ct (w_ ?_))
  refine wxM mixed 1 [] 0 [] (zWL [] ?_)
  refine w_ (w_as [(10, .slice none 0 0)] ([⟨B0, [vI m0_0], 1⟩] : List Own) ?_)
  refine w_ret ?_
  obtain rfl := Option.some.inj e
  exact ⟨[_], _, S, ⟨(show gt _ _ = some _ from (by kernel_rfl)), trivial⟩, VS.trans VS.vac (VS.sel [0, 0] (by kernel_rfl)), none, 0, rfl, rfl, rfl⟩
 ·rw [if_neg c111] at e
  have c111b : (decide (w3 < 1)) = false := decide_eq_false c111
  refine wqM mixed [] 0 .nrm [(1, spQ (.bin .lss 16 (.const (vI 1))) [vI w3, vI 1] (congrArg (fun t => some (Value.bool t)) c111b))] (zQL [] ?_)
  refine w_ (w_seq (w_reg fun all => ?_))
  refine txM 1 [] 0 [] (zTL [] ?_)
  refine t_as [(0, .slice a_l0 l0.length c_l0), (1, vI wide1), (2, vI y2), (3, vI w3), (4, .func (.func 66) #[] #[vP B0 0]), (18, vI w3)] ([⟨B0, [vI m0_0], 1⟩] : List Own) ?_
  obtain ⟨y112, hl113, e⟩ := bind_of e
  refine t_mkl (E := E_u64) (x0 := 0) rfl rfl rfl rfl rfl (by decide) (by decide) rfl hl113 fun a114 na114 => ?_
  refine tx 1 [] 0 [] (zTL [] ?_)
  refine t_end (w_ ?_)
  obtain ⟨y162, e116, e⟩ := bind_of e
  refine w_cut [11] (fun σ_ H_ S_ => [(11, .slice (ad (some a114)) y162.length (na114 / 1))] = σ_ ∧ ([⟨B0, [vI m0_0], 1⟩, ⟨some a114, encL E_u64 y162, na114⟩] : List Own) = H_ ∧ S = S_) ?_ ?_
  ·refine w_ ?_
   refine wxM mixed 1 [] 0 [] (zWL [] ?_)
   refine w_ (w_block (wk [(0, .slice a_l0 l0.length c_l0), (1, vI wide1), (2, vI y2), (3, vI w3), (4, .func (.func 66) #[] #[vP B0 0]), (11, .slice (ad (some a114)) y112.length (na114 / 1)), (20, vI 0)] (w_vs (H' := ([⟨some a114, encL E_u64 y112, na114⟩, ⟨B0, [vI m0_0], 1⟩] : List Own)) (S' := S) (VS.lb [0, 0] (by kernel_rfl)) ?_)))
   refine w_loop (fun n_ σ_ H_ S_ => ∃ (x118 : Int) (y119 : List (Int)), [(0, .slice a_l0 l0.length c_l0), (1, vI wide1), (2, vI y2), (3, vI w3), (4, .func (.func 66) #[] #[vP B0 0]), (11, .slice (ad (some a114)) y119.length (na114 / 1)), (20, vI x118)] = σ_ ∧ ([⟨some a114, encL E_u64 y119, na114⟩, ⟨B0, [vI m0_0], 1⟩] : List Own) = H_ ∧ S = S_ ∧ sweep_masks_v1.l0 n_ l0 wide1 y2 w3 m0_0 x118 y119 = some y162) _ ⟨0, y112, rfl, rfl, rfl, e116⟩ ?_
   rintro n161 σ_ H_ S_ ⟨x118, y119, rfl, rfl, rfl, e116⟩
   cases n161 with
   | zero => rw [sweep_masks_v1.l0.eq_1] at e116; cases e116
   | succ k_ =>
    rw [sweep_masks_v1.l0.eq_2] at e116
    by_cases c120 : x118 < 8
    ·rw [if_pos c120] at e116
     have c120b : (decide (x118 < 8)) = true := decide_eq_true c120
     refine wx mixed 2 [] 0 [(0, spQ (.bin .lss 20 (.const (vI 8))) [vI x118, vI 8] (congrArg (fun t => some (Value.bool t)) c120b))] (zWL [] ?_)
     refine w_ ?_
     obtain ⟨y159, e122, e116⟩ := bind_of e116
     refine w_cut [0, 1, 2, 3, 4, 11, 20] (fun σ_ H_ S_ => [(0, .slice a_l0 l0.length c_l0), (1, vI wide1), (2, vI y2), (3, vI w3), (4, .func (.func 66) #[] #[vP B0 0]), (11, .slice (ad (some a114)) y159.length (na114 / 1)), (20, vI x118)] = σ_ ∧ ([⟨B0, [vI m0_0], 1⟩, ⟨some a114, encL E_u64 y159, na114⟩] : List Own) = H_ ∧ S = S_) ?_ ?_
     ·refine w_ (w_block ?_)
      obtain ⟨⟨t124, t125⟩, h126, e122⟩ := bind_of e122
      try dsimp only at e122
      obtain ⟨t127, h128, e122⟩ := bind_of e122
      refine wxM mixed 3 [] 0 [(7, spP 76 [(.const (vI 0)), 25, 27] (sweep_Sample.ok hE_ h126)), (9, spC 75 [23, 24, 29] [] [] [1, 0] 1 (fun l_ => .slice (ad (l_.O 0)) t127.length ((l_.N 0) / 4)) (fun l_ => [[⟨(l_.O 0), encL E_i644 t127, (l_.N 0)⟩]]) (vs := [.slice a_l0 l0.length c_l0, vI wide1, vI t125]) rfl (((sweep_crossing_v1.ok hE_ h_l0 h128)).mono fun _ _ _ ⟨N129, nN129, h1_, h2_, h3_⟩ => ⟨un ⟨[nN129], [N129], [], [], []⟩, h1_.trans (by kernel_rfl), h2_.trans (by kernel_rfl), h3_⟩))] fun N129 nN129 => zWL [] ?_
      refine w_ (w_block (wk [(0, .slice a_l0 l0.length c_l0), (1, vI wide1), (2, vI y2), (3, vI w3), (4, .func (.func 66) #[] #[vP B0 0]), (11, .slice (ad (some a114)) y119.length (na114 / 1)), (12, vI x118), (13, .slice (ad N129) t127.length (nN129 / 4)), (14, vI 0), (20, vI x118)] (w_vs (H' := ([⟨N129, encL E_i644 t127, nN129⟩, ⟨some a114, encL E_u64 y119, na114⟩, ⟨B0, [vI m0_0], 1⟩] : List Own)) (S' := S) (VS.lb [0, 0, 0] (by kernel_rfl)) ?_)))
      refine w_loop (fun n_ σ_ H_ S_ => ∃ (x130 : Int) (y131 : List (Int)), [(0, .slice a_l0 l0.length c_l0), (1, vI wide1), (2, vI y2), (3, vI w3), (4, .func (.func 66) #[] #[vP B0 0]), (11, .slice (ad (some a114)) y131.length (na114 / 1)), (12, vI x118), (13, .slice (ad N129) t127.length (nN129 / 4)), (14, vI x130), (20, vI x118)] = σ_ ∧ ([⟨N129, encL E_i644 t127, nN129⟩, ⟨some a114, encL E_u64 y131, na114⟩, ⟨B0, [vI m0_0], 1⟩] : List Own) = H_ ∧ S = S_ ∧ sweep_masks_v1.l1 n_ y2 w3 m0_0 x118 t127 x130 y131 = some y159) _ ⟨0, y119, rfl, rfl, rfl, e122⟩ ?_
      rintro n158 σ_ H_ S_ ⟨x130, y131, rfl, rfl, rfl, e122⟩
      cases n158 with
      | zero => rw [sweep_masks_v1.l1.eq_1] at e122; cases e122
      | succ k_ =>
       rw [sweep_masks_v1.l1.eq_2] at e122
       by_cases c132 : x130 < w3
       ·rw [if_pos c132] at e122
        have c132b : (decide (x130 < w3)) = true := decide_eq_true c132
        by_cases c133 : (t127.length : Int) > 0
        ·rw [if_pos c133] at e122
         have c133b : (decide ((t127.length : Int) > 0)) = true := decide_eq_true c133
         refine wx mixed 1 [] 0 [(2, spQ (.bin .lss 31 32) [vI x130, vI w3] (congrArg (fun t => some (Value.bool t)) c132b)), (6, spQ (.bin .gtr 36 (.const (vI 0))) [vI (t127.length : Int), vI 0] (congrArg (fun t => some (Value.bool t)) c133b))] (zWL [] ?_)
         refine w_ ?_
         obtain ⟨y156, e135, e122⟩ := bind_of e122
         refine w_cut [0, 1, 2, 3, 4, 11, 12, 13, 14, 20] (fun σ_ H_ S_ => [(0, .slice a_l0 l0.length c_l0), (1, vI wide1), (2, vI y2), (3, vI w3), (4, .func (.func 66) #[] #[vP B0 0]), (11, .slice (ad (some a114)) y156.length (na114 / 1)), (12, vI x118), (13, .slice (ad N129) t127.length (nN129 / 4)), (14, vI x130), (20, vI x118)] = σ_ ∧ ([⟨B0, [vI m0_0], 1⟩, ⟨some a114, encL E_u64 y156, na114⟩, ⟨N129, encL E_i644 t127, nN129⟩] : List Own) = H_ ∧ S = S_) ?_ ?_
         ·refine w_ (w_block ?_)
          refine wxM mixed 1 [] 0 [] (zWL [] ?_)
          refine w_ (w_block (wk [(0, .slice a_l0 l0.length c_l0), (1, vI wide1), (2, vI y2), (3, vI w3), (4, .func (.func 66) #[] #[vP B0 0]), (11, .slice (ad (some a114)) y131.length (na114 / 1)), (12, vI x118), (13, .slice (ad N129) t127.length (nN129 / 4)), (14, vI x130), (15, vI (wr64 (x118 * 8))), (20, vI x118)] (w_vs (H' := ([⟨N129, encL E_i644 t127, nN129⟩, ⟨some a114, encL E_u64 y131, na114⟩, ⟨B0, [vI m0_0], 1⟩] : List Own)) (S' := S) (VS.lb [0, 0, 0] (by kernel_rfl)) ?_)))
          refine w_loop (fun n_ σ_ H_ S_ => ∃ (x137 : Int) (y138 : List (Int)), [(0, .slice a_l0 l0.length c_l0), (1, vI wide1), (2, vI y2), (3, vI w3), (4, .func (.func 66) #[] #[vP B0 0]), (11, .slice (ad (some a114)) y138.length (na114 / 1)), (12, vI x118), (13, .slice (ad N129) t127.length (nN129 / 4)), (14, vI x130), (15, vI x137), (20, vI x118)] = σ_ ∧ ([⟨N129, encL E_i644 t127, nN129⟩, ⟨some a114, encL E_u64 y138, na114⟩, ⟨B0, [vI m0_0], 1⟩] : List Own) = H_ ∧ S = S_ ∧ sweep_masks_v1.l2 n_ y2 m0_0 x118 t127 x130 x137 y138 = some y156) _ ⟨wr64 (x118 * 8), y131, rfl, rfl, rfl, e135⟩ ?_
          rintro n155 σ_ H_ S_ ⟨x137, y138, rfl, rfl, rfl, e135⟩
          cases n155 with
          | zero => rw [sweep_masks_v1.l2.eq_1] at e135; cases e135
          | succ k_ =>
           rw [sweep_masks_v1.l2.eq_2] at e135
           by_cases c139 : x137 < (wr64 ((wr64 (x118 + 1)) * 8))
           ·rw [if_pos c139] at e135
            have c139b : (decide (x137 < (wr64 ((wr64 (x118 + 1)) * 8)))) = true := decide_eq_true c139
            refine wx mixed 1 [] 0 [(4, spQ (.bin .lss 43 46) [vI x137, vI (wr64 ((wr64 (x118 + 1)) * 8))] (congrArg (fun t => some (Value.bool t)) c139b))] (zWL [] ?_)
            refine w_ (w_seq (w_block ?_))
            obtain ⟨⟨t140, t141⟩, h142, e135⟩ := bind_of e135
            try dsimp only at e135
            obtain ⟨t143, h144, e135⟩ := bind_of e135
            cases t143 with
            | true =>
             rw [if_pos rfl] at e135
             refine wxM mixed 1 [0, 2] 0 [(5, spP 76 [52, 53, 54] (sweep_Sample.ok hE_ h142)), (6, spRc 66 #[vP B0 0] 50 [51, 55] [.slice (ad N129) t127.length (nN129 / 4), .agg #[vI t140, vI t141]] [[⟨N129, encL E_i644 t127, nN129⟩], [⟨B0, [vI m0_0], 1⟩]] (by kernel_rfl) (cal_lendFr ([⟨N129, encL E_i644 t127, nN129⟩] : List Own) fun S1_ le1_ hp1_ hs1_ hn1_ ex1_ => sweep_Fill_1_v1.ok (EO.mono hE_ le1_ hp1_) (SlE.ofAd (E := E_i644) (L := t127) (hn1_ _ (mem_at 0 rfl)) (by decide)) h144) rfl)] (zWL [] ?_)
             refine w_ (w_ct (w_ (w_as [(0, .slice a_l0 l0.length c_l0), (1, vI wide1), (2, vI y2), (3, vI w3), (4, .func (.func 66) #[] #[vP B0 0]), (11, .slice (ad (some a114)) y138.length (na114 / 1)), (12, vI x118), (13, .slice (ad N129) t127.length (nN129 / 4)), (14, vI x130), (15, vI x137), (20, vI x118), (56, vB true)] ([⟨N129, encL E_i644 t127, nN129⟩, ⟨some a114, encL E_u64 y138, na114⟩, ⟨B0, [vI m0_0], 1⟩] : List Own) ?_)))
             obtain ⟨x145, hx146, e135⟩ := bind_of e135
             have c147 : ¬ x137 < 0 := by
              intro h_; rw [if_pos h_] at e135; cases e135
             rw [if_neg c147] at e135
             obtain ⟨x148, hx149, e135⟩ := bind_of e135
             refine w_drwE mixed 8 [.v (.slice (ad (some a114)) y138.length (na114 / 1)), .v (vI x130), .v (vP (bk (some a114)) ((x130).toNat * 1 + 0)), .v (.int .u64 x145), .v (vI x137), .v (.int .u64 (wru64 (1 * 2 ^ (min (Int.toNat x137) 64)))), .v (.int .u64 (bits .or .u64 x145 (wru64 (1 * 2 ^ (min (Int.toNat x137) 64))))), .v (vP (bk (some a114)) ((x130).toNat * 1 + 0))] (by kernel_rfl) ?_ ?_
             ·refine ds 2 (.cons (.quietH rfl (by intro h_; cases h_) (ixl (E := E_u64) (j := 1) rfl rfl rfl (by decide) rfl hx146)) ?_)
              refine .cons (.ld1 rfl rfl rfl (.lst 1 rfl (encL_at (lgt_in hx146).1 rfl))) ?_
              refine ds 1 (.cons (.quiet rfl (qv_shl rfl rfl c147)) ?_)
              refine ds 1 (.cons (.quietH rfl (by intro h_; cases h_) (ixl (E := E_u64) (j := 1) rfl rfl rfl (by decide) rfl hx149)) ?_)
              exact .nil
             refine fkq 8 [(0, .slice a_l0 l0.length c_l0), (1, vI wide1), (2, vI y2), (3, vI w3), (4, .func (.func 66) #[] #[vP B0 0]), (11, .slice (ad (some a114)) y138.length (na114 / 1)), (12, vI x118), (13, .slice (ad N129) t127.length (nN129 / 4)), (14, vI x130), (15, vI x137), (20, vI x118), (63, .int .u64 (bits .or .u64 x145 (wru64 (1 * 2 ^ (min (Int.toNat x137) 64))))), (64, vP (bk (some a114)) ((x130).toNat * 1 + 0))] ?_
             refine fk_nil fun all => ?_
             obtain ⟨y150, hl151, e135⟩ := bind_of e135
             refine t_stl 1 (E := E_u64) (L := y138) (L' := y150) (i := x130) (off := 0) (y0 := x148) (y1 := (bits .or .u64 x145 (wru64 (1 * 2 ^ (min (Int.toNat x137) 64))))) (H' := ([⟨N129, encL E_i644 t127, nN129⟩, ⟨some a114, encL E_u64 y150, na114⟩, ⟨B0, [vI m0_0], 1⟩] : List Own)) rfl rfl rfl rfl rfl rfl rfl (by decide) rfl hx149 (by kernel_rfl) hl151 rfl ?_
             refine tk [(0, .slice a_l0 l0.length c_l0), (1, vI wide1), (2, vI y2), (3, vI w3), (4, .func (.func 66) #[] #[vP B0 0]), (11, .slice (ad (some a114)) y138.length (na114 / 1)), (12, vI x118), (13, .slice (ad N129) t127.length (nN129 / 4)), (14, vI x130), (15, vI x137), (20, vI x118), (63, .int .u64 (bits .or .u64 x145 (wru64 (1 * 2 ^ (min (Int.toNat x137) 64))))), (64, vP (bk (some a114)) ((x130).toNat * 1 + 0))] (t_eq (σ' := [(0, .slice a_l0 l0.length c_l0), (1, vI wide1), (2, vI y2), (3, vI w3), (4, .func (.func 66) #[] #[vP B0 0]), (11, .slice (ad (some a114)) y150.length (na114 / 1)), (12, vI x118), (13, .slice (ad N129) t127.length (nN129 / 4)), (14, vI x130), (15, vI x137), (20, vI x118), (63, .int .u64 (bits .or .u64 x145 (wru64 (1 * 2 ^ (min (Int.toNat x137) 64))))), (64, vP (bk (some a114)) ((x130).toNat * 1 + 0))]) (H' := ([⟨N129, encL E_i644 t127, nN129⟩, ⟨some a114, encL E_u64 y150, na114⟩, ⟨B0, [vI m0_0], 1⟩] : List Own)) (by first | rfl | rw [(lput_is hl151).2]) (by first | rfl | rw [(lput_is hl151).2]) ?_)
             refine tk [(0, .slice a_l0 l0.length c_l0), (1, vI wide1), (2, vI y2), (3, vI w3), (4, .func (.func 66) #[] #[vP B0 0]), (11, .slice (ad (some a114)) y150.length (na114 / 1)), (12, vI x118), (13, .slice (ad N129) t127.length (nN129 / 4)), (14, vI x130), (15, vI x137), (20, vI x118)] (t_end (w_ ?_))
             refine wq mixed [] 0 .nrm [] (zQL [] ?_)
             exact ⟨k_, Nat.lt_succ_self _, _, _, S, keep_sub [0, 1, 2, 3, 4, 11, 12, 13, 14, 15, 20] (by kernel_rfl), VS.lb [0, 0, 0] (by kernel_rfl), wr64 (x137 + 1), y150, rfl, rfl, rfl, e135⟩
            | false =>
             rw [if_neg (by decide)] at e135
             refine wqM mixed [0, 2] 0 .nrm [(5, spP 76 [52, 53, 54] (sweep_Sample.ok hE_ h142)), (6, spRc 66 #[vP B0 0] 50 [51, 55] [.slice (ad N129) t127.length (nN129 / 4), .agg #[vI t140, vI t141]] [[⟨N129, encL E_i644 t127, nN129⟩], [⟨B0, [vI m0_0], 1⟩]] (by kernel_rfl) (cal_lendFr ([⟨N129, encL E_i644 t127, nN129⟩] : List Own) fun S1_ le1_ hp1_ hs1_ hn1_ ex1_ => sweep_Fill_1_v1.ok (EO.mono hE_ le1_ hp1_) (SlE.ofAd (E := E_i644) (L := t127) (hn1_ _ (mem_at 0 rfl)) (by decide)) h144) rfl)] (zQL [] ?_)
             refine w_ ?_
             refine wqM mixed [] 0 .nrm [] (zQL [] ?_)
             exact ⟨k_, Nat.lt_succ_self _, _, _, S, keep_sub [0, 1, 2, 3, 4, 11, 12, 13, 14, 15, 20] (by kernel_rfl), VS.lb [0, 0, 0] (by kernel_rfl), wr64 (x137 + 1), y138, rfl, rfl, rfl, e135⟩
           ·rw [if_neg c139] at e135
            have c139b : (decide (x137 < (wr64 ((wr64 (x118 + 1)) * 8)))) = false := decide_eq_false c139
            refine wq mixed [] 0 (.ex 4) [(4, spQ (.bin .lss 43 46) [vI x137, vI (wr64 ((wr64 (x118 + 1)) * 8))] (congrArg (fun t => some (Value.bool t)) c139b))] (zQL [] ?_)
            obtain rfl := Option.some.inj e135
            exact ⟨_, S, VS.lb [2, 1, 0] (by kernel_rfl), by kernel_rfl, rfl, rfl⟩
         ·rintro σ_ H_ S_ ⟨rfl, rfl, rfl⟩
          refine wq mixed [] 0 .nrm [] (zQL [] ?_)
          exact ⟨k_, Nat.lt_succ_self _, _, _, S, keep_sub [0, 1, 2, 3, 4, 11, 12, 13, 14, 20] (by kernel_rfl), VS.lb [2, 1, 0] (by kernel_rfl), wr64 (x130 + 1), y156, rfl, rfl, rfl, e122⟩
        ·rw [if_neg c133] at e122
         have c133b : (decide ((t127.length : Int) > 0)) = false := decide_eq_false c133
         refine wq mixed [] 0 (.ex 2) [(2, spQ (.bin .lss 31 32) [vI x130, vI w3] (congrArg (fun t => some (Value.bool t)) c132b)), (6, spQ (.bin .gtr 36 (.const (vI 0))) [vI (t127.length : Int), vI 0] (congrArg (fun t => some (Value.bool t)) c133b))] (zQL [] ?_)
         obtain rfl := Option.some.inj e122
         exact ⟨_, S, VS.lb [2, 1] (by kernel_rfl), by kernel_rfl, rfl, rfl⟩
       ·rw [if_neg c132] at e122
        have c132b : (decide (x130 < w3)) = false := decide_eq_false c132
        refine wq mixed [] 0 (.ex 2) [(2, spQ (.bin .lss 31 32) [vI x130, vI w3] (congrArg (fun t => some (Value.bool t)) c132b))] (zQL [] ?_)
        obtain rfl := Option.some.inj e122
        exact ⟨_, S, VS.lb [2, 1] (by kernel_rfl), by kernel_rfl, rfl, rfl⟩
     ·rintro σ_ H_ S_ ⟨rfl, rfl, rfl⟩
      refine wq mixed [] 0 .nrm [] (zQL [] ?_)
      exact ⟨k_, Nat.lt_succ_self _, _, _, S, keep_sub [0, 1, 2, 3, 4, 11, 20] (by kernel_rfl), VS.lb [1, 0] (by kernel_rfl), wr64 (x118 + 1), y159, rfl, rfl, rfl, e116⟩
    ·rw [if_neg c120] at e116
     have c120b : (decide (x118 < 8)) = false := decide_eq_false c120
     refine wq mixed [] 0 (.ex 0) [(0, spQ (.bin .lss 20 (.const (vI 8))) [vI x118, vI 8] (congrArg (fun t => some (Value.bool t)) c120b))] (zQL [] ?_)
     obtain rfl := Option.some.inj e116
     exact ⟨_, S, VS.lb [1, 0] (by kernel_rfl), by kernel_rfl, rfl, rfl⟩
  ·rintro σ_ H_ S_ ⟨rfl, rfl, rfl⟩
   refine wx mixed 1 [] 0 [] (zWL [] ?_)
   refine w_ (w_as [(10, .slice (ad (some a114)) y162.length (na114 / 1))] ([⟨B0, [vI m0_0], 1⟩, ⟨some a114, encL E_u64 y162, na114⟩] : List Own) ?_)
   refine w_ret ?_
   obtain rfl := Option.some.inj e
   exact ⟨[_], _, S, ⟨(show gt _ _ = some _ from (by kernel_rfl)), trivial⟩, VS.sel [1, 0] (by kernel_rfl), some a114, na114, rfl, rfl, rfl⟩

/-- sweep.Fill -/
def c57 : C := (.seq (.reg [oq 5 (.box 1), oq 8 (.mv (.const (.slice none 0 0)))]) (.seq (.reg [oq 9 (.mv 0), oq 10 (.mv 2), oq 11 (.mv 3), oq 12 (.mkf 66 [5]), oq 13 (.call 65 [9, (.const (vI 0)), 10, 11, 12]), oq 8 (.mv 13)]) .ret))
def sweep_Fill_v1.f (k : Nat) (l0 : List (Int × Int × Int × Int)) (rule1 : Int) (y2 : Int) (w3 : Int) : Option (List (Int)) := (sweep_masks_v1.f k l0 0 y2 w3 rule1).bind fun t59 => (some t59)
theorem sweep_Fill_v1.ok {S : Seal} {k : Nat} {l0 : List (Int × Int × Int × Int)} {rule1 y2 w3 : Int} {r0_ : List (Int)}{A_ : Int → Addr} (hE_ : EO gsE S A_ 157) {a_l0 : Option Addr} {c_l0 : Nat} (h_l0 : SlE S E_i644 l0 a_l0) (e : sweep_Fill_v1.f k l0 rule1 y2 w3 = some r0_) :
    Cal Tryd.prog 57 [.slice a_l0 l0.length c_l0, vI rule1, vI y2, vI w3] [] S fun v H' S' => ∃ (N0_ : Option Nat) (nN0_ : Nat) , v = .slice (ad N0_) r0_.length (nN0_ / 1) ∧ H' = ([⟨N0_, encL E_u64 r0_, nN0_⟩] : List Own) ∧ S' = S := by
 unfold sweep_Fill_v1.f at e
 refine cal_of (c := c57) (N := 14) Tryd.func57 rfl rfl (by kernel_rfl) (rs := [.t 8]) (by kernel_rfl) (Nat.le_of_ble_eq_true rfl) ?_
 unfold c57
 refine wx mixed 1 [] 1 [] fun b58 => zWL [] ?_
 refine w_ ?_
 obtain ⟨t59, h60, e⟩ := bind_of e
 refine wxM mixed 1 [0] 0 [(4, spC 65 [9, (.const (vI 0)), 10, 11, 12] [[⟨b58, [vI rule1], 1⟩]] [] [1, 0] 2 (fun l_ => .slice (ad (l_.O 0)) t59.length ((l_.N 0) / 1)) (fun l_ => [[⟨(l_.O 0), encL E_u64 t59, (l_.N 0)⟩], [⟨b58, [vI rule1], 1⟩]]) (vs := [.slice a_l0 l0.length c_l0, vI 0, vI y2, vI w3, .func (.func 66) #[] #[vP b58 0]]) rfl (((sweep_masks_v1.ok hE_ h_l0 h60)).mono fun _ _ _ ⟨N61, nN61, h1_, h2_, h3_⟩ => ⟨un ⟨[nN61], [N61], [], [], []⟩, h1_.trans (by kernel_rfl), h2_.trans (by kernel_rfl), h3_⟩))] fun N61 nN61 => zWL [2] ?_
 refine w_ (w_ret ?_)
 obtain rfl := Option.some.inj e
 exact ⟨[_], _, S, ⟨(show gt _ _ = some _ from (by kernel_rfl)), trivial⟩, VS.lb [0] (by kernel_rfl), N61, nN61, rfl, rfl, rfl⟩

/-- plane.Dot -/
def c81 : C := (.seq (.reg [oq 3 (.box 0), oq 4 (.box 1), oq 5 (.box 2), oq 6 (.mv (.const (vI 0)))]) (.seq (.drw [oq 9 (.ld (some 2) 4), oq 10 (.ld (some 2) 3), oq 11 (.call 89 [9, 10]), oq 12 (.ld (some 2) 5), oq 13 (.ld (some 2) 3), oq 14 (.call 89 [12, 13]), oq 7 (.new [(vI 0), (vI 0)]), oq 8 (.new [(vI 0), (vI 0)]), ⟨none, .st 2 7 11, none⟩, ⟨none, .st 2 8 14, none⟩] [[], [], [0, 1], [], [], [3, 4, 2], [], [], [6, 2, 5, 0, 1, 2, 6, 7], [7, 5, 8, 0, 1, 2, 3, 4, 5, 6, 7, 8]]) (.seq (.reg [oq 15 (.pad 0 7), oq 16 (.ld none 15), oq 17 (.pad 0 8), oq 18 (.ld none 17), oq 19 (.bin .mul 16 18), oq 20 (.pad 1 7), oq 21 (.ld none 20), oq 22 (.pad 1 8), oq 23 (.ld none 22), oq 24 (.bin .mul 21 23), oq 25 (.bin .add 19 24), oq 6 (.mv 25)]) .ret)))
def plane_Dot.f (a0_X : Int) (a0_Y : Int) (b1_X : Int) (b1_Y : Int) (p2_X : Int) (p2_Y : Int) : Option (Int) := (plane_Sub.f b1_X b1_Y a0_X a0_Y).bind fun (t119, t120) => ((plane_Sub.f p2_X p2_Y a0_X a0_Y).bind fun (t122, t123) => (some (wr64 ((wr64 (t119 * t122)) + (wr64 (t120 * t123))))))
theorem plane_Dot.ok {S : Seal} {a0_X a0_Y b1_X b1_Y p2_X p2_Y r0_ : Int}{A_ : Int → Addr} (hE_ : EO gsE S A_ 157) (e : plane_Dot.f a0_X a0_Y b1_X b1_Y p2_X p2_Y = some r0_) :
    Cal Tryd.prog 81 [.agg #[vI a0_X, vI a0_Y], .agg #[vI b1_X, vI b1_Y], .agg #[vI p2_X, vI p2_Y]] [] S fun v H' S' => v = vI r0_ ∧ H' = [] ∧ S' = S := by
 unfold plane_Dot.f at e
 refine cal_of (c := c81) (N := 26) Tryd.func81 rfl rfl (by kernel_rfl) (rs := [.t 6]) (by kernel_rfl) (Nat.le_of_ble_eq_true rfl) ?_
 unfold c81
 obtain ⟨⟨t119, t120⟩, h121, e⟩ := bind_of e
 try dsimp only at e
 obtain ⟨⟨t122, t123⟩, h124, e⟩ := bind_of e
 try dsimp only at e
 refine wx mixed 3 [1, 0, 2, 0, 3, 4, 3, 4, 3, 4] 5 [(6, spP 89 [9, 10] (plane_Sub.ok hE_ h121)), (9, spP 89 [12, 13] (plane_Sub.ok hE_ h124))] fun b116 b117 b118 b125 b126 => zWL [4, 3, 2, 1, 0] ?_
 refine w_ (w_ret ?_)
 obtain rfl := Option.some.inj e
 exact ⟨[_], [], S, ⟨(show gt _ _ = some _ from (by kernel_rfl)), trivial⟩, VS.none, rfl, rfl, rfl⟩

/-- plane.Len2 -/
def c73 : C := (.seq (.reg [oq 2 (.box 0), oq 3 (.box 1), oq 4 (.mv (.const (vI 0)))]) (.seq (.reg [oq 5 (.ld (some 2) 2), oq 6 (.ld (some 2) 3), oq 7 (.ld (some 2) 3), oq 8 (.call 81 [5, 6, 7]), oq 4 (.mv 8)]) .ret))
def plane_Len2.f (a0_X : Int) (a0_Y : Int) (b1_X : Int) (b1_Y : Int) : Option (Int) := (plane_Dot.f a0_X a0_Y b1_X b1_Y b1_X b1_Y).bind fun t131 => (some t131)
theorem plane_Len2.ok {S : Seal} {a0_X a0_Y b1_X b1_Y r0_ : Int}{A_ : Int → Addr} (hE_ : EO gsE S A_ 157) (e : plane_Len2.f a0_X a0_Y b1_X b1_Y = some r0_) :
    Cal Tryd.prog 73 [.agg #[vI a0_X, vI a0_Y], .agg #[vI b1_X, vI b1_Y]] [] S fun v H' S' => v = vI r0_ ∧ H' = [] ∧ S' = S := by
 unfold plane_Len2.f at e
 refine cal_of (c := c73) (N := 9) Tryd.func73 rfl rfl (by kernel_rfl) (rs := [.t 4]) (by kernel_rfl) (Nat.le_of_ble_eq_true rfl) ?_
 unfold c73
 obtain ⟨t131, h132, e⟩ := bind_of e
 refine wx mixed 2 [0, 1, 1] 2 [(6, spP 81 [5, 6, 7] (plane_Dot.ok hE_ h132))] fun b129 b130 => zWL [1, 0] ?_
 refine w_ (w_ret ?_)
 obtain rfl := Option.some.inj e
 exact ⟨[_], [], S, ⟨(show gt _ _ = some _ from (by kernel_rfl)), trivial⟩, VS.none, rfl, rfl, rfl⟩

/-- plane.within$1 -/
def c91 : C := (.seq (.reg [oq 2 (.mv (.const (.int .u64 0)))]) (.seq (.reg [oq 3 (.mv 0), oq 4 (.mv 0), oq 5 (.un .neg 4), oq 6 (.mm true [3, 5]), oq 7 (.cnv .u64 6), oq 2 (.mv 7)]) .ret))
def plane_within_1.f (n0 : Int) : Option (Int) := some (wru64 (mx n0 (wr64 (0 - n0))))
theorem plane_within_1.ok {S : Seal} {n0 r0_ : Int}{A_ : Int → Addr} (hE_ : EO gsE S A_ 157) (e : plane_within_1.f n0 = some r0_) :
    Cal Tryd.prog 91 [vI n0] [] S fun v H' S' => v = .int .u64 r0_ ∧ H' = [] ∧ S' = S := by
 unfold plane_within_1.f at e
 refine cal_of (c := c91) (N := 8) Tryd.func91 rfl rfl (by kernel_rfl) (rs := [.t 2]) (by kernel_rfl) (Nat.le_of_ble_eq_true rfl) ?_
 unfold c91
 refine wx mixed 2 [] 0 [] (zWL [] ?_)
 refine w_ (w_ret ?_)
 obtain rfl := Option.some.inj e
 exact ⟨[_], [], S, ⟨(show gt _ _ = some _ from (by kernel_rfl)), trivial⟩, VS.none, rfl, rfl, rfl⟩

/-- plane.within -/
def c87 : C := (.seq (.reg [oq 8 (.mv (.const (vB false)))]) (.seq (.reg [oq 9 (.mv (.func 91))]) (.seq (.reg [oq 15 (.mv 9), oq 16 (.mv 0), oq 17 (.clo 15 [16]), oq 18 (.mv 9), oq 19 (.mv 1), oq 20 (.clo 18 [19]), oq 21 (.call 82 [17, 20]), oq 14 (.mv 21), oq 22 (.xt 0 14), oq 23 (.xt 1 14), oq 10 (.mv 22), oq 11 (.mv 23)]) (.seq (.reg [oq 25 (.mv 9), oq 26 (.mv 2), oq 27 (.clo 25 [26]), oq 28 (.mv 9), oq 29 (.mv 3), oq 30 (.clo 28 [29]), oq 31 (.call 82 [27, 30]), oq 24 (.mv 31), oq 32 (.xt 0 24), oq 33 (.xt 1 24), oq 12 (.mv 32), oq 13 (.mv 33)]) (.seq (.reg [oq 34 (.mv 10), oq 35 (.mv 12), oq 36 (.bin .lss 34 35), oq 37 (.mv 36), ⟨(some 38), .mv 10, (some (37, false))⟩, ⟨(some 39), .mv 12, (some (37, false))⟩, ⟨(some 40), .bin .eql 38 39, (some (37, false))⟩, ⟨(some 41), .mv 40, (some (37, false))⟩, ⟨(some 42), .mv 11, (some (41, true))⟩, ⟨(some 43), .mv 13, (some (41, true))⟩, ⟨(some 44), .bin .leq 42 43, (some (41, true))⟩, ⟨(some 45), .pk 41 44 (.const (vB false)), (some (37, false))⟩, oq 46 (.pk 37 (.const (vB true)) 45), oq 8 (.mv 46)]) .ret)))))
def plane_within.f (a0 : Int) (b1 : Int) (c2 : Int) (d3 : Int) : Option (Bool) := (plane_within_1.f a0).bind fun t123 => ((plane_within_1.f b1).bind fun t125 => ((bits_Mul64.f t123 t125).bind fun (t127, t128) => ((plane_within_1.f c2).bind fun t130 => ((plane_within_1.f d3).bind fun t132 => ((bits_Mul64.f t130 t132).bind fun (t134, t135) => (if t127 < t134 then (some true) else (if t127 = t134 then (some (decide (t128 ≤ t135))) else (some false))))))))
theorem plane_within.ok {S : Seal} {a0 b1 c2 d3 : Int} {r0_ : Bool}{A_ : Int → Addr} (hE_ : EO gsE S A_ 157) (e : plane_within.f a0 b1 c2 d3 = some r0_) :
    Cal Tryd.prog 87 [vI a0, vI b1, vI c2, vI d3] [] S fun v H' S' => v = .bool r0_ ∧ H' = [] ∧ S' = S := by
 unfold plane_within.f at e
 refine cal_of (c := c87) (N := 47) Tryd.func87 rfl rfl (by kernel_rfl) (rs := [.t 8]) (by kernel_rfl) (Nat.le_of_ble_eq_true rfl) ?_
 unfold c87
 obtain ⟨t123, h124, e⟩ := bind_of e
 obtain ⟨t125, h126, e⟩ := bind_of e
 obtain ⟨⟨t127, t128⟩, h129, e⟩ := bind_of e
 try dsimp only at e
 obtain ⟨t130, h131, e⟩ := bind_of e
 obtain ⟨t132, h133, e⟩ := bind_of e
 obtain ⟨⟨t134, t135⟩, h136, e⟩ := bind_of e
 try dsimp only at e
 refine wx mixed 4 [] 0 [(4, spPc 91 #[] 15 [16] (vs := [vI a0]) (by kernel_rfl) (plane_within_1.ok hE_ h124)), (7, spPc 91 #[] 18 [19] (vs := [vI b1]) (by kernel_rfl) (plane_within_1.ok hE_ h126)), (8, spP 82 [17, 20] (bits_Mul64.ok h129)), (16, spPc 91 #[] 25 [26] (vs := [vI c2]) (by kernel_rfl) (plane_within_1.ok hE_ h131)), (19, spPc 91 #[] 28 [29] (vs := [vI d3]) (by kernel_rfl) (plane_within_1.ok hE_ h133)), (20, spP 82 [27, 30] (bits_Mul64.ok h136))] (zWL [] ?_)
 refine w_ ?_
 by_cases c137 : t127 < t134
 ·rw [if_pos c137] at e
  have c137b : (decide (t127 < t134)) = true := decide_eq_true c137
  refine wxM mixed 1 [] 0 [(2, spQ (.bin .lss 34 35) [.int .u64 t127, .int .u64 t134] (congrArg (fun t => some (Value.bool t)) c137b))] (zWL [] ?_)
  refine w_ (w_ret ?_)
  obtain rfl := Option.some.inj e
  exact ⟨[_], [], S, ⟨(show gt _ _ = some _ from (by kernel_rfl)), trivial⟩, VS.none, rfl, rfl, rfl⟩
 ·rw [if_neg c137] at e
  have c137b : (decide (t127 < t134)) = false := decide_eq_false c137
  by_cases c138 : t127 = t134
  ·rw [if_pos c138] at e
   have c138b : (t127 == t134) = true := beq_iff_eq.mpr c138
   refine wxM mixed 1 [] 0 [(2, spQ (.bin .lss 34 35) [.int .u64 t127, .int .u64 t134] (congrArg (fun t => some (Value.bool t)) c137b)), (6, spQ (.bin .eql 38 39) [.int .u64 t127, .int .u64 t134] (congrArg (fun t => some (Value.bool t)) c138b))] (zWL [] ?_)
   refine w_ (w_ret ?_)
   obtain rfl := Option.some.inj e
   exact ⟨[_], [], S, ⟨(show gt _ _ = some _ from (by kernel_rfl)), trivial⟩, VS.none, rfl, rfl, rfl⟩
  ·rw [if_neg c138] at e
   have c138b : (t127 == t134) = false := beq_eq_false_iff_ne.mpr c138
   refine wxM mixed 1 [] 0 [(2, spQ (.bin .lss 34 35) [.int .u64 t127, .int .u64 t134] (congrArg (fun t => some (Value.bool t)) c137b)), (6, spQ (.bin .eql 38 39) [.int .u64 t127, .int .u64 t134] (congrArg (fun t => some (Value.bool t)) c138b))] (zWL [] ?_)
   refine w_ (w_ret ?_)
   obtain rfl := Option.some.inj e
   exact ⟨[_], [], S, ⟨(show gt _ _ = some _ from (by kernel_rfl)), trivial⟩, VS.none, rfl, rfl, rfl⟩

/-- plane.Near -/
def c80 : C := (.seq (.reg [oq 4 (.box 0), oq 5 (.box 1), oq 6 (.box 2), oq 8 (.mv (.const (vB false)))]) (.seq (.drw [oq 12 (.ld (some 2) 4), oq 13 (.ld (some 2) 5), oq 14 (.ld (some 2) 6), oq 15 (.call 81 [12, 13, 14]), oq 16 (.ld (some 2) 4), oq 17 (.ld (some 2) 5), oq 18 (.call 73 [16, 17]), oq 9 (.mv 15), oq 10 (.mv 18)] [[], [], [], [0, 1, 2], [], [], [4, 5, 3], [3, 6, 0, 1, 2, 3], [6, 7, 0, 1, 2, 3, 4, 5, 6, 7]]) (.seq (.block 0 (.seq (.reg [oq 20 (.mv 9), oq 21 (.bin .leq 20 (.const (vI 0))), oq 19 (.mv 21)]) (.cond 19 (.seq (.reg [oq 22 (.ld (some 2) 4), oq 23 (.ld (some 2) 6), oq 24 (.call 73 [22, 23]), oq 25 (.mv 3), oq 26 (.mv 3), oq 27 (.call 87 [(.const (vI 4)), 24, 25, 26]), oq 8 (.mv 27)]) .ret) (.seq (.reg [oq 29 (.mv 9), oq 30 (.mv 10), oq 31 (.bin .geq 29 30), oq 28 (.mv 31)]) (.cond 28 (.seq (.reg [oq 32 (.ld (some 2) 5), oq 33 (.ld (some 2) 6), oq 34 (.call 73 [32, 33]), oq 35 (.mv 3), oq 36 (.mv 3), oq 37 (.call 87 [(.const (vI 4)), 34, 35, 36]), oq 8 (.mv 37)]) .ret) .skip))))) (.seq (.reg [oq 38 (.ld (some 2) 4), oq 39 (.ld (some 2) 5), oq 40 (.ld (some 2) 6), oq 41 (.call 88 [38, 39, 40]), oq 42 (.bin .mul (.const (vI 2)) 41), oq 11 (.mv 42)]) (.seq (.reg [oq 43 (.mv 11), oq 44 (.mv 11), oq 45 (.mv 3), oq 46 (.mv 3), oq 47 (.bin .mul 45 46), oq 48 (.mv 10), oq 49 (.call 87 [43, 44, 47, 48]), oq 8 (.mv 49)]) .ret)))))
def plane_Near.f (a0_X : Int) (a0_Y : Int) (b1_X : Int) (b1_Y : Int) (p2_X : Int) (p2_Y : Int) (w3 : Int) : Option (Bool) := (plane_Dot.f a0_X a0_Y b1_X b1_Y p2_X p2_Y).bind fun t116 => ((plane_Len2.f a0_X a0_Y b1_X b1_Y).bind fun t118 => (if t116 ≤ 0 then ((plane_Len2.f a0_X a0_Y p2_X p2_Y).bind fun t121 => ((plane_within.f 4 t121 w3 w3).bind fun t123 => (some t123))) else (if t116 ≥ t118 then ((plane_Len2.f b1_X b1_Y p2_X p2_Y).bind fun t126 => ((plane_within.f 4 t126 w3 w3).bind fun t128 => (some t128))) else ((plane_Cross.f a0_X a0_Y b1_X b1_Y p2_X p2_Y).bind fun t130 => ((plane_within.f (wr64 (2 * t130)) (wr64 (2 * t130)) (wr64 (w3 * w3)) t118).bind fun t132 => (some t132))))))
theorem plane_Near.ok {S : Seal} {a0_X a0_Y b1_X b1_Y p2_X p2_Y w3 : Int} {r0_ : Bool}{A_ : Int → Addr} (hE_ : EO gsE S A_ 157) (e : plane_Near.f a0_X a0_Y b1_X b1_Y p2_X p2_Y w3 = some r0_) :
    Cal Tryd.prog 80 [.agg #[vI a0_X, vI a0_Y], .agg #[vI b1_X, vI b1_Y], .agg #[vI p2_X, vI p2_Y], vI w3] [] S fun v H' S' => v = .bool r0_ ∧ H' = [] ∧ S' = S := by
 unfold plane_Near.f at e
 refine cal_of (c := c80) (N := 50) Tryd.func80 rfl rfl (by kernel_rfl) (rs := [.t 8]) (by kernel_rfl) (Nat.le_of_ble_eq_true rfl) ?_
 unfold c80
 obtain ⟨t116, h117, e⟩ := bind_of e
 obtain ⟨t118, h119, e⟩ := bind_of e
 refine wx mixed 2 [0, 1, 2, 0, 1] 3 [(7, spP 81 [12, 13, 14] (plane_Dot.ok hE_ h117)), (10, spP 73 [16, 17] (plane_Len2.ok hE_ h119))] fun b113 b114 b115 => zWL [] ?_
 refine w_ (w_seq (w_block ?_))
 by_cases c120 : t116 ≤ 0
 ·rw [if_pos c120] at e
  have c120b : (decide (t116 ≤ 0)) = true := decide_eq_true c120
  refine wxM mixed 1 [] 0 [(1, spQ (.bin .leq 20 (.const (vI 0))) [vI t116, vI 0] (congrArg (fun t => some (Value.bool t)) c120b))] (zWL [] ?_)
  refine w_ (w_ct (w_ ?_))
  obtain ⟨t121, h122, e⟩ := bind_of e
  obtain ⟨t123, h124, e⟩ := bind_of e
  refine wxM mixed 1 [2, 0] 0 [(2, spP 73 [22, 23] (plane_Len2.ok hE_ h122)), (5, spP 87 [(.const (vI 4)), 24, 25, 26] (plane_within.ok hE_ h124))] (zWL [0, 1, 2] ?_)
  refine w_ (w_ret ?_)
  obtain rfl := Option.some.inj e
  exact ⟨[_], [], S, ⟨(show gt _ _ = some _ from (by kernel_rfl)), trivial⟩, VS.none, rfl, rfl, rfl⟩
 ·rw [if_neg c120] at e
  have c120b : (decide (t116 ≤ 0)) = false := decide_eq_false c120
  refine wxM mixed 1 [] 0 [(1, spQ (.bin .leq 20 (.const (vI 0))) [vI t116, vI 0] (congrArg (fun t => some (Value.bool t)) c120b))] (zWL [] ?_)
  refine w_ (w_cf (w_ ?_))
  by_cases c125 : t116 ≥ t118
  ·rw [if_pos c125] at e
   have c125b : (decide (t116 ≥ t118)) = true := decide_eq_true c125
   refine wxM mixed 1 [] 0 [(2, spQ (.bin .geq 29 30) [vI t116, vI t118] (congrArg (fun t => some (Value.bool t)) c125b))] (zWL [] ?_)
   refine w_ (w_ct (w_ ?_))
   obtain ⟨t126, h127, e⟩ := bind_of e
   obtain ⟨t128, h129, e⟩ := bind_of e
   refine wxM mixed 1 [1, 0] 0 [(2, spP 73 [32, 33] (plane_Len2.ok hE_ h127)), (5, spP 87 [(.const (vI 4)), 34, 35, 36] (plane_within.ok hE_ h129))] (zWL [0, 1, 2] ?_)
   refine w_ (w_ret ?_)
   obtain rfl := Option.some.inj e
   exact ⟨[_], [], S, ⟨(show gt _ _ = some _ from (by kernel_rfl)), trivial⟩, VS.none, rfl, rfl, rfl⟩
  ·rw [if_neg c125] at e
   have c125b : (decide (t116 ≥ t118)) = false := decide_eq_false c125
   refine wqM mixed [] 0 .nrm [(2, spQ (.bin .geq 29 30) [vI t116, vI t118] (congrArg (fun t => some (Value.bool t)) c125b))] (zQL [] ?_)
   refine w_ ?_
   obtain ⟨t130, h131, e⟩ := bind_of e
   obtain ⟨t132, h133, e⟩ := bind_of e
   refine wxM mixed 2 [2, 1, 0] 0 [(3, spP 88 [38, 39, 40] (plane_Cross.ok hE_ h131)), (12, spP 87 [43, 44, 47, 48] (plane_within.ok hE_ h133))] (zWL [0, 1, 2] ?_)
   refine w_ (w_ret ?_)
   obtain rfl := Option.some.inj e
   exact ⟨[_], [], S, ⟨(show gt _ _ = some _ from (by kernel_rfl)), trivial⟩, VS.none, rfl, rfl, rfl⟩

/-- stroke.Near$1 -/
def c79 : C := (.seq (.reg [oq 3 (.box 0), oq 4 (.mv (.const (vB false)))]) (.seq (.reg [oq 5 (.pad 0 3), oq 6 (.ld (some 2) 5), oq 7 (.pad 2 3), oq 8 (.ld (some 2) 7), oq 9 (.ld (some 2) 1), oq 10 (.ld none 2), oq 11 (.call 80 [6, 8, 9, 10]), oq 4 (.mv 11)]) .ret))
def stroke_Near_1_v1.f (e0_0 : Int) (e0_1 : Int) (e0_2 : Int) (e0_3 : Int) (m0_0 : Int) (m0_1 : Int) (m1_0 : Int) : Option (Bool) := (plane_Near.f e0_0 e0_1 e0_2 e0_3 m0_0 m0_1 m1_0).bind fun t113 => (some t113)
theorem stroke_Near_1_v1.ok {S : Seal} {B0 B1 : Nat} {e0_0 e0_1 e0_2 e0_3 m0_0 m0_1 m1_0 : Int} {r0_ : Bool}{A_ : Int → Addr} (hE_ : EO gsE S A_ 157) (e : stroke_Near_1_v1.f e0_0 e0_1 e0_2 e0_3 m0_0 m0_1 m1_0 = some r0_) :
    Cal Tryd.prog 79 [.agg #[vI e0_0, vI e0_1, vI e0_2, vI e0_3], vP B0 0, vP B1 0] ([⟨B0, [vI m0_0, vI m0_1], 2⟩, ⟨B1, [vI m1_0], 1⟩] : List Own) S fun v H' S' => v = .bool r0_ ∧ H' = ([⟨B0, [vI m0_0, vI m0_1], 2⟩, ⟨B1, [vI m1_0], 1⟩] : List Own) ∧ S' = S := by
 unfold stroke_Near_1_v1.f at e
 refine cal_of (c := c79) (N := 12) Tryd.func79 rfl rfl (by kernel_rfl) (rs := [.t 4]) (by kernel_rfl) (Nat.le_of_ble_eq_true rfl) ?_
 unfold c79
 obtain ⟨t113, h114, e⟩ := bind_of e
 refine wx mixed 2 [2, 2, 0, 1] 1 [(8, spP 80 [6, 8, 9, 10] (plane_Near.ok hE_ h114))] fun b112 => zWL [2] ?_
 refine w_ (w_ret ?_)
 obtain rfl := Option.some.inj e
 exact ⟨[_], _, S, ⟨(show gt _ _ = some _ from (by kernel_rfl)), trivial⟩, VS.lb [0, 0] (by kernel_rfl), rfl, rfl, rfl⟩

/-- slices.IndexFunc[[]api.Edge,api.Edge] -/
def c86 : C := (.seq (.reg [oq 4 (.mv (.const (vI 0)))]) (.seq (.seq (.reg [oq 6 (.mv 0), oq 7 (.lns 6), oq 8 (.mv (.const (vI 0)))]) (.block 0 (.loop (.seq (.reg [oq 9 (.bin .lss 8 7)]) (.seq (.cond 9 .skip (.exit 0)) (.seq (.block 1 (.seq (.reg [oq 10 (.mv 8), oq 5 (.mv 10)]) (.seq (.reg [oq 11 (.mv 1), oq 12 (.mv 0), oq 13 (.mv 5), oq 14 (.ixs 4 12 13), oq 15 (.ld (some 4) 14), oq 16 (.clo 11 [15])]) (.cond 16 (.seq (.reg [oq 17 (.mv 5), oq 4 (.mv 17)]) .ret) .skip)))) (.reg [oq 18 (.bin .add 8 (.const (vI 1))), oq 8 (.mv 18)]))))))) (.seq (.reg [oq 4 (.mv (.const (vI (-1))))]) .ret)))
def api_Edge_v2.l0 : Nat → List (Int × Int × Int × Int) → Int → Int → Int → Int → Option ((Int) ⊕ (Unit))
  | 0, _, _, _, _, _ => none
  | k + 1, s0, m0_0, m0_1, m1_0, x97 => if x97 < (s0.length : Int) then ((lgt s0 x97).bind fun (x99, x100, x101, x102) => ((stroke_Near_1_v1.f x99 x100 x101 x102 m0_0 m0_1 m1_0).bind fun t112 => (if t112 = true then (some (.inl x97)) else (api_Edge_v2.l0 k s0 m0_0 m0_1 m1_0 (wr64 (x97 + 1)))))) else (some (.inr ()))
def api_Edge_v2.f (k : Nat) (s0 : List (Int × Int × Int × Int)) (m0_0 : Int) (m0_1 : Int) (m1_0 : Int) : Option (Int) := (api_Edge_v2.l0 k s0 m0_0 m0_1 m1_0 0 : Option ((Int) ⊕ (Unit))).bind fun s_ => match s_ with | .inl q116 => some q116 | .inr _ => (some (-1))
theorem api_Edge_v2.ok {S : Seal} {B0 B1 k : Nat} {s0 : List (Int × Int × Int × Int)} {m0_0 m0_1 m1_0 r0_ : Int}{A_ : Int → Addr} (hE_ : EO gsE S A_ 157) {a_s0 : Option Addr} {c_s0 : Nat} (h_s0 : SlE S E_i644 s0 a_s0) (e : api_Edge_v2.f k s0 m0_0 m0_1 m1_0 = some r0_) :
    Cal Tryd.prog 86 [.slice a_s0 s0.length c_s0, .func (.func 79) #[] #[vP B0 0, vP B1 0]] ([⟨B0, [vI m0_0, vI m0_1], 2⟩, ⟨B1, [vI m1_0], 1⟩] : List Own) S fun v H' S' => v = vI r0_ ∧ H' = ([⟨B0, [vI m0_0, vI m0_1], 2⟩, ⟨B1, [vI m1_0], 1⟩] : List Own) ∧ S' = S := by
 unfold api_Edge_v2.f at e
 refine cal_of (c := c86) (N := 19) Tryd.func86 rfl rfl (by kernel_rfl) (rs := [.t 4]) (by kernel_rfl) (Nat.le_of_ble_eq_true rfl) ?_
 unfold c86
 refine wx mixed 1 [] 0 [] (zWL [] ?_)
 refine w_ ?_
 obtain ⟨s96, e95, e⟩ := bind_of e
 refine w_cut [] (fun σ_ H_ S_ => ∃ u_ : Unit, s96 = .inr u_ ∧ [] = σ_ ∧ ([⟨B0, [vI m0_0, vI m0_1], 2⟩, ⟨B1, [vI m1_0], 1⟩] : List Own) = H_ ∧ S = S_) ?_ ?_
 ·refine w_ ?_
  refine wxM mixed 1 [] 0 [] (zWL [] ?_)
  refine w_ (w_block (wk [(0, .slice a_s0 s0.length c_s0), (1, .func (.func 79) #[] #[vP B0 0, vP B1 0]), (7, vI (s0.length : Int)), (8, vI 0)] (w_vs (H' := ([⟨B0, [vI m0_0, vI m0_1], 2⟩, ⟨B1, [vI m1_0], 1⟩] : List Own)) (S' := S) (VS.lb [0, 0] (by kernel_rfl)) ?_)))
  refine w_loop (fun n_ σ_ H_ S_ => ∃ (x97 : Int), [(0, .slice a_s0 s0.length c_s0), (1, .func (.func 79) #[] #[vP B0 0, vP B1 0]), (7, vI (s0.length : Int)), (8, vI x97)] = σ_ ∧ ([⟨B0, [vI m0_0, vI m0_1], 2⟩, ⟨B1, [vI m1_0], 1⟩] : List Own) = H_ ∧ S = S_ ∧ api_Edge_v2.l0 n_ s0 m0_0 m0_1 m1_0 x97 = some s96) _ ⟨0, rfl, rfl, rfl, e95⟩ ?_
  rintro n115 σ_ H_ S_ ⟨x97, rfl, rfl, rfl, e95⟩
  cases n115 with
  | zero => rw [api_Edge_v2.l0.eq_1] at e95; cases e95
  | succ k_ =>
   rw [api_Edge_v2.l0.eq_2] at e95
   by_cases c98 : x97 < (s0.length : Int)
   ·rw [if_pos c98] at e95
    have c98b : (decide (x97 < (s0.length : Int))) = true := decide_eq_true c98
    refine wx mixed 2 [] 0 [(0, spQ (.bin .lss 8 7) [vI x97, vI (s0.length : Int)] (congrArg (fun t => some (Value.bool t)) c98b))] (zWL [] ?_)
    refine w_ (w_seq (w_block ?_))
    refine wxM mixed 1 [] 0 [] (zWL [] ?_)
    refine w_ ?_
    obtain ⟨⟨x99, x100, x101, x102⟩, hx103, e95⟩ := bind_of e95
    try dsimp only at e95
    obtain ⟨lb104, lo105, ll106, la107, lS108, lv109, lz110, lu111⟩ := sle_get (E := E_i644) h_s0 hx103
    obtain ⟨t112, h113, e95⟩ := bind_of e95
    cases t112 with
    | true =>
     rw [if_pos rfl] at e95
     refine wxM mixed 1 [0, 1] 0 [(3, spQ (.ixs 4 12 13) [.slice a_s0 s0.length c_s0, vI x97] (ixs_sle rfl rfl la107 lz110 lu111)), (4, spLn 14 lb104 (lo105 + (x97).toNat * 4 + 0) 4 [] (vs := [vI x99, vI x100, vI x101, vI x102]) (fun _ => .sealed lS108 (subl_sub lv109 (by kernel_rfl)))), (5, spRc 79 #[vP B0 0, vP B1 0] 11 [15] [.agg #[vI x99, vI x100, vI x101, vI x102]] [[⟨B0, [vI m0_0, vI m0_1], 2⟩], [⟨B1, [vI m1_0], 1⟩]] (by kernel_rfl) (stroke_Near_1_v1.ok hE_ h113) rfl)] (zWL [] ?_)
     refine w_ (w_ct (w_ ?_))
     refine wxM mixed 1 [] 0 [] (zWL [] ?_)
     refine w_ (w_ret ?_)
     obtain rfl := Option.some.inj e95
     obtain rfl := Option.some.inj e
     exact ⟨[_], _, S, ⟨(show gt _ _ = some _ from (by kernel_rfl)), trivial⟩, VS.lb [0, 0] (by kernel_rfl), rfl, rfl, rfl⟩
    | false =>
     rw [if_neg (by decide)] at e95
     refine wqM mixed [0, 1] 0 .nrm [(3, spQ (.ixs 4 12 13) [.slice a_s0 s0.length c_s0, vI x97] (ixs_sle rfl rfl la107 lz110 lu111)), (4, spLn 14 lb104 (lo105 + (x97).toNat * 4 + 0) 4 [] (vs := [vI x99, vI x100, vI x101, vI x102]) (fun _ => .sealed lS108 (subl_sub lv109 (by kernel_rfl)))), (5, spRc 79 #[vP B0 0, vP B1 0] 11 [15] [.agg #[vI x99, vI x100, vI x101, vI x102]] [[⟨B0, [vI m0_0, vI m0_1], 2⟩], [⟨B1, [vI m1_0], 1⟩]] (by kernel_rfl) (stroke_Near_1_v1.ok hE_ h113) rfl)] (zQL [] ?_)
     refine w_ ?_
     refine wqM mixed [] 0 .nrm [] (zQL [] ?_)
     exact ⟨k_, Nat.lt_succ_self _, _, _, S, keep_sub [0, 1, 7, 8] (by kernel_rfl), VS.lb [0, 0] (by kernel_rfl), wr64 (x97 + 1), rfl, rfl, rfl, e95⟩
   ·rw [if_neg c98] at e95
    have c98b : (decide (x97 < (s0.length : Int))) = false := decide_eq_false c98
    refine wq mixed [] 0 (.ex 0) [(0, spQ (.bin .lss 8 7) [vI x97, vI (s0.length : Int)] (congrArg (fun t => some (Value.bool t)) c98b))] (zQL [] ?_)
    obtain rfl := Option.some.inj e95
    exact ⟨_, S, VS.lb [0, 0] (by kernel_rfl), (), rfl, by kernel_rfl, rfl, rfl⟩
 ·rintro σ_ H_ S_ ⟨u_, rfl, rfl, rfl, rfl⟩
  dsimp only at e
  refine wx mixed 1 [] 0 [] (zWL [] ?_)
  refine w_ (w_ret ?_)
  obtain rfl := Option.some.inj e
  exact ⟨[_], _, S, ⟨(show gt _ _ = some _ from (by kernel_rfl)), trivial⟩, VS.lb [0, 0] (by kernel_rfl), rfl, rfl, rfl⟩

/-- slices.ContainsFunc[[]api.Edge,api.Edge] -/
def c78 : C := (.seq (.reg [oq 4 (.mv (.const (vB false)))]) (.seq (.reg [oq 5 (.mv 0), oq 6 (.mv 1), oq 7 (.call 86 [5, 6]), oq 8 (.bin .geq 7 (.const (vI 0))), oq 4 (.mv 8)]) .ret))
def api_Edge_v1.f (k : Nat) (s0 : List (Int × Int × Int × Int)) (m0_0 : Int) (m0_1 : Int) (m1_0 : Int) : Option (Bool) := (api_Edge_v2.f k s0 m0_0 m0_1 m1_0).bind fun t94 => (some (decide (t94 ≥ 0)))
theorem api_Edge_v1.ok {S : Seal} {B0 B1 k : Nat} {s0 : List (Int × Int × Int × Int)} {m0_0 m0_1 m1_0 : Int} {r0_ : Bool}{A_ : Int → Addr} (hE_ : EO gsE S A_ 157) {a_s0 : Option Addr} {c_s0 : Nat} (h_s0 : SlE S E_i644 s0 a_s0) (e : api_Edge_v1.f k s0 m0_0 m0_1 m1_0 = some r0_) :
    Cal Tryd.prog 78 [.slice a_s0 s0.length c_s0, .func (.func 79) #[] #[vP B0 0, vP B1 0]] ([⟨B0, [vI m0_0, vI m0_1], 2⟩, ⟨B1, [vI m1_0], 1⟩] : List Own) S fun v H' S' => v = .bool r0_ ∧ H' = ([⟨B0, [vI m0_0, vI m0_1], 2⟩, ⟨B1, [vI m1_0], 1⟩] : List Own) ∧ S' = S := by
 unfold api_Edge_v1.f at e
 refine cal_of (c := c78) (N := 9) Tryd.func78 rfl rfl (by kernel_rfl) (rs := [.t 4]) (by kernel_rfl) (Nat.le_of_ble_eq_true rfl) ?_
 unfold c78
 obtain ⟨t94, h95, e⟩ := bind_of e
 refine wx mixed 2 [0, 1] 0 [(3, spR 86 [5, 6] [[⟨B0, [vI m0_0, vI m0_1], 2⟩], [⟨B1, [vI m1_0], 1⟩]] (vs := [.slice a_s0 s0.length c_s0, .func (.func 79) #[] #[vP B0 0, vP B1 0]]) (api_Edge_v2.ok hE_ h_s0 h95) rfl)] (zWL [] ?_)
 refine w_ (w_ret ?_)
 obtain rfl := Option.some.inj e
 exact ⟨[_], _, S, ⟨(show gt _ _ = some _ from (by kernel_rfl)), trivial⟩, VS.lb [0, 0] (by kernel_rfl), rfl, rfl, rfl⟩

/-- stroke.Near -/
def c69 : C := (.seq (.reg [oq 4 (.box 1), oq 5 (.box 2), oq 6 (.mv (.const (vB false)))]) (.seq (.reg [oq 7 (.mv 0), oq 8 (.mkf 79 [5, 4]), oq 9 (.call 78 [7, 8]), oq 6 (.mv 9)]) .ret))
def stroke_Near_v1.f (k : Nat) (l0 : List (Int × Int × Int × Int)) (w1 : Int) (p2_0 : Int) (p2_1 : Int) : Option (Bool) := (api_Edge_v1.f k l0 p2_0 p2_1 w1).bind fun t94 => (some t94)
theorem stroke_Near_v1.ok {S : Seal} {k : Nat} {l0 : List (Int × Int × Int × Int)} {w1 p2_0 p2_1 : Int} {r0_ : Bool}{A_ : Int → Addr} (hE_ : EO gsE S A_ 157) {a_l0 : Option Addr} {c_l0 : Nat} (h_l0 : SlE S E_i644 l0 a_l0) (e : stroke_Near_v1.f k l0 w1 p2_0 p2_1 = some r0_) :
    Cal Tryd.prog 69 [.slice a_l0 l0.length c_l0, vI w1, .agg #[vI p2_0, vI p2_1]] [] S fun v H' S' => v = .bool r0_ ∧ H' = [] ∧ S' = S := by
 unfold stroke_Near_v1.f at e
 refine cal_of (c := c69) (N := 10) Tryd.func69 rfl rfl (by kernel_rfl) (rs := [.t 6]) (by kernel_rfl) (Nat.le_of_ble_eq_true rfl) ?_
 unfold c69
 refine wx mixed 1 [] 2 [] fun b92 b93 => zWL [] ?_
 refine w_ ?_
 obtain ⟨t94, h95, e⟩ := bind_of e
 refine wxM mixed 1 [0, 1] 0 [(2, spR 78 [7, 8] [[⟨b93, [vI p2_0, vI p2_1], 2⟩], [⟨b92, [vI w1], 1⟩]] (vs := [.slice a_l0 l0.length c_l0, .func (.func 79) #[] #[vP b93 0, vP b92 0]]) (api_Edge_v1.ok hE_ h_l0 h95) rfl)] (zWL [0, 1] ?_)
 refine w_ (w_ret ?_)
 obtain rfl := Option.some.inj e
 exact ⟨[_], [], S, ⟨(show gt _ _ = some _ from (by kernel_rfl)), trivial⟩, VS.none, rfl, rfl, rfl⟩

/-- sweep.Line$1 -/
def c68 : C := (.seq (.reg [oq 4 (.box 1), oq 5 (.mv (.const (vB false)))]) (.seq (.reg [oq 6 (.mv 0), oq 7 (.ld none 2), oq 8 (.ld (some 2) 4), oq 9 (.call 69 [6, 7, 8]), oq 5 (.mv 9)]) .ret))
def sweep_Line_1_v1.f (k : Nat) (l0 : List (Int × Int × Int × Int)) (p1_0 : Int) (p1_1 : Int) (m0_0 : Int) : Option (Bool) := (stroke_Near_v1.f k l0 m0_0 p1_0 p1_1).bind fun t92 => (some t92)
theorem sweep_Line_1_v1.ok {S : Seal} {B0 k : Nat} {l0 : List (Int × Int × Int × Int)} {p1_0 p1_1 m0_0 : Int} {r0_ : Bool}{A_ : Int → Addr} (hE_ : EO gsE S A_ 157) {a_l0 : Option Addr} {c_l0 : Nat} (h_l0 : SlE S E_i644 l0 a_l0) (e : sweep_Line_1_v1.f k l0 p1_0 p1_1 m0_0 = some r0_) :
    Cal Tryd.prog 68 [.slice a_l0 l0.length c_l0, .agg #[vI p1_0, vI p1_1], vP B0 0] ([⟨B0, [vI m0_0], 1⟩] : List Own) S fun v H' S' => v = .bool r0_ ∧ H' = ([⟨B0, [vI m0_0], 1⟩] : List Own) ∧ S' = S := by
 unfold sweep_Line_1_v1.f at e
 refine cal_of (c := c68) (N := 10) Tryd.func68 rfl rfl (by kernel_rfl) (rs := [.t 5]) (by kernel_rfl) (Nat.le_of_ble_eq_true rfl) ?_
 unfold c68
 obtain ⟨t92, h93, e⟩ := bind_of e
 refine wx mixed 2 [0, 1] 1 [(5, spP 69 [6, 7, 8] (vs := [.slice a_l0 l0.length c_l0, vI m0_0, .agg #[vI p1_0, vI p1_1]]) (stroke_Near_v1.ok hE_ h_l0 h93))] fun b91 => zWL [1] ?_
 refine w_ (w_ret ?_)
 obtain rfl := Option.some.inj e
 exact ⟨[_], _, S, ⟨(show gt _ _ = some _ from (by kernel_rfl)), trivial⟩, VS.lb [0] (by kernel_rfl), rfl, rfl, rfl⟩
end Go.Proofs.YtobjaddicodiaaaDoor.QRenderRows
