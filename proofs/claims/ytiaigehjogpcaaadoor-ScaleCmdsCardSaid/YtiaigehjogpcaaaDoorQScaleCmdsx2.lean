/- Functions of the program as Lean functions, each with the proof of its walk. Written by gen.py, a program of these sessions. -/
import Derived.Test.YtiaigehjogpcaaaDoorQScaleCmdsx1
namespace Go.Proofs.YtiaigehjogpcaaaDoor.QScaleCmds
open Go Go.RowKit Go.Proofs.YtiaigehjogpcaaaDoorE
set_option linter.unusedVariables false
set_option maxRecDepth 100000
set_option maxHeartbeats 8000000
def fixed_Down.f (a0 : Int) (b1 : Int) : Option (Int) := if b1 < 1 then (some 0) else (if b1 = 0 then none else (if (Int.tmod a0 b1) < 0 then (some (wr64 ((wr64 (Int.tdiv a0 b1)) - 1))) else (some (wr64 (Int.tdiv a0 b1)))))
theorem fixed_Down.ok {S : Seal} {a0 : Int} {b1 : Int} {r0_ : Int}{A_ : Int → Addr} (hE_ : EO [0, 1] S A_ 94) (e : fixed_Down.f a0 b1 = some r0_) :
    Cal Tryd.prog 21 [.int .i64 a0, .int .i64 b1] [] S fun v H' S' => v = .int .i64 r0_ ∧ H' = [] ∧ S' = S := by
  unfold fixed_Down.f at e
  refine cal_of (c := c21) (N := 18) Tryd.func21 rfl rfl (by kernel_rfl) (rs := [.t 4]) (by kernel_rfl) (Nat.le_of_ble_eq_true rfl) ?_
  unfold c21
  refine w_seq ?_
  refine w_reg fun all => ?_
  refine t_qz 1 [0, 1] (σ' := [(0, .int .i64 a0), (1, .int .i64 b1)]) (by kernel_rfl) ?_
  refine t_end ?_
  show W _ _ _ _ _ _ _
  refine w_seq ?_
  refine w_seq ?_
  refine w_reg fun all => ?_
  by_cases c444 : b1 < 1
  · rw [if_pos c444] at e
    have c444b : (decide (b1 < 1)) = true := decide_eq_true c444
    refine t_qz 1 [0, 1, 6] (σ' := [(0, .int .i64 a0), (1, .int .i64 b1), (6, .int .i64 b1)]) (by kernel_rfl) ?_
    refine t_v (dv_quiet rfl (congrArg (fun t => some (Value.bool t)) c444b)) ?_
    refine t_keep [0, 1, 7] (σ' := [(0, .int .i64 a0), (1, .int .i64 b1), (7, .bool true)]) (by kernel_rfl) ?_
    refine t_end ?_
    show W _ _ _ _ _ _ _
    refine w_cond rfl (fun _ => ?_) (fun c_ => by cases c_)
    show W _ _ _ _ _ _ _
    refine w_seq ?_
    refine w_reg fun all => ?_
    refine t_qz 1 [4] (σ' := [(4, .int .i64 0)]) (by kernel_rfl) ?_
    refine t_end ?_
    show W _ _ _ _ _ _ _
    refine w_ret ?_
    obtain rfl := Option.some.inj e
    exact ⟨[.int .i64 0], [], S, ⟨rfl, trivial⟩, VS.none, rfl, rfl, rfl⟩
  · rw [if_neg c444] at e
    have c444b : (decide (b1 < 1)) = false := decide_eq_false c444
    refine t_qz 1 [0, 1, 6] (σ' := [(0, .int .i64 a0), (1, .int .i64 b1), (6, .int .i64 b1)]) (by kernel_rfl) ?_
    refine t_v (dv_quiet rfl (congrArg (fun t => some (Value.bool t)) c444b)) ?_
    refine t_keep [0, 1, 7] (σ' := [(0, .int .i64 a0), (1, .int .i64 b1), (7, .bool false)]) (by kernel_rfl) ?_
    refine t_end ?_
    show W _ _ _ _ _ _ _
    refine w_cond rfl (fun c_ => by cases c_) (fun _ => ?_)
    show W _ _ _ _ _ _ _
    refine w_skip ?_
    show W _ _ _ _ _ _ _
    refine w_seq ?_
    refine w_reg fun all => ?_
    have c445 : ¬ b1 = 0 := by
      intro h_; rw [if_pos h_] at e; cases e
    rw [if_neg c445] at e
    refine t_qz 2 [0, 1, 8, 9] (σ' := [(0, .int .i64 a0), (1, .int .i64 b1), (8, .int .i64 a0), (9, .int .i64 b1)]) (by kernel_rfl) ?_
    refine t_v (.quiet rfl (qv_quo rfl rfl c445)) ?_
    refine t_qz 1 [0, 1, 5] (σ' := [(0, .int .i64 a0), (1, .int .i64 b1), (5, .int .i64 (wr64 (Int.tdiv a0 b1)))]) (by kernel_rfl) ?_
    refine t_end ?_
    show W _ _ _ _ _ _ _
    refine w_seq ?_
    refine w_seq ?_
    refine w_reg fun all => ?_
    refine t_qz 2 [5, 11, 12] (σ' := [(5, .int .i64 (wr64 (Int.tdiv a0 b1))), (11, .int .i64 a0), (12, .int .i64 b1)]) (by kernel_rfl) ?_
    refine t_v (.quiet rfl (qv_rem rfl rfl c445)) ?_
    by_cases c446 : (Int.tmod a0 b1) < 0
    · rw [if_pos c446] at e
      have c446b : (decide ((Int.tmod a0 b1) < 0)) = true := decide_eq_true c446
      refine t_v (dv_quiet rfl (congrArg (fun t => some (Value.bool t)) c446b)) ?_
      refine t_keep [5, 14] (σ' := [(5, .int .i64 (wr64 (Int.tdiv a0 b1))), (14, .bool true)]) (by kernel_rfl) ?_
      refine t_end ?_
      show W _ _ _ _ _ _ _
      refine w_cond rfl (fun _ => ?_) (fun c_ => by cases c_)
      show W _ _ _ _ _ _ _
      refine w_reg fun all => ?_
      refine t_qz 3 [5] (σ' := [(5, .int .i64 (wr64 ((wr64 (Int.tdiv a0 b1)) - 1)))]) (by kernel_rfl) ?_
      refine t_end ?_
      show W _ _ _ _ _ _ _
      refine w_seq ?_
      refine w_reg fun all => ?_
      refine t_qz 2 [4] (σ' := [(4, .int .i64 (wr64 ((wr64 (Int.tdiv a0 b1)) - 1)))]) (by kernel_rfl) ?_
      refine t_end ?_
      show W _ _ _ _ _ _ _
      refine w_ret ?_
      obtain rfl := Option.some.inj e
      exact ⟨[.int .i64 (wr64 ((wr64 (Int.tdiv a0 b1)) - 1))], [], S, ⟨rfl, trivial⟩, VS.none, rfl, rfl, rfl⟩
    · rw [if_neg c446] at e
      have c446b : (decide ((Int.tmod a0 b1) < 0)) = false := decide_eq_false c446
      refine t_v (dv_quiet rfl (congrArg (fun t => some (Value.bool t)) c446b)) ?_
      refine t_keep [5, 14] (σ' := [(5, .int .i64 (wr64 (Int.tdiv a0 b1))), (14, .bool false)]) (by kernel_rfl) ?_
      refine t_end ?_
      show W _ _ _ _ _ _ _
      refine w_cond rfl (fun c_ => by cases c_) (fun _ => ?_)
      show W _ _ _ _ _ _ _
      refine w_skip ?_
      show W _ _ _ _ _ _ _
      refine w_seq ?_
      refine w_reg fun all => ?_
      refine t_qz 2 [4] (σ' := [(4, .int .i64 (wr64 (Int.tdiv a0 b1)))]) (by kernel_rfl) ?_
      refine t_end ?_
      show W _ _ _ _ _ _ _
      refine w_ret ?_
      obtain rfl := Option.some.inj e
      exact ⟨[.int .i64 (wr64 (Int.tdiv a0 b1))], [], S, ⟨rfl, trivial⟩, VS.none, rfl, rfl, rfl⟩

def fixed_Round.f (a0 : Int) (b1 : Int) : Option (Int) := if b1 < 1 then (some 0) else ((fixed_Down.f a0 b1).bind fun t447 => (if (wr64 (a0 - (wr64 (t447 * b1)))) ≥ (wr64 (b1 - (wr64 (a0 - (wr64 (t447 * b1)))))) then (some (wr64 (t447 + 1))) else (some t447)))
theorem fixed_Round.ok {S : Seal} {a0 : Int} {b1 : Int} {r0_ : Int}{A_ : Int → Addr} (hE_ : EO [0, 1] S A_ 94) (e : fixed_Round.f a0 b1 = some r0_) :
    Cal Tryd.prog 20 [.int .i64 a0, .int .i64 b1] [] S fun v H' S' => v = .int .i64 r0_ ∧ H' = [] ∧ S' = S := by
  unfold fixed_Round.f at e
  refine cal_of (c := c20) (N := 25) Tryd.func20 rfl rfl (by kernel_rfl) (rs := [.t 4]) (by kernel_rfl) (Nat.le_of_ble_eq_true rfl) ?_
  unfold c20
  refine w_seq ?_
  refine w_reg fun all => ?_
  refine t_qz 1 [0, 1] (σ' := [(0, .int .i64 a0), (1, .int .i64 b1)]) (by kernel_rfl) ?_
  refine t_end ?_
  show W _ _ _ _ _ _ _
  refine w_seq ?_
  refine w_seq ?_
  refine w_reg fun all => ?_
  by_cases c443 : b1 < 1
  · rw [if_pos c443] at e
    have c443b : (decide (b1 < 1)) = true := decide_eq_true c443
    refine t_qz 1 [0, 1, 7] (σ' := [(0, .int .i64 a0), (1, .int .i64 b1), (7, .int .i64 b1)]) (by kernel_rfl) ?_
    refine t_v (dv_quiet rfl (congrArg (fun t => some (Value.bool t)) c443b)) ?_
    refine t_keep [0, 1, 8] (σ' := [(0, .int .i64 a0), (1, .int .i64 b1), (8, .bool true)]) (by kernel_rfl) ?_
    refine t_end ?_
    show W _ _ _ _ _ _ _
    refine w_cond rfl (fun _ => ?_) (fun c_ => by cases c_)
    show W _ _ _ _ _ _ _
    refine w_seq ?_
    refine w_reg fun all => ?_
    refine t_qz 1 [4] (σ' := [(4, .int .i64 0)]) (by kernel_rfl) ?_
    refine t_end ?_
    show W _ _ _ _ _ _ _
    refine w_ret ?_
    obtain rfl := Option.some.inj e
    exact ⟨[.int .i64 0], [], S, ⟨rfl, trivial⟩, VS.none, rfl, rfl, rfl⟩
  · rw [if_neg c443] at e
    have c443b : (decide (b1 < 1)) = false := decide_eq_false c443
    refine t_qz 1 [0, 1, 7] (σ' := [(0, .int .i64 a0), (1, .int .i64 b1), (7, .int .i64 b1)]) (by kernel_rfl) ?_
    refine t_v (dv_quiet rfl (congrArg (fun t => some (Value.bool t)) c443b)) ?_
    refine t_keep [0, 1, 8] (σ' := [(0, .int .i64 a0), (1, .int .i64 b1), (8, .bool false)]) (by kernel_rfl) ?_
    refine t_end ?_
    show W _ _ _ _ _ _ _
    refine w_cond rfl (fun c_ => by cases c_) (fun _ => ?_)
    show W _ _ _ _ _ _ _
    refine w_skip ?_
    show W _ _ _ _ _ _ _
    refine w_seq ?_
    refine w_reg fun all => ?_
    obtain ⟨t447, h448, e⟩ := bind_of e
    refine t_qz 2 [0, 1, 9, 10] (σ' := [(0, .int .i64 a0), (1, .int .i64 b1), (9, .int .i64 a0), (10, .int .i64 b1)]) (by kernel_rfl) ?_
    refine t_v (.call (vs := [.int .i64 a0, .int .i64 b1]) rfl rfl (by kernel_rfl) (fixed_Down.ok hE_ h448)) ?_
    refine t_qz 1 [0, 1, 5] (σ' := [(0, .int .i64 a0), (1, .int .i64 b1), (5, .int .i64 t447)]) (by kernel_rfl) ?_
    refine t_end ?_
    show W _ _ _ _ _ _ _
    refine w_seq ?_
    refine w_seq ?_
    refine w_reg fun all => ?_
    refine t_qz 6 [1, 5, 6] (σ' := [(1, .int .i64 b1), (5, .int .i64 t447), (6, .int .i64 (wr64 (a0 - (wr64 (t447 * b1)))))]) (by kernel_rfl) ?_
    refine t_end ?_
    show W _ _ _ _ _ _ _
    refine w_seq ?_
    refine w_reg fun all => ?_
    by_cases c449 : (wr64 (a0 - (wr64 (t447 * b1)))) ≥ (wr64 (b1 - (wr64 (a0 - (wr64 (t447 * b1))))))
    · rw [if_pos c449] at e
      have c449b : (decide ((wr64 (a0 - (wr64 (t447 * b1)))) ≥ (wr64 (b1 - (wr64 (a0 - (wr64 (t447 * b1)))))))) = true := decide_eq_true c449
      refine t_qz 4 [5, 17, 20] (σ' := [(5, .int .i64 t447), (17, .int .i64 (wr64 (a0 - (wr64 (t447 * b1))))), (20, .int .i64 (wr64 (b1 - (wr64 (a0 - (wr64 (t447 * b1)))))))]) (by kernel_rfl) ?_
      refine t_v (dv_quiet rfl (congrArg (fun t => some (Value.bool t)) c449b)) ?_
      refine t_keep [5, 21] (σ' := [(5, .int .i64 t447), (21, .bool true)]) (by kernel_rfl) ?_
      refine t_end ?_
      show W _ _ _ _ _ _ _
      refine w_cond rfl (fun _ => ?_) (fun c_ => by cases c_)
      show W _ _ _ _ _ _ _
      refine w_reg fun all => ?_
      refine t_qz 3 [5] (σ' := [(5, .int .i64 (wr64 (t447 + 1)))]) (by kernel_rfl) ?_
      refine t_end ?_
      show W _ _ _ _ _ _ _
      refine w_seq ?_
      refine w_reg fun all => ?_
      refine t_qz 2 [4] (σ' := [(4, .int .i64 (wr64 (t447 + 1)))]) (by kernel_rfl) ?_
      refine t_end ?_
      show W _ _ _ _ _ _ _
      refine w_ret ?_
      obtain rfl := Option.some.inj e
      exact ⟨[.int .i64 (wr64 (t447 + 1))], [], S, ⟨rfl, trivial⟩, VS.none, rfl, rfl, rfl⟩
    · rw [if_neg c449] at e
      have c449b : (decide ((wr64 (a0 - (wr64 (t447 * b1)))) ≥ (wr64 (b1 - (wr64 (a0 - (wr64 (t447 * b1)))))))) = false := decide_eq_false c449
      refine t_qz 4 [5, 17, 20] (σ' := [(5, .int .i64 t447), (17, .int .i64 (wr64 (a0 - (wr64 (t447 * b1))))), (20, .int .i64 (wr64 (b1 - (wr64 (a0 - (wr64 (t447 * b1)))))))]) (by kernel_rfl) ?_
      refine t_v (dv_quiet rfl (congrArg (fun t => some (Value.bool t)) c449b)) ?_
      refine t_keep [5, 21] (σ' := [(5, .int .i64 t447), (21, .bool false)]) (by kernel_rfl) ?_
      refine t_end ?_
      show W _ _ _ _ _ _ _
      refine w_cond rfl (fun c_ => by cases c_) (fun _ => ?_)
      show W _ _ _ _ _ _ _
      refine w_skip ?_
      show W _ _ _ _ _ _ _
      refine w_seq ?_
      refine w_reg fun all => ?_
      refine t_qz 2 [4] (σ' := [(4, .int .i64 t447)]) (by kernel_rfl) ?_
      refine t_end ?_
      show W _ _ _ _ _ _ _
      refine w_ret ?_
      obtain rfl := Option.some.inj e
      exact ⟨[.int .i64 t447], [], S, ⟨rfl, trivial⟩, VS.none, rfl, rfl, rfl⟩

def scale_At_v2.f (i0_0 : Int) (i0_1 : Int) (i0_2 : Int) (w1 : Int) (v2 : Int) : Option (Int) := if i0_2 < 0 then none else ((fixed_Round.f (wr64 ((wr64 (v2 * w1)) * 256)) (wr64 (i0_0 * 2 ^ (min (Int.toNat i0_2) 64)))).bind fun t450 => (some t450))
theorem scale_At_v2.ok {S : Seal} {i0_0 : Int} {i0_1 : Int} {i0_2 : Int} {w1 : Int} {v2 : Int} {r0_ : Int}{A_ : Int → Addr} (hE_ : EO [0, 1] S A_ 94) {a_i0_3 : Option Addr} {n_i0_3 c_i0_3 : Nat} {a_i0_4 : Option Addr} {n_i0_4 c_i0_4 : Nat} (e : scale_At_v2.f i0_0 i0_1 i0_2 w1 v2 = some r0_) :
    Cal Tryd.prog 7 [.agg #[.int .i64 i0_0, .int .i64 i0_1, .int .i64 i0_2, .slice a_i0_3 n_i0_3 c_i0_3, .slice a_i0_4 n_i0_4 c_i0_4], .int .i64 w1, .int .i64 v2] [] S fun v H' S' => v = .int .i64 r0_ ∧ H' = [] ∧ S' = S := by
  unfold scale_At_v2.f at e
  refine cal_of (c := c7) (N := 17) Tryd.func7 rfl rfl (by kernel_rfl) (rs := [.t 6]) (by kernel_rfl) (Nat.le_of_ble_eq_true rfl) ?_
  unfold c7
  refine w_seq ?_
  refine w_reg fun all => ?_
  refine t_a (.box rfl rfl rfl) fun b441 fb441 sb441 => ?_
  refine t_qz 1 [1, 2, 3] (σ' := [(1, .int .i64 w1), (2, .int .i64 v2), (3, .pointer (some ⟨b441, 0, none⟩))]) (by kernel_rfl) ?_
  refine t_end ?_
  show W _ _ _ _ _ _ _
  refine w_seq ?_
  refine w_reg fun all => ?_
  refine t_qz 5 [3, 10, 11] (σ' := [(3, .pointer (some ⟨b441, 0, none⟩)), (10, .int .i64 (wr64 ((wr64 (v2 * w1)) * 256))), (11, .pointer (some ⟨b441, 0, none⟩))]) (by kernel_rfl) ?_
  refine t_v (.ld1 rfl rfl rfl (.at 0 rfl rfl)) ?_
  refine t_qz 1 [10, 12, 13] (σ' := [(10, .int .i64 (wr64 ((wr64 (v2 * w1)) * 256))), (12, .int .i64 i0_0), (13, .pointer (some ⟨b441, 2, none⟩))]) (by kernel_rfl) ?_
  refine t_v (.ld1 rfl rfl rfl (.at 0 rfl rfl)) ?_
  have c442 : ¬ i0_2 < 0 := by
    intro h_; rw [if_pos h_] at e; cases e
  rw [if_neg c442] at e
  refine t_v (.quiet rfl (qv_shl rfl rfl c442)) ?_
  obtain ⟨t450, h451, e⟩ := bind_of e
  refine t_v (.call (vs := [.int .i64 (wr64 ((wr64 (v2 * w1)) * 256)), .int .i64 (wr64 (i0_0 * 2 ^ (min (Int.toNat i0_2) 64)))]) rfl rfl (by kernel_rfl) (fixed_Round.ok hE_ h451)) ?_
  refine t_qz 1 [6] (σ' := [(6, .int .i64 t450)]) (by kernel_rfl) ?_
  refine t_end ?_
  show W _ _ _ _ _ _ _
  refine w_ret ?_
  obtain rfl := Option.some.inj e
  exact ⟨[.int .i64 t450], [], S, ⟨rfl, trivial⟩, VS.none, rfl, rfl, rfl⟩

/-- scale.Cmd$1 -/
def c33 : C :=
  (.seq (.reg [⟨(some 3), .box (.tmp 0), none⟩,
     ⟨(some 4), .new [(.int .i64 0), (.int .i64 0)], none⟩])
  (.seq (.drw [⟨(some 5), .ld (some 5) (.tmp 1), none⟩,
     ⟨(some 6), .ld none (.tmp 2), none⟩,
     ⟨(some 7), .pad 0 (.tmp 3), none⟩,
     ⟨(some 8), .ld none (.tmp 7), none⟩,
     ⟨(some 9), .call 7 [(.tmp 5), (.tmp 6), (.tmp 8)], none⟩,
     ⟨(some 10), .ld (some 5) (.tmp 1), none⟩,
     ⟨(some 11), .ld none (.tmp 2), none⟩,
     ⟨(some 12), .pad 1 (.tmp 3), none⟩,
     ⟨(some 13), .ld none (.tmp 12), none⟩,
     ⟨(some 14), .call 7 [(.tmp 10), (.tmp 11), (.tmp 13)], none⟩,
     ⟨(some 15), .bld [(.int .i64 0), (.int .i64 0)] [(0, 1, (.tmp 9)), (1, 1, (.tmp 14))], none⟩,
     ⟨none, .st 2 (.tmp 4) (.tmp 15), none⟩] [[], [], [], [2], [0, 1, 3], [], [], [], [7], [5, 6, 8, 4], [4, 9], [10, 9, 0, 1, 2, 3, 4, 5, 6, 7, 8, 9, 10]])
  .ret))
def scale_Cmd_1_v1.f (p0_0 : Int) (p0_1 : Int) (m0_0 : Int) (m0_1 : Int) (m0_2 : Int) (m1_0 : Int) : Option (Int × Int) := (scale_At_v2.f m0_0 m0_1 m0_2 m1_0 p0_0).bind fun t441 => ((scale_At_v2.f m0_0 m0_1 m0_2 m1_0 p0_1).bind fun t443 => (some (t441, t443)))
theorem scale_Cmd_1_v1.ok {S : Seal} {B0 : Nat} {B1 : Nat} {p0_0 : Int} {p0_1 : Int} {m0_0 : Int} {m0_1 : Int} {m0_2 : Int} {m1_0 : Int} {r0_ : Int} {r1_ : Int}{A_ : Int → Addr} (hE_ : EO [0, 1] S A_ 94) {a_m0_3 : Option Addr} {n_m0_3 c_m0_3 : Nat} {a_m0_4 : Option Addr} {n_m0_4 c_m0_4 : Nat} (e : scale_Cmd_1_v1.f p0_0 p0_1 m0_0 m0_1 m0_2 m1_0 = some (r0_, r1_)) :
    Cal Tryd.prog 33 [.agg #[.int .i64 p0_0, .int .i64 p0_1], .pointer (some ⟨B0, 0, none⟩), .pointer (some ⟨B1, 0, none⟩)] ([⟨B0, [.int .i64 m0_0, .int .i64 m0_1, .int .i64 m0_2, .slice a_m0_3 n_m0_3 c_m0_3, .slice a_m0_4 n_m0_4 c_m0_4], 5⟩, ⟨B1, [.int .i64 m1_0], 1⟩] : List Own) S fun v H' S' => v = .agg #[.int .i64 r0_, .int .i64 r1_] ∧ H' = ([⟨B0, [.int .i64 m0_0, .int .i64 m0_1, .int .i64 m0_2, .slice a_m0_3 n_m0_3 c_m0_3, .slice a_m0_4 n_m0_4 c_m0_4], 5⟩, ⟨B1, [.int .i64 m1_0], 1⟩] : List Own) ∧ S' = S := by
  unfold scale_Cmd_1_v1.f at e
  refine cal_of (c := c33) (N := 16) Tryd.func33 rfl rfl (by kernel_rfl) (rs := [.cn 2 4]) (by kernel_rfl) (Nat.le_of_ble_eq_true rfl) ?_
  unfold c33
  refine w_seq ?_
  refine w_reg fun all => ?_
  refine t_a (.box rfl rfl rfl) fun b439 fb439 sb439 => ?_
  refine t_a (.new rfl rfl) fun b440 fb440 sb440 => ?_
  refine t_keep [1, 2, 3, 4] (σ' := [(1, .pointer (some ⟨B0, 0, none⟩)), (2, .pointer (some ⟨B1, 0, none⟩)), (3, .pointer (some ⟨b439, 0, none⟩)), (4, .pointer (some ⟨b440, 0, none⟩))]) (by kernel_rfl) ?_
  refine t_end ?_
  show W _ _ _ _ _ _ _
  refine w_seq ?_
  obtain ⟨t441, h442, e⟩ := bind_of e
  obtain ⟨t443, h444, e⟩ := bind_of e
  refine w_drwE mixed 11 [.v (.agg #[.int .i64 m0_0, .int .i64 m0_1, .int .i64 m0_2, .slice a_m0_3 n_m0_3 c_m0_3, .slice a_m0_4 n_m0_4 c_m0_4]), .v (.int .i64 m1_0), .v (.pointer (some ⟨b439, 0, none⟩)), .v (.int .i64 p0_0), .v (.int .i64 t441), .v (.agg #[.int .i64 m0_0, .int .i64 m0_1, .int .i64 m0_2, .slice a_m0_3 n_m0_3 c_m0_3, .slice a_m0_4 n_m0_4 c_m0_4]), .v (.int .i64 m1_0), .v (.pointer (some ⟨b439, 1, none⟩)), .v (.int .i64 p0_1), .v (.int .i64 t443), .v (.agg #[.int .i64 t441, .int .i64 t443])] (by kernel_rfl) ?_ ?_
  · refine .cons (.ldn rfl rfl rfl (.at 2 rfl rfl)) ?_
    refine .cons (.ld1 rfl rfl rfl (.at 3 rfl rfl)) ?_
    refine DI.sq 1 (by kernel_rfl) rfl ?_
    refine .cons (.ld1 rfl rfl rfl (.at 1 rfl rfl)) ?_
    refine .cons (.call (vs := [.agg #[.int .i64 m0_0, .int .i64 m0_1, .int .i64 m0_2, .slice a_m0_3 n_m0_3 c_m0_3, .slice a_m0_4 n_m0_4 c_m0_4], .int .i64 m1_0, .int .i64 p0_0]) rfl rfl (by kernel_rfl) (scale_At_v2.ok hE_ h442)) ?_
    refine .cons (.ldn rfl rfl rfl (.at 2 rfl rfl)) ?_
    refine .cons (.ld1 rfl rfl rfl (.at 3 rfl rfl)) ?_
    refine DI.sq 1 (by kernel_rfl) rfl ?_
    refine .cons (.ld1 rfl rfl rfl (.at 1 rfl rfl)) ?_
    refine .cons (.call (vs := [.agg #[.int .i64 m0_0, .int .i64 m0_1, .int .i64 m0_2, .slice a_m0_3 n_m0_3 c_m0_3, .slice a_m0_4 n_m0_4 c_m0_4], .int .i64 m1_0, .int .i64 p0_1]) rfl rfl (by kernel_rfl) (scale_At_v2.ok hE_ h444)) ?_
    refine DI.sq 1 (by kernel_rfl) rfl ?_
    exact .nil
  refine fk_q 11 [4, 15] (σ' := [(4, .pointer (some ⟨b440, 0, none⟩)), (15, .agg #[.int .i64 t441, .int .i64 t443])]) t_more (by kernel_rfl) ?_
  refine fk_nil fun all => ?_
  refine t_sti 0 (cs := [.int .i64 t441, .int .i64 t443]) rfl rfl rfl rfl rfl rfl rfl rfl rfl ?_
  refine t_keep [4] (σ' := [(4, .pointer (some ⟨b440, 0, none⟩))]) (by kernel_rfl) ?_
  refine t_end ?_
  show W _ _ _ _ _ _ _
  refine w_ret ?_
  simp only [Option.some.injEq, Prod.mk.injEq] at e
  obtain ⟨rfl, rfl⟩ := e
  exact ⟨[.agg #[.int .i64 t441, .int .i64 t443]], ([⟨B0, [.int .i64 m0_0, .int .i64 m0_1, .int .i64 m0_2, .slice a_m0_3 n_m0_3 c_m0_3, .slice a_m0_4 n_m0_4 c_m0_4], 5⟩, ⟨B1, [.int .i64 m1_0], 1⟩] : List Own), S, ⟨⟨_, _, _, rfl, .at 0 rfl rfl, rfl⟩, trivial⟩, VS.sel [2, 2] (by kernel_rfl), rfl, rfl, rfl⟩

/-- scale.Cmd -/
def c15 : C :=
  (.seq (.reg [⟨(some 3), .box (.tmp 0), none⟩,
     ⟨(some 4), .box (.tmp 1), none⟩,
     ⟨(some 5), .box (.tmp 2), none⟩,
     ⟨(some 6), .new [(.int .i64 0), (.int .i64 0), (.int .i64 0), (.int .i64 0), (.int .i64 0), (.int .i64 0), (.int .i64 0), (.int .i64 0), (.int .i64 0), (.int .i64 0), (.slice none 0 0)], none⟩])
  (.seq (.reg [⟨(some 15), .mkf 33 [(.tmp 3), (.tmp 4)], none⟩,
     ⟨(some 7), .mv (.tmp 15), none⟩])
  (.seq (.drw [⟨(some 16), .mv (.tmp 7), none⟩,
     ⟨(some 17), .pad 3 (.tmp 5), none⟩,
     ⟨(some 18), .pad 3 (.tmp 17), none⟩,
     ⟨(some 19), .ld (some 2) (.tmp 18), none⟩,
     ⟨(some 20), .clo (.tmp 16) [(.tmp 19)], none⟩,
     ⟨(some 21), .mv (.tmp 7), none⟩,
     ⟨(some 22), .pad 3 (.tmp 5), none⟩,
     ⟨(some 23), .pad 5 (.tmp 22), none⟩,
     ⟨(some 24), .ld (some 2) (.tmp 23), none⟩,
     ⟨(some 25), .clo (.tmp 21) [(.tmp 24)], none⟩,
     ⟨(some 26), .pad 3 (.tmp 5), none⟩,
     ⟨(some 27), .pad 3 (.tmp 26), none⟩,
     ⟨none, .st 2 (.tmp 27) (.tmp 20), none⟩,
     ⟨(some 28), .pad 3 (.tmp 5), none⟩,
     ⟨(some 29), .pad 5 (.tmp 28), none⟩,
     ⟨none, .st 2 (.tmp 29) (.tmp 25), none⟩] [[], [], [1], [2], [0, 3], [], [], [6], [7], [5, 8, 4], [0, 1, 2, 3, 4, 6, 7, 8], [10, 0, 1, 2, 3, 4, 6, 7, 8], [11, 4, 9, 0, 1, 2, 3, 4, 6, 7, 8], [0, 1, 2, 3, 4, 5, 6, 7, 8, 9, 10, 11, 12], [13, 0, 1, 2, 3, 4, 5, 6, 7, 8, 9, 10, 11, 12], [14, 9, 12, 0, 1, 2, 3, 4, 5, 6, 7, 8, 9, 10, 11, 12]])
  (.seq (.seq (.reg [⟨(some 30), .pad 3 (.tmp 5), none⟩,
      ⟨(some 31), .pad 0 (.tmp 30), none⟩,
      ⟨(some 32), .ld none (.tmp 31), none⟩,
      ⟨(some 33), .bin .eql (.tmp 32) (.const (.int .i64 2)), none⟩])
   (.cond (.tmp 33)
    (.reg [⟨(some 34), .pad 3 (.tmp 5), none⟩,
       ⟨(some 35), .pad 5 (.tmp 34), none⟩,
       ⟨(some 36), .pad 0 (.tmp 35), none⟩,
       ⟨(some 37), .ld none (.tmp 36), none⟩,
       ⟨(some 38), .mm true [(.tmp 37), (.const (.int .i64 1))], none⟩,
       ⟨(some 39), .pad 3 (.tmp 5), none⟩,
       ⟨(some 40), .pad 5 (.tmp 39), none⟩,
       ⟨(some 41), .pad 0 (.tmp 40), none⟩,
       ⟨none, .st 1 (.tmp 41) (.tmp 38), none⟩])
    .skip))
  (.seq (.seq (.reg [⟨(some 42), .pad 0 (.tmp 5), none⟩,
      ⟨(some 43), .ld none (.tmp 42), none⟩,
      ⟨(some 44), .bin .eql (.tmp 43) (.const (.int .i64 2)), none⟩])
   (.cond (.tmp 44)
    (.reg [⟨(some 45), .ld (some 5) (.tmp 3), none⟩,
       ⟨(some 46), .ld none (.tmp 4), none⟩,
       ⟨(some 47), .pad 2 (.tmp 5), none⟩,
       ⟨(some 48), .ld none (.tmp 47), none⟩,
       ⟨(some 49), .call 7 [(.tmp 45), (.tmp 46), (.tmp 48)], none⟩,
       ⟨(some 50), .mm true [(.tmp 49), (.const (.int .i64 1))], none⟩,
       ⟨(some 51), .pad 2 (.tmp 5), none⟩,
       ⟨none, .st 1 (.tmp 51) (.tmp 50), none⟩])
    .skip))
  (.seq (.reg [⟨(some 52), .pad 10 (.tmp 5), none⟩,
     ⟨(some 53), .ld none (.tmp 52), none⟩,
     ⟨(some 8), .mv (.tmp 53), none⟩])
  (.seq (.reg [⟨(some 54), .pad 10 (.tmp 5), none⟩,
     ⟨none, .st 1 (.tmp 54) (.const (.slice none 0 0)), none⟩])
  (.seq (.seq (.reg [⟨(some 55), .mv (.tmp 8), none⟩,
      ⟨(some 56), .lns (.tmp 55), none⟩,
      ⟨(some 57), .mv (.const (.int .i64 0)), none⟩])
   (.block 0 (.loop (.seq (.reg [⟨(some 58), .bin .lss (.tmp 57) (.tmp 56), none⟩])
     (.seq (.cond (.tmp 58)
       .skip
       (.exit 0))
     (.seq (.block 1 (.seq (.reg [⟨(some 59), .ixs 4 (.tmp 55) (.tmp 57), none⟩,
          ⟨(some 60), .ld (some 4) (.tmp 59), none⟩,
          ⟨(some 10), .new [(.int .i64 0), (.int .i64 0), (.slice none 0 0), (.bool false)], none⟩,
          ⟨none, .st 4 (.tmp 10) (.tmp 60), none⟩])
       (.seq (.drw [⟨(some 61), .mv (.tmp 7), none⟩,
          ⟨(some 62), .pad 0 (.tmp 10), none⟩,
          ⟨(some 63), .ld (some 2) (.tmp 62), none⟩,
          ⟨(some 64), .clo (.tmp 61) [(.tmp 63)], none⟩,
          ⟨(some 65), .pad 3 (.tmp 10), none⟩,
          ⟨(some 66), .ld none (.tmp 65), none⟩,
          ⟨(some 67), .bld [(.int .i64 0), (.int .i64 0), (.slice none 0 0), (.bool false)] [(0, 2, (.tmp 64)), (3, 1, (.tmp 66))], none⟩,
          ⟨(some 11), .new [(.int .i64 0), (.int .i64 0), (.slice none 0 0), (.bool false)], none⟩,
          ⟨none, .st 4 (.tmp 11) (.tmp 67), none⟩] [[], [], [1], [0, 2], [], [4], [3, 5], [], [7, 6, 3, 0, 1, 2, 3, 4, 5, 6, 7]])
       (.seq (.seq (.reg [⟨(some 68), .pad 2 (.tmp 10), none⟩,
           ⟨(some 69), .ld none (.tmp 68), none⟩,
           ⟨(some 70), .lns (.tmp 69), none⟩,
           ⟨(some 71), .mv (.const (.int .i64 0)), none⟩])
        (.block 2 (.loop (.seq (.reg [⟨(some 72), .bin .lss (.tmp 71) (.tmp 70), none⟩])
          (.seq (.cond (.tmp 72)
            .skip
            (.exit 2))
          (.seq (.block 3 (.seq (.reg [⟨(some 73), .ixs 7 (.tmp 69) (.tmp 71), none⟩,
               ⟨(some 74), .ld (some 7) (.tmp 73), none⟩,
               ⟨(some 13), .new [(.int .i64 0), (.int .i64 0), (.int .i64 0), (.int .i64 0), (.int .i64 0), (.int .i64 0), (.int .i64 0)], none⟩,
               ⟨none, .st 7 (.tmp 13) (.tmp 74), none⟩])
            (.seq (.seq (.reg [⟨(some 75), .mv (.const (.int .i64 0)), none⟩])
             (.block 4 (.loop (.seq (.reg [⟨(some 76), .bin .lss (.tmp 75) (.const (.int .i64 3)), none⟩])
               (.seq (.cond (.tmp 76)
                 .skip
                 (.exit 4))
               (.seq (.block 5 (.seq (.reg [⟨(some 77), .mv (.tmp 75), none⟩,
                    ⟨(some 14), .mv (.tmp 77), none⟩])
                 (.reg [⟨(some 78), .mv (.tmp 14), none⟩,
                   ⟨(some 79), .mv (.tmp 7), none⟩,
                   ⟨(some 80), .mv (.tmp 14), none⟩,
                   ⟨(some 81), .pad 1 (.tmp 13), none⟩,
                   ⟨(some 82), .ixa 2 3 (.tmp 81) (.tmp 80), none⟩,
                   ⟨(some 83), .ld (some 2) (.tmp 82), none⟩,
                   ⟨(some 84), .clo (.tmp 79) [(.tmp 83)], none⟩,
                   ⟨(some 85), .pad 1 (.tmp 13), none⟩,
                   ⟨(some 86), .ixa 2 3 (.tmp 85) (.tmp 78), none⟩,
                   ⟨none, .st 2 (.tmp 86) (.tmp 84), none⟩])))
               (.reg [⟨(some 87), .bin .add (.tmp 75) (.const (.int .i64 1)), none⟩,
                 ⟨(some 75), .mv (.tmp 87), none⟩])))))))
            (.reg [⟨(some 88), .pad 2 (.tmp 11), none⟩,
              ⟨(some 89), .ld none (.tmp 88), none⟩,
              ⟨(some 90), .ld (some 7) (.tmp 13), none⟩,
              ⟨(some 91), .bsl [(.int .i64 0), (.int .i64 0), (.int .i64 0), (.int .i64 0), (.int .i64 0), (.int .i64 0), (.int .i64 0)] 1 [(0, 7, (.tmp 90))], none⟩,
              ⟨(some 92), .app 56 7 56 [(.int .i64 0), (.int .i64 0), (.int .i64 0), (.int .i64 0), (.int .i64 0), (.int .i64 0), (.int .i64 0)] (.tmp 89) (.tmp 91), none⟩,
              ⟨(some 93), .pad 2 (.tmp 11), none⟩,
              ⟨none, .st 1 (.tmp 93) (.tmp 92), none⟩]))))
          (.reg [⟨(some 94), .bin .add (.tmp 71) (.const (.int .i64 1)), none⟩,
            ⟨(some 71), .mv (.tmp 94), none⟩])))))))
       (.reg [⟨(some 95), .pad 10 (.tmp 5), none⟩,
         ⟨(some 96), .ld none (.tmp 95), none⟩,
         ⟨(some 97), .ld (some 4) (.tmp 11), none⟩,
         ⟨(some 98), .bsl [(.int .i64 0), (.int .i64 0), (.slice none 0 0), (.bool false)] 1 [(0, 4, (.tmp 97))], none⟩,
         ⟨(some 99), .app 53 4 48 [(.int .i64 0), (.int .i64 0), (.slice none 0 0), (.bool false)] (.tmp 96) (.tmp 98), none⟩,
         ⟨(some 100), .pad 10 (.tmp 5), none⟩,
         ⟨none, .st 1 (.tmp 100) (.tmp 99), none⟩])))))
     (.reg [⟨(some 101), .bin .add (.tmp 57) (.const (.int .i64 1)), none⟩,
       ⟨(some 57), .mv (.tmp 101), none⟩])))))))
  (.seq (.reg [⟨(some 102), .ld (some 11) (.tmp 5), none⟩,
     ⟨none, .st 11 (.tmp 6) (.tmp 102), none⟩])
  .ret)))))))))
def scale_Cmd_v1.l1 : Nat → Int → Int → Int → Int → List (Int × Int × Int × Int × Int × Int × Int) → Int → List (Int × Int × Int × Int × Int × Int × Int) → Option (List (Int × Int × Int × Int × Int × Int × Int))
  | 0, _, _, _, _, _, _, _ => none
  | k + 1, i0_0, i0_1, i0_2, w1, x469, x491, y493 => if x491 < (x469.length : Int) then (((lgt x469 x491).bind fun (x498, x499, x500, x501, x502, x503, x504) => (((scale_Cmd_1_v1.f x499 x500 i0_0 i0_1 i0_2 w1).bind fun (t518, t519) => ((scale_Cmd_1_v1.f x501 x502 i0_0 i0_1 i0_2 w1).bind fun (t521, t522) => ((scale_Cmd_1_v1.f x503 x504 i0_0 i0_1 i0_2 w1).bind fun (t524, t525) => (some (t518, t519, t521, t522, t524, t525)))) : Option (Int × Int × Int × Int × Int × Int)).bind fun (x527, x528, x529, x530, x531, x532) => ((lapp y493 ([(x498, x527, x528, x529, x530, x531, x532)] : List (Int × Int × Int × Int × Int × Int × Int))).bind fun y534 => (some y534))) : Option (List (Int × Int × Int × Int × Int × Int × Int))).bind fun y538 => (scale_Cmd_v1.l1 k i0_0 i0_1 i0_2 w1 x469 (wr64 (x491 + 1)) y538)) else (some y493)
def scale_Cmd_v1.l0 : Nat → Int → Int → Int → Int → List (Int × Int × List (Int × Int × Int × Int × Int × Int × Int) × Bool) → Int → List (Int × Int × List (Int × Int × Int × Int × Int × Int × Int) × Bool) → Option (List (Int × Int × List (Int × Int × Int × Int × Int × Int × Int) × Bool))
  | 0, _, _, _, _, _, _, _ => none
  | k + 1, i0_0, i0_1, i0_2, w1, c2_10, x460, y462 => if x460 < (c2_10.length : Int) then (((lgt c2_10 x460).bind fun (x467, x468, x469, x470) => ((scale_Cmd_1_v1.f x467 x468 i0_0 i0_1 i0_2 w1).bind fun (t484, t485) => ((scale_Cmd_v1.l1 k i0_0 i0_1 i0_2 w1 x469 0 ([] : List (Int × Int × Int × Int × Int × Int × Int)) : Option (List (Int × Int × Int × Int × Int × Int × Int))).bind fun y542 => ((lapp y462 ([(t484, t485, y542, x470)] : List (Int × Int × List (Int × Int × Int × Int × Int × Int × Int) × Bool))).bind fun y544 => (some y544)))) : Option (List (Int × Int × List (Int × Int × Int × Int × Int × Int × Int) × Bool))).bind fun y548 => (scale_Cmd_v1.l0 k i0_0 i0_1 i0_2 w1 c2_10 (wr64 (x460 + 1)) y548)) else (some y462)
def scale_Cmd_v1.f (k : Nat) (i0_0 : Int) (i0_1 : Int) (i0_2 : Int) (w1 : Int) (c2_0 : Int) (c2_1 : Int) (c2_2 : Int) (c2_3 : Int) (c2_4 : Int) (c2_5 : Int) (c2_6 : Int) (c2_7 : Int) (c2_8 : Int) (c2_9 : Int) (c2_10 : List (Int × Int × List (Int × Int × Int × Int × Int × Int × Int) × Bool)) : Option (Int × Int × Int × Int × Int × Int × Int × Int × Int × Int × List (Int × Int × List (Int × Int × Int × Int × Int × Int × Int) × Bool)) := (scale_Cmd_1_v1.f c2_6 c2_7 i0_0 i0_1 i0_2 w1).bind fun (t439, t440) => ((scale_Cmd_1_v1.f c2_8 c2_9 i0_0 i0_1 i0_2 w1).bind fun (t442, t443) => ((if c2_3 = 2 then (some (mx t442 1)) else (some t442) : Option (Int)).bind fun x449 => ((if c2_0 = 2 then ((scale_At_v2.f i0_0 i0_1 i0_2 w1 c2_2).bind fun t454 => (some (mx t454 1))) else (some c2_2) : Option (Int)).bind fun x456 => ((scale_Cmd_v1.l0 k i0_0 i0_1 i0_2 w1 c2_10 0 ([] : List (Int × Int × List (Int × Int × Int × Int × Int × Int × Int) × Bool)) : Option (List (Int × Int × List (Int × Int × Int × Int × Int × Int × Int) × Bool))).bind fun y552 => (some (c2_0, c2_1, x456, c2_3, c2_4, c2_5, t439, t440, x449, t443, y552))))))
theorem scale_Cmd_v1.ok {S : Seal} {k : Nat} {i0_0 : Int} {i0_1 : Int} {i0_2 : Int} {w1 : Int} {c2_0 : Int} {c2_1 : Int} {c2_2 : Int} {c2_3 : Int} {c2_4 : Int} {c2_5 : Int} {c2_6 : Int} {c2_7 : Int} {c2_8 : Int} {c2_9 : Int} {c2_10 : List (Int × Int × List (Int × Int × Int × Int × Int × Int × Int) × Bool)} {r0_ : Int} {r1_ : Int} {r2_ : Int} {r3_ : Int} {r4_ : Int} {r5_ : Int} {r6_ : Int} {r7_ : Int} {r8_ : Int} {r9_ : Int} {r10_ : List (Int × Int × List (Int × Int × Int × Int × Int × Int × Int) × Bool)}{A_ : Int → Addr} (hE_ : EO [0, 1] S A_ 94) {a_i0_3 : Option Addr} {n_i0_3 c_i0_3 : Nat} {a_i0_4 : Option Addr} {n_i0_4 c_i0_4 : Nat} {a_c2_10 : Option Addr} {c_c2_10 : Nat} (h_c2_10 : SlN (rdOf [] S) N_0 c2_10 a_c2_10) (e : scale_Cmd_v1.f k i0_0 i0_1 i0_2 w1 c2_0 c2_1 c2_2 c2_3 c2_4 c2_5 c2_6 c2_7 c2_8 c2_9 c2_10 = some (r0_, r1_, r2_, r3_, r4_, r5_, r6_, r7_, r8_, r9_, r10_)) :
    Cal Tryd.prog 15 [.agg #[.int .i64 i0_0, .int .i64 i0_1, .int .i64 i0_2, .slice a_i0_3 n_i0_3 c_i0_3, .slice a_i0_4 n_i0_4 c_i0_4], .int .i64 w1, .agg #[.int .i64 c2_0, .int .i64 c2_1, .int .i64 c2_2, .int .i64 c2_3, .int .i64 c2_4, .int .i64 c2_5, .int .i64 c2_6, .int .i64 c2_7, .int .i64 c2_8, .int .i64 c2_9, .slice a_c2_10 c2_10.length c_c2_10]] [] S fun v H' S' => ∃ (a0_ : Option Addr) (c0_ : Nat) (NF_ : List Own), v = .agg #[.int .i64 r0_, .int .i64 r1_, .int .i64 r2_, .int .i64 r3_, .int .i64 r4_, .int .i64 r5_, .int .i64 r6_, .int .i64 r7_, .int .i64 r8_, .int .i64 r9_, .slice a0_ r10_.length c0_] ∧ H' = (NF_ ++ []) ∧ S' = S ∧ SlN (rdOf (NF_ ++ []) S) N_0 r10_ a0_ := by
  unfold scale_Cmd_v1.f at e
  refine cal_of (c := c15) (N := 103) Tryd.func15 rfl rfl (by kernel_rfl) (rs := [.cn 11 6]) (by kernel_rfl) (Nat.le_of_ble_eq_true rfl) ?_
  unfold c15
  refine w_seq ?_
  refine w_reg fun all => ?_
  refine t_a (.box rfl rfl rfl) fun b435 fb435 sb435 => ?_
  refine t_a (.box rfl rfl rfl) fun b436 fb436 sb436 => ?_
  refine t_a (.box rfl rfl rfl) fun b437 fb437 sb437 => ?_
  refine t_a (.new rfl rfl) fun b438 fb438 sb438 => ?_
  refine t_keep [3, 4, 5, 6] (σ' := [(3, .pointer (some ⟨b435, 0, none⟩)), (4, .pointer (some ⟨b436, 0, none⟩)), (5, .pointer (some ⟨b437, 0, none⟩)), (6, .pointer (some ⟨b438, 0, none⟩))]) (by kernel_rfl) ?_
  refine t_end ?_
  show W _ _ _ _ _ _ _
  refine w_seq ?_
  refine w_reg fun all => ?_
  refine t_qz 2 [3, 4, 5, 6, 7] (σ' := [(3, .pointer (some ⟨b435, 0, none⟩)), (4, .pointer (some ⟨b436, 0, none⟩)), (5, .pointer (some ⟨b437, 0, none⟩)), (6, .pointer (some ⟨b438, 0, none⟩)), (7, .func (.func 33) #[] #[.pointer (some ⟨b435, 0, none⟩), .pointer (some ⟨b436, 0, none⟩)])]) (by kernel_rfl) ?_
  refine t_end ?_
  show W _ _ _ _ _ _ _
  refine w_seq ?_
  obtain ⟨⟨t439, t440⟩, h441, e⟩ := bind_of e
  try dsimp only at e
  obtain ⟨⟨t442, t443⟩, h444, e⟩ := bind_of e
  try dsimp only at e
  refine w_drwE mixed 12 [.v (.func (.func 33) #[] #[.pointer (some ⟨b435, 0, none⟩), .pointer (some ⟨b436, 0, none⟩)]), .v (.pointer (some ⟨b437, 3, none⟩)), .v (.pointer (some ⟨b437, 6, none⟩)), .v (.agg #[.int .i64 c2_6, .int .i64 c2_7]), .v (.agg #[.int .i64 t439, .int .i64 t440]), .v (.func (.func 33) #[] #[.pointer (some ⟨b435, 0, none⟩), .pointer (some ⟨b436, 0, none⟩)]), .v (.pointer (some ⟨b437, 3, none⟩)), .v (.pointer (some ⟨b437, 8, none⟩)), .v (.agg #[.int .i64 c2_8, .int .i64 c2_9]), .v (.agg #[.int .i64 t442, .int .i64 t443]), .v (.pointer (some ⟨b437, 3, none⟩)), .v (.pointer (some ⟨b437, 6, none⟩))] (by kernel_rfl) ?_ ?_
  · refine DI.sq 3 (by kernel_rfl) rfl ?_
    refine .cons (.ldn rfl rfl rfl (.at 1 rfl rfl)) ?_
    refine .cons (.clor (vs := [.agg #[.int .i64 c2_6, .int .i64 c2_7]]) (caps := #[.pointer (some ⟨b435, 0, none⟩), .pointer (some ⟨b436, 0, none⟩)]) (A := ([⟨b435, [.int .i64 i0_0, .int .i64 i0_1, .int .i64 i0_2, .slice a_i0_3 n_i0_3 c_i0_3, .slice a_i0_4 n_i0_4 c_i0_4], 5⟩, ⟨b436, [.int .i64 w1], 1⟩] : List Own)) (F0 := ([⟨b438, [.int .i64 0, .int .i64 0, .int .i64 0, .int .i64 0, .int .i64 0, .int .i64 0, .int .i64 0, .int .i64 0, .int .i64 0, .int .i64 0, .slice none 0 0], 11⟩, ⟨b437, [.int .i64 c2_0, .int .i64 c2_1, .int .i64 c2_2, .int .i64 c2_3, .int .i64 c2_4, .int .i64 c2_5, .int .i64 c2_6, .int .i64 c2_7, .int .i64 c2_8, .int .i64 c2_9, .slice a_c2_10 c2_10.length c_c2_10], 11⟩] : List Own)) rfl rfl rfl (by kernel_rfl) (by kernel_rfl) (sel_perm (is := [3, 2]) (by kernel_rfl)) (scale_Cmd_1_v1.ok hE_ h441)) ?_
    refine DI.sq 3 (by kernel_rfl) rfl ?_
    refine .cons (.ldn rfl rfl rfl (.at 1 rfl rfl)) ?_
    refine .cons (.clor (vs := [.agg #[.int .i64 c2_8, .int .i64 c2_9]]) (caps := #[.pointer (some ⟨b435, 0, none⟩), .pointer (some ⟨b436, 0, none⟩)]) (A := ([⟨b435, [.int .i64 i0_0, .int .i64 i0_1, .int .i64 i0_2, .slice a_i0_3 n_i0_3 c_i0_3, .slice a_i0_4 n_i0_4 c_i0_4], 5⟩, ⟨b436, [.int .i64 w1], 1⟩] : List Own)) (F0 := ([⟨b438, [.int .i64 0, .int .i64 0, .int .i64 0, .int .i64 0, .int .i64 0, .int .i64 0, .int .i64 0, .int .i64 0, .int .i64 0, .int .i64 0, .slice none 0 0], 11⟩, ⟨b437, [.int .i64 c2_0, .int .i64 c2_1, .int .i64 c2_2, .int .i64 c2_3, .int .i64 c2_4, .int .i64 c2_5, .int .i64 c2_6, .int .i64 c2_7, .int .i64 c2_8, .int .i64 c2_9, .slice a_c2_10 c2_10.length c_c2_10], 11⟩] : List Own)) rfl rfl rfl (by kernel_rfl) (by kernel_rfl) (sel_perm (is := [3, 2]) (by kernel_rfl)) (scale_Cmd_1_v1.ok hE_ h444)) ?_
    refine DI.sq 2 (by kernel_rfl) rfl ?_
    exact .nil
  refine fk_q 12 [3, 4, 5, 6, 7, 20, 25, 27] (σ' := [(3, .pointer (some ⟨b435, 0, none⟩)), (4, .pointer (some ⟨b436, 0, none⟩)), (5, .pointer (some ⟨b437, 0, none⟩)), (6, .pointer (some ⟨b438, 0, none⟩)), (7, .func (.func 33) #[] #[.pointer (some ⟨b435, 0, none⟩), .pointer (some ⟨b436, 0, none⟩)]), (20, .agg #[.int .i64 t439, .int .i64 t440]), (25, .agg #[.int .i64 t442, .int .i64 t443]), (27, .pointer (some ⟨b437, 6, none⟩))]) t_more (by kernel_rfl) ?_
  refine fk_nil fun all => ?_
  refine t_sti 1 (cs := [.int .i64 c2_0, .int .i64 c2_1, .int .i64 c2_2, .int .i64 c2_3, .int .i64 c2_4, .int .i64 c2_5, .int .i64 t439, .int .i64 t440, .int .i64 c2_8, .int .i64 c2_9, .slice a_c2_10 c2_10.length c_c2_10]) rfl rfl rfl rfl rfl rfl rfl rfl rfl ?_
  refine t_qz 2 [3, 4, 5, 6, 7, 25, 29] (σ' := [(3, .pointer (some ⟨b435, 0, none⟩)), (4, .pointer (some ⟨b436, 0, none⟩)), (5, .pointer (some ⟨b437, 0, none⟩)), (6, .pointer (some ⟨b438, 0, none⟩)), (7, .func (.func 33) #[] #[.pointer (some ⟨b435, 0, none⟩), .pointer (some ⟨b436, 0, none⟩)]), (25, .agg #[.int .i64 t442, .int .i64 t443]), (29, .pointer (some ⟨b437, 8, none⟩))]) (by kernel_rfl) ?_
  refine t_sti 1 (cs := [.int .i64 c2_0, .int .i64 c2_1, .int .i64 c2_2, .int .i64 c2_3, .int .i64 c2_4, .int .i64 c2_5, .int .i64 t439, .int .i64 t440, .int .i64 t442, .int .i64 t443, .slice a_c2_10 c2_10.length c_c2_10]) rfl rfl rfl rfl rfl rfl rfl rfl rfl ?_
  refine t_keep [3, 4, 5, 6, 7] (σ' := [(3, .pointer (some ⟨b435, 0, none⟩)), (4, .pointer (some ⟨b436, 0, none⟩)), (5, .pointer (some ⟨b437, 0, none⟩)), (6, .pointer (some ⟨b438, 0, none⟩)), (7, .func (.func 33) #[] #[.pointer (some ⟨b435, 0, none⟩), .pointer (some ⟨b436, 0, none⟩)])]) (by kernel_rfl) ?_
  refine t_end ?_
  show W _ _ _ _ _ _ _
  obtain ⟨x449, e446, e⟩ := bind_of e
  refine w_cut [3, 4, 5, 6, 7] (fun σ_ H_ S_ => [(3, .pointer (some ⟨b435, 0, none⟩)), (4, .pointer (some ⟨b436, 0, none⟩)), (5, .pointer (some ⟨b437, 0, none⟩)), (6, .pointer (some ⟨b438, 0, none⟩)), (7, .func (.func 33) #[] #[.pointer (some ⟨b435, 0, none⟩), .pointer (some ⟨b436, 0, none⟩)])] = σ_ ∧ ([⟨b438, [.int .i64 0, .int .i64 0, .int .i64 0, .int .i64 0, .int .i64 0, .int .i64 0, .int .i64 0, .int .i64 0, .int .i64 0, .int .i64 0, .slice none 0 0], 11⟩, ⟨b437, [.int .i64 c2_0, .int .i64 c2_1, .int .i64 c2_2, .int .i64 c2_3, .int .i64 c2_4, .int .i64 c2_5, .int .i64 t439, .int .i64 t440, .int .i64 x449, .int .i64 t443, .slice a_c2_10 c2_10.length c_c2_10], 11⟩, ⟨b436, [.int .i64 w1], 1⟩, ⟨b435, [.int .i64 i0_0, .int .i64 i0_1, .int .i64 i0_2, .slice a_i0_3 n_i0_3 c_i0_3, .slice a_i0_4 n_i0_4 c_i0_4], 5⟩] : List Own) = H_ ∧ S = S_) ?_ ?_
  · show W _ _ _ _ _ _ _
    refine w_seq ?_
    refine w_reg fun all => ?_
    refine t_qz 2 [3, 4, 5, 6, 7, 31] (σ' := [(3, .pointer (some ⟨b435, 0, none⟩)), (4, .pointer (some ⟨b436, 0, none⟩)), (5, .pointer (some ⟨b437, 0, none⟩)), (6, .pointer (some ⟨b438, 0, none⟩)), (7, .func (.func 33) #[] #[.pointer (some ⟨b435, 0, none⟩), .pointer (some ⟨b436, 0, none⟩)]), (31, .pointer (some ⟨b437, 3, none⟩))]) (by kernel_rfl) ?_
    refine t_v (.ld1 rfl rfl rfl (.at 1 rfl rfl)) ?_
    by_cases c448 : c2_3 = 2
    · rw [if_pos c448] at e446
      have c448b : (c2_3 == 2) = true := beq_iff_eq.mpr c448
      refine t_v (dv_quiet rfl (congrArg (fun t => some (Value.bool t)) c448b)) ?_
      refine t_keep [3, 4, 5, 6, 7, 33] (σ' := [(3, .pointer (some ⟨b435, 0, none⟩)), (4, .pointer (some ⟨b436, 0, none⟩)), (5, .pointer (some ⟨b437, 0, none⟩)), (6, .pointer (some ⟨b438, 0, none⟩)), (7, .func (.func 33) #[] #[.pointer (some ⟨b435, 0, none⟩), .pointer (some ⟨b436, 0, none⟩)]), (33, .bool true)]) (by kernel_rfl) ?_
      refine t_end ?_
      show W _ _ _ _ _ _ _
      refine w_cond rfl (fun _ => ?_) (fun c_ => by cases c_)
      show W _ _ _ _ _ _ _
      refine w_reg fun all => ?_
      refine t_qz 3 [3, 4, 5, 6, 7, 36] (σ' := [(3, .pointer (some ⟨b435, 0, none⟩)), (4, .pointer (some ⟨b436, 0, none⟩)), (5, .pointer (some ⟨b437, 0, none⟩)), (6, .pointer (some ⟨b438, 0, none⟩)), (7, .func (.func 33) #[] #[.pointer (some ⟨b435, 0, none⟩), .pointer (some ⟨b436, 0, none⟩)]), (36, .pointer (some ⟨b437, 8, none⟩))]) (by kernel_rfl) ?_
      refine t_v (.ld1 rfl rfl rfl (.at 1 rfl rfl)) ?_
      refine t_qz 4 [3, 4, 5, 6, 7, 38, 41] (σ' := [(3, .pointer (some ⟨b435, 0, none⟩)), (4, .pointer (some ⟨b436, 0, none⟩)), (5, .pointer (some ⟨b437, 0, none⟩)), (6, .pointer (some ⟨b438, 0, none⟩)), (7, .func (.func 33) #[] #[.pointer (some ⟨b435, 0, none⟩), .pointer (some ⟨b436, 0, none⟩)]), (38, .int .i64 (mx t442 1)), (41, .pointer (some ⟨b437, 8, none⟩))]) (by kernel_rfl) ?_
      refine t_sti 1 (cs := [.int .i64 c2_0, .int .i64 c2_1, .int .i64 c2_2, .int .i64 c2_3, .int .i64 c2_4, .int .i64 c2_5, .int .i64 t439, .int .i64 t440, .int .i64 (mx t442 1), .int .i64 t443, .slice a_c2_10 c2_10.length c_c2_10]) rfl rfl rfl rfl rfl rfl rfl rfl rfl ?_
      refine t_keep [3, 4, 5, 6, 7] (σ' := [(3, .pointer (some ⟨b435, 0, none⟩)), (4, .pointer (some ⟨b436, 0, none⟩)), (5, .pointer (some ⟨b437, 0, none⟩)), (6, .pointer (some ⟨b438, 0, none⟩)), (7, .func (.func 33) #[] #[.pointer (some ⟨b435, 0, none⟩), .pointer (some ⟨b436, 0, none⟩)])]) (by kernel_rfl) ?_
      refine t_end ?_
      obtain rfl := Option.some.inj e446
      exact ⟨([⟨b438, [.int .i64 0, .int .i64 0, .int .i64 0, .int .i64 0, .int .i64 0, .int .i64 0, .int .i64 0, .int .i64 0, .int .i64 0, .int .i64 0, .slice none 0 0], 11⟩, ⟨b437, [.int .i64 c2_0, .int .i64 c2_1, .int .i64 c2_2, .int .i64 c2_3, .int .i64 c2_4, .int .i64 c2_5, .int .i64 t439, .int .i64 t440, .int .i64 (mx t442 1), .int .i64 t443, .slice a_c2_10 c2_10.length c_c2_10], 11⟩, ⟨b436, [.int .i64 w1], 1⟩, ⟨b435, [.int .i64 i0_0, .int .i64 i0_1, .int .i64 i0_2, .slice a_i0_3 n_i0_3 c_i0_3, .slice a_i0_4 n_i0_4 c_i0_4], 5⟩] : List Own), S, VS.sel [0, 0, 0, 0] (by kernel_rfl), by kernel_rfl, rfl, rfl⟩
    · rw [if_neg c448] at e446
      have c448b : (c2_3 == 2) = false := beq_eq_false_iff_ne.mpr c448
      refine t_v (dv_quiet rfl (congrArg (fun t => some (Value.bool t)) c448b)) ?_
      refine t_keep [3, 4, 5, 6, 7, 33] (σ' := [(3, .pointer (some ⟨b435, 0, none⟩)), (4, .pointer (some ⟨b436, 0, none⟩)), (5, .pointer (some ⟨b437, 0, none⟩)), (6, .pointer (some ⟨b438, 0, none⟩)), (7, .func (.func 33) #[] #[.pointer (some ⟨b435, 0, none⟩), .pointer (some ⟨b436, 0, none⟩)]), (33, .bool false)]) (by kernel_rfl) ?_
      refine t_end ?_
      show W _ _ _ _ _ _ _
      refine w_cond rfl (fun c_ => by cases c_) (fun _ => ?_)
      show W _ _ _ _ _ _ _
      refine w_skip ?_
      obtain rfl := Option.some.inj e446
      exact ⟨([⟨b438, [.int .i64 0, .int .i64 0, .int .i64 0, .int .i64 0, .int .i64 0, .int .i64 0, .int .i64 0, .int .i64 0, .int .i64 0, .int .i64 0, .slice none 0 0], 11⟩, ⟨b437, [.int .i64 c2_0, .int .i64 c2_1, .int .i64 c2_2, .int .i64 c2_3, .int .i64 c2_4, .int .i64 c2_5, .int .i64 t439, .int .i64 t440, .int .i64 t442, .int .i64 t443, .slice a_c2_10 c2_10.length c_c2_10], 11⟩, ⟨b436, [.int .i64 w1], 1⟩, ⟨b435, [.int .i64 i0_0, .int .i64 i0_1, .int .i64 i0_2, .slice a_i0_3 n_i0_3 c_i0_3, .slice a_i0_4 n_i0_4 c_i0_4], 5⟩] : List Own), S, VS.sel [0, 0, 0, 0] (by kernel_rfl), by kernel_rfl, rfl, rfl⟩
  · rintro σ_ H_ S_ ⟨rfl, rfl, rfl⟩
    obtain ⟨x456, e451, e⟩ := bind_of e
    refine w_cut [5, 6, 7] (fun σ_ H_ S_ => [(5, .pointer (some ⟨b437, 0, none⟩)), (6, .pointer (some ⟨b438, 0, none⟩)), (7, .func (.func 33) #[] #[.pointer (some ⟨b435, 0, none⟩), .pointer (some ⟨b436, 0, none⟩)])] = σ_ ∧ ([⟨b438, [.int .i64 0, .int .i64 0, .int .i64 0, .int .i64 0, .int .i64 0, .int .i64 0, .int .i64 0, .int .i64 0, .int .i64 0, .int .i64 0, .slice none 0 0], 11⟩, ⟨b437, [.int .i64 c2_0, .int .i64 c2_1, .int .i64 x456, .int .i64 c2_3, .int .i64 c2_4, .int .i64 c2_5, .int .i64 t439, .int .i64 t440, .int .i64 x449, .int .i64 t443, .slice a_c2_10 c2_10.length c_c2_10], 11⟩, ⟨b436, [.int .i64 w1], 1⟩, ⟨b435, [.int .i64 i0_0, .int .i64 i0_1, .int .i64 i0_2, .slice a_i0_3 n_i0_3 c_i0_3, .slice a_i0_4 n_i0_4 c_i0_4], 5⟩] : List Own) = H_ ∧ S = S_) ?_ ?_
    · show W _ _ _ _ _ _ _
      refine w_seq ?_
      refine w_reg fun all => ?_
      refine t_qz 1 [3, 4, 5, 6, 7, 42] (σ' := [(3, .pointer (some ⟨b435, 0, none⟩)), (4, .pointer (some ⟨b436, 0, none⟩)), (5, .pointer (some ⟨b437, 0, none⟩)), (6, .pointer (some ⟨b438, 0, none⟩)), (7, .func (.func 33) #[] #[.pointer (some ⟨b435, 0, none⟩), .pointer (some ⟨b436, 0, none⟩)]), (42, .pointer (some ⟨b437, 0, none⟩))]) (by kernel_rfl) ?_
      refine t_v (.ld1 rfl rfl rfl (.at 1 rfl rfl)) ?_
      by_cases c453 : c2_0 = 2
      · rw [if_pos c453] at e451
        have c453b : (c2_0 == 2) = true := beq_iff_eq.mpr c453
        refine t_v (dv_quiet rfl (congrArg (fun t => some (Value.bool t)) c453b)) ?_
        refine t_keep [3, 4, 5, 6, 7, 44] (σ' := [(3, .pointer (some ⟨b435, 0, none⟩)), (4, .pointer (some ⟨b436, 0, none⟩)), (5, .pointer (some ⟨b437, 0, none⟩)), (6, .pointer (some ⟨b438, 0, none⟩)), (7, .func (.func 33) #[] #[.pointer (some ⟨b435, 0, none⟩), .pointer (some ⟨b436, 0, none⟩)]), (44, .bool true)]) (by kernel_rfl) ?_
        refine t_end ?_
        show W _ _ _ _ _ _ _
        refine w_cond rfl (fun _ => ?_) (fun c_ => by cases c_)
        show W _ _ _ _ _ _ _
        refine w_reg fun all => ?_
        refine t_v (.ldn rfl rfl rfl (.at 3 rfl rfl)) ?_
        refine t_v (.ld1 rfl rfl rfl (.at 2 rfl rfl)) ?_
        refine t_qz 1 [5, 6, 7, 45, 46, 47] (σ' := [(5, .pointer (some ⟨b437, 0, none⟩)), (6, .pointer (some ⟨b438, 0, none⟩)), (7, .func (.func 33) #[] #[.pointer (some ⟨b435, 0, none⟩), .pointer (some ⟨b436, 0, none⟩)]), (45, .agg #[.int .i64 i0_0, .int .i64 i0_1, .int .i64 i0_2, .slice a_i0_3 n_i0_3 c_i0_3, .slice a_i0_4 n_i0_4 c_i0_4]), (46, .int .i64 w1), (47, .pointer (some ⟨b437, 2, none⟩))]) (by kernel_rfl) ?_
        refine t_v (.ld1 rfl rfl rfl (.at 1 rfl rfl)) ?_
        obtain ⟨t454, h455, e451⟩ := bind_of e451
        refine t_v (.call (vs := [.agg #[.int .i64 i0_0, .int .i64 i0_1, .int .i64 i0_2, .slice a_i0_3 n_i0_3 c_i0_3, .slice a_i0_4 n_i0_4 c_i0_4], .int .i64 w1, .int .i64 c2_2]) rfl rfl (by kernel_rfl) (scale_At_v2.ok hE_ h455)) ?_
        refine t_qz 2 [5, 6, 7, 50, 51] (σ' := [(5, .pointer (some ⟨b437, 0, none⟩)), (6, .pointer (some ⟨b438, 0, none⟩)), (7, .func (.func 33) #[] #[.pointer (some ⟨b435, 0, none⟩), .pointer (some ⟨b436, 0, none⟩)]), (50, .int .i64 (mx t454 1)), (51, .pointer (some ⟨b437, 2, none⟩))]) (by kernel_rfl) ?_
        refine t_sti 1 (cs := [.int .i64 c2_0, .int .i64 c2_1, .int .i64 (mx t454 1), .int .i64 c2_3, .int .i64 c2_4, .int .i64 c2_5, .int .i64 t439, .int .i64 t440, .int .i64 x449, .int .i64 t443, .slice a_c2_10 c2_10.length c_c2_10]) rfl rfl rfl rfl rfl rfl rfl rfl rfl ?_
        refine t_keep [5, 6, 7] (σ' := [(5, .pointer (some ⟨b437, 0, none⟩)), (6, .pointer (some ⟨b438, 0, none⟩)), (7, .func (.func 33) #[] #[.pointer (some ⟨b435, 0, none⟩), .pointer (some ⟨b436, 0, none⟩)])]) (by kernel_rfl) ?_
        refine t_end ?_
        obtain rfl := Option.some.inj e451
        exact ⟨([⟨b438, [.int .i64 0, .int .i64 0, .int .i64 0, .int .i64 0, .int .i64 0, .int .i64 0, .int .i64 0, .int .i64 0, .int .i64 0, .int .i64 0, .slice none 0 0], 11⟩, ⟨b437, [.int .i64 c2_0, .int .i64 c2_1, .int .i64 (mx t454 1), .int .i64 c2_3, .int .i64 c2_4, .int .i64 c2_5, .int .i64 t439, .int .i64 t440, .int .i64 x449, .int .i64 t443, .slice a_c2_10 c2_10.length c_c2_10], 11⟩, ⟨b436, [.int .i64 w1], 1⟩, ⟨b435, [.int .i64 i0_0, .int .i64 i0_1, .int .i64 i0_2, .slice a_i0_3 n_i0_3 c_i0_3, .slice a_i0_4 n_i0_4 c_i0_4], 5⟩] : List Own), S, VS.sel [0, 0, 0, 0] (by kernel_rfl), by kernel_rfl, rfl, rfl⟩
      · rw [if_neg c453] at e451
        have c453b : (c2_0 == 2) = false := beq_eq_false_iff_ne.mpr c453
        refine t_v (dv_quiet rfl (congrArg (fun t => some (Value.bool t)) c453b)) ?_
        refine t_keep [3, 4, 5, 6, 7, 44] (σ' := [(3, .pointer (some ⟨b435, 0, none⟩)), (4, .pointer (some ⟨b436, 0, none⟩)), (5, .pointer (some ⟨b437, 0, none⟩)), (6, .pointer (some ⟨b438, 0, none⟩)), (7, .func (.func 33) #[] #[.pointer (some ⟨b435, 0, none⟩), .pointer (some ⟨b436, 0, none⟩)]), (44, .bool false)]) (by kernel_rfl) ?_
        refine t_end ?_
        show W _ _ _ _ _ _ _
        refine w_cond rfl (fun c_ => by cases c_) (fun _ => ?_)
        show W _ _ _ _ _ _ _
        refine w_skip ?_
        obtain rfl := Option.some.inj e451
        exact ⟨([⟨b438, [.int .i64 0, .int .i64 0, .int .i64 0, .int .i64 0, .int .i64 0, .int .i64 0, .int .i64 0, .int .i64 0, .int .i64 0, .int .i64 0, .slice none 0 0], 11⟩, ⟨b437, [.int .i64 c2_0, .int .i64 c2_1, .int .i64 c2_2, .int .i64 c2_3, .int .i64 c2_4, .int .i64 c2_5, .int .i64 t439, .int .i64 t440, .int .i64 x449, .int .i64 t443, .slice a_c2_10 c2_10.length c_c2_10], 11⟩, ⟨b436, [.int .i64 w1], 1⟩, ⟨b435, [.int .i64 i0_0, .int .i64 i0_1, .int .i64 i0_2, .slice a_i0_3 n_i0_3 c_i0_3, .slice a_i0_4 n_i0_4 c_i0_4], 5⟩] : List Own), S, VS.sel [0, 0, 0, 0] (by kernel_rfl), by kernel_rfl, rfl, rfl⟩
    · rintro σ_ H_ S_ ⟨rfl, rfl, rfl⟩
      refine w_seq ?_
      refine w_reg fun all => ?_
      refine t_qz 1 [5, 6, 7, 52] (σ' := [(5, .pointer (some ⟨b437, 0, none⟩)), (6, .pointer (some ⟨b438, 0, none⟩)), (7, .func (.func 33) #[] #[.pointer (some ⟨b435, 0, none⟩), .pointer (some ⟨b436, 0, none⟩)]), (52, .pointer (some ⟨b437, 10, none⟩))]) (by kernel_rfl) ?_
      refine t_v (.ld1 rfl rfl rfl (.at 1 rfl rfl)) ?_
      refine t_qz 1 [5, 6, 7, 8] (σ' := [(5, .pointer (some ⟨b437, 0, none⟩)), (6, .pointer (some ⟨b438, 0, none⟩)), (7, .func (.func 33) #[] #[.pointer (some ⟨b435, 0, none⟩), .pointer (some ⟨b436, 0, none⟩)]), (8, .slice a_c2_10 c2_10.length c_c2_10)]) (by kernel_rfl) ?_
      refine t_end ?_
      show W _ _ _ _ _ _ _
      refine w_seq ?_
      refine w_reg fun all => ?_
      refine t_qz 1 [5, 6, 7, 8, 54] (σ' := [(5, .pointer (some ⟨b437, 0, none⟩)), (6, .pointer (some ⟨b438, 0, none⟩)), (7, .func (.func 33) #[] #[.pointer (some ⟨b435, 0, none⟩), .pointer (some ⟨b436, 0, none⟩)]), (8, .slice a_c2_10 c2_10.length c_c2_10), (54, .pointer (some ⟨b437, 10, none⟩))]) (by kernel_rfl) ?_
      refine t_sti 1 (cs := [.int .i64 c2_0, .int .i64 c2_1, .int .i64 x456, .int .i64 c2_3, .int .i64 c2_4, .int .i64 c2_5, .int .i64 t439, .int .i64 t440, .int .i64 x449, .int .i64 t443, .slice none 0 0]) rfl rfl rfl rfl rfl rfl rfl rfl rfl ?_
      refine t_keep [5, 6, 7, 8] (σ' := [(5, .pointer (some ⟨b437, 0, none⟩)), (6, .pointer (some ⟨b438, 0, none⟩)), (7, .func (.func 33) #[] #[.pointer (some ⟨b435, 0, none⟩), .pointer (some ⟨b436, 0, none⟩)]), (8, .slice a_c2_10 c2_10.length c_c2_10)]) (by kernel_rfl) ?_
      refine t_end ?_
      show W _ _ _ _ _ _ _
      obtain ⟨y552, e458, e⟩ := bind_of e
      refine w_cut [5, 6] (fun σ_ H_ S_ => ∃ (a551 : Option Nat) (na551 : Nat) (csa551 : List Value) (Fa551 : List Own), [(5, .pointer (some ⟨b437, 0, none⟩)), (6, .pointer (some ⟨b438, 0, none⟩))] = σ_ ∧ (([⟨b438, [.int .i64 0, .int .i64 0, .int .i64 0, .int .i64 0, .int .i64 0, .int .i64 0, .int .i64 0, .int .i64 0, .int .i64 0, .int .i64 0, .slice none 0 0], 11⟩, ⟨b437, [.int .i64 c2_0, .int .i64 c2_1, .int .i64 x456, .int .i64 c2_3, .int .i64 c2_4, .int .i64 c2_5, .int .i64 t439, .int .i64 t440, .int .i64 x449, .int .i64 t443, .slice (ad a551) y552.length (na551 / 4)], 11⟩, ⟨b436, [.int .i64 w1], 1⟩, ⟨b435, [.int .i64 i0_0, .int .i64 i0_1, .int .i64 i0_2, .slice a_i0_3 n_i0_3 c_i0_3, .slice a_i0_4 n_i0_4 c_i0_4], 5⟩, ⟨a551, csa551, na551⟩] : List Own) ++ (Fa551 ++ [])) = H_ ∧ S = S_ ∧ RL (rdOf (Fa551 ++ []) S) N_0 y552 csa551) ?_ ?_
      · show W _ _ _ _ _ _ _
        refine w_seq ?_
        refine w_reg fun all => ?_
        refine t_qz 3 [5, 6, 7, 55, 56, 57] (σ' := [(5, .pointer (some ⟨b437, 0, none⟩)), (6, .pointer (some ⟨b438, 0, none⟩)), (7, .func (.func 33) #[] #[.pointer (some ⟨b435, 0, none⟩), .pointer (some ⟨b436, 0, none⟩)]), (55, .slice a_c2_10 c2_10.length c_c2_10), (56, .int .i64 (c2_10.length : Int)), (57, .int .i64 0)]) (by kernel_rfl) ?_
        refine t_end ?_
        show W _ _ _ _ _ _ _
        refine w_block ?_
        refine w_vs VS.vac ?_
        refine w_kp [5, 6, 7, 55, 56, 57] (σ' := [(5, .pointer (some ⟨b437, 0, none⟩)), (6, .pointer (some ⟨b438, 0, none⟩)), (7, .func (.func 33) #[] #[.pointer (some ⟨b435, 0, none⟩), .pointer (some ⟨b436, 0, none⟩)]), (55, .slice a_c2_10 c2_10.length c_c2_10), (56, .int .i64 (c2_10.length : Int)), (57, .int .i64 0)]) (by kernel_rfl) ?_
        refine w_vs (H' := (([⟨none, [], 0⟩, ⟨b438, [.int .i64 0, .int .i64 0, .int .i64 0, .int .i64 0, .int .i64 0, .int .i64 0, .int .i64 0, .int .i64 0, .int .i64 0, .int .i64 0, .slice none 0 0], 11⟩, ⟨b437, [.int .i64 c2_0, .int .i64 c2_1, .int .i64 x456, .int .i64 c2_3, .int .i64 c2_4, .int .i64 c2_5, .int .i64 t439, .int .i64 t440, .int .i64 x449, .int .i64 t443, .slice (ad none) ([] : List (Int × Int × List (Int × Int × Int × Int × Int × Int × Int) × Bool)).length (0 / 4)], 11⟩, ⟨b436, [.int .i64 w1], 1⟩, ⟨b435, [.int .i64 i0_0, .int .i64 i0_1, .int .i64 i0_2, .slice a_i0_3 n_i0_3 c_i0_3, .slice a_i0_4 n_i0_4 c_i0_4], 5⟩] : List Own) ++ (([] : List Own) ++ []))) (S' := S) (VS.treeA (.l ([⟨none, [], 0⟩, ⟨b438, [.int .i64 0, .int .i64 0, .int .i64 0, .int .i64 0, .int .i64 0, .int .i64 0, .int .i64 0, .int .i64 0, .int .i64 0, .int .i64 0, .slice none 0 0], 11⟩, ⟨b437, [.int .i64 c2_0, .int .i64 c2_1, .int .i64 x456, .int .i64 c2_3, .int .i64 c2_4, .int .i64 c2_5, .int .i64 t439, .int .i64 t440, .int .i64 x449, .int .i64 t443, .slice (ad none) ([] : List (Int × Int × List (Int × Int × Int × Int × Int × Int × Int) × Bool)).length (0 / 4)], 11⟩, ⟨b436, [.int .i64 w1], 1⟩, ⟨b435, [.int .i64 i0_0, .int .i64 i0_1, .int .i64 i0_2, .slice a_i0_3 n_i0_3 c_i0_3, .slice a_i0_4 n_i0_4 c_i0_4], 5⟩] : List Own)) (.a (.l ([⟨none, [], 0⟩, ⟨b438, [.int .i64 0, .int .i64 0, .int .i64 0, .int .i64 0, .int .i64 0, .int .i64 0, .int .i64 0, .int .i64 0, .int .i64 0, .int .i64 0, .slice none 0 0], 11⟩, ⟨b437, [.int .i64 c2_0, .int .i64 c2_1, .int .i64 x456, .int .i64 c2_3, .int .i64 c2_4, .int .i64 c2_5, .int .i64 t439, .int .i64 t440, .int .i64 x449, .int .i64 t443, .slice (ad none) ([] : List (Int × Int × List (Int × Int × Int × Int × Int × Int × Int) × Bool)).length (0 / 4)], 11⟩, ⟨b436, [.int .i64 w1], 1⟩, ⟨b435, [.int .i64 i0_0, .int .i64 i0_1, .int .i64 i0_2, .slice a_i0_3 n_i0_3 c_i0_3, .slice a_i0_4 n_i0_4 c_i0_4], 5⟩] : List Own)) (.a (.l ([] : List Own)) (.l []))) [0, 0, 0, 0, 0] (by kernel_rfl)) ?_
        refine w_loop (fun n_ σ_ H_ S_ => ∃ (x460 : Int) (y462 : List (Int × Int × List (Int × Int × Int × Int × Int × Int × Int) × Bool)), ∃ (a461 : Option Nat) (na461 : Nat) (csa461 : List Value) (Fa461 : List Own), [(5, .pointer (some ⟨b437, 0, none⟩)), (6, .pointer (some ⟨b438, 0, none⟩)), (7, .func (.func 33) #[] #[.pointer (some ⟨b435, 0, none⟩), .pointer (some ⟨b436, 0, none⟩)]), (55, .slice a_c2_10 c2_10.length c_c2_10), (56, .int .i64 (c2_10.length : Int)), (57, .int .i64 x460)] = σ_ ∧ (([⟨a461, csa461, na461⟩, ⟨b438, [.int .i64 0, .int .i64 0, .int .i64 0, .int .i64 0, .int .i64 0, .int .i64 0, .int .i64 0, .int .i64 0, .int .i64 0, .int .i64 0, .slice none 0 0], 11⟩, ⟨b437, [.int .i64 c2_0, .int .i64 c2_1, .int .i64 x456, .int .i64 c2_3, .int .i64 c2_4, .int .i64 c2_5, .int .i64 t439, .int .i64 t440, .int .i64 x449, .int .i64 t443, .slice (ad a461) y462.length (na461 / 4)], 11⟩, ⟨b436, [.int .i64 w1], 1⟩, ⟨b435, [.int .i64 i0_0, .int .i64 i0_1, .int .i64 i0_2, .slice a_i0_3 n_i0_3 c_i0_3, .slice a_i0_4 n_i0_4 c_i0_4], 5⟩] : List Own) ++ (Fa461 ++ [])) = H_ ∧ S = S_ ∧ scale_Cmd_v1.l0 n_ i0_0 i0_1 i0_2 w1 c2_10 x460 y462 = some y552 ∧ RL (rdOf (Fa461 ++ []) S) N_0 y462 csa461) _ ⟨0, ([] : List (Int × Int × List (Int × Int × Int × Int × Int × Int × Int) × Bool)), none, 0, [], ([] : List Own), rfl, rfl, rfl, e458, RL.mono (RL.nil (R := rdOf [] S) (E := N_0)) (rd_sub seg_hd)⟩ ?_
        rintro n550 σ_ H_ S_ ⟨x460, y462, a461, na461, csa461, Fa461, rfl, rfl, rfl, e458, hra461⟩
        cases n550 with
        | zero => rw [scale_Cmd_v1.l0.eq_1] at e458; cases e458
        | succ k_ =>
          rw [scale_Cmd_v1.l0.eq_2] at e458
          refine w_seq ?_
          refine w_reg fun all => ?_
          by_cases c463 : x460 < (c2_10.length : Int)
          · rw [if_pos c463] at e458
            have c463b : (decide (x460 < (c2_10.length : Int))) = true := decide_eq_true c463
            refine t_v (dv_quiet rfl (congrArg (fun t => some (Value.bool t)) c463b)) ?_
            refine t_keep [5, 6, 7, 55, 56, 57, 58] (σ' := [(5, .pointer (some ⟨b437, 0, none⟩)), (6, .pointer (some ⟨b438, 0, none⟩)), (7, .func (.func 33) #[] #[.pointer (some ⟨b435, 0, none⟩), .pointer (some ⟨b436, 0, none⟩)]), (55, .slice a_c2_10 c2_10.length c_c2_10), (56, .int .i64 (c2_10.length : Int)), (57, .int .i64 x460), (58, .bool true)]) (by kernel_rfl) ?_
            refine t_end ?_
            show W _ _ _ _ _ _ _
            refine w_seq ?_
            refine w_cond rfl (fun _ => ?_) (fun c_ => by cases c_)
            show W _ _ _ _ _ _ _
            refine w_skip ?_
            show W _ _ _ _ _ _ _
            obtain ⟨y548, e465, e458⟩ := bind_of e458
            refine w_cut [5, 6, 7, 55, 56, 57] (fun σ_ H_ S_ => ∃ (a547 : Option Nat) (na547 : Nat) (csa547 : List Value) (Fa547 : List Own), [(5, .pointer (some ⟨b437, 0, none⟩)), (6, .pointer (some ⟨b438, 0, none⟩)), (7, .func (.func 33) #[] #[.pointer (some ⟨b435, 0, none⟩), .pointer (some ⟨b436, 0, none⟩)]), (55, .slice a_c2_10 c2_10.length c_c2_10), (56, .int .i64 (c2_10.length : Int)), (57, .int .i64 x460)] = σ_ ∧ (([⟨b438, [.int .i64 0, .int .i64 0, .int .i64 0, .int .i64 0, .int .i64 0, .int .i64 0, .int .i64 0, .int .i64 0, .int .i64 0, .int .i64 0, .slice none 0 0], 11⟩, ⟨b437, [.int .i64 c2_0, .int .i64 c2_1, .int .i64 x456, .int .i64 c2_3, .int .i64 c2_4, .int .i64 c2_5, .int .i64 t439, .int .i64 t440, .int .i64 x449, .int .i64 t443, .slice (ad a547) y548.length (na547 / 4)], 11⟩, ⟨b436, [.int .i64 w1], 1⟩, ⟨b435, [.int .i64 i0_0, .int .i64 i0_1, .int .i64 i0_2, .slice a_i0_3 n_i0_3 c_i0_3, .slice a_i0_4 n_i0_4 c_i0_4], 5⟩, ⟨a547, csa547, na547⟩] : List Own) ++ (Fa547 ++ [])) = H_ ∧ S = S_ ∧ RL (rdOf (Fa547 ++ []) S) N_0 y548 csa547) ?_ ?_
            · show W _ _ _ _ _ _ _
              refine w_block ?_
              refine w_seq ?_
              refine w_reg fun all => ?_
              obtain ⟨⟨x467, x468, x469, x470⟩, hx471, e465⟩ := bind_of e465
              try dsimp only at e465
              obtain ⟨lb472, lo473, ll474, vs_, la475, lR476, lv477, hrep_, lz478, lu479⟩ := sln_get (E := N_0) h_c2_10 hx471
              obtain ⟨na480, nc481, rfl, nh482⟩ := hrep_
              refine t_v (.quiet rfl (ixs_sle rfl rfl la475 lz478 lu479)) ?_
              refine t_v (.ldn (vs := [.int .i64 x467, .int .i64 x468, .slice na480 x469.length nc481, .bool x470]) rfl rfl rfl (rd_n lR476 sub_nil (subl_sub lv477 (by kernel_rfl)))) ?_
              refine t_a (.new rfl rfl) fun b483 fb483 sb483 => ?_
              refine t_sti 0 (cs := [.int .i64 x467, .int .i64 x468, .slice na480 x469.length nc481, .bool x470]) rfl rfl rfl rfl rfl rfl rfl rfl rfl ?_
              refine t_keep [5, 6, 7, 10, 55, 56, 57] (σ' := [(5, .pointer (some ⟨b437, 0, none⟩)), (6, .pointer (some ⟨b438, 0, none⟩)), (7, .func (.func 33) #[] #[.pointer (some ⟨b435, 0, none⟩), .pointer (some ⟨b436, 0, none⟩)]), (10, .pointer (some ⟨b483, 0, none⟩)), (55, .slice a_c2_10 c2_10.length c_c2_10), (56, .int .i64 (c2_10.length : Int)), (57, .int .i64 x460)]) (by kernel_rfl) ?_
              refine t_end ?_
              show W _ _ _ _ _ _ _
              refine w_seq ?_
              obtain ⟨⟨t484, t485⟩, h486, e465⟩ := bind_of e465
              try dsimp only at e465
              refine w_drwE mixed 8 [.v (.func (.func 33) #[] #[.pointer (some ⟨b435, 0, none⟩), .pointer (some ⟨b436, 0, none⟩)]), .v (.pointer (some ⟨b483, 0, none⟩)), .v (.agg #[.int .i64 x467, .int .i64 x468]), .v (.agg #[.int .i64 t484, .int .i64 t485]), .v (.pointer (some ⟨b483, 3, none⟩)), .v (.bool x470), .v (.agg #[.int .i64 t484, .int .i64 t485, .slice none 0 0, .bool x470]), .a [.int .i64 0, .int .i64 0, .slice none 0 0, .bool false] ptrTo] (by kernel_rfl) ?_ ?_
              · refine DI.sq 2 (by kernel_rfl) rfl ?_
                refine .cons (.ldn rfl rfl rfl (.at 0 rfl rfl)) ?_
                refine .cons (.clor (vs := [.agg #[.int .i64 x467, .int .i64 x468]]) (caps := #[.pointer (some ⟨b435, 0, none⟩), .pointer (some ⟨b436, 0, none⟩)]) (A := ([⟨b435, [.int .i64 i0_0, .int .i64 i0_1, .int .i64 i0_2, .slice a_i0_3 n_i0_3 c_i0_3, .slice a_i0_4 n_i0_4 c_i0_4], 5⟩, ⟨b436, [.int .i64 w1], 1⟩] : List Own)) (F0 := (([⟨b483, [.int .i64 x467, .int .i64 x468, .slice na480 x469.length nc481, .bool x470], 4⟩, ⟨a461, csa461, na461⟩, ⟨b438, [.int .i64 0, .int .i64 0, .int .i64 0, .int .i64 0, .int .i64 0, .int .i64 0, .int .i64 0, .int .i64 0, .int .i64 0, .int .i64 0, .slice none 0 0], 11⟩, ⟨b437, [.int .i64 c2_0, .int .i64 c2_1, .int .i64 x456, .int .i64 c2_3, .int .i64 c2_4, .int .i64 c2_5, .int .i64 t439, .int .i64 t440, .int .i64 x449, .int .i64 t443, .slice (ad a461) y462.length (na461 / 4)], 11⟩] : List Own) ++ (Fa461 ++ []))) rfl rfl rfl (by kernel_rfl) (by kernel_rfl) (sel_perm (is := [5, 4]) (by kernel_rfl)) (scale_Cmd_1_v1.ok hE_ h486)) ?_
                refine DI.sq 1 (by kernel_rfl) rfl ?_
                refine .cons (.ld1 rfl rfl rfl (.at 0 rfl rfl)) ?_
                refine DI.sq 1 (by kernel_rfl) rfl ?_
                refine .cons (.new rfl rfl) ?_
                exact .nil
              refine fk_q 7 [5, 6, 7, 10, 55, 56, 57, 67] (σ' := [(5, .pointer (some ⟨b437, 0, none⟩)), (6, .pointer (some ⟨b438, 0, none⟩)), (7, .func (.func 33) #[] #[.pointer (some ⟨b435, 0, none⟩), .pointer (some ⟨b436, 0, none⟩)]), (10, .pointer (some ⟨b483, 0, none⟩)), (55, .slice a_c2_10 c2_10.length c_c2_10), (56, .int .i64 (c2_10.length : Int)), (57, .int .i64 x460), (67, .agg #[.int .i64 t484, .int .i64 t485, .slice none 0 0, .bool x470])]) t_more (by kernel_rfl) ?_
              refine fk_a fun b487 fb487 sb487 => ?_
              refine fk_nil fun all => ?_
              refine t_sti 0 (cs := [.int .i64 t484, .int .i64 t485, .slice none 0 0, .bool x470]) rfl rfl rfl rfl rfl rfl rfl rfl rfl ?_
              refine t_keep [5, 6, 7, 10, 11, 55, 56, 57] (σ' := [(5, .pointer (some ⟨b437, 0, none⟩)), (6, .pointer (some ⟨b438, 0, none⟩)), (7, .func (.func 33) #[] #[.pointer (some ⟨b435, 0, none⟩), .pointer (some ⟨b436, 0, none⟩)]), (10, .pointer (some ⟨b483, 0, none⟩)), (11, .pointer (some ⟨b487, 0, none⟩)), (55, .slice a_c2_10 c2_10.length c_c2_10), (56, .int .i64 (c2_10.length : Int)), (57, .int .i64 x460)]) (by kernel_rfl) ?_
              refine t_end ?_
              show W _ _ _ _ _ _ _
              obtain ⟨y542, e489, e465⟩ := bind_of e465
              refine w_cut [5, 6, 7, 11, 55, 56, 57] (fun σ_ H_ S_ => ∃ (a541 : Option Nat) (na541 : Nat), [(5, .pointer (some ⟨b437, 0, none⟩)), (6, .pointer (some ⟨b438, 0, none⟩)), (7, .func (.func 33) #[] #[.pointer (some ⟨b435, 0, none⟩), .pointer (some ⟨b436, 0, none⟩)]), (11, .pointer (some ⟨b487, 0, none⟩)), (55, .slice a_c2_10 c2_10.length c_c2_10), (56, .int .i64 (c2_10.length : Int)), (57, .int .i64 x460)] = σ_ ∧ (([⟨b487, [.int .i64 t484, .int .i64 t485, .slice (ad a541) y542.length (na541 / 7), .bool x470], 4⟩, ⟨b483, [.int .i64 x467, .int .i64 x468, .slice na480 x469.length nc481, .bool x470], 4⟩, ⟨b438, [.int .i64 0, .int .i64 0, .int .i64 0, .int .i64 0, .int .i64 0, .int .i64 0, .int .i64 0, .int .i64 0, .int .i64 0, .int .i64 0, .slice none 0 0], 11⟩, ⟨b437, [.int .i64 c2_0, .int .i64 c2_1, .int .i64 x456, .int .i64 c2_3, .int .i64 c2_4, .int .i64 c2_5, .int .i64 t439, .int .i64 t440, .int .i64 x449, .int .i64 t443, .slice (ad a461) y462.length (na461 / 4)], 11⟩, ⟨b436, [.int .i64 w1], 1⟩, ⟨b435, [.int .i64 i0_0, .int .i64 i0_1, .int .i64 i0_2, .slice a_i0_3 n_i0_3 c_i0_3, .slice a_i0_4 n_i0_4 c_i0_4], 5⟩, ⟨a541, encL E_i647 y542, na541⟩, ⟨a461, csa461, na461⟩] : List Own) ++ (Fa461 ++ [])) = H_ ∧ S = S_) ?_ ?_
              · show W _ _ _ _ _ _ _
                refine w_seq ?_
                refine w_reg fun all => ?_
                refine t_qz 1 [5, 6, 7, 11, 55, 56, 57, 68] (σ' := [(5, .pointer (some ⟨b437, 0, none⟩)), (6, .pointer (some ⟨b438, 0, none⟩)), (7, .func (.func 33) #[] #[.pointer (some ⟨b435, 0, none⟩), .pointer (some ⟨b436, 0, none⟩)]), (11, .pointer (some ⟨b487, 0, none⟩)), (55, .slice a_c2_10 c2_10.length c_c2_10), (56, .int .i64 (c2_10.length : Int)), (57, .int .i64 x460), (68, .pointer (some ⟨b483, 2, none⟩))]) (by kernel_rfl) ?_
                refine t_v (.ld1 rfl rfl rfl (.at 1 rfl rfl)) ?_
                refine t_qz 2 [5, 6, 7, 11, 55, 56, 57, 69, 70, 71] (σ' := [(5, .pointer (some ⟨b437, 0, none⟩)), (6, .pointer (some ⟨b438, 0, none⟩)), (7, .func (.func 33) #[] #[.pointer (some ⟨b435, 0, none⟩), .pointer (some ⟨b436, 0, none⟩)]), (11, .pointer (some ⟨b487, 0, none⟩)), (55, .slice a_c2_10 c2_10.length c_c2_10), (56, .int .i64 (c2_10.length : Int)), (57, .int .i64 x460), (69, .slice na480 x469.length nc481), (70, .int .i64 (x469.length : Int)), (71, .int .i64 0)]) (by kernel_rfl) ?_
                refine t_end ?_
                show W _ _ _ _ _ _ _
                refine w_block ?_
                refine w_vs VS.vac ?_
                refine w_kp [5, 6, 7, 11, 55, 56, 57, 69, 70, 71] (σ' := [(5, .pointer (some ⟨b437, 0, none⟩)), (6, .pointer (some ⟨b438, 0, none⟩)), (7, .func (.func 33) #[] #[.pointer (some ⟨b435, 0, none⟩), .pointer (some ⟨b436, 0, none⟩)]), (11, .pointer (some ⟨b487, 0, none⟩)), (55, .slice a_c2_10 c2_10.length c_c2_10), (56, .int .i64 (c2_10.length : Int)), (57, .int .i64 x460), (69, .slice na480 x469.length nc481), (70, .int .i64 (x469.length : Int)), (71, .int .i64 0)]) (by kernel_rfl) ?_
                refine w_loop (fun n_ σ_ H_ S_ => ∃ (x491 : Int) (y493 : List (Int × Int × Int × Int × Int × Int × Int)), ∃ (a492 : Option Nat) (na492 : Nat), [(5, .pointer (some ⟨b437, 0, none⟩)), (6, .pointer (some ⟨b438, 0, none⟩)), (7, .func (.func 33) #[] #[.pointer (some ⟨b435, 0, none⟩), .pointer (some ⟨b436, 0, none⟩)]), (11, .pointer (some ⟨b487, 0, none⟩)), (55, .slice a_c2_10 c2_10.length c_c2_10), (56, .int .i64 (c2_10.length : Int)), (57, .int .i64 x460), (69, .slice na480 x469.length nc481), (70, .int .i64 (x469.length : Int)), (71, .int .i64 x491)] = σ_ ∧ (([⟨a492, encL E_i647 y493, na492⟩, ⟨b487, [.int .i64 t484, .int .i64 t485, .slice (ad a492) y493.length (na492 / 7), .bool x470], 4⟩, ⟨b483, [.int .i64 x467, .int .i64 x468, .slice na480 x469.length nc481, .bool x470], 4⟩, ⟨a461, csa461, na461⟩, ⟨b438, [.int .i64 0, .int .i64 0, .int .i64 0, .int .i64 0, .int .i64 0, .int .i64 0, .int .i64 0, .int .i64 0, .int .i64 0, .int .i64 0, .slice none 0 0], 11⟩, ⟨b437, [.int .i64 c2_0, .int .i64 c2_1, .int .i64 x456, .int .i64 c2_3, .int .i64 c2_4, .int .i64 c2_5, .int .i64 t439, .int .i64 t440, .int .i64 x449, .int .i64 t443, .slice (ad a461) y462.length (na461 / 4)], 11⟩, ⟨b436, [.int .i64 w1], 1⟩, ⟨b435, [.int .i64 i0_0, .int .i64 i0_1, .int .i64 i0_2, .slice a_i0_3 n_i0_3 c_i0_3, .slice a_i0_4 n_i0_4 c_i0_4], 5⟩] : List Own) ++ (Fa461 ++ [])) = H_ ∧ S = S_ ∧ scale_Cmd_v1.l1 n_ i0_0 i0_1 i0_2 w1 x469 x491 y493 = some y542) _ ⟨0, ([] : List (Int × Int × Int × Int × Int × Int × Int)), none, 0, rfl, rfl, rfl, e489⟩ ?_
                rintro n540 σ_ H_ S_ ⟨x491, y493, a492, na492, rfl, rfl, rfl, e489⟩
                cases n540 with
                | zero => rw [scale_Cmd_v1.l1.eq_1] at e489; cases e489
                | succ k_ =>
                  rw [scale_Cmd_v1.l1.eq_2] at e489
                  refine w_seq ?_
                  refine w_reg fun all => ?_
                  by_cases c494 : x491 < (x469.length : Int)
                  · rw [if_pos c494] at e489
                    have c494b : (decide (x491 < (x469.length : Int))) = true := decide_eq_true c494
                    refine t_v (dv_quiet rfl (congrArg (fun t => some (Value.bool t)) c494b)) ?_
                    refine t_keep [5, 6, 7, 11, 55, 56, 57, 69, 70, 71, 72] (σ' := [(5, .pointer (some ⟨b437, 0, none⟩)), (6, .pointer (some ⟨b438, 0, none⟩)), (7, .func (.func 33) #[] #[.pointer (some ⟨b435, 0, none⟩), .pointer (some ⟨b436, 0, none⟩)]), (11, .pointer (some ⟨b487, 0, none⟩)), (55, .slice a_c2_10 c2_10.length c_c2_10), (56, .int .i64 (c2_10.length : Int)), (57, .int .i64 x460), (69, .slice na480 x469.length nc481), (70, .int .i64 (x469.length : Int)), (71, .int .i64 x491), (72, .bool true)]) (by kernel_rfl) ?_
                    refine t_end ?_
                    show W _ _ _ _ _ _ _
                    refine w_seq ?_
                    refine w_cond rfl (fun _ => ?_) (fun c_ => by cases c_)
                    show W _ _ _ _ _ _ _
                    refine w_skip ?_
                    show W _ _ _ _ _ _ _
                    obtain ⟨y538, e496, e489⟩ := bind_of e489
                    refine w_cut [5, 6, 7, 11, 55, 56, 57, 69, 70, 71] (fun σ_ H_ S_ => ∃ (a537 : Option Nat) (na537 : Nat), [(5, .pointer (some ⟨b437, 0, none⟩)), (6, .pointer (some ⟨b438, 0, none⟩)), (7, .func (.func 33) #[] #[.pointer (some ⟨b435, 0, none⟩), .pointer (some ⟨b436, 0, none⟩)]), (11, .pointer (some ⟨b487, 0, none⟩)), (55, .slice a_c2_10 c2_10.length c_c2_10), (56, .int .i64 (c2_10.length : Int)), (57, .int .i64 x460), (69, .slice na480 x469.length nc481), (70, .int .i64 (x469.length : Int)), (71, .int .i64 x491)] = σ_ ∧ (([⟨b487, [.int .i64 t484, .int .i64 t485, .slice (ad a537) y538.length (na537 / 7), .bool x470], 4⟩, ⟨b483, [.int .i64 x467, .int .i64 x468, .slice na480 x469.length nc481, .bool x470], 4⟩, ⟨b438, [.int .i64 0, .int .i64 0, .int .i64 0, .int .i64 0, .int .i64 0, .int .i64 0, .int .i64 0, .int .i64 0, .int .i64 0, .int .i64 0, .slice none 0 0], 11⟩, ⟨b437, [.int .i64 c2_0, .int .i64 c2_1, .int .i64 x456, .int .i64 c2_3, .int .i64 c2_4, .int .i64 c2_5, .int .i64 t439, .int .i64 t440, .int .i64 x449, .int .i64 t443, .slice (ad a461) y462.length (na461 / 4)], 11⟩, ⟨b436, [.int .i64 w1], 1⟩, ⟨b435, [.int .i64 i0_0, .int .i64 i0_1, .int .i64 i0_2, .slice a_i0_3 n_i0_3 c_i0_3, .slice a_i0_4 n_i0_4 c_i0_4], 5⟩, ⟨a537, encL E_i647 y538, na537⟩, ⟨a461, csa461, na461⟩] : List Own) ++ (Fa461 ++ [])) = H_ ∧ S = S_) ?_ ?_
                    · show W _ _ _ _ _ _ _
                      refine w_block ?_
                      refine w_seq ?_
                      refine w_reg fun all => ?_
                      obtain ⟨⟨x498, x499, x500, x501, x502, x503, x504⟩, hx505, e496⟩ := bind_of e496
                      try dsimp only at e496
                      obtain ⟨lb506, lo507, ll508, vs_, la509, lR510, lv511, hrep_, lz512, lu513⟩ := sln_get (E := (flatN E_i647)) nh482 hx505
                      obtain rfl := (show vs_ = _ from hrep_)
                      refine t_v (.quiet rfl (ixs_sle rfl rfl la509 lz512 lu513)) ?_
                      refine t_v (.ldn (vs := [.int .i64 x498, .int .i64 x499, .int .i64 x500, .int .i64 x501, .int .i64 x502, .int .i64 x503, .int .i64 x504]) rfl rfl rfl (rd_n lR510 sub_nil (subl_sub lv511 (by kernel_rfl)))) ?_
                      refine t_a (.new rfl rfl) fun b514 fb514 sb514 => ?_
                      refine t_sti 0 (cs := [.int .i64 x498, .int .i64 x499, .int .i64 x500, .int .i64 x501, .int .i64 x502, .int .i64 x503, .int .i64 x504]) rfl rfl rfl rfl rfl rfl rfl rfl rfl ?_
                      refine t_keep [5, 6, 7, 11, 13, 55, 56, 57, 69, 70, 71] (σ' := [(5, .pointer (some ⟨b437, 0, none⟩)), (6, .pointer (some ⟨b438, 0, none⟩)), (7, .func (.func 33) #[] #[.pointer (some ⟨b435, 0, none⟩), .pointer (some ⟨b436, 0, none⟩)]), (11, .pointer (some ⟨b487, 0, none⟩)), (13, .pointer (some ⟨b514, 0, none⟩)), (55, .slice a_c2_10 c2_10.length c_c2_10), (56, .int .i64 (c2_10.length : Int)), (57, .int .i64 x460), (69, .slice na480 x469.length nc481), (70, .int .i64 (x469.length : Int)), (71, .int .i64 x491)]) (by kernel_rfl) ?_
                      refine t_end ?_
                      show W _ _ _ _ _ _ _
                      obtain ⟨⟨x527, x528, x529, x530, x531, x532⟩, e516, e496⟩ := bind_of e496
                      try dsimp only at e496
                      refine w_cut [5, 6, 7, 11, 13, 55, 56, 57, 69, 70, 71] (fun σ_ H_ S_ => [(5, .pointer (some ⟨b437, 0, none⟩)), (6, .pointer (some ⟨b438, 0, none⟩)), (7, .func (.func 33) #[] #[.pointer (some ⟨b435, 0, none⟩), .pointer (some ⟨b436, 0, none⟩)]), (11, .pointer (some ⟨b487, 0, none⟩)), (13, .pointer (some ⟨b514, 0, none⟩)), (55, .slice a_c2_10 c2_10.length c_c2_10), (56, .int .i64 (c2_10.length : Int)), (57, .int .i64 x460), (69, .slice na480 x469.length nc481), (70, .int .i64 (x469.length : Int)), (71, .int .i64 x491)] = σ_ ∧ (([⟨b514, [.int .i64 x498, .int .i64 x527, .int .i64 x528, .int .i64 x529, .int .i64 x530, .int .i64 x531, .int .i64 x532], 7⟩, ⟨b487, [.int .i64 t484, .int .i64 t485, .slice (ad a492) y493.length (na492 / 7), .bool x470], 4⟩, ⟨b483, [.int .i64 x467, .int .i64 x468, .slice na480 x469.length nc481, .bool x470], 4⟩, ⟨b438, [.int .i64 0, .int .i64 0, .int .i64 0, .int .i64 0, .int .i64 0, .int .i64 0, .int .i64 0, .int .i64 0, .int .i64 0, .int .i64 0, .slice none 0 0], 11⟩, ⟨b437, [.int .i64 c2_0, .int .i64 c2_1, .int .i64 x456, .int .i64 c2_3, .int .i64 c2_4, .int .i64 c2_5, .int .i64 t439, .int .i64 t440, .int .i64 x449, .int .i64 t443, .slice (ad a461) y462.length (na461 / 4)], 11⟩, ⟨b436, [.int .i64 w1], 1⟩, ⟨b435, [.int .i64 i0_0, .int .i64 i0_1, .int .i64 i0_2, .slice a_i0_3 n_i0_3 c_i0_3, .slice a_i0_4 n_i0_4 c_i0_4], 5⟩, ⟨a492, encL E_i647 y493, na492⟩, ⟨a461, csa461, na461⟩] : List Own) ++ (Fa461 ++ [])) = H_ ∧ S = S_) ?_ ?_
                      · show W _ _ _ _ _ _ _
                        refine w_seq ?_
                        refine w_reg fun all => ?_
                        refine t_qz 1 [5, 6, 7, 11, 13, 55, 56, 57, 69, 70, 71, 75] (σ' := [(5, .pointer (some ⟨b437, 0, none⟩)), (6, .pointer (some ⟨b438, 0, none⟩)), (7, .func (.func 33) #[] #[.pointer (some ⟨b435, 0, none⟩), .pointer (some ⟨b436, 0, none⟩)]), (11, .pointer (some ⟨b487, 0, none⟩)), (13, .pointer (some ⟨b514, 0, none⟩)), (55, .slice a_c2_10 c2_10.length c_c2_10), (56, .int .i64 (c2_10.length : Int)), (57, .int .i64 x460), (69, .slice na480 x469.length nc481), (70, .int .i64 (x469.length : Int)), (71, .int .i64 x491), (75, .int .i64 0)]) (by kernel_rfl) ?_
                        refine t_end ?_
                        show W _ _ _ _ _ _ _
                        refine w_block ?_
                        refine w_lun 10 ?_
                        refine wl_step ?_
                        refine w_seq ?_
                        refine w_reg fun all => ?_
                        refine t_qz 1 [5, 6, 7, 11, 13, 55, 56, 57, 69, 70, 71, 75, 76] (σ' := [(5, .pointer (some ⟨b437, 0, none⟩)), (6, .pointer (some ⟨b438, 0, none⟩)), (7, .func (.func 33) #[] #[.pointer (some ⟨b435, 0, none⟩), .pointer (some ⟨b436, 0, none⟩)]), (11, .pointer (some ⟨b487, 0, none⟩)), (13, .pointer (some ⟨b514, 0, none⟩)), (55, .slice a_c2_10 c2_10.length c_c2_10), (56, .int .i64 (c2_10.length : Int)), (57, .int .i64 x460), (69, .slice na480 x469.length nc481), (70, .int .i64 (x469.length : Int)), (71, .int .i64 x491), (75, .int .i64 0), (76, .bool true)]) (by kernel_rfl) ?_
                        refine t_end ?_
                        show W _ _ _ _ _ _ _
                        refine w_seq ?_
                        refine w_cond rfl (fun _ => ?_) (fun c_ => by cases c_)
                        show W _ _ _ _ _ _ _
                        refine w_skip ?_
                        show W _ _ _ _ _ _ _
                        refine w_seq ?_
                        refine w_block ?_
                        refine w_seq ?_
                        refine w_reg fun all => ?_
                        refine t_qz 2 [5, 6, 7, 11, 13, 14, 55, 56, 57, 69, 70, 71, 75] (σ' := [(5, .pointer (some ⟨b437, 0, none⟩)), (6, .pointer (some ⟨b438, 0, none⟩)), (7, .func (.func 33) #[] #[.pointer (some ⟨b435, 0, none⟩), .pointer (some ⟨b436, 0, none⟩)]), (11, .pointer (some ⟨b487, 0, none⟩)), (13, .pointer (some ⟨b514, 0, none⟩)), (14, .int .i64 0), (55, .slice a_c2_10 c2_10.length c_c2_10), (56, .int .i64 (c2_10.length : Int)), (57, .int .i64 x460), (69, .slice na480 x469.length nc481), (70, .int .i64 (x469.length : Int)), (71, .int .i64 x491), (75, .int .i64 0)]) (by kernel_rfl) ?_
                        refine t_end ?_
                        show W _ _ _ _ _ _ _
                        refine w_reg fun all => ?_
                        refine t_qz 5 [5, 6, 7, 11, 13, 55, 56, 57, 69, 70, 71, 75, 78, 79, 82] (σ' := [(5, .pointer (some ⟨b437, 0, none⟩)), (6, .pointer (some ⟨b438, 0, none⟩)), (7, .func (.func 33) #[] #[.pointer (some ⟨b435, 0, none⟩), .pointer (some ⟨b436, 0, none⟩)]), (11, .pointer (some ⟨b487, 0, none⟩)), (13, .pointer (some ⟨b514, 0, none⟩)), (55, .slice a_c2_10 c2_10.length c_c2_10), (56, .int .i64 (c2_10.length : Int)), (57, .int .i64 x460), (69, .slice na480 x469.length nc481), (70, .int .i64 (x469.length : Int)), (71, .int .i64 x491), (75, .int .i64 0), (78, .int .i64 0), (79, .func (.func 33) #[] #[.pointer (some ⟨b435, 0, none⟩), .pointer (some ⟨b436, 0, none⟩)]), (82, .pointer (some ⟨b514, 1, none⟩))]) (by kernel_rfl) ?_
                        refine t_v (.ldn rfl rfl rfl (.at 0 rfl rfl)) ?_
                        obtain ⟨⟨t518, t519⟩, h520, e516⟩ := bind_of e516
                        try dsimp only at e516
                        refine t_v (.clor (vs := [.agg #[.int .i64 x499, .int .i64 x500]]) (caps := #[.pointer (some ⟨b435, 0, none⟩), .pointer (some ⟨b436, 0, none⟩)]) (A := ([⟨b435, [.int .i64 i0_0, .int .i64 i0_1, .int .i64 i0_2, .slice a_i0_3 n_i0_3 c_i0_3, .slice a_i0_4 n_i0_4 c_i0_4], 5⟩, ⟨b436, [.int .i64 w1], 1⟩] : List Own)) (F0 := (([⟨b514, [.int .i64 x498, .int .i64 x499, .int .i64 x500, .int .i64 x501, .int .i64 x502, .int .i64 x503, .int .i64 x504], 7⟩, ⟨a492, encL E_i647 y493, na492⟩, ⟨b487, [.int .i64 t484, .int .i64 t485, .slice (ad a492) y493.length (na492 / 7), .bool x470], 4⟩, ⟨b483, [.int .i64 x467, .int .i64 x468, .slice na480 x469.length nc481, .bool x470], 4⟩, ⟨a461, csa461, na461⟩, ⟨b438, [.int .i64 0, .int .i64 0, .int .i64 0, .int .i64 0, .int .i64 0, .int .i64 0, .int .i64 0, .int .i64 0, .int .i64 0, .int .i64 0, .slice none 0 0], 11⟩, ⟨b437, [.int .i64 c2_0, .int .i64 c2_1, .int .i64 x456, .int .i64 c2_3, .int .i64 c2_4, .int .i64 c2_5, .int .i64 t439, .int .i64 t440, .int .i64 x449, .int .i64 t443, .slice (ad a461) y462.length (na461 / 4)], 11⟩] : List Own) ++ (Fa461 ++ []))) rfl rfl rfl (by kernel_rfl) (by kernel_rfl) (sel_perm (is := [8, 7]) (by kernel_rfl)) (scale_Cmd_1_v1.ok hE_ h520)) ?_
                        refine t_qz 2 [5, 6, 7, 11, 13, 55, 56, 57, 69, 70, 71, 75, 84, 86] (σ' := [(5, .pointer (some ⟨b437, 0, none⟩)), (6, .pointer (some ⟨b438, 0, none⟩)), (7, .func (.func 33) #[] #[.pointer (some ⟨b435, 0, none⟩), .pointer (some ⟨b436, 0, none⟩)]), (11, .pointer (some ⟨b487, 0, none⟩)), (13, .pointer (some ⟨b514, 0, none⟩)), (55, .slice a_c2_10 c2_10.length c_c2_10), (56, .int .i64 (c2_10.length : Int)), (57, .int .i64 x460), (69, .slice na480 x469.length nc481), (70, .int .i64 (x469.length : Int)), (71, .int .i64 x491), (75, .int .i64 0), (84, .agg #[.int .i64 t518, .int .i64 t519]), (86, .pointer (some ⟨b514, 1, none⟩))]) (by kernel_rfl) ?_
                        refine t_sti 0 (cs := [.int .i64 x498, .int .i64 t518, .int .i64 t519, .int .i64 x501, .int .i64 x502, .int .i64 x503, .int .i64 x504]) rfl rfl rfl rfl rfl rfl rfl rfl rfl ?_
                        refine t_keep [5, 6, 7, 11, 13, 55, 56, 57, 69, 70, 71, 75] (σ' := [(5, .pointer (some ⟨b437, 0, none⟩)), (6, .pointer (some ⟨b438, 0, none⟩)), (7, .func (.func 33) #[] #[.pointer (some ⟨b435, 0, none⟩), .pointer (some ⟨b436, 0, none⟩)]), (11, .pointer (some ⟨b487, 0, none⟩)), (13, .pointer (some ⟨b514, 0, none⟩)), (55, .slice a_c2_10 c2_10.length c_c2_10), (56, .int .i64 (c2_10.length : Int)), (57, .int .i64 x460), (69, .slice na480 x469.length nc481), (70, .int .i64 (x469.length : Int)), (71, .int .i64 x491), (75, .int .i64 0)]) (by kernel_rfl) ?_
                        refine t_end ?_
                        show W _ _ _ _ _ _ _
                        refine w_reg fun all => ?_
                        refine t_qz 2 [5, 6, 7, 11, 13, 55, 56, 57, 69, 70, 71, 75] (σ' := [(5, .pointer (some ⟨b437, 0, none⟩)), (6, .pointer (some ⟨b438, 0, none⟩)), (7, .func (.func 33) #[] #[.pointer (some ⟨b435, 0, none⟩), .pointer (some ⟨b436, 0, none⟩)]), (11, .pointer (some ⟨b487, 0, none⟩)), (13, .pointer (some ⟨b514, 0, none⟩)), (55, .slice a_c2_10 c2_10.length c_c2_10), (56, .int .i64 (c2_10.length : Int)), (57, .int .i64 x460), (69, .slice na480 x469.length nc481), (70, .int .i64 (x469.length : Int)), (71, .int .i64 x491), (75, .int .i64 1)]) (by kernel_rfl) ?_
                        refine t_end ?_
                        show WL _ _ _ _ _ _ _ _
                        refine wl_step ?_
                        refine w_seq ?_
                        refine w_reg fun all => ?_
                        refine t_qz 1 [5, 6, 7, 11, 13, 55, 56, 57, 69, 70, 71, 75, 76] (σ' := [(5, .pointer (some ⟨b437, 0, none⟩)), (6, .pointer (some ⟨b438, 0, none⟩)), (7, .func (.func 33) #[] #[.pointer (some ⟨b435, 0, none⟩), .pointer (some ⟨b436, 0, none⟩)]), (11, .pointer (some ⟨b487, 0, none⟩)), (13, .pointer (some ⟨b514, 0, none⟩)), (55, .slice a_c2_10 c2_10.length c_c2_10), (56, .int .i64 (c2_10.length : Int)), (57, .int .i64 x460), (69, .slice na480 x469.length nc481), (70, .int .i64 (x469.length : Int)), (71, .int .i64 x491), (75, .int .i64 1), (76, .bool true)]) (by kernel_rfl) ?_
                        refine t_end ?_
                        show W _ _ _ _ _ _ _
                        refine w_seq ?_
                        refine w_cond rfl (fun _ => ?_) (fun c_ => by cases c_)
                        show W _ _ _ _ _ _ _
                        refine w_skip ?_
                        show W _ _ _ _ _ _ _
                        refine w_seq ?_
                        refine w_block ?_
                        refine w_seq ?_
                        refine w_reg fun all => ?_
                        refine t_qz 2 [5, 6, 7, 11, 13, 14, 55, 56, 57, 69, 70, 71, 75] (σ' := [(5, .pointer (some ⟨b437, 0, none⟩)), (6, .pointer (some ⟨b438, 0, none⟩)), (7, .func (.func 33) #[] #[.pointer (some ⟨b435, 0, none⟩), .pointer (some ⟨b436, 0, none⟩)]), (11, .pointer (some ⟨b487, 0, none⟩)), (13, .pointer (some ⟨b514, 0, none⟩)), (14, .int .i64 1), (55, .slice a_c2_10 c2_10.length c_c2_10), (56, .int .i64 (c2_10.length : Int)), (57, .int .i64 x460), (69, .slice na480 x469.length nc481), (70, .int .i64 (x469.length : Int)), (71, .int .i64 x491), (75, .int .i64 1)]) (by kernel_rfl) ?_
                        refine t_end ?_
                        show W _ _ _ _ _ _ _
                        refine w_reg fun all => ?_
                        refine t_qz 5 [5, 6, 7, 11, 13, 55, 56, 57, 69, 70, 71, 75, 78, 79, 82] (σ' := [(5, .pointer (some ⟨b437, 0, none⟩)), (6, .pointer (some ⟨b438, 0, none⟩)), (7, .func (.func 33) #[] #[.pointer (some ⟨b435, 0, none⟩), .pointer (some ⟨b436, 0, none⟩)]), (11, .pointer (some ⟨b487, 0, none⟩)), (13, .pointer (some ⟨b514, 0, none⟩)), (55, .slice a_c2_10 c2_10.length c_c2_10), (56, .int .i64 (c2_10.length : Int)), (57, .int .i64 x460), (69, .slice na480 x469.length nc481), (70, .int .i64 (x469.length : Int)), (71, .int .i64 x491), (75, .int .i64 1), (78, .int .i64 1), (79, .func (.func 33) #[] #[.pointer (some ⟨b435, 0, none⟩), .pointer (some ⟨b436, 0, none⟩)]), (82, .pointer (some ⟨b514, 3, none⟩))]) (by kernel_rfl) ?_
                        refine t_v (.ldn rfl rfl rfl (.at 0 rfl rfl)) ?_
                        obtain ⟨⟨t521, t522⟩, h523, e516⟩ := bind_of e516
                        try dsimp only at e516
                        refine t_v (.clor (vs := [.agg #[.int .i64 x501, .int .i64 x502]]) (caps := #[.pointer (some ⟨b435, 0, none⟩), .pointer (some ⟨b436, 0, none⟩)]) (A := ([⟨b435, [.int .i64 i0_0, .int .i64 i0_1, .int .i64 i0_2, .slice a_i0_3 n_i0_3 c_i0_3, .slice a_i0_4 n_i0_4 c_i0_4], 5⟩, ⟨b436, [.int .i64 w1], 1⟩] : List Own)) (F0 := (([⟨b514, [.int .i64 x498, .int .i64 t518, .int .i64 t519, .int .i64 x501, .int .i64 x502, .int .i64 x503, .int .i64 x504], 7⟩, ⟨a492, encL E_i647 y493, na492⟩, ⟨b487, [.int .i64 t484, .int .i64 t485, .slice (ad a492) y493.length (na492 / 7), .bool x470], 4⟩, ⟨b483, [.int .i64 x467, .int .i64 x468, .slice na480 x469.length nc481, .bool x470], 4⟩, ⟨a461, csa461, na461⟩, ⟨b438, [.int .i64 0, .int .i64 0, .int .i64 0, .int .i64 0, .int .i64 0, .int .i64 0, .int .i64 0, .int .i64 0, .int .i64 0, .int .i64 0, .slice none 0 0], 11⟩, ⟨b437, [.int .i64 c2_0, .int .i64 c2_1, .int .i64 x456, .int .i64 c2_3, .int .i64 c2_4, .int .i64 c2_5, .int .i64 t439, .int .i64 t440, .int .i64 x449, .int .i64 t443, .slice (ad a461) y462.length (na461 / 4)], 11⟩] : List Own) ++ (Fa461 ++ []))) rfl rfl rfl (by kernel_rfl) (by kernel_rfl) (sel_perm (is := [8, 7]) (by kernel_rfl)) (scale_Cmd_1_v1.ok hE_ h523)) ?_
                        refine t_qz 2 [5, 6, 7, 11, 13, 55, 56, 57, 69, 70, 71, 75, 84, 86] (σ' := [(5, .pointer (some ⟨b437, 0, none⟩)), (6, .pointer (some ⟨b438, 0, none⟩)), (7, .func (.func 33) #[] #[.pointer (some ⟨b435, 0, none⟩), .pointer (some ⟨b436, 0, none⟩)]), (11, .pointer (some ⟨b487, 0, none⟩)), (13, .pointer (some ⟨b514, 0, none⟩)), (55, .slice a_c2_10 c2_10.length c_c2_10), (56, .int .i64 (c2_10.length : Int)), (57, .int .i64 x460), (69, .slice na480 x469.length nc481), (70, .int .i64 (x469.length : Int)), (71, .int .i64 x491), (75, .int .i64 1), (84, .agg #[.int .i64 t521, .int .i64 t522]), (86, .pointer (some ⟨b514, 3, none⟩))]) (by kernel_rfl) ?_
                        refine t_sti 0 (cs := [.int .i64 x498, .int .i64 t518, .int .i64 t519, .int .i64 t521, .int .i64 t522, .int .i64 x503, .int .i64 x504]) rfl rfl rfl rfl rfl rfl rfl rfl rfl ?_
                        refine t_keep [5, 6, 7, 11, 13, 55, 56, 57, 69, 70, 71, 75] (σ' := [(5, .pointer (some ⟨b437, 0, none⟩)), (6, .pointer (some ⟨b438, 0, none⟩)), (7, .func (.func 33) #[] #[.pointer (some ⟨b435, 0, none⟩), .pointer (some ⟨b436, 0, none⟩)]), (11, .pointer (some ⟨b487, 0, none⟩)), (13, .pointer (some ⟨b514, 0, none⟩)), (55, .slice a_c2_10 c2_10.length c_c2_10), (56, .int .i64 (c2_10.length : Int)), (57, .int .i64 x460), (69, .slice na480 x469.length nc481), (70, .int .i64 (x469.length : Int)), (71, .int .i64 x491), (75, .int .i64 1)]) (by kernel_rfl) ?_
                        refine t_end ?_
                        show W _ _ _ _ _ _ _
                        refine w_reg fun all => ?_
                        refine t_qz 2 [5, 6, 7, 11, 13, 55, 56, 57, 69, 70, 71, 75] (σ' := [(5, .pointer (some ⟨b437, 0, none⟩)), (6, .pointer (some ⟨b438, 0, none⟩)), (7, .func (.func 33) #[] #[.pointer (some ⟨b435, 0, none⟩), .pointer (some ⟨b436, 0, none⟩)]), (11, .pointer (some ⟨b487, 0, none⟩)), (13, .pointer (some ⟨b514, 0, none⟩)), (55, .slice a_c2_10 c2_10.length c_c2_10), (56, .int .i64 (c2_10.length : Int)), (57, .int .i64 x460), (69, .slice na480 x469.length nc481), (70, .int .i64 (x469.length : Int)), (71, .int .i64 x491), (75, .int .i64 2)]) (by kernel_rfl) ?_
                        refine t_end ?_
                        show WL _ _ _ _ _ _ _ _
                        refine wl_step ?_
                        refine w_seq ?_
                        refine w_reg fun all => ?_
                        refine t_qz 1 [5, 6, 7, 11, 13, 55, 56, 57, 69, 70, 71, 75, 76] (σ' := [(5, .pointer (some ⟨b437, 0, none⟩)), (6, .pointer (some ⟨b438, 0, none⟩)), (7, .func (.func 33) #[] #[.pointer (some ⟨b435, 0, none⟩), .pointer (some ⟨b436, 0, none⟩)]), (11, .pointer (some ⟨b487, 0, none⟩)), (13, .pointer (some ⟨b514, 0, none⟩)), (55, .slice a_c2_10 c2_10.length c_c2_10), (56, .int .i64 (c2_10.length : Int)), (57, .int .i64 x460), (69, .slice na480 x469.length nc481), (70, .int .i64 (x469.length : Int)), (71, .int .i64 x491), (75, .int .i64 2), (76, .bool true)]) (by kernel_rfl) ?_
                        refine t_end ?_
                        show W _ _ _ _ _ _ _
                        refine w_seq ?_
                        refine w_cond rfl (fun _ => ?_) (fun c_ => by cases c_)
                        show W _ _ _ _ _ _ _
                        refine w_skip ?_
                        show W _ _ _ _ _ _ _
                        refine w_seq ?_
                        refine w_block ?_
                        refine w_seq ?_
                        refine w_reg fun all => ?_
                        refine t_qz 2 [5, 6, 7, 11, 13, 14, 55, 56, 57, 69, 70, 71, 75] (σ' := [(5, .pointer (some ⟨b437, 0, none⟩)), (6, .pointer (some ⟨b438, 0, none⟩)), (7, .func (.func 33) #[] #[.pointer (some ⟨b435, 0, none⟩), .pointer (some ⟨b436, 0, none⟩)]), (11, .pointer (some ⟨b487, 0, none⟩)), (13, .pointer (some ⟨b514, 0, none⟩)), (14, .int .i64 2), (55, .slice a_c2_10 c2_10.length c_c2_10), (56, .int .i64 (c2_10.length : Int)), (57, .int .i64 x460), (69, .slice na480 x469.length nc481), (70, .int .i64 (x469.length : Int)), (71, .int .i64 x491), (75, .int .i64 2)]) (by kernel_rfl) ?_
                        refine t_end ?_
                        show W _ _ _ _ _ _ _
                        refine w_reg fun all => ?_
                        refine t_qz 5 [5, 6, 7, 11, 13, 55, 56, 57, 69, 70, 71, 75, 78, 79, 82] (σ' := [(5, .pointer (some ⟨b437, 0, none⟩)), (6, .pointer (some ⟨b438, 0, none⟩)), (7, .func (.func 33) #[] #[.pointer (some ⟨b435, 0, none⟩), .pointer (some ⟨b436, 0, none⟩)]), (11, .pointer (some ⟨b487, 0, none⟩)), (13, .pointer (some ⟨b514, 0, none⟩)), (55, .slice a_c2_10 c2_10.length c_c2_10), (56, .int .i64 (c2_10.length : Int)), (57, .int .i64 x460), (69, .slice na480 x469.length nc481), (70, .int .i64 (x469.length : Int)), (71, .int .i64 x491), (75, .int .i64 2), (78, .int .i64 2), (79, .func (.func 33) #[] #[.pointer (some ⟨b435, 0, none⟩), .pointer (some ⟨b436, 0, none⟩)]), (82, .pointer (some ⟨b514, 5, none⟩))]) (by kernel_rfl) ?_
                        refine t_v (.ldn rfl rfl rfl (.at 0 rfl rfl)) ?_
                        obtain ⟨⟨t524, t525⟩, h526, e516⟩ := bind_of e516
                        try dsimp only at e516
                        refine t_v (.clor (vs := [.agg #[.int .i64 x503, .int .i64 x504]]) (caps := #[.pointer (some ⟨b435, 0, none⟩), .pointer (some ⟨b436, 0, none⟩)]) (A := ([⟨b435, [.int .i64 i0_0, .int .i64 i0_1, .int .i64 i0_2, .slice a_i0_3 n_i0_3 c_i0_3, .slice a_i0_4 n_i0_4 c_i0_4], 5⟩, ⟨b436, [.int .i64 w1], 1⟩] : List Own)) (F0 := (([⟨b514, [.int .i64 x498, .int .i64 t518, .int .i64 t519, .int .i64 t521, .int .i64 t522, .int .i64 x503, .int .i64 x504], 7⟩, ⟨a492, encL E_i647 y493, na492⟩, ⟨b487, [.int .i64 t484, .int .i64 t485, .slice (ad a492) y493.length (na492 / 7), .bool x470], 4⟩, ⟨b483, [.int .i64 x467, .int .i64 x468, .slice na480 x469.length nc481, .bool x470], 4⟩, ⟨a461, csa461, na461⟩, ⟨b438, [.int .i64 0, .int .i64 0, .int .i64 0, .int .i64 0, .int .i64 0, .int .i64 0, .int .i64 0, .int .i64 0, .int .i64 0, .int .i64 0, .slice none 0 0], 11⟩, ⟨b437, [.int .i64 c2_0, .int .i64 c2_1, .int .i64 x456, .int .i64 c2_3, .int .i64 c2_4, .int .i64 c2_5, .int .i64 t439, .int .i64 t440, .int .i64 x449, .int .i64 t443, .slice (ad a461) y462.length (na461 / 4)], 11⟩] : List Own) ++ (Fa461 ++ []))) rfl rfl rfl (by kernel_rfl) (by kernel_rfl) (sel_perm (is := [8, 7]) (by kernel_rfl)) (scale_Cmd_1_v1.ok hE_ h526)) ?_
                        refine t_qz 2 [5, 6, 7, 11, 13, 55, 56, 57, 69, 70, 71, 75, 84, 86] (σ' := [(5, .pointer (some ⟨b437, 0, none⟩)), (6, .pointer (some ⟨b438, 0, none⟩)), (7, .func (.func 33) #[] #[.pointer (some ⟨b435, 0, none⟩), .pointer (some ⟨b436, 0, none⟩)]), (11, .pointer (some ⟨b487, 0, none⟩)), (13, .pointer (some ⟨b514, 0, none⟩)), (55, .slice a_c2_10 c2_10.length c_c2_10), (56, .int .i64 (c2_10.length : Int)), (57, .int .i64 x460), (69, .slice na480 x469.length nc481), (70, .int .i64 (x469.length : Int)), (71, .int .i64 x491), (75, .int .i64 2), (84, .agg #[.int .i64 t524, .int .i64 t525]), (86, .pointer (some ⟨b514, 5, none⟩))]) (by kernel_rfl) ?_
                        refine t_sti 0 (cs := [.int .i64 x498, .int .i64 t518, .int .i64 t519, .int .i64 t521, .int .i64 t522, .int .i64 t524, .int .i64 t525]) rfl rfl rfl rfl rfl rfl rfl rfl rfl ?_
                        refine t_keep [5, 6, 7, 11, 13, 55, 56, 57, 69, 70, 71, 75] (σ' := [(5, .pointer (some ⟨b437, 0, none⟩)), (6, .pointer (some ⟨b438, 0, none⟩)), (7, .func (.func 33) #[] #[.pointer (some ⟨b435, 0, none⟩), .pointer (some ⟨b436, 0, none⟩)]), (11, .pointer (some ⟨b487, 0, none⟩)), (13, .pointer (some ⟨b514, 0, none⟩)), (55, .slice a_c2_10 c2_10.length c_c2_10), (56, .int .i64 (c2_10.length : Int)), (57, .int .i64 x460), (69, .slice na480 x469.length nc481), (70, .int .i64 (x469.length : Int)), (71, .int .i64 x491), (75, .int .i64 2)]) (by kernel_rfl) ?_
                        refine t_end ?_
                        show W _ _ _ _ _ _ _
                        refine w_reg fun all => ?_
                        refine t_qz 2 [5, 6, 7, 11, 13, 55, 56, 57, 69, 70, 71, 75] (σ' := [(5, .pointer (some ⟨b437, 0, none⟩)), (6, .pointer (some ⟨b438, 0, none⟩)), (7, .func (.func 33) #[] #[.pointer (some ⟨b435, 0, none⟩), .pointer (some ⟨b436, 0, none⟩)]), (11, .pointer (some ⟨b487, 0, none⟩)), (13, .pointer (some ⟨b514, 0, none⟩)), (55, .slice a_c2_10 c2_10.length c_c2_10), (56, .int .i64 (c2_10.length : Int)), (57, .int .i64 x460), (69, .slice na480 x469.length nc481), (70, .int .i64 (x469.length : Int)), (71, .int .i64 x491), (75, .int .i64 3)]) (by kernel_rfl) ?_
                        refine t_end ?_
                        show WL _ _ _ _ _ _ _ _
                        refine wl_step ?_
                        refine w_seq ?_
                        refine w_reg fun all => ?_
                        refine t_qz 1 [5, 6, 7, 11, 13, 55, 56, 57, 69, 70, 71, 75, 76] (σ' := [(5, .pointer (some ⟨b437, 0, none⟩)), (6, .pointer (some ⟨b438, 0, none⟩)), (7, .func (.func 33) #[] #[.pointer (some ⟨b435, 0, none⟩), .pointer (some ⟨b436, 0, none⟩)]), (11, .pointer (some ⟨b487, 0, none⟩)), (13, .pointer (some ⟨b514, 0, none⟩)), (55, .slice a_c2_10 c2_10.length c_c2_10), (56, .int .i64 (c2_10.length : Int)), (57, .int .i64 x460), (69, .slice na480 x469.length nc481), (70, .int .i64 (x469.length : Int)), (71, .int .i64 x491), (75, .int .i64 3), (76, .bool false)]) (by kernel_rfl) ?_
                        refine t_end ?_
                        show W _ _ _ _ _ _ _
                        refine w_seq ?_
                        refine w_cond rfl (fun c_ => by cases c_) (fun _ => ?_)
                        show W _ _ _ _ _ _ _
                        refine w_exit ?_
                        simp only [Option.some.injEq, Prod.mk.injEq] at e516
                        obtain ⟨rfl, rfl, rfl, rfl, rfl, rfl⟩ := e516
                        exact ⟨(([⟨b514, [.int .i64 x498, .int .i64 t518, .int .i64 t519, .int .i64 t521, .int .i64 t522, .int .i64 t524, .int .i64 t525], 7⟩, ⟨b487, [.int .i64 t484, .int .i64 t485, .slice (ad a492) y493.length (na492 / 7), .bool x470], 4⟩, ⟨b483, [.int .i64 x467, .int .i64 x468, .slice na480 x469.length nc481, .bool x470], 4⟩, ⟨b438, [.int .i64 0, .int .i64 0, .int .i64 0, .int .i64 0, .int .i64 0, .int .i64 0, .int .i64 0, .int .i64 0, .int .i64 0, .int .i64 0, .slice none 0 0], 11⟩, ⟨b437, [.int .i64 c2_0, .int .i64 c2_1, .int .i64 x456, .int .i64 c2_3, .int .i64 c2_4, .int .i64 c2_5, .int .i64 t439, .int .i64 t440, .int .i64 x449, .int .i64 t443, .slice (ad a461) y462.length (na461 / 4)], 11⟩, ⟨b436, [.int .i64 w1], 1⟩, ⟨b435, [.int .i64 i0_0, .int .i64 i0_1, .int .i64 i0_2, .slice a_i0_3 n_i0_3 c_i0_3, .slice a_i0_4 n_i0_4 c_i0_4], 5⟩, ⟨a492, encL E_i647 y493, na492⟩, ⟨a461, csa461, na461⟩] : List Own) ++ (Fa461 ++ [])), S, VS.selT 9 [0, 1, 1, 2, 2, 2, 2, 0, 0] (by kernel_rfl), by kernel_rfl, rfl, rfl⟩
                      · rintro σ_ H_ S_ ⟨rfl, rfl, rfl⟩
                        refine w_reg fun all => ?_
                        refine t_qz 1 [5, 6, 7, 11, 13, 55, 56, 57, 69, 70, 71, 88] (σ' := [(5, .pointer (some ⟨b437, 0, none⟩)), (6, .pointer (some ⟨b438, 0, none⟩)), (7, .func (.func 33) #[] #[.pointer (some ⟨b435, 0, none⟩), .pointer (some ⟨b436, 0, none⟩)]), (11, .pointer (some ⟨b487, 0, none⟩)), (13, .pointer (some ⟨b514, 0, none⟩)), (55, .slice a_c2_10 c2_10.length c_c2_10), (56, .int .i64 (c2_10.length : Int)), (57, .int .i64 x460), (69, .slice na480 x469.length nc481), (70, .int .i64 (x469.length : Int)), (71, .int .i64 x491), (88, .pointer (some ⟨b487, 2, none⟩))]) (by kernel_rfl) ?_
                        refine t_v (.ld1 rfl rfl rfl (.at 1 rfl rfl)) ?_
                        refine t_v (.ldn rfl rfl rfl (.at 0 rfl rfl)) ?_
                        refine t_a (.bsl rfl rfl rfl rfl) fun b533 fb533 sb533 => ?_
                        obtain ⟨y534, hl535, e496⟩ := bind_of e496
                        refine t_appX (E := E_i647) (L := y493) (X := ([(x498, x527, x528, x529, x530, x531, x532)] : List (Int × Int × Int × Int × Int × Int × Int))) (F := (([⟨b533, [.int .i64 x498, .int .i64 x527, .int .i64 x528, .int .i64 x529, .int .i64 x530, .int .i64 x531, .int .i64 x532], 7⟩, ⟨b514, [.int .i64 x498, .int .i64 x527, .int .i64 x528, .int .i64 x529, .int .i64 x530, .int .i64 x531, .int .i64 x532], 7⟩, ⟨b487, [.int .i64 t484, .int .i64 t485, .slice (ad a492) y493.length (na492 / 7), .bool x470], 4⟩, ⟨b483, [.int .i64 x467, .int .i64 x468, .slice na480 x469.length nc481, .bool x470], 4⟩, ⟨b438, [.int .i64 0, .int .i64 0, .int .i64 0, .int .i64 0, .int .i64 0, .int .i64 0, .int .i64 0, .int .i64 0, .int .i64 0, .int .i64 0, .slice none 0 0], 11⟩, ⟨b437, [.int .i64 c2_0, .int .i64 c2_1, .int .i64 x456, .int .i64 c2_3, .int .i64 c2_4, .int .i64 c2_5, .int .i64 t439, .int .i64 t440, .int .i64 x449, .int .i64 t443, .slice (ad a461) y462.length (na461 / 4)], 11⟩, ⟨b436, [.int .i64 w1], 1⟩, ⟨b435, [.int .i64 i0_0, .int .i64 i0_1, .int .i64 i0_2, .slice a_i0_3 n_i0_3 c_i0_3, .slice a_i0_4 n_i0_4 c_i0_4], 5⟩, ⟨a461, csa461, na461⟩] : List Own) ++ (Fa461 ++ []))) rfl rfl rfl rfl (sel_perm (is := [8]) (by kernel_rfl)) rfl (Or.inr ⟨_, _, rfl, .at 0 rfl (by kernel_rfl)⟩) rfl (by decide) (by decide) rfl hl535 fun a536 na536 => ?_
                        refine t_qz 1 [5, 6, 7, 11, 55, 56, 57, 69, 70, 71, 92, 93] (σ' := [(5, .pointer (some ⟨b437, 0, none⟩)), (6, .pointer (some ⟨b438, 0, none⟩)), (7, .func (.func 33) #[] #[.pointer (some ⟨b435, 0, none⟩), .pointer (some ⟨b436, 0, none⟩)]), (11, .pointer (some ⟨b487, 0, none⟩)), (55, .slice a_c2_10 c2_10.length c_c2_10), (56, .int .i64 (c2_10.length : Int)), (57, .int .i64 x460), (69, .slice na480 x469.length nc481), (70, .int .i64 (x469.length : Int)), (71, .int .i64 x491), (92, .slice (ad a536) y534.length (na536 / 7)), (93, .pointer (some ⟨b487, 2, none⟩))]) (by kernel_rfl) ?_
                        refine t_sti 3 (cs := [.int .i64 t484, .int .i64 t485, .slice (ad a536) y534.length (na536 / 7), .bool x470]) rfl rfl rfl rfl rfl rfl rfl rfl rfl ?_
                        refine t_keep [5, 6, 7, 11, 55, 56, 57, 69, 70, 71] (σ' := [(5, .pointer (some ⟨b437, 0, none⟩)), (6, .pointer (some ⟨b438, 0, none⟩)), (7, .func (.func 33) #[] #[.pointer (some ⟨b435, 0, none⟩), .pointer (some ⟨b436, 0, none⟩)]), (11, .pointer (some ⟨b487, 0, none⟩)), (55, .slice a_c2_10 c2_10.length c_c2_10), (56, .int .i64 (c2_10.length : Int)), (57, .int .i64 x460), (69, .slice na480 x469.length nc481), (70, .int .i64 (x469.length : Int)), (71, .int .i64 x491)]) (by kernel_rfl) ?_
                        refine t_end ?_
                        obtain rfl := Option.some.inj e496
                        exact ⟨(([⟨b487, [.int .i64 t484, .int .i64 t485, .slice (ad a536) y534.length (na536 / 7), .bool x470], 4⟩, ⟨b483, [.int .i64 x467, .int .i64 x468, .slice na480 x469.length nc481, .bool x470], 4⟩, ⟨b438, [.int .i64 0, .int .i64 0, .int .i64 0, .int .i64 0, .int .i64 0, .int .i64 0, .int .i64 0, .int .i64 0, .int .i64 0, .int .i64 0, .slice none 0 0], 11⟩, ⟨b437, [.int .i64 c2_0, .int .i64 c2_1, .int .i64 x456, .int .i64 c2_3, .int .i64 c2_4, .int .i64 c2_5, .int .i64 t439, .int .i64 t440, .int .i64 x449, .int .i64 t443, .slice (ad a461) y462.length (na461 / 4)], 11⟩, ⟨b436, [.int .i64 w1], 1⟩, ⟨b435, [.int .i64 i0_0, .int .i64 i0_1, .int .i64 i0_2, .slice a_i0_3 n_i0_3 c_i0_3, .slice a_i0_4 n_i0_4 c_i0_4], 5⟩, ⟨a536, encL E_i647 y534, na536⟩, ⟨a461, csa461, na461⟩] : List Own) ++ (Fa461 ++ [])), S, VS.selT 10 [3, 3, 3, 3, 3, 3, 0, 2] (by kernel_rfl), a536, na536, by kernel_rfl, rfl, rfl⟩
                    · rintro σ_ H_ S_ ⟨a537, na537, rfl, rfl, rfl⟩
                      refine w_reg fun all => ?_
                      refine t_qz 2 [5, 6, 7, 11, 55, 56, 57, 69, 70, 71] (σ' := [(5, .pointer (some ⟨b437, 0, none⟩)), (6, .pointer (some ⟨b438, 0, none⟩)), (7, .func (.func 33) #[] #[.pointer (some ⟨b435, 0, none⟩), .pointer (some ⟨b436, 0, none⟩)]), (11, .pointer (some ⟨b487, 0, none⟩)), (55, .slice a_c2_10 c2_10.length c_c2_10), (56, .int .i64 (c2_10.length : Int)), (57, .int .i64 x460), (69, .slice na480 x469.length nc481), (70, .int .i64 (x469.length : Int)), (71, .int .i64 (wr64 (x491 + 1)))]) (by kernel_rfl) ?_
                      refine t_end ?_
                      exact ⟨k_, Nat.lt_succ_self _, [(5, .pointer (some ⟨b437, 0, none⟩)), (6, .pointer (some ⟨b438, 0, none⟩)), (7, .func (.func 33) #[] #[.pointer (some ⟨b435, 0, none⟩), .pointer (some ⟨b436, 0, none⟩)]), (11, .pointer (some ⟨b487, 0, none⟩)), (55, .slice a_c2_10 c2_10.length c_c2_10), (56, .int .i64 (c2_10.length : Int)), (57, .int .i64 x460), (69, .slice na480 x469.length nc481), (70, .int .i64 (x469.length : Int)), (71, .int .i64 (wr64 (x491 + 1)))], (([⟨a537, encL E_i647 y538, na537⟩, ⟨b487, [.int .i64 t484, .int .i64 t485, .slice (ad a537) y538.length (na537 / 7), .bool x470], 4⟩, ⟨b483, [.int .i64 x467, .int .i64 x468, .slice na480 x469.length nc481, .bool x470], 4⟩, ⟨a461, csa461, na461⟩, ⟨b438, [.int .i64 0, .int .i64 0, .int .i64 0, .int .i64 0, .int .i64 0, .int .i64 0, .int .i64 0, .int .i64 0, .int .i64 0, .int .i64 0, .slice none 0 0], 11⟩, ⟨b437, [.int .i64 c2_0, .int .i64 c2_1, .int .i64 x456, .int .i64 c2_3, .int .i64 c2_4, .int .i64 c2_5, .int .i64 t439, .int .i64 t440, .int .i64 x449, .int .i64 t443, .slice (ad a461) y462.length (na461 / 4)], 11⟩, ⟨b436, [.int .i64 w1], 1⟩, ⟨b435, [.int .i64 i0_0, .int .i64 i0_1, .int .i64 i0_2, .slice a_i0_3 n_i0_3 c_i0_3, .slice a_i0_4 n_i0_4 c_i0_4], 5⟩] : List Own) ++ (Fa461 ++ [])), S, keep_sub [5, 6, 7, 11, 55, 56, 57, 69, 70, 71] (by kernel_rfl), VS.selT 8 [6, 0, 0, 4, 0, 0, 0, 0] (by kernel_rfl), wr64 (x491 + 1), y538, a537, na537, rfl, rfl, rfl, e489⟩
                  · rw [if_neg c494] at e489
                    have c494b : (decide (x491 < (x469.length : Int))) = false := decide_eq_false c494
                    refine t_v (dv_quiet rfl (congrArg (fun t => some (Value.bool t)) c494b)) ?_
                    refine t_keep [5, 6, 7, 11, 55, 56, 57, 69, 70, 71, 72] (σ' := [(5, .pointer (some ⟨b437, 0, none⟩)), (6, .pointer (some ⟨b438, 0, none⟩)), (7, .func (.func 33) #[] #[.pointer (some ⟨b435, 0, none⟩), .pointer (some ⟨b436, 0, none⟩)]), (11, .pointer (some ⟨b487, 0, none⟩)), (55, .slice a_c2_10 c2_10.length c_c2_10), (56, .int .i64 (c2_10.length : Int)), (57, .int .i64 x460), (69, .slice na480 x469.length nc481), (70, .int .i64 (x469.length : Int)), (71, .int .i64 x491), (72, .bool false)]) (by kernel_rfl) ?_
                    refine t_end ?_
                    show W _ _ _ _ _ _ _
                    refine w_seq ?_
                    refine w_cond rfl (fun c_ => by cases c_) (fun _ => ?_)
                    show W _ _ _ _ _ _ _
                    refine w_exit ?_
                    obtain rfl := Option.some.inj e489
                    exact ⟨(([⟨b487, [.int .i64 t484, .int .i64 t485, .slice (ad a492) y493.length (na492 / 7), .bool x470], 4⟩, ⟨b483, [.int .i64 x467, .int .i64 x468, .slice na480 x469.length nc481, .bool x470], 4⟩, ⟨b438, [.int .i64 0, .int .i64 0, .int .i64 0, .int .i64 0, .int .i64 0, .int .i64 0, .int .i64 0, .int .i64 0, .int .i64 0, .int .i64 0, .slice none 0 0], 11⟩, ⟨b437, [.int .i64 c2_0, .int .i64 c2_1, .int .i64 x456, .int .i64 c2_3, .int .i64 c2_4, .int .i64 c2_5, .int .i64 t439, .int .i64 t440, .int .i64 x449, .int .i64 t443, .slice (ad a461) y462.length (na461 / 4)], 11⟩, ⟨b436, [.int .i64 w1], 1⟩, ⟨b435, [.int .i64 i0_0, .int .i64 i0_1, .int .i64 i0_2, .slice a_i0_3 n_i0_3 c_i0_3, .slice a_i0_4 n_i0_4 c_i0_4], 5⟩, ⟨a492, encL E_i647 y493, na492⟩, ⟨a461, csa461, na461⟩] : List Own) ++ (Fa461 ++ [])), S, VS.selT 8 [1, 1, 2, 2, 2, 2, 0, 0] (by kernel_rfl), a492, na492, by kernel_rfl, rfl, rfl⟩
              · rintro σ_ H_ S_ ⟨a541, na541, rfl, rfl, rfl⟩
                refine w_reg fun all => ?_
                refine t_qz 1 [5, 6, 7, 11, 55, 56, 57, 95] (σ' := [(5, .pointer (some ⟨b437, 0, none⟩)), (6, .pointer (some ⟨b438, 0, none⟩)), (7, .func (.func 33) #[] #[.pointer (some ⟨b435, 0, none⟩), .pointer (some ⟨b436, 0, none⟩)]), (11, .pointer (some ⟨b487, 0, none⟩)), (55, .slice a_c2_10 c2_10.length c_c2_10), (56, .int .i64 (c2_10.length : Int)), (57, .int .i64 x460), (95, .pointer (some ⟨b437, 10, none⟩))]) (by kernel_rfl) ?_
                refine t_v (.ld1 rfl rfl rfl (.at 3 rfl rfl)) ?_
                refine t_v (.ldn rfl rfl rfl (.at 0 rfl rfl)) ?_
                refine t_a (.bsl rfl rfl rfl rfl) fun b543 fb543 sb543 => ?_
                obtain ⟨y544, hl545, e465⟩ := bind_of e465
                refine t_someB 7 rfl fun hba541_ => ?_
                refine t_appN (R := rdOf (([⟨a541, encL E_i647 y542, na541⟩] : List Own) ++ (Fa461 ++ [])) S) (E := N_0) (L := y462) (X := ([(t484, t485, y542, x470)] : List (Int × Int × List (Int × Int × Int × Int × Int × Int × Int) × Bool))) (cs := csa461) (ds := [.int .i64 t484, .int .i64 t485, .slice (ad a541) y542.length (na541 / 7), .bool x470]) (F := (([⟨b543, [.int .i64 t484, .int .i64 t485, .slice (ad a541) y542.length (na541 / 7), .bool x470], 4⟩, ⟨b487, [.int .i64 t484, .int .i64 t485, .slice (ad a541) y542.length (na541 / 7), .bool x470], 4⟩, ⟨b483, [.int .i64 x467, .int .i64 x468, .slice na480 x469.length nc481, .bool x470], 4⟩, ⟨b438, [.int .i64 0, .int .i64 0, .int .i64 0, .int .i64 0, .int .i64 0, .int .i64 0, .int .i64 0, .int .i64 0, .int .i64 0, .int .i64 0, .slice none 0 0], 11⟩, ⟨b437, [.int .i64 c2_0, .int .i64 c2_1, .int .i64 x456, .int .i64 c2_3, .int .i64 c2_4, .int .i64 c2_5, .int .i64 t439, .int .i64 t440, .int .i64 x449, .int .i64 t443, .slice (ad a461) y462.length (na461 / 4)], 11⟩, ⟨b436, [.int .i64 w1], 1⟩, ⟨b435, [.int .i64 i0_0, .int .i64 i0_1, .int .i64 i0_2, .slice a_i0_3 n_i0_3 c_i0_3, .slice a_i0_4 n_i0_4 c_i0_4], 5⟩, ⟨a541, encL E_i647 y542, na541⟩] : List Own) ++ (Fa461 ++ []))) rfl rfl rfl rfl (sel_perm (is := [8]) (by kernel_rfl)) (RL.mono hra461 (rd_sub (sub_app (seg_in 1 (X := (Fa461 ++ [])) rfl seg_hd) sub_nil))) (RL.one (E := N_0) ⟨_, _, rfl, SlN.own (RL.flat (E := E_i647)) hba541_ (by decide) (fun _ hk_ => Or.inl ⟨_, mem_at 0 rfl, hk_, rfl⟩)⟩) rfl (by decide) (.at 0 rfl (by kernel_rfl)) rfl (by decide) (by decide) rfl hl545 fun a546 na546 csa546 hra546 => ?_
                refine t_qz 1 [5, 6, 7, 55, 56, 57, 99, 100] (σ' := [(5, .pointer (some ⟨b437, 0, none⟩)), (6, .pointer (some ⟨b438, 0, none⟩)), (7, .func (.func 33) #[] #[.pointer (some ⟨b435, 0, none⟩), .pointer (some ⟨b436, 0, none⟩)]), (55, .slice a_c2_10 c2_10.length c_c2_10), (56, .int .i64 (c2_10.length : Int)), (57, .int .i64 x460), (99, .slice (ad a546) y544.length (na546 / 4)), (100, .pointer (some ⟨b437, 10, none⟩))]) (by kernel_rfl) ?_
                refine t_sti 5 (cs := [.int .i64 c2_0, .int .i64 c2_1, .int .i64 x456, .int .i64 c2_3, .int .i64 c2_4, .int .i64 c2_5, .int .i64 t439, .int .i64 t440, .int .i64 x449, .int .i64 t443, .slice (ad a546) y544.length (na546 / 4)]) rfl rfl rfl rfl rfl rfl rfl rfl rfl ?_
                refine t_keep [5, 6, 7, 55, 56, 57] (σ' := [(5, .pointer (some ⟨b437, 0, none⟩)), (6, .pointer (some ⟨b438, 0, none⟩)), (7, .func (.func 33) #[] #[.pointer (some ⟨b435, 0, none⟩), .pointer (some ⟨b436, 0, none⟩)]), (55, .slice a_c2_10 c2_10.length c_c2_10), (56, .int .i64 (c2_10.length : Int)), (57, .int .i64 x460)]) (by kernel_rfl) ?_
                refine t_end ?_
                obtain rfl := Option.some.inj e465
                exact ⟨(([⟨b438, [.int .i64 0, .int .i64 0, .int .i64 0, .int .i64 0, .int .i64 0, .int .i64 0, .int .i64 0, .int .i64 0, .int .i64 0, .int .i64 0, .slice none 0 0], 11⟩, ⟨b437, [.int .i64 c2_0, .int .i64 c2_1, .int .i64 x456, .int .i64 c2_3, .int .i64 c2_4, .int .i64 c2_5, .int .i64 t439, .int .i64 t440, .int .i64 x449, .int .i64 t443, .slice (ad a546) y544.length (na546 / 4)], 11⟩, ⟨b436, [.int .i64 w1], 1⟩, ⟨b435, [.int .i64 i0_0, .int .i64 i0_1, .int .i64 i0_2, .slice a_i0_3 n_i0_3 c_i0_3, .slice a_i0_4 n_i0_4 c_i0_4], 5⟩, ⟨a546, csa546, na546⟩] : List Own) ++ ((([⟨a541, encL E_i647 y542, na541⟩] : List Own) ++ (Fa461 ++ [])) ++ [])), S, VS.treeA (.a (.l ([⟨a546, csa546, na546⟩, ⟨b543, [.int .i64 t484, .int .i64 t485, .slice (ad a541) y542.length (na541 / 7), .bool x470], 4⟩, ⟨b487, [.int .i64 t484, .int .i64 t485, .slice (ad a541) y542.length (na541 / 7), .bool x470], 4⟩, ⟨b483, [.int .i64 x467, .int .i64 x468, .slice na480 x469.length nc481, .bool x470], 4⟩, ⟨b438, [.int .i64 0, .int .i64 0, .int .i64 0, .int .i64 0, .int .i64 0, .int .i64 0, .int .i64 0, .int .i64 0, .int .i64 0, .int .i64 0, .slice none 0 0], 11⟩, ⟨b437, [.int .i64 c2_0, .int .i64 c2_1, .int .i64 x456, .int .i64 c2_3, .int .i64 c2_4, .int .i64 c2_5, .int .i64 t439, .int .i64 t440, .int .i64 x449, .int .i64 t443, .slice (ad a546) y544.length (na546 / 4)], 11⟩, ⟨b436, [.int .i64 w1], 1⟩, ⟨b435, [.int .i64 i0_0, .int .i64 i0_1, .int .i64 i0_2, .slice a_i0_3 n_i0_3 c_i0_3, .slice a_i0_4 n_i0_4 c_i0_4], 5⟩, ⟨a541, encL E_i647 y542, na541⟩] : List Own)) (.a (.f Fa461) (.l []))) (.a (.l ([⟨b438, [.int .i64 0, .int .i64 0, .int .i64 0, .int .i64 0, .int .i64 0, .int .i64 0, .int .i64 0, .int .i64 0, .int .i64 0, .int .i64 0, .slice none 0 0], 11⟩, ⟨b437, [.int .i64 c2_0, .int .i64 c2_1, .int .i64 x456, .int .i64 c2_3, .int .i64 c2_4, .int .i64 c2_5, .int .i64 t439, .int .i64 t440, .int .i64 x449, .int .i64 t443, .slice (ad a546) y544.length (na546 / 4)], 11⟩, ⟨b436, [.int .i64 w1], 1⟩, ⟨b435, [.int .i64 i0_0, .int .i64 i0_1, .int .i64 i0_2, .slice a_i0_3 n_i0_3 c_i0_3, .slice a_i0_4 n_i0_4 c_i0_4], 5⟩, ⟨a546, csa546, na546⟩] : List Own)) (.a (.a (.l ([⟨a541, encL E_i647 y542, na541⟩] : List Own)) (.a (.f Fa461) (.l []))) (.l []))) [4, 4, 4, 4, 0, 3, 3] (by kernel_rfl), a546, na546, csa546, (([⟨a541, encL E_i647 y542, na541⟩] : List Own) ++ (Fa461 ++ [])), by kernel_rfl, rfl, rfl, RL.mono hra546 (rd_sub seg_hd)⟩
            · rintro σ_ H_ S_ ⟨a547, na547, csa547, Fa547, rfl, rfl, rfl, hra547⟩
              refine w_reg fun all => ?_
              refine t_qz 2 [5, 6, 7, 55, 56, 57] (σ' := [(5, .pointer (some ⟨b437, 0, none⟩)), (6, .pointer (some ⟨b438, 0, none⟩)), (7, .func (.func 33) #[] #[.pointer (some ⟨b435, 0, none⟩), .pointer (some ⟨b436, 0, none⟩)]), (55, .slice a_c2_10 c2_10.length c_c2_10), (56, .int .i64 (c2_10.length : Int)), (57, .int .i64 (wr64 (x460 + 1)))]) (by kernel_rfl) ?_
              refine t_end ?_
              exact ⟨k_, Nat.lt_succ_self _, [(5, .pointer (some ⟨b437, 0, none⟩)), (6, .pointer (some ⟨b438, 0, none⟩)), (7, .func (.func 33) #[] #[.pointer (some ⟨b435, 0, none⟩), .pointer (some ⟨b436, 0, none⟩)]), (55, .slice a_c2_10 c2_10.length c_c2_10), (56, .int .i64 (c2_10.length : Int)), (57, .int .i64 (wr64 (x460 + 1)))], (([⟨a547, csa547, na547⟩, ⟨b438, [.int .i64 0, .int .i64 0, .int .i64 0, .int .i64 0, .int .i64 0, .int .i64 0, .int .i64 0, .int .i64 0, .int .i64 0, .int .i64 0, .slice none 0 0], 11⟩, ⟨b437, [.int .i64 c2_0, .int .i64 c2_1, .int .i64 x456, .int .i64 c2_3, .int .i64 c2_4, .int .i64 c2_5, .int .i64 t439, .int .i64 t440, .int .i64 x449, .int .i64 t443, .slice (ad a547) y548.length (na547 / 4)], 11⟩, ⟨b436, [.int .i64 w1], 1⟩, ⟨b435, [.int .i64 i0_0, .int .i64 i0_1, .int .i64 i0_2, .slice a_i0_3 n_i0_3 c_i0_3, .slice a_i0_4 n_i0_4 c_i0_4], 5⟩] : List Own) ++ ((Fa547 ++ []) ++ [])), S, keep_sub [5, 6, 7, 55, 56, 57] (by kernel_rfl), VS.treeA (.a (.l ([⟨b438, [.int .i64 0, .int .i64 0, .int .i64 0, .int .i64 0, .int .i64 0, .int .i64 0, .int .i64 0, .int .i64 0, .int .i64 0, .int .i64 0, .slice none 0 0], 11⟩, ⟨b437, [.int .i64 c2_0, .int .i64 c2_1, .int .i64 x456, .int .i64 c2_3, .int .i64 c2_4, .int .i64 c2_5, .int .i64 t439, .int .i64 t440, .int .i64 x449, .int .i64 t443, .slice (ad a547) y548.length (na547 / 4)], 11⟩, ⟨b436, [.int .i64 w1], 1⟩, ⟨b435, [.int .i64 i0_0, .int .i64 i0_1, .int .i64 i0_2, .slice a_i0_3 n_i0_3 c_i0_3, .slice a_i0_4 n_i0_4 c_i0_4], 5⟩, ⟨a547, csa547, na547⟩] : List Own)) (.a (.f Fa547) (.l []))) (.a (.l ([⟨a547, csa547, na547⟩, ⟨b438, [.int .i64 0, .int .i64 0, .int .i64 0, .int .i64 0, .int .i64 0, .int .i64 0, .int .i64 0, .int .i64 0, .int .i64 0, .int .i64 0, .slice none 0 0], 11⟩, ⟨b437, [.int .i64 c2_0, .int .i64 c2_1, .int .i64 x456, .int .i64 c2_3, .int .i64 c2_4, .int .i64 c2_5, .int .i64 t439, .int .i64 t440, .int .i64 x449, .int .i64 t443, .slice (ad a547) y548.length (na547 / 4)], 11⟩, ⟨b436, [.int .i64 w1], 1⟩, ⟨b435, [.int .i64 i0_0, .int .i64 i0_1, .int .i64 i0_2, .slice a_i0_3 n_i0_3 c_i0_3, .slice a_i0_4 n_i0_4 c_i0_4], 5⟩] : List Own)) (.a (.a (.f Fa547) (.l [])) (.l []))) [4, 0, 0, 0, 0, 0] (by kernel_rfl), wr64 (x460 + 1), y548, a547, na547, csa547, (Fa547 ++ []), rfl, rfl, rfl, e458, RL.mono hra547 (rd_sub seg_hd)⟩
          · rw [if_neg c463] at e458
            have c463b : (decide (x460 < (c2_10.length : Int))) = false := decide_eq_false c463
            refine t_v (dv_quiet rfl (congrArg (fun t => some (Value.bool t)) c463b)) ?_
            refine t_keep [5, 6, 7, 55, 56, 57, 58] (σ' := [(5, .pointer (some ⟨b437, 0, none⟩)), (6, .pointer (some ⟨b438, 0, none⟩)), (7, .func (.func 33) #[] #[.pointer (some ⟨b435, 0, none⟩), .pointer (some ⟨b436, 0, none⟩)]), (55, .slice a_c2_10 c2_10.length c_c2_10), (56, .int .i64 (c2_10.length : Int)), (57, .int .i64 x460), (58, .bool false)]) (by kernel_rfl) ?_
            refine t_end ?_
            show W _ _ _ _ _ _ _
            refine w_seq ?_
            refine w_cond rfl (fun c_ => by cases c_) (fun _ => ?_)
            show W _ _ _ _ _ _ _
            refine w_exit ?_
            obtain rfl := Option.some.inj e458
            exact ⟨(([⟨b438, [.int .i64 0, .int .i64 0, .int .i64 0, .int .i64 0, .int .i64 0, .int .i64 0, .int .i64 0, .int .i64 0, .int .i64 0, .int .i64 0, .slice none 0 0], 11⟩, ⟨b437, [.int .i64 c2_0, .int .i64 c2_1, .int .i64 x456, .int .i64 c2_3, .int .i64 c2_4, .int .i64 c2_5, .int .i64 t439, .int .i64 t440, .int .i64 x449, .int .i64 t443, .slice (ad a461) y462.length (na461 / 4)], 11⟩, ⟨b436, [.int .i64 w1], 1⟩, ⟨b435, [.int .i64 i0_0, .int .i64 i0_1, .int .i64 i0_2, .slice a_i0_3 n_i0_3 c_i0_3, .slice a_i0_4 n_i0_4 c_i0_4], 5⟩, ⟨a461, csa461, na461⟩] : List Own) ++ ((Fa461 ++ []) ++ [])), S, VS.treeA (.a (.l ([⟨a461, csa461, na461⟩, ⟨b438, [.int .i64 0, .int .i64 0, .int .i64 0, .int .i64 0, .int .i64 0, .int .i64 0, .int .i64 0, .int .i64 0, .int .i64 0, .int .i64 0, .slice none 0 0], 11⟩, ⟨b437, [.int .i64 c2_0, .int .i64 c2_1, .int .i64 x456, .int .i64 c2_3, .int .i64 c2_4, .int .i64 c2_5, .int .i64 t439, .int .i64 t440, .int .i64 x449, .int .i64 t443, .slice (ad a461) y462.length (na461 / 4)], 11⟩, ⟨b436, [.int .i64 w1], 1⟩, ⟨b435, [.int .i64 i0_0, .int .i64 i0_1, .int .i64 i0_2, .slice a_i0_3 n_i0_3 c_i0_3, .slice a_i0_4 n_i0_4 c_i0_4], 5⟩] : List Own)) (.a (.f Fa461) (.l []))) (.a (.l ([⟨b438, [.int .i64 0, .int .i64 0, .int .i64 0, .int .i64 0, .int .i64 0, .int .i64 0, .int .i64 0, .int .i64 0, .int .i64 0, .int .i64 0, .slice none 0 0], 11⟩, ⟨b437, [.int .i64 c2_0, .int .i64 c2_1, .int .i64 x456, .int .i64 c2_3, .int .i64 c2_4, .int .i64 c2_5, .int .i64 t439, .int .i64 t440, .int .i64 x449, .int .i64 t443, .slice (ad a461) y462.length (na461 / 4)], 11⟩, ⟨b436, [.int .i64 w1], 1⟩, ⟨b435, [.int .i64 i0_0, .int .i64 i0_1, .int .i64 i0_2, .slice a_i0_3 n_i0_3 c_i0_3, .slice a_i0_4 n_i0_4 c_i0_4], 5⟩, ⟨a461, csa461, na461⟩] : List Own)) (.a (.a (.f Fa461) (.l [])) (.l []))) [1, 1, 1, 1, 0, 0] (by kernel_rfl), a461, na461, csa461, (Fa461 ++ []), by kernel_rfl, rfl, rfl, RL.mono hra461 (rd_sub seg_hd)⟩
      · rintro σ_ H_ S_ ⟨a551, na551, csa551, Fa551, rfl, rfl, rfl, hra551⟩
        refine w_seq ?_
        refine w_reg fun all => ?_
        refine t_v (.ldn rfl rfl rfl (.at 1 rfl rfl)) ?_
        refine t_sti 0 (cs := [.int .i64 c2_0, .int .i64 c2_1, .int .i64 x456, .int .i64 c2_3, .int .i64 c2_4, .int .i64 c2_5, .int .i64 t439, .int .i64 t440, .int .i64 x449, .int .i64 t443, .slice (ad a551) y552.length (na551 / 4)]) rfl rfl rfl rfl rfl rfl rfl rfl rfl ?_
        refine t_keep [6] (σ' := [(6, .pointer (some ⟨b438, 0, none⟩))]) (by kernel_rfl) ?_
        refine t_end ?_
        show W _ _ _ _ _ _ _
        refine w_someB 4 rfl fun hz4_ => ?_
        refine w_ret ?_
        simp only [Option.some.injEq, Prod.mk.injEq] at e
        obtain ⟨rfl, rfl, rfl, rfl, rfl, rfl, rfl, rfl, rfl, rfl, rfl⟩ := e
        exact ⟨[.agg #[.int .i64 c2_0, .int .i64 c2_1, .int .i64 x456, .int .i64 c2_3, .int .i64 c2_4, .int .i64 c2_5, .int .i64 t439, .int .i64 t440, .int .i64 x449, .int .i64 t443, .slice (ad a551) y552.length (na551 / 4)]], ((([⟨a551, csa551, na551⟩] : List Own) ++ (Fa551 ++ [])) ++ []), S, ⟨⟨_, _, _, rfl, .at 0 rfl rfl, rfl⟩, trivial⟩, VS.treeA (.a (.l ([⟨b438, [.int .i64 c2_0, .int .i64 c2_1, .int .i64 x456, .int .i64 c2_3, .int .i64 c2_4, .int .i64 c2_5, .int .i64 t439, .int .i64 t440, .int .i64 x449, .int .i64 t443, .slice (ad a551) y552.length (na551 / 4)], 11⟩, ⟨b437, [.int .i64 c2_0, .int .i64 c2_1, .int .i64 x456, .int .i64 c2_3, .int .i64 c2_4, .int .i64 c2_5, .int .i64 t439, .int .i64 t440, .int .i64 x449, .int .i64 t443, .slice (ad a551) y552.length (na551 / 4)], 11⟩, ⟨b436, [.int .i64 w1], 1⟩, ⟨b435, [.int .i64 i0_0, .int .i64 i0_1, .int .i64 i0_2, .slice a_i0_3 n_i0_3 c_i0_3, .slice a_i0_4 n_i0_4 c_i0_4], 5⟩, ⟨a551, csa551, na551⟩] : List Own)) (.a (.f Fa551) (.l []))) (.a (.a (.l ([⟨a551, csa551, na551⟩] : List Own)) (.a (.f Fa551) (.l []))) (.l [])) [4, 4] (by kernel_rfl), (ad a551), (na551 / 4), (([⟨a551, csa551, na551⟩] : List Own) ++ (Fa551 ++ [])), rfl, rfl, rfl, SlN.mono (SlN.own (E := N_0) (RL.mono hra551 (rd_sub (sub_app (seg_in 1 (X := (Fa551 ++ [])) rfl seg_hd) sub_nil))) hz4_ (by decide) (fun _ hk_ => Or.inl ⟨_, mem_at 0 rfl, hk_, rfl⟩)) (rd_sub fun e_ he_ => seg_hd e_ ((sub_app (sub_cons (mem_at 0 rfl) sub_nil) (sub_app (seg_in 1 (X := (Fa551 ++ [])) rfl seg_hd) sub_nil)) e_ he_))⟩

/-- glyphicref1.Points -/
def c19 : C :=
  (.seq (.reg [⟨(some 1), .box (.tmp 0), none⟩,
     ⟨(some 2), .mv (.const (.int .i64 0)), none⟩])
  (.seq (.reg [⟨(some 3), .mv (.const (.int .i64 0)), none⟩])
  (.seq (.seq (.reg [⟨(some 4), .mv (.const (.int .i64 0)), none⟩])
   (.block 0 (.loop (.seq (.seq (.reg [⟨(some 8), .mv (.tmp 4), none⟩,
         ⟨(some 9), .pad 4 (.tmp 1), none⟩,
         ⟨(some 10), .ld none (.tmp 9), none⟩,
         ⟨(some 11), .lns (.tmp 10), none⟩,
         ⟨(some 12), .bin .lss (.tmp 8) (.tmp 11), none⟩])
      (.cond (.tmp 12)
       .skip
       (.exit 0)))
     (.seq (.block 1 (.seq (.reg [⟨(some 5), .mv (.const (.int .i64 0)), none⟩])
       (.block 2 (.loop (.seq (.seq (.reg [⟨(some 15), .mv (.tmp 5), none⟩,
             ⟨(some 16), .pad 4 (.tmp 1), none⟩,
             ⟨(some 17), .ld none (.tmp 16), none⟩,
             ⟨(some 18), .mv (.tmp 4), none⟩,
             ⟨(some 19), .ixs 11 (.tmp 17) (.tmp 18), none⟩,
             ⟨(some 20), .pad 10 (.tmp 19), none⟩,
             ⟨(some 21), .ld none (.tmp 20), none⟩,
             ⟨(some 22), .lns (.tmp 21), none⟩,
             ⟨(some 23), .bin .lss (.tmp 15) (.tmp 22), none⟩])
          (.cond (.tmp 23)
           .skip
           (.exit 2)))
         (.seq (.block 3 (.seq (.reg [⟨(some 26), .mv (.tmp 3), none⟩,
              ⟨(some 27), .bin .add (.tmp 26) (.const (.int .i64 1)), none⟩,
              ⟨(some 3), .mv (.tmp 27), none⟩])
           (.seq (.reg [⟨(some 28), .pad 4 (.tmp 1), none⟩,
              ⟨(some 29), .ld none (.tmp 28), none⟩,
              ⟨(some 30), .mv (.tmp 4), none⟩,
              ⟨(some 31), .ixs 11 (.tmp 29) (.tmp 30), none⟩,
              ⟨(some 32), .pad 10 (.tmp 31), none⟩,
              ⟨(some 33), .ld none (.tmp 32), none⟩,
              ⟨(some 34), .mv (.tmp 5), none⟩,
              ⟨(some 35), .ixs 4 (.tmp 33) (.tmp 34), none⟩,
              ⟨(some 36), .pad 2 (.tmp 35), none⟩,
              ⟨(some 37), .ld none (.tmp 36), none⟩,
              ⟨(some 6), .mv (.tmp 37), none⟩])
           (.seq (.reg [⟨(some 7), .mv (.const (.int .i64 0)), none⟩])
           (.block 4 (.loop (.seq (.seq (.reg [⟨(some 38), .mv (.tmp 7), none⟩,
                 ⟨(some 39), .mv (.tmp 6), none⟩,
                 ⟨(some 40), .lns (.tmp 39), none⟩,
                 ⟨(some 41), .bin .lss (.tmp 38) (.tmp 40), none⟩])
              (.cond (.tmp 41)
               .skip
               (.exit 4)))
             (.seq (.block 5 (.reg [⟨(some 44), .mv (.tmp 3), none⟩,
                 ⟨(some 45), .mv (.tmp 6), none⟩,
                 ⟨(some 46), .mv (.tmp 7), none⟩,
                 ⟨(some 47), .ixs 7 (.tmp 45) (.tmp 46), none⟩,
                 ⟨(some 48), .pad 0 (.tmp 47), none⟩,
                 ⟨(some 49), .ld none (.tmp 48), none⟩,
                 ⟨(some 50), .bin .add (.tmp 44) (.tmp 49), none⟩,
                 ⟨(some 3), .mv (.tmp 50), none⟩]))
             (.reg [⟨(some 42), .mv (.tmp 7), none⟩,
               ⟨(some 43), .bin .add (.tmp 42) (.const (.int .i64 1)), none⟩,
               ⟨(some 7), .mv (.tmp 43), none⟩])))))))))
         (.reg [⟨(some 24), .mv (.tmp 5), none⟩,
           ⟨(some 25), .bin .add (.tmp 24) (.const (.int .i64 1)), none⟩,
           ⟨(some 5), .mv (.tmp 25), none⟩])))))))
     (.reg [⟨(some 13), .mv (.tmp 4), none⟩,
       ⟨(some 14), .bin .add (.tmp 13) (.const (.int .i64 1)), none⟩,
       ⟨(some 4), .mv (.tmp 14), none⟩]))))))
  (.seq (.reg [⟨(some 51), .mv (.tmp 3), none⟩,
     ⟨(some 2), .mv (.tmp 51), none⟩])
  .ret))))
def glyphicref1_Points_v1.l2 : Nat → List (Int × Int × Int × Int × Int × Int × Int) → Int → Int → Option (Int)
  | 0, _, _, _ => none
  | k + 1, x839, x853, x854 => if x854 < (x839.length : Int) then ((lgt x839 x854).bind fun (x856, x857, x858, x859, x860, x861, x862) => (glyphicref1_Points_v1.l2 k x839 (wr64 (x853 + x856)) (wr64 (x854 + 1)))) else (some x853)
def glyphicref1_Points_v1.l1 : Nat → List (Int × Int × Int × Int × Int × Int × Int × Int × Int × Int × List (Int × Int × List (Int × Int × Int × Int × Int × Int × Int) × Bool)) → Int → Int → Int → Option (Int)
  | 0, _, _, _, _ => none
  | k + 1, i0_4, x780, x785, x786 => (lgt i0_4 x780).bind fun (x787, x788, x789, x790, x791, x792, x793, x794, x795, x796, x797) => (if x786 < (x797.length : Int) then (((lgt i0_4 x780).bind fun (x814, x815, x816, x817, x818, x819, x820, x821, x822, x823, x824) => ((lgt x824 x786).bind fun (x837, x838, x839, x840) => (glyphicref1_Points_v1.l2 k x839 (wr64 (x785 + 1)) 0)) : Option (Int)).bind fun x874 => (glyphicref1_Points_v1.l1 k i0_4 x780 x874 (wr64 (x786 + 1)))) else (some x785))
def glyphicref1_Points_v1.l0 : Nat → List (Int × Int × Int × Int × Int × Int × Int × Int × Int × Int × List (Int × Int × List (Int × Int × Int × Int × Int × Int × Int) × Bool)) → Int → Int → Option (Int)
  | 0, _, _, _ => none
  | k + 1, i0_4, x779, x780 => if x780 < (i0_4.length : Int) then ((glyphicref1_Points_v1.l1 k i0_4 x780 x779 0 : Option (Int)).bind fun x877 => (glyphicref1_Points_v1.l0 k i0_4 x877 (wr64 (x780 + 1)))) else (some x779)
def glyphicref1_Points_v1.f (k : Nat) (i0_0 : Int) (i0_1 : Int) (i0_2 : Int) (i0_4 : List (Int × Int × Int × Int × Int × Int × Int × Int × Int × Int × List (Int × Int × List (Int × Int × Int × Int × Int × Int × Int) × Bool))) : Option (Int) := (glyphicref1_Points_v1.l0 k i0_4 0 0 : Option (Int)).bind fun x880 => (some x880)
theorem glyphicref1_Points_v1.ok {S : Seal} {k : Nat} {i0_0 : Int} {i0_1 : Int} {i0_2 : Int} {i0_4 : List (Int × Int × Int × Int × Int × Int × Int × Int × Int × Int × List (Int × Int × List (Int × Int × Int × Int × Int × Int × Int) × Bool))} {r0_ : Int}{A_ : Int → Addr} (hE_ : EO [0, 1] S A_ 94) {a_i0_3 : Option Addr} {n_i0_3 c_i0_3 : Nat} {a_i0_4 : Option Addr} {c_i0_4 : Nat} (h_i0_4 : SlN (rdOf [] S) N_1 i0_4 a_i0_4) (e : glyphicref1_Points_v1.f k i0_0 i0_1 i0_2 i0_4 = some r0_) :
    Cal Tryd.prog 19 [.agg #[.int .i64 i0_0, .int .i64 i0_1, .int .i64 i0_2, .slice a_i0_3 n_i0_3 c_i0_3, .slice a_i0_4 i0_4.length c_i0_4]] [] S fun v H' S' => v = .int .i64 r0_ ∧ H' = [] ∧ S' = S := by
  unfold glyphicref1_Points_v1.f at e
  refine cal_of (c := c19) (N := 52) Tryd.func19 rfl rfl (by kernel_rfl) (rs := [.t 2]) (by kernel_rfl) (Nat.le_of_ble_eq_true rfl) ?_
  unfold c19
  refine w_seq ?_
  refine w_reg fun all => ?_
  refine t_a (.box rfl rfl rfl) fun b775 fb775 sb775 => ?_
  refine t_qz 1 [1] (σ' := [(1, .pointer (some ⟨b775, 0, none⟩))]) (by kernel_rfl) ?_
  refine t_end ?_
  show W _ _ _ _ _ _ _
  refine w_seq ?_
  refine w_reg fun all => ?_
  refine t_qz 1 [1, 3] (σ' := [(1, .pointer (some ⟨b775, 0, none⟩)), (3, .int .i64 0)]) (by kernel_rfl) ?_
  refine t_end ?_
  show W _ _ _ _ _ _ _
  obtain ⟨x880, e777, e⟩ := bind_of e
  refine w_cut [3] (fun σ_ H_ S_ => [(3, .int .i64 x880)] = σ_ ∧ ([⟨b775, [.int .i64 i0_0, .int .i64 i0_1, .int .i64 i0_2, .slice a_i0_3 n_i0_3 c_i0_3, .slice a_i0_4 i0_4.length c_i0_4], 5⟩] : List Own) = H_ ∧ S = S_) ?_ ?_
  · show W _ _ _ _ _ _ _
    refine w_seq ?_
    refine w_reg fun all => ?_
    refine t_qz 1 [1, 3, 4] (σ' := [(1, .pointer (some ⟨b775, 0, none⟩)), (3, .int .i64 0), (4, .int .i64 0)]) (by kernel_rfl) ?_
    refine t_end ?_
    show W _ _ _ _ _ _ _
    refine w_block ?_
    refine w_kp [1, 3, 4] (σ' := [(1, .pointer (some ⟨b775, 0, none⟩)), (3, .int .i64 0), (4, .int .i64 0)]) (by kernel_rfl) ?_
    refine w_loop (fun n_ σ_ H_ S_ => ∃ (x779 : Int) (x780 : Int), [(1, .pointer (some ⟨b775, 0, none⟩)), (3, .int .i64 x779), (4, .int .i64 x780)] = σ_ ∧ ([⟨b775, [.int .i64 i0_0, .int .i64 i0_1, .int .i64 i0_2, .slice a_i0_3 n_i0_3 c_i0_3, .slice a_i0_4 i0_4.length c_i0_4], 5⟩] : List Own) = H_ ∧ S = S_ ∧ glyphicref1_Points_v1.l0 n_ i0_4 x779 x780 = some x880) _ ⟨0, 0, rfl, rfl, rfl, e777⟩ ?_
    rintro n879 σ_ H_ S_ ⟨x779, x780, rfl, rfl, rfl, e777⟩
    cases n879 with
    | zero => rw [glyphicref1_Points_v1.l0.eq_1] at e777; cases e777
    | succ k_ =>
      rw [glyphicref1_Points_v1.l0.eq_2] at e777
      refine w_seq ?_
      refine w_seq ?_
      refine w_reg fun all => ?_
      refine t_qz 2 [1, 3, 4, 8, 9] (σ' := [(1, .pointer (some ⟨b775, 0, none⟩)), (3, .int .i64 x779), (4, .int .i64 x780), (8, .int .i64 x780), (9, .pointer (some ⟨b775, 4, none⟩))]) (by kernel_rfl) ?_
      refine t_v (.ld1 rfl rfl rfl (.at 0 rfl rfl)) ?_
      by_cases c781 : x780 < (i0_4.length : Int)
      · rw [if_pos c781] at e777
        have c781b : (decide (x780 < (i0_4.length : Int))) = true := decide_eq_true c781
        refine t_qz 1 [1, 3, 4, 8, 11] (σ' := [(1, .pointer (some ⟨b775, 0, none⟩)), (3, .int .i64 x779), (4, .int .i64 x780), (8, .int .i64 x780), (11, .int .i64 (i0_4.length : Int))]) (by kernel_rfl) ?_
        refine t_v (dv_quiet rfl (congrArg (fun t => some (Value.bool t)) c781b)) ?_
        refine t_keep [1, 3, 4, 12] (σ' := [(1, .pointer (some ⟨b775, 0, none⟩)), (3, .int .i64 x779), (4, .int .i64 x780), (12, .bool true)]) (by kernel_rfl) ?_
        refine t_end ?_
        show W _ _ _ _ _ _ _
        refine w_cond rfl (fun _ => ?_) (fun c_ => by cases c_)
        show W _ _ _ _ _ _ _
        refine w_skip ?_
        show W _ _ _ _ _ _ _
        obtain ⟨x877, e783, e777⟩ := bind_of e777
        refine w_cut [1, 3, 4] (fun σ_ H_ S_ => [(1, .pointer (some ⟨b775, 0, none⟩)), (3, .int .i64 x877), (4, .int .i64 x780)] = σ_ ∧ ([⟨b775, [.int .i64 i0_0, .int .i64 i0_1, .int .i64 i0_2, .slice a_i0_3 n_i0_3 c_i0_3, .slice a_i0_4 i0_4.length c_i0_4], 5⟩] : List Own) = H_ ∧ S = S_) ?_ ?_
        · show W _ _ _ _ _ _ _
          refine w_block ?_
          refine w_seq ?_
          refine w_reg fun all => ?_
          refine t_qz 1 [1, 3, 4, 5] (σ' := [(1, .pointer (some ⟨b775, 0, none⟩)), (3, .int .i64 x779), (4, .int .i64 x780), (5, .int .i64 0)]) (by kernel_rfl) ?_
          refine t_end ?_
          show W _ _ _ _ _ _ _
          refine w_block ?_
          refine w_kp [1, 3, 4, 5] (σ' := [(1, .pointer (some ⟨b775, 0, none⟩)), (3, .int .i64 x779), (4, .int .i64 x780), (5, .int .i64 0)]) (by kernel_rfl) ?_
          refine w_loop (fun n_ σ_ H_ S_ => ∃ (x785 : Int) (x786 : Int), [(1, .pointer (some ⟨b775, 0, none⟩)), (3, .int .i64 x785), (4, .int .i64 x780), (5, .int .i64 x786)] = σ_ ∧ ([⟨b775, [.int .i64 i0_0, .int .i64 i0_1, .int .i64 i0_2, .slice a_i0_3 n_i0_3 c_i0_3, .slice a_i0_4 i0_4.length c_i0_4], 5⟩] : List Own) = H_ ∧ S = S_ ∧ glyphicref1_Points_v1.l1 n_ i0_4 x780 x785 x786 = some x877) _ ⟨x779, 0, rfl, rfl, rfl, e783⟩ ?_
          rintro n876 σ_ H_ S_ ⟨x785, x786, rfl, rfl, rfl, e783⟩
          cases n876 with
          | zero => rw [glyphicref1_Points_v1.l1.eq_1] at e783; cases e783
          | succ k_ =>
            rw [glyphicref1_Points_v1.l1.eq_2] at e783
            refine w_seq ?_
            refine w_seq ?_
            refine w_reg fun all => ?_
            refine t_qz 2 [1, 3, 4, 5, 15, 16] (σ' := [(1, .pointer (some ⟨b775, 0, none⟩)), (3, .int .i64 x785), (4, .int .i64 x780), (5, .int .i64 x786), (15, .int .i64 x786), (16, .pointer (some ⟨b775, 4, none⟩))]) (by kernel_rfl) ?_
            refine t_v (.ld1 rfl rfl rfl (.at 0 rfl rfl)) ?_
            obtain ⟨⟨x787, x788, x789, x790, x791, x792, x793, x794, x795, x796, x797⟩, hx798, e783⟩ := bind_of e783
            try dsimp only at e783
            obtain ⟨lb799, lo800, ll801, vs_, la802, lR803, lv804, hrep_, lz805, lu806⟩ := sln_get (E := N_1) h_i0_4 hx798
            obtain ⟨na807, nc808, rfl, nh809⟩ := hrep_
            refine t_qz 1 [1, 3, 4, 5, 15, 17, 18] (σ' := [(1, .pointer (some ⟨b775, 0, none⟩)), (3, .int .i64 x785), (4, .int .i64 x780), (5, .int .i64 x786), (15, .int .i64 x786), (17, .slice a_i0_4 i0_4.length c_i0_4), (18, .int .i64 x780)]) (by kernel_rfl) ?_
            refine t_v (.quiet rfl (ixs_sle rfl rfl la802 lz805 lu806)) ?_
            refine t_qz 1 [1, 3, 4, 5, 15, 20] (σ' := [(1, .pointer (some ⟨b775, 0, none⟩)), (3, .int .i64 x785), (4, .int .i64 x780), (5, .int .i64 x786), (15, .int .i64 x786), (20, .pointer (some ⟨lb799, lo800 + (x780).toNat * 11 + 10, none⟩))]) (by kernel_rfl) ?_
            refine t_v (.ld1 rfl rfl rfl (rd_1 lR803 sub_nil (subl_at lv804 rfl))) ?_
            by_cases c810 : x786 < (x797.length : Int)
            · rw [if_pos c810] at e783
              have c810b : (decide (x786 < (x797.length : Int))) = true := decide_eq_true c810
              refine t_qz 1 [1, 3, 4, 5, 15, 22] (σ' := [(1, .pointer (some ⟨b775, 0, none⟩)), (3, .int .i64 x785), (4, .int .i64 x780), (5, .int .i64 x786), (15, .int .i64 x786), (22, .int .i64 (x797.length : Int))]) (by kernel_rfl) ?_
              refine t_v (dv_quiet rfl (congrArg (fun t => some (Value.bool t)) c810b)) ?_
              refine t_keep [1, 3, 4, 5, 23] (σ' := [(1, .pointer (some ⟨b775, 0, none⟩)), (3, .int .i64 x785), (4, .int .i64 x780), (5, .int .i64 x786), (23, .bool true)]) (by kernel_rfl) ?_
              refine t_end ?_
              show W _ _ _ _ _ _ _
              refine w_cond rfl (fun _ => ?_) (fun c_ => by cases c_)
              show W _ _ _ _ _ _ _
              refine w_skip ?_
              show W _ _ _ _ _ _ _
              obtain ⟨x874, e812, e783⟩ := bind_of e783
              refine w_cut [1, 3, 4, 5] (fun σ_ H_ S_ => [(1, .pointer (some ⟨b775, 0, none⟩)), (3, .int .i64 x874), (4, .int .i64 x780), (5, .int .i64 x786)] = σ_ ∧ ([⟨b775, [.int .i64 i0_0, .int .i64 i0_1, .int .i64 i0_2, .slice a_i0_3 n_i0_3 c_i0_3, .slice a_i0_4 i0_4.length c_i0_4], 5⟩] : List Own) = H_ ∧ S = S_) ?_ ?_
              · show W _ _ _ _ _ _ _
                refine w_block ?_
                refine w_seq ?_
                refine w_reg fun all => ?_
                refine t_qz 3 [1, 3, 4, 5] (σ' := [(1, .pointer (some ⟨b775, 0, none⟩)), (3, .int .i64 (wr64 (x785 + 1))), (4, .int .i64 x780), (5, .int .i64 x786)]) (by kernel_rfl) ?_
                refine t_end ?_
                show W _ _ _ _ _ _ _
                refine w_seq ?_
                refine w_reg fun all => ?_
                refine t_qz 1 [1, 3, 4, 5, 28] (σ' := [(1, .pointer (some ⟨b775, 0, none⟩)), (3, .int .i64 (wr64 (x785 + 1))), (4, .int .i64 x780), (5, .int .i64 x786), (28, .pointer (some ⟨b775, 4, none⟩))]) (by kernel_rfl) ?_
                refine t_v (.ld1 rfl rfl rfl (.at 0 rfl rfl)) ?_
                obtain ⟨⟨x814, x815, x816, x817, x818, x819, x820, x821, x822, x823, x824⟩, hx825, e812⟩ := bind_of e812
                try dsimp only at e812
                obtain ⟨lb826, lo827, ll828, vs_, la829, lR830, lv831, hrep_, lz832, lu833⟩ := sln_get (E := N_1) h_i0_4 hx825
                obtain ⟨na834, nc835, rfl, nh836⟩ := hrep_
                refine t_qz 1 [1, 3, 4, 5, 29, 30] (σ' := [(1, .pointer (some ⟨b775, 0, none⟩)), (3, .int .i64 (wr64 (x785 + 1))), (4, .int .i64 x780), (5, .int .i64 x786), (29, .slice a_i0_4 i0_4.length c_i0_4), (30, .int .i64 x780)]) (by kernel_rfl) ?_
                refine t_v (.quiet rfl (ixs_sle rfl rfl la829 lz832 lu833)) ?_
                refine t_qz 1 [1, 3, 4, 5, 32] (σ' := [(1, .pointer (some ⟨b775, 0, none⟩)), (3, .int .i64 (wr64 (x785 + 1))), (4, .int .i64 x780), (5, .int .i64 x786), (32, .pointer (some ⟨lb826, lo827 + (x780).toNat * 11 + 10, none⟩))]) (by kernel_rfl) ?_
                refine t_v (.ld1 rfl rfl rfl (rd_1 lR830 sub_nil (subl_at lv831 rfl))) ?_
                obtain ⟨⟨x837, x838, x839, x840⟩, hx841, e812⟩ := bind_of e812
                try dsimp only at e812
                obtain ⟨lb842, lo843, ll844, vs_, la845, lR846, lv847, hrep_, lz848, lu849⟩ := sln_get (E := N_0) nh836 hx841
                obtain ⟨na850, nc851, rfl, nh852⟩ := hrep_
                refine t_qz 1 [1, 3, 4, 5, 33, 34] (σ' := [(1, .pointer (some ⟨b775, 0, none⟩)), (3, .int .i64 (wr64 (x785 + 1))), (4, .int .i64 x780), (5, .int .i64 x786), (33, .slice na834 x824.length nc835), (34, .int .i64 x786)]) (by kernel_rfl) ?_
                refine t_v (.quiet rfl (ixs_sle rfl rfl la845 lz848 lu849)) ?_
                refine t_qz 1 [1, 3, 4, 5, 36] (σ' := [(1, .pointer (some ⟨b775, 0, none⟩)), (3, .int .i64 (wr64 (x785 + 1))), (4, .int .i64 x780), (5, .int .i64 x786), (36, .pointer (some ⟨lb842, lo843 + (x786).toNat * 4 + 2, none⟩))]) (by kernel_rfl) ?_
                refine t_v (.ld1 rfl rfl rfl (rd_1 lR846 sub_nil (subl_at lv847 rfl))) ?_
                refine t_qz 1 [1, 3, 4, 5, 6] (σ' := [(1, .pointer (some ⟨b775, 0, none⟩)), (3, .int .i64 (wr64 (x785 + 1))), (4, .int .i64 x780), (5, .int .i64 x786), (6, .slice na850 x839.length nc851)]) (by kernel_rfl) ?_
                refine t_end ?_
                show W _ _ _ _ _ _ _
                refine w_seq ?_
                refine w_reg fun all => ?_
                refine t_qz 1 [1, 3, 4, 5, 6, 7] (σ' := [(1, .pointer (some ⟨b775, 0, none⟩)), (3, .int .i64 (wr64 (x785 + 1))), (4, .int .i64 x780), (5, .int .i64 x786), (6, .slice na850 x839.length nc851), (7, .int .i64 0)]) (by kernel_rfl) ?_
                refine t_end ?_
                show W _ _ _ _ _ _ _
                refine w_block ?_
                refine w_kp [1, 3, 4, 5, 6, 7] (σ' := [(1, .pointer (some ⟨b775, 0, none⟩)), (3, .int .i64 (wr64 (x785 + 1))), (4, .int .i64 x780), (5, .int .i64 x786), (6, .slice na850 x839.length nc851), (7, .int .i64 0)]) (by kernel_rfl) ?_
                refine w_loop (fun n_ σ_ H_ S_ => ∃ (x853 : Int) (x854 : Int), [(1, .pointer (some ⟨b775, 0, none⟩)), (3, .int .i64 x853), (4, .int .i64 x780), (5, .int .i64 x786), (6, .slice na850 x839.length nc851), (7, .int .i64 x854)] = σ_ ∧ ([⟨b775, [.int .i64 i0_0, .int .i64 i0_1, .int .i64 i0_2, .slice a_i0_3 n_i0_3 c_i0_3, .slice a_i0_4 i0_4.length c_i0_4], 5⟩] : List Own) = H_ ∧ S = S_ ∧ glyphicref1_Points_v1.l2 n_ x839 x853 x854 = some x874) _ ⟨wr64 (x785 + 1), 0, rfl, rfl, rfl, e812⟩ ?_
                rintro n873 σ_ H_ S_ ⟨x853, x854, rfl, rfl, rfl, e812⟩
                cases n873 with
                | zero => rw [glyphicref1_Points_v1.l2.eq_1] at e812; cases e812
                | succ k_ =>
                  rw [glyphicref1_Points_v1.l2.eq_2] at e812
                  refine w_seq ?_
                  refine w_seq ?_
                  refine w_reg fun all => ?_
                  by_cases c855 : x854 < (x839.length : Int)
                  · rw [if_pos c855] at e812
                    have c855b : (decide (x854 < (x839.length : Int))) = true := decide_eq_true c855
                    refine t_qz 3 [1, 3, 4, 5, 6, 7, 38, 40] (σ' := [(1, .pointer (some ⟨b775, 0, none⟩)), (3, .int .i64 x853), (4, .int .i64 x780), (5, .int .i64 x786), (6, .slice na850 x839.length nc851), (7, .int .i64 x854), (38, .int .i64 x854), (40, .int .i64 (x839.length : Int))]) (by kernel_rfl) ?_
                    refine t_v (dv_quiet rfl (congrArg (fun t => some (Value.bool t)) c855b)) ?_
                    refine t_keep [1, 3, 4, 5, 6, 7, 41] (σ' := [(1, .pointer (some ⟨b775, 0, none⟩)), (3, .int .i64 x853), (4, .int .i64 x780), (5, .int .i64 x786), (6, .slice na850 x839.length nc851), (7, .int .i64 x854), (41, .bool true)]) (by kernel_rfl) ?_
                    refine t_end ?_
                    show W _ _ _ _ _ _ _
                    refine w_cond rfl (fun _ => ?_) (fun c_ => by cases c_)
                    show W _ _ _ _ _ _ _
                    refine w_skip ?_
                    show W _ _ _ _ _ _ _
                    refine w_seq ?_
                    refine w_block ?_
                    refine w_reg fun all => ?_
                    obtain ⟨⟨x856, x857, x858, x859, x860, x861, x862⟩, hx863, e812⟩ := bind_of e812
                    try dsimp only at e812
                    obtain ⟨lb864, lo865, ll866, vs_, la867, lR868, lv869, hrep_, lz870, lu871⟩ := sln_get (E := (flatN E_i647)) nh852 hx863
                    obtain rfl := (show vs_ = _ from hrep_)
                    refine t_qz 3 [1, 4, 5, 6, 7, 44, 45, 46] (σ' := [(1, .pointer (some ⟨b775, 0, none⟩)), (4, .int .i64 x780), (5, .int .i64 x786), (6, .slice na850 x839.length nc851), (7, .int .i64 x854), (44, .int .i64 x853), (45, .slice na850 x839.length nc851), (46, .int .i64 x854)]) (by kernel_rfl) ?_
                    refine t_v (.quiet rfl (ixs_sle rfl rfl la867 lz870 lu871)) ?_
                    refine t_qz 1 [1, 4, 5, 6, 7, 44, 48] (σ' := [(1, .pointer (some ⟨b775, 0, none⟩)), (4, .int .i64 x780), (5, .int .i64 x786), (6, .slice na850 x839.length nc851), (7, .int .i64 x854), (44, .int .i64 x853), (48, .pointer (some ⟨lb864, lo865 + (x854).toNat * 7 + 0, none⟩))]) (by kernel_rfl) ?_
                    refine t_v (.ld1 rfl rfl rfl (rd_1 lR868 sub_nil (subl_at lv869 rfl))) ?_
                    refine t_qz 2 [1, 3, 4, 5, 6, 7] (σ' := [(1, .pointer (some ⟨b775, 0, none⟩)), (3, .int .i64 (wr64 (x853 + x856))), (4, .int .i64 x780), (5, .int .i64 x786), (6, .slice na850 x839.length nc851), (7, .int .i64 x854)]) (by kernel_rfl) ?_
                    refine t_end ?_
                    show W _ _ _ _ _ _ _
                    refine w_reg fun all => ?_
                    refine t_qz 3 [1, 3, 4, 5, 6, 7] (σ' := [(1, .pointer (some ⟨b775, 0, none⟩)), (3, .int .i64 (wr64 (x853 + x856))), (4, .int .i64 x780), (5, .int .i64 x786), (6, .slice na850 x839.length nc851), (7, .int .i64 (wr64 (x854 + 1)))]) (by kernel_rfl) ?_
                    refine t_end ?_
                    exact ⟨k_, Nat.lt_succ_self _, [(1, .pointer (some ⟨b775, 0, none⟩)), (3, .int .i64 (wr64 (x853 + x856))), (4, .int .i64 x780), (5, .int .i64 x786), (6, .slice na850 x839.length nc851), (7, .int .i64 (wr64 (x854 + 1)))], ([⟨b775, [.int .i64 i0_0, .int .i64 i0_1, .int .i64 i0_2, .slice a_i0_3 n_i0_3 c_i0_3, .slice a_i0_4 i0_4.length c_i0_4], 5⟩] : List Own), S, keep_sub [1, 3, 4, 5, 6, 7] (by kernel_rfl), VS.sel [0] (by kernel_rfl), wr64 (x853 + x856), wr64 (x854 + 1), rfl, rfl, rfl, e812⟩
                  · rw [if_neg c855] at e812
                    have c855b : (decide (x854 < (x839.length : Int))) = false := decide_eq_false c855
                    refine t_qz 3 [1, 3, 4, 5, 6, 7, 38, 40] (σ' := [(1, .pointer (some ⟨b775, 0, none⟩)), (3, .int .i64 x853), (4, .int .i64 x780), (5, .int .i64 x786), (6, .slice na850 x839.length nc851), (7, .int .i64 x854), (38, .int .i64 x854), (40, .int .i64 (x839.length : Int))]) (by kernel_rfl) ?_
                    refine t_v (dv_quiet rfl (congrArg (fun t => some (Value.bool t)) c855b)) ?_
                    refine t_keep [1, 3, 4, 5, 6, 7, 41] (σ' := [(1, .pointer (some ⟨b775, 0, none⟩)), (3, .int .i64 x853), (4, .int .i64 x780), (5, .int .i64 x786), (6, .slice na850 x839.length nc851), (7, .int .i64 x854), (41, .bool false)]) (by kernel_rfl) ?_
                    refine t_end ?_
                    show W _ _ _ _ _ _ _
                    refine w_cond rfl (fun c_ => by cases c_) (fun _ => ?_)
                    show W _ _ _ _ _ _ _
                    refine w_exit ?_
                    obtain rfl := Option.some.inj e812
                    exact ⟨([⟨b775, [.int .i64 i0_0, .int .i64 i0_1, .int .i64 i0_2, .slice a_i0_3 n_i0_3 c_i0_3, .slice a_i0_4 i0_4.length c_i0_4], 5⟩] : List Own), S, VS.sel [0] (by kernel_rfl), by kernel_rfl, rfl, rfl⟩
              · rintro σ_ H_ S_ ⟨rfl, rfl, rfl⟩
                refine w_reg fun all => ?_
                refine t_qz 3 [1, 3, 4, 5] (σ' := [(1, .pointer (some ⟨b775, 0, none⟩)), (3, .int .i64 x874), (4, .int .i64 x780), (5, .int .i64 (wr64 (x786 + 1)))]) (by kernel_rfl) ?_
                refine t_end ?_
                exact ⟨k_, Nat.lt_succ_self _, [(1, .pointer (some ⟨b775, 0, none⟩)), (3, .int .i64 x874), (4, .int .i64 x780), (5, .int .i64 (wr64 (x786 + 1)))], ([⟨b775, [.int .i64 i0_0, .int .i64 i0_1, .int .i64 i0_2, .slice a_i0_3 n_i0_3 c_i0_3, .slice a_i0_4 i0_4.length c_i0_4], 5⟩] : List Own), S, keep_sub [1, 3, 4, 5] (by kernel_rfl), VS.sel [0] (by kernel_rfl), x874, wr64 (x786 + 1), rfl, rfl, rfl, e783⟩
            · rw [if_neg c810] at e783
              have c810b : (decide (x786 < (x797.length : Int))) = false := decide_eq_false c810
              refine t_qz 1 [1, 3, 4, 5, 15, 22] (σ' := [(1, .pointer (some ⟨b775, 0, none⟩)), (3, .int .i64 x785), (4, .int .i64 x780), (5, .int .i64 x786), (15, .int .i64 x786), (22, .int .i64 (x797.length : Int))]) (by kernel_rfl) ?_
              refine t_v (dv_quiet rfl (congrArg (fun t => some (Value.bool t)) c810b)) ?_
              refine t_keep [1, 3, 4, 5, 23] (σ' := [(1, .pointer (some ⟨b775, 0, none⟩)), (3, .int .i64 x785), (4, .int .i64 x780), (5, .int .i64 x786), (23, .bool false)]) (by kernel_rfl) ?_
              refine t_end ?_
              show W _ _ _ _ _ _ _
              refine w_cond rfl (fun c_ => by cases c_) (fun _ => ?_)
              show W _ _ _ _ _ _ _
              refine w_exit ?_
              obtain rfl := Option.some.inj e783
              exact ⟨([⟨b775, [.int .i64 i0_0, .int .i64 i0_1, .int .i64 i0_2, .slice a_i0_3 n_i0_3 c_i0_3, .slice a_i0_4 i0_4.length c_i0_4], 5⟩] : List Own), S, VS.sel [0] (by kernel_rfl), by kernel_rfl, rfl, rfl⟩
        · rintro σ_ H_ S_ ⟨rfl, rfl, rfl⟩
          refine w_reg fun all => ?_
          refine t_qz 3 [1, 3, 4] (σ' := [(1, .pointer (some ⟨b775, 0, none⟩)), (3, .int .i64 x877), (4, .int .i64 (wr64 (x780 + 1)))]) (by kernel_rfl) ?_
          refine t_end ?_
          exact ⟨k_, Nat.lt_succ_self _, [(1, .pointer (some ⟨b775, 0, none⟩)), (3, .int .i64 x877), (4, .int .i64 (wr64 (x780 + 1)))], ([⟨b775, [.int .i64 i0_0, .int .i64 i0_1, .int .i64 i0_2, .slice a_i0_3 n_i0_3 c_i0_3, .slice a_i0_4 i0_4.length c_i0_4], 5⟩] : List Own), S, keep_sub [1, 3, 4] (by kernel_rfl), VS.sel [0] (by kernel_rfl), x877, wr64 (x780 + 1), rfl, rfl, rfl, e777⟩
      · rw [if_neg c781] at e777
        have c781b : (decide (x780 < (i0_4.length : Int))) = false := decide_eq_false c781
        refine t_qz 1 [1, 3, 4, 8, 11] (σ' := [(1, .pointer (some ⟨b775, 0, none⟩)), (3, .int .i64 x779), (4, .int .i64 x780), (8, .int .i64 x780), (11, .int .i64 (i0_4.length : Int))]) (by kernel_rfl) ?_
        refine t_v (dv_quiet rfl (congrArg (fun t => some (Value.bool t)) c781b)) ?_
        refine t_keep [1, 3, 4, 12] (σ' := [(1, .pointer (some ⟨b775, 0, none⟩)), (3, .int .i64 x779), (4, .int .i64 x780), (12, .bool false)]) (by kernel_rfl) ?_
        refine t_end ?_
        show W _ _ _ _ _ _ _
        refine w_cond rfl (fun c_ => by cases c_) (fun _ => ?_)
        show W _ _ _ _ _ _ _
        refine w_exit ?_
        obtain rfl := Option.some.inj e777
        exact ⟨([⟨b775, [.int .i64 i0_0, .int .i64 i0_1, .int .i64 i0_2, .slice a_i0_3 n_i0_3 c_i0_3, .slice a_i0_4 i0_4.length c_i0_4], 5⟩] : List Own), S, VS.sel [0] (by kernel_rfl), by kernel_rfl, rfl, rfl⟩
  · rintro σ_ H_ S_ ⟨rfl, rfl, rfl⟩
    refine w_seq ?_
    refine w_reg fun all => ?_
    refine t_qz 2 [2] (σ' := [(2, .int .i64 x880)]) (by kernel_rfl) ?_
    refine t_end ?_
    show W _ _ _ _ _ _ _
    refine w_ret ?_
    obtain rfl := Option.some.inj e
    exact ⟨[.int .i64 x880], [], S, ⟨rfl, trivial⟩, VS.none, rfl, rfl, rfl⟩
end Go.Proofs.YtiaigehjogpcaaaDoor.QScaleCmds
