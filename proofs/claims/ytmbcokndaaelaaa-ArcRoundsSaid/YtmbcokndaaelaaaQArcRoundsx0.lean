/- Functions of the program as Lean functions, each with the proof of its walk. Written by gen.py, a program of these sessions. -/
import Derived.Test.YtmbcokndaaelaaaE
import Derived.Test.YtmbcokndaaelaaaProg
namespace Go.Proofs.Ytmbcokndaaelaaa.QArcRounds
open Go Go.RowKit Go.Proofs.YtmbcokndaaelaaaE
set_option linter.unusedVariables false
set_option maxRecDepth 100000
theorem mixed : Try.prog.follows .mixedOrders = true := by kernel_rfl

/-- fixed.Down -/
def c61 : C :=
  (.seq (.reg [⟨(some 4), .mv (.const (.int .i64 0)), none⟩])
  (.seq (.seq (.reg [⟨(some 6), .mv (.tmp 1), none⟩,
      ⟨(some 7), .bin .lss (.tmp 6) (.const (.int .i64 1)), none⟩])
   (.cond (.tmp 7)
    (.seq (.reg [⟨(some 4), .mv (.const (.int .i64 0)), none⟩])
     .ret)
    .skip))
  (.seq (.reg [⟨(some 8), .mv (.tmp 0), none⟩,
     ⟨(some 9), .mv (.tmp 1), none⟩,
     ⟨(some 10), .bin .quo (.tmp 8) (.tmp 9), none⟩,
     ⟨(some 5), .mv (.tmp 10), none⟩])
  (.seq (.seq (.reg [⟨(some 11), .mv (.tmp 0), none⟩,
      ⟨(some 12), .mv (.tmp 1), none⟩,
      ⟨(some 13), .bin .rem (.tmp 11) (.tmp 12), none⟩,
      ⟨(some 14), .bin .lss (.tmp 13) (.const (.int .i64 0)), none⟩])
   (.cond (.tmp 14)
    (.reg [⟨(some 15), .mv (.tmp 5), none⟩,
       ⟨(some 16), .bin .sub (.tmp 15) (.const (.int .i64 1)), none⟩,
       ⟨(some 5), .mv (.tmp 16), none⟩])
    .skip))
  (.seq (.reg [⟨(some 17), .mv (.tmp 5), none⟩,
     ⟨(some 4), .mv (.tmp 17), none⟩])
  .ret)))))
def fixed_Down.f (a0 : Int) (b1 : Int) : Option (Int) := if b1 < 1 then (some 0) else (if b1 = 0 then none else (if (Int.tmod a0 b1) < 0 then (some (wr64 ((wr64 (Int.tdiv a0 b1)) - 1))) else (some (wr64 (Int.tdiv a0 b1)))))
theorem fixed_Down.ok {S : Seal} {a0 : Int} {b1 : Int} {r0 : Int} (e : fixed_Down.f a0 b1 = some r0) :
    Cal Try.prog 61 [.int .i64 a0, .int .i64 b1] [] S fun v H' S' => v = .int .i64 r0 ∧ H' = [] ∧ S' = S := by
  unfold fixed_Down.f at e
  refine cal_of (c := c61) (N := 18) Try.func61 rfl rfl (by kernel_rfl) (rs := [.t 4]) (by kernel_rfl) (Nat.le_of_ble_eq_true rfl) ?_
  unfold c61
  refine w_seq ?_
  refine w_reg fun all => ?_
  refine t_qz 1 [0, 1] (σ' := [(0, .int .i64 a0), (1, .int .i64 b1)]) (by kernel_rfl) ?_
  refine t_end ?_
  show W _ _ _ _ _ _ _
  refine w_seq ?_
  refine w_seq ?_
  refine w_reg fun all => ?_
  by_cases c1 : b1 < 1
  · rw [if_pos c1] at e
    have c1b : (decide (b1 < 1)) = true := decide_eq_true c1
    refine t_qz 1 [0, 1, 6] (σ' := [(0, .int .i64 a0), (1, .int .i64 b1), (6, .int .i64 b1)]) (by kernel_rfl) ?_
    refine t_v (dv_quiet rfl (congrArg (fun t => some (Value.bool t)) c1b)) ?_
    refine t_keep [0, 1, 7] (σ' := [(0, .int .i64 a0), (1, .int .i64 b1), (7, .bool true)]) (by kernel_rfl) ?_
    refine t_end ?_
    show W _ _ _ _ _ _ _
    refine w_cond rfl (fun _ => ?_) (fun c_ => by cases c_)
    show W _ _ _ _ _ _ _
    refine w_seq ?_
    refine w_reg fun all => ?_
    refine t_qz 1 [4] (σ' := [(4, .int .i64 0)]) (by kernel_rfl) ?_
    refine t_end ?_
    show W _ _ _ _ _ _ _
    refine w_ret ?_
    obtain rfl := Option.some.inj e
    exact ⟨[.int .i64 0], [], S, ⟨rfl, trivial⟩, VS.none, rfl, rfl, rfl⟩
  · rw [if_neg c1] at e
    have c1b : (decide (b1 < 1)) = false := decide_eq_false c1
    refine t_qz 1 [0, 1, 6] (σ' := [(0, .int .i64 a0), (1, .int .i64 b1), (6, .int .i64 b1)]) (by kernel_rfl) ?_
    refine t_v (dv_quiet rfl (congrArg (fun t => some (Value.bool t)) c1b)) ?_
    refine t_keep [0, 1, 7] (σ' := [(0, .int .i64 a0), (1, .int .i64 b1), (7, .bool false)]) (by kernel_rfl) ?_
    refine t_end ?_
    show W _ _ _ _ _ _ _
    refine w_cond rfl (fun c_ => by cases c_) (fun _ => ?_)
    show W _ _ _ _ _ _ _
    refine w_skip ?_
    show W _ _ _ _ _ _ _
    refine w_seq ?_
    refine w_reg fun all => ?_
    have c2 : ¬ b1 = 0 := by
      intro h_; rw [if_pos h_] at e; cases e
    rw [if_neg c2] at e
    refine t_qz 2 [0, 1, 8, 9] (σ' := [(0, .int .i64 a0), (1, .int .i64 b1), (8, .int .i64 a0), (9, .int .i64 b1)]) (by kernel_rfl) ?_
    refine t_v (.quiet rfl (qv_quo rfl rfl c2)) ?_
    refine t_qz 1 [0, 1, 5] (σ' := [(0, .int .i64 a0), (1, .int .i64 b1), (5, .int .i64 (wr64 (Int.tdiv a0 b1)))]) (by kernel_rfl) ?_
    refine t_end ?_
    show W _ _ _ _ _ _ _
    refine w_seq ?_
    refine w_seq ?_
    refine w_reg fun all => ?_
    refine t_qz 2 [5, 11, 12] (σ' := [(5, .int .i64 (wr64 (Int.tdiv a0 b1))), (11, .int .i64 a0), (12, .int .i64 b1)]) (by kernel_rfl) ?_
    refine t_v (.quiet rfl (qv_rem rfl rfl c2)) ?_
    by_cases c3 : (Int.tmod a0 b1) < 0
    · rw [if_pos c3] at e
      have c3b : (decide ((Int.tmod a0 b1) < 0)) = true := decide_eq_true c3
      refine t_v (dv_quiet rfl (congrArg (fun t => some (Value.bool t)) c3b)) ?_
      refine t_keep [5, 14] (σ' := [(5, .int .i64 (wr64 (Int.tdiv a0 b1))), (14, .bool true)]) (by kernel_rfl) ?_
      refine t_end ?_
      show W _ _ _ _ _ _ _
      refine w_cond rfl (fun _ => ?_) (fun c_ => by cases c_)
      show W _ _ _ _ _ _ _
      refine w_reg fun all => ?_
      refine t_qz 3 [5] (σ' := [(5, .int .i64 (wr64 ((wr64 (Int.tdiv a0 b1)) - 1)))]) (by kernel_rfl) ?_
      refine t_end ?_
      show W _ _ _ _ _ _ _
      refine w_seq ?_
      refine w_reg fun all => ?_
      refine t_qz 2 [4] (σ' := [(4, .int .i64 (wr64 ((wr64 (Int.tdiv a0 b1)) - 1)))]) (by kernel_rfl) ?_
      refine t_end ?_
      show W _ _ _ _ _ _ _
      refine w_ret ?_
      obtain rfl := Option.some.inj e
      exact ⟨[.int .i64 (wr64 ((wr64 (Int.tdiv a0 b1)) - 1))], [], S, ⟨rfl, trivial⟩, VS.none, rfl, rfl, rfl⟩
    · rw [if_neg c3] at e
      have c3b : (decide ((Int.tmod a0 b1) < 0)) = false := decide_eq_false c3
      refine t_v (dv_quiet rfl (congrArg (fun t => some (Value.bool t)) c3b)) ?_
      refine t_keep [5, 14] (σ' := [(5, .int .i64 (wr64 (Int.tdiv a0 b1))), (14, .bool false)]) (by kernel_rfl) ?_
      refine t_end ?_
      show W _ _ _ _ _ _ _
      refine w_cond rfl (fun c_ => by cases c_) (fun _ => ?_)
      show W _ _ _ _ _ _ _
      refine w_skip ?_
      show W _ _ _ _ _ _ _
      refine w_seq ?_
      refine w_reg fun all => ?_
      refine t_qz 2 [4] (σ' := [(4, .int .i64 (wr64 (Int.tdiv a0 b1)))]) (by kernel_rfl) ?_
      refine t_end ?_
      show W _ _ _ _ _ _ _
      refine w_ret ?_
      obtain rfl := Option.some.inj e
      exact ⟨[.int .i64 (wr64 (Int.tdiv a0 b1))], [], S, ⟨rfl, trivial⟩, VS.none, rfl, rfl, rfl⟩

/-- fixed.Round -/
def c43 : C :=
  (.seq (.reg [⟨(some 4), .mv (.const (.int .i64 0)), none⟩])
  (.seq (.seq (.reg [⟨(some 7), .mv (.tmp 1), none⟩,
      ⟨(some 8), .bin .lss (.tmp 7) (.const (.int .i64 1)), none⟩])
   (.cond (.tmp 8)
    (.seq (.reg [⟨(some 4), .mv (.const (.int .i64 0)), none⟩])
     .ret)
    .skip))
  (.seq (.reg [⟨(some 9), .mv (.tmp 0), none⟩,
     ⟨(some 10), .mv (.tmp 1), none⟩,
     ⟨(some 11), .call 61 [(.tmp 9), (.tmp 10)], none⟩,
     ⟨(some 5), .mv (.tmp 11), none⟩])
  (.seq (.seq (.reg [⟨(some 12), .mv (.tmp 0), none⟩,
      ⟨(some 13), .mv (.tmp 5), none⟩,
      ⟨(some 14), .mv (.tmp 1), none⟩,
      ⟨(some 15), .bin .mul (.tmp 13) (.tmp 14), none⟩,
      ⟨(some 16), .bin .sub (.tmp 12) (.tmp 15), none⟩,
      ⟨(some 6), .mv (.tmp 16), none⟩])
   (.seq (.reg [⟨(some 17), .mv (.tmp 6), none⟩,
      ⟨(some 18), .mv (.tmp 1), none⟩,
      ⟨(some 19), .mv (.tmp 6), none⟩,
      ⟨(some 20), .bin .sub (.tmp 18) (.tmp 19), none⟩,
      ⟨(some 21), .bin .geq (.tmp 17) (.tmp 20), none⟩])
   (.cond (.tmp 21)
    (.reg [⟨(some 22), .mv (.tmp 5), none⟩,
       ⟨(some 23), .bin .add (.tmp 22) (.const (.int .i64 1)), none⟩,
       ⟨(some 5), .mv (.tmp 23), none⟩])
    .skip)))
  (.seq (.reg [⟨(some 24), .mv (.tmp 5), none⟩,
     ⟨(some 4), .mv (.tmp 24), none⟩])
  .ret)))))
def fixed_Round.f (a0 : Int) (b1 : Int) : Option (Int) := if b1 < 1 then (some 0) else ((fixed_Down.f a0 b1).bind fun t5 => (if (wr64 (a0 - (wr64 (t5 * b1)))) ≥ (wr64 (b1 - (wr64 (a0 - (wr64 (t5 * b1)))))) then (some (wr64 (t5 + 1))) else (some t5)))
theorem fixed_Round.ok {S : Seal} {a0 : Int} {b1 : Int} {r0 : Int} (e : fixed_Round.f a0 b1 = some r0) :
    Cal Try.prog 43 [.int .i64 a0, .int .i64 b1] [] S fun v H' S' => v = .int .i64 r0 ∧ H' = [] ∧ S' = S := by
  unfold fixed_Round.f at e
  refine cal_of (c := c43) (N := 25) Try.func43 rfl rfl (by kernel_rfl) (rs := [.t 4]) (by kernel_rfl) (Nat.le_of_ble_eq_true rfl) ?_
  unfold c43
  refine w_seq ?_
  refine w_reg fun all => ?_
  refine t_qz 1 [0, 1] (σ' := [(0, .int .i64 a0), (1, .int .i64 b1)]) (by kernel_rfl) ?_
  refine t_end ?_
  show W _ _ _ _ _ _ _
  refine w_seq ?_
  refine w_seq ?_
  refine w_reg fun all => ?_
  by_cases c4 : b1 < 1
  · rw [if_pos c4] at e
    have c4b : (decide (b1 < 1)) = true := decide_eq_true c4
    refine t_qz 1 [0, 1, 7] (σ' := [(0, .int .i64 a0), (1, .int .i64 b1), (7, .int .i64 b1)]) (by kernel_rfl) ?_
    refine t_v (dv_quiet rfl (congrArg (fun t => some (Value.bool t)) c4b)) ?_
    refine t_keep [0, 1, 8] (σ' := [(0, .int .i64 a0), (1, .int .i64 b1), (8, .bool true)]) (by kernel_rfl) ?_
    refine t_end ?_
    show W _ _ _ _ _ _ _
    refine w_cond rfl (fun _ => ?_) (fun c_ => by cases c_)
    show W _ _ _ _ _ _ _
    refine w_seq ?_
    refine w_reg fun all => ?_
    refine t_qz 1 [4] (σ' := [(4, .int .i64 0)]) (by kernel_rfl) ?_
    refine t_end ?_
    show W _ _ _ _ _ _ _
    refine w_ret ?_
    obtain rfl := Option.some.inj e
    exact ⟨[.int .i64 0], [], S, ⟨rfl, trivial⟩, VS.none, rfl, rfl, rfl⟩
  · rw [if_neg c4] at e
    have c4b : (decide (b1 < 1)) = false := decide_eq_false c4
    refine t_qz 1 [0, 1, 7] (σ' := [(0, .int .i64 a0), (1, .int .i64 b1), (7, .int .i64 b1)]) (by kernel_rfl) ?_
    refine t_v (dv_quiet rfl (congrArg (fun t => some (Value.bool t)) c4b)) ?_
    refine t_keep [0, 1, 8] (σ' := [(0, .int .i64 a0), (1, .int .i64 b1), (8, .bool false)]) (by kernel_rfl) ?_
    refine t_end ?_
    show W _ _ _ _ _ _ _
    refine w_cond rfl (fun c_ => by cases c_) (fun _ => ?_)
    show W _ _ _ _ _ _ _
    refine w_skip ?_
    show W _ _ _ _ _ _ _
    refine w_seq ?_
    refine w_reg fun all => ?_
    obtain ⟨t5, h6, e⟩ := bind_of e
    refine t_qz 2 [0, 1, 9, 10] (σ' := [(0, .int .i64 a0), (1, .int .i64 b1), (9, .int .i64 a0), (10, .int .i64 b1)]) (by kernel_rfl) ?_
    refine t_v (.call (vs := [.int .i64 a0, .int .i64 b1]) rfl rfl (by kernel_rfl) (fixed_Down.ok h6)) ?_
    refine t_qz 1 [0, 1, 5] (σ' := [(0, .int .i64 a0), (1, .int .i64 b1), (5, .int .i64 t5)]) (by kernel_rfl) ?_
    refine t_end ?_
    show W _ _ _ _ _ _ _
    refine w_seq ?_
    refine w_seq ?_
    refine w_reg fun all => ?_
    refine t_qz 6 [1, 5, 6] (σ' := [(1, .int .i64 b1), (5, .int .i64 t5), (6, .int .i64 (wr64 (a0 - (wr64 (t5 * b1)))))]) (by kernel_rfl) ?_
    refine t_end ?_
    show W _ _ _ _ _ _ _
    refine w_seq ?_
    refine w_reg fun all => ?_
    by_cases c7 : (wr64 (a0 - (wr64 (t5 * b1)))) ≥ (wr64 (b1 - (wr64 (a0 - (wr64 (t5 * b1))))))
    · rw [if_pos c7] at e
      have c7b : (decide ((wr64 (a0 - (wr64 (t5 * b1)))) ≥ (wr64 (b1 - (wr64 (a0 - (wr64 (t5 * b1)))))))) = true := decide_eq_true c7
      refine t_qz 4 [5, 17, 20] (σ' := [(5, .int .i64 t5), (17, .int .i64 (wr64 (a0 - (wr64 (t5 * b1))))), (20, .int .i64 (wr64 (b1 - (wr64 (a0 - (wr64 (t5 * b1)))))))]) (by kernel_rfl) ?_
      refine t_v (dv_quiet rfl (congrArg (fun t => some (Value.bool t)) c7b)) ?_
      refine t_keep [5, 21] (σ' := [(5, .int .i64 t5), (21, .bool true)]) (by kernel_rfl) ?_
      refine t_end ?_
      show W _ _ _ _ _ _ _
      refine w_cond rfl (fun _ => ?_) (fun c_ => by cases c_)
      show W _ _ _ _ _ _ _
      refine w_reg fun all => ?_
      refine t_qz 3 [5] (σ' := [(5, .int .i64 (wr64 (t5 + 1)))]) (by kernel_rfl) ?_
      refine t_end ?_
      show W _ _ _ _ _ _ _
      refine w_seq ?_
      refine w_reg fun all => ?_
      refine t_qz 2 [4] (σ' := [(4, .int .i64 (wr64 (t5 + 1)))]) (by kernel_rfl) ?_
      refine t_end ?_
      show W _ _ _ _ _ _ _
      refine w_ret ?_
      obtain rfl := Option.some.inj e
      exact ⟨[.int .i64 (wr64 (t5 + 1))], [], S, ⟨rfl, trivial⟩, VS.none, rfl, rfl, rfl⟩
    · rw [if_neg c7] at e
      have c7b : (decide ((wr64 (a0 - (wr64 (t5 * b1)))) ≥ (wr64 (b1 - (wr64 (a0 - (wr64 (t5 * b1)))))))) = false := decide_eq_false c7
      refine t_qz 4 [5, 17, 20] (σ' := [(5, .int .i64 t5), (17, .int .i64 (wr64 (a0 - (wr64 (t5 * b1))))), (20, .int .i64 (wr64 (b1 - (wr64 (a0 - (wr64 (t5 * b1)))))))]) (by kernel_rfl) ?_
      refine t_v (dv_quiet rfl (congrArg (fun t => some (Value.bool t)) c7b)) ?_
      refine t_keep [5, 21] (σ' := [(5, .int .i64 t5), (21, .bool false)]) (by kernel_rfl) ?_
      refine t_end ?_
      show W _ _ _ _ _ _ _
      refine w_cond rfl (fun c_ => by cases c_) (fun _ => ?_)
      show W _ _ _ _ _ _ _
      refine w_skip ?_
      show W _ _ _ _ _ _ _
      refine w_seq ?_
      refine w_reg fun all => ?_
      refine t_qz 2 [4] (σ' := [(4, .int .i64 t5)]) (by kernel_rfl) ?_
      refine t_end ?_
      show W _ _ _ _ _ _ _
      refine w_ret ?_
      obtain rfl := Option.some.inj e
      exact ⟨[.int .i64 t5], [], S, ⟨rfl, trivial⟩, VS.none, rfl, rfl, rfl⟩

/-- arc.part -/
def c41 : C :=
  (.seq (.reg [⟨(some 4), .mv (.const (.int .i64 0)), none⟩])
  (.seq (.reg [⟨(some 5), .mv (.tmp 1), none⟩,
     ⟨(some 6), .mv (.tmp 0), none⟩,
     ⟨(some 7), .bin .sub (.tmp 5) (.tmp 6), none⟩,
     ⟨(some 8), .bin .mul (.const (.int .i64 552285)) (.tmp 7), none⟩,
     ⟨(some 9), .call 43 [(.tmp 8), (.const (.int .i64 1000000))], none⟩,
     ⟨(some 4), .mv (.tmp 9), none⟩])
  .ret))
def arc_part.f (a0 : Int) (b1 : Int) : Option (Int) := (fixed_Round.f (wr64 (552285 * (wr64 (b1 - a0)))) 1000000).bind fun t8 => (some t8)
theorem arc_part.ok {S : Seal} {a0 : Int} {b1 : Int} {r0 : Int} (e : arc_part.f a0 b1 = some r0) :
    Cal Try.prog 41 [.int .i64 a0, .int .i64 b1] [] S fun v H' S' => v = .int .i64 r0 ∧ H' = [] ∧ S' = S := by
  unfold arc_part.f at e
  refine cal_of (c := c41) (N := 10) Try.func41 rfl rfl (by kernel_rfl) (rs := [.t 4]) (by kernel_rfl) (Nat.le_of_ble_eq_true rfl) ?_
  unfold c41
  refine w_seq ?_
  refine w_reg fun all => ?_
  refine t_qz 1 [0, 1] (σ' := [(0, .int .i64 a0), (1, .int .i64 b1)]) (by kernel_rfl) ?_
  refine t_end ?_
  show W _ _ _ _ _ _ _
  refine w_seq ?_
  refine w_reg fun all => ?_
  obtain ⟨t8, h9, e⟩ := bind_of e
  refine t_qz 4 [8] (σ' := [(8, .int .i64 (wr64 (552285 * (wr64 (b1 - a0)))))]) (by kernel_rfl) ?_
  refine t_v (.call (vs := [.int .i64 (wr64 (552285 * (wr64 (b1 - a0)))), .int .i64 1000000]) rfl rfl (by kernel_rfl) (fixed_Round.ok h9)) ?_
  refine t_qz 1 [4] (σ' := [(4, .int .i64 t8)]) (by kernel_rfl) ?_
  refine t_end ?_
  show W _ _ _ _ _ _ _
  refine w_ret ?_
  obtain rfl := Option.some.inj e
  exact ⟨[.int .i64 t8], [], S, ⟨rfl, trivial⟩, VS.none, rfl, rfl, rfl⟩

/-- arc.Cubic -/
def c17 : C :=
  (.seq (.reg [⟨(some 3), .box (.tmp 0), none⟩,
     ⟨(some 4), .box (.tmp 1), none⟩,
     ⟨(some 6), .new [(.int .i64 0), (.int .i64 0), (.int .i64 0), (.int .i64 0)], none⟩])
  (.seq (.drw [⟨(some 9), .pad 0 (.tmp 3), none⟩,
     ⟨(some 10), .ld none (.tmp 9), none⟩,
     ⟨(some 11), .pad 0 (.tmp 4), none⟩,
     ⟨(some 12), .ld none (.tmp 11), none⟩,
     ⟨(some 13), .call 41 [(.tmp 10), (.tmp 12)], none⟩,
     ⟨(some 14), .pad 1 (.tmp 3), none⟩,
     ⟨(some 15), .ld none (.tmp 14), none⟩,
     ⟨(some 16), .pad 1 (.tmp 4), none⟩,
     ⟨(some 17), .ld none (.tmp 16), none⟩,
     ⟨(some 18), .call 41 [(.tmp 15), (.tmp 17)], none⟩,
     ⟨(some 7), .mv (.tmp 13), none⟩,
     ⟨(some 8), .mv (.tmp 18), none⟩] [[], [0], [], [2], [1, 3], [], [5], [], [7], [6, 8, 4], [4, 9, 0, 1, 2, 3, 4], [9, 10, 0, 1, 2, 3, 4, 5, 6, 7, 8, 9, 10]])
  (.seq (.seq (.reg [⟨(some 19), .mv (.tmp 2), none⟩])
   (.cond (.tmp 19)
    (.seq (.reg [⟨(some 20), .pad 0 (.tmp 3), none⟩,
        ⟨(some 21), .ld none (.tmp 20), none⟩,
        ⟨(some 22), .mv (.tmp 7), none⟩,
        ⟨(some 23), .bin .add (.tmp 21) (.tmp 22), none⟩,
        ⟨(some 24), .pad 1 (.tmp 3), none⟩,
        ⟨(some 25), .ld none (.tmp 24), none⟩,
        ⟨(some 26), .bld [(.int .i64 0), (.int .i64 0)] [(0, 1, (.tmp 23)), (1, 1, (.tmp 25))], none⟩,
        ⟨(some 27), .pad 0 (.tmp 4), none⟩,
        ⟨(some 28), .ld none (.tmp 27), none⟩,
        ⟨(some 29), .pad 1 (.tmp 4), none⟩,
        ⟨(some 30), .ld none (.tmp 29), none⟩,
        ⟨(some 31), .mv (.tmp 8), none⟩,
        ⟨(some 32), .bin .sub (.tmp 30) (.tmp 31), none⟩,
        ⟨(some 33), .bld [(.int .i64 0), (.int .i64 0)] [(0, 1, (.tmp 28)), (1, 1, (.tmp 32))], none⟩,
        ⟨(some 34), .bld [(.int .i64 0), (.int .i64 0), (.int .i64 0), (.int .i64 0)] [(0, 2, (.tmp 26)), (2, 2, (.tmp 33))], none⟩,
        ⟨none, .st 4 (.tmp 6) (.tmp 34), none⟩])
     .ret)
    .skip))
  (.seq (.reg [⟨(some 35), .pad 0 (.tmp 3), none⟩,
     ⟨(some 36), .ld none (.tmp 35), none⟩,
     ⟨(some 37), .pad 1 (.tmp 3), none⟩,
     ⟨(some 38), .ld none (.tmp 37), none⟩,
     ⟨(some 39), .mv (.tmp 8), none⟩,
     ⟨(some 40), .bin .add (.tmp 38) (.tmp 39), none⟩,
     ⟨(some 41), .bld [(.int .i64 0), (.int .i64 0)] [(0, 1, (.tmp 36)), (1, 1, (.tmp 40))], none⟩,
     ⟨(some 42), .pad 0 (.tmp 4), none⟩,
     ⟨(some 43), .ld none (.tmp 42), none⟩,
     ⟨(some 44), .mv (.tmp 7), none⟩,
     ⟨(some 45), .bin .sub (.tmp 43) (.tmp 44), none⟩,
     ⟨(some 46), .pad 1 (.tmp 4), none⟩,
     ⟨(some 47), .ld none (.tmp 46), none⟩,
     ⟨(some 48), .bld [(.int .i64 0), (.int .i64 0)] [(0, 1, (.tmp 45)), (1, 1, (.tmp 47))], none⟩,
     ⟨(some 49), .bld [(.int .i64 0), (.int .i64 0), (.int .i64 0), (.int .i64 0)] [(0, 2, (.tmp 41)), (2, 2, (.tmp 48))], none⟩,
     ⟨none, .st 4 (.tmp 6) (.tmp 49), none⟩])
  .ret))))
def arc_Cubic.f (a0_X : Int) (a0_Y : Int) (b1_X : Int) (b1_Y : Int) (alongX2 : Bool) : Option (Int × Int × Int × Int) := (arc_part.f a0_X b1_X).bind fun t13 => ((arc_part.f a0_Y b1_Y).bind fun t15 => (if alongX2 = true then (some (wr64 (a0_X + t13), a0_Y, b1_X, wr64 (b1_Y - t15))) else (some (a0_X, wr64 (a0_Y + t15), wr64 (b1_X - t13), b1_Y))))
theorem arc_Cubic.ok {S : Seal} {a0_X : Int} {a0_Y : Int} {b1_X : Int} {b1_Y : Int} {alongX2 : Bool} {r0 : Int} {r1 : Int} {r2 : Int} {r3 : Int} (e : arc_Cubic.f a0_X a0_Y b1_X b1_Y alongX2 = some (r0, r1, r2, r3)) :
    Cal Try.prog 17 [.agg #[.int .i64 a0_X, .int .i64 a0_Y], .agg #[.int .i64 b1_X, .int .i64 b1_Y], .bool alongX2] [] S fun v H' S' => v = .agg #[.int .i64 r0, .int .i64 r1, .int .i64 r2, .int .i64 r3] ∧ H' = [] ∧ S' = S := by
  unfold arc_Cubic.f at e
  refine cal_of (c := c17) (N := 50) Try.func17 rfl rfl (by kernel_rfl) (rs := [.cn 4 6]) (by kernel_rfl) (Nat.le_of_ble_eq_true rfl) ?_
  unfold c17
  refine w_seq ?_
  refine w_reg fun all => ?_
  refine t_a (.box rfl rfl rfl) fun b10 fb10 sb10 => ?_
  refine t_a (.box rfl rfl rfl) fun b11 fb11 sb11 => ?_
  refine t_a (.new rfl rfl) fun b12 fb12 sb12 => ?_
  refine t_keep [2, 3, 4, 6] (σ' := [(2, .bool alongX2), (3, .pointer (some ⟨b10, 0, none⟩)), (4, .pointer (some ⟨b11, 0, none⟩)), (6, .pointer (some ⟨b12, 0, none⟩))]) (by kernel_rfl) ?_
  refine t_end ?_
  show W _ _ _ _ _ _ _
  refine w_seq ?_
  obtain ⟨t13, h14, e⟩ := bind_of e
  obtain ⟨t15, h16, e⟩ := bind_of e
  refine w_drwE mixed 12 [.v (.pointer (some ⟨b10, 0, none⟩)), .v (.int .i64 a0_X), .v (.pointer (some ⟨b11, 0, none⟩)), .v (.int .i64 b1_X), .v (.int .i64 t13), .v (.pointer (some ⟨b10, 1, none⟩)), .v (.int .i64 a0_Y), .v (.pointer (some ⟨b11, 1, none⟩)), .v (.int .i64 b1_Y), .v (.int .i64 t15), .v (.int .i64 t13), .v (.int .i64 t15)] (by kernel_rfl) ?_ ?_
  · refine DI.sq 1 (by kernel_rfl) rfl ?_
    refine .cons (.ld1 rfl rfl rfl (.at 2 rfl rfl)) ?_
    refine DI.sq 1 (by kernel_rfl) rfl ?_
    refine .cons (.ld1 rfl rfl rfl (.at 1 rfl rfl)) ?_
    refine .cons (.call (vs := [.int .i64 a0_X, .int .i64 b1_X]) rfl rfl (by kernel_rfl) (arc_part.ok h14)) ?_
    refine DI.sq 1 (by kernel_rfl) rfl ?_
    refine .cons (.ld1 rfl rfl rfl (.at 2 rfl rfl)) ?_
    refine DI.sq 1 (by kernel_rfl) rfl ?_
    refine .cons (.ld1 rfl rfl rfl (.at 1 rfl rfl)) ?_
    refine .cons (.call (vs := [.int .i64 a0_Y, .int .i64 b1_Y]) rfl rfl (by kernel_rfl) (arc_part.ok h16)) ?_
    refine DI.sq 2 (by kernel_rfl) rfl ?_
    exact .nil
  refine fk_q 12 [2, 3, 4, 6, 7, 8] (σ' := [(2, .bool alongX2), (3, .pointer (some ⟨b10, 0, none⟩)), (4, .pointer (some ⟨b11, 0, none⟩)), (6, .pointer (some ⟨b12, 0, none⟩)), (7, .int .i64 t13), (8, .int .i64 t15)]) t_more (by kernel_rfl) ?_
  refine fk_nil fun all => ?_
  refine t_keep [2, 3, 4, 6, 7, 8] (σ' := [(2, .bool alongX2), (3, .pointer (some ⟨b10, 0, none⟩)), (4, .pointer (some ⟨b11, 0, none⟩)), (6, .pointer (some ⟨b12, 0, none⟩)), (7, .int .i64 t13), (8, .int .i64 t15)]) (by kernel_rfl) ?_
  refine t_end ?_
  show W _ _ _ _ _ _ _
  refine w_seq ?_
  refine w_seq ?_
  refine w_reg fun all => ?_
  by_cases c17 : alongX2 = true
  · rw [if_pos c17] at e
    have c17b : alongX2 = true := c17
    refine t_v (dv_quiet rfl (congrArg (fun t => some (Value.bool t)) c17b)) ?_
    refine t_keep [3, 4, 6, 7, 8, 19] (σ' := [(3, .pointer (some ⟨b10, 0, none⟩)), (4, .pointer (some ⟨b11, 0, none⟩)), (6, .pointer (some ⟨b12, 0, none⟩)), (7, .int .i64 t13), (8, .int .i64 t15), (19, .bool true)]) (by kernel_rfl) ?_
    refine t_end ?_
    show W _ _ _ _ _ _ _
    refine w_cond rfl (fun _ => ?_) (fun c_ => by cases c_)
    show W _ _ _ _ _ _ _
    refine w_seq ?_
    refine w_reg fun all => ?_
    refine t_qz 1 [3, 4, 6, 7, 8, 20] (σ' := [(3, .pointer (some ⟨b10, 0, none⟩)), (4, .pointer (some ⟨b11, 0, none⟩)), (6, .pointer (some ⟨b12, 0, none⟩)), (7, .int .i64 t13), (8, .int .i64 t15), (20, .pointer (some ⟨b10, 0, none⟩))]) (by kernel_rfl) ?_
    refine t_v (.ld1 rfl rfl rfl (.at 2 rfl rfl)) ?_
    refine t_qz 3 [4, 6, 8, 23, 24] (σ' := [(4, .pointer (some ⟨b11, 0, none⟩)), (6, .pointer (some ⟨b12, 0, none⟩)), (8, .int .i64 t15), (23, .int .i64 (wr64 (a0_X + t13))), (24, .pointer (some ⟨b10, 1, none⟩))]) (by kernel_rfl) ?_
    refine t_v (.ld1 rfl rfl rfl (.at 2 rfl rfl)) ?_
    refine t_qz 2 [4, 6, 8, 26, 27] (σ' := [(4, .pointer (some ⟨b11, 0, none⟩)), (6, .pointer (some ⟨b12, 0, none⟩)), (8, .int .i64 t15), (26, .agg #[.int .i64 (wr64 (a0_X + t13)), .int .i64 a0_Y]), (27, .pointer (some ⟨b11, 0, none⟩))]) (by kernel_rfl) ?_
    refine t_v (.ld1 rfl rfl rfl (.at 1 rfl rfl)) ?_
    refine t_qz 1 [6, 8, 26, 28, 29] (σ' := [(6, .pointer (some ⟨b12, 0, none⟩)), (8, .int .i64 t15), (26, .agg #[.int .i64 (wr64 (a0_X + t13)), .int .i64 a0_Y]), (28, .int .i64 b1_X), (29, .pointer (some ⟨b11, 1, none⟩))]) (by kernel_rfl) ?_
    refine t_v (.ld1 rfl rfl rfl (.at 1 rfl rfl)) ?_
    refine t_qz 4 [6, 34] (σ' := [(6, .pointer (some ⟨b12, 0, none⟩)), (34, .agg #[.int .i64 (wr64 (a0_X + t13)), .int .i64 a0_Y, .int .i64 b1_X, .int .i64 (wr64 (b1_Y - t15))])]) (by kernel_rfl) ?_
    refine t_sti 0 (cs := [.int .i64 (wr64 (a0_X + t13)), .int .i64 a0_Y, .int .i64 b1_X, .int .i64 (wr64 (b1_Y - t15))]) rfl rfl rfl rfl rfl rfl rfl rfl rfl ?_
    refine t_keep [6] (σ' := [(6, .pointer (some ⟨b12, 0, none⟩))]) (by kernel_rfl) ?_
    refine t_end ?_
    show W _ _ _ _ _ _ _
    refine w_ret ?_
    simp only [Option.some.injEq, Prod.mk.injEq] at e
    obtain ⟨rfl, rfl, rfl, rfl⟩ := e
    exact ⟨[.agg #[.int .i64 (wr64 (a0_X + t13)), .int .i64 a0_Y, .int .i64 b1_X, .int .i64 (wr64 (b1_Y - t15))]], [], S, ⟨⟨_, _, _, rfl, .at 0 rfl rfl, rfl⟩, trivial⟩, VS.none, rfl, rfl, rfl⟩
  · rw [if_neg c17] at e
    have c17b : alongX2 = false := Bool.eq_false_iff.mpr c17
    refine t_v (dv_quiet rfl (congrArg (fun t => some (Value.bool t)) c17b)) ?_
    refine t_keep [3, 4, 6, 7, 8, 19] (σ' := [(3, .pointer (some ⟨b10, 0, none⟩)), (4, .pointer (some ⟨b11, 0, none⟩)), (6, .pointer (some ⟨b12, 0, none⟩)), (7, .int .i64 t13), (8, .int .i64 t15), (19, .bool false)]) (by kernel_rfl) ?_
    refine t_end ?_
    show W _ _ _ _ _ _ _
    refine w_cond rfl (fun c_ => by cases c_) (fun _ => ?_)
    show W _ _ _ _ _ _ _
    refine w_skip ?_
    show W _ _ _ _ _ _ _
    refine w_seq ?_
    refine w_reg fun all => ?_
    refine t_qz 1 [3, 4, 6, 7, 8, 35] (σ' := [(3, .pointer (some ⟨b10, 0, none⟩)), (4, .pointer (some ⟨b11, 0, none⟩)), (6, .pointer (some ⟨b12, 0, none⟩)), (7, .int .i64 t13), (8, .int .i64 t15), (35, .pointer (some ⟨b10, 0, none⟩))]) (by kernel_rfl) ?_
    refine t_v (.ld1 rfl rfl rfl (.at 2 rfl rfl)) ?_
    refine t_qz 1 [4, 6, 7, 8, 36, 37] (σ' := [(4, .pointer (some ⟨b11, 0, none⟩)), (6, .pointer (some ⟨b12, 0, none⟩)), (7, .int .i64 t13), (8, .int .i64 t15), (36, .int .i64 a0_X), (37, .pointer (some ⟨b10, 1, none⟩))]) (by kernel_rfl) ?_
    refine t_v (.ld1 rfl rfl rfl (.at 2 rfl rfl)) ?_
    refine t_qz 4 [4, 6, 7, 41, 42] (σ' := [(4, .pointer (some ⟨b11, 0, none⟩)), (6, .pointer (some ⟨b12, 0, none⟩)), (7, .int .i64 t13), (41, .agg #[.int .i64 a0_X, .int .i64 (wr64 (a0_Y + t15))]), (42, .pointer (some ⟨b11, 0, none⟩))]) (by kernel_rfl) ?_
    refine t_v (.ld1 rfl rfl rfl (.at 1 rfl rfl)) ?_
    refine t_qz 3 [6, 41, 45, 46] (σ' := [(6, .pointer (some ⟨b12, 0, none⟩)), (41, .agg #[.int .i64 a0_X, .int .i64 (wr64 (a0_Y + t15))]), (45, .int .i64 (wr64 (b1_X - t13))), (46, .pointer (some ⟨b11, 1, none⟩))]) (by kernel_rfl) ?_
    refine t_v (.ld1 rfl rfl rfl (.at 1 rfl rfl)) ?_
    refine t_qz 2 [6, 49] (σ' := [(6, .pointer (some ⟨b12, 0, none⟩)), (49, .agg #[.int .i64 a0_X, .int .i64 (wr64 (a0_Y + t15)), .int .i64 (wr64 (b1_X - t13)), .int .i64 b1_Y])]) (by kernel_rfl) ?_
    refine t_sti 0 (cs := [.int .i64 a0_X, .int .i64 (wr64 (a0_Y + t15)), .int .i64 (wr64 (b1_X - t13)), .int .i64 b1_Y]) rfl rfl rfl rfl rfl rfl rfl rfl rfl ?_
    refine t_keep [6] (σ' := [(6, .pointer (some ⟨b12, 0, none⟩))]) (by kernel_rfl) ?_
    refine t_end ?_
    show W _ _ _ _ _ _ _
    refine w_ret ?_
    simp only [Option.some.injEq, Prod.mk.injEq] at e
    obtain ⟨rfl, rfl, rfl, rfl⟩ := e
    exact ⟨[.agg #[.int .i64 a0_X, .int .i64 (wr64 (a0_Y + t15)), .int .i64 (wr64 (b1_X - t13)), .int .i64 b1_Y]], [], S, ⟨⟨_, _, _, rfl, .at 0 rfl rfl, rfl⟩, trivial⟩, VS.none, rfl, rfl, rfl⟩

/-- glyphicref.SamePoint -/
def c20 : C :=
  (.seq (.reg [⟨(some 2), .box (.tmp 0), none⟩,
     ⟨(some 3), .box (.tmp 1), none⟩,
     ⟨(some 4), .mv (.const (.bool false)), none⟩])
  (.seq (.reg [⟨(some 5), .pad 0 (.tmp 2), none⟩,
     ⟨(some 6), .ld none (.tmp 5), none⟩,
     ⟨(some 7), .pad 0 (.tmp 3), none⟩,
     ⟨(some 8), .ld none (.tmp 7), none⟩,
     ⟨(some 9), .bin .eql (.tmp 6) (.tmp 8), none⟩,
     ⟨(some 10), .mv (.tmp 9), none⟩,
     ⟨(some 11), .pad 1 (.tmp 2), (some (10, true))⟩,
     ⟨(some 12), .ld none (.tmp 11), (some (10, true))⟩,
     ⟨(some 13), .pad 1 (.tmp 3), (some (10, true))⟩,
     ⟨(some 14), .ld none (.tmp 13), (some (10, true))⟩,
     ⟨(some 15), .bin .eql (.tmp 12) (.tmp 14), (some (10, true))⟩,
     ⟨(some 16), .pk (.tmp 10) (.tmp 15) (.const (.bool false)), none⟩,
     ⟨(some 4), .mv (.tmp 16), none⟩])
  .ret))
def glyphicref_SamePoint.f (a0_X : Int) (a0_Y : Int) (b1_X : Int) (b1_Y : Int) : Option (Bool) := if a0_X = b1_X then (some (a0_Y == b1_Y)) else (some false)
theorem glyphicref_SamePoint.ok {S : Seal} {a0_X : Int} {a0_Y : Int} {b1_X : Int} {b1_Y : Int} {r0 : Bool} (e : glyphicref_SamePoint.f a0_X a0_Y b1_X b1_Y = some r0) :
    Cal Try.prog 20 [.agg #[.int .i64 a0_X, .int .i64 a0_Y], .agg #[.int .i64 b1_X, .int .i64 b1_Y]] [] S fun v H' S' => v = .bool r0 ∧ H' = [] ∧ S' = S := by
  unfold glyphicref_SamePoint.f at e
  refine cal_of (c := c20) (N := 17) Try.func20 rfl rfl (by kernel_rfl) (rs := [.t 4]) (by kernel_rfl) (Nat.le_of_ble_eq_true rfl) ?_
  unfold c20
  refine w_seq ?_
  refine w_reg fun all => ?_
  refine t_a (.box rfl rfl rfl) fun b18 fb18 sb18 => ?_
  refine t_a (.box rfl rfl rfl) fun b19 fb19 sb19 => ?_
  refine t_qz 1 [2, 3] (σ' := [(2, .pointer (some ⟨b18, 0, none⟩)), (3, .pointer (some ⟨b19, 0, none⟩))]) (by kernel_rfl) ?_
  refine t_end ?_
  show W _ _ _ _ _ _ _
  refine w_seq ?_
  refine w_reg fun all => ?_
  refine t_qz 1 [2, 3, 5] (σ' := [(2, .pointer (some ⟨b18, 0, none⟩)), (3, .pointer (some ⟨b19, 0, none⟩)), (5, .pointer (some ⟨b18, 0, none⟩))]) (by kernel_rfl) ?_
  refine t_v (.ld1 rfl rfl rfl (.at 1 rfl rfl)) ?_
  refine t_qz 1 [2, 3, 6, 7] (σ' := [(2, .pointer (some ⟨b18, 0, none⟩)), (3, .pointer (some ⟨b19, 0, none⟩)), (6, .int .i64 a0_X), (7, .pointer (some ⟨b19, 0, none⟩))]) (by kernel_rfl) ?_
  refine t_v (.ld1 rfl rfl rfl (.at 0 rfl rfl)) ?_
  by_cases c20 : a0_X = b1_X
  · rw [if_pos c20] at e
    have c20b : (a0_X == b1_X) = true := beq_iff_eq.mpr c20
    refine t_v (dv_quiet rfl (congrArg (fun t => some (Value.bool t)) c20b)) ?_
    refine t_qz 2 [3, 10, 11] (σ' := [(3, .pointer (some ⟨b19, 0, none⟩)), (10, .bool true), (11, .pointer (some ⟨b18, 1, none⟩))]) (by kernel_rfl) ?_
    refine t_v (.ld1 rfl rfl rfl (.at 1 rfl rfl)) ?_
    refine t_qz 1 [10, 12, 13] (σ' := [(10, .bool true), (12, .int .i64 a0_Y), (13, .pointer (some ⟨b19, 1, none⟩))]) (by kernel_rfl) ?_
    refine t_v (.ld1 rfl rfl rfl (.at 0 rfl rfl)) ?_
    refine t_qz 3 [4] (σ' := [(4, .bool (a0_Y == b1_Y))]) (by kernel_rfl) ?_
    refine t_end ?_
    show W _ _ _ _ _ _ _
    refine w_ret ?_
    obtain rfl := Option.some.inj e
    exact ⟨[.bool (a0_Y == b1_Y)], [], S, ⟨rfl, trivial⟩, VS.none, rfl, rfl, rfl⟩
  · rw [if_neg c20] at e
    have c20b : (a0_X == b1_X) = false := beq_eq_false_iff_ne.mpr c20
    refine t_v (dv_quiet rfl (congrArg (fun t => some (Value.bool t)) c20b)) ?_
    refine t_qz 8 [4] (σ' := [(4, .bool false)]) (by kernel_rfl) ?_
    refine t_end ?_
    show W _ _ _ _ _ _ _
    refine w_ret ?_
    obtain rfl := Option.some.inj e
    exact ⟨[.bool false], [], S, ⟨rfl, trivial⟩, VS.none, rfl, rfl, rfl⟩

/-- glyphiclaw14.first -/
def c16 : C :=
  (.seq (.reg [⟨(some 0), .mv (.const (.bool false)), none⟩])
  (.seq (.reg [⟨(some 4), .bld [(.int .i64 0), (.int .i64 0)] [(0, 1, (.const (.int .i64 5))), (1, 1, (.const (.int .i64 6)))], none⟩,
     ⟨(some 1), .new [(.int .i64 0), (.int .i64 0)], none⟩,
     ⟨none, .st 2 (.tmp 1) (.tmp 4), none⟩])
  (.seq (.reg [⟨(some 5), .ld (some 2) (.tmp 1), none⟩,
     ⟨(some 6), .ld (some 2) (.tmp 1), none⟩,
     ⟨(some 7), .call 17 [(.tmp 5), (.tmp 6), (.const (.bool true))], none⟩,
     ⟨(some 2), .new [(.int .i64 0), (.int .i64 0), (.int .i64 0), (.int .i64 0)], none⟩,
     ⟨none, .st 4 (.tmp 2) (.tmp 7), none⟩])
  (.seq (.reg [⟨(some 8), .bld [(.int .i64 0), (.int .i64 0)] [], none⟩,
     ⟨(some 9), .bld [(.int .i64 0), (.int .i64 0)] [(0, 1, (.const (.int .i64 1000000))), (1, 1, (.const (.int .i64 1000000)))], none⟩,
     ⟨(some 10), .call 17 [(.tmp 8), (.tmp 9), (.const (.bool true))], none⟩,
     ⟨(some 3), .new [(.int .i64 0), (.int .i64 0), (.int .i64 0), (.int .i64 0)], none⟩,
     ⟨none, .st 4 (.tmp 3) (.tmp 10), none⟩])
  (.seq (.reg [⟨(some 11), .ixa 2 2 (.tmp 2) (.const (.int .i64 0)), none⟩,
     ⟨(some 12), .ld (some 2) (.tmp 11), none⟩,
     ⟨(some 13), .ld (some 2) (.tmp 1), none⟩,
     ⟨(some 14), .call 20 [(.tmp 12), (.tmp 13)], none⟩,
     ⟨(some 15), .mv (.tmp 14), none⟩,
     ⟨(some 16), .ixa 2 2 (.tmp 2) (.const (.int .i64 1)), (some (15, true))⟩,
     ⟨(some 17), .ld (some 2) (.tmp 16), (some (15, true))⟩,
     ⟨(some 18), .ld (some 2) (.tmp 1), (some (15, true))⟩,
     ⟨(some 19), .call 20 [(.tmp 17), (.tmp 18)], (some (15, true))⟩,
     ⟨(some 20), .pk (.tmp 15) (.tmp 19) (.const (.bool false)), none⟩,
     ⟨(some 21), .mv (.tmp 20), none⟩,
     ⟨(some 22), .ixa 2 2 (.tmp 3) (.const (.int .i64 0)), (some (21, true))⟩,
     ⟨(some 23), .pad 0 (.tmp 22), (some (21, true))⟩,
     ⟨(some 24), .ld none (.tmp 23), (some (21, true))⟩,
     ⟨(some 25), .bin .eql (.tmp 24) (.const (.int .i64 552285)), (some (21, true))⟩,
     ⟨(some 26), .pk (.tmp 21) (.tmp 25) (.const (.bool false)), none⟩,
     ⟨(some 27), .mv (.tmp 26), none⟩,
     ⟨(some 28), .ixa 2 2 (.tmp 3) (.const (.int .i64 0)), (some (27, true))⟩,
     ⟨(some 29), .pad 1 (.tmp 28), (some (27, true))⟩,
     ⟨(some 30), .ld none (.tmp 29), (some (27, true))⟩,
     ⟨(some 31), .bin .eql (.tmp 30) (.const (.int .i64 0)), (some (27, true))⟩,
     ⟨(some 32), .pk (.tmp 27) (.tmp 31) (.const (.bool false)), none⟩,
     ⟨(some 0), .mv (.tmp 32), none⟩])
  .ret)))))
def glyphiclaw14_first.f  : Option (Bool) := (arc_Cubic.f 5 6 5 6 true).bind fun (t22, t23, t24, t25) => ((arc_Cubic.f 0 0 1000000 1000000 true).bind fun (t28, t29, t30, t31) => ((glyphicref_SamePoint.f t22 t23 5 6).bind fun t34 => (if t34 = true then ((glyphicref_SamePoint.f t24 t25 5 6).bind fun t36 => (if t36 = true then (if t28 = 552285 then (some (t29 == 0)) else (some false)) else (some false))) else (some false))))
theorem glyphiclaw14_first.ok {S : Seal}  {r0 : Bool} (e : glyphiclaw14_first.f  = some r0) :
    Cal Try.prog 16 [] [] S fun v H' S' => v = .bool r0 ∧ H' = [] ∧ S' = S := by
  unfold glyphiclaw14_first.f at e
  refine cal_of (c := c16) (N := 33) Try.func16 rfl rfl (by kernel_rfl) (rs := [.t 0]) (by kernel_rfl) (Nat.le_of_ble_eq_true rfl) ?_
  unfold c16
  refine w_seq ?_
  refine w_reg fun all => ?_
  refine t_qz 1 [] (σ' := []) (by kernel_rfl) ?_
  refine t_end ?_
  show W _ _ _ _ _ _ _
  refine w_seq ?_
  refine w_reg fun all => ?_
  refine t_qz 1 [4] (σ' := [(4, .agg #[.int .i64 5, .int .i64 6])]) (by kernel_rfl) ?_
  refine t_a (.new rfl rfl) fun b21 fb21 sb21 => ?_
  refine t_sti 0 (cs := [.int .i64 5, .int .i64 6]) rfl rfl rfl rfl rfl rfl rfl rfl rfl ?_
  refine t_keep [1] (σ' := [(1, .pointer (some ⟨b21, 0, none⟩))]) (by kernel_rfl) ?_
  refine t_end ?_
  show W _ _ _ _ _ _ _
  refine w_seq ?_
  refine w_reg fun all => ?_
  refine t_v (.ldn rfl rfl rfl (.at 0 rfl rfl)) ?_
  refine t_v (.ldn rfl rfl rfl (.at 0 rfl rfl)) ?_
  obtain ⟨⟨t22, t23, t24, t25⟩, h26, e⟩ := bind_of e
  try dsimp only at e
  refine t_v (.call (vs := [.agg #[.int .i64 5, .int .i64 6], .agg #[.int .i64 5, .int .i64 6], .bool true]) rfl rfl (by kernel_rfl) (arc_Cubic.ok h26)) ?_
  refine t_a (.new rfl rfl) fun b27 fb27 sb27 => ?_
  refine t_sti 0 (cs := [.int .i64 t22, .int .i64 t23, .int .i64 t24, .int .i64 t25]) rfl rfl rfl rfl rfl rfl rfl rfl rfl ?_
  refine t_keep [1, 2] (σ' := [(1, .pointer (some ⟨b21, 0, none⟩)), (2, .pointer (some ⟨b27, 0, none⟩))]) (by kernel_rfl) ?_
  refine t_end ?_
  show W _ _ _ _ _ _ _
  refine w_seq ?_
  refine w_reg fun all => ?_
  obtain ⟨⟨t28, t29, t30, t31⟩, h32, e⟩ := bind_of e
  try dsimp only at e
  refine t_qz 2 [1, 2, 8, 9] (σ' := [(1, .pointer (some ⟨b21, 0, none⟩)), (2, .pointer (some ⟨b27, 0, none⟩)), (8, .agg #[.int .i64 0, .int .i64 0]), (9, .agg #[.int .i64 1000000, .int .i64 1000000])]) (by kernel_rfl) ?_
  refine t_v (.call (vs := [.agg #[.int .i64 0, .int .i64 0], .agg #[.int .i64 1000000, .int .i64 1000000], .bool true]) rfl rfl (by kernel_rfl) (arc_Cubic.ok h32)) ?_
  refine t_a (.new rfl rfl) fun b33 fb33 sb33 => ?_
  refine t_sti 0 (cs := [.int .i64 t28, .int .i64 t29, .int .i64 t30, .int .i64 t31]) rfl rfl rfl rfl rfl rfl rfl rfl rfl ?_
  refine t_keep [1, 2, 3] (σ' := [(1, .pointer (some ⟨b21, 0, none⟩)), (2, .pointer (some ⟨b27, 0, none⟩)), (3, .pointer (some ⟨b33, 0, none⟩))]) (by kernel_rfl) ?_
  refine t_end ?_
  show W _ _ _ _ _ _ _
  refine w_seq ?_
  refine w_reg fun all => ?_
  refine t_qz 1 [1, 2, 3, 11] (σ' := [(1, .pointer (some ⟨b21, 0, none⟩)), (2, .pointer (some ⟨b27, 0, none⟩)), (3, .pointer (some ⟨b33, 0, none⟩)), (11, .pointer (some ⟨b27, 0, none⟩))]) (by kernel_rfl) ?_
  refine t_v (.ldn rfl rfl rfl (.at 1 rfl rfl)) ?_
  refine t_v (.ldn rfl rfl rfl (.at 2 rfl rfl)) ?_
  obtain ⟨t34, h35, e⟩ := bind_of e
  cases t34 with
  | true =>
    rw [if_pos rfl] at e
    refine t_v (.call (vs := [.agg #[.int .i64 t22, .int .i64 t23], .agg #[.int .i64 5, .int .i64 6]]) rfl rfl (by kernel_rfl) (glyphicref_SamePoint.ok h35)) ?_
    refine t_qz 2 [1, 3, 15, 16] (σ' := [(1, .pointer (some ⟨b21, 0, none⟩)), (3, .pointer (some ⟨b33, 0, none⟩)), (15, .bool true), (16, .pointer (some ⟨b27, 2, none⟩))]) (by kernel_rfl) ?_
    refine t_v (.ldn rfl rfl rfl (.at 1 rfl rfl)) ?_
    refine t_v (.ldn rfl rfl rfl (.at 2 rfl rfl)) ?_
    obtain ⟨t36, h37, e⟩ := bind_of e
    cases t36 with
    | true =>
      rw [if_pos rfl] at e
      refine t_v (.call (vs := [.agg #[.int .i64 t24, .int .i64 t25], .agg #[.int .i64 5, .int .i64 6]]) rfl rfl (by kernel_rfl) (glyphicref_SamePoint.ok h37)) ?_
      refine t_qz 4 [3, 21, 23] (σ' := [(3, .pointer (some ⟨b33, 0, none⟩)), (21, .bool true), (23, .pointer (some ⟨b33, 0, none⟩))]) (by kernel_rfl) ?_
      refine t_v (.ld1 rfl rfl rfl (.at 0 rfl rfl)) ?_
      by_cases c38 : t28 = 552285
      · rw [if_pos c38] at e
        have c38b : (t28 == 552285) = true := beq_iff_eq.mpr c38
        refine t_v (dv_quiet rfl (congrArg (fun t => some (Value.bool t)) c38b)) ?_
        refine t_qz 4 [27, 29] (σ' := [(27, .bool true), (29, .pointer (some ⟨b33, 1, none⟩))]) (by kernel_rfl) ?_
        refine t_v (.ld1 rfl rfl rfl (.at 0 rfl rfl)) ?_
        refine t_qz 3 [0] (σ' := [(0, .bool (t29 == 0))]) (by kernel_rfl) ?_
        refine t_end ?_
        show W _ _ _ _ _ _ _
        refine w_ret ?_
        obtain rfl := Option.some.inj e
        exact ⟨[.bool (t29 == 0)], [], S, ⟨rfl, trivial⟩, VS.none, rfl, rfl, rfl⟩
      · rw [if_neg c38] at e
        have c38b : (t28 == 552285) = false := beq_eq_false_iff_ne.mpr c38
        refine t_v (dv_quiet rfl (congrArg (fun t => some (Value.bool t)) c38b)) ?_
        refine t_qz 8 [0] (σ' := [(0, .bool false)]) (by kernel_rfl) ?_
        refine t_end ?_
        show W _ _ _ _ _ _ _
        refine w_ret ?_
        obtain rfl := Option.some.inj e
        exact ⟨[.bool false], [], S, ⟨rfl, trivial⟩, VS.none, rfl, rfl, rfl⟩
    | false =>
      rw [if_neg (by decide)] at e
      refine t_v (.call (vs := [.agg #[.int .i64 t24, .int .i64 t25], .agg #[.int .i64 5, .int .i64 6]]) rfl rfl (by kernel_rfl) (glyphicref_SamePoint.ok h37)) ?_
      refine t_qz 14 [0] (σ' := [(0, .bool false)]) (by kernel_rfl) ?_
      refine t_end ?_
      show W _ _ _ _ _ _ _
      refine w_ret ?_
      obtain rfl := Option.some.inj e
      exact ⟨[.bool false], [], S, ⟨rfl, trivial⟩, VS.none, rfl, rfl, rfl⟩
  | false =>
    rw [if_neg (by decide)] at e
    refine t_v (.call (vs := [.agg #[.int .i64 t22, .int .i64 t23], .agg #[.int .i64 5, .int .i64 6]]) rfl rfl (by kernel_rfl) (glyphicref_SamePoint.ok h35)) ?_
    refine t_qz 19 [0] (σ' := [(0, .bool false)]) (by kernel_rfl) ?_
    refine t_end ?_
    show W _ _ _ _ _ _ _
    refine w_ret ?_
    obtain rfl := Option.some.inj e
    exact ⟨[.bool false], [], S, ⟨rfl, trivial⟩, VS.none, rfl, rfl, rfl⟩

/-- glyphiclaw14.ArcRounds -/
def c3 : C :=
  (.seq (.reg [⟨(some 12), .mv (.const (.bool false)), none⟩])
  (.seq (.reg [⟨(some 30), .call 16 [], none⟩,
     ⟨(some 13), .mv (.tmp 30), none⟩])
  (.seq (.seq (.reg [⟨(some 31), .mv (.tmp 13), none⟩,
      ⟨(some 32), .un .not (.tmp 31), none⟩])
   (.cond (.tmp 32)
    (.seq (.reg [⟨(some 12), .mv (.const (.bool false)), none⟩])
     .ret)
    .skip))
  (.seq (.reg [⟨(some 33), .mv (.tmp 0), none⟩,
     ⟨(some 34), .bin .rem (.tmp 33) (.const (.int .i64 1000000000)), none⟩,
     ⟨(some 35), .mv (.tmp 1), none⟩,
     ⟨(some 36), .bin .rem (.tmp 35) (.const (.int .i64 1000000000)), none⟩,
     ⟨(some 37), .bld [(.int .i64 0), (.int .i64 0)] [(0, 1, (.tmp 34)), (1, 1, (.tmp 36))], none⟩,
     ⟨(some 14), .new [(.int .i64 0), (.int .i64 0)], none⟩,
     ⟨none, .st 2 (.tmp 14) (.tmp 37), none⟩])
  (.seq (.reg [⟨(some 38), .mv (.tmp 2), none⟩,
     ⟨(some 39), .bin .rem (.tmp 38) (.const (.int .i64 1000)), none⟩,
     ⟨(some 40), .bin .add (.tmp 39) (.const (.int .i64 1000)), none⟩,
     ⟨(some 41), .bin .rem (.tmp 40) (.const (.int .i64 1000)), none⟩,
     ⟨(some 42), .bin .add (.tmp 41) (.const (.int .i64 1)), none⟩,
     ⟨(some 15), .mv (.tmp 42), none⟩])
  (.seq (.reg [⟨(some 43), .mv (.tmp 3), none⟩,
     ⟨(some 44), .bin .rem (.tmp 43) (.const (.int .i64 1000)), none⟩,
     ⟨(some 45), .bin .add (.tmp 44) (.const (.int .i64 1000)), none⟩,
     ⟨(some 46), .bin .rem (.tmp 45) (.const (.int .i64 1000)), none⟩,
     ⟨(some 47), .bin .add (.tmp 46) (.const (.int .i64 1)), none⟩,
     ⟨(some 16), .mv (.tmp 47), none⟩])
  (.seq (.reg [⟨(some 48), .pad 0 (.tmp 14), none⟩,
     ⟨(some 49), .ld none (.tmp 48), none⟩,
     ⟨(some 50), .bin .add (.tmp 49) (.const (.int .i64 1000000)), none⟩,
     ⟨(some 51), .pad 1 (.tmp 14), none⟩,
     ⟨(some 52), .ld none (.tmp 51), none⟩,
     ⟨(some 53), .bin .add (.tmp 52) (.const (.int .i64 1000000)), none⟩,
     ⟨(some 54), .bld [(.int .i64 0), (.int .i64 0)] [(0, 1, (.tmp 50)), (1, 1, (.tmp 53))], none⟩,
     ⟨(some 17), .new [(.int .i64 0), (.int .i64 0)], none⟩,
     ⟨none, .st 2 (.tmp 17) (.tmp 54), none⟩])
  (.seq (.reg [⟨(some 55), .ld (some 2) (.tmp 14), none⟩,
     ⟨(some 56), .ld (some 2) (.tmp 17), none⟩,
     ⟨(some 57), .mv (.tmp 4), none⟩,
     ⟨(some 58), .call 17 [(.tmp 55), (.tmp 56), (.tmp 57)], none⟩,
     ⟨(some 18), .new [(.int .i64 0), (.int .i64 0), (.int .i64 0), (.int .i64 0)], none⟩,
     ⟨none, .st 4 (.tmp 18) (.tmp 58), none⟩])
  (.seq (.reg [⟨(some 59), .mv (.tmp 5), none⟩,
     ⟨(some 60), .bin .rem (.tmp 59) (.const (.int .i64 17)), none⟩,
     ⟨(some 61), .bin .add (.tmp 60) (.const (.int .i64 17)), none⟩,
     ⟨(some 62), .bin .rem (.tmp 61) (.const (.int .i64 17)), none⟩,
     ⟨(some 19), .mv (.tmp 62), none⟩])
  (.seq (.reg [⟨(some 63), .mv (.tmp 19), none⟩,
     ⟨(some 64), .bin .sub (.const (.int .i64 16)) (.tmp 63), none⟩,
     ⟨(some 20), .mv (.tmp 64), none⟩])
  (.seq (.reg [⟨(some 65), .mv (.tmp 20), none⟩,
     ⟨(some 66), .mv (.tmp 20), none⟩,
     ⟨(some 67), .bin .mul (.tmp 65) (.tmp 66), none⟩,
     ⟨(some 68), .mv (.tmp 20), none⟩,
     ⟨(some 69), .bin .mul (.tmp 67) (.tmp 68), none⟩,
     ⟨(some 70), .bin .mul (.tmp 69) (.const (.int .i64 0)), none⟩,
     ⟨(some 71), .mv (.tmp 19), none⟩,
     ⟨(some 72), .bin .mul (.const (.int .i64 3)) (.tmp 71), none⟩,
     ⟨(some 73), .mv (.tmp 20), none⟩,
     ⟨(some 74), .bin .mul (.tmp 72) (.tmp 73), none⟩,
     ⟨(some 75), .mv (.tmp 20), none⟩,
     ⟨(some 76), .bin .mul (.tmp 74) (.tmp 75), none⟩,
     ⟨(some 77), .ixa 2 2 (.tmp 18) (.const (.int .i64 0)), none⟩,
     ⟨(some 78), .pad 0 (.tmp 77), none⟩,
     ⟨(some 79), .ld none (.tmp 78), none⟩,
     ⟨(some 80), .pad 0 (.tmp 14), none⟩,
     ⟨(some 81), .ld none (.tmp 80), none⟩,
     ⟨(some 82), .bin .sub (.tmp 79) (.tmp 81), none⟩,
     ⟨(some 83), .bin .mul (.tmp 76) (.tmp 82), none⟩,
     ⟨(some 84), .bin .add (.tmp 70) (.tmp 83), none⟩,
     ⟨(some 85), .mv (.tmp 19), none⟩,
     ⟨(some 86), .bin .mul (.const (.int .i64 3)) (.tmp 85), none⟩,
     ⟨(some 87), .mv (.tmp 19), none⟩,
     ⟨(some 88), .bin .mul (.tmp 86) (.tmp 87), none⟩,
     ⟨(some 89), .mv (.tmp 20), none⟩,
     ⟨(some 90), .bin .mul (.tmp 88) (.tmp 89), none⟩,
     ⟨(some 91), .ixa 2 2 (.tmp 18) (.const (.int .i64 1)), none⟩,
     ⟨(some 92), .pad 0 (.tmp 91), none⟩,
     ⟨(some 93), .ld none (.tmp 92), none⟩,
     ⟨(some 94), .pad 0 (.tmp 14), none⟩,
     ⟨(some 95), .ld none (.tmp 94), none⟩,
     ⟨(some 96), .bin .sub (.tmp 93) (.tmp 95), none⟩,
     ⟨(some 97), .bin .mul (.tmp 90) (.tmp 96), none⟩,
     ⟨(some 98), .bin .add (.tmp 84) (.tmp 97), none⟩,
     ⟨(some 99), .mv (.tmp 19), none⟩,
     ⟨(some 100), .mv (.tmp 19), none⟩,
     ⟨(some 101), .bin .mul (.tmp 99) (.tmp 100), none⟩,
     ⟨(some 102), .mv (.tmp 19), none⟩,
     ⟨(some 103), .bin .mul (.tmp 101) (.tmp 102), none⟩,
     ⟨(some 104), .bin .mul (.tmp 103) (.const (.int .i64 1000000)), none⟩,
     ⟨(some 105), .bin .add (.tmp 98) (.tmp 104), none⟩,
     ⟨(some 21), .mv (.tmp 105), none⟩])
  (.seq (.reg [⟨(some 106), .mv (.tmp 19), none⟩,
     ⟨(some 107), .bin .mul (.const (.int .i64 3)) (.tmp 106), none⟩,
     ⟨(some 108), .mv (.tmp 20), none⟩,
     ⟨(some 109), .bin .mul (.tmp 107) (.tmp 108), none⟩,
     ⟨(some 110), .mv (.tmp 20), none⟩,
     ⟨(some 111), .bin .mul (.tmp 109) (.tmp 110), none⟩,
     ⟨(some 112), .ixa 2 2 (.tmp 18) (.const (.int .i64 0)), none⟩,
     ⟨(some 113), .pad 1 (.tmp 112), none⟩,
     ⟨(some 114), .ld none (.tmp 113), none⟩,
     ⟨(some 115), .pad 1 (.tmp 14), none⟩,
     ⟨(some 116), .ld none (.tmp 115), none⟩,
     ⟨(some 117), .bin .sub (.tmp 114) (.tmp 116), none⟩,
     ⟨(some 118), .bin .mul (.tmp 111) (.tmp 117), none⟩,
     ⟨(some 119), .mv (.tmp 19), none⟩,
     ⟨(some 120), .bin .mul (.const (.int .i64 3)) (.tmp 119), none⟩,
     ⟨(some 121), .mv (.tmp 19), none⟩,
     ⟨(some 122), .bin .mul (.tmp 120) (.tmp 121), none⟩,
     ⟨(some 123), .mv (.tmp 20), none⟩,
     ⟨(some 124), .bin .mul (.tmp 122) (.tmp 123), none⟩,
     ⟨(some 125), .ixa 2 2 (.tmp 18) (.const (.int .i64 1)), none⟩,
     ⟨(some 126), .pad 1 (.tmp 125), none⟩,
     ⟨(some 127), .ld none (.tmp 126), none⟩,
     ⟨(some 128), .pad 1 (.tmp 14), none⟩,
     ⟨(some 129), .ld none (.tmp 128), none⟩,
     ⟨(some 130), .bin .sub (.tmp 127) (.tmp 129), none⟩,
     ⟨(some 131), .bin .mul (.tmp 124) (.tmp 130), none⟩,
     ⟨(some 132), .bin .add (.tmp 118) (.tmp 131), none⟩,
     ⟨(some 133), .mv (.tmp 19), none⟩,
     ⟨(some 134), .mv (.tmp 19), none⟩,
     ⟨(some 135), .bin .mul (.tmp 133) (.tmp 134), none⟩,
     ⟨(some 136), .mv (.tmp 19), none⟩,
     ⟨(some 137), .bin .mul (.tmp 135) (.tmp 136), none⟩,
     ⟨(some 138), .bin .mul (.tmp 137) (.const (.int .i64 1000000)), none⟩,
     ⟨(some 139), .bin .add (.tmp 132) (.tmp 138), none⟩,
     ⟨(some 22), .mv (.tmp 139), none⟩])
  (.seq (.reg [⟨(some 23), .mv (.const (.int .i64 0)), none⟩])
  (.seq (.reg [⟨(some 24), .mv (.const (.int .i64 1000000)), none⟩])
  (.seq (.seq (.reg [⟨(some 140), .mv (.tmp 4), none⟩,
      ⟨(some 141), .un .not (.tmp 140), none⟩])
   (.cond (.tmp 141)
    (.seq (.reg [⟨(some 23), .mv (.const (.int .i64 1000000)), none⟩])
     (.reg [⟨(some 24), .mv (.const (.int .i64 0)), none⟩]))
    .skip))
  (.seq (.reg [⟨(some 142), .mv (.tmp 21), none⟩,
     ⟨(some 143), .bin .quo (.tmp 142) (.const (.int .i64 4096)), none⟩,
     ⟨(some 144), .mv (.tmp 23), none⟩,
     ⟨(some 145), .bin .sub (.tmp 143) (.tmp 144), none⟩,
     ⟨(some 25), .mv (.tmp 145), none⟩])
  (.seq (.reg [⟨(some 146), .mv (.tmp 22), none⟩,
     ⟨(some 147), .bin .quo (.tmp 146) (.const (.int .i64 4096)), none⟩,
     ⟨(some 148), .mv (.tmp 24), none⟩,
     ⟨(some 149), .bin .sub (.tmp 147) (.tmp 148), none⟩,
     ⟨(some 26), .mv (.tmp 149), none⟩])
  (.seq (.reg [⟨(some 150), .mv (.tmp 25), none⟩,
     ⟨(some 151), .mv (.tmp 25), none⟩,
     ⟨(some 152), .bin .mul (.tmp 150) (.tmp 151), none⟩,
     ⟨(some 153), .mv (.tmp 26), none⟩,
     ⟨(some 154), .mv (.tmp 26), none⟩,
     ⟨(some 155), .bin .mul (.tmp 153) (.tmp 154), none⟩,
     ⟨(some 156), .bin .add (.tmp 152) (.tmp 155), none⟩,
     ⟨(some 27), .mv (.tmp 156), none⟩])
  (.seq (.reg [⟨(some 157), .pad 0 (.tmp 14), none⟩,
     ⟨(some 158), .ld none (.tmp 157), none⟩,
     ⟨(some 159), .mv (.tmp 15), none⟩,
     ⟨(some 160), .bin .mul (.tmp 159) (.const (.int .i64 1000000)), none⟩,
     ⟨(some 161), .bin .add (.tmp 158) (.tmp 160), none⟩,
     ⟨(some 162), .pad 1 (.tmp 14), none⟩,
     ⟨(some 163), .ld none (.tmp 162), none⟩,
     ⟨(some 164), .mv (.tmp 16), none⟩,
     ⟨(some 165), .bin .mul (.tmp 164) (.const (.int .i64 1000000)), none⟩,
     ⟨(some 166), .bin .add (.tmp 163) (.tmp 165), none⟩,
     ⟨(some 167), .bld [(.int .i64 0), (.int .i64 0)] [(0, 1, (.tmp 161)), (1, 1, (.tmp 166))], none⟩,
     ⟨(some 28), .new [(.int .i64 0), (.int .i64 0)], none⟩,
     ⟨none, .st 2 (.tmp 28) (.tmp 167), none⟩])
  (.seq (.reg [⟨(some 168), .ld (some 2) (.tmp 14), none⟩,
     ⟨(some 169), .ld (some 2) (.tmp 28), none⟩,
     ⟨(some 170), .mv (.tmp 4), none⟩,
     ⟨(some 171), .call 17 [(.tmp 168), (.tmp 169), (.tmp 170)], none⟩,
     ⟨(some 29), .new [(.int .i64 0), (.int .i64 0), (.int .i64 0), (.int .i64 0)], none⟩,
     ⟨none, .st 4 (.tmp 29) (.tmp 171), none⟩])
  (.seq (.reg [⟨(some 172), .mv (.tmp 13), none⟩,
     ⟨(some 173), .mv (.tmp 172), none⟩,
     ⟨(some 174), .mv (.tmp 27), (some (173, true))⟩,
     ⟨(some 175), .bin .geq (.tmp 174) (.const (.int .i64 999400090000)), (some (173, true))⟩,
     ⟨(some 176), .pk (.tmp 173) (.tmp 175) (.const (.bool false)), none⟩,
     ⟨(some 177), .mv (.tmp 176), none⟩,
     ⟨(some 178), .mv (.tmp 27), (some (177, true))⟩,
     ⟨(some 179), .bin .leq (.tmp 178) (.const (.int .i64 1000600090000)), (some (177, true))⟩,
     ⟨(some 180), .pk (.tmp 177) (.tmp 179) (.const (.bool false)), none⟩,
     ⟨(some 181), .mv (.tmp 180), none⟩,
     ⟨(some 182), .mv (.tmp 4), (some (181, true))⟩,
     ⟨(some 183), .mv (.tmp 182), (some (181, true))⟩,
     ⟨(some 184), .ixa 2 2 (.tmp 18) (.const (.int .i64 0)), (some (183, true))⟩,
     ⟨(some 185), .pad 1 (.tmp 184), (some (183, true))⟩,
     ⟨(some 186), .ld none (.tmp 185), (some (183, true))⟩,
     ⟨(some 187), .pad 1 (.tmp 14), (some (183, true))⟩,
     ⟨(some 188), .ld none (.tmp 187), (some (183, true))⟩,
     ⟨(some 189), .bin .eql (.tmp 186) (.tmp 188), (some (183, true))⟩,
     ⟨(some 190), .pk (.tmp 183) (.tmp 189) (.const (.bool false)), (some (181, true))⟩,
     ⟨(some 191), .mv (.tmp 190), (some (181, true))⟩,
     ⟨(some 192), .ixa 2 2 (.tmp 18) (.const (.int .i64 1)), (some (191, true))⟩,
     ⟨(some 193), .pad 0 (.tmp 192), (some (191, true))⟩,
     ⟨(some 194), .ld none (.tmp 193), (some (191, true))⟩,
     ⟨(some 195), .pad 0 (.tmp 17), (some (191, true))⟩,
     ⟨(some 196), .ld none (.tmp 195), (some (191, true))⟩,
     ⟨(some 197), .bin .eql (.tmp 194) (.tmp 196), (some (191, true))⟩,
     ⟨(some 198), .pk (.tmp 191) (.tmp 197) (.const (.bool false)), (some (181, true))⟩,
     ⟨(some 199), .mv (.tmp 198), (some (181, true))⟩,
     ⟨(some 200), .mv (.tmp 4), (some (199, false))⟩,
     ⟨(some 201), .un .not (.tmp 200), (some (199, false))⟩,
     ⟨(some 202), .mv (.tmp 201), (some (199, false))⟩,
     ⟨(some 203), .ixa 2 2 (.tmp 18) (.const (.int .i64 0)), (some (202, true))⟩,
     ⟨(some 204), .pad 0 (.tmp 203), (some (202, true))⟩,
     ⟨(some 205), .ld none (.tmp 204), (some (202, true))⟩,
     ⟨(some 206), .pad 0 (.tmp 14), (some (202, true))⟩,
     ⟨(some 207), .ld none (.tmp 206), (some (202, true))⟩,
     ⟨(some 208), .bin .eql (.tmp 205) (.tmp 207), (some (202, true))⟩,
     ⟨(some 209), .pk (.tmp 202) (.tmp 208) (.const (.bool false)), (some (199, false))⟩,
     ⟨(some 210), .mv (.tmp 209), (some (199, false))⟩,
     ⟨(some 211), .ixa 2 2 (.tmp 18) (.const (.int .i64 1)), (some (210, true))⟩,
     ⟨(some 212), .pad 1 (.tmp 211), (some (210, true))⟩,
     ⟨(some 213), .ld none (.tmp 212), (some (210, true))⟩,
     ⟨(some 214), .pad 1 (.tmp 17), (some (210, true))⟩,
     ⟨(some 215), .ld none (.tmp 214), (some (210, true))⟩,
     ⟨(some 216), .bin .eql (.tmp 213) (.tmp 215), (some (210, true))⟩,
     ⟨(some 217), .pk (.tmp 210) (.tmp 216) (.const (.bool false)), (some (199, false))⟩,
     ⟨(some 218), .pk (.tmp 199) (.const (.bool true)) (.tmp 217), (some (181, true))⟩,
     ⟨(some 219), .pk (.tmp 181) (.tmp 218) (.const (.bool false)), none⟩,
     ⟨(some 220), .mv (.tmp 219), none⟩,
     ⟨(some 221), .ixa 2 2 (.tmp 29) (.const (.int .i64 0)), (some (220, true))⟩,
     ⟨(some 222), .pad 0 (.tmp 221), (some (220, true))⟩,
     ⟨(some 223), .ld none (.tmp 222), (some (220, true))⟩,
     ⟨(some 224), .pad 0 (.tmp 14), (some (220, true))⟩,
     ⟨(some 225), .ld none (.tmp 224), (some (220, true))⟩,
     ⟨(some 226), .bin .sub (.tmp 223) (.tmp 225), (some (220, true))⟩,
     ⟨(some 227), .mv (.tmp 15), (some (220, true))⟩,
     ⟨(some 228), .ixa 2 2 (.tmp 18) (.const (.int .i64 0)), (some (220, true))⟩,
     ⟨(some 229), .pad 0 (.tmp 228), (some (220, true))⟩,
     ⟨(some 230), .ld none (.tmp 229), (some (220, true))⟩,
     ⟨(some 231), .pad 0 (.tmp 14), (some (220, true))⟩,
     ⟨(some 232), .ld none (.tmp 231), (some (220, true))⟩,
     ⟨(some 233), .bin .sub (.tmp 230) (.tmp 232), (some (220, true))⟩,
     ⟨(some 234), .bin .mul (.tmp 227) (.tmp 233), (some (220, true))⟩,
     ⟨(some 235), .bin .eql (.tmp 226) (.tmp 234), (some (220, true))⟩,
     ⟨(some 236), .pk (.tmp 220) (.tmp 235) (.const (.bool false)), none⟩,
     ⟨(some 237), .mv (.tmp 236), none⟩,
     ⟨(some 238), .ixa 2 2 (.tmp 29) (.const (.int .i64 1)), (some (237, true))⟩,
     ⟨(some 239), .pad 1 (.tmp 238), (some (237, true))⟩,
     ⟨(some 240), .ld none (.tmp 239), (some (237, true))⟩,
     ⟨(some 241), .pad 1 (.tmp 14), (some (237, true))⟩,
     ⟨(some 242), .ld none (.tmp 241), (some (237, true))⟩,
     ⟨(some 243), .bin .sub (.tmp 240) (.tmp 242), (some (237, true))⟩,
     ⟨(some 244), .mv (.tmp 16), (some (237, true))⟩,
     ⟨(some 245), .ixa 2 2 (.tmp 18) (.const (.int .i64 1)), (some (237, true))⟩,
     ⟨(some 246), .pad 1 (.tmp 245), (some (237, true))⟩,
     ⟨(some 247), .ld none (.tmp 246), (some (237, true))⟩,
     ⟨(some 248), .pad 1 (.tmp 14), (some (237, true))⟩,
     ⟨(some 249), .ld none (.tmp 248), (some (237, true))⟩,
     ⟨(some 250), .bin .sub (.tmp 247) (.tmp 249), (some (237, true))⟩,
     ⟨(some 251), .bin .mul (.tmp 244) (.tmp 250), (some (237, true))⟩,
     ⟨(some 252), .bin .eql (.tmp 243) (.tmp 251), (some (237, true))⟩,
     ⟨(some 253), .pk (.tmp 237) (.tmp 252) (.const (.bool false)), none⟩,
     ⟨(some 12), .mv (.tmp 253), none⟩])
  .ret)))))))))))))))))))))
def glyphiclaw14_ArcRounds.f (t0 : Int) (o1 : Int) (A2 : Int) (r3 : Int) (r4 : Bool) (a5 : Int) : Option (Bool) := (glyphiclaw14_first.f).bind fun t39 => (if t39 = true then ((arc_Cubic.f (Int.tmod t0 1000000000) (Int.tmod o1 1000000000) (wr64 ((Int.tmod t0 1000000000) + 1000000)) (wr64 ((Int.tmod o1 1000000000) + 1000000)) r4).bind fun (t43, t44, t45, t46) => ((if r4 = true then (some (true, wr64 ((Int.tmod (wr64 ((Int.tmod A2 1000) + 1000)) 1000) + 1), wr64 ((Int.tmod (wr64 ((Int.tmod r3 1000) + 1000)) 1000) + 1), wr64 ((wr64 ((wr64 ((wr64 ((wr64 ((wr64 ((wr64 (16 - (Int.tmod (wr64 ((Int.tmod a5 17) + 17)) 17))) * (wr64 (16 - (Int.tmod (wr64 ((Int.tmod a5 17) + 17)) 17))))) * (wr64 (16 - (Int.tmod (wr64 ((Int.tmod a5 17) + 17)) 17))))) * 0)) + (wr64 ((wr64 ((wr64 ((wr64 (3 * (Int.tmod (wr64 ((Int.tmod a5 17) + 17)) 17))) * (wr64 (16 - (Int.tmod (wr64 ((Int.tmod a5 17) + 17)) 17))))) * (wr64 (16 - (Int.tmod (wr64 ((Int.tmod a5 17) + 17)) 17))))) * (wr64 (t43 - (Int.tmod t0 1000000000))))))) + (wr64 ((wr64 ((wr64 ((wr64 (3 * (Int.tmod (wr64 ((Int.tmod a5 17) + 17)) 17))) * (Int.tmod (wr64 ((Int.tmod a5 17) + 17)) 17))) * (wr64 (16 - (Int.tmod (wr64 ((Int.tmod a5 17) + 17)) 17))))) * (wr64 (t45 - (Int.tmod t0 1000000000))))))) + (wr64 ((wr64 ((wr64 ((Int.tmod (wr64 ((Int.tmod a5 17) + 17)) 17) * (Int.tmod (wr64 ((Int.tmod a5 17) + 17)) 17))) * (Int.tmod (wr64 ((Int.tmod a5 17) + 17)) 17))) * 1000000))), wr64 ((wr64 ((wr64 ((wr64 ((wr64 ((wr64 (3 * (Int.tmod (wr64 ((Int.tmod a5 17) + 17)) 17))) * (wr64 (16 - (Int.tmod (wr64 ((Int.tmod a5 17) + 17)) 17))))) * (wr64 (16 - (Int.tmod (wr64 ((Int.tmod a5 17) + 17)) 17))))) * (wr64 (t44 - (Int.tmod o1 1000000000))))) + (wr64 ((wr64 ((wr64 ((wr64 (3 * (Int.tmod (wr64 ((Int.tmod a5 17) + 17)) 17))) * (Int.tmod (wr64 ((Int.tmod a5 17) + 17)) 17))) * (wr64 (16 - (Int.tmod (wr64 ((Int.tmod a5 17) + 17)) 17))))) * (wr64 (t46 - (Int.tmod o1 1000000000))))))) + (wr64 ((wr64 ((wr64 ((Int.tmod (wr64 ((Int.tmod a5 17) + 17)) 17) * (Int.tmod (wr64 ((Int.tmod a5 17) + 17)) 17))) * (Int.tmod (wr64 ((Int.tmod a5 17) + 17)) 17))) * 1000000))), 0, 1000000, wr64 ((Int.tmod t0 1000000000) + 1000000), wr64 ((Int.tmod o1 1000000000) + 1000000), Int.tmod t0 1000000000, Int.tmod o1 1000000000)) else (some (true, wr64 ((Int.tmod (wr64 ((Int.tmod A2 1000) + 1000)) 1000) + 1), wr64 ((Int.tmod (wr64 ((Int.tmod r3 1000) + 1000)) 1000) + 1), wr64 ((wr64 ((wr64 ((wr64 ((wr64 ((wr64 ((wr64 (16 - (Int.tmod (wr64 ((Int.tmod a5 17) + 17)) 17))) * (wr64 (16 - (Int.tmod (wr64 ((Int.tmod a5 17) + 17)) 17))))) * (wr64 (16 - (Int.tmod (wr64 ((Int.tmod a5 17) + 17)) 17))))) * 0)) + (wr64 ((wr64 ((wr64 ((wr64 (3 * (Int.tmod (wr64 ((Int.tmod a5 17) + 17)) 17))) * (wr64 (16 - (Int.tmod (wr64 ((Int.tmod a5 17) + 17)) 17))))) * (wr64 (16 - (Int.tmod (wr64 ((Int.tmod a5 17) + 17)) 17))))) * (wr64 (t43 - (Int.tmod t0 1000000000))))))) + (wr64 ((wr64 ((wr64 ((wr64 (3 * (Int.tmod (wr64 ((Int.tmod a5 17) + 17)) 17))) * (Int.tmod (wr64 ((Int.tmod a5 17) + 17)) 17))) * (wr64 (16 - (Int.tmod (wr64 ((Int.tmod a5 17) + 17)) 17))))) * (wr64 (t45 - (Int.tmod t0 1000000000))))))) + (wr64 ((wr64 ((wr64 ((Int.tmod (wr64 ((Int.tmod a5 17) + 17)) 17) * (Int.tmod (wr64 ((Int.tmod a5 17) + 17)) 17))) * (Int.tmod (wr64 ((Int.tmod a5 17) + 17)) 17))) * 1000000))), wr64 ((wr64 ((wr64 ((wr64 ((wr64 ((wr64 (3 * (Int.tmod (wr64 ((Int.tmod a5 17) + 17)) 17))) * (wr64 (16 - (Int.tmod (wr64 ((Int.tmod a5 17) + 17)) 17))))) * (wr64 (16 - (Int.tmod (wr64 ((Int.tmod a5 17) + 17)) 17))))) * (wr64 (t44 - (Int.tmod o1 1000000000))))) + (wr64 ((wr64 ((wr64 ((wr64 (3 * (Int.tmod (wr64 ((Int.tmod a5 17) + 17)) 17))) * (Int.tmod (wr64 ((Int.tmod a5 17) + 17)) 17))) * (wr64 (16 - (Int.tmod (wr64 ((Int.tmod a5 17) + 17)) 17))))) * (wr64 (t46 - (Int.tmod o1 1000000000))))))) + (wr64 ((wr64 ((wr64 ((Int.tmod (wr64 ((Int.tmod a5 17) + 17)) 17) * (Int.tmod (wr64 ((Int.tmod a5 17) + 17)) 17))) * (Int.tmod (wr64 ((Int.tmod a5 17) + 17)) 17))) * 1000000))), 1000000, 0, wr64 ((Int.tmod t0 1000000000) + 1000000), wr64 ((Int.tmod o1 1000000000) + 1000000), Int.tmod t0 1000000000, Int.tmod o1 1000000000)) : Option (Bool × Int × Int × Int × Int × Int × Int × Int × Int × Int × Int)).bind fun (x53, x54, x55, x56, x57, x58, x59, x60, x61, x62, x63) => ((arc_Cubic.f x62 x63 (wr64 (x62 + (wr64 (x54 * 1000000)))) (wr64 (x63 + (wr64 (x55 * 1000000)))) r4).bind fun (t65, t66, t67, t68) => (if x53 = true then (if (wr64 ((wr64 ((wr64 ((wr64 (Int.tdiv x56 4096)) - x58)) * (wr64 ((wr64 (Int.tdiv x56 4096)) - x58)))) + (wr64 ((wr64 ((wr64 (Int.tdiv x57 4096)) - x59)) * (wr64 ((wr64 (Int.tdiv x57 4096)) - x59)))))) ≥ 999400090000 then (if (wr64 ((wr64 ((wr64 ((wr64 (Int.tdiv x56 4096)) - x58)) * (wr64 ((wr64 (Int.tdiv x56 4096)) - x58)))) + (wr64 ((wr64 ((wr64 (Int.tdiv x57 4096)) - x59)) * (wr64 ((wr64 (Int.tdiv x57 4096)) - x59)))))) ≤ 1000600090000 then (if r4 = true then (if t44 = x63 then (if t45 = x60 then (if (wr64 (t65 - x62)) = (wr64 (x54 * (wr64 (t43 - x62)))) then (some ((wr64 (t68 - x63)) == (wr64 (x55 * (wr64 (t46 - x63)))))) else (some false)) else (some false)) else (some false)) else (if t43 = x62 then (if t46 = x61 then (if (wr64 (t65 - x62)) = (wr64 (x54 * (wr64 (t43 - x62)))) then (some ((wr64 (t68 - x63)) == (wr64 (x55 * (wr64 (t46 - x63)))))) else (some false)) else (some false)) else (some false))) else (some false)) else (some false)) else (some false))))) else (some false))
theorem glyphiclaw14_ArcRounds.ok {S : Seal} {t0 : Int} {o1 : Int} {A2 : Int} {r3 : Int} {r4 : Bool} {a5 : Int}  (e : glyphiclaw14_ArcRounds.f t0 o1 A2 r3 r4 a5 = some true) :
    Cal Try.prog 3 [.int .i64 t0, .int .i64 o1, .int .i64 A2, .int .i64 r3, .bool r4, .int .i64 a5] [] S fun v H' S' => v = .bool true ∧ H' = [] ∧ S' = S := by
  unfold glyphiclaw14_ArcRounds.f at e
  refine cal_of (c := c3) (N := 254) Try.func3 rfl rfl (by kernel_rfl) (rs := [.t 12]) (by kernel_rfl) (Nat.le_of_ble_eq_true rfl) ?_
  unfold c3
  refine w_seq ?_
  refine w_reg fun all => ?_
  refine t_qz 1 [0, 1, 2, 3, 4, 5] (σ' := [(0, .int .i64 t0), (1, .int .i64 o1), (2, .int .i64 A2), (3, .int .i64 r3), (4, .bool r4), (5, .int .i64 a5)]) (by kernel_rfl) ?_
  refine t_end ?_
  show W _ _ _ _ _ _ _
  refine w_seq ?_
  refine w_reg fun all => ?_
  obtain ⟨t39, h40, e⟩ := bind_of e
  cases t39 with
  | true =>
    rw [if_pos rfl] at e
    refine t_v (.call (vs := []) rfl rfl (by kernel_rfl) (glyphiclaw14_first.ok h40)) ?_
    refine t_qz 1 [0, 1, 2, 3, 4, 5, 13] (σ' := [(0, .int .i64 t0), (1, .int .i64 o1), (2, .int .i64 A2), (3, .int .i64 r3), (4, .bool r4), (5, .int .i64 a5), (13, .bool true)]) (by kernel_rfl) ?_
    refine t_end ?_
    show W _ _ _ _ _ _ _
    refine w_seq ?_
    refine w_seq ?_
    refine w_reg fun all => ?_
    refine t_qz 2 [0, 1, 2, 3, 4, 5, 13, 32] (σ' := [(0, .int .i64 t0), (1, .int .i64 o1), (2, .int .i64 A2), (3, .int .i64 r3), (4, .bool r4), (5, .int .i64 a5), (13, .bool true), (32, .bool false)]) (by kernel_rfl) ?_
    refine t_end ?_
    show W _ _ _ _ _ _ _
    refine w_cond rfl (fun c_ => by cases c_) (fun _ => ?_)
    show W _ _ _ _ _ _ _
    refine w_skip ?_
    show W _ _ _ _ _ _ _
    refine w_seq ?_
    refine w_reg fun all => ?_
    refine t_qz 5 [2, 3, 4, 5, 13, 37] (σ' := [(2, .int .i64 A2), (3, .int .i64 r3), (4, .bool r4), (5, .int .i64 a5), (13, .bool true), (37, .agg #[.int .i64 (Int.tmod t0 1000000000), .int .i64 (Int.tmod o1 1000000000)])]) (by kernel_rfl) ?_
    refine t_a (.new rfl rfl) fun b41 fb41 sb41 => ?_
    refine t_sti 0 (cs := [.int .i64 (Int.tmod t0 1000000000), .int .i64 (Int.tmod o1 1000000000)]) rfl rfl rfl rfl rfl rfl rfl rfl rfl ?_
    refine t_keep [2, 3, 4, 5, 13, 14] (σ' := [(2, .int .i64 A2), (3, .int .i64 r3), (4, .bool r4), (5, .int .i64 a5), (13, .bool true), (14, .pointer (some ⟨b41, 0, none⟩))]) (by kernel_rfl) ?_
    refine t_end ?_
    show W _ _ _ _ _ _ _
    refine w_seq ?_
    refine w_reg fun all => ?_
    refine t_qz 6 [3, 4, 5, 13, 14, 15] (σ' := [(3, .int .i64 r3), (4, .bool r4), (5, .int .i64 a5), (13, .bool true), (14, .pointer (some ⟨b41, 0, none⟩)), (15, .int .i64 (wr64 ((Int.tmod (wr64 ((Int.tmod A2 1000) + 1000)) 1000) + 1)))]) (by kernel_rfl) ?_
    refine t_end ?_
    show W _ _ _ _ _ _ _
    refine w_seq ?_
    refine w_reg fun all => ?_
    refine t_qz 6 [4, 5, 13, 14, 15, 16] (σ' := [(4, .bool r4), (5, .int .i64 a5), (13, .bool true), (14, .pointer (some ⟨b41, 0, none⟩)), (15, .int .i64 (wr64 ((Int.tmod (wr64 ((Int.tmod A2 1000) + 1000)) 1000) + 1))), (16, .int .i64 (wr64 ((Int.tmod (wr64 ((Int.tmod r3 1000) + 1000)) 1000) + 1)))]) (by kernel_rfl) ?_
    refine t_end ?_
    show W _ _ _ _ _ _ _
    refine w_seq ?_
    refine w_reg fun all => ?_
    refine t_qz 1 [4, 5, 13, 14, 15, 16, 48] (σ' := [(4, .bool r4), (5, .int .i64 a5), (13, .bool true), (14, .pointer (some ⟨b41, 0, none⟩)), (15, .int .i64 (wr64 ((Int.tmod (wr64 ((Int.tmod A2 1000) + 1000)) 1000) + 1))), (16, .int .i64 (wr64 ((Int.tmod (wr64 ((Int.tmod r3 1000) + 1000)) 1000) + 1))), (48, .pointer (some ⟨b41, 0, none⟩))]) (by kernel_rfl) ?_
    refine t_v (.ld1 rfl rfl rfl (.at 0 rfl rfl)) ?_
    refine t_qz 2 [4, 5, 13, 14, 15, 16, 50, 51] (σ' := [(4, .bool r4), (5, .int .i64 a5), (13, .bool true), (14, .pointer (some ⟨b41, 0, none⟩)), (15, .int .i64 (wr64 ((Int.tmod (wr64 ((Int.tmod A2 1000) + 1000)) 1000) + 1))), (16, .int .i64 (wr64 ((Int.tmod (wr64 ((Int.tmod r3 1000) + 1000)) 1000) + 1))), (50, .int .i64 (wr64 ((Int.tmod t0 1000000000) + 1000000))), (51, .pointer (some ⟨b41, 1, none⟩))]) (by kernel_rfl) ?_
    refine t_v (.ld1 rfl rfl rfl (.at 0 rfl rfl)) ?_
    refine t_qz 2 [4, 5, 13, 14, 15, 16, 54] (σ' := [(4, .bool r4), (5, .int .i64 a5), (13, .bool true), (14, .pointer (some ⟨b41, 0, none⟩)), (15, .int .i64 (wr64 ((Int.tmod (wr64 ((Int.tmod A2 1000) + 1000)) 1000) + 1))), (16, .int .i64 (wr64 ((Int.tmod (wr64 ((Int.tmod r3 1000) + 1000)) 1000) + 1))), (54, .agg #[.int .i64 (wr64 ((Int.tmod t0 1000000000) + 1000000)), .int .i64 (wr64 ((Int.tmod o1 1000000000) + 1000000))])]) (by kernel_rfl) ?_
    refine t_a (.new rfl rfl) fun b42 fb42 sb42 => ?_
    refine t_sti 0 (cs := [.int .i64 (wr64 ((Int.tmod t0 1000000000) + 1000000)), .int .i64 (wr64 ((Int.tmod o1 1000000000) + 1000000))]) rfl rfl rfl rfl rfl rfl rfl rfl rfl ?_
    refine t_keep [4, 5, 13, 14, 15, 16, 17] (σ' := [(4, .bool r4), (5, .int .i64 a5), (13, .bool true), (14, .pointer (some ⟨b41, 0, none⟩)), (15, .int .i64 (wr64 ((Int.tmod (wr64 ((Int.tmod A2 1000) + 1000)) 1000) + 1))), (16, .int .i64 (wr64 ((Int.tmod (wr64 ((Int.tmod r3 1000) + 1000)) 1000) + 1))), (17, .pointer (some ⟨b42, 0, none⟩))]) (by kernel_rfl) ?_
    refine t_end ?_
    show W _ _ _ _ _ _ _
    refine w_seq ?_
    refine w_reg fun all => ?_
    refine t_v (.ldn rfl rfl rfl (.at 1 rfl rfl)) ?_
    refine t_v (.ldn rfl rfl rfl (.at 0 rfl rfl)) ?_
    obtain ⟨⟨t43, t44, t45, t46⟩, h47, e⟩ := bind_of e
    try dsimp only at e
    refine t_qz 1 [4, 5, 13, 14, 15, 16, 17, 55, 56, 57] (σ' := [(4, .bool r4), (5, .int .i64 a5), (13, .bool true), (14, .pointer (some ⟨b41, 0, none⟩)), (15, .int .i64 (wr64 ((Int.tmod (wr64 ((Int.tmod A2 1000) + 1000)) 1000) + 1))), (16, .int .i64 (wr64 ((Int.tmod (wr64 ((Int.tmod r3 1000) + 1000)) 1000) + 1))), (17, .pointer (some ⟨b42, 0, none⟩)), (55, .agg #[.int .i64 (Int.tmod t0 1000000000), .int .i64 (Int.tmod o1 1000000000)]), (56, .agg #[.int .i64 (wr64 ((Int.tmod t0 1000000000) + 1000000)), .int .i64 (wr64 ((Int.tmod o1 1000000000) + 1000000))]), (57, .bool r4)]) (by kernel_rfl) ?_
    refine t_v (.call (vs := [.agg #[.int .i64 (Int.tmod t0 1000000000), .int .i64 (Int.tmod o1 1000000000)], .agg #[.int .i64 (wr64 ((Int.tmod t0 1000000000) + 1000000)), .int .i64 (wr64 ((Int.tmod o1 1000000000) + 1000000))], .bool r4]) rfl rfl (by kernel_rfl) (arc_Cubic.ok h47)) ?_
    refine t_a (.new rfl rfl) fun b48 fb48 sb48 => ?_
    refine t_sti 0 (cs := [.int .i64 t43, .int .i64 t44, .int .i64 t45, .int .i64 t46]) rfl rfl rfl rfl rfl rfl rfl rfl rfl ?_
    refine t_keep [4, 5, 13, 14, 15, 16, 17, 18] (σ' := [(4, .bool r4), (5, .int .i64 a5), (13, .bool true), (14, .pointer (some ⟨b41, 0, none⟩)), (15, .int .i64 (wr64 ((Int.tmod (wr64 ((Int.tmod A2 1000) + 1000)) 1000) + 1))), (16, .int .i64 (wr64 ((Int.tmod (wr64 ((Int.tmod r3 1000) + 1000)) 1000) + 1))), (17, .pointer (some ⟨b42, 0, none⟩)), (18, .pointer (some ⟨b48, 0, none⟩))]) (by kernel_rfl) ?_
    refine t_end ?_
    show W _ _ _ _ _ _ _
    refine w_seq ?_
    refine w_reg fun all => ?_
    refine t_qz 5 [4, 13, 14, 15, 16, 17, 18, 19] (σ' := [(4, .bool r4), (13, .bool true), (14, .pointer (some ⟨b41, 0, none⟩)), (15, .int .i64 (wr64 ((Int.tmod (wr64 ((Int.tmod A2 1000) + 1000)) 1000) + 1))), (16, .int .i64 (wr64 ((Int.tmod (wr64 ((Int.tmod r3 1000) + 1000)) 1000) + 1))), (17, .pointer (some ⟨b42, 0, none⟩)), (18, .pointer (some ⟨b48, 0, none⟩)), (19, .int .i64 (Int.tmod (wr64 ((Int.tmod a5 17) + 17)) 17))]) (by kernel_rfl) ?_
    refine t_end ?_
    show W _ _ _ _ _ _ _
    refine w_seq ?_
    refine w_reg fun all => ?_
    refine t_qz 3 [4, 13, 14, 15, 16, 17, 18, 19, 20] (σ' := [(4, .bool r4), (13, .bool true), (14, .pointer (some ⟨b41, 0, none⟩)), (15, .int .i64 (wr64 ((Int.tmod (wr64 ((Int.tmod A2 1000) + 1000)) 1000) + 1))), (16, .int .i64 (wr64 ((Int.tmod (wr64 ((Int.tmod r3 1000) + 1000)) 1000) + 1))), (17, .pointer (some ⟨b42, 0, none⟩)), (18, .pointer (some ⟨b48, 0, none⟩)), (19, .int .i64 (Int.tmod (wr64 ((Int.tmod a5 17) + 17)) 17)), (20, .int .i64 (wr64 (16 - (Int.tmod (wr64 ((Int.tmod a5 17) + 17)) 17))))]) (by kernel_rfl) ?_
    refine t_end ?_
    show W _ _ _ _ _ _ _
    refine w_seq ?_
    refine w_reg fun all => ?_
    refine t_qz 14 [4, 13, 14, 15, 16, 17, 18, 19, 20, 70, 76, 78] (σ' := [(4, .bool r4), (13, .bool true), (14, .pointer (some ⟨b41, 0, none⟩)), (15, .int .i64 (wr64 ((Int.tmod (wr64 ((Int.tmod A2 1000) + 1000)) 1000) + 1))), (16, .int .i64 (wr64 ((Int.tmod (wr64 ((Int.tmod r3 1000) + 1000)) 1000) + 1))), (17, .pointer (some ⟨b42, 0, none⟩)), (18, .pointer (some ⟨b48, 0, none⟩)), (19, .int .i64 (Int.tmod (wr64 ((Int.tmod a5 17) + 17)) 17)), (20, .int .i64 (wr64 (16 - (Int.tmod (wr64 ((Int.tmod a5 17) + 17)) 17)))), (70, .int .i64 (wr64 ((wr64 ((wr64 ((wr64 (16 - (Int.tmod (wr64 ((Int.tmod a5 17) + 17)) 17))) * (wr64 (16 - (Int.tmod (wr64 ((Int.tmod a5 17) + 17)) 17))))) * (wr64 (16 - (Int.tmod (wr64 ((Int.tmod a5 17) + 17)) 17))))) * 0))), (76, .int .i64 (wr64 ((wr64 ((wr64 (3 * (Int.tmod (wr64 ((Int.tmod a5 17) + 17)) 17))) * (wr64 (16 - (Int.tmod (wr64 ((Int.tmod a5 17) + 17)) 17))))) * (wr64 (16 - (Int.tmod (wr64 ((Int.tmod a5 17) + 17)) 17)))))), (78, .pointer (some ⟨b48, 0, none⟩))]) (by kernel_rfl) ?_
    refine t_v (.ld1 rfl rfl rfl (.at 0 rfl rfl)) ?_
    refine t_qz 1 [4, 13, 14, 15, 16, 17, 18, 19, 20, 70, 76, 79, 80] (σ' := [(4, .bool r4), (13, .bool true), (14, .pointer (some ⟨b41, 0, none⟩)), (15, .int .i64 (wr64 ((Int.tmod (wr64 ((Int.tmod A2 1000) + 1000)) 1000) + 1))), (16, .int .i64 (wr64 ((Int.tmod (wr64 ((Int.tmod r3 1000) + 1000)) 1000) + 1))), (17, .pointer (some ⟨b42, 0, none⟩)), (18, .pointer (some ⟨b48, 0, none⟩)), (19, .int .i64 (Int.tmod (wr64 ((Int.tmod a5 17) + 17)) 17)), (20, .int .i64 (wr64 (16 - (Int.tmod (wr64 ((Int.tmod a5 17) + 17)) 17)))), (70, .int .i64 (wr64 ((wr64 ((wr64 ((wr64 (16 - (Int.tmod (wr64 ((Int.tmod a5 17) + 17)) 17))) * (wr64 (16 - (Int.tmod (wr64 ((Int.tmod a5 17) + 17)) 17))))) * (wr64 (16 - (Int.tmod (wr64 ((Int.tmod a5 17) + 17)) 17))))) * 0))), (76, .int .i64 (wr64 ((wr64 ((wr64 (3 * (Int.tmod (wr64 ((Int.tmod a5 17) + 17)) 17))) * (wr64 (16 - (Int.tmod (wr64 ((Int.tmod a5 17) + 17)) 17))))) * (wr64 (16 - (Int.tmod (wr64 ((Int.tmod a5 17) + 17)) 17)))))), (79, .int .i64 t43), (80, .pointer (some ⟨b41, 0, none⟩))]) (by kernel_rfl) ?_
    refine t_v (.ld1 rfl rfl rfl (.at 2 rfl rfl)) ?_
    refine t_qz 11 [4, 13, 14, 15, 16, 17, 18, 19, 20, 84, 90, 92] (σ' := [(4, .bool r4), (13, .bool true), (14, .pointer (some ⟨b41, 0, none⟩)), (15, .int .i64 (wr64 ((Int.tmod (wr64 ((Int.tmod A2 1000) + 1000)) 1000) + 1))), (16, .int .i64 (wr64 ((Int.tmod (wr64 ((Int.tmod r3 1000) + 1000)) 1000) + 1))), (17, .pointer (some ⟨b42, 0, none⟩)), (18, .pointer (some ⟨b48, 0, none⟩)), (19, .int .i64 (Int.tmod (wr64 ((Int.tmod a5 17) + 17)) 17)), (20, .int .i64 (wr64 (16 - (Int.tmod (wr64 ((Int.tmod a5 17) + 17)) 17)))), (84, .int .i64 (wr64 ((wr64 ((wr64 ((wr64 ((wr64 (16 - (Int.tmod (wr64 ((Int.tmod a5 17) + 17)) 17))) * (wr64 (16 - (Int.tmod (wr64 ((Int.tmod a5 17) + 17)) 17))))) * (wr64 (16 - (Int.tmod (wr64 ((Int.tmod a5 17) + 17)) 17))))) * 0)) + (wr64 ((wr64 ((wr64 ((wr64 (3 * (Int.tmod (wr64 ((Int.tmod a5 17) + 17)) 17))) * (wr64 (16 - (Int.tmod (wr64 ((Int.tmod a5 17) + 17)) 17))))) * (wr64 (16 - (Int.tmod (wr64 ((Int.tmod a5 17) + 17)) 17))))) * (wr64 (t43 - (Int.tmod t0 1000000000)))))))), (90, .int .i64 (wr64 ((wr64 ((wr64 (3 * (Int.tmod (wr64 ((Int.tmod a5 17) + 17)) 17))) * (Int.tmod (wr64 ((Int.tmod a5 17) + 17)) 17))) * (wr64 (16 - (Int.tmod (wr64 ((Int.tmod a5 17) + 17)) 17)))))), (92, .pointer (some ⟨b48, 2, none⟩))]) (by kernel_rfl) ?_
    refine t_v (.ld1 rfl rfl rfl (.at 0 rfl rfl)) ?_
    refine t_qz 1 [4, 13, 14, 15, 16, 17, 18, 19, 20, 84, 90, 93, 94] (σ' := [(4, .bool r4), (13, .bool true), (14, .pointer (some ⟨b41, 0, none⟩)), (15, .int .i64 (wr64 ((Int.tmod (wr64 ((Int.tmod A2 1000) + 1000)) 1000) + 1))), (16, .int .i64 (wr64 ((Int.tmod (wr64 ((Int.tmod r3 1000) + 1000)) 1000) + 1))), (17, .pointer (some ⟨b42, 0, none⟩)), (18, .pointer (some ⟨b48, 0, none⟩)), (19, .int .i64 (Int.tmod (wr64 ((Int.tmod a5 17) + 17)) 17)), (20, .int .i64 (wr64 (16 - (Int.tmod (wr64 ((Int.tmod a5 17) + 17)) 17)))), (84, .int .i64 (wr64 ((wr64 ((wr64 ((wr64 ((wr64 (16 - (Int.tmod (wr64 ((Int.tmod a5 17) + 17)) 17))) * (wr64 (16 - (Int.tmod (wr64 ((Int.tmod a5 17) + 17)) 17))))) * (wr64 (16 - (Int.tmod (wr64 ((Int.tmod a5 17) + 17)) 17))))) * 0)) + (wr64 ((wr64 ((wr64 ((wr64 (3 * (Int.tmod (wr64 ((Int.tmod a5 17) + 17)) 17))) * (wr64 (16 - (Int.tmod (wr64 ((Int.tmod a5 17) + 17)) 17))))) * (wr64 (16 - (Int.tmod (wr64 ((Int.tmod a5 17) + 17)) 17))))) * (wr64 (t43 - (Int.tmod t0 1000000000)))))))), (90, .int .i64 (wr64 ((wr64 ((wr64 (3 * (Int.tmod (wr64 ((Int.tmod a5 17) + 17)) 17))) * (Int.tmod (wr64 ((Int.tmod a5 17) + 17)) 17))) * (wr64 (16 - (Int.tmod (wr64 ((Int.tmod a5 17) + 17)) 17)))))), (93, .int .i64 t45), (94, .pointer (some ⟨b41, 0, none⟩))]) (by kernel_rfl) ?_
    refine t_v (.ld1 rfl rfl rfl (.at 2 rfl rfl)) ?_
    refine t_qz 11 [4, 13, 14, 15, 16, 17, 18, 19, 20, 21] (σ' := [(4, .bool r4), (13, .bool true), (14, .pointer (some ⟨b41, 0, none⟩)), (15, .int .i64 (wr64 ((Int.tmod (wr64 ((Int.tmod A2 1000) + 1000)) 1000) + 1))), (16, .int .i64 (wr64 ((Int.tmod (wr64 ((Int.tmod r3 1000) + 1000)) 1000) + 1))), (17, .pointer (some ⟨b42, 0, none⟩)), (18, .pointer (some ⟨b48, 0, none⟩)), (19, .int .i64 (Int.tmod (wr64 ((Int.tmod a5 17) + 17)) 17)), (20, .int .i64 (wr64 (16 - (Int.tmod (wr64 ((Int.tmod a5 17) + 17)) 17)))), (21, .int .i64 (wr64 ((wr64 ((wr64 ((wr64 ((wr64 ((wr64 ((wr64 (16 - (Int.tmod (wr64 ((Int.tmod a5 17) + 17)) 17))) * (wr64 (16 - (Int.tmod (wr64 ((Int.tmod a5 17) + 17)) 17))))) * (wr64 (16 - (Int.tmod (wr64 ((Int.tmod a5 17) + 17)) 17))))) * 0)) + (wr64 ((wr64 ((wr64 ((wr64 (3 * (Int.tmod (wr64 ((Int.tmod a5 17) + 17)) 17))) * (wr64 (16 - (Int.tmod (wr64 ((Int.tmod a5 17) + 17)) 17))))) * (wr64 (16 - (Int.tmod (wr64 ((Int.tmod a5 17) + 17)) 17))))) * (wr64 (t43 - (Int.tmod t0 1000000000))))))) + (wr64 ((wr64 ((wr64 ((wr64 (3 * (Int.tmod (wr64 ((Int.tmod a5 17) + 17)) 17))) * (Int.tmod (wr64 ((Int.tmod a5 17) + 17)) 17))) * (wr64 (16 - (Int.tmod (wr64 ((Int.tmod a5 17) + 17)) 17))))) * (wr64 (t45 - (Int.tmod t0 1000000000))))))) + (wr64 ((wr64 ((wr64 ((Int.tmod (wr64 ((Int.tmod a5 17) + 17)) 17) * (Int.tmod (wr64 ((Int.tmod a5 17) + 17)) 17))) * (Int.tmod (wr64 ((Int.tmod a5 17) + 17)) 17))) * 1000000)))))]) (by kernel_rfl) ?_
    refine t_end ?_
    show W _ _ _ _ _ _ _
    refine w_seq ?_
    refine w_reg fun all => ?_
    refine t_qz 8 [4, 13, 14, 15, 16, 17, 18, 19, 20, 21, 111, 113] (σ' := [(4, .bool r4), (13, .bool true), (14, .pointer (some ⟨b41, 0, none⟩)), (15, .int .i64 (wr64 ((Int.tmod (wr64 ((Int.tmod A2 1000) + 1000)) 1000) + 1))), (16, .int .i64 (wr64 ((Int.tmod (wr64 ((Int.tmod r3 1000) + 1000)) 1000) + 1))), (17, .pointer (some ⟨b42, 0, none⟩)), (18, .pointer (some ⟨b48, 0, none⟩)), (19, .int .i64 (Int.tmod (wr64 ((Int.tmod a5 17) + 17)) 17)), (20, .int .i64 (wr64 (16 - (Int.tmod (wr64 ((Int.tmod a5 17) + 17)) 17)))), (21, .int .i64 (wr64 ((wr64 ((wr64 ((wr64 ((wr64 ((wr64 ((wr64 (16 - (Int.tmod (wr64 ((Int.tmod a5 17) + 17)) 17))) * (wr64 (16 - (Int.tmod (wr64 ((Int.tmod a5 17) + 17)) 17))))) * (wr64 (16 - (Int.tmod (wr64 ((Int.tmod a5 17) + 17)) 17))))) * 0)) + (wr64 ((wr64 ((wr64 ((wr64 (3 * (Int.tmod (wr64 ((Int.tmod a5 17) + 17)) 17))) * (wr64 (16 - (Int.tmod (wr64 ((Int.tmod a5 17) + 17)) 17))))) * (wr64 (16 - (Int.tmod (wr64 ((Int.tmod a5 17) + 17)) 17))))) * (wr64 (t43 - (Int.tmod t0 1000000000))))))) + (wr64 ((wr64 ((wr64 ((wr64 (3 * (Int.tmod (wr64 ((Int.tmod a5 17) + 17)) 17))) * (Int.tmod (wr64 ((Int.tmod a5 17) + 17)) 17))) * (wr64 (16 - (Int.tmod (wr64 ((Int.tmod a5 17) + 17)) 17))))) * (wr64 (t45 - (Int.tmod t0 1000000000))))))) + (wr64 ((wr64 ((wr64 ((Int.tmod (wr64 ((Int.tmod a5 17) + 17)) 17) * (Int.tmod (wr64 ((Int.tmod a5 17) + 17)) 17))) * (Int.tmod (wr64 ((Int.tmod a5 17) + 17)) 17))) * 1000000))))), (111, .int .i64 (wr64 ((wr64 ((wr64 (3 * (Int.tmod (wr64 ((Int.tmod a5 17) + 17)) 17))) * (wr64 (16 - (Int.tmod (wr64 ((Int.tmod a5 17) + 17)) 17))))) * (wr64 (16 - (Int.tmod (wr64 ((Int.tmod a5 17) + 17)) 17)))))), (113, .pointer (some ⟨b48, 1, none⟩))]) (by kernel_rfl) ?_
    refine t_v (.ld1 rfl rfl rfl (.at 0 rfl rfl)) ?_
    refine t_qz 1 [4, 13, 14, 15, 16, 17, 18, 19, 20, 21, 111, 114, 115] (σ' := [(4, .bool r4), (13, .bool true), (14, .pointer (some ⟨b41, 0, none⟩)), (15, .int .i64 (wr64 ((Int.tmod (wr64 ((Int.tmod A2 1000) + 1000)) 1000) + 1))), (16, .int .i64 (wr64 ((Int.tmod (wr64 ((Int.tmod r3 1000) + 1000)) 1000) + 1))), (17, .pointer (some ⟨b42, 0, none⟩)), (18, .pointer (some ⟨b48, 0, none⟩)), (19, .int .i64 (Int.tmod (wr64 ((Int.tmod a5 17) + 17)) 17)), (20, .int .i64 (wr64 (16 - (Int.tmod (wr64 ((Int.tmod a5 17) + 17)) 17)))), (21, .int .i64 (wr64 ((wr64 ((wr64 ((wr64 ((wr64 ((wr64 ((wr64 (16 - (Int.tmod (wr64 ((Int.tmod a5 17) + 17)) 17))) * (wr64 (16 - (Int.tmod (wr64 ((Int.tmod a5 17) + 17)) 17))))) * (wr64 (16 - (Int.tmod (wr64 ((Int.tmod a5 17) + 17)) 17))))) * 0)) + (wr64 ((wr64 ((wr64 ((wr64 (3 * (Int.tmod (wr64 ((Int.tmod a5 17) + 17)) 17))) * (wr64 (16 - (Int.tmod (wr64 ((Int.tmod a5 17) + 17)) 17))))) * (wr64 (16 - (Int.tmod (wr64 ((Int.tmod a5 17) + 17)) 17))))) * (wr64 (t43 - (Int.tmod t0 1000000000))))))) + (wr64 ((wr64 ((wr64 ((wr64 (3 * (Int.tmod (wr64 ((Int.tmod a5 17) + 17)) 17))) * (Int.tmod (wr64 ((Int.tmod a5 17) + 17)) 17))) * (wr64 (16 - (Int.tmod (wr64 ((Int.tmod a5 17) + 17)) 17))))) * (wr64 (t45 - (Int.tmod t0 1000000000))))))) + (wr64 ((wr64 ((wr64 ((Int.tmod (wr64 ((Int.tmod a5 17) + 17)) 17) * (Int.tmod (wr64 ((Int.tmod a5 17) + 17)) 17))) * (Int.tmod (wr64 ((Int.tmod a5 17) + 17)) 17))) * 1000000))))), (111, .int .i64 (wr64 ((wr64 ((wr64 (3 * (Int.tmod (wr64 ((Int.tmod a5 17) + 17)) 17))) * (wr64 (16 - (Int.tmod (wr64 ((Int.tmod a5 17) + 17)) 17))))) * (wr64 (16 - (Int.tmod (wr64 ((Int.tmod a5 17) + 17)) 17)))))), (114, .int .i64 t44), (115, .pointer (some ⟨b41, 1, none⟩))]) (by kernel_rfl) ?_
    refine t_v (.ld1 rfl rfl rfl (.at 2 rfl rfl)) ?_
    refine t_qz 10 [4, 13, 14, 15, 16, 17, 18, 19, 21, 118, 124, 126] (σ' := [(4, .bool r4), (13, .bool true), (14, .pointer (some ⟨b41, 0, none⟩)), (15, .int .i64 (wr64 ((Int.tmod (wr64 ((Int.tmod A2 1000) + 1000)) 1000) + 1))), (16, .int .i64 (wr64 ((Int.tmod (wr64 ((Int.tmod r3 1000) + 1000)) 1000) + 1))), (17, .pointer (some ⟨b42, 0, none⟩)), (18, .pointer (some ⟨b48, 0, none⟩)), (19, .int .i64 (Int.tmod (wr64 ((Int.tmod a5 17) + 17)) 17)), (21, .int .i64 (wr64 ((wr64 ((wr64 ((wr64 ((wr64 ((wr64 ((wr64 (16 - (Int.tmod (wr64 ((Int.tmod a5 17) + 17)) 17))) * (wr64 (16 - (Int.tmod (wr64 ((Int.tmod a5 17) + 17)) 17))))) * (wr64 (16 - (Int.tmod (wr64 ((Int.tmod a5 17) + 17)) 17))))) * 0)) + (wr64 ((wr64 ((wr64 ((wr64 (3 * (Int.tmod (wr64 ((Int.tmod a5 17) + 17)) 17))) * (wr64 (16 - (Int.tmod (wr64 ((Int.tmod a5 17) + 17)) 17))))) * (wr64 (16 - (Int.tmod (wr64 ((Int.tmod a5 17) + 17)) 17))))) * (wr64 (t43 - (Int.tmod t0 1000000000))))))) + (wr64 ((wr64 ((wr64 ((wr64 (3 * (Int.tmod (wr64 ((Int.tmod a5 17) + 17)) 17))) * (Int.tmod (wr64 ((Int.tmod a5 17) + 17)) 17))) * (wr64 (16 - (Int.tmod (wr64 ((Int.tmod a5 17) + 17)) 17))))) * (wr64 (t45 - (Int.tmod t0 1000000000))))))) + (wr64 ((wr64 ((wr64 ((Int.tmod (wr64 ((Int.tmod a5 17) + 17)) 17) * (Int.tmod (wr64 ((Int.tmod a5 17) + 17)) 17))) * (Int.tmod (wr64 ((Int.tmod a5 17) + 17)) 17))) * 1000000))))), (118, .int .i64 (wr64 ((wr64 ((wr64 ((wr64 (3 * (Int.tmod (wr64 ((Int.tmod a5 17) + 17)) 17))) * (wr64 (16 - (Int.tmod (wr64 ((Int.tmod a5 17) + 17)) 17))))) * (wr64 (16 - (Int.tmod (wr64 ((Int.tmod a5 17) + 17)) 17))))) * (wr64 (t44 - (Int.tmod o1 1000000000)))))), (124, .int .i64 (wr64 ((wr64 ((wr64 (3 * (Int.tmod (wr64 ((Int.tmod a5 17) + 17)) 17))) * (Int.tmod (wr64 ((Int.tmod a5 17) + 17)) 17))) * (wr64 (16 - (Int.tmod (wr64 ((Int.tmod a5 17) + 17)) 17)))))), (126, .pointer (some ⟨b48, 3, none⟩))]) (by kernel_rfl) ?_
    refine t_v (.ld1 rfl rfl rfl (.at 0 rfl rfl)) ?_
    refine t_qz 1 [4, 13, 14, 15, 16, 17, 18, 19, 21, 118, 124, 127, 128] (σ' := [(4, .bool r4), (13, .bool true), (14, .pointer (some ⟨b41, 0, none⟩)), (15, .int .i64 (wr64 ((Int.tmod (wr64 ((Int.tmod A2 1000) + 1000)) 1000) + 1))), (16, .int .i64 (wr64 ((Int.tmod (wr64 ((Int.tmod r3 1000) + 1000)) 1000) + 1))), (17, .pointer (some ⟨b42, 0, none⟩)), (18, .pointer (some ⟨b48, 0, none⟩)), (19, .int .i64 (Int.tmod (wr64 ((Int.tmod a5 17) + 17)) 17)), (21, .int .i64 (wr64 ((wr64 ((wr64 ((wr64 ((wr64 ((wr64 ((wr64 (16 - (Int.tmod (wr64 ((Int.tmod a5 17) + 17)) 17))) * (wr64 (16 - (Int.tmod (wr64 ((Int.tmod a5 17) + 17)) 17))))) * (wr64 (16 - (Int.tmod (wr64 ((Int.tmod a5 17) + 17)) 17))))) * 0)) + (wr64 ((wr64 ((wr64 ((wr64 (3 * (Int.tmod (wr64 ((Int.tmod a5 17) + 17)) 17))) * (wr64 (16 - (Int.tmod (wr64 ((Int.tmod a5 17) + 17)) 17))))) * (wr64 (16 - (Int.tmod (wr64 ((Int.tmod a5 17) + 17)) 17))))) * (wr64 (t43 - (Int.tmod t0 1000000000))))))) + (wr64 ((wr64 ((wr64 ((wr64 (3 * (Int.tmod (wr64 ((Int.tmod a5 17) + 17)) 17))) * (Int.tmod (wr64 ((Int.tmod a5 17) + 17)) 17))) * (wr64 (16 - (Int.tmod (wr64 ((Int.tmod a5 17) + 17)) 17))))) * (wr64 (t45 - (Int.tmod t0 1000000000))))))) + (wr64 ((wr64 ((wr64 ((Int.tmod (wr64 ((Int.tmod a5 17) + 17)) 17) * (Int.tmod (wr64 ((Int.tmod a5 17) + 17)) 17))) * (Int.tmod (wr64 ((Int.tmod a5 17) + 17)) 17))) * 1000000))))), (118, .int .i64 (wr64 ((wr64 ((wr64 ((wr64 (3 * (Int.tmod (wr64 ((Int.tmod a5 17) + 17)) 17))) * (wr64 (16 - (Int.tmod (wr64 ((Int.tmod a5 17) + 17)) 17))))) * (wr64 (16 - (Int.tmod (wr64 ((Int.tmod a5 17) + 17)) 17))))) * (wr64 (t44 - (Int.tmod o1 1000000000)))))), (124, .int .i64 (wr64 ((wr64 ((wr64 (3 * (Int.tmod (wr64 ((Int.tmod a5 17) + 17)) 17))) * (Int.tmod (wr64 ((Int.tmod a5 17) + 17)) 17))) * (wr64 (16 - (Int.tmod (wr64 ((Int.tmod a5 17) + 17)) 17)))))), (127, .int .i64 t46), (128, .pointer (some ⟨b41, 1, none⟩))]) (by kernel_rfl) ?_
    refine t_v (.ld1 rfl rfl rfl (.at 2 rfl rfl)) ?_
    refine t_qz 11 [4, 13, 14, 15, 16, 17, 18, 21, 22] (σ' := [(4, .bool r4), (13, .bool true), (14, .pointer (some ⟨b41, 0, none⟩)), (15, .int .i64 (wr64 ((Int.tmod (wr64 ((Int.tmod A2 1000) + 1000)) 1000) + 1))), (16, .int .i64 (wr64 ((Int.tmod (wr64 ((Int.tmod r3 1000) + 1000)) 1000) + 1))), (17, .pointer (some ⟨b42, 0, none⟩)), (18, .pointer (some ⟨b48, 0, none⟩)), (21, .int .i64 (wr64 ((wr64 ((wr64 ((wr64 ((wr64 ((wr64 ((wr64 (16 - (Int.tmod (wr64 ((Int.tmod a5 17) + 17)) 17))) * (wr64 (16 - (Int.tmod (wr64 ((Int.tmod a5 17) + 17)) 17))))) * (wr64 (16 - (Int.tmod (wr64 ((Int.tmod a5 17) + 17)) 17))))) * 0)) + (wr64 ((wr64 ((wr64 ((wr64 (3 * (Int.tmod (wr64 ((Int.tmod a5 17) + 17)) 17))) * (wr64 (16 - (Int.tmod (wr64 ((Int.tmod a5 17) + 17)) 17))))) * (wr64 (16 - (Int.tmod (wr64 ((Int.tmod a5 17) + 17)) 17))))) * (wr64 (t43 - (Int.tmod t0 1000000000))))))) + (wr64 ((wr64 ((wr64 ((wr64 (3 * (Int.tmod (wr64 ((Int.tmod a5 17) + 17)) 17))) * (Int.tmod (wr64 ((Int.tmod a5 17) + 17)) 17))) * (wr64 (16 - (Int.tmod (wr64 ((Int.tmod a5 17) + 17)) 17))))) * (wr64 (t45 - (Int.tmod t0 1000000000))))))) + (wr64 ((wr64 ((wr64 ((Int.tmod (wr64 ((Int.tmod a5 17) + 17)) 17) * (Int.tmod (wr64 ((Int.tmod a5 17) + 17)) 17))) * (Int.tmod (wr64 ((Int.tmod a5 17) + 17)) 17))) * 1000000))))), (22, .int .i64 (wr64 ((wr64 ((wr64 ((wr64 ((wr64 ((wr64 (3 * (Int.tmod (wr64 ((Int.tmod a5 17) + 17)) 17))) * (wr64 (16 - (Int.tmod (wr64 ((Int.tmod a5 17) + 17)) 17))))) * (wr64 (16 - (Int.tmod (wr64 ((Int.tmod a5 17) + 17)) 17))))) * (wr64 (t44 - (Int.tmod o1 1000000000))))) + (wr64 ((wr64 ((wr64 ((wr64 (3 * (Int.tmod (wr64 ((Int.tmod a5 17) + 17)) 17))) * (Int.tmod (wr64 ((Int.tmod a5 17) + 17)) 17))) * (wr64 (16 - (Int.tmod (wr64 ((Int.tmod a5 17) + 17)) 17))))) * (wr64 (t46 - (Int.tmod o1 1000000000))))))) + (wr64 ((wr64 ((wr64 ((Int.tmod (wr64 ((Int.tmod a5 17) + 17)) 17) * (Int.tmod (wr64 ((Int.tmod a5 17) + 17)) 17))) * (Int.tmod (wr64 ((Int.tmod a5 17) + 17)) 17))) * 1000000)))))]) (by kernel_rfl) ?_
    refine t_end ?_
    show W _ _ _ _ _ _ _
    refine w_seq ?_
    refine w_reg fun all => ?_
    refine t_qz 1 [4, 13, 14, 15, 16, 17, 18, 21, 22, 23] (σ' := [(4, .bool r4), (13, .bool true), (14, .pointer (some ⟨b41, 0, none⟩)), (15, .int .i64 (wr64 ((Int.tmod (wr64 ((Int.tmod A2 1000) + 1000)) 1000) + 1))), (16, .int .i64 (wr64 ((Int.tmod (wr64 ((Int.tmod r3 1000) + 1000)) 1000) + 1))), (17, .pointer (some ⟨b42, 0, none⟩)), (18, .pointer (some ⟨b48, 0, none⟩)), (21, .int .i64 (wr64 ((wr64 ((wr64 ((wr64 ((wr64 ((wr64 ((wr64 (16 - (Int.tmod (wr64 ((Int.tmod a5 17) + 17)) 17))) * (wr64 (16 - (Int.tmod (wr64 ((Int.tmod a5 17) + 17)) 17))))) * (wr64 (16 - (Int.tmod (wr64 ((Int.tmod a5 17) + 17)) 17))))) * 0)) + (wr64 ((wr64 ((wr64 ((wr64 (3 * (Int.tmod (wr64 ((Int.tmod a5 17) + 17)) 17))) * (wr64 (16 - (Int.tmod (wr64 ((Int.tmod a5 17) + 17)) 17))))) * (wr64 (16 - (Int.tmod (wr64 ((Int.tmod a5 17) + 17)) 17))))) * (wr64 (t43 - (Int.tmod t0 1000000000))))))) + (wr64 ((wr64 ((wr64 ((wr64 (3 * (Int.tmod (wr64 ((Int.tmod a5 17) + 17)) 17))) * (Int.tmod (wr64 ((Int.tmod a5 17) + 17)) 17))) * (wr64 (16 - (Int.tmod (wr64 ((Int.tmod a5 17) + 17)) 17))))) * (wr64 (t45 - (Int.tmod t0 1000000000))))))) + (wr64 ((wr64 ((wr64 ((Int.tmod (wr64 ((Int.tmod a5 17) + 17)) 17) * (Int.tmod (wr64 ((Int.tmod a5 17) + 17)) 17))) * (Int.tmod (wr64 ((Int.tmod a5 17) + 17)) 17))) * 1000000))))), (22, .int .i64 (wr64 ((wr64 ((wr64 ((wr64 ((wr64 ((wr64 (3 * (Int.tmod (wr64 ((Int.tmod a5 17) + 17)) 17))) * (wr64 (16 - (Int.tmod (wr64 ((Int.tmod a5 17) + 17)) 17))))) * (wr64 (16 - (Int.tmod (wr64 ((Int.tmod a5 17) + 17)) 17))))) * (wr64 (t44 - (Int.tmod o1 1000000000))))) + (wr64 ((wr64 ((wr64 ((wr64 (3 * (Int.tmod (wr64 ((Int.tmod a5 17) + 17)) 17))) * (Int.tmod (wr64 ((Int.tmod a5 17) + 17)) 17))) * (wr64 (16 - (Int.tmod (wr64 ((Int.tmod a5 17) + 17)) 17))))) * (wr64 (t46 - (Int.tmod o1 1000000000))))))) + (wr64 ((wr64 ((wr64 ((Int.tmod (wr64 ((Int.tmod a5 17) + 17)) 17) * (Int.tmod (wr64 ((Int.tmod a5 17) + 17)) 17))) * (Int.tmod (wr64 ((Int.tmod a5 17) + 17)) 17))) * 1000000))))), (23, .int .i64 0)]) (by kernel_rfl) ?_
    refine t_end ?_
    show W _ _ _ _ _ _ _
    refine w_seq ?_
    refine w_reg fun all => ?_
    refine t_qz 1 [4, 13, 14, 15, 16, 17, 18, 21, 22, 23, 24] (σ' := [(4, .bool r4), (13, .bool true), (14, .pointer (some ⟨b41, 0, none⟩)), (15, .int .i64 (wr64 ((Int.tmod (wr64 ((Int.tmod A2 1000) + 1000)) 1000) + 1))), (16, .int .i64 (wr64 ((Int.tmod (wr64 ((Int.tmod r3 1000) + 1000)) 1000) + 1))), (17, .pointer (some ⟨b42, 0, none⟩)), (18, .pointer (some ⟨b48, 0, none⟩)), (21, .int .i64 (wr64 ((wr64 ((wr64 ((wr64 ((wr64 ((wr64 ((wr64 (16 - (Int.tmod (wr64 ((Int.tmod a5 17) + 17)) 17))) * (wr64 (16 - (Int.tmod (wr64 ((Int.tmod a5 17) + 17)) 17))))) * (wr64 (16 - (Int.tmod (wr64 ((Int.tmod a5 17) + 17)) 17))))) * 0)) + (wr64 ((wr64 ((wr64 ((wr64 (3 * (Int.tmod (wr64 ((Int.tmod a5 17) + 17)) 17))) * (wr64 (16 - (Int.tmod (wr64 ((Int.tmod a5 17) + 17)) 17))))) * (wr64 (16 - (Int.tmod (wr64 ((Int.tmod a5 17) + 17)) 17))))) * (wr64 (t43 - (Int.tmod t0 1000000000))))))) + (wr64 ((wr64 ((wr64 ((wr64 (3 * (Int.tmod (wr64 ((Int.tmod a5 17) + 17)) 17))) * (Int.tmod (wr64 ((Int.tmod a5 17) + 17)) 17))) * (wr64 (16 - (Int.tmod (wr64 ((Int.tmod a5 17) + 17)) 17))))) * (wr64 (t45 - (Int.tmod t0 1000000000))))))) + (wr64 ((wr64 ((wr64 ((Int.tmod (wr64 ((Int.tmod a5 17) + 17)) 17) * (Int.tmod (wr64 ((Int.tmod a5 17) + 17)) 17))) * (Int.tmod (wr64 ((Int.tmod a5 17) + 17)) 17))) * 1000000))))), (22, .int .i64 (wr64 ((wr64 ((wr64 ((wr64 ((wr64 ((wr64 (3 * (Int.tmod (wr64 ((Int.tmod a5 17) + 17)) 17))) * (wr64 (16 - (Int.tmod (wr64 ((Int.tmod a5 17) + 17)) 17))))) * (wr64 (16 - (Int.tmod (wr64 ((Int.tmod a5 17) + 17)) 17))))) * (wr64 (t44 - (Int.tmod o1 1000000000))))) + (wr64 ((wr64 ((wr64 ((wr64 (3 * (Int.tmod (wr64 ((Int.tmod a5 17) + 17)) 17))) * (Int.tmod (wr64 ((Int.tmod a5 17) + 17)) 17))) * (wr64 (16 - (Int.tmod (wr64 ((Int.tmod a5 17) + 17)) 17))))) * (wr64 (t46 - (Int.tmod o1 1000000000))))))) + (wr64 ((wr64 ((wr64 ((Int.tmod (wr64 ((Int.tmod a5 17) + 17)) 17) * (Int.tmod (wr64 ((Int.tmod a5 17) + 17)) 17))) * (Int.tmod (wr64 ((Int.tmod a5 17) + 17)) 17))) * 1000000))))), (23, .int .i64 0), (24, .int .i64 1000000)]) (by kernel_rfl) ?_
    refine t_end ?_
    show W _ _ _ _ _ _ _
    obtain ⟨⟨x53, x54, x55, x56, x57, x58, x59, x60, x61, x62, x63⟩, e50, e⟩ := bind_of e
    try dsimp only at e
    refine w_cut [4, 13, 14, 15, 16, 17, 18, 21, 22, 23, 24] (fun σ_ H_ S_ => [(4, .bool r4), (13, .bool x53), (14, .pointer (some ⟨b41, 0, none⟩)), (15, .int .i64 x54), (16, .int .i64 x55), (17, .pointer (some ⟨b42, 0, none⟩)), (18, .pointer (some ⟨b48, 0, none⟩)), (21, .int .i64 x56), (22, .int .i64 x57), (23, .int .i64 x58), (24, .int .i64 x59)] = σ_ ∧ ([⟨b48, [.int .i64 t43, .int .i64 t44, .int .i64 t45, .int .i64 t46], 4⟩, ⟨b42, [.int .i64 x60, .int .i64 x61], 2⟩, ⟨b41, [.int .i64 x62, .int .i64 x63], 2⟩] : List Own) = H_ ∧ S = S_) ?_ ?_
    · show W _ _ _ _ _ _ _
      refine w_seq ?_
      refine w_reg fun all => ?_
      by_cases c52 : r4 = true
      · rw [if_pos c52] at e50
        have c52b : r4 = true := c52
        refine t_qz 1 [4, 13, 14, 15, 16, 17, 18, 21, 22, 23, 24, 140] (σ' := [(4, .bool r4), (13, .bool true), (14, .pointer (some ⟨b41, 0, none⟩)), (15, .int .i64 (wr64 ((Int.tmod (wr64 ((Int.tmod A2 1000) + 1000)) 1000) + 1))), (16, .int .i64 (wr64 ((Int.tmod (wr64 ((Int.tmod r3 1000) + 1000)) 1000) + 1))), (17, .pointer (some ⟨b42, 0, none⟩)), (18, .pointer (some ⟨b48, 0, none⟩)), (21, .int .i64 (wr64 ((wr64 ((wr64 ((wr64 ((wr64 ((wr64 ((wr64 (16 - (Int.tmod (wr64 ((Int.tmod a5 17) + 17)) 17))) * (wr64 (16 - (Int.tmod (wr64 ((Int.tmod a5 17) + 17)) 17))))) * (wr64 (16 - (Int.tmod (wr64 ((Int.tmod a5 17) + 17)) 17))))) * 0)) + (wr64 ((wr64 ((wr64 ((wr64 (3 * (Int.tmod (wr64 ((Int.tmod a5 17) + 17)) 17))) * (wr64 (16 - (Int.tmod (wr64 ((Int.tmod a5 17) + 17)) 17))))) * (wr64 (16 - (Int.tmod (wr64 ((Int.tmod a5 17) + 17)) 17))))) * (wr64 (t43 - (Int.tmod t0 1000000000))))))) + (wr64 ((wr64 ((wr64 ((wr64 (3 * (Int.tmod (wr64 ((Int.tmod a5 17) + 17)) 17))) * (Int.tmod (wr64 ((Int.tmod a5 17) + 17)) 17))) * (wr64 (16 - (Int.tmod (wr64 ((Int.tmod a5 17) + 17)) 17))))) * (wr64 (t45 - (Int.tmod t0 1000000000))))))) + (wr64 ((wr64 ((wr64 ((Int.tmod (wr64 ((Int.tmod a5 17) + 17)) 17) * (Int.tmod (wr64 ((Int.tmod a5 17) + 17)) 17))) * (Int.tmod (wr64 ((Int.tmod a5 17) + 17)) 17))) * 1000000))))), (22, .int .i64 (wr64 ((wr64 ((wr64 ((wr64 ((wr64 ((wr64 (3 * (Int.tmod (wr64 ((Int.tmod a5 17) + 17)) 17))) * (wr64 (16 - (Int.tmod (wr64 ((Int.tmod a5 17) + 17)) 17))))) * (wr64 (16 - (Int.tmod (wr64 ((Int.tmod a5 17) + 17)) 17))))) * (wr64 (t44 - (Int.tmod o1 1000000000))))) + (wr64 ((wr64 ((wr64 ((wr64 (3 * (Int.tmod (wr64 ((Int.tmod a5 17) + 17)) 17))) * (Int.tmod (wr64 ((Int.tmod a5 17) + 17)) 17))) * (wr64 (16 - (Int.tmod (wr64 ((Int.tmod a5 17) + 17)) 17))))) * (wr64 (t46 - (Int.tmod o1 1000000000))))))) + (wr64 ((wr64 ((wr64 ((Int.tmod (wr64 ((Int.tmod a5 17) + 17)) 17) * (Int.tmod (wr64 ((Int.tmod a5 17) + 17)) 17))) * (Int.tmod (wr64 ((Int.tmod a5 17) + 17)) 17))) * 1000000))))), (23, .int .i64 0), (24, .int .i64 1000000), (140, .bool r4)]) (by kernel_rfl) ?_
        refine t_v (dv_quiet rfl (congrArg (fun t => some (Value.bool (!t))) c52b)) ?_
        refine t_keep [4, 13, 14, 15, 16, 17, 18, 21, 22, 23, 24, 141] (σ' := [(4, .bool r4), (13, .bool true), (14, .pointer (some ⟨b41, 0, none⟩)), (15, .int .i64 (wr64 ((Int.tmod (wr64 ((Int.tmod A2 1000) + 1000)) 1000) + 1))), (16, .int .i64 (wr64 ((Int.tmod (wr64 ((Int.tmod r3 1000) + 1000)) 1000) + 1))), (17, .pointer (some ⟨b42, 0, none⟩)), (18, .pointer (some ⟨b48, 0, none⟩)), (21, .int .i64 (wr64 ((wr64 ((wr64 ((wr64 ((wr64 ((wr64 ((wr64 (16 - (Int.tmod (wr64 ((Int.tmod a5 17) + 17)) 17))) * (wr64 (16 - (Int.tmod (wr64 ((Int.tmod a5 17) + 17)) 17))))) * (wr64 (16 - (Int.tmod (wr64 ((Int.tmod a5 17) + 17)) 17))))) * 0)) + (wr64 ((wr64 ((wr64 ((wr64 (3 * (Int.tmod (wr64 ((Int.tmod a5 17) + 17)) 17))) * (wr64 (16 - (Int.tmod (wr64 ((Int.tmod a5 17) + 17)) 17))))) * (wr64 (16 - (Int.tmod (wr64 ((Int.tmod a5 17) + 17)) 17))))) * (wr64 (t43 - (Int.tmod t0 1000000000))))))) + (wr64 ((wr64 ((wr64 ((wr64 (3 * (Int.tmod (wr64 ((Int.tmod a5 17) + 17)) 17))) * (Int.tmod (wr64 ((Int.tmod a5 17) + 17)) 17))) * (wr64 (16 - (Int.tmod (wr64 ((Int.tmod a5 17) + 17)) 17))))) * (wr64 (t45 - (Int.tmod t0 1000000000))))))) + (wr64 ((wr64 ((wr64 ((Int.tmod (wr64 ((Int.tmod a5 17) + 17)) 17) * (Int.tmod (wr64 ((Int.tmod a5 17) + 17)) 17))) * (Int.tmod (wr64 ((Int.tmod a5 17) + 17)) 17))) * 1000000))))), (22, .int .i64 (wr64 ((wr64 ((wr64 ((wr64 ((wr64 ((wr64 (3 * (Int.tmod (wr64 ((Int.tmod a5 17) + 17)) 17))) * (wr64 (16 - (Int.tmod (wr64 ((Int.tmod a5 17) + 17)) 17))))) * (wr64 (16 - (Int.tmod (wr64 ((Int.tmod a5 17) + 17)) 17))))) * (wr64 (t44 - (Int.tmod o1 1000000000))))) + (wr64 ((wr64 ((wr64 ((wr64 (3 * (Int.tmod (wr64 ((Int.tmod a5 17) + 17)) 17))) * (Int.tmod (wr64 ((Int.tmod a5 17) + 17)) 17))) * (wr64 (16 - (Int.tmod (wr64 ((Int.tmod a5 17) + 17)) 17))))) * (wr64 (t46 - (Int.tmod o1 1000000000))))))) + (wr64 ((wr64 ((wr64 ((Int.tmod (wr64 ((Int.tmod a5 17) + 17)) 17) * (Int.tmod (wr64 ((Int.tmod a5 17) + 17)) 17))) * (Int.tmod (wr64 ((Int.tmod a5 17) + 17)) 17))) * 1000000))))), (23, .int .i64 0), (24, .int .i64 1000000), (141, .bool false)]) (by kernel_rfl) ?_
        refine t_end ?_
        show W _ _ _ _ _ _ _
        refine w_cond rfl (fun c_ => by cases c_) (fun _ => ?_)
        show W _ _ _ _ _ _ _
        refine w_skip ?_
        simp only [Option.some.injEq, Prod.mk.injEq] at e50
        obtain ⟨rfl, rfl, rfl, rfl, rfl, rfl, rfl, rfl, rfl, rfl, rfl⟩ := e50
        exact ⟨([⟨b48, [.int .i64 t43, .int .i64 t44, .int .i64 t45, .int .i64 t46], 4⟩, ⟨b42, [.int .i64 (wr64 ((Int.tmod t0 1000000000) + 1000000)), .int .i64 (wr64 ((Int.tmod o1 1000000000) + 1000000))], 2⟩, ⟨b41, [.int .i64 (Int.tmod t0 1000000000), .int .i64 (Int.tmod o1 1000000000)], 2⟩] : List Own), S, VS.mask [true, true, true] rfl rfl, by kernel_rfl, rfl, rfl⟩
      · rw [if_neg c52] at e50
        have c52b : r4 = false := Bool.eq_false_iff.mpr c52
        refine t_qz 1 [4, 13, 14, 15, 16, 17, 18, 21, 22, 23, 24, 140] (σ' := [(4, .bool r4), (13, .bool true), (14, .pointer (some ⟨b41, 0, none⟩)), (15, .int .i64 (wr64 ((Int.tmod (wr64 ((Int.tmod A2 1000) + 1000)) 1000) + 1))), (16, .int .i64 (wr64 ((Int.tmod (wr64 ((Int.tmod r3 1000) + 1000)) 1000) + 1))), (17, .pointer (some ⟨b42, 0, none⟩)), (18, .pointer (some ⟨b48, 0, none⟩)), (21, .int .i64 (wr64 ((wr64 ((wr64 ((wr64 ((wr64 ((wr64 ((wr64 (16 - (Int.tmod (wr64 ((Int.tmod a5 17) + 17)) 17))) * (wr64 (16 - (Int.tmod (wr64 ((Int.tmod a5 17) + 17)) 17))))) * (wr64 (16 - (Int.tmod (wr64 ((Int.tmod a5 17) + 17)) 17))))) * 0)) + (wr64 ((wr64 ((wr64 ((wr64 (3 * (Int.tmod (wr64 ((Int.tmod a5 17) + 17)) 17))) * (wr64 (16 - (Int.tmod (wr64 ((Int.tmod a5 17) + 17)) 17))))) * (wr64 (16 - (Int.tmod (wr64 ((Int.tmod a5 17) + 17)) 17))))) * (wr64 (t43 - (Int.tmod t0 1000000000))))))) + (wr64 ((wr64 ((wr64 ((wr64 (3 * (Int.tmod (wr64 ((Int.tmod a5 17) + 17)) 17))) * (Int.tmod (wr64 ((Int.tmod a5 17) + 17)) 17))) * (wr64 (16 - (Int.tmod (wr64 ((Int.tmod a5 17) + 17)) 17))))) * (wr64 (t45 - (Int.tmod t0 1000000000))))))) + (wr64 ((wr64 ((wr64 ((Int.tmod (wr64 ((Int.tmod a5 17) + 17)) 17) * (Int.tmod (wr64 ((Int.tmod a5 17) + 17)) 17))) * (Int.tmod (wr64 ((Int.tmod a5 17) + 17)) 17))) * 1000000))))), (22, .int .i64 (wr64 ((wr64 ((wr64 ((wr64 ((wr64 ((wr64 (3 * (Int.tmod (wr64 ((Int.tmod a5 17) + 17)) 17))) * (wr64 (16 - (Int.tmod (wr64 ((Int.tmod a5 17) + 17)) 17))))) * (wr64 (16 - (Int.tmod (wr64 ((Int.tmod a5 17) + 17)) 17))))) * (wr64 (t44 - (Int.tmod o1 1000000000))))) + (wr64 ((wr64 ((wr64 ((wr64 (3 * (Int.tmod (wr64 ((Int.tmod a5 17) + 17)) 17))) * (Int.tmod (wr64 ((Int.tmod a5 17) + 17)) 17))) * (wr64 (16 - (Int.tmod (wr64 ((Int.tmod a5 17) + 17)) 17))))) * (wr64 (t46 - (Int.tmod o1 1000000000))))))) + (wr64 ((wr64 ((wr64 ((Int.tmod (wr64 ((Int.tmod a5 17) + 17)) 17) * (Int.tmod (wr64 ((Int.tmod a5 17) + 17)) 17))) * (Int.tmod (wr64 ((Int.tmod a5 17) + 17)) 17))) * 1000000))))), (23, .int .i64 0), (24, .int .i64 1000000), (140, .bool r4)]) (by kernel_rfl) ?_
        refine t_v (dv_quiet rfl (congrArg (fun t => some (Value.bool (!t))) c52b)) ?_
        refine t_keep [4, 13, 14, 15, 16, 17, 18, 21, 22, 23, 24, 141] (σ' := [(4, .bool r4), (13, .bool true), (14, .pointer (some ⟨b41, 0, none⟩)), (15, .int .i64 (wr64 ((Int.tmod (wr64 ((Int.tmod A2 1000) + 1000)) 1000) + 1))), (16, .int .i64 (wr64 ((Int.tmod (wr64 ((Int.tmod r3 1000) + 1000)) 1000) + 1))), (17, .pointer (some ⟨b42, 0, none⟩)), (18, .pointer (some ⟨b48, 0, none⟩)), (21, .int .i64 (wr64 ((wr64 ((wr64 ((wr64 ((wr64 ((wr64 ((wr64 (16 - (Int.tmod (wr64 ((Int.tmod a5 17) + 17)) 17))) * (wr64 (16 - (Int.tmod (wr64 ((Int.tmod a5 17) + 17)) 17))))) * (wr64 (16 - (Int.tmod (wr64 ((Int.tmod a5 17) + 17)) 17))))) * 0)) + (wr64 ((wr64 ((wr64 ((wr64 (3 * (Int.tmod (wr64 ((Int.tmod a5 17) + 17)) 17))) * (wr64 (16 - (Int.tmod (wr64 ((Int.tmod a5 17) + 17)) 17))))) * (wr64 (16 - (Int.tmod (wr64 ((Int.tmod a5 17) + 17)) 17))))) * (wr64 (t43 - (Int.tmod t0 1000000000))))))) + (wr64 ((wr64 ((wr64 ((wr64 (3 * (Int.tmod (wr64 ((Int.tmod a5 17) + 17)) 17))) * (Int.tmod (wr64 ((Int.tmod a5 17) + 17)) 17))) * (wr64 (16 - (Int.tmod (wr64 ((Int.tmod a5 17) + 17)) 17))))) * (wr64 (t45 - (Int.tmod t0 1000000000))))))) + (wr64 ((wr64 ((wr64 ((Int.tmod (wr64 ((Int.tmod a5 17) + 17)) 17) * (Int.tmod (wr64 ((Int.tmod a5 17) + 17)) 17))) * (Int.tmod (wr64 ((Int.tmod a5 17) + 17)) 17))) * 1000000))))), (22, .int .i64 (wr64 ((wr64 ((wr64 ((wr64 ((wr64 ((wr64 (3 * (Int.tmod (wr64 ((Int.tmod a5 17) + 17)) 17))) * (wr64 (16 - (Int.tmod (wr64 ((Int.tmod a5 17) + 17)) 17))))) * (wr64 (16 - (Int.tmod (wr64 ((Int.tmod a5 17) + 17)) 17))))) * (wr64 (t44 - (Int.tmod o1 1000000000))))) + (wr64 ((wr64 ((wr64 ((wr64 (3 * (Int.tmod (wr64 ((Int.tmod a5 17) + 17)) 17))) * (Int.tmod (wr64 ((Int.tmod a5 17) + 17)) 17))) * (wr64 (16 - (Int.tmod (wr64 ((Int.tmod a5 17) + 17)) 17))))) * (wr64 (t46 - (Int.tmod o1 1000000000))))))) + (wr64 ((wr64 ((wr64 ((Int.tmod (wr64 ((Int.tmod a5 17) + 17)) 17) * (Int.tmod (wr64 ((Int.tmod a5 17) + 17)) 17))) * (Int.tmod (wr64 ((Int.tmod a5 17) + 17)) 17))) * 1000000))))), (23, .int .i64 0), (24, .int .i64 1000000), (141, .bool true)]) (by kernel_rfl) ?_
        refine t_end ?_
        show W _ _ _ _ _ _ _
        refine w_cond rfl (fun _ => ?_) (fun c_ => by cases c_)
        show W _ _ _ _ _ _ _
        refine w_seq ?_
        refine w_reg fun all => ?_
        refine t_qz 1 [4, 13, 14, 15, 16, 17, 18, 21, 22, 23] (σ' := [(4, .bool r4), (13, .bool true), (14, .pointer (some ⟨b41, 0, none⟩)), (15, .int .i64 (wr64 ((Int.tmod (wr64 ((Int.tmod A2 1000) + 1000)) 1000) + 1))), (16, .int .i64 (wr64 ((Int.tmod (wr64 ((Int.tmod r3 1000) + 1000)) 1000) + 1))), (17, .pointer (some ⟨b42, 0, none⟩)), (18, .pointer (some ⟨b48, 0, none⟩)), (21, .int .i64 (wr64 ((wr64 ((wr64 ((wr64 ((wr64 ((wr64 ((wr64 (16 - (Int.tmod (wr64 ((Int.tmod a5 17) + 17)) 17))) * (wr64 (16 - (Int.tmod (wr64 ((Int.tmod a5 17) + 17)) 17))))) * (wr64 (16 - (Int.tmod (wr64 ((Int.tmod a5 17) + 17)) 17))))) * 0)) + (wr64 ((wr64 ((wr64 ((wr64 (3 * (Int.tmod (wr64 ((Int.tmod a5 17) + 17)) 17))) * (wr64 (16 - (Int.tmod (wr64 ((Int.tmod a5 17) + 17)) 17))))) * (wr64 (16 - (Int.tmod (wr64 ((Int.tmod a5 17) + 17)) 17))))) * (wr64 (t43 - (Int.tmod t0 1000000000))))))) + (wr64 ((wr64 ((wr64 ((wr64 (3 * (Int.tmod (wr64 ((Int.tmod a5 17) + 17)) 17))) * (Int.tmod (wr64 ((Int.tmod a5 17) + 17)) 17))) * (wr64 (16 - (Int.tmod (wr64 ((Int.tmod a5 17) + 17)) 17))))) * (wr64 (t45 - (Int.tmod t0 1000000000))))))) + (wr64 ((wr64 ((wr64 ((Int.tmod (wr64 ((Int.tmod a5 17) + 17)) 17) * (Int.tmod (wr64 ((Int.tmod a5 17) + 17)) 17))) * (Int.tmod (wr64 ((Int.tmod a5 17) + 17)) 17))) * 1000000))))), (22, .int .i64 (wr64 ((wr64 ((wr64 ((wr64 ((wr64 ((wr64 (3 * (Int.tmod (wr64 ((Int.tmod a5 17) + 17)) 17))) * (wr64 (16 - (Int.tmod (wr64 ((Int.tmod a5 17) + 17)) 17))))) * (wr64 (16 - (Int.tmod (wr64 ((Int.tmod a5 17) + 17)) 17))))) * (wr64 (t44 - (Int.tmod o1 1000000000))))) + (wr64 ((wr64 ((wr64 ((wr64 (3 * (Int.tmod (wr64 ((Int.tmod a5 17) + 17)) 17))) * (Int.tmod (wr64 ((Int.tmod a5 17) + 17)) 17))) * (wr64 (16 - (Int.tmod (wr64 ((Int.tmod a5 17) + 17)) 17))))) * (wr64 (t46 - (Int.tmod o1 1000000000))))))) + (wr64 ((wr64 ((wr64 ((Int.tmod (wr64 ((Int.tmod a5 17) + 17)) 17) * (Int.tmod (wr64 ((Int.tmod a5 17) + 17)) 17))) * (Int.tmod (wr64 ((Int.tmod a5 17) + 17)) 17))) * 1000000))))), (23, .int .i64 1000000)]) (by kernel_rfl) ?_
        refine t_end ?_
        show W _ _ _ _ _ _ _
        refine w_reg fun all => ?_
        refine t_qz 1 [4, 13, 14, 15, 16, 17, 18, 21, 22, 23, 24] (σ' := [(4, .bool r4), (13, .bool true), (14, .pointer (some ⟨b41, 0, none⟩)), (15, .int .i64 (wr64 ((Int.tmod (wr64 ((Int.tmod A2 1000) + 1000)) 1000) + 1))), (16, .int .i64 (wr64 ((Int.tmod (wr64 ((Int.tmod r3 1000) + 1000)) 1000) + 1))), (17, .pointer (some ⟨b42, 0, none⟩)), (18, .pointer (some ⟨b48, 0, none⟩)), (21, .int .i64 (wr64 ((wr64 ((wr64 ((wr64 ((wr64 ((wr64 ((wr64 (16 - (Int.tmod (wr64 ((Int.tmod a5 17) + 17)) 17))) * (wr64 (16 - (Int.tmod (wr64 ((Int.tmod a5 17) + 17)) 17))))) * (wr64 (16 - (Int.tmod (wr64 ((Int.tmod a5 17) + 17)) 17))))) * 0)) + (wr64 ((wr64 ((wr64 ((wr64 (3 * (Int.tmod (wr64 ((Int.tmod a5 17) + 17)) 17))) * (wr64 (16 - (Int.tmod (wr64 ((Int.tmod a5 17) + 17)) 17))))) * (wr64 (16 - (Int.tmod (wr64 ((Int.tmod a5 17) + 17)) 17))))) * (wr64 (t43 - (Int.tmod t0 1000000000))))))) + (wr64 ((wr64 ((wr64 ((wr64 (3 * (Int.tmod (wr64 ((Int.tmod a5 17) + 17)) 17))) * (Int.tmod (wr64 ((Int.tmod a5 17) + 17)) 17))) * (wr64 (16 - (Int.tmod (wr64 ((Int.tmod a5 17) + 17)) 17))))) * (wr64 (t45 - (Int.tmod t0 1000000000))))))) + (wr64 ((wr64 ((wr64 ((Int.tmod (wr64 ((Int.tmod a5 17) + 17)) 17) * (Int.tmod (wr64 ((Int.tmod a5 17) + 17)) 17))) * (Int.tmod (wr64 ((Int.tmod a5 17) + 17)) 17))) * 1000000))))), (22, .int .i64 (wr64 ((wr64 ((wr64 ((wr64 ((wr64 ((wr64 (3 * (Int.tmod (wr64 ((Int.tmod a5 17) + 17)) 17))) * (wr64 (16 - (Int.tmod (wr64 ((Int.tmod a5 17) + 17)) 17))))) * (wr64 (16 - (Int.tmod (wr64 ((Int.tmod a5 17) + 17)) 17))))) * (wr64 (t44 - (Int.tmod o1 1000000000))))) + (wr64 ((wr64 ((wr64 ((wr64 (3 * (Int.tmod (wr64 ((Int.tmod a5 17) + 17)) 17))) * (Int.tmod (wr64 ((Int.tmod a5 17) + 17)) 17))) * (wr64 (16 - (Int.tmod (wr64 ((Int.tmod a5 17) + 17)) 17))))) * (wr64 (t46 - (Int.tmod o1 1000000000))))))) + (wr64 ((wr64 ((wr64 ((Int.tmod (wr64 ((Int.tmod a5 17) + 17)) 17) * (Int.tmod (wr64 ((Int.tmod a5 17) + 17)) 17))) * (Int.tmod (wr64 ((Int.tmod a5 17) + 17)) 17))) * 1000000))))), (23, .int .i64 1000000), (24, .int .i64 0)]) (by kernel_rfl) ?_
        refine t_end ?_
        simp only [Option.some.injEq, Prod.mk.injEq] at e50
        obtain ⟨rfl, rfl, rfl, rfl, rfl, rfl, rfl, rfl, rfl, rfl, rfl⟩ := e50
        exact ⟨([⟨b48, [.int .i64 t43, .int .i64 t44, .int .i64 t45, .int .i64 t46], 4⟩, ⟨b42, [.int .i64 (wr64 ((Int.tmod t0 1000000000) + 1000000)), .int .i64 (wr64 ((Int.tmod o1 1000000000) + 1000000))], 2⟩, ⟨b41, [.int .i64 (Int.tmod t0 1000000000), .int .i64 (Int.tmod o1 1000000000)], 2⟩] : List Own), S, VS.mask [true, true, true] rfl rfl, by kernel_rfl, rfl, rfl⟩
    · rintro σ_ H_ S_ ⟨rfl, rfl, rfl⟩
      refine w_seq ?_
      refine w_reg fun all => ?_
      refine t_qz 5 [4, 13, 14, 15, 16, 17, 18, 22, 24, 25] (σ' := [(4, .bool r4), (13, .bool x53), (14, .pointer (some ⟨b41, 0, none⟩)), (15, .int .i64 x54), (16, .int .i64 x55), (17, .pointer (some ⟨b42, 0, none⟩)), (18, .pointer (some ⟨b48, 0, none⟩)), (22, .int .i64 x57), (24, .int .i64 x59), (25, .int .i64 (wr64 ((wr64 (Int.tdiv x56 4096)) - x58)))]) (by kernel_rfl) ?_
      refine t_end ?_
      show W _ _ _ _ _ _ _
      refine w_seq ?_
      refine w_reg fun all => ?_
      refine t_qz 5 [4, 13, 14, 15, 16, 17, 18, 25, 26] (σ' := [(4, .bool r4), (13, .bool x53), (14, .pointer (some ⟨b41, 0, none⟩)), (15, .int .i64 x54), (16, .int .i64 x55), (17, .pointer (some ⟨b42, 0, none⟩)), (18, .pointer (some ⟨b48, 0, none⟩)), (25, .int .i64 (wr64 ((wr64 (Int.tdiv x56 4096)) - x58))), (26, .int .i64 (wr64 ((wr64 (Int.tdiv x57 4096)) - x59)))]) (by kernel_rfl) ?_
      refine t_end ?_
      show W _ _ _ _ _ _ _
      refine w_seq ?_
      refine w_reg fun all => ?_
      refine t_qz 8 [4, 13, 14, 15, 16, 17, 18, 27] (σ' := [(4, .bool r4), (13, .bool x53), (14, .pointer (some ⟨b41, 0, none⟩)), (15, .int .i64 x54), (16, .int .i64 x55), (17, .pointer (some ⟨b42, 0, none⟩)), (18, .pointer (some ⟨b48, 0, none⟩)), (27, .int .i64 (wr64 ((wr64 ((wr64 ((wr64 (Int.tdiv x56 4096)) - x58)) * (wr64 ((wr64 (Int.tdiv x56 4096)) - x58)))) + (wr64 ((wr64 ((wr64 (Int.tdiv x57 4096)) - x59)) * (wr64 ((wr64 (Int.tdiv x57 4096)) - x59)))))))]) (by kernel_rfl) ?_
      refine t_end ?_
      show W _ _ _ _ _ _ _
      refine w_seq ?_
      refine w_reg fun all => ?_
      refine t_qz 1 [4, 13, 14, 15, 16, 17, 18, 27, 157] (σ' := [(4, .bool r4), (13, .bool x53), (14, .pointer (some ⟨b41, 0, none⟩)), (15, .int .i64 x54), (16, .int .i64 x55), (17, .pointer (some ⟨b42, 0, none⟩)), (18, .pointer (some ⟨b48, 0, none⟩)), (27, .int .i64 (wr64 ((wr64 ((wr64 ((wr64 (Int.tdiv x56 4096)) - x58)) * (wr64 ((wr64 (Int.tdiv x56 4096)) - x58)))) + (wr64 ((wr64 ((wr64 (Int.tdiv x57 4096)) - x59)) * (wr64 ((wr64 (Int.tdiv x57 4096)) - x59))))))), (157, .pointer (some ⟨b41, 0, none⟩))]) (by kernel_rfl) ?_
      refine t_v (.ld1 rfl rfl rfl (.at 2 rfl rfl)) ?_
      refine t_qz 4 [4, 13, 14, 15, 16, 17, 18, 27, 161, 162] (σ' := [(4, .bool r4), (13, .bool x53), (14, .pointer (some ⟨b41, 0, none⟩)), (15, .int .i64 x54), (16, .int .i64 x55), (17, .pointer (some ⟨b42, 0, none⟩)), (18, .pointer (some ⟨b48, 0, none⟩)), (27, .int .i64 (wr64 ((wr64 ((wr64 ((wr64 (Int.tdiv x56 4096)) - x58)) * (wr64 ((wr64 (Int.tdiv x56 4096)) - x58)))) + (wr64 ((wr64 ((wr64 (Int.tdiv x57 4096)) - x59)) * (wr64 ((wr64 (Int.tdiv x57 4096)) - x59))))))), (161, .int .i64 (wr64 (x62 + (wr64 (x54 * 1000000))))), (162, .pointer (some ⟨b41, 1, none⟩))]) (by kernel_rfl) ?_
      refine t_v (.ld1 rfl rfl rfl (.at 2 rfl rfl)) ?_
      refine t_qz 4 [4, 13, 14, 15, 16, 17, 18, 27, 167] (σ' := [(4, .bool r4), (13, .bool x53), (14, .pointer (some ⟨b41, 0, none⟩)), (15, .int .i64 x54), (16, .int .i64 x55), (17, .pointer (some ⟨b42, 0, none⟩)), (18, .pointer (some ⟨b48, 0, none⟩)), (27, .int .i64 (wr64 ((wr64 ((wr64 ((wr64 (Int.tdiv x56 4096)) - x58)) * (wr64 ((wr64 (Int.tdiv x56 4096)) - x58)))) + (wr64 ((wr64 ((wr64 (Int.tdiv x57 4096)) - x59)) * (wr64 ((wr64 (Int.tdiv x57 4096)) - x59))))))), (167, .agg #[.int .i64 (wr64 (x62 + (wr64 (x54 * 1000000)))), .int .i64 (wr64 (x63 + (wr64 (x55 * 1000000))))])]) (by kernel_rfl) ?_
      refine t_a (.new rfl rfl) fun b64 fb64 sb64 => ?_
      refine t_sti 0 (cs := [.int .i64 (wr64 (x62 + (wr64 (x54 * 1000000)))), .int .i64 (wr64 (x63 + (wr64 (x55 * 1000000))))]) rfl rfl rfl rfl rfl rfl rfl rfl rfl ?_
      refine t_keep [4, 13, 14, 15, 16, 17, 18, 27, 28] (σ' := [(4, .bool r4), (13, .bool x53), (14, .pointer (some ⟨b41, 0, none⟩)), (15, .int .i64 x54), (16, .int .i64 x55), (17, .pointer (some ⟨b42, 0, none⟩)), (18, .pointer (some ⟨b48, 0, none⟩)), (27, .int .i64 (wr64 ((wr64 ((wr64 ((wr64 (Int.tdiv x56 4096)) - x58)) * (wr64 ((wr64 (Int.tdiv x56 4096)) - x58)))) + (wr64 ((wr64 ((wr64 (Int.tdiv x57 4096)) - x59)) * (wr64 ((wr64 (Int.tdiv x57 4096)) - x59))))))), (28, .pointer (some ⟨b64, 0, none⟩))]) (by kernel_rfl) ?_
      refine t_end ?_
      show W _ _ _ _ _ _ _
      refine w_seq ?_
      refine w_reg fun all => ?_
      refine t_v (.ldn rfl rfl rfl (.at 3 rfl rfl)) ?_
      refine t_v (.ldn rfl rfl rfl (.at 0 rfl rfl)) ?_
      obtain ⟨⟨t65, t66, t67, t68⟩, h69, e⟩ := bind_of e
      try dsimp only at e
      refine t_qz 1 [4, 13, 14, 15, 16, 17, 18, 27, 168, 169, 170] (σ' := [(4, .bool r4), (13, .bool x53), (14, .pointer (some ⟨b41, 0, none⟩)), (15, .int .i64 x54), (16, .int .i64 x55), (17, .pointer (some ⟨b42, 0, none⟩)), (18, .pointer (some ⟨b48, 0, none⟩)), (27, .int .i64 (wr64 ((wr64 ((wr64 ((wr64 (Int.tdiv x56 4096)) - x58)) * (wr64 ((wr64 (Int.tdiv x56 4096)) - x58)))) + (wr64 ((wr64 ((wr64 (Int.tdiv x57 4096)) - x59)) * (wr64 ((wr64 (Int.tdiv x57 4096)) - x59))))))), (168, .agg #[.int .i64 x62, .int .i64 x63]), (169, .agg #[.int .i64 (wr64 (x62 + (wr64 (x54 * 1000000)))), .int .i64 (wr64 (x63 + (wr64 (x55 * 1000000))))]), (170, .bool r4)]) (by kernel_rfl) ?_
      refine t_v (.call (vs := [.agg #[.int .i64 x62, .int .i64 x63], .agg #[.int .i64 (wr64 (x62 + (wr64 (x54 * 1000000)))), .int .i64 (wr64 (x63 + (wr64 (x55 * 1000000))))], .bool r4]) rfl rfl (by kernel_rfl) (arc_Cubic.ok h69)) ?_
      refine t_a (.new rfl rfl) fun b70 fb70 sb70 => ?_
      refine t_sti 0 (cs := [.int .i64 t65, .int .i64 t66, .int .i64 t67, .int .i64 t68]) rfl rfl rfl rfl rfl rfl rfl rfl rfl ?_
      refine t_keep [4, 13, 14, 15, 16, 17, 18, 27, 29] (σ' := [(4, .bool r4), (13, .bool x53), (14, .pointer (some ⟨b41, 0, none⟩)), (15, .int .i64 x54), (16, .int .i64 x55), (17, .pointer (some ⟨b42, 0, none⟩)), (18, .pointer (some ⟨b48, 0, none⟩)), (27, .int .i64 (wr64 ((wr64 ((wr64 ((wr64 (Int.tdiv x56 4096)) - x58)) * (wr64 ((wr64 (Int.tdiv x56 4096)) - x58)))) + (wr64 ((wr64 ((wr64 (Int.tdiv x57 4096)) - x59)) * (wr64 ((wr64 (Int.tdiv x57 4096)) - x59))))))), (29, .pointer (some ⟨b70, 0, none⟩))]) (by kernel_rfl) ?_
      refine t_end ?_
      show W _ _ _ _ _ _ _
      refine w_seq ?_
      refine w_reg fun all => ?_
      by_cases c71 : x53 = true
      · rw [if_pos c71] at e
        have c71b : x53 = true := c71
        refine t_v (dv_quiet rfl (congrArg (fun t => some (Value.bool t)) c71b)) ?_
        by_cases c72 : (wr64 ((wr64 ((wr64 ((wr64 (Int.tdiv x56 4096)) - x58)) * (wr64 ((wr64 (Int.tdiv x56 4096)) - x58)))) + (wr64 ((wr64 ((wr64 (Int.tdiv x57 4096)) - x59)) * (wr64 ((wr64 (Int.tdiv x57 4096)) - x59)))))) ≥ 999400090000
        · rw [if_pos c72] at e
          have c72b : (decide ((wr64 ((wr64 ((wr64 ((wr64 (Int.tdiv x56 4096)) - x58)) * (wr64 ((wr64 (Int.tdiv x56 4096)) - x58)))) + (wr64 ((wr64 ((wr64 (Int.tdiv x57 4096)) - x59)) * (wr64 ((wr64 (Int.tdiv x57 4096)) - x59)))))) ≥ 999400090000)) = true := decide_eq_true c72
          refine t_qz 2 [4, 14, 15, 16, 17, 18, 27, 29, 173, 174] (σ' := [(4, .bool r4), (14, .pointer (some ⟨b41, 0, none⟩)), (15, .int .i64 x54), (16, .int .i64 x55), (17, .pointer (some ⟨b42, 0, none⟩)), (18, .pointer (some ⟨b48, 0, none⟩)), (27, .int .i64 (wr64 ((wr64 ((wr64 ((wr64 (Int.tdiv x56 4096)) - x58)) * (wr64 ((wr64 (Int.tdiv x56 4096)) - x58)))) + (wr64 ((wr64 ((wr64 (Int.tdiv x57 4096)) - x59)) * (wr64 ((wr64 (Int.tdiv x57 4096)) - x59))))))), (29, .pointer (some ⟨b70, 0, none⟩)), (173, .bool true), (174, .int .i64 (wr64 ((wr64 ((wr64 ((wr64 (Int.tdiv x56 4096)) - x58)) * (wr64 ((wr64 (Int.tdiv x56 4096)) - x58)))) + (wr64 ((wr64 ((wr64 (Int.tdiv x57 4096)) - x59)) * (wr64 ((wr64 (Int.tdiv x57 4096)) - x59)))))))]) (by kernel_rfl) ?_
          refine t_v (dv_quiet rfl (congrArg (fun t => some (Value.bool t)) c72b)) ?_
          by_cases c73 : (wr64 ((wr64 ((wr64 ((wr64 (Int.tdiv x56 4096)) - x58)) * (wr64 ((wr64 (Int.tdiv x56 4096)) - x58)))) + (wr64 ((wr64 ((wr64 (Int.tdiv x57 4096)) - x59)) * (wr64 ((wr64 (Int.tdiv x57 4096)) - x59)))))) ≤ 1000600090000
          · rw [if_pos c73] at e
            have c73b : (decide ((wr64 ((wr64 ((wr64 ((wr64 (Int.tdiv x56 4096)) - x58)) * (wr64 ((wr64 (Int.tdiv x56 4096)) - x58)))) + (wr64 ((wr64 ((wr64 (Int.tdiv x57 4096)) - x59)) * (wr64 ((wr64 (Int.tdiv x57 4096)) - x59)))))) ≤ 1000600090000)) = true := decide_eq_true c73
            refine t_qz 3 [4, 14, 15, 16, 17, 18, 29, 177, 178] (σ' := [(4, .bool r4), (14, .pointer (some ⟨b41, 0, none⟩)), (15, .int .i64 x54), (16, .int .i64 x55), (17, .pointer (some ⟨b42, 0, none⟩)), (18, .pointer (some ⟨b48, 0, none⟩)), (29, .pointer (some ⟨b70, 0, none⟩)), (177, .bool true), (178, .int .i64 (wr64 ((wr64 ((wr64 ((wr64 (Int.tdiv x56 4096)) - x58)) * (wr64 ((wr64 (Int.tdiv x56 4096)) - x58)))) + (wr64 ((wr64 ((wr64 (Int.tdiv x57 4096)) - x59)) * (wr64 ((wr64 (Int.tdiv x57 4096)) - x59)))))))]) (by kernel_rfl) ?_
            refine t_v (dv_quiet rfl (congrArg (fun t => some (Value.bool t)) c73b)) ?_
            by_cases c74 : r4 = true
            · rw [if_pos c74] at e
              have c74b : r4 = true := c74
              refine t_qz 2 [4, 14, 15, 16, 17, 18, 29, 181] (σ' := [(4, .bool r4), (14, .pointer (some ⟨b41, 0, none⟩)), (15, .int .i64 x54), (16, .int .i64 x55), (17, .pointer (some ⟨b42, 0, none⟩)), (18, .pointer (some ⟨b48, 0, none⟩)), (29, .pointer (some ⟨b70, 0, none⟩)), (181, .bool true)]) (by kernel_rfl) ?_
              refine t_v (dv_quiet rfl (congrArg (fun t => some (Value.bool t)) c74b)) ?_
              refine t_qz 3 [4, 14, 15, 16, 17, 18, 29, 181, 183, 185] (σ' := [(4, .bool r4), (14, .pointer (some ⟨b41, 0, none⟩)), (15, .int .i64 x54), (16, .int .i64 x55), (17, .pointer (some ⟨b42, 0, none⟩)), (18, .pointer (some ⟨b48, 0, none⟩)), (29, .pointer (some ⟨b70, 0, none⟩)), (181, .bool true), (183, .bool true), (185, .pointer (some ⟨b48, 1, none⟩))]) (by kernel_rfl) ?_
              refine t_v (.ld1 rfl rfl rfl (.at 2 rfl rfl)) ?_
              refine t_qz 1 [4, 14, 15, 16, 17, 18, 29, 181, 183, 186, 187] (σ' := [(4, .bool r4), (14, .pointer (some ⟨b41, 0, none⟩)), (15, .int .i64 x54), (16, .int .i64 x55), (17, .pointer (some ⟨b42, 0, none⟩)), (18, .pointer (some ⟨b48, 0, none⟩)), (29, .pointer (some ⟨b70, 0, none⟩)), (181, .bool true), (183, .bool true), (186, .int .i64 t44), (187, .pointer (some ⟨b41, 1, none⟩))]) (by kernel_rfl) ?_
              refine t_v (.ld1 rfl rfl rfl (.at 4 rfl rfl)) ?_
              by_cases c75 : t44 = x63
              · rw [if_pos c75] at e
                have c75b : (t44 == x63) = true := beq_iff_eq.mpr c75
                refine t_v (dv_quiet rfl (congrArg (fun t => some (Value.bool t)) c75b)) ?_
                refine t_qz 4 [4, 14, 15, 16, 17, 18, 29, 181, 191, 193] (σ' := [(4, .bool r4), (14, .pointer (some ⟨b41, 0, none⟩)), (15, .int .i64 x54), (16, .int .i64 x55), (17, .pointer (some ⟨b42, 0, none⟩)), (18, .pointer (some ⟨b48, 0, none⟩)), (29, .pointer (some ⟨b70, 0, none⟩)), (181, .bool true), (191, .bool true), (193, .pointer (some ⟨b48, 2, none⟩))]) (by kernel_rfl) ?_
                refine t_v (.ld1 rfl rfl rfl (.at 2 rfl rfl)) ?_
                refine t_qz 1 [4, 14, 15, 16, 17, 18, 29, 181, 191, 194, 195] (σ' := [(4, .bool r4), (14, .pointer (some ⟨b41, 0, none⟩)), (15, .int .i64 x54), (16, .int .i64 x55), (17, .pointer (some ⟨b42, 0, none⟩)), (18, .pointer (some ⟨b48, 0, none⟩)), (29, .pointer (some ⟨b70, 0, none⟩)), (181, .bool true), (191, .bool true), (194, .int .i64 t45), (195, .pointer (some ⟨b42, 0, none⟩))]) (by kernel_rfl) ?_
                refine t_v (.ld1 rfl rfl rfl (.at 3 rfl rfl)) ?_
                by_cases c76 : t45 = x60
                · rw [if_pos c76] at e
                  have c76b : (t45 == x60) = true := beq_iff_eq.mpr c76
                  refine t_v (dv_quiet rfl (congrArg (fun t => some (Value.bool t)) c76b)) ?_
                  refine t_qz 25 [14, 15, 16, 18, 29, 220, 222] (σ' := [(14, .pointer (some ⟨b41, 0, none⟩)), (15, .int .i64 x54), (16, .int .i64 x55), (18, .pointer (some ⟨b48, 0, none⟩)), (29, .pointer (some ⟨b70, 0, none⟩)), (220, .bool true), (222, .pointer (some ⟨b70, 0, none⟩))]) (by kernel_rfl) ?_
                  refine t_v (.ld1 rfl rfl rfl (.at 0 rfl rfl)) ?_
                  refine t_qz 1 [14, 15, 16, 18, 29, 220, 223, 224] (σ' := [(14, .pointer (some ⟨b41, 0, none⟩)), (15, .int .i64 x54), (16, .int .i64 x55), (18, .pointer (some ⟨b48, 0, none⟩)), (29, .pointer (some ⟨b70, 0, none⟩)), (220, .bool true), (223, .int .i64 t65), (224, .pointer (some ⟨b41, 0, none⟩))]) (by kernel_rfl) ?_
                  refine t_v (.ld1 rfl rfl rfl (.at 4 rfl rfl)) ?_
                  refine t_qz 4 [14, 16, 18, 29, 220, 226, 227, 229] (σ' := [(14, .pointer (some ⟨b41, 0, none⟩)), (16, .int .i64 x55), (18, .pointer (some ⟨b48, 0, none⟩)), (29, .pointer (some ⟨b70, 0, none⟩)), (220, .bool true), (226, .int .i64 (wr64 (t65 - x62))), (227, .int .i64 x54), (229, .pointer (some ⟨b48, 0, none⟩))]) (by kernel_rfl) ?_
                  refine t_v (.ld1 rfl rfl rfl (.at 2 rfl rfl)) ?_
                  refine t_qz 1 [14, 16, 18, 29, 220, 226, 227, 230, 231] (σ' := [(14, .pointer (some ⟨b41, 0, none⟩)), (16, .int .i64 x55), (18, .pointer (some ⟨b48, 0, none⟩)), (29, .pointer (some ⟨b70, 0, none⟩)), (220, .bool true), (226, .int .i64 (wr64 (t65 - x62))), (227, .int .i64 x54), (230, .int .i64 t43), (231, .pointer (some ⟨b41, 0, none⟩))]) (by kernel_rfl) ?_
                  refine t_v (.ld1 rfl rfl rfl (.at 4 rfl rfl)) ?_
                  by_cases c77 : (wr64 (t65 - x62)) = (wr64 (x54 * (wr64 (t43 - x62))))
                  · rw [if_pos c77] at e
                    have c77b : ((wr64 (t65 - x62)) == (wr64 (x54 * (wr64 (t43 - x62))))) = true := beq_iff_eq.mpr c77
                    refine t_qz 2 [14, 16, 18, 29, 220, 226, 234] (σ' := [(14, .pointer (some ⟨b41, 0, none⟩)), (16, .int .i64 x55), (18, .pointer (some ⟨b48, 0, none⟩)), (29, .pointer (some ⟨b70, 0, none⟩)), (220, .bool true), (226, .int .i64 (wr64 (t65 - x62))), (234, .int .i64 (wr64 (x54 * (wr64 (t43 - x62)))))]) (by kernel_rfl) ?_
                    refine t_v (dv_quiet rfl (congrArg (fun t => some (Value.bool t)) c77b)) ?_
                    refine t_qz 4 [14, 16, 18, 237, 239] (σ' := [(14, .pointer (some ⟨b41, 0, none⟩)), (16, .int .i64 x55), (18, .pointer (some ⟨b48, 0, none⟩)), (237, .bool true), (239, .pointer (some ⟨b70, 3, none⟩))]) (by kernel_rfl) ?_
                    refine t_v (.ld1 rfl rfl rfl (.at 0 rfl rfl)) ?_
                    refine t_qz 1 [14, 16, 18, 237, 240, 241] (σ' := [(14, .pointer (some ⟨b41, 0, none⟩)), (16, .int .i64 x55), (18, .pointer (some ⟨b48, 0, none⟩)), (237, .bool true), (240, .int .i64 t68), (241, .pointer (some ⟨b41, 1, none⟩))]) (by kernel_rfl) ?_
                    refine t_v (.ld1 rfl rfl rfl (.at 4 rfl rfl)) ?_
                    refine t_qz 4 [14, 237, 243, 244, 246] (σ' := [(14, .pointer (some ⟨b41, 0, none⟩)), (237, .bool true), (243, .int .i64 (wr64 (t68 - x63))), (244, .int .i64 x55), (246, .pointer (some ⟨b48, 3, none⟩))]) (by kernel_rfl) ?_
                    refine t_v (.ld1 rfl rfl rfl (.at 2 rfl rfl)) ?_
                    refine t_qz 1 [237, 243, 244, 247, 248] (σ' := [(237, .bool true), (243, .int .i64 (wr64 (t68 - x63))), (244, .int .i64 x55), (247, .int .i64 t46), (248, .pointer (some ⟨b41, 1, none⟩))]) (by kernel_rfl) ?_
                    refine t_v (.ld1 rfl rfl rfl (.at 4 rfl rfl)) ?_
                    refine t_qz 5 [12] (σ' := [(12, .bool ((wr64 (t68 - x63)) == (wr64 (x55 * (wr64 (t46 - x63))))))]) (by kernel_rfl) ?_
                    refine t_end ?_
                    show W _ _ _ _ _ _ _
                    refine w_ret ?_
                    have hr_ := Option.some.inj e
                    exact ⟨[.bool ((wr64 (t68 - x63)) == (wr64 (x55 * (wr64 (t46 - x63)))))], [], S, ⟨rfl, trivial⟩, VS.none, congrArg Value.bool hr_, rfl, rfl⟩
                  · rw [if_neg c77] at e
                    exact absurd (Option.some.inj e) (by decide)
                · rw [if_neg c76] at e
                  exact absurd (Option.some.inj e) (by decide)
              · rw [if_neg c75] at e
                exact absurd (Option.some.inj e) (by decide)
            · rw [if_neg c74] at e
              have c74b : r4 = false := Bool.eq_false_iff.mpr c74
              refine t_qz 2 [4, 14, 15, 16, 17, 18, 29, 181] (σ' := [(4, .bool r4), (14, .pointer (some ⟨b41, 0, none⟩)), (15, .int .i64 x54), (16, .int .i64 x55), (17, .pointer (some ⟨b42, 0, none⟩)), (18, .pointer (some ⟨b48, 0, none⟩)), (29, .pointer (some ⟨b70, 0, none⟩)), (181, .bool true)]) (by kernel_rfl) ?_
              refine t_v (dv_quiet rfl (congrArg (fun t => some (Value.bool t)) c74b)) ?_
              refine t_qz 18 [14, 15, 16, 17, 18, 29, 181, 199, 200] (σ' := [(14, .pointer (some ⟨b41, 0, none⟩)), (15, .int .i64 x54), (16, .int .i64 x55), (17, .pointer (some ⟨b42, 0, none⟩)), (18, .pointer (some ⟨b48, 0, none⟩)), (29, .pointer (some ⟨b70, 0, none⟩)), (181, .bool true), (199, .bool false), (200, .bool r4)]) (by kernel_rfl) ?_
              refine t_v (dv_quiet rfl (congrArg (fun t => some (Value.bool (!t))) c74b)) ?_
              refine t_qz 3 [14, 15, 16, 17, 18, 29, 181, 199, 202, 204] (σ' := [(14, .pointer (some ⟨b41, 0, none⟩)), (15, .int .i64 x54), (16, .int .i64 x55), (17, .pointer (some ⟨b42, 0, none⟩)), (18, .pointer (some ⟨b48, 0, none⟩)), (29, .pointer (some ⟨b70, 0, none⟩)), (181, .bool true), (199, .bool false), (202, .bool true), (204, .pointer (some ⟨b48, 0, none⟩))]) (by kernel_rfl) ?_
              refine t_v (.ld1 rfl rfl rfl (.at 2 rfl rfl)) ?_
              refine t_qz 1 [14, 15, 16, 17, 18, 29, 181, 199, 202, 205, 206] (σ' := [(14, .pointer (some ⟨b41, 0, none⟩)), (15, .int .i64 x54), (16, .int .i64 x55), (17, .pointer (some ⟨b42, 0, none⟩)), (18, .pointer (some ⟨b48, 0, none⟩)), (29, .pointer (some ⟨b70, 0, none⟩)), (181, .bool true), (199, .bool false), (202, .bool true), (205, .int .i64 t43), (206, .pointer (some ⟨b41, 0, none⟩))]) (by kernel_rfl) ?_
              refine t_v (.ld1 rfl rfl rfl (.at 4 rfl rfl)) ?_
              by_cases c78 : t43 = x62
              · rw [if_pos c78] at e
                have c78b : (t43 == x62) = true := beq_iff_eq.mpr c78
                refine t_v (dv_quiet rfl (congrArg (fun t => some (Value.bool t)) c78b)) ?_
                refine t_qz 4 [14, 15, 16, 17, 18, 29, 181, 199, 210, 212] (σ' := [(14, .pointer (some ⟨b41, 0, none⟩)), (15, .int .i64 x54), (16, .int .i64 x55), (17, .pointer (some ⟨b42, 0, none⟩)), (18, .pointer (some ⟨b48, 0, none⟩)), (29, .pointer (some ⟨b70, 0, none⟩)), (181, .bool true), (199, .bool false), (210, .bool true), (212, .pointer (some ⟨b48, 3, none⟩))]) (by kernel_rfl) ?_
                refine t_v (.ld1 rfl rfl rfl (.at 2 rfl rfl)) ?_
                refine t_qz 1 [14, 15, 16, 18, 29, 181, 199, 210, 213, 214] (σ' := [(14, .pointer (some ⟨b41, 0, none⟩)), (15, .int .i64 x54), (16, .int .i64 x55), (18, .pointer (some ⟨b48, 0, none⟩)), (29, .pointer (some ⟨b70, 0, none⟩)), (181, .bool true), (199, .bool false), (210, .bool true), (213, .int .i64 t46), (214, .pointer (some ⟨b42, 1, none⟩))]) (by kernel_rfl) ?_
                refine t_v (.ld1 rfl rfl rfl (.at 3 rfl rfl)) ?_
                by_cases c79 : t46 = x61
                · rw [if_pos c79] at e
                  have c79b : (t46 == x61) = true := beq_iff_eq.mpr c79
                  refine t_v (dv_quiet rfl (congrArg (fun t => some (Value.bool t)) c79b)) ?_
                  refine t_qz 6 [14, 15, 16, 18, 29, 220, 222] (σ' := [(14, .pointer (some ⟨b41, 0, none⟩)), (15, .int .i64 x54), (16, .int .i64 x55), (18, .pointer (some ⟨b48, 0, none⟩)), (29, .pointer (some ⟨b70, 0, none⟩)), (220, .bool true), (222, .pointer (some ⟨b70, 0, none⟩))]) (by kernel_rfl) ?_
                  refine t_v (.ld1 rfl rfl rfl (.at 0 rfl rfl)) ?_
                  refine t_qz 1 [14, 15, 16, 18, 29, 220, 223, 224] (σ' := [(14, .pointer (some ⟨b41, 0, none⟩)), (15, .int .i64 x54), (16, .int .i64 x55), (18, .pointer (some ⟨b48, 0, none⟩)), (29, .pointer (some ⟨b70, 0, none⟩)), (220, .bool true), (223, .int .i64 t65), (224, .pointer (some ⟨b41, 0, none⟩))]) (by kernel_rfl) ?_
                  refine t_v (.ld1 rfl rfl rfl (.at 4 rfl rfl)) ?_
                  refine t_qz 4 [14, 16, 18, 29, 220, 226, 227, 229] (σ' := [(14, .pointer (some ⟨b41, 0, none⟩)), (16, .int .i64 x55), (18, .pointer (some ⟨b48, 0, none⟩)), (29, .pointer (some ⟨b70, 0, none⟩)), (220, .bool true), (226, .int .i64 (wr64 (t65 - x62))), (227, .int .i64 x54), (229, .pointer (some ⟨b48, 0, none⟩))]) (by kernel_rfl) ?_
                  refine t_v (.ld1 rfl rfl rfl (.at 2 rfl rfl)) ?_
                  refine t_qz 1 [14, 16, 18, 29, 220, 226, 227, 230, 231] (σ' := [(14, .pointer (some ⟨b41, 0, none⟩)), (16, .int .i64 x55), (18, .pointer (some ⟨b48, 0, none⟩)), (29, .pointer (some ⟨b70, 0, none⟩)), (220, .bool true), (226, .int .i64 (wr64 (t65 - x62))), (227, .int .i64 x54), (230, .int .i64 t43), (231, .pointer (some ⟨b41, 0, none⟩))]) (by kernel_rfl) ?_
                  refine t_v (.ld1 rfl rfl rfl (.at 4 rfl rfl)) ?_
                  by_cases c80 : (wr64 (t65 - x62)) = (wr64 (x54 * (wr64 (t43 - x62))))
                  · rw [if_pos c80] at e
                    have c80b : ((wr64 (t65 - x62)) == (wr64 (x54 * (wr64 (t43 - x62))))) = true := beq_iff_eq.mpr c80
                    refine t_qz 2 [14, 16, 18, 29, 220, 226, 234] (σ' := [(14, .pointer (some ⟨b41, 0, none⟩)), (16, .int .i64 x55), (18, .pointer (some ⟨b48, 0, none⟩)), (29, .pointer (some ⟨b70, 0, none⟩)), (220, .bool true), (226, .int .i64 (wr64 (t65 - x62))), (234, .int .i64 (wr64 (x54 * (wr64 (t43 - x62)))))]) (by kernel_rfl) ?_
                    refine t_v (dv_quiet rfl (congrArg (fun t => some (Value.bool t)) c80b)) ?_
                    refine t_qz 4 [14, 16, 18, 237, 239] (σ' := [(14, .pointer (some ⟨b41, 0, none⟩)), (16, .int .i64 x55), (18, .pointer (some ⟨b48, 0, none⟩)), (237, .bool true), (239, .pointer (some ⟨b70, 3, none⟩))]) (by kernel_rfl) ?_
                    refine t_v (.ld1 rfl rfl rfl (.at 0 rfl rfl)) ?_
                    refine t_qz 1 [14, 16, 18, 237, 240, 241] (σ' := [(14, .pointer (some ⟨b41, 0, none⟩)), (16, .int .i64 x55), (18, .pointer (some ⟨b48, 0, none⟩)), (237, .bool true), (240, .int .i64 t68), (241, .pointer (some ⟨b41, 1, none⟩))]) (by kernel_rfl) ?_
                    refine t_v (.ld1 rfl rfl rfl (.at 4 rfl rfl)) ?_
                    refine t_qz 4 [14, 237, 243, 244, 246] (σ' := [(14, .pointer (some ⟨b41, 0, none⟩)), (237, .bool true), (243, .int .i64 (wr64 (t68 - x63))), (244, .int .i64 x55), (246, .pointer (some ⟨b48, 3, none⟩))]) (by kernel_rfl) ?_
                    refine t_v (.ld1 rfl rfl rfl (.at 2 rfl rfl)) ?_
                    refine t_qz 1 [237, 243, 244, 247, 248] (σ' := [(237, .bool true), (243, .int .i64 (wr64 (t68 - x63))), (244, .int .i64 x55), (247, .int .i64 t46), (248, .pointer (some ⟨b41, 1, none⟩))]) (by kernel_rfl) ?_
                    refine t_v (.ld1 rfl rfl rfl (.at 4 rfl rfl)) ?_
                    refine t_qz 5 [12] (σ' := [(12, .bool ((wr64 (t68 - x63)) == (wr64 (x55 * (wr64 (t46 - x63))))))]) (by kernel_rfl) ?_
                    refine t_end ?_
                    show W _ _ _ _ _ _ _
                    refine w_ret ?_
                    have hr_ := Option.some.inj e
                    exact ⟨[.bool ((wr64 (t68 - x63)) == (wr64 (x55 * (wr64 (t46 - x63)))))], [], S, ⟨rfl, trivial⟩, VS.none, congrArg Value.bool hr_, rfl, rfl⟩
                  · rw [if_neg c80] at e
                    exact absurd (Option.some.inj e) (by decide)
                · rw [if_neg c79] at e
                  exact absurd (Option.some.inj e) (by decide)
              · rw [if_neg c78] at e
                exact absurd (Option.some.inj e) (by decide)
          · rw [if_neg c73] at e
            exact absurd (Option.some.inj e) (by decide)
        · rw [if_neg c72] at e
          exact absurd (Option.some.inj e) (by decide)
      · rw [if_neg c71] at e
        exact absurd (Option.some.inj e) (by decide)
  | false =>
    rw [if_neg (by decide)] at e
    exact absurd (Option.some.inj e) (by decide)

def glyphiclaw14_ArcRounds.Pure : Prop := ∀ (t0 : Int) (o1 : Int) (A2 : Int) (r3 : Int) (r4 : Bool) (a5 : Int), (Lit.int .i64 t0).wf = true → (Lit.int .i64 o1).wf = true → (Lit.int .i64 A2).wf = true → (Lit.int .i64 r3).wf = true → (Lit.int .i64 a5).wf = true → glyphiclaw14_ArcRounds.f t0 o1 A2 r3 r4 a5 = some true
theorem glyphiclaw14_ArcRounds.walk (P : glyphiclaw14_ArcRounds.Pure) (t0 : Int) (o1 : Int) (A2 : Int) (r3 : Int) (r4 : Bool) (a5 : Int) (w : World) (ht0 : (Lit.int .i64 t0).wf = true) (ho1 : (Lit.int .i64 o1).wf = true) (hA2 : (Lit.int .i64 A2).wf = true) (hr3 : (Lit.int .i64 r3).wf = true) (ha5 : (Lit.int .i64 a5).wf = true) :
    Calls Try.prog 3 #[.int .i64 t0, .int .i64 o1, .int .i64 A2, .int .i64 r3, .bool r4, .int .i64 a5] w fun e w' => e = .returned (.bool true) ∧ Below w.heap.size w w' := law_w (hok0 w) (glyphiclaw14_ArcRounds.ok (P t0 o1 A2 r3 r4 a5 ht0 ho1 hA2 hr3 ha5))
end Go.Proofs.Ytmbcokndaaelaaa.QArcRounds
