/- Functions of the program as Lean functions, each with the proof of its walk. Written by gen.py, a program of these sessions. -/
import Derived.Test.YtmbcokndaaelaaaE
import Derived.Test.YtmbcokndaaelaaaProg
namespace Go.Proofs.Ytmbcokndaaelaaa.QBlendEnds
open Go Go.RowKit Go.Proofs.YtmbcokndaaelaaaE
set_option linter.unusedVariables false
set_option maxRecDepth 100000
theorem mixed : Try.prog.follows .mixedOrders = true := by kernel_rfl

/-- fixed.Down -/
def c61 : C :=
  (.seq (.reg [⟨(some 4), .mv (.const (.int .i64 0)), none⟩])
  (.seq (.seq (.reg [⟨(some 6), .mv (.tmp 1), none⟩,
      ⟨(some 7), .bin .lss (.tmp 6) (.const (.int .i64 1)), none⟩])
   (.cond (.tmp 7)
    (.seq (.reg [⟨(some 4), .mv (.const (.int .i64 0)), none⟩])
     .ret)
    .skip))
  (.seq (.reg [⟨(some 8), .mv (.tmp 0), none⟩,
     ⟨(some 9), .mv (.tmp 1), none⟩,
     ⟨(some 10), .bin .quo (.tmp 8) (.tmp 9), none⟩,
     ⟨(some 5), .mv (.tmp 10), none⟩])
  (.seq (.seq (.reg [⟨(some 11), .mv (.tmp 0), none⟩,
      ⟨(some 12), .mv (.tmp 1), none⟩,
      ⟨(some 13), .bin .rem (.tmp 11) (.tmp 12), none⟩,
      ⟨(some 14), .bin .lss (.tmp 13) (.const (.int .i64 0)), none⟩])
   (.cond (.tmp 14)
    (.reg [⟨(some 15), .mv (.tmp 5), none⟩,
       ⟨(some 16), .bin .sub (.tmp 15) (.const (.int .i64 1)), none⟩,
       ⟨(some 5), .mv (.tmp 16), none⟩])
    .skip))
  (.seq (.reg [⟨(some 17), .mv (.tmp 5), none⟩,
     ⟨(some 4), .mv (.tmp 17), none⟩])
  .ret)))))
def fixed_Down.f (a0 : Int) (b1 : Int) : Option (Int) := if b1 < 1 then (some 0) else (if b1 = 0 then none else (if (Int.tmod a0 b1) < 0 then (some (wr64 ((wr64 (Int.tdiv a0 b1)) - 1))) else (some (wr64 (Int.tdiv a0 b1)))))
theorem fixed_Down.ok {S : Seal} {a0 : Int} {b1 : Int} {r0 : Int} (e : fixed_Down.f a0 b1 = some r0) :
    Cal Try.prog 61 [.int .i64 a0, .int .i64 b1] [] S fun v H' S' => v = .int .i64 r0 ∧ H' = [] ∧ S' = S := by
  unfold fixed_Down.f at e
  refine cal_of (c := c61) (N := 18) Try.func61 rfl rfl (by kernel_rfl) (rs := [.t 4]) (by kernel_rfl) (Nat.le_of_ble_eq_true rfl) ?_
  unfold c61
  refine w_seq ?_
  refine w_reg fun all => ?_
  refine t_qz 1 [0, 1] (σ' := [(0, .int .i64 a0), (1, .int .i64 b1)]) (by kernel_rfl) ?_
  refine t_end ?_
  show W _ _ _ _ _ _ _
  refine w_seq ?_
  refine w_seq ?_
  refine w_reg fun all => ?_
  by_cases c1 : b1 < 1
  · rw [if_pos c1] at e
    have c1b : (decide (b1 < 1)) = true := decide_eq_true c1
    refine t_qz 1 [0, 1, 6] (σ' := [(0, .int .i64 a0), (1, .int .i64 b1), (6, .int .i64 b1)]) (by kernel_rfl) ?_
    refine t_v (dv_quiet rfl (congrArg (fun t => some (Value.bool t)) c1b)) ?_
    refine t_keep [0, 1, 7] (σ' := [(0, .int .i64 a0), (1, .int .i64 b1), (7, .bool true)]) (by kernel_rfl) ?_
    refine t_end ?_
    show W _ _ _ _ _ _ _
    refine w_cond rfl (fun _ => ?_) (fun c_ => by cases c_)
    show W _ _ _ _ _ _ _
    refine w_seq ?_
    refine w_reg fun all => ?_
    refine t_qz 1 [4] (σ' := [(4, .int .i64 0)]) (by kernel_rfl) ?_
    refine t_end ?_
    show W _ _ _ _ _ _ _
    refine w_ret ?_
    obtain rfl := Option.some.inj e
    exact ⟨[.int .i64 0], [], S, ⟨rfl, trivial⟩, VS.none, rfl, rfl, rfl⟩
  · rw [if_neg c1] at e
    have c1b : (decide (b1 < 1)) = false := decide_eq_false c1
    refine t_qz 1 [0, 1, 6] (σ' := [(0, .int .i64 a0), (1, .int .i64 b1), (6, .int .i64 b1)]) (by kernel_rfl) ?_
    refine t_v (dv_quiet rfl (congrArg (fun t => some (Value.bool t)) c1b)) ?_
    refine t_keep [0, 1, 7] (σ' := [(0, .int .i64 a0), (1, .int .i64 b1), (7, .bool false)]) (by kernel_rfl) ?_
    refine t_end ?_
    show W _ _ _ _ _ _ _
    refine w_cond rfl (fun c_ => by cases c_) (fun _ => ?_)
    show W _ _ _ _ _ _ _
    refine w_skip ?_
    show W _ _ _ _ _ _ _
    refine w_seq ?_
    refine w_reg fun all => ?_
    have c2 : ¬ b1 = 0 := by
      intro h_; rw [if_pos h_] at e; cases e
    rw [if_neg c2] at e
    refine t_qz 2 [0, 1, 8, 9] (σ' := [(0, .int .i64 a0), (1, .int .i64 b1), (8, .int .i64 a0), (9, .int .i64 b1)]) (by kernel_rfl) ?_
    refine t_v (.quiet rfl (qv_quo rfl rfl c2)) ?_
    refine t_qz 1 [0, 1, 5] (σ' := [(0, .int .i64 a0), (1, .int .i64 b1), (5, .int .i64 (wr64 (Int.tdiv a0 b1)))]) (by kernel_rfl) ?_
    refine t_end ?_
    show W _ _ _ _ _ _ _
    refine w_seq ?_
    refine w_seq ?_
    refine w_reg fun all => ?_
    refine t_qz 2 [5, 11, 12] (σ' := [(5, .int .i64 (wr64 (Int.tdiv a0 b1))), (11, .int .i64 a0), (12, .int .i64 b1)]) (by kernel_rfl) ?_
    refine t_v (.quiet rfl (qv_rem rfl rfl c2)) ?_
    by_cases c3 : (Int.tmod a0 b1) < 0
    · rw [if_pos c3] at e
      have c3b : (decide ((Int.tmod a0 b1) < 0)) = true := decide_eq_true c3
      refine t_v (dv_quiet rfl (congrArg (fun t => some (Value.bool t)) c3b)) ?_
      refine t_keep [5, 14] (σ' := [(5, .int .i64 (wr64 (Int.tdiv a0 b1))), (14, .bool true)]) (by kernel_rfl) ?_
      refine t_end ?_
      show W _ _ _ _ _ _ _
      refine w_cond rfl (fun _ => ?_) (fun c_ => by cases c_)
      show W _ _ _ _ _ _ _
      refine w_reg fun all => ?_
      refine t_qz 3 [5] (σ' := [(5, .int .i64 (wr64 ((wr64 (Int.tdiv a0 b1)) - 1)))]) (by kernel_rfl) ?_
      refine t_end ?_
      show W _ _ _ _ _ _ _
      refine w_seq ?_
      refine w_reg fun all => ?_
      refine t_qz 2 [4] (σ' := [(4, .int .i64 (wr64 ((wr64 (Int.tdiv a0 b1)) - 1)))]) (by kernel_rfl) ?_
      refine t_end ?_
      show W _ _ _ _ _ _ _
      refine w_ret ?_
      obtain rfl := Option.some.inj e
      exact ⟨[.int .i64 (wr64 ((wr64 (Int.tdiv a0 b1)) - 1))], [], S, ⟨rfl, trivial⟩, VS.none, rfl, rfl, rfl⟩
    · rw [if_neg c3] at e
      have c3b : (decide ((Int.tmod a0 b1) < 0)) = false := decide_eq_false c3
      refine t_v (dv_quiet rfl (congrArg (fun t => some (Value.bool t)) c3b)) ?_
      refine t_keep [5, 14] (σ' := [(5, .int .i64 (wr64 (Int.tdiv a0 b1))), (14, .bool false)]) (by kernel_rfl) ?_
      refine t_end ?_
      show W _ _ _ _ _ _ _
      refine w_cond rfl (fun c_ => by cases c_) (fun _ => ?_)
      show W _ _ _ _ _ _ _
      refine w_skip ?_
      show W _ _ _ _ _ _ _
      refine w_seq ?_
      refine w_reg fun all => ?_
      refine t_qz 2 [4] (σ' := [(4, .int .i64 (wr64 (Int.tdiv a0 b1)))]) (by kernel_rfl) ?_
      refine t_end ?_
      show W _ _ _ _ _ _ _
      refine w_ret ?_
      obtain rfl := Option.some.inj e
      exact ⟨[.int .i64 (wr64 (Int.tdiv a0 b1))], [], S, ⟨rfl, trivial⟩, VS.none, rfl, rfl, rfl⟩

/-- fixed.Round -/
def c43 : C :=
  (.seq (.reg [⟨(some 4), .mv (.const (.int .i64 0)), none⟩])
  (.seq (.seq (.reg [⟨(some 7), .mv (.tmp 1), none⟩,
      ⟨(some 8), .bin .lss (.tmp 7) (.const (.int .i64 1)), none⟩])
   (.cond (.tmp 8)
    (.seq (.reg [⟨(some 4), .mv (.const (.int .i64 0)), none⟩])
     .ret)
    .skip))
  (.seq (.reg [⟨(some 9), .mv (.tmp 0), none⟩,
     ⟨(some 10), .mv (.tmp 1), none⟩,
     ⟨(some 11), .call 61 [(.tmp 9), (.tmp 10)], none⟩,
     ⟨(some 5), .mv (.tmp 11), none⟩])
  (.seq (.seq (.reg [⟨(some 12), .mv (.tmp 0), none⟩,
      ⟨(some 13), .mv (.tmp 5), none⟩,
      ⟨(some 14), .mv (.tmp 1), none⟩,
      ⟨(some 15), .bin .mul (.tmp 13) (.tmp 14), none⟩,
      ⟨(some 16), .bin .sub (.tmp 12) (.tmp 15), none⟩,
      ⟨(some 6), .mv (.tmp 16), none⟩])
   (.seq (.reg [⟨(some 17), .mv (.tmp 6), none⟩,
      ⟨(some 18), .mv (.tmp 1), none⟩,
      ⟨(some 19), .mv (.tmp 6), none⟩,
      ⟨(some 20), .bin .sub (.tmp 18) (.tmp 19), none⟩,
      ⟨(some 21), .bin .geq (.tmp 17) (.tmp 20), none⟩])
   (.cond (.tmp 21)
    (.reg [⟨(some 22), .mv (.tmp 5), none⟩,
       ⟨(some 23), .bin .add (.tmp 22) (.const (.int .i64 1)), none⟩,
       ⟨(some 5), .mv (.tmp 23), none⟩])
    .skip)))
  (.seq (.reg [⟨(some 24), .mv (.tmp 5), none⟩,
     ⟨(some 4), .mv (.tmp 24), none⟩])
  .ret)))))
def fixed_Round.f (a0 : Int) (b1 : Int) : Option (Int) := if b1 < 1 then (some 0) else ((fixed_Down.f a0 b1).bind fun t5 => (if (wr64 (a0 - (wr64 (t5 * b1)))) ≥ (wr64 (b1 - (wr64 (a0 - (wr64 (t5 * b1)))))) then (some (wr64 (t5 + 1))) else (some t5)))
theorem fixed_Round.ok {S : Seal} {a0 : Int} {b1 : Int} {r0 : Int} (e : fixed_Round.f a0 b1 = some r0) :
    Cal Try.prog 43 [.int .i64 a0, .int .i64 b1] [] S fun v H' S' => v = .int .i64 r0 ∧ H' = [] ∧ S' = S := by
  unfold fixed_Round.f at e
  refine cal_of (c := c43) (N := 25) Try.func43 rfl rfl (by kernel_rfl) (rs := [.t 4]) (by kernel_rfl) (Nat.le_of_ble_eq_true rfl) ?_
  unfold c43
  refine w_seq ?_
  refine w_reg fun all => ?_
  refine t_qz 1 [0, 1] (σ' := [(0, .int .i64 a0), (1, .int .i64 b1)]) (by kernel_rfl) ?_
  refine t_end ?_
  show W _ _ _ _ _ _ _
  refine w_seq ?_
  refine w_seq ?_
  refine w_reg fun all => ?_
  by_cases c4 : b1 < 1
  · rw [if_pos c4] at e
    have c4b : (decide (b1 < 1)) = true := decide_eq_true c4
    refine t_qz 1 [0, 1, 7] (σ' := [(0, .int .i64 a0), (1, .int .i64 b1), (7, .int .i64 b1)]) (by kernel_rfl) ?_
    refine t_v (dv_quiet rfl (congrArg (fun t => some (Value.bool t)) c4b)) ?_
    refine t_keep [0, 1, 8] (σ' := [(0, .int .i64 a0), (1, .int .i64 b1), (8, .bool true)]) (by kernel_rfl) ?_
    refine t_end ?_
    show W _ _ _ _ _ _ _
    refine w_cond rfl (fun _ => ?_) (fun c_ => by cases c_)
    show W _ _ _ _ _ _ _
    refine w_seq ?_
    refine w_reg fun all => ?_
    refine t_qz 1 [4] (σ' := [(4, .int .i64 0)]) (by kernel_rfl) ?_
    refine t_end ?_
    show W _ _ _ _ _ _ _
    refine w_ret ?_
    obtain rfl := Option.some.inj e
    exact ⟨[.int .i64 0], [], S, ⟨rfl, trivial⟩, VS.none, rfl, rfl, rfl⟩
  · rw [if_neg c4] at e
    have c4b : (decide (b1 < 1)) = false := decide_eq_false c4
    refine t_qz 1 [0, 1, 7] (σ' := [(0, .int .i64 a0), (1, .int .i64 b1), (7, .int .i64 b1)]) (by kernel_rfl) ?_
    refine t_v (dv_quiet rfl (congrArg (fun t => some (Value.bool t)) c4b)) ?_
    refine t_keep [0, 1, 8] (σ' := [(0, .int .i64 a0), (1, .int .i64 b1), (8, .bool false)]) (by kernel_rfl) ?_
    refine t_end ?_
    show W _ _ _ _ _ _ _
    refine w_cond rfl (fun c_ => by cases c_) (fun _ => ?_)
    show W _ _ _ _ _ _ _
    refine w_skip ?_
    show W _ _ _ _ _ _ _
    refine w_seq ?_
    refine w_reg fun all => ?_
    obtain ⟨t5, h6, e⟩ := bind_of e
    refine t_qz 2 [0, 1, 9, 10] (σ' := [(0, .int .i64 a0), (1, .int .i64 b1), (9, .int .i64 a0), (10, .int .i64 b1)]) (by kernel_rfl) ?_
    refine t_v (.call (vs := [.int .i64 a0, .int .i64 b1]) rfl rfl (by kernel_rfl) (fixed_Down.ok h6)) ?_
    refine t_qz 1 [0, 1, 5] (σ' := [(0, .int .i64 a0), (1, .int .i64 b1), (5, .int .i64 t5)]) (by kernel_rfl) ?_
    refine t_end ?_
    show W _ _ _ _ _ _ _
    refine w_seq ?_
    refine w_seq ?_
    refine w_reg fun all => ?_
    refine t_qz 6 [1, 5, 6] (σ' := [(1, .int .i64 b1), (5, .int .i64 t5), (6, .int .i64 (wr64 (a0 - (wr64 (t5 * b1)))))]) (by kernel_rfl) ?_
    refine t_end ?_
    show W _ _ _ _ _ _ _
    refine w_seq ?_
    refine w_reg fun all => ?_
    by_cases c7 : (wr64 (a0 - (wr64 (t5 * b1)))) ≥ (wr64 (b1 - (wr64 (a0 - (wr64 (t5 * b1))))))
    · rw [if_pos c7] at e
      have c7b : (decide ((wr64 (a0 - (wr64 (t5 * b1)))) ≥ (wr64 (b1 - (wr64 (a0 - (wr64 (t5 * b1)))))))) = true := decide_eq_true c7
      refine t_qz 4 [5, 17, 20] (σ' := [(5, .int .i64 t5), (17, .int .i64 (wr64 (a0 - (wr64 (t5 * b1))))), (20, .int .i64 (wr64 (b1 - (wr64 (a0 - (wr64 (t5 * b1)))))))]) (by kernel_rfl) ?_
      refine t_v (dv_quiet rfl (congrArg (fun t => some (Value.bool t)) c7b)) ?_
      refine t_keep [5, 21] (σ' := [(5, .int .i64 t5), (21, .bool true)]) (by kernel_rfl) ?_
      refine t_end ?_
      show W _ _ _ _ _ _ _
      refine w_cond rfl (fun _ => ?_) (fun c_ => by cases c_)
      show W _ _ _ _ _ _ _
      refine w_reg fun all => ?_
      refine t_qz 3 [5] (σ' := [(5, .int .i64 (wr64 (t5 + 1)))]) (by kernel_rfl) ?_
      refine t_end ?_
      show W _ _ _ _ _ _ _
      refine w_seq ?_
      refine w_reg fun all => ?_
      refine t_qz 2 [4] (σ' := [(4, .int .i64 (wr64 (t5 + 1)))]) (by kernel_rfl) ?_
      refine t_end ?_
      show W _ _ _ _ _ _ _
      refine w_ret ?_
      obtain rfl := Option.some.inj e
      exact ⟨[.int .i64 (wr64 (t5 + 1))], [], S, ⟨rfl, trivial⟩, VS.none, rfl, rfl, rfl⟩
    · rw [if_neg c7] at e
      have c7b : (decide ((wr64 (a0 - (wr64 (t5 * b1)))) ≥ (wr64 (b1 - (wr64 (a0 - (wr64 (t5 * b1)))))))) = false := decide_eq_false c7
      refine t_qz 4 [5, 17, 20] (σ' := [(5, .int .i64 t5), (17, .int .i64 (wr64 (a0 - (wr64 (t5 * b1))))), (20, .int .i64 (wr64 (b1 - (wr64 (a0 - (wr64 (t5 * b1)))))))]) (by kernel_rfl) ?_
      refine t_v (dv_quiet rfl (congrArg (fun t => some (Value.bool t)) c7b)) ?_
      refine t_keep [5, 21] (σ' := [(5, .int .i64 t5), (21, .bool false)]) (by kernel_rfl) ?_
      refine t_end ?_
      show W _ _ _ _ _ _ _
      refine w_cond rfl (fun c_ => by cases c_) (fun _ => ?_)
      show W _ _ _ _ _ _ _
      refine w_skip ?_
      show W _ _ _ _ _ _ _
      refine w_seq ?_
      refine w_reg fun all => ?_
      refine t_qz 2 [4] (σ' := [(4, .int .i64 t5)]) (by kernel_rfl) ?_
      refine t_end ?_
      show W _ _ _ _ _ _ _
      refine w_ret ?_
      obtain rfl := Option.some.inj e
      exact ⟨[.int .i64 t5], [], S, ⟨rfl, trivial⟩, VS.none, rfl, rfl, rfl⟩

/-- blend.Over -/
def c24 : C :=
  (.seq (.reg [⟨(some 3), .box (.tmp 0), none⟩,
     ⟨(some 4), .box (.tmp 1), none⟩,
     ⟨(some 6), .new [(.int .i64 0), (.int .i64 0), (.int .i64 0), (.int .i64 0)], none⟩])
  (.seq (.reg [⟨(some 10), .ixa 1 4 (.tmp 4) (.const (.int .i64 3)), none⟩,
     ⟨(some 11), .ld none (.tmp 10), none⟩,
     ⟨(some 12), .mv (.tmp 2), none⟩,
     ⟨(some 13), .bin .mul (.tmp 11) (.tmp 12), none⟩,
     ⟨(some 14), .call 43 [(.tmp 13), (.const (.int .i64 64))], none⟩,
     ⟨(some 7), .mv (.tmp 14), none⟩])
  (.seq (.reg [⟨(some 15), .ixa 1 4 (.tmp 4) (.const (.int .i64 3)), none⟩,
     ⟨none, .st 1 (.tmp 15) (.const (.int .i64 65535)), none⟩])
  (.seq (.reg [⟨(some 8), .new [(.int .i64 0), (.int .i64 0), (.int .i64 0), (.int .i64 0)], none⟩])
  (.seq (.seq (.reg [⟨(some 16), .mv (.const (.int .i64 0)), none⟩])
   (.block 0 (.loop (.seq (.reg [⟨(some 17), .bin .lss (.tmp 16) (.const (.int .i64 4)), none⟩])
     (.seq (.cond (.tmp 17)
       .skip
       (.exit 0))
     (.seq (.block 1 (.seq (.reg [⟨(some 18), .mv (.tmp 16), none⟩,
          ⟨(some 9), .mv (.tmp 18), none⟩])
       (.drw [⟨(some 19), .mv (.tmp 9), none⟩,
         ⟨(some 20), .mv (.tmp 9), none⟩,
         ⟨(some 21), .ixa 1 4 (.tmp 4) (.tmp 20), none⟩,
         ⟨(some 22), .ld none (.tmp 21), none⟩,
         ⟨(some 23), .mv (.tmp 7), none⟩,
         ⟨(some 24), .bin .mul (.tmp 22) (.tmp 23), none⟩,
         ⟨(some 25), .call 43 [(.tmp 24), (.const (.int .i64 65535))], none⟩,
         ⟨(some 26), .mv (.tmp 9), none⟩,
         ⟨(some 27), .ixa 1 4 (.tmp 3) (.tmp 26), none⟩,
         ⟨(some 28), .ld none (.tmp 27), none⟩,
         ⟨(some 29), .mv (.tmp 7), none⟩,
         ⟨(some 30), .bin .sub (.const (.int .i64 65535)) (.tmp 29), none⟩,
         ⟨(some 31), .bin .mul (.tmp 28) (.tmp 30), none⟩,
         ⟨(some 32), .call 43 [(.tmp 31), (.const (.int .i64 65535))], none⟩,
         ⟨(some 33), .bin .add (.tmp 25) (.tmp 32), none⟩,
         ⟨(some 34), .mm false [(.tmp 33), (.const (.int .i64 65535))], none⟩,
         ⟨(some 35), .ixa 1 4 (.tmp 8) (.tmp 19), none⟩,
         ⟨none, .st 1 (.tmp 35) (.tmp 34), none⟩] [[], [], [1], [2], [], [3, 4], [5], [], [7], [8], [], [10], [9, 11], [12, 6], [6, 13], [14], [0, 0, 1, 2, 3, 4, 5, 6, 7, 8, 9, 10, 11, 12, 13, 14, 15], [16, 15, 13, 0, 1, 2, 3, 4, 5, 6, 7, 8, 9, 10, 11, 12, 13, 14, 15]])))
     (.reg [⟨(some 36), .bin .add (.tmp 16) (.const (.int .i64 1)), none⟩,
       ⟨(some 16), .mv (.tmp 36), none⟩])))))))
  (.seq (.reg [⟨(some 37), .ld (some 4) (.tmp 8), none⟩,
     ⟨none, .st 4 (.tmp 6) (.tmp 37), none⟩])
  .ret))))))
def blend_Over.f (under0_0 : Int) (under0_1 : Int) (under0_2 : Int) (under0_3 : Int) (c1_0 : Int) (c1_1 : Int) (c1_2 : Int) (c1_3 : Int) (cover2 : Int) : Option (Int × Int × Int × Int) := (fixed_Round.f (wr64 (c1_3 * cover2)) 64).bind fun t11 => ((fixed_Round.f (wr64 (c1_0 * t11)) 65535).bind fun t14 => ((fixed_Round.f (wr64 (under0_0 * (wr64 (65535 - t11)))) 65535).bind fun t16 => ((fixed_Round.f (wr64 (c1_1 * t11)) 65535).bind fun t18 => ((fixed_Round.f (wr64 (under0_1 * (wr64 (65535 - t11)))) 65535).bind fun t20 => ((fixed_Round.f (wr64 (c1_2 * t11)) 65535).bind fun t22 => ((fixed_Round.f (wr64 (under0_2 * (wr64 (65535 - t11)))) 65535).bind fun t24 => ((fixed_Round.f (wr64 (65535 * t11)) 65535).bind fun t26 => ((fixed_Round.f (wr64 (under0_3 * (wr64 (65535 - t11)))) 65535).bind fun t28 => (some (mn (wr64 (t14 + t16)) 65535, mn (wr64 (t18 + t20)) 65535, mn (wr64 (t22 + t24)) 65535, mn (wr64 (t26 + t28)) 65535))))))))))
theorem blend_Over.ok {S : Seal} {under0_0 : Int} {under0_1 : Int} {under0_2 : Int} {under0_3 : Int} {c1_0 : Int} {c1_1 : Int} {c1_2 : Int} {c1_3 : Int} {cover2 : Int} {r0 : Int} {r1 : Int} {r2 : Int} {r3 : Int} (e : blend_Over.f under0_0 under0_1 under0_2 under0_3 c1_0 c1_1 c1_2 c1_3 cover2 = some (r0, r1, r2, r3)) :
    Cal Try.prog 24 [.agg #[.int .i64 under0_0, .int .i64 under0_1, .int .i64 under0_2, .int .i64 under0_3], .agg #[.int .i64 c1_0, .int .i64 c1_1, .int .i64 c1_2, .int .i64 c1_3], .int .i64 cover2] [] S fun v H' S' => v = .agg #[.int .i64 r0, .int .i64 r1, .int .i64 r2, .int .i64 r3] ∧ H' = [] ∧ S' = S := by
  unfold blend_Over.f at e
  refine cal_of (c := c24) (N := 38) Try.func24 rfl rfl (by kernel_rfl) (rs := [.cn 4 6]) (by kernel_rfl) (Nat.le_of_ble_eq_true rfl) ?_
  unfold c24
  refine w_seq ?_
  refine w_reg fun all => ?_
  refine t_a (.box rfl rfl rfl) fun b8 fb8 sb8 => ?_
  refine t_a (.box rfl rfl rfl) fun b9 fb9 sb9 => ?_
  refine t_a (.new rfl rfl) fun b10 fb10 sb10 => ?_
  refine t_keep [2, 3, 4, 6] (σ' := [(2, .int .i64 cover2), (3, .pointer (some ⟨b8, 0, none⟩)), (4, .pointer (some ⟨b9, 0, none⟩)), (6, .pointer (some ⟨b10, 0, none⟩))]) (by kernel_rfl) ?_
  refine t_end ?_
  show W _ _ _ _ _ _ _
  refine w_seq ?_
  refine w_reg fun all => ?_
  refine t_qz 1 [2, 3, 4, 6, 10] (σ' := [(2, .int .i64 cover2), (3, .pointer (some ⟨b8, 0, none⟩)), (4, .pointer (some ⟨b9, 0, none⟩)), (6, .pointer (some ⟨b10, 0, none⟩)), (10, .pointer (some ⟨b9, 3, none⟩))]) (by kernel_rfl) ?_
  refine t_v (.ld1 rfl rfl rfl (.at 1 rfl rfl)) ?_
  obtain ⟨t11, h12, e⟩ := bind_of e
  refine t_qz 2 [3, 4, 6, 13] (σ' := [(3, .pointer (some ⟨b8, 0, none⟩)), (4, .pointer (some ⟨b9, 0, none⟩)), (6, .pointer (some ⟨b10, 0, none⟩)), (13, .int .i64 (wr64 (c1_3 * cover2)))]) (by kernel_rfl) ?_
  refine t_v (.call (vs := [.int .i64 (wr64 (c1_3 * cover2)), .int .i64 64]) rfl rfl (by kernel_rfl) (fixed_Round.ok h12)) ?_
  refine t_qz 1 [3, 4, 6, 7] (σ' := [(3, .pointer (some ⟨b8, 0, none⟩)), (4, .pointer (some ⟨b9, 0, none⟩)), (6, .pointer (some ⟨b10, 0, none⟩)), (7, .int .i64 t11)]) (by kernel_rfl) ?_
  refine t_end ?_
  show W _ _ _ _ _ _ _
  refine w_seq ?_
  refine w_reg fun all => ?_
  refine t_qz 1 [3, 4, 6, 7, 15] (σ' := [(3, .pointer (some ⟨b8, 0, none⟩)), (4, .pointer (some ⟨b9, 0, none⟩)), (6, .pointer (some ⟨b10, 0, none⟩)), (7, .int .i64 t11), (15, .pointer (some ⟨b9, 3, none⟩))]) (by kernel_rfl) ?_
  refine t_sti 1 (cs := [.int .i64 c1_0, .int .i64 c1_1, .int .i64 c1_2, .int .i64 65535]) rfl rfl rfl rfl rfl rfl rfl rfl rfl ?_
  refine t_keep [3, 4, 6, 7] (σ' := [(3, .pointer (some ⟨b8, 0, none⟩)), (4, .pointer (some ⟨b9, 0, none⟩)), (6, .pointer (some ⟨b10, 0, none⟩)), (7, .int .i64 t11)]) (by kernel_rfl) ?_
  refine t_end ?_
  show W _ _ _ _ _ _ _
  refine w_seq ?_
  refine w_reg fun all => ?_
  refine t_a (.new rfl rfl) fun b13 fb13 sb13 => ?_
  refine t_keep [3, 4, 6, 7, 8] (σ' := [(3, .pointer (some ⟨b8, 0, none⟩)), (4, .pointer (some ⟨b9, 0, none⟩)), (6, .pointer (some ⟨b10, 0, none⟩)), (7, .int .i64 t11), (8, .pointer (some ⟨b13, 0, none⟩))]) (by kernel_rfl) ?_
  refine t_end ?_
  show W _ _ _ _ _ _ _
  refine w_seq ?_
  refine w_seq ?_
  refine w_reg fun all => ?_
  refine t_qz 1 [3, 4, 6, 7, 8, 16] (σ' := [(3, .pointer (some ⟨b8, 0, none⟩)), (4, .pointer (some ⟨b9, 0, none⟩)), (6, .pointer (some ⟨b10, 0, none⟩)), (7, .int .i64 t11), (8, .pointer (some ⟨b13, 0, none⟩)), (16, .int .i64 0)]) (by kernel_rfl) ?_
  refine t_end ?_
  show W _ _ _ _ _ _ _
  refine w_block ?_
  refine w_lun 5 ?_
  refine wl_step ?_
  refine w_seq ?_
  refine w_reg fun all => ?_
  refine t_qz 1 [3, 4, 6, 7, 8, 16, 17] (σ' := [(3, .pointer (some ⟨b8, 0, none⟩)), (4, .pointer (some ⟨b9, 0, none⟩)), (6, .pointer (some ⟨b10, 0, none⟩)), (7, .int .i64 t11), (8, .pointer (some ⟨b13, 0, none⟩)), (16, .int .i64 0), (17, .bool true)]) (by kernel_rfl) ?_
  refine t_end ?_
  show W _ _ _ _ _ _ _
  refine w_seq ?_
  refine w_cond rfl (fun _ => ?_) (fun c_ => by cases c_)
  show W _ _ _ _ _ _ _
  refine w_skip ?_
  show W _ _ _ _ _ _ _
  refine w_seq ?_
  refine w_block ?_
  refine w_seq ?_
  refine w_reg fun all => ?_
  refine t_qz 2 [3, 4, 6, 7, 8, 9, 16] (σ' := [(3, .pointer (some ⟨b8, 0, none⟩)), (4, .pointer (some ⟨b9, 0, none⟩)), (6, .pointer (some ⟨b10, 0, none⟩)), (7, .int .i64 t11), (8, .pointer (some ⟨b13, 0, none⟩)), (9, .int .i64 0), (16, .int .i64 0)]) (by kernel_rfl) ?_
  refine t_end ?_
  show W _ _ _ _ _ _ _
  obtain ⟨t14, h15, e⟩ := bind_of e
  obtain ⟨t16, h17, e⟩ := bind_of e
  refine w_drwE mixed 17 [.v (.int .i64 0), .v (.int .i64 0), .v (.pointer (some ⟨b9, 0, none⟩)), .v (.int .i64 c1_0), .v (.int .i64 t11), .v (.int .i64 (wr64 (c1_0 * t11))), .v (.int .i64 t14), .v (.int .i64 0), .v (.pointer (some ⟨b8, 0, none⟩)), .v (.int .i64 under0_0), .v (.int .i64 t11), .v (.int .i64 (wr64 (65535 - t11))), .v (.int .i64 (wr64 (under0_0 * (wr64 (65535 - t11))))), .v (.int .i64 t16), .v (.int .i64 (wr64 (t14 + t16))), .v (.int .i64 (mn (wr64 (t14 + t16)) 65535)), .v (.pointer (some ⟨b13, 0, none⟩))] (by kernel_rfl) ?_ ?_
  · refine DI.sq 3 (by kernel_rfl) rfl ?_
    refine .cons (.ld1 rfl rfl rfl (.at 2 rfl rfl)) ?_
    refine DI.sq 2 (by kernel_rfl) rfl ?_
    refine .cons (.call (vs := [.int .i64 (wr64 (c1_0 * t11)), .int .i64 65535]) rfl rfl (by kernel_rfl) (fixed_Round.ok h15)) ?_
    refine DI.sq 2 (by kernel_rfl) rfl ?_
    refine .cons (.ld1 rfl rfl rfl (.at 3 rfl rfl)) ?_
    refine DI.sq 3 (by kernel_rfl) rfl ?_
    refine .cons (.call (vs := [.int .i64 (wr64 (under0_0 * (wr64 (65535 - t11)))), .int .i64 65535]) rfl rfl (by kernel_rfl) (fixed_Round.ok h17)) ?_
    refine DI.sq 3 (by kernel_rfl) rfl ?_
    exact .nil
  refine fk_q 17 [3, 4, 6, 7, 8, 16, 34, 35] (σ' := [(3, .pointer (some ⟨b8, 0, none⟩)), (4, .pointer (some ⟨b9, 0, none⟩)), (6, .pointer (some ⟨b10, 0, none⟩)), (7, .int .i64 t11), (8, .pointer (some ⟨b13, 0, none⟩)), (16, .int .i64 0), (34, .int .i64 (mn (wr64 (t14 + t16)) 65535)), (35, .pointer (some ⟨b13, 0, none⟩))]) t_more (by kernel_rfl) ?_
  refine fk_nil fun all => ?_
  refine t_sti 0 (cs := [.int .i64 (mn (wr64 (t14 + t16)) 65535), .int .i64 0, .int .i64 0, .int .i64 0]) rfl rfl rfl rfl rfl rfl rfl rfl rfl ?_
  refine t_keep [3, 4, 6, 7, 8, 16] (σ' := [(3, .pointer (some ⟨b8, 0, none⟩)), (4, .pointer (some ⟨b9, 0, none⟩)), (6, .pointer (some ⟨b10, 0, none⟩)), (7, .int .i64 t11), (8, .pointer (some ⟨b13, 0, none⟩)), (16, .int .i64 0)]) (by kernel_rfl) ?_
  refine t_end ?_
  show W _ _ _ _ _ _ _
  refine w_reg fun all => ?_
  refine t_qz 2 [3, 4, 6, 7, 8, 16] (σ' := [(3, .pointer (some ⟨b8, 0, none⟩)), (4, .pointer (some ⟨b9, 0, none⟩)), (6, .pointer (some ⟨b10, 0, none⟩)), (7, .int .i64 t11), (8, .pointer (some ⟨b13, 0, none⟩)), (16, .int .i64 1)]) (by kernel_rfl) ?_
  refine t_end ?_
  show WL _ _ _ _ _ _ _ _
  refine wl_step ?_
  refine w_seq ?_
  refine w_reg fun all => ?_
  refine t_qz 1 [3, 4, 6, 7, 8, 16, 17] (σ' := [(3, .pointer (some ⟨b8, 0, none⟩)), (4, .pointer (some ⟨b9, 0, none⟩)), (6, .pointer (some ⟨b10, 0, none⟩)), (7, .int .i64 t11), (8, .pointer (some ⟨b13, 0, none⟩)), (16, .int .i64 1), (17, .bool true)]) (by kernel_rfl) ?_
  refine t_end ?_
  show W _ _ _ _ _ _ _
  refine w_seq ?_
  refine w_cond rfl (fun _ => ?_) (fun c_ => by cases c_)
  show W _ _ _ _ _ _ _
  refine w_skip ?_
  show W _ _ _ _ _ _ _
  refine w_seq ?_
  refine w_block ?_
  refine w_seq ?_
  refine w_reg fun all => ?_
  refine t_qz 2 [3, 4, 6, 7, 8, 9, 16] (σ' := [(3, .pointer (some ⟨b8, 0, none⟩)), (4, .pointer (some ⟨b9, 0, none⟩)), (6, .pointer (some ⟨b10, 0, none⟩)), (7, .int .i64 t11), (8, .pointer (some ⟨b13, 0, none⟩)), (9, .int .i64 1), (16, .int .i64 1)]) (by kernel_rfl) ?_
  refine t_end ?_
  show W _ _ _ _ _ _ _
  obtain ⟨t18, h19, e⟩ := bind_of e
  obtain ⟨t20, h21, e⟩ := bind_of e
  refine w_drwE mixed 17 [.v (.int .i64 1), .v (.int .i64 1), .v (.pointer (some ⟨b9, 1, none⟩)), .v (.int .i64 c1_1), .v (.int .i64 t11), .v (.int .i64 (wr64 (c1_1 * t11))), .v (.int .i64 t18), .v (.int .i64 1), .v (.pointer (some ⟨b8, 1, none⟩)), .v (.int .i64 under0_1), .v (.int .i64 t11), .v (.int .i64 (wr64 (65535 - t11))), .v (.int .i64 (wr64 (under0_1 * (wr64 (65535 - t11))))), .v (.int .i64 t20), .v (.int .i64 (wr64 (t18 + t20))), .v (.int .i64 (mn (wr64 (t18 + t20)) 65535)), .v (.pointer (some ⟨b13, 1, none⟩))] (by kernel_rfl) ?_ ?_
  · refine DI.sq 3 (by kernel_rfl) rfl ?_
    refine .cons (.ld1 rfl rfl rfl (.at 2 rfl rfl)) ?_
    refine DI.sq 2 (by kernel_rfl) rfl ?_
    refine .cons (.call (vs := [.int .i64 (wr64 (c1_1 * t11)), .int .i64 65535]) rfl rfl (by kernel_rfl) (fixed_Round.ok h19)) ?_
    refine DI.sq 2 (by kernel_rfl) rfl ?_
    refine .cons (.ld1 rfl rfl rfl (.at 3 rfl rfl)) ?_
    refine DI.sq 3 (by kernel_rfl) rfl ?_
    refine .cons (.call (vs := [.int .i64 (wr64 (under0_1 * (wr64 (65535 - t11)))), .int .i64 65535]) rfl rfl (by kernel_rfl) (fixed_Round.ok h21)) ?_
    refine DI.sq 3 (by kernel_rfl) rfl ?_
    exact .nil
  refine fk_q 17 [3, 4, 6, 7, 8, 16, 34, 35] (σ' := [(3, .pointer (some ⟨b8, 0, none⟩)), (4, .pointer (some ⟨b9, 0, none⟩)), (6, .pointer (some ⟨b10, 0, none⟩)), (7, .int .i64 t11), (8, .pointer (some ⟨b13, 0, none⟩)), (16, .int .i64 1), (34, .int .i64 (mn (wr64 (t18 + t20)) 65535)), (35, .pointer (some ⟨b13, 1, none⟩))]) t_more (by kernel_rfl) ?_
  refine fk_nil fun all => ?_
  refine t_sti 0 (cs := [.int .i64 (mn (wr64 (t14 + t16)) 65535), .int .i64 (mn (wr64 (t18 + t20)) 65535), .int .i64 0, .int .i64 0]) rfl rfl rfl rfl rfl rfl rfl rfl rfl ?_
  refine t_keep [3, 4, 6, 7, 8, 16] (σ' := [(3, .pointer (some ⟨b8, 0, none⟩)), (4, .pointer (some ⟨b9, 0, none⟩)), (6, .pointer (some ⟨b10, 0, none⟩)), (7, .int .i64 t11), (8, .pointer (some ⟨b13, 0, none⟩)), (16, .int .i64 1)]) (by kernel_rfl) ?_
  refine t_end ?_
  show W _ _ _ _ _ _ _
  refine w_reg fun all => ?_
  refine t_qz 2 [3, 4, 6, 7, 8, 16] (σ' := [(3, .pointer (some ⟨b8, 0, none⟩)), (4, .pointer (some ⟨b9, 0, none⟩)), (6, .pointer (some ⟨b10, 0, none⟩)), (7, .int .i64 t11), (8, .pointer (some ⟨b13, 0, none⟩)), (16, .int .i64 2)]) (by kernel_rfl) ?_
  refine t_end ?_
  show WL _ _ _ _ _ _ _ _
  refine wl_step ?_
  refine w_seq ?_
  refine w_reg fun all => ?_
  refine t_qz 1 [3, 4, 6, 7, 8, 16, 17] (σ' := [(3, .pointer (some ⟨b8, 0, none⟩)), (4, .pointer (some ⟨b9, 0, none⟩)), (6, .pointer (some ⟨b10, 0, none⟩)), (7, .int .i64 t11), (8, .pointer (some ⟨b13, 0, none⟩)), (16, .int .i64 2), (17, .bool true)]) (by kernel_rfl) ?_
  refine t_end ?_
  show W _ _ _ _ _ _ _
  refine w_seq ?_
  refine w_cond rfl (fun _ => ?_) (fun c_ => by cases c_)
  show W _ _ _ _ _ _ _
  refine w_skip ?_
  show W _ _ _ _ _ _ _
  refine w_seq ?_
  refine w_block ?_
  refine w_seq ?_
  refine w_reg fun all => ?_
  refine t_qz 2 [3, 4, 6, 7, 8, 9, 16] (σ' := [(3, .pointer (some ⟨b8, 0, none⟩)), (4, .pointer (some ⟨b9, 0, none⟩)), (6, .pointer (some ⟨b10, 0, none⟩)), (7, .int .i64 t11), (8, .pointer (some ⟨b13, 0, none⟩)), (9, .int .i64 2), (16, .int .i64 2)]) (by kernel_rfl) ?_
  refine t_end ?_
  show W _ _ _ _ _ _ _
  obtain ⟨t22, h23, e⟩ := bind_of e
  obtain ⟨t24, h25, e⟩ := bind_of e
  refine w_drwE mixed 17 [.v (.int .i64 2), .v (.int .i64 2), .v (.pointer (some ⟨b9, 2, none⟩)), .v (.int .i64 c1_2), .v (.int .i64 t11), .v (.int .i64 (wr64 (c1_2 * t11))), .v (.int .i64 t22), .v (.int .i64 2), .v (.pointer (some ⟨b8, 2, none⟩)), .v (.int .i64 under0_2), .v (.int .i64 t11), .v (.int .i64 (wr64 (65535 - t11))), .v (.int .i64 (wr64 (under0_2 * (wr64 (65535 - t11))))), .v (.int .i64 t24), .v (.int .i64 (wr64 (t22 + t24))), .v (.int .i64 (mn (wr64 (t22 + t24)) 65535)), .v (.pointer (some ⟨b13, 2, none⟩))] (by kernel_rfl) ?_ ?_
  · refine DI.sq 3 (by kernel_rfl) rfl ?_
    refine .cons (.ld1 rfl rfl rfl (.at 2 rfl rfl)) ?_
    refine DI.sq 2 (by kernel_rfl) rfl ?_
    refine .cons (.call (vs := [.int .i64 (wr64 (c1_2 * t11)), .int .i64 65535]) rfl rfl (by kernel_rfl) (fixed_Round.ok h23)) ?_
    refine DI.sq 2 (by kernel_rfl) rfl ?_
    refine .cons (.ld1 rfl rfl rfl (.at 3 rfl rfl)) ?_
    refine DI.sq 3 (by kernel_rfl) rfl ?_
    refine .cons (.call (vs := [.int .i64 (wr64 (under0_2 * (wr64 (65535 - t11)))), .int .i64 65535]) rfl rfl (by kernel_rfl) (fixed_Round.ok h25)) ?_
    refine DI.sq 3 (by kernel_rfl) rfl ?_
    exact .nil
  refine fk_q 17 [3, 4, 6, 7, 8, 16, 34, 35] (σ' := [(3, .pointer (some ⟨b8, 0, none⟩)), (4, .pointer (some ⟨b9, 0, none⟩)), (6, .pointer (some ⟨b10, 0, none⟩)), (7, .int .i64 t11), (8, .pointer (some ⟨b13, 0, none⟩)), (16, .int .i64 2), (34, .int .i64 (mn (wr64 (t22 + t24)) 65535)), (35, .pointer (some ⟨b13, 2, none⟩))]) t_more (by kernel_rfl) ?_
  refine fk_nil fun all => ?_
  refine t_sti 0 (cs := [.int .i64 (mn (wr64 (t14 + t16)) 65535), .int .i64 (mn (wr64 (t18 + t20)) 65535), .int .i64 (mn (wr64 (t22 + t24)) 65535), .int .i64 0]) rfl rfl rfl rfl rfl rfl rfl rfl rfl ?_
  refine t_keep [3, 4, 6, 7, 8, 16] (σ' := [(3, .pointer (some ⟨b8, 0, none⟩)), (4, .pointer (some ⟨b9, 0, none⟩)), (6, .pointer (some ⟨b10, 0, none⟩)), (7, .int .i64 t11), (8, .pointer (some ⟨b13, 0, none⟩)), (16, .int .i64 2)]) (by kernel_rfl) ?_
  refine t_end ?_
  show W _ _ _ _ _ _ _
  refine w_reg fun all => ?_
  refine t_qz 2 [3, 4, 6, 7, 8, 16] (σ' := [(3, .pointer (some ⟨b8, 0, none⟩)), (4, .pointer (some ⟨b9, 0, none⟩)), (6, .pointer (some ⟨b10, 0, none⟩)), (7, .int .i64 t11), (8, .pointer (some ⟨b13, 0, none⟩)), (16, .int .i64 3)]) (by kernel_rfl) ?_
  refine t_end ?_
  show WL _ _ _ _ _ _ _ _
  refine wl_step ?_
  refine w_seq ?_
  refine w_reg fun all => ?_
  refine t_qz 1 [3, 4, 6, 7, 8, 16, 17] (σ' := [(3, .pointer (some ⟨b8, 0, none⟩)), (4, .pointer (some ⟨b9, 0, none⟩)), (6, .pointer (some ⟨b10, 0, none⟩)), (7, .int .i64 t11), (8, .pointer (some ⟨b13, 0, none⟩)), (16, .int .i64 3), (17, .bool true)]) (by kernel_rfl) ?_
  refine t_end ?_
  show W _ _ _ _ _ _ _
  refine w_seq ?_
  refine w_cond rfl (fun _ => ?_) (fun c_ => by cases c_)
  show W _ _ _ _ _ _ _
  refine w_skip ?_
  show W _ _ _ _ _ _ _
  refine w_seq ?_
  refine w_block ?_
  refine w_seq ?_
  refine w_reg fun all => ?_
  refine t_qz 2 [3, 4, 6, 7, 8, 9, 16] (σ' := [(3, .pointer (some ⟨b8, 0, none⟩)), (4, .pointer (some ⟨b9, 0, none⟩)), (6, .pointer (some ⟨b10, 0, none⟩)), (7, .int .i64 t11), (8, .pointer (some ⟨b13, 0, none⟩)), (9, .int .i64 3), (16, .int .i64 3)]) (by kernel_rfl) ?_
  refine t_end ?_
  show W _ _ _ _ _ _ _
  obtain ⟨t26, h27, e⟩ := bind_of e
  obtain ⟨t28, h29, e⟩ := bind_of e
  refine w_drwE mixed 17 [.v (.int .i64 3), .v (.int .i64 3), .v (.pointer (some ⟨b9, 3, none⟩)), .v (.int .i64 65535), .v (.int .i64 t11), .v (.int .i64 (wr64 (65535 * t11))), .v (.int .i64 t26), .v (.int .i64 3), .v (.pointer (some ⟨b8, 3, none⟩)), .v (.int .i64 under0_3), .v (.int .i64 t11), .v (.int .i64 (wr64 (65535 - t11))), .v (.int .i64 (wr64 (under0_3 * (wr64 (65535 - t11))))), .v (.int .i64 t28), .v (.int .i64 (wr64 (t26 + t28))), .v (.int .i64 (mn (wr64 (t26 + t28)) 65535)), .v (.pointer (some ⟨b13, 3, none⟩))] (by kernel_rfl) ?_ ?_
  · refine DI.sq 3 (by kernel_rfl) rfl ?_
    refine .cons (.ld1 rfl rfl rfl (.at 2 rfl rfl)) ?_
    refine DI.sq 2 (by kernel_rfl) rfl ?_
    refine .cons (.call (vs := [.int .i64 (wr64 (65535 * t11)), .int .i64 65535]) rfl rfl (by kernel_rfl) (fixed_Round.ok h27)) ?_
    refine DI.sq 2 (by kernel_rfl) rfl ?_
    refine .cons (.ld1 rfl rfl rfl (.at 3 rfl rfl)) ?_
    refine DI.sq 3 (by kernel_rfl) rfl ?_
    refine .cons (.call (vs := [.int .i64 (wr64 (under0_3 * (wr64 (65535 - t11)))), .int .i64 65535]) rfl rfl (by kernel_rfl) (fixed_Round.ok h29)) ?_
    refine DI.sq 3 (by kernel_rfl) rfl ?_
    exact .nil
  refine fk_q 17 [3, 4, 6, 7, 8, 16, 34, 35] (σ' := [(3, .pointer (some ⟨b8, 0, none⟩)), (4, .pointer (some ⟨b9, 0, none⟩)), (6, .pointer (some ⟨b10, 0, none⟩)), (7, .int .i64 t11), (8, .pointer (some ⟨b13, 0, none⟩)), (16, .int .i64 3), (34, .int .i64 (mn (wr64 (t26 + t28)) 65535)), (35, .pointer (some ⟨b13, 3, none⟩))]) t_more (by kernel_rfl) ?_
  refine fk_nil fun all => ?_
  refine t_sti 0 (cs := [.int .i64 (mn (wr64 (t14 + t16)) 65535), .int .i64 (mn (wr64 (t18 + t20)) 65535), .int .i64 (mn (wr64 (t22 + t24)) 65535), .int .i64 (mn (wr64 (t26 + t28)) 65535)]) rfl rfl rfl rfl rfl rfl rfl rfl rfl ?_
  refine t_keep [3, 4, 6, 7, 8, 16] (σ' := [(3, .pointer (some ⟨b8, 0, none⟩)), (4, .pointer (some ⟨b9, 0, none⟩)), (6, .pointer (some ⟨b10, 0, none⟩)), (7, .int .i64 t11), (8, .pointer (some ⟨b13, 0, none⟩)), (16, .int .i64 3)]) (by kernel_rfl) ?_
  refine t_end ?_
  show W _ _ _ _ _ _ _
  refine w_reg fun all => ?_
  refine t_qz 2 [3, 4, 6, 7, 8, 16] (σ' := [(3, .pointer (some ⟨b8, 0, none⟩)), (4, .pointer (some ⟨b9, 0, none⟩)), (6, .pointer (some ⟨b10, 0, none⟩)), (7, .int .i64 t11), (8, .pointer (some ⟨b13, 0, none⟩)), (16, .int .i64 4)]) (by kernel_rfl) ?_
  refine t_end ?_
  show WL _ _ _ _ _ _ _ _
  refine wl_step ?_
  refine w_seq ?_
  refine w_reg fun all => ?_
  refine t_qz 1 [3, 4, 6, 7, 8, 16, 17] (σ' := [(3, .pointer (some ⟨b8, 0, none⟩)), (4, .pointer (some ⟨b9, 0, none⟩)), (6, .pointer (some ⟨b10, 0, none⟩)), (7, .int .i64 t11), (8, .pointer (some ⟨b13, 0, none⟩)), (16, .int .i64 4), (17, .bool false)]) (by kernel_rfl) ?_
  refine t_end ?_
  show W _ _ _ _ _ _ _
  refine w_seq ?_
  refine w_cond rfl (fun c_ => by cases c_) (fun _ => ?_)
  show W _ _ _ _ _ _ _
  refine w_exit ?_
  show W _ _ _ _ _ _ _
  refine w_seq ?_
  refine w_reg fun all => ?_
  refine t_v (.ldn rfl rfl rfl (.at 0 rfl rfl)) ?_
  refine t_sti 1 (cs := [.int .i64 (mn (wr64 (t14 + t16)) 65535), .int .i64 (mn (wr64 (t18 + t20)) 65535), .int .i64 (mn (wr64 (t22 + t24)) 65535), .int .i64 (mn (wr64 (t26 + t28)) 65535)]) rfl rfl rfl rfl rfl rfl rfl rfl rfl ?_
  refine t_keep [6] (σ' := [(6, .pointer (some ⟨b10, 0, none⟩))]) (by kernel_rfl) ?_
  refine t_end ?_
  show W _ _ _ _ _ _ _
  refine w_ret ?_
  simp only [Option.some.injEq, Prod.mk.injEq] at e
  obtain ⟨rfl, rfl, rfl, rfl⟩ := e
  exact ⟨[.agg #[.int .i64 (mn (wr64 (t14 + t16)) 65535), .int .i64 (mn (wr64 (t18 + t20)) 65535), .int .i64 (mn (wr64 (t22 + t24)) 65535), .int .i64 (mn (wr64 (t26 + t28)) 65535)]], [], S, ⟨⟨_, _, _, rfl, .at 1 rfl rfl, rfl⟩, trivial⟩, VS.none, rfl, rfl, rfl⟩

/-- blend.Final -/
def c26 : C :=
  (.seq (.reg [⟨(some 1), .box (.tmp 0), none⟩,
     ⟨(some 2), .new [(.int .u8 0), (.int .u8 0), (.int .u8 0), (.int .u8 0)], none⟩])
  (.seq (.reg [⟨(some 5), .ixa 1 4 (.tmp 1) (.const (.int .i64 3)), none⟩,
     ⟨(some 6), .ld none (.tmp 5), none⟩,
     ⟨(some 7), .call 43 [(.tmp 6), (.const (.int .i64 257))], none⟩,
     ⟨(some 8), .cnv .u8 (.tmp 7), none⟩,
     ⟨(some 9), .bld [(.int .u8 0), (.int .u8 0), (.int .u8 0), (.int .u8 0)] [(3, 1, (.tmp 8))], none⟩,
     ⟨(some 3), .new [(.int .u8 0), (.int .u8 0), (.int .u8 0), (.int .u8 0)], none⟩,
     ⟨none, .st 4 (.tmp 3) (.tmp 9), none⟩])
  (.seq (.seq (.reg [⟨(some 10), .mv (.const (.int .i64 0)), none⟩])
   (.block 0 (.loop (.seq (.reg [⟨(some 11), .bin .lss (.tmp 10) (.const (.int .i64 3)), none⟩])
     (.seq (.cond (.tmp 11)
       .skip
       (.exit 0))
     (.seq (.block 1 (.seq (.reg [⟨(some 12), .mv (.tmp 10), none⟩,
          ⟨(some 4), .mv (.tmp 12), none⟩])
       (.drw [⟨(some 13), .mv (.tmp 4), none⟩,
         ⟨(some 14), .mv (.tmp 4), none⟩,
         ⟨(some 15), .ixa 1 4 (.tmp 1) (.tmp 14), none⟩,
         ⟨(some 16), .ld none (.tmp 15), none⟩,
         ⟨(some 17), .bin .mul (.tmp 16) (.const (.int .i64 255)), none⟩,
         ⟨(some 18), .ixa 1 4 (.tmp 1) (.const (.int .i64 3)), none⟩,
         ⟨(some 19), .ld none (.tmp 18), none⟩,
         ⟨(some 20), .call 43 [(.tmp 17), (.tmp 19)], none⟩,
         ⟨(some 21), .mm false [(.tmp 20), (.const (.int .i64 255))], none⟩,
         ⟨(some 22), .cnv .u8 (.tmp 21), none⟩,
         ⟨(some 23), .ixa 1 4 (.tmp 3) (.tmp 13), none⟩,
         ⟨none, .st 1 (.tmp 23) (.tmp 22), none⟩] [[], [], [1], [2], [3], [], [5], [4, 6], [7], [8], [0, 0, 1, 2, 3, 4, 5, 6, 7, 8, 9], [10, 9, 7, 0, 1, 2, 3, 4, 5, 6, 7, 8, 9]])))
     (.reg [⟨(some 24), .bin .add (.tmp 10) (.const (.int .i64 1)), none⟩,
       ⟨(some 10), .mv (.tmp 24), none⟩])))))))
  (.seq (.reg [⟨(some 25), .ld (some 4) (.tmp 3), none⟩,
     ⟨none, .st 4 (.tmp 2) (.tmp 25), none⟩])
  .ret))))
def blend_Final.f (v0_0 : Int) (v0_1 : Int) (v0_2 : Int) (v0_3 : Int) : Option (Int × Int × Int × Int) := (fixed_Round.f v0_3 257).bind fun t32 => ((fixed_Round.f (wr64 (v0_0 * 255)) v0_3).bind fun t35 => ((fixed_Round.f (wr64 (v0_1 * 255)) v0_3).bind fun t37 => ((fixed_Round.f (wr64 (v0_2 * 255)) v0_3).bind fun t39 => (some (wru8 (mn t35 255), wru8 (mn t37 255), wru8 (mn t39 255), wru8 t32)))))
theorem blend_Final.ok {S : Seal} {v0_0 : Int} {v0_1 : Int} {v0_2 : Int} {v0_3 : Int} {r0 : Int} {r1 : Int} {r2 : Int} {r3 : Int} (e : blend_Final.f v0_0 v0_1 v0_2 v0_3 = some (r0, r1, r2, r3)) :
    Cal Try.prog 26 [.agg #[.int .i64 v0_0, .int .i64 v0_1, .int .i64 v0_2, .int .i64 v0_3]] [] S fun v H' S' => v = .agg #[.int .u8 r0, .int .u8 r1, .int .u8 r2, .int .u8 r3] ∧ H' = [] ∧ S' = S := by
  unfold blend_Final.f at e
  refine cal_of (c := c26) (N := 26) Try.func26 rfl rfl (by kernel_rfl) (rs := [.cn 4 2]) (by kernel_rfl) (Nat.le_of_ble_eq_true rfl) ?_
  unfold c26
  refine w_seq ?_
  refine w_reg fun all => ?_
  refine t_a (.box rfl rfl rfl) fun b30 fb30 sb30 => ?_
  refine t_a (.new rfl rfl) fun b31 fb31 sb31 => ?_
  refine t_keep [1, 2] (σ' := [(1, .pointer (some ⟨b30, 0, none⟩)), (2, .pointer (some ⟨b31, 0, none⟩))]) (by kernel_rfl) ?_
  refine t_end ?_
  show W _ _ _ _ _ _ _
  refine w_seq ?_
  refine w_reg fun all => ?_
  refine t_qz 1 [1, 2, 5] (σ' := [(1, .pointer (some ⟨b30, 0, none⟩)), (2, .pointer (some ⟨b31, 0, none⟩)), (5, .pointer (some ⟨b30, 3, none⟩))]) (by kernel_rfl) ?_
  refine t_v (.ld1 rfl rfl rfl (.at 1 rfl rfl)) ?_
  obtain ⟨t32, h33, e⟩ := bind_of e
  refine t_v (.call (vs := [.int .i64 v0_3, .int .i64 257]) rfl rfl (by kernel_rfl) (fixed_Round.ok h33)) ?_
  refine t_qz 2 [1, 2, 9] (σ' := [(1, .pointer (some ⟨b30, 0, none⟩)), (2, .pointer (some ⟨b31, 0, none⟩)), (9, .agg #[.int .u8 0, .int .u8 0, .int .u8 0, .int .u8 (wru8 t32)])]) (by kernel_rfl) ?_
  refine t_a (.new rfl rfl) fun b34 fb34 sb34 => ?_
  refine t_sti 0 (cs := [.int .u8 0, .int .u8 0, .int .u8 0, .int .u8 (wru8 t32)]) rfl rfl rfl rfl rfl rfl rfl rfl rfl ?_
  refine t_keep [1, 2, 3] (σ' := [(1, .pointer (some ⟨b30, 0, none⟩)), (2, .pointer (some ⟨b31, 0, none⟩)), (3, .pointer (some ⟨b34, 0, none⟩))]) (by kernel_rfl) ?_
  refine t_end ?_
  show W _ _ _ _ _ _ _
  refine w_seq ?_
  refine w_seq ?_
  refine w_reg fun all => ?_
  refine t_qz 1 [1, 2, 3, 10] (σ' := [(1, .pointer (some ⟨b30, 0, none⟩)), (2, .pointer (some ⟨b31, 0, none⟩)), (3, .pointer (some ⟨b34, 0, none⟩)), (10, .int .i64 0)]) (by kernel_rfl) ?_
  refine t_end ?_
  show W _ _ _ _ _ _ _
  refine w_block ?_
  refine w_lun 5 ?_
  refine wl_step ?_
  refine w_seq ?_
  refine w_reg fun all => ?_
  refine t_qz 1 [1, 2, 3, 10, 11] (σ' := [(1, .pointer (some ⟨b30, 0, none⟩)), (2, .pointer (some ⟨b31, 0, none⟩)), (3, .pointer (some ⟨b34, 0, none⟩)), (10, .int .i64 0), (11, .bool true)]) (by kernel_rfl) ?_
  refine t_end ?_
  show W _ _ _ _ _ _ _
  refine w_seq ?_
  refine w_cond rfl (fun _ => ?_) (fun c_ => by cases c_)
  show W _ _ _ _ _ _ _
  refine w_skip ?_
  show W _ _ _ _ _ _ _
  refine w_seq ?_
  refine w_block ?_
  refine w_seq ?_
  refine w_reg fun all => ?_
  refine t_qz 2 [1, 2, 3, 4, 10] (σ' := [(1, .pointer (some ⟨b30, 0, none⟩)), (2, .pointer (some ⟨b31, 0, none⟩)), (3, .pointer (some ⟨b34, 0, none⟩)), (4, .int .i64 0), (10, .int .i64 0)]) (by kernel_rfl) ?_
  refine t_end ?_
  show W _ _ _ _ _ _ _
  obtain ⟨t35, h36, e⟩ := bind_of e
  refine w_drwE mixed 11 [.v (.int .i64 0), .v (.int .i64 0), .v (.pointer (some ⟨b30, 0, none⟩)), .v (.int .i64 v0_0), .v (.int .i64 (wr64 (v0_0 * 255))), .v (.pointer (some ⟨b30, 3, none⟩)), .v (.int .i64 v0_3), .v (.int .i64 t35), .v (.int .i64 (mn t35 255)), .v (.int .u8 (wru8 (mn t35 255))), .v (.pointer (some ⟨b34, 0, none⟩))] (by kernel_rfl) ?_ ?_
  · refine DI.sq 3 (by kernel_rfl) rfl ?_
    refine .cons (.ld1 rfl rfl rfl (.at 2 rfl rfl)) ?_
    refine DI.sq 2 (by kernel_rfl) rfl ?_
    refine .cons (.ld1 rfl rfl rfl (.at 2 rfl rfl)) ?_
    refine .cons (.call (vs := [.int .i64 (wr64 (v0_0 * 255)), .int .i64 v0_3]) rfl rfl (by kernel_rfl) (fixed_Round.ok h36)) ?_
    refine DI.sq 3 (by kernel_rfl) rfl ?_
    exact .nil
  refine fk_q 11 [1, 2, 3, 10, 22, 23] (σ' := [(1, .pointer (some ⟨b30, 0, none⟩)), (2, .pointer (some ⟨b31, 0, none⟩)), (3, .pointer (some ⟨b34, 0, none⟩)), (10, .int .i64 0), (22, .int .u8 (wru8 (mn t35 255))), (23, .pointer (some ⟨b34, 0, none⟩))]) t_more (by kernel_rfl) ?_
  refine fk_nil fun all => ?_
  refine t_sti 0 (cs := [.int .u8 (wru8 (mn t35 255)), .int .u8 0, .int .u8 0, .int .u8 (wru8 t32)]) rfl rfl rfl rfl rfl rfl rfl rfl rfl ?_
  refine t_keep [1, 2, 3, 10] (σ' := [(1, .pointer (some ⟨b30, 0, none⟩)), (2, .pointer (some ⟨b31, 0, none⟩)), (3, .pointer (some ⟨b34, 0, none⟩)), (10, .int .i64 0)]) (by kernel_rfl) ?_
  refine t_end ?_
  show W _ _ _ _ _ _ _
  refine w_reg fun all => ?_
  refine t_qz 2 [1, 2, 3, 10] (σ' := [(1, .pointer (some ⟨b30, 0, none⟩)), (2, .pointer (some ⟨b31, 0, none⟩)), (3, .pointer (some ⟨b34, 0, none⟩)), (10, .int .i64 1)]) (by kernel_rfl) ?_
  refine t_end ?_
  show WL _ _ _ _ _ _ _ _
  refine wl_step ?_
  refine w_seq ?_
  refine w_reg fun all => ?_
  refine t_qz 1 [1, 2, 3, 10, 11] (σ' := [(1, .pointer (some ⟨b30, 0, none⟩)), (2, .pointer (some ⟨b31, 0, none⟩)), (3, .pointer (some ⟨b34, 0, none⟩)), (10, .int .i64 1), (11, .bool true)]) (by kernel_rfl) ?_
  refine t_end ?_
  show W _ _ _ _ _ _ _
  refine w_seq ?_
  refine w_cond rfl (fun _ => ?_) (fun c_ => by cases c_)
  show W _ _ _ _ _ _ _
  refine w_skip ?_
  show W _ _ _ _ _ _ _
  refine w_seq ?_
  refine w_block ?_
  refine w_seq ?_
  refine w_reg fun all => ?_
  refine t_qz 2 [1, 2, 3, 4, 10] (σ' := [(1, .pointer (some ⟨b30, 0, none⟩)), (2, .pointer (some ⟨b31, 0, none⟩)), (3, .pointer (some ⟨b34, 0, none⟩)), (4, .int .i64 1), (10, .int .i64 1)]) (by kernel_rfl) ?_
  refine t_end ?_
  show W _ _ _ _ _ _ _
  obtain ⟨t37, h38, e⟩ := bind_of e
  refine w_drwE mixed 11 [.v (.int .i64 1), .v (.int .i64 1), .v (.pointer (some ⟨b30, 1, none⟩)), .v (.int .i64 v0_1), .v (.int .i64 (wr64 (v0_1 * 255))), .v (.pointer (some ⟨b30, 3, none⟩)), .v (.int .i64 v0_3), .v (.int .i64 t37), .v (.int .i64 (mn t37 255)), .v (.int .u8 (wru8 (mn t37 255))), .v (.pointer (some ⟨b34, 1, none⟩))] (by kernel_rfl) ?_ ?_
  · refine DI.sq 3 (by kernel_rfl) rfl ?_
    refine .cons (.ld1 rfl rfl rfl (.at 2 rfl rfl)) ?_
    refine DI.sq 2 (by kernel_rfl) rfl ?_
    refine .cons (.ld1 rfl rfl rfl (.at 2 rfl rfl)) ?_
    refine .cons (.call (vs := [.int .i64 (wr64 (v0_1 * 255)), .int .i64 v0_3]) rfl rfl (by kernel_rfl) (fixed_Round.ok h38)) ?_
    refine DI.sq 3 (by kernel_rfl) rfl ?_
    exact .nil
  refine fk_q 11 [1, 2, 3, 10, 22, 23] (σ' := [(1, .pointer (some ⟨b30, 0, none⟩)), (2, .pointer (some ⟨b31, 0, none⟩)), (3, .pointer (some ⟨b34, 0, none⟩)), (10, .int .i64 1), (22, .int .u8 (wru8 (mn t37 255))), (23, .pointer (some ⟨b34, 1, none⟩))]) t_more (by kernel_rfl) ?_
  refine fk_nil fun all => ?_
  refine t_sti 0 (cs := [.int .u8 (wru8 (mn t35 255)), .int .u8 (wru8 (mn t37 255)), .int .u8 0, .int .u8 (wru8 t32)]) rfl rfl rfl rfl rfl rfl rfl rfl rfl ?_
  refine t_keep [1, 2, 3, 10] (σ' := [(1, .pointer (some ⟨b30, 0, none⟩)), (2, .pointer (some ⟨b31, 0, none⟩)), (3, .pointer (some ⟨b34, 0, none⟩)), (10, .int .i64 1)]) (by kernel_rfl) ?_
  refine t_end ?_
  show W _ _ _ _ _ _ _
  refine w_reg fun all => ?_
  refine t_qz 2 [1, 2, 3, 10] (σ' := [(1, .pointer (some ⟨b30, 0, none⟩)), (2, .pointer (some ⟨b31, 0, none⟩)), (3, .pointer (some ⟨b34, 0, none⟩)), (10, .int .i64 2)]) (by kernel_rfl) ?_
  refine t_end ?_
  show WL _ _ _ _ _ _ _ _
  refine wl_step ?_
  refine w_seq ?_
  refine w_reg fun all => ?_
  refine t_qz 1 [1, 2, 3, 10, 11] (σ' := [(1, .pointer (some ⟨b30, 0, none⟩)), (2, .pointer (some ⟨b31, 0, none⟩)), (3, .pointer (some ⟨b34, 0, none⟩)), (10, .int .i64 2), (11, .bool true)]) (by kernel_rfl) ?_
  refine t_end ?_
  show W _ _ _ _ _ _ _
  refine w_seq ?_
  refine w_cond rfl (fun _ => ?_) (fun c_ => by cases c_)
  show W _ _ _ _ _ _ _
  refine w_skip ?_
  show W _ _ _ _ _ _ _
  refine w_seq ?_
  refine w_block ?_
  refine w_seq ?_
  refine w_reg fun all => ?_
  refine t_qz 2 [1, 2, 3, 4, 10] (σ' := [(1, .pointer (some ⟨b30, 0, none⟩)), (2, .pointer (some ⟨b31, 0, none⟩)), (3, .pointer (some ⟨b34, 0, none⟩)), (4, .int .i64 2), (10, .int .i64 2)]) (by kernel_rfl) ?_
  refine t_end ?_
  show W _ _ _ _ _ _ _
  obtain ⟨t39, h40, e⟩ := bind_of e
  refine w_drwE mixed 11 [.v (.int .i64 2), .v (.int .i64 2), .v (.pointer (some ⟨b30, 2, none⟩)), .v (.int .i64 v0_2), .v (.int .i64 (wr64 (v0_2 * 255))), .v (.pointer (some ⟨b30, 3, none⟩)), .v (.int .i64 v0_3), .v (.int .i64 t39), .v (.int .i64 (mn t39 255)), .v (.int .u8 (wru8 (mn t39 255))), .v (.pointer (some ⟨b34, 2, none⟩))] (by kernel_rfl) ?_ ?_
  · refine DI.sq 3 (by kernel_rfl) rfl ?_
    refine .cons (.ld1 rfl rfl rfl (.at 2 rfl rfl)) ?_
    refine DI.sq 2 (by kernel_rfl) rfl ?_
    refine .cons (.ld1 rfl rfl rfl (.at 2 rfl rfl)) ?_
    refine .cons (.call (vs := [.int .i64 (wr64 (v0_2 * 255)), .int .i64 v0_3]) rfl rfl (by kernel_rfl) (fixed_Round.ok h40)) ?_
    refine DI.sq 3 (by kernel_rfl) rfl ?_
    exact .nil
  refine fk_q 11 [1, 2, 3, 10, 22, 23] (σ' := [(1, .pointer (some ⟨b30, 0, none⟩)), (2, .pointer (some ⟨b31, 0, none⟩)), (3, .pointer (some ⟨b34, 0, none⟩)), (10, .int .i64 2), (22, .int .u8 (wru8 (mn t39 255))), (23, .pointer (some ⟨b34, 2, none⟩))]) t_more (by kernel_rfl) ?_
  refine fk_nil fun all => ?_
  refine t_sti 0 (cs := [.int .u8 (wru8 (mn t35 255)), .int .u8 (wru8 (mn t37 255)), .int .u8 (wru8 (mn t39 255)), .int .u8 (wru8 t32)]) rfl rfl rfl rfl rfl rfl rfl rfl rfl ?_
  refine t_keep [1, 2, 3, 10] (σ' := [(1, .pointer (some ⟨b30, 0, none⟩)), (2, .pointer (some ⟨b31, 0, none⟩)), (3, .pointer (some ⟨b34, 0, none⟩)), (10, .int .i64 2)]) (by kernel_rfl) ?_
  refine t_end ?_
  show W _ _ _ _ _ _ _
  refine w_reg fun all => ?_
  refine t_qz 2 [1, 2, 3, 10] (σ' := [(1, .pointer (some ⟨b30, 0, none⟩)), (2, .pointer (some ⟨b31, 0, none⟩)), (3, .pointer (some ⟨b34, 0, none⟩)), (10, .int .i64 3)]) (by kernel_rfl) ?_
  refine t_end ?_
  show WL _ _ _ _ _ _ _ _
  refine wl_step ?_
  refine w_seq ?_
  refine w_reg fun all => ?_
  refine t_qz 1 [1, 2, 3, 10, 11] (σ' := [(1, .pointer (some ⟨b30, 0, none⟩)), (2, .pointer (some ⟨b31, 0, none⟩)), (3, .pointer (some ⟨b34, 0, none⟩)), (10, .int .i64 3), (11, .bool false)]) (by kernel_rfl) ?_
  refine t_end ?_
  show W _ _ _ _ _ _ _
  refine w_seq ?_
  refine w_cond rfl (fun c_ => by cases c_) (fun _ => ?_)
  show W _ _ _ _ _ _ _
  refine w_exit ?_
  show W _ _ _ _ _ _ _
  refine w_seq ?_
  refine w_reg fun all => ?_
  refine t_v (.ldn rfl rfl rfl (.at 0 rfl rfl)) ?_
  refine t_sti 1 (cs := [.int .u8 (wru8 (mn t35 255)), .int .u8 (wru8 (mn t37 255)), .int .u8 (wru8 (mn t39 255)), .int .u8 (wru8 t32)]) rfl rfl rfl rfl rfl rfl rfl rfl rfl ?_
  refine t_keep [2] (σ' := [(2, .pointer (some ⟨b31, 0, none⟩))]) (by kernel_rfl) ?_
  refine t_end ?_
  show W _ _ _ _ _ _ _
  refine w_ret ?_
  simp only [Option.some.injEq, Prod.mk.injEq] at e
  obtain ⟨rfl, rfl, rfl, rfl⟩ := e
  exact ⟨[.agg #[.int .u8 (wru8 (mn t35 255)), .int .u8 (wru8 (mn t37 255)), .int .u8 (wru8 (mn t39 255)), .int .u8 (wru8 t32)]], [], S, ⟨⟨_, _, _, rfl, .at 1 rfl rfl, rfl⟩, trivial⟩, VS.none, rfl, rfl, rfl⟩

/-- glyphiclaw26.first -/
def c22 : C :=
  (.seq (.reg [⟨(some 0), .mv (.const (.bool false)), none⟩])
  (.seq (.reg [⟨(some 1), .bld [(.int .i64 0), (.int .i64 0), (.int .i64 0), (.int .i64 0)] [(0, 1, (.const (.int .i64 1))), (1, 1, (.const (.int .i64 2))), (2, 1, (.const (.int .i64 3))), (3, 1, (.const (.int .i64 4)))], none⟩,
     ⟨(some 2), .bld [(.int .i64 0), (.int .i64 0), (.int .i64 0), (.int .i64 0)] [(0, 1, (.const (.int .i64 9))), (1, 1, (.const (.int .i64 9))), (2, 1, (.const (.int .i64 9))), (3, 1, (.const (.int .i64 9)))], none⟩,
     ⟨(some 3), .call 24 [(.tmp 1), (.tmp 2), (.const (.int .i64 0))], none⟩,
     ⟨(some 4), .bld [(.int .i64 0), (.int .i64 0), (.int .i64 0), (.int .i64 0)] [(0, 1, (.const (.int .i64 1))), (1, 1, (.const (.int .i64 2))), (2, 1, (.const (.int .i64 3))), (3, 1, (.const (.int .i64 4)))], none⟩,
     ⟨(some 5), .eqt false 31 (.tmp 3) (.tmp 4), none⟩,
     ⟨(some 6), .mv (.tmp 5), none⟩,
     ⟨(some 7), .bld [(.int .i64 0), (.int .i64 0), (.int .i64 0), (.int .i64 0)] [], (some (6, true))⟩,
     ⟨(some 8), .call 26 [(.tmp 7)], (some (6, true))⟩,
     ⟨(some 9), .bld [(.int .u8 0), (.int .u8 0), (.int .u8 0), (.int .u8 0)] [], (some (6, true))⟩,
     ⟨(some 10), .eqt false 34 (.tmp 8) (.tmp 9), (some (6, true))⟩,
     ⟨(some 11), .pk (.tmp 6) (.tmp 10) (.const (.bool false)), none⟩,
     ⟨(some 0), .mv (.tmp 11), none⟩])
  .ret))
def glyphiclaw26_first.f  : Option (Bool) := (blend_Over.f 1 2 3 4 9 9 9 9 0).bind fun (t41, t42, t43, t44) => (if ((t41 == 1) && ((t42 == 2) && ((t43 == 3) && (t44 == 4)))) = true then ((blend_Final.f 0 0 0 0).bind fun (t47, t48, t49, t50) => (some ((t47 == 0) && ((t48 == 0) && ((t49 == 0) && (t50 == 0)))))) else (some false))
theorem glyphiclaw26_first.ok {S : Seal}  {r0 : Bool} (e : glyphiclaw26_first.f  = some r0) :
    Cal Try.prog 22 [] [] S fun v H' S' => v = .bool r0 ∧ H' = [] ∧ S' = S := by
  unfold glyphiclaw26_first.f at e
  refine cal_of (c := c22) (N := 12) Try.func22 rfl rfl (by kernel_rfl) (rs := [.t 0]) (by kernel_rfl) (Nat.le_of_ble_eq_true rfl) ?_
  unfold c22
  refine w_seq ?_
  refine w_reg fun all => ?_
  refine t_qz 1 [] (σ' := []) (by kernel_rfl) ?_
  refine t_end ?_
  show W _ _ _ _ _ _ _
  refine w_seq ?_
  refine w_reg fun all => ?_
  obtain ⟨⟨t41, t42, t43, t44⟩, h45, e⟩ := bind_of e
  try dsimp only at e
  refine t_qz 2 [1, 2] (σ' := [(1, .agg #[.int .i64 1, .int .i64 2, .int .i64 3, .int .i64 4]), (2, .agg #[.int .i64 9, .int .i64 9, .int .i64 9, .int .i64 9])]) (by kernel_rfl) ?_
  refine t_v (.call (vs := [.agg #[.int .i64 1, .int .i64 2, .int .i64 3, .int .i64 4], .agg #[.int .i64 9, .int .i64 9, .int .i64 9, .int .i64 9], .int .i64 0]) rfl rfl (by kernel_rfl) (blend_Over.ok h45)) ?_
  by_cases c46 : ((t41 == 1) && ((t42 == 2) && ((t43 == 3) && (t44 == 4)))) = true
  · rw [if_pos c46] at e
    have c46b : ((t41 == 1) && ((t42 == 2) && ((t43 == 3) && (t44 == 4)))) = true := c46
    refine t_qz 1 [3, 4] (σ' := [(3, .agg #[.int .i64 t41, .int .i64 t42, .int .i64 t43, .int .i64 t44]), (4, .agg #[.int .i64 1, .int .i64 2, .int .i64 3, .int .i64 4])]) (by kernel_rfl) ?_
    refine t_v (.eqt (a := .agg #[.int .i64 t41, .int .i64 t42, .int .i64 t43, .int .i64 t44]) (b := .agg #[.int .i64 1, .int .i64 2, .int .i64 3, .int .i64 4]) (r := (t41 == 1) && ((t42 == 2) && ((t43 == 3) && (t44 == 4)))) rfl rfl rfl rfl (by kernel_rfl) (bnk c46b rfl)) ?_
    obtain ⟨⟨t47, t48, t49, t50⟩, h51, e⟩ := bind_of e
    try dsimp only at e
    refine t_qz 2 [6, 7] (σ' := [(6, .bool true), (7, .agg #[.int .i64 0, .int .i64 0, .int .i64 0, .int .i64 0])]) (by kernel_rfl) ?_
    refine t_v (.call (vs := [.agg #[.int .i64 0, .int .i64 0, .int .i64 0, .int .i64 0]]) rfl rfl (by kernel_rfl) (blend_Final.ok h51)) ?_
    refine t_qz 1 [6, 8, 9] (σ' := [(6, .bool true), (8, .agg #[.int .u8 t47, .int .u8 t48, .int .u8 t49, .int .u8 t50]), (9, .agg #[.int .u8 0, .int .u8 0, .int .u8 0, .int .u8 0])]) (by kernel_rfl) ?_
    refine t_v (.eqt (a := .agg #[.int .u8 t47, .int .u8 t48, .int .u8 t49, .int .u8 t50]) (b := .agg #[.int .u8 0, .int .u8 0, .int .u8 0, .int .u8 0]) (r := (t47 == 0) && ((t48 == 0) && ((t49 == 0) && (t50 == 0)))) rfl rfl rfl rfl (by kernel_rfl) (bnf _)) ?_
    refine t_qz 2 [0] (σ' := [(0, .bool ((t47 == 0) && ((t48 == 0) && ((t49 == 0) && (t50 == 0)))))]) (by kernel_rfl) ?_
    refine t_end ?_
    show W _ _ _ _ _ _ _
    refine w_ret ?_
    obtain rfl := Option.some.inj e
    exact ⟨[.bool ((t47 == 0) && ((t48 == 0) && ((t49 == 0) && (t50 == 0))))], [], S, ⟨rfl, trivial⟩, VS.none, rfl, rfl, rfl⟩
  · rw [if_neg c46] at e
    have c46b : ((t41 == 1) && ((t42 == 2) && ((t43 == 3) && (t44 == 4)))) = false := Bool.eq_false_iff.mpr c46
    refine t_qz 1 [3, 4] (σ' := [(3, .agg #[.int .i64 t41, .int .i64 t42, .int .i64 t43, .int .i64 t44]), (4, .agg #[.int .i64 1, .int .i64 2, .int .i64 3, .int .i64 4])]) (by kernel_rfl) ?_
    refine t_v (.eqt (a := .agg #[.int .i64 t41, .int .i64 t42, .int .i64 t43, .int .i64 t44]) (b := .agg #[.int .i64 1, .int .i64 2, .int .i64 3, .int .i64 4]) (r := (t41 == 1) && ((t42 == 2) && ((t43 == 3) && (t44 == 4)))) rfl rfl rfl rfl (by kernel_rfl) (bnk c46b rfl)) ?_
    refine t_qz 7 [0] (σ' := [(0, .bool false)]) (by kernel_rfl) ?_
    refine t_end ?_
    show W _ _ _ _ _ _ _
    refine w_ret ?_
    obtain rfl := Option.some.inj e
    exact ⟨[.bool false], [], S, ⟨rfl, trivial⟩, VS.none, rfl, rfl, rfl⟩

/-- glyphiclaw26.part -/
def c42 : C :=
  (.seq (.reg [⟨(some 2), .mv (.const (.int .i64 0)), none⟩])
  (.seq (.reg [⟨(some 3), .mv (.tmp 0), none⟩,
     ⟨(some 4), .bin .and (.tmp 3) (.const (.int .i64 65535)), none⟩,
     ⟨(some 2), .mv (.tmp 4), none⟩])
  .ret))
def glyphiclaw26_part.f (n0 : Int) : Option (Int) := some (bits .and .i64 n0 65535)
theorem glyphiclaw26_part.ok {S : Seal} {n0 : Int} {r0 : Int} (e : glyphiclaw26_part.f n0 = some r0) :
    Cal Try.prog 42 [.int .i64 n0] [] S fun v H' S' => v = .int .i64 r0 ∧ H' = [] ∧ S' = S := by
  unfold glyphiclaw26_part.f at e
  refine cal_of (c := c42) (N := 5) Try.func42 rfl rfl (by kernel_rfl) (rs := [.t 2]) (by kernel_rfl) (Nat.le_of_ble_eq_true rfl) ?_
  unfold c42
  refine w_seq ?_
  refine w_reg fun all => ?_
  refine t_qz 1 [0] (σ' := [(0, .int .i64 n0)]) (by kernel_rfl) ?_
  refine t_end ?_
  show W _ _ _ _ _ _ _
  refine w_seq ?_
  refine w_reg fun all => ?_
  refine t_qz 3 [2] (σ' := [(2, .int .i64 (bits .and .i64 n0 65535))]) (by kernel_rfl) ?_
  refine t_end ?_
  show W _ _ _ _ _ _ _
  refine w_ret ?_
  obtain rfl := Option.some.inj e
  exact ⟨[.int .i64 (bits .and .i64 n0 65535)], [], S, ⟨rfl, trivial⟩, VS.none, rfl, rfl, rfl⟩

/-- glyphiclaw26.parts -/
def c23 : C :=
  (.seq (.reg [⟨(some 8), .new [(.int .i64 0), (.int .i64 0), (.int .i64 0), (.int .i64 0)], none⟩])
  (.seq (.reg [⟨(some 9), .mv (.tmp 0), none⟩,
     ⟨(some 10), .call 42 [(.tmp 9)], none⟩,
     ⟨(some 11), .mv (.tmp 1), none⟩,
     ⟨(some 12), .call 42 [(.tmp 11)], none⟩,
     ⟨(some 13), .mv (.tmp 2), none⟩,
     ⟨(some 14), .call 42 [(.tmp 13)], none⟩,
     ⟨(some 15), .mv (.tmp 3), none⟩,
     ⟨(some 16), .call 42 [(.tmp 15)], none⟩,
     ⟨(some 17), .bld [(.int .i64 0), (.int .i64 0), (.int .i64 0), (.int .i64 0)] [(0, 1, (.tmp 10)), (1, 1, (.tmp 12)), (2, 1, (.tmp 14)), (3, 1, (.tmp 16))], none⟩,
     ⟨none, .st 4 (.tmp 8) (.tmp 17), none⟩])
  .ret))
def glyphiclaw26_parts.f (a0 : Int) (b1 : Int) (c2 : Int) (d3 : Int) : Option (Int × Int × Int × Int) := (glyphiclaw26_part.f a0).bind fun t53 => ((glyphiclaw26_part.f b1).bind fun t55 => ((glyphiclaw26_part.f c2).bind fun t57 => ((glyphiclaw26_part.f d3).bind fun t59 => (some (t53, t55, t57, t59)))))
theorem glyphiclaw26_parts.ok {S : Seal} {a0 : Int} {b1 : Int} {c2 : Int} {d3 : Int} {r0 : Int} {r1 : Int} {r2 : Int} {r3 : Int} (e : glyphiclaw26_parts.f a0 b1 c2 d3 = some (r0, r1, r2, r3)) :
    Cal Try.prog 23 [.int .i64 a0, .int .i64 b1, .int .i64 c2, .int .i64 d3] [] S fun v H' S' => v = .agg #[.int .i64 r0, .int .i64 r1, .int .i64 r2, .int .i64 r3] ∧ H' = [] ∧ S' = S := by
  unfold glyphiclaw26_parts.f at e
  refine cal_of (c := c23) (N := 18) Try.func23 rfl rfl (by kernel_rfl) (rs := [.cn 4 8]) (by kernel_rfl) (Nat.le_of_ble_eq_true rfl) ?_
  unfold c23
  refine w_seq ?_
  refine w_reg fun all => ?_
  refine t_a (.new rfl rfl) fun b52 fb52 sb52 => ?_
  refine t_keep [0, 1, 2, 3, 8] (σ' := [(0, .int .i64 a0), (1, .int .i64 b1), (2, .int .i64 c2), (3, .int .i64 d3), (8, .pointer (some ⟨b52, 0, none⟩))]) (by kernel_rfl) ?_
  refine t_end ?_
  show W _ _ _ _ _ _ _
  refine w_seq ?_
  refine w_reg fun all => ?_
  obtain ⟨t53, h54, e⟩ := bind_of e
  refine t_qz 1 [1, 2, 3, 8, 9] (σ' := [(1, .int .i64 b1), (2, .int .i64 c2), (3, .int .i64 d3), (8, .pointer (some ⟨b52, 0, none⟩)), (9, .int .i64 a0)]) (by kernel_rfl) ?_
  refine t_v (.call (vs := [.int .i64 a0]) rfl rfl (by kernel_rfl) (glyphiclaw26_part.ok h54)) ?_
  obtain ⟨t55, h56, e⟩ := bind_of e
  refine t_qz 1 [2, 3, 8, 10, 11] (σ' := [(2, .int .i64 c2), (3, .int .i64 d3), (8, .pointer (some ⟨b52, 0, none⟩)), (10, .int .i64 t53), (11, .int .i64 b1)]) (by kernel_rfl) ?_
  refine t_v (.call (vs := [.int .i64 b1]) rfl rfl (by kernel_rfl) (glyphiclaw26_part.ok h56)) ?_
  obtain ⟨t57, h58, e⟩ := bind_of e
  refine t_qz 1 [3, 8, 10, 12, 13] (σ' := [(3, .int .i64 d3), (8, .pointer (some ⟨b52, 0, none⟩)), (10, .int .i64 t53), (12, .int .i64 t55), (13, .int .i64 c2)]) (by kernel_rfl) ?_
  refine t_v (.call (vs := [.int .i64 c2]) rfl rfl (by kernel_rfl) (glyphiclaw26_part.ok h58)) ?_
  obtain ⟨t59, h60, e⟩ := bind_of e
  refine t_qz 1 [8, 10, 12, 14, 15] (σ' := [(8, .pointer (some ⟨b52, 0, none⟩)), (10, .int .i64 t53), (12, .int .i64 t55), (14, .int .i64 t57), (15, .int .i64 d3)]) (by kernel_rfl) ?_
  refine t_v (.call (vs := [.int .i64 d3]) rfl rfl (by kernel_rfl) (glyphiclaw26_part.ok h60)) ?_
  refine t_qz 1 [8, 17] (σ' := [(8, .pointer (some ⟨b52, 0, none⟩)), (17, .agg #[.int .i64 t53, .int .i64 t55, .int .i64 t57, .int .i64 t59])]) (by kernel_rfl) ?_
  refine t_sti 0 (cs := [.int .i64 t53, .int .i64 t55, .int .i64 t57, .int .i64 t59]) rfl rfl rfl rfl rfl rfl rfl rfl rfl ?_
  refine t_keep [8] (σ' := [(8, .pointer (some ⟨b52, 0, none⟩))]) (by kernel_rfl) ?_
  refine t_end ?_
  show W _ _ _ _ _ _ _
  refine w_ret ?_
  simp only [Option.some.injEq, Prod.mk.injEq] at e
  obtain ⟨rfl, rfl, rfl, rfl⟩ := e
  exact ⟨[.agg #[.int .i64 t53, .int .i64 t55, .int .i64 t57, .int .i64 t59]], [], S, ⟨⟨_, _, _, rfl, .at 0 rfl rfl, rfl⟩, trivial⟩, VS.none, rfl, rfl, rfl⟩

/-- glyphiclaw26.BlendEnds -/
def c7 : C :=
  (.seq (.reg [⟨(some 18), .mv (.const (.bool false)), none⟩])
  (.seq (.reg [⟨(some 31), .call 22 [], none⟩,
     ⟨(some 19), .mv (.tmp 31), none⟩])
  (.seq (.seq (.reg [⟨(some 32), .mv (.tmp 19), none⟩,
      ⟨(some 33), .un .not (.tmp 32), none⟩])
   (.cond (.tmp 33)
    (.seq (.reg [⟨(some 18), .mv (.const (.bool false)), none⟩])
     .ret)
    .skip))
  (.seq (.reg [⟨(some 34), .mv (.tmp 0), none⟩,
     ⟨(some 35), .mv (.tmp 1), none⟩,
     ⟨(some 36), .mv (.tmp 2), none⟩,
     ⟨(some 37), .mv (.tmp 3), none⟩,
     ⟨(some 38), .call 23 [(.tmp 34), (.tmp 35), (.tmp 36), (.tmp 37)], none⟩,
     ⟨(some 20), .new [(.int .i64 0), (.int .i64 0), (.int .i64 0), (.int .i64 0)], none⟩,
     ⟨none, .st 4 (.tmp 20) (.tmp 38), none⟩])
  (.seq (.seq (.reg [⟨(some 21), .mv (.const (.int .i64 0)), none⟩])
   (.block 0 (.loop (.seq (.seq (.reg [⟨(some 39), .mv (.tmp 21), none⟩,
         ⟨(some 40), .bin .lss (.tmp 39) (.const (.int .i64 3)), none⟩])
      (.cond (.tmp 40)
       .skip
       (.exit 0)))
     (.seq (.block 1 (.drw [⟨(some 43), .mv (.tmp 21), none⟩,
         ⟨(some 44), .mv (.tmp 21), none⟩,
         ⟨(some 45), .ixa 1 4 (.tmp 20) (.tmp 44), none⟩,
         ⟨(some 46), .ld none (.tmp 45), none⟩,
         ⟨(some 47), .ixa 1 4 (.tmp 20) (.const (.int .i64 3)), none⟩,
         ⟨(some 48), .ld none (.tmp 47), none⟩,
         ⟨(some 49), .mm false [(.tmp 46), (.tmp 48)], none⟩,
         ⟨(some 50), .ixa 1 4 (.tmp 20) (.tmp 43), none⟩,
         ⟨none, .st 1 (.tmp 50) (.tmp 49), none⟩] [[], [], [1], [2], [], [4], [3, 5], [0, 0, 1, 2, 3, 4, 5, 6], [7, 6, 0, 1, 2, 3, 4, 5, 6]]))
     (.reg [⟨(some 41), .mv (.tmp 21), none⟩,
       ⟨(some 42), .bin .add (.tmp 41) (.const (.int .i64 1)), none⟩,
       ⟨(some 21), .mv (.tmp 42), none⟩]))))))
  (.seq (.reg [⟨(some 51), .mv (.tmp 4), none⟩,
     ⟨(some 52), .mv (.tmp 5), none⟩,
     ⟨(some 53), .mv (.tmp 6), none⟩,
     ⟨(some 54), .mv (.tmp 7), none⟩,
     ⟨(some 55), .call 23 [(.tmp 51), (.tmp 52), (.tmp 53), (.tmp 54)], none⟩,
     ⟨(some 22), .new [(.int .i64 0), (.int .i64 0), (.int .i64 0), (.int .i64 0)], none⟩,
     ⟨none, .st 4 (.tmp 22) (.tmp 55), none⟩])
  (.seq (.reg [⟨(some 56), .ld (some 4) (.tmp 22), none⟩,
     ⟨(some 23), .new [(.int .i64 0), (.int .i64 0), (.int .i64 0), (.int .i64 0)], none⟩,
     ⟨none, .st 4 (.tmp 23) (.tmp 56), none⟩])
  (.seq (.reg [⟨(some 57), .ixa 1 4 (.tmp 23) (.const (.int .i64 3)), none⟩,
     ⟨none, .st 1 (.tmp 57) (.const (.int .i64 65535)), none⟩])
  (.seq (.reg [⟨(some 58), .ld (some 4) (.tmp 22), none⟩,
     ⟨(some 24), .new [(.int .i64 0), (.int .i64 0), (.int .i64 0), (.int .i64 0)], none⟩,
     ⟨none, .st 4 (.tmp 24) (.tmp 58), none⟩])
  (.seq (.reg [⟨(some 59), .ixa 1 4 (.tmp 24) (.const (.int .i64 3)), none⟩,
     ⟨none, .st 1 (.tmp 59) (.const (.int .i64 0)), none⟩])
  (.seq (.reg [⟨(some 60), .mv (.tmp 8), none⟩,
     ⟨(some 61), .bin .rem (.tmp 60) (.const (.int .i64 64)), none⟩,
     ⟨(some 62), .bin .add (.tmp 61) (.const (.int .i64 64)), none⟩,
     ⟨(some 63), .bin .rem (.tmp 62) (.const (.int .i64 64)), none⟩,
     ⟨(some 8), .mv (.tmp 63), none⟩])
  (.seq (.reg [⟨(some 64), .ld (some 4) (.tmp 20), none⟩,
     ⟨(some 65), .ld (some 4) (.tmp 23), none⟩,
     ⟨(some 66), .call 24 [(.tmp 64), (.tmp 65), (.const (.int .i64 64))], none⟩,
     ⟨(some 25), .new [(.int .i64 0), (.int .i64 0), (.int .i64 0), (.int .i64 0)], none⟩,
     ⟨none, .st 4 (.tmp 25) (.tmp 66), none⟩])
  (.seq (.reg [⟨(some 67), .ld (some 4) (.tmp 20), none⟩,
     ⟨(some 68), .ld (some 4) (.tmp 24), none⟩,
     ⟨(some 69), .mv (.tmp 8), none⟩,
     ⟨(some 70), .call 24 [(.tmp 67), (.tmp 68), (.tmp 69)], none⟩,
     ⟨(some 26), .new [(.int .i64 0), (.int .i64 0), (.int .i64 0), (.int .i64 0)], none⟩,
     ⟨none, .st 4 (.tmp 26) (.tmp 70), none⟩])
  (.seq (.reg [⟨(some 71), .ld (some 4) (.tmp 20), none⟩,
     ⟨(some 72), .ld (some 4) (.tmp 22), none⟩,
     ⟨(some 73), .mv (.tmp 8), none⟩,
     ⟨(some 74), .call 24 [(.tmp 71), (.tmp 72), (.tmp 73)], none⟩,
     ⟨(some 27), .new [(.int .i64 0), (.int .i64 0), (.int .i64 0), (.int .i64 0)], none⟩,
     ⟨none, .st 4 (.tmp 27) (.tmp 74), none⟩])
  (.seq (.reg [⟨(some 75), .ld (some 4) (.tmp 20), none⟩,
     ⟨(some 76), .ld (some 4) (.tmp 22), none⟩,
     ⟨(some 77), .mv (.tmp 8), none⟩,
     ⟨(some 78), .bin .add (.tmp 77) (.const (.int .i64 1)), none⟩,
     ⟨(some 79), .call 24 [(.tmp 75), (.tmp 76), (.tmp 78)], none⟩,
     ⟨(some 28), .new [(.int .i64 0), (.int .i64 0), (.int .i64 0), (.int .i64 0)], none⟩,
     ⟨none, .st 4 (.tmp 28) (.tmp 79), none⟩])
  (.seq (.seq (.reg [⟨(some 29), .mv (.const (.int .i64 0)), none⟩])
   (.block 2 (.loop (.seq (.seq (.reg [⟨(some 80), .mv (.tmp 29), none⟩,
         ⟨(some 81), .bin .lss (.tmp 80) (.const (.int .i64 4)), none⟩])
      (.cond (.tmp 81)
       .skip
       (.exit 2)))
     (.seq (.block 3 (.seq (.drw [⟨(some 84), .mv (.tmp 29), none⟩,
          ⟨(some 85), .ixa 1 4 (.tmp 25) (.tmp 84), none⟩,
          ⟨(some 86), .ld none (.tmp 85), none⟩,
          ⟨(some 87), .mv (.tmp 29), none⟩,
          ⟨(some 88), .ixa 1 4 (.tmp 23) (.tmp 87), none⟩,
          ⟨(some 89), .ld none (.tmp 88), none⟩,
          ⟨(some 90), .bin .neq (.tmp 86) (.tmp 89), none⟩,
          ⟨(some 91), .mv (.tmp 90), none⟩,
          ⟨(some 92), .mv (.tmp 29), (some (91, false))⟩,
          ⟨(some 93), .ixa 1 4 (.tmp 26) (.tmp 92), (some (91, false))⟩,
          ⟨(some 94), .ld none (.tmp 93), (some (91, false))⟩,
          ⟨(some 95), .mv (.tmp 29), (some (91, false))⟩,
          ⟨(some 96), .ixa 1 4 (.tmp 20) (.tmp 95), (some (91, false))⟩,
          ⟨(some 97), .ld none (.tmp 96), (some (91, false))⟩,
          ⟨(some 98), .bin .neq (.tmp 94) (.tmp 97), (some (91, false))⟩,
          ⟨(some 99), .pk (.tmp 91) (.const (.bool true)) (.tmp 98), none⟩,
          ⟨(some 100), .mv (.tmp 99), none⟩,
          ⟨(some 101), .mv (.tmp 29), (some (100, false))⟩,
          ⟨(some 102), .ixa 1 4 (.tmp 27) (.tmp 101), (some (100, false))⟩,
          ⟨(some 103), .ld none (.tmp 102), (some (100, false))⟩,
          ⟨(some 104), .bin .lss (.tmp 103) (.const (.int .i64 0)), (some (100, false))⟩,
          ⟨(some 105), .pk (.tmp 100) (.const (.bool true)) (.tmp 104), none⟩,
          ⟨(some 106), .mv (.tmp 105), none⟩,
          ⟨(some 107), .mv (.tmp 29), (some (106, false))⟩,
          ⟨(some 108), .ixa 1 4 (.tmp 27) (.tmp 107), (some (106, false))⟩,
          ⟨(some 109), .ld none (.tmp 108), (some (106, false))⟩,
          ⟨(some 110), .bin .gtr (.tmp 109) (.const (.int .i64 65535)), (some (106, false))⟩,
          ⟨(some 111), .pk (.tmp 106) (.const (.bool true)) (.tmp 110), none⟩,
          ⟨(some 112), .mv (.tmp 111), none⟩,
          ⟨(some 113), .mv (.tmp 29), (some (112, false))⟩,
          ⟨(some 114), .ixa 1 4 (.tmp 28) (.tmp 113), (some (112, false))⟩,
          ⟨(some 115), .ld none (.tmp 114), (some (112, false))⟩,
          ⟨(some 116), .bin .lss (.tmp 115) (.const (.int .i64 0)), (some (112, false))⟩,
          ⟨(some 117), .pk (.tmp 112) (.const (.bool true)) (.tmp 116), none⟩,
          ⟨(some 118), .mv (.tmp 117), none⟩,
          ⟨(some 119), .mv (.tmp 29), (some (118, false))⟩,
          ⟨(some 120), .ixa 1 4 (.tmp 28) (.tmp 119), (some (118, false))⟩,
          ⟨(some 121), .ld none (.tmp 120), (some (118, false))⟩,
          ⟨(some 122), .bin .gtr (.tmp 121) (.const (.int .i64 65535)), (some (118, false))⟩,
          ⟨(some 123), .pk (.tmp 118) (.const (.bool true)) (.tmp 122), none⟩] [[], [0], [1], [], [3], [4], [2, 5], [6], [7], [8, 7], [9, 7], [7], [11, 7], [12, 7], [10, 13, 7], [7, 14], [15, 7], [16], [17, 16], [18, 16], [19, 16], [16, 20], [21, 16], [22], [23, 22], [24, 22], [25, 22], [22, 26], [27, 22], [28], [29, 28], [30, 28], [31, 28], [28, 32], [33, 28], [34], [35, 34], [36, 34], [37, 34], [34, 38]])
       (.cond (.tmp 123)
        (.seq (.reg [⟨(some 18), .mv (.const (.bool false)), none⟩])
         .ret)
        .skip)))
     (.reg [⟨(some 82), .mv (.tmp 29), none⟩,
       ⟨(some 83), .bin .add (.tmp 82) (.const (.int .i64 1)), none⟩,
       ⟨(some 29), .mv (.tmp 83), none⟩]))))))
  (.seq (.reg [⟨(some 124), .ld (some 4) (.tmp 23), none⟩,
     ⟨(some 125), .call 26 [(.tmp 124)], none⟩,
     ⟨(some 30), .new [(.int .u8 0), (.int .u8 0), (.int .u8 0), (.int .u8 0)], none⟩,
     ⟨none, .st 4 (.tmp 30) (.tmp 125), none⟩])
  (.seq (.drw [⟨(some 126), .mv (.tmp 19), none⟩,
     ⟨(some 127), .mv (.tmp 126), none⟩,
     ⟨(some 128), .ixa 1 4 (.tmp 28) (.const (.int .i64 3)), (some (127, true))⟩,
     ⟨(some 129), .ld none (.tmp 128), (some (127, true))⟩,
     ⟨(some 130), .bin .add (.tmp 129) (.const (.int .i64 1)), (some (127, true))⟩,
     ⟨(some 131), .ixa 1 4 (.tmp 27) (.const (.int .i64 3)), (some (127, true))⟩,
     ⟨(some 132), .ld none (.tmp 131), (some (127, true))⟩,
     ⟨(some 133), .bin .geq (.tmp 130) (.tmp 132), (some (127, true))⟩,
     ⟨(some 134), .pk (.tmp 127) (.tmp 133) (.const (.bool false)), none⟩,
     ⟨(some 135), .mv (.tmp 134), none⟩,
     ⟨(some 136), .ixa 1 4 (.tmp 27) (.const (.int .i64 3)), (some (135, true))⟩,
     ⟨(some 137), .ld none (.tmp 136), (some (135, true))⟩,
     ⟨(some 138), .bin .add (.tmp 137) (.const (.int .i64 1)), (some (135, true))⟩,
     ⟨(some 139), .ixa 1 4 (.tmp 20) (.const (.int .i64 3)), (some (135, true))⟩,
     ⟨(some 140), .ld none (.tmp 139), (some (135, true))⟩,
     ⟨(some 141), .bin .geq (.tmp 138) (.tmp 140), (some (135, true))⟩,
     ⟨(some 142), .pk (.tmp 135) (.tmp 141) (.const (.bool false)), none⟩,
     ⟨(some 143), .mv (.tmp 142), none⟩,
     ⟨(some 144), .ld (some 4) (.tmp 20), (some (143, true))⟩,
     ⟨(some 145), .ld (some 4) (.tmp 22), (some (143, true))⟩,
     ⟨(some 146), .call 24 [(.tmp 144), (.tmp 145), (.const (.int .i64 0))], (some (143, true))⟩,
     ⟨(some 147), .ld (some 4) (.tmp 20), (some (143, true))⟩,
     ⟨(some 148), .eqt false 31 (.tmp 146) (.tmp 147), (some (143, true))⟩,
     ⟨(some 149), .pk (.tmp 143) (.tmp 148) (.const (.bool false)), none⟩,
     ⟨(some 150), .mv (.tmp 149), none⟩,
     ⟨(some 151), .ixa 1 4 (.tmp 30) (.const (.int .i64 3)), (some (150, true))⟩,
     ⟨(some 152), .ld none (.tmp 151), (some (150, true))⟩,
     ⟨(some 153), .bin .eql (.tmp 152) (.const (.int .u8 255)), (some (150, true))⟩,
     ⟨(some 154), .pk (.tmp 150) (.tmp 153) (.const (.bool false)), none⟩,
     ⟨(some 155), .mv (.tmp 154), none⟩,
     ⟨(some 156), .ixa 1 4 (.tmp 30) (.const (.int .i64 0)), (some (155, true))⟩,
     ⟨(some 157), .ld none (.tmp 156), (some (155, true))⟩,
     ⟨(some 158), .cnv .i64 (.tmp 157), (some (155, true))⟩,
     ⟨(some 159), .ixa 1 4 (.tmp 23) (.const (.int .i64 0)), (some (155, true))⟩,
     ⟨(some 160), .ld none (.tmp 159), (some (155, true))⟩,
     ⟨(some 161), .bin .mul (.tmp 160) (.const (.int .i64 255)), (some (155, true))⟩,
     ⟨(some 162), .bin .add (.tmp 161) (.const (.int .i64 32767)), (some (155, true))⟩,
     ⟨(some 163), .bin .quo (.tmp 162) (.const (.int .i64 65535)), (some (155, true))⟩,
     ⟨(some 164), .bin .eql (.tmp 158) (.tmp 163), (some (155, true))⟩,
     ⟨(some 165), .pk (.tmp 155) (.tmp 164) (.const (.bool false)), none⟩,
     ⟨(some 18), .mv (.tmp 165), none⟩] [[], [0], [1], [2, 1], [3, 1], [1], [5, 1], [4, 6, 1], [1, 7], [8, 1], [9], [10, 9], [11, 9], [9], [13, 9], [12, 14, 9], [9, 15], [16, 9], [17], [17], [18, 19, 17, 17], [17], [20, 21, 17], [17, 22], [23, 20], [24], [25, 24], [26, 24], [24, 27], [28, 24], [29], [30, 29], [31, 29], [29], [33, 29], [34, 29], [35, 29], [36, 29], [32, 37, 29], [29, 38], [39, 29, 0, 1, 2, 3, 4, 5, 6, 7, 8, 9, 10, 11, 12, 13, 14, 15, 16, 17, 18, 19, 20, 21, 22, 23, 24, 25, 26, 27, 28, 29, 30, 31, 32, 33, 34, 35, 36, 37, 38, 39]])
  .ret))))))))))))))))))
def glyphiclaw26_BlendEnds.f (t0 : Int) (o1 : Int) (A2 : Int) (r3 : Int) (r4 : Int) (a5 : Int) (y6 : Int) (a7 : Int) (a8 : Int) : Option (Bool) := (glyphiclaw26_first.f).bind fun t61 => (if t61 = true then ((glyphiclaw26_parts.f t0 o1 A2 r3).bind fun (t63, t64, t65, t66) => ((glyphiclaw26_parts.f r4 a5 y6 a7).bind fun (t69, t70, t71, t72) => ((blend_Over.f (mn t63 t66) (mn t64 t66) (mn t65 t66) t66 t69 t70 t71 65535 64).bind fun (t77, t78, t79, t80) => ((blend_Over.f (mn t63 t66) (mn t64 t66) (mn t65 t66) t66 t69 t70 t71 0 (Int.tmod (wr64 ((Int.tmod a8 64) + 64)) 64)).bind fun (t83, t84, t85, t86) => ((blend_Over.f (mn t63 t66) (mn t64 t66) (mn t65 t66) t66 t69 t70 t71 t72 (Int.tmod (wr64 ((Int.tmod a8 64) + 64)) 64)).bind fun (t89, t90, t91, t92) => ((blend_Over.f (mn t63 t66) (mn t64 t66) (mn t65 t66) t66 t69 t70 t71 t72 (wr64 ((Int.tmod (wr64 ((Int.tmod a8 64) + 64)) 64) + 1))).bind fun (t95, t96, t97, t98) => (if t77 = t69 then (if t83 = (mn t63 t66) then (if t89 < 0 then (some false) else (if t89 > 65535 then (some false) else (if t95 < 0 then (some false) else (if t95 > 65535 then (some false) else (if t78 = t70 then (if t84 = (mn t64 t66) then (if t90 < 0 then (some false) else (if t90 > 65535 then (some false) else (if t96 < 0 then (some false) else (if t96 > 65535 then (some false) else (if t79 = t71 then (if t85 = (mn t65 t66) then (if t91 < 0 then (some false) else (if t91 > 65535 then (some false) else (if t97 < 0 then (some false) else (if t97 > 65535 then (some false) else (if t80 = 65535 then (if t86 = t66 then (if t92 < 0 then (some false) else (if t92 > 65535 then (some false) else (if t98 < 0 then (some false) else (if t98 > 65535 then (some false) else ((blend_Final.f t69 t70 t71 65535).bind fun (t125, t126, t127, t128) => (if (wr64 (t98 + 1)) ≥ t92 then (if (wr64 (t92 + 1)) ≥ t66 then ((blend_Over.f (mn t63 t66) (mn t64 t66) (mn t65 t66) t66 t69 t70 t71 t72 0).bind fun (t133, t134, t135, t136) => (if ((t133 == (mn t63 t66)) && ((t134 == (mn t64 t66)) && ((t135 == (mn t65 t66)) && (t136 == t66)))) = true then (if t128 = 255 then (some ((wr64 t125) == (wr64 (Int.tdiv (wr64 ((wr64 (t69 * 255)) + 32767)) 65535)))) else (some false)) else (some false))) else (some false)) else (some false))))))) else (some false)) else (some false)))))) else (some false)) else (some false)))))) else (some false)) else (some false)))))) else (some false)) else (some false)))))))) else (some false))
theorem glyphiclaw26_BlendEnds.ok {S : Seal} {t0 : Int} {o1 : Int} {A2 : Int} {r3 : Int} {r4 : Int} {a5 : Int} {y6 : Int} {a7 : Int} {a8 : Int}  (e : glyphiclaw26_BlendEnds.f t0 o1 A2 r3 r4 a5 y6 a7 a8 = some true) :
    Cal Try.prog 7 [.int .i64 t0, .int .i64 o1, .int .i64 A2, .int .i64 r3, .int .i64 r4, .int .i64 a5, .int .i64 y6, .int .i64 a7, .int .i64 a8] [] S fun v H' S' => v = .bool true ∧ H' = [] ∧ S' = S := by
  unfold glyphiclaw26_BlendEnds.f at e
  refine cal_of (c := c7) (N := 166) Try.func7 rfl rfl (by kernel_rfl) (rs := [.t 18]) (by kernel_rfl) (Nat.le_of_ble_eq_true rfl) ?_
  unfold c7
  refine w_seq ?_
  refine w_reg fun all => ?_
  refine t_qz 1 [0, 1, 2, 3, 4, 5, 6, 7, 8] (σ' := [(0, .int .i64 t0), (1, .int .i64 o1), (2, .int .i64 A2), (3, .int .i64 r3), (4, .int .i64 r4), (5, .int .i64 a5), (6, .int .i64 y6), (7, .int .i64 a7), (8, .int .i64 a8)]) (by kernel_rfl) ?_
  refine t_end ?_
  show W _ _ _ _ _ _ _
  refine w_seq ?_
  refine w_reg fun all => ?_
  obtain ⟨t61, h62, e⟩ := bind_of e
  cases t61 with
  | true =>
    rw [if_pos rfl] at e
    refine t_v (.call (vs := []) rfl rfl (by kernel_rfl) (glyphiclaw26_first.ok h62)) ?_
    refine t_qz 1 [0, 1, 2, 3, 4, 5, 6, 7, 8, 19] (σ' := [(0, .int .i64 t0), (1, .int .i64 o1), (2, .int .i64 A2), (3, .int .i64 r3), (4, .int .i64 r4), (5, .int .i64 a5), (6, .int .i64 y6), (7, .int .i64 a7), (8, .int .i64 a8), (19, .bool true)]) (by kernel_rfl) ?_
    refine t_end ?_
    show W _ _ _ _ _ _ _
    refine w_seq ?_
    refine w_seq ?_
    refine w_reg fun all => ?_
    refine t_qz 2 [0, 1, 2, 3, 4, 5, 6, 7, 8, 19, 33] (σ' := [(0, .int .i64 t0), (1, .int .i64 o1), (2, .int .i64 A2), (3, .int .i64 r3), (4, .int .i64 r4), (5, .int .i64 a5), (6, .int .i64 y6), (7, .int .i64 a7), (8, .int .i64 a8), (19, .bool true), (33, .bool false)]) (by kernel_rfl) ?_
    refine t_end ?_
    show W _ _ _ _ _ _ _
    refine w_cond rfl (fun c_ => by cases c_) (fun _ => ?_)
    show W _ _ _ _ _ _ _
    refine w_skip ?_
    show W _ _ _ _ _ _ _
    refine w_seq ?_
    refine w_reg fun all => ?_
    obtain ⟨⟨t63, t64, t65, t66⟩, h67, e⟩ := bind_of e
    try dsimp only at e
    refine t_qz 4 [4, 5, 6, 7, 8, 19, 34, 35, 36, 37] (σ' := [(4, .int .i64 r4), (5, .int .i64 a5), (6, .int .i64 y6), (7, .int .i64 a7), (8, .int .i64 a8), (19, .bool true), (34, .int .i64 t0), (35, .int .i64 o1), (36, .int .i64 A2), (37, .int .i64 r3)]) (by kernel_rfl) ?_
    refine t_v (.call (vs := [.int .i64 t0, .int .i64 o1, .int .i64 A2, .int .i64 r3]) rfl rfl (by kernel_rfl) (glyphiclaw26_parts.ok h67)) ?_
    refine t_a (.new rfl rfl) fun b68 fb68 sb68 => ?_
    refine t_sti 0 (cs := [.int .i64 t63, .int .i64 t64, .int .i64 t65, .int .i64 t66]) rfl rfl rfl rfl rfl rfl rfl rfl rfl ?_
    refine t_keep [4, 5, 6, 7, 8, 19, 20] (σ' := [(4, .int .i64 r4), (5, .int .i64 a5), (6, .int .i64 y6), (7, .int .i64 a7), (8, .int .i64 a8), (19, .bool true), (20, .pointer (some ⟨b68, 0, none⟩))]) (by kernel_rfl) ?_
    refine t_end ?_
    show W _ _ _ _ _ _ _
    refine w_seq ?_
    refine w_seq ?_
    refine w_reg fun all => ?_
    refine t_qz 1 [4, 5, 6, 7, 8, 19, 20, 21] (σ' := [(4, .int .i64 r4), (5, .int .i64 a5), (6, .int .i64 y6), (7, .int .i64 a7), (8, .int .i64 a8), (19, .bool true), (20, .pointer (some ⟨b68, 0, none⟩)), (21, .int .i64 0)]) (by kernel_rfl) ?_
    refine t_end ?_
    show W _ _ _ _ _ _ _
    refine w_block ?_
    refine w_lun 5 ?_
    refine wl_step ?_
    refine w_seq ?_
    refine w_seq ?_
    refine w_reg fun all => ?_
    refine t_qz 2 [4, 5, 6, 7, 8, 19, 20, 21, 40] (σ' := [(4, .int .i64 r4), (5, .int .i64 a5), (6, .int .i64 y6), (7, .int .i64 a7), (8, .int .i64 a8), (19, .bool true), (20, .pointer (some ⟨b68, 0, none⟩)), (21, .int .i64 0), (40, .bool true)]) (by kernel_rfl) ?_
    refine t_end ?_
    show W _ _ _ _ _ _ _
    refine w_cond rfl (fun _ => ?_) (fun c_ => by cases c_)
    show W _ _ _ _ _ _ _
    refine w_skip ?_
    show W _ _ _ _ _ _ _
    refine w_seq ?_
    refine w_block ?_
    refine w_drwE mixed 8 [.v (.int .i64 0), .v (.int .i64 0), .v (.pointer (some ⟨b68, 0, none⟩)), .v (.int .i64 t63), .v (.pointer (some ⟨b68, 3, none⟩)), .v (.int .i64 t66), .v (.int .i64 (mn t63 t66)), .v (.pointer (some ⟨b68, 0, none⟩))] (by kernel_rfl) ?_ ?_
    · refine DI.sq 3 (by kernel_rfl) rfl ?_
      refine .cons (.ld1 rfl rfl rfl (.at 0 rfl rfl)) ?_
      refine DI.sq 1 (by kernel_rfl) rfl ?_
      refine .cons (.ld1 rfl rfl rfl (.at 0 rfl rfl)) ?_
      refine DI.sq 2 (by kernel_rfl) rfl ?_
      exact .nil
    refine fk_q 8 [4, 5, 6, 7, 8, 19, 20, 21, 49, 50] (σ' := [(4, .int .i64 r4), (5, .int .i64 a5), (6, .int .i64 y6), (7, .int .i64 a7), (8, .int .i64 a8), (19, .bool true), (20, .pointer (some ⟨b68, 0, none⟩)), (21, .int .i64 0), (49, .int .i64 (mn t63 t66)), (50, .pointer (some ⟨b68, 0, none⟩))]) t_more (by kernel_rfl) ?_
    refine fk_nil fun all => ?_
    refine t_sti 0 (cs := [.int .i64 (mn t63 t66), .int .i64 t64, .int .i64 t65, .int .i64 t66]) rfl rfl rfl rfl rfl rfl rfl rfl rfl ?_
    refine t_keep [4, 5, 6, 7, 8, 19, 20, 21] (σ' := [(4, .int .i64 r4), (5, .int .i64 a5), (6, .int .i64 y6), (7, .int .i64 a7), (8, .int .i64 a8), (19, .bool true), (20, .pointer (some ⟨b68, 0, none⟩)), (21, .int .i64 0)]) (by kernel_rfl) ?_
    refine t_end ?_
    show W _ _ _ _ _ _ _
    refine w_reg fun all => ?_
    refine t_qz 3 [4, 5, 6, 7, 8, 19, 20, 21] (σ' := [(4, .int .i64 r4), (5, .int .i64 a5), (6, .int .i64 y6), (7, .int .i64 a7), (8, .int .i64 a8), (19, .bool true), (20, .pointer (some ⟨b68, 0, none⟩)), (21, .int .i64 1)]) (by kernel_rfl) ?_
    refine t_end ?_
    show WL _ _ _ _ _ _ _ _
    refine wl_step ?_
    refine w_seq ?_
    refine w_seq ?_
    refine w_reg fun all => ?_
    refine t_qz 2 [4, 5, 6, 7, 8, 19, 20, 21, 40] (σ' := [(4, .int .i64 r4), (5, .int .i64 a5), (6, .int .i64 y6), (7, .int .i64 a7), (8, .int .i64 a8), (19, .bool true), (20, .pointer (some ⟨b68, 0, none⟩)), (21, .int .i64 1), (40, .bool true)]) (by kernel_rfl) ?_
    refine t_end ?_
    show W _ _ _ _ _ _ _
    refine w_cond rfl (fun _ => ?_) (fun c_ => by cases c_)
    show W _ _ _ _ _ _ _
    refine w_skip ?_
    show W _ _ _ _ _ _ _
    refine w_seq ?_
    refine w_block ?_
    refine w_drwE mixed 8 [.v (.int .i64 1), .v (.int .i64 1), .v (.pointer (some ⟨b68, 1, none⟩)), .v (.int .i64 t64), .v (.pointer (some ⟨b68, 3, none⟩)), .v (.int .i64 t66), .v (.int .i64 (mn t64 t66)), .v (.pointer (some ⟨b68, 1, none⟩))] (by kernel_rfl) ?_ ?_
    · refine DI.sq 3 (by kernel_rfl) rfl ?_
      refine .cons (.ld1 rfl rfl rfl (.at 0 rfl rfl)) ?_
      refine DI.sq 1 (by kernel_rfl) rfl ?_
      refine .cons (.ld1 rfl rfl rfl (.at 0 rfl rfl)) ?_
      refine DI.sq 2 (by kernel_rfl) rfl ?_
      exact .nil
    refine fk_q 8 [4, 5, 6, 7, 8, 19, 20, 21, 49, 50] (σ' := [(4, .int .i64 r4), (5, .int .i64 a5), (6, .int .i64 y6), (7, .int .i64 a7), (8, .int .i64 a8), (19, .bool true), (20, .pointer (some ⟨b68, 0, none⟩)), (21, .int .i64 1), (49, .int .i64 (mn t64 t66)), (50, .pointer (some ⟨b68, 1, none⟩))]) t_more (by kernel_rfl) ?_
    refine fk_nil fun all => ?_
    refine t_sti 0 (cs := [.int .i64 (mn t63 t66), .int .i64 (mn t64 t66), .int .i64 t65, .int .i64 t66]) rfl rfl rfl rfl rfl rfl rfl rfl rfl ?_
    refine t_keep [4, 5, 6, 7, 8, 19, 20, 21] (σ' := [(4, .int .i64 r4), (5, .int .i64 a5), (6, .int .i64 y6), (7, .int .i64 a7), (8, .int .i64 a8), (19, .bool true), (20, .pointer (some ⟨b68, 0, none⟩)), (21, .int .i64 1)]) (by kernel_rfl) ?_
    refine t_end ?_
    show W _ _ _ _ _ _ _
    refine w_reg fun all => ?_
    refine t_qz 3 [4, 5, 6, 7, 8, 19, 20, 21] (σ' := [(4, .int .i64 r4), (5, .int .i64 a5), (6, .int .i64 y6), (7, .int .i64 a7), (8, .int .i64 a8), (19, .bool true), (20, .pointer (some ⟨b68, 0, none⟩)), (21, .int .i64 2)]) (by kernel_rfl) ?_
    refine t_end ?_
    show WL _ _ _ _ _ _ _ _
    refine wl_step ?_
    refine w_seq ?_
    refine w_seq ?_
    refine w_reg fun all => ?_
    refine t_qz 2 [4, 5, 6, 7, 8, 19, 20, 21, 40] (σ' := [(4, .int .i64 r4), (5, .int .i64 a5), (6, .int .i64 y6), (7, .int .i64 a7), (8, .int .i64 a8), (19, .bool true), (20, .pointer (some ⟨b68, 0, none⟩)), (21, .int .i64 2), (40, .bool true)]) (by kernel_rfl) ?_
    refine t_end ?_
    show W _ _ _ _ _ _ _
    refine w_cond rfl (fun _ => ?_) (fun c_ => by cases c_)
    show W _ _ _ _ _ _ _
    refine w_skip ?_
    show W _ _ _ _ _ _ _
    refine w_seq ?_
    refine w_block ?_
    refine w_drwE mixed 8 [.v (.int .i64 2), .v (.int .i64 2), .v (.pointer (some ⟨b68, 2, none⟩)), .v (.int .i64 t65), .v (.pointer (some ⟨b68, 3, none⟩)), .v (.int .i64 t66), .v (.int .i64 (mn t65 t66)), .v (.pointer (some ⟨b68, 2, none⟩))] (by kernel_rfl) ?_ ?_
    · refine DI.sq 3 (by kernel_rfl) rfl ?_
      refine .cons (.ld1 rfl rfl rfl (.at 0 rfl rfl)) ?_
      refine DI.sq 1 (by kernel_rfl) rfl ?_
      refine .cons (.ld1 rfl rfl rfl (.at 0 rfl rfl)) ?_
      refine DI.sq 2 (by kernel_rfl) rfl ?_
      exact .nil
    refine fk_q 8 [4, 5, 6, 7, 8, 19, 20, 21, 49, 50] (σ' := [(4, .int .i64 r4), (5, .int .i64 a5), (6, .int .i64 y6), (7, .int .i64 a7), (8, .int .i64 a8), (19, .bool true), (20, .pointer (some ⟨b68, 0, none⟩)), (21, .int .i64 2), (49, .int .i64 (mn t65 t66)), (50, .pointer (some ⟨b68, 2, none⟩))]) t_more (by kernel_rfl) ?_
    refine fk_nil fun all => ?_
    refine t_sti 0 (cs := [.int .i64 (mn t63 t66), .int .i64 (mn t64 t66), .int .i64 (mn t65 t66), .int .i64 t66]) rfl rfl rfl rfl rfl rfl rfl rfl rfl ?_
    refine t_keep [4, 5, 6, 7, 8, 19, 20, 21] (σ' := [(4, .int .i64 r4), (5, .int .i64 a5), (6, .int .i64 y6), (7, .int .i64 a7), (8, .int .i64 a8), (19, .bool true), (20, .pointer (some ⟨b68, 0, none⟩)), (21, .int .i64 2)]) (by kernel_rfl) ?_
    refine t_end ?_
    show W _ _ _ _ _ _ _
    refine w_reg fun all => ?_
    refine t_qz 3 [4, 5, 6, 7, 8, 19, 20, 21] (σ' := [(4, .int .i64 r4), (5, .int .i64 a5), (6, .int .i64 y6), (7, .int .i64 a7), (8, .int .i64 a8), (19, .bool true), (20, .pointer (some ⟨b68, 0, none⟩)), (21, .int .i64 3)]) (by kernel_rfl) ?_
    refine t_end ?_
    show WL _ _ _ _ _ _ _ _
    refine wl_step ?_
    refine w_seq ?_
    refine w_seq ?_
    refine w_reg fun all => ?_
    refine t_qz 2 [4, 5, 6, 7, 8, 19, 20, 21, 40] (σ' := [(4, .int .i64 r4), (5, .int .i64 a5), (6, .int .i64 y6), (7, .int .i64 a7), (8, .int .i64 a8), (19, .bool true), (20, .pointer (some ⟨b68, 0, none⟩)), (21, .int .i64 3), (40, .bool false)]) (by kernel_rfl) ?_
    refine t_end ?_
    show W _ _ _ _ _ _ _
    refine w_cond rfl (fun c_ => by cases c_) (fun _ => ?_)
    show W _ _ _ _ _ _ _
    refine w_exit ?_
    show W _ _ _ _ _ _ _
    refine w_seq ?_
    refine w_reg fun all => ?_
    obtain ⟨⟨t69, t70, t71, t72⟩, h73, e⟩ := bind_of e
    try dsimp only at e
    refine t_qz 4 [8, 19, 20, 51, 52, 53, 54] (σ' := [(8, .int .i64 a8), (19, .bool true), (20, .pointer (some ⟨b68, 0, none⟩)), (51, .int .i64 r4), (52, .int .i64 a5), (53, .int .i64 y6), (54, .int .i64 a7)]) (by kernel_rfl) ?_
    refine t_v (.call (vs := [.int .i64 r4, .int .i64 a5, .int .i64 y6, .int .i64 a7]) rfl rfl (by kernel_rfl) (glyphiclaw26_parts.ok h73)) ?_
    refine t_a (.new rfl rfl) fun b74 fb74 sb74 => ?_
    refine t_sti 0 (cs := [.int .i64 t69, .int .i64 t70, .int .i64 t71, .int .i64 t72]) rfl rfl rfl rfl rfl rfl rfl rfl rfl ?_
    refine t_keep [8, 19, 20, 22] (σ' := [(8, .int .i64 a8), (19, .bool true), (20, .pointer (some ⟨b68, 0, none⟩)), (22, .pointer (some ⟨b74, 0, none⟩))]) (by kernel_rfl) ?_
    refine t_end ?_
    show W _ _ _ _ _ _ _
    refine w_seq ?_
    refine w_reg fun all => ?_
    refine t_v (.ldn rfl rfl rfl (.at 0 rfl rfl)) ?_
    refine t_a (.new rfl rfl) fun b75 fb75 sb75 => ?_
    refine t_sti 0 (cs := [.int .i64 t69, .int .i64 t70, .int .i64 t71, .int .i64 t72]) rfl rfl rfl rfl rfl rfl rfl rfl rfl ?_
    refine t_keep [8, 19, 20, 22, 23] (σ' := [(8, .int .i64 a8), (19, .bool true), (20, .pointer (some ⟨b68, 0, none⟩)), (22, .pointer (some ⟨b74, 0, none⟩)), (23, .pointer (some ⟨b75, 0, none⟩))]) (by kernel_rfl) ?_
    refine t_end ?_
    show W _ _ _ _ _ _ _
    refine w_seq ?_
    refine w_reg fun all => ?_
    refine t_qz 1 [8, 19, 20, 22, 23, 57] (σ' := [(8, .int .i64 a8), (19, .bool true), (20, .pointer (some ⟨b68, 0, none⟩)), (22, .pointer (some ⟨b74, 0, none⟩)), (23, .pointer (some ⟨b75, 0, none⟩)), (57, .pointer (some ⟨b75, 3, none⟩))]) (by kernel_rfl) ?_
    refine t_sti 0 (cs := [.int .i64 t69, .int .i64 t70, .int .i64 t71, .int .i64 65535]) rfl rfl rfl rfl rfl rfl rfl rfl rfl ?_
    refine t_keep [8, 19, 20, 22, 23] (σ' := [(8, .int .i64 a8), (19, .bool true), (20, .pointer (some ⟨b68, 0, none⟩)), (22, .pointer (some ⟨b74, 0, none⟩)), (23, .pointer (some ⟨b75, 0, none⟩))]) (by kernel_rfl) ?_
    refine t_end ?_
    show W _ _ _ _ _ _ _
    refine w_seq ?_
    refine w_reg fun all => ?_
    refine t_v (.ldn rfl rfl rfl (.at 1 rfl rfl)) ?_
    refine t_a (.new rfl rfl) fun b76 fb76 sb76 => ?_
    refine t_sti 0 (cs := [.int .i64 t69, .int .i64 t70, .int .i64 t71, .int .i64 t72]) rfl rfl rfl rfl rfl rfl rfl rfl rfl ?_
    refine t_keep [8, 19, 20, 22, 23, 24] (σ' := [(8, .int .i64 a8), (19, .bool true), (20, .pointer (some ⟨b68, 0, none⟩)), (22, .pointer (some ⟨b74, 0, none⟩)), (23, .pointer (some ⟨b75, 0, none⟩)), (24, .pointer (some ⟨b76, 0, none⟩))]) (by kernel_rfl) ?_
    refine t_end ?_
    show W _ _ _ _ _ _ _
    refine w_seq ?_
    refine w_reg fun all => ?_
    refine t_qz 1 [8, 19, 20, 22, 23, 24, 59] (σ' := [(8, .int .i64 a8), (19, .bool true), (20, .pointer (some ⟨b68, 0, none⟩)), (22, .pointer (some ⟨b74, 0, none⟩)), (23, .pointer (some ⟨b75, 0, none⟩)), (24, .pointer (some ⟨b76, 0, none⟩)), (59, .pointer (some ⟨b76, 3, none⟩))]) (by kernel_rfl) ?_
    refine t_sti 0 (cs := [.int .i64 t69, .int .i64 t70, .int .i64 t71, .int .i64 0]) rfl rfl rfl rfl rfl rfl rfl rfl rfl ?_
    refine t_keep [8, 19, 20, 22, 23, 24] (σ' := [(8, .int .i64 a8), (19, .bool true), (20, .pointer (some ⟨b68, 0, none⟩)), (22, .pointer (some ⟨b74, 0, none⟩)), (23, .pointer (some ⟨b75, 0, none⟩)), (24, .pointer (some ⟨b76, 0, none⟩))]) (by kernel_rfl) ?_
    refine t_end ?_
    show W _ _ _ _ _ _ _
    refine w_seq ?_
    refine w_reg fun all => ?_
    refine t_qz 5 [8, 19, 20, 22, 23, 24] (σ' := [(8, .int .i64 (Int.tmod (wr64 ((Int.tmod a8 64) + 64)) 64)), (19, .bool true), (20, .pointer (some ⟨b68, 0, none⟩)), (22, .pointer (some ⟨b74, 0, none⟩)), (23, .pointer (some ⟨b75, 0, none⟩)), (24, .pointer (some ⟨b76, 0, none⟩))]) (by kernel_rfl) ?_
    refine t_end ?_
    show W _ _ _ _ _ _ _
    refine w_seq ?_
    refine w_reg fun all => ?_
    refine t_v (.ldn rfl rfl rfl (.at 3 rfl rfl)) ?_
    refine t_v (.ldn rfl rfl rfl (.at 1 rfl rfl)) ?_
    obtain ⟨⟨t77, t78, t79, t80⟩, h81, e⟩ := bind_of e
    try dsimp only at e
    refine t_v (.call (vs := [.agg #[.int .i64 (mn t63 t66), .int .i64 (mn t64 t66), .int .i64 (mn t65 t66), .int .i64 t66], .agg #[.int .i64 t69, .int .i64 t70, .int .i64 t71, .int .i64 65535], .int .i64 64]) rfl rfl (by kernel_rfl) (blend_Over.ok h81)) ?_
    refine t_a (.new rfl rfl) fun b82 fb82 sb82 => ?_
    refine t_sti 0 (cs := [.int .i64 t77, .int .i64 t78, .int .i64 t79, .int .i64 t80]) rfl rfl rfl rfl rfl rfl rfl rfl rfl ?_
    refine t_keep [8, 19, 20, 22, 23, 24, 25] (σ' := [(8, .int .i64 (Int.tmod (wr64 ((Int.tmod a8 64) + 64)) 64)), (19, .bool true), (20, .pointer (some ⟨b68, 0, none⟩)), (22, .pointer (some ⟨b74, 0, none⟩)), (23, .pointer (some ⟨b75, 0, none⟩)), (24, .pointer (some ⟨b76, 0, none⟩)), (25, .pointer (some ⟨b82, 0, none⟩))]) (by kernel_rfl) ?_
    refine t_end ?_
    show W _ _ _ _ _ _ _
    refine w_seq ?_
    refine w_reg fun all => ?_
    refine t_v (.ldn rfl rfl rfl (.at 4 rfl rfl)) ?_
    refine t_v (.ldn rfl rfl rfl (.at 1 rfl rfl)) ?_
    obtain ⟨⟨t83, t84, t85, t86⟩, h87, e⟩ := bind_of e
    try dsimp only at e
    refine t_qz 1 [8, 19, 20, 22, 23, 25, 67, 68, 69] (σ' := [(8, .int .i64 (Int.tmod (wr64 ((Int.tmod a8 64) + 64)) 64)), (19, .bool true), (20, .pointer (some ⟨b68, 0, none⟩)), (22, .pointer (some ⟨b74, 0, none⟩)), (23, .pointer (some ⟨b75, 0, none⟩)), (25, .pointer (some ⟨b82, 0, none⟩)), (67, .agg #[.int .i64 (mn t63 t66), .int .i64 (mn t64 t66), .int .i64 (mn t65 t66), .int .i64 t66]), (68, .agg #[.int .i64 t69, .int .i64 t70, .int .i64 t71, .int .i64 0]), (69, .int .i64 (Int.tmod (wr64 ((Int.tmod a8 64) + 64)) 64))]) (by kernel_rfl) ?_
    refine t_v (.call (vs := [.agg #[.int .i64 (mn t63 t66), .int .i64 (mn t64 t66), .int .i64 (mn t65 t66), .int .i64 t66], .agg #[.int .i64 t69, .int .i64 t70, .int .i64 t71, .int .i64 0], .int .i64 (Int.tmod (wr64 ((Int.tmod a8 64) + 64)) 64)]) rfl rfl (by kernel_rfl) (blend_Over.ok h87)) ?_
    refine t_a (.new rfl rfl) fun b88 fb88 sb88 => ?_
    refine t_sti 0 (cs := [.int .i64 t83, .int .i64 t84, .int .i64 t85, .int .i64 t86]) rfl rfl rfl rfl rfl rfl rfl rfl rfl ?_
    refine t_keep [8, 19, 20, 22, 23, 25, 26] (σ' := [(8, .int .i64 (Int.tmod (wr64 ((Int.tmod a8 64) + 64)) 64)), (19, .bool true), (20, .pointer (some ⟨b68, 0, none⟩)), (22, .pointer (some ⟨b74, 0, none⟩)), (23, .pointer (some ⟨b75, 0, none⟩)), (25, .pointer (some ⟨b82, 0, none⟩)), (26, .pointer (some ⟨b88, 0, none⟩))]) (by kernel_rfl) ?_
    refine t_end ?_
    show W _ _ _ _ _ _ _
    refine w_seq ?_
    refine w_reg fun all => ?_
    refine t_v (.ldn rfl rfl rfl (.at 5 rfl rfl)) ?_
    refine t_v (.ldn rfl rfl rfl (.at 4 rfl rfl)) ?_
    obtain ⟨⟨t89, t90, t91, t92⟩, h93, e⟩ := bind_of e
    try dsimp only at e
    refine t_qz 1 [8, 19, 20, 22, 23, 25, 26, 71, 72, 73] (σ' := [(8, .int .i64 (Int.tmod (wr64 ((Int.tmod a8 64) + 64)) 64)), (19, .bool true), (20, .pointer (some ⟨b68, 0, none⟩)), (22, .pointer (some ⟨b74, 0, none⟩)), (23, .pointer (some ⟨b75, 0, none⟩)), (25, .pointer (some ⟨b82, 0, none⟩)), (26, .pointer (some ⟨b88, 0, none⟩)), (71, .agg #[.int .i64 (mn t63 t66), .int .i64 (mn t64 t66), .int .i64 (mn t65 t66), .int .i64 t66]), (72, .agg #[.int .i64 t69, .int .i64 t70, .int .i64 t71, .int .i64 t72]), (73, .int .i64 (Int.tmod (wr64 ((Int.tmod a8 64) + 64)) 64))]) (by kernel_rfl) ?_
    refine t_v (.call (vs := [.agg #[.int .i64 (mn t63 t66), .int .i64 (mn t64 t66), .int .i64 (mn t65 t66), .int .i64 t66], .agg #[.int .i64 t69, .int .i64 t70, .int .i64 t71, .int .i64 t72], .int .i64 (Int.tmod (wr64 ((Int.tmod a8 64) + 64)) 64)]) rfl rfl (by kernel_rfl) (blend_Over.ok h93)) ?_
    refine t_a (.new rfl rfl) fun b94 fb94 sb94 => ?_
    refine t_sti 0 (cs := [.int .i64 t89, .int .i64 t90, .int .i64 t91, .int .i64 t92]) rfl rfl rfl rfl rfl rfl rfl rfl rfl ?_
    refine t_keep [8, 19, 20, 22, 23, 25, 26, 27] (σ' := [(8, .int .i64 (Int.tmod (wr64 ((Int.tmod a8 64) + 64)) 64)), (19, .bool true), (20, .pointer (some ⟨b68, 0, none⟩)), (22, .pointer (some ⟨b74, 0, none⟩)), (23, .pointer (some ⟨b75, 0, none⟩)), (25, .pointer (some ⟨b82, 0, none⟩)), (26, .pointer (some ⟨b88, 0, none⟩)), (27, .pointer (some ⟨b94, 0, none⟩))]) (by kernel_rfl) ?_
    refine t_end ?_
    show W _ _ _ _ _ _ _
    refine w_seq ?_
    refine w_reg fun all => ?_
    refine t_v (.ldn rfl rfl rfl (.at 6 rfl rfl)) ?_
    refine t_v (.ldn rfl rfl rfl (.at 5 rfl rfl)) ?_
    obtain ⟨⟨t95, t96, t97, t98⟩, h99, e⟩ := bind_of e
    try dsimp only at e
    refine t_qz 2 [19, 20, 22, 23, 25, 26, 27, 75, 76, 78] (σ' := [(19, .bool true), (20, .pointer (some ⟨b68, 0, none⟩)), (22, .pointer (some ⟨b74, 0, none⟩)), (23, .pointer (some ⟨b75, 0, none⟩)), (25, .pointer (some ⟨b82, 0, none⟩)), (26, .pointer (some ⟨b88, 0, none⟩)), (27, .pointer (some ⟨b94, 0, none⟩)), (75, .agg #[.int .i64 (mn t63 t66), .int .i64 (mn t64 t66), .int .i64 (mn t65 t66), .int .i64 t66]), (76, .agg #[.int .i64 t69, .int .i64 t70, .int .i64 t71, .int .i64 t72]), (78, .int .i64 (wr64 ((Int.tmod (wr64 ((Int.tmod a8 64) + 64)) 64) + 1)))]) (by kernel_rfl) ?_
    refine t_v (.call (vs := [.agg #[.int .i64 (mn t63 t66), .int .i64 (mn t64 t66), .int .i64 (mn t65 t66), .int .i64 t66], .agg #[.int .i64 t69, .int .i64 t70, .int .i64 t71, .int .i64 t72], .int .i64 (wr64 ((Int.tmod (wr64 ((Int.tmod a8 64) + 64)) 64) + 1))]) rfl rfl (by kernel_rfl) (blend_Over.ok h99)) ?_
    refine t_a (.new rfl rfl) fun b100 fb100 sb100 => ?_
    refine t_sti 0 (cs := [.int .i64 t95, .int .i64 t96, .int .i64 t97, .int .i64 t98]) rfl rfl rfl rfl rfl rfl rfl rfl rfl ?_
    refine t_keep [19, 20, 22, 23, 25, 26, 27, 28] (σ' := [(19, .bool true), (20, .pointer (some ⟨b68, 0, none⟩)), (22, .pointer (some ⟨b74, 0, none⟩)), (23, .pointer (some ⟨b75, 0, none⟩)), (25, .pointer (some ⟨b82, 0, none⟩)), (26, .pointer (some ⟨b88, 0, none⟩)), (27, .pointer (some ⟨b94, 0, none⟩)), (28, .pointer (some ⟨b100, 0, none⟩))]) (by kernel_rfl) ?_
    refine t_end ?_
    show W _ _ _ _ _ _ _
    refine w_seq ?_
    refine w_seq ?_
    refine w_reg fun all => ?_
    refine t_qz 1 [19, 20, 22, 23, 25, 26, 27, 28, 29] (σ' := [(19, .bool true), (20, .pointer (some ⟨b68, 0, none⟩)), (22, .pointer (some ⟨b74, 0, none⟩)), (23, .pointer (some ⟨b75, 0, none⟩)), (25, .pointer (some ⟨b82, 0, none⟩)), (26, .pointer (some ⟨b88, 0, none⟩)), (27, .pointer (some ⟨b94, 0, none⟩)), (28, .pointer (some ⟨b100, 0, none⟩)), (29, .int .i64 0)]) (by kernel_rfl) ?_
    refine t_end ?_
    show W _ _ _ _ _ _ _
    refine w_block ?_
    refine w_lun 5 ?_
    refine wl_step ?_
    refine w_seq ?_
    refine w_seq ?_
    refine w_reg fun all => ?_
    refine t_qz 2 [19, 20, 22, 23, 25, 26, 27, 28, 29, 81] (σ' := [(19, .bool true), (20, .pointer (some ⟨b68, 0, none⟩)), (22, .pointer (some ⟨b74, 0, none⟩)), (23, .pointer (some ⟨b75, 0, none⟩)), (25, .pointer (some ⟨b82, 0, none⟩)), (26, .pointer (some ⟨b88, 0, none⟩)), (27, .pointer (some ⟨b94, 0, none⟩)), (28, .pointer (some ⟨b100, 0, none⟩)), (29, .int .i64 0), (81, .bool true)]) (by kernel_rfl) ?_
    refine t_end ?_
    show W _ _ _ _ _ _ _
    refine w_cond rfl (fun _ => ?_) (fun c_ => by cases c_)
    show W _ _ _ _ _ _ _
    refine w_skip ?_
    show W _ _ _ _ _ _ _
    refine w_seq ?_
    refine w_block ?_
    refine w_seq ?_
    by_cases c101 : t77 = t69
    · rw [if_pos c101] at e
      have c101b : (t77 == t69) = true := beq_iff_eq.mpr c101
      by_cases c102 : t83 = (mn t63 t66)
      · rw [if_pos c102] at e
        have c102b : (t83 == (mn t63 t66)) = true := beq_iff_eq.mpr c102
        by_cases c103 : t89 < 0
        · rw [if_pos c103] at e
          exact absurd (Option.some.inj e) (by decide)
        · rw [if_neg c103] at e
          have c103b : (decide (t89 < 0)) = false := decide_eq_false c103
          by_cases c104 : t89 > 65535
          · rw [if_pos c104] at e
            exact absurd (Option.some.inj e) (by decide)
          · rw [if_neg c104] at e
            have c104b : (decide (t89 > 65535)) = false := decide_eq_false c104
            by_cases c105 : t95 < 0
            · rw [if_pos c105] at e
              exact absurd (Option.some.inj e) (by decide)
            · rw [if_neg c105] at e
              have c105b : (decide (t95 < 0)) = false := decide_eq_false c105
              by_cases c106 : t95 > 65535
              · rw [if_pos c106] at e
                exact absurd (Option.some.inj e) (by decide)
              · rw [if_neg c106] at e
                have c106b : (decide (t95 > 65535)) = false := decide_eq_false c106
                refine w_drwE mixed 40 [.v (.int .i64 0), .v (.pointer (some ⟨b82, 0, none⟩)), .v (.int .i64 t77), .v (.int .i64 0), .v (.pointer (some ⟨b75, 0, none⟩)), .v (.int .i64 t69), .v (.bool false), .v (.bool false), .v (.int .i64 0), .v (.pointer (some ⟨b88, 0, none⟩)), .v (.int .i64 t83), .v (.int .i64 0), .v (.pointer (some ⟨b68, 0, none⟩)), .v (.int .i64 (mn t63 t66)), .v (.bool false), .v (.bool false), .v (.bool false), .v (.int .i64 0), .v (.pointer (some ⟨b94, 0, none⟩)), .v (.int .i64 t89), .v (.bool false), .v (.bool false), .v (.bool false), .v (.int .i64 0), .v (.pointer (some ⟨b94, 0, none⟩)), .v (.int .i64 t89), .v (.bool false), .v (.bool false), .v (.bool false), .v (.int .i64 0), .v (.pointer (some ⟨b100, 0, none⟩)), .v (.int .i64 t95), .v (.bool false), .v (.bool false), .v (.bool false), .v (.int .i64 0), .v (.pointer (some ⟨b100, 0, none⟩)), .v (.int .i64 t95), .v (.bool false), .v (.bool false)] (by kernel_rfl) ?_ ?_
                · refine DI.sq 2 (by kernel_rfl) rfl ?_
                  refine .cons (.ld1 rfl rfl rfl (.at 3 rfl rfl)) ?_
                  refine DI.sq 2 (by kernel_rfl) rfl ?_
                  refine .cons (.ld1 rfl rfl rfl (.at 5 rfl rfl)) ?_
                  refine .cons (dv_quiet rfl (congrArg (fun t => some (Value.bool (!t))) c101b)) ?_
                  refine DI.sq 3 (by kernel_rfl) rfl ?_
                  refine .cons (.ld1 rfl rfl rfl (.at 2 rfl rfl)) ?_
                  refine DI.sq 2 (by kernel_rfl) rfl ?_
                  refine .cons (.ld1 rfl rfl rfl (.at 7 rfl rfl)) ?_
                  refine .cons (dv_quiet rfl (congrArg (fun t => some (Value.bool (!t))) c102b)) ?_
                  refine DI.sq 4 (by kernel_rfl) rfl ?_
                  refine .cons (.ld1 rfl rfl rfl (.at 1 rfl rfl)) ?_
                  refine .cons (dv_quiet rfl (congrArg (fun t => some (Value.bool t)) c103b)) ?_
                  refine DI.sq 4 (by kernel_rfl) rfl ?_
                  refine .cons (.ld1 rfl rfl rfl (.at 1 rfl rfl)) ?_
                  refine .cons (dv_quiet rfl (congrArg (fun t => some (Value.bool t)) c104b)) ?_
                  refine DI.sq 4 (by kernel_rfl) rfl ?_
                  refine .cons (.ld1 rfl rfl rfl (.at 0 rfl rfl)) ?_
                  refine .cons (dv_quiet rfl (congrArg (fun t => some (Value.bool t)) c105b)) ?_
                  refine DI.sq 4 (by kernel_rfl) rfl ?_
                  refine .cons (.ld1 rfl rfl rfl (.at 0 rfl rfl)) ?_
                  refine .cons (dv_quiet rfl (congrArg (fun t => some (Value.bool t)) c106b)) ?_
                  refine DI.sq 1 (by kernel_rfl) rfl ?_
                  exact .nil
                refine fk_q 40 [19, 20, 22, 23, 25, 26, 27, 28, 29, 92, 93, 94, 95, 96, 97, 98, 101, 102, 103, 104, 107, 108, 109, 110, 113, 114, 115, 116, 119, 120, 121, 122, 123] (σ' := [(19, .bool true), (20, .pointer (some ⟨b68, 0, none⟩)), (22, .pointer (some ⟨b74, 0, none⟩)), (23, .pointer (some ⟨b75, 0, none⟩)), (25, .pointer (some ⟨b82, 0, none⟩)), (26, .pointer (some ⟨b88, 0, none⟩)), (27, .pointer (some ⟨b94, 0, none⟩)), (28, .pointer (some ⟨b100, 0, none⟩)), (29, .int .i64 0), (92, .int .i64 0), (93, .pointer (some ⟨b88, 0, none⟩)), (94, .int .i64 t83), (95, .int .i64 0), (96, .pointer (some ⟨b68, 0, none⟩)), (97, .int .i64 (mn t63 t66)), (98, .bool false), (101, .int .i64 0), (102, .pointer (some ⟨b94, 0, none⟩)), (103, .int .i64 t89), (104, .bool false), (107, .int .i64 0), (108, .pointer (some ⟨b94, 0, none⟩)), (109, .int .i64 t89), (110, .bool false), (113, .int .i64 0), (114, .pointer (some ⟨b100, 0, none⟩)), (115, .int .i64 t95), (116, .bool false), (119, .int .i64 0), (120, .pointer (some ⟨b100, 0, none⟩)), (121, .int .i64 t95), (122, .bool false), (123, .bool false)]) t_more (by kernel_rfl) ?_
                refine fk_nil fun all => ?_
                refine t_keep [19, 20, 22, 23, 25, 26, 27, 28, 29, 92, 93, 94, 95, 96, 97, 98, 101, 102, 103, 104, 107, 108, 109, 110, 113, 114, 115, 116, 119, 120, 121, 122, 123] (σ' := [(19, .bool true), (20, .pointer (some ⟨b68, 0, none⟩)), (22, .pointer (some ⟨b74, 0, none⟩)), (23, .pointer (some ⟨b75, 0, none⟩)), (25, .pointer (some ⟨b82, 0, none⟩)), (26, .pointer (some ⟨b88, 0, none⟩)), (27, .pointer (some ⟨b94, 0, none⟩)), (28, .pointer (some ⟨b100, 0, none⟩)), (29, .int .i64 0), (92, .int .i64 0), (93, .pointer (some ⟨b88, 0, none⟩)), (94, .int .i64 t83), (95, .int .i64 0), (96, .pointer (some ⟨b68, 0, none⟩)), (97, .int .i64 (mn t63 t66)), (98, .bool false), (101, .int .i64 0), (102, .pointer (some ⟨b94, 0, none⟩)), (103, .int .i64 t89), (104, .bool false), (107, .int .i64 0), (108, .pointer (some ⟨b94, 0, none⟩)), (109, .int .i64 t89), (110, .bool false), (113, .int .i64 0), (114, .pointer (some ⟨b100, 0, none⟩)), (115, .int .i64 t95), (116, .bool false), (119, .int .i64 0), (120, .pointer (some ⟨b100, 0, none⟩)), (121, .int .i64 t95), (122, .bool false), (123, .bool false)]) (by kernel_rfl) ?_
                refine t_end ?_
                show W _ _ _ _ _ _ _
                refine w_cond rfl (fun c_ => by cases c_) (fun _ => ?_)
                show W _ _ _ _ _ _ _
                refine w_skip ?_
                show W _ _ _ _ _ _ _
                refine w_reg fun all => ?_
                refine t_qz 3 [19, 20, 22, 23, 25, 26, 27, 28, 29, 92, 93, 94, 95, 96, 97, 98, 101, 102, 103, 104, 107, 108, 109, 110, 113, 114, 115, 116, 119, 120, 121, 122] (σ' := [(19, .bool true), (20, .pointer (some ⟨b68, 0, none⟩)), (22, .pointer (some ⟨b74, 0, none⟩)), (23, .pointer (some ⟨b75, 0, none⟩)), (25, .pointer (some ⟨b82, 0, none⟩)), (26, .pointer (some ⟨b88, 0, none⟩)), (27, .pointer (some ⟨b94, 0, none⟩)), (28, .pointer (some ⟨b100, 0, none⟩)), (29, .int .i64 1), (92, .int .i64 0), (93, .pointer (some ⟨b88, 0, none⟩)), (94, .int .i64 t83), (95, .int .i64 0), (96, .pointer (some ⟨b68, 0, none⟩)), (97, .int .i64 (mn t63 t66)), (98, .bool false), (101, .int .i64 0), (102, .pointer (some ⟨b94, 0, none⟩)), (103, .int .i64 t89), (104, .bool false), (107, .int .i64 0), (108, .pointer (some ⟨b94, 0, none⟩)), (109, .int .i64 t89), (110, .bool false), (113, .int .i64 0), (114, .pointer (some ⟨b100, 0, none⟩)), (115, .int .i64 t95), (116, .bool false), (119, .int .i64 0), (120, .pointer (some ⟨b100, 0, none⟩)), (121, .int .i64 t95), (122, .bool false)]) (by kernel_rfl) ?_
                refine t_end ?_
                show WL _ _ _ _ _ _ _ _
                refine wl_step ?_
                refine w_seq ?_
                refine w_seq ?_
                refine w_reg fun all => ?_
                refine t_qz 2 [19, 20, 22, 23, 25, 26, 27, 28, 29, 81, 92, 93, 94, 95, 96, 97, 98, 101, 102, 103, 104, 107, 108, 109, 110, 113, 114, 115, 116, 119, 120, 121, 122] (σ' := [(19, .bool true), (20, .pointer (some ⟨b68, 0, none⟩)), (22, .pointer (some ⟨b74, 0, none⟩)), (23, .pointer (some ⟨b75, 0, none⟩)), (25, .pointer (some ⟨b82, 0, none⟩)), (26, .pointer (some ⟨b88, 0, none⟩)), (27, .pointer (some ⟨b94, 0, none⟩)), (28, .pointer (some ⟨b100, 0, none⟩)), (29, .int .i64 1), (81, .bool true), (92, .int .i64 0), (93, .pointer (some ⟨b88, 0, none⟩)), (94, .int .i64 t83), (95, .int .i64 0), (96, .pointer (some ⟨b68, 0, none⟩)), (97, .int .i64 (mn t63 t66)), (98, .bool false), (101, .int .i64 0), (102, .pointer (some ⟨b94, 0, none⟩)), (103, .int .i64 t89), (104, .bool false), (107, .int .i64 0), (108, .pointer (some ⟨b94, 0, none⟩)), (109, .int .i64 t89), (110, .bool false), (113, .int .i64 0), (114, .pointer (some ⟨b100, 0, none⟩)), (115, .int .i64 t95), (116, .bool false), (119, .int .i64 0), (120, .pointer (some ⟨b100, 0, none⟩)), (121, .int .i64 t95), (122, .bool false)]) (by kernel_rfl) ?_
                refine t_end ?_
                show W _ _ _ _ _ _ _
                refine w_cond rfl (fun _ => ?_) (fun c_ => by cases c_)
                show W _ _ _ _ _ _ _
                refine w_skip ?_
                show W _ _ _ _ _ _ _
                refine w_seq ?_
                refine w_block ?_
                refine w_seq ?_
                by_cases c107 : t78 = t70
                · rw [if_pos c107] at e
                  have c107b : (t78 == t70) = true := beq_iff_eq.mpr c107
                  by_cases c108 : t84 = (mn t64 t66)
                  · rw [if_pos c108] at e
                    have c108b : (t84 == (mn t64 t66)) = true := beq_iff_eq.mpr c108
                    by_cases c109 : t90 < 0
                    · rw [if_pos c109] at e
                      exact absurd (Option.some.inj e) (by decide)
                    · rw [if_neg c109] at e
                      have c109b : (decide (t90 < 0)) = false := decide_eq_false c109
                      by_cases c110 : t90 > 65535
                      · rw [if_pos c110] at e
                        exact absurd (Option.some.inj e) (by decide)
                      · rw [if_neg c110] at e
                        have c110b : (decide (t90 > 65535)) = false := decide_eq_false c110
                        by_cases c111 : t96 < 0
                        · rw [if_pos c111] at e
                          exact absurd (Option.some.inj e) (by decide)
                        · rw [if_neg c111] at e
                          have c111b : (decide (t96 < 0)) = false := decide_eq_false c111
                          by_cases c112 : t96 > 65535
                          · rw [if_pos c112] at e
                            exact absurd (Option.some.inj e) (by decide)
                          · rw [if_neg c112] at e
                            have c112b : (decide (t96 > 65535)) = false := decide_eq_false c112
                            refine w_drwE mixed 40 [.v (.int .i64 1), .v (.pointer (some ⟨b82, 1, none⟩)), .v (.int .i64 t78), .v (.int .i64 1), .v (.pointer (some ⟨b75, 1, none⟩)), .v (.int .i64 t70), .v (.bool false), .v (.bool false), .v (.int .i64 1), .v (.pointer (some ⟨b88, 1, none⟩)), .v (.int .i64 t84), .v (.int .i64 1), .v (.pointer (some ⟨b68, 1, none⟩)), .v (.int .i64 (mn t64 t66)), .v (.bool false), .v (.bool false), .v (.bool false), .v (.int .i64 1), .v (.pointer (some ⟨b94, 1, none⟩)), .v (.int .i64 t90), .v (.bool false), .v (.bool false), .v (.bool false), .v (.int .i64 1), .v (.pointer (some ⟨b94, 1, none⟩)), .v (.int .i64 t90), .v (.bool false), .v (.bool false), .v (.bool false), .v (.int .i64 1), .v (.pointer (some ⟨b100, 1, none⟩)), .v (.int .i64 t96), .v (.bool false), .v (.bool false), .v (.bool false), .v (.int .i64 1), .v (.pointer (some ⟨b100, 1, none⟩)), .v (.int .i64 t96), .v (.bool false), .v (.bool false)] (by kernel_rfl) ?_ ?_
                            · refine DI.sq 2 (by kernel_rfl) rfl ?_
                              refine .cons (.ld1 rfl rfl rfl (.at 3 rfl rfl)) ?_
                              refine DI.sq 2 (by kernel_rfl) rfl ?_
                              refine .cons (.ld1 rfl rfl rfl (.at 5 rfl rfl)) ?_
                              refine .cons (dv_quiet rfl (congrArg (fun t => some (Value.bool (!t))) c107b)) ?_
                              refine DI.sq 3 (by kernel_rfl) rfl ?_
                              refine .cons (.ld1 rfl rfl rfl (.at 2 rfl rfl)) ?_
                              refine DI.sq 2 (by kernel_rfl) rfl ?_
                              refine .cons (.ld1 rfl rfl rfl (.at 7 rfl rfl)) ?_
                              refine .cons (dv_quiet rfl (congrArg (fun t => some (Value.bool (!t))) c108b)) ?_
                              refine DI.sq 4 (by kernel_rfl) rfl ?_
                              refine .cons (.ld1 rfl rfl rfl (.at 1 rfl rfl)) ?_
                              refine .cons (dv_quiet rfl (congrArg (fun t => some (Value.bool t)) c109b)) ?_
                              refine DI.sq 4 (by kernel_rfl) rfl ?_
                              refine .cons (.ld1 rfl rfl rfl (.at 1 rfl rfl)) ?_
                              refine .cons (dv_quiet rfl (congrArg (fun t => some (Value.bool t)) c110b)) ?_
                              refine DI.sq 4 (by kernel_rfl) rfl ?_
                              refine .cons (.ld1 rfl rfl rfl (.at 0 rfl rfl)) ?_
                              refine .cons (dv_quiet rfl (congrArg (fun t => some (Value.bool t)) c111b)) ?_
                              refine DI.sq 4 (by kernel_rfl) rfl ?_
                              refine .cons (.ld1 rfl rfl rfl (.at 0 rfl rfl)) ?_
                              refine .cons (dv_quiet rfl (congrArg (fun t => some (Value.bool t)) c112b)) ?_
                              refine DI.sq 1 (by kernel_rfl) rfl ?_
                              exact .nil
                            refine fk_q 40 [19, 20, 22, 23, 25, 26, 27, 28, 29, 92, 93, 94, 95, 96, 97, 98, 101, 102, 103, 104, 107, 108, 109, 110, 113, 114, 115, 116, 119, 120, 121, 122, 123] (σ' := [(19, .bool true), (20, .pointer (some ⟨b68, 0, none⟩)), (22, .pointer (some ⟨b74, 0, none⟩)), (23, .pointer (some ⟨b75, 0, none⟩)), (25, .pointer (some ⟨b82, 0, none⟩)), (26, .pointer (some ⟨b88, 0, none⟩)), (27, .pointer (some ⟨b94, 0, none⟩)), (28, .pointer (some ⟨b100, 0, none⟩)), (29, .int .i64 1), (92, .int .i64 1), (93, .pointer (some ⟨b88, 1, none⟩)), (94, .int .i64 t84), (95, .int .i64 1), (96, .pointer (some ⟨b68, 1, none⟩)), (97, .int .i64 (mn t64 t66)), (98, .bool false), (101, .int .i64 1), (102, .pointer (some ⟨b94, 1, none⟩)), (103, .int .i64 t90), (104, .bool false), (107, .int .i64 1), (108, .pointer (some ⟨b94, 1, none⟩)), (109, .int .i64 t90), (110, .bool false), (113, .int .i64 1), (114, .pointer (some ⟨b100, 1, none⟩)), (115, .int .i64 t96), (116, .bool false), (119, .int .i64 1), (120, .pointer (some ⟨b100, 1, none⟩)), (121, .int .i64 t96), (122, .bool false), (123, .bool false)]) t_more (by kernel_rfl) ?_
                            refine fk_nil fun all => ?_
                            refine t_keep [19, 20, 22, 23, 25, 26, 27, 28, 29, 92, 93, 94, 95, 96, 97, 98, 101, 102, 103, 104, 107, 108, 109, 110, 113, 114, 115, 116, 119, 120, 121, 122, 123] (σ' := [(19, .bool true), (20, .pointer (some ⟨b68, 0, none⟩)), (22, .pointer (some ⟨b74, 0, none⟩)), (23, .pointer (some ⟨b75, 0, none⟩)), (25, .pointer (some ⟨b82, 0, none⟩)), (26, .pointer (some ⟨b88, 0, none⟩)), (27, .pointer (some ⟨b94, 0, none⟩)), (28, .pointer (some ⟨b100, 0, none⟩)), (29, .int .i64 1), (92, .int .i64 1), (93, .pointer (some ⟨b88, 1, none⟩)), (94, .int .i64 t84), (95, .int .i64 1), (96, .pointer (some ⟨b68, 1, none⟩)), (97, .int .i64 (mn t64 t66)), (98, .bool false), (101, .int .i64 1), (102, .pointer (some ⟨b94, 1, none⟩)), (103, .int .i64 t90), (104, .bool false), (107, .int .i64 1), (108, .pointer (some ⟨b94, 1, none⟩)), (109, .int .i64 t90), (110, .bool false), (113, .int .i64 1), (114, .pointer (some ⟨b100, 1, none⟩)), (115, .int .i64 t96), (116, .bool false), (119, .int .i64 1), (120, .pointer (some ⟨b100, 1, none⟩)), (121, .int .i64 t96), (122, .bool false), (123, .bool false)]) (by kernel_rfl) ?_
                            refine t_end ?_
                            show W _ _ _ _ _ _ _
                            refine w_cond rfl (fun c_ => by cases c_) (fun _ => ?_)
                            show W _ _ _ _ _ _ _
                            refine w_skip ?_
                            show W _ _ _ _ _ _ _
                            refine w_reg fun all => ?_
                            refine t_qz 3 [19, 20, 22, 23, 25, 26, 27, 28, 29, 92, 93, 94, 95, 96, 97, 98, 101, 102, 103, 104, 107, 108, 109, 110, 113, 114, 115, 116, 119, 120, 121, 122] (σ' := [(19, .bool true), (20, .pointer (some ⟨b68, 0, none⟩)), (22, .pointer (some ⟨b74, 0, none⟩)), (23, .pointer (some ⟨b75, 0, none⟩)), (25, .pointer (some ⟨b82, 0, none⟩)), (26, .pointer (some ⟨b88, 0, none⟩)), (27, .pointer (some ⟨b94, 0, none⟩)), (28, .pointer (some ⟨b100, 0, none⟩)), (29, .int .i64 2), (92, .int .i64 1), (93, .pointer (some ⟨b88, 1, none⟩)), (94, .int .i64 t84), (95, .int .i64 1), (96, .pointer (some ⟨b68, 1, none⟩)), (97, .int .i64 (mn t64 t66)), (98, .bool false), (101, .int .i64 1), (102, .pointer (some ⟨b94, 1, none⟩)), (103, .int .i64 t90), (104, .bool false), (107, .int .i64 1), (108, .pointer (some ⟨b94, 1, none⟩)), (109, .int .i64 t90), (110, .bool false), (113, .int .i64 1), (114, .pointer (some ⟨b100, 1, none⟩)), (115, .int .i64 t96), (116, .bool false), (119, .int .i64 1), (120, .pointer (some ⟨b100, 1, none⟩)), (121, .int .i64 t96), (122, .bool false)]) (by kernel_rfl) ?_
                            refine t_end ?_
                            show WL _ _ _ _ _ _ _ _
                            refine wl_step ?_
                            refine w_seq ?_
                            refine w_seq ?_
                            refine w_reg fun all => ?_
                            refine t_qz 2 [19, 20, 22, 23, 25, 26, 27, 28, 29, 81, 92, 93, 94, 95, 96, 97, 98, 101, 102, 103, 104, 107, 108, 109, 110, 113, 114, 115, 116, 119, 120, 121, 122] (σ' := [(19, .bool true), (20, .pointer (some ⟨b68, 0, none⟩)), (22, .pointer (some ⟨b74, 0, none⟩)), (23, .pointer (some ⟨b75, 0, none⟩)), (25, .pointer (some ⟨b82, 0, none⟩)), (26, .pointer (some ⟨b88, 0, none⟩)), (27, .pointer (some ⟨b94, 0, none⟩)), (28, .pointer (some ⟨b100, 0, none⟩)), (29, .int .i64 2), (81, .bool true), (92, .int .i64 1), (93, .pointer (some ⟨b88, 1, none⟩)), (94, .int .i64 t84), (95, .int .i64 1), (96, .pointer (some ⟨b68, 1, none⟩)), (97, .int .i64 (mn t64 t66)), (98, .bool false), (101, .int .i64 1), (102, .pointer (some ⟨b94, 1, none⟩)), (103, .int .i64 t90), (104, .bool false), (107, .int .i64 1), (108, .pointer (some ⟨b94, 1, none⟩)), (109, .int .i64 t90), (110, .bool false), (113, .int .i64 1), (114, .pointer (some ⟨b100, 1, none⟩)), (115, .int .i64 t96), (116, .bool false), (119, .int .i64 1), (120, .pointer (some ⟨b100, 1, none⟩)), (121, .int .i64 t96), (122, .bool false)]) (by kernel_rfl) ?_
                            refine t_end ?_
                            show W _ _ _ _ _ _ _
                            refine w_cond rfl (fun _ => ?_) (fun c_ => by cases c_)
                            show W _ _ _ _ _ _ _
                            refine w_skip ?_
                            show W _ _ _ _ _ _ _
                            refine w_seq ?_
                            refine w_block ?_
                            refine w_seq ?_
                            by_cases c113 : t79 = t71
                            · rw [if_pos c113] at e
                              have c113b : (t79 == t71) = true := beq_iff_eq.mpr c113
                              by_cases c114 : t85 = (mn t65 t66)
                              · rw [if_pos c114] at e
                                have c114b : (t85 == (mn t65 t66)) = true := beq_iff_eq.mpr c114
                                by_cases c115 : t91 < 0
                                · rw [if_pos c115] at e
                                  exact absurd (Option.some.inj e) (by decide)
                                · rw [if_neg c115] at e
                                  have c115b : (decide (t91 < 0)) = false := decide_eq_false c115
                                  by_cases c116 : t91 > 65535
                                  · rw [if_pos c116] at e
                                    exact absurd (Option.some.inj e) (by decide)
                                  · rw [if_neg c116] at e
                                    have c116b : (decide (t91 > 65535)) = false := decide_eq_false c116
                                    by_cases c117 : t97 < 0
                                    · rw [if_pos c117] at e
                                      exact absurd (Option.some.inj e) (by decide)
                                    · rw [if_neg c117] at e
                                      have c117b : (decide (t97 < 0)) = false := decide_eq_false c117
                                      by_cases c118 : t97 > 65535
                                      · rw [if_pos c118] at e
                                        exact absurd (Option.some.inj e) (by decide)
                                      · rw [if_neg c118] at e
                                        have c118b : (decide (t97 > 65535)) = false := decide_eq_false c118
                                        refine w_drwE mixed 40 [.v (.int .i64 2), .v (.pointer (some ⟨b82, 2, none⟩)), .v (.int .i64 t79), .v (.int .i64 2), .v (.pointer (some ⟨b75, 2, none⟩)), .v (.int .i64 t71), .v (.bool false), .v (.bool false), .v (.int .i64 2), .v (.pointer (some ⟨b88, 2, none⟩)), .v (.int .i64 t85), .v (.int .i64 2), .v (.pointer (some ⟨b68, 2, none⟩)), .v (.int .i64 (mn t65 t66)), .v (.bool false), .v (.bool false), .v (.bool false), .v (.int .i64 2), .v (.pointer (some ⟨b94, 2, none⟩)), .v (.int .i64 t91), .v (.bool false), .v (.bool false), .v (.bool false), .v (.int .i64 2), .v (.pointer (some ⟨b94, 2, none⟩)), .v (.int .i64 t91), .v (.bool false), .v (.bool false), .v (.bool false), .v (.int .i64 2), .v (.pointer (some ⟨b100, 2, none⟩)), .v (.int .i64 t97), .v (.bool false), .v (.bool false), .v (.bool false), .v (.int .i64 2), .v (.pointer (some ⟨b100, 2, none⟩)), .v (.int .i64 t97), .v (.bool false), .v (.bool false)] (by kernel_rfl) ?_ ?_
                                        · refine DI.sq 2 (by kernel_rfl) rfl ?_
                                          refine .cons (.ld1 rfl rfl rfl (.at 3 rfl rfl)) ?_
                                          refine DI.sq 2 (by kernel_rfl) rfl ?_
                                          refine .cons (.ld1 rfl rfl rfl (.at 5 rfl rfl)) ?_
                                          refine .cons (dv_quiet rfl (congrArg (fun t => some (Value.bool (!t))) c113b)) ?_
                                          refine DI.sq 3 (by kernel_rfl) rfl ?_
                                          refine .cons (.ld1 rfl rfl rfl (.at 2 rfl rfl)) ?_
                                          refine DI.sq 2 (by kernel_rfl) rfl ?_
                                          refine .cons (.ld1 rfl rfl rfl (.at 7 rfl rfl)) ?_
                                          refine .cons (dv_quiet rfl (congrArg (fun t => some (Value.bool (!t))) c114b)) ?_
                                          refine DI.sq 4 (by kernel_rfl) rfl ?_
                                          refine .cons (.ld1 rfl rfl rfl (.at 1 rfl rfl)) ?_
                                          refine .cons (dv_quiet rfl (congrArg (fun t => some (Value.bool t)) c115b)) ?_
                                          refine DI.sq 4 (by kernel_rfl) rfl ?_
                                          refine .cons (.ld1 rfl rfl rfl (.at 1 rfl rfl)) ?_
                                          refine .cons (dv_quiet rfl (congrArg (fun t => some (Value.bool t)) c116b)) ?_
                                          refine DI.sq 4 (by kernel_rfl) rfl ?_
                                          refine .cons (.ld1 rfl rfl rfl (.at 0 rfl rfl)) ?_
                                          refine .cons (dv_quiet rfl (congrArg (fun t => some (Value.bool t)) c117b)) ?_
                                          refine DI.sq 4 (by kernel_rfl) rfl ?_
                                          refine .cons (.ld1 rfl rfl rfl (.at 0 rfl rfl)) ?_
                                          refine .cons (dv_quiet rfl (congrArg (fun t => some (Value.bool t)) c118b)) ?_
                                          refine DI.sq 1 (by kernel_rfl) rfl ?_
                                          exact .nil
                                        refine fk_q 40 [19, 20, 22, 23, 25, 26, 27, 28, 29, 92, 93, 94, 95, 96, 97, 98, 101, 102, 103, 104, 107, 108, 109, 110, 113, 114, 115, 116, 119, 120, 121, 122, 123] (σ' := [(19, .bool true), (20, .pointer (some ⟨b68, 0, none⟩)), (22, .pointer (some ⟨b74, 0, none⟩)), (23, .pointer (some ⟨b75, 0, none⟩)), (25, .pointer (some ⟨b82, 0, none⟩)), (26, .pointer (some ⟨b88, 0, none⟩)), (27, .pointer (some ⟨b94, 0, none⟩)), (28, .pointer (some ⟨b100, 0, none⟩)), (29, .int .i64 2), (92, .int .i64 2), (93, .pointer (some ⟨b88, 2, none⟩)), (94, .int .i64 t85), (95, .int .i64 2), (96, .pointer (some ⟨b68, 2, none⟩)), (97, .int .i64 (mn t65 t66)), (98, .bool false), (101, .int .i64 2), (102, .pointer (some ⟨b94, 2, none⟩)), (103, .int .i64 t91), (104, .bool false), (107, .int .i64 2), (108, .pointer (some ⟨b94, 2, none⟩)), (109, .int .i64 t91), (110, .bool false), (113, .int .i64 2), (114, .pointer (some ⟨b100, 2, none⟩)), (115, .int .i64 t97), (116, .bool false), (119, .int .i64 2), (120, .pointer (some ⟨b100, 2, none⟩)), (121, .int .i64 t97), (122, .bool false), (123, .bool false)]) t_more (by kernel_rfl) ?_
                                        refine fk_nil fun all => ?_
                                        refine t_keep [19, 20, 22, 23, 25, 26, 27, 28, 29, 92, 93, 94, 95, 96, 97, 98, 101, 102, 103, 104, 107, 108, 109, 110, 113, 114, 115, 116, 119, 120, 121, 122, 123] (σ' := [(19, .bool true), (20, .pointer (some ⟨b68, 0, none⟩)), (22, .pointer (some ⟨b74, 0, none⟩)), (23, .pointer (some ⟨b75, 0, none⟩)), (25, .pointer (some ⟨b82, 0, none⟩)), (26, .pointer (some ⟨b88, 0, none⟩)), (27, .pointer (some ⟨b94, 0, none⟩)), (28, .pointer (some ⟨b100, 0, none⟩)), (29, .int .i64 2), (92, .int .i64 2), (93, .pointer (some ⟨b88, 2, none⟩)), (94, .int .i64 t85), (95, .int .i64 2), (96, .pointer (some ⟨b68, 2, none⟩)), (97, .int .i64 (mn t65 t66)), (98, .bool false), (101, .int .i64 2), (102, .pointer (some ⟨b94, 2, none⟩)), (103, .int .i64 t91), (104, .bool false), (107, .int .i64 2), (108, .pointer (some ⟨b94, 2, none⟩)), (109, .int .i64 t91), (110, .bool false), (113, .int .i64 2), (114, .pointer (some ⟨b100, 2, none⟩)), (115, .int .i64 t97), (116, .bool false), (119, .int .i64 2), (120, .pointer (some ⟨b100, 2, none⟩)), (121, .int .i64 t97), (122, .bool false), (123, .bool false)]) (by kernel_rfl) ?_
                                        refine t_end ?_
                                        show W _ _ _ _ _ _ _
                                        refine w_cond rfl (fun c_ => by cases c_) (fun _ => ?_)
                                        show W _ _ _ _ _ _ _
                                        refine w_skip ?_
                                        show W _ _ _ _ _ _ _
                                        refine w_reg fun all => ?_
                                        refine t_qz 3 [19, 20, 22, 23, 25, 26, 27, 28, 29, 92, 93, 94, 95, 96, 97, 98, 101, 102, 103, 104, 107, 108, 109, 110, 113, 114, 115, 116, 119, 120, 121, 122] (σ' := [(19, .bool true), (20, .pointer (some ⟨b68, 0, none⟩)), (22, .pointer (some ⟨b74, 0, none⟩)), (23, .pointer (some ⟨b75, 0, none⟩)), (25, .pointer (some ⟨b82, 0, none⟩)), (26, .pointer (some ⟨b88, 0, none⟩)), (27, .pointer (some ⟨b94, 0, none⟩)), (28, .pointer (some ⟨b100, 0, none⟩)), (29, .int .i64 3), (92, .int .i64 2), (93, .pointer (some ⟨b88, 2, none⟩)), (94, .int .i64 t85), (95, .int .i64 2), (96, .pointer (some ⟨b68, 2, none⟩)), (97, .int .i64 (mn t65 t66)), (98, .bool false), (101, .int .i64 2), (102, .pointer (some ⟨b94, 2, none⟩)), (103, .int .i64 t91), (104, .bool false), (107, .int .i64 2), (108, .pointer (some ⟨b94, 2, none⟩)), (109, .int .i64 t91), (110, .bool false), (113, .int .i64 2), (114, .pointer (some ⟨b100, 2, none⟩)), (115, .int .i64 t97), (116, .bool false), (119, .int .i64 2), (120, .pointer (some ⟨b100, 2, none⟩)), (121, .int .i64 t97), (122, .bool false)]) (by kernel_rfl) ?_
                                        refine t_end ?_
                                        show WL _ _ _ _ _ _ _ _
                                        refine wl_step ?_
                                        refine w_seq ?_
                                        refine w_seq ?_
                                        refine w_reg fun all => ?_
                                        refine t_qz 2 [19, 20, 22, 23, 25, 26, 27, 28, 29, 81, 92, 93, 94, 95, 96, 97, 98, 101, 102, 103, 104, 107, 108, 109, 110, 113, 114, 115, 116, 119, 120, 121, 122] (σ' := [(19, .bool true), (20, .pointer (some ⟨b68, 0, none⟩)), (22, .pointer (some ⟨b74, 0, none⟩)), (23, .pointer (some ⟨b75, 0, none⟩)), (25, .pointer (some ⟨b82, 0, none⟩)), (26, .pointer (some ⟨b88, 0, none⟩)), (27, .pointer (some ⟨b94, 0, none⟩)), (28, .pointer (some ⟨b100, 0, none⟩)), (29, .int .i64 3), (81, .bool true), (92, .int .i64 2), (93, .pointer (some ⟨b88, 2, none⟩)), (94, .int .i64 t85), (95, .int .i64 2), (96, .pointer (some ⟨b68, 2, none⟩)), (97, .int .i64 (mn t65 t66)), (98, .bool false), (101, .int .i64 2), (102, .pointer (some ⟨b94, 2, none⟩)), (103, .int .i64 t91), (104, .bool false), (107, .int .i64 2), (108, .pointer (some ⟨b94, 2, none⟩)), (109, .int .i64 t91), (110, .bool false), (113, .int .i64 2), (114, .pointer (some ⟨b100, 2, none⟩)), (115, .int .i64 t97), (116, .bool false), (119, .int .i64 2), (120, .pointer (some ⟨b100, 2, none⟩)), (121, .int .i64 t97), (122, .bool false)]) (by kernel_rfl) ?_
                                        refine t_end ?_
                                        show W _ _ _ _ _ _ _
                                        refine w_cond rfl (fun _ => ?_) (fun c_ => by cases c_)
                                        show W _ _ _ _ _ _ _
                                        refine w_skip ?_
                                        show W _ _ _ _ _ _ _
                                        refine w_seq ?_
                                        refine w_block ?_
                                        refine w_seq ?_
                                        by_cases c119 : t80 = 65535
                                        · rw [if_pos c119] at e
                                          have c119b : (t80 == 65535) = true := beq_iff_eq.mpr c119
                                          by_cases c120 : t86 = t66
                                          · rw [if_pos c120] at e
                                            have c120b : (t86 == t66) = true := beq_iff_eq.mpr c120
                                            by_cases c121 : t92 < 0
                                            · rw [if_pos c121] at e
                                              exact absurd (Option.some.inj e) (by decide)
                                            · rw [if_neg c121] at e
                                              have c121b : (decide (t92 < 0)) = false := decide_eq_false c121
                                              by_cases c122 : t92 > 65535
                                              · rw [if_pos c122] at e
                                                exact absurd (Option.some.inj e) (by decide)
                                              · rw [if_neg c122] at e
                                                have c122b : (decide (t92 > 65535)) = false := decide_eq_false c122
                                                by_cases c123 : t98 < 0
                                                · rw [if_pos c123] at e
                                                  exact absurd (Option.some.inj e) (by decide)
                                                · rw [if_neg c123] at e
                                                  have c123b : (decide (t98 < 0)) = false := decide_eq_false c123
                                                  by_cases c124 : t98 > 65535
                                                  · rw [if_pos c124] at e
                                                    exact absurd (Option.some.inj e) (by decide)
                                                  · rw [if_neg c124] at e
                                                    have c124b : (decide (t98 > 65535)) = false := decide_eq_false c124
                                                    refine w_drwE mixed 40 [.v (.int .i64 3), .v (.pointer (some ⟨b82, 3, none⟩)), .v (.int .i64 t80), .v (.int .i64 3), .v (.pointer (some ⟨b75, 3, none⟩)), .v (.int .i64 65535), .v (.bool false), .v (.bool false), .v (.int .i64 3), .v (.pointer (some ⟨b88, 3, none⟩)), .v (.int .i64 t86), .v (.int .i64 3), .v (.pointer (some ⟨b68, 3, none⟩)), .v (.int .i64 t66), .v (.bool false), .v (.bool false), .v (.bool false), .v (.int .i64 3), .v (.pointer (some ⟨b94, 3, none⟩)), .v (.int .i64 t92), .v (.bool false), .v (.bool false), .v (.bool false), .v (.int .i64 3), .v (.pointer (some ⟨b94, 3, none⟩)), .v (.int .i64 t92), .v (.bool false), .v (.bool false), .v (.bool false), .v (.int .i64 3), .v (.pointer (some ⟨b100, 3, none⟩)), .v (.int .i64 t98), .v (.bool false), .v (.bool false), .v (.bool false), .v (.int .i64 3), .v (.pointer (some ⟨b100, 3, none⟩)), .v (.int .i64 t98), .v (.bool false), .v (.bool false)] (by kernel_rfl) ?_ ?_
                                                    · refine DI.sq 2 (by kernel_rfl) rfl ?_
                                                      refine .cons (.ld1 rfl rfl rfl (.at 3 rfl rfl)) ?_
                                                      refine DI.sq 2 (by kernel_rfl) rfl ?_
                                                      refine .cons (.ld1 rfl rfl rfl (.at 5 rfl rfl)) ?_
                                                      refine .cons (dv_quiet rfl (congrArg (fun t => some (Value.bool (!t))) c119b)) ?_
                                                      refine DI.sq 3 (by kernel_rfl) rfl ?_
                                                      refine .cons (.ld1 rfl rfl rfl (.at 2 rfl rfl)) ?_
                                                      refine DI.sq 2 (by kernel_rfl) rfl ?_
                                                      refine .cons (.ld1 rfl rfl rfl (.at 7 rfl rfl)) ?_
                                                      refine .cons (dv_quiet rfl (congrArg (fun t => some (Value.bool (!t))) c120b)) ?_
                                                      refine DI.sq 4 (by kernel_rfl) rfl ?_
                                                      refine .cons (.ld1 rfl rfl rfl (.at 1 rfl rfl)) ?_
                                                      refine .cons (dv_quiet rfl (congrArg (fun t => some (Value.bool t)) c121b)) ?_
                                                      refine DI.sq 4 (by kernel_rfl) rfl ?_
                                                      refine .cons (.ld1 rfl rfl rfl (.at 1 rfl rfl)) ?_
                                                      refine .cons (dv_quiet rfl (congrArg (fun t => some (Value.bool t)) c122b)) ?_
                                                      refine DI.sq 4 (by kernel_rfl) rfl ?_
                                                      refine .cons (.ld1 rfl rfl rfl (.at 0 rfl rfl)) ?_
                                                      refine .cons (dv_quiet rfl (congrArg (fun t => some (Value.bool t)) c123b)) ?_
                                                      refine DI.sq 4 (by kernel_rfl) rfl ?_
                                                      refine .cons (.ld1 rfl rfl rfl (.at 0 rfl rfl)) ?_
                                                      refine .cons (dv_quiet rfl (congrArg (fun t => some (Value.bool t)) c124b)) ?_
                                                      refine DI.sq 1 (by kernel_rfl) rfl ?_
                                                      exact .nil
                                                    refine fk_q 40 [19, 20, 22, 23, 25, 26, 27, 28, 29, 92, 93, 94, 95, 96, 97, 98, 101, 102, 103, 104, 107, 108, 109, 110, 113, 114, 115, 116, 119, 120, 121, 122, 123] (σ' := [(19, .bool true), (20, .pointer (some ⟨b68, 0, none⟩)), (22, .pointer (some ⟨b74, 0, none⟩)), (23, .pointer (some ⟨b75, 0, none⟩)), (25, .pointer (some ⟨b82, 0, none⟩)), (26, .pointer (some ⟨b88, 0, none⟩)), (27, .pointer (some ⟨b94, 0, none⟩)), (28, .pointer (some ⟨b100, 0, none⟩)), (29, .int .i64 3), (92, .int .i64 3), (93, .pointer (some ⟨b88, 3, none⟩)), (94, .int .i64 t86), (95, .int .i64 3), (96, .pointer (some ⟨b68, 3, none⟩)), (97, .int .i64 t66), (98, .bool false), (101, .int .i64 3), (102, .pointer (some ⟨b94, 3, none⟩)), (103, .int .i64 t92), (104, .bool false), (107, .int .i64 3), (108, .pointer (some ⟨b94, 3, none⟩)), (109, .int .i64 t92), (110, .bool false), (113, .int .i64 3), (114, .pointer (some ⟨b100, 3, none⟩)), (115, .int .i64 t98), (116, .bool false), (119, .int .i64 3), (120, .pointer (some ⟨b100, 3, none⟩)), (121, .int .i64 t98), (122, .bool false), (123, .bool false)]) t_more (by kernel_rfl) ?_
                                                    refine fk_nil fun all => ?_
                                                    refine t_keep [19, 20, 22, 23, 25, 26, 27, 28, 29, 92, 93, 94, 95, 96, 97, 98, 101, 102, 103, 104, 107, 108, 109, 110, 113, 114, 115, 116, 119, 120, 121, 122, 123] (σ' := [(19, .bool true), (20, .pointer (some ⟨b68, 0, none⟩)), (22, .pointer (some ⟨b74, 0, none⟩)), (23, .pointer (some ⟨b75, 0, none⟩)), (25, .pointer (some ⟨b82, 0, none⟩)), (26, .pointer (some ⟨b88, 0, none⟩)), (27, .pointer (some ⟨b94, 0, none⟩)), (28, .pointer (some ⟨b100, 0, none⟩)), (29, .int .i64 3), (92, .int .i64 3), (93, .pointer (some ⟨b88, 3, none⟩)), (94, .int .i64 t86), (95, .int .i64 3), (96, .pointer (some ⟨b68, 3, none⟩)), (97, .int .i64 t66), (98, .bool false), (101, .int .i64 3), (102, .pointer (some ⟨b94, 3, none⟩)), (103, .int .i64 t92), (104, .bool false), (107, .int .i64 3), (108, .pointer (some ⟨b94, 3, none⟩)), (109, .int .i64 t92), (110, .bool false), (113, .int .i64 3), (114, .pointer (some ⟨b100, 3, none⟩)), (115, .int .i64 t98), (116, .bool false), (119, .int .i64 3), (120, .pointer (some ⟨b100, 3, none⟩)), (121, .int .i64 t98), (122, .bool false), (123, .bool false)]) (by kernel_rfl) ?_
                                                    refine t_end ?_
                                                    show W _ _ _ _ _ _ _
                                                    refine w_cond rfl (fun c_ => by cases c_) (fun _ => ?_)
                                                    show W _ _ _ _ _ _ _
                                                    refine w_skip ?_
                                                    show W _ _ _ _ _ _ _
                                                    refine w_reg fun all => ?_
                                                    refine t_qz 3 [19, 20, 22, 23, 25, 26, 27, 28, 29, 92, 93, 94, 95, 96, 97, 98, 101, 102, 103, 104, 107, 108, 109, 110, 113, 114, 115, 116, 119, 120, 121, 122] (σ' := [(19, .bool true), (20, .pointer (some ⟨b68, 0, none⟩)), (22, .pointer (some ⟨b74, 0, none⟩)), (23, .pointer (some ⟨b75, 0, none⟩)), (25, .pointer (some ⟨b82, 0, none⟩)), (26, .pointer (some ⟨b88, 0, none⟩)), (27, .pointer (some ⟨b94, 0, none⟩)), (28, .pointer (some ⟨b100, 0, none⟩)), (29, .int .i64 4), (92, .int .i64 3), (93, .pointer (some ⟨b88, 3, none⟩)), (94, .int .i64 t86), (95, .int .i64 3), (96, .pointer (some ⟨b68, 3, none⟩)), (97, .int .i64 t66), (98, .bool false), (101, .int .i64 3), (102, .pointer (some ⟨b94, 3, none⟩)), (103, .int .i64 t92), (104, .bool false), (107, .int .i64 3), (108, .pointer (some ⟨b94, 3, none⟩)), (109, .int .i64 t92), (110, .bool false), (113, .int .i64 3), (114, .pointer (some ⟨b100, 3, none⟩)), (115, .int .i64 t98), (116, .bool false), (119, .int .i64 3), (120, .pointer (some ⟨b100, 3, none⟩)), (121, .int .i64 t98), (122, .bool false)]) (by kernel_rfl) ?_
                                                    refine t_end ?_
                                                    show WL _ _ _ _ _ _ _ _
                                                    refine wl_step ?_
                                                    refine w_seq ?_
                                                    refine w_seq ?_
                                                    refine w_reg fun all => ?_
                                                    refine t_qz 2 [19, 20, 22, 23, 25, 26, 27, 28, 29, 81, 92, 93, 94, 95, 96, 97, 98, 101, 102, 103, 104, 107, 108, 109, 110, 113, 114, 115, 116, 119, 120, 121, 122] (σ' := [(19, .bool true), (20, .pointer (some ⟨b68, 0, none⟩)), (22, .pointer (some ⟨b74, 0, none⟩)), (23, .pointer (some ⟨b75, 0, none⟩)), (25, .pointer (some ⟨b82, 0, none⟩)), (26, .pointer (some ⟨b88, 0, none⟩)), (27, .pointer (some ⟨b94, 0, none⟩)), (28, .pointer (some ⟨b100, 0, none⟩)), (29, .int .i64 4), (81, .bool false), (92, .int .i64 3), (93, .pointer (some ⟨b88, 3, none⟩)), (94, .int .i64 t86), (95, .int .i64 3), (96, .pointer (some ⟨b68, 3, none⟩)), (97, .int .i64 t66), (98, .bool false), (101, .int .i64 3), (102, .pointer (some ⟨b94, 3, none⟩)), (103, .int .i64 t92), (104, .bool false), (107, .int .i64 3), (108, .pointer (some ⟨b94, 3, none⟩)), (109, .int .i64 t92), (110, .bool false), (113, .int .i64 3), (114, .pointer (some ⟨b100, 3, none⟩)), (115, .int .i64 t98), (116, .bool false), (119, .int .i64 3), (120, .pointer (some ⟨b100, 3, none⟩)), (121, .int .i64 t98), (122, .bool false)]) (by kernel_rfl) ?_
                                                    refine t_end ?_
                                                    show W _ _ _ _ _ _ _
                                                    refine w_cond rfl (fun c_ => by cases c_) (fun _ => ?_)
                                                    show W _ _ _ _ _ _ _
                                                    refine w_exit ?_
                                                    show W _ _ _ _ _ _ _
                                                    refine w_seq ?_
                                                    refine w_reg fun all => ?_
                                                    refine t_v (.ldn rfl rfl rfl (.at 5 rfl rfl)) ?_
                                                    obtain ⟨⟨t125, t126, t127, t128⟩, h129, e⟩ := bind_of e
                                                    try dsimp only at e
                                                    refine t_v (.call (vs := [.agg #[.int .i64 t69, .int .i64 t70, .int .i64 t71, .int .i64 65535]]) rfl rfl (by kernel_rfl) (blend_Final.ok h129)) ?_
                                                    refine t_a (.new rfl rfl) fun b130 fb130 sb130 => ?_
                                                    refine t_sti 0 (cs := [.int .u8 t125, .int .u8 t126, .int .u8 t127, .int .u8 t128]) rfl rfl rfl rfl rfl rfl rfl rfl rfl ?_
                                                    refine t_keep [19, 20, 22, 23, 27, 28, 30] (σ' := [(19, .bool true), (20, .pointer (some ⟨b68, 0, none⟩)), (22, .pointer (some ⟨b74, 0, none⟩)), (23, .pointer (some ⟨b75, 0, none⟩)), (27, .pointer (some ⟨b94, 0, none⟩)), (28, .pointer (some ⟨b100, 0, none⟩)), (30, .pointer (some ⟨b130, 0, none⟩))]) (by kernel_rfl) ?_
                                                    refine t_end ?_
                                                    show W _ _ _ _ _ _ _
                                                    refine w_seq ?_
                                                    by_cases c131 : (wr64 (t98 + 1)) ≥ t92
                                                    · rw [if_pos c131] at e
                                                      have c131b : (decide ((wr64 (t98 + 1)) ≥ t92)) = true := decide_eq_true c131
                                                      by_cases c132 : (wr64 (t92 + 1)) ≥ t66
                                                      · rw [if_pos c132] at e
                                                        have c132b : (decide ((wr64 (t92 + 1)) ≥ t66)) = true := decide_eq_true c132
                                                        obtain ⟨⟨t133, t134, t135, t136⟩, h137, e⟩ := bind_of e
                                                        try dsimp only at e
                                                        by_cases c138 : ((t133 == (mn t63 t66)) && ((t134 == (mn t64 t66)) && ((t135 == (mn t65 t66)) && (t136 == t66)))) = true
                                                        · rw [if_pos c138] at e
                                                          have c138b : ((t133 == (mn t63 t66)) && ((t134 == (mn t64 t66)) && ((t135 == (mn t65 t66)) && (t136 == t66)))) = true := c138
                                                          by_cases c139 : t128 = 255
                                                          · rw [if_pos c139] at e
                                                            have c139b : (t128 == 255) = true := beq_iff_eq.mpr c139
                                                            refine w_drwE mixed 41 [.v (.bool true), .v (.bool true), .v (.pointer (some ⟨b100, 3, none⟩)), .v (.int .i64 t98), .v (.int .i64 (wr64 (t98 + 1))), .v (.pointer (some ⟨b94, 3, none⟩)), .v (.int .i64 t92), .v (.bool true), .v (.bool true), .v (.bool true), .v (.pointer (some ⟨b94, 3, none⟩)), .v (.int .i64 t92), .v (.int .i64 (wr64 (t92 + 1))), .v (.pointer (some ⟨b68, 3, none⟩)), .v (.int .i64 t66), .v (.bool true), .v (.bool true), .v (.bool true), .v (.agg #[.int .i64 (mn t63 t66), .int .i64 (mn t64 t66), .int .i64 (mn t65 t66), .int .i64 t66]), .v (.agg #[.int .i64 t69, .int .i64 t70, .int .i64 t71, .int .i64 t72]), .v (.agg #[.int .i64 t133, .int .i64 t134, .int .i64 t135, .int .i64 t136]), .v (.agg #[.int .i64 (mn t63 t66), .int .i64 (mn t64 t66), .int .i64 (mn t65 t66), .int .i64 t66]), .v (.bool true), .v (.bool true), .v (.bool true), .v (.pointer (some ⟨b130, 3, none⟩)), .v (.int .u8 t128), .v (.bool true), .v (.bool true), .v (.bool true), .v (.pointer (some ⟨b130, 0, none⟩)), .v (.int .u8 t125), .v (.int .i64 (wr64 t125)), .v (.pointer (some ⟨b75, 0, none⟩)), .v (.int .i64 t69), .v (.int .i64 (wr64 (t69 * 255))), .v (.int .i64 (wr64 ((wr64 (t69 * 255)) + 32767))), .v (.int .i64 (wr64 (Int.tdiv (wr64 ((wr64 (t69 * 255)) + 32767)) 65535))), .v (.bool ((wr64 t125) == (wr64 (Int.tdiv (wr64 ((wr64 (t69 * 255)) + 32767)) 65535)))), .v (.bool ((wr64 t125) == (wr64 (Int.tdiv (wr64 ((wr64 (t69 * 255)) + 32767)) 65535)))), .v (.bool ((wr64 t125) == (wr64 (Int.tdiv (wr64 ((wr64 (t69 * 255)) + 32767)) 65535))))] (by kernel_rfl) ?_ ?_
                                                            · refine DI.sq 3 (by kernel_rfl) rfl ?_
                                                              refine .cons (.ld1 rfl rfl rfl (.at 1 rfl rfl)) ?_
                                                              refine DI.sq 2 (by kernel_rfl) rfl ?_
                                                              refine .cons (.ld1 rfl rfl rfl (.at 2 rfl rfl)) ?_
                                                              refine .cons (dv_quiet rfl (congrArg (fun t => some (Value.bool t)) c131b)) ?_
                                                              refine DI.sq 3 (by kernel_rfl) rfl ?_
                                                              refine .cons (.ld1 rfl rfl rfl (.at 2 rfl rfl)) ?_
                                                              refine DI.sq 2 (by kernel_rfl) rfl ?_
                                                              refine .cons (.ld1 rfl rfl rfl (.at 8 rfl rfl)) ?_
                                                              refine .cons (dv_quiet rfl (congrArg (fun t => some (Value.bool t)) c132b)) ?_
                                                              refine DI.sq 2 (by kernel_rfl) rfl ?_
                                                              refine .cons (.ldn rfl rfl rfl (.at 8 rfl rfl)) ?_
                                                              refine .cons (.ldn rfl rfl rfl (.at 7 rfl rfl)) ?_
                                                              refine .cons (.call (vs := [.agg #[.int .i64 (mn t63 t66), .int .i64 (mn t64 t66), .int .i64 (mn t65 t66), .int .i64 t66], .agg #[.int .i64 t69, .int .i64 t70, .int .i64 t71, .int .i64 t72], .int .i64 0]) rfl rfl (by kernel_rfl) (blend_Over.ok h137)) ?_
                                                              refine .cons (.ldn rfl rfl rfl (.at 8 rfl rfl)) ?_
                                                              refine .cons (.eqt (a := .agg #[.int .i64 t133, .int .i64 t134, .int .i64 t135, .int .i64 t136]) (b := .agg #[.int .i64 (mn t63 t66), .int .i64 (mn t64 t66), .int .i64 (mn t65 t66), .int .i64 t66]) (r := (t133 == (mn t63 t66)) && ((t134 == (mn t64 t66)) && ((t135 == (mn t65 t66)) && (t136 == t66)))) rfl rfl rfl rfl (by kernel_rfl) (bnk c138b rfl)) ?_
                                                              refine DI.sq 3 (by kernel_rfl) rfl ?_
                                                              refine .cons (.ld1 rfl rfl rfl (.at 0 rfl rfl)) ?_
                                                              refine .cons (dv_quiet rfl (congrArg (fun t => some (Value.bool t)) c139b)) ?_
                                                              refine DI.sq 3 (by kernel_rfl) rfl ?_
                                                              refine .cons (.ld1 rfl rfl rfl (.at 0 rfl rfl)) ?_
                                                              refine DI.sq 2 (by kernel_rfl) rfl ?_
                                                              refine .cons (.ld1 rfl rfl rfl (.at 6 rfl rfl)) ?_
                                                              refine DI.sq 6 (by kernel_rfl) rfl ?_
                                                              exact .nil
                                                            refine fk_q 41 [18] (σ' := [(18, .bool ((wr64 t125) == (wr64 (Int.tdiv (wr64 ((wr64 (t69 * 255)) + 32767)) 65535))))]) t_more (by kernel_rfl) ?_
                                                            refine fk_nil fun all => ?_
                                                            refine t_keep [18] (σ' := [(18, .bool ((wr64 t125) == (wr64 (Int.tdiv (wr64 ((wr64 (t69 * 255)) + 32767)) 65535))))]) (by kernel_rfl) ?_
                                                            refine t_end ?_
                                                            show W _ _ _ _ _ _ _
                                                            refine w_ret ?_
                                                            have hr_ := Option.some.inj e
                                                            exact ⟨[.bool ((wr64 t125) == (wr64 (Int.tdiv (wr64 ((wr64 (t69 * 255)) + 32767)) 65535)))], [], S, ⟨rfl, trivial⟩, VS.none, congrArg Value.bool hr_, rfl, rfl⟩
                                                          · rw [if_neg c139] at e
                                                            exact absurd (Option.some.inj e) (by decide)
                                                        · rw [if_neg c138] at e
                                                          exact absurd (Option.some.inj e) (by decide)
                                                      · rw [if_neg c132] at e
                                                        exact absurd (Option.some.inj e) (by decide)
                                                    · rw [if_neg c131] at e
                                                      exact absurd (Option.some.inj e) (by decide)
                                          · rw [if_neg c120] at e
                                            exact absurd (Option.some.inj e) (by decide)
                                        · rw [if_neg c119] at e
                                          exact absurd (Option.some.inj e) (by decide)
                              · rw [if_neg c114] at e
                                exact absurd (Option.some.inj e) (by decide)
                            · rw [if_neg c113] at e
                              exact absurd (Option.some.inj e) (by decide)
                  · rw [if_neg c108] at e
                    exact absurd (Option.some.inj e) (by decide)
                · rw [if_neg c107] at e
                  exact absurd (Option.some.inj e) (by decide)
      · rw [if_neg c102] at e
        exact absurd (Option.some.inj e) (by decide)
    · rw [if_neg c101] at e
      exact absurd (Option.some.inj e) (by decide)
  | false =>
    rw [if_neg (by decide)] at e
    exact absurd (Option.some.inj e) (by decide)

def glyphiclaw26_BlendEnds.Pure : Prop := ∀ (t0 : Int) (o1 : Int) (A2 : Int) (r3 : Int) (r4 : Int) (a5 : Int) (y6 : Int) (a7 : Int) (a8 : Int), (Lit.int .i64 t0).wf = true → (Lit.int .i64 o1).wf = true → (Lit.int .i64 A2).wf = true → (Lit.int .i64 r3).wf = true → (Lit.int .i64 r4).wf = true → (Lit.int .i64 a5).wf = true → (Lit.int .i64 y6).wf = true → (Lit.int .i64 a7).wf = true → (Lit.int .i64 a8).wf = true → glyphiclaw26_BlendEnds.f t0 o1 A2 r3 r4 a5 y6 a7 a8 = some true
theorem glyphiclaw26_BlendEnds.walk (P : glyphiclaw26_BlendEnds.Pure) (t0 : Int) (o1 : Int) (A2 : Int) (r3 : Int) (r4 : Int) (a5 : Int) (y6 : Int) (a7 : Int) (a8 : Int) (w : World) (ht0 : (Lit.int .i64 t0).wf = true) (ho1 : (Lit.int .i64 o1).wf = true) (hA2 : (Lit.int .i64 A2).wf = true) (hr3 : (Lit.int .i64 r3).wf = true) (hr4 : (Lit.int .i64 r4).wf = true) (ha5 : (Lit.int .i64 a5).wf = true) (hy6 : (Lit.int .i64 y6).wf = true) (ha7 : (Lit.int .i64 a7).wf = true) (ha8 : (Lit.int .i64 a8).wf = true) :
    Calls Try.prog 7 #[.int .i64 t0, .int .i64 o1, .int .i64 A2, .int .i64 r3, .int .i64 r4, .int .i64 a5, .int .i64 y6, .int .i64 a7, .int .i64 a8] w fun e w' => e = .returned (.bool true) ∧ Below w.heap.size w w' := law_w (hok0 w) (glyphiclaw26_BlendEnds.ok (P t0 o1 A2 r3 r4 a5 y6 a7 a8 ht0 ho1 hA2 hr3 hr4 ha5 hy6 ha7 ha8))
end Go.Proofs.Ytmbcokndaaelaaa.QBlendEnds
