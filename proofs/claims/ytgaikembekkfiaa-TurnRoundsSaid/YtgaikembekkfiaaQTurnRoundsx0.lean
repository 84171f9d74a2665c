/- Functions of the program as Lean functions, each with the proof of its walk. Written by gen.py, a program of these sessions. -/
import Derived.Test.YtgaikembekkfiaaX
import Derived.Test.YtgaikembekkfiaaProg
namespace Go.Proofs.Ytgaikembekkfiaa.QTurnRounds
open Go Go.RowKit Go.Proofs.YtgaikembekkfiaaE Go.Proofs.YtgaikembekkfiaaX
set_option linter.unusedVariables false
set_option maxRecDepth 100000
theorem mixed : Try.prog.follows .mixedOrders = true := by kernel_rfl

/-- turn.Quarter -/
def c50 : C :=
  (.seq (.reg [⟨(some 2), .box (.tmp 0), none⟩,
     ⟨(some 4), .new [(.int .i64 0), (.int .i64 0)], none⟩])
  (.seq (.seq (.reg [⟨(some 5), .mv (.tmp 1), none⟩,
      ⟨(some 6), .bin .rem (.tmp 5) (.const (.int .i64 4)), none⟩,
      ⟨(some 7), .bin .add (.tmp 6) (.const (.int .i64 4)), none⟩,
      ⟨(some 8), .bin .rem (.tmp 7) (.const (.int .i64 4)), none⟩,
      ⟨(some 9), .mv (.const (.int .i64 0)), none⟩])
   (.block 0 (.loop (.seq (.reg [⟨(some 10), .bin .lss (.tmp 9) (.tmp 8), none⟩])
     (.seq (.cond (.tmp 10)
       .skip
       (.exit 0))
     (.seq (.block 1 (.reg [⟨(some 11), .pad 1 (.tmp 2), none⟩,
         ⟨(some 12), .ld none (.tmp 11), none⟩,
         ⟨(some 13), .un .neg (.tmp 12), none⟩,
         ⟨(some 14), .pad 0 (.tmp 2), none⟩,
         ⟨(some 15), .ld none (.tmp 14), none⟩,
         ⟨(some 16), .bld [(.int .i64 0), (.int .i64 0)] [(0, 1, (.tmp 13)), (1, 1, (.tmp 15))], none⟩,
         ⟨none, .st 2 (.tmp 2) (.tmp 16), none⟩]))
     (.reg [⟨(some 17), .bin .add (.tmp 9) (.const (.int .i64 1)), none⟩,
       ⟨(some 9), .mv (.tmp 17), none⟩])))))))
  (.seq (.reg [⟨(some 18), .ld (some 2) (.tmp 2), none⟩,
     ⟨none, .st 2 (.tmp 4) (.tmp 18), none⟩])
  .ret)))
def turn_Quarter.l0 : Nat → Int → Int → Int → Int → Option (Int × Int)
  | 0, _, _, _, _ => none
  | k + 1, n1, x8, x9, x10 => if x8 < (Int.tmod (wr64 ((Int.tmod n1 4) + 4)) 4) then (turn_Quarter.l0 k n1 (wr64 (x8 + 1)) (wr64 (0 - x10)) x9) else (some (x9, x10))
def turn_Quarter.f (k : Nat) (p0_X : Int) (p0_Y : Int) (n1 : Int) : Option (Int × Int) := (turn_Quarter.l0 k n1 0 p0_X p0_Y : Option (Int × Int)).bind fun (x14, x15) => (some (x14, x15))
theorem turn_Quarter.ok {S : Seal} {k : Nat} {p0_X : Int} {p0_Y : Int} {n1 : Int} {r0_ : Int} {r1_ : Int} (e : turn_Quarter.f k p0_X p0_Y n1 = some (r0_, r1_)) :
    Cal Try.prog 50 [.agg #[.int .i64 p0_X, .int .i64 p0_Y], .int .i64 n1] [] S fun v H' S' => v = .agg #[.int .i64 r0_, .int .i64 r1_] ∧ H' = [] ∧ S' = S := by
  unfold turn_Quarter.f at e
  refine cal_of (c := c50) (N := 19) Try.func50 rfl rfl (by kernel_rfl) (rs := [.cn 2 4]) (by kernel_rfl) (Nat.le_of_ble_eq_true rfl) ?_
  unfold c50
  refine w_seq ?_
  refine w_reg fun all => ?_
  refine t_a (.box rfl rfl rfl) fun b3 fb3 sb3 => ?_
  refine t_a (.new rfl rfl) fun b4 fb4 sb4 => ?_
  refine t_keep [1, 2, 4] (σ' := [(1, .int .i64 n1), (2, .pointer (some ⟨b3, 0, none⟩)), (4, .pointer (some ⟨b4, 0, none⟩))]) (by kernel_rfl) ?_
  refine t_end ?_
  show W _ _ _ _ _ _ _
  obtain ⟨⟨x14, x15⟩, e6, e⟩ := bind_of e
  try dsimp only at e
  refine w_cut [2, 4] (fun σ_ H_ S_ => [(2, .pointer (some ⟨b3, 0, none⟩)), (4, .pointer (some ⟨b4, 0, none⟩))] = σ_ ∧ ([⟨b4, [.int .i64 0, .int .i64 0], 2⟩, ⟨b3, [.int .i64 x14, .int .i64 x15], 2⟩] : List Own) = H_ ∧ S = S_) ?_ ?_
  · show W _ _ _ _ _ _ _
    refine w_seq ?_
    refine w_reg fun all => ?_
    refine t_qz 5 [2, 4, 8, 9] (σ' := [(2, .pointer (some ⟨b3, 0, none⟩)), (4, .pointer (some ⟨b4, 0, none⟩)), (8, .int .i64 (Int.tmod (wr64 ((Int.tmod n1 4) + 4)) 4)), (9, .int .i64 0)]) (by kernel_rfl) ?_
    refine t_end ?_
    show W _ _ _ _ _ _ _
    refine w_block ?_
    refine w_kp [2, 4, 8, 9] (σ' := [(2, .pointer (some ⟨b3, 0, none⟩)), (4, .pointer (some ⟨b4, 0, none⟩)), (8, .int .i64 (Int.tmod (wr64 ((Int.tmod n1 4) + 4)) 4)), (9, .int .i64 0)]) (by kernel_rfl) ?_
    refine w_loop (fun n_ σ_ H_ S_ => ∃ x8 x9 x10, [(2, .pointer (some ⟨b3, 0, none⟩)), (4, .pointer (some ⟨b4, 0, none⟩)), (8, .int .i64 (Int.tmod (wr64 ((Int.tmod n1 4) + 4)) 4)), (9, .int .i64 x8)] = σ_ ∧ ([⟨b4, [.int .i64 0, .int .i64 0], 2⟩, ⟨b3, [.int .i64 x9, .int .i64 x10], 2⟩] : List Own) = H_ ∧ S = S_ ∧ turn_Quarter.l0 n_ n1 x8 x9 x10 = some (x14, x15)) _ ⟨0, p0_X, p0_Y, rfl, rfl, rfl, e6⟩ ?_
    rintro n13 σ_ H_ S_ ⟨x8, x9, x10, rfl, rfl, rfl, e6⟩
    cases n13 with
    | zero => rw [turn_Quarter.l0.eq_1] at e6; cases e6
    | succ k_ =>
      rw [turn_Quarter.l0.eq_2] at e6
      refine w_seq ?_
      refine w_reg fun all => ?_
      by_cases c11 : x8 < (Int.tmod (wr64 ((Int.tmod n1 4) + 4)) 4)
      · rw [if_pos c11] at e6
        have c11b : (decide (x8 < (Int.tmod (wr64 ((Int.tmod n1 4) + 4)) 4))) = true := decide_eq_true c11
        refine t_v (dv_quiet rfl (congrArg (fun t => some (Value.bool t)) c11b)) ?_
        refine t_keep [2, 4, 8, 9, 10] (σ' := [(2, .pointer (some ⟨b3, 0, none⟩)), (4, .pointer (some ⟨b4, 0, none⟩)), (8, .int .i64 (Int.tmod (wr64 ((Int.tmod n1 4) + 4)) 4)), (9, .int .i64 x8), (10, .bool true)]) (by kernel_rfl) ?_
        refine t_end ?_
        show W _ _ _ _ _ _ _
        refine w_seq ?_
        refine w_cond rfl (fun _ => ?_) (fun c_ => by cases c_)
        show W _ _ _ _ _ _ _
        refine w_skip ?_
        show W _ _ _ _ _ _ _
        refine w_seq ?_
        refine w_block ?_
        refine w_reg fun all => ?_
        refine t_qz 1 [2, 4, 8, 9, 11] (σ' := [(2, .pointer (some ⟨b3, 0, none⟩)), (4, .pointer (some ⟨b4, 0, none⟩)), (8, .int .i64 (Int.tmod (wr64 ((Int.tmod n1 4) + 4)) 4)), (9, .int .i64 x8), (11, .pointer (some ⟨b3, 1, none⟩))]) (by kernel_rfl) ?_
        refine t_v (.ld1 rfl rfl rfl (.at 1 rfl rfl)) ?_
        refine t_qz 2 [2, 4, 8, 9, 13, 14] (σ' := [(2, .pointer (some ⟨b3, 0, none⟩)), (4, .pointer (some ⟨b4, 0, none⟩)), (8, .int .i64 (Int.tmod (wr64 ((Int.tmod n1 4) + 4)) 4)), (9, .int .i64 x8), (13, .int .i64 (wr64 (0 - x10))), (14, .pointer (some ⟨b3, 0, none⟩))]) (by kernel_rfl) ?_
        refine t_v (.ld1 rfl rfl rfl (.at 1 rfl rfl)) ?_
        refine t_qz 1 [2, 4, 8, 9, 16] (σ' := [(2, .pointer (some ⟨b3, 0, none⟩)), (4, .pointer (some ⟨b4, 0, none⟩)), (8, .int .i64 (Int.tmod (wr64 ((Int.tmod n1 4) + 4)) 4)), (9, .int .i64 x8), (16, .agg #[.int .i64 (wr64 (0 - x10)), .int .i64 x9])]) (by kernel_rfl) ?_
        refine t_sti 1 (cs := [.int .i64 (wr64 (0 - x10)), .int .i64 x9]) rfl rfl rfl rfl rfl rfl rfl rfl rfl ?_
        refine t_keep [2, 4, 8, 9] (σ' := [(2, .pointer (some ⟨b3, 0, none⟩)), (4, .pointer (some ⟨b4, 0, none⟩)), (8, .int .i64 (Int.tmod (wr64 ((Int.tmod n1 4) + 4)) 4)), (9, .int .i64 x8)]) (by kernel_rfl) ?_
        refine t_end ?_
        show W _ _ _ _ _ _ _
        refine w_reg fun all => ?_
        refine t_qz 2 [2, 4, 8, 9] (σ' := [(2, .pointer (some ⟨b3, 0, none⟩)), (4, .pointer (some ⟨b4, 0, none⟩)), (8, .int .i64 (Int.tmod (wr64 ((Int.tmod n1 4) + 4)) 4)), (9, .int .i64 (wr64 (x8 + 1)))]) (by kernel_rfl) ?_
        refine t_end ?_
        exact ⟨k_, Nat.lt_succ_self _, [(2, .pointer (some ⟨b3, 0, none⟩)), (4, .pointer (some ⟨b4, 0, none⟩)), (8, .int .i64 (Int.tmod (wr64 ((Int.tmod n1 4) + 4)) 4)), (9, .int .i64 (wr64 (x8 + 1)))], ([⟨b4, [.int .i64 0, .int .i64 0], 2⟩, ⟨b3, [.int .i64 (wr64 (0 - x10)), .int .i64 x9], 2⟩] : List Own), S, keep_sub [2, 4, 8, 9] (by kernel_rfl), VS.sel [0, 0] (by kernel_rfl), wr64 (x8 + 1), wr64 (0 - x10), x9, rfl, rfl, rfl, e6⟩
      · rw [if_neg c11] at e6
        have c11b : (decide (x8 < (Int.tmod (wr64 ((Int.tmod n1 4) + 4)) 4))) = false := decide_eq_false c11
        refine t_v (dv_quiet rfl (congrArg (fun t => some (Value.bool t)) c11b)) ?_
        refine t_keep [2, 4, 8, 9, 10] (σ' := [(2, .pointer (some ⟨b3, 0, none⟩)), (4, .pointer (some ⟨b4, 0, none⟩)), (8, .int .i64 (Int.tmod (wr64 ((Int.tmod n1 4) + 4)) 4)), (9, .int .i64 x8), (10, .bool false)]) (by kernel_rfl) ?_
        refine t_end ?_
        show W _ _ _ _ _ _ _
        refine w_seq ?_
        refine w_cond rfl (fun c_ => by cases c_) (fun _ => ?_)
        show W _ _ _ _ _ _ _
        refine w_exit ?_
        simp only [Option.some.injEq, Prod.mk.injEq] at e6
        obtain ⟨rfl, rfl⟩ := e6
        exact ⟨([⟨b4, [.int .i64 0, .int .i64 0], 2⟩, ⟨b3, [.int .i64 x9, .int .i64 x10], 2⟩] : List Own), S, VS.sel [0, 0] (by kernel_rfl), by kernel_rfl, rfl, rfl⟩
  · rintro σ_ H_ S_ ⟨rfl, rfl, rfl⟩
    refine w_seq ?_
    refine w_reg fun all => ?_
    refine t_v (.ldn rfl rfl rfl (.at 1 rfl rfl)) ?_
    refine t_sti 0 (cs := [.int .i64 x14, .int .i64 x15]) rfl rfl rfl rfl rfl rfl rfl rfl rfl ?_
    refine t_keep [4] (σ' := [(4, .pointer (some ⟨b4, 0, none⟩))]) (by kernel_rfl) ?_
    refine t_end ?_
    show W _ _ _ _ _ _ _
    refine w_ret ?_
    simp only [Option.some.injEq, Prod.mk.injEq] at e
    obtain ⟨rfl, rfl⟩ := e
    exact ⟨[.agg #[.int .i64 x14, .int .i64 x15]], [], S, ⟨⟨_, _, _, rfl, .at 0 rfl rfl, rfl⟩, trivial⟩, VS.none, rfl, rfl, rfl⟩

/-- turn.within -/
def c59 : C :=
  (.seq (.reg [⟨(some 2), .mv (.const (.bool false)), none⟩])
  (.seq (.seq (.reg [⟨(some 5), .mv (.tmp 0), none⟩,
      ⟨(some 6), .lns (.tmp 5), none⟩,
      ⟨(some 7), .mv (.const (.int .i64 0)), none⟩])
   (.block 0 (.loop (.seq (.reg [⟨(some 8), .bin .lss (.tmp 7) (.tmp 6), none⟩])
     (.seq (.cond (.tmp 8)
       .skip
       (.exit 0))
     (.seq (.block 1 (.seq (.reg [⟨(some 9), .ixs 1 (.tmp 5) (.tmp 7), none⟩,
          ⟨(some 10), .ld none (.tmp 9), none⟩,
          ⟨(some 4), .mv (.tmp 10), none⟩])
       (.seq (.reg [⟨(some 11), .mv (.tmp 4), none⟩,
          ⟨(some 12), .bin .lss (.tmp 11) (.const (.int .i64 (-1000000000000000))), none⟩,
          ⟨(some 13), .mv (.tmp 12), none⟩,
          ⟨(some 14), .mv (.tmp 4), (some (13, false))⟩,
          ⟨(some 15), .bin .gtr (.tmp 14) (.const (.int .i64 1000000000000000)), (some (13, false))⟩,
          ⟨(some 16), .pk (.tmp 13) (.const (.bool true)) (.tmp 15), none⟩])
       (.cond (.tmp 16)
        (.seq (.reg [⟨(some 2), .mv (.const (.bool false)), none⟩])
         .ret)
        .skip))))
     (.reg [⟨(some 17), .bin .add (.tmp 7) (.const (.int .i64 1)), none⟩,
       ⟨(some 7), .mv (.tmp 17), none⟩])))))))
  (.seq (.reg [⟨(some 2), .mv (.const (.bool true)), none⟩])
  .ret)))
def turn_within_v1.f (m0_0 : Int) (m0_1 : Int) (m0_2 : Int) (m0_3 : Int) (m0_4 : Int) : Option (Bool) := if m0_0 < (-1000000000000000) then (some false) else (if m0_0 > 1000000000000000 then (some false) else (if m0_1 < (-1000000000000000) then (some false) else (if m0_1 > 1000000000000000 then (some false) else (if m0_2 < (-1000000000000000) then (some false) else (if m0_2 > 1000000000000000 then (some false) else (if m0_3 < (-1000000000000000) then (some false) else (if m0_3 > 1000000000000000 then (some false) else (if m0_4 < (-1000000000000000) then (some false) else (if m0_4 > 1000000000000000 then (some false) else (some true))))))))))
theorem turn_within_v1.ok {S : Seal} {B0 : Nat} {m0_0 : Int} {m0_1 : Int} {m0_2 : Int} {m0_3 : Int} {m0_4 : Int} {r0_ : Bool} (e : turn_within_v1.f m0_0 m0_1 m0_2 m0_3 m0_4 = some r0_) :
    Cal Try.prog 59 [.slice (some ⟨B0, 0, none⟩) 5 5] ([⟨B0, [.int .i64 m0_0, .int .i64 m0_1, .int .i64 m0_2, .int .i64 m0_3, .int .i64 m0_4], 5⟩] : List Own) S fun v H' S' => v = .bool r0_ ∧ H' = ([⟨B0, [.int .i64 m0_0, .int .i64 m0_1, .int .i64 m0_2, .int .i64 m0_3, .int .i64 m0_4], 5⟩] : List Own) ∧ S' = S := by
  unfold turn_within_v1.f at e
  refine cal_of (c := c59) (N := 18) Try.func59 rfl rfl (by kernel_rfl) (rs := [.t 2]) (by kernel_rfl) (Nat.le_of_ble_eq_true rfl) ?_
  unfold c59
  refine w_seq ?_
  refine w_reg fun all => ?_
  refine t_qz 1 [0] (σ' := [(0, .slice (some ⟨B0, 0, none⟩) 5 5)]) (by kernel_rfl) ?_
  refine t_end ?_
  show W _ _ _ _ _ _ _
  refine w_seq ?_
  refine w_seq ?_
  refine w_reg fun all => ?_
  refine t_qz 3 [5, 6, 7] (σ' := [(5, .slice (some ⟨B0, 0, none⟩) 5 5), (6, .int .i64 5), (7, .int .i64 0)]) (by kernel_rfl) ?_
  refine t_end ?_
  show W _ _ _ _ _ _ _
  refine w_block ?_
  refine w_lun 8 ?_
  refine wl_step ?_
  refine w_seq ?_
  refine w_reg fun all => ?_
  refine t_qz 1 [5, 6, 7, 8] (σ' := [(5, .slice (some ⟨B0, 0, none⟩) 5 5), (6, .int .i64 5), (7, .int .i64 0), (8, .bool true)]) (by kernel_rfl) ?_
  refine t_end ?_
  show W _ _ _ _ _ _ _
  refine w_seq ?_
  refine w_cond rfl (fun _ => ?_) (fun c_ => by cases c_)
  show W _ _ _ _ _ _ _
  refine w_skip ?_
  show W _ _ _ _ _ _ _
  refine w_seq ?_
  refine w_block ?_
  refine w_seq ?_
  refine w_reg fun all => ?_
  refine t_qz 1 [5, 6, 7, 9] (σ' := [(5, .slice (some ⟨B0, 0, none⟩) 5 5), (6, .int .i64 5), (7, .int .i64 0), (9, .pointer (some ⟨B0, 0, none⟩))]) (by kernel_rfl) ?_
  refine t_v (.ld1 rfl rfl rfl (.at 0 rfl rfl)) ?_
  refine t_qz 1 [4, 5, 6, 7] (σ' := [(4, .int .i64 m0_0), (5, .slice (some ⟨B0, 0, none⟩) 5 5), (6, .int .i64 5), (7, .int .i64 0)]) (by kernel_rfl) ?_
  refine t_end ?_
  show W _ _ _ _ _ _ _
  refine w_seq ?_
  refine w_reg fun all => ?_
  by_cases c24 : m0_0 < (-1000000000000000)
  · rw [if_pos c24] at e
    have c24b : (decide (m0_0 < (-1000000000000000))) = true := decide_eq_true c24
    refine t_qz 1 [4, 5, 6, 7, 11] (σ' := [(4, .int .i64 m0_0), (5, .slice (some ⟨B0, 0, none⟩) 5 5), (6, .int .i64 5), (7, .int .i64 0), (11, .int .i64 m0_0)]) (by kernel_rfl) ?_
    refine t_v (dv_quiet rfl (congrArg (fun t => some (Value.bool t)) c24b)) ?_
    refine t_qz 4 [5, 6, 7, 14, 15, 16] (σ' := [(5, .slice (some ⟨B0, 0, none⟩) 5 5), (6, .int .i64 5), (7, .int .i64 0), (14, .tuple #[]), (15, .tuple #[]), (16, .bool true)]) (by kernel_rfl) ?_
    refine t_end ?_
    show W _ _ _ _ _ _ _
    refine w_cond rfl (fun _ => ?_) (fun c_ => by cases c_)
    show W _ _ _ _ _ _ _
    refine w_seq ?_
    refine w_reg fun all => ?_
    refine t_qz 1 [2] (σ' := [(2, .bool false)]) (by kernel_rfl) ?_
    refine t_end ?_
    show W _ _ _ _ _ _ _
    refine w_ret ?_
    obtain rfl := Option.some.inj e
    exact ⟨[.bool false], ([⟨B0, [.int .i64 m0_0, .int .i64 m0_1, .int .i64 m0_2, .int .i64 m0_3, .int .i64 m0_4], 5⟩] : List Own), S, ⟨rfl, trivial⟩, VS.sel [0] (by kernel_rfl), rfl, rfl, rfl⟩
  · rw [if_neg c24] at e
    have c24b : (decide (m0_0 < (-1000000000000000))) = false := decide_eq_false c24
    refine t_qz 1 [4, 5, 6, 7, 11] (σ' := [(4, .int .i64 m0_0), (5, .slice (some ⟨B0, 0, none⟩) 5 5), (6, .int .i64 5), (7, .int .i64 0), (11, .int .i64 m0_0)]) (by kernel_rfl) ?_
    refine t_v (dv_quiet rfl (congrArg (fun t => some (Value.bool t)) c24b)) ?_
    by_cases c25 : m0_0 > 1000000000000000
    · rw [if_pos c25] at e
      have c25b : (decide (m0_0 > 1000000000000000)) = true := decide_eq_true c25
      refine t_qz 2 [5, 6, 7, 13, 14] (σ' := [(5, .slice (some ⟨B0, 0, none⟩) 5 5), (6, .int .i64 5), (7, .int .i64 0), (13, .bool false), (14, .int .i64 m0_0)]) (by kernel_rfl) ?_
      refine t_v (dv_quiet rfl (congrArg (fun t => some (Value.bool t)) c25b)) ?_
      refine t_qz 1 [5, 6, 7, 14, 15, 16] (σ' := [(5, .slice (some ⟨B0, 0, none⟩) 5 5), (6, .int .i64 5), (7, .int .i64 0), (14, .int .i64 m0_0), (15, .bool true), (16, .bool true)]) (by kernel_rfl) ?_
      refine t_end ?_
      show W _ _ _ _ _ _ _
      refine w_cond rfl (fun _ => ?_) (fun c_ => by cases c_)
      show W _ _ _ _ _ _ _
      refine w_seq ?_
      refine w_reg fun all => ?_
      refine t_qz 1 [2] (σ' := [(2, .bool false)]) (by kernel_rfl) ?_
      refine t_end ?_
      show W _ _ _ _ _ _ _
      refine w_ret ?_
      obtain rfl := Option.some.inj e
      exact ⟨[.bool false], ([⟨B0, [.int .i64 m0_0, .int .i64 m0_1, .int .i64 m0_2, .int .i64 m0_3, .int .i64 m0_4], 5⟩] : List Own), S, ⟨rfl, trivial⟩, VS.sel [0] (by kernel_rfl), rfl, rfl, rfl⟩
    · rw [if_neg c25] at e
      have c25b : (decide (m0_0 > 1000000000000000)) = false := decide_eq_false c25
      refine t_qz 2 [5, 6, 7, 13, 14] (σ' := [(5, .slice (some ⟨B0, 0, none⟩) 5 5), (6, .int .i64 5), (7, .int .i64 0), (13, .bool false), (14, .int .i64 m0_0)]) (by kernel_rfl) ?_
      refine t_v (dv_quiet rfl (congrArg (fun t => some (Value.bool t)) c25b)) ?_
      refine t_qz 1 [5, 6, 7, 14, 15, 16] (σ' := [(5, .slice (some ⟨B0, 0, none⟩) 5 5), (6, .int .i64 5), (7, .int .i64 0), (14, .int .i64 m0_0), (15, .bool false), (16, .bool false)]) (by kernel_rfl) ?_
      refine t_end ?_
      show W _ _ _ _ _ _ _
      refine w_cond rfl (fun c_ => by cases c_) (fun _ => ?_)
      show W _ _ _ _ _ _ _
      refine w_skip ?_
      show W _ _ _ _ _ _ _
      refine w_reg fun all => ?_
      refine t_qz 2 [5, 6, 7, 14, 15] (σ' := [(5, .slice (some ⟨B0, 0, none⟩) 5 5), (6, .int .i64 5), (7, .int .i64 1), (14, .int .i64 m0_0), (15, .bool false)]) (by kernel_rfl) ?_
      refine t_end ?_
      show WL _ _ _ _ _ _ _ _
      refine wl_step ?_
      refine w_seq ?_
      refine w_reg fun all => ?_
      refine t_qz 1 [5, 6, 7, 8, 14, 15] (σ' := [(5, .slice (some ⟨B0, 0, none⟩) 5 5), (6, .int .i64 5), (7, .int .i64 1), (8, .bool true), (14, .int .i64 m0_0), (15, .bool false)]) (by kernel_rfl) ?_
      refine t_end ?_
      show W _ _ _ _ _ _ _
      refine w_seq ?_
      refine w_cond rfl (fun _ => ?_) (fun c_ => by cases c_)
      show W _ _ _ _ _ _ _
      refine w_skip ?_
      show W _ _ _ _ _ _ _
      refine w_seq ?_
      refine w_block ?_
      refine w_seq ?_
      refine w_reg fun all => ?_
      refine t_qz 1 [5, 6, 7, 9, 14, 15] (σ' := [(5, .slice (some ⟨B0, 0, none⟩) 5 5), (6, .int .i64 5), (7, .int .i64 1), (9, .pointer (some ⟨B0, 1, none⟩)), (14, .int .i64 m0_0), (15, .bool false)]) (by kernel_rfl) ?_
      refine t_v (.ld1 rfl rfl rfl (.at 0 rfl rfl)) ?_
      refine t_qz 1 [4, 5, 6, 7, 14, 15] (σ' := [(4, .int .i64 m0_1), (5, .slice (some ⟨B0, 0, none⟩) 5 5), (6, .int .i64 5), (7, .int .i64 1), (14, .int .i64 m0_0), (15, .bool false)]) (by kernel_rfl) ?_
      refine t_end ?_
      show W _ _ _ _ _ _ _
      refine w_seq ?_
      refine w_reg fun all => ?_
      by_cases c26 : m0_1 < (-1000000000000000)
      · rw [if_pos c26] at e
        have c26b : (decide (m0_1 < (-1000000000000000))) = true := decide_eq_true c26
        refine t_qz 1 [4, 5, 6, 7, 11, 14, 15] (σ' := [(4, .int .i64 m0_1), (5, .slice (some ⟨B0, 0, none⟩) 5 5), (6, .int .i64 5), (7, .int .i64 1), (11, .int .i64 m0_1), (14, .int .i64 m0_0), (15, .bool false)]) (by kernel_rfl) ?_
        refine t_v (dv_quiet rfl (congrArg (fun t => some (Value.bool t)) c26b)) ?_
        refine t_qz 4 [5, 6, 7, 14, 15, 16] (σ' := [(5, .slice (some ⟨B0, 0, none⟩) 5 5), (6, .int .i64 5), (7, .int .i64 1), (14, .tuple #[]), (15, .tuple #[]), (16, .bool true)]) (by kernel_rfl) ?_
        refine t_end ?_
        show W _ _ _ _ _ _ _
        refine w_cond rfl (fun _ => ?_) (fun c_ => by cases c_)
        show W _ _ _ _ _ _ _
        refine w_seq ?_
        refine w_reg fun all => ?_
        refine t_qz 1 [2] (σ' := [(2, .bool false)]) (by kernel_rfl) ?_
        refine t_end ?_
        show W _ _ _ _ _ _ _
        refine w_ret ?_
        obtain rfl := Option.some.inj e
        exact ⟨[.bool false], ([⟨B0, [.int .i64 m0_0, .int .i64 m0_1, .int .i64 m0_2, .int .i64 m0_3, .int .i64 m0_4], 5⟩] : List Own), S, ⟨rfl, trivial⟩, VS.sel [0] (by kernel_rfl), rfl, rfl, rfl⟩
      · rw [if_neg c26] at e
        have c26b : (decide (m0_1 < (-1000000000000000))) = false := decide_eq_false c26
        refine t_qz 1 [4, 5, 6, 7, 11, 14, 15] (σ' := [(4, .int .i64 m0_1), (5, .slice (some ⟨B0, 0, none⟩) 5 5), (6, .int .i64 5), (7, .int .i64 1), (11, .int .i64 m0_1), (14, .int .i64 m0_0), (15, .bool false)]) (by kernel_rfl) ?_
        refine t_v (dv_quiet rfl (congrArg (fun t => some (Value.bool t)) c26b)) ?_
        by_cases c27 : m0_1 > 1000000000000000
        · rw [if_pos c27] at e
          have c27b : (decide (m0_1 > 1000000000000000)) = true := decide_eq_true c27
          refine t_qz 2 [5, 6, 7, 13, 14, 15] (σ' := [(5, .slice (some ⟨B0, 0, none⟩) 5 5), (6, .int .i64 5), (7, .int .i64 1), (13, .bool false), (14, .int .i64 m0_1), (15, .bool false)]) (by kernel_rfl) ?_
          refine t_v (dv_quiet rfl (congrArg (fun t => some (Value.bool t)) c27b)) ?_
          refine t_qz 1 [5, 6, 7, 14, 15, 16] (σ' := [(5, .slice (some ⟨B0, 0, none⟩) 5 5), (6, .int .i64 5), (7, .int .i64 1), (14, .int .i64 m0_1), (15, .bool true), (16, .bool true)]) (by kernel_rfl) ?_
          refine t_end ?_
          show W _ _ _ _ _ _ _
          refine w_cond rfl (fun _ => ?_) (fun c_ => by cases c_)
          show W _ _ _ _ _ _ _
          refine w_seq ?_
          refine w_reg fun all => ?_
          refine t_qz 1 [2] (σ' := [(2, .bool false)]) (by kernel_rfl) ?_
          refine t_end ?_
          show W _ _ _ _ _ _ _
          refine w_ret ?_
          obtain rfl := Option.some.inj e
          exact ⟨[.bool false], ([⟨B0, [.int .i64 m0_0, .int .i64 m0_1, .int .i64 m0_2, .int .i64 m0_3, .int .i64 m0_4], 5⟩] : List Own), S, ⟨rfl, trivial⟩, VS.sel [0] (by kernel_rfl), rfl, rfl, rfl⟩
        · rw [if_neg c27] at e
          have c27b : (decide (m0_1 > 1000000000000000)) = false := decide_eq_false c27
          refine t_qz 2 [5, 6, 7, 13, 14, 15] (σ' := [(5, .slice (some ⟨B0, 0, none⟩) 5 5), (6, .int .i64 5), (7, .int .i64 1), (13, .bool false), (14, .int .i64 m0_1), (15, .bool false)]) (by kernel_rfl) ?_
          refine t_v (dv_quiet rfl (congrArg (fun t => some (Value.bool t)) c27b)) ?_
          refine t_qz 1 [5, 6, 7, 14, 15, 16] (σ' := [(5, .slice (some ⟨B0, 0, none⟩) 5 5), (6, .int .i64 5), (7, .int .i64 1), (14, .int .i64 m0_1), (15, .bool false), (16, .bool false)]) (by kernel_rfl) ?_
          refine t_end ?_
          show W _ _ _ _ _ _ _
          refine w_cond rfl (fun c_ => by cases c_) (fun _ => ?_)
          show W _ _ _ _ _ _ _
          refine w_skip ?_
          show W _ _ _ _ _ _ _
          refine w_reg fun all => ?_
          refine t_qz 2 [5, 6, 7, 14, 15] (σ' := [(5, .slice (some ⟨B0, 0, none⟩) 5 5), (6, .int .i64 5), (7, .int .i64 2), (14, .int .i64 m0_1), (15, .bool false)]) (by kernel_rfl) ?_
          refine t_end ?_
          show WL _ _ _ _ _ _ _ _
          refine wl_step ?_
          refine w_seq ?_
          refine w_reg fun all => ?_
          refine t_qz 1 [5, 6, 7, 8, 14, 15] (σ' := [(5, .slice (some ⟨B0, 0, none⟩) 5 5), (6, .int .i64 5), (7, .int .i64 2), (8, .bool true), (14, .int .i64 m0_1), (15, .bool false)]) (by kernel_rfl) ?_
          refine t_end ?_
          show W _ _ _ _ _ _ _
          refine w_seq ?_
          refine w_cond rfl (fun _ => ?_) (fun c_ => by cases c_)
          show W _ _ _ _ _ _ _
          refine w_skip ?_
          show W _ _ _ _ _ _ _
          refine w_seq ?_
          refine w_block ?_
          refine w_seq ?_
          refine w_reg fun all => ?_
          refine t_qz 1 [5, 6, 7, 9, 14, 15] (σ' := [(5, .slice (some ⟨B0, 0, none⟩) 5 5), (6, .int .i64 5), (7, .int .i64 2), (9, .pointer (some ⟨B0, 2, none⟩)), (14, .int .i64 m0_1), (15, .bool false)]) (by kernel_rfl) ?_
          refine t_v (.ld1 rfl rfl rfl (.at 0 rfl rfl)) ?_
          refine t_qz 1 [4, 5, 6, 7, 14, 15] (σ' := [(4, .int .i64 m0_2), (5, .slice (some ⟨B0, 0, none⟩) 5 5), (6, .int .i64 5), (7, .int .i64 2), (14, .int .i64 m0_1), (15, .bool false)]) (by kernel_rfl) ?_
          refine t_end ?_
          show W _ _ _ _ _ _ _
          refine w_seq ?_
          refine w_reg fun all => ?_
          by_cases c28 : m0_2 < (-1000000000000000)
          · rw [if_pos c28] at e
            have c28b : (decide (m0_2 < (-1000000000000000))) = true := decide_eq_true c28
            refine t_qz 1 [4, 5, 6, 7, 11, 14, 15] (σ' := [(4, .int .i64 m0_2), (5, .slice (some ⟨B0, 0, none⟩) 5 5), (6, .int .i64 5), (7, .int .i64 2), (11, .int .i64 m0_2), (14, .int .i64 m0_1), (15, .bool false)]) (by kernel_rfl) ?_
            refine t_v (dv_quiet rfl (congrArg (fun t => some (Value.bool t)) c28b)) ?_
            refine t_qz 4 [5, 6, 7, 14, 15, 16] (σ' := [(5, .slice (some ⟨B0, 0, none⟩) 5 5), (6, .int .i64 5), (7, .int .i64 2), (14, .tuple #[]), (15, .tuple #[]), (16, .bool true)]) (by kernel_rfl) ?_
            refine t_end ?_
            show W _ _ _ _ _ _ _
            refine w_cond rfl (fun _ => ?_) (fun c_ => by cases c_)
            show W _ _ _ _ _ _ _
            refine w_seq ?_
            refine w_reg fun all => ?_
            refine t_qz 1 [2] (σ' := [(2, .bool false)]) (by kernel_rfl) ?_
            refine t_end ?_
            show W _ _ _ _ _ _ _
            refine w_ret ?_
            obtain rfl := Option.some.inj e
            exact ⟨[.bool false], ([⟨B0, [.int .i64 m0_0, .int .i64 m0_1, .int .i64 m0_2, .int .i64 m0_3, .int .i64 m0_4], 5⟩] : List Own), S, ⟨rfl, trivial⟩, VS.sel [0] (by kernel_rfl), rfl, rfl, rfl⟩
          · rw [if_neg c28] at e
            have c28b : (decide (m0_2 < (-1000000000000000))) = false := decide_eq_false c28
            refine t_qz 1 [4, 5, 6, 7, 11, 14, 15] (σ' := [(4, .int .i64 m0_2), (5, .slice (some ⟨B0, 0, none⟩) 5 5), (6, .int .i64 5), (7, .int .i64 2), (11, .int .i64 m0_2), (14, .int .i64 m0_1), (15, .bool false)]) (by kernel_rfl) ?_
            refine t_v (dv_quiet rfl (congrArg (fun t => some (Value.bool t)) c28b)) ?_
            by_cases c29 : m0_2 > 1000000000000000
            · rw [if_pos c29] at e
              have c29b : (decide (m0_2 > 1000000000000000)) = true := decide_eq_true c29
              refine t_qz 2 [5, 6, 7, 13, 14, 15] (σ' := [(5, .slice (some ⟨B0, 0, none⟩) 5 5), (6, .int .i64 5), (7, .int .i64 2), (13, .bool false), (14, .int .i64 m0_2), (15, .bool false)]) (by kernel_rfl) ?_
              refine t_v (dv_quiet rfl (congrArg (fun t => some (Value.bool t)) c29b)) ?_
              refine t_qz 1 [5, 6, 7, 14, 15, 16] (σ' := [(5, .slice (some ⟨B0, 0, none⟩) 5 5), (6, .int .i64 5), (7, .int .i64 2), (14, .int .i64 m0_2), (15, .bool true), (16, .bool true)]) (by kernel_rfl) ?_
              refine t_end ?_
              show W _ _ _ _ _ _ _
              refine w_cond rfl (fun _ => ?_) (fun c_ => by cases c_)
              show W _ _ _ _ _ _ _
              refine w_seq ?_
              refine w_reg fun all => ?_
              refine t_qz 1 [2] (σ' := [(2, .bool false)]) (by kernel_rfl) ?_
              refine t_end ?_
              show W _ _ _ _ _ _ _
              refine w_ret ?_
              obtain rfl := Option.some.inj e
              exact ⟨[.bool false], ([⟨B0, [.int .i64 m0_0, .int .i64 m0_1, .int .i64 m0_2, .int .i64 m0_3, .int .i64 m0_4], 5⟩] : List Own), S, ⟨rfl, trivial⟩, VS.sel [0] (by kernel_rfl), rfl, rfl, rfl⟩
            · rw [if_neg c29] at e
              have c29b : (decide (m0_2 > 1000000000000000)) = false := decide_eq_false c29
              refine t_qz 2 [5, 6, 7, 13, 14, 15] (σ' := [(5, .slice (some ⟨B0, 0, none⟩) 5 5), (6, .int .i64 5), (7, .int .i64 2), (13, .bool false), (14, .int .i64 m0_2), (15, .bool false)]) (by kernel_rfl) ?_
              refine t_v (dv_quiet rfl (congrArg (fun t => some (Value.bool t)) c29b)) ?_
              refine t_qz 1 [5, 6, 7, 14, 15, 16] (σ' := [(5, .slice (some ⟨B0, 0, none⟩) 5 5), (6, .int .i64 5), (7, .int .i64 2), (14, .int .i64 m0_2), (15, .bool false), (16, .bool false)]) (by kernel_rfl) ?_
              refine t_end ?_
              show W _ _ _ _ _ _ _
              refine w_cond rfl (fun c_ => by cases c_) (fun _ => ?_)
              show W _ _ _ _ _ _ _
              refine w_skip ?_
              show W _ _ _ _ _ _ _
              refine w_reg fun all => ?_
              refine t_qz 2 [5, 6, 7, 14, 15] (σ' := [(5, .slice (some ⟨B0, 0, none⟩) 5 5), (6, .int .i64 5), (7, .int .i64 3), (14, .int .i64 m0_2), (15, .bool false)]) (by kernel_rfl) ?_
              refine t_end ?_
              show WL _ _ _ _ _ _ _ _
              refine wl_step ?_
              refine w_seq ?_
              refine w_reg fun all => ?_
              refine t_qz 1 [5, 6, 7, 8, 14, 15] (σ' := [(5, .slice (some ⟨B0, 0, none⟩) 5 5), (6, .int .i64 5), (7, .int .i64 3), (8, .bool true), (14, .int .i64 m0_2), (15, .bool false)]) (by kernel_rfl) ?_
              refine t_end ?_
              show W _ _ _ _ _ _ _
              refine w_seq ?_
              refine w_cond rfl (fun _ => ?_) (fun c_ => by cases c_)
              show W _ _ _ _ _ _ _
              refine w_skip ?_
              show W _ _ _ _ _ _ _
              refine w_seq ?_
              refine w_block ?_
              refine w_seq ?_
              refine w_reg fun all => ?_
              refine t_qz 1 [5, 6, 7, 9, 14, 15] (σ' := [(5, .slice (some ⟨B0, 0, none⟩) 5 5), (6, .int .i64 5), (7, .int .i64 3), (9, .pointer (some ⟨B0, 3, none⟩)), (14, .int .i64 m0_2), (15, .bool false)]) (by kernel_rfl) ?_
              refine t_v (.ld1 rfl rfl rfl (.at 0 rfl rfl)) ?_
              refine t_qz 1 [4, 5, 6, 7, 14, 15] (σ' := [(4, .int .i64 m0_3), (5, .slice (some ⟨B0, 0, none⟩) 5 5), (6, .int .i64 5), (7, .int .i64 3), (14, .int .i64 m0_2), (15, .bool false)]) (by kernel_rfl) ?_
              refine t_end ?_
              show W _ _ _ _ _ _ _
              refine w_seq ?_
              refine w_reg fun all => ?_
              by_cases c30 : m0_3 < (-1000000000000000)
              · rw [if_pos c30] at e
                have c30b : (decide (m0_3 < (-1000000000000000))) = true := decide_eq_true c30
                refine t_qz 1 [4, 5, 6, 7, 11, 14, 15] (σ' := [(4, .int .i64 m0_3), (5, .slice (some ⟨B0, 0, none⟩) 5 5), (6, .int .i64 5), (7, .int .i64 3), (11, .int .i64 m0_3), (14, .int .i64 m0_2), (15, .bool false)]) (by kernel_rfl) ?_
                refine t_v (dv_quiet rfl (congrArg (fun t => some (Value.bool t)) c30b)) ?_
                refine t_qz 4 [5, 6, 7, 14, 15, 16] (σ' := [(5, .slice (some ⟨B0, 0, none⟩) 5 5), (6, .int .i64 5), (7, .int .i64 3), (14, .tuple #[]), (15, .tuple #[]), (16, .bool true)]) (by kernel_rfl) ?_
                refine t_end ?_
                show W _ _ _ _ _ _ _
                refine w_cond rfl (fun _ => ?_) (fun c_ => by cases c_)
                show W _ _ _ _ _ _ _
                refine w_seq ?_
                refine w_reg fun all => ?_
                refine t_qz 1 [2] (σ' := [(2, .bool false)]) (by kernel_rfl) ?_
                refine t_end ?_
                show W _ _ _ _ _ _ _
                refine w_ret ?_
                obtain rfl := Option.some.inj e
                exact ⟨[.bool false], ([⟨B0, [.int .i64 m0_0, .int .i64 m0_1, .int .i64 m0_2, .int .i64 m0_3, .int .i64 m0_4], 5⟩] : List Own), S, ⟨rfl, trivial⟩, VS.sel [0] (by kernel_rfl), rfl, rfl, rfl⟩
              · rw [if_neg c30] at e
                have c30b : (decide (m0_3 < (-1000000000000000))) = false := decide_eq_false c30
                refine t_qz 1 [4, 5, 6, 7, 11, 14, 15] (σ' := [(4, .int .i64 m0_3), (5, .slice (some ⟨B0, 0, none⟩) 5 5), (6, .int .i64 5), (7, .int .i64 3), (11, .int .i64 m0_3), (14, .int .i64 m0_2), (15, .bool false)]) (by kernel_rfl) ?_
                refine t_v (dv_quiet rfl (congrArg (fun t => some (Value.bool t)) c30b)) ?_
                by_cases c31 : m0_3 > 1000000000000000
                · rw [if_pos c31] at e
                  have c31b : (decide (m0_3 > 1000000000000000)) = true := decide_eq_true c31
                  refine t_qz 2 [5, 6, 7, 13, 14, 15] (σ' := [(5, .slice (some ⟨B0, 0, none⟩) 5 5), (6, .int .i64 5), (7, .int .i64 3), (13, .bool false), (14, .int .i64 m0_3), (15, .bool false)]) (by kernel_rfl) ?_
                  refine t_v (dv_quiet rfl (congrArg (fun t => some (Value.bool t)) c31b)) ?_
                  refine t_qz 1 [5, 6, 7, 14, 15, 16] (σ' := [(5, .slice (some ⟨B0, 0, none⟩) 5 5), (6, .int .i64 5), (7, .int .i64 3), (14, .int .i64 m0_3), (15, .bool true), (16, .bool true)]) (by kernel_rfl) ?_
                  refine t_end ?_
                  show W _ _ _ _ _ _ _
                  refine w_cond rfl (fun _ => ?_) (fun c_ => by cases c_)
                  show W _ _ _ _ _ _ _
                  refine w_seq ?_
                  refine w_reg fun all => ?_
                  refine t_qz 1 [2] (σ' := [(2, .bool false)]) (by kernel_rfl) ?_
                  refine t_end ?_
                  show W _ _ _ _ _ _ _
                  refine w_ret ?_
                  obtain rfl := Option.some.inj e
                  exact ⟨[.bool false], ([⟨B0, [.int .i64 m0_0, .int .i64 m0_1, .int .i64 m0_2, .int .i64 m0_3, .int .i64 m0_4], 5⟩] : List Own), S, ⟨rfl, trivial⟩, VS.sel [0] (by kernel_rfl), rfl, rfl, rfl⟩
                · rw [if_neg c31] at e
                  have c31b : (decide (m0_3 > 1000000000000000)) = false := decide_eq_false c31
                  refine t_qz 2 [5, 6, 7, 13, 14, 15] (σ' := [(5, .slice (some ⟨B0, 0, none⟩) 5 5), (6, .int .i64 5), (7, .int .i64 3), (13, .bool false), (14, .int .i64 m0_3), (15, .bool false)]) (by kernel_rfl) ?_
                  refine t_v (dv_quiet rfl (congrArg (fun t => some (Value.bool t)) c31b)) ?_
                  refine t_qz 1 [5, 6, 7, 14, 15, 16] (σ' := [(5, .slice (some ⟨B0, 0, none⟩) 5 5), (6, .int .i64 5), (7, .int .i64 3), (14, .int .i64 m0_3), (15, .bool false), (16, .bool false)]) (by kernel_rfl) ?_
                  refine t_end ?_
                  show W _ _ _ _ _ _ _
                  refine w_cond rfl (fun c_ => by cases c_) (fun _ => ?_)
                  show W _ _ _ _ _ _ _
                  refine w_skip ?_
                  show W _ _ _ _ _ _ _
                  refine w_reg fun all => ?_
                  refine t_qz 2 [5, 6, 7, 14, 15] (σ' := [(5, .slice (some ⟨B0, 0, none⟩) 5 5), (6, .int .i64 5), (7, .int .i64 4), (14, .int .i64 m0_3), (15, .bool false)]) (by kernel_rfl) ?_
                  refine t_end ?_
                  show WL _ _ _ _ _ _ _ _
                  refine wl_step ?_
                  refine w_seq ?_
                  refine w_reg fun all => ?_
                  refine t_qz 1 [5, 6, 7, 8, 14, 15] (σ' := [(5, .slice (some ⟨B0, 0, none⟩) 5 5), (6, .int .i64 5), (7, .int .i64 4), (8, .bool true), (14, .int .i64 m0_3), (15, .bool false)]) (by kernel_rfl) ?_
                  refine t_end ?_
                  show W _ _ _ _ _ _ _
                  refine w_seq ?_
                  refine w_cond rfl (fun _ => ?_) (fun c_ => by cases c_)
                  show W _ _ _ _ _ _ _
                  refine w_skip ?_
                  show W _ _ _ _ _ _ _
                  refine w_seq ?_
                  refine w_block ?_
                  refine w_seq ?_
                  refine w_reg fun all => ?_
                  refine t_qz 1 [5, 6, 7, 9, 14, 15] (σ' := [(5, .slice (some ⟨B0, 0, none⟩) 5 5), (6, .int .i64 5), (7, .int .i64 4), (9, .pointer (some ⟨B0, 4, none⟩)), (14, .int .i64 m0_3), (15, .bool false)]) (by kernel_rfl) ?_
                  refine t_v (.ld1 rfl rfl rfl (.at 0 rfl rfl)) ?_
                  refine t_qz 1 [4, 5, 6, 7, 14, 15] (σ' := [(4, .int .i64 m0_4), (5, .slice (some ⟨B0, 0, none⟩) 5 5), (6, .int .i64 5), (7, .int .i64 4), (14, .int .i64 m0_3), (15, .bool false)]) (by kernel_rfl) ?_
                  refine t_end ?_
                  show W _ _ _ _ _ _ _
                  refine w_seq ?_
                  refine w_reg fun all => ?_
                  by_cases c32 : m0_4 < (-1000000000000000)
                  · rw [if_pos c32] at e
                    have c32b : (decide (m0_4 < (-1000000000000000))) = true := decide_eq_true c32
                    refine t_qz 1 [4, 5, 6, 7, 11, 14, 15] (σ' := [(4, .int .i64 m0_4), (5, .slice (some ⟨B0, 0, none⟩) 5 5), (6, .int .i64 5), (7, .int .i64 4), (11, .int .i64 m0_4), (14, .int .i64 m0_3), (15, .bool false)]) (by kernel_rfl) ?_
                    refine t_v (dv_quiet rfl (congrArg (fun t => some (Value.bool t)) c32b)) ?_
                    refine t_qz 4 [5, 6, 7, 14, 15, 16] (σ' := [(5, .slice (some ⟨B0, 0, none⟩) 5 5), (6, .int .i64 5), (7, .int .i64 4), (14, .tuple #[]), (15, .tuple #[]), (16, .bool true)]) (by kernel_rfl) ?_
                    refine t_end ?_
                    show W _ _ _ _ _ _ _
                    refine w_cond rfl (fun _ => ?_) (fun c_ => by cases c_)
                    show W _ _ _ _ _ _ _
                    refine w_seq ?_
                    refine w_reg fun all => ?_
                    refine t_qz 1 [2] (σ' := [(2, .bool false)]) (by kernel_rfl) ?_
                    refine t_end ?_
                    show W _ _ _ _ _ _ _
                    refine w_ret ?_
                    obtain rfl := Option.some.inj e
                    exact ⟨[.bool false], ([⟨B0, [.int .i64 m0_0, .int .i64 m0_1, .int .i64 m0_2, .int .i64 m0_3, .int .i64 m0_4], 5⟩] : List Own), S, ⟨rfl, trivial⟩, VS.sel [0] (by kernel_rfl), rfl, rfl, rfl⟩
                  · rw [if_neg c32] at e
                    have c32b : (decide (m0_4 < (-1000000000000000))) = false := decide_eq_false c32
                    refine t_qz 1 [4, 5, 6, 7, 11, 14, 15] (σ' := [(4, .int .i64 m0_4), (5, .slice (some ⟨B0, 0, none⟩) 5 5), (6, .int .i64 5), (7, .int .i64 4), (11, .int .i64 m0_4), (14, .int .i64 m0_3), (15, .bool false)]) (by kernel_rfl) ?_
                    refine t_v (dv_quiet rfl (congrArg (fun t => some (Value.bool t)) c32b)) ?_
                    by_cases c33 : m0_4 > 1000000000000000
                    · rw [if_pos c33] at e
                      have c33b : (decide (m0_4 > 1000000000000000)) = true := decide_eq_true c33
                      refine t_qz 2 [5, 6, 7, 13, 14, 15] (σ' := [(5, .slice (some ⟨B0, 0, none⟩) 5 5), (6, .int .i64 5), (7, .int .i64 4), (13, .bool false), (14, .int .i64 m0_4), (15, .bool false)]) (by kernel_rfl) ?_
                      refine t_v (dv_quiet rfl (congrArg (fun t => some (Value.bool t)) c33b)) ?_
                      refine t_qz 1 [5, 6, 7, 14, 15, 16] (σ' := [(5, .slice (some ⟨B0, 0, none⟩) 5 5), (6, .int .i64 5), (7, .int .i64 4), (14, .int .i64 m0_4), (15, .bool true), (16, .bool true)]) (by kernel_rfl) ?_
                      refine t_end ?_
                      show W _ _ _ _ _ _ _
                      refine w_cond rfl (fun _ => ?_) (fun c_ => by cases c_)
                      show W _ _ _ _ _ _ _
                      refine w_seq ?_
                      refine w_reg fun all => ?_
                      refine t_qz 1 [2] (σ' := [(2, .bool false)]) (by kernel_rfl) ?_
                      refine t_end ?_
                      show W _ _ _ _ _ _ _
                      refine w_ret ?_
                      obtain rfl := Option.some.inj e
                      exact ⟨[.bool false], ([⟨B0, [.int .i64 m0_0, .int .i64 m0_1, .int .i64 m0_2, .int .i64 m0_3, .int .i64 m0_4], 5⟩] : List Own), S, ⟨rfl, trivial⟩, VS.sel [0] (by kernel_rfl), rfl, rfl, rfl⟩
                    · rw [if_neg c33] at e
                      have c33b : (decide (m0_4 > 1000000000000000)) = false := decide_eq_false c33
                      refine t_qz 2 [5, 6, 7, 13, 14, 15] (σ' := [(5, .slice (some ⟨B0, 0, none⟩) 5 5), (6, .int .i64 5), (7, .int .i64 4), (13, .bool false), (14, .int .i64 m0_4), (15, .bool false)]) (by kernel_rfl) ?_
                      refine t_v (dv_quiet rfl (congrArg (fun t => some (Value.bool t)) c33b)) ?_
                      refine t_qz 1 [5, 6, 7, 14, 15, 16] (σ' := [(5, .slice (some ⟨B0, 0, none⟩) 5 5), (6, .int .i64 5), (7, .int .i64 4), (14, .int .i64 m0_4), (15, .bool false), (16, .bool false)]) (by kernel_rfl) ?_
                      refine t_end ?_
                      show W _ _ _ _ _ _ _
                      refine w_cond rfl (fun c_ => by cases c_) (fun _ => ?_)
                      show W _ _ _ _ _ _ _
                      refine w_skip ?_
                      show W _ _ _ _ _ _ _
                      refine w_reg fun all => ?_
                      refine t_qz 2 [5, 6, 7, 14, 15] (σ' := [(5, .slice (some ⟨B0, 0, none⟩) 5 5), (6, .int .i64 5), (7, .int .i64 5), (14, .int .i64 m0_4), (15, .bool false)]) (by kernel_rfl) ?_
                      refine t_end ?_
                      show WL _ _ _ _ _ _ _ _
                      refine wl_step ?_
                      refine w_seq ?_
                      refine w_reg fun all => ?_
                      refine t_qz 1 [5, 6, 7, 8, 14, 15] (σ' := [(5, .slice (some ⟨B0, 0, none⟩) 5 5), (6, .int .i64 5), (7, .int .i64 5), (8, .bool false), (14, .int .i64 m0_4), (15, .bool false)]) (by kernel_rfl) ?_
                      refine t_end ?_
                      show W _ _ _ _ _ _ _
                      refine w_seq ?_
                      refine w_cond rfl (fun c_ => by cases c_) (fun _ => ?_)
                      show W _ _ _ _ _ _ _
                      refine w_exit ?_
                      show W _ _ _ _ _ _ _
                      refine w_seq ?_
                      refine w_reg fun all => ?_
                      refine t_qz 1 [2] (σ' := [(2, .bool true)]) (by kernel_rfl) ?_
                      refine t_end ?_
                      show W _ _ _ _ _ _ _
                      refine w_ret ?_
                      obtain rfl := Option.some.inj e
                      exact ⟨[.bool true], ([⟨B0, [.int .i64 m0_0, .int .i64 m0_1, .int .i64 m0_2, .int .i64 m0_3, .int .i64 m0_4], 5⟩] : List Own), S, ⟨rfl, trivial⟩, VS.sel [0] (by kernel_rfl), rfl, rfl, rfl⟩

/-- fixed.size -/
def c60 : C :=
  (.seq (.reg [⟨(some 2), .mv (.const (.int .u64 0)), none⟩])
  (.seq (.seq (.reg [⟨(some 3), .mv (.tmp 0), none⟩,
      ⟨(some 4), .bin .lss (.tmp 3) (.const (.int .i64 0)), none⟩])
   (.cond (.tmp 4)
    (.seq (.reg [⟨(some 5), .mv (.tmp 0), none⟩,
        ⟨(some 6), .cnv .u64 (.tmp 5), none⟩,
        ⟨(some 7), .un .neg (.tmp 6), none⟩,
        ⟨(some 2), .mv (.tmp 7), none⟩])
     .ret)
    .skip))
  (.seq (.reg [⟨(some 8), .mv (.tmp 0), none⟩,
     ⟨(some 9), .cnv .u64 (.tmp 8), none⟩,
     ⟨(some 2), .mv (.tmp 9), none⟩])
  .ret)))
def fixed_size.f (n0 : Int) : Option (Int) := if n0 < 0 then (some (wru64 (0 - (wru64 n0)))) else (some (wru64 n0))
theorem fixed_size.ok {S : Seal} {n0 : Int} {r0_ : Int} (e : fixed_size.f n0 = some r0_) :
    Cal Try.prog 60 [.int .i64 n0] [] S fun v H' S' => v = .int .u64 r0_ ∧ H' = [] ∧ S' = S := by
  unfold fixed_size.f at e
  refine cal_of (c := c60) (N := 10) Try.func60 rfl rfl (by kernel_rfl) (rs := [.t 2]) (by kernel_rfl) (Nat.le_of_ble_eq_true rfl) ?_
  unfold c60
  refine w_seq ?_
  refine w_reg fun all => ?_
  refine t_qz 1 [0] (σ' := [(0, .int .i64 n0)]) (by kernel_rfl) ?_
  refine t_end ?_
  show W _ _ _ _ _ _ _
  refine w_seq ?_
  refine w_seq ?_
  refine w_reg fun all => ?_
  by_cases c28 : n0 < 0
  · rw [if_pos c28] at e
    have c28b : (decide (n0 < 0)) = true := decide_eq_true c28
    refine t_qz 1 [0, 3] (σ' := [(0, .int .i64 n0), (3, .int .i64 n0)]) (by kernel_rfl) ?_
    refine t_v (dv_quiet rfl (congrArg (fun t => some (Value.bool t)) c28b)) ?_
    refine t_keep [0, 4] (σ' := [(0, .int .i64 n0), (4, .bool true)]) (by kernel_rfl) ?_
    refine t_end ?_
    show W _ _ _ _ _ _ _
    refine w_cond rfl (fun _ => ?_) (fun c_ => by cases c_)
    show W _ _ _ _ _ _ _
    refine w_seq ?_
    refine w_reg fun all => ?_
    refine t_qz 4 [2] (σ' := [(2, .int .u64 (wru64 (0 - (wru64 n0))))]) (by kernel_rfl) ?_
    refine t_end ?_
    show W _ _ _ _ _ _ _
    refine w_ret ?_
    obtain rfl := Option.some.inj e
    exact ⟨[.int .u64 (wru64 (0 - (wru64 n0)))], [], S, ⟨rfl, trivial⟩, VS.none, rfl, rfl, rfl⟩
  · rw [if_neg c28] at e
    have c28b : (decide (n0 < 0)) = false := decide_eq_false c28
    refine t_qz 1 [0, 3] (σ' := [(0, .int .i64 n0), (3, .int .i64 n0)]) (by kernel_rfl) ?_
    refine t_v (dv_quiet rfl (congrArg (fun t => some (Value.bool t)) c28b)) ?_
    refine t_keep [0, 4] (σ' := [(0, .int .i64 n0), (4, .bool false)]) (by kernel_rfl) ?_
    refine t_end ?_
    show W _ _ _ _ _ _ _
    refine w_cond rfl (fun c_ => by cases c_) (fun _ => ?_)
    show W _ _ _ _ _ _ _
    refine w_skip ?_
    show W _ _ _ _ _ _ _
    refine w_seq ?_
    refine w_reg fun all => ?_
    refine t_qz 3 [2] (σ' := [(2, .int .u64 (wru64 n0))]) (by kernel_rfl) ?_
    refine t_end ?_
    show W _ _ _ _ _ _ _
    refine w_ret ?_
    obtain rfl := Option.some.inj e
    exact ⟨[.int .u64 (wru64 n0)], [], S, ⟨rfl, trivial⟩, VS.none, rfl, rfl, rfl⟩

/-- fixed.MulDiv -/
def c53 : C :=
  (.seq (.reg [⟨(some 6), .mv (.const (.int .i64 0)), none⟩,
     ⟨(some 7), .mv (.const (.bool false)), none⟩])
  (.seq (.seq (.reg [⟨(some 14), .mv (.tmp 2), none⟩,
      ⟨(some 15), .bin .lss (.tmp 14) (.const (.int .i64 1)), none⟩])
   (.cond (.tmp 15)
    (.seq (.reg [⟨(some 6), .mv (.const (.int .i64 0)), none⟩,
        ⟨(some 7), .mv (.const (.bool false)), none⟩])
     .ret)
    .skip))
  (.seq (.reg [⟨(some 17), .mv (.tmp 0), none⟩,
     ⟨(some 18), .call 60 [(.tmp 17)], none⟩,
     ⟨(some 19), .mv (.tmp 1), none⟩,
     ⟨(some 20), .call 60 [(.tmp 19)], none⟩,
     ⟨(some 21), .call 58 [(.tmp 18), (.tmp 20)], none⟩,
     ⟨(some 16), .mv (.tmp 21), none⟩,
     ⟨(some 22), .xt 0 (.tmp 16), none⟩,
     ⟨(some 23), .xt 1 (.tmp 16), none⟩,
     ⟨(some 8), .mv (.tmp 22), none⟩,
     ⟨(some 9), .mv (.tmp 23), none⟩])
  (.seq (.seq (.reg [⟨(some 24), .mv (.tmp 8), none⟩,
      ⟨(some 25), .mv (.tmp 2), none⟩,
      ⟨(some 26), .cnv .u64 (.tmp 25), none⟩,
      ⟨(some 27), .bin .geq (.tmp 24) (.tmp 26), none⟩])
   (.cond (.tmp 27)
    (.seq (.reg [⟨(some 6), .mv (.const (.int .i64 0)), none⟩,
        ⟨(some 7), .mv (.const (.bool false)), none⟩])
     .ret)
    .skip))
  (.seq (.reg [⟨(some 29), .mv (.tmp 8), none⟩,
     ⟨(some 30), .mv (.tmp 9), none⟩,
     ⟨(some 31), .mv (.tmp 2), none⟩,
     ⟨(some 32), .cnv .u64 (.tmp 31), none⟩,
     ⟨(some 33), .call 61 [(.tmp 29), (.tmp 30), (.tmp 32)], none⟩,
     ⟨(some 28), .mv (.tmp 33), none⟩,
     ⟨(some 34), .xt 0 (.tmp 28), none⟩,
     ⟨(some 35), .xt 1 (.tmp 28), none⟩,
     ⟨(some 10), .mv (.tmp 34), none⟩,
     ⟨(some 11), .mv (.tmp 35), none⟩])
  (.seq (.reg [⟨(some 36), .mv (.tmp 0), none⟩,
     ⟨(some 37), .bin .lss (.tmp 36) (.const (.int .i64 0)), none⟩,
     ⟨(some 38), .mv (.tmp 1), none⟩,
     ⟨(some 39), .bin .lss (.tmp 38) (.const (.int .i64 0)), none⟩,
     ⟨(some 40), .beq true (.tmp 37) (.tmp 39), none⟩,
     ⟨(some 12), .mv (.tmp 40), none⟩])
  (.seq (.seq (.reg [⟨(some 41), .mv (.tmp 10), none⟩,
      ⟨(some 42), .bin .gtr (.tmp 41) (.const (.int .u64 9223372036854775808)), none⟩])
   (.cond (.tmp 42)
    (.seq (.reg [⟨(some 6), .mv (.const (.int .i64 0)), none⟩,
        ⟨(some 7), .mv (.const (.bool false)), none⟩])
     .ret)
    .skip))
  (.seq (.seq (.reg [⟨(some 43), .mv (.tmp 2), none⟩,
      ⟨(some 44), .cnv .u64 (.tmp 43), none⟩,
      ⟨(some 45), .mv (.tmp 11), none⟩,
      ⟨(some 46), .bin .sub (.tmp 44) (.tmp 45), none⟩,
      ⟨(some 13), .mv (.tmp 46), none⟩])
   (.seq (.reg [⟨(some 47), .mv (.tmp 11), none⟩,
      ⟨(some 48), .mv (.tmp 13), none⟩,
      ⟨(some 49), .bin .gtr (.tmp 47) (.tmp 48), none⟩,
      ⟨(some 50), .mv (.tmp 49), none⟩,
      ⟨(some 51), .mv (.tmp 11), (some (50, false))⟩,
      ⟨(some 52), .mv (.tmp 13), (some (50, false))⟩,
      ⟨(some 53), .bin .eql (.tmp 51) (.tmp 52), (some (50, false))⟩,
      ⟨(some 54), .mv (.tmp 53), (some (50, false))⟩,
      ⟨(some 55), .mv (.tmp 12), (some (54, true))⟩,
      ⟨(some 56), .un .not (.tmp 55), (some (54, true))⟩,
      ⟨(some 57), .pk (.tmp 54) (.tmp 56) (.const (.bool false)), (some (50, false))⟩,
      ⟨(some 58), .pk (.tmp 50) (.const (.bool true)) (.tmp 57), none⟩])
   (.cond (.tmp 58)
    (.reg [⟨(some 59), .mv (.tmp 10), none⟩,
       ⟨(some 60), .bin .add (.tmp 59) (.const (.int .u64 1)), none⟩,
       ⟨(some 10), .mv (.tmp 60), none⟩])
    .skip)))
  (.seq (.block 0 (.seq (.reg [⟨(some 62), .mv (.tmp 12), none⟩,
       ⟨(some 63), .un .not (.tmp 62), none⟩,
       ⟨(some 64), .mv (.tmp 63), none⟩,
       ⟨(some 65), .mv (.tmp 10), (some (64, true))⟩,
       ⟨(some 66), .bin .leq (.tmp 65) (.const (.int .u64 9223372036854775807)), (some (64, true))⟩,
       ⟨(some 67), .pk (.tmp 64) (.tmp 66) (.const (.bool false)), none⟩,
       ⟨(some 61), .mv (.tmp 67), none⟩])
    (.cond (.tmp 61)
     (.seq (.reg [⟨(some 68), .mv (.tmp 10), none⟩,
         ⟨(some 69), .cnv .i64 (.tmp 68), none⟩,
         ⟨(some 6), .mv (.tmp 69), none⟩,
         ⟨(some 7), .mv (.const (.bool true)), none⟩])
      .ret)
     (.seq (.reg [⟨(some 71), .mv (.tmp 12), none⟩,
         ⟨(some 72), .mv (.tmp 71), none⟩,
         ⟨(some 73), .mv (.tmp 10), (some (72, true))⟩,
         ⟨(some 74), .bin .leq (.tmp 73) (.const (.int .u64 9223372036854775808)), (some (72, true))⟩,
         ⟨(some 75), .pk (.tmp 72) (.tmp 74) (.const (.bool false)), none⟩,
         ⟨(some 70), .mv (.tmp 75), none⟩])
      (.cond (.tmp 70)
       (.seq (.reg [⟨(some 76), .mv (.tmp 10), none⟩,
           ⟨(some 77), .un .neg (.tmp 76), none⟩,
           ⟨(some 78), .cnv .i64 (.tmp 77), none⟩,
           ⟨(some 6), .mv (.tmp 78), none⟩,
           ⟨(some 7), .mv (.const (.bool true)), none⟩])
        .ret)
       .skip)))))
  (.seq (.reg [⟨(some 6), .mv (.const (.int .i64 0)), none⟩,
     ⟨(some 7), .mv (.const (.bool false)), none⟩])
  .ret))))))))))
def fixed_MulDiv.f (a0 : Int) (b1 : Int) (c2 : Int) : Option (Int × Bool) := if c2 < 1 then (some (0, false)) else ((fixed_size.f a0).bind fun t29 => ((fixed_size.f b1).bind fun t31 => ((bits_Mul64.f t29 t31).bind fun (t33, t34) => (if t33 ≥ (wru64 c2) then (some (0, false)) else ((bits_Div64.f t33 t34 (wru64 c2)).bind fun (t37, t38) => (if (decide (a0 < 0)) = (decide (b1 < 0)) then (if t37 > 9223372036854775808 then (some (0, false)) else ((if t38 > (wru64 ((wru64 c2) - t38)) then (some (wru64 (t37 + 1), false)) else (if t38 = (wru64 ((wru64 c2) - t38)) then (some (wru64 (t37 + 1), false)) else (some (t37, false))) : Option (Int × Bool)).bind fun (x47, x48) => ((if x48 = true then (some false) else (if x47 ≤ 9223372036854775807 then (some true) else (some false)) : Option (Bool)).bind fun x54 => (if x54 = true then (some (wr64 x47, true)) else (if x48 = true then (if x47 ≤ 9223372036854775808 then (some (wr64 (wru64 (0 - x47)), true)) else (some (0, false))) else (some (0, false))))))) else (if t37 > 9223372036854775808 then (some (0, false)) else ((if t38 > (wru64 ((wru64 c2) - t38)) then (some (wru64 (t37 + 1), true)) else (if t38 = (wru64 ((wru64 c2) - t38)) then (some (t37, true)) else (some (t37, true))) : Option (Int × Bool)).bind fun (x64, x65) => ((if x65 = true then (some false) else (if x64 ≤ 9223372036854775807 then (some true) else (some false)) : Option (Bool)).bind fun x71 => (if x71 = true then (some (wr64 x64, true)) else (if x65 = true then (if x64 ≤ 9223372036854775808 then (some (wr64 (wru64 (0 - x64)), true)) else (some (0, false))) else (some (0, false)))))))))))))
theorem fixed_MulDiv.ok {S : Seal} {a0 : Int} {b1 : Int} {c2 : Int} {r0_ : Int} {r1_ : Bool} (e : fixed_MulDiv.f a0 b1 c2 = some (r0_, r1_)) :
    Cal Try.prog 53 [.int .i64 a0, .int .i64 b1, .int .i64 c2] [] S fun v H' S' => v = .tuple #[.int .i64 r0_, .bool r1_] ∧ H' = [] ∧ S' = S := by
  unfold fixed_MulDiv.f at e
  refine cal_of (c := c53) (N := 79) Try.func53 rfl rfl (by kernel_rfl) (rs := [.t 6, .t 7]) (by kernel_rfl) (Nat.le_of_ble_eq_true rfl) ?_
  unfold c53
  refine w_seq ?_
  refine w_reg fun all => ?_
  refine t_qz 2 [0, 1, 2] (σ' := [(0, .int .i64 a0), (1, .int .i64 b1), (2, .int .i64 c2)]) (by kernel_rfl) ?_
  refine t_end ?_
  show W _ _ _ _ _ _ _
  refine w_seq ?_
  refine w_seq ?_
  refine w_reg fun all => ?_
  by_cases c27 : c2 < 1
  · rw [if_pos c27] at e
    have c27b : (decide (c2 < 1)) = true := decide_eq_true c27
    refine t_qz 1 [0, 1, 2, 14] (σ' := [(0, .int .i64 a0), (1, .int .i64 b1), (2, .int .i64 c2), (14, .int .i64 c2)]) (by kernel_rfl) ?_
    refine t_v (dv_quiet rfl (congrArg (fun t => some (Value.bool t)) c27b)) ?_
    refine t_keep [0, 1, 2, 15] (σ' := [(0, .int .i64 a0), (1, .int .i64 b1), (2, .int .i64 c2), (15, .bool true)]) (by kernel_rfl) ?_
    refine t_end ?_
    show W _ _ _ _ _ _ _
    refine w_cond rfl (fun _ => ?_) (fun c_ => by cases c_)
    show W _ _ _ _ _ _ _
    refine w_seq ?_
    refine w_reg fun all => ?_
    refine t_qz 2 [6, 7] (σ' := [(6, .int .i64 0), (7, .bool false)]) (by kernel_rfl) ?_
    refine t_end ?_
    show W _ _ _ _ _ _ _
    refine w_ret ?_
    simp only [Option.some.injEq, Prod.mk.injEq] at e
    obtain ⟨rfl, rfl⟩ := e
    exact ⟨[.int .i64 0, .bool false], [], S, ⟨rfl, rfl, trivial⟩, VS.none, rfl, rfl, rfl⟩
  · rw [if_neg c27] at e
    have c27b : (decide (c2 < 1)) = false := decide_eq_false c27
    refine t_qz 1 [0, 1, 2, 14] (σ' := [(0, .int .i64 a0), (1, .int .i64 b1), (2, .int .i64 c2), (14, .int .i64 c2)]) (by kernel_rfl) ?_
    refine t_v (dv_quiet rfl (congrArg (fun t => some (Value.bool t)) c27b)) ?_
    refine t_keep [0, 1, 2, 15] (σ' := [(0, .int .i64 a0), (1, .int .i64 b1), (2, .int .i64 c2), (15, .bool false)]) (by kernel_rfl) ?_
    refine t_end ?_
    show W _ _ _ _ _ _ _
    refine w_cond rfl (fun c_ => by cases c_) (fun _ => ?_)
    show W _ _ _ _ _ _ _
    refine w_skip ?_
    show W _ _ _ _ _ _ _
    refine w_seq ?_
    refine w_reg fun all => ?_
    obtain ⟨t29, h30, e⟩ := bind_of e
    refine t_qz 1 [0, 1, 2, 17] (σ' := [(0, .int .i64 a0), (1, .int .i64 b1), (2, .int .i64 c2), (17, .int .i64 a0)]) (by kernel_rfl) ?_
    refine t_v (.call (vs := [.int .i64 a0]) rfl rfl (by kernel_rfl) (fixed_size.ok h30)) ?_
    obtain ⟨t31, h32, e⟩ := bind_of e
    refine t_qz 1 [0, 1, 2, 18, 19] (σ' := [(0, .int .i64 a0), (1, .int .i64 b1), (2, .int .i64 c2), (18, .int .u64 t29), (19, .int .i64 b1)]) (by kernel_rfl) ?_
    refine t_v (.call (vs := [.int .i64 b1]) rfl rfl (by kernel_rfl) (fixed_size.ok h32)) ?_
    obtain ⟨⟨t33, t34⟩, h35, e⟩ := bind_of e
    try dsimp only at e
    refine t_v (.call (vs := [.int .u64 t29, .int .u64 t31]) rfl rfl (by kernel_rfl) (bits_Mul64.ok h35)) ?_
    refine t_qz 5 [0, 1, 2, 8, 9] (σ' := [(0, .int .i64 a0), (1, .int .i64 b1), (2, .int .i64 c2), (8, .int .u64 t33), (9, .int .u64 t34)]) (by kernel_rfl) ?_
    refine t_end ?_
    show W _ _ _ _ _ _ _
    refine w_seq ?_
    refine w_seq ?_
    refine w_reg fun all => ?_
    by_cases c36 : t33 ≥ (wru64 c2)
    · rw [if_pos c36] at e
      have c36b : (decide (t33 ≥ (wru64 c2))) = true := decide_eq_true c36
      refine t_qz 3 [0, 1, 2, 8, 9, 24, 26] (σ' := [(0, .int .i64 a0), (1, .int .i64 b1), (2, .int .i64 c2), (8, .int .u64 t33), (9, .int .u64 t34), (24, .int .u64 t33), (26, .int .u64 (wru64 c2))]) (by kernel_rfl) ?_
      refine t_v (dv_quiet rfl (congrArg (fun t => some (Value.bool t)) c36b)) ?_
      refine t_keep [0, 1, 2, 8, 9, 27] (σ' := [(0, .int .i64 a0), (1, .int .i64 b1), (2, .int .i64 c2), (8, .int .u64 t33), (9, .int .u64 t34), (27, .bool true)]) (by kernel_rfl) ?_
      refine t_end ?_
      show W _ _ _ _ _ _ _
      refine w_cond rfl (fun _ => ?_) (fun c_ => by cases c_)
      show W _ _ _ _ _ _ _
      refine w_seq ?_
      refine w_reg fun all => ?_
      refine t_qz 2 [6, 7] (σ' := [(6, .int .i64 0), (7, .bool false)]) (by kernel_rfl) ?_
      refine t_end ?_
      show W _ _ _ _ _ _ _
      refine w_ret ?_
      simp only [Option.some.injEq, Prod.mk.injEq] at e
      obtain ⟨rfl, rfl⟩ := e
      exact ⟨[.int .i64 0, .bool false], [], S, ⟨rfl, rfl, trivial⟩, VS.none, rfl, rfl, rfl⟩
    · rw [if_neg c36] at e
      have c36b : (decide (t33 ≥ (wru64 c2))) = false := decide_eq_false c36
      refine t_qz 3 [0, 1, 2, 8, 9, 24, 26] (σ' := [(0, .int .i64 a0), (1, .int .i64 b1), (2, .int .i64 c2), (8, .int .u64 t33), (9, .int .u64 t34), (24, .int .u64 t33), (26, .int .u64 (wru64 c2))]) (by kernel_rfl) ?_
      refine t_v (dv_quiet rfl (congrArg (fun t => some (Value.bool t)) c36b)) ?_
      refine t_keep [0, 1, 2, 8, 9, 27] (σ' := [(0, .int .i64 a0), (1, .int .i64 b1), (2, .int .i64 c2), (8, .int .u64 t33), (9, .int .u64 t34), (27, .bool false)]) (by kernel_rfl) ?_
      refine t_end ?_
      show W _ _ _ _ _ _ _
      refine w_cond rfl (fun c_ => by cases c_) (fun _ => ?_)
      show W _ _ _ _ _ _ _
      refine w_skip ?_
      show W _ _ _ _ _ _ _
      refine w_seq ?_
      refine w_reg fun all => ?_
      obtain ⟨⟨t37, t38⟩, h39, e⟩ := bind_of e
      try dsimp only at e
      refine t_qz 4 [0, 1, 2, 29, 30, 32] (σ' := [(0, .int .i64 a0), (1, .int .i64 b1), (2, .int .i64 c2), (29, .int .u64 t33), (30, .int .u64 t34), (32, .int .u64 (wru64 c2))]) (by kernel_rfl) ?_
      refine t_v (.call (vs := [.int .u64 t33, .int .u64 t34, .int .u64 (wru64 c2)]) rfl rfl (by kernel_rfl) (bits_Div64.ok h39)) ?_
      refine t_qz 5 [0, 1, 2, 10, 11] (σ' := [(0, .int .i64 a0), (1, .int .i64 b1), (2, .int .i64 c2), (10, .int .u64 t37), (11, .int .u64 t38)]) (by kernel_rfl) ?_
      refine t_end ?_
      show W _ _ _ _ _ _ _
      refine w_seq ?_
      refine w_reg fun all => ?_
      by_cases c40 : (decide (a0 < 0)) = (decide (b1 < 0))
      · rw [if_pos c40] at e
        have c40b : ((decide (a0 < 0)) == (decide (b1 < 0))) = true := beq_iff_eq.mpr c40
        refine t_qz 4 [2, 10, 11, 37, 39] (σ' := [(2, .int .i64 c2), (10, .int .u64 t37), (11, .int .u64 t38), (37, .bool (decide (a0 < 0))), (39, .bool (decide (b1 < 0)))]) (by kernel_rfl) ?_
        refine t_v (dv_quiet rfl (congrArg (fun t => some (Value.bool (!t))) c40b)) ?_
        refine t_qz 1 [2, 10, 11, 12] (σ' := [(2, .int .i64 c2), (10, .int .u64 t37), (11, .int .u64 t38), (12, .bool false)]) (by kernel_rfl) ?_
        refine t_end ?_
        show W _ _ _ _ _ _ _
        refine w_seq ?_
        refine w_seq ?_
        refine w_reg fun all => ?_
        by_cases c41 : t37 > 9223372036854775808
        · rw [if_pos c41] at e
          have c41b : (decide (t37 > 9223372036854775808)) = true := decide_eq_true c41
          refine t_qz 1 [2, 10, 11, 12, 41] (σ' := [(2, .int .i64 c2), (10, .int .u64 t37), (11, .int .u64 t38), (12, .bool false), (41, .int .u64 t37)]) (by kernel_rfl) ?_
          refine t_v (dv_quiet rfl (congrArg (fun t => some (Value.bool t)) c41b)) ?_
          refine t_keep [2, 10, 11, 12, 42] (σ' := [(2, .int .i64 c2), (10, .int .u64 t37), (11, .int .u64 t38), (12, .bool false), (42, .bool true)]) (by kernel_rfl) ?_
          refine t_end ?_
          show W _ _ _ _ _ _ _
          refine w_cond rfl (fun _ => ?_) (fun c_ => by cases c_)
          show W _ _ _ _ _ _ _
          refine w_seq ?_
          refine w_reg fun all => ?_
          refine t_qz 2 [6, 7] (σ' := [(6, .int .i64 0), (7, .bool false)]) (by kernel_rfl) ?_
          refine t_end ?_
          show W _ _ _ _ _ _ _
          refine w_ret ?_
          simp only [Option.some.injEq, Prod.mk.injEq] at e
          obtain ⟨rfl, rfl⟩ := e
          exact ⟨[.int .i64 0, .bool false], [], S, ⟨rfl, rfl, trivial⟩, VS.none, rfl, rfl, rfl⟩
        · rw [if_neg c41] at e
          have c41b : (decide (t37 > 9223372036854775808)) = false := decide_eq_false c41
          refine t_qz 1 [2, 10, 11, 12, 41] (σ' := [(2, .int .i64 c2), (10, .int .u64 t37), (11, .int .u64 t38), (12, .bool false), (41, .int .u64 t37)]) (by kernel_rfl) ?_
          refine t_v (dv_quiet rfl (congrArg (fun t => some (Value.bool t)) c41b)) ?_
          refine t_keep [2, 10, 11, 12, 42] (σ' := [(2, .int .i64 c2), (10, .int .u64 t37), (11, .int .u64 t38), (12, .bool false), (42, .bool false)]) (by kernel_rfl) ?_
          refine t_end ?_
          show W _ _ _ _ _ _ _
          refine w_cond rfl (fun c_ => by cases c_) (fun _ => ?_)
          show W _ _ _ _ _ _ _
          refine w_skip ?_
          show W _ _ _ _ _ _ _
          obtain ⟨⟨x47, x48⟩, e43, e⟩ := bind_of e
          try dsimp only at e
          refine w_cut [10, 12] (fun σ_ H_ S_ => [(10, .int .u64 x47), (12, .bool x48)] = σ_ ∧ ([] : List Own) = H_ ∧ S = S_) ?_ ?_
          · show W _ _ _ _ _ _ _
            refine w_seq ?_
            refine w_reg fun all => ?_
            refine t_qz 5 [10, 11, 12, 13] (σ' := [(10, .int .u64 t37), (11, .int .u64 t38), (12, .bool false), (13, .int .u64 (wru64 ((wru64 c2) - t38)))]) (by kernel_rfl) ?_
            refine t_end ?_
            show W _ _ _ _ _ _ _
            refine w_seq ?_
            refine w_reg fun all => ?_
            by_cases c45 : t38 > (wru64 ((wru64 c2) - t38))
            · rw [if_pos c45] at e43
              have c45b : (decide (t38 > (wru64 ((wru64 c2) - t38)))) = true := decide_eq_true c45
              refine t_qz 2 [10, 11, 12, 13, 47, 48] (σ' := [(10, .int .u64 t37), (11, .int .u64 t38), (12, .bool false), (13, .int .u64 (wru64 ((wru64 c2) - t38))), (47, .int .u64 t38), (48, .int .u64 (wru64 ((wru64 c2) - t38)))]) (by kernel_rfl) ?_
              refine t_v (dv_quiet rfl (congrArg (fun t => some (Value.bool t)) c45b)) ?_
              refine t_qz 9 [10, 12, 58] (σ' := [(10, .int .u64 t37), (12, .bool false), (58, .bool true)]) (by kernel_rfl) ?_
              refine t_end ?_
              show W _ _ _ _ _ _ _
              refine w_cond rfl (fun _ => ?_) (fun c_ => by cases c_)
              show W _ _ _ _ _ _ _
              refine w_reg fun all => ?_
              refine t_qz 3 [10, 12] (σ' := [(10, .int .u64 (wru64 (t37 + 1))), (12, .bool false)]) (by kernel_rfl) ?_
              refine t_end ?_
              simp only [Option.some.injEq, Prod.mk.injEq] at e43
              obtain ⟨rfl, rfl⟩ := e43
              exact ⟨([] : List Own), S, VS.sel [] (by kernel_rfl), by kernel_rfl, rfl, rfl⟩
            · rw [if_neg c45] at e43
              have c45b : (decide (t38 > (wru64 ((wru64 c2) - t38)))) = false := decide_eq_false c45
              refine t_qz 2 [10, 11, 12, 13, 47, 48] (σ' := [(10, .int .u64 t37), (11, .int .u64 t38), (12, .bool false), (13, .int .u64 (wru64 ((wru64 c2) - t38))), (47, .int .u64 t38), (48, .int .u64 (wru64 ((wru64 c2) - t38)))]) (by kernel_rfl) ?_
              refine t_v (dv_quiet rfl (congrArg (fun t => some (Value.bool t)) c45b)) ?_
              by_cases c46 : t38 = (wru64 ((wru64 c2) - t38))
              · rw [if_pos c46] at e43
                have c46b : (t38 == (wru64 ((wru64 c2) - t38))) = true := beq_iff_eq.mpr c46
                refine t_qz 3 [10, 12, 50, 51, 52] (σ' := [(10, .int .u64 t37), (12, .bool false), (50, .bool false), (51, .int .u64 t38), (52, .int .u64 (wru64 ((wru64 c2) - t38)))]) (by kernel_rfl) ?_
                refine t_v (dv_quiet rfl (congrArg (fun t => some (Value.bool t)) c46b)) ?_
                refine t_qz 5 [10, 12, 58] (σ' := [(10, .int .u64 t37), (12, .bool false), (58, .bool true)]) (by kernel_rfl) ?_
                refine t_end ?_
                show W _ _ _ _ _ _ _
                refine w_cond rfl (fun _ => ?_) (fun c_ => by cases c_)
                show W _ _ _ _ _ _ _
                refine w_reg fun all => ?_
                refine t_qz 3 [10, 12] (σ' := [(10, .int .u64 (wru64 (t37 + 1))), (12, .bool false)]) (by kernel_rfl) ?_
                refine t_end ?_
                simp only [Option.some.injEq, Prod.mk.injEq] at e43
                obtain ⟨rfl, rfl⟩ := e43
                exact ⟨([] : List Own), S, VS.sel [] (by kernel_rfl), by kernel_rfl, rfl, rfl⟩
              · rw [if_neg c46] at e43
                have c46b : (t38 == (wru64 ((wru64 c2) - t38))) = false := beq_eq_false_iff_ne.mpr c46
                refine t_qz 3 [10, 12, 50, 51, 52] (σ' := [(10, .int .u64 t37), (12, .bool false), (50, .bool false), (51, .int .u64 t38), (52, .int .u64 (wru64 ((wru64 c2) - t38)))]) (by kernel_rfl) ?_
                refine t_v (dv_quiet rfl (congrArg (fun t => some (Value.bool t)) c46b)) ?_
                refine t_qz 5 [10, 12, 58] (σ' := [(10, .int .u64 t37), (12, .bool false), (58, .bool false)]) (by kernel_rfl) ?_
                refine t_end ?_
                show W _ _ _ _ _ _ _
                refine w_cond rfl (fun c_ => by cases c_) (fun _ => ?_)
                show W _ _ _ _ _ _ _
                refine w_skip ?_
                simp only [Option.some.injEq, Prod.mk.injEq] at e43
                obtain ⟨rfl, rfl⟩ := e43
                exact ⟨([] : List Own), S, VS.sel [] (by kernel_rfl), by kernel_rfl, rfl, rfl⟩
          · rintro σ_ H_ S_ ⟨rfl, rfl, rfl⟩
            refine w_seq ?_
            refine w_block ?_
            obtain ⟨x54, e50, e⟩ := bind_of e
            refine w_cut [10, 12, 61] (fun σ_ H_ S_ => [(10, .int .u64 x47), (12, .bool x48), (61, .bool x54)] = σ_ ∧ ([] : List Own) = H_ ∧ S = S_) ?_ ?_
            · show W _ _ _ _ _ _ _
              refine w_reg fun all => ?_
              by_cases c52 : x48 = true
              · rw [if_pos c52] at e50
                have c52b : x48 = true := c52
                refine t_qz 1 [10, 12, 62] (σ' := [(10, .int .u64 x47), (12, .bool x48), (62, .bool x48)]) (by kernel_rfl) ?_
                refine t_v (dv_quiet rfl (congrArg (fun t => some (Value.bool (!t))) c52b)) ?_
                refine t_qz 5 [10, 12, 61] (σ' := [(10, .int .u64 x47), (12, .bool x48), (61, .bool false)]) (by kernel_rfl) ?_
                refine t_end ?_
                obtain rfl := Option.some.inj e50
                exact ⟨([] : List Own), S, VS.sel [] (by kernel_rfl), by kernel_rfl, rfl, rfl⟩
              · rw [if_neg c52] at e50
                have c52b : x48 = false := Bool.eq_false_iff.mpr c52
                refine t_qz 1 [10, 12, 62] (σ' := [(10, .int .u64 x47), (12, .bool x48), (62, .bool x48)]) (by kernel_rfl) ?_
                refine t_v (dv_quiet rfl (congrArg (fun t => some (Value.bool (!t))) c52b)) ?_
                by_cases c53 : x47 ≤ 9223372036854775807
                · rw [if_pos c53] at e50
                  have c53b : (decide (x47 ≤ 9223372036854775807)) = true := decide_eq_true c53
                  refine t_qz 2 [10, 12, 64, 65] (σ' := [(10, .int .u64 x47), (12, .bool x48), (64, .bool true), (65, .int .u64 x47)]) (by kernel_rfl) ?_
                  refine t_v (dv_quiet rfl (congrArg (fun t => some (Value.bool t)) c53b)) ?_
                  refine t_qz 2 [10, 12, 61] (σ' := [(10, .int .u64 x47), (12, .bool x48), (61, .bool true)]) (by kernel_rfl) ?_
                  refine t_end ?_
                  obtain rfl := Option.some.inj e50
                  exact ⟨([] : List Own), S, VS.sel [] (by kernel_rfl), by kernel_rfl, rfl, rfl⟩
                · rw [if_neg c53] at e50
                  have c53b : (decide (x47 ≤ 9223372036854775807)) = false := decide_eq_false c53
                  refine t_qz 2 [10, 12, 64, 65] (σ' := [(10, .int .u64 x47), (12, .bool x48), (64, .bool true), (65, .int .u64 x47)]) (by kernel_rfl) ?_
                  refine t_v (dv_quiet rfl (congrArg (fun t => some (Value.bool t)) c53b)) ?_
                  refine t_qz 2 [10, 12, 61] (σ' := [(10, .int .u64 x47), (12, .bool x48), (61, .bool false)]) (by kernel_rfl) ?_
                  refine t_end ?_
                  obtain rfl := Option.some.inj e50
                  exact ⟨([] : List Own), S, VS.sel [] (by kernel_rfl), by kernel_rfl, rfl, rfl⟩
            · rintro σ_ H_ S_ ⟨rfl, rfl, rfl⟩
              by_cases c55 : x54 = true
              · rw [if_pos c55] at e
                have c55b : x54 = true := c55
                refine w_cond (t := true) (congrArg (fun t => some (Value.bool t)) c55b) (fun _ => ?_) (fun c_ => by cases c_)
                refine w_seq ?_
                refine w_reg fun all => ?_
                refine t_qz 4 [6, 7] (σ' := [(6, .int .i64 (wr64 x47)), (7, .bool true)]) (by kernel_rfl) ?_
                refine t_end ?_
                show W _ _ _ _ _ _ _
                refine w_ret ?_
                simp only [Option.some.injEq, Prod.mk.injEq] at e
                obtain ⟨rfl, rfl⟩ := e
                exact ⟨[.int .i64 (wr64 x47), .bool true], [], S, ⟨rfl, rfl, trivial⟩, VS.none, rfl, rfl, rfl⟩
              · rw [if_neg c55] at e
                have c55b : x54 = false := Bool.eq_false_iff.mpr c55
                refine w_cond (t := false) (congrArg (fun t => some (Value.bool t)) c55b) (fun c_ => by cases c_) (fun _ => ?_)
                refine w_seq ?_
                refine w_reg fun all => ?_
                by_cases c56 : x48 = true
                · rw [if_pos c56] at e
                  have c56b : x48 = true := c56
                  refine t_v (dv_quiet rfl (congrArg (fun t => some (Value.bool t)) c56b)) ?_
                  by_cases c57 : x47 ≤ 9223372036854775808
                  · rw [if_pos c57] at e
                    have c57b : (decide (x47 ≤ 9223372036854775808)) = true := decide_eq_true c57
                    refine t_qz 2 [10, 72, 73] (σ' := [(10, .int .u64 x47), (72, .bool true), (73, .int .u64 x47)]) (by kernel_rfl) ?_
                    refine t_v (dv_quiet rfl (congrArg (fun t => some (Value.bool t)) c57b)) ?_
                    refine t_qz 2 [10, 70] (σ' := [(10, .int .u64 x47), (70, .bool true)]) (by kernel_rfl) ?_
                    refine t_end ?_
                    show W _ _ _ _ _ _ _
                    refine w_cond rfl (fun _ => ?_) (fun c_ => by cases c_)
                    show W _ _ _ _ _ _ _
                    refine w_seq ?_
                    refine w_reg fun all => ?_
                    refine t_qz 5 [6, 7] (σ' := [(6, .int .i64 (wr64 (wru64 (0 - x47)))), (7, .bool true)]) (by kernel_rfl) ?_
                    refine t_end ?_
                    show W _ _ _ _ _ _ _
                    refine w_ret ?_
                    simp only [Option.some.injEq, Prod.mk.injEq] at e
                    obtain ⟨rfl, rfl⟩ := e
                    exact ⟨[.int .i64 (wr64 (wru64 (0 - x47))), .bool true], [], S, ⟨rfl, rfl, trivial⟩, VS.none, rfl, rfl, rfl⟩
                  · rw [if_neg c57] at e
                    have c57b : (decide (x47 ≤ 9223372036854775808)) = false := decide_eq_false c57
                    refine t_qz 2 [10, 72, 73] (σ' := [(10, .int .u64 x47), (72, .bool true), (73, .int .u64 x47)]) (by kernel_rfl) ?_
                    refine t_v (dv_quiet rfl (congrArg (fun t => some (Value.bool t)) c57b)) ?_
                    refine t_qz 2 [10, 70] (σ' := [(10, .int .u64 x47), (70, .bool false)]) (by kernel_rfl) ?_
                    refine t_end ?_
                    show W _ _ _ _ _ _ _
                    refine w_cond rfl (fun c_ => by cases c_) (fun _ => ?_)
                    show W _ _ _ _ _ _ _
                    refine w_skip ?_
                    show W _ _ _ _ _ _ _
                    refine w_seq ?_
                    refine w_reg fun all => ?_
                    refine t_qz 2 [6, 7] (σ' := [(6, .int .i64 0), (7, .bool false)]) (by kernel_rfl) ?_
                    refine t_end ?_
                    show W _ _ _ _ _ _ _
                    refine w_ret ?_
                    simp only [Option.some.injEq, Prod.mk.injEq] at e
                    obtain ⟨rfl, rfl⟩ := e
                    exact ⟨[.int .i64 0, .bool false], [], S, ⟨rfl, rfl, trivial⟩, VS.none, rfl, rfl, rfl⟩
                · rw [if_neg c56] at e
                  have c56b : x48 = false := Bool.eq_false_iff.mpr c56
                  refine t_v (dv_quiet rfl (congrArg (fun t => some (Value.bool t)) c56b)) ?_
                  refine t_qz 5 [10, 70] (σ' := [(10, .int .u64 x47), (70, .bool false)]) (by kernel_rfl) ?_
                  refine t_end ?_
                  show W _ _ _ _ _ _ _
                  refine w_cond rfl (fun c_ => by cases c_) (fun _ => ?_)
                  show W _ _ _ _ _ _ _
                  refine w_skip ?_
                  show W _ _ _ _ _ _ _
                  refine w_seq ?_
                  refine w_reg fun all => ?_
                  refine t_qz 2 [6, 7] (σ' := [(6, .int .i64 0), (7, .bool false)]) (by kernel_rfl) ?_
                  refine t_end ?_
                  show W _ _ _ _ _ _ _
                  refine w_ret ?_
                  simp only [Option.some.injEq, Prod.mk.injEq] at e
                  obtain ⟨rfl, rfl⟩ := e
                  exact ⟨[.int .i64 0, .bool false], [], S, ⟨rfl, rfl, trivial⟩, VS.none, rfl, rfl, rfl⟩
      · rw [if_neg c40] at e
        have c40b : ((decide (a0 < 0)) == (decide (b1 < 0))) = false := beq_eq_false_iff_ne.mpr c40
        refine t_qz 4 [2, 10, 11, 37, 39] (σ' := [(2, .int .i64 c2), (10, .int .u64 t37), (11, .int .u64 t38), (37, .bool (decide (a0 < 0))), (39, .bool (decide (b1 < 0)))]) (by kernel_rfl) ?_
        refine t_v (dv_quiet rfl (congrArg (fun t => some (Value.bool (!t))) c40b)) ?_
        refine t_qz 1 [2, 10, 11, 12] (σ' := [(2, .int .i64 c2), (10, .int .u64 t37), (11, .int .u64 t38), (12, .bool true)]) (by kernel_rfl) ?_
        refine t_end ?_
        show W _ _ _ _ _ _ _
        refine w_seq ?_
        refine w_seq ?_
        refine w_reg fun all => ?_
        by_cases c58 : t37 > 9223372036854775808
        · rw [if_pos c58] at e
          have c58b : (decide (t37 > 9223372036854775808)) = true := decide_eq_true c58
          refine t_qz 1 [2, 10, 11, 12, 41] (σ' := [(2, .int .i64 c2), (10, .int .u64 t37), (11, .int .u64 t38), (12, .bool true), (41, .int .u64 t37)]) (by kernel_rfl) ?_
          refine t_v (dv_quiet rfl (congrArg (fun t => some (Value.bool t)) c58b)) ?_
          refine t_keep [2, 10, 11, 12, 42] (σ' := [(2, .int .i64 c2), (10, .int .u64 t37), (11, .int .u64 t38), (12, .bool true), (42, .bool true)]) (by kernel_rfl) ?_
          refine t_end ?_
          show W _ _ _ _ _ _ _
          refine w_cond rfl (fun _ => ?_) (fun c_ => by cases c_)
          show W _ _ _ _ _ _ _
          refine w_seq ?_
          refine w_reg fun all => ?_
          refine t_qz 2 [6, 7] (σ' := [(6, .int .i64 0), (7, .bool false)]) (by kernel_rfl) ?_
          refine t_end ?_
          show W _ _ _ _ _ _ _
          refine w_ret ?_
          simp only [Option.some.injEq, Prod.mk.injEq] at e
          obtain ⟨rfl, rfl⟩ := e
          exact ⟨[.int .i64 0, .bool false], [], S, ⟨rfl, rfl, trivial⟩, VS.none, rfl, rfl, rfl⟩
        · rw [if_neg c58] at e
          have c58b : (decide (t37 > 9223372036854775808)) = false := decide_eq_false c58
          refine t_qz 1 [2, 10, 11, 12, 41] (σ' := [(2, .int .i64 c2), (10, .int .u64 t37), (11, .int .u64 t38), (12, .bool true), (41, .int .u64 t37)]) (by kernel_rfl) ?_
          refine t_v (dv_quiet rfl (congrArg (fun t => some (Value.bool t)) c58b)) ?_
          refine t_keep [2, 10, 11, 12, 42] (σ' := [(2, .int .i64 c2), (10, .int .u64 t37), (11, .int .u64 t38), (12, .bool true), (42, .bool false)]) (by kernel_rfl) ?_
          refine t_end ?_
          show W _ _ _ _ _ _ _
          refine w_cond rfl (fun c_ => by cases c_) (fun _ => ?_)
          show W _ _ _ _ _ _ _
          refine w_skip ?_
          show W _ _ _ _ _ _ _
          obtain ⟨⟨x64, x65⟩, e60, e⟩ := bind_of e
          try dsimp only at e
          refine w_cut [10, 12] (fun σ_ H_ S_ => [(10, .int .u64 x64), (12, .bool x65)] = σ_ ∧ ([] : List Own) = H_ ∧ S = S_) ?_ ?_
          · show W _ _ _ _ _ _ _
            refine w_seq ?_
            refine w_reg fun all => ?_
            refine t_qz 5 [10, 11, 12, 13] (σ' := [(10, .int .u64 t37), (11, .int .u64 t38), (12, .bool true), (13, .int .u64 (wru64 ((wru64 c2) - t38)))]) (by kernel_rfl) ?_
            refine t_end ?_
            show W _ _ _ _ _ _ _
            refine w_seq ?_
            refine w_reg fun all => ?_
            by_cases c62 : t38 > (wru64 ((wru64 c2) - t38))
            · rw [if_pos c62] at e60
              have c62b : (decide (t38 > (wru64 ((wru64 c2) - t38)))) = true := decide_eq_true c62
              refine t_qz 2 [10, 11, 12, 13, 47, 48] (σ' := [(10, .int .u64 t37), (11, .int .u64 t38), (12, .bool true), (13, .int .u64 (wru64 ((wru64 c2) - t38))), (47, .int .u64 t38), (48, .int .u64 (wru64 ((wru64 c2) - t38)))]) (by kernel_rfl) ?_
              refine t_v (dv_quiet rfl (congrArg (fun t => some (Value.bool t)) c62b)) ?_
              refine t_qz 9 [10, 12, 58] (σ' := [(10, .int .u64 t37), (12, .bool true), (58, .bool true)]) (by kernel_rfl) ?_
              refine t_end ?_
              show W _ _ _ _ _ _ _
              refine w_cond rfl (fun _ => ?_) (fun c_ => by cases c_)
              show W _ _ _ _ _ _ _
              refine w_reg fun all => ?_
              refine t_qz 3 [10, 12] (σ' := [(10, .int .u64 (wru64 (t37 + 1))), (12, .bool true)]) (by kernel_rfl) ?_
              refine t_end ?_
              simp only [Option.some.injEq, Prod.mk.injEq] at e60
              obtain ⟨rfl, rfl⟩ := e60
              exact ⟨([] : List Own), S, VS.sel [] (by kernel_rfl), by kernel_rfl, rfl, rfl⟩
            · rw [if_neg c62] at e60
              have c62b : (decide (t38 > (wru64 ((wru64 c2) - t38)))) = false := decide_eq_false c62
              refine t_qz 2 [10, 11, 12, 13, 47, 48] (σ' := [(10, .int .u64 t37), (11, .int .u64 t38), (12, .bool true), (13, .int .u64 (wru64 ((wru64 c2) - t38))), (47, .int .u64 t38), (48, .int .u64 (wru64 ((wru64 c2) - t38)))]) (by kernel_rfl) ?_
              refine t_v (dv_quiet rfl (congrArg (fun t => some (Value.bool t)) c62b)) ?_
              by_cases c63 : t38 = (wru64 ((wru64 c2) - t38))
              · rw [if_pos c63] at e60
                have c63b : (t38 == (wru64 ((wru64 c2) - t38))) = true := beq_iff_eq.mpr c63
                refine t_qz 3 [10, 12, 50, 51, 52] (σ' := [(10, .int .u64 t37), (12, .bool true), (50, .bool false), (51, .int .u64 t38), (52, .int .u64 (wru64 ((wru64 c2) - t38)))]) (by kernel_rfl) ?_
                refine t_v (dv_quiet rfl (congrArg (fun t => some (Value.bool t)) c63b)) ?_
                refine t_qz 5 [10, 12, 58] (σ' := [(10, .int .u64 t37), (12, .bool true), (58, .bool false)]) (by kernel_rfl) ?_
                refine t_end ?_
                show W _ _ _ _ _ _ _
                refine w_cond rfl (fun c_ => by cases c_) (fun _ => ?_)
                show W _ _ _ _ _ _ _
                refine w_skip ?_
                simp only [Option.some.injEq, Prod.mk.injEq] at e60
                obtain ⟨rfl, rfl⟩ := e60
                exact ⟨([] : List Own), S, VS.sel [] (by kernel_rfl), by kernel_rfl, rfl, rfl⟩
              · rw [if_neg c63] at e60
                have c63b : (t38 == (wru64 ((wru64 c2) - t38))) = false := beq_eq_false_iff_ne.mpr c63
                refine t_qz 3 [10, 12, 50, 51, 52] (σ' := [(10, .int .u64 t37), (12, .bool true), (50, .bool false), (51, .int .u64 t38), (52, .int .u64 (wru64 ((wru64 c2) - t38)))]) (by kernel_rfl) ?_
                refine t_v (dv_quiet rfl (congrArg (fun t => some (Value.bool t)) c63b)) ?_
                refine t_qz 5 [10, 12, 58] (σ' := [(10, .int .u64 t37), (12, .bool true), (58, .bool false)]) (by kernel_rfl) ?_
                refine t_end ?_
                show W _ _ _ _ _ _ _
                refine w_cond rfl (fun c_ => by cases c_) (fun _ => ?_)
                show W _ _ _ _ _ _ _
                refine w_skip ?_
                simp only [Option.some.injEq, Prod.mk.injEq] at e60
                obtain ⟨rfl, rfl⟩ := e60
                exact ⟨([] : List Own), S, VS.sel [] (by kernel_rfl), by kernel_rfl, rfl, rfl⟩
          · rintro σ_ H_ S_ ⟨rfl, rfl, rfl⟩
            refine w_seq ?_
            refine w_block ?_
            obtain ⟨x71, e67, e⟩ := bind_of e
            refine w_cut [10, 12, 61] (fun σ_ H_ S_ => [(10, .int .u64 x64), (12, .bool x65), (61, .bool x71)] = σ_ ∧ ([] : List Own) = H_ ∧ S = S_) ?_ ?_
            · show W _ _ _ _ _ _ _
              refine w_reg fun all => ?_
              by_cases c69 : x65 = true
              · rw [if_pos c69] at e67
                have c69b : x65 = true := c69
                refine t_qz 1 [10, 12, 62] (σ' := [(10, .int .u64 x64), (12, .bool x65), (62, .bool x65)]) (by kernel_rfl) ?_
                refine t_v (dv_quiet rfl (congrArg (fun t => some (Value.bool (!t))) c69b)) ?_
                refine t_qz 5 [10, 12, 61] (σ' := [(10, .int .u64 x64), (12, .bool x65), (61, .bool false)]) (by kernel_rfl) ?_
                refine t_end ?_
                obtain rfl := Option.some.inj e67
                exact ⟨([] : List Own), S, VS.sel [] (by kernel_rfl), by kernel_rfl, rfl, rfl⟩
              · rw [if_neg c69] at e67
                have c69b : x65 = false := Bool.eq_false_iff.mpr c69
                refine t_qz 1 [10, 12, 62] (σ' := [(10, .int .u64 x64), (12, .bool x65), (62, .bool x65)]) (by kernel_rfl) ?_
                refine t_v (dv_quiet rfl (congrArg (fun t => some (Value.bool (!t))) c69b)) ?_
                by_cases c70 : x64 ≤ 9223372036854775807
                · rw [if_pos c70] at e67
                  have c70b : (decide (x64 ≤ 9223372036854775807)) = true := decide_eq_true c70
                  refine t_qz 2 [10, 12, 64, 65] (σ' := [(10, .int .u64 x64), (12, .bool x65), (64, .bool true), (65, .int .u64 x64)]) (by kernel_rfl) ?_
                  refine t_v (dv_quiet rfl (congrArg (fun t => some (Value.bool t)) c70b)) ?_
                  refine t_qz 2 [10, 12, 61] (σ' := [(10, .int .u64 x64), (12, .bool x65), (61, .bool true)]) (by kernel_rfl) ?_
                  refine t_end ?_
                  obtain rfl := Option.some.inj e67
                  exact ⟨([] : List Own), S, VS.sel [] (by kernel_rfl), by kernel_rfl, rfl, rfl⟩
                · rw [if_neg c70] at e67
                  have c70b : (decide (x64 ≤ 9223372036854775807)) = false := decide_eq_false c70
                  refine t_qz 2 [10, 12, 64, 65] (σ' := [(10, .int .u64 x64), (12, .bool x65), (64, .bool true), (65, .int .u64 x64)]) (by kernel_rfl) ?_
                  refine t_v (dv_quiet rfl (congrArg (fun t => some (Value.bool t)) c70b)) ?_
                  refine t_qz 2 [10, 12, 61] (σ' := [(10, .int .u64 x64), (12, .bool x65), (61, .bool false)]) (by kernel_rfl) ?_
                  refine t_end ?_
                  obtain rfl := Option.some.inj e67
                  exact ⟨([] : List Own), S, VS.sel [] (by kernel_rfl), by kernel_rfl, rfl, rfl⟩
            · rintro σ_ H_ S_ ⟨rfl, rfl, rfl⟩
              by_cases c72 : x71 = true
              · rw [if_pos c72] at e
                have c72b : x71 = true := c72
                refine w_cond (t := true) (congrArg (fun t => some (Value.bool t)) c72b) (fun _ => ?_) (fun c_ => by cases c_)
                refine w_seq ?_
                refine w_reg fun all => ?_
                refine t_qz 4 [6, 7] (σ' := [(6, .int .i64 (wr64 x64)), (7, .bool true)]) (by kernel_rfl) ?_
                refine t_end ?_
                show W _ _ _ _ _ _ _
                refine w_ret ?_
                simp only [Option.some.injEq, Prod.mk.injEq] at e
                obtain ⟨rfl, rfl⟩ := e
                exact ⟨[.int .i64 (wr64 x64), .bool true], [], S, ⟨rfl, rfl, trivial⟩, VS.none, rfl, rfl, rfl⟩
              · rw [if_neg c72] at e
                have c72b : x71 = false := Bool.eq_false_iff.mpr c72
                refine w_cond (t := false) (congrArg (fun t => some (Value.bool t)) c72b) (fun c_ => by cases c_) (fun _ => ?_)
                refine w_seq ?_
                refine w_reg fun all => ?_
                by_cases c73 : x65 = true
                · rw [if_pos c73] at e
                  have c73b : x65 = true := c73
                  refine t_v (dv_quiet rfl (congrArg (fun t => some (Value.bool t)) c73b)) ?_
                  by_cases c74 : x64 ≤ 9223372036854775808
                  · rw [if_pos c74] at e
                    have c74b : (decide (x64 ≤ 9223372036854775808)) = true := decide_eq_true c74
                    refine t_qz 2 [10, 72, 73] (σ' := [(10, .int .u64 x64), (72, .bool true), (73, .int .u64 x64)]) (by kernel_rfl) ?_
                    refine t_v (dv_quiet rfl (congrArg (fun t => some (Value.bool t)) c74b)) ?_
                    refine t_qz 2 [10, 70] (σ' := [(10, .int .u64 x64), (70, .bool true)]) (by kernel_rfl) ?_
                    refine t_end ?_
                    show W _ _ _ _ _ _ _
                    refine w_cond rfl (fun _ => ?_) (fun c_ => by cases c_)
                    show W _ _ _ _ _ _ _
                    refine w_seq ?_
                    refine w_reg fun all => ?_
                    refine t_qz 5 [6, 7] (σ' := [(6, .int .i64 (wr64 (wru64 (0 - x64)))), (7, .bool true)]) (by kernel_rfl) ?_
                    refine t_end ?_
                    show W _ _ _ _ _ _ _
                    refine w_ret ?_
                    simp only [Option.some.injEq, Prod.mk.injEq] at e
                    obtain ⟨rfl, rfl⟩ := e
                    exact ⟨[.int .i64 (wr64 (wru64 (0 - x64))), .bool true], [], S, ⟨rfl, rfl, trivial⟩, VS.none, rfl, rfl, rfl⟩
                  · rw [if_neg c74] at e
                    have c74b : (decide (x64 ≤ 9223372036854775808)) = false := decide_eq_false c74
                    refine t_qz 2 [10, 72, 73] (σ' := [(10, .int .u64 x64), (72, .bool true), (73, .int .u64 x64)]) (by kernel_rfl) ?_
                    refine t_v (dv_quiet rfl (congrArg (fun t => some (Value.bool t)) c74b)) ?_
                    refine t_qz 2 [10, 70] (σ' := [(10, .int .u64 x64), (70, .bool false)]) (by kernel_rfl) ?_
                    refine t_end ?_
                    show W _ _ _ _ _ _ _
                    refine w_cond rfl (fun c_ => by cases c_) (fun _ => ?_)
                    show W _ _ _ _ _ _ _
                    refine w_skip ?_
                    show W _ _ _ _ _ _ _
                    refine w_seq ?_
                    refine w_reg fun all => ?_
                    refine t_qz 2 [6, 7] (σ' := [(6, .int .i64 0), (7, .bool false)]) (by kernel_rfl) ?_
                    refine t_end ?_
                    show W _ _ _ _ _ _ _
                    refine w_ret ?_
                    simp only [Option.some.injEq, Prod.mk.injEq] at e
                    obtain ⟨rfl, rfl⟩ := e
                    exact ⟨[.int .i64 0, .bool false], [], S, ⟨rfl, rfl, trivial⟩, VS.none, rfl, rfl, rfl⟩
                · rw [if_neg c73] at e
                  have c73b : x65 = false := Bool.eq_false_iff.mpr c73
                  refine t_v (dv_quiet rfl (congrArg (fun t => some (Value.bool t)) c73b)) ?_
                  refine t_qz 5 [10, 70] (σ' := [(10, .int .u64 x64), (70, .bool false)]) (by kernel_rfl) ?_
                  refine t_end ?_
                  show W _ _ _ _ _ _ _
                  refine w_cond rfl (fun c_ => by cases c_) (fun _ => ?_)
                  show W _ _ _ _ _ _ _
                  refine w_skip ?_
                  show W _ _ _ _ _ _ _
                  refine w_seq ?_
                  refine w_reg fun all => ?_
                  refine t_qz 2 [6, 7] (σ' := [(6, .int .i64 0), (7, .bool false)]) (by kernel_rfl) ?_
                  refine t_end ?_
                  show W _ _ _ _ _ _ _
                  refine w_ret ?_
                  simp only [Option.some.injEq, Prod.mk.injEq] at e
                  obtain ⟨rfl, rfl⟩ := e
                  exact ⟨[.int .i64 0, .bool false], [], S, ⟨rfl, rfl, trivial⟩, VS.none, rfl, rfl, rfl⟩

def turn_within_v2.f (m0_0 : Int) (m0_1 : Int) : Option (Bool) := if m0_0 < (-1000000000000000) then (some false) else (if m0_0 > 1000000000000000 then (some false) else (if m0_1 < (-1000000000000000) then (some false) else (if m0_1 > 1000000000000000 then (some false) else (some true))))
theorem turn_within_v2.ok {S : Seal} {B0 : Nat} {m0_0 : Int} {m0_1 : Int} {r0_ : Bool} (e : turn_within_v2.f m0_0 m0_1 = some r0_) :
    Cal Try.prog 59 [.slice (some ⟨B0, 0, none⟩) 2 2] ([⟨B0, [.int .i64 m0_0, .int .i64 m0_1], 2⟩] : List Own) S fun v H' S' => v = .bool r0_ ∧ H' = ([⟨B0, [.int .i64 m0_0, .int .i64 m0_1], 2⟩] : List Own) ∧ S' = S := by
  unfold turn_within_v2.f at e
  refine cal_of (c := c59) (N := 18) Try.func59 rfl rfl (by kernel_rfl) (rs := [.t 2]) (by kernel_rfl) (Nat.le_of_ble_eq_true rfl) ?_
  unfold c59
  refine w_seq ?_
  refine w_reg fun all => ?_
  refine t_qz 1 [0] (σ' := [(0, .slice (some ⟨B0, 0, none⟩) 2 2)]) (by kernel_rfl) ?_
  refine t_end ?_
  show W _ _ _ _ _ _ _
  refine w_seq ?_
  refine w_seq ?_
  refine w_reg fun all => ?_
  refine t_qz 3 [5, 6, 7] (σ' := [(5, .slice (some ⟨B0, 0, none⟩) 2 2), (6, .int .i64 2), (7, .int .i64 0)]) (by kernel_rfl) ?_
  refine t_end ?_
  show W _ _ _ _ _ _ _
  refine w_block ?_
  refine w_lun 8 ?_
  refine wl_step ?_
  refine w_seq ?_
  refine w_reg fun all => ?_
  refine t_qz 1 [5, 6, 7, 8] (σ' := [(5, .slice (some ⟨B0, 0, none⟩) 2 2), (6, .int .i64 2), (7, .int .i64 0), (8, .bool true)]) (by kernel_rfl) ?_
  refine t_end ?_
  show W _ _ _ _ _ _ _
  refine w_seq ?_
  refine w_cond rfl (fun _ => ?_) (fun c_ => by cases c_)
  show W _ _ _ _ _ _ _
  refine w_skip ?_
  show W _ _ _ _ _ _ _
  refine w_seq ?_
  refine w_block ?_
  refine w_seq ?_
  refine w_reg fun all => ?_
  refine t_qz 1 [5, 6, 7, 9] (σ' := [(5, .slice (some ⟨B0, 0, none⟩) 2 2), (6, .int .i64 2), (7, .int .i64 0), (9, .pointer (some ⟨B0, 0, none⟩))]) (by kernel_rfl) ?_
  refine t_v (.ld1 rfl rfl rfl (.at 0 rfl rfl)) ?_
  refine t_qz 1 [4, 5, 6, 7] (σ' := [(4, .int .i64 m0_0), (5, .slice (some ⟨B0, 0, none⟩) 2 2), (6, .int .i64 2), (7, .int .i64 0)]) (by kernel_rfl) ?_
  refine t_end ?_
  show W _ _ _ _ _ _ _
  refine w_seq ?_
  refine w_reg fun all => ?_
  by_cases c84 : m0_0 < (-1000000000000000)
  · rw [if_pos c84] at e
    have c84b : (decide (m0_0 < (-1000000000000000))) = true := decide_eq_true c84
    refine t_qz 1 [4, 5, 6, 7, 11] (σ' := [(4, .int .i64 m0_0), (5, .slice (some ⟨B0, 0, none⟩) 2 2), (6, .int .i64 2), (7, .int .i64 0), (11, .int .i64 m0_0)]) (by kernel_rfl) ?_
    refine t_v (dv_quiet rfl (congrArg (fun t => some (Value.bool t)) c84b)) ?_
    refine t_qz 4 [5, 6, 7, 14, 15, 16] (σ' := [(5, .slice (some ⟨B0, 0, none⟩) 2 2), (6, .int .i64 2), (7, .int .i64 0), (14, .tuple #[]), (15, .tuple #[]), (16, .bool true)]) (by kernel_rfl) ?_
    refine t_end ?_
    show W _ _ _ _ _ _ _
    refine w_cond rfl (fun _ => ?_) (fun c_ => by cases c_)
    show W _ _ _ _ _ _ _
    refine w_seq ?_
    refine w_reg fun all => ?_
    refine t_qz 1 [2] (σ' := [(2, .bool false)]) (by kernel_rfl) ?_
    refine t_end ?_
    show W _ _ _ _ _ _ _
    refine w_ret ?_
    obtain rfl := Option.some.inj e
    exact ⟨[.bool false], ([⟨B0, [.int .i64 m0_0, .int .i64 m0_1], 2⟩] : List Own), S, ⟨rfl, trivial⟩, VS.sel [0] (by kernel_rfl), rfl, rfl, rfl⟩
  · rw [if_neg c84] at e
    have c84b : (decide (m0_0 < (-1000000000000000))) = false := decide_eq_false c84
    refine t_qz 1 [4, 5, 6, 7, 11] (σ' := [(4, .int .i64 m0_0), (5, .slice (some ⟨B0, 0, none⟩) 2 2), (6, .int .i64 2), (7, .int .i64 0), (11, .int .i64 m0_0)]) (by kernel_rfl) ?_
    refine t_v (dv_quiet rfl (congrArg (fun t => some (Value.bool t)) c84b)) ?_
    by_cases c85 : m0_0 > 1000000000000000
    · rw [if_pos c85] at e
      have c85b : (decide (m0_0 > 1000000000000000)) = true := decide_eq_true c85
      refine t_qz 2 [5, 6, 7, 13, 14] (σ' := [(5, .slice (some ⟨B0, 0, none⟩) 2 2), (6, .int .i64 2), (7, .int .i64 0), (13, .bool false), (14, .int .i64 m0_0)]) (by kernel_rfl) ?_
      refine t_v (dv_quiet rfl (congrArg (fun t => some (Value.bool t)) c85b)) ?_
      refine t_qz 1 [5, 6, 7, 14, 15, 16] (σ' := [(5, .slice (some ⟨B0, 0, none⟩) 2 2), (6, .int .i64 2), (7, .int .i64 0), (14, .int .i64 m0_0), (15, .bool true), (16, .bool true)]) (by kernel_rfl) ?_
      refine t_end ?_
      show W _ _ _ _ _ _ _
      refine w_cond rfl (fun _ => ?_) (fun c_ => by cases c_)
      show W _ _ _ _ _ _ _
      refine w_seq ?_
      refine w_reg fun all => ?_
      refine t_qz 1 [2] (σ' := [(2, .bool false)]) (by kernel_rfl) ?_
      refine t_end ?_
      show W _ _ _ _ _ _ _
      refine w_ret ?_
      obtain rfl := Option.some.inj e
      exact ⟨[.bool false], ([⟨B0, [.int .i64 m0_0, .int .i64 m0_1], 2⟩] : List Own), S, ⟨rfl, trivial⟩, VS.sel [0] (by kernel_rfl), rfl, rfl, rfl⟩
    · rw [if_neg c85] at e
      have c85b : (decide (m0_0 > 1000000000000000)) = false := decide_eq_false c85
      refine t_qz 2 [5, 6, 7, 13, 14] (σ' := [(5, .slice (some ⟨B0, 0, none⟩) 2 2), (6, .int .i64 2), (7, .int .i64 0), (13, .bool false), (14, .int .i64 m0_0)]) (by kernel_rfl) ?_
      refine t_v (dv_quiet rfl (congrArg (fun t => some (Value.bool t)) c85b)) ?_
      refine t_qz 1 [5, 6, 7, 14, 15, 16] (σ' := [(5, .slice (some ⟨B0, 0, none⟩) 2 2), (6, .int .i64 2), (7, .int .i64 0), (14, .int .i64 m0_0), (15, .bool false), (16, .bool false)]) (by kernel_rfl) ?_
      refine t_end ?_
      show W _ _ _ _ _ _ _
      refine w_cond rfl (fun c_ => by cases c_) (fun _ => ?_)
      show W _ _ _ _ _ _ _
      refine w_skip ?_
      show W _ _ _ _ _ _ _
      refine w_reg fun all => ?_
      refine t_qz 2 [5, 6, 7, 14, 15] (σ' := [(5, .slice (some ⟨B0, 0, none⟩) 2 2), (6, .int .i64 2), (7, .int .i64 1), (14, .int .i64 m0_0), (15, .bool false)]) (by kernel_rfl) ?_
      refine t_end ?_
      show WL _ _ _ _ _ _ _ _
      refine wl_step ?_
      refine w_seq ?_
      refine w_reg fun all => ?_
      refine t_qz 1 [5, 6, 7, 8, 14, 15] (σ' := [(5, .slice (some ⟨B0, 0, none⟩) 2 2), (6, .int .i64 2), (7, .int .i64 1), (8, .bool true), (14, .int .i64 m0_0), (15, .bool false)]) (by kernel_rfl) ?_
      refine t_end ?_
      show W _ _ _ _ _ _ _
      refine w_seq ?_
      refine w_cond rfl (fun _ => ?_) (fun c_ => by cases c_)
      show W _ _ _ _ _ _ _
      refine w_skip ?_
      show W _ _ _ _ _ _ _
      refine w_seq ?_
      refine w_block ?_
      refine w_seq ?_
      refine w_reg fun all => ?_
      refine t_qz 1 [5, 6, 7, 9, 14, 15] (σ' := [(5, .slice (some ⟨B0, 0, none⟩) 2 2), (6, .int .i64 2), (7, .int .i64 1), (9, .pointer (some ⟨B0, 1, none⟩)), (14, .int .i64 m0_0), (15, .bool false)]) (by kernel_rfl) ?_
      refine t_v (.ld1 rfl rfl rfl (.at 0 rfl rfl)) ?_
      refine t_qz 1 [4, 5, 6, 7, 14, 15] (σ' := [(4, .int .i64 m0_1), (5, .slice (some ⟨B0, 0, none⟩) 2 2), (6, .int .i64 2), (7, .int .i64 1), (14, .int .i64 m0_0), (15, .bool false)]) (by kernel_rfl) ?_
      refine t_end ?_
      show W _ _ _ _ _ _ _
      refine w_seq ?_
      refine w_reg fun all => ?_
      by_cases c86 : m0_1 < (-1000000000000000)
      · rw [if_pos c86] at e
        have c86b : (decide (m0_1 < (-1000000000000000))) = true := decide_eq_true c86
        refine t_qz 1 [4, 5, 6, 7, 11, 14, 15] (σ' := [(4, .int .i64 m0_1), (5, .slice (some ⟨B0, 0, none⟩) 2 2), (6, .int .i64 2), (7, .int .i64 1), (11, .int .i64 m0_1), (14, .int .i64 m0_0), (15, .bool false)]) (by kernel_rfl) ?_
        refine t_v (dv_quiet rfl (congrArg (fun t => some (Value.bool t)) c86b)) ?_
        refine t_qz 4 [5, 6, 7, 14, 15, 16] (σ' := [(5, .slice (some ⟨B0, 0, none⟩) 2 2), (6, .int .i64 2), (7, .int .i64 1), (14, .tuple #[]), (15, .tuple #[]), (16, .bool true)]) (by kernel_rfl) ?_
        refine t_end ?_
        show W _ _ _ _ _ _ _
        refine w_cond rfl (fun _ => ?_) (fun c_ => by cases c_)
        show W _ _ _ _ _ _ _
        refine w_seq ?_
        refine w_reg fun all => ?_
        refine t_qz 1 [2] (σ' := [(2, .bool false)]) (by kernel_rfl) ?_
        refine t_end ?_
        show W _ _ _ _ _ _ _
        refine w_ret ?_
        obtain rfl := Option.some.inj e
        exact ⟨[.bool false], ([⟨B0, [.int .i64 m0_0, .int .i64 m0_1], 2⟩] : List Own), S, ⟨rfl, trivial⟩, VS.sel [0] (by kernel_rfl), rfl, rfl, rfl⟩
      · rw [if_neg c86] at e
        have c86b : (decide (m0_1 < (-1000000000000000))) = false := decide_eq_false c86
        refine t_qz 1 [4, 5, 6, 7, 11, 14, 15] (σ' := [(4, .int .i64 m0_1), (5, .slice (some ⟨B0, 0, none⟩) 2 2), (6, .int .i64 2), (7, .int .i64 1), (11, .int .i64 m0_1), (14, .int .i64 m0_0), (15, .bool false)]) (by kernel_rfl) ?_
        refine t_v (dv_quiet rfl (congrArg (fun t => some (Value.bool t)) c86b)) ?_
        by_cases c87 : m0_1 > 1000000000000000
        · rw [if_pos c87] at e
          have c87b : (decide (m0_1 > 1000000000000000)) = true := decide_eq_true c87
          refine t_qz 2 [5, 6, 7, 13, 14, 15] (σ' := [(5, .slice (some ⟨B0, 0, none⟩) 2 2), (6, .int .i64 2), (7, .int .i64 1), (13, .bool false), (14, .int .i64 m0_1), (15, .bool false)]) (by kernel_rfl) ?_
          refine t_v (dv_quiet rfl (congrArg (fun t => some (Value.bool t)) c87b)) ?_
          refine t_qz 1 [5, 6, 7, 14, 15, 16] (σ' := [(5, .slice (some ⟨B0, 0, none⟩) 2 2), (6, .int .i64 2), (7, .int .i64 1), (14, .int .i64 m0_1), (15, .bool true), (16, .bool true)]) (by kernel_rfl) ?_
          refine t_end ?_
          show W _ _ _ _ _ _ _
          refine w_cond rfl (fun _ => ?_) (fun c_ => by cases c_)
          show W _ _ _ _ _ _ _
          refine w_seq ?_
          refine w_reg fun all => ?_
          refine t_qz 1 [2] (σ' := [(2, .bool false)]) (by kernel_rfl) ?_
          refine t_end ?_
          show W _ _ _ _ _ _ _
          refine w_ret ?_
          obtain rfl := Option.some.inj e
          exact ⟨[.bool false], ([⟨B0, [.int .i64 m0_0, .int .i64 m0_1], 2⟩] : List Own), S, ⟨rfl, trivial⟩, VS.sel [0] (by kernel_rfl), rfl, rfl, rfl⟩
        · rw [if_neg c87] at e
          have c87b : (decide (m0_1 > 1000000000000000)) = false := decide_eq_false c87
          refine t_qz 2 [5, 6, 7, 13, 14, 15] (σ' := [(5, .slice (some ⟨B0, 0, none⟩) 2 2), (6, .int .i64 2), (7, .int .i64 1), (13, .bool false), (14, .int .i64 m0_1), (15, .bool false)]) (by kernel_rfl) ?_
          refine t_v (dv_quiet rfl (congrArg (fun t => some (Value.bool t)) c87b)) ?_
          refine t_qz 1 [5, 6, 7, 14, 15, 16] (σ' := [(5, .slice (some ⟨B0, 0, none⟩) 2 2), (6, .int .i64 2), (7, .int .i64 1), (14, .int .i64 m0_1), (15, .bool false), (16, .bool false)]) (by kernel_rfl) ?_
          refine t_end ?_
          show W _ _ _ _ _ _ _
          refine w_cond rfl (fun c_ => by cases c_) (fun _ => ?_)
          show W _ _ _ _ _ _ _
          refine w_skip ?_
          show W _ _ _ _ _ _ _
          refine w_reg fun all => ?_
          refine t_qz 2 [5, 6, 7, 14, 15] (σ' := [(5, .slice (some ⟨B0, 0, none⟩) 2 2), (6, .int .i64 2), (7, .int .i64 2), (14, .int .i64 m0_1), (15, .bool false)]) (by kernel_rfl) ?_
          refine t_end ?_
          show WL _ _ _ _ _ _ _ _
          refine wl_step ?_
          refine w_seq ?_
          refine w_reg fun all => ?_
          refine t_qz 1 [5, 6, 7, 8, 14, 15] (σ' := [(5, .slice (some ⟨B0, 0, none⟩) 2 2), (6, .int .i64 2), (7, .int .i64 2), (8, .bool false), (14, .int .i64 m0_1), (15, .bool false)]) (by kernel_rfl) ?_
          refine t_end ?_
          show W _ _ _ _ _ _ _
          refine w_seq ?_
          refine w_cond rfl (fun c_ => by cases c_) (fun _ => ?_)
          show W _ _ _ _ _ _ _
          refine w_exit ?_
          show W _ _ _ _ _ _ _
          refine w_seq ?_
          refine w_reg fun all => ?_
          refine t_qz 1 [2] (σ' := [(2, .bool true)]) (by kernel_rfl) ?_
          refine t_end ?_
          show W _ _ _ _ _ _ _
          refine w_ret ?_
          obtain rfl := Option.some.inj e
          exact ⟨[.bool true], ([⟨B0, [.int .i64 m0_0, .int .i64 m0_1], 2⟩] : List Own), S, ⟨rfl, trivial⟩, VS.sel [0] (by kernel_rfl), rfl, rfl, rfl⟩

/-- turn.Apply -/
def c51 : C :=
  (.seq (.reg [⟨(some 4), .box (.tmp 0), none⟩,
     ⟨(some 5), .box (.tmp 1), none⟩,
     ⟨(some 8), .new [(.int .i64 0), (.int .i64 0)], none⟩,
     ⟨(some 9), .mv (.const (.bool false)), none⟩])
  (.seq (.seq (.reg [⟨(some 15), .pad 0 (.tmp 4), none⟩,
      ⟨(some 16), .ld none (.tmp 15), none⟩,
      ⟨(some 17), .pad 1 (.tmp 4), none⟩,
      ⟨(some 18), .ld none (.tmp 17), none⟩,
      ⟨(some 19), .pad 0 (.tmp 5), none⟩,
      ⟨(some 20), .ld none (.tmp 19), none⟩,
      ⟨(some 21), .pad 1 (.tmp 5), none⟩,
      ⟨(some 22), .ld none (.tmp 21), none⟩,
      ⟨(some 23), .mv (.tmp 2), none⟩,
      ⟨(some 24), .bsl [(.int .i64 0), (.int .i64 0), (.int .i64 0), (.int .i64 0), (.int .i64 0)] 5 [(0, 1, (.tmp 16)), (1, 1, (.tmp 18)), (2, 1, (.tmp 20)), (3, 1, (.tmp 22)), (4, 1, (.tmp 23))], none⟩,
      ⟨(some 25), .call 59 [(.tmp 24)], none⟩,
      ⟨(some 26), .un .not (.tmp 25), none⟩])
   (.cond (.tmp 26)
    (.seq (.reg [⟨(some 27), .bld [(.int .i64 0), (.int .i64 0)] [], none⟩,
        ⟨none, .st 2 (.tmp 8) (.tmp 27), none⟩,
        ⟨(some 9), .mv (.const (.bool false)), none⟩])
     .ret)
    .skip))
  (.seq (.reg [⟨(some 29), .pad 0 (.tmp 4), none⟩,
     ⟨(some 30), .ld none (.tmp 29), none⟩,
     ⟨(some 31), .mv (.tmp 2), none⟩,
     ⟨(some 32), .call 53 [(.tmp 30), (.tmp 31), (.const (.int .i64 1000000))], none⟩,
     ⟨(some 28), .mv (.tmp 32), none⟩,
     ⟨(some 33), .xt 0 (.tmp 28), none⟩,
     ⟨(some 34), .xt 1 (.tmp 28), none⟩,
     ⟨(some 10), .mv (.tmp 33), none⟩,
     ⟨(some 11), .mv (.tmp 34), none⟩])
  (.seq (.reg [⟨(some 36), .pad 1 (.tmp 4), none⟩,
     ⟨(some 37), .ld none (.tmp 36), none⟩,
     ⟨(some 38), .mv (.tmp 2), none⟩,
     ⟨(some 39), .call 53 [(.tmp 37), (.tmp 38), (.const (.int .i64 1000000))], none⟩,
     ⟨(some 35), .mv (.tmp 39), none⟩,
     ⟨(some 40), .xt 0 (.tmp 35), none⟩,
     ⟨(some 41), .xt 1 (.tmp 35), none⟩,
     ⟨(some 12), .mv (.tmp 40), none⟩,
     ⟨(some 13), .mv (.tmp 41), none⟩])
  (.seq (.seq (.reg [⟨(some 42), .mv (.tmp 11), none⟩,
      ⟨(some 43), .un .not (.tmp 42), none⟩,
      ⟨(some 44), .mv (.tmp 43), none⟩,
      ⟨(some 45), .mv (.tmp 13), (some (44, false))⟩,
      ⟨(some 46), .un .not (.tmp 45), (some (44, false))⟩,
      ⟨(some 47), .pk (.tmp 44) (.const (.bool true)) (.tmp 46), none⟩,
      ⟨(some 48), .mv (.tmp 47), none⟩,
      ⟨(some 49), .mv (.tmp 10), (some (48, false))⟩,
      ⟨(some 50), .mv (.tmp 12), (some (48, false))⟩,
      ⟨(some 51), .bsl [(.int .i64 0), (.int .i64 0)] 2 [(0, 1, (.tmp 49)), (1, 1, (.tmp 50))], (some (48, false))⟩,
      ⟨(some 52), .call 59 [(.tmp 51)], (some (48, false))⟩,
      ⟨(some 53), .un .not (.tmp 52), (some (48, false))⟩,
      ⟨(some 54), .pk (.tmp 48) (.const (.bool true)) (.tmp 53), none⟩])
   (.cond (.tmp 54)
    (.seq (.reg [⟨(some 55), .bld [(.int .i64 0), (.int .i64 0)] [], none⟩,
        ⟨none, .st 2 (.tmp 8) (.tmp 55), none⟩,
        ⟨(some 9), .mv (.const (.bool false)), none⟩])
     .ret)
    .skip))
  (.seq (.reg [⟨(some 56), .mv (.tmp 10), none⟩,
     ⟨(some 57), .mv (.tmp 12), none⟩,
     ⟨(some 58), .bld [(.int .i64 0), (.int .i64 0)] [(0, 1, (.tmp 56)), (1, 1, (.tmp 57))], none⟩,
     ⟨(some 59), .mv (.tmp 3), none⟩,
     ⟨(some 60), .call 50 [(.tmp 58), (.tmp 59)], none⟩,
     ⟨(some 14), .new [(.int .i64 0), (.int .i64 0)], none⟩,
     ⟨none, .st 2 (.tmp 14) (.tmp 60), none⟩])
  (.seq (.reg [⟨(some 61), .pad 0 (.tmp 14), none⟩,
     ⟨(some 62), .ld none (.tmp 61), none⟩,
     ⟨(some 63), .pad 0 (.tmp 5), none⟩,
     ⟨(some 64), .ld none (.tmp 63), none⟩,
     ⟨(some 65), .bin .add (.tmp 62) (.tmp 64), none⟩,
     ⟨(some 66), .pad 0 (.tmp 14), none⟩,
     ⟨none, .st 1 (.tmp 66) (.tmp 65), none⟩])
  (.seq (.reg [⟨(some 67), .pad 1 (.tmp 14), none⟩,
     ⟨(some 68), .ld none (.tmp 67), none⟩,
     ⟨(some 69), .pad 1 (.tmp 5), none⟩,
     ⟨(some 70), .ld none (.tmp 69), none⟩,
     ⟨(some 71), .bin .add (.tmp 68) (.tmp 70), none⟩,
     ⟨(some 72), .pad 1 (.tmp 14), none⟩,
     ⟨none, .st 1 (.tmp 72) (.tmp 71), none⟩])
  (.seq (.seq (.reg [⟨(some 73), .pad 0 (.tmp 14), none⟩,
      ⟨(some 74), .ld none (.tmp 73), none⟩,
      ⟨(some 75), .pad 1 (.tmp 14), none⟩,
      ⟨(some 76), .ld none (.tmp 75), none⟩,
      ⟨(some 77), .bsl [(.int .i64 0), (.int .i64 0)] 2 [(0, 1, (.tmp 74)), (1, 1, (.tmp 76))], none⟩,
      ⟨(some 78), .call 59 [(.tmp 77)], none⟩,
      ⟨(some 79), .un .not (.tmp 78), none⟩])
   (.cond (.tmp 79)
    (.seq (.reg [⟨(some 80), .bld [(.int .i64 0), (.int .i64 0)] [], none⟩,
        ⟨none, .st 2 (.tmp 8) (.tmp 80), none⟩,
        ⟨(some 9), .mv (.const (.bool false)), none⟩])
     .ret)
    .skip))
  (.seq (.reg [⟨(some 81), .ld (some 2) (.tmp 14), none⟩,
     ⟨none, .st 2 (.tmp 8) (.tmp 81), none⟩,
     ⟨(some 9), .mv (.const (.bool true)), none⟩])
  .ret))))))))))
def turn_Apply.f (k : Nat) (p0_X : Int) (p0_Y : Int) (at1_X : Int) (at1_Y : Int) (by2 : Int) (quarters3 : Int) : Option (Int × Int × Bool) := (turn_within_v1.f p0_X p0_Y at1_X at1_Y by2).bind fun t24 => (if t24 = true then ((fixed_MulDiv.f p0_X by2 1000000).bind fun (t75, t76) => ((fixed_MulDiv.f p0_Y by2 1000000).bind fun (t78, t79) => (if t76 = true then (if t79 = true then ((turn_within_v2.f t75 t78).bind fun t84 => (if t84 = true then ((turn_Quarter.f k t75 t78 quarters3).bind fun (t87, t88) => ((turn_within_v2.f (wr64 (t87 + at1_X)) (wr64 (t88 + at1_Y))).bind fun t92 => (if t92 = true then (some (wr64 (t87 + at1_X), wr64 (t88 + at1_Y), true)) else (some (0, 0, false))))) else (some (0, 0, false)))) else (some (0, 0, false))) else (some (0, 0, false))))) else (some (0, 0, false)))
theorem turn_Apply.ok {S : Seal} {k : Nat} {p0_X : Int} {p0_Y : Int} {at1_X : Int} {at1_Y : Int} {by2 : Int} {quarters3 : Int} {r0_ : Int} {r1_ : Int} {r2_ : Bool} (e : turn_Apply.f k p0_X p0_Y at1_X at1_Y by2 quarters3 = some (r0_, r1_, r2_)) :
    Cal Try.prog 51 [.agg #[.int .i64 p0_X, .int .i64 p0_Y], .agg #[.int .i64 at1_X, .int .i64 at1_Y], .int .i64 by2, .int .i64 quarters3] [] S fun v H' S' => v = .tuple #[.agg #[.int .i64 r0_, .int .i64 r1_], .bool r2_] ∧ H' = [] ∧ S' = S := by
  unfold turn_Apply.f at e
  refine cal_of (c := c51) (N := 82) Try.func51 rfl rfl (by kernel_rfl) (rs := [.cn 2 8, .t 9]) (by kernel_rfl) (Nat.le_of_ble_eq_true rfl) ?_
  unfold c51
  refine w_seq ?_
  refine w_reg fun all => ?_
  refine t_a (.box rfl rfl rfl) fun b20 fb20 sb20 => ?_
  refine t_a (.box rfl rfl rfl) fun b21 fb21 sb21 => ?_
  refine t_a (.new rfl rfl) fun b22 fb22 sb22 => ?_
  refine t_qz 1 [2, 3, 4, 5, 8] (σ' := [(2, .int .i64 by2), (3, .int .i64 quarters3), (4, .pointer (some ⟨b20, 0, none⟩)), (5, .pointer (some ⟨b21, 0, none⟩)), (8, .pointer (some ⟨b22, 0, none⟩))]) (by kernel_rfl) ?_
  refine t_end ?_
  show W _ _ _ _ _ _ _
  refine w_seq ?_
  refine w_seq ?_
  refine w_reg fun all => ?_
  refine t_qz 1 [2, 3, 4, 5, 8, 15] (σ' := [(2, .int .i64 by2), (3, .int .i64 quarters3), (4, .pointer (some ⟨b20, 0, none⟩)), (5, .pointer (some ⟨b21, 0, none⟩)), (8, .pointer (some ⟨b22, 0, none⟩)), (15, .pointer (some ⟨b20, 0, none⟩))]) (by kernel_rfl) ?_
  refine t_v (.ld1 rfl rfl rfl (.at 2 rfl rfl)) ?_
  refine t_qz 1 [2, 3, 4, 5, 8, 16, 17] (σ' := [(2, .int .i64 by2), (3, .int .i64 quarters3), (4, .pointer (some ⟨b20, 0, none⟩)), (5, .pointer (some ⟨b21, 0, none⟩)), (8, .pointer (some ⟨b22, 0, none⟩)), (16, .int .i64 p0_X), (17, .pointer (some ⟨b20, 1, none⟩))]) (by kernel_rfl) ?_
  refine t_v (.ld1 rfl rfl rfl (.at 2 rfl rfl)) ?_
  refine t_qz 1 [2, 3, 4, 5, 8, 16, 18, 19] (σ' := [(2, .int .i64 by2), (3, .int .i64 quarters3), (4, .pointer (some ⟨b20, 0, none⟩)), (5, .pointer (some ⟨b21, 0, none⟩)), (8, .pointer (some ⟨b22, 0, none⟩)), (16, .int .i64 p0_X), (18, .int .i64 p0_Y), (19, .pointer (some ⟨b21, 0, none⟩))]) (by kernel_rfl) ?_
  refine t_v (.ld1 rfl rfl rfl (.at 1 rfl rfl)) ?_
  refine t_qz 1 [2, 3, 4, 5, 8, 16, 18, 20, 21] (σ' := [(2, .int .i64 by2), (3, .int .i64 quarters3), (4, .pointer (some ⟨b20, 0, none⟩)), (5, .pointer (some ⟨b21, 0, none⟩)), (8, .pointer (some ⟨b22, 0, none⟩)), (16, .int .i64 p0_X), (18, .int .i64 p0_Y), (20, .int .i64 at1_X), (21, .pointer (some ⟨b21, 1, none⟩))]) (by kernel_rfl) ?_
  refine t_v (.ld1 rfl rfl rfl (.at 1 rfl rfl)) ?_
  refine t_qz 1 [2, 3, 4, 5, 8, 16, 18, 20, 22, 23] (σ' := [(2, .int .i64 by2), (3, .int .i64 quarters3), (4, .pointer (some ⟨b20, 0, none⟩)), (5, .pointer (some ⟨b21, 0, none⟩)), (8, .pointer (some ⟨b22, 0, none⟩)), (16, .int .i64 p0_X), (18, .int .i64 p0_Y), (20, .int .i64 at1_X), (22, .int .i64 at1_Y), (23, .int .i64 by2)]) (by kernel_rfl) ?_
  refine t_a (.bsl rfl rfl rfl rfl) fun b23 fb23 sb23 => ?_
  obtain ⟨t24, h25, e⟩ := bind_of e
  refine t_v (.callr (vs := [.slice (some ⟨b23, 0, none⟩) 5 5]) (A := ([⟨b23, [.int .i64 p0_X, .int .i64 p0_Y, .int .i64 at1_X, .int .i64 at1_Y, .int .i64 by2], 5⟩] : List Own)) (F0 := ([⟨b22, [.int .i64 0, .int .i64 0], 2⟩, ⟨b21, [.int .i64 at1_X, .int .i64 at1_Y], 2⟩, ⟨b20, [.int .i64 p0_X, .int .i64 p0_Y], 2⟩] : List Own)) rfl rfl (by kernel_rfl) (sel_perm (is := [0]) (by kernel_rfl)) (turn_within_v1.ok h25)) ?_
  by_cases c26 : t24 = true
  · rw [if_pos c26] at e
    have c26b : t24 = true := c26
    refine t_v (dv_quiet rfl (congrArg (fun t => some (Value.bool (!t))) c26b)) ?_
    refine t_keep [2, 3, 4, 5, 8, 26] (σ' := [(2, .int .i64 by2), (3, .int .i64 quarters3), (4, .pointer (some ⟨b20, 0, none⟩)), (5, .pointer (some ⟨b21, 0, none⟩)), (8, .pointer (some ⟨b22, 0, none⟩)), (26, .bool false)]) (by kernel_rfl) ?_
    refine t_end ?_
    show W _ _ _ _ _ _ _
    refine w_cond rfl (fun c_ => by cases c_) (fun _ => ?_)
    show W _ _ _ _ _ _ _
    refine w_skip ?_
    show W _ _ _ _ _ _ _
    refine w_seq ?_
    refine w_reg fun all => ?_
    refine t_qz 1 [2, 3, 4, 5, 8, 29] (σ' := [(2, .int .i64 by2), (3, .int .i64 quarters3), (4, .pointer (some ⟨b20, 0, none⟩)), (5, .pointer (some ⟨b21, 0, none⟩)), (8, .pointer (some ⟨b22, 0, none⟩)), (29, .pointer (some ⟨b20, 0, none⟩))]) (by kernel_rfl) ?_
    refine t_v (.ld1 rfl rfl rfl (.at 3 rfl rfl)) ?_
    obtain ⟨⟨t75, t76⟩, h77, e⟩ := bind_of e
    try dsimp only at e
    refine t_qz 1 [2, 3, 4, 5, 8, 30, 31] (σ' := [(2, .int .i64 by2), (3, .int .i64 quarters3), (4, .pointer (some ⟨b20, 0, none⟩)), (5, .pointer (some ⟨b21, 0, none⟩)), (8, .pointer (some ⟨b22, 0, none⟩)), (30, .int .i64 p0_X), (31, .int .i64 by2)]) (by kernel_rfl) ?_
    refine t_v (.call (vs := [.int .i64 p0_X, .int .i64 by2, .int .i64 1000000]) rfl rfl (by kernel_rfl) (fixed_MulDiv.ok h77)) ?_
    refine t_qz 5 [2, 3, 4, 5, 8, 10, 11] (σ' := [(2, .int .i64 by2), (3, .int .i64 quarters3), (4, .pointer (some ⟨b20, 0, none⟩)), (5, .pointer (some ⟨b21, 0, none⟩)), (8, .pointer (some ⟨b22, 0, none⟩)), (10, .int .i64 t75), (11, .bool t76)]) (by kernel_rfl) ?_
    refine t_end ?_
    show W _ _ _ _ _ _ _
    refine w_seq ?_
    refine w_reg fun all => ?_
    refine t_qz 1 [2, 3, 5, 8, 10, 11, 36] (σ' := [(2, .int .i64 by2), (3, .int .i64 quarters3), (5, .pointer (some ⟨b21, 0, none⟩)), (8, .pointer (some ⟨b22, 0, none⟩)), (10, .int .i64 t75), (11, .bool t76), (36, .pointer (some ⟨b20, 1, none⟩))]) (by kernel_rfl) ?_
    refine t_v (.ld1 rfl rfl rfl (.at 3 rfl rfl)) ?_
    obtain ⟨⟨t78, t79⟩, h80, e⟩ := bind_of e
    try dsimp only at e
    refine t_qz 1 [3, 5, 8, 10, 11, 37, 38] (σ' := [(3, .int .i64 quarters3), (5, .pointer (some ⟨b21, 0, none⟩)), (8, .pointer (some ⟨b22, 0, none⟩)), (10, .int .i64 t75), (11, .bool t76), (37, .int .i64 p0_Y), (38, .int .i64 by2)]) (by kernel_rfl) ?_
    refine t_v (.call (vs := [.int .i64 p0_Y, .int .i64 by2, .int .i64 1000000]) rfl rfl (by kernel_rfl) (fixed_MulDiv.ok h80)) ?_
    refine t_qz 5 [3, 5, 8, 10, 11, 12, 13] (σ' := [(3, .int .i64 quarters3), (5, .pointer (some ⟨b21, 0, none⟩)), (8, .pointer (some ⟨b22, 0, none⟩)), (10, .int .i64 t75), (11, .bool t76), (12, .int .i64 t78), (13, .bool t79)]) (by kernel_rfl) ?_
    refine t_end ?_
    show W _ _ _ _ _ _ _
    refine w_seq ?_
    refine w_seq ?_
    refine w_reg fun all => ?_
    by_cases c81 : t76 = true
    · rw [if_pos c81] at e
      have c81b : t76 = true := c81
      refine t_qz 1 [3, 5, 8, 10, 12, 13, 42] (σ' := [(3, .int .i64 quarters3), (5, .pointer (some ⟨b21, 0, none⟩)), (8, .pointer (some ⟨b22, 0, none⟩)), (10, .int .i64 t75), (12, .int .i64 t78), (13, .bool t79), (42, .bool t76)]) (by kernel_rfl) ?_
      refine t_v (dv_quiet rfl (congrArg (fun t => some (Value.bool (!t))) c81b)) ?_
      by_cases c82 : t79 = true
      · rw [if_pos c82] at e
        have c82b : t79 = true := c82
        refine t_qz 2 [3, 5, 8, 10, 12, 44, 45] (σ' := [(3, .int .i64 quarters3), (5, .pointer (some ⟨b21, 0, none⟩)), (8, .pointer (some ⟨b22, 0, none⟩)), (10, .int .i64 t75), (12, .int .i64 t78), (44, .bool false), (45, .bool t79)]) (by kernel_rfl) ?_
        refine t_v (dv_quiet rfl (congrArg (fun t => some (Value.bool (!t))) c82b)) ?_
        refine t_qz 4 [3, 5, 8, 10, 12, 48, 49, 50] (σ' := [(3, .int .i64 quarters3), (5, .pointer (some ⟨b21, 0, none⟩)), (8, .pointer (some ⟨b22, 0, none⟩)), (10, .int .i64 t75), (12, .int .i64 t78), (48, .bool false), (49, .int .i64 t75), (50, .int .i64 t78)]) (by kernel_rfl) ?_
        refine t_a (.bsl rfl rfl rfl rfl) fun b83 fb83 sb83 => ?_
        obtain ⟨t84, h85, e⟩ := bind_of e
        refine t_v (.callr (vs := [.slice (some ⟨b83, 0, none⟩) 2 2]) (A := ([⟨b83, [.int .i64 t75, .int .i64 t78], 2⟩] : List Own)) (F0 := ([⟨b23, [.int .i64 p0_X, .int .i64 p0_Y, .int .i64 at1_X, .int .i64 at1_Y, .int .i64 by2], 5⟩, ⟨b22, [.int .i64 0, .int .i64 0], 2⟩, ⟨b21, [.int .i64 at1_X, .int .i64 at1_Y], 2⟩, ⟨b20, [.int .i64 p0_X, .int .i64 p0_Y], 2⟩] : List Own)) rfl rfl (by kernel_rfl) (sel_perm (is := [0]) (by kernel_rfl)) (turn_within_v2.ok h85)) ?_
        by_cases c86 : t84 = true
        · rw [if_pos c86] at e
          have c86b : t84 = true := c86
          refine t_v (dv_quiet rfl (congrArg (fun t => some (Value.bool (!t))) c86b)) ?_
          refine t_qz 1 [3, 5, 8, 10, 12, 54] (σ' := [(3, .int .i64 quarters3), (5, .pointer (some ⟨b21, 0, none⟩)), (8, .pointer (some ⟨b22, 0, none⟩)), (10, .int .i64 t75), (12, .int .i64 t78), (54, .bool false)]) (by kernel_rfl) ?_
          refine t_end ?_
          show W _ _ _ _ _ _ _
          refine w_cond rfl (fun c_ => by cases c_) (fun _ => ?_)
          show W _ _ _ _ _ _ _
          refine w_skip ?_
          show W _ _ _ _ _ _ _
          refine w_seq ?_
          refine w_reg fun all => ?_
          obtain ⟨⟨t87, t88⟩, h89, e⟩ := bind_of e
          try dsimp only at e
          refine t_qz 4 [5, 8, 58, 59] (σ' := [(5, .pointer (some ⟨b21, 0, none⟩)), (8, .pointer (some ⟨b22, 0, none⟩)), (58, .agg #[.int .i64 t75, .int .i64 t78]), (59, .int .i64 quarters3)]) (by kernel_rfl) ?_
          refine t_v (.call (vs := [.agg #[.int .i64 t75, .int .i64 t78], .int .i64 quarters3]) rfl rfl (by kernel_rfl) (turn_Quarter.ok h89)) ?_
          refine t_a (.new rfl rfl) fun b90 fb90 sb90 => ?_
          refine t_sti 0 (cs := [.int .i64 t87, .int .i64 t88]) rfl rfl rfl rfl rfl rfl rfl rfl rfl ?_
          refine t_keep [5, 8, 14] (σ' := [(5, .pointer (some ⟨b21, 0, none⟩)), (8, .pointer (some ⟨b22, 0, none⟩)), (14, .pointer (some ⟨b90, 0, none⟩))]) (by kernel_rfl) ?_
          refine t_end ?_
          show W _ _ _ _ _ _ _
          refine w_seq ?_
          refine w_reg fun all => ?_
          refine t_qz 1 [5, 8, 14, 61] (σ' := [(5, .pointer (some ⟨b21, 0, none⟩)), (8, .pointer (some ⟨b22, 0, none⟩)), (14, .pointer (some ⟨b90, 0, none⟩)), (61, .pointer (some ⟨b90, 0, none⟩))]) (by kernel_rfl) ?_
          refine t_v (.ld1 rfl rfl rfl (.at 0 rfl rfl)) ?_
          refine t_qz 1 [5, 8, 14, 62, 63] (σ' := [(5, .pointer (some ⟨b21, 0, none⟩)), (8, .pointer (some ⟨b22, 0, none⟩)), (14, .pointer (some ⟨b90, 0, none⟩)), (62, .int .i64 t87), (63, .pointer (some ⟨b21, 0, none⟩))]) (by kernel_rfl) ?_
          refine t_v (.ld1 rfl rfl rfl (.at 4 rfl rfl)) ?_
          refine t_qz 2 [5, 8, 14, 65, 66] (σ' := [(5, .pointer (some ⟨b21, 0, none⟩)), (8, .pointer (some ⟨b22, 0, none⟩)), (14, .pointer (some ⟨b90, 0, none⟩)), (65, .int .i64 (wr64 (t87 + at1_X))), (66, .pointer (some ⟨b90, 0, none⟩))]) (by kernel_rfl) ?_
          refine t_sti 0 (cs := [.int .i64 (wr64 (t87 + at1_X)), .int .i64 t88]) rfl rfl rfl rfl rfl rfl rfl rfl rfl ?_
          refine t_keep [5, 8, 14] (σ' := [(5, .pointer (some ⟨b21, 0, none⟩)), (8, .pointer (some ⟨b22, 0, none⟩)), (14, .pointer (some ⟨b90, 0, none⟩))]) (by kernel_rfl) ?_
          refine t_end ?_
          show W _ _ _ _ _ _ _
          refine w_seq ?_
          refine w_reg fun all => ?_
          refine t_qz 1 [5, 8, 14, 67] (σ' := [(5, .pointer (some ⟨b21, 0, none⟩)), (8, .pointer (some ⟨b22, 0, none⟩)), (14, .pointer (some ⟨b90, 0, none⟩)), (67, .pointer (some ⟨b90, 1, none⟩))]) (by kernel_rfl) ?_
          refine t_v (.ld1 rfl rfl rfl (.at 0 rfl rfl)) ?_
          refine t_qz 1 [8, 14, 68, 69] (σ' := [(8, .pointer (some ⟨b22, 0, none⟩)), (14, .pointer (some ⟨b90, 0, none⟩)), (68, .int .i64 t88), (69, .pointer (some ⟨b21, 1, none⟩))]) (by kernel_rfl) ?_
          refine t_v (.ld1 rfl rfl rfl (.at 4 rfl rfl)) ?_
          refine t_qz 2 [8, 14, 71, 72] (σ' := [(8, .pointer (some ⟨b22, 0, none⟩)), (14, .pointer (some ⟨b90, 0, none⟩)), (71, .int .i64 (wr64 (t88 + at1_Y))), (72, .pointer (some ⟨b90, 1, none⟩))]) (by kernel_rfl) ?_
          refine t_sti 0 (cs := [.int .i64 (wr64 (t87 + at1_X)), .int .i64 (wr64 (t88 + at1_Y))]) rfl rfl rfl rfl rfl rfl rfl rfl rfl ?_
          refine t_keep [8, 14] (σ' := [(8, .pointer (some ⟨b22, 0, none⟩)), (14, .pointer (some ⟨b90, 0, none⟩))]) (by kernel_rfl) ?_
          refine t_end ?_
          show W _ _ _ _ _ _ _
          refine w_seq ?_
          refine w_seq ?_
          refine w_reg fun all => ?_
          refine t_qz 1 [8, 14, 73] (σ' := [(8, .pointer (some ⟨b22, 0, none⟩)), (14, .pointer (some ⟨b90, 0, none⟩)), (73, .pointer (some ⟨b90, 0, none⟩))]) (by kernel_rfl) ?_
          refine t_v (.ld1 rfl rfl rfl (.at 0 rfl rfl)) ?_
          refine t_qz 1 [8, 14, 74, 75] (σ' := [(8, .pointer (some ⟨b22, 0, none⟩)), (14, .pointer (some ⟨b90, 0, none⟩)), (74, .int .i64 (wr64 (t87 + at1_X))), (75, .pointer (some ⟨b90, 1, none⟩))]) (by kernel_rfl) ?_
          refine t_v (.ld1 rfl rfl rfl (.at 0 rfl rfl)) ?_
          refine t_a (.bsl rfl rfl rfl rfl) fun b91 fb91 sb91 => ?_
          obtain ⟨t92, h93, e⟩ := bind_of e
          refine t_v (.callr (vs := [.slice (some ⟨b91, 0, none⟩) 2 2]) (A := ([⟨b91, [.int .i64 (wr64 (t87 + at1_X)), .int .i64 (wr64 (t88 + at1_Y))], 2⟩] : List Own)) (F0 := ([⟨b90, [.int .i64 (wr64 (t87 + at1_X)), .int .i64 (wr64 (t88 + at1_Y))], 2⟩, ⟨b83, [.int .i64 t75, .int .i64 t78], 2⟩, ⟨b23, [.int .i64 p0_X, .int .i64 p0_Y, .int .i64 at1_X, .int .i64 at1_Y, .int .i64 by2], 5⟩, ⟨b22, [.int .i64 0, .int .i64 0], 2⟩, ⟨b21, [.int .i64 at1_X, .int .i64 at1_Y], 2⟩, ⟨b20, [.int .i64 p0_X, .int .i64 p0_Y], 2⟩] : List Own)) rfl rfl (by kernel_rfl) (sel_perm (is := [0]) (by kernel_rfl)) (turn_within_v2.ok h93)) ?_
          by_cases c94 : t92 = true
          · rw [if_pos c94] at e
            have c94b : t92 = true := c94
            refine t_v (dv_quiet rfl (congrArg (fun t => some (Value.bool (!t))) c94b)) ?_
            refine t_keep [8, 14, 79] (σ' := [(8, .pointer (some ⟨b22, 0, none⟩)), (14, .pointer (some ⟨b90, 0, none⟩)), (79, .bool false)]) (by kernel_rfl) ?_
            refine t_end ?_
            show W _ _ _ _ _ _ _
            refine w_cond rfl (fun c_ => by cases c_) (fun _ => ?_)
            show W _ _ _ _ _ _ _
            refine w_skip ?_
            show W _ _ _ _ _ _ _
            refine w_seq ?_
            refine w_reg fun all => ?_
            refine t_v (.ldn rfl rfl rfl (.at 1 rfl rfl)) ?_
            refine t_sti 4 (cs := [.int .i64 (wr64 (t87 + at1_X)), .int .i64 (wr64 (t88 + at1_Y))]) rfl rfl rfl rfl rfl rfl rfl rfl rfl ?_
            refine t_qz 1 [8, 9] (σ' := [(8, .pointer (some ⟨b22, 0, none⟩)), (9, .bool true)]) (by kernel_rfl) ?_
            refine t_end ?_
            show W _ _ _ _ _ _ _
            refine w_ret ?_
            simp only [Option.some.injEq, Prod.mk.injEq] at e
            obtain ⟨rfl, rfl, rfl⟩ := e
            exact ⟨[.agg #[.int .i64 (wr64 (t87 + at1_X)), .int .i64 (wr64 (t88 + at1_Y))], .bool true], [], S, ⟨⟨_, _, _, rfl, .at 4 rfl rfl, rfl⟩, rfl, trivial⟩, VS.none, rfl, rfl, rfl⟩
          · rw [if_neg c94] at e
            have c94b : t92 = false := Bool.eq_false_iff.mpr c94
            refine t_v (dv_quiet rfl (congrArg (fun t => some (Value.bool (!t))) c94b)) ?_
            refine t_keep [8, 14, 79] (σ' := [(8, .pointer (some ⟨b22, 0, none⟩)), (14, .pointer (some ⟨b90, 0, none⟩)), (79, .bool true)]) (by kernel_rfl) ?_
            refine t_end ?_
            show W _ _ _ _ _ _ _
            refine w_cond rfl (fun _ => ?_) (fun c_ => by cases c_)
            show W _ _ _ _ _ _ _
            refine w_seq ?_
            refine w_reg fun all => ?_
            refine t_qz 1 [8, 80] (σ' := [(8, .pointer (some ⟨b22, 0, none⟩)), (80, .agg #[.int .i64 0, .int .i64 0])]) (by kernel_rfl) ?_
            refine t_sti 4 (cs := [.int .i64 0, .int .i64 0]) rfl rfl rfl rfl rfl rfl rfl rfl rfl ?_
            refine t_qz 1 [8, 9] (σ' := [(8, .pointer (some ⟨b22, 0, none⟩)), (9, .bool false)]) (by kernel_rfl) ?_
            refine t_end ?_
            show W _ _ _ _ _ _ _
            refine w_ret ?_
            simp only [Option.some.injEq, Prod.mk.injEq] at e
            obtain ⟨rfl, rfl, rfl⟩ := e
            exact ⟨[.agg #[.int .i64 0, .int .i64 0], .bool false], [], S, ⟨⟨_, _, _, rfl, .at 4 rfl rfl, rfl⟩, rfl, trivial⟩, VS.none, rfl, rfl, rfl⟩
        · rw [if_neg c86] at e
          have c86b : t84 = false := Bool.eq_false_iff.mpr c86
          refine t_v (dv_quiet rfl (congrArg (fun t => some (Value.bool (!t))) c86b)) ?_
          refine t_qz 1 [3, 5, 8, 10, 12, 54] (σ' := [(3, .int .i64 quarters3), (5, .pointer (some ⟨b21, 0, none⟩)), (8, .pointer (some ⟨b22, 0, none⟩)), (10, .int .i64 t75), (12, .int .i64 t78), (54, .bool true)]) (by kernel_rfl) ?_
          refine t_end ?_
          show W _ _ _ _ _ _ _
          refine w_cond rfl (fun _ => ?_) (fun c_ => by cases c_)
          show W _ _ _ _ _ _ _
          refine w_seq ?_
          refine w_reg fun all => ?_
          refine t_qz 1 [8, 55] (σ' := [(8, .pointer (some ⟨b22, 0, none⟩)), (55, .agg #[.int .i64 0, .int .i64 0])]) (by kernel_rfl) ?_
          refine t_sti 2 (cs := [.int .i64 0, .int .i64 0]) rfl rfl rfl rfl rfl rfl rfl rfl rfl ?_
          refine t_qz 1 [8, 9] (σ' := [(8, .pointer (some ⟨b22, 0, none⟩)), (9, .bool false)]) (by kernel_rfl) ?_
          refine t_end ?_
          show W _ _ _ _ _ _ _
          refine w_ret ?_
          simp only [Option.some.injEq, Prod.mk.injEq] at e
          obtain ⟨rfl, rfl, rfl⟩ := e
          exact ⟨[.agg #[.int .i64 0, .int .i64 0], .bool false], [], S, ⟨⟨_, _, _, rfl, .at 2 rfl rfl, rfl⟩, rfl, trivial⟩, VS.none, rfl, rfl, rfl⟩
      · rw [if_neg c82] at e
        have c82b : t79 = false := Bool.eq_false_iff.mpr c82
        refine t_qz 2 [3, 5, 8, 10, 12, 44, 45] (σ' := [(3, .int .i64 quarters3), (5, .pointer (some ⟨b21, 0, none⟩)), (8, .pointer (some ⟨b22, 0, none⟩)), (10, .int .i64 t75), (12, .int .i64 t78), (44, .bool false), (45, .bool t79)]) (by kernel_rfl) ?_
        refine t_v (dv_quiet rfl (congrArg (fun t => some (Value.bool (!t))) c82b)) ?_
        refine t_qz 8 [3, 5, 8, 10, 12, 54] (σ' := [(3, .int .i64 quarters3), (5, .pointer (some ⟨b21, 0, none⟩)), (8, .pointer (some ⟨b22, 0, none⟩)), (10, .int .i64 t75), (12, .int .i64 t78), (54, .bool true)]) (by kernel_rfl) ?_
        refine t_end ?_
        show W _ _ _ _ _ _ _
        refine w_cond rfl (fun _ => ?_) (fun c_ => by cases c_)
        show W _ _ _ _ _ _ _
        refine w_seq ?_
        refine w_reg fun all => ?_
        refine t_qz 1 [8, 55] (σ' := [(8, .pointer (some ⟨b22, 0, none⟩)), (55, .agg #[.int .i64 0, .int .i64 0])]) (by kernel_rfl) ?_
        refine t_sti 1 (cs := [.int .i64 0, .int .i64 0]) rfl rfl rfl rfl rfl rfl rfl rfl rfl ?_
        refine t_qz 1 [8, 9] (σ' := [(8, .pointer (some ⟨b22, 0, none⟩)), (9, .bool false)]) (by kernel_rfl) ?_
        refine t_end ?_
        show W _ _ _ _ _ _ _
        refine w_ret ?_
        simp only [Option.some.injEq, Prod.mk.injEq] at e
        obtain ⟨rfl, rfl, rfl⟩ := e
        exact ⟨[.agg #[.int .i64 0, .int .i64 0], .bool false], [], S, ⟨⟨_, _, _, rfl, .at 1 rfl rfl, rfl⟩, rfl, trivial⟩, VS.none, rfl, rfl, rfl⟩
    · rw [if_neg c81] at e
      have c81b : t76 = false := Bool.eq_false_iff.mpr c81
      refine t_qz 1 [3, 5, 8, 10, 12, 13, 42] (σ' := [(3, .int .i64 quarters3), (5, .pointer (some ⟨b21, 0, none⟩)), (8, .pointer (some ⟨b22, 0, none⟩)), (10, .int .i64 t75), (12, .int .i64 t78), (13, .bool t79), (42, .bool t76)]) (by kernel_rfl) ?_
      refine t_v (dv_quiet rfl (congrArg (fun t => some (Value.bool (!t))) c81b)) ?_
      refine t_qz 11 [3, 5, 8, 10, 12, 54] (σ' := [(3, .int .i64 quarters3), (5, .pointer (some ⟨b21, 0, none⟩)), (8, .pointer (some ⟨b22, 0, none⟩)), (10, .int .i64 t75), (12, .int .i64 t78), (54, .bool true)]) (by kernel_rfl) ?_
      refine t_end ?_
      show W _ _ _ _ _ _ _
      refine w_cond rfl (fun _ => ?_) (fun c_ => by cases c_)
      show W _ _ _ _ _ _ _
      refine w_seq ?_
      refine w_reg fun all => ?_
      refine t_qz 1 [8, 55] (σ' := [(8, .pointer (some ⟨b22, 0, none⟩)), (55, .agg #[.int .i64 0, .int .i64 0])]) (by kernel_rfl) ?_
      refine t_sti 1 (cs := [.int .i64 0, .int .i64 0]) rfl rfl rfl rfl rfl rfl rfl rfl rfl ?_
      refine t_qz 1 [8, 9] (σ' := [(8, .pointer (some ⟨b22, 0, none⟩)), (9, .bool false)]) (by kernel_rfl) ?_
      refine t_end ?_
      show W _ _ _ _ _ _ _
      refine w_ret ?_
      simp only [Option.some.injEq, Prod.mk.injEq] at e
      obtain ⟨rfl, rfl, rfl⟩ := e
      exact ⟨[.agg #[.int .i64 0, .int .i64 0], .bool false], [], S, ⟨⟨_, _, _, rfl, .at 1 rfl rfl, rfl⟩, rfl, trivial⟩, VS.none, rfl, rfl, rfl⟩
  · rw [if_neg c26] at e
    have c26b : t24 = false := Bool.eq_false_iff.mpr c26
    refine t_v (dv_quiet rfl (congrArg (fun t => some (Value.bool (!t))) c26b)) ?_
    refine t_keep [2, 3, 4, 5, 8, 26] (σ' := [(2, .int .i64 by2), (3, .int .i64 quarters3), (4, .pointer (some ⟨b20, 0, none⟩)), (5, .pointer (some ⟨b21, 0, none⟩)), (8, .pointer (some ⟨b22, 0, none⟩)), (26, .bool true)]) (by kernel_rfl) ?_
    refine t_end ?_
    show W _ _ _ _ _ _ _
    refine w_cond rfl (fun _ => ?_) (fun c_ => by cases c_)
    show W _ _ _ _ _ _ _
    refine w_seq ?_
    refine w_reg fun all => ?_
    refine t_qz 1 [8, 27] (σ' := [(8, .pointer (some ⟨b22, 0, none⟩)), (27, .agg #[.int .i64 0, .int .i64 0])]) (by kernel_rfl) ?_
    refine t_sti 1 (cs := [.int .i64 0, .int .i64 0]) rfl rfl rfl rfl rfl rfl rfl rfl rfl ?_
    refine t_qz 1 [8, 9] (σ' := [(8, .pointer (some ⟨b22, 0, none⟩)), (9, .bool false)]) (by kernel_rfl) ?_
    refine t_end ?_
    show W _ _ _ _ _ _ _
    refine w_ret ?_
    simp only [Option.some.injEq, Prod.mk.injEq] at e
    obtain ⟨rfl, rfl, rfl⟩ := e
    exact ⟨[.agg #[.int .i64 0, .int .i64 0], .bool false], [], S, ⟨⟨_, _, _, rfl, .at 1 rfl rfl, rfl⟩, rfl, trivial⟩, VS.none, rfl, rfl, rfl⟩

/-- glyphiclaw13.first -/
def c49 : C :=
  (.seq (.reg [⟨(some 0), .mv (.const (.bool false)), none⟩])
  (.seq (.reg [⟨(some 4), .bld [(.int .i64 0), (.int .i64 0)] [(0, 1, (.const (.int .i64 1)))], none⟩,
     ⟨(some 5), .call 50 [(.tmp 4), (.const (.int .i64 1))], none⟩,
     ⟨(some 1), .new [(.int .i64 0), (.int .i64 0)], none⟩,
     ⟨none, .st 2 (.tmp 1) (.tmp 5), none⟩])
  (.seq (.reg [⟨(some 7), .bld [(.int .i64 0), (.int .i64 0)] [(0, 1, (.const (.int .i64 2)))], none⟩,
     ⟨(some 8), .bld [(.int .i64 0), (.int .i64 0)] [(1, 1, (.const (.int .i64 1)))], none⟩,
     ⟨(some 9), .call 51 [(.tmp 7), (.tmp 8), (.const (.int .i64 1000000)), (.const (.int .i64 1))], none⟩,
     ⟨(some 6), .mv (.tmp 9), none⟩,
     ⟨(some 10), .xt 0 (.tmp 6), none⟩,
     ⟨(some 11), .xt 1 (.tmp 6), none⟩,
     ⟨(some 2), .new [(.int .i64 0), (.int .i64 0)], none⟩,
     ⟨none, .st 2 (.tmp 2) (.tmp 10), none⟩,
     ⟨(some 3), .mv (.tmp 11), none⟩])
  (.seq (.reg [⟨(some 12), .pad 0 (.tmp 1), none⟩,
     ⟨(some 13), .ld none (.tmp 12), none⟩,
     ⟨(some 14), .bin .eql (.tmp 13) (.const (.int .i64 0)), none⟩,
     ⟨(some 15), .mv (.tmp 14), none⟩,
     ⟨(some 16), .pad 1 (.tmp 1), (some (15, true))⟩,
     ⟨(some 17), .ld none (.tmp 16), (some (15, true))⟩,
     ⟨(some 18), .bin .eql (.tmp 17) (.const (.int .i64 1)), (some (15, true))⟩,
     ⟨(some 19), .pk (.tmp 15) (.tmp 18) (.const (.bool false)), none⟩,
     ⟨(some 20), .mv (.tmp 19), none⟩,
     ⟨(some 21), .mv (.tmp 3), (some (20, true))⟩,
     ⟨(some 22), .pk (.tmp 20) (.tmp 21) (.const (.bool false)), none⟩,
     ⟨(some 23), .mv (.tmp 22), none⟩,
     ⟨(some 24), .pad 0 (.tmp 2), (some (23, true))⟩,
     ⟨(some 25), .ld none (.tmp 24), (some (23, true))⟩,
     ⟨(some 26), .bin .eql (.tmp 25) (.const (.int .i64 0)), (some (23, true))⟩,
     ⟨(some 27), .pk (.tmp 23) (.tmp 26) (.const (.bool false)), none⟩,
     ⟨(some 28), .mv (.tmp 27), none⟩,
     ⟨(some 29), .pad 1 (.tmp 2), (some (28, true))⟩,
     ⟨(some 30), .ld none (.tmp 29), (some (28, true))⟩,
     ⟨(some 31), .bin .eql (.tmp 30) (.const (.int .i64 3)), (some (28, true))⟩,
     ⟨(some 32), .pk (.tmp 28) (.tmp 31) (.const (.bool false)), none⟩,
     ⟨(some 0), .mv (.tmp 32), none⟩])
  .ret))))
def glyphiclaw13_first.f (k : Nat)  : Option (Bool) := (turn_Quarter.f k 1 0 1).bind fun (t16, t17) => ((turn_Apply.f k 2 0 0 1 1000000 1).bind fun (t95, t96, t97) => (if t97 = true then (if t16 = 0 then (if t17 = 1 then (if t95 = 0 then (some (t96 == 3)) else (some false)) else (some false)) else (some false)) else (if t16 = 0 then (if t17 = 1 then (some false) else (some false)) else (some false))))
theorem glyphiclaw13_first.ok {S : Seal} {k : Nat}  {r0_ : Bool} (e : glyphiclaw13_first.f k  = some r0_) :
    Cal Try.prog 49 [] [] S fun v H' S' => v = .bool r0_ ∧ H' = [] ∧ S' = S := by
  unfold glyphiclaw13_first.f at e
  refine cal_of (c := c49) (N := 33) Try.func49 rfl rfl (by kernel_rfl) (rs := [.t 0]) (by kernel_rfl) (Nat.le_of_ble_eq_true rfl) ?_
  unfold c49
  refine w_seq ?_
  refine w_reg fun all => ?_
  refine t_qz 1 [] (σ' := []) (by kernel_rfl) ?_
  refine t_end ?_
  show W _ _ _ _ _ _ _
  refine w_seq ?_
  refine w_reg fun all => ?_
  obtain ⟨⟨t16, t17⟩, h18, e⟩ := bind_of e
  try dsimp only at e
  refine t_qz 1 [4] (σ' := [(4, .agg #[.int .i64 1, .int .i64 0])]) (by kernel_rfl) ?_
  refine t_v (.call (vs := [.agg #[.int .i64 1, .int .i64 0], .int .i64 1]) rfl rfl (by kernel_rfl) (turn_Quarter.ok h18)) ?_
  refine t_a (.new rfl rfl) fun b19 fb19 sb19 => ?_
  refine t_sti 0 (cs := [.int .i64 t16, .int .i64 t17]) rfl rfl rfl rfl rfl rfl rfl rfl rfl ?_
  refine t_keep [1] (σ' := [(1, .pointer (some ⟨b19, 0, none⟩))]) (by kernel_rfl) ?_
  refine t_end ?_
  show W _ _ _ _ _ _ _
  refine w_seq ?_
  refine w_reg fun all => ?_
  obtain ⟨⟨t95, t96, t97⟩, h98, e⟩ := bind_of e
  try dsimp only at e
  refine t_qz 2 [1, 7, 8] (σ' := [(1, .pointer (some ⟨b19, 0, none⟩)), (7, .agg #[.int .i64 2, .int .i64 0]), (8, .agg #[.int .i64 0, .int .i64 1])]) (by kernel_rfl) ?_
  refine t_v (.call (vs := [.agg #[.int .i64 2, .int .i64 0], .agg #[.int .i64 0, .int .i64 1], .int .i64 1000000, .int .i64 1]) rfl rfl (by kernel_rfl) (turn_Apply.ok h98)) ?_
  by_cases c99 : t97 = true
  · rw [if_pos c99] at e
    have c99b : t97 = true := c99
    refine t_qz 2 [1, 6, 10] (σ' := [(1, .pointer (some ⟨b19, 0, none⟩)), (6, .tuple #[.agg #[.int .i64 t95, .int .i64 t96], .bool t97]), (10, .agg #[.int .i64 t95, .int .i64 t96])]) (by kernel_rfl) ?_
    refine t_v (dv_quiet rfl (congrArg (fun t => some (Value.bool t)) c99b)) ?_
    refine t_a (.new rfl rfl) fun b100 fb100 sb100 => ?_
    refine t_sti 0 (cs := [.int .i64 t95, .int .i64 t96]) rfl rfl rfl rfl rfl rfl rfl rfl rfl ?_
    refine t_qz 1 [1, 2, 3] (σ' := [(1, .pointer (some ⟨b19, 0, none⟩)), (2, .pointer (some ⟨b100, 0, none⟩)), (3, .bool true)]) (by kernel_rfl) ?_
    refine t_end ?_
    show W _ _ _ _ _ _ _
    refine w_seq ?_
    refine w_reg fun all => ?_
    refine t_qz 1 [1, 2, 3, 12] (σ' := [(1, .pointer (some ⟨b19, 0, none⟩)), (2, .pointer (some ⟨b100, 0, none⟩)), (3, .bool true), (12, .pointer (some ⟨b19, 0, none⟩))]) (by kernel_rfl) ?_
    refine t_v (.ld1 rfl rfl rfl (.at 1 rfl rfl)) ?_
    by_cases c101 : t16 = 0
    · rw [if_pos c101] at e
      have c101b : (t16 == 0) = true := beq_iff_eq.mpr c101
      refine t_v (dv_quiet rfl (congrArg (fun t => some (Value.bool t)) c101b)) ?_
      refine t_qz 2 [2, 3, 15, 16] (σ' := [(2, .pointer (some ⟨b100, 0, none⟩)), (3, .bool true), (15, .bool true), (16, .pointer (some ⟨b19, 1, none⟩))]) (by kernel_rfl) ?_
      refine t_v (.ld1 rfl rfl rfl (.at 1 rfl rfl)) ?_
      by_cases c102 : t17 = 1
      · rw [if_pos c102] at e
        have c102b : (t17 == 1) = true := beq_iff_eq.mpr c102
        refine t_v (dv_quiet rfl (congrArg (fun t => some (Value.bool t)) c102b)) ?_
        refine t_qz 6 [2, 23, 24] (σ' := [(2, .pointer (some ⟨b100, 0, none⟩)), (23, .bool true), (24, .pointer (some ⟨b100, 0, none⟩))]) (by kernel_rfl) ?_
        refine t_v (.ld1 rfl rfl rfl (.at 0 rfl rfl)) ?_
        by_cases c103 : t95 = 0
        · rw [if_pos c103] at e
          have c103b : (t95 == 0) = true := beq_iff_eq.mpr c103
          refine t_v (dv_quiet rfl (congrArg (fun t => some (Value.bool t)) c103b)) ?_
          refine t_qz 3 [28, 29] (σ' := [(28, .bool true), (29, .pointer (some ⟨b100, 1, none⟩))]) (by kernel_rfl) ?_
          refine t_v (.ld1 rfl rfl rfl (.at 0 rfl rfl)) ?_
          refine t_qz 3 [0] (σ' := [(0, .bool (t96 == 3))]) (by kernel_rfl) ?_
          refine t_end ?_
          show W _ _ _ _ _ _ _
          refine w_ret ?_
          obtain rfl := Option.some.inj e
          exact ⟨[.bool (t96 == 3)], [], S, ⟨rfl, trivial⟩, VS.none, rfl, rfl, rfl⟩
        · rw [if_neg c103] at e
          have c103b : (t95 == 0) = false := beq_eq_false_iff_ne.mpr c103
          refine t_v (dv_quiet rfl (congrArg (fun t => some (Value.bool t)) c103b)) ?_
          refine t_qz 7 [0] (σ' := [(0, .bool false)]) (by kernel_rfl) ?_
          refine t_end ?_
          show W _ _ _ _ _ _ _
          refine w_ret ?_
          obtain rfl := Option.some.inj e
          exact ⟨[.bool false], [], S, ⟨rfl, trivial⟩, VS.none, rfl, rfl, rfl⟩
      · rw [if_neg c102] at e
        have c102b : (t17 == 1) = false := beq_eq_false_iff_ne.mpr c102
        refine t_v (dv_quiet rfl (congrArg (fun t => some (Value.bool t)) c102b)) ?_
        refine t_qz 15 [0] (σ' := [(0, .bool false)]) (by kernel_rfl) ?_
        refine t_end ?_
        show W _ _ _ _ _ _ _
        refine w_ret ?_
        obtain rfl := Option.some.inj e
        exact ⟨[.bool false], [], S, ⟨rfl, trivial⟩, VS.none, rfl, rfl, rfl⟩
    · rw [if_neg c101] at e
      have c101b : (t16 == 0) = false := beq_eq_false_iff_ne.mpr c101
      refine t_v (dv_quiet rfl (congrArg (fun t => some (Value.bool t)) c101b)) ?_
      refine t_qz 19 [0] (σ' := [(0, .bool false)]) (by kernel_rfl) ?_
      refine t_end ?_
      show W _ _ _ _ _ _ _
      refine w_ret ?_
      obtain rfl := Option.some.inj e
      exact ⟨[.bool false], [], S, ⟨rfl, trivial⟩, VS.none, rfl, rfl, rfl⟩
  · rw [if_neg c99] at e
    have c99b : t97 = false := Bool.eq_false_iff.mpr c99
    refine t_qz 2 [1, 6, 10] (σ' := [(1, .pointer (some ⟨b19, 0, none⟩)), (6, .tuple #[.agg #[.int .i64 t95, .int .i64 t96], .bool t97]), (10, .agg #[.int .i64 t95, .int .i64 t96])]) (by kernel_rfl) ?_
    refine t_v (dv_quiet rfl (congrArg (fun t => some (Value.bool t)) c99b)) ?_
    refine t_a (.new rfl rfl) fun b104 fb104 sb104 => ?_
    refine t_sti 0 (cs := [.int .i64 t95, .int .i64 t96]) rfl rfl rfl rfl rfl rfl rfl rfl rfl ?_
    refine t_qz 1 [1, 2, 3] (σ' := [(1, .pointer (some ⟨b19, 0, none⟩)), (2, .pointer (some ⟨b104, 0, none⟩)), (3, .bool false)]) (by kernel_rfl) ?_
    refine t_end ?_
    show W _ _ _ _ _ _ _
    refine w_seq ?_
    refine w_reg fun all => ?_
    refine t_qz 1 [1, 2, 3, 12] (σ' := [(1, .pointer (some ⟨b19, 0, none⟩)), (2, .pointer (some ⟨b104, 0, none⟩)), (3, .bool false), (12, .pointer (some ⟨b19, 0, none⟩))]) (by kernel_rfl) ?_
    refine t_v (.ld1 rfl rfl rfl (.at 1 rfl rfl)) ?_
    by_cases c105 : t16 = 0
    · rw [if_pos c105] at e
      have c105b : (t16 == 0) = true := beq_iff_eq.mpr c105
      refine t_v (dv_quiet rfl (congrArg (fun t => some (Value.bool t)) c105b)) ?_
      refine t_qz 2 [2, 3, 15, 16] (σ' := [(2, .pointer (some ⟨b104, 0, none⟩)), (3, .bool false), (15, .bool true), (16, .pointer (some ⟨b19, 1, none⟩))]) (by kernel_rfl) ?_
      refine t_v (.ld1 rfl rfl rfl (.at 1 rfl rfl)) ?_
      by_cases c106 : t17 = 1
      · rw [if_pos c106] at e
        have c106b : (t17 == 1) = true := beq_iff_eq.mpr c106
        refine t_v (dv_quiet rfl (congrArg (fun t => some (Value.bool t)) c106b)) ?_
        refine t_qz 15 [0] (σ' := [(0, .bool false)]) (by kernel_rfl) ?_
        refine t_end ?_
        show W _ _ _ _ _ _ _
        refine w_ret ?_
        obtain rfl := Option.some.inj e
        exact ⟨[.bool false], [], S, ⟨rfl, trivial⟩, VS.none, rfl, rfl, rfl⟩
      · rw [if_neg c106] at e
        have c106b : (t17 == 1) = false := beq_eq_false_iff_ne.mpr c106
        refine t_v (dv_quiet rfl (congrArg (fun t => some (Value.bool t)) c106b)) ?_
        refine t_qz 15 [0] (σ' := [(0, .bool false)]) (by kernel_rfl) ?_
        refine t_end ?_
        show W _ _ _ _ _ _ _
        refine w_ret ?_
        obtain rfl := Option.some.inj e
        exact ⟨[.bool false], [], S, ⟨rfl, trivial⟩, VS.none, rfl, rfl, rfl⟩
    · rw [if_neg c105] at e
      have c105b : (t16 == 0) = false := beq_eq_false_iff_ne.mpr c105
      refine t_v (dv_quiet rfl (congrArg (fun t => some (Value.bool t)) c105b)) ?_
      refine t_qz 19 [0] (σ' := [(0, .bool false)]) (by kernel_rfl) ?_
      refine t_end ?_
      show W _ _ _ _ _ _ _
      refine w_ret ?_
      obtain rfl := Option.some.inj e
      exact ⟨[.bool false], [], S, ⟨rfl, trivial⟩, VS.none, rfl, rfl, rfl⟩

/-- glyphicref.SamePoint -/
def c26 : C :=
  (.seq (.reg [⟨(some 2), .box (.tmp 0), none⟩,
     ⟨(some 3), .box (.tmp 1), none⟩,
     ⟨(some 4), .mv (.const (.bool false)), none⟩])
  (.seq (.reg [⟨(some 5), .pad 0 (.tmp 2), none⟩,
     ⟨(some 6), .ld none (.tmp 5), none⟩,
     ⟨(some 7), .pad 0 (.tmp 3), none⟩,
     ⟨(some 8), .ld none (.tmp 7), none⟩,
     ⟨(some 9), .bin .eql (.tmp 6) (.tmp 8), none⟩,
     ⟨(some 10), .mv (.tmp 9), none⟩,
     ⟨(some 11), .pad 1 (.tmp 2), (some (10, true))⟩,
     ⟨(some 12), .ld none (.tmp 11), (some (10, true))⟩,
     ⟨(some 13), .pad 1 (.tmp 3), (some (10, true))⟩,
     ⟨(some 14), .ld none (.tmp 13), (some (10, true))⟩,
     ⟨(some 15), .bin .eql (.tmp 12) (.tmp 14), (some (10, true))⟩,
     ⟨(some 16), .pk (.tmp 10) (.tmp 15) (.const (.bool false)), none⟩,
     ⟨(some 4), .mv (.tmp 16), none⟩])
  .ret))
def glyphicref_SamePoint.f (a0_X : Int) (a0_Y : Int) (b1_X : Int) (b1_Y : Int) : Option (Bool) := if a0_X = b1_X then (some (a0_Y == b1_Y)) else (some false)
theorem glyphicref_SamePoint.ok {S : Seal} {a0_X : Int} {a0_Y : Int} {b1_X : Int} {b1_Y : Int} {r0_ : Bool} (e : glyphicref_SamePoint.f a0_X a0_Y b1_X b1_Y = some r0_) :
    Cal Try.prog 26 [.agg #[.int .i64 a0_X, .int .i64 a0_Y], .agg #[.int .i64 b1_X, .int .i64 b1_Y]] [] S fun v H' S' => v = .bool r0_ ∧ H' = [] ∧ S' = S := by
  unfold glyphicref_SamePoint.f at e
  refine cal_of (c := c26) (N := 17) Try.func26 rfl rfl (by kernel_rfl) (rs := [.t 4]) (by kernel_rfl) (Nat.le_of_ble_eq_true rfl) ?_
  unfold c26
  refine w_seq ?_
  refine w_reg fun all => ?_
  refine t_a (.box rfl rfl rfl) fun b145 fb145 sb145 => ?_
  refine t_a (.box rfl rfl rfl) fun b146 fb146 sb146 => ?_
  refine t_qz 1 [2, 3] (σ' := [(2, .pointer (some ⟨b145, 0, none⟩)), (3, .pointer (some ⟨b146, 0, none⟩))]) (by kernel_rfl) ?_
  refine t_end ?_
  show W _ _ _ _ _ _ _
  refine w_seq ?_
  refine w_reg fun all => ?_
  refine t_qz 1 [2, 3, 5] (σ' := [(2, .pointer (some ⟨b145, 0, none⟩)), (3, .pointer (some ⟨b146, 0, none⟩)), (5, .pointer (some ⟨b145, 0, none⟩))]) (by kernel_rfl) ?_
  refine t_v (.ld1 rfl rfl rfl (.at 1 rfl rfl)) ?_
  refine t_qz 1 [2, 3, 6, 7] (σ' := [(2, .pointer (some ⟨b145, 0, none⟩)), (3, .pointer (some ⟨b146, 0, none⟩)), (6, .int .i64 a0_X), (7, .pointer (some ⟨b146, 0, none⟩))]) (by kernel_rfl) ?_
  refine t_v (.ld1 rfl rfl rfl (.at 0 rfl rfl)) ?_
  by_cases c147 : a0_X = b1_X
  · rw [if_pos c147] at e
    have c147b : (a0_X == b1_X) = true := beq_iff_eq.mpr c147
    refine t_v (dv_quiet rfl (congrArg (fun t => some (Value.bool t)) c147b)) ?_
    refine t_qz 2 [3, 10, 11] (σ' := [(3, .pointer (some ⟨b146, 0, none⟩)), (10, .bool true), (11, .pointer (some ⟨b145, 1, none⟩))]) (by kernel_rfl) ?_
    refine t_v (.ld1 rfl rfl rfl (.at 1 rfl rfl)) ?_
    refine t_qz 1 [10, 12, 13] (σ' := [(10, .bool true), (12, .int .i64 a0_Y), (13, .pointer (some ⟨b146, 1, none⟩))]) (by kernel_rfl) ?_
    refine t_v (.ld1 rfl rfl rfl (.at 0 rfl rfl)) ?_
    refine t_qz 3 [4] (σ' := [(4, .bool (a0_Y == b1_Y))]) (by kernel_rfl) ?_
    refine t_end ?_
    show W _ _ _ _ _ _ _
    refine w_ret ?_
    obtain rfl := Option.some.inj e
    exact ⟨[.bool (a0_Y == b1_Y)], [], S, ⟨rfl, trivial⟩, VS.none, rfl, rfl, rfl⟩
  · rw [if_neg c147] at e
    have c147b : (a0_X == b1_X) = false := beq_eq_false_iff_ne.mpr c147
    refine t_v (dv_quiet rfl (congrArg (fun t => some (Value.bool t)) c147b)) ?_
    refine t_qz 8 [4] (σ' := [(4, .bool false)]) (by kernel_rfl) ?_
    refine t_end ?_
    show W _ _ _ _ _ _ _
    refine w_ret ?_
    obtain rfl := Option.some.inj e
    exact ⟨[.bool false], [], S, ⟨rfl, trivial⟩, VS.none, rfl, rfl, rfl⟩

/-- glyphiclaw13.TurnRounds -/
def c15 : C :=
  (.seq (.reg [⟨(some 4), .box (.tmp 0), none⟩,
     ⟨(some 5), .box (.tmp 1), none⟩,
     ⟨(some 8), .mv (.const (.bool false)), none⟩])
  (.seq (.reg [⟨(some 20), .call 49 [], none⟩,
     ⟨(some 9), .mv (.tmp 20), none⟩])
  (.seq (.seq (.reg [⟨(some 21), .mv (.tmp 9), none⟩,
      ⟨(some 22), .un .not (.tmp 21), none⟩])
   (.cond (.tmp 22)
    (.seq (.reg [⟨(some 8), .mv (.const (.bool false)), none⟩])
     .ret)
    .skip))
  (.seq (.reg [⟨(some 23), .pad 0 (.tmp 4), none⟩,
     ⟨(some 24), .ld none (.tmp 23), none⟩,
     ⟨(some 25), .bin .rem (.tmp 24) (.const (.int .i64 1000000000000)), none⟩,
     ⟨(some 26), .pad 1 (.tmp 4), none⟩,
     ⟨(some 27), .ld none (.tmp 26), none⟩,
     ⟨(some 28), .bin .rem (.tmp 27) (.const (.int .i64 1000000000000)), none⟩,
     ⟨(some 29), .bld [(.int .i64 0), (.int .i64 0)] [(0, 1, (.tmp 25)), (1, 1, (.tmp 28))], none⟩,
     ⟨none, .st 2 (.tmp 4) (.tmp 29), none⟩])
  (.seq (.reg [⟨(some 30), .pad 0 (.tmp 5), none⟩,
     ⟨(some 31), .ld none (.tmp 30), none⟩,
     ⟨(some 32), .bin .rem (.tmp 31) (.const (.int .i64 1000000000000)), none⟩,
     ⟨(some 33), .pad 1 (.tmp 5), none⟩,
     ⟨(some 34), .ld none (.tmp 33), none⟩,
     ⟨(some 35), .bin .rem (.tmp 34) (.const (.int .i64 1000000000000)), none⟩,
     ⟨(some 36), .bld [(.int .i64 0), (.int .i64 0)] [(0, 1, (.tmp 32)), (1, 1, (.tmp 35))], none⟩,
     ⟨none, .st 2 (.tmp 5) (.tmp 36), none⟩])
  (.seq (.reg [⟨(some 37), .mv (.tmp 2), none⟩,
     ⟨(some 38), .bin .rem (.tmp 37) (.const (.int .i64 1000000)), none⟩,
     ⟨(some 2), .mv (.tmp 38), none⟩])
  (.seq (.reg [⟨(some 39), .mv (.tmp 3), none⟩,
     ⟨(some 40), .bin .rem (.tmp 39) (.const (.int .i64 1000000)), none⟩,
     ⟨(some 3), .mv (.tmp 40), none⟩])
  (.seq (.reg [⟨(some 41), .ld (some 2) (.tmp 4), none⟩,
     ⟨(some 42), .mv (.tmp 2), none⟩,
     ⟨(some 43), .call 50 [(.tmp 41), (.tmp 42)], none⟩,
     ⟨(some 44), .mv (.tmp 3), none⟩,
     ⟨(some 45), .call 50 [(.tmp 43), (.tmp 44)], none⟩,
     ⟨(some 10), .new [(.int .i64 0), (.int .i64 0)], none⟩,
     ⟨none, .st 2 (.tmp 10) (.tmp 45), none⟩])
  (.seq (.reg [⟨(some 46), .ld (some 2) (.tmp 4), none⟩,
     ⟨(some 47), .mv (.tmp 2), none⟩,
     ⟨(some 48), .mv (.tmp 3), none⟩,
     ⟨(some 49), .bin .add (.tmp 47) (.tmp 48), none⟩,
     ⟨(some 50), .call 50 [(.tmp 46), (.tmp 49)], none⟩,
     ⟨(some 11), .new [(.int .i64 0), (.int .i64 0)], none⟩,
     ⟨none, .st 2 (.tmp 11) (.tmp 50), none⟩])
  (.seq (.reg [⟨(some 51), .ld (some 2) (.tmp 4), none⟩,
     ⟨(some 52), .call 50 [(.tmp 51), (.const (.int .i64 2))], none⟩,
     ⟨(some 12), .new [(.int .i64 0), (.int .i64 0)], none⟩,
     ⟨none, .st 2 (.tmp 12) (.tmp 52), none⟩])
  (.seq (.reg [⟨(some 54), .ld (some 2) (.tmp 4), none⟩,
     ⟨(some 55), .bld [(.int .i64 0), (.int .i64 0)] [], none⟩,
     ⟨(some 56), .call 51 [(.tmp 54), (.tmp 55), (.const (.int .i64 1000000)), (.const (.int .i64 0))], none⟩,
     ⟨(some 53), .mv (.tmp 56), none⟩,
     ⟨(some 57), .xt 0 (.tmp 53), none⟩,
     ⟨(some 58), .xt 1 (.tmp 53), none⟩,
     ⟨(some 13), .new [(.int .i64 0), (.int .i64 0)], none⟩,
     ⟨none, .st 2 (.tmp 13) (.tmp 57), none⟩,
     ⟨(some 14), .mv (.tmp 58), none⟩])
  (.seq (.reg [⟨(some 60), .ld (some 2) (.tmp 4), none⟩,
     ⟨(some 61), .ld (some 2) (.tmp 5), none⟩,
     ⟨(some 62), .mv (.tmp 2), none⟩,
     ⟨(some 63), .call 51 [(.tmp 60), (.tmp 61), (.const (.int .i64 2000000)), (.tmp 62)], none⟩,
     ⟨(some 59), .mv (.tmp 63), none⟩,
     ⟨(some 64), .xt 0 (.tmp 59), none⟩,
     ⟨(some 65), .xt 1 (.tmp 59), none⟩,
     ⟨(some 15), .new [(.int .i64 0), (.int .i64 0)], none⟩,
     ⟨none, .st 2 (.tmp 15) (.tmp 64), none⟩,
     ⟨(some 16), .mv (.tmp 65), none⟩])
  (.seq (.reg [⟨(some 66), .pad 0 (.tmp 4), none⟩,
     ⟨(some 67), .ld none (.tmp 66), none⟩,
     ⟨(some 68), .bin .mul (.const (.int .i64 2)) (.tmp 67), none⟩,
     ⟨(some 69), .pad 1 (.tmp 4), none⟩,
     ⟨(some 70), .ld none (.tmp 69), none⟩,
     ⟨(some 71), .bin .mul (.const (.int .i64 2)) (.tmp 70), none⟩,
     ⟨(some 72), .bld [(.int .i64 0), (.int .i64 0)] [(0, 1, (.tmp 68)), (1, 1, (.tmp 71))], none⟩,
     ⟨(some 73), .mv (.tmp 2), none⟩,
     ⟨(some 74), .call 50 [(.tmp 72), (.tmp 73)], none⟩,
     ⟨(some 17), .new [(.int .i64 0), (.int .i64 0)], none⟩,
     ⟨none, .st 2 (.tmp 17) (.tmp 74), none⟩])
  (.seq (.reg [⟨(some 76), .bld [(.int .i64 0), (.int .i64 0)] [(0, 1, (.const (.int .i64 1000000000000001)))], none⟩,
     ⟨(some 77), .ld (some 2) (.tmp 5), none⟩,
     ⟨(some 78), .call 51 [(.tmp 76), (.tmp 77), (.const (.int .i64 1000000)), (.const (.int .i64 0))], none⟩,
     ⟨(some 75), .mv (.tmp 78), none⟩,
     ⟨(some 79), .xt 0 (.tmp 75), none⟩,
     ⟨(some 80), .xt 1 (.tmp 75), none⟩,
     ⟨(some 18), .new [(.int .i64 0), (.int .i64 0)], none⟩,
     ⟨none, .st 2 (.tmp 18) (.tmp 79), none⟩,
     ⟨(some 19), .mv (.tmp 80), none⟩])
  (.seq (.drw [⟨(some 81), .mv (.tmp 9), none⟩,
     ⟨(some 82), .mv (.tmp 81), none⟩,
     ⟨(some 83), .ld (some 2) (.tmp 10), (some (82, true))⟩,
     ⟨(some 84), .ld (some 2) (.tmp 11), (some (82, true))⟩,
     ⟨(some 85), .call 26 [(.tmp 83), (.tmp 84)], (some (82, true))⟩,
     ⟨(some 86), .pk (.tmp 82) (.tmp 85) (.const (.bool false)), none⟩,
     ⟨(some 87), .mv (.tmp 86), none⟩,
     ⟨(some 88), .ld (some 2) (.tmp 4), (some (87, true))⟩,
     ⟨(some 89), .call 50 [(.tmp 88), (.const (.int .i64 4))], (some (87, true))⟩,
     ⟨(some 90), .ld (some 2) (.tmp 4), (some (87, true))⟩,
     ⟨(some 91), .call 26 [(.tmp 89), (.tmp 90)], (some (87, true))⟩,
     ⟨(some 92), .pk (.tmp 87) (.tmp 91) (.const (.bool false)), none⟩,
     ⟨(some 93), .mv (.tmp 92), none⟩,
     ⟨(some 94), .ld (some 2) (.tmp 4), (some (93, true))⟩,
     ⟨(some 95), .mv (.tmp 2), (some (93, true))⟩,
     ⟨(some 96), .call 50 [(.tmp 94), (.tmp 95)], (some (93, true))⟩,
     ⟨(some 97), .mv (.tmp 2), (some (93, true))⟩,
     ⟨(some 98), .un .neg (.tmp 97), (some (93, true))⟩,
     ⟨(some 99), .call 50 [(.tmp 96), (.tmp 98)], (some (93, true))⟩,
     ⟨(some 100), .ld (some 2) (.tmp 4), (some (93, true))⟩,
     ⟨(some 101), .call 26 [(.tmp 99), (.tmp 100)], (some (93, true))⟩,
     ⟨(some 102), .pk (.tmp 93) (.tmp 101) (.const (.bool false)), none⟩,
     ⟨(some 103), .mv (.tmp 102), none⟩,
     ⟨(some 104), .pad 0 (.tmp 12), (some (103, true))⟩,
     ⟨(some 105), .ld none (.tmp 104), (some (103, true))⟩,
     ⟨(some 106), .pad 0 (.tmp 4), (some (103, true))⟩,
     ⟨(some 107), .ld none (.tmp 106), (some (103, true))⟩,
     ⟨(some 108), .un .neg (.tmp 107), (some (103, true))⟩,
     ⟨(some 109), .bin .eql (.tmp 105) (.tmp 108), (some (103, true))⟩,
     ⟨(some 110), .pk (.tmp 103) (.tmp 109) (.const (.bool false)), none⟩,
     ⟨(some 111), .mv (.tmp 110), none⟩,
     ⟨(some 112), .pad 1 (.tmp 12), (some (111, true))⟩,
     ⟨(some 113), .ld none (.tmp 112), (some (111, true))⟩,
     ⟨(some 114), .pad 1 (.tmp 4), (some (111, true))⟩,
     ⟨(some 115), .ld none (.tmp 114), (some (111, true))⟩,
     ⟨(some 116), .un .neg (.tmp 115), (some (111, true))⟩,
     ⟨(some 117), .bin .eql (.tmp 113) (.tmp 116), (some (111, true))⟩,
     ⟨(some 118), .pk (.tmp 111) (.tmp 117) (.const (.bool false)), none⟩,
     ⟨(some 119), .mv (.tmp 118), none⟩,
     ⟨(some 120), .mv (.tmp 14), (some (119, true))⟩,
     ⟨(some 121), .pk (.tmp 119) (.tmp 120) (.const (.bool false)), none⟩,
     ⟨(some 122), .mv (.tmp 121), none⟩,
     ⟨(some 123), .ld (some 2) (.tmp 13), (some (122, true))⟩,
     ⟨(some 124), .ld (some 2) (.tmp 4), (some (122, true))⟩,
     ⟨(some 125), .call 26 [(.tmp 123), (.tmp 124)], (some (122, true))⟩,
     ⟨(some 126), .pk (.tmp 122) (.tmp 125) (.const (.bool false)), none⟩,
     ⟨(some 127), .mv (.tmp 126), none⟩,
     ⟨(some 128), .mv (.tmp 16), (some (127, true))⟩,
     ⟨(some 129), .pk (.tmp 127) (.tmp 128) (.const (.bool false)), none⟩,
     ⟨(some 130), .mv (.tmp 129), none⟩,
     ⟨(some 131), .pad 0 (.tmp 15), (some (130, true))⟩,
     ⟨(some 132), .ld none (.tmp 131), (some (130, true))⟩,
     ⟨(some 133), .pad 0 (.tmp 17), (some (130, true))⟩,
     ⟨(some 134), .ld none (.tmp 133), (some (130, true))⟩,
     ⟨(some 135), .pad 0 (.tmp 5), (some (130, true))⟩,
     ⟨(some 136), .ld none (.tmp 135), (some (130, true))⟩,
     ⟨(some 137), .bin .add (.tmp 134) (.tmp 136), (some (130, true))⟩,
     ⟨(some 138), .bin .eql (.tmp 132) (.tmp 137), (some (130, true))⟩,
     ⟨(some 139), .pk (.tmp 130) (.tmp 138) (.const (.bool false)), none⟩,
     ⟨(some 140), .mv (.tmp 139), none⟩,
     ⟨(some 141), .pad 1 (.tmp 15), (some (140, true))⟩,
     ⟨(some 142), .ld none (.tmp 141), (some (140, true))⟩,
     ⟨(some 143), .pad 1 (.tmp 17), (some (140, true))⟩,
     ⟨(some 144), .ld none (.tmp 143), (some (140, true))⟩,
     ⟨(some 145), .pad 1 (.tmp 5), (some (140, true))⟩,
     ⟨(some 146), .ld none (.tmp 145), (some (140, true))⟩,
     ⟨(some 147), .bin .add (.tmp 144) (.tmp 146), (some (140, true))⟩,
     ⟨(some 148), .bin .eql (.tmp 142) (.tmp 147), (some (140, true))⟩,
     ⟨(some 149), .pk (.tmp 140) (.tmp 148) (.const (.bool false)), none⟩,
     ⟨(some 150), .mv (.tmp 149), none⟩,
     ⟨(some 151), .mv (.tmp 19), (some (150, true))⟩,
     ⟨(some 152), .un .not (.tmp 151), (some (150, true))⟩,
     ⟨(some 153), .pk (.tmp 150) (.tmp 152) (.const (.bool false)), none⟩,
     ⟨(some 8), .mv (.tmp 153), none⟩] [[], [0], [1], [1], [2, 3, 1, 1], [1, 4], [5, 4], [6], [7, 6, 6], [6], [8, 9, 8, 6], [6, 10], [11, 10], [12], [12], [13, 14, 12, 12], [12], [16, 12], [15, 17, 15, 12], [12], [18, 19, 18, 12], [12, 20], [21, 20], [22], [23, 22], [22], [25, 22], [26, 22], [24, 27, 22], [22, 28], [29, 22], [30], [31, 30], [30], [33, 30], [34, 30], [32, 35, 30], [30, 36], [37, 30], [38], [38, 39], [40, 38], [41], [41], [42, 43, 41, 41], [41, 44], [45, 44], [46], [46, 47], [48, 46], [49], [50, 49], [49], [52, 49], [49], [54, 49], [53, 55, 49], [51, 56, 49], [49, 57], [58, 49], [59], [60, 59], [59], [62, 59], [59], [64, 59], [63, 65, 59], [61, 66, 59], [59, 67], [68, 59], [69], [70, 69], [69, 71], [72, 69, 0, 1, 2, 3, 4, 5, 6, 7, 8, 9, 10, 11, 12, 13, 14, 15, 16, 17, 18, 19, 20, 21, 22, 23, 24, 25, 26, 27, 28, 29, 30, 31, 32, 33, 34, 35, 36, 37, 38, 39, 40, 41, 42, 43, 44, 45, 46, 47, 48, 49, 50, 51, 52, 53, 54, 55, 56, 57, 58, 59, 60, 61, 62, 63, 64, 65, 66, 67, 68, 69, 70, 71, 72]])
  .ret)))))))))))))))
def glyphiclaw13_TurnRounds.f (k : Nat) (t0_X : Int) (t0_Y : Int) (o1_X : Int) (o1_Y : Int) (A2 : Int) (r3 : Int) : Option (Bool) := (glyphiclaw13_first.f k).bind fun t107 => (if t107 = true then ((turn_Quarter.f k (Int.tmod t0_X 1000000000000) (Int.tmod t0_Y 1000000000000) (Int.tmod A2 1000000)).bind fun (t109, t110) => ((turn_Quarter.f k t109 t110 (Int.tmod r3 1000000)).bind fun (t112, t113) => ((turn_Quarter.f k (Int.tmod t0_X 1000000000000) (Int.tmod t0_Y 1000000000000) (wr64 ((Int.tmod A2 1000000) + (Int.tmod r3 1000000)))).bind fun (t116, t117) => ((turn_Quarter.f k (Int.tmod t0_X 1000000000000) (Int.tmod t0_Y 1000000000000) 2).bind fun (t120, t121) => ((turn_Apply.f k (Int.tmod t0_X 1000000000000) (Int.tmod t0_Y 1000000000000) 0 0 1000000 0).bind fun (t124, t125, t126) => (if t126 = true then ((turn_Apply.f k (Int.tmod t0_X 1000000000000) (Int.tmod t0_Y 1000000000000) (Int.tmod o1_X 1000000000000) (Int.tmod o1_Y 1000000000000) 2000000 (Int.tmod A2 1000000)).bind fun (t130, t131, t132) => (if t132 = true then ((turn_Quarter.f k (wr64 (2 * (Int.tmod t0_X 1000000000000))) (wr64 (2 * (Int.tmod t0_Y 1000000000000))) (Int.tmod A2 1000000)).bind fun (t136, t137) => ((turn_Apply.f k 1000000000000001 0 (Int.tmod o1_X 1000000000000) (Int.tmod o1_Y 1000000000000) 1000000 0).bind fun (t140, t141, t142) => ((glyphicref_SamePoint.f t112 t113 t116 t117).bind fun t148 => (if t148 = true then ((turn_Quarter.f k (Int.tmod t0_X 1000000000000) (Int.tmod t0_Y 1000000000000) 4).bind fun (t150, t151) => ((glyphicref_SamePoint.f t150 t151 (Int.tmod t0_X 1000000000000) (Int.tmod t0_Y 1000000000000)).bind fun t153 => (if t153 = true then ((turn_Quarter.f k (Int.tmod t0_X 1000000000000) (Int.tmod t0_Y 1000000000000) (Int.tmod A2 1000000)).bind fun (t155, t156) => ((turn_Quarter.f k t155 t156 (wr64 (0 - (Int.tmod A2 1000000)))).bind fun (t158, t159) => ((glyphicref_SamePoint.f t158 t159 (Int.tmod t0_X 1000000000000) (Int.tmod t0_Y 1000000000000)).bind fun t161 => (if t161 = true then (if t120 = (wr64 (0 - (Int.tmod t0_X 1000000000000))) then (if t121 = (wr64 (0 - (Int.tmod t0_Y 1000000000000))) then ((glyphicref_SamePoint.f t124 t125 (Int.tmod t0_X 1000000000000) (Int.tmod t0_Y 1000000000000)).bind fun t165 => (if t165 = true then (if t130 = (wr64 (t136 + (Int.tmod o1_X 1000000000000))) then (if t131 = (wr64 (t137 + (Int.tmod o1_Y 1000000000000))) then (some (!t142)) else (some false)) else (some false)) else (some false))) else (some false)) else (some false)) else (some false))))) else (some false)))) else (some false))))) else ((turn_Quarter.f k (wr64 (2 * (Int.tmod t0_X 1000000000000))) (wr64 (2 * (Int.tmod t0_Y 1000000000000))) (Int.tmod A2 1000000)).bind fun (t170, t171) => ((turn_Apply.f k 1000000000000001 0 (Int.tmod o1_X 1000000000000) (Int.tmod o1_Y 1000000000000) 1000000 0).bind fun (t174, t175, t176) => ((glyphicref_SamePoint.f t112 t113 t116 t117).bind fun t179 => (if t179 = true then ((turn_Quarter.f k (Int.tmod t0_X 1000000000000) (Int.tmod t0_Y 1000000000000) 4).bind fun (t181, t182) => ((glyphicref_SamePoint.f t181 t182 (Int.tmod t0_X 1000000000000) (Int.tmod t0_Y 1000000000000)).bind fun t184 => (if t184 = true then ((turn_Quarter.f k (Int.tmod t0_X 1000000000000) (Int.tmod t0_Y 1000000000000) (Int.tmod A2 1000000)).bind fun (t186, t187) => ((turn_Quarter.f k t186 t187 (wr64 (0 - (Int.tmod A2 1000000)))).bind fun (t189, t190) => ((glyphicref_SamePoint.f t189 t190 (Int.tmod t0_X 1000000000000) (Int.tmod t0_Y 1000000000000)).bind fun t192 => (if t192 = true then (if t120 = (wr64 (0 - (Int.tmod t0_X 1000000000000))) then (if t121 = (wr64 (0 - (Int.tmod t0_Y 1000000000000))) then ((glyphicref_SamePoint.f t124 t125 (Int.tmod t0_X 1000000000000) (Int.tmod t0_Y 1000000000000)).bind fun t196 => (if t196 = true then (some false) else (some false))) else (some false)) else (some false)) else (some false))))) else (some false)))) else (some false))))))) else ((turn_Apply.f k (Int.tmod t0_X 1000000000000) (Int.tmod t0_Y 1000000000000) (Int.tmod o1_X 1000000000000) (Int.tmod o1_Y 1000000000000) 2000000 (Int.tmod A2 1000000)).bind fun (t199, t200, t201) => (if t201 = true then ((turn_Quarter.f k (wr64 (2 * (Int.tmod t0_X 1000000000000))) (wr64 (2 * (Int.tmod t0_Y 1000000000000))) (Int.tmod A2 1000000)).bind fun (t205, t206) => ((turn_Apply.f k 1000000000000001 0 (Int.tmod o1_X 1000000000000) (Int.tmod o1_Y 1000000000000) 1000000 0).bind fun (t209, t210, t211) => ((glyphicref_SamePoint.f t112 t113 t116 t117).bind fun t214 => (if t214 = true then ((turn_Quarter.f k (Int.tmod t0_X 1000000000000) (Int.tmod t0_Y 1000000000000) 4).bind fun (t216, t217) => ((glyphicref_SamePoint.f t216 t217 (Int.tmod t0_X 1000000000000) (Int.tmod t0_Y 1000000000000)).bind fun t219 => (if t219 = true then ((turn_Quarter.f k (Int.tmod t0_X 1000000000000) (Int.tmod t0_Y 1000000000000) (Int.tmod A2 1000000)).bind fun (t221, t222) => ((turn_Quarter.f k t221 t222 (wr64 (0 - (Int.tmod A2 1000000)))).bind fun (t224, t225) => ((glyphicref_SamePoint.f t224 t225 (Int.tmod t0_X 1000000000000) (Int.tmod t0_Y 1000000000000)).bind fun t227 => (if t227 = true then (if t120 = (wr64 (0 - (Int.tmod t0_X 1000000000000))) then (if t121 = (wr64 (0 - (Int.tmod t0_Y 1000000000000))) then (some false) else (some false)) else (some false)) else (some false))))) else (some false)))) else (some false))))) else ((turn_Quarter.f k (wr64 (2 * (Int.tmod t0_X 1000000000000))) (wr64 (2 * (Int.tmod t0_Y 1000000000000))) (Int.tmod A2 1000000)).bind fun (t232, t233) => ((turn_Apply.f k 1000000000000001 0 (Int.tmod o1_X 1000000000000) (Int.tmod o1_Y 1000000000000) 1000000 0).bind fun (t236, t237, t238) => ((glyphicref_SamePoint.f t112 t113 t116 t117).bind fun t241 => (if t241 = true then ((turn_Quarter.f k (Int.tmod t0_X 1000000000000) (Int.tmod t0_Y 1000000000000) 4).bind fun (t243, t244) => ((glyphicref_SamePoint.f t243 t244 (Int.tmod t0_X 1000000000000) (Int.tmod t0_Y 1000000000000)).bind fun t246 => (if t246 = true then ((turn_Quarter.f k (Int.tmod t0_X 1000000000000) (Int.tmod t0_Y 1000000000000) (Int.tmod A2 1000000)).bind fun (t248, t249) => ((turn_Quarter.f k t248 t249 (wr64 (0 - (Int.tmod A2 1000000)))).bind fun (t251, t252) => ((glyphicref_SamePoint.f t251 t252 (Int.tmod t0_X 1000000000000) (Int.tmod t0_Y 1000000000000)).bind fun t254 => (if t254 = true then (if t120 = (wr64 (0 - (Int.tmod t0_X 1000000000000))) then (if t121 = (wr64 (0 - (Int.tmod t0_Y 1000000000000))) then (some false) else (some false)) else (some false)) else (some false))))) else (some false)))) else (some false))))))))))))) else (some false))
theorem glyphiclaw13_TurnRounds.ok {S : Seal} {k : Nat} {t0_X : Int} {t0_Y : Int} {o1_X : Int} {o1_Y : Int} {A2 : Int} {r3 : Int}  (e : glyphiclaw13_TurnRounds.f k t0_X t0_Y o1_X o1_Y A2 r3 = some true) :
    Cal Try.prog 15 [.agg #[.int .i64 t0_X, .int .i64 t0_Y], .agg #[.int .i64 o1_X, .int .i64 o1_Y], .int .i64 A2, .int .i64 r3] [] S fun v H' S' => v = .bool true ∧ H' = [] ∧ S' = S := by
  unfold glyphiclaw13_TurnRounds.f at e
  refine cal_of (c := c15) (N := 154) Try.func15 rfl rfl (by kernel_rfl) (rs := [.t 8]) (by kernel_rfl) (Nat.le_of_ble_eq_true rfl) ?_
  unfold c15
  refine w_seq ?_
  refine w_reg fun all => ?_
  refine t_a (.box rfl rfl rfl) fun b1 fb1 sb1 => ?_
  refine t_a (.box rfl rfl rfl) fun b2 fb2 sb2 => ?_
  refine t_qz 1 [2, 3, 4, 5] (σ' := [(2, .int .i64 A2), (3, .int .i64 r3), (4, .pointer (some ⟨b1, 0, none⟩)), (5, .pointer (some ⟨b2, 0, none⟩))]) (by kernel_rfl) ?_
  refine t_end ?_
  show W _ _ _ _ _ _ _
  refine w_seq ?_
  refine w_reg fun all => ?_
  obtain ⟨t107, h108, e⟩ := bind_of e
  cases t107 with
  | true =>
    rw [if_pos rfl] at e
    refine t_v (.call (vs := []) rfl rfl (by kernel_rfl) (glyphiclaw13_first.ok h108)) ?_
    refine t_qz 1 [2, 3, 4, 5, 9] (σ' := [(2, .int .i64 A2), (3, .int .i64 r3), (4, .pointer (some ⟨b1, 0, none⟩)), (5, .pointer (some ⟨b2, 0, none⟩)), (9, .bool true)]) (by kernel_rfl) ?_
    refine t_end ?_
    show W _ _ _ _ _ _ _
    refine w_seq ?_
    refine w_seq ?_
    refine w_reg fun all => ?_
    refine t_qz 2 [2, 3, 4, 5, 9, 22] (σ' := [(2, .int .i64 A2), (3, .int .i64 r3), (4, .pointer (some ⟨b1, 0, none⟩)), (5, .pointer (some ⟨b2, 0, none⟩)), (9, .bool true), (22, .bool false)]) (by kernel_rfl) ?_
    refine t_end ?_
    show W _ _ _ _ _ _ _
    refine w_cond rfl (fun c_ => by cases c_) (fun _ => ?_)
    show W _ _ _ _ _ _ _
    refine w_skip ?_
    show W _ _ _ _ _ _ _
    refine w_seq ?_
    refine w_reg fun all => ?_
    refine t_qz 1 [2, 3, 4, 5, 9, 23] (σ' := [(2, .int .i64 A2), (3, .int .i64 r3), (4, .pointer (some ⟨b1, 0, none⟩)), (5, .pointer (some ⟨b2, 0, none⟩)), (9, .bool true), (23, .pointer (some ⟨b1, 0, none⟩))]) (by kernel_rfl) ?_
    refine t_v (.ld1 rfl rfl rfl (.at 1 rfl rfl)) ?_
    refine t_qz 2 [2, 3, 4, 5, 9, 25, 26] (σ' := [(2, .int .i64 A2), (3, .int .i64 r3), (4, .pointer (some ⟨b1, 0, none⟩)), (5, .pointer (some ⟨b2, 0, none⟩)), (9, .bool true), (25, .int .i64 (Int.tmod t0_X 1000000000000)), (26, .pointer (some ⟨b1, 1, none⟩))]) (by kernel_rfl) ?_
    refine t_v (.ld1 rfl rfl rfl (.at 1 rfl rfl)) ?_
    refine t_qz 2 [2, 3, 4, 5, 9, 29] (σ' := [(2, .int .i64 A2), (3, .int .i64 r3), (4, .pointer (some ⟨b1, 0, none⟩)), (5, .pointer (some ⟨b2, 0, none⟩)), (9, .bool true), (29, .agg #[.int .i64 (Int.tmod t0_X 1000000000000), .int .i64 (Int.tmod t0_Y 1000000000000)])]) (by kernel_rfl) ?_
    refine t_sti 1 (cs := [.int .i64 (Int.tmod t0_X 1000000000000), .int .i64 (Int.tmod t0_Y 1000000000000)]) rfl rfl rfl rfl rfl rfl rfl rfl rfl ?_
    refine t_keep [2, 3, 4, 5, 9] (σ' := [(2, .int .i64 A2), (3, .int .i64 r3), (4, .pointer (some ⟨b1, 0, none⟩)), (5, .pointer (some ⟨b2, 0, none⟩)), (9, .bool true)]) (by kernel_rfl) ?_
    refine t_end ?_
    show W _ _ _ _ _ _ _
    refine w_seq ?_
    refine w_reg fun all => ?_
    refine t_qz 1 [2, 3, 4, 5, 9, 30] (σ' := [(2, .int .i64 A2), (3, .int .i64 r3), (4, .pointer (some ⟨b1, 0, none⟩)), (5, .pointer (some ⟨b2, 0, none⟩)), (9, .bool true), (30, .pointer (some ⟨b2, 0, none⟩))]) (by kernel_rfl) ?_
    refine t_v (.ld1 rfl rfl rfl (.at 0 rfl rfl)) ?_
    refine t_qz 2 [2, 3, 4, 5, 9, 32, 33] (σ' := [(2, .int .i64 A2), (3, .int .i64 r3), (4, .pointer (some ⟨b1, 0, none⟩)), (5, .pointer (some ⟨b2, 0, none⟩)), (9, .bool true), (32, .int .i64 (Int.tmod o1_X 1000000000000)), (33, .pointer (some ⟨b2, 1, none⟩))]) (by kernel_rfl) ?_
    refine t_v (.ld1 rfl rfl rfl (.at 0 rfl rfl)) ?_
    refine t_qz 2 [2, 3, 4, 5, 9, 36] (σ' := [(2, .int .i64 A2), (3, .int .i64 r3), (4, .pointer (some ⟨b1, 0, none⟩)), (5, .pointer (some ⟨b2, 0, none⟩)), (9, .bool true), (36, .agg #[.int .i64 (Int.tmod o1_X 1000000000000), .int .i64 (Int.tmod o1_Y 1000000000000)])]) (by kernel_rfl) ?_
    refine t_sti 0 (cs := [.int .i64 (Int.tmod o1_X 1000000000000), .int .i64 (Int.tmod o1_Y 1000000000000)]) rfl rfl rfl rfl rfl rfl rfl rfl rfl ?_
    refine t_keep [2, 3, 4, 5, 9] (σ' := [(2, .int .i64 A2), (3, .int .i64 r3), (4, .pointer (some ⟨b1, 0, none⟩)), (5, .pointer (some ⟨b2, 0, none⟩)), (9, .bool true)]) (by kernel_rfl) ?_
    refine t_end ?_
    show W _ _ _ _ _ _ _
    refine w_seq ?_
    refine w_reg fun all => ?_
    refine t_qz 3 [2, 3, 4, 5, 9] (σ' := [(2, .int .i64 (Int.tmod A2 1000000)), (3, .int .i64 r3), (4, .pointer (some ⟨b1, 0, none⟩)), (5, .pointer (some ⟨b2, 0, none⟩)), (9, .bool true)]) (by kernel_rfl) ?_
    refine t_end ?_
    show W _ _ _ _ _ _ _
    refine w_seq ?_
    refine w_reg fun all => ?_
    refine t_qz 3 [2, 3, 4, 5, 9] (σ' := [(2, .int .i64 (Int.tmod A2 1000000)), (3, .int .i64 (Int.tmod r3 1000000)), (4, .pointer (some ⟨b1, 0, none⟩)), (5, .pointer (some ⟨b2, 0, none⟩)), (9, .bool true)]) (by kernel_rfl) ?_
    refine t_end ?_
    show W _ _ _ _ _ _ _
    refine w_seq ?_
    refine w_reg fun all => ?_
    refine t_v (.ldn rfl rfl rfl (.at 1 rfl rfl)) ?_
    obtain ⟨⟨t109, t110⟩, h111, e⟩ := bind_of e
    try dsimp only at e
    refine t_qz 1 [2, 3, 4, 5, 9, 41, 42] (σ' := [(2, .int .i64 (Int.tmod A2 1000000)), (3, .int .i64 (Int.tmod r3 1000000)), (4, .pointer (some ⟨b1, 0, none⟩)), (5, .pointer (some ⟨b2, 0, none⟩)), (9, .bool true), (41, .agg #[.int .i64 (Int.tmod t0_X 1000000000000), .int .i64 (Int.tmod t0_Y 1000000000000)]), (42, .int .i64 (Int.tmod A2 1000000))]) (by kernel_rfl) ?_
    refine t_v (.call (vs := [.agg #[.int .i64 (Int.tmod t0_X 1000000000000), .int .i64 (Int.tmod t0_Y 1000000000000)], .int .i64 (Int.tmod A2 1000000)]) rfl rfl (by kernel_rfl) (turn_Quarter.ok h111)) ?_
    obtain ⟨⟨t112, t113⟩, h114, e⟩ := bind_of e
    try dsimp only at e
    refine t_qz 1 [2, 3, 4, 5, 9, 43, 44] (σ' := [(2, .int .i64 (Int.tmod A2 1000000)), (3, .int .i64 (Int.tmod r3 1000000)), (4, .pointer (some ⟨b1, 0, none⟩)), (5, .pointer (some ⟨b2, 0, none⟩)), (9, .bool true), (43, .agg #[.int .i64 t109, .int .i64 t110]), (44, .int .i64 (Int.tmod r3 1000000))]) (by kernel_rfl) ?_
    refine t_v (.call (vs := [.agg #[.int .i64 t109, .int .i64 t110], .int .i64 (Int.tmod r3 1000000)]) rfl rfl (by kernel_rfl) (turn_Quarter.ok h114)) ?_
    refine t_a (.new rfl rfl) fun b115 fb115 sb115 => ?_
    refine t_sti 0 (cs := [.int .i64 t112, .int .i64 t113]) rfl rfl rfl rfl rfl rfl rfl rfl rfl ?_
    refine t_keep [2, 3, 4, 5, 9, 10] (σ' := [(2, .int .i64 (Int.tmod A2 1000000)), (3, .int .i64 (Int.tmod r3 1000000)), (4, .pointer (some ⟨b1, 0, none⟩)), (5, .pointer (some ⟨b2, 0, none⟩)), (9, .bool true), (10, .pointer (some ⟨b115, 0, none⟩))]) (by kernel_rfl) ?_
    refine t_end ?_
    show W _ _ _ _ _ _ _
    refine w_seq ?_
    refine w_reg fun all => ?_
    refine t_v (.ldn rfl rfl rfl (.at 2 rfl rfl)) ?_
    obtain ⟨⟨t116, t117⟩, h118, e⟩ := bind_of e
    try dsimp only at e
    refine t_qz 3 [2, 4, 5, 9, 10, 46, 49] (σ' := [(2, .int .i64 (Int.tmod A2 1000000)), (4, .pointer (some ⟨b1, 0, none⟩)), (5, .pointer (some ⟨b2, 0, none⟩)), (9, .bool true), (10, .pointer (some ⟨b115, 0, none⟩)), (46, .agg #[.int .i64 (Int.tmod t0_X 1000000000000), .int .i64 (Int.tmod t0_Y 1000000000000)]), (49, .int .i64 (wr64 ((Int.tmod A2 1000000) + (Int.tmod r3 1000000))))]) (by kernel_rfl) ?_
    refine t_v (.call (vs := [.agg #[.int .i64 (Int.tmod t0_X 1000000000000), .int .i64 (Int.tmod t0_Y 1000000000000)], .int .i64 (wr64 ((Int.tmod A2 1000000) + (Int.tmod r3 1000000)))]) rfl rfl (by kernel_rfl) (turn_Quarter.ok h118)) ?_
    refine t_a (.new rfl rfl) fun b119 fb119 sb119 => ?_
    refine t_sti 0 (cs := [.int .i64 t116, .int .i64 t117]) rfl rfl rfl rfl rfl rfl rfl rfl rfl ?_
    refine t_keep [2, 4, 5, 9, 10, 11] (σ' := [(2, .int .i64 (Int.tmod A2 1000000)), (4, .pointer (some ⟨b1, 0, none⟩)), (5, .pointer (some ⟨b2, 0, none⟩)), (9, .bool true), (10, .pointer (some ⟨b115, 0, none⟩)), (11, .pointer (some ⟨b119, 0, none⟩))]) (by kernel_rfl) ?_
    refine t_end ?_
    show W _ _ _ _ _ _ _
    refine w_seq ?_
    refine w_reg fun all => ?_
    refine t_v (.ldn rfl rfl rfl (.at 3 rfl rfl)) ?_
    obtain ⟨⟨t120, t121⟩, h122, e⟩ := bind_of e
    try dsimp only at e
    refine t_v (.call (vs := [.agg #[.int .i64 (Int.tmod t0_X 1000000000000), .int .i64 (Int.tmod t0_Y 1000000000000)], .int .i64 2]) rfl rfl (by kernel_rfl) (turn_Quarter.ok h122)) ?_
    refine t_a (.new rfl rfl) fun b123 fb123 sb123 => ?_
    refine t_sti 0 (cs := [.int .i64 t120, .int .i64 t121]) rfl rfl rfl rfl rfl rfl rfl rfl rfl ?_
    refine t_keep [2, 4, 5, 9, 10, 11, 12] (σ' := [(2, .int .i64 (Int.tmod A2 1000000)), (4, .pointer (some ⟨b1, 0, none⟩)), (5, .pointer (some ⟨b2, 0, none⟩)), (9, .bool true), (10, .pointer (some ⟨b115, 0, none⟩)), (11, .pointer (some ⟨b119, 0, none⟩)), (12, .pointer (some ⟨b123, 0, none⟩))]) (by kernel_rfl) ?_
    refine t_end ?_
    show W _ _ _ _ _ _ _
    refine w_seq ?_
    refine w_reg fun all => ?_
    refine t_v (.ldn rfl rfl rfl (.at 4 rfl rfl)) ?_
    obtain ⟨⟨t124, t125, t126⟩, h127, e⟩ := bind_of e
    try dsimp only at e
    refine t_qz 1 [2, 4, 5, 9, 10, 11, 12, 54, 55] (σ' := [(2, .int .i64 (Int.tmod A2 1000000)), (4, .pointer (some ⟨b1, 0, none⟩)), (5, .pointer (some ⟨b2, 0, none⟩)), (9, .bool true), (10, .pointer (some ⟨b115, 0, none⟩)), (11, .pointer (some ⟨b119, 0, none⟩)), (12, .pointer (some ⟨b123, 0, none⟩)), (54, .agg #[.int .i64 (Int.tmod t0_X 1000000000000), .int .i64 (Int.tmod t0_Y 1000000000000)]), (55, .agg #[.int .i64 0, .int .i64 0])]) (by kernel_rfl) ?_
    refine t_v (.call (vs := [.agg #[.int .i64 (Int.tmod t0_X 1000000000000), .int .i64 (Int.tmod t0_Y 1000000000000)], .agg #[.int .i64 0, .int .i64 0], .int .i64 1000000, .int .i64 0]) rfl rfl (by kernel_rfl) (turn_Apply.ok h127)) ?_
    by_cases c128 : t126 = true
    · rw [if_pos c128] at e
      have c128b : t126 = true := c128
      refine t_qz 2 [2, 4, 5, 9, 10, 11, 12, 53, 57] (σ' := [(2, .int .i64 (Int.tmod A2 1000000)), (4, .pointer (some ⟨b1, 0, none⟩)), (5, .pointer (some ⟨b2, 0, none⟩)), (9, .bool true), (10, .pointer (some ⟨b115, 0, none⟩)), (11, .pointer (some ⟨b119, 0, none⟩)), (12, .pointer (some ⟨b123, 0, none⟩)), (53, .tuple #[.agg #[.int .i64 t124, .int .i64 t125], .bool t126]), (57, .agg #[.int .i64 t124, .int .i64 t125])]) (by kernel_rfl) ?_
      refine t_v (dv_quiet rfl (congrArg (fun t => some (Value.bool t)) c128b)) ?_
      refine t_a (.new rfl rfl) fun b129 fb129 sb129 => ?_
      refine t_sti 0 (cs := [.int .i64 t124, .int .i64 t125]) rfl rfl rfl rfl rfl rfl rfl rfl rfl ?_
      refine t_qz 1 [2, 4, 5, 9, 10, 11, 12, 13, 14] (σ' := [(2, .int .i64 (Int.tmod A2 1000000)), (4, .pointer (some ⟨b1, 0, none⟩)), (5, .pointer (some ⟨b2, 0, none⟩)), (9, .bool true), (10, .pointer (some ⟨b115, 0, none⟩)), (11, .pointer (some ⟨b119, 0, none⟩)), (12, .pointer (some ⟨b123, 0, none⟩)), (13, .pointer (some ⟨b129, 0, none⟩)), (14, .bool true)]) (by kernel_rfl) ?_
      refine t_end ?_
      show W _ _ _ _ _ _ _
      refine w_seq ?_
      refine w_reg fun all => ?_
      refine t_v (.ldn rfl rfl rfl (.at 5 rfl rfl)) ?_
      refine t_v (.ldn rfl rfl rfl (.at 4 rfl rfl)) ?_
      obtain ⟨⟨t130, t131, t132⟩, h133, e⟩ := bind_of e
      try dsimp only at e
      refine t_qz 1 [2, 4, 5, 9, 10, 11, 12, 13, 14, 60, 61, 62] (σ' := [(2, .int .i64 (Int.tmod A2 1000000)), (4, .pointer (some ⟨b1, 0, none⟩)), (5, .pointer (some ⟨b2, 0, none⟩)), (9, .bool true), (10, .pointer (some ⟨b115, 0, none⟩)), (11, .pointer (some ⟨b119, 0, none⟩)), (12, .pointer (some ⟨b123, 0, none⟩)), (13, .pointer (some ⟨b129, 0, none⟩)), (14, .bool true), (60, .agg #[.int .i64 (Int.tmod t0_X 1000000000000), .int .i64 (Int.tmod t0_Y 1000000000000)]), (61, .agg #[.int .i64 (Int.tmod o1_X 1000000000000), .int .i64 (Int.tmod o1_Y 1000000000000)]), (62, .int .i64 (Int.tmod A2 1000000))]) (by kernel_rfl) ?_
      refine t_v (.call (vs := [.agg #[.int .i64 (Int.tmod t0_X 1000000000000), .int .i64 (Int.tmod t0_Y 1000000000000)], .agg #[.int .i64 (Int.tmod o1_X 1000000000000), .int .i64 (Int.tmod o1_Y 1000000000000)], .int .i64 2000000, .int .i64 (Int.tmod A2 1000000)]) rfl rfl (by kernel_rfl) (turn_Apply.ok h133)) ?_
      by_cases c134 : t132 = true
      · rw [if_pos c134] at e
        have c134b : t132 = true := c134
        refine t_qz 2 [2, 4, 5, 9, 10, 11, 12, 13, 14, 59, 64] (σ' := [(2, .int .i64 (Int.tmod A2 1000000)), (4, .pointer (some ⟨b1, 0, none⟩)), (5, .pointer (some ⟨b2, 0, none⟩)), (9, .bool true), (10, .pointer (some ⟨b115, 0, none⟩)), (11, .pointer (some ⟨b119, 0, none⟩)), (12, .pointer (some ⟨b123, 0, none⟩)), (13, .pointer (some ⟨b129, 0, none⟩)), (14, .bool true), (59, .tuple #[.agg #[.int .i64 t130, .int .i64 t131], .bool t132]), (64, .agg #[.int .i64 t130, .int .i64 t131])]) (by kernel_rfl) ?_
        refine t_v (dv_quiet rfl (congrArg (fun t => some (Value.bool t)) c134b)) ?_
        refine t_a (.new rfl rfl) fun b135 fb135 sb135 => ?_
        refine t_sti 0 (cs := [.int .i64 t130, .int .i64 t131]) rfl rfl rfl rfl rfl rfl rfl rfl rfl ?_
        refine t_qz 1 [2, 4, 5, 9, 10, 11, 12, 13, 14, 15, 16] (σ' := [(2, .int .i64 (Int.tmod A2 1000000)), (4, .pointer (some ⟨b1, 0, none⟩)), (5, .pointer (some ⟨b2, 0, none⟩)), (9, .bool true), (10, .pointer (some ⟨b115, 0, none⟩)), (11, .pointer (some ⟨b119, 0, none⟩)), (12, .pointer (some ⟨b123, 0, none⟩)), (13, .pointer (some ⟨b129, 0, none⟩)), (14, .bool true), (15, .pointer (some ⟨b135, 0, none⟩)), (16, .bool true)]) (by kernel_rfl) ?_
        refine t_end ?_
        show W _ _ _ _ _ _ _
        refine w_seq ?_
        refine w_reg fun all => ?_
        refine t_qz 1 [2, 4, 5, 9, 10, 11, 12, 13, 14, 15, 16, 66] (σ' := [(2, .int .i64 (Int.tmod A2 1000000)), (4, .pointer (some ⟨b1, 0, none⟩)), (5, .pointer (some ⟨b2, 0, none⟩)), (9, .bool true), (10, .pointer (some ⟨b115, 0, none⟩)), (11, .pointer (some ⟨b119, 0, none⟩)), (12, .pointer (some ⟨b123, 0, none⟩)), (13, .pointer (some ⟨b129, 0, none⟩)), (14, .bool true), (15, .pointer (some ⟨b135, 0, none⟩)), (16, .bool true), (66, .pointer (some ⟨b1, 0, none⟩))]) (by kernel_rfl) ?_
        refine t_v (.ld1 rfl rfl rfl (.at 6 rfl rfl)) ?_
        refine t_qz 2 [2, 4, 5, 9, 10, 11, 12, 13, 14, 15, 16, 68, 69] (σ' := [(2, .int .i64 (Int.tmod A2 1000000)), (4, .pointer (some ⟨b1, 0, none⟩)), (5, .pointer (some ⟨b2, 0, none⟩)), (9, .bool true), (10, .pointer (some ⟨b115, 0, none⟩)), (11, .pointer (some ⟨b119, 0, none⟩)), (12, .pointer (some ⟨b123, 0, none⟩)), (13, .pointer (some ⟨b129, 0, none⟩)), (14, .bool true), (15, .pointer (some ⟨b135, 0, none⟩)), (16, .bool true), (68, .int .i64 (wr64 (2 * (Int.tmod t0_X 1000000000000)))), (69, .pointer (some ⟨b1, 1, none⟩))]) (by kernel_rfl) ?_
        refine t_v (.ld1 rfl rfl rfl (.at 6 rfl rfl)) ?_
        obtain ⟨⟨t136, t137⟩, h138, e⟩ := bind_of e
        try dsimp only at e
        refine t_qz 3 [2, 4, 5, 9, 10, 11, 12, 13, 14, 15, 16, 72, 73] (σ' := [(2, .int .i64 (Int.tmod A2 1000000)), (4, .pointer (some ⟨b1, 0, none⟩)), (5, .pointer (some ⟨b2, 0, none⟩)), (9, .bool true), (10, .pointer (some ⟨b115, 0, none⟩)), (11, .pointer (some ⟨b119, 0, none⟩)), (12, .pointer (some ⟨b123, 0, none⟩)), (13, .pointer (some ⟨b129, 0, none⟩)), (14, .bool true), (15, .pointer (some ⟨b135, 0, none⟩)), (16, .bool true), (72, .agg #[.int .i64 (wr64 (2 * (Int.tmod t0_X 1000000000000))), .int .i64 (wr64 (2 * (Int.tmod t0_Y 1000000000000)))]), (73, .int .i64 (Int.tmod A2 1000000))]) (by kernel_rfl) ?_
        refine t_v (.call (vs := [.agg #[.int .i64 (wr64 (2 * (Int.tmod t0_X 1000000000000))), .int .i64 (wr64 (2 * (Int.tmod t0_Y 1000000000000)))], .int .i64 (Int.tmod A2 1000000)]) rfl rfl (by kernel_rfl) (turn_Quarter.ok h138)) ?_
        refine t_a (.new rfl rfl) fun b139 fb139 sb139 => ?_
        refine t_sti 0 (cs := [.int .i64 t136, .int .i64 t137]) rfl rfl rfl rfl rfl rfl rfl rfl rfl ?_
        refine t_keep [2, 4, 5, 9, 10, 11, 12, 13, 14, 15, 16, 17] (σ' := [(2, .int .i64 (Int.tmod A2 1000000)), (4, .pointer (some ⟨b1, 0, none⟩)), (5, .pointer (some ⟨b2, 0, none⟩)), (9, .bool true), (10, .pointer (some ⟨b115, 0, none⟩)), (11, .pointer (some ⟨b119, 0, none⟩)), (12, .pointer (some ⟨b123, 0, none⟩)), (13, .pointer (some ⟨b129, 0, none⟩)), (14, .bool true), (15, .pointer (some ⟨b135, 0, none⟩)), (16, .bool true), (17, .pointer (some ⟨b139, 0, none⟩))]) (by kernel_rfl) ?_
        refine t_end ?_
        show W _ _ _ _ _ _ _
        refine w_seq ?_
        refine w_reg fun all => ?_
        refine t_qz 1 [2, 4, 5, 9, 10, 11, 12, 13, 14, 15, 16, 17, 76] (σ' := [(2, .int .i64 (Int.tmod A2 1000000)), (4, .pointer (some ⟨b1, 0, none⟩)), (5, .pointer (some ⟨b2, 0, none⟩)), (9, .bool true), (10, .pointer (some ⟨b115, 0, none⟩)), (11, .pointer (some ⟨b119, 0, none⟩)), (12, .pointer (some ⟨b123, 0, none⟩)), (13, .pointer (some ⟨b129, 0, none⟩)), (14, .bool true), (15, .pointer (some ⟨b135, 0, none⟩)), (16, .bool true), (17, .pointer (some ⟨b139, 0, none⟩)), (76, .agg #[.int .i64 1000000000000001, .int .i64 0])]) (by kernel_rfl) ?_
        refine t_v (.ldn rfl rfl rfl (.at 6 rfl rfl)) ?_
        obtain ⟨⟨t140, t141, t142⟩, h143, e⟩ := bind_of e
        try dsimp only at e
        refine t_v (.call (vs := [.agg #[.int .i64 1000000000000001, .int .i64 0], .agg #[.int .i64 (Int.tmod o1_X 1000000000000), .int .i64 (Int.tmod o1_Y 1000000000000)], .int .i64 1000000, .int .i64 0]) rfl rfl (by kernel_rfl) (turn_Apply.ok h143)) ?_
        refine t_qz 3 [2, 4, 5, 9, 10, 11, 12, 13, 14, 15, 16, 17, 79, 80] (σ' := [(2, .int .i64 (Int.tmod A2 1000000)), (4, .pointer (some ⟨b1, 0, none⟩)), (5, .pointer (some ⟨b2, 0, none⟩)), (9, .bool true), (10, .pointer (some ⟨b115, 0, none⟩)), (11, .pointer (some ⟨b119, 0, none⟩)), (12, .pointer (some ⟨b123, 0, none⟩)), (13, .pointer (some ⟨b129, 0, none⟩)), (14, .bool true), (15, .pointer (some ⟨b135, 0, none⟩)), (16, .bool true), (17, .pointer (some ⟨b139, 0, none⟩)), (79, .agg #[.int .i64 t140, .int .i64 t141]), (80, .bool t142)]) (by kernel_rfl) ?_
        refine t_a (.new rfl rfl) fun b144 fb144 sb144 => ?_
        refine t_sti 0 (cs := [.int .i64 t140, .int .i64 t141]) rfl rfl rfl rfl rfl rfl rfl rfl rfl ?_
        refine t_qz 1 [2, 4, 5, 9, 10, 11, 12, 13, 14, 15, 16, 17, 19] (σ' := [(2, .int .i64 (Int.tmod A2 1000000)), (4, .pointer (some ⟨b1, 0, none⟩)), (5, .pointer (some ⟨b2, 0, none⟩)), (9, .bool true), (10, .pointer (some ⟨b115, 0, none⟩)), (11, .pointer (some ⟨b119, 0, none⟩)), (12, .pointer (some ⟨b123, 0, none⟩)), (13, .pointer (some ⟨b129, 0, none⟩)), (14, .bool true), (15, .pointer (some ⟨b135, 0, none⟩)), (16, .bool true), (17, .pointer (some ⟨b139, 0, none⟩)), (19, .bool t142)]) (by kernel_rfl) ?_
        refine t_end ?_
        show W _ _ _ _ _ _ _
        refine w_seq ?_
        obtain ⟨t148, h149, e⟩ := bind_of e
        cases t148 with
        | true =>
          rw [if_pos rfl] at e
          obtain ⟨⟨t150, t151⟩, h152, e⟩ := bind_of e
          try dsimp only at e
          obtain ⟨t153, h154, e⟩ := bind_of e
          cases t153 with
          | true =>
            rw [if_pos rfl] at e
            obtain ⟨⟨t155, t156⟩, h157, e⟩ := bind_of e
            try dsimp only at e
            obtain ⟨⟨t158, t159⟩, h160, e⟩ := bind_of e
            try dsimp only at e
            obtain ⟨t161, h162, e⟩ := bind_of e
            cases t161 with
            | true =>
              rw [if_pos rfl] at e
              by_cases c163 : t120 = (wr64 (0 - (Int.tmod t0_X 1000000000000)))
              · rw [if_pos c163] at e
                have c163b : (t120 == (wr64 (0 - (Int.tmod t0_X 1000000000000)))) = true := beq_iff_eq.mpr c163
                by_cases c164 : t121 = (wr64 (0 - (Int.tmod t0_Y 1000000000000)))
                · rw [if_pos c164] at e
                  have c164b : (t121 == (wr64 (0 - (Int.tmod t0_Y 1000000000000)))) = true := beq_iff_eq.mpr c164
                  obtain ⟨t165, h166, e⟩ := bind_of e
                  cases t165 with
                  | true =>
                    rw [if_pos rfl] at e
                    by_cases c167 : t130 = (wr64 (t136 + (Int.tmod o1_X 1000000000000)))
                    · rw [if_pos c167] at e
                      have c167b : (t130 == (wr64 (t136 + (Int.tmod o1_X 1000000000000)))) = true := beq_iff_eq.mpr c167
                      by_cases c168 : t131 = (wr64 (t137 + (Int.tmod o1_Y 1000000000000)))
                      · rw [if_pos c168] at e
                        have c168b : (t131 == (wr64 (t137 + (Int.tmod o1_Y 1000000000000)))) = true := beq_iff_eq.mpr c168
                        refine w_drwE mixed 74 [.v (.bool true), .v (.bool true), .v (.agg #[.int .i64 t112, .int .i64 t113]), .v (.agg #[.int .i64 t116, .int .i64 t117]), .v (.bool true), .v (.bool true), .v (.bool true), .v (.agg #[.int .i64 (Int.tmod t0_X 1000000000000), .int .i64 (Int.tmod t0_Y 1000000000000)]), .v (.agg #[.int .i64 t150, .int .i64 t151]), .v (.agg #[.int .i64 (Int.tmod t0_X 1000000000000), .int .i64 (Int.tmod t0_Y 1000000000000)]), .v (.bool true), .v (.bool true), .v (.bool true), .v (.agg #[.int .i64 (Int.tmod t0_X 1000000000000), .int .i64 (Int.tmod t0_Y 1000000000000)]), .v (.int .i64 (Int.tmod A2 1000000)), .v (.agg #[.int .i64 t155, .int .i64 t156]), .v (.int .i64 (Int.tmod A2 1000000)), .v (.int .i64 (wr64 (0 - (Int.tmod A2 1000000)))), .v (.agg #[.int .i64 t158, .int .i64 t159]), .v (.agg #[.int .i64 (Int.tmod t0_X 1000000000000), .int .i64 (Int.tmod t0_Y 1000000000000)]), .v (.bool true), .v (.bool true), .v (.bool true), .v (.pointer (some ⟨b123, 0, none⟩)), .v (.int .i64 t120), .v (.pointer (some ⟨b1, 0, none⟩)), .v (.int .i64 (Int.tmod t0_X 1000000000000)), .v (.int .i64 (wr64 (0 - (Int.tmod t0_X 1000000000000)))), .v (.bool true), .v (.bool true), .v (.bool true), .v (.pointer (some ⟨b123, 1, none⟩)), .v (.int .i64 t121), .v (.pointer (some ⟨b1, 1, none⟩)), .v (.int .i64 (Int.tmod t0_Y 1000000000000)), .v (.int .i64 (wr64 (0 - (Int.tmod t0_Y 1000000000000)))), .v (.bool true), .v (.bool true), .v (.bool true), .v (.bool true), .v (.bool true), .v (.bool true), .v (.agg #[.int .i64 t124, .int .i64 t125]), .v (.agg #[.int .i64 (Int.tmod t0_X 1000000000000), .int .i64 (Int.tmod t0_Y 1000000000000)]), .v (.bool true), .v (.bool true), .v (.bool true), .v (.bool true), .v (.bool true), .v (.bool true), .v (.pointer (some ⟨b135, 0, none⟩)), .v (.int .i64 t130), .v (.pointer (some ⟨b139, 0, none⟩)), .v (.int .i64 t136), .v (.pointer (some ⟨b2, 0, none⟩)), .v (.int .i64 (Int.tmod o1_X 1000000000000)), .v (.int .i64 (wr64 (t136 + (Int.tmod o1_X 1000000000000)))), .v (.bool true), .v (.bool true), .v (.bool true), .v (.pointer (some ⟨b135, 1, none⟩)), .v (.int .i64 t131), .v (.pointer (some ⟨b139, 1, none⟩)), .v (.int .i64 t137), .v (.pointer (some ⟨b2, 1, none⟩)), .v (.int .i64 (Int.tmod o1_Y 1000000000000)), .v (.int .i64 (wr64 (t137 + (Int.tmod o1_Y 1000000000000)))), .v (.bool true), .v (.bool true), .v (.bool true), .v (.bool t142), .v (.bool (!t142)), .v (.bool (!t142)), .v (.bool (!t142))] (by kernel_rfl) ?_ ?_
                        · refine DI.sq 2 (by kernel_rfl) rfl ?_
                          refine .cons (.ldn rfl rfl rfl (.at 6 rfl rfl)) ?_
                          refine .cons (.ldn rfl rfl rfl (.at 5 rfl rfl)) ?_
                          refine .cons (.call (vs := [.agg #[.int .i64 t112, .int .i64 t113], .agg #[.int .i64 t116, .int .i64 t117]]) rfl rfl (by kernel_rfl) (glyphicref_SamePoint.ok h149)) ?_
                          refine DI.sq 2 (by kernel_rfl) rfl ?_
                          refine .cons (.ldn rfl rfl rfl (.at 8 rfl rfl)) ?_
                          refine .cons (.call (vs := [.agg #[.int .i64 (Int.tmod t0_X 1000000000000), .int .i64 (Int.tmod t0_Y 1000000000000)], .int .i64 4]) rfl rfl (by kernel_rfl) (turn_Quarter.ok h152)) ?_
                          refine .cons (.ldn rfl rfl rfl (.at 8 rfl rfl)) ?_
                          refine .cons (.call (vs := [.agg #[.int .i64 t150, .int .i64 t151], .agg #[.int .i64 (Int.tmod t0_X 1000000000000), .int .i64 (Int.tmod t0_Y 1000000000000)]]) rfl rfl (by kernel_rfl) (glyphicref_SamePoint.ok h154)) ?_
                          refine DI.sq 2 (by kernel_rfl) rfl ?_
                          refine .cons (.ldn rfl rfl rfl (.at 8 rfl rfl)) ?_
                          refine DI.sq 1 (by kernel_rfl) rfl ?_
                          refine .cons (.call (vs := [.agg #[.int .i64 (Int.tmod t0_X 1000000000000), .int .i64 (Int.tmod t0_Y 1000000000000)], .int .i64 (Int.tmod A2 1000000)]) rfl rfl (by kernel_rfl) (turn_Quarter.ok h157)) ?_
                          refine DI.sq 2 (by kernel_rfl) rfl ?_
                          refine .cons (.call (vs := [.agg #[.int .i64 t155, .int .i64 t156], .int .i64 (wr64 (0 - (Int.tmod A2 1000000)))]) rfl rfl (by kernel_rfl) (turn_Quarter.ok h160)) ?_
                          refine .cons (.ldn rfl rfl rfl (.at 8 rfl rfl)) ?_
                          refine .cons (.call (vs := [.agg #[.int .i64 t158, .int .i64 t159], .agg #[.int .i64 (Int.tmod t0_X 1000000000000), .int .i64 (Int.tmod t0_Y 1000000000000)]]) rfl rfl (by kernel_rfl) (glyphicref_SamePoint.ok h162)) ?_
                          refine DI.sq 3 (by kernel_rfl) rfl ?_
                          refine .cons (.ld1 rfl rfl rfl (.at 4 rfl rfl)) ?_
                          refine DI.sq 1 (by kernel_rfl) rfl ?_
                          refine .cons (.ld1 rfl rfl rfl (.at 8 rfl rfl)) ?_
                          refine DI.sq 1 (by kernel_rfl) rfl ?_
                          refine .cons (dv_quiet rfl (congrArg (fun t => some (Value.bool t)) c163b)) ?_
                          refine DI.sq 3 (by kernel_rfl) rfl ?_
                          refine .cons (.ld1 rfl rfl rfl (.at 4 rfl rfl)) ?_
                          refine DI.sq 1 (by kernel_rfl) rfl ?_
                          refine .cons (.ld1 rfl rfl rfl (.at 8 rfl rfl)) ?_
                          refine DI.sq 1 (by kernel_rfl) rfl ?_
                          refine .cons (dv_quiet rfl (congrArg (fun t => some (Value.bool t)) c164b)) ?_
                          refine DI.sq 5 (by kernel_rfl) rfl ?_
                          refine .cons (.ldn rfl rfl rfl (.at 3 rfl rfl)) ?_
                          refine .cons (.ldn rfl rfl rfl (.at 8 rfl rfl)) ?_
                          refine .cons (.call (vs := [.agg #[.int .i64 t124, .int .i64 t125], .agg #[.int .i64 (Int.tmod t0_X 1000000000000), .int .i64 (Int.tmod t0_Y 1000000000000)]]) rfl rfl (by kernel_rfl) (glyphicref_SamePoint.ok h166)) ?_
                          refine DI.sq 6 (by kernel_rfl) rfl ?_
                          refine .cons (.ld1 rfl rfl rfl (.at 2 rfl rfl)) ?_
                          refine DI.sq 1 (by kernel_rfl) rfl ?_
                          refine .cons (.ld1 rfl rfl rfl (.at 1 rfl rfl)) ?_
                          refine DI.sq 1 (by kernel_rfl) rfl ?_
                          refine .cons (.ld1 rfl rfl rfl (.at 7 rfl rfl)) ?_
                          refine DI.sq 1 (by kernel_rfl) rfl ?_
                          refine .cons (dv_quiet rfl (congrArg (fun t => some (Value.bool t)) c167b)) ?_
                          refine DI.sq 3 (by kernel_rfl) rfl ?_
                          refine .cons (.ld1 rfl rfl rfl (.at 2 rfl rfl)) ?_
                          refine DI.sq 1 (by kernel_rfl) rfl ?_
                          refine .cons (.ld1 rfl rfl rfl (.at 1 rfl rfl)) ?_
                          refine DI.sq 1 (by kernel_rfl) rfl ?_
                          refine .cons (.ld1 rfl rfl rfl (.at 7 rfl rfl)) ?_
                          refine DI.sq 1 (by kernel_rfl) rfl ?_
                          refine .cons (dv_quiet rfl (congrArg (fun t => some (Value.bool t)) c168b)) ?_
                          refine DI.sq 6 (by kernel_rfl) rfl ?_
                          exact .nil
                        refine fk_q 74 [8] (σ' := [(8, .bool (!t142))]) t_more (by kernel_rfl) ?_
                        refine fk_nil fun all => ?_
                        refine t_keep [8] (σ' := [(8, .bool (!t142))]) (by kernel_rfl) ?_
                        refine t_end ?_
                        show W _ _ _ _ _ _ _
                        refine w_ret ?_
                        have hr_ := Option.some.inj e
                        exact ⟨[.bool (!t142)], [], S, ⟨rfl, trivial⟩, VS.none, congrArg Value.bool hr_, rfl, rfl⟩
                      · rw [if_neg c168] at e
                        exact absurd (Option.some.inj e) (by decide)
                    · rw [if_neg c167] at e
                      exact absurd (Option.some.inj e) (by decide)
                  | false =>
                    rw [if_neg (by decide)] at e
                    exact absurd (Option.some.inj e) (by decide)
                · rw [if_neg c164] at e
                  exact absurd (Option.some.inj e) (by decide)
              · rw [if_neg c163] at e
                exact absurd (Option.some.inj e) (by decide)
            | false =>
              rw [if_neg (by decide)] at e
              exact absurd (Option.some.inj e) (by decide)
          | false =>
            rw [if_neg (by decide)] at e
            exact absurd (Option.some.inj e) (by decide)
        | false =>
          rw [if_neg (by decide)] at e
          exact absurd (Option.some.inj e) (by decide)
      · rw [if_neg c134] at e
        have c134b : t132 = false := Bool.eq_false_iff.mpr c134
        refine t_qz 2 [2, 4, 5, 9, 10, 11, 12, 13, 14, 59, 64] (σ' := [(2, .int .i64 (Int.tmod A2 1000000)), (4, .pointer (some ⟨b1, 0, none⟩)), (5, .pointer (some ⟨b2, 0, none⟩)), (9, .bool true), (10, .pointer (some ⟨b115, 0, none⟩)), (11, .pointer (some ⟨b119, 0, none⟩)), (12, .pointer (some ⟨b123, 0, none⟩)), (13, .pointer (some ⟨b129, 0, none⟩)), (14, .bool true), (59, .tuple #[.agg #[.int .i64 t130, .int .i64 t131], .bool t132]), (64, .agg #[.int .i64 t130, .int .i64 t131])]) (by kernel_rfl) ?_
        refine t_v (dv_quiet rfl (congrArg (fun t => some (Value.bool t)) c134b)) ?_
        refine t_a (.new rfl rfl) fun b169 fb169 sb169 => ?_
        refine t_sti 0 (cs := [.int .i64 t130, .int .i64 t131]) rfl rfl rfl rfl rfl rfl rfl rfl rfl ?_
        refine t_qz 1 [2, 4, 5, 9, 10, 11, 12, 13, 14, 15, 16] (σ' := [(2, .int .i64 (Int.tmod A2 1000000)), (4, .pointer (some ⟨b1, 0, none⟩)), (5, .pointer (some ⟨b2, 0, none⟩)), (9, .bool true), (10, .pointer (some ⟨b115, 0, none⟩)), (11, .pointer (some ⟨b119, 0, none⟩)), (12, .pointer (some ⟨b123, 0, none⟩)), (13, .pointer (some ⟨b129, 0, none⟩)), (14, .bool true), (15, .pointer (some ⟨b169, 0, none⟩)), (16, .bool false)]) (by kernel_rfl) ?_
        refine t_end ?_
        show W _ _ _ _ _ _ _
        refine w_seq ?_
        refine w_reg fun all => ?_
        refine t_qz 1 [2, 4, 5, 9, 10, 11, 12, 13, 14, 15, 16, 66] (σ' := [(2, .int .i64 (Int.tmod A2 1000000)), (4, .pointer (some ⟨b1, 0, none⟩)), (5, .pointer (some ⟨b2, 0, none⟩)), (9, .bool true), (10, .pointer (some ⟨b115, 0, none⟩)), (11, .pointer (some ⟨b119, 0, none⟩)), (12, .pointer (some ⟨b123, 0, none⟩)), (13, .pointer (some ⟨b129, 0, none⟩)), (14, .bool true), (15, .pointer (some ⟨b169, 0, none⟩)), (16, .bool false), (66, .pointer (some ⟨b1, 0, none⟩))]) (by kernel_rfl) ?_
        refine t_v (.ld1 rfl rfl rfl (.at 6 rfl rfl)) ?_
        refine t_qz 2 [2, 4, 5, 9, 10, 11, 12, 13, 14, 15, 16, 68, 69] (σ' := [(2, .int .i64 (Int.tmod A2 1000000)), (4, .pointer (some ⟨b1, 0, none⟩)), (5, .pointer (some ⟨b2, 0, none⟩)), (9, .bool true), (10, .pointer (some ⟨b115, 0, none⟩)), (11, .pointer (some ⟨b119, 0, none⟩)), (12, .pointer (some ⟨b123, 0, none⟩)), (13, .pointer (some ⟨b129, 0, none⟩)), (14, .bool true), (15, .pointer (some ⟨b169, 0, none⟩)), (16, .bool false), (68, .int .i64 (wr64 (2 * (Int.tmod t0_X 1000000000000)))), (69, .pointer (some ⟨b1, 1, none⟩))]) (by kernel_rfl) ?_
        refine t_v (.ld1 rfl rfl rfl (.at 6 rfl rfl)) ?_
        obtain ⟨⟨t170, t171⟩, h172, e⟩ := bind_of e
        try dsimp only at e
        refine t_qz 3 [2, 4, 5, 9, 10, 11, 12, 13, 14, 15, 16, 72, 73] (σ' := [(2, .int .i64 (Int.tmod A2 1000000)), (4, .pointer (some ⟨b1, 0, none⟩)), (5, .pointer (some ⟨b2, 0, none⟩)), (9, .bool true), (10, .pointer (some ⟨b115, 0, none⟩)), (11, .pointer (some ⟨b119, 0, none⟩)), (12, .pointer (some ⟨b123, 0, none⟩)), (13, .pointer (some ⟨b129, 0, none⟩)), (14, .bool true), (15, .pointer (some ⟨b169, 0, none⟩)), (16, .bool false), (72, .agg #[.int .i64 (wr64 (2 * (Int.tmod t0_X 1000000000000))), .int .i64 (wr64 (2 * (Int.tmod t0_Y 1000000000000)))]), (73, .int .i64 (Int.tmod A2 1000000))]) (by kernel_rfl) ?_
        refine t_v (.call (vs := [.agg #[.int .i64 (wr64 (2 * (Int.tmod t0_X 1000000000000))), .int .i64 (wr64 (2 * (Int.tmod t0_Y 1000000000000)))], .int .i64 (Int.tmod A2 1000000)]) rfl rfl (by kernel_rfl) (turn_Quarter.ok h172)) ?_
        refine t_a (.new rfl rfl) fun b173 fb173 sb173 => ?_
        refine t_sti 0 (cs := [.int .i64 t170, .int .i64 t171]) rfl rfl rfl rfl rfl rfl rfl rfl rfl ?_
        refine t_keep [2, 4, 5, 9, 10, 11, 12, 13, 14, 15, 16, 17] (σ' := [(2, .int .i64 (Int.tmod A2 1000000)), (4, .pointer (some ⟨b1, 0, none⟩)), (5, .pointer (some ⟨b2, 0, none⟩)), (9, .bool true), (10, .pointer (some ⟨b115, 0, none⟩)), (11, .pointer (some ⟨b119, 0, none⟩)), (12, .pointer (some ⟨b123, 0, none⟩)), (13, .pointer (some ⟨b129, 0, none⟩)), (14, .bool true), (15, .pointer (some ⟨b169, 0, none⟩)), (16, .bool false), (17, .pointer (some ⟨b173, 0, none⟩))]) (by kernel_rfl) ?_
        refine t_end ?_
        show W _ _ _ _ _ _ _
        refine w_seq ?_
        refine w_reg fun all => ?_
        refine t_qz 1 [2, 4, 5, 9, 10, 11, 12, 13, 14, 15, 16, 17, 76] (σ' := [(2, .int .i64 (Int.tmod A2 1000000)), (4, .pointer (some ⟨b1, 0, none⟩)), (5, .pointer (some ⟨b2, 0, none⟩)), (9, .bool true), (10, .pointer (some ⟨b115, 0, none⟩)), (11, .pointer (some ⟨b119, 0, none⟩)), (12, .pointer (some ⟨b123, 0, none⟩)), (13, .pointer (some ⟨b129, 0, none⟩)), (14, .bool true), (15, .pointer (some ⟨b169, 0, none⟩)), (16, .bool false), (17, .pointer (some ⟨b173, 0, none⟩)), (76, .agg #[.int .i64 1000000000000001, .int .i64 0])]) (by kernel_rfl) ?_
        refine t_v (.ldn rfl rfl rfl (.at 6 rfl rfl)) ?_
        obtain ⟨⟨t174, t175, t176⟩, h177, e⟩ := bind_of e
        try dsimp only at e
        refine t_v (.call (vs := [.agg #[.int .i64 1000000000000001, .int .i64 0], .agg #[.int .i64 (Int.tmod o1_X 1000000000000), .int .i64 (Int.tmod o1_Y 1000000000000)], .int .i64 1000000, .int .i64 0]) rfl rfl (by kernel_rfl) (turn_Apply.ok h177)) ?_
        refine t_qz 3 [2, 4, 5, 9, 10, 11, 12, 13, 14, 15, 16, 17, 79, 80] (σ' := [(2, .int .i64 (Int.tmod A2 1000000)), (4, .pointer (some ⟨b1, 0, none⟩)), (5, .pointer (some ⟨b2, 0, none⟩)), (9, .bool true), (10, .pointer (some ⟨b115, 0, none⟩)), (11, .pointer (some ⟨b119, 0, none⟩)), (12, .pointer (some ⟨b123, 0, none⟩)), (13, .pointer (some ⟨b129, 0, none⟩)), (14, .bool true), (15, .pointer (some ⟨b169, 0, none⟩)), (16, .bool false), (17, .pointer (some ⟨b173, 0, none⟩)), (79, .agg #[.int .i64 t174, .int .i64 t175]), (80, .bool t176)]) (by kernel_rfl) ?_
        refine t_a (.new rfl rfl) fun b178 fb178 sb178 => ?_
        refine t_sti 0 (cs := [.int .i64 t174, .int .i64 t175]) rfl rfl rfl rfl rfl rfl rfl rfl rfl ?_
        refine t_qz 1 [2, 4, 5, 9, 10, 11, 12, 13, 14, 15, 16, 17, 19] (σ' := [(2, .int .i64 (Int.tmod A2 1000000)), (4, .pointer (some ⟨b1, 0, none⟩)), (5, .pointer (some ⟨b2, 0, none⟩)), (9, .bool true), (10, .pointer (some ⟨b115, 0, none⟩)), (11, .pointer (some ⟨b119, 0, none⟩)), (12, .pointer (some ⟨b123, 0, none⟩)), (13, .pointer (some ⟨b129, 0, none⟩)), (14, .bool true), (15, .pointer (some ⟨b169, 0, none⟩)), (16, .bool false), (17, .pointer (some ⟨b173, 0, none⟩)), (19, .bool t176)]) (by kernel_rfl) ?_
        refine t_end ?_
        show W _ _ _ _ _ _ _
        refine w_seq ?_
        obtain ⟨t179, h180, e⟩ := bind_of e
        cases t179 with
        | true =>
          rw [if_pos rfl] at e
          obtain ⟨⟨t181, t182⟩, h183, e⟩ := bind_of e
          try dsimp only at e
          obtain ⟨t184, h185, e⟩ := bind_of e
          cases t184 with
          | true =>
            rw [if_pos rfl] at e
            obtain ⟨⟨t186, t187⟩, h188, e⟩ := bind_of e
            try dsimp only at e
            obtain ⟨⟨t189, t190⟩, h191, e⟩ := bind_of e
            try dsimp only at e
            obtain ⟨t192, h193, e⟩ := bind_of e
            cases t192 with
            | true =>
              rw [if_pos rfl] at e
              by_cases c194 : t120 = (wr64 (0 - (Int.tmod t0_X 1000000000000)))
              · rw [if_pos c194] at e
                have c194b : (t120 == (wr64 (0 - (Int.tmod t0_X 1000000000000)))) = true := beq_iff_eq.mpr c194
                by_cases c195 : t121 = (wr64 (0 - (Int.tmod t0_Y 1000000000000)))
                · rw [if_pos c195] at e
                  have c195b : (t121 == (wr64 (0 - (Int.tmod t0_Y 1000000000000)))) = true := beq_iff_eq.mpr c195
                  obtain ⟨t196, h197, e⟩ := bind_of e
                  cases t196 with
                  | true =>
                    rw [if_pos rfl] at e
                    exact absurd (Option.some.inj e) (by decide)
                  | false =>
                    rw [if_neg (by decide)] at e
                    exact absurd (Option.some.inj e) (by decide)
                · rw [if_neg c195] at e
                  exact absurd (Option.some.inj e) (by decide)
              · rw [if_neg c194] at e
                exact absurd (Option.some.inj e) (by decide)
            | false =>
              rw [if_neg (by decide)] at e
              exact absurd (Option.some.inj e) (by decide)
          | false =>
            rw [if_neg (by decide)] at e
            exact absurd (Option.some.inj e) (by decide)
        | false =>
          rw [if_neg (by decide)] at e
          exact absurd (Option.some.inj e) (by decide)
    · rw [if_neg c128] at e
      have c128b : t126 = false := Bool.eq_false_iff.mpr c128
      refine t_qz 2 [2, 4, 5, 9, 10, 11, 12, 53, 57] (σ' := [(2, .int .i64 (Int.tmod A2 1000000)), (4, .pointer (some ⟨b1, 0, none⟩)), (5, .pointer (some ⟨b2, 0, none⟩)), (9, .bool true), (10, .pointer (some ⟨b115, 0, none⟩)), (11, .pointer (some ⟨b119, 0, none⟩)), (12, .pointer (some ⟨b123, 0, none⟩)), (53, .tuple #[.agg #[.int .i64 t124, .int .i64 t125], .bool t126]), (57, .agg #[.int .i64 t124, .int .i64 t125])]) (by kernel_rfl) ?_
      refine t_v (dv_quiet rfl (congrArg (fun t => some (Value.bool t)) c128b)) ?_
      refine t_a (.new rfl rfl) fun b198 fb198 sb198 => ?_
      refine t_sti 0 (cs := [.int .i64 t124, .int .i64 t125]) rfl rfl rfl rfl rfl rfl rfl rfl rfl ?_
      refine t_qz 1 [2, 4, 5, 9, 10, 11, 12, 13, 14] (σ' := [(2, .int .i64 (Int.tmod A2 1000000)), (4, .pointer (some ⟨b1, 0, none⟩)), (5, .pointer (some ⟨b2, 0, none⟩)), (9, .bool true), (10, .pointer (some ⟨b115, 0, none⟩)), (11, .pointer (some ⟨b119, 0, none⟩)), (12, .pointer (some ⟨b123, 0, none⟩)), (13, .pointer (some ⟨b198, 0, none⟩)), (14, .bool false)]) (by kernel_rfl) ?_
      refine t_end ?_
      show W _ _ _ _ _ _ _
      refine w_seq ?_
      refine w_reg fun all => ?_
      refine t_v (.ldn rfl rfl rfl (.at 5 rfl rfl)) ?_
      refine t_v (.ldn rfl rfl rfl (.at 4 rfl rfl)) ?_
      obtain ⟨⟨t199, t200, t201⟩, h202, e⟩ := bind_of e
      try dsimp only at e
      refine t_qz 1 [2, 4, 5, 9, 10, 11, 12, 13, 14, 60, 61, 62] (σ' := [(2, .int .i64 (Int.tmod A2 1000000)), (4, .pointer (some ⟨b1, 0, none⟩)), (5, .pointer (some ⟨b2, 0, none⟩)), (9, .bool true), (10, .pointer (some ⟨b115, 0, none⟩)), (11, .pointer (some ⟨b119, 0, none⟩)), (12, .pointer (some ⟨b123, 0, none⟩)), (13, .pointer (some ⟨b198, 0, none⟩)), (14, .bool false), (60, .agg #[.int .i64 (Int.tmod t0_X 1000000000000), .int .i64 (Int.tmod t0_Y 1000000000000)]), (61, .agg #[.int .i64 (Int.tmod o1_X 1000000000000), .int .i64 (Int.tmod o1_Y 1000000000000)]), (62, .int .i64 (Int.tmod A2 1000000))]) (by kernel_rfl) ?_
      refine t_v (.call (vs := [.agg #[.int .i64 (Int.tmod t0_X 1000000000000), .int .i64 (Int.tmod t0_Y 1000000000000)], .agg #[.int .i64 (Int.tmod o1_X 1000000000000), .int .i64 (Int.tmod o1_Y 1000000000000)], .int .i64 2000000, .int .i64 (Int.tmod A2 1000000)]) rfl rfl (by kernel_rfl) (turn_Apply.ok h202)) ?_
      by_cases c203 : t201 = true
      · rw [if_pos c203] at e
        have c203b : t201 = true := c203
        refine t_qz 2 [2, 4, 5, 9, 10, 11, 12, 13, 14, 59, 64] (σ' := [(2, .int .i64 (Int.tmod A2 1000000)), (4, .pointer (some ⟨b1, 0, none⟩)), (5, .pointer (some ⟨b2, 0, none⟩)), (9, .bool true), (10, .pointer (some ⟨b115, 0, none⟩)), (11, .pointer (some ⟨b119, 0, none⟩)), (12, .pointer (some ⟨b123, 0, none⟩)), (13, .pointer (some ⟨b198, 0, none⟩)), (14, .bool false), (59, .tuple #[.agg #[.int .i64 t199, .int .i64 t200], .bool t201]), (64, .agg #[.int .i64 t199, .int .i64 t200])]) (by kernel_rfl) ?_
        refine t_v (dv_quiet rfl (congrArg (fun t => some (Value.bool t)) c203b)) ?_
        refine t_a (.new rfl rfl) fun b204 fb204 sb204 => ?_
        refine t_sti 0 (cs := [.int .i64 t199, .int .i64 t200]) rfl rfl rfl rfl rfl rfl rfl rfl rfl ?_
        refine t_qz 1 [2, 4, 5, 9, 10, 11, 12, 13, 14, 15, 16] (σ' := [(2, .int .i64 (Int.tmod A2 1000000)), (4, .pointer (some ⟨b1, 0, none⟩)), (5, .pointer (some ⟨b2, 0, none⟩)), (9, .bool true), (10, .pointer (some ⟨b115, 0, none⟩)), (11, .pointer (some ⟨b119, 0, none⟩)), (12, .pointer (some ⟨b123, 0, none⟩)), (13, .pointer (some ⟨b198, 0, none⟩)), (14, .bool false), (15, .pointer (some ⟨b204, 0, none⟩)), (16, .bool true)]) (by kernel_rfl) ?_
        refine t_end ?_
        show W _ _ _ _ _ _ _
        refine w_seq ?_
        refine w_reg fun all => ?_
        refine t_qz 1 [2, 4, 5, 9, 10, 11, 12, 13, 14, 15, 16, 66] (σ' := [(2, .int .i64 (Int.tmod A2 1000000)), (4, .pointer (some ⟨b1, 0, none⟩)), (5, .pointer (some ⟨b2, 0, none⟩)), (9, .bool true), (10, .pointer (some ⟨b115, 0, none⟩)), (11, .pointer (some ⟨b119, 0, none⟩)), (12, .pointer (some ⟨b123, 0, none⟩)), (13, .pointer (some ⟨b198, 0, none⟩)), (14, .bool false), (15, .pointer (some ⟨b204, 0, none⟩)), (16, .bool true), (66, .pointer (some ⟨b1, 0, none⟩))]) (by kernel_rfl) ?_
        refine t_v (.ld1 rfl rfl rfl (.at 6 rfl rfl)) ?_
        refine t_qz 2 [2, 4, 5, 9, 10, 11, 12, 13, 14, 15, 16, 68, 69] (σ' := [(2, .int .i64 (Int.tmod A2 1000000)), (4, .pointer (some ⟨b1, 0, none⟩)), (5, .pointer (some ⟨b2, 0, none⟩)), (9, .bool true), (10, .pointer (some ⟨b115, 0, none⟩)), (11, .pointer (some ⟨b119, 0, none⟩)), (12, .pointer (some ⟨b123, 0, none⟩)), (13, .pointer (some ⟨b198, 0, none⟩)), (14, .bool false), (15, .pointer (some ⟨b204, 0, none⟩)), (16, .bool true), (68, .int .i64 (wr64 (2 * (Int.tmod t0_X 1000000000000)))), (69, .pointer (some ⟨b1, 1, none⟩))]) (by kernel_rfl) ?_
        refine t_v (.ld1 rfl rfl rfl (.at 6 rfl rfl)) ?_
        obtain ⟨⟨t205, t206⟩, h207, e⟩ := bind_of e
        try dsimp only at e
        refine t_qz 3 [2, 4, 5, 9, 10, 11, 12, 13, 14, 15, 16, 72, 73] (σ' := [(2, .int .i64 (Int.tmod A2 1000000)), (4, .pointer (some ⟨b1, 0, none⟩)), (5, .pointer (some ⟨b2, 0, none⟩)), (9, .bool true), (10, .pointer (some ⟨b115, 0, none⟩)), (11, .pointer (some ⟨b119, 0, none⟩)), (12, .pointer (some ⟨b123, 0, none⟩)), (13, .pointer (some ⟨b198, 0, none⟩)), (14, .bool false), (15, .pointer (some ⟨b204, 0, none⟩)), (16, .bool true), (72, .agg #[.int .i64 (wr64 (2 * (Int.tmod t0_X 1000000000000))), .int .i64 (wr64 (2 * (Int.tmod t0_Y 1000000000000)))]), (73, .int .i64 (Int.tmod A2 1000000))]) (by kernel_rfl) ?_
        refine t_v (.call (vs := [.agg #[.int .i64 (wr64 (2 * (Int.tmod t0_X 1000000000000))), .int .i64 (wr64 (2 * (Int.tmod t0_Y 1000000000000)))], .int .i64 (Int.tmod A2 1000000)]) rfl rfl (by kernel_rfl) (turn_Quarter.ok h207)) ?_
        refine t_a (.new rfl rfl) fun b208 fb208 sb208 => ?_
        refine t_sti 0 (cs := [.int .i64 t205, .int .i64 t206]) rfl rfl rfl rfl rfl rfl rfl rfl rfl ?_
        refine t_keep [2, 4, 5, 9, 10, 11, 12, 13, 14, 15, 16, 17] (σ' := [(2, .int .i64 (Int.tmod A2 1000000)), (4, .pointer (some ⟨b1, 0, none⟩)), (5, .pointer (some ⟨b2, 0, none⟩)), (9, .bool true), (10, .pointer (some ⟨b115, 0, none⟩)), (11, .pointer (some ⟨b119, 0, none⟩)), (12, .pointer (some ⟨b123, 0, none⟩)), (13, .pointer (some ⟨b198, 0, none⟩)), (14, .bool false), (15, .pointer (some ⟨b204, 0, none⟩)), (16, .bool true), (17, .pointer (some ⟨b208, 0, none⟩))]) (by kernel_rfl) ?_
        refine t_end ?_
        show W _ _ _ _ _ _ _
        refine w_seq ?_
        refine w_reg fun all => ?_
        refine t_qz 1 [2, 4, 5, 9, 10, 11, 12, 13, 14, 15, 16, 17, 76] (σ' := [(2, .int .i64 (Int.tmod A2 1000000)), (4, .pointer (some ⟨b1, 0, none⟩)), (5, .pointer (some ⟨b2, 0, none⟩)), (9, .bool true), (10, .pointer (some ⟨b115, 0, none⟩)), (11, .pointer (some ⟨b119, 0, none⟩)), (12, .pointer (some ⟨b123, 0, none⟩)), (13, .pointer (some ⟨b198, 0, none⟩)), (14, .bool false), (15, .pointer (some ⟨b204, 0, none⟩)), (16, .bool true), (17, .pointer (some ⟨b208, 0, none⟩)), (76, .agg #[.int .i64 1000000000000001, .int .i64 0])]) (by kernel_rfl) ?_
        refine t_v (.ldn rfl rfl rfl (.at 6 rfl rfl)) ?_
        obtain ⟨⟨t209, t210, t211⟩, h212, e⟩ := bind_of e
        try dsimp only at e
        refine t_v (.call (vs := [.agg #[.int .i64 1000000000000001, .int .i64 0], .agg #[.int .i64 (Int.tmod o1_X 1000000000000), .int .i64 (Int.tmod o1_Y 1000000000000)], .int .i64 1000000, .int .i64 0]) rfl rfl (by kernel_rfl) (turn_Apply.ok h212)) ?_
        refine t_qz 3 [2, 4, 5, 9, 10, 11, 12, 13, 14, 15, 16, 17, 79, 80] (σ' := [(2, .int .i64 (Int.tmod A2 1000000)), (4, .pointer (some ⟨b1, 0, none⟩)), (5, .pointer (some ⟨b2, 0, none⟩)), (9, .bool true), (10, .pointer (some ⟨b115, 0, none⟩)), (11, .pointer (some ⟨b119, 0, none⟩)), (12, .pointer (some ⟨b123, 0, none⟩)), (13, .pointer (some ⟨b198, 0, none⟩)), (14, .bool false), (15, .pointer (some ⟨b204, 0, none⟩)), (16, .bool true), (17, .pointer (some ⟨b208, 0, none⟩)), (79, .agg #[.int .i64 t209, .int .i64 t210]), (80, .bool t211)]) (by kernel_rfl) ?_
        refine t_a (.new rfl rfl) fun b213 fb213 sb213 => ?_
        refine t_sti 0 (cs := [.int .i64 t209, .int .i64 t210]) rfl rfl rfl rfl rfl rfl rfl rfl rfl ?_
        refine t_qz 1 [2, 4, 5, 9, 10, 11, 12, 13, 14, 15, 16, 17, 19] (σ' := [(2, .int .i64 (Int.tmod A2 1000000)), (4, .pointer (some ⟨b1, 0, none⟩)), (5, .pointer (some ⟨b2, 0, none⟩)), (9, .bool true), (10, .pointer (some ⟨b115, 0, none⟩)), (11, .pointer (some ⟨b119, 0, none⟩)), (12, .pointer (some ⟨b123, 0, none⟩)), (13, .pointer (some ⟨b198, 0, none⟩)), (14, .bool false), (15, .pointer (some ⟨b204, 0, none⟩)), (16, .bool true), (17, .pointer (some ⟨b208, 0, none⟩)), (19, .bool t211)]) (by kernel_rfl) ?_
        refine t_end ?_
        show W _ _ _ _ _ _ _
        refine w_seq ?_
        obtain ⟨t214, h215, e⟩ := bind_of e
        cases t214 with
        | true =>
          rw [if_pos rfl] at e
          obtain ⟨⟨t216, t217⟩, h218, e⟩ := bind_of e
          try dsimp only at e
          obtain ⟨t219, h220, e⟩ := bind_of e
          cases t219 with
          | true =>
            rw [if_pos rfl] at e
            obtain ⟨⟨t221, t222⟩, h223, e⟩ := bind_of e
            try dsimp only at e
            obtain ⟨⟨t224, t225⟩, h226, e⟩ := bind_of e
            try dsimp only at e
            obtain ⟨t227, h228, e⟩ := bind_of e
            cases t227 with
            | true =>
              rw [if_pos rfl] at e
              by_cases c229 : t120 = (wr64 (0 - (Int.tmod t0_X 1000000000000)))
              · rw [if_pos c229] at e
                have c229b : (t120 == (wr64 (0 - (Int.tmod t0_X 1000000000000)))) = true := beq_iff_eq.mpr c229
                by_cases c230 : t121 = (wr64 (0 - (Int.tmod t0_Y 1000000000000)))
                · rw [if_pos c230] at e
                  exact absurd (Option.some.inj e) (by decide)
                · rw [if_neg c230] at e
                  exact absurd (Option.some.inj e) (by decide)
              · rw [if_neg c229] at e
                exact absurd (Option.some.inj e) (by decide)
            | false =>
              rw [if_neg (by decide)] at e
              exact absurd (Option.some.inj e) (by decide)
          | false =>
            rw [if_neg (by decide)] at e
            exact absurd (Option.some.inj e) (by decide)
        | false =>
          rw [if_neg (by decide)] at e
          exact absurd (Option.some.inj e) (by decide)
      · rw [if_neg c203] at e
        have c203b : t201 = false := Bool.eq_false_iff.mpr c203
        refine t_qz 2 [2, 4, 5, 9, 10, 11, 12, 13, 14, 59, 64] (σ' := [(2, .int .i64 (Int.tmod A2 1000000)), (4, .pointer (some ⟨b1, 0, none⟩)), (5, .pointer (some ⟨b2, 0, none⟩)), (9, .bool true), (10, .pointer (some ⟨b115, 0, none⟩)), (11, .pointer (some ⟨b119, 0, none⟩)), (12, .pointer (some ⟨b123, 0, none⟩)), (13, .pointer (some ⟨b198, 0, none⟩)), (14, .bool false), (59, .tuple #[.agg #[.int .i64 t199, .int .i64 t200], .bool t201]), (64, .agg #[.int .i64 t199, .int .i64 t200])]) (by kernel_rfl) ?_
        refine t_v (dv_quiet rfl (congrArg (fun t => some (Value.bool t)) c203b)) ?_
        refine t_a (.new rfl rfl) fun b231 fb231 sb231 => ?_
        refine t_sti 0 (cs := [.int .i64 t199, .int .i64 t200]) rfl rfl rfl rfl rfl rfl rfl rfl rfl ?_
        refine t_qz 1 [2, 4, 5, 9, 10, 11, 12, 13, 14, 15, 16] (σ' := [(2, .int .i64 (Int.tmod A2 1000000)), (4, .pointer (some ⟨b1, 0, none⟩)), (5, .pointer (some ⟨b2, 0, none⟩)), (9, .bool true), (10, .pointer (some ⟨b115, 0, none⟩)), (11, .pointer (some ⟨b119, 0, none⟩)), (12, .pointer (some ⟨b123, 0, none⟩)), (13, .pointer (some ⟨b198, 0, none⟩)), (14, .bool false), (15, .pointer (some ⟨b231, 0, none⟩)), (16, .bool false)]) (by kernel_rfl) ?_
        refine t_end ?_
        show W _ _ _ _ _ _ _
        refine w_seq ?_
        refine w_reg fun all => ?_
        refine t_qz 1 [2, 4, 5, 9, 10, 11, 12, 13, 14, 15, 16, 66] (σ' := [(2, .int .i64 (Int.tmod A2 1000000)), (4, .pointer (some ⟨b1, 0, none⟩)), (5, .pointer (some ⟨b2, 0, none⟩)), (9, .bool true), (10, .pointer (some ⟨b115, 0, none⟩)), (11, .pointer (some ⟨b119, 0, none⟩)), (12, .pointer (some ⟨b123, 0, none⟩)), (13, .pointer (some ⟨b198, 0, none⟩)), (14, .bool false), (15, .pointer (some ⟨b231, 0, none⟩)), (16, .bool false), (66, .pointer (some ⟨b1, 0, none⟩))]) (by kernel_rfl) ?_
        refine t_v (.ld1 rfl rfl rfl (.at 6 rfl rfl)) ?_
        refine t_qz 2 [2, 4, 5, 9, 10, 11, 12, 13, 14, 15, 16, 68, 69] (σ' := [(2, .int .i64 (Int.tmod A2 1000000)), (4, .pointer (some ⟨b1, 0, none⟩)), (5, .pointer (some ⟨b2, 0, none⟩)), (9, .bool true), (10, .pointer (some ⟨b115, 0, none⟩)), (11, .pointer (some ⟨b119, 0, none⟩)), (12, .pointer (some ⟨b123, 0, none⟩)), (13, .pointer (some ⟨b198, 0, none⟩)), (14, .bool false), (15, .pointer (some ⟨b231, 0, none⟩)), (16, .bool false), (68, .int .i64 (wr64 (2 * (Int.tmod t0_X 1000000000000)))), (69, .pointer (some ⟨b1, 1, none⟩))]) (by kernel_rfl) ?_
        refine t_v (.ld1 rfl rfl rfl (.at 6 rfl rfl)) ?_
        obtain ⟨⟨t232, t233⟩, h234, e⟩ := bind_of e
        try dsimp only at e
        refine t_qz 3 [2, 4, 5, 9, 10, 11, 12, 13, 14, 15, 16, 72, 73] (σ' := [(2, .int .i64 (Int.tmod A2 1000000)), (4, .pointer (some ⟨b1, 0, none⟩)), (5, .pointer (some ⟨b2, 0, none⟩)), (9, .bool true), (10, .pointer (some ⟨b115, 0, none⟩)), (11, .pointer (some ⟨b119, 0, none⟩)), (12, .pointer (some ⟨b123, 0, none⟩)), (13, .pointer (some ⟨b198, 0, none⟩)), (14, .bool false), (15, .pointer (some ⟨b231, 0, none⟩)), (16, .bool false), (72, .agg #[.int .i64 (wr64 (2 * (Int.tmod t0_X 1000000000000))), .int .i64 (wr64 (2 * (Int.tmod t0_Y 1000000000000)))]), (73, .int .i64 (Int.tmod A2 1000000))]) (by kernel_rfl) ?_
        refine t_v (.call (vs := [.agg #[.int .i64 (wr64 (2 * (Int.tmod t0_X 1000000000000))), .int .i64 (wr64 (2 * (Int.tmod t0_Y 1000000000000)))], .int .i64 (Int.tmod A2 1000000)]) rfl rfl (by kernel_rfl) (turn_Quarter.ok h234)) ?_
        refine t_a (.new rfl rfl) fun b235 fb235 sb235 => ?_
        refine t_sti 0 (cs := [.int .i64 t232, .int .i64 t233]) rfl rfl rfl rfl rfl rfl rfl rfl rfl ?_
        refine t_keep [2, 4, 5, 9, 10, 11, 12, 13, 14, 15, 16, 17] (σ' := [(2, .int .i64 (Int.tmod A2 1000000)), (4, .pointer (some ⟨b1, 0, none⟩)), (5, .pointer (some ⟨b2, 0, none⟩)), (9, .bool true), (10, .pointer (some ⟨b115, 0, none⟩)), (11, .pointer (some ⟨b119, 0, none⟩)), (12, .pointer (some ⟨b123, 0, none⟩)), (13, .pointer (some ⟨b198, 0, none⟩)), (14, .bool false), (15, .pointer (some ⟨b231, 0, none⟩)), (16, .bool false), (17, .pointer (some ⟨b235, 0, none⟩))]) (by kernel_rfl) ?_
        refine t_end ?_
        show W _ _ _ _ _ _ _
        refine w_seq ?_
        refine w_reg fun all => ?_
        refine t_qz 1 [2, 4, 5, 9, 10, 11, 12, 13, 14, 15, 16, 17, 76] (σ' := [(2, .int .i64 (Int.tmod A2 1000000)), (4, .pointer (some ⟨b1, 0, none⟩)), (5, .pointer (some ⟨b2, 0, none⟩)), (9, .bool true), (10, .pointer (some ⟨b115, 0, none⟩)), (11, .pointer (some ⟨b119, 0, none⟩)), (12, .pointer (some ⟨b123, 0, none⟩)), (13, .pointer (some ⟨b198, 0, none⟩)), (14, .bool false), (15, .pointer (some ⟨b231, 0, none⟩)), (16, .bool false), (17, .pointer (some ⟨b235, 0, none⟩)), (76, .agg #[.int .i64 1000000000000001, .int .i64 0])]) (by kernel_rfl) ?_
        refine t_v (.ldn rfl rfl rfl (.at 6 rfl rfl)) ?_
        obtain ⟨⟨t236, t237, t238⟩, h239, e⟩ := bind_of e
        try dsimp only at e
        refine t_v (.call (vs := [.agg #[.int .i64 1000000000000001, .int .i64 0], .agg #[.int .i64 (Int.tmod o1_X 1000000000000), .int .i64 (Int.tmod o1_Y 1000000000000)], .int .i64 1000000, .int .i64 0]) rfl rfl (by kernel_rfl) (turn_Apply.ok h239)) ?_
        refine t_qz 3 [2, 4, 5, 9, 10, 11, 12, 13, 14, 15, 16, 17, 79, 80] (σ' := [(2, .int .i64 (Int.tmod A2 1000000)), (4, .pointer (some ⟨b1, 0, none⟩)), (5, .pointer (some ⟨b2, 0, none⟩)), (9, .bool true), (10, .pointer (some ⟨b115, 0, none⟩)), (11, .pointer (some ⟨b119, 0, none⟩)), (12, .pointer (some ⟨b123, 0, none⟩)), (13, .pointer (some ⟨b198, 0, none⟩)), (14, .bool false), (15, .pointer (some ⟨b231, 0, none⟩)), (16, .bool false), (17, .pointer (some ⟨b235, 0, none⟩)), (79, .agg #[.int .i64 t236, .int .i64 t237]), (80, .bool t238)]) (by kernel_rfl) ?_
        refine t_a (.new rfl rfl) fun b240 fb240 sb240 => ?_
        refine t_sti 0 (cs := [.int .i64 t236, .int .i64 t237]) rfl rfl rfl rfl rfl rfl rfl rfl rfl ?_
        refine t_qz 1 [2, 4, 5, 9, 10, 11, 12, 13, 14, 15, 16, 17, 19] (σ' := [(2, .int .i64 (Int.tmod A2 1000000)), (4, .pointer (some ⟨b1, 0, none⟩)), (5, .pointer (some ⟨b2, 0, none⟩)), (9, .bool true), (10, .pointer (some ⟨b115, 0, none⟩)), (11, .pointer (some ⟨b119, 0, none⟩)), (12, .pointer (some ⟨b123, 0, none⟩)), (13, .pointer (some ⟨b198, 0, none⟩)), (14, .bool false), (15, .pointer (some ⟨b231, 0, none⟩)), (16, .bool false), (17, .pointer (some ⟨b235, 0, none⟩)), (19, .bool t238)]) (by kernel_rfl) ?_
        refine t_end ?_
        show W _ _ _ _ _ _ _
        refine w_seq ?_
        obtain ⟨t241, h242, e⟩ := bind_of e
        cases t241 with
        | true =>
          rw [if_pos rfl] at e
          obtain ⟨⟨t243, t244⟩, h245, e⟩ := bind_of e
          try dsimp only at e
          obtain ⟨t246, h247, e⟩ := bind_of e
          cases t246 with
          | true =>
            rw [if_pos rfl] at e
            obtain ⟨⟨t248, t249⟩, h250, e⟩ := bind_of e
            try dsimp only at e
            obtain ⟨⟨t251, t252⟩, h253, e⟩ := bind_of e
            try dsimp only at e
            obtain ⟨t254, h255, e⟩ := bind_of e
            cases t254 with
            | true =>
              rw [if_pos rfl] at e
              by_cases c256 : t120 = (wr64 (0 - (Int.tmod t0_X 1000000000000)))
              · rw [if_pos c256] at e
                have c256b : (t120 == (wr64 (0 - (Int.tmod t0_X 1000000000000)))) = true := beq_iff_eq.mpr c256
                by_cases c257 : t121 = (wr64 (0 - (Int.tmod t0_Y 1000000000000)))
                · rw [if_pos c257] at e
                  exact absurd (Option.some.inj e) (by decide)
                · rw [if_neg c257] at e
                  exact absurd (Option.some.inj e) (by decide)
              · rw [if_neg c256] at e
                exact absurd (Option.some.inj e) (by decide)
            | false =>
              rw [if_neg (by decide)] at e
              exact absurd (Option.some.inj e) (by decide)
          | false =>
            rw [if_neg (by decide)] at e
            exact absurd (Option.some.inj e) (by decide)
        | false =>
          rw [if_neg (by decide)] at e
          exact absurd (Option.some.inj e) (by decide)
  | false =>
    rw [if_neg (by decide)] at e
    exact absurd (Option.some.inj e) (by decide)

def glyphiclaw13_TurnRounds.Pure : Prop := ∀ (t0_X : Int) (t0_Y : Int) (o1_X : Int) (o1_Y : Int) (A2 : Int) (r3 : Int), (Lit.int .i64 t0_X).wf = true → (Lit.int .i64 t0_Y).wf = true → (Lit.int .i64 o1_X).wf = true → (Lit.int .i64 o1_Y).wf = true → (Lit.int .i64 A2).wf = true → (Lit.int .i64 r3).wf = true → ∃ k, glyphiclaw13_TurnRounds.f k t0_X t0_Y o1_X o1_Y A2 r3 = some true
theorem glyphiclaw13_TurnRounds.walk (P : glyphiclaw13_TurnRounds.Pure) (t0_X : Int) (t0_Y : Int) (o1_X : Int) (o1_Y : Int) (A2 : Int) (r3 : Int) (w : World) (ht0_X : (Lit.int .i64 t0_X).wf = true) (ht0_Y : (Lit.int .i64 t0_Y).wf = true) (ho1_X : (Lit.int .i64 o1_X).wf = true) (ho1_Y : (Lit.int .i64 o1_Y).wf = true) (hA2 : (Lit.int .i64 A2).wf = true) (hr3 : (Lit.int .i64 r3).wf = true) :
    Calls Try.prog 15 #[.agg #[.int .i64 t0_X, .int .i64 t0_Y], .agg #[.int .i64 o1_X, .int .i64 o1_Y], .int .i64 A2, .int .i64 r3] w fun e w' => e = .returned (.bool true) ∧ Below w.heap.size w w' := let ⟨k, h⟩ := P t0_X t0_Y o1_X o1_Y A2 r3 ht0_X ht0_Y ho1_X ho1_Y hA2 hr3; law_w (hok0 w) (glyphiclaw13_TurnRounds.ok (k := k) h)
end Go.Proofs.Ytgaikembekkfiaa.QTurnRounds
