/- Functions of the program as Lean functions, each with the proof of its walk. Written by gen.py, a program of these sessions. -/
import Derived.Test.YtgaikembekkfiaaX
import Derived.Test.YtgaikembekkfiaaProg
namespace Go.Proofs.Ytgaikembekkfiaa.QTurnFar
open Go Go.RowKit Go.Proofs.YtgaikembekkfiaaE Go.Proofs.YtgaikembekkfiaaX
set_option linter.unusedVariables false
set_option maxRecDepth 100000
theorem mixed : Try.prog.follows .mixedOrders = true := by kernel_rfl

/-- turn.Quarter -/
def c50 : C :=
  (.seq (.reg [⟨(some 2), .box (.tmp 0), none⟩,
     ⟨(some 4), .new [(.int .i64 0), (.int .i64 0)], none⟩])
  (.seq (.seq (.reg [⟨(some 5), .mv (.tmp 1), none⟩,
      ⟨(some 6), .bin .rem (.tmp 5) (.const (.int .i64 4)), none⟩,
      ⟨(some 7), .bin .add (.tmp 6) (.const (.int .i64 4)), none⟩,
      ⟨(some 8), .bin .rem (.tmp 7) (.const (.int .i64 4)), none⟩,
      ⟨(some 9), .mv (.const (.int .i64 0)), none⟩])
   (.block 0 (.loop (.seq (.reg [⟨(some 10), .bin .lss (.tmp 9) (.tmp 8), none⟩])
     (.seq (.cond (.tmp 10)
       .skip
       (.exit 0))
     (.seq (.block 1 (.reg [⟨(some 11), .pad 1 (.tmp 2), none⟩,
         ⟨(some 12), .ld none (.tmp 11), none⟩,
         ⟨(some 13), .un .neg (.tmp 12), none⟩,
         ⟨(some 14), .pad 0 (.tmp 2), none⟩,
         ⟨(some 15), .ld none (.tmp 14), none⟩,
         ⟨(some 16), .bld [(.int .i64 0), (.int .i64 0)] [(0, 1, (.tmp 13)), (1, 1, (.tmp 15))], none⟩,
         ⟨none, .st 2 (.tmp 2) (.tmp 16), none⟩]))
     (.reg [⟨(some 17), .bin .add (.tmp 9) (.const (.int .i64 1)), none⟩,
       ⟨(some 9), .mv (.tmp 17), none⟩])))))))
  (.seq (.reg [⟨(some 18), .ld (some 2) (.tmp 2), none⟩,
     ⟨none, .st 2 (.tmp 4) (.tmp 18), none⟩])
  .ret)))
def turn_Quarter.l0 : Nat → Int → Int → Int → Int → Option (Int × Int)
  | 0, _, _, _, _ => none
  | k + 1, n1, x6, x7, x8 => if x6 < (Int.tmod (wr64 ((Int.tmod n1 4) + 4)) 4) then (turn_Quarter.l0 k n1 (wr64 (x6 + 1)) (wr64 (0 - x8)) x7) else (some (x7, x8))
def turn_Quarter.f (k : Nat) (p0_X : Int) (p0_Y : Int) (n1 : Int) : Option (Int × Int) := (turn_Quarter.l0 k n1 0 p0_X p0_Y : Option (Int × Int)).bind fun (x12, x13) => (some (x12, x13))
theorem turn_Quarter.ok {S : Seal} {k : Nat} {p0_X : Int} {p0_Y : Int} {n1 : Int} {r0_ : Int} {r1_ : Int} (e : turn_Quarter.f k p0_X p0_Y n1 = some (r0_, r1_)) :
    Cal Try.prog 50 [.agg #[.int .i64 p0_X, .int .i64 p0_Y], .int .i64 n1] [] S fun v H' S' => v = .agg #[.int .i64 r0_, .int .i64 r1_] ∧ H' = [] ∧ S' = S := by
  unfold turn_Quarter.f at e
  refine cal_of (c := c50) (N := 19) Try.func50 rfl rfl (by kernel_rfl) (rs := [.cn 2 4]) (by kernel_rfl) (Nat.le_of_ble_eq_true rfl) ?_
  unfold c50
  refine w_seq ?_
  refine w_reg fun all => ?_
  refine t_a (.box rfl rfl rfl) fun b1 fb1 sb1 => ?_
  refine t_a (.new rfl rfl) fun b2 fb2 sb2 => ?_
  refine t_keep [1, 2, 4] (σ' := [(1, .int .i64 n1), (2, .pointer (some ⟨b1, 0, none⟩)), (4, .pointer (some ⟨b2, 0, none⟩))]) (by kernel_rfl) ?_
  refine t_end ?_
  show W _ _ _ _ _ _ _
  obtain ⟨⟨x12, x13⟩, e4, e⟩ := bind_of e
  try dsimp only at e
  refine w_cut [2, 4] (fun σ_ H_ S_ => [(2, .pointer (some ⟨b1, 0, none⟩)), (4, .pointer (some ⟨b2, 0, none⟩))] = σ_ ∧ ([⟨b2, [.int .i64 0, .int .i64 0], 2⟩, ⟨b1, [.int .i64 x12, .int .i64 x13], 2⟩] : List Own) = H_ ∧ S = S_) ?_ ?_
  · show W _ _ _ _ _ _ _
    refine w_seq ?_
    refine w_reg fun all => ?_
    refine t_qz 5 [2, 4, 8, 9] (σ' := [(2, .pointer (some ⟨b1, 0, none⟩)), (4, .pointer (some ⟨b2, 0, none⟩)), (8, .int .i64 (Int.tmod (wr64 ((Int.tmod n1 4) + 4)) 4)), (9, .int .i64 0)]) (by kernel_rfl) ?_
    refine t_end ?_
    show W _ _ _ _ _ _ _
    refine w_block ?_
    refine w_kp [2, 4, 8, 9] (σ' := [(2, .pointer (some ⟨b1, 0, none⟩)), (4, .pointer (some ⟨b2, 0, none⟩)), (8, .int .i64 (Int.tmod (wr64 ((Int.tmod n1 4) + 4)) 4)), (9, .int .i64 0)]) (by kernel_rfl) ?_
    refine w_loop (fun n_ σ_ H_ S_ => ∃ x6 x7 x8, [(2, .pointer (some ⟨b1, 0, none⟩)), (4, .pointer (some ⟨b2, 0, none⟩)), (8, .int .i64 (Int.tmod (wr64 ((Int.tmod n1 4) + 4)) 4)), (9, .int .i64 x6)] = σ_ ∧ ([⟨b2, [.int .i64 0, .int .i64 0], 2⟩, ⟨b1, [.int .i64 x7, .int .i64 x8], 2⟩] : List Own) = H_ ∧ S = S_ ∧ turn_Quarter.l0 n_ n1 x6 x7 x8 = some (x12, x13)) _ ⟨0, p0_X, p0_Y, rfl, rfl, rfl, e4⟩ ?_
    rintro n11 σ_ H_ S_ ⟨x6, x7, x8, rfl, rfl, rfl, e4⟩
    cases n11 with
    | zero => rw [turn_Quarter.l0.eq_1] at e4; cases e4
    | succ k_ =>
      rw [turn_Quarter.l0.eq_2] at e4
      refine w_seq ?_
      refine w_reg fun all => ?_
      by_cases c9 : x6 < (Int.tmod (wr64 ((Int.tmod n1 4) + 4)) 4)
      · rw [if_pos c9] at e4
        have c9b : (decide (x6 < (Int.tmod (wr64 ((Int.tmod n1 4) + 4)) 4))) = true := decide_eq_true c9
        refine t_v (dv_quiet rfl (congrArg (fun t => some (Value.bool t)) c9b)) ?_
        refine t_keep [2, 4, 8, 9, 10] (σ' := [(2, .pointer (some ⟨b1, 0, none⟩)), (4, .pointer (some ⟨b2, 0, none⟩)), (8, .int .i64 (Int.tmod (wr64 ((Int.tmod n1 4) + 4)) 4)), (9, .int .i64 x6), (10, .bool true)]) (by kernel_rfl) ?_
        refine t_end ?_
        show W _ _ _ _ _ _ _
        refine w_seq ?_
        refine w_cond rfl (fun _ => ?_) (fun c_ => by cases c_)
        show W _ _ _ _ _ _ _
        refine w_skip ?_
        show W _ _ _ _ _ _ _
        refine w_seq ?_
        refine w_block ?_
        refine w_reg fun all => ?_
        refine t_qz 1 [2, 4, 8, 9, 11] (σ' := [(2, .pointer (some ⟨b1, 0, none⟩)), (4, .pointer (some ⟨b2, 0, none⟩)), (8, .int .i64 (Int.tmod (wr64 ((Int.tmod n1 4) + 4)) 4)), (9, .int .i64 x6), (11, .pointer (some ⟨b1, 1, none⟩))]) (by kernel_rfl) ?_
        refine t_v (.ld1 rfl rfl rfl (.at 1 rfl rfl)) ?_
        refine t_qz 2 [2, 4, 8, 9, 13, 14] (σ' := [(2, .pointer (some ⟨b1, 0, none⟩)), (4, .pointer (some ⟨b2, 0, none⟩)), (8, .int .i64 (Int.tmod (wr64 ((Int.tmod n1 4) + 4)) 4)), (9, .int .i64 x6), (13, .int .i64 (wr64 (0 - x8))), (14, .pointer (some ⟨b1, 0, none⟩))]) (by kernel_rfl) ?_
        refine t_v (.ld1 rfl rfl rfl (.at 1 rfl rfl)) ?_
        refine t_qz 1 [2, 4, 8, 9, 16] (σ' := [(2, .pointer (some ⟨b1, 0, none⟩)), (4, .pointer (some ⟨b2, 0, none⟩)), (8, .int .i64 (Int.tmod (wr64 ((Int.tmod n1 4) + 4)) 4)), (9, .int .i64 x6), (16, .agg #[.int .i64 (wr64 (0 - x8)), .int .i64 x7])]) (by kernel_rfl) ?_
        refine t_sti 1 (cs := [.int .i64 (wr64 (0 - x8)), .int .i64 x7]) rfl rfl rfl rfl rfl rfl rfl rfl rfl ?_
        refine t_keep [2, 4, 8, 9] (σ' := [(2, .pointer (some ⟨b1, 0, none⟩)), (4, .pointer (some ⟨b2, 0, none⟩)), (8, .int .i64 (Int.tmod (wr64 ((Int.tmod n1 4) + 4)) 4)), (9, .int .i64 x6)]) (by kernel_rfl) ?_
        refine t_end ?_
        show W _ _ _ _ _ _ _
        refine w_reg fun all => ?_
        refine t_qz 2 [2, 4, 8, 9] (σ' := [(2, .pointer (some ⟨b1, 0, none⟩)), (4, .pointer (some ⟨b2, 0, none⟩)), (8, .int .i64 (Int.tmod (wr64 ((Int.tmod n1 4) + 4)) 4)), (9, .int .i64 (wr64 (x6 + 1)))]) (by kernel_rfl) ?_
        refine t_end ?_
        exact ⟨k_, Nat.lt_succ_self _, [(2, .pointer (some ⟨b1, 0, none⟩)), (4, .pointer (some ⟨b2, 0, none⟩)), (8, .int .i64 (Int.tmod (wr64 ((Int.tmod n1 4) + 4)) 4)), (9, .int .i64 (wr64 (x6 + 1)))], ([⟨b2, [.int .i64 0, .int .i64 0], 2⟩, ⟨b1, [.int .i64 (wr64 (0 - x8)), .int .i64 x7], 2⟩] : List Own), S, keep_sub [2, 4, 8, 9] (by kernel_rfl), VS.sel [0, 0] (by kernel_rfl), wr64 (x6 + 1), wr64 (0 - x8), x7, rfl, rfl, rfl, e4⟩
      · rw [if_neg c9] at e4
        have c9b : (decide (x6 < (Int.tmod (wr64 ((Int.tmod n1 4) + 4)) 4))) = false := decide_eq_false c9
        refine t_v (dv_quiet rfl (congrArg (fun t => some (Value.bool t)) c9b)) ?_
        refine t_keep [2, 4, 8, 9, 10] (σ' := [(2, .pointer (some ⟨b1, 0, none⟩)), (4, .pointer (some ⟨b2, 0, none⟩)), (8, .int .i64 (Int.tmod (wr64 ((Int.tmod n1 4) + 4)) 4)), (9, .int .i64 x6), (10, .bool false)]) (by kernel_rfl) ?_
        refine t_end ?_
        show W _ _ _ _ _ _ _
        refine w_seq ?_
        refine w_cond rfl (fun c_ => by cases c_) (fun _ => ?_)
        show W _ _ _ _ _ _ _
        refine w_exit ?_
        simp only [Option.some.injEq, Prod.mk.injEq] at e4
        obtain ⟨rfl, rfl⟩ := e4
        exact ⟨([⟨b2, [.int .i64 0, .int .i64 0], 2⟩, ⟨b1, [.int .i64 x7, .int .i64 x8], 2⟩] : List Own), S, VS.sel [0, 0] (by kernel_rfl), by kernel_rfl, rfl, rfl⟩
  · rintro σ_ H_ S_ ⟨rfl, rfl, rfl⟩
    refine w_seq ?_
    refine w_reg fun all => ?_
    refine t_v (.ldn rfl rfl rfl (.at 1 rfl rfl)) ?_
    refine t_sti 0 (cs := [.int .i64 x12, .int .i64 x13]) rfl rfl rfl rfl rfl rfl rfl rfl rfl ?_
    refine t_keep [4] (σ' := [(4, .pointer (some ⟨b2, 0, none⟩))]) (by kernel_rfl) ?_
    refine t_end ?_
    show W _ _ _ _ _ _ _
    refine w_ret ?_
    simp only [Option.some.injEq, Prod.mk.injEq] at e
    obtain ⟨rfl, rfl⟩ := e
    exact ⟨[.agg #[.int .i64 x12, .int .i64 x13]], [], S, ⟨⟨_, _, _, rfl, .at 0 rfl rfl, rfl⟩, trivial⟩, VS.none, rfl, rfl, rfl⟩

/-- turn.within -/
def c59 : C :=
  (.seq (.reg [⟨(some 2), .mv (.const (.bool false)), none⟩])
  (.seq (.seq (.reg [⟨(some 5), .mv (.tmp 0), none⟩,
      ⟨(some 6), .lns (.tmp 5), none⟩,
      ⟨(some 7), .mv (.const (.int .i64 0)), none⟩])
   (.block 0 (.loop (.seq (.reg [⟨(some 8), .bin .lss (.tmp 7) (.tmp 6), none⟩])
     (.seq (.cond (.tmp 8)
       .skip
       (.exit 0))
     (.seq (.block 1 (.seq (.reg [⟨(some 9), .ixs 1 (.tmp 5) (.tmp 7), none⟩,
          ⟨(some 10), .ld none (.tmp 9), none⟩,
          ⟨(some 4), .mv (.tmp 10), none⟩])
       (.seq (.reg [⟨(some 11), .mv (.tmp 4), none⟩,
          ⟨(some 12), .bin .lss (.tmp 11) (.const (.int .i64 (-1000000000000000))), none⟩,
          ⟨(some 13), .mv (.tmp 12), none⟩,
          ⟨(some 14), .mv (.tmp 4), (some (13, false))⟩,
          ⟨(some 15), .bin .gtr (.tmp 14) (.const (.int .i64 1000000000000000)), (some (13, false))⟩,
          ⟨(some 16), .pk (.tmp 13) (.const (.bool true)) (.tmp 15), none⟩])
       (.cond (.tmp 16)
        (.seq (.reg [⟨(some 2), .mv (.const (.bool false)), none⟩])
         .ret)
        .skip))))
     (.reg [⟨(some 17), .bin .add (.tmp 7) (.const (.int .i64 1)), none⟩,
       ⟨(some 7), .mv (.tmp 17), none⟩])))))))
  (.seq (.reg [⟨(some 2), .mv (.const (.bool true)), none⟩])
  .ret)))
def turn_within_v1.f (m0_0 : Int) (m0_1 : Int) (m0_2 : Int) (m0_3 : Int) (m0_4 : Int) : Option (Bool) := if m0_0 < (-1000000000000000) then (some false) else (if m0_0 > 1000000000000000 then (some false) else (if m0_1 < (-1000000000000000) then (some false) else (if m0_1 > 1000000000000000 then (some false) else (if m0_2 < (-1000000000000000) then (some false) else (if m0_2 > 1000000000000000 then (some false) else (if m0_3 < (-1000000000000000) then (some false) else (if m0_3 > 1000000000000000 then (some false) else (if m0_4 < (-1000000000000000) then (some false) else (if m0_4 > 1000000000000000 then (some false) else (some true))))))))))
theorem turn_within_v1.ok {S : Seal} {B0 : Nat} {m0_0 : Int} {m0_1 : Int} {m0_2 : Int} {m0_3 : Int} {m0_4 : Int} {r0_ : Bool} (e : turn_within_v1.f m0_0 m0_1 m0_2 m0_3 m0_4 = some r0_) :
    Cal Try.prog 59 [.slice (some ⟨B0, 0, none⟩) 5 5] ([⟨B0, [.int .i64 m0_0, .int .i64 m0_1, .int .i64 m0_2, .int .i64 m0_3, .int .i64 m0_4], 5⟩] : List Own) S fun v H' S' => v = .bool r0_ ∧ H' = ([⟨B0, [.int .i64 m0_0, .int .i64 m0_1, .int .i64 m0_2, .int .i64 m0_3, .int .i64 m0_4], 5⟩] : List Own) ∧ S' = S := by
  unfold turn_within_v1.f at e
  refine cal_of (c := c59) (N := 18) Try.func59 rfl rfl (by kernel_rfl) (rs := [.t 2]) (by kernel_rfl) (Nat.le_of_ble_eq_true rfl) ?_
  unfold c59
  refine w_seq ?_
  refine w_reg fun all => ?_
  refine t_qz 1 [0] (σ' := [(0, .slice (some ⟨B0, 0, none⟩) 5 5)]) (by kernel_rfl) ?_
  refine t_end ?_
  show W _ _ _ _ _ _ _
  refine w_seq ?_
  refine w_seq ?_
  refine w_reg fun all => ?_
  refine t_qz 3 [5, 6, 7] (σ' := [(5, .slice (some ⟨B0, 0, none⟩) 5 5), (6, .int .i64 5), (7, .int .i64 0)]) (by kernel_rfl) ?_
  refine t_end ?_
  show W _ _ _ _ _ _ _
  refine w_block ?_
  refine w_lun 8 ?_
  refine wl_step ?_
  refine w_seq ?_
  refine w_reg fun all => ?_
  refine t_qz 1 [5, 6, 7, 8] (σ' := [(5, .slice (some ⟨B0, 0, none⟩) 5 5), (6, .int .i64 5), (7, .int .i64 0), (8, .bool true)]) (by kernel_rfl) ?_
  refine t_end ?_
  show W _ _ _ _ _ _ _
  refine w_seq ?_
  refine w_cond rfl (fun _ => ?_) (fun c_ => by cases c_)
  show W _ _ _ _ _ _ _
  refine w_skip ?_
  show W _ _ _ _ _ _ _
  refine w_seq ?_
  refine w_block ?_
  refine w_seq ?_
  refine w_reg fun all => ?_
  refine t_qz 1 [5, 6, 7, 9] (σ' := [(5, .slice (some ⟨B0, 0, none⟩) 5 5), (6, .int .i64 5), (7, .int .i64 0), (9, .pointer (some ⟨B0, 0, none⟩))]) (by kernel_rfl) ?_
  refine t_v (.ld1 rfl rfl rfl (.at 0 rfl rfl)) ?_
  refine t_qz 1 [4, 5, 6, 7] (σ' := [(4, .int .i64 m0_0), (5, .slice (some ⟨B0, 0, none⟩) 5 5), (6, .int .i64 5), (7, .int .i64 0)]) (by kernel_rfl) ?_
  refine t_end ?_
  show W _ _ _ _ _ _ _
  refine w_seq ?_
  refine w_reg fun all => ?_
  by_cases c22 : m0_0 < (-1000000000000000)
  · rw [if_pos c22] at e
    have c22b : (decide (m0_0 < (-1000000000000000))) = true := decide_eq_true c22
    refine t_qz 1 [4, 5, 6, 7, 11] (σ' := [(4, .int .i64 m0_0), (5, .slice (some ⟨B0, 0, none⟩) 5 5), (6, .int .i64 5), (7, .int .i64 0), (11, .int .i64 m0_0)]) (by kernel_rfl) ?_
    refine t_v (dv_quiet rfl (congrArg (fun t => some (Value.bool t)) c22b)) ?_
    refine t_qz 4 [5, 6, 7, 14, 15, 16] (σ' := [(5, .slice (some ⟨B0, 0, none⟩) 5 5), (6, .int .i64 5), (7, .int .i64 0), (14, .tuple #[]), (15, .tuple #[]), (16, .bool true)]) (by kernel_rfl) ?_
    refine t_end ?_
    show W _ _ _ _ _ _ _
    refine w_cond rfl (fun _ => ?_) (fun c_ => by cases c_)
    show W _ _ _ _ _ _ _
    refine w_seq ?_
    refine w_reg fun all => ?_
    refine t_qz 1 [2] (σ' := [(2, .bool false)]) (by kernel_rfl) ?_
    refine t_end ?_
    show W _ _ _ _ _ _ _
    refine w_ret ?_
    obtain rfl := Option.some.inj e
    exact ⟨[.bool false], ([⟨B0, [.int .i64 m0_0, .int .i64 m0_1, .int .i64 m0_2, .int .i64 m0_3, .int .i64 m0_4], 5⟩] : List Own), S, ⟨rfl, trivial⟩, VS.sel [0] (by kernel_rfl), rfl, rfl, rfl⟩
  · rw [if_neg c22] at e
    have c22b : (decide (m0_0 < (-1000000000000000))) = false := decide_eq_false c22
    refine t_qz 1 [4, 5, 6, 7, 11] (σ' := [(4, .int .i64 m0_0), (5, .slice (some ⟨B0, 0, none⟩) 5 5), (6, .int .i64 5), (7, .int .i64 0), (11, .int .i64 m0_0)]) (by kernel_rfl) ?_
    refine t_v (dv_quiet rfl (congrArg (fun t => some (Value.bool t)) c22b)) ?_
    by_cases c23 : m0_0 > 1000000000000000
    · rw [if_pos c23] at e
      have c23b : (decide (m0_0 > 1000000000000000)) = true := decide_eq_true c23
      refine t_qz 2 [5, 6, 7, 13, 14] (σ' := [(5, .slice (some ⟨B0, 0, none⟩) 5 5), (6, .int .i64 5), (7, .int .i64 0), (13, .bool false), (14, .int .i64 m0_0)]) (by kernel_rfl) ?_
      refine t_v (dv_quiet rfl (congrArg (fun t => some (Value.bool t)) c23b)) ?_
      refine t_qz 1 [5, 6, 7, 14, 15, 16] (σ' := [(5, .slice (some ⟨B0, 0, none⟩) 5 5), (6, .int .i64 5), (7, .int .i64 0), (14, .int .i64 m0_0), (15, .bool true), (16, .bool true)]) (by kernel_rfl) ?_
      refine t_end ?_
      show W _ _ _ _ _ _ _
      refine w_cond rfl (fun _ => ?_) (fun c_ => by cases c_)
      show W _ _ _ _ _ _ _
      refine w_seq ?_
      refine w_reg fun all => ?_
      refine t_qz 1 [2] (σ' := [(2, .bool false)]) (by kernel_rfl) ?_
      refine t_end ?_
      show W _ _ _ _ _ _ _
      refine w_ret ?_
      obtain rfl := Option.some.inj e
      exact ⟨[.bool false], ([⟨B0, [.int .i64 m0_0, .int .i64 m0_1, .int .i64 m0_2, .int .i64 m0_3, .int .i64 m0_4], 5⟩] : List Own), S, ⟨rfl, trivial⟩, VS.sel [0] (by kernel_rfl), rfl, rfl, rfl⟩
    · rw [if_neg c23] at e
      have c23b : (decide (m0_0 > 1000000000000000)) = false := decide_eq_false c23
      refine t_qz 2 [5, 6, 7, 13, 14] (σ' := [(5, .slice (some ⟨B0, 0, none⟩) 5 5), (6, .int .i64 5), (7, .int .i64 0), (13, .bool false), (14, .int .i64 m0_0)]) (by kernel_rfl) ?_
      refine t_v (dv_quiet rfl (congrArg (fun t => some (Value.bool t)) c23b)) ?_
      refine t_qz 1 [5, 6, 7, 14, 15, 16] (σ' := [(5, .slice (some ⟨B0, 0, none⟩) 5 5), (6, .int .i64 5), (7, .int .i64 0), (14, .int .i64 m0_0), (15, .bool false), (16, .bool false)]) (by kernel_rfl) ?_
      refine t_end ?_
      show W _ _ _ _ _ _ _
      refine w_cond rfl (fun c_ => by cases c_) (fun _ => ?_)
      show W _ _ _ _ _ _ _
      refine w_skip ?_
      show W _ _ _ _ _ _ _
      refine w_reg fun all => ?_
      refine t_qz 2 [5, 6, 7, 14, 15] (σ' := [(5, .slice (some ⟨B0, 0, none⟩) 5 5), (6, .int .i64 5), (7, .int .i64 1), (14, .int .i64 m0_0), (15, .bool false)]) (by kernel_rfl) ?_
      refine t_end ?_
      show WL _ _ _ _ _ _ _ _
      refine wl_step ?_
      refine w_seq ?_
      refine w_reg fun all => ?_
      refine t_qz 1 [5, 6, 7, 8, 14, 15] (σ' := [(5, .slice (some ⟨B0, 0, none⟩) 5 5), (6, .int .i64 5), (7, .int .i64 1), (8, .bool true), (14, .int .i64 m0_0), (15, .bool false)]) (by kernel_rfl) ?_
      refine t_end ?_
      show W _ _ _ _ _ _ _
      refine w_seq ?_
      refine w_cond rfl (fun _ => ?_) (fun c_ => by cases c_)
      show W _ _ _ _ _ _ _
      refine w_skip ?_
      show W _ _ _ _ _ _ _
      refine w_seq ?_
      refine w_block ?_
      refine w_seq ?_
      refine w_reg fun all => ?_
      refine t_qz 1 [5, 6, 7, 9, 14, 15] (σ' := [(5, .slice (some ⟨B0, 0, none⟩) 5 5), (6, .int .i64 5), (7, .int .i64 1), (9, .pointer (some ⟨B0, 1, none⟩)), (14, .int .i64 m0_0), (15, .bool false)]) (by kernel_rfl) ?_
      refine t_v (.ld1 rfl rfl rfl (.at 0 rfl rfl)) ?_
      refine t_qz 1 [4, 5, 6, 7, 14, 15] (σ' := [(4, .int .i64 m0_1), (5, .slice (some ⟨B0, 0, none⟩) 5 5), (6, .int .i64 5), (7, .int .i64 1), (14, .int .i64 m0_0), (15, .bool false)]) (by kernel_rfl) ?_
      refine t_end ?_
      show W _ _ _ _ _ _ _
      refine w_seq ?_
      refine w_reg fun all => ?_
      by_cases c24 : m0_1 < (-1000000000000000)
      · rw [if_pos c24] at e
        have c24b : (decide (m0_1 < (-1000000000000000))) = true := decide_eq_true c24
        refine t_qz 1 [4, 5, 6, 7, 11, 14, 15] (σ' := [(4, .int .i64 m0_1), (5, .slice (some ⟨B0, 0, none⟩) 5 5), (6, .int .i64 5), (7, .int .i64 1), (11, .int .i64 m0_1), (14, .int .i64 m0_0), (15, .bool false)]) (by kernel_rfl) ?_
        refine t_v (dv_quiet rfl (congrArg (fun t => some (Value.bool t)) c24b)) ?_
        refine t_qz 4 [5, 6, 7, 14, 15, 16] (σ' := [(5, .slice (some ⟨B0, 0, none⟩) 5 5), (6, .int .i64 5), (7, .int .i64 1), (14, .tuple #[]), (15, .tuple #[]), (16, .bool true)]) (by kernel_rfl) ?_
        refine t_end ?_
        show W _ _ _ _ _ _ _
        refine w_cond rfl (fun _ => ?_) (fun c_ => by cases c_)
        show W _ _ _ _ _ _ _
        refine w_seq ?_
        refine w_reg fun all => ?_
        refine t_qz 1 [2] (σ' := [(2, .bool false)]) (by kernel_rfl) ?_
        refine t_end ?_
        show W _ _ _ _ _ _ _
        refine w_ret ?_
        obtain rfl := Option.some.inj e
        exact ⟨[.bool false], ([⟨B0, [.int .i64 m0_0, .int .i64 m0_1, .int .i64 m0_2, .int .i64 m0_3, .int .i64 m0_4], 5⟩] : List Own), S, ⟨rfl, trivial⟩, VS.sel [0] (by kernel_rfl), rfl, rfl, rfl⟩
      · rw [if_neg c24] at e
        have c24b : (decide (m0_1 < (-1000000000000000))) = false := decide_eq_false c24
        refine t_qz 1 [4, 5, 6, 7, 11, 14, 15] (σ' := [(4, .int .i64 m0_1), (5, .slice (some ⟨B0, 0, none⟩) 5 5), (6, .int .i64 5), (7, .int .i64 1), (11, .int .i64 m0_1), (14, .int .i64 m0_0), (15, .bool false)]) (by kernel_rfl) ?_
        refine t_v (dv_quiet rfl (congrArg (fun t => some (Value.bool t)) c24b)) ?_
        by_cases c25 : m0_1 > 1000000000000000
        · rw [if_pos c25] at e
          have c25b : (decide (m0_1 > 1000000000000000)) = true := decide_eq_true c25
          refine t_qz 2 [5, 6, 7, 13, 14, 15] (σ' := [(5, .slice (some ⟨B0, 0, none⟩) 5 5), (6, .int .i64 5), (7, .int .i64 1), (13, .bool false), (14, .int .i64 m0_1), (15, .bool false)]) (by kernel_rfl) ?_
          refine t_v (dv_quiet rfl (congrArg (fun t => some (Value.bool t)) c25b)) ?_
          refine t_qz 1 [5, 6, 7, 14, 15, 16] (σ' := [(5, .slice (some ⟨B0, 0, none⟩) 5 5), (6, .int .i64 5), (7, .int .i64 1), (14, .int .i64 m0_1), (15, .bool true), (16, .bool true)]) (by kernel_rfl) ?_
          refine t_end ?_
          show W _ _ _ _ _ _ _
          refine w_cond rfl (fun _ => ?_) (fun c_ => by cases c_)
          show W _ _ _ _ _ _ _
          refine w_seq ?_
          refine w_reg fun all => ?_
          refine t_qz 1 [2] (σ' := [(2, .bool false)]) (by kernel_rfl) ?_
          refine t_end ?_
          show W _ _ _ _ _ _ _
          refine w_ret ?_
          obtain rfl := Option.some.inj e
          exact ⟨[.bool false], ([⟨B0, [.int .i64 m0_0, .int .i64 m0_1, .int .i64 m0_2, .int .i64 m0_3, .int .i64 m0_4], 5⟩] : List Own), S, ⟨rfl, trivial⟩, VS.sel [0] (by kernel_rfl), rfl, rfl, rfl⟩
        · rw [if_neg c25] at e
          have c25b : (decide (m0_1 > 1000000000000000)) = false := decide_eq_false c25
          refine t_qz 2 [5, 6, 7, 13, 14, 15] (σ' := [(5, .slice (some ⟨B0, 0, none⟩) 5 5), (6, .int .i64 5), (7, .int .i64 1), (13, .bool false), (14, .int .i64 m0_1), (15, .bool false)]) (by kernel_rfl) ?_
          refine t_v (dv_quiet rfl (congrArg (fun t => some (Value.bool t)) c25b)) ?_
          refine t_qz 1 [5, 6, 7, 14, 15, 16] (σ' := [(5, .slice (some ⟨B0, 0, none⟩) 5 5), (6, .int .i64 5), (7, .int .i64 1), (14, .int .i64 m0_1), (15, .bool false), (16, .bool false)]) (by kernel_rfl) ?_
          refine t_end ?_
          show W _ _ _ _ _ _ _
          refine w_cond rfl (fun c_ => by cases c_) (fun _ => ?_)
          show W _ _ _ _ _ _ _
          refine w_skip ?_
          show W _ _ _ _ _ _ _
          refine w_reg fun all => ?_
          refine t_qz 2 [5, 6, 7, 14, 15] (σ' := [(5, .slice (some ⟨B0, 0, none⟩) 5 5), (6, .int .i64 5), (7, .int .i64 2), (14, .int .i64 m0_1), (15, .bool false)]) (by kernel_rfl) ?_
          refine t_end ?_
          show WL _ _ _ _ _ _ _ _
          refine wl_step ?_
          refine w_seq ?_
          refine w_reg fun all => ?_
          refine t_qz 1 [5, 6, 7, 8, 14, 15] (σ' := [(5, .slice (some ⟨B0, 0, none⟩) 5 5), (6, .int .i64 5), (7, .int .i64 2), (8, .bool true), (14, .int .i64 m0_1), (15, .bool false)]) (by kernel_rfl) ?_
          refine t_end ?_
          show W _ _ _ _ _ _ _
          refine w_seq ?_
          refine w_cond rfl (fun _ => ?_) (fun c_ => by cases c_)
          show W _ _ _ _ _ _ _
          refine w_skip ?_
          show W _ _ _ _ _ _ _
          refine w_seq ?_
          refine w_block ?_
          refine w_seq ?_
          refine w_reg fun all => ?_
          refine t_qz 1 [5, 6, 7, 9, 14, 15] (σ' := [(5, .slice (some ⟨B0, 0, none⟩) 5 5), (6, .int .i64 5), (7, .int .i64 2), (9, .pointer (some ⟨B0, 2, none⟩)), (14, .int .i64 m0_1), (15, .bool false)]) (by kernel_rfl) ?_
          refine t_v (.ld1 rfl rfl rfl (.at 0 rfl rfl)) ?_
          refine t_qz 1 [4, 5, 6, 7, 14, 15] (σ' := [(4, .int .i64 m0_2), (5, .slice (some ⟨B0, 0, none⟩) 5 5), (6, .int .i64 5), (7, .int .i64 2), (14, .int .i64 m0_1), (15, .bool false)]) (by kernel_rfl) ?_
          refine t_end ?_
          show W _ _ _ _ _ _ _
          refine w_seq ?_
          refine w_reg fun all => ?_
          by_cases c26 : m0_2 < (-1000000000000000)
          · rw [if_pos c26] at e
            have c26b : (decide (m0_2 < (-1000000000000000))) = true := decide_eq_true c26
            refine t_qz 1 [4, 5, 6, 7, 11, 14, 15] (σ' := [(4, .int .i64 m0_2), (5, .slice (some ⟨B0, 0, none⟩) 5 5), (6, .int .i64 5), (7, .int .i64 2), (11, .int .i64 m0_2), (14, .int .i64 m0_1), (15, .bool false)]) (by kernel_rfl) ?_
            refine t_v (dv_quiet rfl (congrArg (fun t => some (Value.bool t)) c26b)) ?_
            refine t_qz 4 [5, 6, 7, 14, 15, 16] (σ' := [(5, .slice (some ⟨B0, 0, none⟩) 5 5), (6, .int .i64 5), (7, .int .i64 2), (14, .tuple #[]), (15, .tuple #[]), (16, .bool true)]) (by kernel_rfl) ?_
            refine t_end ?_
            show W _ _ _ _ _ _ _
            refine w_cond rfl (fun _ => ?_) (fun c_ => by cases c_)
            show W _ _ _ _ _ _ _
            refine w_seq ?_
            refine w_reg fun all => ?_
            refine t_qz 1 [2] (σ' := [(2, .bool false)]) (by kernel_rfl) ?_
            refine t_end ?_
            show W _ _ _ _ _ _ _
            refine w_ret ?_
            obtain rfl := Option.some.inj e
            exact ⟨[.bool false], ([⟨B0, [.int .i64 m0_0, .int .i64 m0_1, .int .i64 m0_2, .int .i64 m0_3, .int .i64 m0_4], 5⟩] : List Own), S, ⟨rfl, trivial⟩, VS.sel [0] (by kernel_rfl), rfl, rfl, rfl⟩
          · rw [if_neg c26] at e
            have c26b : (decide (m0_2 < (-1000000000000000))) = false := decide_eq_false c26
            refine t_qz 1 [4, 5, 6, 7, 11, 14, 15] (σ' := [(4, .int .i64 m0_2), (5, .slice (some ⟨B0, 0, none⟩) 5 5), (6, .int .i64 5), (7, .int .i64 2), (11, .int .i64 m0_2), (14, .int .i64 m0_1), (15, .bool false)]) (by kernel_rfl) ?_
            refine t_v (dv_quiet rfl (congrArg (fun t => some (Value.bool t)) c26b)) ?_
            by_cases c27 : m0_2 > 1000000000000000
            · rw [if_pos c27] at e
              have c27b : (decide (m0_2 > 1000000000000000)) = true := decide_eq_true c27
              refine t_qz 2 [5, 6, 7, 13, 14, 15] (σ' := [(5, .slice (some ⟨B0, 0, none⟩) 5 5), (6, .int .i64 5), (7, .int .i64 2), (13, .bool false), (14, .int .i64 m0_2), (15, .bool false)]) (by kernel_rfl) ?_
              refine t_v (dv_quiet rfl (congrArg (fun t => some (Value.bool t)) c27b)) ?_
              refine t_qz 1 [5, 6, 7, 14, 15, 16] (σ' := [(5, .slice (some ⟨B0, 0, none⟩) 5 5), (6, .int .i64 5), (7, .int .i64 2), (14, .int .i64 m0_2), (15, .bool true), (16, .bool true)]) (by kernel_rfl) ?_
              refine t_end ?_
              show W _ _ _ _ _ _ _
              refine w_cond rfl (fun _ => ?_) (fun c_ => by cases c_)
              show W _ _ _ _ _ _ _
              refine w_seq ?_
              refine w_reg fun all => ?_
              refine t_qz 1 [2] (σ' := [(2, .bool false)]) (by kernel_rfl) ?_
              refine t_end ?_
              show W _ _ _ _ _ _ _
              refine w_ret ?_
              obtain rfl := Option.some.inj e
              exact ⟨[.bool false], ([⟨B0, [.int .i64 m0_0, .int .i64 m0_1, .int .i64 m0_2, .int .i64 m0_3, .int .i64 m0_4], 5⟩] : List Own), S, ⟨rfl, trivial⟩, VS.sel [0] (by kernel_rfl), rfl, rfl, rfl⟩
            · rw [if_neg c27] at e
              have c27b : (decide (m0_2 > 1000000000000000)) = false := decide_eq_false c27
              refine t_qz 2 [5, 6, 7, 13, 14, 15] (σ' := [(5, .slice (some ⟨B0, 0, none⟩) 5 5), (6, .int .i64 5), (7, .int .i64 2), (13, .bool false), (14, .int .i64 m0_2), (15, .bool false)]) (by kernel_rfl) ?_
              refine t_v (dv_quiet rfl (congrArg (fun t => some (Value.bool t)) c27b)) ?_
              refine t_qz 1 [5, 6, 7, 14, 15, 16] (σ' := [(5, .slice (some ⟨B0, 0, none⟩) 5 5), (6, .int .i64 5), (7, .int .i64 2), (14, .int .i64 m0_2), (15, .bool false), (16, .bool false)]) (by kernel_rfl) ?_
              refine t_end ?_
              show W _ _ _ _ _ _ _
              refine w_cond rfl (fun c_ => by cases c_) (fun _ => ?_)
              show W _ _ _ _ _ _ _
              refine w_skip ?_
              show W _ _ _ _ _ _ _
              refine w_reg fun all => ?_
              refine t_qz 2 [5, 6, 7, 14, 15] (σ' := [(5, .slice (some ⟨B0, 0, none⟩) 5 5), (6, .int .i64 5), (7, .int .i64 3), (14, .int .i64 m0_2), (15, .bool false)]) (by kernel_rfl) ?_
              refine t_end ?_
              show WL _ _ _ _ _ _ _ _
              refine wl_step ?_
              refine w_seq ?_
              refine w_reg fun all => ?_
              refine t_qz 1 [5, 6, 7, 8, 14, 15] (σ' := [(5, .slice (some ⟨B0, 0, none⟩) 5 5), (6, .int .i64 5), (7, .int .i64 3), (8, .bool true), (14, .int .i64 m0_2), (15, .bool false)]) (by kernel_rfl) ?_
              refine t_end ?_
              show W _ _ _ _ _ _ _
              refine w_seq ?_
              refine w_cond rfl (fun _ => ?_) (fun c_ => by cases c_)
              show W _ _ _ _ _ _ _
              refine w_skip ?_
              show W _ _ _ _ _ _ _
              refine w_seq ?_
              refine w_block ?_
              refine w_seq ?_
              refine w_reg fun all => ?_
              refine t_qz 1 [5, 6, 7, 9, 14, 15] (σ' := [(5, .slice (some ⟨B0, 0, none⟩) 5 5), (6, .int .i64 5), (7, .int .i64 3), (9, .pointer (some ⟨B0, 3, none⟩)), (14, .int .i64 m0_2), (15, .bool false)]) (by kernel_rfl) ?_
              refine t_v (.ld1 rfl rfl rfl (.at 0 rfl rfl)) ?_
              refine t_qz 1 [4, 5, 6, 7, 14, 15] (σ' := [(4, .int .i64 m0_3), (5, .slice (some ⟨B0, 0, none⟩) 5 5), (6, .int .i64 5), (7, .int .i64 3), (14, .int .i64 m0_2), (15, .bool false)]) (by kernel_rfl) ?_
              refine t_end ?_
              show W _ _ _ _ _ _ _
              refine w_seq ?_
              refine w_reg fun all => ?_
              by_cases c28 : m0_3 < (-1000000000000000)
              · rw [if_pos c28] at e
                have c28b : (decide (m0_3 < (-1000000000000000))) = true := decide_eq_true c28
                refine t_qz 1 [4, 5, 6, 7, 11, 14, 15] (σ' := [(4, .int .i64 m0_3), (5, .slice (some ⟨B0, 0, none⟩) 5 5), (6, .int .i64 5), (7, .int .i64 3), (11, .int .i64 m0_3), (14, .int .i64 m0_2), (15, .bool false)]) (by kernel_rfl) ?_
                refine t_v (dv_quiet rfl (congrArg (fun t => some (Value.bool t)) c28b)) ?_
                refine t_qz 4 [5, 6, 7, 14, 15, 16] (σ' := [(5, .slice (some ⟨B0, 0, none⟩) 5 5), (6, .int .i64 5), (7, .int .i64 3), (14, .tuple #[]), (15, .tuple #[]), (16, .bool true)]) (by kernel_rfl) ?_
                refine t_end ?_
                show W _ _ _ _ _ _ _
                refine w_cond rfl (fun _ => ?_) (fun c_ => by cases c_)
                show W _ _ _ _ _ _ _
                refine w_seq ?_
                refine w_reg fun all => ?_
                refine t_qz 1 [2] (σ' := [(2, .bool false)]) (by kernel_rfl) ?_
                refine t_end ?_
                show W _ _ _ _ _ _ _
                refine w_ret ?_
                obtain rfl := Option.some.inj e
                exact ⟨[.bool false], ([⟨B0, [.int .i64 m0_0, .int .i64 m0_1, .int .i64 m0_2, .int .i64 m0_3, .int .i64 m0_4], 5⟩] : List Own), S, ⟨rfl, trivial⟩, VS.sel [0] (by kernel_rfl), rfl, rfl, rfl⟩
              · rw [if_neg c28] at e
                have c28b : (decide (m0_3 < (-1000000000000000))) = false := decide_eq_false c28
                refine t_qz 1 [4, 5, 6, 7, 11, 14, 15] (σ' := [(4, .int .i64 m0_3), (5, .slice (some ⟨B0, 0, none⟩) 5 5), (6, .int .i64 5), (7, .int .i64 3), (11, .int .i64 m0_3), (14, .int .i64 m0_2), (15, .bool false)]) (by kernel_rfl) ?_
                refine t_v (dv_quiet rfl (congrArg (fun t => some (Value.bool t)) c28b)) ?_
                by_cases c29 : m0_3 > 1000000000000000
                · rw [if_pos c29] at e
                  have c29b : (decide (m0_3 > 1000000000000000)) = true := decide_eq_true c29
                  refine t_qz 2 [5, 6, 7, 13, 14, 15] (σ' := [(5, .slice (some ⟨B0, 0, none⟩) 5 5), (6, .int .i64 5), (7, .int .i64 3), (13, .bool false), (14, .int .i64 m0_3), (15, .bool false)]) (by kernel_rfl) ?_
                  refine t_v (dv_quiet rfl (congrArg (fun t => some (Value.bool t)) c29b)) ?_
                  refine t_qz 1 [5, 6, 7, 14, 15, 16] (σ' := [(5, .slice (some ⟨B0, 0, none⟩) 5 5), (6, .int .i64 5), (7, .int .i64 3), (14, .int .i64 m0_3), (15, .bool true), (16, .bool true)]) (by kernel_rfl) ?_
                  refine t_end ?_
                  show W _ _ _ _ _ _ _
                  refine w_cond rfl (fun _ => ?_) (fun c_ => by cases c_)
                  show W _ _ _ _ _ _ _
                  refine w_seq ?_
                  refine w_reg fun all => ?_
                  refine t_qz 1 [2] (σ' := [(2, .bool false)]) (by kernel_rfl) ?_
                  refine t_end ?_
                  show W _ _ _ _ _ _ _
                  refine w_ret ?_
                  obtain rfl := Option.some.inj e
                  exact ⟨[.bool false], ([⟨B0, [.int .i64 m0_0, .int .i64 m0_1, .int .i64 m0_2, .int .i64 m0_3, .int .i64 m0_4], 5⟩] : List Own), S, ⟨rfl, trivial⟩, VS.sel [0] (by kernel_rfl), rfl, rfl, rfl⟩
                · rw [if_neg c29] at e
                  have c29b : (decide (m0_3 > 1000000000000000)) = false := decide_eq_false c29
                  refine t_qz 2 [5, 6, 7, 13, 14, 15] (σ' := [(5, .slice (some ⟨B0, 0, none⟩) 5 5), (6, .int .i64 5), (7, .int .i64 3), (13, .bool false), (14, .int .i64 m0_3), (15, .bool false)]) (by kernel_rfl) ?_
                  refine t_v (dv_quiet rfl (congrArg (fun t => some (Value.bool t)) c29b)) ?_
                  refine t_qz 1 [5, 6, 7, 14, 15, 16] (σ' := [(5, .slice (some ⟨B0, 0, none⟩) 5 5), (6, .int .i64 5), (7, .int .i64 3), (14, .int .i64 m0_3), (15, .bool false), (16, .bool false)]) (by kernel_rfl) ?_
                  refine t_end ?_
                  show W _ _ _ _ _ _ _
                  refine w_cond rfl (fun c_ => by cases c_) (fun _ => ?_)
                  show W _ _ _ _ _ _ _
                  refine w_skip ?_
                  show W _ _ _ _ _ _ _
                  refine w_reg fun all => ?_
                  refine t_qz 2 [5, 6, 7, 14, 15] (σ' := [(5, .slice (some ⟨B0, 0, none⟩) 5 5), (6, .int .i64 5), (7, .int .i64 4), (14, .int .i64 m0_3), (15, .bool false)]) (by kernel_rfl) ?_
                  refine t_end ?_
                  show WL _ _ _ _ _ _ _ _
                  refine wl_step ?_
                  refine w_seq ?_
                  refine w_reg fun all => ?_
                  refine t_qz 1 [5, 6, 7, 8, 14, 15] (σ' := [(5, .slice (some ⟨B0, 0, none⟩) 5 5), (6, .int .i64 5), (7, .int .i64 4), (8, .bool true), (14, .int .i64 m0_3), (15, .bool false)]) (by kernel_rfl) ?_
                  refine t_end ?_
                  show W _ _ _ _ _ _ _
                  refine w_seq ?_
                  refine w_cond rfl (fun _ => ?_) (fun c_ => by cases c_)
                  show W _ _ _ _ _ _ _
                  refine w_skip ?_
                  show W _ _ _ _ _ _ _
                  refine w_seq ?_
                  refine w_block ?_
                  refine w_seq ?_
                  refine w_reg fun all => ?_
                  refine t_qz 1 [5, 6, 7, 9, 14, 15] (σ' := [(5, .slice (some ⟨B0, 0, none⟩) 5 5), (6, .int .i64 5), (7, .int .i64 4), (9, .pointer (some ⟨B0, 4, none⟩)), (14, .int .i64 m0_3), (15, .bool false)]) (by kernel_rfl) ?_
                  refine t_v (.ld1 rfl rfl rfl (.at 0 rfl rfl)) ?_
                  refine t_qz 1 [4, 5, 6, 7, 14, 15] (σ' := [(4, .int .i64 m0_4), (5, .slice (some ⟨B0, 0, none⟩) 5 5), (6, .int .i64 5), (7, .int .i64 4), (14, .int .i64 m0_3), (15, .bool false)]) (by kernel_rfl) ?_
                  refine t_end ?_
                  show W _ _ _ _ _ _ _
                  refine w_seq ?_
                  refine w_reg fun all => ?_
                  by_cases c30 : m0_4 < (-1000000000000000)
                  · rw [if_pos c30] at e
                    have c30b : (decide (m0_4 < (-1000000000000000))) = true := decide_eq_true c30
                    refine t_qz 1 [4, 5, 6, 7, 11, 14, 15] (σ' := [(4, .int .i64 m0_4), (5, .slice (some ⟨B0, 0, none⟩) 5 5), (6, .int .i64 5), (7, .int .i64 4), (11, .int .i64 m0_4), (14, .int .i64 m0_3), (15, .bool false)]) (by kernel_rfl) ?_
                    refine t_v (dv_quiet rfl (congrArg (fun t => some (Value.bool t)) c30b)) ?_
                    refine t_qz 4 [5, 6, 7, 14, 15, 16] (σ' := [(5, .slice (some ⟨B0, 0, none⟩) 5 5), (6, .int .i64 5), (7, .int .i64 4), (14, .tuple #[]), (15, .tuple #[]), (16, .bool true)]) (by kernel_rfl) ?_
                    refine t_end ?_
                    show W _ _ _ _ _ _ _
                    refine w_cond rfl (fun _ => ?_) (fun c_ => by cases c_)
                    show W _ _ _ _ _ _ _
                    refine w_seq ?_
                    refine w_reg fun all => ?_
                    refine t_qz 1 [2] (σ' := [(2, .bool false)]) (by kernel_rfl) ?_
                    refine t_end ?_
                    show W _ _ _ _ _ _ _
                    refine w_ret ?_
                    obtain rfl := Option.some.inj e
                    exact ⟨[.bool false], ([⟨B0, [.int .i64 m0_0, .int .i64 m0_1, .int .i64 m0_2, .int .i64 m0_3, .int .i64 m0_4], 5⟩] : List Own), S, ⟨rfl, trivial⟩, VS.sel [0] (by kernel_rfl), rfl, rfl, rfl⟩
                  · rw [if_neg c30] at e
                    have c30b : (decide (m0_4 < (-1000000000000000))) = false := decide_eq_false c30
                    refine t_qz 1 [4, 5, 6, 7, 11, 14, 15] (σ' := [(4, .int .i64 m0_4), (5, .slice (some ⟨B0, 0, none⟩) 5 5), (6, .int .i64 5), (7, .int .i64 4), (11, .int .i64 m0_4), (14, .int .i64 m0_3), (15, .bool false)]) (by kernel_rfl) ?_
                    refine t_v (dv_quiet rfl (congrArg (fun t => some (Value.bool t)) c30b)) ?_
                    by_cases c31 : m0_4 > 1000000000000000
                    · rw [if_pos c31] at e
                      have c31b : (decide (m0_4 > 1000000000000000)) = true := decide_eq_true c31
                      refine t_qz 2 [5, 6, 7, 13, 14, 15] (σ' := [(5, .slice (some ⟨B0, 0, none⟩) 5 5), (6, .int .i64 5), (7, .int .i64 4), (13, .bool false), (14, .int .i64 m0_4), (15, .bool false)]) (by kernel_rfl) ?_
                      refine t_v (dv_quiet rfl (congrArg (fun t => some (Value.bool t)) c31b)) ?_
                      refine t_qz 1 [5, 6, 7, 14, 15, 16] (σ' := [(5, .slice (some ⟨B0, 0, none⟩) 5 5), (6, .int .i64 5), (7, .int .i64 4), (14, .int .i64 m0_4), (15, .bool true), (16, .bool true)]) (by kernel_rfl) ?_
                      refine t_end ?_
                      show W _ _ _ _ _ _ _
                      refine w_cond rfl (fun _ => ?_) (fun c_ => by cases c_)
                      show W _ _ _ _ _ _ _
                      refine w_seq ?_
                      refine w_reg fun all => ?_
                      refine t_qz 1 [2] (σ' := [(2, .bool false)]) (by kernel_rfl) ?_
                      refine t_end ?_
                      show W _ _ _ _ _ _ _
                      refine w_ret ?_
                      obtain rfl := Option.some.inj e
                      exact ⟨[.bool false], ([⟨B0, [.int .i64 m0_0, .int .i64 m0_1, .int .i64 m0_2, .int .i64 m0_3, .int .i64 m0_4], 5⟩] : List Own), S, ⟨rfl, trivial⟩, VS.sel [0] (by kernel_rfl), rfl, rfl, rfl⟩
                    · rw [if_neg c31] at e
                      have c31b : (decide (m0_4 > 1000000000000000)) = false := decide_eq_false c31
                      refine t_qz 2 [5, 6, 7, 13, 14, 15] (σ' := [(5, .slice (some ⟨B0, 0, none⟩) 5 5), (6, .int .i64 5), (7, .int .i64 4), (13, .bool false), (14, .int .i64 m0_4), (15, .bool false)]) (by kernel_rfl) ?_
                      refine t_v (dv_quiet rfl (congrArg (fun t => some (Value.bool t)) c31b)) ?_
                      refine t_qz 1 [5, 6, 7, 14, 15, 16] (σ' := [(5, .slice (some ⟨B0, 0, none⟩) 5 5), (6, .int .i64 5), (7, .int .i64 4), (14, .int .i64 m0_4), (15, .bool false), (16, .bool false)]) (by kernel_rfl) ?_
                      refine t_end ?_
                      show W _ _ _ _ _ _ _
                      refine w_cond rfl (fun c_ => by cases c_) (fun _ => ?_)
                      show W _ _ _ _ _ _ _
                      refine w_skip ?_
                      show W _ _ _ _ _ _ _
                      refine w_reg fun all => ?_
                      refine t_qz 2 [5, 6, 7, 14, 15] (σ' := [(5, .slice (some ⟨B0, 0, none⟩) 5 5), (6, .int .i64 5), (7, .int .i64 5), (14, .int .i64 m0_4), (15, .bool false)]) (by kernel_rfl) ?_
                      refine t_end ?_
                      show WL _ _ _ _ _ _ _ _
                      refine wl_step ?_
                      refine w_seq ?_
                      refine w_reg fun all => ?_
                      refine t_qz 1 [5, 6, 7, 8, 14, 15] (σ' := [(5, .slice (some ⟨B0, 0, none⟩) 5 5), (6, .int .i64 5), (7, .int .i64 5), (8, .bool false), (14, .int .i64 m0_4), (15, .bool false)]) (by kernel_rfl) ?_
                      refine t_end ?_
                      show W _ _ _ _ _ _ _
                      refine w_seq ?_
                      refine w_cond rfl (fun c_ => by cases c_) (fun _ => ?_)
                      show W _ _ _ _ _ _ _
                      refine w_exit ?_
                      show W _ _ _ _ _ _ _
                      refine w_seq ?_
                      refine w_reg fun all => ?_
                      refine t_qz 1 [2] (σ' := [(2, .bool true)]) (by kernel_rfl) ?_
                      refine t_end ?_
                      show W _ _ _ _ _ _ _
                      refine w_ret ?_
                      obtain rfl := Option.some.inj e
                      exact ⟨[.bool true], ([⟨B0, [.int .i64 m0_0, .int .i64 m0_1, .int .i64 m0_2, .int .i64 m0_3, .int .i64 m0_4], 5⟩] : List Own), S, ⟨rfl, trivial⟩, VS.sel [0] (by kernel_rfl), rfl, rfl, rfl⟩

/-- fixed.size -/
def c60 : C :=
  (.seq (.reg [⟨(some 2), .mv (.const (.int .u64 0)), none⟩])
  (.seq (.seq (.reg [⟨(some 3), .mv (.tmp 0), none⟩,
      ⟨(some 4), .bin .lss (.tmp 3) (.const (.int .i64 0)), none⟩])
   (.cond (.tmp 4)
    (.seq (.reg [⟨(some 5), .mv (.tmp 0), none⟩,
        ⟨(some 6), .cnv .u64 (.tmp 5), none⟩,
        ⟨(some 7), .un .neg (.tmp 6), none⟩,
        ⟨(some 2), .mv (.tmp 7), none⟩])
     .ret)
    .skip))
  (.seq (.reg [⟨(some 8), .mv (.tmp 0), none⟩,
     ⟨(some 9), .cnv .u64 (.tmp 8), none⟩,
     ⟨(some 2), .mv (.tmp 9), none⟩])
  .ret)))
def fixed_size.f (n0 : Int) : Option (Int) := if n0 < 0 then (some (wru64 (0 - (wru64 n0)))) else (some (wru64 n0))
theorem fixed_size.ok {S : Seal} {n0 : Int} {r0_ : Int} (e : fixed_size.f n0 = some r0_) :
    Cal Try.prog 60 [.int .i64 n0] [] S fun v H' S' => v = .int .u64 r0_ ∧ H' = [] ∧ S' = S := by
  unfold fixed_size.f at e
  refine cal_of (c := c60) (N := 10) Try.func60 rfl rfl (by kernel_rfl) (rs := [.t 2]) (by kernel_rfl) (Nat.le_of_ble_eq_true rfl) ?_
  unfold c60
  refine w_seq ?_
  refine w_reg fun all => ?_
  refine t_qz 1 [0] (σ' := [(0, .int .i64 n0)]) (by kernel_rfl) ?_
  refine t_end ?_
  show W _ _ _ _ _ _ _
  refine w_seq ?_
  refine w_seq ?_
  refine w_reg fun all => ?_
  by_cases c26 : n0 < 0
  · rw [if_pos c26] at e
    have c26b : (decide (n0 < 0)) = true := decide_eq_true c26
    refine t_qz 1 [0, 3] (σ' := [(0, .int .i64 n0), (3, .int .i64 n0)]) (by kernel_rfl) ?_
    refine t_v (dv_quiet rfl (congrArg (fun t => some (Value.bool t)) c26b)) ?_
    refine t_keep [0, 4] (σ' := [(0, .int .i64 n0), (4, .bool true)]) (by kernel_rfl) ?_
    refine t_end ?_
    show W _ _ _ _ _ _ _
    refine w_cond rfl (fun _ => ?_) (fun c_ => by cases c_)
    show W _ _ _ _ _ _ _
    refine w_seq ?_
    refine w_reg fun all => ?_
    refine t_qz 4 [2] (σ' := [(2, .int .u64 (wru64 (0 - (wru64 n0))))]) (by kernel_rfl) ?_
    refine t_end ?_
    show W _ _ _ _ _ _ _
    refine w_ret ?_
    obtain rfl := Option.some.inj e
    exact ⟨[.int .u64 (wru64 (0 - (wru64 n0)))], [], S, ⟨rfl, trivial⟩, VS.none, rfl, rfl, rfl⟩
  · rw [if_neg c26] at e
    have c26b : (decide (n0 < 0)) = false := decide_eq_false c26
    refine t_qz 1 [0, 3] (σ' := [(0, .int .i64 n0), (3, .int .i64 n0)]) (by kernel_rfl) ?_
    refine t_v (dv_quiet rfl (congrArg (fun t => some (Value.bool t)) c26b)) ?_
    refine t_keep [0, 4] (σ' := [(0, .int .i64 n0), (4, .bool false)]) (by kernel_rfl) ?_
    refine t_end ?_
    show W _ _ _ _ _ _ _
    refine w_cond rfl (fun c_ => by cases c_) (fun _ => ?_)
    show W _ _ _ _ _ _ _
    refine w_skip ?_
    show W _ _ _ _ _ _ _
    refine w_seq ?_
    refine w_reg fun all => ?_
    refine t_qz 3 [2] (σ' := [(2, .int .u64 (wru64 n0))]) (by kernel_rfl) ?_
    refine t_end ?_
    show W _ _ _ _ _ _ _
    refine w_ret ?_
    obtain rfl := Option.some.inj e
    exact ⟨[.int .u64 (wru64 n0)], [], S, ⟨rfl, trivial⟩, VS.none, rfl, rfl, rfl⟩

/-- fixed.MulDiv -/
def c53 : C :=
  (.seq (.reg [⟨(some 6), .mv (.const (.int .i64 0)), none⟩,
     ⟨(some 7), .mv (.const (.bool false)), none⟩])
  (.seq (.seq (.reg [⟨(some 14), .mv (.tmp 2), none⟩,
      ⟨(some 15), .bin .lss (.tmp 14) (.const (.int .i64 1)), none⟩])
   (.cond (.tmp 15)
    (.seq (.reg [⟨(some 6), .mv (.const (.int .i64 0)), none⟩,
        ⟨(some 7), .mv (.const (.bool false)), none⟩])
     .ret)
    .skip))
  (.seq (.reg [⟨(some 17), .mv (.tmp 0), none⟩,
     ⟨(some 18), .call 60 [(.tmp 17)], none⟩,
     ⟨(some 19), .mv (.tmp 1), none⟩,
     ⟨(some 20), .call 60 [(.tmp 19)], none⟩,
     ⟨(some 21), .call 58 [(.tmp 18), (.tmp 20)], none⟩,
     ⟨(some 16), .mv (.tmp 21), none⟩,
     ⟨(some 22), .xt 0 (.tmp 16), none⟩,
     ⟨(some 23), .xt 1 (.tmp 16), none⟩,
     ⟨(some 8), .mv (.tmp 22), none⟩,
     ⟨(some 9), .mv (.tmp 23), none⟩])
  (.seq (.seq (.reg [⟨(some 24), .mv (.tmp 8), none⟩,
      ⟨(some 25), .mv (.tmp 2), none⟩,
      ⟨(some 26), .cnv .u64 (.tmp 25), none⟩,
      ⟨(some 27), .bin .geq (.tmp 24) (.tmp 26), none⟩])
   (.cond (.tmp 27)
    (.seq (.reg [⟨(some 6), .mv (.const (.int .i64 0)), none⟩,
        ⟨(some 7), .mv (.const (.bool false)), none⟩])
     .ret)
    .skip))
  (.seq (.reg [⟨(some 29), .mv (.tmp 8), none⟩,
     ⟨(some 30), .mv (.tmp 9), none⟩,
     ⟨(some 31), .mv (.tmp 2), none⟩,
     ⟨(some 32), .cnv .u64 (.tmp 31), none⟩,
     ⟨(some 33), .call 61 [(.tmp 29), (.tmp 30), (.tmp 32)], none⟩,
     ⟨(some 28), .mv (.tmp 33), none⟩,
     ⟨(some 34), .xt 0 (.tmp 28), none⟩,
     ⟨(some 35), .xt 1 (.tmp 28), none⟩,
     ⟨(some 10), .mv (.tmp 34), none⟩,
     ⟨(some 11), .mv (.tmp 35), none⟩])
  (.seq (.reg [⟨(some 36), .mv (.tmp 0), none⟩,
     ⟨(some 37), .bin .lss (.tmp 36) (.const (.int .i64 0)), none⟩,
     ⟨(some 38), .mv (.tmp 1), none⟩,
     ⟨(some 39), .bin .lss (.tmp 38) (.const (.int .i64 0)), none⟩,
     ⟨(some 40), .beq true (.tmp 37) (.tmp 39), none⟩,
     ⟨(some 12), .mv (.tmp 40), none⟩])
  (.seq (.seq (.reg [⟨(some 41), .mv (.tmp 10), none⟩,
      ⟨(some 42), .bin .gtr (.tmp 41) (.const (.int .u64 9223372036854775808)), none⟩])
   (.cond (.tmp 42)
    (.seq (.reg [⟨(some 6), .mv (.const (.int .i64 0)), none⟩,
        ⟨(some 7), .mv (.const (.bool false)), none⟩])
     .ret)
    .skip))
  (.seq (.seq (.reg [⟨(some 43), .mv (.tmp 2), none⟩,
      ⟨(some 44), .cnv .u64 (.tmp 43), none⟩,
      ⟨(some 45), .mv (.tmp 11), none⟩,
      ⟨(some 46), .bin .sub (.tmp 44) (.tmp 45), none⟩,
      ⟨(some 13), .mv (.tmp 46), none⟩])
   (.seq (.reg [⟨(some 47), .mv (.tmp 11), none⟩,
      ⟨(some 48), .mv (.tmp 13), none⟩,
      ⟨(some 49), .bin .gtr (.tmp 47) (.tmp 48), none⟩,
      ⟨(some 50), .mv (.tmp 49), none⟩,
      ⟨(some 51), .mv (.tmp 11), (some (50, false))⟩,
      ⟨(some 52), .mv (.tmp 13), (some (50, false))⟩,
      ⟨(some 53), .bin .eql (.tmp 51) (.tmp 52), (some (50, false))⟩,
      ⟨(some 54), .mv (.tmp 53), (some (50, false))⟩,
      ⟨(some 55), .mv (.tmp 12), (some (54, true))⟩,
      ⟨(some 56), .un .not (.tmp 55), (some (54, true))⟩,
      ⟨(some 57), .pk (.tmp 54) (.tmp 56) (.const (.bool false)), (some (50, false))⟩,
      ⟨(some 58), .pk (.tmp 50) (.const (.bool true)) (.tmp 57), none⟩])
   (.cond (.tmp 58)
    (.reg [⟨(some 59), .mv (.tmp 10), none⟩,
       ⟨(some 60), .bin .add (.tmp 59) (.const (.int .u64 1)), none⟩,
       ⟨(some 10), .mv (.tmp 60), none⟩])
    .skip)))
  (.seq (.block 0 (.seq (.reg [⟨(some 62), .mv (.tmp 12), none⟩,
       ⟨(some 63), .un .not (.tmp 62), none⟩,
       ⟨(some 64), .mv (.tmp 63), none⟩,
       ⟨(some 65), .mv (.tmp 10), (some (64, true))⟩,
       ⟨(some 66), .bin .leq (.tmp 65) (.const (.int .u64 9223372036854775807)), (some (64, true))⟩,
       ⟨(some 67), .pk (.tmp 64) (.tmp 66) (.const (.bool false)), none⟩,
       ⟨(some 61), .mv (.tmp 67), none⟩])
    (.cond (.tmp 61)
     (.seq (.reg [⟨(some 68), .mv (.tmp 10), none⟩,
         ⟨(some 69), .cnv .i64 (.tmp 68), none⟩,
         ⟨(some 6), .mv (.tmp 69), none⟩,
         ⟨(some 7), .mv (.const (.bool true)), none⟩])
      .ret)
     (.seq (.reg [⟨(some 71), .mv (.tmp 12), none⟩,
         ⟨(some 72), .mv (.tmp 71), none⟩,
         ⟨(some 73), .mv (.tmp 10), (some (72, true))⟩,
         ⟨(some 74), .bin .leq (.tmp 73) (.const (.int .u64 9223372036854775808)), (some (72, true))⟩,
         ⟨(some 75), .pk (.tmp 72) (.tmp 74) (.const (.bool false)), none⟩,
         ⟨(some 70), .mv (.tmp 75), none⟩])
      (.cond (.tmp 70)
       (.seq (.reg [⟨(some 76), .mv (.tmp 10), none⟩,
           ⟨(some 77), .un .neg (.tmp 76), none⟩,
           ⟨(some 78), .cnv .i64 (.tmp 77), none⟩,
           ⟨(some 6), .mv (.tmp 78), none⟩,
           ⟨(some 7), .mv (.const (.bool true)), none⟩])
        .ret)
       .skip)))))
  (.seq (.reg [⟨(some 6), .mv (.const (.int .i64 0)), none⟩,
     ⟨(some 7), .mv (.const (.bool false)), none⟩])
  .ret))))))))))
def fixed_MulDiv.f (a0 : Int) (b1 : Int) (c2 : Int) : Option (Int × Bool) := if c2 < 1 then (some (0, false)) else ((fixed_size.f a0).bind fun t27 => ((fixed_size.f b1).bind fun t29 => ((bits_Mul64.f t27 t29).bind fun (t31, t32) => (if t31 ≥ (wru64 c2) then (some (0, false)) else ((bits_Div64.f t31 t32 (wru64 c2)).bind fun (t35, t36) => (if (decide (a0 < 0)) = (decide (b1 < 0)) then (if t35 > 9223372036854775808 then (some (0, false)) else ((if t36 > (wru64 ((wru64 c2) - t36)) then (some (wru64 (t35 + 1), false)) else (if t36 = (wru64 ((wru64 c2) - t36)) then (some (wru64 (t35 + 1), false)) else (some (t35, false))) : Option (Int × Bool)).bind fun (x45, x46) => ((if x46 = true then (some false) else (if x45 ≤ 9223372036854775807 then (some true) else (some false)) : Option (Bool)).bind fun x52 => (if x52 = true then (some (wr64 x45, true)) else (if x46 = true then (if x45 ≤ 9223372036854775808 then (some (wr64 (wru64 (0 - x45)), true)) else (some (0, false))) else (some (0, false))))))) else (if t35 > 9223372036854775808 then (some (0, false)) else ((if t36 > (wru64 ((wru64 c2) - t36)) then (some (wru64 (t35 + 1), true)) else (if t36 = (wru64 ((wru64 c2) - t36)) then (some (t35, true)) else (some (t35, true))) : Option (Int × Bool)).bind fun (x62, x63) => ((if x63 = true then (some false) else (if x62 ≤ 9223372036854775807 then (some true) else (some false)) : Option (Bool)).bind fun x69 => (if x69 = true then (some (wr64 x62, true)) else (if x63 = true then (if x62 ≤ 9223372036854775808 then (some (wr64 (wru64 (0 - x62)), true)) else (some (0, false))) else (some (0, false)))))))))))))
theorem fixed_MulDiv.ok {S : Seal} {a0 : Int} {b1 : Int} {c2 : Int} {r0_ : Int} {r1_ : Bool} (e : fixed_MulDiv.f a0 b1 c2 = some (r0_, r1_)) :
    Cal Try.prog 53 [.int .i64 a0, .int .i64 b1, .int .i64 c2] [] S fun v H' S' => v = .tuple #[.int .i64 r0_, .bool r1_] ∧ H' = [] ∧ S' = S := by
  unfold fixed_MulDiv.f at e
  refine cal_of (c := c53) (N := 79) Try.func53 rfl rfl (by kernel_rfl) (rs := [.t 6, .t 7]) (by kernel_rfl) (Nat.le_of_ble_eq_true rfl) ?_
  unfold c53
  refine w_seq ?_
  refine w_reg fun all => ?_
  refine t_qz 2 [0, 1, 2] (σ' := [(0, .int .i64 a0), (1, .int .i64 b1), (2, .int .i64 c2)]) (by kernel_rfl) ?_
  refine t_end ?_
  show W _ _ _ _ _ _ _
  refine w_seq ?_
  refine w_seq ?_
  refine w_reg fun all => ?_
  by_cases c25 : c2 < 1
  · rw [if_pos c25] at e
    have c25b : (decide (c2 < 1)) = true := decide_eq_true c25
    refine t_qz 1 [0, 1, 2, 14] (σ' := [(0, .int .i64 a0), (1, .int .i64 b1), (2, .int .i64 c2), (14, .int .i64 c2)]) (by kernel_rfl) ?_
    refine t_v (dv_quiet rfl (congrArg (fun t => some (Value.bool t)) c25b)) ?_
    refine t_keep [0, 1, 2, 15] (σ' := [(0, .int .i64 a0), (1, .int .i64 b1), (2, .int .i64 c2), (15, .bool true)]) (by kernel_rfl) ?_
    refine t_end ?_
    show W _ _ _ _ _ _ _
    refine w_cond rfl (fun _ => ?_) (fun c_ => by cases c_)
    show W _ _ _ _ _ _ _
    refine w_seq ?_
    refine w_reg fun all => ?_
    refine t_qz 2 [6, 7] (σ' := [(6, .int .i64 0), (7, .bool false)]) (by kernel_rfl) ?_
    refine t_end ?_
    show W _ _ _ _ _ _ _
    refine w_ret ?_
    simp only [Option.some.injEq, Prod.mk.injEq] at e
    obtain ⟨rfl, rfl⟩ := e
    exact ⟨[.int .i64 0, .bool false], [], S, ⟨rfl, rfl, trivial⟩, VS.none, rfl, rfl, rfl⟩
  · rw [if_neg c25] at e
    have c25b : (decide (c2 < 1)) = false := decide_eq_false c25
    refine t_qz 1 [0, 1, 2, 14] (σ' := [(0, .int .i64 a0), (1, .int .i64 b1), (2, .int .i64 c2), (14, .int .i64 c2)]) (by kernel_rfl) ?_
    refine t_v (dv_quiet rfl (congrArg (fun t => some (Value.bool t)) c25b)) ?_
    refine t_keep [0, 1, 2, 15] (σ' := [(0, .int .i64 a0), (1, .int .i64 b1), (2, .int .i64 c2), (15, .bool false)]) (by kernel_rfl) ?_
    refine t_end ?_
    show W _ _ _ _ _ _ _
    refine w_cond rfl (fun c_ => by cases c_) (fun _ => ?_)
    show W _ _ _ _ _ _ _
    refine w_skip ?_
    show W _ _ _ _ _ _ _
    refine w_seq ?_
    refine w_reg fun all => ?_
    obtain ⟨t27, h28, e⟩ := bind_of e
    refine t_qz 1 [0, 1, 2, 17] (σ' := [(0, .int .i64 a0), (1, .int .i64 b1), (2, .int .i64 c2), (17, .int .i64 a0)]) (by kernel_rfl) ?_
    refine t_v (.call (vs := [.int .i64 a0]) rfl rfl (by kernel_rfl) (fixed_size.ok h28)) ?_
    obtain ⟨t29, h30, e⟩ := bind_of e
    refine t_qz 1 [0, 1, 2, 18, 19] (σ' := [(0, .int .i64 a0), (1, .int .i64 b1), (2, .int .i64 c2), (18, .int .u64 t27), (19, .int .i64 b1)]) (by kernel_rfl) ?_
    refine t_v (.call (vs := [.int .i64 b1]) rfl rfl (by kernel_rfl) (fixed_size.ok h30)) ?_
    obtain ⟨⟨t31, t32⟩, h33, e⟩ := bind_of e
    try dsimp only at e
    refine t_v (.call (vs := [.int .u64 t27, .int .u64 t29]) rfl rfl (by kernel_rfl) (bits_Mul64.ok h33)) ?_
    refine t_qz 5 [0, 1, 2, 8, 9] (σ' := [(0, .int .i64 a0), (1, .int .i64 b1), (2, .int .i64 c2), (8, .int .u64 t31), (9, .int .u64 t32)]) (by kernel_rfl) ?_
    refine t_end ?_
    show W _ _ _ _ _ _ _
    refine w_seq ?_
    refine w_seq ?_
    refine w_reg fun all => ?_
    by_cases c34 : t31 ≥ (wru64 c2)
    · rw [if_pos c34] at e
      have c34b : (decide (t31 ≥ (wru64 c2))) = true := decide_eq_true c34
      refine t_qz 3 [0, 1, 2, 8, 9, 24, 26] (σ' := [(0, .int .i64 a0), (1, .int .i64 b1), (2, .int .i64 c2), (8, .int .u64 t31), (9, .int .u64 t32), (24, .int .u64 t31), (26, .int .u64 (wru64 c2))]) (by kernel_rfl) ?_
      refine t_v (dv_quiet rfl (congrArg (fun t => some (Value.bool t)) c34b)) ?_
      refine t_keep [0, 1, 2, 8, 9, 27] (σ' := [(0, .int .i64 a0), (1, .int .i64 b1), (2, .int .i64 c2), (8, .int .u64 t31), (9, .int .u64 t32), (27, .bool true)]) (by kernel_rfl) ?_
      refine t_end ?_
      show W _ _ _ _ _ _ _
      refine w_cond rfl (fun _ => ?_) (fun c_ => by cases c_)
      show W _ _ _ _ _ _ _
      refine w_seq ?_
      refine w_reg fun all => ?_
      refine t_qz 2 [6, 7] (σ' := [(6, .int .i64 0), (7, .bool false)]) (by kernel_rfl) ?_
      refine t_end ?_
      show W _ _ _ _ _ _ _
      refine w_ret ?_
      simp only [Option.some.injEq, Prod.mk.injEq] at e
      obtain ⟨rfl, rfl⟩ := e
      exact ⟨[.int .i64 0, .bool false], [], S, ⟨rfl, rfl, trivial⟩, VS.none, rfl, rfl, rfl⟩
    · rw [if_neg c34] at e
      have c34b : (decide (t31 ≥ (wru64 c2))) = false := decide_eq_false c34
      refine t_qz 3 [0, 1, 2, 8, 9, 24, 26] (σ' := [(0, .int .i64 a0), (1, .int .i64 b1), (2, .int .i64 c2), (8, .int .u64 t31), (9, .int .u64 t32), (24, .int .u64 t31), (26, .int .u64 (wru64 c2))]) (by kernel_rfl) ?_
      refine t_v (dv_quiet rfl (congrArg (fun t => some (Value.bool t)) c34b)) ?_
      refine t_keep [0, 1, 2, 8, 9, 27] (σ' := [(0, .int .i64 a0), (1, .int .i64 b1), (2, .int .i64 c2), (8, .int .u64 t31), (9, .int .u64 t32), (27, .bool false)]) (by kernel_rfl) ?_
      refine t_end ?_
      show W _ _ _ _ _ _ _
      refine w_cond rfl (fun c_ => by cases c_) (fun _ => ?_)
      show W _ _ _ _ _ _ _
      refine w_skip ?_
      show W _ _ _ _ _ _ _
      refine w_seq ?_
      refine w_reg fun all => ?_
      obtain ⟨⟨t35, t36⟩, h37, e⟩ := bind_of e
      try dsimp only at e
      refine t_qz 4 [0, 1, 2, 29, 30, 32] (σ' := [(0, .int .i64 a0), (1, .int .i64 b1), (2, .int .i64 c2), (29, .int .u64 t31), (30, .int .u64 t32), (32, .int .u64 (wru64 c2))]) (by kernel_rfl) ?_
      refine t_v (.call (vs := [.int .u64 t31, .int .u64 t32, .int .u64 (wru64 c2)]) rfl rfl (by kernel_rfl) (bits_Div64.ok h37)) ?_
      refine t_qz 5 [0, 1, 2, 10, 11] (σ' := [(0, .int .i64 a0), (1, .int .i64 b1), (2, .int .i64 c2), (10, .int .u64 t35), (11, .int .u64 t36)]) (by kernel_rfl) ?_
      refine t_end ?_
      show W _ _ _ _ _ _ _
      refine w_seq ?_
      refine w_reg fun all => ?_
      by_cases c38 : (decide (a0 < 0)) = (decide (b1 < 0))
      · rw [if_pos c38] at e
        have c38b : ((decide (a0 < 0)) == (decide (b1 < 0))) = true := beq_iff_eq.mpr c38
        refine t_qz 4 [2, 10, 11, 37, 39] (σ' := [(2, .int .i64 c2), (10, .int .u64 t35), (11, .int .u64 t36), (37, .bool (decide (a0 < 0))), (39, .bool (decide (b1 < 0)))]) (by kernel_rfl) ?_
        refine t_v (dv_quiet rfl (congrArg (fun t => some (Value.bool (!t))) c38b)) ?_
        refine t_qz 1 [2, 10, 11, 12] (σ' := [(2, .int .i64 c2), (10, .int .u64 t35), (11, .int .u64 t36), (12, .bool false)]) (by kernel_rfl) ?_
        refine t_end ?_
        show W _ _ _ _ _ _ _
        refine w_seq ?_
        refine w_seq ?_
        refine w_reg fun all => ?_
        by_cases c39 : t35 > 9223372036854775808
        · rw [if_pos c39] at e
          have c39b : (decide (t35 > 9223372036854775808)) = true := decide_eq_true c39
          refine t_qz 1 [2, 10, 11, 12, 41] (σ' := [(2, .int .i64 c2), (10, .int .u64 t35), (11, .int .u64 t36), (12, .bool false), (41, .int .u64 t35)]) (by kernel_rfl) ?_
          refine t_v (dv_quiet rfl (congrArg (fun t => some (Value.bool t)) c39b)) ?_
          refine t_keep [2, 10, 11, 12, 42] (σ' := [(2, .int .i64 c2), (10, .int .u64 t35), (11, .int .u64 t36), (12, .bool false), (42, .bool true)]) (by kernel_rfl) ?_
          refine t_end ?_
          show W _ _ _ _ _ _ _
          refine w_cond rfl (fun _ => ?_) (fun c_ => by cases c_)
          show W _ _ _ _ _ _ _
          refine w_seq ?_
          refine w_reg fun all => ?_
          refine t_qz 2 [6, 7] (σ' := [(6, .int .i64 0), (7, .bool false)]) (by kernel_rfl) ?_
          refine t_end ?_
          show W _ _ _ _ _ _ _
          refine w_ret ?_
          simp only [Option.some.injEq, Prod.mk.injEq] at e
          obtain ⟨rfl, rfl⟩ := e
          exact ⟨[.int .i64 0, .bool false], [], S, ⟨rfl, rfl, trivial⟩, VS.none, rfl, rfl, rfl⟩
        · rw [if_neg c39] at e
          have c39b : (decide (t35 > 9223372036854775808)) = false := decide_eq_false c39
          refine t_qz 1 [2, 10, 11, 12, 41] (σ' := [(2, .int .i64 c2), (10, .int .u64 t35), (11, .int .u64 t36), (12, .bool false), (41, .int .u64 t35)]) (by kernel_rfl) ?_
          refine t_v (dv_quiet rfl (congrArg (fun t => some (Value.bool t)) c39b)) ?_
          refine t_keep [2, 10, 11, 12, 42] (σ' := [(2, .int .i64 c2), (10, .int .u64 t35), (11, .int .u64 t36), (12, .bool false), (42, .bool false)]) (by kernel_rfl) ?_
          refine t_end ?_
          show W _ _ _ _ _ _ _
          refine w_cond rfl (fun c_ => by cases c_) (fun _ => ?_)
          show W _ _ _ _ _ _ _
          refine w_skip ?_
          show W _ _ _ _ _ _ _
          obtain ⟨⟨x45, x46⟩, e41, e⟩ := bind_of e
          try dsimp only at e
          refine w_cut [10, 12] (fun σ_ H_ S_ => [(10, .int .u64 x45), (12, .bool x46)] = σ_ ∧ ([] : List Own) = H_ ∧ S = S_) ?_ ?_
          · show W _ _ _ _ _ _ _
            refine w_seq ?_
            refine w_reg fun all => ?_
            refine t_qz 5 [10, 11, 12, 13] (σ' := [(10, .int .u64 t35), (11, .int .u64 t36), (12, .bool false), (13, .int .u64 (wru64 ((wru64 c2) - t36)))]) (by kernel_rfl) ?_
            refine t_end ?_
            show W _ _ _ _ _ _ _
            refine w_seq ?_
            refine w_reg fun all => ?_
            by_cases c43 : t36 > (wru64 ((wru64 c2) - t36))
            · rw [if_pos c43] at e41
              have c43b : (decide (t36 > (wru64 ((wru64 c2) - t36)))) = true := decide_eq_true c43
              refine t_qz 2 [10, 11, 12, 13, 47, 48] (σ' := [(10, .int .u64 t35), (11, .int .u64 t36), (12, .bool false), (13, .int .u64 (wru64 ((wru64 c2) - t36))), (47, .int .u64 t36), (48, .int .u64 (wru64 ((wru64 c2) - t36)))]) (by kernel_rfl) ?_
              refine t_v (dv_quiet rfl (congrArg (fun t => some (Value.bool t)) c43b)) ?_
              refine t_qz 9 [10, 12, 58] (σ' := [(10, .int .u64 t35), (12, .bool false), (58, .bool true)]) (by kernel_rfl) ?_
              refine t_end ?_
              show W _ _ _ _ _ _ _
              refine w_cond rfl (fun _ => ?_) (fun c_ => by cases c_)
              show W _ _ _ _ _ _ _
              refine w_reg fun all => ?_
              refine t_qz 3 [10, 12] (σ' := [(10, .int .u64 (wru64 (t35 + 1))), (12, .bool false)]) (by kernel_rfl) ?_
              refine t_end ?_
              simp only [Option.some.injEq, Prod.mk.injEq] at e41
              obtain ⟨rfl, rfl⟩ := e41
              exact ⟨([] : List Own), S, VS.sel [] (by kernel_rfl), by kernel_rfl, rfl, rfl⟩
            · rw [if_neg c43] at e41
              have c43b : (decide (t36 > (wru64 ((wru64 c2) - t36)))) = false := decide_eq_false c43
              refine t_qz 2 [10, 11, 12, 13, 47, 48] (σ' := [(10, .int .u64 t35), (11, .int .u64 t36), (12, .bool false), (13, .int .u64 (wru64 ((wru64 c2) - t36))), (47, .int .u64 t36), (48, .int .u64 (wru64 ((wru64 c2) - t36)))]) (by kernel_rfl) ?_
              refine t_v (dv_quiet rfl (congrArg (fun t => some (Value.bool t)) c43b)) ?_
              by_cases c44 : t36 = (wru64 ((wru64 c2) - t36))
              · rw [if_pos c44] at e41
                have c44b : (t36 == (wru64 ((wru64 c2) - t36))) = true := beq_iff_eq.mpr c44
                refine t_qz 3 [10, 12, 50, 51, 52] (σ' := [(10, .int .u64 t35), (12, .bool false), (50, .bool false), (51, .int .u64 t36), (52, .int .u64 (wru64 ((wru64 c2) - t36)))]) (by kernel_rfl) ?_
                refine t_v (dv_quiet rfl (congrArg (fun t => some (Value.bool t)) c44b)) ?_
                refine t_qz 5 [10, 12, 58] (σ' := [(10, .int .u64 t35), (12, .bool false), (58, .bool true)]) (by kernel_rfl) ?_
                refine t_end ?_
                show W _ _ _ _ _ _ _
                refine w_cond rfl (fun _ => ?_) (fun c_ => by cases c_)
                show W _ _ _ _ _ _ _
                refine w_reg fun all => ?_
                refine t_qz 3 [10, 12] (σ' := [(10, .int .u64 (wru64 (t35 + 1))), (12, .bool false)]) (by kernel_rfl) ?_
                refine t_end ?_
                simp only [Option.some.injEq, Prod.mk.injEq] at e41
                obtain ⟨rfl, rfl⟩ := e41
                exact ⟨([] : List Own), S, VS.sel [] (by kernel_rfl), by kernel_rfl, rfl, rfl⟩
              · rw [if_neg c44] at e41
                have c44b : (t36 == (wru64 ((wru64 c2) - t36))) = false := beq_eq_false_iff_ne.mpr c44
                refine t_qz 3 [10, 12, 50, 51, 52] (σ' := [(10, .int .u64 t35), (12, .bool false), (50, .bool false), (51, .int .u64 t36), (52, .int .u64 (wru64 ((wru64 c2) - t36)))]) (by kernel_rfl) ?_
                refine t_v (dv_quiet rfl (congrArg (fun t => some (Value.bool t)) c44b)) ?_
                refine t_qz 5 [10, 12, 58] (σ' := [(10, .int .u64 t35), (12, .bool false), (58, .bool false)]) (by kernel_rfl) ?_
                refine t_end ?_
                show W _ _ _ _ _ _ _
                refine w_cond rfl (fun c_ => by cases c_) (fun _ => ?_)
                show W _ _ _ _ _ _ _
                refine w_skip ?_
                simp only [Option.some.injEq, Prod.mk.injEq] at e41
                obtain ⟨rfl, rfl⟩ := e41
                exact ⟨([] : List Own), S, VS.sel [] (by kernel_rfl), by kernel_rfl, rfl, rfl⟩
          · rintro σ_ H_ S_ ⟨rfl, rfl, rfl⟩
            refine w_seq ?_
            refine w_block ?_
            obtain ⟨x52, e48, e⟩ := bind_of e
            refine w_cut [10, 12, 61] (fun σ_ H_ S_ => [(10, .int .u64 x45), (12, .bool x46), (61, .bool x52)] = σ_ ∧ ([] : List Own) = H_ ∧ S = S_) ?_ ?_
            · show W _ _ _ _ _ _ _
              refine w_reg fun all => ?_
              by_cases c50 : x46 = true
              · rw [if_pos c50] at e48
                have c50b : x46 = true := c50
                refine t_qz 1 [10, 12, 62] (σ' := [(10, .int .u64 x45), (12, .bool x46), (62, .bool x46)]) (by kernel_rfl) ?_
                refine t_v (dv_quiet rfl (congrArg (fun t => some (Value.bool (!t))) c50b)) ?_
                refine t_qz 5 [10, 12, 61] (σ' := [(10, .int .u64 x45), (12, .bool x46), (61, .bool false)]) (by kernel_rfl) ?_
                refine t_end ?_
                obtain rfl := Option.some.inj e48
                exact ⟨([] : List Own), S, VS.sel [] (by kernel_rfl), by kernel_rfl, rfl, rfl⟩
              · rw [if_neg c50] at e48
                have c50b : x46 = false := Bool.eq_false_iff.mpr c50
                refine t_qz 1 [10, 12, 62] (σ' := [(10, .int .u64 x45), (12, .bool x46), (62, .bool x46)]) (by kernel_rfl) ?_
                refine t_v (dv_quiet rfl (congrArg (fun t => some (Value.bool (!t))) c50b)) ?_
                by_cases c51 : x45 ≤ 9223372036854775807
                · rw [if_pos c51] at e48
                  have c51b : (decide (x45 ≤ 9223372036854775807)) = true := decide_eq_true c51
                  refine t_qz 2 [10, 12, 64, 65] (σ' := [(10, .int .u64 x45), (12, .bool x46), (64, .bool true), (65, .int .u64 x45)]) (by kernel_rfl) ?_
                  refine t_v (dv_quiet rfl (congrArg (fun t => some (Value.bool t)) c51b)) ?_
                  refine t_qz 2 [10, 12, 61] (σ' := [(10, .int .u64 x45), (12, .bool x46), (61, .bool true)]) (by kernel_rfl) ?_
                  refine t_end ?_
                  obtain rfl := Option.some.inj e48
                  exact ⟨([] : List Own), S, VS.sel [] (by kernel_rfl), by kernel_rfl, rfl, rfl⟩
                · rw [if_neg c51] at e48
                  have c51b : (decide (x45 ≤ 9223372036854775807)) = false := decide_eq_false c51
                  refine t_qz 2 [10, 12, 64, 65] (σ' := [(10, .int .u64 x45), (12, .bool x46), (64, .bool true), (65, .int .u64 x45)]) (by kernel_rfl) ?_
                  refine t_v (dv_quiet rfl (congrArg (fun t => some (Value.bool t)) c51b)) ?_
                  refine t_qz 2 [10, 12, 61] (σ' := [(10, .int .u64 x45), (12, .bool x46), (61, .bool false)]) (by kernel_rfl) ?_
                  refine t_end ?_
                  obtain rfl := Option.some.inj e48
                  exact ⟨([] : List Own), S, VS.sel [] (by kernel_rfl), by kernel_rfl, rfl, rfl⟩
            · rintro σ_ H_ S_ ⟨rfl, rfl, rfl⟩
              by_cases c53 : x52 = true
              · rw [if_pos c53] at e
                have c53b : x52 = true := c53
                refine w_cond (t := true) (congrArg (fun t => some (Value.bool t)) c53b) (fun _ => ?_) (fun c_ => by cases c_)
                refine w_seq ?_
                refine w_reg fun all => ?_
                refine t_qz 4 [6, 7] (σ' := [(6, .int .i64 (wr64 x45)), (7, .bool true)]) (by kernel_rfl) ?_
                refine t_end ?_
                show W _ _ _ _ _ _ _
                refine w_ret ?_
                simp only [Option.some.injEq, Prod.mk.injEq] at e
                obtain ⟨rfl, rfl⟩ := e
                exact ⟨[.int .i64 (wr64 x45), .bool true], [], S, ⟨rfl, rfl, trivial⟩, VS.none, rfl, rfl, rfl⟩
              · rw [if_neg c53] at e
                have c53b : x52 = false := Bool.eq_false_iff.mpr c53
                refine w_cond (t := false) (congrArg (fun t => some (Value.bool t)) c53b) (fun c_ => by cases c_) (fun _ => ?_)
                refine w_seq ?_
                refine w_reg fun all => ?_
                by_cases c54 : x46 = true
                · rw [if_pos c54] at e
                  have c54b : x46 = true := c54
                  refine t_v (dv_quiet rfl (congrArg (fun t => some (Value.bool t)) c54b)) ?_
                  by_cases c55 : x45 ≤ 9223372036854775808
                  · rw [if_pos c55] at e
                    have c55b : (decide (x45 ≤ 9223372036854775808)) = true := decide_eq_true c55
                    refine t_qz 2 [10, 72, 73] (σ' := [(10, .int .u64 x45), (72, .bool true), (73, .int .u64 x45)]) (by kernel_rfl) ?_
                    refine t_v (dv_quiet rfl (congrArg (fun t => some (Value.bool t)) c55b)) ?_
                    refine t_qz 2 [10, 70] (σ' := [(10, .int .u64 x45), (70, .bool true)]) (by kernel_rfl) ?_
                    refine t_end ?_
                    show W _ _ _ _ _ _ _
                    refine w_cond rfl (fun _ => ?_) (fun c_ => by cases c_)
                    show W _ _ _ _ _ _ _
                    refine w_seq ?_
                    refine w_reg fun all => ?_
                    refine t_qz 5 [6, 7] (σ' := [(6, .int .i64 (wr64 (wru64 (0 - x45)))), (7, .bool true)]) (by kernel_rfl) ?_
                    refine t_end ?_
                    show W _ _ _ _ _ _ _
                    refine w_ret ?_
                    simp only [Option.some.injEq, Prod.mk.injEq] at e
                    obtain ⟨rfl, rfl⟩ := e
                    exact ⟨[.int .i64 (wr64 (wru64 (0 - x45))), .bool true], [], S, ⟨rfl, rfl, trivial⟩, VS.none, rfl, rfl, rfl⟩
                  · rw [if_neg c55] at e
                    have c55b : (decide (x45 ≤ 9223372036854775808)) = false := decide_eq_false c55
                    refine t_qz 2 [10, 72, 73] (σ' := [(10, .int .u64 x45), (72, .bool true), (73, .int .u64 x45)]) (by kernel_rfl) ?_
                    refine t_v (dv_quiet rfl (congrArg (fun t => some (Value.bool t)) c55b)) ?_
                    refine t_qz 2 [10, 70] (σ' := [(10, .int .u64 x45), (70, .bool false)]) (by kernel_rfl) ?_
                    refine t_end ?_
                    show W _ _ _ _ _ _ _
                    refine w_cond rfl (fun c_ => by cases c_) (fun _ => ?_)
                    show W _ _ _ _ _ _ _
                    refine w_skip ?_
                    show W _ _ _ _ _ _ _
                    refine w_seq ?_
                    refine w_reg fun all => ?_
                    refine t_qz 2 [6, 7] (σ' := [(6, .int .i64 0), (7, .bool false)]) (by kernel_rfl) ?_
                    refine t_end ?_
                    show W _ _ _ _ _ _ _
                    refine w_ret ?_
                    simp only [Option.some.injEq, Prod.mk.injEq] at e
                    obtain ⟨rfl, rfl⟩ := e
                    exact ⟨[.int .i64 0, .bool false], [], S, ⟨rfl, rfl, trivial⟩, VS.none, rfl, rfl, rfl⟩
                · rw [if_neg c54] at e
                  have c54b : x46 = false := Bool.eq_false_iff.mpr c54
                  refine t_v (dv_quiet rfl (congrArg (fun t => some (Value.bool t)) c54b)) ?_
                  refine t_qz 5 [10, 70] (σ' := [(10, .int .u64 x45), (70, .bool false)]) (by kernel_rfl) ?_
                  refine t_end ?_
                  show W _ _ _ _ _ _ _
                  refine w_cond rfl (fun c_ => by cases c_) (fun _ => ?_)
                  show W _ _ _ _ _ _ _
                  refine w_skip ?_
                  show W _ _ _ _ _ _ _
                  refine w_seq ?_
                  refine w_reg fun all => ?_
                  refine t_qz 2 [6, 7] (σ' := [(6, .int .i64 0), (7, .bool false)]) (by kernel_rfl) ?_
                  refine t_end ?_
                  show W _ _ _ _ _ _ _
                  refine w_ret ?_
                  simp only [Option.some.injEq, Prod.mk.injEq] at e
                  obtain ⟨rfl, rfl⟩ := e
                  exact ⟨[.int .i64 0, .bool false], [], S, ⟨rfl, rfl, trivial⟩, VS.none, rfl, rfl, rfl⟩
      · rw [if_neg c38] at e
        have c38b : ((decide (a0 < 0)) == (decide (b1 < 0))) = false := beq_eq_false_iff_ne.mpr c38
        refine t_qz 4 [2, 10, 11, 37, 39] (σ' := [(2, .int .i64 c2), (10, .int .u64 t35), (11, .int .u64 t36), (37, .bool (decide (a0 < 0))), (39, .bool (decide (b1 < 0)))]) (by kernel_rfl) ?_
        refine t_v (dv_quiet rfl (congrArg (fun t => some (Value.bool (!t))) c38b)) ?_
        refine t_qz 1 [2, 10, 11, 12] (σ' := [(2, .int .i64 c2), (10, .int .u64 t35), (11, .int .u64 t36), (12, .bool true)]) (by kernel_rfl) ?_
        refine t_end ?_
        show W _ _ _ _ _ _ _
        refine w_seq ?_
        refine w_seq ?_
        refine w_reg fun all => ?_
        by_cases c56 : t35 > 9223372036854775808
        · rw [if_pos c56] at e
          have c56b : (decide (t35 > 9223372036854775808)) = true := decide_eq_true c56
          refine t_qz 1 [2, 10, 11, 12, 41] (σ' := [(2, .int .i64 c2), (10, .int .u64 t35), (11, .int .u64 t36), (12, .bool true), (41, .int .u64 t35)]) (by kernel_rfl) ?_
          refine t_v (dv_quiet rfl (congrArg (fun t => some (Value.bool t)) c56b)) ?_
          refine t_keep [2, 10, 11, 12, 42] (σ' := [(2, .int .i64 c2), (10, .int .u64 t35), (11, .int .u64 t36), (12, .bool true), (42, .bool true)]) (by kernel_rfl) ?_
          refine t_end ?_
          show W _ _ _ _ _ _ _
          refine w_cond rfl (fun _ => ?_) (fun c_ => by cases c_)
          show W _ _ _ _ _ _ _
          refine w_seq ?_
          refine w_reg fun all => ?_
          refine t_qz 2 [6, 7] (σ' := [(6, .int .i64 0), (7, .bool false)]) (by kernel_rfl) ?_
          refine t_end ?_
          show W _ _ _ _ _ _ _
          refine w_ret ?_
          simp only [Option.some.injEq, Prod.mk.injEq] at e
          obtain ⟨rfl, rfl⟩ := e
          exact ⟨[.int .i64 0, .bool false], [], S, ⟨rfl, rfl, trivial⟩, VS.none, rfl, rfl, rfl⟩
        · rw [if_neg c56] at e
          have c56b : (decide (t35 > 9223372036854775808)) = false := decide_eq_false c56
          refine t_qz 1 [2, 10, 11, 12, 41] (σ' := [(2, .int .i64 c2), (10, .int .u64 t35), (11, .int .u64 t36), (12, .bool true), (41, .int .u64 t35)]) (by kernel_rfl) ?_
          refine t_v (dv_quiet rfl (congrArg (fun t => some (Value.bool t)) c56b)) ?_
          refine t_keep [2, 10, 11, 12, 42] (σ' := [(2, .int .i64 c2), (10, .int .u64 t35), (11, .int .u64 t36), (12, .bool true), (42, .bool false)]) (by kernel_rfl) ?_
          refine t_end ?_
          show W _ _ _ _ _ _ _
          refine w_cond rfl (fun c_ => by cases c_) (fun _ => ?_)
          show W _ _ _ _ _ _ _
          refine w_skip ?_
          show W _ _ _ _ _ _ _
          obtain ⟨⟨x62, x63⟩, e58, e⟩ := bind_of e
          try dsimp only at e
          refine w_cut [10, 12] (fun σ_ H_ S_ => [(10, .int .u64 x62), (12, .bool x63)] = σ_ ∧ ([] : List Own) = H_ ∧ S = S_) ?_ ?_
          · show W _ _ _ _ _ _ _
            refine w_seq ?_
            refine w_reg fun all => ?_
            refine t_qz 5 [10, 11, 12, 13] (σ' := [(10, .int .u64 t35), (11, .int .u64 t36), (12, .bool true), (13, .int .u64 (wru64 ((wru64 c2) - t36)))]) (by kernel_rfl) ?_
            refine t_end ?_
            show W _ _ _ _ _ _ _
            refine w_seq ?_
            refine w_reg fun all => ?_
            by_cases c60 : t36 > (wru64 ((wru64 c2) - t36))
            · rw [if_pos c60] at e58
              have c60b : (decide (t36 > (wru64 ((wru64 c2) - t36)))) = true := decide_eq_true c60
              refine t_qz 2 [10, 11, 12, 13, 47, 48] (σ' := [(10, .int .u64 t35), (11, .int .u64 t36), (12, .bool true), (13, .int .u64 (wru64 ((wru64 c2) - t36))), (47, .int .u64 t36), (48, .int .u64 (wru64 ((wru64 c2) - t36)))]) (by kernel_rfl) ?_
              refine t_v (dv_quiet rfl (congrArg (fun t => some (Value.bool t)) c60b)) ?_
              refine t_qz 9 [10, 12, 58] (σ' := [(10, .int .u64 t35), (12, .bool true), (58, .bool true)]) (by kernel_rfl) ?_
              refine t_end ?_
              show W _ _ _ _ _ _ _
              refine w_cond rfl (fun _ => ?_) (fun c_ => by cases c_)
              show W _ _ _ _ _ _ _
              refine w_reg fun all => ?_
              refine t_qz 3 [10, 12] (σ' := [(10, .int .u64 (wru64 (t35 + 1))), (12, .bool true)]) (by kernel_rfl) ?_
              refine t_end ?_
              simp only [Option.some.injEq, Prod.mk.injEq] at e58
              obtain ⟨rfl, rfl⟩ := e58
              exact ⟨([] : List Own), S, VS.sel [] (by kernel_rfl), by kernel_rfl, rfl, rfl⟩
            · rw [if_neg c60] at e58
              have c60b : (decide (t36 > (wru64 ((wru64 c2) - t36)))) = false := decide_eq_false c60
              refine t_qz 2 [10, 11, 12, 13, 47, 48] (σ' := [(10, .int .u64 t35), (11, .int .u64 t36), (12, .bool true), (13, .int .u64 (wru64 ((wru64 c2) - t36))), (47, .int .u64 t36), (48, .int .u64 (wru64 ((wru64 c2) - t36)))]) (by kernel_rfl) ?_
              refine t_v (dv_quiet rfl (congrArg (fun t => some (Value.bool t)) c60b)) ?_
              by_cases c61 : t36 = (wru64 ((wru64 c2) - t36))
              · rw [if_pos c61] at e58
                have c61b : (t36 == (wru64 ((wru64 c2) - t36))) = true := beq_iff_eq.mpr c61
                refine t_qz 3 [10, 12, 50, 51, 52] (σ' := [(10, .int .u64 t35), (12, .bool true), (50, .bool false), (51, .int .u64 t36), (52, .int .u64 (wru64 ((wru64 c2) - t36)))]) (by kernel_rfl) ?_
                refine t_v (dv_quiet rfl (congrArg (fun t => some (Value.bool t)) c61b)) ?_
                refine t_qz 5 [10, 12, 58] (σ' := [(10, .int .u64 t35), (12, .bool true), (58, .bool false)]) (by kernel_rfl) ?_
                refine t_end ?_
                show W _ _ _ _ _ _ _
                refine w_cond rfl (fun c_ => by cases c_) (fun _ => ?_)
                show W _ _ _ _ _ _ _
                refine w_skip ?_
                simp only [Option.some.injEq, Prod.mk.injEq] at e58
                obtain ⟨rfl, rfl⟩ := e58
                exact ⟨([] : List Own), S, VS.sel [] (by kernel_rfl), by kernel_rfl, rfl, rfl⟩
              · rw [if_neg c61] at e58
                have c61b : (t36 == (wru64 ((wru64 c2) - t36))) = false := beq_eq_false_iff_ne.mpr c61
                refine t_qz 3 [10, 12, 50, 51, 52] (σ' := [(10, .int .u64 t35), (12, .bool true), (50, .bool false), (51, .int .u64 t36), (52, .int .u64 (wru64 ((wru64 c2) - t36)))]) (by kernel_rfl) ?_
                refine t_v (dv_quiet rfl (congrArg (fun t => some (Value.bool t)) c61b)) ?_
                refine t_qz 5 [10, 12, 58] (σ' := [(10, .int .u64 t35), (12, .bool true), (58, .bool false)]) (by kernel_rfl) ?_
                refine t_end ?_
                show W _ _ _ _ _ _ _
                refine w_cond rfl (fun c_ => by cases c_) (fun _ => ?_)
                show W _ _ _ _ _ _ _
                refine w_skip ?_
                simp only [Option.some.injEq, Prod.mk.injEq] at e58
                obtain ⟨rfl, rfl⟩ := e58
                exact ⟨([] : List Own), S, VS.sel [] (by kernel_rfl), by kernel_rfl, rfl, rfl⟩
          · rintro σ_ H_ S_ ⟨rfl, rfl, rfl⟩
            refine w_seq ?_
            refine w_block ?_
            obtain ⟨x69, e65, e⟩ := bind_of e
            refine w_cut [10, 12, 61] (fun σ_ H_ S_ => [(10, .int .u64 x62), (12, .bool x63), (61, .bool x69)] = σ_ ∧ ([] : List Own) = H_ ∧ S = S_) ?_ ?_
            · show W _ _ _ _ _ _ _
              refine w_reg fun all => ?_
              by_cases c67 : x63 = true
              · rw [if_pos c67] at e65
                have c67b : x63 = true := c67
                refine t_qz 1 [10, 12, 62] (σ' := [(10, .int .u64 x62), (12, .bool x63), (62, .bool x63)]) (by kernel_rfl) ?_
                refine t_v (dv_quiet rfl (congrArg (fun t => some (Value.bool (!t))) c67b)) ?_
                refine t_qz 5 [10, 12, 61] (σ' := [(10, .int .u64 x62), (12, .bool x63), (61, .bool false)]) (by kernel_rfl) ?_
                refine t_end ?_
                obtain rfl := Option.some.inj e65
                exact ⟨([] : List Own), S, VS.sel [] (by kernel_rfl), by kernel_rfl, rfl, rfl⟩
              · rw [if_neg c67] at e65
                have c67b : x63 = false := Bool.eq_false_iff.mpr c67
                refine t_qz 1 [10, 12, 62] (σ' := [(10, .int .u64 x62), (12, .bool x63), (62, .bool x63)]) (by kernel_rfl) ?_
                refine t_v (dv_quiet rfl (congrArg (fun t => some (Value.bool (!t))) c67b)) ?_
                by_cases c68 : x62 ≤ 9223372036854775807
                · rw [if_pos c68] at e65
                  have c68b : (decide (x62 ≤ 9223372036854775807)) = true := decide_eq_true c68
                  refine t_qz 2 [10, 12, 64, 65] (σ' := [(10, .int .u64 x62), (12, .bool x63), (64, .bool true), (65, .int .u64 x62)]) (by kernel_rfl) ?_
                  refine t_v (dv_quiet rfl (congrArg (fun t => some (Value.bool t)) c68b)) ?_
                  refine t_qz 2 [10, 12, 61] (σ' := [(10, .int .u64 x62), (12, .bool x63), (61, .bool true)]) (by kernel_rfl) ?_
                  refine t_end ?_
                  obtain rfl := Option.some.inj e65
                  exact ⟨([] : List Own), S, VS.sel [] (by kernel_rfl), by kernel_rfl, rfl, rfl⟩
                · rw [if_neg c68] at e65
                  have c68b : (decide (x62 ≤ 9223372036854775807)) = false := decide_eq_false c68
                  refine t_qz 2 [10, 12, 64, 65] (σ' := [(10, .int .u64 x62), (12, .bool x63), (64, .bool true), (65, .int .u64 x62)]) (by kernel_rfl) ?_
                  refine t_v (dv_quiet rfl (congrArg (fun t => some (Value.bool t)) c68b)) ?_
                  refine t_qz 2 [10, 12, 61] (σ' := [(10, .int .u64 x62), (12, .bool x63), (61, .bool false)]) (by kernel_rfl) ?_
                  refine t_end ?_
                  obtain rfl := Option.some.inj e65
                  exact ⟨([] : List Own), S, VS.sel [] (by kernel_rfl), by kernel_rfl, rfl, rfl⟩
            · rintro σ_ H_ S_ ⟨rfl, rfl, rfl⟩
              by_cases c70 : x69 = true
              · rw [if_pos c70] at e
                have c70b : x69 = true := c70
                refine w_cond (t := true) (congrArg (fun t => some (Value.bool t)) c70b) (fun _ => ?_) (fun c_ => by cases c_)
                refine w_seq ?_
                refine w_reg fun all => ?_
                refine t_qz 4 [6, 7] (σ' := [(6, .int .i64 (wr64 x62)), (7, .bool true)]) (by kernel_rfl) ?_
                refine t_end ?_
                show W _ _ _ _ _ _ _
                refine w_ret ?_
                simp only [Option.some.injEq, Prod.mk.injEq] at e
                obtain ⟨rfl, rfl⟩ := e
                exact ⟨[.int .i64 (wr64 x62), .bool true], [], S, ⟨rfl, rfl, trivial⟩, VS.none, rfl, rfl, rfl⟩
              · rw [if_neg c70] at e
                have c70b : x69 = false := Bool.eq_false_iff.mpr c70
                refine w_cond (t := false) (congrArg (fun t => some (Value.bool t)) c70b) (fun c_ => by cases c_) (fun _ => ?_)
                refine w_seq ?_
                refine w_reg fun all => ?_
                by_cases c71 : x63 = true
                · rw [if_pos c71] at e
                  have c71b : x63 = true := c71
                  refine t_v (dv_quiet rfl (congrArg (fun t => some (Value.bool t)) c71b)) ?_
                  by_cases c72 : x62 ≤ 9223372036854775808
                  · rw [if_pos c72] at e
                    have c72b : (decide (x62 ≤ 9223372036854775808)) = true := decide_eq_true c72
                    refine t_qz 2 [10, 72, 73] (σ' := [(10, .int .u64 x62), (72, .bool true), (73, .int .u64 x62)]) (by kernel_rfl) ?_
                    refine t_v (dv_quiet rfl (congrArg (fun t => some (Value.bool t)) c72b)) ?_
                    refine t_qz 2 [10, 70] (σ' := [(10, .int .u64 x62), (70, .bool true)]) (by kernel_rfl) ?_
                    refine t_end ?_
                    show W _ _ _ _ _ _ _
                    refine w_cond rfl (fun _ => ?_) (fun c_ => by cases c_)
                    show W _ _ _ _ _ _ _
                    refine w_seq ?_
                    refine w_reg fun all => ?_
                    refine t_qz 5 [6, 7] (σ' := [(6, .int .i64 (wr64 (wru64 (0 - x62)))), (7, .bool true)]) (by kernel_rfl) ?_
                    refine t_end ?_
                    show W _ _ _ _ _ _ _
                    refine w_ret ?_
                    simp only [Option.some.injEq, Prod.mk.injEq] at e
                    obtain ⟨rfl, rfl⟩ := e
                    exact ⟨[.int .i64 (wr64 (wru64 (0 - x62))), .bool true], [], S, ⟨rfl, rfl, trivial⟩, VS.none, rfl, rfl, rfl⟩
                  · rw [if_neg c72] at e
                    have c72b : (decide (x62 ≤ 9223372036854775808)) = false := decide_eq_false c72
                    refine t_qz 2 [10, 72, 73] (σ' := [(10, .int .u64 x62), (72, .bool true), (73, .int .u64 x62)]) (by kernel_rfl) ?_
                    refine t_v (dv_quiet rfl (congrArg (fun t => some (Value.bool t)) c72b)) ?_
                    refine t_qz 2 [10, 70] (σ' := [(10, .int .u64 x62), (70, .bool false)]) (by kernel_rfl) ?_
                    refine t_end ?_
                    show W _ _ _ _ _ _ _
                    refine w_cond rfl (fun c_ => by cases c_) (fun _ => ?_)
                    show W _ _ _ _ _ _ _
                    refine w_skip ?_
                    show W _ _ _ _ _ _ _
                    refine w_seq ?_
                    refine w_reg fun all => ?_
                    refine t_qz 2 [6, 7] (σ' := [(6, .int .i64 0), (7, .bool false)]) (by kernel_rfl) ?_
                    refine t_end ?_
                    show W _ _ _ _ _ _ _
                    refine w_ret ?_
                    simp only [Option.some.injEq, Prod.mk.injEq] at e
                    obtain ⟨rfl, rfl⟩ := e
                    exact ⟨[.int .i64 0, .bool false], [], S, ⟨rfl, rfl, trivial⟩, VS.none, rfl, rfl, rfl⟩
                · rw [if_neg c71] at e
                  have c71b : x63 = false := Bool.eq_false_iff.mpr c71
                  refine t_v (dv_quiet rfl (congrArg (fun t => some (Value.bool t)) c71b)) ?_
                  refine t_qz 5 [10, 70] (σ' := [(10, .int .u64 x62), (70, .bool false)]) (by kernel_rfl) ?_
                  refine t_end ?_
                  show W _ _ _ _ _ _ _
                  refine w_cond rfl (fun c_ => by cases c_) (fun _ => ?_)
                  show W _ _ _ _ _ _ _
                  refine w_skip ?_
                  show W _ _ _ _ _ _ _
                  refine w_seq ?_
                  refine w_reg fun all => ?_
                  refine t_qz 2 [6, 7] (σ' := [(6, .int .i64 0), (7, .bool false)]) (by kernel_rfl) ?_
                  refine t_end ?_
                  show W _ _ _ _ _ _ _
                  refine w_ret ?_
                  simp only [Option.some.injEq, Prod.mk.injEq] at e
                  obtain ⟨rfl, rfl⟩ := e
                  exact ⟨[.int .i64 0, .bool false], [], S, ⟨rfl, rfl, trivial⟩, VS.none, rfl, rfl, rfl⟩

def turn_within_v2.f (m0_0 : Int) (m0_1 : Int) : Option (Bool) := if m0_0 < (-1000000000000000) then (some false) else (if m0_0 > 1000000000000000 then (some false) else (if m0_1 < (-1000000000000000) then (some false) else (if m0_1 > 1000000000000000 then (some false) else (some true))))
theorem turn_within_v2.ok {S : Seal} {B0 : Nat} {m0_0 : Int} {m0_1 : Int} {r0_ : Bool} (e : turn_within_v2.f m0_0 m0_1 = some r0_) :
    Cal Try.prog 59 [.slice (some ⟨B0, 0, none⟩) 2 2] ([⟨B0, [.int .i64 m0_0, .int .i64 m0_1], 2⟩] : List Own) S fun v H' S' => v = .bool r0_ ∧ H' = ([⟨B0, [.int .i64 m0_0, .int .i64 m0_1], 2⟩] : List Own) ∧ S' = S := by
  unfold turn_within_v2.f at e
  refine cal_of (c := c59) (N := 18) Try.func59 rfl rfl (by kernel_rfl) (rs := [.t 2]) (by kernel_rfl) (Nat.le_of_ble_eq_true rfl) ?_
  unfold c59
  refine w_seq ?_
  refine w_reg fun all => ?_
  refine t_qz 1 [0] (σ' := [(0, .slice (some ⟨B0, 0, none⟩) 2 2)]) (by kernel_rfl) ?_
  refine t_end ?_
  show W _ _ _ _ _ _ _
  refine w_seq ?_
  refine w_seq ?_
  refine w_reg fun all => ?_
  refine t_qz 3 [5, 6, 7] (σ' := [(5, .slice (some ⟨B0, 0, none⟩) 2 2), (6, .int .i64 2), (7, .int .i64 0)]) (by kernel_rfl) ?_
  refine t_end ?_
  show W _ _ _ _ _ _ _
  refine w_block ?_
  refine w_lun 8 ?_
  refine wl_step ?_
  refine w_seq ?_
  refine w_reg fun all => ?_
  refine t_qz 1 [5, 6, 7, 8] (σ' := [(5, .slice (some ⟨B0, 0, none⟩) 2 2), (6, .int .i64 2), (7, .int .i64 0), (8, .bool true)]) (by kernel_rfl) ?_
  refine t_end ?_
  show W _ _ _ _ _ _ _
  refine w_seq ?_
  refine w_cond rfl (fun _ => ?_) (fun c_ => by cases c_)
  show W _ _ _ _ _ _ _
  refine w_skip ?_
  show W _ _ _ _ _ _ _
  refine w_seq ?_
  refine w_block ?_
  refine w_seq ?_
  refine w_reg fun all => ?_
  refine t_qz 1 [5, 6, 7, 9] (σ' := [(5, .slice (some ⟨B0, 0, none⟩) 2 2), (6, .int .i64 2), (7, .int .i64 0), (9, .pointer (some ⟨B0, 0, none⟩))]) (by kernel_rfl) ?_
  refine t_v (.ld1 rfl rfl rfl (.at 0 rfl rfl)) ?_
  refine t_qz 1 [4, 5, 6, 7] (σ' := [(4, .int .i64 m0_0), (5, .slice (some ⟨B0, 0, none⟩) 2 2), (6, .int .i64 2), (7, .int .i64 0)]) (by kernel_rfl) ?_
  refine t_end ?_
  show W _ _ _ _ _ _ _
  refine w_seq ?_
  refine w_reg fun all => ?_
  by_cases c82 : m0_0 < (-1000000000000000)
  · rw [if_pos c82] at e
    have c82b : (decide (m0_0 < (-1000000000000000))) = true := decide_eq_true c82
    refine t_qz 1 [4, 5, 6, 7, 11] (σ' := [(4, .int .i64 m0_0), (5, .slice (some ⟨B0, 0, none⟩) 2 2), (6, .int .i64 2), (7, .int .i64 0), (11, .int .i64 m0_0)]) (by kernel_rfl) ?_
    refine t_v (dv_quiet rfl (congrArg (fun t => some (Value.bool t)) c82b)) ?_
    refine t_qz 4 [5, 6, 7, 14, 15, 16] (σ' := [(5, .slice (some ⟨B0, 0, none⟩) 2 2), (6, .int .i64 2), (7, .int .i64 0), (14, .tuple #[]), (15, .tuple #[]), (16, .bool true)]) (by kernel_rfl) ?_
    refine t_end ?_
    show W _ _ _ _ _ _ _
    refine w_cond rfl (fun _ => ?_) (fun c_ => by cases c_)
    show W _ _ _ _ _ _ _
    refine w_seq ?_
    refine w_reg fun all => ?_
    refine t_qz 1 [2] (σ' := [(2, .bool false)]) (by kernel_rfl) ?_
    refine t_end ?_
    show W _ _ _ _ _ _ _
    refine w_ret ?_
    obtain rfl := Option.some.inj e
    exact ⟨[.bool false], ([⟨B0, [.int .i64 m0_0, .int .i64 m0_1], 2⟩] : List Own), S, ⟨rfl, trivial⟩, VS.sel [0] (by kernel_rfl), rfl, rfl, rfl⟩
  · rw [if_neg c82] at e
    have c82b : (decide (m0_0 < (-1000000000000000))) = false := decide_eq_false c82
    refine t_qz 1 [4, 5, 6, 7, 11] (σ' := [(4, .int .i64 m0_0), (5, .slice (some ⟨B0, 0, none⟩) 2 2), (6, .int .i64 2), (7, .int .i64 0), (11, .int .i64 m0_0)]) (by kernel_rfl) ?_
    refine t_v (dv_quiet rfl (congrArg (fun t => some (Value.bool t)) c82b)) ?_
    by_cases c83 : m0_0 > 1000000000000000
    · rw [if_pos c83] at e
      have c83b : (decide (m0_0 > 1000000000000000)) = true := decide_eq_true c83
      refine t_qz 2 [5, 6, 7, 13, 14] (σ' := [(5, .slice (some ⟨B0, 0, none⟩) 2 2), (6, .int .i64 2), (7, .int .i64 0), (13, .bool false), (14, .int .i64 m0_0)]) (by kernel_rfl) ?_
      refine t_v (dv_quiet rfl (congrArg (fun t => some (Value.bool t)) c83b)) ?_
      refine t_qz 1 [5, 6, 7, 14, 15, 16] (σ' := [(5, .slice (some ⟨B0, 0, none⟩) 2 2), (6, .int .i64 2), (7, .int .i64 0), (14, .int .i64 m0_0), (15, .bool true), (16, .bool true)]) (by kernel_rfl) ?_
      refine t_end ?_
      show W _ _ _ _ _ _ _
      refine w_cond rfl (fun _ => ?_) (fun c_ => by cases c_)
      show W _ _ _ _ _ _ _
      refine w_seq ?_
      refine w_reg fun all => ?_
      refine t_qz 1 [2] (σ' := [(2, .bool false)]) (by kernel_rfl) ?_
      refine t_end ?_
      show W _ _ _ _ _ _ _
      refine w_ret ?_
      obtain rfl := Option.some.inj e
      exact ⟨[.bool false], ([⟨B0, [.int .i64 m0_0, .int .i64 m0_1], 2⟩] : List Own), S, ⟨rfl, trivial⟩, VS.sel [0] (by kernel_rfl), rfl, rfl, rfl⟩
    · rw [if_neg c83] at e
      have c83b : (decide (m0_0 > 1000000000000000)) = false := decide_eq_false c83
      refine t_qz 2 [5, 6, 7, 13, 14] (σ' := [(5, .slice (some ⟨B0, 0, none⟩) 2 2), (6, .int .i64 2), (7, .int .i64 0), (13, .bool false), (14, .int .i64 m0_0)]) (by kernel_rfl) ?_
      refine t_v (dv_quiet rfl (congrArg (fun t => some (Value.bool t)) c83b)) ?_
      refine t_qz 1 [5, 6, 7, 14, 15, 16] (σ' := [(5, .slice (some ⟨B0, 0, none⟩) 2 2), (6, .int .i64 2), (7, .int .i64 0), (14, .int .i64 m0_0), (15, .bool false), (16, .bool false)]) (by kernel_rfl) ?_
      refine t_end ?_
      show W _ _ _ _ _ _ _
      refine w_cond rfl (fun c_ => by cases c_) (fun _ => ?_)
      show W _ _ _ _ _ _ _
      refine w_skip ?_
      show W _ _ _ _ _ _ _
      refine w_reg fun all => ?_
      refine t_qz 2 [5, 6, 7, 14, 15] (σ' := [(5, .slice (some ⟨B0, 0, none⟩) 2 2), (6, .int .i64 2), (7, .int .i64 1), (14, .int .i64 m0_0), (15, .bool false)]) (by kernel_rfl) ?_
      refine t_end ?_
      show WL _ _ _ _ _ _ _ _
      refine wl_step ?_
      refine w_seq ?_
      refine w_reg fun all => ?_
      refine t_qz 1 [5, 6, 7, 8, 14, 15] (σ' := [(5, .slice (some ⟨B0, 0, none⟩) 2 2), (6, .int .i64 2), (7, .int .i64 1), (8, .bool true), (14, .int .i64 m0_0), (15, .bool false)]) (by kernel_rfl) ?_
      refine t_end ?_
      show W _ _ _ _ _ _ _
      refine w_seq ?_
      refine w_cond rfl (fun _ => ?_) (fun c_ => by cases c_)
      show W _ _ _ _ _ _ _
      refine w_skip ?_
      show W _ _ _ _ _ _ _
      refine w_seq ?_
      refine w_block ?_
      refine w_seq ?_
      refine w_reg fun all => ?_
      refine t_qz 1 [5, 6, 7, 9, 14, 15] (σ' := [(5, .slice (some ⟨B0, 0, none⟩) 2 2), (6, .int .i64 2), (7, .int .i64 1), (9, .pointer (some ⟨B0, 1, none⟩)), (14, .int .i64 m0_0), (15, .bool false)]) (by kernel_rfl) ?_
      refine t_v (.ld1 rfl rfl rfl (.at 0 rfl rfl)) ?_
      refine t_qz 1 [4, 5, 6, 7, 14, 15] (σ' := [(4, .int .i64 m0_1), (5, .slice (some ⟨B0, 0, none⟩) 2 2), (6, .int .i64 2), (7, .int .i64 1), (14, .int .i64 m0_0), (15, .bool false)]) (by kernel_rfl) ?_
      refine t_end ?_
      show W _ _ _ _ _ _ _
      refine w_seq ?_
      refine w_reg fun all => ?_
      by_cases c84 : m0_1 < (-1000000000000000)
      · rw [if_pos c84] at e
        have c84b : (decide (m0_1 < (-1000000000000000))) = true := decide_eq_true c84
        refine t_qz 1 [4, 5, 6, 7, 11, 14, 15] (σ' := [(4, .int .i64 m0_1), (5, .slice (some ⟨B0, 0, none⟩) 2 2), (6, .int .i64 2), (7, .int .i64 1), (11, .int .i64 m0_1), (14, .int .i64 m0_0), (15, .bool false)]) (by kernel_rfl) ?_
        refine t_v (dv_quiet rfl (congrArg (fun t => some (Value.bool t)) c84b)) ?_
        refine t_qz 4 [5, 6, 7, 14, 15, 16] (σ' := [(5, .slice (some ⟨B0, 0, none⟩) 2 2), (6, .int .i64 2), (7, .int .i64 1), (14, .tuple #[]), (15, .tuple #[]), (16, .bool true)]) (by kernel_rfl) ?_
        refine t_end ?_
        show W _ _ _ _ _ _ _
        refine w_cond rfl (fun _ => ?_) (fun c_ => by cases c_)
        show W _ _ _ _ _ _ _
        refine w_seq ?_
        refine w_reg fun all => ?_
        refine t_qz 1 [2] (σ' := [(2, .bool false)]) (by kernel_rfl) ?_
        refine t_end ?_
        show W _ _ _ _ _ _ _
        refine w_ret ?_
        obtain rfl := Option.some.inj e
        exact ⟨[.bool false], ([⟨B0, [.int .i64 m0_0, .int .i64 m0_1], 2⟩] : List Own), S, ⟨rfl, trivial⟩, VS.sel [0] (by kernel_rfl), rfl, rfl, rfl⟩
      · rw [if_neg c84] at e
        have c84b : (decide (m0_1 < (-1000000000000000))) = false := decide_eq_false c84
        refine t_qz 1 [4, 5, 6, 7, 11, 14, 15] (σ' := [(4, .int .i64 m0_1), (5, .slice (some ⟨B0, 0, none⟩) 2 2), (6, .int .i64 2), (7, .int .i64 1), (11, .int .i64 m0_1), (14, .int .i64 m0_0), (15, .bool false)]) (by kernel_rfl) ?_
        refine t_v (dv_quiet rfl (congrArg (fun t => some (Value.bool t)) c84b)) ?_
        by_cases c85 : m0_1 > 1000000000000000
        · rw [if_pos c85] at e
          have c85b : (decide (m0_1 > 1000000000000000)) = true := decide_eq_true c85
          refine t_qz 2 [5, 6, 7, 13, 14, 15] (σ' := [(5, .slice (some ⟨B0, 0, none⟩) 2 2), (6, .int .i64 2), (7, .int .i64 1), (13, .bool false), (14, .int .i64 m0_1), (15, .bool false)]) (by kernel_rfl) ?_
          refine t_v (dv_quiet rfl (congrArg (fun t => some (Value.bool t)) c85b)) ?_
          refine t_qz 1 [5, 6, 7, 14, 15, 16] (σ' := [(5, .slice (some ⟨B0, 0, none⟩) 2 2), (6, .int .i64 2), (7, .int .i64 1), (14, .int .i64 m0_1), (15, .bool true), (16, .bool true)]) (by kernel_rfl) ?_
          refine t_end ?_
          show W _ _ _ _ _ _ _
          refine w_cond rfl (fun _ => ?_) (fun c_ => by cases c_)
          show W _ _ _ _ _ _ _
          refine w_seq ?_
          refine w_reg fun all => ?_
          refine t_qz 1 [2] (σ' := [(2, .bool false)]) (by kernel_rfl) ?_
          refine t_end ?_
          show W _ _ _ _ _ _ _
          refine w_ret ?_
          obtain rfl := Option.some.inj e
          exact ⟨[.bool false], ([⟨B0, [.int .i64 m0_0, .int .i64 m0_1], 2⟩] : List Own), S, ⟨rfl, trivial⟩, VS.sel [0] (by kernel_rfl), rfl, rfl, rfl⟩
        · rw [if_neg c85] at e
          have c85b : (decide (m0_1 > 1000000000000000)) = false := decide_eq_false c85
          refine t_qz 2 [5, 6, 7, 13, 14, 15] (σ' := [(5, .slice (some ⟨B0, 0, none⟩) 2 2), (6, .int .i64 2), (7, .int .i64 1), (13, .bool false), (14, .int .i64 m0_1), (15, .bool false)]) (by kernel_rfl) ?_
          refine t_v (dv_quiet rfl (congrArg (fun t => some (Value.bool t)) c85b)) ?_
          refine t_qz 1 [5, 6, 7, 14, 15, 16] (σ' := [(5, .slice (some ⟨B0, 0, none⟩) 2 2), (6, .int .i64 2), (7, .int .i64 1), (14, .int .i64 m0_1), (15, .bool false), (16, .bool false)]) (by kernel_rfl) ?_
          refine t_end ?_
          show W _ _ _ _ _ _ _
          refine w_cond rfl (fun c_ => by cases c_) (fun _ => ?_)
          show W _ _ _ _ _ _ _
          refine w_skip ?_
          show W _ _ _ _ _ _ _
          refine w_reg fun all => ?_
          refine t_qz 2 [5, 6, 7, 14, 15] (σ' := [(5, .slice (some ⟨B0, 0, none⟩) 2 2), (6, .int .i64 2), (7, .int .i64 2), (14, .int .i64 m0_1), (15, .bool false)]) (by kernel_rfl) ?_
          refine t_end ?_
          show WL _ _ _ _ _ _ _ _
          refine wl_step ?_
          refine w_seq ?_
          refine w_reg fun all => ?_
          refine t_qz 1 [5, 6, 7, 8, 14, 15] (σ' := [(5, .slice (some ⟨B0, 0, none⟩) 2 2), (6, .int .i64 2), (7, .int .i64 2), (8, .bool false), (14, .int .i64 m0_1), (15, .bool false)]) (by kernel_rfl) ?_
          refine t_end ?_
          show W _ _ _ _ _ _ _
          refine w_seq ?_
          refine w_cond rfl (fun c_ => by cases c_) (fun _ => ?_)
          show W _ _ _ _ _ _ _
          refine w_exit ?_
          show W _ _ _ _ _ _ _
          refine w_seq ?_
          refine w_reg fun all => ?_
          refine t_qz 1 [2] (σ' := [(2, .bool true)]) (by kernel_rfl) ?_
          refine t_end ?_
          show W _ _ _ _ _ _ _
          refine w_ret ?_
          obtain rfl := Option.some.inj e
          exact ⟨[.bool true], ([⟨B0, [.int .i64 m0_0, .int .i64 m0_1], 2⟩] : List Own), S, ⟨rfl, trivial⟩, VS.sel [0] (by kernel_rfl), rfl, rfl, rfl⟩

/-- turn.Apply -/
def c51 : C :=
  (.seq (.reg [⟨(some 4), .box (.tmp 0), none⟩,
     ⟨(some 5), .box (.tmp 1), none⟩,
     ⟨(some 8), .new [(.int .i64 0), (.int .i64 0)], none⟩,
     ⟨(some 9), .mv (.const (.bool false)), none⟩])
  (.seq (.seq (.reg [⟨(some 15), .pad 0 (.tmp 4), none⟩,
      ⟨(some 16), .ld none (.tmp 15), none⟩,
      ⟨(some 17), .pad 1 (.tmp 4), none⟩,
      ⟨(some 18), .ld none (.tmp 17), none⟩,
      ⟨(some 19), .pad 0 (.tmp 5), none⟩,
      ⟨(some 20), .ld none (.tmp 19), none⟩,
      ⟨(some 21), .pad 1 (.tmp 5), none⟩,
      ⟨(some 22), .ld none (.tmp 21), none⟩,
      ⟨(some 23), .mv (.tmp 2), none⟩,
      ⟨(some 24), .bsl [(.int .i64 0), (.int .i64 0), (.int .i64 0), (.int .i64 0), (.int .i64 0)] 5 [(0, 1, (.tmp 16)), (1, 1, (.tmp 18)), (2, 1, (.tmp 20)), (3, 1, (.tmp 22)), (4, 1, (.tmp 23))], none⟩,
      ⟨(some 25), .call 59 [(.tmp 24)], none⟩,
      ⟨(some 26), .un .not (.tmp 25), none⟩])
   (.cond (.tmp 26)
    (.seq (.reg [⟨(some 27), .bld [(.int .i64 0), (.int .i64 0)] [], none⟩,
        ⟨none, .st 2 (.tmp 8) (.tmp 27), none⟩,
        ⟨(some 9), .mv (.const (.bool false)), none⟩])
     .ret)
    .skip))
  (.seq (.reg [⟨(some 29), .pad 0 (.tmp 4), none⟩,
     ⟨(some 30), .ld none (.tmp 29), none⟩,
     ⟨(some 31), .mv (.tmp 2), none⟩,
     ⟨(some 32), .call 53 [(.tmp 30), (.tmp 31), (.const (.int .i64 1000000))], none⟩,
     ⟨(some 28), .mv (.tmp 32), none⟩,
     ⟨(some 33), .xt 0 (.tmp 28), none⟩,
     ⟨(some 34), .xt 1 (.tmp 28), none⟩,
     ⟨(some 10), .mv (.tmp 33), none⟩,
     ⟨(some 11), .mv (.tmp 34), none⟩])
  (.seq (.reg [⟨(some 36), .pad 1 (.tmp 4), none⟩,
     ⟨(some 37), .ld none (.tmp 36), none⟩,
     ⟨(some 38), .mv (.tmp 2), none⟩,
     ⟨(some 39), .call 53 [(.tmp 37), (.tmp 38), (.const (.int .i64 1000000))], none⟩,
     ⟨(some 35), .mv (.tmp 39), none⟩,
     ⟨(some 40), .xt 0 (.tmp 35), none⟩,
     ⟨(some 41), .xt 1 (.tmp 35), none⟩,
     ⟨(some 12), .mv (.tmp 40), none⟩,
     ⟨(some 13), .mv (.tmp 41), none⟩])
  (.seq (.seq (.reg [⟨(some 42), .mv (.tmp 11), none⟩,
      ⟨(some 43), .un .not (.tmp 42), none⟩,
      ⟨(some 44), .mv (.tmp 43), none⟩,
      ⟨(some 45), .mv (.tmp 13), (some (44, false))⟩,
      ⟨(some 46), .un .not (.tmp 45), (some (44, false))⟩,
      ⟨(some 47), .pk (.tmp 44) (.const (.bool true)) (.tmp 46), none⟩,
      ⟨(some 48), .mv (.tmp 47), none⟩,
      ⟨(some 49), .mv (.tmp 10), (some (48, false))⟩,
      ⟨(some 50), .mv (.tmp 12), (some (48, false))⟩,
      ⟨(some 51), .bsl [(.int .i64 0), (.int .i64 0)] 2 [(0, 1, (.tmp 49)), (1, 1, (.tmp 50))], (some (48, false))⟩,
      ⟨(some 52), .call 59 [(.tmp 51)], (some (48, false))⟩,
      ⟨(some 53), .un .not (.tmp 52), (some (48, false))⟩,
      ⟨(some 54), .pk (.tmp 48) (.const (.bool true)) (.tmp 53), none⟩])
   (.cond (.tmp 54)
    (.seq (.reg [⟨(some 55), .bld [(.int .i64 0), (.int .i64 0)] [], none⟩,
        ⟨none, .st 2 (.tmp 8) (.tmp 55), none⟩,
        ⟨(some 9), .mv (.const (.bool false)), none⟩])
     .ret)
    .skip))
  (.seq (.reg [⟨(some 56), .mv (.tmp 10), none⟩,
     ⟨(some 57), .mv (.tmp 12), none⟩,
     ⟨(some 58), .bld [(.int .i64 0), (.int .i64 0)] [(0, 1, (.tmp 56)), (1, 1, (.tmp 57))], none⟩,
     ⟨(some 59), .mv (.tmp 3), none⟩,
     ⟨(some 60), .call 50 [(.tmp 58), (.tmp 59)], none⟩,
     ⟨(some 14), .new [(.int .i64 0), (.int .i64 0)], none⟩,
     ⟨none, .st 2 (.tmp 14) (.tmp 60), none⟩])
  (.seq (.reg [⟨(some 61), .pad 0 (.tmp 14), none⟩,
     ⟨(some 62), .ld none (.tmp 61), none⟩,
     ⟨(some 63), .pad 0 (.tmp 5), none⟩,
     ⟨(some 64), .ld none (.tmp 63), none⟩,
     ⟨(some 65), .bin .add (.tmp 62) (.tmp 64), none⟩,
     ⟨(some 66), .pad 0 (.tmp 14), none⟩,
     ⟨none, .st 1 (.tmp 66) (.tmp 65), none⟩])
  (.seq (.reg [⟨(some 67), .pad 1 (.tmp 14), none⟩,
     ⟨(some 68), .ld none (.tmp 67), none⟩,
     ⟨(some 69), .pad 1 (.tmp 5), none⟩,
     ⟨(some 70), .ld none (.tmp 69), none⟩,
     ⟨(some 71), .bin .add (.tmp 68) (.tmp 70), none⟩,
     ⟨(some 72), .pad 1 (.tmp 14), none⟩,
     ⟨none, .st 1 (.tmp 72) (.tmp 71), none⟩])
  (.seq (.seq (.reg [⟨(some 73), .pad 0 (.tmp 14), none⟩,
      ⟨(some 74), .ld none (.tmp 73), none⟩,
      ⟨(some 75), .pad 1 (.tmp 14), none⟩,
      ⟨(some 76), .ld none (.tmp 75), none⟩,
      ⟨(some 77), .bsl [(.int .i64 0), (.int .i64 0)] 2 [(0, 1, (.tmp 74)), (1, 1, (.tmp 76))], none⟩,
      ⟨(some 78), .call 59 [(.tmp 77)], none⟩,
      ⟨(some 79), .un .not (.tmp 78), none⟩])
   (.cond (.tmp 79)
    (.seq (.reg [⟨(some 80), .bld [(.int .i64 0), (.int .i64 0)] [], none⟩,
        ⟨none, .st 2 (.tmp 8) (.tmp 80), none⟩,
        ⟨(some 9), .mv (.const (.bool false)), none⟩])
     .ret)
    .skip))
  (.seq (.reg [⟨(some 81), .ld (some 2) (.tmp 14), none⟩,
     ⟨none, .st 2 (.tmp 8) (.tmp 81), none⟩,
     ⟨(some 9), .mv (.const (.bool true)), none⟩])
  .ret))))))))))
def turn_Apply.f (k : Nat) (p0_X : Int) (p0_Y : Int) (at1_X : Int) (at1_Y : Int) (by2 : Int) (quarters3 : Int) : Option (Int × Int × Bool) := (turn_within_v1.f p0_X p0_Y at1_X at1_Y by2).bind fun t22 => (if t22 = true then ((fixed_MulDiv.f p0_X by2 1000000).bind fun (t73, t74) => ((fixed_MulDiv.f p0_Y by2 1000000).bind fun (t76, t77) => (if t74 = true then (if t77 = true then ((turn_within_v2.f t73 t76).bind fun t82 => (if t82 = true then ((turn_Quarter.f k t73 t76 quarters3).bind fun (t85, t86) => ((turn_within_v2.f (wr64 (t85 + at1_X)) (wr64 (t86 + at1_Y))).bind fun t90 => (if t90 = true then (some (wr64 (t85 + at1_X), wr64 (t86 + at1_Y), true)) else (some (0, 0, false))))) else (some (0, 0, false)))) else (some (0, 0, false))) else (some (0, 0, false))))) else (some (0, 0, false)))
theorem turn_Apply.ok {S : Seal} {k : Nat} {p0_X : Int} {p0_Y : Int} {at1_X : Int} {at1_Y : Int} {by2 : Int} {quarters3 : Int} {r0_ : Int} {r1_ : Int} {r2_ : Bool} (e : turn_Apply.f k p0_X p0_Y at1_X at1_Y by2 quarters3 = some (r0_, r1_, r2_)) :
    Cal Try.prog 51 [.agg #[.int .i64 p0_X, .int .i64 p0_Y], .agg #[.int .i64 at1_X, .int .i64 at1_Y], .int .i64 by2, .int .i64 quarters3] [] S fun v H' S' => v = .tuple #[.agg #[.int .i64 r0_, .int .i64 r1_], .bool r2_] ∧ H' = [] ∧ S' = S := by
  unfold turn_Apply.f at e
  refine cal_of (c := c51) (N := 82) Try.func51 rfl rfl (by kernel_rfl) (rs := [.cn 2 8, .t 9]) (by kernel_rfl) (Nat.le_of_ble_eq_true rfl) ?_
  unfold c51
  refine w_seq ?_
  refine w_reg fun all => ?_
  refine t_a (.box rfl rfl rfl) fun b18 fb18 sb18 => ?_
  refine t_a (.box rfl rfl rfl) fun b19 fb19 sb19 => ?_
  refine t_a (.new rfl rfl) fun b20 fb20 sb20 => ?_
  refine t_qz 1 [2, 3, 4, 5, 8] (σ' := [(2, .int .i64 by2), (3, .int .i64 quarters3), (4, .pointer (some ⟨b18, 0, none⟩)), (5, .pointer (some ⟨b19, 0, none⟩)), (8, .pointer (some ⟨b20, 0, none⟩))]) (by kernel_rfl) ?_
  refine t_end ?_
  show W _ _ _ _ _ _ _
  refine w_seq ?_
  refine w_seq ?_
  refine w_reg fun all => ?_
  refine t_qz 1 [2, 3, 4, 5, 8, 15] (σ' := [(2, .int .i64 by2), (3, .int .i64 quarters3), (4, .pointer (some ⟨b18, 0, none⟩)), (5, .pointer (some ⟨b19, 0, none⟩)), (8, .pointer (some ⟨b20, 0, none⟩)), (15, .pointer (some ⟨b18, 0, none⟩))]) (by kernel_rfl) ?_
  refine t_v (.ld1 rfl rfl rfl (.at 2 rfl rfl)) ?_
  refine t_qz 1 [2, 3, 4, 5, 8, 16, 17] (σ' := [(2, .int .i64 by2), (3, .int .i64 quarters3), (4, .pointer (some ⟨b18, 0, none⟩)), (5, .pointer (some ⟨b19, 0, none⟩)), (8, .pointer (some ⟨b20, 0, none⟩)), (16, .int .i64 p0_X), (17, .pointer (some ⟨b18, 1, none⟩))]) (by kernel_rfl) ?_
  refine t_v (.ld1 rfl rfl rfl (.at 2 rfl rfl)) ?_
  refine t_qz 1 [2, 3, 4, 5, 8, 16, 18, 19] (σ' := [(2, .int .i64 by2), (3, .int .i64 quarters3), (4, .pointer (some ⟨b18, 0, none⟩)), (5, .pointer (some ⟨b19, 0, none⟩)), (8, .pointer (some ⟨b20, 0, none⟩)), (16, .int .i64 p0_X), (18, .int .i64 p0_Y), (19, .pointer (some ⟨b19, 0, none⟩))]) (by kernel_rfl) ?_
  refine t_v (.ld1 rfl rfl rfl (.at 1 rfl rfl)) ?_
  refine t_qz 1 [2, 3, 4, 5, 8, 16, 18, 20, 21] (σ' := [(2, .int .i64 by2), (3, .int .i64 quarters3), (4, .pointer (some ⟨b18, 0, none⟩)), (5, .pointer (some ⟨b19, 0, none⟩)), (8, .pointer (some ⟨b20, 0, none⟩)), (16, .int .i64 p0_X), (18, .int .i64 p0_Y), (20, .int .i64 at1_X), (21, .pointer (some ⟨b19, 1, none⟩))]) (by kernel_rfl) ?_
  refine t_v (.ld1 rfl rfl rfl (.at 1 rfl rfl)) ?_
  refine t_qz 1 [2, 3, 4, 5, 8, 16, 18, 20, 22, 23] (σ' := [(2, .int .i64 by2), (3, .int .i64 quarters3), (4, .pointer (some ⟨b18, 0, none⟩)), (5, .pointer (some ⟨b19, 0, none⟩)), (8, .pointer (some ⟨b20, 0, none⟩)), (16, .int .i64 p0_X), (18, .int .i64 p0_Y), (20, .int .i64 at1_X), (22, .int .i64 at1_Y), (23, .int .i64 by2)]) (by kernel_rfl) ?_
  refine t_a (.bsl rfl rfl rfl rfl) fun b21 fb21 sb21 => ?_
  obtain ⟨t22, h23, e⟩ := bind_of e
  refine t_v (.callr (vs := [.slice (some ⟨b21, 0, none⟩) 5 5]) (A := ([⟨b21, [.int .i64 p0_X, .int .i64 p0_Y, .int .i64 at1_X, .int .i64 at1_Y, .int .i64 by2], 5⟩] : List Own)) (F0 := ([⟨b20, [.int .i64 0, .int .i64 0], 2⟩, ⟨b19, [.int .i64 at1_X, .int .i64 at1_Y], 2⟩, ⟨b18, [.int .i64 p0_X, .int .i64 p0_Y], 2⟩] : List Own)) rfl rfl (by kernel_rfl) (sel_perm (is := [0]) (by kernel_rfl)) (turn_within_v1.ok h23)) ?_
  by_cases c24 : t22 = true
  · rw [if_pos c24] at e
    have c24b : t22 = true := c24
    refine t_v (dv_quiet rfl (congrArg (fun t => some (Value.bool (!t))) c24b)) ?_
    refine t_keep [2, 3, 4, 5, 8, 26] (σ' := [(2, .int .i64 by2), (3, .int .i64 quarters3), (4, .pointer (some ⟨b18, 0, none⟩)), (5, .pointer (some ⟨b19, 0, none⟩)), (8, .pointer (some ⟨b20, 0, none⟩)), (26, .bool false)]) (by kernel_rfl) ?_
    refine t_end ?_
    show W _ _ _ _ _ _ _
    refine w_cond rfl (fun c_ => by cases c_) (fun _ => ?_)
    show W _ _ _ _ _ _ _
    refine w_skip ?_
    show W _ _ _ _ _ _ _
    refine w_seq ?_
    refine w_reg fun all => ?_
    refine t_qz 1 [2, 3, 4, 5, 8, 29] (σ' := [(2, .int .i64 by2), (3, .int .i64 quarters3), (4, .pointer (some ⟨b18, 0, none⟩)), (5, .pointer (some ⟨b19, 0, none⟩)), (8, .pointer (some ⟨b20, 0, none⟩)), (29, .pointer (some ⟨b18, 0, none⟩))]) (by kernel_rfl) ?_
    refine t_v (.ld1 rfl rfl rfl (.at 3 rfl rfl)) ?_
    obtain ⟨⟨t73, t74⟩, h75, e⟩ := bind_of e
    try dsimp only at e
    refine t_qz 1 [2, 3, 4, 5, 8, 30, 31] (σ' := [(2, .int .i64 by2), (3, .int .i64 quarters3), (4, .pointer (some ⟨b18, 0, none⟩)), (5, .pointer (some ⟨b19, 0, none⟩)), (8, .pointer (some ⟨b20, 0, none⟩)), (30, .int .i64 p0_X), (31, .int .i64 by2)]) (by kernel_rfl) ?_
    refine t_v (.call (vs := [.int .i64 p0_X, .int .i64 by2, .int .i64 1000000]) rfl rfl (by kernel_rfl) (fixed_MulDiv.ok h75)) ?_
    refine t_qz 5 [2, 3, 4, 5, 8, 10, 11] (σ' := [(2, .int .i64 by2), (3, .int .i64 quarters3), (4, .pointer (some ⟨b18, 0, none⟩)), (5, .pointer (some ⟨b19, 0, none⟩)), (8, .pointer (some ⟨b20, 0, none⟩)), (10, .int .i64 t73), (11, .bool t74)]) (by kernel_rfl) ?_
    refine t_end ?_
    show W _ _ _ _ _ _ _
    refine w_seq ?_
    refine w_reg fun all => ?_
    refine t_qz 1 [2, 3, 5, 8, 10, 11, 36] (σ' := [(2, .int .i64 by2), (3, .int .i64 quarters3), (5, .pointer (some ⟨b19, 0, none⟩)), (8, .pointer (some ⟨b20, 0, none⟩)), (10, .int .i64 t73), (11, .bool t74), (36, .pointer (some ⟨b18, 1, none⟩))]) (by kernel_rfl) ?_
    refine t_v (.ld1 rfl rfl rfl (.at 3 rfl rfl)) ?_
    obtain ⟨⟨t76, t77⟩, h78, e⟩ := bind_of e
    try dsimp only at e
    refine t_qz 1 [3, 5, 8, 10, 11, 37, 38] (σ' := [(3, .int .i64 quarters3), (5, .pointer (some ⟨b19, 0, none⟩)), (8, .pointer (some ⟨b20, 0, none⟩)), (10, .int .i64 t73), (11, .bool t74), (37, .int .i64 p0_Y), (38, .int .i64 by2)]) (by kernel_rfl) ?_
    refine t_v (.call (vs := [.int .i64 p0_Y, .int .i64 by2, .int .i64 1000000]) rfl rfl (by kernel_rfl) (fixed_MulDiv.ok h78)) ?_
    refine t_qz 5 [3, 5, 8, 10, 11, 12, 13] (σ' := [(3, .int .i64 quarters3), (5, .pointer (some ⟨b19, 0, none⟩)), (8, .pointer (some ⟨b20, 0, none⟩)), (10, .int .i64 t73), (11, .bool t74), (12, .int .i64 t76), (13, .bool t77)]) (by kernel_rfl) ?_
    refine t_end ?_
    show W _ _ _ _ _ _ _
    refine w_seq ?_
    refine w_seq ?_
    refine w_reg fun all => ?_
    by_cases c79 : t74 = true
    · rw [if_pos c79] at e
      have c79b : t74 = true := c79
      refine t_qz 1 [3, 5, 8, 10, 12, 13, 42] (σ' := [(3, .int .i64 quarters3), (5, .pointer (some ⟨b19, 0, none⟩)), (8, .pointer (some ⟨b20, 0, none⟩)), (10, .int .i64 t73), (12, .int .i64 t76), (13, .bool t77), (42, .bool t74)]) (by kernel_rfl) ?_
      refine t_v (dv_quiet rfl (congrArg (fun t => some (Value.bool (!t))) c79b)) ?_
      by_cases c80 : t77 = true
      · rw [if_pos c80] at e
        have c80b : t77 = true := c80
        refine t_qz 2 [3, 5, 8, 10, 12, 44, 45] (σ' := [(3, .int .i64 quarters3), (5, .pointer (some ⟨b19, 0, none⟩)), (8, .pointer (some ⟨b20, 0, none⟩)), (10, .int .i64 t73), (12, .int .i64 t76), (44, .bool false), (45, .bool t77)]) (by kernel_rfl) ?_
        refine t_v (dv_quiet rfl (congrArg (fun t => some (Value.bool (!t))) c80b)) ?_
        refine t_qz 4 [3, 5, 8, 10, 12, 48, 49, 50] (σ' := [(3, .int .i64 quarters3), (5, .pointer (some ⟨b19, 0, none⟩)), (8, .pointer (some ⟨b20, 0, none⟩)), (10, .int .i64 t73), (12, .int .i64 t76), (48, .bool false), (49, .int .i64 t73), (50, .int .i64 t76)]) (by kernel_rfl) ?_
        refine t_a (.bsl rfl rfl rfl rfl) fun b81 fb81 sb81 => ?_
        obtain ⟨t82, h83, e⟩ := bind_of e
        refine t_v (.callr (vs := [.slice (some ⟨b81, 0, none⟩) 2 2]) (A := ([⟨b81, [.int .i64 t73, .int .i64 t76], 2⟩] : List Own)) (F0 := ([⟨b21, [.int .i64 p0_X, .int .i64 p0_Y, .int .i64 at1_X, .int .i64 at1_Y, .int .i64 by2], 5⟩, ⟨b20, [.int .i64 0, .int .i64 0], 2⟩, ⟨b19, [.int .i64 at1_X, .int .i64 at1_Y], 2⟩, ⟨b18, [.int .i64 p0_X, .int .i64 p0_Y], 2⟩] : List Own)) rfl rfl (by kernel_rfl) (sel_perm (is := [0]) (by kernel_rfl)) (turn_within_v2.ok h83)) ?_
        by_cases c84 : t82 = true
        · rw [if_pos c84] at e
          have c84b : t82 = true := c84
          refine t_v (dv_quiet rfl (congrArg (fun t => some (Value.bool (!t))) c84b)) ?_
          refine t_qz 1 [3, 5, 8, 10, 12, 54] (σ' := [(3, .int .i64 quarters3), (5, .pointer (some ⟨b19, 0, none⟩)), (8, .pointer (some ⟨b20, 0, none⟩)), (10, .int .i64 t73), (12, .int .i64 t76), (54, .bool false)]) (by kernel_rfl) ?_
          refine t_end ?_
          show W _ _ _ _ _ _ _
          refine w_cond rfl (fun c_ => by cases c_) (fun _ => ?_)
          show W _ _ _ _ _ _ _
          refine w_skip ?_
          show W _ _ _ _ _ _ _
          refine w_seq ?_
          refine w_reg fun all => ?_
          obtain ⟨⟨t85, t86⟩, h87, e⟩ := bind_of e
          try dsimp only at e
          refine t_qz 4 [5, 8, 58, 59] (σ' := [(5, .pointer (some ⟨b19, 0, none⟩)), (8, .pointer (some ⟨b20, 0, none⟩)), (58, .agg #[.int .i64 t73, .int .i64 t76]), (59, .int .i64 quarters3)]) (by kernel_rfl) ?_
          refine t_v (.call (vs := [.agg #[.int .i64 t73, .int .i64 t76], .int .i64 quarters3]) rfl rfl (by kernel_rfl) (turn_Quarter.ok h87)) ?_
          refine t_a (.new rfl rfl) fun b88 fb88 sb88 => ?_
          refine t_sti 0 (cs := [.int .i64 t85, .int .i64 t86]) rfl rfl rfl rfl rfl rfl rfl rfl rfl ?_
          refine t_keep [5, 8, 14] (σ' := [(5, .pointer (some ⟨b19, 0, none⟩)), (8, .pointer (some ⟨b20, 0, none⟩)), (14, .pointer (some ⟨b88, 0, none⟩))]) (by kernel_rfl) ?_
          refine t_end ?_
          show W _ _ _ _ _ _ _
          refine w_seq ?_
          refine w_reg fun all => ?_
          refine t_qz 1 [5, 8, 14, 61] (σ' := [(5, .pointer (some ⟨b19, 0, none⟩)), (8, .pointer (some ⟨b20, 0, none⟩)), (14, .pointer (some ⟨b88, 0, none⟩)), (61, .pointer (some ⟨b88, 0, none⟩))]) (by kernel_rfl) ?_
          refine t_v (.ld1 rfl rfl rfl (.at 0 rfl rfl)) ?_
          refine t_qz 1 [5, 8, 14, 62, 63] (σ' := [(5, .pointer (some ⟨b19, 0, none⟩)), (8, .pointer (some ⟨b20, 0, none⟩)), (14, .pointer (some ⟨b88, 0, none⟩)), (62, .int .i64 t85), (63, .pointer (some ⟨b19, 0, none⟩))]) (by kernel_rfl) ?_
          refine t_v (.ld1 rfl rfl rfl (.at 4 rfl rfl)) ?_
          refine t_qz 2 [5, 8, 14, 65, 66] (σ' := [(5, .pointer (some ⟨b19, 0, none⟩)), (8, .pointer (some ⟨b20, 0, none⟩)), (14, .pointer (some ⟨b88, 0, none⟩)), (65, .int .i64 (wr64 (t85 + at1_X))), (66, .pointer (some ⟨b88, 0, none⟩))]) (by kernel_rfl) ?_
          refine t_sti 0 (cs := [.int .i64 (wr64 (t85 + at1_X)), .int .i64 t86]) rfl rfl rfl rfl rfl rfl rfl rfl rfl ?_
          refine t_keep [5, 8, 14] (σ' := [(5, .pointer (some ⟨b19, 0, none⟩)), (8, .pointer (some ⟨b20, 0, none⟩)), (14, .pointer (some ⟨b88, 0, none⟩))]) (by kernel_rfl) ?_
          refine t_end ?_
          show W _ _ _ _ _ _ _
          refine w_seq ?_
          refine w_reg fun all => ?_
          refine t_qz 1 [5, 8, 14, 67] (σ' := [(5, .pointer (some ⟨b19, 0, none⟩)), (8, .pointer (some ⟨b20, 0, none⟩)), (14, .pointer (some ⟨b88, 0, none⟩)), (67, .pointer (some ⟨b88, 1, none⟩))]) (by kernel_rfl) ?_
          refine t_v (.ld1 rfl rfl rfl (.at 0 rfl rfl)) ?_
          refine t_qz 1 [8, 14, 68, 69] (σ' := [(8, .pointer (some ⟨b20, 0, none⟩)), (14, .pointer (some ⟨b88, 0, none⟩)), (68, .int .i64 t86), (69, .pointer (some ⟨b19, 1, none⟩))]) (by kernel_rfl) ?_
          refine t_v (.ld1 rfl rfl rfl (.at 4 rfl rfl)) ?_
          refine t_qz 2 [8, 14, 71, 72] (σ' := [(8, .pointer (some ⟨b20, 0, none⟩)), (14, .pointer (some ⟨b88, 0, none⟩)), (71, .int .i64 (wr64 (t86 + at1_Y))), (72, .pointer (some ⟨b88, 1, none⟩))]) (by kernel_rfl) ?_
          refine t_sti 0 (cs := [.int .i64 (wr64 (t85 + at1_X)), .int .i64 (wr64 (t86 + at1_Y))]) rfl rfl rfl rfl rfl rfl rfl rfl rfl ?_
          refine t_keep [8, 14] (σ' := [(8, .pointer (some ⟨b20, 0, none⟩)), (14, .pointer (some ⟨b88, 0, none⟩))]) (by kernel_rfl) ?_
          refine t_end ?_
          show W _ _ _ _ _ _ _
          refine w_seq ?_
          refine w_seq ?_
          refine w_reg fun all => ?_
          refine t_qz 1 [8, 14, 73] (σ' := [(8, .pointer (some ⟨b20, 0, none⟩)), (14, .pointer (some ⟨b88, 0, none⟩)), (73, .pointer (some ⟨b88, 0, none⟩))]) (by kernel_rfl) ?_
          refine t_v (.ld1 rfl rfl rfl (.at 0 rfl rfl)) ?_
          refine t_qz 1 [8, 14, 74, 75] (σ' := [(8, .pointer (some ⟨b20, 0, none⟩)), (14, .pointer (some ⟨b88, 0, none⟩)), (74, .int .i64 (wr64 (t85 + at1_X))), (75, .pointer (some ⟨b88, 1, none⟩))]) (by kernel_rfl) ?_
          refine t_v (.ld1 rfl rfl rfl (.at 0 rfl rfl)) ?_
          refine t_a (.bsl rfl rfl rfl rfl) fun b89 fb89 sb89 => ?_
          obtain ⟨t90, h91, e⟩ := bind_of e
          refine t_v (.callr (vs := [.slice (some ⟨b89, 0, none⟩) 2 2]) (A := ([⟨b89, [.int .i64 (wr64 (t85 + at1_X)), .int .i64 (wr64 (t86 + at1_Y))], 2⟩] : List Own)) (F0 := ([⟨b88, [.int .i64 (wr64 (t85 + at1_X)), .int .i64 (wr64 (t86 + at1_Y))], 2⟩, ⟨b81, [.int .i64 t73, .int .i64 t76], 2⟩, ⟨b21, [.int .i64 p0_X, .int .i64 p0_Y, .int .i64 at1_X, .int .i64 at1_Y, .int .i64 by2], 5⟩, ⟨b20, [.int .i64 0, .int .i64 0], 2⟩, ⟨b19, [.int .i64 at1_X, .int .i64 at1_Y], 2⟩, ⟨b18, [.int .i64 p0_X, .int .i64 p0_Y], 2⟩] : List Own)) rfl rfl (by kernel_rfl) (sel_perm (is := [0]) (by kernel_rfl)) (turn_within_v2.ok h91)) ?_
          by_cases c92 : t90 = true
          · rw [if_pos c92] at e
            have c92b : t90 = true := c92
            refine t_v (dv_quiet rfl (congrArg (fun t => some (Value.bool (!t))) c92b)) ?_
            refine t_keep [8, 14, 79] (σ' := [(8, .pointer (some ⟨b20, 0, none⟩)), (14, .pointer (some ⟨b88, 0, none⟩)), (79, .bool false)]) (by kernel_rfl) ?_
            refine t_end ?_
            show W _ _ _ _ _ _ _
            refine w_cond rfl (fun c_ => by cases c_) (fun _ => ?_)
            show W _ _ _ _ _ _ _
            refine w_skip ?_
            show W _ _ _ _ _ _ _
            refine w_seq ?_
            refine w_reg fun all => ?_
            refine t_v (.ldn rfl rfl rfl (.at 1 rfl rfl)) ?_
            refine t_sti 4 (cs := [.int .i64 (wr64 (t85 + at1_X)), .int .i64 (wr64 (t86 + at1_Y))]) rfl rfl rfl rfl rfl rfl rfl rfl rfl ?_
            refine t_qz 1 [8, 9] (σ' := [(8, .pointer (some ⟨b20, 0, none⟩)), (9, .bool true)]) (by kernel_rfl) ?_
            refine t_end ?_
            show W _ _ _ _ _ _ _
            refine w_ret ?_
            simp only [Option.some.injEq, Prod.mk.injEq] at e
            obtain ⟨rfl, rfl, rfl⟩ := e
            exact ⟨[.agg #[.int .i64 (wr64 (t85 + at1_X)), .int .i64 (wr64 (t86 + at1_Y))], .bool true], [], S, ⟨⟨_, _, _, rfl, .at 4 rfl rfl, rfl⟩, rfl, trivial⟩, VS.none, rfl, rfl, rfl⟩
          · rw [if_neg c92] at e
            have c92b : t90 = false := Bool.eq_false_iff.mpr c92
            refine t_v (dv_quiet rfl (congrArg (fun t => some (Value.bool (!t))) c92b)) ?_
            refine t_keep [8, 14, 79] (σ' := [(8, .pointer (some ⟨b20, 0, none⟩)), (14, .pointer (some ⟨b88, 0, none⟩)), (79, .bool true)]) (by kernel_rfl) ?_
            refine t_end ?_
            show W _ _ _ _ _ _ _
            refine w_cond rfl (fun _ => ?_) (fun c_ => by cases c_)
            show W _ _ _ _ _ _ _
            refine w_seq ?_
            refine w_reg fun all => ?_
            refine t_qz 1 [8, 80] (σ' := [(8, .pointer (some ⟨b20, 0, none⟩)), (80, .agg #[.int .i64 0, .int .i64 0])]) (by kernel_rfl) ?_
            refine t_sti 4 (cs := [.int .i64 0, .int .i64 0]) rfl rfl rfl rfl rfl rfl rfl rfl rfl ?_
            refine t_qz 1 [8, 9] (σ' := [(8, .pointer (some ⟨b20, 0, none⟩)), (9, .bool false)]) (by kernel_rfl) ?_
            refine t_end ?_
            show W _ _ _ _ _ _ _
            refine w_ret ?_
            simp only [Option.some.injEq, Prod.mk.injEq] at e
            obtain ⟨rfl, rfl, rfl⟩ := e
            exact ⟨[.agg #[.int .i64 0, .int .i64 0], .bool false], [], S, ⟨⟨_, _, _, rfl, .at 4 rfl rfl, rfl⟩, rfl, trivial⟩, VS.none, rfl, rfl, rfl⟩
        · rw [if_neg c84] at e
          have c84b : t82 = false := Bool.eq_false_iff.mpr c84
          refine t_v (dv_quiet rfl (congrArg (fun t => some (Value.bool (!t))) c84b)) ?_
          refine t_qz 1 [3, 5, 8, 10, 12, 54] (σ' := [(3, .int .i64 quarters3), (5, .pointer (some ⟨b19, 0, none⟩)), (8, .pointer (some ⟨b20, 0, none⟩)), (10, .int .i64 t73), (12, .int .i64 t76), (54, .bool true)]) (by kernel_rfl) ?_
          refine t_end ?_
          show W _ _ _ _ _ _ _
          refine w_cond rfl (fun _ => ?_) (fun c_ => by cases c_)
          show W _ _ _ _ _ _ _
          refine w_seq ?_
          refine w_reg fun all => ?_
          refine t_qz 1 [8, 55] (σ' := [(8, .pointer (some ⟨b20, 0, none⟩)), (55, .agg #[.int .i64 0, .int .i64 0])]) (by kernel_rfl) ?_
          refine t_sti 2 (cs := [.int .i64 0, .int .i64 0]) rfl rfl rfl rfl rfl rfl rfl rfl rfl ?_
          refine t_qz 1 [8, 9] (σ' := [(8, .pointer (some ⟨b20, 0, none⟩)), (9, .bool false)]) (by kernel_rfl) ?_
          refine t_end ?_
          show W _ _ _ _ _ _ _
          refine w_ret ?_
          simp only [Option.some.injEq, Prod.mk.injEq] at e
          obtain ⟨rfl, rfl, rfl⟩ := e
          exact ⟨[.agg #[.int .i64 0, .int .i64 0], .bool false], [], S, ⟨⟨_, _, _, rfl, .at 2 rfl rfl, rfl⟩, rfl, trivial⟩, VS.none, rfl, rfl, rfl⟩
      · rw [if_neg c80] at e
        have c80b : t77 = false := Bool.eq_false_iff.mpr c80
        refine t_qz 2 [3, 5, 8, 10, 12, 44, 45] (σ' := [(3, .int .i64 quarters3), (5, .pointer (some ⟨b19, 0, none⟩)), (8, .pointer (some ⟨b20, 0, none⟩)), (10, .int .i64 t73), (12, .int .i64 t76), (44, .bool false), (45, .bool t77)]) (by kernel_rfl) ?_
        refine t_v (dv_quiet rfl (congrArg (fun t => some (Value.bool (!t))) c80b)) ?_
        refine t_qz 8 [3, 5, 8, 10, 12, 54] (σ' := [(3, .int .i64 quarters3), (5, .pointer (some ⟨b19, 0, none⟩)), (8, .pointer (some ⟨b20, 0, none⟩)), (10, .int .i64 t73), (12, .int .i64 t76), (54, .bool true)]) (by kernel_rfl) ?_
        refine t_end ?_
        show W _ _ _ _ _ _ _
        refine w_cond rfl (fun _ => ?_) (fun c_ => by cases c_)
        show W _ _ _ _ _ _ _
        refine w_seq ?_
        refine w_reg fun all => ?_
        refine t_qz 1 [8, 55] (σ' := [(8, .pointer (some ⟨b20, 0, none⟩)), (55, .agg #[.int .i64 0, .int .i64 0])]) (by kernel_rfl) ?_
        refine t_sti 1 (cs := [.int .i64 0, .int .i64 0]) rfl rfl rfl rfl rfl rfl rfl rfl rfl ?_
        refine t_qz 1 [8, 9] (σ' := [(8, .pointer (some ⟨b20, 0, none⟩)), (9, .bool false)]) (by kernel_rfl) ?_
        refine t_end ?_
        show W _ _ _ _ _ _ _
        refine w_ret ?_
        simp only [Option.some.injEq, Prod.mk.injEq] at e
        obtain ⟨rfl, rfl, rfl⟩ := e
        exact ⟨[.agg #[.int .i64 0, .int .i64 0], .bool false], [], S, ⟨⟨_, _, _, rfl, .at 1 rfl rfl, rfl⟩, rfl, trivial⟩, VS.none, rfl, rfl, rfl⟩
    · rw [if_neg c79] at e
      have c79b : t74 = false := Bool.eq_false_iff.mpr c79
      refine t_qz 1 [3, 5, 8, 10, 12, 13, 42] (σ' := [(3, .int .i64 quarters3), (5, .pointer (some ⟨b19, 0, none⟩)), (8, .pointer (some ⟨b20, 0, none⟩)), (10, .int .i64 t73), (12, .int .i64 t76), (13, .bool t77), (42, .bool t74)]) (by kernel_rfl) ?_
      refine t_v (dv_quiet rfl (congrArg (fun t => some (Value.bool (!t))) c79b)) ?_
      refine t_qz 11 [3, 5, 8, 10, 12, 54] (σ' := [(3, .int .i64 quarters3), (5, .pointer (some ⟨b19, 0, none⟩)), (8, .pointer (some ⟨b20, 0, none⟩)), (10, .int .i64 t73), (12, .int .i64 t76), (54, .bool true)]) (by kernel_rfl) ?_
      refine t_end ?_
      show W _ _ _ _ _ _ _
      refine w_cond rfl (fun _ => ?_) (fun c_ => by cases c_)
      show W _ _ _ _ _ _ _
      refine w_seq ?_
      refine w_reg fun all => ?_
      refine t_qz 1 [8, 55] (σ' := [(8, .pointer (some ⟨b20, 0, none⟩)), (55, .agg #[.int .i64 0, .int .i64 0])]) (by kernel_rfl) ?_
      refine t_sti 1 (cs := [.int .i64 0, .int .i64 0]) rfl rfl rfl rfl rfl rfl rfl rfl rfl ?_
      refine t_qz 1 [8, 9] (σ' := [(8, .pointer (some ⟨b20, 0, none⟩)), (9, .bool false)]) (by kernel_rfl) ?_
      refine t_end ?_
      show W _ _ _ _ _ _ _
      refine w_ret ?_
      simp only [Option.some.injEq, Prod.mk.injEq] at e
      obtain ⟨rfl, rfl, rfl⟩ := e
      exact ⟨[.agg #[.int .i64 0, .int .i64 0], .bool false], [], S, ⟨⟨_, _, _, rfl, .at 1 rfl rfl, rfl⟩, rfl, trivial⟩, VS.none, rfl, rfl, rfl⟩
  · rw [if_neg c24] at e
    have c24b : t22 = false := Bool.eq_false_iff.mpr c24
    refine t_v (dv_quiet rfl (congrArg (fun t => some (Value.bool (!t))) c24b)) ?_
    refine t_keep [2, 3, 4, 5, 8, 26] (σ' := [(2, .int .i64 by2), (3, .int .i64 quarters3), (4, .pointer (some ⟨b18, 0, none⟩)), (5, .pointer (some ⟨b19, 0, none⟩)), (8, .pointer (some ⟨b20, 0, none⟩)), (26, .bool true)]) (by kernel_rfl) ?_
    refine t_end ?_
    show W _ _ _ _ _ _ _
    refine w_cond rfl (fun _ => ?_) (fun c_ => by cases c_)
    show W _ _ _ _ _ _ _
    refine w_seq ?_
    refine w_reg fun all => ?_
    refine t_qz 1 [8, 27] (σ' := [(8, .pointer (some ⟨b20, 0, none⟩)), (27, .agg #[.int .i64 0, .int .i64 0])]) (by kernel_rfl) ?_
    refine t_sti 1 (cs := [.int .i64 0, .int .i64 0]) rfl rfl rfl rfl rfl rfl rfl rfl rfl ?_
    refine t_qz 1 [8, 9] (σ' := [(8, .pointer (some ⟨b20, 0, none⟩)), (9, .bool false)]) (by kernel_rfl) ?_
    refine t_end ?_
    show W _ _ _ _ _ _ _
    refine w_ret ?_
    simp only [Option.some.injEq, Prod.mk.injEq] at e
    obtain ⟨rfl, rfl, rfl⟩ := e
    exact ⟨[.agg #[.int .i64 0, .int .i64 0], .bool false], [], S, ⟨⟨_, _, _, rfl, .at 1 rfl rfl, rfl⟩, rfl, trivial⟩, VS.none, rfl, rfl, rfl⟩

/-- glyphiclaw13.first -/
def c49 : C :=
  (.seq (.reg [⟨(some 0), .mv (.const (.bool false)), none⟩])
  (.seq (.reg [⟨(some 4), .bld [(.int .i64 0), (.int .i64 0)] [(0, 1, (.const (.int .i64 1)))], none⟩,
     ⟨(some 5), .call 50 [(.tmp 4), (.const (.int .i64 1))], none⟩,
     ⟨(some 1), .new [(.int .i64 0), (.int .i64 0)], none⟩,
     ⟨none, .st 2 (.tmp 1) (.tmp 5), none⟩])
  (.seq (.reg [⟨(some 7), .bld [(.int .i64 0), (.int .i64 0)] [(0, 1, (.const (.int .i64 2)))], none⟩,
     ⟨(some 8), .bld [(.int .i64 0), (.int .i64 0)] [(1, 1, (.const (.int .i64 1)))], none⟩,
     ⟨(some 9), .call 51 [(.tmp 7), (.tmp 8), (.const (.int .i64 1000000)), (.const (.int .i64 1))], none⟩,
     ⟨(some 6), .mv (.tmp 9), none⟩,
     ⟨(some 10), .xt 0 (.tmp 6), none⟩,
     ⟨(some 11), .xt 1 (.tmp 6), none⟩,
     ⟨(some 2), .new [(.int .i64 0), (.int .i64 0)], none⟩,
     ⟨none, .st 2 (.tmp 2) (.tmp 10), none⟩,
     ⟨(some 3), .mv (.tmp 11), none⟩])
  (.seq (.reg [⟨(some 12), .pad 0 (.tmp 1), none⟩,
     ⟨(some 13), .ld none (.tmp 12), none⟩,
     ⟨(some 14), .bin .eql (.tmp 13) (.const (.int .i64 0)), none⟩,
     ⟨(some 15), .mv (.tmp 14), none⟩,
     ⟨(some 16), .pad 1 (.tmp 1), (some (15, true))⟩,
     ⟨(some 17), .ld none (.tmp 16), (some (15, true))⟩,
     ⟨(some 18), .bin .eql (.tmp 17) (.const (.int .i64 1)), (some (15, true))⟩,
     ⟨(some 19), .pk (.tmp 15) (.tmp 18) (.const (.bool false)), none⟩,
     ⟨(some 20), .mv (.tmp 19), none⟩,
     ⟨(some 21), .mv (.tmp 3), (some (20, true))⟩,
     ⟨(some 22), .pk (.tmp 20) (.tmp 21) (.const (.bool false)), none⟩,
     ⟨(some 23), .mv (.tmp 22), none⟩,
     ⟨(some 24), .pad 0 (.tmp 2), (some (23, true))⟩,
     ⟨(some 25), .ld none (.tmp 24), (some (23, true))⟩,
     ⟨(some 26), .bin .eql (.tmp 25) (.const (.int .i64 0)), (some (23, true))⟩,
     ⟨(some 27), .pk (.tmp 23) (.tmp 26) (.const (.bool false)), none⟩,
     ⟨(some 28), .mv (.tmp 27), none⟩,
     ⟨(some 29), .pad 1 (.tmp 2), (some (28, true))⟩,
     ⟨(some 30), .ld none (.tmp 29), (some (28, true))⟩,
     ⟨(some 31), .bin .eql (.tmp 30) (.const (.int .i64 3)), (some (28, true))⟩,
     ⟨(some 32), .pk (.tmp 28) (.tmp 31) (.const (.bool false)), none⟩,
     ⟨(some 0), .mv (.tmp 32), none⟩])
  .ret))))
def glyphiclaw13_first.f (k : Nat)  : Option (Bool) := (turn_Quarter.f k 1 0 1).bind fun (t14, t15) => ((turn_Apply.f k 2 0 0 1 1000000 1).bind fun (t93, t94, t95) => (if t95 = true then (if t14 = 0 then (if t15 = 1 then (if t93 = 0 then (some (t94 == 3)) else (some false)) else (some false)) else (some false)) else (if t14 = 0 then (if t15 = 1 then (some false) else (some false)) else (some false))))
theorem glyphiclaw13_first.ok {S : Seal} {k : Nat}  {r0_ : Bool} (e : glyphiclaw13_first.f k  = some r0_) :
    Cal Try.prog 49 [] [] S fun v H' S' => v = .bool r0_ ∧ H' = [] ∧ S' = S := by
  unfold glyphiclaw13_first.f at e
  refine cal_of (c := c49) (N := 33) Try.func49 rfl rfl (by kernel_rfl) (rs := [.t 0]) (by kernel_rfl) (Nat.le_of_ble_eq_true rfl) ?_
  unfold c49
  refine w_seq ?_
  refine w_reg fun all => ?_
  refine t_qz 1 [] (σ' := []) (by kernel_rfl) ?_
  refine t_end ?_
  show W _ _ _ _ _ _ _
  refine w_seq ?_
  refine w_reg fun all => ?_
  obtain ⟨⟨t14, t15⟩, h16, e⟩ := bind_of e
  try dsimp only at e
  refine t_qz 1 [4] (σ' := [(4, .agg #[.int .i64 1, .int .i64 0])]) (by kernel_rfl) ?_
  refine t_v (.call (vs := [.agg #[.int .i64 1, .int .i64 0], .int .i64 1]) rfl rfl (by kernel_rfl) (turn_Quarter.ok h16)) ?_
  refine t_a (.new rfl rfl) fun b17 fb17 sb17 => ?_
  refine t_sti 0 (cs := [.int .i64 t14, .int .i64 t15]) rfl rfl rfl rfl rfl rfl rfl rfl rfl ?_
  refine t_keep [1] (σ' := [(1, .pointer (some ⟨b17, 0, none⟩))]) (by kernel_rfl) ?_
  refine t_end ?_
  show W _ _ _ _ _ _ _
  refine w_seq ?_
  refine w_reg fun all => ?_
  obtain ⟨⟨t93, t94, t95⟩, h96, e⟩ := bind_of e
  try dsimp only at e
  refine t_qz 2 [1, 7, 8] (σ' := [(1, .pointer (some ⟨b17, 0, none⟩)), (7, .agg #[.int .i64 2, .int .i64 0]), (8, .agg #[.int .i64 0, .int .i64 1])]) (by kernel_rfl) ?_
  refine t_v (.call (vs := [.agg #[.int .i64 2, .int .i64 0], .agg #[.int .i64 0, .int .i64 1], .int .i64 1000000, .int .i64 1]) rfl rfl (by kernel_rfl) (turn_Apply.ok h96)) ?_
  by_cases c97 : t95 = true
  · rw [if_pos c97] at e
    have c97b : t95 = true := c97
    refine t_qz 2 [1, 6, 10] (σ' := [(1, .pointer (some ⟨b17, 0, none⟩)), (6, .tuple #[.agg #[.int .i64 t93, .int .i64 t94], .bool t95]), (10, .agg #[.int .i64 t93, .int .i64 t94])]) (by kernel_rfl) ?_
    refine t_v (dv_quiet rfl (congrArg (fun t => some (Value.bool t)) c97b)) ?_
    refine t_a (.new rfl rfl) fun b98 fb98 sb98 => ?_
    refine t_sti 0 (cs := [.int .i64 t93, .int .i64 t94]) rfl rfl rfl rfl rfl rfl rfl rfl rfl ?_
    refine t_qz 1 [1, 2, 3] (σ' := [(1, .pointer (some ⟨b17, 0, none⟩)), (2, .pointer (some ⟨b98, 0, none⟩)), (3, .bool true)]) (by kernel_rfl) ?_
    refine t_end ?_
    show W _ _ _ _ _ _ _
    refine w_seq ?_
    refine w_reg fun all => ?_
    refine t_qz 1 [1, 2, 3, 12] (σ' := [(1, .pointer (some ⟨b17, 0, none⟩)), (2, .pointer (some ⟨b98, 0, none⟩)), (3, .bool true), (12, .pointer (some ⟨b17, 0, none⟩))]) (by kernel_rfl) ?_
    refine t_v (.ld1 rfl rfl rfl (.at 1 rfl rfl)) ?_
    by_cases c99 : t14 = 0
    · rw [if_pos c99] at e
      have c99b : (t14 == 0) = true := beq_iff_eq.mpr c99
      refine t_v (dv_quiet rfl (congrArg (fun t => some (Value.bool t)) c99b)) ?_
      refine t_qz 2 [2, 3, 15, 16] (σ' := [(2, .pointer (some ⟨b98, 0, none⟩)), (3, .bool true), (15, .bool true), (16, .pointer (some ⟨b17, 1, none⟩))]) (by kernel_rfl) ?_
      refine t_v (.ld1 rfl rfl rfl (.at 1 rfl rfl)) ?_
      by_cases c100 : t15 = 1
      · rw [if_pos c100] at e
        have c100b : (t15 == 1) = true := beq_iff_eq.mpr c100
        refine t_v (dv_quiet rfl (congrArg (fun t => some (Value.bool t)) c100b)) ?_
        refine t_qz 6 [2, 23, 24] (σ' := [(2, .pointer (some ⟨b98, 0, none⟩)), (23, .bool true), (24, .pointer (some ⟨b98, 0, none⟩))]) (by kernel_rfl) ?_
        refine t_v (.ld1 rfl rfl rfl (.at 0 rfl rfl)) ?_
        by_cases c101 : t93 = 0
        · rw [if_pos c101] at e
          have c101b : (t93 == 0) = true := beq_iff_eq.mpr c101
          refine t_v (dv_quiet rfl (congrArg (fun t => some (Value.bool t)) c101b)) ?_
          refine t_qz 3 [28, 29] (σ' := [(28, .bool true), (29, .pointer (some ⟨b98, 1, none⟩))]) (by kernel_rfl) ?_
          refine t_v (.ld1 rfl rfl rfl (.at 0 rfl rfl)) ?_
          refine t_qz 3 [0] (σ' := [(0, .bool (t94 == 3))]) (by kernel_rfl) ?_
          refine t_end ?_
          show W _ _ _ _ _ _ _
          refine w_ret ?_
          obtain rfl := Option.some.inj e
          exact ⟨[.bool (t94 == 3)], [], S, ⟨rfl, trivial⟩, VS.none, rfl, rfl, rfl⟩
        · rw [if_neg c101] at e
          have c101b : (t93 == 0) = false := beq_eq_false_iff_ne.mpr c101
          refine t_v (dv_quiet rfl (congrArg (fun t => some (Value.bool t)) c101b)) ?_
          refine t_qz 7 [0] (σ' := [(0, .bool false)]) (by kernel_rfl) ?_
          refine t_end ?_
          show W _ _ _ _ _ _ _
          refine w_ret ?_
          obtain rfl := Option.some.inj e
          exact ⟨[.bool false], [], S, ⟨rfl, trivial⟩, VS.none, rfl, rfl, rfl⟩
      · rw [if_neg c100] at e
        have c100b : (t15 == 1) = false := beq_eq_false_iff_ne.mpr c100
        refine t_v (dv_quiet rfl (congrArg (fun t => some (Value.bool t)) c100b)) ?_
        refine t_qz 15 [0] (σ' := [(0, .bool false)]) (by kernel_rfl) ?_
        refine t_end ?_
        show W _ _ _ _ _ _ _
        refine w_ret ?_
        obtain rfl := Option.some.inj e
        exact ⟨[.bool false], [], S, ⟨rfl, trivial⟩, VS.none, rfl, rfl, rfl⟩
    · rw [if_neg c99] at e
      have c99b : (t14 == 0) = false := beq_eq_false_iff_ne.mpr c99
      refine t_v (dv_quiet rfl (congrArg (fun t => some (Value.bool t)) c99b)) ?_
      refine t_qz 19 [0] (σ' := [(0, .bool false)]) (by kernel_rfl) ?_
      refine t_end ?_
      show W _ _ _ _ _ _ _
      refine w_ret ?_
      obtain rfl := Option.some.inj e
      exact ⟨[.bool false], [], S, ⟨rfl, trivial⟩, VS.none, rfl, rfl, rfl⟩
  · rw [if_neg c97] at e
    have c97b : t95 = false := Bool.eq_false_iff.mpr c97
    refine t_qz 2 [1, 6, 10] (σ' := [(1, .pointer (some ⟨b17, 0, none⟩)), (6, .tuple #[.agg #[.int .i64 t93, .int .i64 t94], .bool t95]), (10, .agg #[.int .i64 t93, .int .i64 t94])]) (by kernel_rfl) ?_
    refine t_v (dv_quiet rfl (congrArg (fun t => some (Value.bool t)) c97b)) ?_
    refine t_a (.new rfl rfl) fun b102 fb102 sb102 => ?_
    refine t_sti 0 (cs := [.int .i64 t93, .int .i64 t94]) rfl rfl rfl rfl rfl rfl rfl rfl rfl ?_
    refine t_qz 1 [1, 2, 3] (σ' := [(1, .pointer (some ⟨b17, 0, none⟩)), (2, .pointer (some ⟨b102, 0, none⟩)), (3, .bool false)]) (by kernel_rfl) ?_
    refine t_end ?_
    show W _ _ _ _ _ _ _
    refine w_seq ?_
    refine w_reg fun all => ?_
    refine t_qz 1 [1, 2, 3, 12] (σ' := [(1, .pointer (some ⟨b17, 0, none⟩)), (2, .pointer (some ⟨b102, 0, none⟩)), (3, .bool false), (12, .pointer (some ⟨b17, 0, none⟩))]) (by kernel_rfl) ?_
    refine t_v (.ld1 rfl rfl rfl (.at 1 rfl rfl)) ?_
    by_cases c103 : t14 = 0
    · rw [if_pos c103] at e
      have c103b : (t14 == 0) = true := beq_iff_eq.mpr c103
      refine t_v (dv_quiet rfl (congrArg (fun t => some (Value.bool t)) c103b)) ?_
      refine t_qz 2 [2, 3, 15, 16] (σ' := [(2, .pointer (some ⟨b102, 0, none⟩)), (3, .bool false), (15, .bool true), (16, .pointer (some ⟨b17, 1, none⟩))]) (by kernel_rfl) ?_
      refine t_v (.ld1 rfl rfl rfl (.at 1 rfl rfl)) ?_
      by_cases c104 : t15 = 1
      · rw [if_pos c104] at e
        have c104b : (t15 == 1) = true := beq_iff_eq.mpr c104
        refine t_v (dv_quiet rfl (congrArg (fun t => some (Value.bool t)) c104b)) ?_
        refine t_qz 15 [0] (σ' := [(0, .bool false)]) (by kernel_rfl) ?_
        refine t_end ?_
        show W _ _ _ _ _ _ _
        refine w_ret ?_
        obtain rfl := Option.some.inj e
        exact ⟨[.bool false], [], S, ⟨rfl, trivial⟩, VS.none, rfl, rfl, rfl⟩
      · rw [if_neg c104] at e
        have c104b : (t15 == 1) = false := beq_eq_false_iff_ne.mpr c104
        refine t_v (dv_quiet rfl (congrArg (fun t => some (Value.bool t)) c104b)) ?_
        refine t_qz 15 [0] (σ' := [(0, .bool false)]) (by kernel_rfl) ?_
        refine t_end ?_
        show W _ _ _ _ _ _ _
        refine w_ret ?_
        obtain rfl := Option.some.inj e
        exact ⟨[.bool false], [], S, ⟨rfl, trivial⟩, VS.none, rfl, rfl, rfl⟩
    · rw [if_neg c103] at e
      have c103b : (t14 == 0) = false := beq_eq_false_iff_ne.mpr c103
      refine t_v (dv_quiet rfl (congrArg (fun t => some (Value.bool t)) c103b)) ?_
      refine t_qz 19 [0] (σ' := [(0, .bool false)]) (by kernel_rfl) ?_
      refine t_end ?_
      show W _ _ _ _ _ _ _
      refine w_ret ?_
      obtain rfl := Option.some.inj e
      exact ⟨[.bool false], [], S, ⟨rfl, trivial⟩, VS.none, rfl, rfl, rfl⟩

/-- glyphicref.SamePoint -/
def c26 : C :=
  (.seq (.reg [⟨(some 2), .box (.tmp 0), none⟩,
     ⟨(some 3), .box (.tmp 1), none⟩,
     ⟨(some 4), .mv (.const (.bool false)), none⟩])
  (.seq (.reg [⟨(some 5), .pad 0 (.tmp 2), none⟩,
     ⟨(some 6), .ld none (.tmp 5), none⟩,
     ⟨(some 7), .pad 0 (.tmp 3), none⟩,
     ⟨(some 8), .ld none (.tmp 7), none⟩,
     ⟨(some 9), .bin .eql (.tmp 6) (.tmp 8), none⟩,
     ⟨(some 10), .mv (.tmp 9), none⟩,
     ⟨(some 11), .pad 1 (.tmp 2), (some (10, true))⟩,
     ⟨(some 12), .ld none (.tmp 11), (some (10, true))⟩,
     ⟨(some 13), .pad 1 (.tmp 3), (some (10, true))⟩,
     ⟨(some 14), .ld none (.tmp 13), (some (10, true))⟩,
     ⟨(some 15), .bin .eql (.tmp 12) (.tmp 14), (some (10, true))⟩,
     ⟨(some 16), .pk (.tmp 10) (.tmp 15) (.const (.bool false)), none⟩,
     ⟨(some 4), .mv (.tmp 16), none⟩])
  .ret))
def glyphicref_SamePoint.f (a0_X : Int) (a0_Y : Int) (b1_X : Int) (b1_Y : Int) : Option (Bool) := if a0_X = b1_X then (some (a0_Y == b1_Y)) else (some false)
theorem glyphicref_SamePoint.ok {S : Seal} {a0_X : Int} {a0_Y : Int} {b1_X : Int} {b1_Y : Int} {r0_ : Bool} (e : glyphicref_SamePoint.f a0_X a0_Y b1_X b1_Y = some r0_) :
    Cal Try.prog 26 [.agg #[.int .i64 a0_X, .int .i64 a0_Y], .agg #[.int .i64 b1_X, .int .i64 b1_Y]] [] S fun v H' S' => v = .bool r0_ ∧ H' = [] ∧ S' = S := by
  unfold glyphicref_SamePoint.f at e
  refine cal_of (c := c26) (N := 17) Try.func26 rfl rfl (by kernel_rfl) (rs := [.t 4]) (by kernel_rfl) (Nat.le_of_ble_eq_true rfl) ?_
  unfold c26
  refine w_seq ?_
  refine w_reg fun all => ?_
  refine t_a (.box rfl rfl rfl) fun b140 fb140 sb140 => ?_
  refine t_a (.box rfl rfl rfl) fun b141 fb141 sb141 => ?_
  refine t_qz 1 [2, 3] (σ' := [(2, .pointer (some ⟨b140, 0, none⟩)), (3, .pointer (some ⟨b141, 0, none⟩))]) (by kernel_rfl) ?_
  refine t_end ?_
  show W _ _ _ _ _ _ _
  refine w_seq ?_
  refine w_reg fun all => ?_
  refine t_qz 1 [2, 3, 5] (σ' := [(2, .pointer (some ⟨b140, 0, none⟩)), (3, .pointer (some ⟨b141, 0, none⟩)), (5, .pointer (some ⟨b140, 0, none⟩))]) (by kernel_rfl) ?_
  refine t_v (.ld1 rfl rfl rfl (.at 1 rfl rfl)) ?_
  refine t_qz 1 [2, 3, 6, 7] (σ' := [(2, .pointer (some ⟨b140, 0, none⟩)), (3, .pointer (some ⟨b141, 0, none⟩)), (6, .int .i64 a0_X), (7, .pointer (some ⟨b141, 0, none⟩))]) (by kernel_rfl) ?_
  refine t_v (.ld1 rfl rfl rfl (.at 0 rfl rfl)) ?_
  by_cases c142 : a0_X = b1_X
  · rw [if_pos c142] at e
    have c142b : (a0_X == b1_X) = true := beq_iff_eq.mpr c142
    refine t_v (dv_quiet rfl (congrArg (fun t => some (Value.bool t)) c142b)) ?_
    refine t_qz 2 [3, 10, 11] (σ' := [(3, .pointer (some ⟨b141, 0, none⟩)), (10, .bool true), (11, .pointer (some ⟨b140, 1, none⟩))]) (by kernel_rfl) ?_
    refine t_v (.ld1 rfl rfl rfl (.at 1 rfl rfl)) ?_
    refine t_qz 1 [10, 12, 13] (σ' := [(10, .bool true), (12, .int .i64 a0_Y), (13, .pointer (some ⟨b141, 1, none⟩))]) (by kernel_rfl) ?_
    refine t_v (.ld1 rfl rfl rfl (.at 0 rfl rfl)) ?_
    refine t_qz 3 [4] (σ' := [(4, .bool (a0_Y == b1_Y))]) (by kernel_rfl) ?_
    refine t_end ?_
    show W _ _ _ _ _ _ _
    refine w_ret ?_
    obtain rfl := Option.some.inj e
    exact ⟨[.bool (a0_Y == b1_Y)], [], S, ⟨rfl, trivial⟩, VS.none, rfl, rfl, rfl⟩
  · rw [if_neg c142] at e
    have c142b : (a0_X == b1_X) = false := beq_eq_false_iff_ne.mpr c142
    refine t_v (dv_quiet rfl (congrArg (fun t => some (Value.bool t)) c142b)) ?_
    refine t_qz 8 [4] (σ' := [(4, .bool false)]) (by kernel_rfl) ?_
    refine t_end ?_
    show W _ _ _ _ _ _ _
    refine w_ret ?_
    obtain rfl := Option.some.inj e
    exact ⟨[.bool false], [], S, ⟨rfl, trivial⟩, VS.none, rfl, rfl, rfl⟩

/-- glyphiclaw13.TurnFar -/
def c16 : C :=
  (.seq (.reg [⟨(some 6), .mv (.const (.bool false)), none⟩])
  (.seq (.reg [⟨(some 15), .call 49 [], none⟩,
     ⟨(some 7), .mv (.tmp 15), none⟩])
  (.seq (.seq (.reg [⟨(some 16), .mv (.tmp 7), none⟩,
      ⟨(some 17), .un .not (.tmp 16), none⟩])
   (.cond (.tmp 17)
    (.seq (.reg [⟨(some 6), .mv (.const (.bool false)), none⟩])
     .ret)
    .skip))
  (.seq (.reg [⟨(some 8), .mv (.const (.int .i64 1000000000000000)), none⟩])
  (.seq (.reg [⟨(some 18), .bld [(.int .i64 0), (.int .i64 0)] [(0, 1, (.const (.int .i64 1))), (1, 1, (.const (.int .i64 (-1))))], none⟩,
     ⟨(some 9), .new [(.int .i64 0), (.int .i64 0)], none⟩,
     ⟨none, .st 2 (.tmp 9) (.tmp 18), none⟩])
  (.seq (.reg [⟨(some 19), .bld [(.int .i64 0), (.int .i64 0)] [], none⟩,
     ⟨(some 10), .new [(.int .i64 0), (.int .i64 0)], none⟩,
     ⟨none, .st 2 (.tmp 10) (.tmp 19), none⟩])
  (.seq (.reg [⟨(some 11), .mv (.const (.int .i64 1000000)), none⟩])
  (.seq (.reg [⟨(some 20), .mv (.tmp 8), none⟩,
     ⟨(some 12), .mv (.tmp 20), none⟩])
  (.seq (.seq (.reg [⟨(some 21), .mv (.tmp 1), none⟩])
   (.cond (.tmp 21)
    (.reg [⟨(some 22), .mv (.tmp 8), none⟩,
       ⟨(some 23), .bin .add (.tmp 22) (.const (.int .i64 1)), none⟩,
       ⟨(some 12), .mv (.tmp 23), none⟩])
    .skip))
  (.seq (.seq (.reg [⟨(some 24), .mv (.tmp 0), none⟩,
      ⟨(some 25), .bin .rem (.tmp 24) (.const (.int .i64 5)), none⟩,
      ⟨(some 26), .bin .add (.tmp 25) (.const (.int .i64 5)), none⟩,
      ⟨(some 27), .bin .rem (.tmp 26) (.const (.int .i64 5)), none⟩])
   (.block 0 (.seq (.reg [⟨(some 35), .bin .eql (.tmp 27) (.const (.int .i64 0)), none⟩,
       ⟨(some 34), .mv (.tmp 35), none⟩])
    (.cond (.tmp 34)
     (.reg [⟨(some 36), .mv (.tmp 12), none⟩,
        ⟨(some 37), .pad 0 (.tmp 9), none⟩,
        ⟨none, .st 1 (.tmp 37) (.tmp 36), none⟩])
     (.seq (.reg [⟨(some 39), .bin .eql (.tmp 27) (.const (.int .i64 1)), none⟩,
         ⟨(some 38), .mv (.tmp 39), none⟩])
      (.cond (.tmp 38)
       (.reg [⟨(some 40), .mv (.tmp 12), none⟩,
          ⟨(some 41), .un .neg (.tmp 40), none⟩,
          ⟨(some 42), .pad 1 (.tmp 9), none⟩,
          ⟨none, .st 1 (.tmp 42) (.tmp 41), none⟩])
       (.seq (.reg [⟨(some 44), .bin .eql (.tmp 27) (.const (.int .i64 2)), none⟩,
           ⟨(some 43), .mv (.tmp 44), none⟩])
        (.cond (.tmp 43)
         (.seq (.reg [⟨(some 45), .mv (.tmp 12), none⟩,
             ⟨(some 46), .pad 0 (.tmp 10), none⟩,
             ⟨none, .st 1 (.tmp 46) (.tmp 45), none⟩])
          (.reg [⟨(some 47), .bld [(.int .i64 0), (.int .i64 0)] [], none⟩,
            ⟨none, .st 2 (.tmp 9) (.tmp 47), none⟩]))
         (.seq (.reg [⟨(some 49), .bin .eql (.tmp 27) (.const (.int .i64 3)), none⟩,
             ⟨(some 48), .mv (.tmp 49), none⟩])
          (.cond (.tmp 48)
           (.seq (.reg [⟨(some 50), .mv (.tmp 12), none⟩,
               ⟨(some 51), .bin .quo (.tmp 50) (.const (.int .i64 1000)), none⟩,
               ⟨(some 52), .pad 0 (.tmp 9), none⟩,
               ⟨none, .st 1 (.tmp 52) (.tmp 51), none⟩])
            (.seq (.reg [⟨(some 11), .mv (.const (.int .i64 1000000000)), none⟩])
            (.seq (.reg [⟨(some 53), .mv (.tmp 1), none⟩])
            (.cond (.tmp 53)
             (.reg [⟨(some 54), .mv (.tmp 8), none⟩,
                ⟨(some 55), .bin .quo (.tmp 54) (.const (.int .i64 1000)), none⟩,
                ⟨(some 56), .bin .add (.tmp 55) (.const (.int .i64 1)), none⟩,
                ⟨(some 57), .pad 0 (.tmp 9), none⟩,
                ⟨none, .st 1 (.tmp 57) (.tmp 56), none⟩])
             .skip))))
           (.seq (.reg [⟨(some 28), .mv (.tmp 12), none⟩,
               ⟨(some 29), .bin .sub (.tmp 28) (.const (.int .i64 5)), none⟩,
               ⟨(some 30), .mv (.tmp 12), none⟩,
               ⟨(some 31), .bin .sub (.tmp 30) (.const (.int .i64 5)), none⟩,
               ⟨(some 32), .bld [(.int .i64 0), (.int .i64 0)] [(0, 1, (.tmp 29)), (1, 1, (.tmp 31))], none⟩,
               ⟨none, .st 2 (.tmp 9) (.tmp 32), none⟩])
            (.seq (.reg [⟨(some 33), .bld [(.int .i64 0), (.int .i64 0)] [(0, 1, (.const (.int .i64 5))), (1, 1, (.const (.int .i64 5)))], none⟩,
               ⟨none, .st 2 (.tmp 10) (.tmp 33), none⟩])
            (.reg [⟨(some 2), .mv (.const (.int .i64 0)), none⟩])))))))))))))
  (.seq (.reg [⟨(some 59), .ld (some 2) (.tmp 9), none⟩,
     ⟨(some 60), .ld (some 2) (.tmp 10), none⟩,
     ⟨(some 61), .mv (.tmp 11), none⟩,
     ⟨(some 62), .mv (.tmp 2), none⟩,
     ⟨(some 63), .call 51 [(.tmp 59), (.tmp 60), (.tmp 61), (.tmp 62)], none⟩,
     ⟨(some 58), .mv (.tmp 63), none⟩,
     ⟨(some 64), .xt 0 (.tmp 58), none⟩,
     ⟨(some 65), .xt 1 (.tmp 58), none⟩,
     ⟨(some 13), .new [(.int .i64 0), (.int .i64 0)], none⟩,
     ⟨none, .st 2 (.tmp 13) (.tmp 64), none⟩,
     ⟨(some 14), .mv (.tmp 65), none⟩])
  (.seq (.reg [⟨(some 66), .mv (.tmp 7), none⟩,
     ⟨(some 67), .mv (.tmp 66), none⟩,
     ⟨(some 68), .mv (.tmp 14), (some (67, true))⟩,
     ⟨(some 69), .mv (.tmp 1), (some (67, true))⟩,
     ⟨(some 70), .un .not (.tmp 69), (some (67, true))⟩,
     ⟨(some 71), .beq false (.tmp 68) (.tmp 70), (some (67, true))⟩,
     ⟨(some 72), .pk (.tmp 67) (.tmp 71) (.const (.bool false)), none⟩,
     ⟨(some 73), .mv (.tmp 72), none⟩,
     ⟨(some 74), .mv (.tmp 14), (some (73, true))⟩,
     ⟨(some 75), .mv (.tmp 74), (some (73, true))⟩,
     ⟨(some 76), .ld (some 2) (.tmp 13), (some (75, false))⟩,
     ⟨(some 77), .bld [(.int .i64 0), (.int .i64 0)] [], (some (75, false))⟩,
     ⟨(some 78), .call 26 [(.tmp 76), (.tmp 77)], (some (75, false))⟩,
     ⟨(some 79), .pk (.tmp 75) (.const (.bool true)) (.tmp 78), (some (73, true))⟩,
     ⟨(some 80), .pk (.tmp 73) (.tmp 79) (.const (.bool false)), none⟩,
     ⟨(some 6), .mv (.tmp 80), none⟩])
  .ret))))))))))))
def glyphiclaw13_TurnFar.f (k : Nat) (which0 : Int) (over1 : Bool) (n2 : Int) : Option (Bool) := (glyphiclaw13_first.f k).bind fun t105 => (if t105 = true then ((if over1 = true then (some (true, 1000000000000001)) else (some (true, 1000000000000000)) : Option (Bool × Int)).bind fun (x113, x114) => ((if (Int.tmod (wr64 ((Int.tmod which0 5) + 5)) 5) = 0 then (some (n2, 1000000, 0, 0, x114, (-1))) else (if (Int.tmod (wr64 ((Int.tmod which0 5) + 5)) 5) = 1 then (some (n2, 1000000, 0, 0, 1, wr64 (0 - x114))) else (if (Int.tmod (wr64 ((Int.tmod which0 5) + 5)) 5) = 2 then (some (n2, 1000000, x114, 0, 0, 0)) else (if (Int.tmod (wr64 ((Int.tmod which0 5) + 5)) 5) = 3 then (if over1 = true then (some (n2, 1000000000, 0, 0, 1000000000001, (-1))) else (some (n2, 1000000000, 0, 0, wr64 (Int.tdiv x114 1000), (-1)))) else (some (0, 1000000, 5, 5, wr64 (x114 - 5), wr64 (x114 - 5)))))) : Option (Int × Int × Int × Int × Int × Int)).bind fun (x123, x124, x125, x126, x127, x128) => ((turn_Apply.f k x127 x128 x125 x126 x124 x123).bind fun (t129, t130, t131) => (if t131 = true then (if x113 = true then (if true = (!over1) then (some true) else (some false)) else (some false)) else (if x113 = true then (if false = (!over1) then ((glyphicref_SamePoint.f t129 t130 0 0).bind fun t143 => (some t143)) else (some false)) else (some false)))))) else (some false))
theorem glyphiclaw13_TurnFar.ok {S : Seal} {k : Nat} {which0 : Int} {over1 : Bool} {n2 : Int}  (e : glyphiclaw13_TurnFar.f k which0 over1 n2 = some true) :
    Cal Try.prog 16 [.int .i64 which0, .bool over1, .int .i64 n2] [] S fun v H' S' => v = .bool true ∧ H' = [] ∧ S' = S := by
  unfold glyphiclaw13_TurnFar.f at e
  refine cal_of (c := c16) (N := 81) Try.func16 rfl rfl (by kernel_rfl) (rs := [.t 6]) (by kernel_rfl) (Nat.le_of_ble_eq_true rfl) ?_
  unfold c16
  refine w_seq ?_
  refine w_reg fun all => ?_
  refine t_qz 1 [0, 1, 2] (σ' := [(0, .int .i64 which0), (1, .bool over1), (2, .int .i64 n2)]) (by kernel_rfl) ?_
  refine t_end ?_
  show W _ _ _ _ _ _ _
  refine w_seq ?_
  refine w_reg fun all => ?_
  obtain ⟨t105, h106, e⟩ := bind_of e
  cases t105 with
  | true =>
    rw [if_pos rfl] at e
    refine t_v (.call (vs := []) rfl rfl (by kernel_rfl) (glyphiclaw13_first.ok h106)) ?_
    refine t_qz 1 [0, 1, 2, 7] (σ' := [(0, .int .i64 which0), (1, .bool over1), (2, .int .i64 n2), (7, .bool true)]) (by kernel_rfl) ?_
    refine t_end ?_
    show W _ _ _ _ _ _ _
    refine w_seq ?_
    refine w_seq ?_
    refine w_reg fun all => ?_
    refine t_qz 2 [0, 1, 2, 7, 17] (σ' := [(0, .int .i64 which0), (1, .bool over1), (2, .int .i64 n2), (7, .bool true), (17, .bool false)]) (by kernel_rfl) ?_
    refine t_end ?_
    show W _ _ _ _ _ _ _
    refine w_cond rfl (fun c_ => by cases c_) (fun _ => ?_)
    show W _ _ _ _ _ _ _
    refine w_skip ?_
    show W _ _ _ _ _ _ _
    refine w_seq ?_
    refine w_reg fun all => ?_
    refine t_qz 1 [0, 1, 2, 7, 8] (σ' := [(0, .int .i64 which0), (1, .bool over1), (2, .int .i64 n2), (7, .bool true), (8, .int .i64 1000000000000000)]) (by kernel_rfl) ?_
    refine t_end ?_
    show W _ _ _ _ _ _ _
    refine w_seq ?_
    refine w_reg fun all => ?_
    refine t_qz 1 [0, 1, 2, 7, 8, 18] (σ' := [(0, .int .i64 which0), (1, .bool over1), (2, .int .i64 n2), (7, .bool true), (8, .int .i64 1000000000000000), (18, .agg #[.int .i64 1, .int .i64 (-1)])]) (by kernel_rfl) ?_
    refine t_a (.new rfl rfl) fun b107 fb107 sb107 => ?_
    refine t_sti 0 (cs := [.int .i64 1, .int .i64 (-1)]) rfl rfl rfl rfl rfl rfl rfl rfl rfl ?_
    refine t_keep [0, 1, 2, 7, 8, 9] (σ' := [(0, .int .i64 which0), (1, .bool over1), (2, .int .i64 n2), (7, .bool true), (8, .int .i64 1000000000000000), (9, .pointer (some ⟨b107, 0, none⟩))]) (by kernel_rfl) ?_
    refine t_end ?_
    show W _ _ _ _ _ _ _
    refine w_seq ?_
    refine w_reg fun all => ?_
    refine t_qz 1 [0, 1, 2, 7, 8, 9, 19] (σ' := [(0, .int .i64 which0), (1, .bool over1), (2, .int .i64 n2), (7, .bool true), (8, .int .i64 1000000000000000), (9, .pointer (some ⟨b107, 0, none⟩)), (19, .agg #[.int .i64 0, .int .i64 0])]) (by kernel_rfl) ?_
    refine t_a (.new rfl rfl) fun b108 fb108 sb108 => ?_
    refine t_sti 0 (cs := [.int .i64 0, .int .i64 0]) rfl rfl rfl rfl rfl rfl rfl rfl rfl ?_
    refine t_keep [0, 1, 2, 7, 8, 9, 10] (σ' := [(0, .int .i64 which0), (1, .bool over1), (2, .int .i64 n2), (7, .bool true), (8, .int .i64 1000000000000000), (9, .pointer (some ⟨b107, 0, none⟩)), (10, .pointer (some ⟨b108, 0, none⟩))]) (by kernel_rfl) ?_
    refine t_end ?_
    show W _ _ _ _ _ _ _
    refine w_seq ?_
    refine w_reg fun all => ?_
    refine t_qz 1 [0, 1, 2, 7, 8, 9, 10, 11] (σ' := [(0, .int .i64 which0), (1, .bool over1), (2, .int .i64 n2), (7, .bool true), (8, .int .i64 1000000000000000), (9, .pointer (some ⟨b107, 0, none⟩)), (10, .pointer (some ⟨b108, 0, none⟩)), (11, .int .i64 1000000)]) (by kernel_rfl) ?_
    refine t_end ?_
    show W _ _ _ _ _ _ _
    refine w_seq ?_
    refine w_reg fun all => ?_
    refine t_qz 2 [0, 1, 2, 7, 8, 9, 10, 11, 12] (σ' := [(0, .int .i64 which0), (1, .bool over1), (2, .int .i64 n2), (7, .bool true), (8, .int .i64 1000000000000000), (9, .pointer (some ⟨b107, 0, none⟩)), (10, .pointer (some ⟨b108, 0, none⟩)), (11, .int .i64 1000000), (12, .int .i64 1000000000000000)]) (by kernel_rfl) ?_
    refine t_end ?_
    show W _ _ _ _ _ _ _
    obtain ⟨⟨x113, x114⟩, e110, e⟩ := bind_of e
    try dsimp only at e
    refine w_cut [0, 1, 2, 7, 8, 9, 10, 11, 12] (fun σ_ H_ S_ => [(0, .int .i64 which0), (1, .bool over1), (2, .int .i64 n2), (7, .bool x113), (8, .int .i64 1000000000000000), (9, .pointer (some ⟨b107, 0, none⟩)), (10, .pointer (some ⟨b108, 0, none⟩)), (11, .int .i64 1000000), (12, .int .i64 x114)] = σ_ ∧ ([⟨b108, [.int .i64 0, .int .i64 0], 2⟩, ⟨b107, [.int .i64 1, .int .i64 (-1)], 2⟩] : List Own) = H_ ∧ S = S_) ?_ ?_
    · show W _ _ _ _ _ _ _
      refine w_seq ?_
      refine w_reg fun all => ?_
      by_cases c112 : over1 = true
      · rw [if_pos c112] at e110
        have c112b : over1 = true := c112
        refine t_v (dv_quiet rfl (congrArg (fun t => some (Value.bool t)) c112b)) ?_
        refine t_keep [0, 1, 2, 7, 8, 9, 10, 11, 12, 21] (σ' := [(0, .int .i64 which0), (1, .bool over1), (2, .int .i64 n2), (7, .bool true), (8, .int .i64 1000000000000000), (9, .pointer (some ⟨b107, 0, none⟩)), (10, .pointer (some ⟨b108, 0, none⟩)), (11, .int .i64 1000000), (12, .int .i64 1000000000000000), (21, .bool true)]) (by kernel_rfl) ?_
        refine t_end ?_
        show W _ _ _ _ _ _ _
        refine w_cond rfl (fun _ => ?_) (fun c_ => by cases c_)
        show W _ _ _ _ _ _ _
        refine w_reg fun all => ?_
        refine t_qz 3 [0, 1, 2, 7, 8, 9, 10, 11, 12] (σ' := [(0, .int .i64 which0), (1, .bool over1), (2, .int .i64 n2), (7, .bool true), (8, .int .i64 1000000000000000), (9, .pointer (some ⟨b107, 0, none⟩)), (10, .pointer (some ⟨b108, 0, none⟩)), (11, .int .i64 1000000), (12, .int .i64 1000000000000001)]) (by kernel_rfl) ?_
        refine t_end ?_
        simp only [Option.some.injEq, Prod.mk.injEq] at e110
        obtain ⟨rfl, rfl⟩ := e110
        exact ⟨([⟨b108, [.int .i64 0, .int .i64 0], 2⟩, ⟨b107, [.int .i64 1, .int .i64 (-1)], 2⟩] : List Own), S, VS.sel [0, 0] (by kernel_rfl), by kernel_rfl, rfl, rfl⟩
      · rw [if_neg c112] at e110
        have c112b : over1 = false := Bool.eq_false_iff.mpr c112
        refine t_v (dv_quiet rfl (congrArg (fun t => some (Value.bool t)) c112b)) ?_
        refine t_keep [0, 1, 2, 7, 8, 9, 10, 11, 12, 21] (σ' := [(0, .int .i64 which0), (1, .bool over1), (2, .int .i64 n2), (7, .bool true), (8, .int .i64 1000000000000000), (9, .pointer (some ⟨b107, 0, none⟩)), (10, .pointer (some ⟨b108, 0, none⟩)), (11, .int .i64 1000000), (12, .int .i64 1000000000000000), (21, .bool false)]) (by kernel_rfl) ?_
        refine t_end ?_
        show W _ _ _ _ _ _ _
        refine w_cond rfl (fun c_ => by cases c_) (fun _ => ?_)
        show W _ _ _ _ _ _ _
        refine w_skip ?_
        simp only [Option.some.injEq, Prod.mk.injEq] at e110
        obtain ⟨rfl, rfl⟩ := e110
        exact ⟨([⟨b108, [.int .i64 0, .int .i64 0], 2⟩, ⟨b107, [.int .i64 1, .int .i64 (-1)], 2⟩] : List Own), S, VS.sel [0, 0] (by kernel_rfl), by kernel_rfl, rfl, rfl⟩
    · rintro σ_ H_ S_ ⟨rfl, rfl, rfl⟩
      obtain ⟨⟨x123, x124, x125, x126, x127, x128⟩, e116, e⟩ := bind_of e
      try dsimp only at e
      refine w_cut [1, 2, 7, 9, 10, 11] (fun σ_ H_ S_ => [(1, .bool over1), (2, .int .i64 x123), (7, .bool x113), (9, .pointer (some ⟨b107, 0, none⟩)), (10, .pointer (some ⟨b108, 0, none⟩)), (11, .int .i64 x124)] = σ_ ∧ ([⟨b108, [.int .i64 x125, .int .i64 x126], 2⟩, ⟨b107, [.int .i64 x127, .int .i64 x128], 2⟩] : List Own) = H_ ∧ S = S_) ?_ ?_
      · show W _ _ _ _ _ _ _
        refine w_seq ?_
        refine w_reg fun all => ?_
        refine t_qz 4 [1, 2, 7, 8, 9, 10, 11, 12, 27] (σ' := [(1, .bool over1), (2, .int .i64 n2), (7, .bool x113), (8, .int .i64 1000000000000000), (9, .pointer (some ⟨b107, 0, none⟩)), (10, .pointer (some ⟨b108, 0, none⟩)), (11, .int .i64 1000000), (12, .int .i64 x114), (27, .int .i64 (Int.tmod (wr64 ((Int.tmod which0 5) + 5)) 5))]) (by kernel_rfl) ?_
        refine t_end ?_
        show W _ _ _ _ _ _ _
        refine w_block ?_
        refine w_seq ?_
        refine w_reg fun all => ?_
        by_cases c118 : (Int.tmod (wr64 ((Int.tmod which0 5) + 5)) 5) = 0
        · rw [if_pos c118] at e116
          have c118b : ((Int.tmod (wr64 ((Int.tmod which0 5) + 5)) 5) == 0) = true := beq_iff_eq.mpr c118
          refine t_v (dv_quiet rfl (congrArg (fun t => some (Value.bool t)) c118b)) ?_
          refine t_qz 1 [1, 2, 7, 8, 9, 10, 11, 12, 27, 34] (σ' := [(1, .bool over1), (2, .int .i64 n2), (7, .bool x113), (8, .int .i64 1000000000000000), (9, .pointer (some ⟨b107, 0, none⟩)), (10, .pointer (some ⟨b108, 0, none⟩)), (11, .int .i64 1000000), (12, .int .i64 x114), (27, .int .i64 (Int.tmod (wr64 ((Int.tmod which0 5) + 5)) 5)), (34, .bool true)]) (by kernel_rfl) ?_
          refine t_end ?_
          show W _ _ _ _ _ _ _
          refine w_cond rfl (fun _ => ?_) (fun c_ => by cases c_)
          show W _ _ _ _ _ _ _
          refine w_reg fun all => ?_
          refine t_qz 2 [1, 2, 7, 9, 10, 11, 36, 37] (σ' := [(1, .bool over1), (2, .int .i64 n2), (7, .bool x113), (9, .pointer (some ⟨b107, 0, none⟩)), (10, .pointer (some ⟨b108, 0, none⟩)), (11, .int .i64 1000000), (36, .int .i64 x114), (37, .pointer (some ⟨b107, 0, none⟩))]) (by kernel_rfl) ?_
          refine t_sti 1 (cs := [.int .i64 x114, .int .i64 (-1)]) rfl rfl rfl rfl rfl rfl rfl rfl rfl ?_
          refine t_keep [1, 2, 7, 9, 10, 11] (σ' := [(1, .bool over1), (2, .int .i64 n2), (7, .bool x113), (9, .pointer (some ⟨b107, 0, none⟩)), (10, .pointer (some ⟨b108, 0, none⟩)), (11, .int .i64 1000000)]) (by kernel_rfl) ?_
          refine t_end ?_
          simp only [Option.some.injEq, Prod.mk.injEq] at e116
          obtain ⟨rfl, rfl, rfl, rfl, rfl, rfl⟩ := e116
          exact ⟨([⟨b108, [.int .i64 0, .int .i64 0], 2⟩, ⟨b107, [.int .i64 x114, .int .i64 (-1)], 2⟩] : List Own), S, VS.sel [0, 0] (by kernel_rfl), by kernel_rfl, rfl, rfl⟩
        · rw [if_neg c118] at e116
          have c118b : ((Int.tmod (wr64 ((Int.tmod which0 5) + 5)) 5) == 0) = false := beq_eq_false_iff_ne.mpr c118
          refine t_v (dv_quiet rfl (congrArg (fun t => some (Value.bool t)) c118b)) ?_
          refine t_qz 1 [1, 2, 7, 8, 9, 10, 11, 12, 27, 34] (σ' := [(1, .bool over1), (2, .int .i64 n2), (7, .bool x113), (8, .int .i64 1000000000000000), (9, .pointer (some ⟨b107, 0, none⟩)), (10, .pointer (some ⟨b108, 0, none⟩)), (11, .int .i64 1000000), (12, .int .i64 x114), (27, .int .i64 (Int.tmod (wr64 ((Int.tmod which0 5) + 5)) 5)), (34, .bool false)]) (by kernel_rfl) ?_
          refine t_end ?_
          show W _ _ _ _ _ _ _
          refine w_cond rfl (fun c_ => by cases c_) (fun _ => ?_)
          show W _ _ _ _ _ _ _
          refine w_seq ?_
          refine w_reg fun all => ?_
          by_cases c119 : (Int.tmod (wr64 ((Int.tmod which0 5) + 5)) 5) = 1
          · rw [if_pos c119] at e116
            have c119b : ((Int.tmod (wr64 ((Int.tmod which0 5) + 5)) 5) == 1) = true := beq_iff_eq.mpr c119
            refine t_v (dv_quiet rfl (congrArg (fun t => some (Value.bool t)) c119b)) ?_
            refine t_qz 1 [1, 2, 7, 8, 9, 10, 11, 12, 27, 38] (σ' := [(1, .bool over1), (2, .int .i64 n2), (7, .bool x113), (8, .int .i64 1000000000000000), (9, .pointer (some ⟨b107, 0, none⟩)), (10, .pointer (some ⟨b108, 0, none⟩)), (11, .int .i64 1000000), (12, .int .i64 x114), (27, .int .i64 (Int.tmod (wr64 ((Int.tmod which0 5) + 5)) 5)), (38, .bool true)]) (by kernel_rfl) ?_
            refine t_end ?_
            show W _ _ _ _ _ _ _
            refine w_cond rfl (fun _ => ?_) (fun c_ => by cases c_)
            show W _ _ _ _ _ _ _
            refine w_reg fun all => ?_
            refine t_qz 3 [1, 2, 7, 9, 10, 11, 41, 42] (σ' := [(1, .bool over1), (2, .int .i64 n2), (7, .bool x113), (9, .pointer (some ⟨b107, 0, none⟩)), (10, .pointer (some ⟨b108, 0, none⟩)), (11, .int .i64 1000000), (41, .int .i64 (wr64 (0 - x114))), (42, .pointer (some ⟨b107, 1, none⟩))]) (by kernel_rfl) ?_
            refine t_sti 1 (cs := [.int .i64 1, .int .i64 (wr64 (0 - x114))]) rfl rfl rfl rfl rfl rfl rfl rfl rfl ?_
            refine t_keep [1, 2, 7, 9, 10, 11] (σ' := [(1, .bool over1), (2, .int .i64 n2), (7, .bool x113), (9, .pointer (some ⟨b107, 0, none⟩)), (10, .pointer (some ⟨b108, 0, none⟩)), (11, .int .i64 1000000)]) (by kernel_rfl) ?_
            refine t_end ?_
            simp only [Option.some.injEq, Prod.mk.injEq] at e116
            obtain ⟨rfl, rfl, rfl, rfl, rfl, rfl⟩ := e116
            exact ⟨([⟨b108, [.int .i64 0, .int .i64 0], 2⟩, ⟨b107, [.int .i64 1, .int .i64 (wr64 (0 - x114))], 2⟩] : List Own), S, VS.sel [0, 0] (by kernel_rfl), by kernel_rfl, rfl, rfl⟩
          · rw [if_neg c119] at e116
            have c119b : ((Int.tmod (wr64 ((Int.tmod which0 5) + 5)) 5) == 1) = false := beq_eq_false_iff_ne.mpr c119
            refine t_v (dv_quiet rfl (congrArg (fun t => some (Value.bool t)) c119b)) ?_
            refine t_qz 1 [1, 2, 7, 8, 9, 10, 11, 12, 27, 38] (σ' := [(1, .bool over1), (2, .int .i64 n2), (7, .bool x113), (8, .int .i64 1000000000000000), (9, .pointer (some ⟨b107, 0, none⟩)), (10, .pointer (some ⟨b108, 0, none⟩)), (11, .int .i64 1000000), (12, .int .i64 x114), (27, .int .i64 (Int.tmod (wr64 ((Int.tmod which0 5) + 5)) 5)), (38, .bool false)]) (by kernel_rfl) ?_
            refine t_end ?_
            show W _ _ _ _ _ _ _
            refine w_cond rfl (fun c_ => by cases c_) (fun _ => ?_)
            show W _ _ _ _ _ _ _
            refine w_seq ?_
            refine w_reg fun all => ?_
            by_cases c120 : (Int.tmod (wr64 ((Int.tmod which0 5) + 5)) 5) = 2
            · rw [if_pos c120] at e116
              have c120b : ((Int.tmod (wr64 ((Int.tmod which0 5) + 5)) 5) == 2) = true := beq_iff_eq.mpr c120
              refine t_v (dv_quiet rfl (congrArg (fun t => some (Value.bool t)) c120b)) ?_
              refine t_qz 1 [1, 2, 7, 8, 9, 10, 11, 12, 27, 43] (σ' := [(1, .bool over1), (2, .int .i64 n2), (7, .bool x113), (8, .int .i64 1000000000000000), (9, .pointer (some ⟨b107, 0, none⟩)), (10, .pointer (some ⟨b108, 0, none⟩)), (11, .int .i64 1000000), (12, .int .i64 x114), (27, .int .i64 (Int.tmod (wr64 ((Int.tmod which0 5) + 5)) 5)), (43, .bool true)]) (by kernel_rfl) ?_
              refine t_end ?_
              show W _ _ _ _ _ _ _
              refine w_cond rfl (fun _ => ?_) (fun c_ => by cases c_)
              show W _ _ _ _ _ _ _
              refine w_seq ?_
              refine w_reg fun all => ?_
              refine t_qz 2 [1, 2, 7, 9, 10, 11, 45, 46] (σ' := [(1, .bool over1), (2, .int .i64 n2), (7, .bool x113), (9, .pointer (some ⟨b107, 0, none⟩)), (10, .pointer (some ⟨b108, 0, none⟩)), (11, .int .i64 1000000), (45, .int .i64 x114), (46, .pointer (some ⟨b108, 0, none⟩))]) (by kernel_rfl) ?_
              refine t_sti 0 (cs := [.int .i64 x114, .int .i64 0]) rfl rfl rfl rfl rfl rfl rfl rfl rfl ?_
              refine t_keep [1, 2, 7, 9, 10, 11] (σ' := [(1, .bool over1), (2, .int .i64 n2), (7, .bool x113), (9, .pointer (some ⟨b107, 0, none⟩)), (10, .pointer (some ⟨b108, 0, none⟩)), (11, .int .i64 1000000)]) (by kernel_rfl) ?_
              refine t_end ?_
              show W _ _ _ _ _ _ _
              refine w_reg fun all => ?_
              refine t_qz 1 [1, 2, 7, 9, 10, 11, 47] (σ' := [(1, .bool over1), (2, .int .i64 n2), (7, .bool x113), (9, .pointer (some ⟨b107, 0, none⟩)), (10, .pointer (some ⟨b108, 0, none⟩)), (11, .int .i64 1000000), (47, .agg #[.int .i64 0, .int .i64 0])]) (by kernel_rfl) ?_
              refine t_sti 1 (cs := [.int .i64 0, .int .i64 0]) rfl rfl rfl rfl rfl rfl rfl rfl rfl ?_
              refine t_keep [1, 2, 7, 9, 10, 11] (σ' := [(1, .bool over1), (2, .int .i64 n2), (7, .bool x113), (9, .pointer (some ⟨b107, 0, none⟩)), (10, .pointer (some ⟨b108, 0, none⟩)), (11, .int .i64 1000000)]) (by kernel_rfl) ?_
              refine t_end ?_
              simp only [Option.some.injEq, Prod.mk.injEq] at e116
              obtain ⟨rfl, rfl, rfl, rfl, rfl, rfl⟩ := e116
              exact ⟨([⟨b108, [.int .i64 x114, .int .i64 0], 2⟩, ⟨b107, [.int .i64 0, .int .i64 0], 2⟩] : List Own), S, VS.sel [0, 0] (by kernel_rfl), by kernel_rfl, rfl, rfl⟩
            · rw [if_neg c120] at e116
              have c120b : ((Int.tmod (wr64 ((Int.tmod which0 5) + 5)) 5) == 2) = false := beq_eq_false_iff_ne.mpr c120
              refine t_v (dv_quiet rfl (congrArg (fun t => some (Value.bool t)) c120b)) ?_
              refine t_qz 1 [1, 2, 7, 8, 9, 10, 11, 12, 27, 43] (σ' := [(1, .bool over1), (2, .int .i64 n2), (7, .bool x113), (8, .int .i64 1000000000000000), (9, .pointer (some ⟨b107, 0, none⟩)), (10, .pointer (some ⟨b108, 0, none⟩)), (11, .int .i64 1000000), (12, .int .i64 x114), (27, .int .i64 (Int.tmod (wr64 ((Int.tmod which0 5) + 5)) 5)), (43, .bool false)]) (by kernel_rfl) ?_
              refine t_end ?_
              show W _ _ _ _ _ _ _
              refine w_cond rfl (fun c_ => by cases c_) (fun _ => ?_)
              show W _ _ _ _ _ _ _
              refine w_seq ?_
              refine w_reg fun all => ?_
              by_cases c121 : (Int.tmod (wr64 ((Int.tmod which0 5) + 5)) 5) = 3
              · rw [if_pos c121] at e116
                have c121b : ((Int.tmod (wr64 ((Int.tmod which0 5) + 5)) 5) == 3) = true := beq_iff_eq.mpr c121
                refine t_v (dv_quiet rfl (congrArg (fun t => some (Value.bool t)) c121b)) ?_
                refine t_qz 1 [1, 2, 7, 8, 9, 10, 11, 12, 48] (σ' := [(1, .bool over1), (2, .int .i64 n2), (7, .bool x113), (8, .int .i64 1000000000000000), (9, .pointer (some ⟨b107, 0, none⟩)), (10, .pointer (some ⟨b108, 0, none⟩)), (11, .int .i64 1000000), (12, .int .i64 x114), (48, .bool true)]) (by kernel_rfl) ?_
                refine t_end ?_
                show W _ _ _ _ _ _ _
                refine w_cond rfl (fun _ => ?_) (fun c_ => by cases c_)
                show W _ _ _ _ _ _ _
                refine w_seq ?_
                refine w_reg fun all => ?_
                refine t_qz 3 [1, 2, 7, 8, 9, 10, 51, 52] (σ' := [(1, .bool over1), (2, .int .i64 n2), (7, .bool x113), (8, .int .i64 1000000000000000), (9, .pointer (some ⟨b107, 0, none⟩)), (10, .pointer (some ⟨b108, 0, none⟩)), (51, .int .i64 (wr64 (Int.tdiv x114 1000))), (52, .pointer (some ⟨b107, 0, none⟩))]) (by kernel_rfl) ?_
                refine t_sti 1 (cs := [.int .i64 (wr64 (Int.tdiv x114 1000)), .int .i64 (-1)]) rfl rfl rfl rfl rfl rfl rfl rfl rfl ?_
                refine t_keep [1, 2, 7, 8, 9, 10] (σ' := [(1, .bool over1), (2, .int .i64 n2), (7, .bool x113), (8, .int .i64 1000000000000000), (9, .pointer (some ⟨b107, 0, none⟩)), (10, .pointer (some ⟨b108, 0, none⟩))]) (by kernel_rfl) ?_
                refine t_end ?_
                show W _ _ _ _ _ _ _
                refine w_seq ?_
                refine w_reg fun all => ?_
                refine t_qz 1 [1, 2, 7, 8, 9, 10, 11] (σ' := [(1, .bool over1), (2, .int .i64 n2), (7, .bool x113), (8, .int .i64 1000000000000000), (9, .pointer (some ⟨b107, 0, none⟩)), (10, .pointer (some ⟨b108, 0, none⟩)), (11, .int .i64 1000000000)]) (by kernel_rfl) ?_
                refine t_end ?_
                show W _ _ _ _ _ _ _
                refine w_seq ?_
                refine w_reg fun all => ?_
                by_cases c122 : over1 = true
                · rw [if_pos c122] at e116
                  have c122b : over1 = true := c122
                  refine t_v (dv_quiet rfl (congrArg (fun t => some (Value.bool t)) c122b)) ?_
                  refine t_keep [1, 2, 7, 8, 9, 10, 11, 53] (σ' := [(1, .bool over1), (2, .int .i64 n2), (7, .bool x113), (8, .int .i64 1000000000000000), (9, .pointer (some ⟨b107, 0, none⟩)), (10, .pointer (some ⟨b108, 0, none⟩)), (11, .int .i64 1000000000), (53, .bool true)]) (by kernel_rfl) ?_
                  refine t_end ?_
                  show W _ _ _ _ _ _ _
                  refine w_cond rfl (fun _ => ?_) (fun c_ => by cases c_)
                  show W _ _ _ _ _ _ _
                  refine w_reg fun all => ?_
                  refine t_qz 4 [1, 2, 7, 9, 10, 11, 56, 57] (σ' := [(1, .bool over1), (2, .int .i64 n2), (7, .bool x113), (9, .pointer (some ⟨b107, 0, none⟩)), (10, .pointer (some ⟨b108, 0, none⟩)), (11, .int .i64 1000000000), (56, .int .i64 1000000000001), (57, .pointer (some ⟨b107, 0, none⟩))]) (by kernel_rfl) ?_
                  refine t_sti 1 (cs := [.int .i64 1000000000001, .int .i64 (-1)]) rfl rfl rfl rfl rfl rfl rfl rfl rfl ?_
                  refine t_keep [1, 2, 7, 9, 10, 11] (σ' := [(1, .bool over1), (2, .int .i64 n2), (7, .bool x113), (9, .pointer (some ⟨b107, 0, none⟩)), (10, .pointer (some ⟨b108, 0, none⟩)), (11, .int .i64 1000000000)]) (by kernel_rfl) ?_
                  refine t_end ?_
                  simp only [Option.some.injEq, Prod.mk.injEq] at e116
                  obtain ⟨rfl, rfl, rfl, rfl, rfl, rfl⟩ := e116
                  exact ⟨([⟨b108, [.int .i64 0, .int .i64 0], 2⟩, ⟨b107, [.int .i64 1000000000001, .int .i64 (-1)], 2⟩] : List Own), S, VS.sel [0, 0] (by kernel_rfl), by kernel_rfl, rfl, rfl⟩
                · rw [if_neg c122] at e116
                  have c122b : over1 = false := Bool.eq_false_iff.mpr c122
                  refine t_v (dv_quiet rfl (congrArg (fun t => some (Value.bool t)) c122b)) ?_
                  refine t_keep [1, 2, 7, 8, 9, 10, 11, 53] (σ' := [(1, .bool over1), (2, .int .i64 n2), (7, .bool x113), (8, .int .i64 1000000000000000), (9, .pointer (some ⟨b107, 0, none⟩)), (10, .pointer (some ⟨b108, 0, none⟩)), (11, .int .i64 1000000000), (53, .bool false)]) (by kernel_rfl) ?_
                  refine t_end ?_
                  show W _ _ _ _ _ _ _
                  refine w_cond rfl (fun c_ => by cases c_) (fun _ => ?_)
                  show W _ _ _ _ _ _ _
                  refine w_skip ?_
                  simp only [Option.some.injEq, Prod.mk.injEq] at e116
                  obtain ⟨rfl, rfl, rfl, rfl, rfl, rfl⟩ := e116
                  exact ⟨([⟨b108, [.int .i64 0, .int .i64 0], 2⟩, ⟨b107, [.int .i64 (wr64 (Int.tdiv x114 1000)), .int .i64 (-1)], 2⟩] : List Own), S, VS.sel [0, 0] (by kernel_rfl), by kernel_rfl, rfl, rfl⟩
              · rw [if_neg c121] at e116
                have c121b : ((Int.tmod (wr64 ((Int.tmod which0 5) + 5)) 5) == 3) = false := beq_eq_false_iff_ne.mpr c121
                refine t_v (dv_quiet rfl (congrArg (fun t => some (Value.bool t)) c121b)) ?_
                refine t_qz 1 [1, 2, 7, 8, 9, 10, 11, 12, 48] (σ' := [(1, .bool over1), (2, .int .i64 n2), (7, .bool x113), (8, .int .i64 1000000000000000), (9, .pointer (some ⟨b107, 0, none⟩)), (10, .pointer (some ⟨b108, 0, none⟩)), (11, .int .i64 1000000), (12, .int .i64 x114), (48, .bool false)]) (by kernel_rfl) ?_
                refine t_end ?_
                show W _ _ _ _ _ _ _
                refine w_cond rfl (fun c_ => by cases c_) (fun _ => ?_)
                show W _ _ _ _ _ _ _
                refine w_seq ?_
                refine w_reg fun all => ?_
                refine t_qz 5 [1, 7, 9, 10, 11, 32] (σ' := [(1, .bool over1), (7, .bool x113), (9, .pointer (some ⟨b107, 0, none⟩)), (10, .pointer (some ⟨b108, 0, none⟩)), (11, .int .i64 1000000), (32, .agg #[.int .i64 (wr64 (x114 - 5)), .int .i64 (wr64 (x114 - 5))])]) (by kernel_rfl) ?_
                refine t_sti 1 (cs := [.int .i64 (wr64 (x114 - 5)), .int .i64 (wr64 (x114 - 5))]) rfl rfl rfl rfl rfl rfl rfl rfl rfl ?_
                refine t_keep [1, 7, 9, 10, 11] (σ' := [(1, .bool over1), (7, .bool x113), (9, .pointer (some ⟨b107, 0, none⟩)), (10, .pointer (some ⟨b108, 0, none⟩)), (11, .int .i64 1000000)]) (by kernel_rfl) ?_
                refine t_end ?_
                show W _ _ _ _ _ _ _
                refine w_seq ?_
                refine w_reg fun all => ?_
                refine t_qz 1 [1, 7, 9, 10, 11, 33] (σ' := [(1, .bool over1), (7, .bool x113), (9, .pointer (some ⟨b107, 0, none⟩)), (10, .pointer (some ⟨b108, 0, none⟩)), (11, .int .i64 1000000), (33, .agg #[.int .i64 5, .int .i64 5])]) (by kernel_rfl) ?_
                refine t_sti 0 (cs := [.int .i64 5, .int .i64 5]) rfl rfl rfl rfl rfl rfl rfl rfl rfl ?_
                refine t_keep [1, 7, 9, 10, 11] (σ' := [(1, .bool over1), (7, .bool x113), (9, .pointer (some ⟨b107, 0, none⟩)), (10, .pointer (some ⟨b108, 0, none⟩)), (11, .int .i64 1000000)]) (by kernel_rfl) ?_
                refine t_end ?_
                show W _ _ _ _ _ _ _
                refine w_reg fun all => ?_
                refine t_qz 1 [1, 2, 7, 9, 10, 11] (σ' := [(1, .bool over1), (2, .int .i64 0), (7, .bool x113), (9, .pointer (some ⟨b107, 0, none⟩)), (10, .pointer (some ⟨b108, 0, none⟩)), (11, .int .i64 1000000)]) (by kernel_rfl) ?_
                refine t_end ?_
                simp only [Option.some.injEq, Prod.mk.injEq] at e116
                obtain ⟨rfl, rfl, rfl, rfl, rfl, rfl⟩ := e116
                exact ⟨([⟨b108, [.int .i64 5, .int .i64 5], 2⟩, ⟨b107, [.int .i64 (wr64 (x114 - 5)), .int .i64 (wr64 (x114 - 5))], 2⟩] : List Own), S, VS.sel [0, 0] (by kernel_rfl), by kernel_rfl, rfl, rfl⟩
      · rintro σ_ H_ S_ ⟨rfl, rfl, rfl⟩
        refine w_seq ?_
        refine w_reg fun all => ?_
        refine t_v (.ldn rfl rfl rfl (.at 1 rfl rfl)) ?_
        refine t_v (.ldn rfl rfl rfl (.at 0 rfl rfl)) ?_
        obtain ⟨⟨t129, t130, t131⟩, h132, e⟩ := bind_of e
        try dsimp only at e
        refine t_qz 2 [1, 7, 59, 60, 61, 62] (σ' := [(1, .bool over1), (7, .bool x113), (59, .agg #[.int .i64 x127, .int .i64 x128]), (60, .agg #[.int .i64 x125, .int .i64 x126]), (61, .int .i64 x124), (62, .int .i64 x123)]) (by kernel_rfl) ?_
        refine t_v (.call (vs := [.agg #[.int .i64 x127, .int .i64 x128], .agg #[.int .i64 x125, .int .i64 x126], .int .i64 x124, .int .i64 x123]) rfl rfl (by kernel_rfl) (turn_Apply.ok h132)) ?_
        by_cases c133 : t131 = true
        · rw [if_pos c133] at e
          have c133b : t131 = true := c133
          refine t_qz 2 [1, 7, 58, 64] (σ' := [(1, .bool over1), (7, .bool x113), (58, .tuple #[.agg #[.int .i64 t129, .int .i64 t130], .bool t131]), (64, .agg #[.int .i64 t129, .int .i64 t130])]) (by kernel_rfl) ?_
          refine t_v (dv_quiet rfl (congrArg (fun t => some (Value.bool t)) c133b)) ?_
          refine t_a (.new rfl rfl) fun b134 fb134 sb134 => ?_
          refine t_sti 0 (cs := [.int .i64 t129, .int .i64 t130]) rfl rfl rfl rfl rfl rfl rfl rfl rfl ?_
          refine t_qz 1 [1, 7, 13, 14] (σ' := [(1, .bool over1), (7, .bool x113), (13, .pointer (some ⟨b134, 0, none⟩)), (14, .bool true)]) (by kernel_rfl) ?_
          refine t_end ?_
          show W _ _ _ _ _ _ _
          refine w_seq ?_
          refine w_reg fun all => ?_
          by_cases c135 : x113 = true
          · rw [if_pos c135] at e
            have c135b : x113 = true := c135
            refine t_v (dv_quiet rfl (congrArg (fun t => some (Value.bool t)) c135b)) ?_
            by_cases c136 : true = (!over1)
            · rw [if_pos c136] at e
              have c136b : (true == (!over1)) = true := beq_iff_eq.mpr c136
              refine t_qz 4 [13, 14, 67, 68, 70] (σ' := [(13, .pointer (some ⟨b134, 0, none⟩)), (14, .bool true), (67, .bool true), (68, .bool true), (70, .bool (!over1))]) (by kernel_rfl) ?_
              refine t_v (dv_quiet rfl (congrArg (fun t => some (Value.bool t)) c136b)) ?_
              refine t_qz 10 [6] (σ' := [(6, .bool true)]) (by kernel_rfl) ?_
              refine t_end ?_
              show W _ _ _ _ _ _ _
              refine w_ret ?_
              have hr_ := Option.some.inj e
              exact ⟨[.bool true], [], S, ⟨rfl, trivial⟩, VS.none, congrArg Value.bool hr_, rfl, rfl⟩
            · rw [if_neg c136] at e
              exact absurd (Option.some.inj e) (by decide)
          · rw [if_neg c135] at e
            exact absurd (Option.some.inj e) (by decide)
        · rw [if_neg c133] at e
          have c133b : t131 = false := Bool.eq_false_iff.mpr c133
          refine t_qz 2 [1, 7, 58, 64] (σ' := [(1, .bool over1), (7, .bool x113), (58, .tuple #[.agg #[.int .i64 t129, .int .i64 t130], .bool t131]), (64, .agg #[.int .i64 t129, .int .i64 t130])]) (by kernel_rfl) ?_
          refine t_v (dv_quiet rfl (congrArg (fun t => some (Value.bool t)) c133b)) ?_
          refine t_a (.new rfl rfl) fun b137 fb137 sb137 => ?_
          refine t_sti 0 (cs := [.int .i64 t129, .int .i64 t130]) rfl rfl rfl rfl rfl rfl rfl rfl rfl ?_
          refine t_qz 1 [1, 7, 13, 14] (σ' := [(1, .bool over1), (7, .bool x113), (13, .pointer (some ⟨b137, 0, none⟩)), (14, .bool false)]) (by kernel_rfl) ?_
          refine t_end ?_
          show W _ _ _ _ _ _ _
          refine w_seq ?_
          refine w_reg fun all => ?_
          by_cases c138 : x113 = true
          · rw [if_pos c138] at e
            have c138b : x113 = true := c138
            refine t_v (dv_quiet rfl (congrArg (fun t => some (Value.bool t)) c138b)) ?_
            by_cases c139 : false = (!over1)
            · rw [if_pos c139] at e
              have c139b : (false == (!over1)) = true := beq_iff_eq.mpr c139
              refine t_qz 4 [13, 14, 67, 68, 70] (σ' := [(13, .pointer (some ⟨b137, 0, none⟩)), (14, .bool false), (67, .bool true), (68, .bool false), (70, .bool (!over1))]) (by kernel_rfl) ?_
              refine t_v (dv_quiet rfl (congrArg (fun t => some (Value.bool t)) c139b)) ?_
              refine t_qz 4 [13, 73, 75] (σ' := [(13, .pointer (some ⟨b137, 0, none⟩)), (73, .bool true), (75, .bool false)]) (by kernel_rfl) ?_
              refine t_v (.ldn rfl rfl rfl (.at 0 rfl rfl)) ?_
              obtain ⟨t143, h144, e⟩ := bind_of e
              refine t_qz 1 [73, 75, 76, 77] (σ' := [(73, .bool true), (75, .bool false), (76, .agg #[.int .i64 t129, .int .i64 t130]), (77, .agg #[.int .i64 0, .int .i64 0])]) (by kernel_rfl) ?_
              refine t_v (.call (vs := [.agg #[.int .i64 t129, .int .i64 t130], .agg #[.int .i64 0, .int .i64 0]]) rfl rfl (by kernel_rfl) (glyphicref_SamePoint.ok h144)) ?_
              refine t_qz 3 [6] (σ' := [(6, .bool t143)]) (by kernel_rfl) ?_
              refine t_end ?_
              show W _ _ _ _ _ _ _
              refine w_ret ?_
              have hr_ := Option.some.inj e
              exact ⟨[.bool t143], [], S, ⟨rfl, trivial⟩, VS.none, congrArg Value.bool hr_, rfl, rfl⟩
            · rw [if_neg c139] at e
              exact absurd (Option.some.inj e) (by decide)
          · rw [if_neg c138] at e
            exact absurd (Option.some.inj e) (by decide)
  | false =>
    rw [if_neg (by decide)] at e
    exact absurd (Option.some.inj e) (by decide)

def glyphiclaw13_TurnFar.Pure : Prop := ∀ (which0 : Int) (over1 : Bool) (n2 : Int), (Lit.int .i64 which0).wf = true → (Lit.int .i64 n2).wf = true → ∃ k, glyphiclaw13_TurnFar.f k which0 over1 n2 = some true
theorem glyphiclaw13_TurnFar.walk (P : glyphiclaw13_TurnFar.Pure) (which0 : Int) (over1 : Bool) (n2 : Int) (w : World) (hwhich0 : (Lit.int .i64 which0).wf = true) (hn2 : (Lit.int .i64 n2).wf = true) :
    Calls Try.prog 16 #[.int .i64 which0, .bool over1, .int .i64 n2] w fun e w' => e = .returned (.bool true) ∧ Below w.heap.size w w' := let ⟨k, h⟩ := P which0 over1 n2 hwhich0 hn2; law_w (hok0 w) (glyphiclaw13_TurnFar.ok (k := k) h)
end Go.Proofs.Ytgaikembekkfiaa.QTurnFar
