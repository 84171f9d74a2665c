/- Functions of the program as Lean functions, each with the proof of its walk. Written by gen.py, a program of these sessions. -/
import Derived.Test.YtgaikembekkfiaaX
import Derived.Test.YtgaikembekkfiaaProg
namespace Go.Proofs.Ytgaikembekkfiaa.QTurnScales
open Go Go.RowKit Go.Proofs.YtgaikembekkfiaaE Go.Proofs.YtgaikembekkfiaaX
set_option linter.unusedVariables false
set_option maxRecDepth 100000
theorem mixed : Try.prog.follows .mixedOrders = true := by kernel_rfl

/-- turn.Quarter -/
def c50 : C :=
  (.seq (.reg [⟨(some 2), .box (.tmp 0), none⟩,
     ⟨(some 4), .new [(.int .i64 0), (.int .i64 0)], none⟩])
  (.seq (.seq (.reg [⟨(some 5), .mv (.tmp 1), none⟩,
      ⟨(some 6), .bin .rem (.tmp 5) (.const (.int .i64 4)), none⟩,
      ⟨(some 7), .bin .add (.tmp 6) (.const (.int .i64 4)), none⟩,
      ⟨(some 8), .bin .rem (.tmp 7) (.const (.int .i64 4)), none⟩,
      ⟨(some 9), .mv (.const (.int .i64 0)), none⟩])
   (.block 0 (.loop (.seq (.reg [⟨(some 10), .bin .lss (.tmp 9) (.tmp 8), none⟩])
     (.seq (.cond (.tmp 10)
       .skip
       (.exit 0))
     (.seq (.block 1 (.reg [⟨(some 11), .pad 1 (.tmp 2), none⟩,
         ⟨(some 12), .ld none (.tmp 11), none⟩,
         ⟨(some 13), .un .neg (.tmp 12), none⟩,
         ⟨(some 14), .pad 0 (.tmp 2), none⟩,
         ⟨(some 15), .ld none (.tmp 14), none⟩,
         ⟨(some 16), .bld [(.int .i64 0), (.int .i64 0)] [(0, 1, (.tmp 13)), (1, 1, (.tmp 15))], none⟩,
         ⟨none, .st 2 (.tmp 2) (.tmp 16), none⟩]))
     (.reg [⟨(some 17), .bin .add (.tmp 9) (.const (.int .i64 1)), none⟩,
       ⟨(some 9), .mv (.tmp 17), none⟩])))))))
  (.seq (.reg [⟨(some 18), .ld (some 2) (.tmp 2), none⟩,
     ⟨none, .st 2 (.tmp 4) (.tmp 18), none⟩])
  .ret)))
def turn_Quarter.l0 : Nat → Int → Int → Int → Int → Option (Int × Int)
  | 0, _, _, _, _ => none
  | k + 1, n1, x7, x8, x9 => if x7 < (Int.tmod (wr64 ((Int.tmod n1 4) + 4)) 4) then (turn_Quarter.l0 k n1 (wr64 (x7 + 1)) (wr64 (0 - x9)) x8) else (some (x8, x9))
def turn_Quarter.f (k : Nat) (p0_X : Int) (p0_Y : Int) (n1 : Int) : Option (Int × Int) := (turn_Quarter.l0 k n1 0 p0_X p0_Y : Option (Int × Int)).bind fun (x13, x14) => (some (x13, x14))
theorem turn_Quarter.ok {S : Seal} {k : Nat} {p0_X : Int} {p0_Y : Int} {n1 : Int} {r0_ : Int} {r1_ : Int} (e : turn_Quarter.f k p0_X p0_Y n1 = some (r0_, r1_)) :
    Cal Try.prog 50 [.agg #[.int .i64 p0_X, .int .i64 p0_Y], .int .i64 n1] [] S fun v H' S' => v = .agg #[.int .i64 r0_, .int .i64 r1_] ∧ H' = [] ∧ S' = S := by
  unfold turn_Quarter.f at e
  refine cal_of (c := c50) (N := 19) Try.func50 rfl rfl (by kernel_rfl) (rs := [.cn 2 4]) (by kernel_rfl) (Nat.le_of_ble_eq_true rfl) ?_
  unfold c50
  refine w_seq ?_
  refine w_reg fun all => ?_
  refine t_a (.box rfl rfl rfl) fun b2 fb2 sb2 => ?_
  refine t_a (.new rfl rfl) fun b3 fb3 sb3 => ?_
  refine t_keep [1, 2, 4] (σ' := [(1, .int .i64 n1), (2, .pointer (some ⟨b2, 0, none⟩)), (4, .pointer (some ⟨b3, 0, none⟩))]) (by kernel_rfl) ?_
  refine t_end ?_
  show W _ _ _ _ _ _ _
  obtain ⟨⟨x13, x14⟩, e5, e⟩ := bind_of e
  try dsimp only at e
  refine w_cut [2, 4] (fun σ_ H_ S_ => [(2, .pointer (some ⟨b2, 0, none⟩)), (4, .pointer (some ⟨b3, 0, none⟩))] = σ_ ∧ ([⟨b3, [.int .i64 0, .int .i64 0], 2⟩, ⟨b2, [.int .i64 x13, .int .i64 x14], 2⟩] : List Own) = H_ ∧ S = S_) ?_ ?_
  · show W _ _ _ _ _ _ _
    refine w_seq ?_
    refine w_reg fun all => ?_
    refine t_qz 5 [2, 4, 8, 9] (σ' := [(2, .pointer (some ⟨b2, 0, none⟩)), (4, .pointer (some ⟨b3, 0, none⟩)), (8, .int .i64 (Int.tmod (wr64 ((Int.tmod n1 4) + 4)) 4)), (9, .int .i64 0)]) (by kernel_rfl) ?_
    refine t_end ?_
    show W _ _ _ _ _ _ _
    refine w_block ?_
    refine w_kp [2, 4, 8, 9] (σ' := [(2, .pointer (some ⟨b2, 0, none⟩)), (4, .pointer (some ⟨b3, 0, none⟩)), (8, .int .i64 (Int.tmod (wr64 ((Int.tmod n1 4) + 4)) 4)), (9, .int .i64 0)]) (by kernel_rfl) ?_
    refine w_loop (fun n_ σ_ H_ S_ => ∃ x7 x8 x9, [(2, .pointer (some ⟨b2, 0, none⟩)), (4, .pointer (some ⟨b3, 0, none⟩)), (8, .int .i64 (Int.tmod (wr64 ((Int.tmod n1 4) + 4)) 4)), (9, .int .i64 x7)] = σ_ ∧ ([⟨b3, [.int .i64 0, .int .i64 0], 2⟩, ⟨b2, [.int .i64 x8, .int .i64 x9], 2⟩] : List Own) = H_ ∧ S = S_ ∧ turn_Quarter.l0 n_ n1 x7 x8 x9 = some (x13, x14)) _ ⟨0, p0_X, p0_Y, rfl, rfl, rfl, e5⟩ ?_
    rintro n12 σ_ H_ S_ ⟨x7, x8, x9, rfl, rfl, rfl, e5⟩
    cases n12 with
    | zero => rw [turn_Quarter.l0.eq_1] at e5; cases e5
    | succ k_ =>
      rw [turn_Quarter.l0.eq_2] at e5
      refine w_seq ?_
      refine w_reg fun all => ?_
      by_cases c10 : x7 < (Int.tmod (wr64 ((Int.tmod n1 4) + 4)) 4)
      · rw [if_pos c10] at e5
        have c10b : (decide (x7 < (Int.tmod (wr64 ((Int.tmod n1 4) + 4)) 4))) = true := decide_eq_true c10
        refine t_v (dv_quiet rfl (congrArg (fun t => some (Value.bool t)) c10b)) ?_
        refine t_keep [2, 4, 8, 9, 10] (σ' := [(2, .pointer (some ⟨b2, 0, none⟩)), (4, .pointer (some ⟨b3, 0, none⟩)), (8, .int .i64 (Int.tmod (wr64 ((Int.tmod n1 4) + 4)) 4)), (9, .int .i64 x7), (10, .bool true)]) (by kernel_rfl) ?_
        refine t_end ?_
        show W _ _ _ _ _ _ _
        refine w_seq ?_
        refine w_cond rfl (fun _ => ?_) (fun c_ => by cases c_)
        show W _ _ _ _ _ _ _
        refine w_skip ?_
        show W _ _ _ _ _ _ _
        refine w_seq ?_
        refine w_block ?_
        refine w_reg fun all => ?_
        refine t_qz 1 [2, 4, 8, 9, 11] (σ' := [(2, .pointer (some ⟨b2, 0, none⟩)), (4, .pointer (some ⟨b3, 0, none⟩)), (8, .int .i64 (Int.tmod (wr64 ((Int.tmod n1 4) + 4)) 4)), (9, .int .i64 x7), (11, .pointer (some ⟨b2, 1, none⟩))]) (by kernel_rfl) ?_
        refine t_v (.ld1 rfl rfl rfl (.at 1 rfl rfl)) ?_
        refine t_qz 2 [2, 4, 8, 9, 13, 14] (σ' := [(2, .pointer (some ⟨b2, 0, none⟩)), (4, .pointer (some ⟨b3, 0, none⟩)), (8, .int .i64 (Int.tmod (wr64 ((Int.tmod n1 4) + 4)) 4)), (9, .int .i64 x7), (13, .int .i64 (wr64 (0 - x9))), (14, .pointer (some ⟨b2, 0, none⟩))]) (by kernel_rfl) ?_
        refine t_v (.ld1 rfl rfl rfl (.at 1 rfl rfl)) ?_
        refine t_qz 1 [2, 4, 8, 9, 16] (σ' := [(2, .pointer (some ⟨b2, 0, none⟩)), (4, .pointer (some ⟨b3, 0, none⟩)), (8, .int .i64 (Int.tmod (wr64 ((Int.tmod n1 4) + 4)) 4)), (9, .int .i64 x7), (16, .agg #[.int .i64 (wr64 (0 - x9)), .int .i64 x8])]) (by kernel_rfl) ?_
        refine t_sti 1 (cs := [.int .i64 (wr64 (0 - x9)), .int .i64 x8]) rfl rfl rfl rfl rfl rfl rfl rfl rfl ?_
        refine t_keep [2, 4, 8, 9] (σ' := [(2, .pointer (some ⟨b2, 0, none⟩)), (4, .pointer (some ⟨b3, 0, none⟩)), (8, .int .i64 (Int.tmod (wr64 ((Int.tmod n1 4) + 4)) 4)), (9, .int .i64 x7)]) (by kernel_rfl) ?_
        refine t_end ?_
        show W _ _ _ _ _ _ _
        refine w_reg fun all => ?_
        refine t_qz 2 [2, 4, 8, 9] (σ' := [(2, .pointer (some ⟨b2, 0, none⟩)), (4, .pointer (some ⟨b3, 0, none⟩)), (8, .int .i64 (Int.tmod (wr64 ((Int.tmod n1 4) + 4)) 4)), (9, .int .i64 (wr64 (x7 + 1)))]) (by kernel_rfl) ?_
        refine t_end ?_
        exact ⟨k_, Nat.lt_succ_self _, [(2, .pointer (some ⟨b2, 0, none⟩)), (4, .pointer (some ⟨b3, 0, none⟩)), (8, .int .i64 (Int.tmod (wr64 ((Int.tmod n1 4) + 4)) 4)), (9, .int .i64 (wr64 (x7 + 1)))], ([⟨b3, [.int .i64 0, .int .i64 0], 2⟩, ⟨b2, [.int .i64 (wr64 (0 - x9)), .int .i64 x8], 2⟩] : List Own), S, keep_sub [2, 4, 8, 9] (by kernel_rfl), VS.sel [0, 0] (by kernel_rfl), wr64 (x7 + 1), wr64 (0 - x9), x8, rfl, rfl, rfl, e5⟩
      · rw [if_neg c10] at e5
        have c10b : (decide (x7 < (Int.tmod (wr64 ((Int.tmod n1 4) + 4)) 4))) = false := decide_eq_false c10
        refine t_v (dv_quiet rfl (congrArg (fun t => some (Value.bool t)) c10b)) ?_
        refine t_keep [2, 4, 8, 9, 10] (σ' := [(2, .pointer (some ⟨b2, 0, none⟩)), (4, .pointer (some ⟨b3, 0, none⟩)), (8, .int .i64 (Int.tmod (wr64 ((Int.tmod n1 4) + 4)) 4)), (9, .int .i64 x7), (10, .bool false)]) (by kernel_rfl) ?_
        refine t_end ?_
        show W _ _ _ _ _ _ _
        refine w_seq ?_
        refine w_cond rfl (fun c_ => by cases c_) (fun _ => ?_)
        show W _ _ _ _ _ _ _
        refine w_exit ?_
        simp only [Option.some.injEq, Prod.mk.injEq] at e5
        obtain ⟨rfl, rfl⟩ := e5
        exact ⟨([⟨b3, [.int .i64 0, .int .i64 0], 2⟩, ⟨b2, [.int .i64 x8, .int .i64 x9], 2⟩] : List Own), S, VS.sel [0, 0] (by kernel_rfl), by kernel_rfl, rfl, rfl⟩
  · rintro σ_ H_ S_ ⟨rfl, rfl, rfl⟩
    refine w_seq ?_
    refine w_reg fun all => ?_
    refine t_v (.ldn rfl rfl rfl (.at 1 rfl rfl)) ?_
    refine t_sti 0 (cs := [.int .i64 x13, .int .i64 x14]) rfl rfl rfl rfl rfl rfl rfl rfl rfl ?_
    refine t_keep [4] (σ' := [(4, .pointer (some ⟨b3, 0, none⟩))]) (by kernel_rfl) ?_
    refine t_end ?_
    show W _ _ _ _ _ _ _
    refine w_ret ?_
    simp only [Option.some.injEq, Prod.mk.injEq] at e
    obtain ⟨rfl, rfl⟩ := e
    exact ⟨[.agg #[.int .i64 x13, .int .i64 x14]], [], S, ⟨⟨_, _, _, rfl, .at 0 rfl rfl, rfl⟩, trivial⟩, VS.none, rfl, rfl, rfl⟩

/-- turn.within -/
def c59 : C :=
  (.seq (.reg [⟨(some 2), .mv (.const (.bool false)), none⟩])
  (.seq (.seq (.reg [⟨(some 5), .mv (.tmp 0), none⟩,
      ⟨(some 6), .lns (.tmp 5), none⟩,
      ⟨(some 7), .mv (.const (.int .i64 0)), none⟩])
   (.block 0 (.loop (.seq (.reg [⟨(some 8), .bin .lss (.tmp 7) (.tmp 6), none⟩])
     (.seq (.cond (.tmp 8)
       .skip
       (.exit 0))
     (.seq (.block 1 (.seq (.reg [⟨(some 9), .ixs 1 (.tmp 5) (.tmp 7), none⟩,
          ⟨(some 10), .ld none (.tmp 9), none⟩,
          ⟨(some 4), .mv (.tmp 10), none⟩])
       (.seq (.reg [⟨(some 11), .mv (.tmp 4), none⟩,
          ⟨(some 12), .bin .lss (.tmp 11) (.const (.int .i64 (-1000000000000000))), none⟩,
          ⟨(some 13), .mv (.tmp 12), none⟩,
          ⟨(some 14), .mv (.tmp 4), (some (13, false))⟩,
          ⟨(some 15), .bin .gtr (.tmp 14) (.const (.int .i64 1000000000000000)), (some (13, false))⟩,
          ⟨(some 16), .pk (.tmp 13) (.const (.bool true)) (.tmp 15), none⟩])
       (.cond (.tmp 16)
        (.seq (.reg [⟨(some 2), .mv (.const (.bool false)), none⟩])
         .ret)
        .skip))))
     (.reg [⟨(some 17), .bin .add (.tmp 7) (.const (.int .i64 1)), none⟩,
       ⟨(some 7), .mv (.tmp 17), none⟩])))))))
  (.seq (.reg [⟨(some 2), .mv (.const (.bool true)), none⟩])
  .ret)))
def turn_within_v1.f (m0_0 : Int) (m0_1 : Int) (m0_2 : Int) (m0_3 : Int) (m0_4 : Int) : Option (Bool) := if m0_0 < (-1000000000000000) then (some false) else (if m0_0 > 1000000000000000 then (some false) else (if m0_1 < (-1000000000000000) then (some false) else (if m0_1 > 1000000000000000 then (some false) else (if m0_2 < (-1000000000000000) then (some false) else (if m0_2 > 1000000000000000 then (some false) else (if m0_3 < (-1000000000000000) then (some false) else (if m0_3 > 1000000000000000 then (some false) else (if m0_4 < (-1000000000000000) then (some false) else (if m0_4 > 1000000000000000 then (some false) else (some true))))))))))
theorem turn_within_v1.ok {S : Seal} {B0 : Nat} {m0_0 : Int} {m0_1 : Int} {m0_2 : Int} {m0_3 : Int} {m0_4 : Int} {r0_ : Bool} (e : turn_within_v1.f m0_0 m0_1 m0_2 m0_3 m0_4 = some r0_) :
    Cal Try.prog 59 [.slice (some ⟨B0, 0, none⟩) 5 5] ([⟨B0, [.int .i64 m0_0, .int .i64 m0_1, .int .i64 m0_2, .int .i64 m0_3, .int .i64 m0_4], 5⟩] : List Own) S fun v H' S' => v = .bool r0_ ∧ H' = ([⟨B0, [.int .i64 m0_0, .int .i64 m0_1, .int .i64 m0_2, .int .i64 m0_3, .int .i64 m0_4], 5⟩] : List Own) ∧ S' = S := by
  unfold turn_within_v1.f at e
  refine cal_of (c := c59) (N := 18) Try.func59 rfl rfl (by kernel_rfl) (rs := [.t 2]) (by kernel_rfl) (Nat.le_of_ble_eq_true rfl) ?_
  unfold c59
  refine w_seq ?_
  refine w_reg fun all => ?_
  refine t_qz 1 [0] (σ' := [(0, .slice (some ⟨B0, 0, none⟩) 5 5)]) (by kernel_rfl) ?_
  refine t_end ?_
  show W _ _ _ _ _ _ _
  refine w_seq ?_
  refine w_seq ?_
  refine w_reg fun all => ?_
  refine t_qz 3 [5, 6, 7] (σ' := [(5, .slice (some ⟨B0, 0, none⟩) 5 5), (6, .int .i64 5), (7, .int .i64 0)]) (by kernel_rfl) ?_
  refine t_end ?_
  show W _ _ _ _ _ _ _
  refine w_block ?_
  refine w_lun 8 ?_
  refine wl_step ?_
  refine w_seq ?_
  refine w_reg fun all => ?_
  refine t_qz 1 [5, 6, 7, 8] (σ' := [(5, .slice (some ⟨B0, 0, none⟩) 5 5), (6, .int .i64 5), (7, .int .i64 0), (8, .bool true)]) (by kernel_rfl) ?_
  refine t_end ?_
  show W _ _ _ _ _ _ _
  refine w_seq ?_
  refine w_cond rfl (fun _ => ?_) (fun c_ => by cases c_)
  show W _ _ _ _ _ _ _
  refine w_skip ?_
  show W _ _ _ _ _ _ _
  refine w_seq ?_
  refine w_block ?_
  refine w_seq ?_
  refine w_reg fun all => ?_
  refine t_qz 1 [5, 6, 7, 9] (σ' := [(5, .slice (some ⟨B0, 0, none⟩) 5 5), (6, .int .i64 5), (7, .int .i64 0), (9, .pointer (some ⟨B0, 0, none⟩))]) (by kernel_rfl) ?_
  refine t_v (.ld1 rfl rfl rfl (.at 0 rfl rfl)) ?_
  refine t_qz 1 [4, 5, 6, 7] (σ' := [(4, .int .i64 m0_0), (5, .slice (some ⟨B0, 0, none⟩) 5 5), (6, .int .i64 5), (7, .int .i64 0)]) (by kernel_rfl) ?_
  refine t_end ?_
  show W _ _ _ _ _ _ _
  refine w_seq ?_
  refine w_reg fun all => ?_
  by_cases c23 : m0_0 < (-1000000000000000)
  · rw [if_pos c23] at e
    have c23b : (decide (m0_0 < (-1000000000000000))) = true := decide_eq_true c23
    refine t_qz 1 [4, 5, 6, 7, 11] (σ' := [(4, .int .i64 m0_0), (5, .slice (some ⟨B0, 0, none⟩) 5 5), (6, .int .i64 5), (7, .int .i64 0), (11, .int .i64 m0_0)]) (by kernel_rfl) ?_
    refine t_v (dv_quiet rfl (congrArg (fun t => some (Value.bool t)) c23b)) ?_
    refine t_qz 4 [5, 6, 7, 14, 15, 16] (σ' := [(5, .slice (some ⟨B0, 0, none⟩) 5 5), (6, .int .i64 5), (7, .int .i64 0), (14, .tuple #[]), (15, .tuple #[]), (16, .bool true)]) (by kernel_rfl) ?_
    refine t_end ?_
    show W _ _ _ _ _ _ _
    refine w_cond rfl (fun _ => ?_) (fun c_ => by cases c_)
    show W _ _ _ _ _ _ _
    refine w_seq ?_
    refine w_reg fun all => ?_
    refine t_qz 1 [2] (σ' := [(2, .bool false)]) (by kernel_rfl) ?_
    refine t_end ?_
    show W _ _ _ _ _ _ _
    refine w_ret ?_
    obtain rfl := Option.some.inj e
    exact ⟨[.bool false], ([⟨B0, [.int .i64 m0_0, .int .i64 m0_1, .int .i64 m0_2, .int .i64 m0_3, .int .i64 m0_4], 5⟩] : List Own), S, ⟨rfl, trivial⟩, VS.sel [0] (by kernel_rfl), rfl, rfl, rfl⟩
  · rw [if_neg c23] at e
    have c23b : (decide (m0_0 < (-1000000000000000))) = false := decide_eq_false c23
    refine t_qz 1 [4, 5, 6, 7, 11] (σ' := [(4, .int .i64 m0_0), (5, .slice (some ⟨B0, 0, none⟩) 5 5), (6, .int .i64 5), (7, .int .i64 0), (11, .int .i64 m0_0)]) (by kernel_rfl) ?_
    refine t_v (dv_quiet rfl (congrArg (fun t => some (Value.bool t)) c23b)) ?_
    by_cases c24 : m0_0 > 1000000000000000
    · rw [if_pos c24] at e
      have c24b : (decide (m0_0 > 1000000000000000)) = true := decide_eq_true c24
      refine t_qz 2 [5, 6, 7, 13, 14] (σ' := [(5, .slice (some ⟨B0, 0, none⟩) 5 5), (6, .int .i64 5), (7, .int .i64 0), (13, .bool false), (14, .int .i64 m0_0)]) (by kernel_rfl) ?_
      refine t_v (dv_quiet rfl (congrArg (fun t => some (Value.bool t)) c24b)) ?_
      refine t_qz 1 [5, 6, 7, 14, 15, 16] (σ' := [(5, .slice (some ⟨B0, 0, none⟩) 5 5), (6, .int .i64 5), (7, .int .i64 0), (14, .int .i64 m0_0), (15, .bool true), (16, .bool true)]) (by kernel_rfl) ?_
      refine t_end ?_
      show W _ _ _ _ _ _ _
      refine w_cond rfl (fun _ => ?_) (fun c_ => by cases c_)
      show W _ _ _ _ _ _ _
      refine w_seq ?_
      refine w_reg fun all => ?_
      refine t_qz 1 [2] (σ' := [(2, .bool false)]) (by kernel_rfl) ?_
      refine t_end ?_
      show W _ _ _ _ _ _ _
      refine w_ret ?_
      obtain rfl := Option.some.inj e
      exact ⟨[.bool false], ([⟨B0, [.int .i64 m0_0, .int .i64 m0_1, .int .i64 m0_2, .int .i64 m0_3, .int .i64 m0_4], 5⟩] : List Own), S, ⟨rfl, trivial⟩, VS.sel [0] (by kernel_rfl), rfl, rfl, rfl⟩
    · rw [if_neg c24] at e
      have c24b : (decide (m0_0 > 1000000000000000)) = false := decide_eq_false c24
      refine t_qz 2 [5, 6, 7, 13, 14] (σ' := [(5, .slice (some ⟨B0, 0, none⟩) 5 5), (6, .int .i64 5), (7, .int .i64 0), (13, .bool false), (14, .int .i64 m0_0)]) (by kernel_rfl) ?_
      refine t_v (dv_quiet rfl (congrArg (fun t => some (Value.bool t)) c24b)) ?_
      refine t_qz 1 [5, 6, 7, 14, 15, 16] (σ' := [(5, .slice (some ⟨B0, 0, none⟩) 5 5), (6, .int .i64 5), (7, .int .i64 0), (14, .int .i64 m0_0), (15, .bool false), (16, .bool false)]) (by kernel_rfl) ?_
      refine t_end ?_
      show W _ _ _ _ _ _ _
      refine w_cond rfl (fun c_ => by cases c_) (fun _ => ?_)
      show W _ _ _ _ _ _ _
      refine w_skip ?_
      show W _ _ _ _ _ _ _
      refine w_reg fun all => ?_
      refine t_qz 2 [5, 6, 7, 14, 15] (σ' := [(5, .slice (some ⟨B0, 0, none⟩) 5 5), (6, .int .i64 5), (7, .int .i64 1), (14, .int .i64 m0_0), (15, .bool false)]) (by kernel_rfl) ?_
      refine t_end ?_
      show WL _ _ _ _ _ _ _ _
      refine wl_step ?_
      refine w_seq ?_
      refine w_reg fun all => ?_
      refine t_qz 1 [5, 6, 7, 8, 14, 15] (σ' := [(5, .slice (some ⟨B0, 0, none⟩) 5 5), (6, .int .i64 5), (7, .int .i64 1), (8, .bool true), (14, .int .i64 m0_0), (15, .bool false)]) (by kernel_rfl) ?_
      refine t_end ?_
      show W _ _ _ _ _ _ _
      refine w_seq ?_
      refine w_cond rfl (fun _ => ?_) (fun c_ => by cases c_)
      show W _ _ _ _ _ _ _
      refine w_skip ?_
      show W _ _ _ _ _ _ _
      refine w_seq ?_
      refine w_block ?_
      refine w_seq ?_
      refine w_reg fun all => ?_
      refine t_qz 1 [5, 6, 7, 9, 14, 15] (σ' := [(5, .slice (some ⟨B0, 0, none⟩) 5 5), (6, .int .i64 5), (7, .int .i64 1), (9, .pointer (some ⟨B0, 1, none⟩)), (14, .int .i64 m0_0), (15, .bool false)]) (by kernel_rfl) ?_
      refine t_v (.ld1 rfl rfl rfl (.at 0 rfl rfl)) ?_
      refine t_qz 1 [4, 5, 6, 7, 14, 15] (σ' := [(4, .int .i64 m0_1), (5, .slice (some ⟨B0, 0, none⟩) 5 5), (6, .int .i64 5), (7, .int .i64 1), (14, .int .i64 m0_0), (15, .bool false)]) (by kernel_rfl) ?_
      refine t_end ?_
      show W _ _ _ _ _ _ _
      refine w_seq ?_
      refine w_reg fun all => ?_
      by_cases c25 : m0_1 < (-1000000000000000)
      · rw [if_pos c25] at e
        have c25b : (decide (m0_1 < (-1000000000000000))) = true := decide_eq_true c25
        refine t_qz 1 [4, 5, 6, 7, 11, 14, 15] (σ' := [(4, .int .i64 m0_1), (5, .slice (some ⟨B0, 0, none⟩) 5 5), (6, .int .i64 5), (7, .int .i64 1), (11, .int .i64 m0_1), (14, .int .i64 m0_0), (15, .bool false)]) (by kernel_rfl) ?_
        refine t_v (dv_quiet rfl (congrArg (fun t => some (Value.bool t)) c25b)) ?_
        refine t_qz 4 [5, 6, 7, 14, 15, 16] (σ' := [(5, .slice (some ⟨B0, 0, none⟩) 5 5), (6, .int .i64 5), (7, .int .i64 1), (14, .tuple #[]), (15, .tuple #[]), (16, .bool true)]) (by kernel_rfl) ?_
        refine t_end ?_
        show W _ _ _ _ _ _ _
        refine w_cond rfl (fun _ => ?_) (fun c_ => by cases c_)
        show W _ _ _ _ _ _ _
        refine w_seq ?_
        refine w_reg fun all => ?_
        refine t_qz 1 [2] (σ' := [(2, .bool false)]) (by kernel_rfl) ?_
        refine t_end ?_
        show W _ _ _ _ _ _ _
        refine w_ret ?_
        obtain rfl := Option.some.inj e
        exact ⟨[.bool false], ([⟨B0, [.int .i64 m0_0, .int .i64 m0_1, .int .i64 m0_2, .int .i64 m0_3, .int .i64 m0_4], 5⟩] : List Own), S, ⟨rfl, trivial⟩, VS.sel [0] (by kernel_rfl), rfl, rfl, rfl⟩
      · rw [if_neg c25] at e
        have c25b : (decide (m0_1 < (-1000000000000000))) = false := decide_eq_false c25
        refine t_qz 1 [4, 5, 6, 7, 11, 14, 15] (σ' := [(4, .int .i64 m0_1), (5, .slice (some ⟨B0, 0, none⟩) 5 5), (6, .int .i64 5), (7, .int .i64 1), (11, .int .i64 m0_1), (14, .int .i64 m0_0), (15, .bool false)]) (by kernel_rfl) ?_
        refine t_v (dv_quiet rfl (congrArg (fun t => some (Value.bool t)) c25b)) ?_
        by_cases c26 : m0_1 > 1000000000000000
        · rw [if_pos c26] at e
          have c26b : (decide (m0_1 > 1000000000000000)) = true := decide_eq_true c26
          refine t_qz 2 [5, 6, 7, 13, 14, 15] (σ' := [(5, .slice (some ⟨B0, 0, none⟩) 5 5), (6, .int .i64 5), (7, .int .i64 1), (13, .bool false), (14, .int .i64 m0_1), (15, .bool false)]) (by kernel_rfl) ?_
          refine t_v (dv_quiet rfl (congrArg (fun t => some (Value.bool t)) c26b)) ?_
          refine t_qz 1 [5, 6, 7, 14, 15, 16] (σ' := [(5, .slice (some ⟨B0, 0, none⟩) 5 5), (6, .int .i64 5), (7, .int .i64 1), (14, .int .i64 m0_1), (15, .bool true), (16, .bool true)]) (by kernel_rfl) ?_
          refine t_end ?_
          show W _ _ _ _ _ _ _
          refine w_cond rfl (fun _ => ?_) (fun c_ => by cases c_)
          show W _ _ _ _ _ _ _
          refine w_seq ?_
          refine w_reg fun all => ?_
          refine t_qz 1 [2] (σ' := [(2, .bool false)]) (by kernel_rfl) ?_
          refine t_end ?_
          show W _ _ _ _ _ _ _
          refine w_ret ?_
          obtain rfl := Option.some.inj e
          exact ⟨[.bool false], ([⟨B0, [.int .i64 m0_0, .int .i64 m0_1, .int .i64 m0_2, .int .i64 m0_3, .int .i64 m0_4], 5⟩] : List Own), S, ⟨rfl, trivial⟩, VS.sel [0] (by kernel_rfl), rfl, rfl, rfl⟩
        · rw [if_neg c26] at e
          have c26b : (decide (m0_1 > 1000000000000000)) = false := decide_eq_false c26
          refine t_qz 2 [5, 6, 7, 13, 14, 15] (σ' := [(5, .slice (some ⟨B0, 0, none⟩) 5 5), (6, .int .i64 5), (7, .int .i64 1), (13, .bool false), (14, .int .i64 m0_1), (15, .bool false)]) (by kernel_rfl) ?_
          refine t_v (dv_quiet rfl (congrArg (fun t => some (Value.bool t)) c26b)) ?_
          refine t_qz 1 [5, 6, 7, 14, 15, 16] (σ' := [(5, .slice (some ⟨B0, 0, none⟩) 5 5), (6, .int .i64 5), (7, .int .i64 1), (14, .int .i64 m0_1), (15, .bool false), (16, .bool false)]) (by kernel_rfl) ?_
          refine t_end ?_
          show W _ _ _ _ _ _ _
          refine w_cond rfl (fun c_ => by cases c_) (fun _ => ?_)
          show W _ _ _ _ _ _ _
          refine w_skip ?_
          show W _ _ _ _ _ _ _
          refine w_reg fun all => ?_
          refine t_qz 2 [5, 6, 7, 14, 15] (σ' := [(5, .slice (some ⟨B0, 0, none⟩) 5 5), (6, .int .i64 5), (7, .int .i64 2), (14, .int .i64 m0_1), (15, .bool false)]) (by kernel_rfl) ?_
          refine t_end ?_
          show WL _ _ _ _ _ _ _ _
          refine wl_step ?_
          refine w_seq ?_
          refine w_reg fun all => ?_
          refine t_qz 1 [5, 6, 7, 8, 14, 15] (σ' := [(5, .slice (some ⟨B0, 0, none⟩) 5 5), (6, .int .i64 5), (7, .int .i64 2), (8, .bool true), (14, .int .i64 m0_1), (15, .bool false)]) (by kernel_rfl) ?_
          refine t_end ?_
          show W _ _ _ _ _ _ _
          refine w_seq ?_
          refine w_cond rfl (fun _ => ?_) (fun c_ => by cases c_)
          show W _ _ _ _ _ _ _
          refine w_skip ?_
          show W _ _ _ _ _ _ _
          refine w_seq ?_
          refine w_block ?_
          refine w_seq ?_
          refine w_reg fun all => ?_
          refine t_qz 1 [5, 6, 7, 9, 14, 15] (σ' := [(5, .slice (some ⟨B0, 0, none⟩) 5 5), (6, .int .i64 5), (7, .int .i64 2), (9, .pointer (some ⟨B0, 2, none⟩)), (14, .int .i64 m0_1), (15, .bool false)]) (by kernel_rfl) ?_
          refine t_v (.ld1 rfl rfl rfl (.at 0 rfl rfl)) ?_
          refine t_qz 1 [4, 5, 6, 7, 14, 15] (σ' := [(4, .int .i64 m0_2), (5, .slice (some ⟨B0, 0, none⟩) 5 5), (6, .int .i64 5), (7, .int .i64 2), (14, .int .i64 m0_1), (15, .bool false)]) (by kernel_rfl) ?_
          refine t_end ?_
          show W _ _ _ _ _ _ _
          refine w_seq ?_
          refine w_reg fun all => ?_
          by_cases c27 : m0_2 < (-1000000000000000)
          · rw [if_pos c27] at e
            have c27b : (decide (m0_2 < (-1000000000000000))) = true := decide_eq_true c27
            refine t_qz 1 [4, 5, 6, 7, 11, 14, 15] (σ' := [(4, .int .i64 m0_2), (5, .slice (some ⟨B0, 0, none⟩) 5 5), (6, .int .i64 5), (7, .int .i64 2), (11, .int .i64 m0_2), (14, .int .i64 m0_1), (15, .bool false)]) (by kernel_rfl) ?_
            refine t_v (dv_quiet rfl (congrArg (fun t => some (Value.bool t)) c27b)) ?_
            refine t_qz 4 [5, 6, 7, 14, 15, 16] (σ' := [(5, .slice (some ⟨B0, 0, none⟩) 5 5), (6, .int .i64 5), (7, .int .i64 2), (14, .tuple #[]), (15, .tuple #[]), (16, .bool true)]) (by kernel_rfl) ?_
            refine t_end ?_
            show W _ _ _ _ _ _ _
            refine w_cond rfl (fun _ => ?_) (fun c_ => by cases c_)
            show W _ _ _ _ _ _ _
            refine w_seq ?_
            refine w_reg fun all => ?_
            refine t_qz 1 [2] (σ' := [(2, .bool false)]) (by kernel_rfl) ?_
            refine t_end ?_
            show W _ _ _ _ _ _ _
            refine w_ret ?_
            obtain rfl := Option.some.inj e
            exact ⟨[.bool false], ([⟨B0, [.int .i64 m0_0, .int .i64 m0_1, .int .i64 m0_2, .int .i64 m0_3, .int .i64 m0_4], 5⟩] : List Own), S, ⟨rfl, trivial⟩, VS.sel [0] (by kernel_rfl), rfl, rfl, rfl⟩
          · rw [if_neg c27] at e
            have c27b : (decide (m0_2 < (-1000000000000000))) = false := decide_eq_false c27
            refine t_qz 1 [4, 5, 6, 7, 11, 14, 15] (σ' := [(4, .int .i64 m0_2), (5, .slice (some ⟨B0, 0, none⟩) 5 5), (6, .int .i64 5), (7, .int .i64 2), (11, .int .i64 m0_2), (14, .int .i64 m0_1), (15, .bool false)]) (by kernel_rfl) ?_
            refine t_v (dv_quiet rfl (congrArg (fun t => some (Value.bool t)) c27b)) ?_
            by_cases c28 : m0_2 > 1000000000000000
            · rw [if_pos c28] at e
              have c28b : (decide (m0_2 > 1000000000000000)) = true := decide_eq_true c28
              refine t_qz 2 [5, 6, 7, 13, 14, 15] (σ' := [(5, .slice (some ⟨B0, 0, none⟩) 5 5), (6, .int .i64 5), (7, .int .i64 2), (13, .bool false), (14, .int .i64 m0_2), (15, .bool false)]) (by kernel_rfl) ?_
              refine t_v (dv_quiet rfl (congrArg (fun t => some (Value.bool t)) c28b)) ?_
              refine t_qz 1 [5, 6, 7, 14, 15, 16] (σ' := [(5, .slice (some ⟨B0, 0, none⟩) 5 5), (6, .int .i64 5), (7, .int .i64 2), (14, .int .i64 m0_2), (15, .bool true), (16, .bool true)]) (by kernel_rfl) ?_
              refine t_end ?_
              show W _ _ _ _ _ _ _
              refine w_cond rfl (fun _ => ?_) (fun c_ => by cases c_)
              show W _ _ _ _ _ _ _
              refine w_seq ?_
              refine w_reg fun all => ?_
              refine t_qz 1 [2] (σ' := [(2, .bool false)]) (by kernel_rfl) ?_
              refine t_end ?_
              show W _ _ _ _ _ _ _
              refine w_ret ?_
              obtain rfl := Option.some.inj e
              exact ⟨[.bool false], ([⟨B0, [.int .i64 m0_0, .int .i64 m0_1, .int .i64 m0_2, .int .i64 m0_3, .int .i64 m0_4], 5⟩] : List Own), S, ⟨rfl, trivial⟩, VS.sel [0] (by kernel_rfl), rfl, rfl, rfl⟩
            · rw [if_neg c28] at e
              have c28b : (decide (m0_2 > 1000000000000000)) = false := decide_eq_false c28
              refine t_qz 2 [5, 6, 7, 13, 14, 15] (σ' := [(5, .slice (some ⟨B0, 0, none⟩) 5 5), (6, .int .i64 5), (7, .int .i64 2), (13, .bool false), (14, .int .i64 m0_2), (15, .bool false)]) (by kernel_rfl) ?_
              refine t_v (dv_quiet rfl (congrArg (fun t => some (Value.bool t)) c28b)) ?_
              refine t_qz 1 [5, 6, 7, 14, 15, 16] (σ' := [(5, .slice (some ⟨B0, 0, none⟩) 5 5), (6, .int .i64 5), (7, .int .i64 2), (14, .int .i64 m0_2), (15, .bool false), (16, .bool false)]) (by kernel_rfl) ?_
              refine t_end ?_
              show W _ _ _ _ _ _ _
              refine w_cond rfl (fun c_ => by cases c_) (fun _ => ?_)
              show W _ _ _ _ _ _ _
              refine w_skip ?_
              show W _ _ _ _ _ _ _
              refine w_reg fun all => ?_
              refine t_qz 2 [5, 6, 7, 14, 15] (σ' := [(5, .slice (some ⟨B0, 0, none⟩) 5 5), (6, .int .i64 5), (7, .int .i64 3), (14, .int .i64 m0_2), (15, .bool false)]) (by kernel_rfl) ?_
              refine t_end ?_
              show WL _ _ _ _ _ _ _ _
              refine wl_step ?_
              refine w_seq ?_
              refine w_reg fun all => ?_
              refine t_qz 1 [5, 6, 7, 8, 14, 15] (σ' := [(5, .slice (some ⟨B0, 0, none⟩) 5 5), (6, .int .i64 5), (7, .int .i64 3), (8, .bool true), (14, .int .i64 m0_2), (15, .bool false)]) (by kernel_rfl) ?_
              refine t_end ?_
              show W _ _ _ _ _ _ _
              refine w_seq ?_
              refine w_cond rfl (fun _ => ?_) (fun c_ => by cases c_)
              show W _ _ _ _ _ _ _
              refine w_skip ?_
              show W _ _ _ _ _ _ _
              refine w_seq ?_
              refine w_block ?_
              refine w_seq ?_
              refine w_reg fun all => ?_
              refine t_qz 1 [5, 6, 7, 9, 14, 15] (σ' := [(5, .slice (some ⟨B0, 0, none⟩) 5 5), (6, .int .i64 5), (7, .int .i64 3), (9, .pointer (some ⟨B0, 3, none⟩)), (14, .int .i64 m0_2), (15, .bool false)]) (by kernel_rfl) ?_
              refine t_v (.ld1 rfl rfl rfl (.at 0 rfl rfl)) ?_
              refine t_qz 1 [4, 5, 6, 7, 14, 15] (σ' := [(4, .int .i64 m0_3), (5, .slice (some ⟨B0, 0, none⟩) 5 5), (6, .int .i64 5), (7, .int .i64 3), (14, .int .i64 m0_2), (15, .bool false)]) (by kernel_rfl) ?_
              refine t_end ?_
              show W _ _ _ _ _ _ _
              refine w_seq ?_
              refine w_reg fun all => ?_
              by_cases c29 : m0_3 < (-1000000000000000)
              · rw [if_pos c29] at e
                have c29b : (decide (m0_3 < (-1000000000000000))) = true := decide_eq_true c29
                refine t_qz 1 [4, 5, 6, 7, 11, 14, 15] (σ' := [(4, .int .i64 m0_3), (5, .slice (some ⟨B0, 0, none⟩) 5 5), (6, .int .i64 5), (7, .int .i64 3), (11, .int .i64 m0_3), (14, .int .i64 m0_2), (15, .bool false)]) (by kernel_rfl) ?_
                refine t_v (dv_quiet rfl (congrArg (fun t => some (Value.bool t)) c29b)) ?_
                refine t_qz 4 [5, 6, 7, 14, 15, 16] (σ' := [(5, .slice (some ⟨B0, 0, none⟩) 5 5), (6, .int .i64 5), (7, .int .i64 3), (14, .tuple #[]), (15, .tuple #[]), (16, .bool true)]) (by kernel_rfl) ?_
                refine t_end ?_
                show W _ _ _ _ _ _ _
                refine w_cond rfl (fun _ => ?_) (fun c_ => by cases c_)
                show W _ _ _ _ _ _ _
                refine w_seq ?_
                refine w_reg fun all => ?_
                refine t_qz 1 [2] (σ' := [(2, .bool false)]) (by kernel_rfl) ?_
                refine t_end ?_
                show W _ _ _ _ _ _ _
                refine w_ret ?_
                obtain rfl := Option.some.inj e
                exact ⟨[.bool false], ([⟨B0, [.int .i64 m0_0, .int .i64 m0_1, .int .i64 m0_2, .int .i64 m0_3, .int .i64 m0_4], 5⟩] : List Own), S, ⟨rfl, trivial⟩, VS.sel [0] (by kernel_rfl), rfl, rfl, rfl⟩
              · rw [if_neg c29] at e
                have c29b : (decide (m0_3 < (-1000000000000000))) = false := decide_eq_false c29
                refine t_qz 1 [4, 5, 6, 7, 11, 14, 15] (σ' := [(4, .int .i64 m0_3), (5, .slice (some ⟨B0, 0, none⟩) 5 5), (6, .int .i64 5), (7, .int .i64 3), (11, .int .i64 m0_3), (14, .int .i64 m0_2), (15, .bool false)]) (by kernel_rfl) ?_
                refine t_v (dv_quiet rfl (congrArg (fun t => some (Value.bool t)) c29b)) ?_
                by_cases c30 : m0_3 > 1000000000000000
                · rw [if_pos c30] at e
                  have c30b : (decide (m0_3 > 1000000000000000)) = true := decide_eq_true c30
                  refine t_qz 2 [5, 6, 7, 13, 14, 15] (σ' := [(5, .slice (some ⟨B0, 0, none⟩) 5 5), (6, .int .i64 5), (7, .int .i64 3), (13, .bool false), (14, .int .i64 m0_3), (15, .bool false)]) (by kernel_rfl) ?_
                  refine t_v (dv_quiet rfl (congrArg (fun t => some (Value.bool t)) c30b)) ?_
                  refine t_qz 1 [5, 6, 7, 14, 15, 16] (σ' := [(5, .slice (some ⟨B0, 0, none⟩) 5 5), (6, .int .i64 5), (7, .int .i64 3), (14, .int .i64 m0_3), (15, .bool true), (16, .bool true)]) (by kernel_rfl) ?_
                  refine t_end ?_
                  show W _ _ _ _ _ _ _
                  refine w_cond rfl (fun _ => ?_) (fun c_ => by cases c_)
                  show W _ _ _ _ _ _ _
                  refine w_seq ?_
                  refine w_reg fun all => ?_
                  refine t_qz 1 [2] (σ' := [(2, .bool false)]) (by kernel_rfl) ?_
                  refine t_end ?_
                  show W _ _ _ _ _ _ _
                  refine w_ret ?_
                  obtain rfl := Option.some.inj e
                  exact ⟨[.bool false], ([⟨B0, [.int .i64 m0_0, .int .i64 m0_1, .int .i64 m0_2, .int .i64 m0_3, .int .i64 m0_4], 5⟩] : List Own), S, ⟨rfl, trivial⟩, VS.sel [0] (by kernel_rfl), rfl, rfl, rfl⟩
                · rw [if_neg c30] at e
                  have c30b : (decide (m0_3 > 1000000000000000)) = false := decide_eq_false c30
                  refine t_qz 2 [5, 6, 7, 13, 14, 15] (σ' := [(5, .slice (some ⟨B0, 0, none⟩) 5 5), (6, .int .i64 5), (7, .int .i64 3), (13, .bool false), (14, .int .i64 m0_3), (15, .bool false)]) (by kernel_rfl) ?_
                  refine t_v (dv_quiet rfl (congrArg (fun t => some (Value.bool t)) c30b)) ?_
                  refine t_qz 1 [5, 6, 7, 14, 15, 16] (σ' := [(5, .slice (some ⟨B0, 0, none⟩) 5 5), (6, .int .i64 5), (7, .int .i64 3), (14, .int .i64 m0_3), (15, .bool false), (16, .bool false)]) (by kernel_rfl) ?_
                  refine t_end ?_
                  show W _ _ _ _ _ _ _
                  refine w_cond rfl (fun c_ => by cases c_) (fun _ => ?_)
                  show W _ _ _ _ _ _ _
                  refine w_skip ?_
                  show W _ _ _ _ _ _ _
                  refine w_reg fun all => ?_
                  refine t_qz 2 [5, 6, 7, 14, 15] (σ' := [(5, .slice (some ⟨B0, 0, none⟩) 5 5), (6, .int .i64 5), (7, .int .i64 4), (14, .int .i64 m0_3), (15, .bool false)]) (by kernel_rfl) ?_
                  refine t_end ?_
                  show WL _ _ _ _ _ _ _ _
                  refine wl_step ?_
                  refine w_seq ?_
                  refine w_reg fun all => ?_
                  refine t_qz 1 [5, 6, 7, 8, 14, 15] (σ' := [(5, .slice (some ⟨B0, 0, none⟩) 5 5), (6, .int .i64 5), (7, .int .i64 4), (8, .bool true), (14, .int .i64 m0_3), (15, .bool false)]) (by kernel_rfl) ?_
                  refine t_end ?_
                  show W _ _ _ _ _ _ _
                  refine w_seq ?_
                  refine w_cond rfl (fun _ => ?_) (fun c_ => by cases c_)
                  show W _ _ _ _ _ _ _
                  refine w_skip ?_
                  show W _ _ _ _ _ _ _
                  refine w_seq ?_
                  refine w_block ?_
                  refine w_seq ?_
                  refine w_reg fun all => ?_
                  refine t_qz 1 [5, 6, 7, 9, 14, 15] (σ' := [(5, .slice (some ⟨B0, 0, none⟩) 5 5), (6, .int .i64 5), (7, .int .i64 4), (9, .pointer (some ⟨B0, 4, none⟩)), (14, .int .i64 m0_3), (15, .bool false)]) (by kernel_rfl) ?_
                  refine t_v (.ld1 rfl rfl rfl (.at 0 rfl rfl)) ?_
                  refine t_qz 1 [4, 5, 6, 7, 14, 15] (σ' := [(4, .int .i64 m0_4), (5, .slice (some ⟨B0, 0, none⟩) 5 5), (6, .int .i64 5), (7, .int .i64 4), (14, .int .i64 m0_3), (15, .bool false)]) (by kernel_rfl) ?_
                  refine t_end ?_
                  show W _ _ _ _ _ _ _
                  refine w_seq ?_
                  refine w_reg fun all => ?_
                  by_cases c31 : m0_4 < (-1000000000000000)
                  · rw [if_pos c31] at e
                    have c31b : (decide (m0_4 < (-1000000000000000))) = true := decide_eq_true c31
                    refine t_qz 1 [4, 5, 6, 7, 11, 14, 15] (σ' := [(4, .int .i64 m0_4), (5, .slice (some ⟨B0, 0, none⟩) 5 5), (6, .int .i64 5), (7, .int .i64 4), (11, .int .i64 m0_4), (14, .int .i64 m0_3), (15, .bool false)]) (by kernel_rfl) ?_
                    refine t_v (dv_quiet rfl (congrArg (fun t => some (Value.bool t)) c31b)) ?_
                    refine t_qz 4 [5, 6, 7, 14, 15, 16] (σ' := [(5, .slice (some ⟨B0, 0, none⟩) 5 5), (6, .int .i64 5), (7, .int .i64 4), (14, .tuple #[]), (15, .tuple #[]), (16, .bool true)]) (by kernel_rfl) ?_
                    refine t_end ?_
                    show W _ _ _ _ _ _ _
                    refine w_cond rfl (fun _ => ?_) (fun c_ => by cases c_)
                    show W _ _ _ _ _ _ _
                    refine w_seq ?_
                    refine w_reg fun all => ?_
                    refine t_qz 1 [2] (σ' := [(2, .bool false)]) (by kernel_rfl) ?_
                    refine t_end ?_
                    show W _ _ _ _ _ _ _
                    refine w_ret ?_
                    obtain rfl := Option.some.inj e
                    exact ⟨[.bool false], ([⟨B0, [.int .i64 m0_0, .int .i64 m0_1, .int .i64 m0_2, .int .i64 m0_3, .int .i64 m0_4], 5⟩] : List Own), S, ⟨rfl, trivial⟩, VS.sel [0] (by kernel_rfl), rfl, rfl, rfl⟩
                  · rw [if_neg c31] at e
                    have c31b : (decide (m0_4 < (-1000000000000000))) = false := decide_eq_false c31
                    refine t_qz 1 [4, 5, 6, 7, 11, 14, 15] (σ' := [(4, .int .i64 m0_4), (5, .slice (some ⟨B0, 0, none⟩) 5 5), (6, .int .i64 5), (7, .int .i64 4), (11, .int .i64 m0_4), (14, .int .i64 m0_3), (15, .bool false)]) (by kernel_rfl) ?_
                    refine t_v (dv_quiet rfl (congrArg (fun t => some (Value.bool t)) c31b)) ?_
                    by_cases c32 : m0_4 > 1000000000000000
                    · rw [if_pos c32] at e
                      have c32b : (decide (m0_4 > 1000000000000000)) = true := decide_eq_true c32
                      refine t_qz 2 [5, 6, 7, 13, 14, 15] (σ' := [(5, .slice (some ⟨B0, 0, none⟩) 5 5), (6, .int .i64 5), (7, .int .i64 4), (13, .bool false), (14, .int .i64 m0_4), (15, .bool false)]) (by kernel_rfl) ?_
                      refine t_v (dv_quiet rfl (congrArg (fun t => some (Value.bool t)) c32b)) ?_
                      refine t_qz 1 [5, 6, 7, 14, 15, 16] (σ' := [(5, .slice (some ⟨B0, 0, none⟩) 5 5), (6, .int .i64 5), (7, .int .i64 4), (14, .int .i64 m0_4), (15, .bool true), (16, .bool true)]) (by kernel_rfl) ?_
                      refine t_end ?_
                      show W _ _ _ _ _ _ _
                      refine w_cond rfl (fun _ => ?_) (fun c_ => by cases c_)
                      show W _ _ _ _ _ _ _
                      refine w_seq ?_
                      refine w_reg fun all => ?_
                      refine t_qz 1 [2] (σ' := [(2, .bool false)]) (by kernel_rfl) ?_
                      refine t_end ?_
                      show W _ _ _ _ _ _ _
                      refine w_ret ?_
                      obtain rfl := Option.some.inj e
                      exact ⟨[.bool false], ([⟨B0, [.int .i64 m0_0, .int .i64 m0_1, .int .i64 m0_2, .int .i64 m0_3, .int .i64 m0_4], 5⟩] : List Own), S, ⟨rfl, trivial⟩, VS.sel [0] (by kernel_rfl), rfl, rfl, rfl⟩
                    · rw [if_neg c32] at e
                      have c32b : (decide (m0_4 > 1000000000000000)) = false := decide_eq_false c32
                      refine t_qz 2 [5, 6, 7, 13, 14, 15] (σ' := [(5, .slice (some ⟨B0, 0, none⟩) 5 5), (6, .int .i64 5), (7, .int .i64 4), (13, .bool false), (14, .int .i64 m0_4), (15, .bool false)]) (by kernel_rfl) ?_
                      refine t_v (dv_quiet rfl (congrArg (fun t => some (Value.bool t)) c32b)) ?_
                      refine t_qz 1 [5, 6, 7, 14, 15, 16] (σ' := [(5, .slice (some ⟨B0, 0, none⟩) 5 5), (6, .int .i64 5), (7, .int .i64 4), (14, .int .i64 m0_4), (15, .bool false), (16, .bool false)]) (by kernel_rfl) ?_
                      refine t_end ?_
                      show W _ _ _ _ _ _ _
                      refine w_cond rfl (fun c_ => by cases c_) (fun _ => ?_)
                      show W _ _ _ _ _ _ _
                      refine w_skip ?_
                      show W _ _ _ _ _ _ _
                      refine w_reg fun all => ?_
                      refine t_qz 2 [5, 6, 7, 14, 15] (σ' := [(5, .slice (some ⟨B0, 0, none⟩) 5 5), (6, .int .i64 5), (7, .int .i64 5), (14, .int .i64 m0_4), (15, .bool false)]) (by kernel_rfl) ?_
                      refine t_end ?_
                      show WL _ _ _ _ _ _ _ _
                      refine wl_step ?_
                      refine w_seq ?_
                      refine w_reg fun all => ?_
                      refine t_qz 1 [5, 6, 7, 8, 14, 15] (σ' := [(5, .slice (some ⟨B0, 0, none⟩) 5 5), (6, .int .i64 5), (7, .int .i64 5), (8, .bool false), (14, .int .i64 m0_4), (15, .bool false)]) (by kernel_rfl) ?_
                      refine t_end ?_
                      show W _ _ _ _ _ _ _
                      refine w_seq ?_
                      refine w_cond rfl (fun c_ => by cases c_) (fun _ => ?_)
                      show W _ _ _ _ _ _ _
                      refine w_exit ?_
                      show W _ _ _ _ _ _ _
                      refine w_seq ?_
                      refine w_reg fun all => ?_
                      refine t_qz 1 [2] (σ' := [(2, .bool true)]) (by kernel_rfl) ?_
                      refine t_end ?_
                      show W _ _ _ _ _ _ _
                      refine w_ret ?_
                      obtain rfl := Option.some.inj e
                      exact ⟨[.bool true], ([⟨B0, [.int .i64 m0_0, .int .i64 m0_1, .int .i64 m0_2, .int .i64 m0_3, .int .i64 m0_4], 5⟩] : List Own), S, ⟨rfl, trivial⟩, VS.sel [0] (by kernel_rfl), rfl, rfl, rfl⟩

/-- fixed.size -/
def c60 : C :=
  (.seq (.reg [⟨(some 2), .mv (.const (.int .u64 0)), none⟩])
  (.seq (.seq (.reg [⟨(some 3), .mv (.tmp 0), none⟩,
      ⟨(some 4), .bin .lss (.tmp 3) (.const (.int .i64 0)), none⟩])
   (.cond (.tmp 4)
    (.seq (.reg [⟨(some 5), .mv (.tmp 0), none⟩,
        ⟨(some 6), .cnv .u64 (.tmp 5), none⟩,
        ⟨(some 7), .un .neg (.tmp 6), none⟩,
        ⟨(some 2), .mv (.tmp 7), none⟩])
     .ret)
    .skip))
  (.seq (.reg [⟨(some 8), .mv (.tmp 0), none⟩,
     ⟨(some 9), .cnv .u64 (.tmp 8), none⟩,
     ⟨(some 2), .mv (.tmp 9), none⟩])
  .ret)))
def fixed_size.f (n0 : Int) : Option (Int) := if n0 < 0 then (some (wru64 (0 - (wru64 n0)))) else (some (wru64 n0))
theorem fixed_size.ok {S : Seal} {n0 : Int} {r0_ : Int} (e : fixed_size.f n0 = some r0_) :
    Cal Try.prog 60 [.int .i64 n0] [] S fun v H' S' => v = .int .u64 r0_ ∧ H' = [] ∧ S' = S := by
  unfold fixed_size.f at e
  refine cal_of (c := c60) (N := 10) Try.func60 rfl rfl (by kernel_rfl) (rs := [.t 2]) (by kernel_rfl) (Nat.le_of_ble_eq_true rfl) ?_
  unfold c60
  refine w_seq ?_
  refine w_reg fun all => ?_
  refine t_qz 1 [0] (σ' := [(0, .int .i64 n0)]) (by kernel_rfl) ?_
  refine t_end ?_
  show W _ _ _ _ _ _ _
  refine w_seq ?_
  refine w_seq ?_
  refine w_reg fun all => ?_
  by_cases c27 : n0 < 0
  · rw [if_pos c27] at e
    have c27b : (decide (n0 < 0)) = true := decide_eq_true c27
    refine t_qz 1 [0, 3] (σ' := [(0, .int .i64 n0), (3, .int .i64 n0)]) (by kernel_rfl) ?_
    refine t_v (dv_quiet rfl (congrArg (fun t => some (Value.bool t)) c27b)) ?_
    refine t_keep [0, 4] (σ' := [(0, .int .i64 n0), (4, .bool true)]) (by kernel_rfl) ?_
    refine t_end ?_
    show W _ _ _ _ _ _ _
    refine w_cond rfl (fun _ => ?_) (fun c_ => by cases c_)
    show W _ _ _ _ _ _ _
    refine w_seq ?_
    refine w_reg fun all => ?_
    refine t_qz 4 [2] (σ' := [(2, .int .u64 (wru64 (0 - (wru64 n0))))]) (by kernel_rfl) ?_
    refine t_end ?_
    show W _ _ _ _ _ _ _
    refine w_ret ?_
    obtain rfl := Option.some.inj e
    exact ⟨[.int .u64 (wru64 (0 - (wru64 n0)))], [], S, ⟨rfl, trivial⟩, VS.none, rfl, rfl, rfl⟩
  · rw [if_neg c27] at e
    have c27b : (decide (n0 < 0)) = false := decide_eq_false c27
    refine t_qz 1 [0, 3] (σ' := [(0, .int .i64 n0), (3, .int .i64 n0)]) (by kernel_rfl) ?_
    refine t_v (dv_quiet rfl (congrArg (fun t => some (Value.bool t)) c27b)) ?_
    refine t_keep [0, 4] (σ' := [(0, .int .i64 n0), (4, .bool false)]) (by kernel_rfl) ?_
    refine t_end ?_
    show W _ _ _ _ _ _ _
    refine w_cond rfl (fun c_ => by cases c_) (fun _ => ?_)
    show W _ _ _ _ _ _ _
    refine w_skip ?_
    show W _ _ _ _ _ _ _
    refine w_seq ?_
    refine w_reg fun all => ?_
    refine t_qz 3 [2] (σ' := [(2, .int .u64 (wru64 n0))]) (by kernel_rfl) ?_
    refine t_end ?_
    show W _ _ _ _ _ _ _
    refine w_ret ?_
    obtain rfl := Option.some.inj e
    exact ⟨[.int .u64 (wru64 n0)], [], S, ⟨rfl, trivial⟩, VS.none, rfl, rfl, rfl⟩

/-- fixed.MulDiv -/
def c53 : C :=
  (.seq (.reg [⟨(some 6), .mv (.const (.int .i64 0)), none⟩,
     ⟨(some 7), .mv (.const (.bool false)), none⟩])
  (.seq (.seq (.reg [⟨(some 14), .mv (.tmp 2), none⟩,
      ⟨(some 15), .bin .lss (.tmp 14) (.const (.int .i64 1)), none⟩])
   (.cond (.tmp 15)
    (.seq (.reg [⟨(some 6), .mv (.const (.int .i64 0)), none⟩,
        ⟨(some 7), .mv (.const (.bool false)), none⟩])
     .ret)
    .skip))
  (.seq (.reg [⟨(some 17), .mv (.tmp 0), none⟩,
     ⟨(some 18), .call 60 [(.tmp 17)], none⟩,
     ⟨(some 19), .mv (.tmp 1), none⟩,
     ⟨(some 20), .call 60 [(.tmp 19)], none⟩,
     ⟨(some 21), .call 58 [(.tmp 18), (.tmp 20)], none⟩,
     ⟨(some 16), .mv (.tmp 21), none⟩,
     ⟨(some 22), .xt 0 (.tmp 16), none⟩,
     ⟨(some 23), .xt 1 (.tmp 16), none⟩,
     ⟨(some 8), .mv (.tmp 22), none⟩,
     ⟨(some 9), .mv (.tmp 23), none⟩])
  (.seq (.seq (.reg [⟨(some 24), .mv (.tmp 8), none⟩,
      ⟨(some 25), .mv (.tmp 2), none⟩,
      ⟨(some 26), .cnv .u64 (.tmp 25), none⟩,
      ⟨(some 27), .bin .geq (.tmp 24) (.tmp 26), none⟩])
   (.cond (.tmp 27)
    (.seq (.reg [⟨(some 6), .mv (.const (.int .i64 0)), none⟩,
        ⟨(some 7), .mv (.const (.bool false)), none⟩])
     .ret)
    .skip))
  (.seq (.reg [⟨(some 29), .mv (.tmp 8), none⟩,
     ⟨(some 30), .mv (.tmp 9), none⟩,
     ⟨(some 31), .mv (.tmp 2), none⟩,
     ⟨(some 32), .cnv .u64 (.tmp 31), none⟩,
     ⟨(some 33), .call 61 [(.tmp 29), (.tmp 30), (.tmp 32)], none⟩,
     ⟨(some 28), .mv (.tmp 33), none⟩,
     ⟨(some 34), .xt 0 (.tmp 28), none⟩,
     ⟨(some 35), .xt 1 (.tmp 28), none⟩,
     ⟨(some 10), .mv (.tmp 34), none⟩,
     ⟨(some 11), .mv (.tmp 35), none⟩])
  (.seq (.reg [⟨(some 36), .mv (.tmp 0), none⟩,
     ⟨(some 37), .bin .lss (.tmp 36) (.const (.int .i64 0)), none⟩,
     ⟨(some 38), .mv (.tmp 1), none⟩,
     ⟨(some 39), .bin .lss (.tmp 38) (.const (.int .i64 0)), none⟩,
     ⟨(some 40), .beq true (.tmp 37) (.tmp 39), none⟩,
     ⟨(some 12), .mv (.tmp 40), none⟩])
  (.seq (.seq (.reg [⟨(some 41), .mv (.tmp 10), none⟩,
      ⟨(some 42), .bin .gtr (.tmp 41) (.const (.int .u64 9223372036854775808)), none⟩])
   (.cond (.tmp 42)
    (.seq (.reg [⟨(some 6), .mv (.const (.int .i64 0)), none⟩,
        ⟨(some 7), .mv (.const (.bool false)), none⟩])
     .ret)
    .skip))
  (.seq (.seq (.reg [⟨(some 43), .mv (.tmp 2), none⟩,
      ⟨(some 44), .cnv .u64 (.tmp 43), none⟩,
      ⟨(some 45), .mv (.tmp 11), none⟩,
      ⟨(some 46), .bin .sub (.tmp 44) (.tmp 45), none⟩,
      ⟨(some 13), .mv (.tmp 46), none⟩])
   (.seq (.reg [⟨(some 47), .mv (.tmp 11), none⟩,
      ⟨(some 48), .mv (.tmp 13), none⟩,
      ⟨(some 49), .bin .gtr (.tmp 47) (.tmp 48), none⟩,
      ⟨(some 50), .mv (.tmp 49), none⟩,
      ⟨(some 51), .mv (.tmp 11), (some (50, false))⟩,
      ⟨(some 52), .mv (.tmp 13), (some (50, false))⟩,
      ⟨(some 53), .bin .eql (.tmp 51) (.tmp 52), (some (50, false))⟩,
      ⟨(some 54), .mv (.tmp 53), (some (50, false))⟩,
      ⟨(some 55), .mv (.tmp 12), (some (54, true))⟩,
      ⟨(some 56), .un .not (.tmp 55), (some (54, true))⟩,
      ⟨(some 57), .pk (.tmp 54) (.tmp 56) (.const (.bool false)), (some (50, false))⟩,
      ⟨(some 58), .pk (.tmp 50) (.const (.bool true)) (.tmp 57), none⟩])
   (.cond (.tmp 58)
    (.reg [⟨(some 59), .mv (.tmp 10), none⟩,
       ⟨(some 60), .bin .add (.tmp 59) (.const (.int .u64 1)), none⟩,
       ⟨(some 10), .mv (.tmp 60), none⟩])
    .skip)))
  (.seq (.block 0 (.seq (.reg [⟨(some 62), .mv (.tmp 12), none⟩,
       ⟨(some 63), .un .not (.tmp 62), none⟩,
       ⟨(some 64), .mv (.tmp 63), none⟩,
       ⟨(some 65), .mv (.tmp 10), (some (64, true))⟩,
       ⟨(some 66), .bin .leq (.tmp 65) (.const (.int .u64 9223372036854775807)), (some (64, true))⟩,
       ⟨(some 67), .pk (.tmp 64) (.tmp 66) (.const (.bool false)), none⟩,
       ⟨(some 61), .mv (.tmp 67), none⟩])
    (.cond (.tmp 61)
     (.seq (.reg [⟨(some 68), .mv (.tmp 10), none⟩,
         ⟨(some 69), .cnv .i64 (.tmp 68), none⟩,
         ⟨(some 6), .mv (.tmp 69), none⟩,
         ⟨(some 7), .mv (.const (.bool true)), none⟩])
      .ret)
     (.seq (.reg [⟨(some 71), .mv (.tmp 12), none⟩,
         ⟨(some 72), .mv (.tmp 71), none⟩,
         ⟨(some 73), .mv (.tmp 10), (some (72, true))⟩,
         ⟨(some 74), .bin .leq (.tmp 73) (.const (.int .u64 9223372036854775808)), (some (72, true))⟩,
         ⟨(some 75), .pk (.tmp 72) (.tmp 74) (.const (.bool false)), none⟩,
         ⟨(some 70), .mv (.tmp 75), none⟩])
      (.cond (.tmp 70)
       (.seq (.reg [⟨(some 76), .mv (.tmp 10), none⟩,
           ⟨(some 77), .un .neg (.tmp 76), none⟩,
           ⟨(some 78), .cnv .i64 (.tmp 77), none⟩,
           ⟨(some 6), .mv (.tmp 78), none⟩,
           ⟨(some 7), .mv (.const (.bool true)), none⟩])
        .ret)
       .skip)))))
  (.seq (.reg [⟨(some 6), .mv (.const (.int .i64 0)), none⟩,
     ⟨(some 7), .mv (.const (.bool false)), none⟩])
  .ret))))))))))
def fixed_MulDiv.f (a0 : Int) (b1 : Int) (c2 : Int) : Option (Int × Bool) := if c2 < 1 then (some (0, false)) else ((fixed_size.f a0).bind fun t28 => ((fixed_size.f b1).bind fun t30 => ((bits_Mul64.f t28 t30).bind fun (t32, t33) => (if t32 ≥ (wru64 c2) then (some (0, false)) else ((bits_Div64.f t32 t33 (wru64 c2)).bind fun (t36, t37) => (if (decide (a0 < 0)) = (decide (b1 < 0)) then (if t36 > 9223372036854775808 then (some (0, false)) else ((if t37 > (wru64 ((wru64 c2) - t37)) then (some (wru64 (t36 + 1), false)) else (if t37 = (wru64 ((wru64 c2) - t37)) then (some (wru64 (t36 + 1), false)) else (some (t36, false))) : Option (Int × Bool)).bind fun (x46, x47) => ((if x47 = true then (some false) else (if x46 ≤ 9223372036854775807 then (some true) else (some false)) : Option (Bool)).bind fun x53 => (if x53 = true then (some (wr64 x46, true)) else (if x47 = true then (if x46 ≤ 9223372036854775808 then (some (wr64 (wru64 (0 - x46)), true)) else (some (0, false))) else (some (0, false))))))) else (if t36 > 9223372036854775808 then (some (0, false)) else ((if t37 > (wru64 ((wru64 c2) - t37)) then (some (wru64 (t36 + 1), true)) else (if t37 = (wru64 ((wru64 c2) - t37)) then (some (t36, true)) else (some (t36, true))) : Option (Int × Bool)).bind fun (x63, x64) => ((if x64 = true then (some false) else (if x63 ≤ 9223372036854775807 then (some true) else (some false)) : Option (Bool)).bind fun x70 => (if x70 = true then (some (wr64 x63, true)) else (if x64 = true then (if x63 ≤ 9223372036854775808 then (some (wr64 (wru64 (0 - x63)), true)) else (some (0, false))) else (some (0, false)))))))))))))
theorem fixed_MulDiv.ok {S : Seal} {a0 : Int} {b1 : Int} {c2 : Int} {r0_ : Int} {r1_ : Bool} (e : fixed_MulDiv.f a0 b1 c2 = some (r0_, r1_)) :
    Cal Try.prog 53 [.int .i64 a0, .int .i64 b1, .int .i64 c2] [] S fun v H' S' => v = .tuple #[.int .i64 r0_, .bool r1_] ∧ H' = [] ∧ S' = S := by
  unfold fixed_MulDiv.f at e
  refine cal_of (c := c53) (N := 79) Try.func53 rfl rfl (by kernel_rfl) (rs := [.t 6, .t 7]) (by kernel_rfl) (Nat.le_of_ble_eq_true rfl) ?_
  unfold c53
  refine w_seq ?_
  refine w_reg fun all => ?_
  refine t_qz 2 [0, 1, 2] (σ' := [(0, .int .i64 a0), (1, .int .i64 b1), (2, .int .i64 c2)]) (by kernel_rfl) ?_
  refine t_end ?_
  show W _ _ _ _ _ _ _
  refine w_seq ?_
  refine w_seq ?_
  refine w_reg fun all => ?_
  by_cases c26 : c2 < 1
  · rw [if_pos c26] at e
    have c26b : (decide (c2 < 1)) = true := decide_eq_true c26
    refine t_qz 1 [0, 1, 2, 14] (σ' := [(0, .int .i64 a0), (1, .int .i64 b1), (2, .int .i64 c2), (14, .int .i64 c2)]) (by kernel_rfl) ?_
    refine t_v (dv_quiet rfl (congrArg (fun t => some (Value.bool t)) c26b)) ?_
    refine t_keep [0, 1, 2, 15] (σ' := [(0, .int .i64 a0), (1, .int .i64 b1), (2, .int .i64 c2), (15, .bool true)]) (by kernel_rfl) ?_
    refine t_end ?_
    show W _ _ _ _ _ _ _
    refine w_cond rfl (fun _ => ?_) (fun c_ => by cases c_)
    show W _ _ _ _ _ _ _
    refine w_seq ?_
    refine w_reg fun all => ?_
    refine t_qz 2 [6, 7] (σ' := [(6, .int .i64 0), (7, .bool false)]) (by kernel_rfl) ?_
    refine t_end ?_
    show W _ _ _ _ _ _ _
    refine w_ret ?_
    simp only [Option.some.injEq, Prod.mk.injEq] at e
    obtain ⟨rfl, rfl⟩ := e
    exact ⟨[.int .i64 0, .bool false], [], S, ⟨rfl, rfl, trivial⟩, VS.none, rfl, rfl, rfl⟩
  · rw [if_neg c26] at e
    have c26b : (decide (c2 < 1)) = false := decide_eq_false c26
    refine t_qz 1 [0, 1, 2, 14] (σ' := [(0, .int .i64 a0), (1, .int .i64 b1), (2, .int .i64 c2), (14, .int .i64 c2)]) (by kernel_rfl) ?_
    refine t_v (dv_quiet rfl (congrArg (fun t => some (Value.bool t)) c26b)) ?_
    refine t_keep [0, 1, 2, 15] (σ' := [(0, .int .i64 a0), (1, .int .i64 b1), (2, .int .i64 c2), (15, .bool false)]) (by kernel_rfl) ?_
    refine t_end ?_
    show W _ _ _ _ _ _ _
    refine w_cond rfl (fun c_ => by cases c_) (fun _ => ?_)
    show W _ _ _ _ _ _ _
    refine w_skip ?_
    show W _ _ _ _ _ _ _
    refine w_seq ?_
    refine w_reg fun all => ?_
    obtain ⟨t28, h29, e⟩ := bind_of e
    refine t_qz 1 [0, 1, 2, 17] (σ' := [(0, .int .i64 a0), (1, .int .i64 b1), (2, .int .i64 c2), (17, .int .i64 a0)]) (by kernel_rfl) ?_
    refine t_v (.call (vs := [.int .i64 a0]) rfl rfl (by kernel_rfl) (fixed_size.ok h29)) ?_
    obtain ⟨t30, h31, e⟩ := bind_of e
    refine t_qz 1 [0, 1, 2, 18, 19] (σ' := [(0, .int .i64 a0), (1, .int .i64 b1), (2, .int .i64 c2), (18, .int .u64 t28), (19, .int .i64 b1)]) (by kernel_rfl) ?_
    refine t_v (.call (vs := [.int .i64 b1]) rfl rfl (by kernel_rfl) (fixed_size.ok h31)) ?_
    obtain ⟨⟨t32, t33⟩, h34, e⟩ := bind_of e
    try dsimp only at e
    refine t_v (.call (vs := [.int .u64 t28, .int .u64 t30]) rfl rfl (by kernel_rfl) (bits_Mul64.ok h34)) ?_
    refine t_qz 5 [0, 1, 2, 8, 9] (σ' := [(0, .int .i64 a0), (1, .int .i64 b1), (2, .int .i64 c2), (8, .int .u64 t32), (9, .int .u64 t33)]) (by kernel_rfl) ?_
    refine t_end ?_
    show W _ _ _ _ _ _ _
    refine w_seq ?_
    refine w_seq ?_
    refine w_reg fun all => ?_
    by_cases c35 : t32 ≥ (wru64 c2)
    · rw [if_pos c35] at e
      have c35b : (decide (t32 ≥ (wru64 c2))) = true := decide_eq_true c35
      refine t_qz 3 [0, 1, 2, 8, 9, 24, 26] (σ' := [(0, .int .i64 a0), (1, .int .i64 b1), (2, .int .i64 c2), (8, .int .u64 t32), (9, .int .u64 t33), (24, .int .u64 t32), (26, .int .u64 (wru64 c2))]) (by kernel_rfl) ?_
      refine t_v (dv_quiet rfl (congrArg (fun t => some (Value.bool t)) c35b)) ?_
      refine t_keep [0, 1, 2, 8, 9, 27] (σ' := [(0, .int .i64 a0), (1, .int .i64 b1), (2, .int .i64 c2), (8, .int .u64 t32), (9, .int .u64 t33), (27, .bool true)]) (by kernel_rfl) ?_
      refine t_end ?_
      show W _ _ _ _ _ _ _
      refine w_cond rfl (fun _ => ?_) (fun c_ => by cases c_)
      show W _ _ _ _ _ _ _
      refine w_seq ?_
      refine w_reg fun all => ?_
      refine t_qz 2 [6, 7] (σ' := [(6, .int .i64 0), (7, .bool false)]) (by kernel_rfl) ?_
      refine t_end ?_
      show W _ _ _ _ _ _ _
      refine w_ret ?_
      simp only [Option.some.injEq, Prod.mk.injEq] at e
      obtain ⟨rfl, rfl⟩ := e
      exact ⟨[.int .i64 0, .bool false], [], S, ⟨rfl, rfl, trivial⟩, VS.none, rfl, rfl, rfl⟩
    · rw [if_neg c35] at e
      have c35b : (decide (t32 ≥ (wru64 c2))) = false := decide_eq_false c35
      refine t_qz 3 [0, 1, 2, 8, 9, 24, 26] (σ' := [(0, .int .i64 a0), (1, .int .i64 b1), (2, .int .i64 c2), (8, .int .u64 t32), (9, .int .u64 t33), (24, .int .u64 t32), (26, .int .u64 (wru64 c2))]) (by kernel_rfl) ?_
      refine t_v (dv_quiet rfl (congrArg (fun t => some (Value.bool t)) c35b)) ?_
      refine t_keep [0, 1, 2, 8, 9, 27] (σ' := [(0, .int .i64 a0), (1, .int .i64 b1), (2, .int .i64 c2), (8, .int .u64 t32), (9, .int .u64 t33), (27, .bool false)]) (by kernel_rfl) ?_
      refine t_end ?_
      show W _ _ _ _ _ _ _
      refine w_cond rfl (fun c_ => by cases c_) (fun _ => ?_)
      show W _ _ _ _ _ _ _
      refine w_skip ?_
      show W _ _ _ _ _ _ _
      refine w_seq ?_
      refine w_reg fun all => ?_
      obtain ⟨⟨t36, t37⟩, h38, e⟩ := bind_of e
      try dsimp only at e
      refine t_qz 4 [0, 1, 2, 29, 30, 32] (σ' := [(0, .int .i64 a0), (1, .int .i64 b1), (2, .int .i64 c2), (29, .int .u64 t32), (30, .int .u64 t33), (32, .int .u64 (wru64 c2))]) (by kernel_rfl) ?_
      refine t_v (.call (vs := [.int .u64 t32, .int .u64 t33, .int .u64 (wru64 c2)]) rfl rfl (by kernel_rfl) (bits_Div64.ok h38)) ?_
      refine t_qz 5 [0, 1, 2, 10, 11] (σ' := [(0, .int .i64 a0), (1, .int .i64 b1), (2, .int .i64 c2), (10, .int .u64 t36), (11, .int .u64 t37)]) (by kernel_rfl) ?_
      refine t_end ?_
      show W _ _ _ _ _ _ _
      refine w_seq ?_
      refine w_reg fun all => ?_
      by_cases c39 : (decide (a0 < 0)) = (decide (b1 < 0))
      · rw [if_pos c39] at e
        have c39b : ((decide (a0 < 0)) == (decide (b1 < 0))) = true := beq_iff_eq.mpr c39
        refine t_qz 4 [2, 10, 11, 37, 39] (σ' := [(2, .int .i64 c2), (10, .int .u64 t36), (11, .int .u64 t37), (37, .bool (decide (a0 < 0))), (39, .bool (decide (b1 < 0)))]) (by kernel_rfl) ?_
        refine t_v (dv_quiet rfl (congrArg (fun t => some (Value.bool (!t))) c39b)) ?_
        refine t_qz 1 [2, 10, 11, 12] (σ' := [(2, .int .i64 c2), (10, .int .u64 t36), (11, .int .u64 t37), (12, .bool false)]) (by kernel_rfl) ?_
        refine t_end ?_
        show W _ _ _ _ _ _ _
        refine w_seq ?_
        refine w_seq ?_
        refine w_reg fun all => ?_
        by_cases c40 : t36 > 9223372036854775808
        · rw [if_pos c40] at e
          have c40b : (decide (t36 > 9223372036854775808)) = true := decide_eq_true c40
          refine t_qz 1 [2, 10, 11, 12, 41] (σ' := [(2, .int .i64 c2), (10, .int .u64 t36), (11, .int .u64 t37), (12, .bool false), (41, .int .u64 t36)]) (by kernel_rfl) ?_
          refine t_v (dv_quiet rfl (congrArg (fun t => some (Value.bool t)) c40b)) ?_
          refine t_keep [2, 10, 11, 12, 42] (σ' := [(2, .int .i64 c2), (10, .int .u64 t36), (11, .int .u64 t37), (12, .bool false), (42, .bool true)]) (by kernel_rfl) ?_
          refine t_end ?_
          show W _ _ _ _ _ _ _
          refine w_cond rfl (fun _ => ?_) (fun c_ => by cases c_)
          show W _ _ _ _ _ _ _
          refine w_seq ?_
          refine w_reg fun all => ?_
          refine t_qz 2 [6, 7] (σ' := [(6, .int .i64 0), (7, .bool false)]) (by kernel_rfl) ?_
          refine t_end ?_
          show W _ _ _ _ _ _ _
          refine w_ret ?_
          simp only [Option.some.injEq, Prod.mk.injEq] at e
          obtain ⟨rfl, rfl⟩ := e
          exact ⟨[.int .i64 0, .bool false], [], S, ⟨rfl, rfl, trivial⟩, VS.none, rfl, rfl, rfl⟩
        · rw [if_neg c40] at e
          have c40b : (decide (t36 > 9223372036854775808)) = false := decide_eq_false c40
          refine t_qz 1 [2, 10, 11, 12, 41] (σ' := [(2, .int .i64 c2), (10, .int .u64 t36), (11, .int .u64 t37), (12, .bool false), (41, .int .u64 t36)]) (by kernel_rfl) ?_
          refine t_v (dv_quiet rfl (congrArg (fun t => some (Value.bool t)) c40b)) ?_
          refine t_keep [2, 10, 11, 12, 42] (σ' := [(2, .int .i64 c2), (10, .int .u64 t36), (11, .int .u64 t37), (12, .bool false), (42, .bool false)]) (by kernel_rfl) ?_
          refine t_end ?_
          show W _ _ _ _ _ _ _
          refine w_cond rfl (fun c_ => by cases c_) (fun _ => ?_)
          show W _ _ _ _ _ _ _
          refine w_skip ?_
          show W _ _ _ _ _ _ _
          obtain ⟨⟨x46, x47⟩, e42, e⟩ := bind_of e
          try dsimp only at e
          refine w_cut [10, 12] (fun σ_ H_ S_ => [(10, .int .u64 x46), (12, .bool x47)] = σ_ ∧ ([] : List Own) = H_ ∧ S = S_) ?_ ?_
          · show W _ _ _ _ _ _ _
            refine w_seq ?_
            refine w_reg fun all => ?_
            refine t_qz 5 [10, 11, 12, 13] (σ' := [(10, .int .u64 t36), (11, .int .u64 t37), (12, .bool false), (13, .int .u64 (wru64 ((wru64 c2) - t37)))]) (by kernel_rfl) ?_
            refine t_end ?_
            show W _ _ _ _ _ _ _
            refine w_seq ?_
            refine w_reg fun all => ?_
            by_cases c44 : t37 > (wru64 ((wru64 c2) - t37))
            · rw [if_pos c44] at e42
              have c44b : (decide (t37 > (wru64 ((wru64 c2) - t37)))) = true := decide_eq_true c44
              refine t_qz 2 [10, 11, 12, 13, 47, 48] (σ' := [(10, .int .u64 t36), (11, .int .u64 t37), (12, .bool false), (13, .int .u64 (wru64 ((wru64 c2) - t37))), (47, .int .u64 t37), (48, .int .u64 (wru64 ((wru64 c2) - t37)))]) (by kernel_rfl) ?_
              refine t_v (dv_quiet rfl (congrArg (fun t => some (Value.bool t)) c44b)) ?_
              refine t_qz 9 [10, 12, 58] (σ' := [(10, .int .u64 t36), (12, .bool false), (58, .bool true)]) (by kernel_rfl) ?_
              refine t_end ?_
              show W _ _ _ _ _ _ _
              refine w_cond rfl (fun _ => ?_) (fun c_ => by cases c_)
              show W _ _ _ _ _ _ _
              refine w_reg fun all => ?_
              refine t_qz 3 [10, 12] (σ' := [(10, .int .u64 (wru64 (t36 + 1))), (12, .bool false)]) (by kernel_rfl) ?_
              refine t_end ?_
              simp only [Option.some.injEq, Prod.mk.injEq] at e42
              obtain ⟨rfl, rfl⟩ := e42
              exact ⟨([] : List Own), S, VS.sel [] (by kernel_rfl), by kernel_rfl, rfl, rfl⟩
            · rw [if_neg c44] at e42
              have c44b : (decide (t37 > (wru64 ((wru64 c2) - t37)))) = false := decide_eq_false c44
              refine t_qz 2 [10, 11, 12, 13, 47, 48] (σ' := [(10, .int .u64 t36), (11, .int .u64 t37), (12, .bool false), (13, .int .u64 (wru64 ((wru64 c2) - t37))), (47, .int .u64 t37), (48, .int .u64 (wru64 ((wru64 c2) - t37)))]) (by kernel_rfl) ?_
              refine t_v (dv_quiet rfl (congrArg (fun t => some (Value.bool t)) c44b)) ?_
              by_cases c45 : t37 = (wru64 ((wru64 c2) - t37))
              · rw [if_pos c45] at e42
                have c45b : (t37 == (wru64 ((wru64 c2) - t37))) = true := beq_iff_eq.mpr c45
                refine t_qz 3 [10, 12, 50, 51, 52] (σ' := [(10, .int .u64 t36), (12, .bool false), (50, .bool false), (51, .int .u64 t37), (52, .int .u64 (wru64 ((wru64 c2) - t37)))]) (by kernel_rfl) ?_
                refine t_v (dv_quiet rfl (congrArg (fun t => some (Value.bool t)) c45b)) ?_
                refine t_qz 5 [10, 12, 58] (σ' := [(10, .int .u64 t36), (12, .bool false), (58, .bool true)]) (by kernel_rfl) ?_
                refine t_end ?_
                show W _ _ _ _ _ _ _
                refine w_cond rfl (fun _ => ?_) (fun c_ => by cases c_)
                show W _ _ _ _ _ _ _
                refine w_reg fun all => ?_
                refine t_qz 3 [10, 12] (σ' := [(10, .int .u64 (wru64 (t36 + 1))), (12, .bool false)]) (by kernel_rfl) ?_
                refine t_end ?_
                simp only [Option.some.injEq, Prod.mk.injEq] at e42
                obtain ⟨rfl, rfl⟩ := e42
                exact ⟨([] : List Own), S, VS.sel [] (by kernel_rfl), by kernel_rfl, rfl, rfl⟩
              · rw [if_neg c45] at e42
                have c45b : (t37 == (wru64 ((wru64 c2) - t37))) = false := beq_eq_false_iff_ne.mpr c45
                refine t_qz 3 [10, 12, 50, 51, 52] (σ' := [(10, .int .u64 t36), (12, .bool false), (50, .bool false), (51, .int .u64 t37), (52, .int .u64 (wru64 ((wru64 c2) - t37)))]) (by kernel_rfl) ?_
                refine t_v (dv_quiet rfl (congrArg (fun t => some (Value.bool t)) c45b)) ?_
                refine t_qz 5 [10, 12, 58] (σ' := [(10, .int .u64 t36), (12, .bool false), (58, .bool false)]) (by kernel_rfl) ?_
                refine t_end ?_
                show W _ _ _ _ _ _ _
                refine w_cond rfl (fun c_ => by cases c_) (fun _ => ?_)
                show W _ _ _ _ _ _ _
                refine w_skip ?_
                simp only [Option.some.injEq, Prod.mk.injEq] at e42
                obtain ⟨rfl, rfl⟩ := e42
                exact ⟨([] : List Own), S, VS.sel [] (by kernel_rfl), by kernel_rfl, rfl, rfl⟩
          · rintro σ_ H_ S_ ⟨rfl, rfl, rfl⟩
            refine w_seq ?_
            refine w_block ?_
            obtain ⟨x53, e49, e⟩ := bind_of e
            refine w_cut [10, 12, 61] (fun σ_ H_ S_ => [(10, .int .u64 x46), (12, .bool x47), (61, .bool x53)] = σ_ ∧ ([] : List Own) = H_ ∧ S = S_) ?_ ?_
            · show W _ _ _ _ _ _ _
              refine w_reg fun all => ?_
              by_cases c51 : x47 = true
              · rw [if_pos c51] at e49
                have c51b : x47 = true := c51
                refine t_qz 1 [10, 12, 62] (σ' := [(10, .int .u64 x46), (12, .bool x47), (62, .bool x47)]) (by kernel_rfl) ?_
                refine t_v (dv_quiet rfl (congrArg (fun t => some (Value.bool (!t))) c51b)) ?_
                refine t_qz 5 [10, 12, 61] (σ' := [(10, .int .u64 x46), (12, .bool x47), (61, .bool false)]) (by kernel_rfl) ?_
                refine t_end ?_
                obtain rfl := Option.some.inj e49
                exact ⟨([] : List Own), S, VS.sel [] (by kernel_rfl), by kernel_rfl, rfl, rfl⟩
              · rw [if_neg c51] at e49
                have c51b : x47 = false := Bool.eq_false_iff.mpr c51
                refine t_qz 1 [10, 12, 62] (σ' := [(10, .int .u64 x46), (12, .bool x47), (62, .bool x47)]) (by kernel_rfl) ?_
                refine t_v (dv_quiet rfl (congrArg (fun t => some (Value.bool (!t))) c51b)) ?_
                by_cases c52 : x46 ≤ 9223372036854775807
                · rw [if_pos c52] at e49
                  have c52b : (decide (x46 ≤ 9223372036854775807)) = true := decide_eq_true c52
                  refine t_qz 2 [10, 12, 64, 65] (σ' := [(10, .int .u64 x46), (12, .bool x47), (64, .bool true), (65, .int .u64 x46)]) (by kernel_rfl) ?_
                  refine t_v (dv_quiet rfl (congrArg (fun t => some (Value.bool t)) c52b)) ?_
                  refine t_qz 2 [10, 12, 61] (σ' := [(10, .int .u64 x46), (12, .bool x47), (61, .bool true)]) (by kernel_rfl) ?_
                  refine t_end ?_
                  obtain rfl := Option.some.inj e49
                  exact ⟨([] : List Own), S, VS.sel [] (by kernel_rfl), by kernel_rfl, rfl, rfl⟩
                · rw [if_neg c52] at e49
                  have c52b : (decide (x46 ≤ 9223372036854775807)) = false := decide_eq_false c52
                  refine t_qz 2 [10, 12, 64, 65] (σ' := [(10, .int .u64 x46), (12, .bool x47), (64, .bool true), (65, .int .u64 x46)]) (by kernel_rfl) ?_
                  refine t_v (dv_quiet rfl (congrArg (fun t => some (Value.bool t)) c52b)) ?_
                  refine t_qz 2 [10, 12, 61] (σ' := [(10, .int .u64 x46), (12, .bool x47), (61, .bool false)]) (by kernel_rfl) ?_
                  refine t_end ?_
                  obtain rfl := Option.some.inj e49
                  exact ⟨([] : List Own), S, VS.sel [] (by kernel_rfl), by kernel_rfl, rfl, rfl⟩
            · rintro σ_ H_ S_ ⟨rfl, rfl, rfl⟩
              by_cases c54 : x53 = true
              · rw [if_pos c54] at e
                have c54b : x53 = true := c54
                refine w_cond (t := true) (congrArg (fun t => some (Value.bool t)) c54b) (fun _ => ?_) (fun c_ => by cases c_)
                refine w_seq ?_
                refine w_reg fun all => ?_
                refine t_qz 4 [6, 7] (σ' := [(6, .int .i64 (wr64 x46)), (7, .bool true)]) (by kernel_rfl) ?_
                refine t_end ?_
                show W _ _ _ _ _ _ _
                refine w_ret ?_
                simp only [Option.some.injEq, Prod.mk.injEq] at e
                obtain ⟨rfl, rfl⟩ := e
                exact ⟨[.int .i64 (wr64 x46), .bool true], [], S, ⟨rfl, rfl, trivial⟩, VS.none, rfl, rfl, rfl⟩
              · rw [if_neg c54] at e
                have c54b : x53 = false := Bool.eq_false_iff.mpr c54
                refine w_cond (t := false) (congrArg (fun t => some (Value.bool t)) c54b) (fun c_ => by cases c_) (fun _ => ?_)
                refine w_seq ?_
                refine w_reg fun all => ?_
                by_cases c55 : x47 = true
                · rw [if_pos c55] at e
                  have c55b : x47 = true := c55
                  refine t_v (dv_quiet rfl (congrArg (fun t => some (Value.bool t)) c55b)) ?_
                  by_cases c56 : x46 ≤ 9223372036854775808
                  · rw [if_pos c56] at e
                    have c56b : (decide (x46 ≤ 9223372036854775808)) = true := decide_eq_true c56
                    refine t_qz 2 [10, 72, 73] (σ' := [(10, .int .u64 x46), (72, .bool true), (73, .int .u64 x46)]) (by kernel_rfl) ?_
                    refine t_v (dv_quiet rfl (congrArg (fun t => some (Value.bool t)) c56b)) ?_
                    refine t_qz 2 [10, 70] (σ' := [(10, .int .u64 x46), (70, .bool true)]) (by kernel_rfl) ?_
                    refine t_end ?_
                    show W _ _ _ _ _ _ _
                    refine w_cond rfl (fun _ => ?_) (fun c_ => by cases c_)
                    show W _ _ _ _ _ _ _
                    refine w_seq ?_
                    refine w_reg fun all => ?_
                    refine t_qz 5 [6, 7] (σ' := [(6, .int .i64 (wr64 (wru64 (0 - x46)))), (7, .bool true)]) (by kernel_rfl) ?_
                    refine t_end ?_
                    show W _ _ _ _ _ _ _
                    refine w_ret ?_
                    simp only [Option.some.injEq, Prod.mk.injEq] at e
                    obtain ⟨rfl, rfl⟩ := e
                    exact ⟨[.int .i64 (wr64 (wru64 (0 - x46))), .bool true], [], S, ⟨rfl, rfl, trivial⟩, VS.none, rfl, rfl, rfl⟩
                  · rw [if_neg c56] at e
                    have c56b : (decide (x46 ≤ 9223372036854775808)) = false := decide_eq_false c56
                    refine t_qz 2 [10, 72, 73] (σ' := [(10, .int .u64 x46), (72, .bool true), (73, .int .u64 x46)]) (by kernel_rfl) ?_
                    refine t_v (dv_quiet rfl (congrArg (fun t => some (Value.bool t)) c56b)) ?_
                    refine t_qz 2 [10, 70] (σ' := [(10, .int .u64 x46), (70, .bool false)]) (by kernel_rfl) ?_
                    refine t_end ?_
                    show W _ _ _ _ _ _ _
                    refine w_cond rfl (fun c_ => by cases c_) (fun _ => ?_)
                    show W _ _ _ _ _ _ _
                    refine w_skip ?_
                    show W _ _ _ _ _ _ _
                    refine w_seq ?_
                    refine w_reg fun all => ?_
                    refine t_qz 2 [6, 7] (σ' := [(6, .int .i64 0), (7, .bool false)]) (by kernel_rfl) ?_
                    refine t_end ?_
                    show W _ _ _ _ _ _ _
                    refine w_ret ?_
                    simp only [Option.some.injEq, Prod.mk.injEq] at e
                    obtain ⟨rfl, rfl⟩ := e
                    exact ⟨[.int .i64 0, .bool false], [], S, ⟨rfl, rfl, trivial⟩, VS.none, rfl, rfl, rfl⟩
                · rw [if_neg c55] at e
                  have c55b : x47 = false := Bool.eq_false_iff.mpr c55
                  refine t_v (dv_quiet rfl (congrArg (fun t => some (Value.bool t)) c55b)) ?_
                  refine t_qz 5 [10, 70] (σ' := [(10, .int .u64 x46), (70, .bool false)]) (by kernel_rfl) ?_
                  refine t_end ?_
                  show W _ _ _ _ _ _ _
                  refine w_cond rfl (fun c_ => by cases c_) (fun _ => ?_)
                  show W _ _ _ _ _ _ _
                  refine w_skip ?_
                  show W _ _ _ _ _ _ _
                  refine w_seq ?_
                  refine w_reg fun all => ?_
                  refine t_qz 2 [6, 7] (σ' := [(6, .int .i64 0), (7, .bool false)]) (by kernel_rfl) ?_
                  refine t_end ?_
                  show W _ _ _ _ _ _ _
                  refine w_ret ?_
                  simp only [Option.some.injEq, Prod.mk.injEq] at e
                  obtain ⟨rfl, rfl⟩ := e
                  exact ⟨[.int .i64 0, .bool false], [], S, ⟨rfl, rfl, trivial⟩, VS.none, rfl, rfl, rfl⟩
      · rw [if_neg c39] at e
        have c39b : ((decide (a0 < 0)) == (decide (b1 < 0))) = false := beq_eq_false_iff_ne.mpr c39
        refine t_qz 4 [2, 10, 11, 37, 39] (σ' := [(2, .int .i64 c2), (10, .int .u64 t36), (11, .int .u64 t37), (37, .bool (decide (a0 < 0))), (39, .bool (decide (b1 < 0)))]) (by kernel_rfl) ?_
        refine t_v (dv_quiet rfl (congrArg (fun t => some (Value.bool (!t))) c39b)) ?_
        refine t_qz 1 [2, 10, 11, 12] (σ' := [(2, .int .i64 c2), (10, .int .u64 t36), (11, .int .u64 t37), (12, .bool true)]) (by kernel_rfl) ?_
        refine t_end ?_
        show W _ _ _ _ _ _ _
        refine w_seq ?_
        refine w_seq ?_
        refine w_reg fun all => ?_
        by_cases c57 : t36 > 9223372036854775808
        · rw [if_pos c57] at e
          have c57b : (decide (t36 > 9223372036854775808)) = true := decide_eq_true c57
          refine t_qz 1 [2, 10, 11, 12, 41] (σ' := [(2, .int .i64 c2), (10, .int .u64 t36), (11, .int .u64 t37), (12, .bool true), (41, .int .u64 t36)]) (by kernel_rfl) ?_
          refine t_v (dv_quiet rfl (congrArg (fun t => some (Value.bool t)) c57b)) ?_
          refine t_keep [2, 10, 11, 12, 42] (σ' := [(2, .int .i64 c2), (10, .int .u64 t36), (11, .int .u64 t37), (12, .bool true), (42, .bool true)]) (by kernel_rfl) ?_
          refine t_end ?_
          show W _ _ _ _ _ _ _
          refine w_cond rfl (fun _ => ?_) (fun c_ => by cases c_)
          show W _ _ _ _ _ _ _
          refine w_seq ?_
          refine w_reg fun all => ?_
          refine t_qz 2 [6, 7] (σ' := [(6, .int .i64 0), (7, .bool false)]) (by kernel_rfl) ?_
          refine t_end ?_
          show W _ _ _ _ _ _ _
          refine w_ret ?_
          simp only [Option.some.injEq, Prod.mk.injEq] at e
          obtain ⟨rfl, rfl⟩ := e
          exact ⟨[.int .i64 0, .bool false], [], S, ⟨rfl, rfl, trivial⟩, VS.none, rfl, rfl, rfl⟩
        · rw [if_neg c57] at e
          have c57b : (decide (t36 > 9223372036854775808)) = false := decide_eq_false c57
          refine t_qz 1 [2, 10, 11, 12, 41] (σ' := [(2, .int .i64 c2), (10, .int .u64 t36), (11, .int .u64 t37), (12, .bool true), (41, .int .u64 t36)]) (by kernel_rfl) ?_
          refine t_v (dv_quiet rfl (congrArg (fun t => some (Value.bool t)) c57b)) ?_
          refine t_keep [2, 10, 11, 12, 42] (σ' := [(2, .int .i64 c2), (10, .int .u64 t36), (11, .int .u64 t37), (12, .bool true), (42, .bool false)]) (by kernel_rfl) ?_
          refine t_end ?_
          show W _ _ _ _ _ _ _
          refine w_cond rfl (fun c_ => by cases c_) (fun _ => ?_)
          show W _ _ _ _ _ _ _
          refine w_skip ?_
          show W _ _ _ _ _ _ _
          obtain ⟨⟨x63, x64⟩, e59, e⟩ := bind_of e
          try dsimp only at e
          refine w_cut [10, 12] (fun σ_ H_ S_ => [(10, .int .u64 x63), (12, .bool x64)] = σ_ ∧ ([] : List Own) = H_ ∧ S = S_) ?_ ?_
          · show W _ _ _ _ _ _ _
            refine w_seq ?_
            refine w_reg fun all => ?_
            refine t_qz 5 [10, 11, 12, 13] (σ' := [(10, .int .u64 t36), (11, .int .u64 t37), (12, .bool true), (13, .int .u64 (wru64 ((wru64 c2) - t37)))]) (by kernel_rfl) ?_
            refine t_end ?_
            show W _ _ _ _ _ _ _
            refine w_seq ?_
            refine w_reg fun all => ?_
            by_cases c61 : t37 > (wru64 ((wru64 c2) - t37))
            · rw [if_pos c61] at e59
              have c61b : (decide (t37 > (wru64 ((wru64 c2) - t37)))) = true := decide_eq_true c61
              refine t_qz 2 [10, 11, 12, 13, 47, 48] (σ' := [(10, .int .u64 t36), (11, .int .u64 t37), (12, .bool true), (13, .int .u64 (wru64 ((wru64 c2) - t37))), (47, .int .u64 t37), (48, .int .u64 (wru64 ((wru64 c2) - t37)))]) (by kernel_rfl) ?_
              refine t_v (dv_quiet rfl (congrArg (fun t => some (Value.bool t)) c61b)) ?_
              refine t_qz 9 [10, 12, 58] (σ' := [(10, .int .u64 t36), (12, .bool true), (58, .bool true)]) (by kernel_rfl) ?_
              refine t_end ?_
              show W _ _ _ _ _ _ _
              refine w_cond rfl (fun _ => ?_) (fun c_ => by cases c_)
              show W _ _ _ _ _ _ _
              refine w_reg fun all => ?_
              refine t_qz 3 [10, 12] (σ' := [(10, .int .u64 (wru64 (t36 + 1))), (12, .bool true)]) (by kernel_rfl) ?_
              refine t_end ?_
              simp only [Option.some.injEq, Prod.mk.injEq] at e59
              obtain ⟨rfl, rfl⟩ := e59
              exact ⟨([] : List Own), S, VS.sel [] (by kernel_rfl), by kernel_rfl, rfl, rfl⟩
            · rw [if_neg c61] at e59
              have c61b : (decide (t37 > (wru64 ((wru64 c2) - t37)))) = false := decide_eq_false c61
              refine t_qz 2 [10, 11, 12, 13, 47, 48] (σ' := [(10, .int .u64 t36), (11, .int .u64 t37), (12, .bool true), (13, .int .u64 (wru64 ((wru64 c2) - t37))), (47, .int .u64 t37), (48, .int .u64 (wru64 ((wru64 c2) - t37)))]) (by kernel_rfl) ?_
              refine t_v (dv_quiet rfl (congrArg (fun t => some (Value.bool t)) c61b)) ?_
              by_cases c62 : t37 = (wru64 ((wru64 c2) - t37))
              · rw [if_pos c62] at e59
                have c62b : (t37 == (wru64 ((wru64 c2) - t37))) = true := beq_iff_eq.mpr c62
                refine t_qz 3 [10, 12, 50, 51, 52] (σ' := [(10, .int .u64 t36), (12, .bool true), (50, .bool false), (51, .int .u64 t37), (52, .int .u64 (wru64 ((wru64 c2) - t37)))]) (by kernel_rfl) ?_
                refine t_v (dv_quiet rfl (congrArg (fun t => some (Value.bool t)) c62b)) ?_
                refine t_qz 5 [10, 12, 58] (σ' := [(10, .int .u64 t36), (12, .bool true), (58, .bool false)]) (by kernel_rfl) ?_
                refine t_end ?_
                show W _ _ _ _ _ _ _
                refine w_cond rfl (fun c_ => by cases c_) (fun _ => ?_)
                show W _ _ _ _ _ _ _
                refine w_skip ?_
                simp only [Option.some.injEq, Prod.mk.injEq] at e59
                obtain ⟨rfl, rfl⟩ := e59
                exact ⟨([] : List Own), S, VS.sel [] (by kernel_rfl), by kernel_rfl, rfl, rfl⟩
              · rw [if_neg c62] at e59
                have c62b : (t37 == (wru64 ((wru64 c2) - t37))) = false := beq_eq_false_iff_ne.mpr c62
                refine t_qz 3 [10, 12, 50, 51, 52] (σ' := [(10, .int .u64 t36), (12, .bool true), (50, .bool false), (51, .int .u64 t37), (52, .int .u64 (wru64 ((wru64 c2) - t37)))]) (by kernel_rfl) ?_
                refine t_v (dv_quiet rfl (congrArg (fun t => some (Value.bool t)) c62b)) ?_
                refine t_qz 5 [10, 12, 58] (σ' := [(10, .int .u64 t36), (12, .bool true), (58, .bool false)]) (by kernel_rfl) ?_
                refine t_end ?_
                show W _ _ _ _ _ _ _
                refine w_cond rfl (fun c_ => by cases c_) (fun _ => ?_)
                show W _ _ _ _ _ _ _
                refine w_skip ?_
                simp only [Option.some.injEq, Prod.mk.injEq] at e59
                obtain ⟨rfl, rfl⟩ := e59
                exact ⟨([] : List Own), S, VS.sel [] (by kernel_rfl), by kernel_rfl, rfl, rfl⟩
          · rintro σ_ H_ S_ ⟨rfl, rfl, rfl⟩
            refine w_seq ?_
            refine w_block ?_
            obtain ⟨x70, e66, e⟩ := bind_of e
            refine w_cut [10, 12, 61] (fun σ_ H_ S_ => [(10, .int .u64 x63), (12, .bool x64), (61, .bool x70)] = σ_ ∧ ([] : List Own) = H_ ∧ S = S_) ?_ ?_
            · show W _ _ _ _ _ _ _
              refine w_reg fun all => ?_
              by_cases c68 : x64 = true
              · rw [if_pos c68] at e66
                have c68b : x64 = true := c68
                refine t_qz 1 [10, 12, 62] (σ' := [(10, .int .u64 x63), (12, .bool x64), (62, .bool x64)]) (by kernel_rfl) ?_
                refine t_v (dv_quiet rfl (congrArg (fun t => some (Value.bool (!t))) c68b)) ?_
                refine t_qz 5 [10, 12, 61] (σ' := [(10, .int .u64 x63), (12, .bool x64), (61, .bool false)]) (by kernel_rfl) ?_
                refine t_end ?_
                obtain rfl := Option.some.inj e66
                exact ⟨([] : List Own), S, VS.sel [] (by kernel_rfl), by kernel_rfl, rfl, rfl⟩
              · rw [if_neg c68] at e66
                have c68b : x64 = false := Bool.eq_false_iff.mpr c68
                refine t_qz 1 [10, 12, 62] (σ' := [(10, .int .u64 x63), (12, .bool x64), (62, .bool x64)]) (by kernel_rfl) ?_
                refine t_v (dv_quiet rfl (congrArg (fun t => some (Value.bool (!t))) c68b)) ?_
                by_cases c69 : x63 ≤ 9223372036854775807
                · rw [if_pos c69] at e66
                  have c69b : (decide (x63 ≤ 9223372036854775807)) = true := decide_eq_true c69
                  refine t_qz 2 [10, 12, 64, 65] (σ' := [(10, .int .u64 x63), (12, .bool x64), (64, .bool true), (65, .int .u64 x63)]) (by kernel_rfl) ?_
                  refine t_v (dv_quiet rfl (congrArg (fun t => some (Value.bool t)) c69b)) ?_
                  refine t_qz 2 [10, 12, 61] (σ' := [(10, .int .u64 x63), (12, .bool x64), (61, .bool true)]) (by kernel_rfl) ?_
                  refine t_end ?_
                  obtain rfl := Option.some.inj e66
                  exact ⟨([] : List Own), S, VS.sel [] (by kernel_rfl), by kernel_rfl, rfl, rfl⟩
                · rw [if_neg c69] at e66
                  have c69b : (decide (x63 ≤ 9223372036854775807)) = false := decide_eq_false c69
                  refine t_qz 2 [10, 12, 64, 65] (σ' := [(10, .int .u64 x63), (12, .bool x64), (64, .bool true), (65, .int .u64 x63)]) (by kernel_rfl) ?_
                  refine t_v (dv_quiet rfl (congrArg (fun t => some (Value.bool t)) c69b)) ?_
                  refine t_qz 2 [10, 12, 61] (σ' := [(10, .int .u64 x63), (12, .bool x64), (61, .bool false)]) (by kernel_rfl) ?_
                  refine t_end ?_
                  obtain rfl := Option.some.inj e66
                  exact ⟨([] : List Own), S, VS.sel [] (by kernel_rfl), by kernel_rfl, rfl, rfl⟩
            · rintro σ_ H_ S_ ⟨rfl, rfl, rfl⟩
              by_cases c71 : x70 = true
              · rw [if_pos c71] at e
                have c71b : x70 = true := c71
                refine w_cond (t := true) (congrArg (fun t => some (Value.bool t)) c71b) (fun _ => ?_) (fun c_ => by cases c_)
                refine w_seq ?_
                refine w_reg fun all => ?_
                refine t_qz 4 [6, 7] (σ' := [(6, .int .i64 (wr64 x63)), (7, .bool true)]) (by kernel_rfl) ?_
                refine t_end ?_
                show W _ _ _ _ _ _ _
                refine w_ret ?_
                simp only [Option.some.injEq, Prod.mk.injEq] at e
                obtain ⟨rfl, rfl⟩ := e
                exact ⟨[.int .i64 (wr64 x63), .bool true], [], S, ⟨rfl, rfl, trivial⟩, VS.none, rfl, rfl, rfl⟩
              · rw [if_neg c71] at e
                have c71b : x70 = false := Bool.eq_false_iff.mpr c71
                refine w_cond (t := false) (congrArg (fun t => some (Value.bool t)) c71b) (fun c_ => by cases c_) (fun _ => ?_)
                refine w_seq ?_
                refine w_reg fun all => ?_
                by_cases c72 : x64 = true
                · rw [if_pos c72] at e
                  have c72b : x64 = true := c72
                  refine t_v (dv_quiet rfl (congrArg (fun t => some (Value.bool t)) c72b)) ?_
                  by_cases c73 : x63 ≤ 9223372036854775808
                  · rw [if_pos c73] at e
                    have c73b : (decide (x63 ≤ 9223372036854775808)) = true := decide_eq_true c73
                    refine t_qz 2 [10, 72, 73] (σ' := [(10, .int .u64 x63), (72, .bool true), (73, .int .u64 x63)]) (by kernel_rfl) ?_
                    refine t_v (dv_quiet rfl (congrArg (fun t => some (Value.bool t)) c73b)) ?_
                    refine t_qz 2 [10, 70] (σ' := [(10, .int .u64 x63), (70, .bool true)]) (by kernel_rfl) ?_
                    refine t_end ?_
                    show W _ _ _ _ _ _ _
                    refine w_cond rfl (fun _ => ?_) (fun c_ => by cases c_)
                    show W _ _ _ _ _ _ _
                    refine w_seq ?_
                    refine w_reg fun all => ?_
                    refine t_qz 5 [6, 7] (σ' := [(6, .int .i64 (wr64 (wru64 (0 - x63)))), (7, .bool true)]) (by kernel_rfl) ?_
                    refine t_end ?_
                    show W _ _ _ _ _ _ _
                    refine w_ret ?_
                    simp only [Option.some.injEq, Prod.mk.injEq] at e
                    obtain ⟨rfl, rfl⟩ := e
                    exact ⟨[.int .i64 (wr64 (wru64 (0 - x63))), .bool true], [], S, ⟨rfl, rfl, trivial⟩, VS.none, rfl, rfl, rfl⟩
                  · rw [if_neg c73] at e
                    have c73b : (decide (x63 ≤ 9223372036854775808)) = false := decide_eq_false c73
                    refine t_qz 2 [10, 72, 73] (σ' := [(10, .int .u64 x63), (72, .bool true), (73, .int .u64 x63)]) (by kernel_rfl) ?_
                    refine t_v (dv_quiet rfl (congrArg (fun t => some (Value.bool t)) c73b)) ?_
                    refine t_qz 2 [10, 70] (σ' := [(10, .int .u64 x63), (70, .bool false)]) (by kernel_rfl) ?_
                    refine t_end ?_
                    show W _ _ _ _ _ _ _
                    refine w_cond rfl (fun c_ => by cases c_) (fun _ => ?_)
                    show W _ _ _ _ _ _ _
                    refine w_skip ?_
                    show W _ _ _ _ _ _ _
                    refine w_seq ?_
                    refine w_reg fun all => ?_
                    refine t_qz 2 [6, 7] (σ' := [(6, .int .i64 0), (7, .bool false)]) (by kernel_rfl) ?_
                    refine t_end ?_
                    show W _ _ _ _ _ _ _
                    refine w_ret ?_
                    simp only [Option.some.injEq, Prod.mk.injEq] at e
                    obtain ⟨rfl, rfl⟩ := e
                    exact ⟨[.int .i64 0, .bool false], [], S, ⟨rfl, rfl, trivial⟩, VS.none, rfl, rfl, rfl⟩
                · rw [if_neg c72] at e
                  have c72b : x64 = false := Bool.eq_false_iff.mpr c72
                  refine t_v (dv_quiet rfl (congrArg (fun t => some (Value.bool t)) c72b)) ?_
                  refine t_qz 5 [10, 70] (σ' := [(10, .int .u64 x63), (70, .bool false)]) (by kernel_rfl) ?_
                  refine t_end ?_
                  show W _ _ _ _ _ _ _
                  refine w_cond rfl (fun c_ => by cases c_) (fun _ => ?_)
                  show W _ _ _ _ _ _ _
                  refine w_skip ?_
                  show W _ _ _ _ _ _ _
                  refine w_seq ?_
                  refine w_reg fun all => ?_
                  refine t_qz 2 [6, 7] (σ' := [(6, .int .i64 0), (7, .bool false)]) (by kernel_rfl) ?_
                  refine t_end ?_
                  show W _ _ _ _ _ _ _
                  refine w_ret ?_
                  simp only [Option.some.injEq, Prod.mk.injEq] at e
                  obtain ⟨rfl, rfl⟩ := e
                  exact ⟨[.int .i64 0, .bool false], [], S, ⟨rfl, rfl, trivial⟩, VS.none, rfl, rfl, rfl⟩

def turn_within_v2.f (m0_0 : Int) (m0_1 : Int) : Option (Bool) := if m0_0 < (-1000000000000000) then (some false) else (if m0_0 > 1000000000000000 then (some false) else (if m0_1 < (-1000000000000000) then (some false) else (if m0_1 > 1000000000000000 then (some false) else (some true))))
theorem turn_within_v2.ok {S : Seal} {B0 : Nat} {m0_0 : Int} {m0_1 : Int} {r0_ : Bool} (e : turn_within_v2.f m0_0 m0_1 = some r0_) :
    Cal Try.prog 59 [.slice (some ⟨B0, 0, none⟩) 2 2] ([⟨B0, [.int .i64 m0_0, .int .i64 m0_1], 2⟩] : List Own) S fun v H' S' => v = .bool r0_ ∧ H' = ([⟨B0, [.int .i64 m0_0, .int .i64 m0_1], 2⟩] : List Own) ∧ S' = S := by
  unfold turn_within_v2.f at e
  refine cal_of (c := c59) (N := 18) Try.func59 rfl rfl (by kernel_rfl) (rs := [.t 2]) (by kernel_rfl) (Nat.le_of_ble_eq_true rfl) ?_
  unfold c59
  refine w_seq ?_
  refine w_reg fun all => ?_
  refine t_qz 1 [0] (σ' := [(0, .slice (some ⟨B0, 0, none⟩) 2 2)]) (by kernel_rfl) ?_
  refine t_end ?_
  show W _ _ _ _ _ _ _
  refine w_seq ?_
  refine w_seq ?_
  refine w_reg fun all => ?_
  refine t_qz 3 [5, 6, 7] (σ' := [(5, .slice (some ⟨B0, 0, none⟩) 2 2), (6, .int .i64 2), (7, .int .i64 0)]) (by kernel_rfl) ?_
  refine t_end ?_
  show W _ _ _ _ _ _ _
  refine w_block ?_
  refine w_lun 8 ?_
  refine wl_step ?_
  refine w_seq ?_
  refine w_reg fun all => ?_
  refine t_qz 1 [5, 6, 7, 8] (σ' := [(5, .slice (some ⟨B0, 0, none⟩) 2 2), (6, .int .i64 2), (7, .int .i64 0), (8, .bool true)]) (by kernel_rfl) ?_
  refine t_end ?_
  show W _ _ _ _ _ _ _
  refine w_seq ?_
  refine w_cond rfl (fun _ => ?_) (fun c_ => by cases c_)
  show W _ _ _ _ _ _ _
  refine w_skip ?_
  show W _ _ _ _ _ _ _
  refine w_seq ?_
  refine w_block ?_
  refine w_seq ?_
  refine w_reg fun all => ?_
  refine t_qz 1 [5, 6, 7, 9] (σ' := [(5, .slice (some ⟨B0, 0, none⟩) 2 2), (6, .int .i64 2), (7, .int .i64 0), (9, .pointer (some ⟨B0, 0, none⟩))]) (by kernel_rfl) ?_
  refine t_v (.ld1 rfl rfl rfl (.at 0 rfl rfl)) ?_
  refine t_qz 1 [4, 5, 6, 7] (σ' := [(4, .int .i64 m0_0), (5, .slice (some ⟨B0, 0, none⟩) 2 2), (6, .int .i64 2), (7, .int .i64 0)]) (by kernel_rfl) ?_
  refine t_end ?_
  show W _ _ _ _ _ _ _
  refine w_seq ?_
  refine w_reg fun all => ?_
  by_cases c83 : m0_0 < (-1000000000000000)
  · rw [if_pos c83] at e
    have c83b : (decide (m0_0 < (-1000000000000000))) = true := decide_eq_true c83
    refine t_qz 1 [4, 5, 6, 7, 11] (σ' := [(4, .int .i64 m0_0), (5, .slice (some ⟨B0, 0, none⟩) 2 2), (6, .int .i64 2), (7, .int .i64 0), (11, .int .i64 m0_0)]) (by kernel_rfl) ?_
    refine t_v (dv_quiet rfl (congrArg (fun t => some (Value.bool t)) c83b)) ?_
    refine t_qz 4 [5, 6, 7, 14, 15, 16] (σ' := [(5, .slice (some ⟨B0, 0, none⟩) 2 2), (6, .int .i64 2), (7, .int .i64 0), (14, .tuple #[]), (15, .tuple #[]), (16, .bool true)]) (by kernel_rfl) ?_
    refine t_end ?_
    show W _ _ _ _ _ _ _
    refine w_cond rfl (fun _ => ?_) (fun c_ => by cases c_)
    show W _ _ _ _ _ _ _
    refine w_seq ?_
    refine w_reg fun all => ?_
    refine t_qz 1 [2] (σ' := [(2, .bool false)]) (by kernel_rfl) ?_
    refine t_end ?_
    show W _ _ _ _ _ _ _
    refine w_ret ?_
    obtain rfl := Option.some.inj e
    exact ⟨[.bool false], ([⟨B0, [.int .i64 m0_0, .int .i64 m0_1], 2⟩] : List Own), S, ⟨rfl, trivial⟩, VS.sel [0] (by kernel_rfl), rfl, rfl, rfl⟩
  · rw [if_neg c83] at e
    have c83b : (decide (m0_0 < (-1000000000000000))) = false := decide_eq_false c83
    refine t_qz 1 [4, 5, 6, 7, 11] (σ' := [(4, .int .i64 m0_0), (5, .slice (some ⟨B0, 0, none⟩) 2 2), (6, .int .i64 2), (7, .int .i64 0), (11, .int .i64 m0_0)]) (by kernel_rfl) ?_
    refine t_v (dv_quiet rfl (congrArg (fun t => some (Value.bool t)) c83b)) ?_
    by_cases c84 : m0_0 > 1000000000000000
    · rw [if_pos c84] at e
      have c84b : (decide (m0_0 > 1000000000000000)) = true := decide_eq_true c84
      refine t_qz 2 [5, 6, 7, 13, 14] (σ' := [(5, .slice (some ⟨B0, 0, none⟩) 2 2), (6, .int .i64 2), (7, .int .i64 0), (13, .bool false), (14, .int .i64 m0_0)]) (by kernel_rfl) ?_
      refine t_v (dv_quiet rfl (congrArg (fun t => some (Value.bool t)) c84b)) ?_
      refine t_qz 1 [5, 6, 7, 14, 15, 16] (σ' := [(5, .slice (some ⟨B0, 0, none⟩) 2 2), (6, .int .i64 2), (7, .int .i64 0), (14, .int .i64 m0_0), (15, .bool true), (16, .bool true)]) (by kernel_rfl) ?_
      refine t_end ?_
      show W _ _ _ _ _ _ _
      refine w_cond rfl (fun _ => ?_) (fun c_ => by cases c_)
      show W _ _ _ _ _ _ _
      refine w_seq ?_
      refine w_reg fun all => ?_
      refine t_qz 1 [2] (σ' := [(2, .bool false)]) (by kernel_rfl) ?_
      refine t_end ?_
      show W _ _ _ _ _ _ _
      refine w_ret ?_
      obtain rfl := Option.some.inj e
      exact ⟨[.bool false], ([⟨B0, [.int .i64 m0_0, .int .i64 m0_1], 2⟩] : List Own), S, ⟨rfl, trivial⟩, VS.sel [0] (by kernel_rfl), rfl, rfl, rfl⟩
    · rw [if_neg c84] at e
      have c84b : (decide (m0_0 > 1000000000000000)) = false := decide_eq_false c84
      refine t_qz 2 [5, 6, 7, 13, 14] (σ' := [(5, .slice (some ⟨B0, 0, none⟩) 2 2), (6, .int .i64 2), (7, .int .i64 0), (13, .bool false), (14, .int .i64 m0_0)]) (by kernel_rfl) ?_
      refine t_v (dv_quiet rfl (congrArg (fun t => some (Value.bool t)) c84b)) ?_
      refine t_qz 1 [5, 6, 7, 14, 15, 16] (σ' := [(5, .slice (some ⟨B0, 0, none⟩) 2 2), (6, .int .i64 2), (7, .int .i64 0), (14, .int .i64 m0_0), (15, .bool false), (16, .bool false)]) (by kernel_rfl) ?_
      refine t_end ?_
      show W _ _ _ _ _ _ _
      refine w_cond rfl (fun c_ => by cases c_) (fun _ => ?_)
      show W _ _ _ _ _ _ _
      refine w_skip ?_
      show W _ _ _ _ _ _ _
      refine w_reg fun all => ?_
      refine t_qz 2 [5, 6, 7, 14, 15] (σ' := [(5, .slice (some ⟨B0, 0, none⟩) 2 2), (6, .int .i64 2), (7, .int .i64 1), (14, .int .i64 m0_0), (15, .bool false)]) (by kernel_rfl) ?_
      refine t_end ?_
      show WL _ _ _ _ _ _ _ _
      refine wl_step ?_
      refine w_seq ?_
      refine w_reg fun all => ?_
      refine t_qz 1 [5, 6, 7, 8, 14, 15] (σ' := [(5, .slice (some ⟨B0, 0, none⟩) 2 2), (6, .int .i64 2), (7, .int .i64 1), (8, .bool true), (14, .int .i64 m0_0), (15, .bool false)]) (by kernel_rfl) ?_
      refine t_end ?_
      show W _ _ _ _ _ _ _
      refine w_seq ?_
      refine w_cond rfl (fun _ => ?_) (fun c_ => by cases c_)
      show W _ _ _ _ _ _ _
      refine w_skip ?_
      show W _ _ _ _ _ _ _
      refine w_seq ?_
      refine w_block ?_
      refine w_seq ?_
      refine w_reg fun all => ?_
      refine t_qz 1 [5, 6, 7, 9, 14, 15] (σ' := [(5, .slice (some ⟨B0, 0, none⟩) 2 2), (6, .int .i64 2), (7, .int .i64 1), (9, .pointer (some ⟨B0, 1, none⟩)), (14, .int .i64 m0_0), (15, .bool false)]) (by kernel_rfl) ?_
      refine t_v (.ld1 rfl rfl rfl (.at 0 rfl rfl)) ?_
      refine t_qz 1 [4, 5, 6, 7, 14, 15] (σ' := [(4, .int .i64 m0_1), (5, .slice (some ⟨B0, 0, none⟩) 2 2), (6, .int .i64 2), (7, .int .i64 1), (14, .int .i64 m0_0), (15, .bool false)]) (by kernel_rfl) ?_
      refine t_end ?_
      show W _ _ _ _ _ _ _
      refine w_seq ?_
      refine w_reg fun all => ?_
      by_cases c85 : m0_1 < (-1000000000000000)
      · rw [if_pos c85] at e
        have c85b : (decide (m0_1 < (-1000000000000000))) = true := decide_eq_true c85
        refine t_qz 1 [4, 5, 6, 7, 11, 14, 15] (σ' := [(4, .int .i64 m0_1), (5, .slice (some ⟨B0, 0, none⟩) 2 2), (6, .int .i64 2), (7, .int .i64 1), (11, .int .i64 m0_1), (14, .int .i64 m0_0), (15, .bool false)]) (by kernel_rfl) ?_
        refine t_v (dv_quiet rfl (congrArg (fun t => some (Value.bool t)) c85b)) ?_
        refine t_qz 4 [5, 6, 7, 14, 15, 16] (σ' := [(5, .slice (some ⟨B0, 0, none⟩) 2 2), (6, .int .i64 2), (7, .int .i64 1), (14, .tuple #[]), (15, .tuple #[]), (16, .bool true)]) (by kernel_rfl) ?_
        refine t_end ?_
        show W _ _ _ _ _ _ _
        refine w_cond rfl (fun _ => ?_) (fun c_ => by cases c_)
        show W _ _ _ _ _ _ _
        refine w_seq ?_
        refine w_reg fun all => ?_
        refine t_qz 1 [2] (σ' := [(2, .bool false)]) (by kernel_rfl) ?_
        refine t_end ?_
        show W _ _ _ _ _ _ _
        refine w_ret ?_
        obtain rfl := Option.some.inj e
        exact ⟨[.bool false], ([⟨B0, [.int .i64 m0_0, .int .i64 m0_1], 2⟩] : List Own), S, ⟨rfl, trivial⟩, VS.sel [0] (by kernel_rfl), rfl, rfl, rfl⟩
      · rw [if_neg c85] at e
        have c85b : (decide (m0_1 < (-1000000000000000))) = false := decide_eq_false c85
        refine t_qz 1 [4, 5, 6, 7, 11, 14, 15] (σ' := [(4, .int .i64 m0_1), (5, .slice (some ⟨B0, 0, none⟩) 2 2), (6, .int .i64 2), (7, .int .i64 1), (11, .int .i64 m0_1), (14, .int .i64 m0_0), (15, .bool false)]) (by kernel_rfl) ?_
        refine t_v (dv_quiet rfl (congrArg (fun t => some (Value.bool t)) c85b)) ?_
        by_cases c86 : m0_1 > 1000000000000000
        · rw [if_pos c86] at e
          have c86b : (decide (m0_1 > 1000000000000000)) = true := decide_eq_true c86
          refine t_qz 2 [5, 6, 7, 13, 14, 15] (σ' := [(5, .slice (some ⟨B0, 0, none⟩) 2 2), (6, .int .i64 2), (7, .int .i64 1), (13, .bool false), (14, .int .i64 m0_1), (15, .bool false)]) (by kernel_rfl) ?_
          refine t_v (dv_quiet rfl (congrArg (fun t => some (Value.bool t)) c86b)) ?_
          refine t_qz 1 [5, 6, 7, 14, 15, 16] (σ' := [(5, .slice (some ⟨B0, 0, none⟩) 2 2), (6, .int .i64 2), (7, .int .i64 1), (14, .int .i64 m0_1), (15, .bool true), (16, .bool true)]) (by kernel_rfl) ?_
          refine t_end ?_
          show W _ _ _ _ _ _ _
          refine w_cond rfl (fun _ => ?_) (fun c_ => by cases c_)
          show W _ _ _ _ _ _ _
          refine w_seq ?_
          refine w_reg fun all => ?_
          refine t_qz 1 [2] (σ' := [(2, .bool false)]) (by kernel_rfl) ?_
          refine t_end ?_
          show W _ _ _ _ _ _ _
          refine w_ret ?_
          obtain rfl := Option.some.inj e
          exact ⟨[.bool false], ([⟨B0, [.int .i64 m0_0, .int .i64 m0_1], 2⟩] : List Own), S, ⟨rfl, trivial⟩, VS.sel [0] (by kernel_rfl), rfl, rfl, rfl⟩
        · rw [if_neg c86] at e
          have c86b : (decide (m0_1 > 1000000000000000)) = false := decide_eq_false c86
          refine t_qz 2 [5, 6, 7, 13, 14, 15] (σ' := [(5, .slice (some ⟨B0, 0, none⟩) 2 2), (6, .int .i64 2), (7, .int .i64 1), (13, .bool false), (14, .int .i64 m0_1), (15, .bool false)]) (by kernel_rfl) ?_
          refine t_v (dv_quiet rfl (congrArg (fun t => some (Value.bool t)) c86b)) ?_
          refine t_qz 1 [5, 6, 7, 14, 15, 16] (σ' := [(5, .slice (some ⟨B0, 0, none⟩) 2 2), (6, .int .i64 2), (7, .int .i64 1), (14, .int .i64 m0_1), (15, .bool false), (16, .bool false)]) (by kernel_rfl) ?_
          refine t_end ?_
          show W _ _ _ _ _ _ _
          refine w_cond rfl (fun c_ => by cases c_) (fun _ => ?_)
          show W _ _ _ _ _ _ _
          refine w_skip ?_
          show W _ _ _ _ _ _ _
          refine w_reg fun all => ?_
          refine t_qz 2 [5, 6, 7, 14, 15] (σ' := [(5, .slice (some ⟨B0, 0, none⟩) 2 2), (6, .int .i64 2), (7, .int .i64 2), (14, .int .i64 m0_1), (15, .bool false)]) (by kernel_rfl) ?_
          refine t_end ?_
          show WL _ _ _ _ _ _ _ _
          refine wl_step ?_
          refine w_seq ?_
          refine w_reg fun all => ?_
          refine t_qz 1 [5, 6, 7, 8, 14, 15] (σ' := [(5, .slice (some ⟨B0, 0, none⟩) 2 2), (6, .int .i64 2), (7, .int .i64 2), (8, .bool false), (14, .int .i64 m0_1), (15, .bool false)]) (by kernel_rfl) ?_
          refine t_end ?_
          show W _ _ _ _ _ _ _
          refine w_seq ?_
          refine w_cond rfl (fun c_ => by cases c_) (fun _ => ?_)
          show W _ _ _ _ _ _ _
          refine w_exit ?_
          show W _ _ _ _ _ _ _
          refine w_seq ?_
          refine w_reg fun all => ?_
          refine t_qz 1 [2] (σ' := [(2, .bool true)]) (by kernel_rfl) ?_
          refine t_end ?_
          show W _ _ _ _ _ _ _
          refine w_ret ?_
          obtain rfl := Option.some.inj e
          exact ⟨[.bool true], ([⟨B0, [.int .i64 m0_0, .int .i64 m0_1], 2⟩] : List Own), S, ⟨rfl, trivial⟩, VS.sel [0] (by kernel_rfl), rfl, rfl, rfl⟩

/-- turn.Apply -/
def c51 : C :=
  (.seq (.reg [⟨(some 4), .box (.tmp 0), none⟩,
     ⟨(some 5), .box (.tmp 1), none⟩,
     ⟨(some 8), .new [(.int .i64 0), (.int .i64 0)], none⟩,
     ⟨(some 9), .mv (.const (.bool false)), none⟩])
  (.seq (.seq (.reg [⟨(some 15), .pad 0 (.tmp 4), none⟩,
      ⟨(some 16), .ld none (.tmp 15), none⟩,
      ⟨(some 17), .pad 1 (.tmp 4), none⟩,
      ⟨(some 18), .ld none (.tmp 17), none⟩,
      ⟨(some 19), .pad 0 (.tmp 5), none⟩,
      ⟨(some 20), .ld none (.tmp 19), none⟩,
      ⟨(some 21), .pad 1 (.tmp 5), none⟩,
      ⟨(some 22), .ld none (.tmp 21), none⟩,
      ⟨(some 23), .mv (.tmp 2), none⟩,
      ⟨(some 24), .bsl [(.int .i64 0), (.int .i64 0), (.int .i64 0), (.int .i64 0), (.int .i64 0)] 5 [(0, 1, (.tmp 16)), (1, 1, (.tmp 18)), (2, 1, (.tmp 20)), (3, 1, (.tmp 22)), (4, 1, (.tmp 23))], none⟩,
      ⟨(some 25), .call 59 [(.tmp 24)], none⟩,
      ⟨(some 26), .un .not (.tmp 25), none⟩])
   (.cond (.tmp 26)
    (.seq (.reg [⟨(some 27), .bld [(.int .i64 0), (.int .i64 0)] [], none⟩,
        ⟨none, .st 2 (.tmp 8) (.tmp 27), none⟩,
        ⟨(some 9), .mv (.const (.bool false)), none⟩])
     .ret)
    .skip))
  (.seq (.reg [⟨(some 29), .pad 0 (.tmp 4), none⟩,
     ⟨(some 30), .ld none (.tmp 29), none⟩,
     ⟨(some 31), .mv (.tmp 2), none⟩,
     ⟨(some 32), .call 53 [(.tmp 30), (.tmp 31), (.const (.int .i64 1000000))], none⟩,
     ⟨(some 28), .mv (.tmp 32), none⟩,
     ⟨(some 33), .xt 0 (.tmp 28), none⟩,
     ⟨(some 34), .xt 1 (.tmp 28), none⟩,
     ⟨(some 10), .mv (.tmp 33), none⟩,
     ⟨(some 11), .mv (.tmp 34), none⟩])
  (.seq (.reg [⟨(some 36), .pad 1 (.tmp 4), none⟩,
     ⟨(some 37), .ld none (.tmp 36), none⟩,
     ⟨(some 38), .mv (.tmp 2), none⟩,
     ⟨(some 39), .call 53 [(.tmp 37), (.tmp 38), (.const (.int .i64 1000000))], none⟩,
     ⟨(some 35), .mv (.tmp 39), none⟩,
     ⟨(some 40), .xt 0 (.tmp 35), none⟩,
     ⟨(some 41), .xt 1 (.tmp 35), none⟩,
     ⟨(some 12), .mv (.tmp 40), none⟩,
     ⟨(some 13), .mv (.tmp 41), none⟩])
  (.seq (.seq (.reg [⟨(some 42), .mv (.tmp 11), none⟩,
      ⟨(some 43), .un .not (.tmp 42), none⟩,
      ⟨(some 44), .mv (.tmp 43), none⟩,
      ⟨(some 45), .mv (.tmp 13), (some (44, false))⟩,
      ⟨(some 46), .un .not (.tmp 45), (some (44, false))⟩,
      ⟨(some 47), .pk (.tmp 44) (.const (.bool true)) (.tmp 46), none⟩,
      ⟨(some 48), .mv (.tmp 47), none⟩,
      ⟨(some 49), .mv (.tmp 10), (some (48, false))⟩,
      ⟨(some 50), .mv (.tmp 12), (some (48, false))⟩,
      ⟨(some 51), .bsl [(.int .i64 0), (.int .i64 0)] 2 [(0, 1, (.tmp 49)), (1, 1, (.tmp 50))], (some (48, false))⟩,
      ⟨(some 52), .call 59 [(.tmp 51)], (some (48, false))⟩,
      ⟨(some 53), .un .not (.tmp 52), (some (48, false))⟩,
      ⟨(some 54), .pk (.tmp 48) (.const (.bool true)) (.tmp 53), none⟩])
   (.cond (.tmp 54)
    (.seq (.reg [⟨(some 55), .bld [(.int .i64 0), (.int .i64 0)] [], none⟩,
        ⟨none, .st 2 (.tmp 8) (.tmp 55), none⟩,
        ⟨(some 9), .mv (.const (.bool false)), none⟩])
     .ret)
    .skip))
  (.seq (.reg [⟨(some 56), .mv (.tmp 10), none⟩,
     ⟨(some 57), .mv (.tmp 12), none⟩,
     ⟨(some 58), .bld [(.int .i64 0), (.int .i64 0)] [(0, 1, (.tmp 56)), (1, 1, (.tmp 57))], none⟩,
     ⟨(some 59), .mv (.tmp 3), none⟩,
     ⟨(some 60), .call 50 [(.tmp 58), (.tmp 59)], none⟩,
     ⟨(some 14), .new [(.int .i64 0), (.int .i64 0)], none⟩,
     ⟨none, .st 2 (.tmp 14) (.tmp 60), none⟩])
  (.seq (.reg [⟨(some 61), .pad 0 (.tmp 14), none⟩,
     ⟨(some 62), .ld none (.tmp 61), none⟩,
     ⟨(some 63), .pad 0 (.tmp 5), none⟩,
     ⟨(some 64), .ld none (.tmp 63), none⟩,
     ⟨(some 65), .bin .add (.tmp 62) (.tmp 64), none⟩,
     ⟨(some 66), .pad 0 (.tmp 14), none⟩,
     ⟨none, .st 1 (.tmp 66) (.tmp 65), none⟩])
  (.seq (.reg [⟨(some 67), .pad 1 (.tmp 14), none⟩,
     ⟨(some 68), .ld none (.tmp 67), none⟩,
     ⟨(some 69), .pad 1 (.tmp 5), none⟩,
     ⟨(some 70), .ld none (.tmp 69), none⟩,
     ⟨(some 71), .bin .add (.tmp 68) (.tmp 70), none⟩,
     ⟨(some 72), .pad 1 (.tmp 14), none⟩,
     ⟨none, .st 1 (.tmp 72) (.tmp 71), none⟩])
  (.seq (.seq (.reg [⟨(some 73), .pad 0 (.tmp 14), none⟩,
      ⟨(some 74), .ld none (.tmp 73), none⟩,
      ⟨(some 75), .pad 1 (.tmp 14), none⟩,
      ⟨(some 76), .ld none (.tmp 75), none⟩,
      ⟨(some 77), .bsl [(.int .i64 0), (.int .i64 0)] 2 [(0, 1, (.tmp 74)), (1, 1, (.tmp 76))], none⟩,
      ⟨(some 78), .call 59 [(.tmp 77)], none⟩,
      ⟨(some 79), .un .not (.tmp 78), none⟩])
   (.cond (.tmp 79)
    (.seq (.reg [⟨(some 80), .bld [(.int .i64 0), (.int .i64 0)] [], none⟩,
        ⟨none, .st 2 (.tmp 8) (.tmp 80), none⟩,
        ⟨(some 9), .mv (.const (.bool false)), none⟩])
     .ret)
    .skip))
  (.seq (.reg [⟨(some 81), .ld (some 2) (.tmp 14), none⟩,
     ⟨none, .st 2 (.tmp 8) (.tmp 81), none⟩,
     ⟨(some 9), .mv (.const (.bool true)), none⟩])
  .ret))))))))))
def turn_Apply.f (k : Nat) (p0_X : Int) (p0_Y : Int) (at1_X : Int) (at1_Y : Int) (by2 : Int) (quarters3 : Int) : Option (Int × Int × Bool) := (turn_within_v1.f p0_X p0_Y at1_X at1_Y by2).bind fun t23 => (if t23 = true then ((fixed_MulDiv.f p0_X by2 1000000).bind fun (t74, t75) => ((fixed_MulDiv.f p0_Y by2 1000000).bind fun (t77, t78) => (if t75 = true then (if t78 = true then ((turn_within_v2.f t74 t77).bind fun t83 => (if t83 = true then ((turn_Quarter.f k t74 t77 quarters3).bind fun (t86, t87) => ((turn_within_v2.f (wr64 (t86 + at1_X)) (wr64 (t87 + at1_Y))).bind fun t91 => (if t91 = true then (some (wr64 (t86 + at1_X), wr64 (t87 + at1_Y), true)) else (some (0, 0, false))))) else (some (0, 0, false)))) else (some (0, 0, false))) else (some (0, 0, false))))) else (some (0, 0, false)))
theorem turn_Apply.ok {S : Seal} {k : Nat} {p0_X : Int} {p0_Y : Int} {at1_X : Int} {at1_Y : Int} {by2 : Int} {quarters3 : Int} {r0_ : Int} {r1_ : Int} {r2_ : Bool} (e : turn_Apply.f k p0_X p0_Y at1_X at1_Y by2 quarters3 = some (r0_, r1_, r2_)) :
    Cal Try.prog 51 [.agg #[.int .i64 p0_X, .int .i64 p0_Y], .agg #[.int .i64 at1_X, .int .i64 at1_Y], .int .i64 by2, .int .i64 quarters3] [] S fun v H' S' => v = .tuple #[.agg #[.int .i64 r0_, .int .i64 r1_], .bool r2_] ∧ H' = [] ∧ S' = S := by
  unfold turn_Apply.f at e
  refine cal_of (c := c51) (N := 82) Try.func51 rfl rfl (by kernel_rfl) (rs := [.cn 2 8, .t 9]) (by kernel_rfl) (Nat.le_of_ble_eq_true rfl) ?_
  unfold c51
  refine w_seq ?_
  refine w_reg fun all => ?_
  refine t_a (.box rfl rfl rfl) fun b19 fb19 sb19 => ?_
  refine t_a (.box rfl rfl rfl) fun b20 fb20 sb20 => ?_
  refine t_a (.new rfl rfl) fun b21 fb21 sb21 => ?_
  refine t_qz 1 [2, 3, 4, 5, 8] (σ' := [(2, .int .i64 by2), (3, .int .i64 quarters3), (4, .pointer (some ⟨b19, 0, none⟩)), (5, .pointer (some ⟨b20, 0, none⟩)), (8, .pointer (some ⟨b21, 0, none⟩))]) (by kernel_rfl) ?_
  refine t_end ?_
  show W _ _ _ _ _ _ _
  refine w_seq ?_
  refine w_seq ?_
  refine w_reg fun all => ?_
  refine t_qz 1 [2, 3, 4, 5, 8, 15] (σ' := [(2, .int .i64 by2), (3, .int .i64 quarters3), (4, .pointer (some ⟨b19, 0, none⟩)), (5, .pointer (some ⟨b20, 0, none⟩)), (8, .pointer (some ⟨b21, 0, none⟩)), (15, .pointer (some ⟨b19, 0, none⟩))]) (by kernel_rfl) ?_
  refine t_v (.ld1 rfl rfl rfl (.at 2 rfl rfl)) ?_
  refine t_qz 1 [2, 3, 4, 5, 8, 16, 17] (σ' := [(2, .int .i64 by2), (3, .int .i64 quarters3), (4, .pointer (some ⟨b19, 0, none⟩)), (5, .pointer (some ⟨b20, 0, none⟩)), (8, .pointer (some ⟨b21, 0, none⟩)), (16, .int .i64 p0_X), (17, .pointer (some ⟨b19, 1, none⟩))]) (by kernel_rfl) ?_
  refine t_v (.ld1 rfl rfl rfl (.at 2 rfl rfl)) ?_
  refine t_qz 1 [2, 3, 4, 5, 8, 16, 18, 19] (σ' := [(2, .int .i64 by2), (3, .int .i64 quarters3), (4, .pointer (some ⟨b19, 0, none⟩)), (5, .pointer (some ⟨b20, 0, none⟩)), (8, .pointer (some ⟨b21, 0, none⟩)), (16, .int .i64 p0_X), (18, .int .i64 p0_Y), (19, .pointer (some ⟨b20, 0, none⟩))]) (by kernel_rfl) ?_
  refine t_v (.ld1 rfl rfl rfl (.at 1 rfl rfl)) ?_
  refine t_qz 1 [2, 3, 4, 5, 8, 16, 18, 20, 21] (σ' := [(2, .int .i64 by2), (3, .int .i64 quarters3), (4, .pointer (some ⟨b19, 0, none⟩)), (5, .pointer (some ⟨b20, 0, none⟩)), (8, .pointer (some ⟨b21, 0, none⟩)), (16, .int .i64 p0_X), (18, .int .i64 p0_Y), (20, .int .i64 at1_X), (21, .pointer (some ⟨b20, 1, none⟩))]) (by kernel_rfl) ?_
  refine t_v (.ld1 rfl rfl rfl (.at 1 rfl rfl)) ?_
  refine t_qz 1 [2, 3, 4, 5, 8, 16, 18, 20, 22, 23] (σ' := [(2, .int .i64 by2), (3, .int .i64 quarters3), (4, .pointer (some ⟨b19, 0, none⟩)), (5, .pointer (some ⟨b20, 0, none⟩)), (8, .pointer (some ⟨b21, 0, none⟩)), (16, .int .i64 p0_X), (18, .int .i64 p0_Y), (20, .int .i64 at1_X), (22, .int .i64 at1_Y), (23, .int .i64 by2)]) (by kernel_rfl) ?_
  refine t_a (.bsl rfl rfl rfl rfl) fun b22 fb22 sb22 => ?_
  obtain ⟨t23, h24, e⟩ := bind_of e
  refine t_v (.callr (vs := [.slice (some ⟨b22, 0, none⟩) 5 5]) (A := ([⟨b22, [.int .i64 p0_X, .int .i64 p0_Y, .int .i64 at1_X, .int .i64 at1_Y, .int .i64 by2], 5⟩] : List Own)) (F0 := ([⟨b21, [.int .i64 0, .int .i64 0], 2⟩, ⟨b20, [.int .i64 at1_X, .int .i64 at1_Y], 2⟩, ⟨b19, [.int .i64 p0_X, .int .i64 p0_Y], 2⟩] : List Own)) rfl rfl (by kernel_rfl) (sel_perm (is := [0]) (by kernel_rfl)) (turn_within_v1.ok h24)) ?_
  by_cases c25 : t23 = true
  · rw [if_pos c25] at e
    have c25b : t23 = true := c25
    refine t_v (dv_quiet rfl (congrArg (fun t => some (Value.bool (!t))) c25b)) ?_
    refine t_keep [2, 3, 4, 5, 8, 26] (σ' := [(2, .int .i64 by2), (3, .int .i64 quarters3), (4, .pointer (some ⟨b19, 0, none⟩)), (5, .pointer (some ⟨b20, 0, none⟩)), (8, .pointer (some ⟨b21, 0, none⟩)), (26, .bool false)]) (by kernel_rfl) ?_
    refine t_end ?_
    show W _ _ _ _ _ _ _
    refine w_cond rfl (fun c_ => by cases c_) (fun _ => ?_)
    show W _ _ _ _ _ _ _
    refine w_skip ?_
    show W _ _ _ _ _ _ _
    refine w_seq ?_
    refine w_reg fun all => ?_
    refine t_qz 1 [2, 3, 4, 5, 8, 29] (σ' := [(2, .int .i64 by2), (3, .int .i64 quarters3), (4, .pointer (some ⟨b19, 0, none⟩)), (5, .pointer (some ⟨b20, 0, none⟩)), (8, .pointer (some ⟨b21, 0, none⟩)), (29, .pointer (some ⟨b19, 0, none⟩))]) (by kernel_rfl) ?_
    refine t_v (.ld1 rfl rfl rfl (.at 3 rfl rfl)) ?_
    obtain ⟨⟨t74, t75⟩, h76, e⟩ := bind_of e
    try dsimp only at e
    refine t_qz 1 [2, 3, 4, 5, 8, 30, 31] (σ' := [(2, .int .i64 by2), (3, .int .i64 quarters3), (4, .pointer (some ⟨b19, 0, none⟩)), (5, .pointer (some ⟨b20, 0, none⟩)), (8, .pointer (some ⟨b21, 0, none⟩)), (30, .int .i64 p0_X), (31, .int .i64 by2)]) (by kernel_rfl) ?_
    refine t_v (.call (vs := [.int .i64 p0_X, .int .i64 by2, .int .i64 1000000]) rfl rfl (by kernel_rfl) (fixed_MulDiv.ok h76)) ?_
    refine t_qz 5 [2, 3, 4, 5, 8, 10, 11] (σ' := [(2, .int .i64 by2), (3, .int .i64 quarters3), (4, .pointer (some ⟨b19, 0, none⟩)), (5, .pointer (some ⟨b20, 0, none⟩)), (8, .pointer (some ⟨b21, 0, none⟩)), (10, .int .i64 t74), (11, .bool t75)]) (by kernel_rfl) ?_
    refine t_end ?_
    show W _ _ _ _ _ _ _
    refine w_seq ?_
    refine w_reg fun all => ?_
    refine t_qz 1 [2, 3, 5, 8, 10, 11, 36] (σ' := [(2, .int .i64 by2), (3, .int .i64 quarters3), (5, .pointer (some ⟨b20, 0, none⟩)), (8, .pointer (some ⟨b21, 0, none⟩)), (10, .int .i64 t74), (11, .bool t75), (36, .pointer (some ⟨b19, 1, none⟩))]) (by kernel_rfl) ?_
    refine t_v (.ld1 rfl rfl rfl (.at 3 rfl rfl)) ?_
    obtain ⟨⟨t77, t78⟩, h79, e⟩ := bind_of e
    try dsimp only at e
    refine t_qz 1 [3, 5, 8, 10, 11, 37, 38] (σ' := [(3, .int .i64 quarters3), (5, .pointer (some ⟨b20, 0, none⟩)), (8, .pointer (some ⟨b21, 0, none⟩)), (10, .int .i64 t74), (11, .bool t75), (37, .int .i64 p0_Y), (38, .int .i64 by2)]) (by kernel_rfl) ?_
    refine t_v (.call (vs := [.int .i64 p0_Y, .int .i64 by2, .int .i64 1000000]) rfl rfl (by kernel_rfl) (fixed_MulDiv.ok h79)) ?_
    refine t_qz 5 [3, 5, 8, 10, 11, 12, 13] (σ' := [(3, .int .i64 quarters3), (5, .pointer (some ⟨b20, 0, none⟩)), (8, .pointer (some ⟨b21, 0, none⟩)), (10, .int .i64 t74), (11, .bool t75), (12, .int .i64 t77), (13, .bool t78)]) (by kernel_rfl) ?_
    refine t_end ?_
    show W _ _ _ _ _ _ _
    refine w_seq ?_
    refine w_seq ?_
    refine w_reg fun all => ?_
    by_cases c80 : t75 = true
    · rw [if_pos c80] at e
      have c80b : t75 = true := c80
      refine t_qz 1 [3, 5, 8, 10, 12, 13, 42] (σ' := [(3, .int .i64 quarters3), (5, .pointer (some ⟨b20, 0, none⟩)), (8, .pointer (some ⟨b21, 0, none⟩)), (10, .int .i64 t74), (12, .int .i64 t77), (13, .bool t78), (42, .bool t75)]) (by kernel_rfl) ?_
      refine t_v (dv_quiet rfl (congrArg (fun t => some (Value.bool (!t))) c80b)) ?_
      by_cases c81 : t78 = true
      · rw [if_pos c81] at e
        have c81b : t78 = true := c81
        refine t_qz 2 [3, 5, 8, 10, 12, 44, 45] (σ' := [(3, .int .i64 quarters3), (5, .pointer (some ⟨b20, 0, none⟩)), (8, .pointer (some ⟨b21, 0, none⟩)), (10, .int .i64 t74), (12, .int .i64 t77), (44, .bool false), (45, .bool t78)]) (by kernel_rfl) ?_
        refine t_v (dv_quiet rfl (congrArg (fun t => some (Value.bool (!t))) c81b)) ?_
        refine t_qz 4 [3, 5, 8, 10, 12, 48, 49, 50] (σ' := [(3, .int .i64 quarters3), (5, .pointer (some ⟨b20, 0, none⟩)), (8, .pointer (some ⟨b21, 0, none⟩)), (10, .int .i64 t74), (12, .int .i64 t77), (48, .bool false), (49, .int .i64 t74), (50, .int .i64 t77)]) (by kernel_rfl) ?_
        refine t_a (.bsl rfl rfl rfl rfl) fun b82 fb82 sb82 => ?_
        obtain ⟨t83, h84, e⟩ := bind_of e
        refine t_v (.callr (vs := [.slice (some ⟨b82, 0, none⟩) 2 2]) (A := ([⟨b82, [.int .i64 t74, .int .i64 t77], 2⟩] : List Own)) (F0 := ([⟨b22, [.int .i64 p0_X, .int .i64 p0_Y, .int .i64 at1_X, .int .i64 at1_Y, .int .i64 by2], 5⟩, ⟨b21, [.int .i64 0, .int .i64 0], 2⟩, ⟨b20, [.int .i64 at1_X, .int .i64 at1_Y], 2⟩, ⟨b19, [.int .i64 p0_X, .int .i64 p0_Y], 2⟩] : List Own)) rfl rfl (by kernel_rfl) (sel_perm (is := [0]) (by kernel_rfl)) (turn_within_v2.ok h84)) ?_
        by_cases c85 : t83 = true
        · rw [if_pos c85] at e
          have c85b : t83 = true := c85
          refine t_v (dv_quiet rfl (congrArg (fun t => some (Value.bool (!t))) c85b)) ?_
          refine t_qz 1 [3, 5, 8, 10, 12, 54] (σ' := [(3, .int .i64 quarters3), (5, .pointer (some ⟨b20, 0, none⟩)), (8, .pointer (some ⟨b21, 0, none⟩)), (10, .int .i64 t74), (12, .int .i64 t77), (54, .bool false)]) (by kernel_rfl) ?_
          refine t_end ?_
          show W _ _ _ _ _ _ _
          refine w_cond rfl (fun c_ => by cases c_) (fun _ => ?_)
          show W _ _ _ _ _ _ _
          refine w_skip ?_
          show W _ _ _ _ _ _ _
          refine w_seq ?_
          refine w_reg fun all => ?_
          obtain ⟨⟨t86, t87⟩, h88, e⟩ := bind_of e
          try dsimp only at e
          refine t_qz 4 [5, 8, 58, 59] (σ' := [(5, .pointer (some ⟨b20, 0, none⟩)), (8, .pointer (some ⟨b21, 0, none⟩)), (58, .agg #[.int .i64 t74, .int .i64 t77]), (59, .int .i64 quarters3)]) (by kernel_rfl) ?_
          refine t_v (.call (vs := [.agg #[.int .i64 t74, .int .i64 t77], .int .i64 quarters3]) rfl rfl (by kernel_rfl) (turn_Quarter.ok h88)) ?_
          refine t_a (.new rfl rfl) fun b89 fb89 sb89 => ?_
          refine t_sti 0 (cs := [.int .i64 t86, .int .i64 t87]) rfl rfl rfl rfl rfl rfl rfl rfl rfl ?_
          refine t_keep [5, 8, 14] (σ' := [(5, .pointer (some ⟨b20, 0, none⟩)), (8, .pointer (some ⟨b21, 0, none⟩)), (14, .pointer (some ⟨b89, 0, none⟩))]) (by kernel_rfl) ?_
          refine t_end ?_
          show W _ _ _ _ _ _ _
          refine w_seq ?_
          refine w_reg fun all => ?_
          refine t_qz 1 [5, 8, 14, 61] (σ' := [(5, .pointer (some ⟨b20, 0, none⟩)), (8, .pointer (some ⟨b21, 0, none⟩)), (14, .pointer (some ⟨b89, 0, none⟩)), (61, .pointer (some ⟨b89, 0, none⟩))]) (by kernel_rfl) ?_
          refine t_v (.ld1 rfl rfl rfl (.at 0 rfl rfl)) ?_
          refine t_qz 1 [5, 8, 14, 62, 63] (σ' := [(5, .pointer (some ⟨b20, 0, none⟩)), (8, .pointer (some ⟨b21, 0, none⟩)), (14, .pointer (some ⟨b89, 0, none⟩)), (62, .int .i64 t86), (63, .pointer (some ⟨b20, 0, none⟩))]) (by kernel_rfl) ?_
          refine t_v (.ld1 rfl rfl rfl (.at 4 rfl rfl)) ?_
          refine t_qz 2 [5, 8, 14, 65, 66] (σ' := [(5, .pointer (some ⟨b20, 0, none⟩)), (8, .pointer (some ⟨b21, 0, none⟩)), (14, .pointer (some ⟨b89, 0, none⟩)), (65, .int .i64 (wr64 (t86 + at1_X))), (66, .pointer (some ⟨b89, 0, none⟩))]) (by kernel_rfl) ?_
          refine t_sti 0 (cs := [.int .i64 (wr64 (t86 + at1_X)), .int .i64 t87]) rfl rfl rfl rfl rfl rfl rfl rfl rfl ?_
          refine t_keep [5, 8, 14] (σ' := [(5, .pointer (some ⟨b20, 0, none⟩)), (8, .pointer (some ⟨b21, 0, none⟩)), (14, .pointer (some ⟨b89, 0, none⟩))]) (by kernel_rfl) ?_
          refine t_end ?_
          show W _ _ _ _ _ _ _
          refine w_seq ?_
          refine w_reg fun all => ?_
          refine t_qz 1 [5, 8, 14, 67] (σ' := [(5, .pointer (some ⟨b20, 0, none⟩)), (8, .pointer (some ⟨b21, 0, none⟩)), (14, .pointer (some ⟨b89, 0, none⟩)), (67, .pointer (some ⟨b89, 1, none⟩))]) (by kernel_rfl) ?_
          refine t_v (.ld1 rfl rfl rfl (.at 0 rfl rfl)) ?_
          refine t_qz 1 [8, 14, 68, 69] (σ' := [(8, .pointer (some ⟨b21, 0, none⟩)), (14, .pointer (some ⟨b89, 0, none⟩)), (68, .int .i64 t87), (69, .pointer (some ⟨b20, 1, none⟩))]) (by kernel_rfl) ?_
          refine t_v (.ld1 rfl rfl rfl (.at 4 rfl rfl)) ?_
          refine t_qz 2 [8, 14, 71, 72] (σ' := [(8, .pointer (some ⟨b21, 0, none⟩)), (14, .pointer (some ⟨b89, 0, none⟩)), (71, .int .i64 (wr64 (t87 + at1_Y))), (72, .pointer (some ⟨b89, 1, none⟩))]) (by kernel_rfl) ?_
          refine t_sti 0 (cs := [.int .i64 (wr64 (t86 + at1_X)), .int .i64 (wr64 (t87 + at1_Y))]) rfl rfl rfl rfl rfl rfl rfl rfl rfl ?_
          refine t_keep [8, 14] (σ' := [(8, .pointer (some ⟨b21, 0, none⟩)), (14, .pointer (some ⟨b89, 0, none⟩))]) (by kernel_rfl) ?_
          refine t_end ?_
          show W _ _ _ _ _ _ _
          refine w_seq ?_
          refine w_seq ?_
          refine w_reg fun all => ?_
          refine t_qz 1 [8, 14, 73] (σ' := [(8, .pointer (some ⟨b21, 0, none⟩)), (14, .pointer (some ⟨b89, 0, none⟩)), (73, .pointer (some ⟨b89, 0, none⟩))]) (by kernel_rfl) ?_
          refine t_v (.ld1 rfl rfl rfl (.at 0 rfl rfl)) ?_
          refine t_qz 1 [8, 14, 74, 75] (σ' := [(8, .pointer (some ⟨b21, 0, none⟩)), (14, .pointer (some ⟨b89, 0, none⟩)), (74, .int .i64 (wr64 (t86 + at1_X))), (75, .pointer (some ⟨b89, 1, none⟩))]) (by kernel_rfl) ?_
          refine t_v (.ld1 rfl rfl rfl (.at 0 rfl rfl)) ?_
          refine t_a (.bsl rfl rfl rfl rfl) fun b90 fb90 sb90 => ?_
          obtain ⟨t91, h92, e⟩ := bind_of e
          refine t_v (.callr (vs := [.slice (some ⟨b90, 0, none⟩) 2 2]) (A := ([⟨b90, [.int .i64 (wr64 (t86 + at1_X)), .int .i64 (wr64 (t87 + at1_Y))], 2⟩] : List Own)) (F0 := ([⟨b89, [.int .i64 (wr64 (t86 + at1_X)), .int .i64 (wr64 (t87 + at1_Y))], 2⟩, ⟨b82, [.int .i64 t74, .int .i64 t77], 2⟩, ⟨b22, [.int .i64 p0_X, .int .i64 p0_Y, .int .i64 at1_X, .int .i64 at1_Y, .int .i64 by2], 5⟩, ⟨b21, [.int .i64 0, .int .i64 0], 2⟩, ⟨b20, [.int .i64 at1_X, .int .i64 at1_Y], 2⟩, ⟨b19, [.int .i64 p0_X, .int .i64 p0_Y], 2⟩] : List Own)) rfl rfl (by kernel_rfl) (sel_perm (is := [0]) (by kernel_rfl)) (turn_within_v2.ok h92)) ?_
          by_cases c93 : t91 = true
          · rw [if_pos c93] at e
            have c93b : t91 = true := c93
            refine t_v (dv_quiet rfl (congrArg (fun t => some (Value.bool (!t))) c93b)) ?_
            refine t_keep [8, 14, 79] (σ' := [(8, .pointer (some ⟨b21, 0, none⟩)), (14, .pointer (some ⟨b89, 0, none⟩)), (79, .bool false)]) (by kernel_rfl) ?_
            refine t_end ?_
            show W _ _ _ _ _ _ _
            refine w_cond rfl (fun c_ => by cases c_) (fun _ => ?_)
            show W _ _ _ _ _ _ _
            refine w_skip ?_
            show W _ _ _ _ _ _ _
            refine w_seq ?_
            refine w_reg fun all => ?_
            refine t_v (.ldn rfl rfl rfl (.at 1 rfl rfl)) ?_
            refine t_sti 4 (cs := [.int .i64 (wr64 (t86 + at1_X)), .int .i64 (wr64 (t87 + at1_Y))]) rfl rfl rfl rfl rfl rfl rfl rfl rfl ?_
            refine t_qz 1 [8, 9] (σ' := [(8, .pointer (some ⟨b21, 0, none⟩)), (9, .bool true)]) (by kernel_rfl) ?_
            refine t_end ?_
            show W _ _ _ _ _ _ _
            refine w_ret ?_
            simp only [Option.some.injEq, Prod.mk.injEq] at e
            obtain ⟨rfl, rfl, rfl⟩ := e
            exact ⟨[.agg #[.int .i64 (wr64 (t86 + at1_X)), .int .i64 (wr64 (t87 + at1_Y))], .bool true], [], S, ⟨⟨_, _, _, rfl, .at 4 rfl rfl, rfl⟩, rfl, trivial⟩, VS.none, rfl, rfl, rfl⟩
          · rw [if_neg c93] at e
            have c93b : t91 = false := Bool.eq_false_iff.mpr c93
            refine t_v (dv_quiet rfl (congrArg (fun t => some (Value.bool (!t))) c93b)) ?_
            refine t_keep [8, 14, 79] (σ' := [(8, .pointer (some ⟨b21, 0, none⟩)), (14, .pointer (some ⟨b89, 0, none⟩)), (79, .bool true)]) (by kernel_rfl) ?_
            refine t_end ?_
            show W _ _ _ _ _ _ _
            refine w_cond rfl (fun _ => ?_) (fun c_ => by cases c_)
            show W _ _ _ _ _ _ _
            refine w_seq ?_
            refine w_reg fun all => ?_
            refine t_qz 1 [8, 80] (σ' := [(8, .pointer (some ⟨b21, 0, none⟩)), (80, .agg #[.int .i64 0, .int .i64 0])]) (by kernel_rfl) ?_
            refine t_sti 4 (cs := [.int .i64 0, .int .i64 0]) rfl rfl rfl rfl rfl rfl rfl rfl rfl ?_
            refine t_qz 1 [8, 9] (σ' := [(8, .pointer (some ⟨b21, 0, none⟩)), (9, .bool false)]) (by kernel_rfl) ?_
            refine t_end ?_
            show W _ _ _ _ _ _ _
            refine w_ret ?_
            simp only [Option.some.injEq, Prod.mk.injEq] at e
            obtain ⟨rfl, rfl, rfl⟩ := e
            exact ⟨[.agg #[.int .i64 0, .int .i64 0], .bool false], [], S, ⟨⟨_, _, _, rfl, .at 4 rfl rfl, rfl⟩, rfl, trivial⟩, VS.none, rfl, rfl, rfl⟩
        · rw [if_neg c85] at e
          have c85b : t83 = false := Bool.eq_false_iff.mpr c85
          refine t_v (dv_quiet rfl (congrArg (fun t => some (Value.bool (!t))) c85b)) ?_
          refine t_qz 1 [3, 5, 8, 10, 12, 54] (σ' := [(3, .int .i64 quarters3), (5, .pointer (some ⟨b20, 0, none⟩)), (8, .pointer (some ⟨b21, 0, none⟩)), (10, .int .i64 t74), (12, .int .i64 t77), (54, .bool true)]) (by kernel_rfl) ?_
          refine t_end ?_
          show W _ _ _ _ _ _ _
          refine w_cond rfl (fun _ => ?_) (fun c_ => by cases c_)
          show W _ _ _ _ _ _ _
          refine w_seq ?_
          refine w_reg fun all => ?_
          refine t_qz 1 [8, 55] (σ' := [(8, .pointer (some ⟨b21, 0, none⟩)), (55, .agg #[.int .i64 0, .int .i64 0])]) (by kernel_rfl) ?_
          refine t_sti 2 (cs := [.int .i64 0, .int .i64 0]) rfl rfl rfl rfl rfl rfl rfl rfl rfl ?_
          refine t_qz 1 [8, 9] (σ' := [(8, .pointer (some ⟨b21, 0, none⟩)), (9, .bool false)]) (by kernel_rfl) ?_
          refine t_end ?_
          show W _ _ _ _ _ _ _
          refine w_ret ?_
          simp only [Option.some.injEq, Prod.mk.injEq] at e
          obtain ⟨rfl, rfl, rfl⟩ := e
          exact ⟨[.agg #[.int .i64 0, .int .i64 0], .bool false], [], S, ⟨⟨_, _, _, rfl, .at 2 rfl rfl, rfl⟩, rfl, trivial⟩, VS.none, rfl, rfl, rfl⟩
      · rw [if_neg c81] at e
        have c81b : t78 = false := Bool.eq_false_iff.mpr c81
        refine t_qz 2 [3, 5, 8, 10, 12, 44, 45] (σ' := [(3, .int .i64 quarters3), (5, .pointer (some ⟨b20, 0, none⟩)), (8, .pointer (some ⟨b21, 0, none⟩)), (10, .int .i64 t74), (12, .int .i64 t77), (44, .bool false), (45, .bool t78)]) (by kernel_rfl) ?_
        refine t_v (dv_quiet rfl (congrArg (fun t => some (Value.bool (!t))) c81b)) ?_
        refine t_qz 8 [3, 5, 8, 10, 12, 54] (σ' := [(3, .int .i64 quarters3), (5, .pointer (some ⟨b20, 0, none⟩)), (8, .pointer (some ⟨b21, 0, none⟩)), (10, .int .i64 t74), (12, .int .i64 t77), (54, .bool true)]) (by kernel_rfl) ?_
        refine t_end ?_
        show W _ _ _ _ _ _ _
        refine w_cond rfl (fun _ => ?_) (fun c_ => by cases c_)
        show W _ _ _ _ _ _ _
        refine w_seq ?_
        refine w_reg fun all => ?_
        refine t_qz 1 [8, 55] (σ' := [(8, .pointer (some ⟨b21, 0, none⟩)), (55, .agg #[.int .i64 0, .int .i64 0])]) (by kernel_rfl) ?_
        refine t_sti 1 (cs := [.int .i64 0, .int .i64 0]) rfl rfl rfl rfl rfl rfl rfl rfl rfl ?_
        refine t_qz 1 [8, 9] (σ' := [(8, .pointer (some ⟨b21, 0, none⟩)), (9, .bool false)]) (by kernel_rfl) ?_
        refine t_end ?_
        show W _ _ _ _ _ _ _
        refine w_ret ?_
        simp only [Option.some.injEq, Prod.mk.injEq] at e
        obtain ⟨rfl, rfl, rfl⟩ := e
        exact ⟨[.agg #[.int .i64 0, .int .i64 0], .bool false], [], S, ⟨⟨_, _, _, rfl, .at 1 rfl rfl, rfl⟩, rfl, trivial⟩, VS.none, rfl, rfl, rfl⟩
    · rw [if_neg c80] at e
      have c80b : t75 = false := Bool.eq_false_iff.mpr c80
      refine t_qz 1 [3, 5, 8, 10, 12, 13, 42] (σ' := [(3, .int .i64 quarters3), (5, .pointer (some ⟨b20, 0, none⟩)), (8, .pointer (some ⟨b21, 0, none⟩)), (10, .int .i64 t74), (12, .int .i64 t77), (13, .bool t78), (42, .bool t75)]) (by kernel_rfl) ?_
      refine t_v (dv_quiet rfl (congrArg (fun t => some (Value.bool (!t))) c80b)) ?_
      refine t_qz 11 [3, 5, 8, 10, 12, 54] (σ' := [(3, .int .i64 quarters3), (5, .pointer (some ⟨b20, 0, none⟩)), (8, .pointer (some ⟨b21, 0, none⟩)), (10, .int .i64 t74), (12, .int .i64 t77), (54, .bool true)]) (by kernel_rfl) ?_
      refine t_end ?_
      show W _ _ _ _ _ _ _
      refine w_cond rfl (fun _ => ?_) (fun c_ => by cases c_)
      show W _ _ _ _ _ _ _
      refine w_seq ?_
      refine w_reg fun all => ?_
      refine t_qz 1 [8, 55] (σ' := [(8, .pointer (some ⟨b21, 0, none⟩)), (55, .agg #[.int .i64 0, .int .i64 0])]) (by kernel_rfl) ?_
      refine t_sti 1 (cs := [.int .i64 0, .int .i64 0]) rfl rfl rfl rfl rfl rfl rfl rfl rfl ?_
      refine t_qz 1 [8, 9] (σ' := [(8, .pointer (some ⟨b21, 0, none⟩)), (9, .bool false)]) (by kernel_rfl) ?_
      refine t_end ?_
      show W _ _ _ _ _ _ _
      refine w_ret ?_
      simp only [Option.some.injEq, Prod.mk.injEq] at e
      obtain ⟨rfl, rfl, rfl⟩ := e
      exact ⟨[.agg #[.int .i64 0, .int .i64 0], .bool false], [], S, ⟨⟨_, _, _, rfl, .at 1 rfl rfl, rfl⟩, rfl, trivial⟩, VS.none, rfl, rfl, rfl⟩
  · rw [if_neg c25] at e
    have c25b : t23 = false := Bool.eq_false_iff.mpr c25
    refine t_v (dv_quiet rfl (congrArg (fun t => some (Value.bool (!t))) c25b)) ?_
    refine t_keep [2, 3, 4, 5, 8, 26] (σ' := [(2, .int .i64 by2), (3, .int .i64 quarters3), (4, .pointer (some ⟨b19, 0, none⟩)), (5, .pointer (some ⟨b20, 0, none⟩)), (8, .pointer (some ⟨b21, 0, none⟩)), (26, .bool true)]) (by kernel_rfl) ?_
    refine t_end ?_
    show W _ _ _ _ _ _ _
    refine w_cond rfl (fun _ => ?_) (fun c_ => by cases c_)
    show W _ _ _ _ _ _ _
    refine w_seq ?_
    refine w_reg fun all => ?_
    refine t_qz 1 [8, 27] (σ' := [(8, .pointer (some ⟨b21, 0, none⟩)), (27, .agg #[.int .i64 0, .int .i64 0])]) (by kernel_rfl) ?_
    refine t_sti 1 (cs := [.int .i64 0, .int .i64 0]) rfl rfl rfl rfl rfl rfl rfl rfl rfl ?_
    refine t_qz 1 [8, 9] (σ' := [(8, .pointer (some ⟨b21, 0, none⟩)), (9, .bool false)]) (by kernel_rfl) ?_
    refine t_end ?_
    show W _ _ _ _ _ _ _
    refine w_ret ?_
    simp only [Option.some.injEq, Prod.mk.injEq] at e
    obtain ⟨rfl, rfl, rfl⟩ := e
    exact ⟨[.agg #[.int .i64 0, .int .i64 0], .bool false], [], S, ⟨⟨_, _, _, rfl, .at 1 rfl rfl, rfl⟩, rfl, trivial⟩, VS.none, rfl, rfl, rfl⟩

/-- glyphiclaw13.first -/
def c49 : C :=
  (.seq (.reg [⟨(some 0), .mv (.const (.bool false)), none⟩])
  (.seq (.reg [⟨(some 4), .bld [(.int .i64 0), (.int .i64 0)] [(0, 1, (.const (.int .i64 1)))], none⟩,
     ⟨(some 5), .call 50 [(.tmp 4), (.const (.int .i64 1))], none⟩,
     ⟨(some 1), .new [(.int .i64 0), (.int .i64 0)], none⟩,
     ⟨none, .st 2 (.tmp 1) (.tmp 5), none⟩])
  (.seq (.reg [⟨(some 7), .bld [(.int .i64 0), (.int .i64 0)] [(0, 1, (.const (.int .i64 2)))], none⟩,
     ⟨(some 8), .bld [(.int .i64 0), (.int .i64 0)] [(1, 1, (.const (.int .i64 1)))], none⟩,
     ⟨(some 9), .call 51 [(.tmp 7), (.tmp 8), (.const (.int .i64 1000000)), (.const (.int .i64 1))], none⟩,
     ⟨(some 6), .mv (.tmp 9), none⟩,
     ⟨(some 10), .xt 0 (.tmp 6), none⟩,
     ⟨(some 11), .xt 1 (.tmp 6), none⟩,
     ⟨(some 2), .new [(.int .i64 0), (.int .i64 0)], none⟩,
     ⟨none, .st 2 (.tmp 2) (.tmp 10), none⟩,
     ⟨(some 3), .mv (.tmp 11), none⟩])
  (.seq (.reg [⟨(some 12), .pad 0 (.tmp 1), none⟩,
     ⟨(some 13), .ld none (.tmp 12), none⟩,
     ⟨(some 14), .bin .eql (.tmp 13) (.const (.int .i64 0)), none⟩,
     ⟨(some 15), .mv (.tmp 14), none⟩,
     ⟨(some 16), .pad 1 (.tmp 1), (some (15, true))⟩,
     ⟨(some 17), .ld none (.tmp 16), (some (15, true))⟩,
     ⟨(some 18), .bin .eql (.tmp 17) (.const (.int .i64 1)), (some (15, true))⟩,
     ⟨(some 19), .pk (.tmp 15) (.tmp 18) (.const (.bool false)), none⟩,
     ⟨(some 20), .mv (.tmp 19), none⟩,
     ⟨(some 21), .mv (.tmp 3), (some (20, true))⟩,
     ⟨(some 22), .pk (.tmp 20) (.tmp 21) (.const (.bool false)), none⟩,
     ⟨(some 23), .mv (.tmp 22), none⟩,
     ⟨(some 24), .pad 0 (.tmp 2), (some (23, true))⟩,
     ⟨(some 25), .ld none (.tmp 24), (some (23, true))⟩,
     ⟨(some 26), .bin .eql (.tmp 25) (.const (.int .i64 0)), (some (23, true))⟩,
     ⟨(some 27), .pk (.tmp 23) (.tmp 26) (.const (.bool false)), none⟩,
     ⟨(some 28), .mv (.tmp 27), none⟩,
     ⟨(some 29), .pad 1 (.tmp 2), (some (28, true))⟩,
     ⟨(some 30), .ld none (.tmp 29), (some (28, true))⟩,
     ⟨(some 31), .bin .eql (.tmp 30) (.const (.int .i64 3)), (some (28, true))⟩,
     ⟨(some 32), .pk (.tmp 28) (.tmp 31) (.const (.bool false)), none⟩,
     ⟨(some 0), .mv (.tmp 32), none⟩])
  .ret))))
def glyphiclaw13_first.f (k : Nat)  : Option (Bool) := (turn_Quarter.f k 1 0 1).bind fun (t15, t16) => ((turn_Apply.f k 2 0 0 1 1000000 1).bind fun (t94, t95, t96) => (if t96 = true then (if t15 = 0 then (if t16 = 1 then (if t94 = 0 then (some (t95 == 3)) else (some false)) else (some false)) else (some false)) else (if t15 = 0 then (if t16 = 1 then (some false) else (some false)) else (some false))))
theorem glyphiclaw13_first.ok {S : Seal} {k : Nat}  {r0_ : Bool} (e : glyphiclaw13_first.f k  = some r0_) :
    Cal Try.prog 49 [] [] S fun v H' S' => v = .bool r0_ ∧ H' = [] ∧ S' = S := by
  unfold glyphiclaw13_first.f at e
  refine cal_of (c := c49) (N := 33) Try.func49 rfl rfl (by kernel_rfl) (rs := [.t 0]) (by kernel_rfl) (Nat.le_of_ble_eq_true rfl) ?_
  unfold c49
  refine w_seq ?_
  refine w_reg fun all => ?_
  refine t_qz 1 [] (σ' := []) (by kernel_rfl) ?_
  refine t_end ?_
  show W _ _ _ _ _ _ _
  refine w_seq ?_
  refine w_reg fun all => ?_
  obtain ⟨⟨t15, t16⟩, h17, e⟩ := bind_of e
  try dsimp only at e
  refine t_qz 1 [4] (σ' := [(4, .agg #[.int .i64 1, .int .i64 0])]) (by kernel_rfl) ?_
  refine t_v (.call (vs := [.agg #[.int .i64 1, .int .i64 0], .int .i64 1]) rfl rfl (by kernel_rfl) (turn_Quarter.ok h17)) ?_
  refine t_a (.new rfl rfl) fun b18 fb18 sb18 => ?_
  refine t_sti 0 (cs := [.int .i64 t15, .int .i64 t16]) rfl rfl rfl rfl rfl rfl rfl rfl rfl ?_
  refine t_keep [1] (σ' := [(1, .pointer (some ⟨b18, 0, none⟩))]) (by kernel_rfl) ?_
  refine t_end ?_
  show W _ _ _ _ _ _ _
  refine w_seq ?_
  refine w_reg fun all => ?_
  obtain ⟨⟨t94, t95, t96⟩, h97, e⟩ := bind_of e
  try dsimp only at e
  refine t_qz 2 [1, 7, 8] (σ' := [(1, .pointer (some ⟨b18, 0, none⟩)), (7, .agg #[.int .i64 2, .int .i64 0]), (8, .agg #[.int .i64 0, .int .i64 1])]) (by kernel_rfl) ?_
  refine t_v (.call (vs := [.agg #[.int .i64 2, .int .i64 0], .agg #[.int .i64 0, .int .i64 1], .int .i64 1000000, .int .i64 1]) rfl rfl (by kernel_rfl) (turn_Apply.ok h97)) ?_
  by_cases c98 : t96 = true
  · rw [if_pos c98] at e
    have c98b : t96 = true := c98
    refine t_qz 2 [1, 6, 10] (σ' := [(1, .pointer (some ⟨b18, 0, none⟩)), (6, .tuple #[.agg #[.int .i64 t94, .int .i64 t95], .bool t96]), (10, .agg #[.int .i64 t94, .int .i64 t95])]) (by kernel_rfl) ?_
    refine t_v (dv_quiet rfl (congrArg (fun t => some (Value.bool t)) c98b)) ?_
    refine t_a (.new rfl rfl) fun b99 fb99 sb99 => ?_
    refine t_sti 0 (cs := [.int .i64 t94, .int .i64 t95]) rfl rfl rfl rfl rfl rfl rfl rfl rfl ?_
    refine t_qz 1 [1, 2, 3] (σ' := [(1, .pointer (some ⟨b18, 0, none⟩)), (2, .pointer (some ⟨b99, 0, none⟩)), (3, .bool true)]) (by kernel_rfl) ?_
    refine t_end ?_
    show W _ _ _ _ _ _ _
    refine w_seq ?_
    refine w_reg fun all => ?_
    refine t_qz 1 [1, 2, 3, 12] (σ' := [(1, .pointer (some ⟨b18, 0, none⟩)), (2, .pointer (some ⟨b99, 0, none⟩)), (3, .bool true), (12, .pointer (some ⟨b18, 0, none⟩))]) (by kernel_rfl) ?_
    refine t_v (.ld1 rfl rfl rfl (.at 1 rfl rfl)) ?_
    by_cases c100 : t15 = 0
    · rw [if_pos c100] at e
      have c100b : (t15 == 0) = true := beq_iff_eq.mpr c100
      refine t_v (dv_quiet rfl (congrArg (fun t => some (Value.bool t)) c100b)) ?_
      refine t_qz 2 [2, 3, 15, 16] (σ' := [(2, .pointer (some ⟨b99, 0, none⟩)), (3, .bool true), (15, .bool true), (16, .pointer (some ⟨b18, 1, none⟩))]) (by kernel_rfl) ?_
      refine t_v (.ld1 rfl rfl rfl (.at 1 rfl rfl)) ?_
      by_cases c101 : t16 = 1
      · rw [if_pos c101] at e
        have c101b : (t16 == 1) = true := beq_iff_eq.mpr c101
        refine t_v (dv_quiet rfl (congrArg (fun t => some (Value.bool t)) c101b)) ?_
        refine t_qz 6 [2, 23, 24] (σ' := [(2, .pointer (some ⟨b99, 0, none⟩)), (23, .bool true), (24, .pointer (some ⟨b99, 0, none⟩))]) (by kernel_rfl) ?_
        refine t_v (.ld1 rfl rfl rfl (.at 0 rfl rfl)) ?_
        by_cases c102 : t94 = 0
        · rw [if_pos c102] at e
          have c102b : (t94 == 0) = true := beq_iff_eq.mpr c102
          refine t_v (dv_quiet rfl (congrArg (fun t => some (Value.bool t)) c102b)) ?_
          refine t_qz 3 [28, 29] (σ' := [(28, .bool true), (29, .pointer (some ⟨b99, 1, none⟩))]) (by kernel_rfl) ?_
          refine t_v (.ld1 rfl rfl rfl (.at 0 rfl rfl)) ?_
          refine t_qz 3 [0] (σ' := [(0, .bool (t95 == 3))]) (by kernel_rfl) ?_
          refine t_end ?_
          show W _ _ _ _ _ _ _
          refine w_ret ?_
          obtain rfl := Option.some.inj e
          exact ⟨[.bool (t95 == 3)], [], S, ⟨rfl, trivial⟩, VS.none, rfl, rfl, rfl⟩
        · rw [if_neg c102] at e
          have c102b : (t94 == 0) = false := beq_eq_false_iff_ne.mpr c102
          refine t_v (dv_quiet rfl (congrArg (fun t => some (Value.bool t)) c102b)) ?_
          refine t_qz 7 [0] (σ' := [(0, .bool false)]) (by kernel_rfl) ?_
          refine t_end ?_
          show W _ _ _ _ _ _ _
          refine w_ret ?_
          obtain rfl := Option.some.inj e
          exact ⟨[.bool false], [], S, ⟨rfl, trivial⟩, VS.none, rfl, rfl, rfl⟩
      · rw [if_neg c101] at e
        have c101b : (t16 == 1) = false := beq_eq_false_iff_ne.mpr c101
        refine t_v (dv_quiet rfl (congrArg (fun t => some (Value.bool t)) c101b)) ?_
        refine t_qz 15 [0] (σ' := [(0, .bool false)]) (by kernel_rfl) ?_
        refine t_end ?_
        show W _ _ _ _ _ _ _
        refine w_ret ?_
        obtain rfl := Option.some.inj e
        exact ⟨[.bool false], [], S, ⟨rfl, trivial⟩, VS.none, rfl, rfl, rfl⟩
    · rw [if_neg c100] at e
      have c100b : (t15 == 0) = false := beq_eq_false_iff_ne.mpr c100
      refine t_v (dv_quiet rfl (congrArg (fun t => some (Value.bool t)) c100b)) ?_
      refine t_qz 19 [0] (σ' := [(0, .bool false)]) (by kernel_rfl) ?_
      refine t_end ?_
      show W _ _ _ _ _ _ _
      refine w_ret ?_
      obtain rfl := Option.some.inj e
      exact ⟨[.bool false], [], S, ⟨rfl, trivial⟩, VS.none, rfl, rfl, rfl⟩
  · rw [if_neg c98] at e
    have c98b : t96 = false := Bool.eq_false_iff.mpr c98
    refine t_qz 2 [1, 6, 10] (σ' := [(1, .pointer (some ⟨b18, 0, none⟩)), (6, .tuple #[.agg #[.int .i64 t94, .int .i64 t95], .bool t96]), (10, .agg #[.int .i64 t94, .int .i64 t95])]) (by kernel_rfl) ?_
    refine t_v (dv_quiet rfl (congrArg (fun t => some (Value.bool t)) c98b)) ?_
    refine t_a (.new rfl rfl) fun b103 fb103 sb103 => ?_
    refine t_sti 0 (cs := [.int .i64 t94, .int .i64 t95]) rfl rfl rfl rfl rfl rfl rfl rfl rfl ?_
    refine t_qz 1 [1, 2, 3] (σ' := [(1, .pointer (some ⟨b18, 0, none⟩)), (2, .pointer (some ⟨b103, 0, none⟩)), (3, .bool false)]) (by kernel_rfl) ?_
    refine t_end ?_
    show W _ _ _ _ _ _ _
    refine w_seq ?_
    refine w_reg fun all => ?_
    refine t_qz 1 [1, 2, 3, 12] (σ' := [(1, .pointer (some ⟨b18, 0, none⟩)), (2, .pointer (some ⟨b103, 0, none⟩)), (3, .bool false), (12, .pointer (some ⟨b18, 0, none⟩))]) (by kernel_rfl) ?_
    refine t_v (.ld1 rfl rfl rfl (.at 1 rfl rfl)) ?_
    by_cases c104 : t15 = 0
    · rw [if_pos c104] at e
      have c104b : (t15 == 0) = true := beq_iff_eq.mpr c104
      refine t_v (dv_quiet rfl (congrArg (fun t => some (Value.bool t)) c104b)) ?_
      refine t_qz 2 [2, 3, 15, 16] (σ' := [(2, .pointer (some ⟨b103, 0, none⟩)), (3, .bool false), (15, .bool true), (16, .pointer (some ⟨b18, 1, none⟩))]) (by kernel_rfl) ?_
      refine t_v (.ld1 rfl rfl rfl (.at 1 rfl rfl)) ?_
      by_cases c105 : t16 = 1
      · rw [if_pos c105] at e
        have c105b : (t16 == 1) = true := beq_iff_eq.mpr c105
        refine t_v (dv_quiet rfl (congrArg (fun t => some (Value.bool t)) c105b)) ?_
        refine t_qz 15 [0] (σ' := [(0, .bool false)]) (by kernel_rfl) ?_
        refine t_end ?_
        show W _ _ _ _ _ _ _
        refine w_ret ?_
        obtain rfl := Option.some.inj e
        exact ⟨[.bool false], [], S, ⟨rfl, trivial⟩, VS.none, rfl, rfl, rfl⟩
      · rw [if_neg c105] at e
        have c105b : (t16 == 1) = false := beq_eq_false_iff_ne.mpr c105
        refine t_v (dv_quiet rfl (congrArg (fun t => some (Value.bool t)) c105b)) ?_
        refine t_qz 15 [0] (σ' := [(0, .bool false)]) (by kernel_rfl) ?_
        refine t_end ?_
        show W _ _ _ _ _ _ _
        refine w_ret ?_
        obtain rfl := Option.some.inj e
        exact ⟨[.bool false], [], S, ⟨rfl, trivial⟩, VS.none, rfl, rfl, rfl⟩
    · rw [if_neg c104] at e
      have c104b : (t15 == 0) = false := beq_eq_false_iff_ne.mpr c104
      refine t_v (dv_quiet rfl (congrArg (fun t => some (Value.bool t)) c104b)) ?_
      refine t_qz 19 [0] (σ' := [(0, .bool false)]) (by kernel_rfl) ?_
      refine t_end ?_
      show W _ _ _ _ _ _ _
      refine w_ret ?_
      obtain rfl := Option.some.inj e
      exact ⟨[.bool false], [], S, ⟨rfl, trivial⟩, VS.none, rfl, rfl, rfl⟩

/-- glyphicref1.Down -/
def c34 : C :=
  (.seq (.reg [⟨(some 4), .mv (.const (.int .i64 0)), none⟩])
  (.seq (.seq (.reg [⟨(some 6), .mv (.tmp 1), none⟩,
      ⟨(some 7), .bin .lss (.tmp 6) (.const (.int .i64 1)), none⟩])
   (.cond (.tmp 7)
    (.seq (.reg [⟨(some 4), .mv (.const (.int .i64 0)), none⟩])
     .ret)
    .skip))
  (.seq (.reg [⟨(some 8), .mv (.tmp 0), none⟩,
     ⟨(some 9), .mv (.tmp 1), none⟩,
     ⟨(some 10), .bin .quo (.tmp 8) (.tmp 9), none⟩,
     ⟨(some 5), .mv (.tmp 10), none⟩])
  (.seq (.seq (.reg [⟨(some 11), .mv (.tmp 0), none⟩,
      ⟨(some 12), .mv (.tmp 1), none⟩,
      ⟨(some 13), .bin .rem (.tmp 11) (.tmp 12), none⟩,
      ⟨(some 14), .bin .lss (.tmp 13) (.const (.int .i64 0)), none⟩])
   (.cond (.tmp 14)
    (.reg [⟨(some 15), .mv (.tmp 5), none⟩,
       ⟨(some 16), .bin .sub (.tmp 15) (.const (.int .i64 1)), none⟩,
       ⟨(some 5), .mv (.tmp 16), none⟩])
    .skip))
  (.seq (.reg [⟨(some 17), .mv (.tmp 5), none⟩,
     ⟨(some 4), .mv (.tmp 17), none⟩])
  .ret)))))
def glyphicref1_Down.f (a0 : Int) (b1 : Int) : Option (Int) := if b1 < 1 then (some 0) else (if b1 = 0 then none else (if (Int.tmod a0 b1) < 0 then (some (wr64 ((wr64 (Int.tdiv a0 b1)) - 1))) else (some (wr64 (Int.tdiv a0 b1)))))
theorem glyphicref1_Down.ok {S : Seal} {a0 : Int} {b1 : Int} {r0_ : Int} (e : glyphicref1_Down.f a0 b1 = some r0_) :
    Cal Try.prog 34 [.int .i64 a0, .int .i64 b1] [] S fun v H' S' => v = .int .i64 r0_ ∧ H' = [] ∧ S' = S := by
  unfold glyphicref1_Down.f at e
  refine cal_of (c := c34) (N := 18) Try.func34 rfl rfl (by kernel_rfl) (rs := [.t 4]) (by kernel_rfl) (Nat.le_of_ble_eq_true rfl) ?_
  unfold c34
  refine w_seq ?_
  refine w_reg fun all => ?_
  refine t_qz 1 [0, 1] (σ' := [(0, .int .i64 a0), (1, .int .i64 b1)]) (by kernel_rfl) ?_
  refine t_end ?_
  show W _ _ _ _ _ _ _
  refine w_seq ?_
  refine w_seq ?_
  refine w_reg fun all => ?_
  by_cases c121 : b1 < 1
  · rw [if_pos c121] at e
    have c121b : (decide (b1 < 1)) = true := decide_eq_true c121
    refine t_qz 1 [0, 1, 6] (σ' := [(0, .int .i64 a0), (1, .int .i64 b1), (6, .int .i64 b1)]) (by kernel_rfl) ?_
    refine t_v (dv_quiet rfl (congrArg (fun t => some (Value.bool t)) c121b)) ?_
    refine t_keep [0, 1, 7] (σ' := [(0, .int .i64 a0), (1, .int .i64 b1), (7, .bool true)]) (by kernel_rfl) ?_
    refine t_end ?_
    show W _ _ _ _ _ _ _
    refine w_cond rfl (fun _ => ?_) (fun c_ => by cases c_)
    show W _ _ _ _ _ _ _
    refine w_seq ?_
    refine w_reg fun all => ?_
    refine t_qz 1 [4] (σ' := [(4, .int .i64 0)]) (by kernel_rfl) ?_
    refine t_end ?_
    show W _ _ _ _ _ _ _
    refine w_ret ?_
    obtain rfl := Option.some.inj e
    exact ⟨[.int .i64 0], [], S, ⟨rfl, trivial⟩, VS.none, rfl, rfl, rfl⟩
  · rw [if_neg c121] at e
    have c121b : (decide (b1 < 1)) = false := decide_eq_false c121
    refine t_qz 1 [0, 1, 6] (σ' := [(0, .int .i64 a0), (1, .int .i64 b1), (6, .int .i64 b1)]) (by kernel_rfl) ?_
    refine t_v (dv_quiet rfl (congrArg (fun t => some (Value.bool t)) c121b)) ?_
    refine t_keep [0, 1, 7] (σ' := [(0, .int .i64 a0), (1, .int .i64 b1), (7, .bool false)]) (by kernel_rfl) ?_
    refine t_end ?_
    show W _ _ _ _ _ _ _
    refine w_cond rfl (fun c_ => by cases c_) (fun _ => ?_)
    show W _ _ _ _ _ _ _
    refine w_skip ?_
    show W _ _ _ _ _ _ _
    refine w_seq ?_
    refine w_reg fun all => ?_
    have c122 : ¬ b1 = 0 := by
      intro h_; rw [if_pos h_] at e; cases e
    rw [if_neg c122] at e
    refine t_qz 2 [0, 1, 8, 9] (σ' := [(0, .int .i64 a0), (1, .int .i64 b1), (8, .int .i64 a0), (9, .int .i64 b1)]) (by kernel_rfl) ?_
    refine t_v (.quiet rfl (qv_quo rfl rfl c122)) ?_
    refine t_qz 1 [0, 1, 5] (σ' := [(0, .int .i64 a0), (1, .int .i64 b1), (5, .int .i64 (wr64 (Int.tdiv a0 b1)))]) (by kernel_rfl) ?_
    refine t_end ?_
    show W _ _ _ _ _ _ _
    refine w_seq ?_
    refine w_seq ?_
    refine w_reg fun all => ?_
    refine t_qz 2 [5, 11, 12] (σ' := [(5, .int .i64 (wr64 (Int.tdiv a0 b1))), (11, .int .i64 a0), (12, .int .i64 b1)]) (by kernel_rfl) ?_
    refine t_v (.quiet rfl (qv_rem rfl rfl c122)) ?_
    by_cases c123 : (Int.tmod a0 b1) < 0
    · rw [if_pos c123] at e
      have c123b : (decide ((Int.tmod a0 b1) < 0)) = true := decide_eq_true c123
      refine t_v (dv_quiet rfl (congrArg (fun t => some (Value.bool t)) c123b)) ?_
      refine t_keep [5, 14] (σ' := [(5, .int .i64 (wr64 (Int.tdiv a0 b1))), (14, .bool true)]) (by kernel_rfl) ?_
      refine t_end ?_
      show W _ _ _ _ _ _ _
      refine w_cond rfl (fun _ => ?_) (fun c_ => by cases c_)
      show W _ _ _ _ _ _ _
      refine w_reg fun all => ?_
      refine t_qz 3 [5] (σ' := [(5, .int .i64 (wr64 ((wr64 (Int.tdiv a0 b1)) - 1)))]) (by kernel_rfl) ?_
      refine t_end ?_
      show W _ _ _ _ _ _ _
      refine w_seq ?_
      refine w_reg fun all => ?_
      refine t_qz 2 [4] (σ' := [(4, .int .i64 (wr64 ((wr64 (Int.tdiv a0 b1)) - 1)))]) (by kernel_rfl) ?_
      refine t_end ?_
      show W _ _ _ _ _ _ _
      refine w_ret ?_
      obtain rfl := Option.some.inj e
      exact ⟨[.int .i64 (wr64 ((wr64 (Int.tdiv a0 b1)) - 1))], [], S, ⟨rfl, trivial⟩, VS.none, rfl, rfl, rfl⟩
    · rw [if_neg c123] at e
      have c123b : (decide ((Int.tmod a0 b1) < 0)) = false := decide_eq_false c123
      refine t_v (dv_quiet rfl (congrArg (fun t => some (Value.bool t)) c123b)) ?_
      refine t_keep [5, 14] (σ' := [(5, .int .i64 (wr64 (Int.tdiv a0 b1))), (14, .bool false)]) (by kernel_rfl) ?_
      refine t_end ?_
      show W _ _ _ _ _ _ _
      refine w_cond rfl (fun c_ => by cases c_) (fun _ => ?_)
      show W _ _ _ _ _ _ _
      refine w_skip ?_
      show W _ _ _ _ _ _ _
      refine w_seq ?_
      refine w_reg fun all => ?_
      refine t_qz 2 [4] (σ' := [(4, .int .i64 (wr64 (Int.tdiv a0 b1)))]) (by kernel_rfl) ?_
      refine t_end ?_
      show W _ _ _ _ _ _ _
      refine w_ret ?_
      obtain rfl := Option.some.inj e
      exact ⟨[.int .i64 (wr64 (Int.tdiv a0 b1))], [], S, ⟨rfl, trivial⟩, VS.none, rfl, rfl, rfl⟩

/-- glyphicref1.Round -/
def c52 : C :=
  (.seq (.reg [⟨(some 4), .mv (.const (.int .i64 0)), none⟩])
  (.seq (.seq (.reg [⟨(some 7), .mv (.tmp 1), none⟩,
      ⟨(some 8), .bin .lss (.tmp 7) (.const (.int .i64 1)), none⟩])
   (.cond (.tmp 8)
    (.seq (.reg [⟨(some 4), .mv (.const (.int .i64 0)), none⟩])
     .ret)
    .skip))
  (.seq (.reg [⟨(some 9), .mv (.tmp 0), none⟩,
     ⟨(some 10), .mv (.tmp 1), none⟩,
     ⟨(some 11), .call 34 [(.tmp 9), (.tmp 10)], none⟩,
     ⟨(some 5), .mv (.tmp 11), none⟩])
  (.seq (.reg [⟨(some 12), .mv (.tmp 0), none⟩,
     ⟨(some 13), .mv (.tmp 5), none⟩,
     ⟨(some 14), .mv (.tmp 1), none⟩,
     ⟨(some 15), .bin .mul (.tmp 13) (.tmp 14), none⟩,
     ⟨(some 16), .bin .sub (.tmp 12) (.tmp 15), none⟩,
     ⟨(some 6), .mv (.tmp 16), none⟩])
  (.seq (.seq (.reg [⟨(some 17), .mv (.tmp 6), none⟩,
      ⟨(some 18), .mv (.tmp 1), none⟩,
      ⟨(some 19), .mv (.tmp 6), none⟩,
      ⟨(some 20), .bin .sub (.tmp 18) (.tmp 19), none⟩,
      ⟨(some 21), .bin .geq (.tmp 17) (.tmp 20), none⟩])
   (.cond (.tmp 21)
    (.reg [⟨(some 22), .mv (.tmp 5), none⟩,
       ⟨(some 23), .bin .add (.tmp 22) (.const (.int .i64 1)), none⟩,
       ⟨(some 5), .mv (.tmp 23), none⟩])
    .skip))
  (.seq (.reg [⟨(some 24), .mv (.tmp 5), none⟩,
     ⟨(some 4), .mv (.tmp 24), none⟩])
  .ret))))))
def glyphicref1_Round.f (a0 : Int) (b1 : Int) : Option (Int) := if b1 < 1 then (some 0) else ((glyphicref1_Down.f a0 b1).bind fun t124 => (if (wr64 (a0 - (wr64 (t124 * b1)))) ≥ (wr64 (b1 - (wr64 (a0 - (wr64 (t124 * b1)))))) then (some (wr64 (t124 + 1))) else (some t124)))
theorem glyphicref1_Round.ok {S : Seal} {a0 : Int} {b1 : Int} {r0_ : Int} (e : glyphicref1_Round.f a0 b1 = some r0_) :
    Cal Try.prog 52 [.int .i64 a0, .int .i64 b1] [] S fun v H' S' => v = .int .i64 r0_ ∧ H' = [] ∧ S' = S := by
  unfold glyphicref1_Round.f at e
  refine cal_of (c := c52) (N := 25) Try.func52 rfl rfl (by kernel_rfl) (rs := [.t 4]) (by kernel_rfl) (Nat.le_of_ble_eq_true rfl) ?_
  unfold c52
  refine w_seq ?_
  refine w_reg fun all => ?_
  refine t_qz 1 [0, 1] (σ' := [(0, .int .i64 a0), (1, .int .i64 b1)]) (by kernel_rfl) ?_
  refine t_end ?_
  show W _ _ _ _ _ _ _
  refine w_seq ?_
  refine w_seq ?_
  refine w_reg fun all => ?_
  by_cases c120 : b1 < 1
  · rw [if_pos c120] at e
    have c120b : (decide (b1 < 1)) = true := decide_eq_true c120
    refine t_qz 1 [0, 1, 7] (σ' := [(0, .int .i64 a0), (1, .int .i64 b1), (7, .int .i64 b1)]) (by kernel_rfl) ?_
    refine t_v (dv_quiet rfl (congrArg (fun t => some (Value.bool t)) c120b)) ?_
    refine t_keep [0, 1, 8] (σ' := [(0, .int .i64 a0), (1, .int .i64 b1), (8, .bool true)]) (by kernel_rfl) ?_
    refine t_end ?_
    show W _ _ _ _ _ _ _
    refine w_cond rfl (fun _ => ?_) (fun c_ => by cases c_)
    show W _ _ _ _ _ _ _
    refine w_seq ?_
    refine w_reg fun all => ?_
    refine t_qz 1 [4] (σ' := [(4, .int .i64 0)]) (by kernel_rfl) ?_
    refine t_end ?_
    show W _ _ _ _ _ _ _
    refine w_ret ?_
    obtain rfl := Option.some.inj e
    exact ⟨[.int .i64 0], [], S, ⟨rfl, trivial⟩, VS.none, rfl, rfl, rfl⟩
  · rw [if_neg c120] at e
    have c120b : (decide (b1 < 1)) = false := decide_eq_false c120
    refine t_qz 1 [0, 1, 7] (σ' := [(0, .int .i64 a0), (1, .int .i64 b1), (7, .int .i64 b1)]) (by kernel_rfl) ?_
    refine t_v (dv_quiet rfl (congrArg (fun t => some (Value.bool t)) c120b)) ?_
    refine t_keep [0, 1, 8] (σ' := [(0, .int .i64 a0), (1, .int .i64 b1), (8, .bool false)]) (by kernel_rfl) ?_
    refine t_end ?_
    show W _ _ _ _ _ _ _
    refine w_cond rfl (fun c_ => by cases c_) (fun _ => ?_)
    show W _ _ _ _ _ _ _
    refine w_skip ?_
    show W _ _ _ _ _ _ _
    refine w_seq ?_
    refine w_reg fun all => ?_
    obtain ⟨t124, h125, e⟩ := bind_of e
    refine t_qz 2 [0, 1, 9, 10] (σ' := [(0, .int .i64 a0), (1, .int .i64 b1), (9, .int .i64 a0), (10, .int .i64 b1)]) (by kernel_rfl) ?_
    refine t_v (.call (vs := [.int .i64 a0, .int .i64 b1]) rfl rfl (by kernel_rfl) (glyphicref1_Down.ok h125)) ?_
    refine t_qz 1 [0, 1, 5] (σ' := [(0, .int .i64 a0), (1, .int .i64 b1), (5, .int .i64 t124)]) (by kernel_rfl) ?_
    refine t_end ?_
    show W _ _ _ _ _ _ _
    refine w_seq ?_
    refine w_reg fun all => ?_
    refine t_qz 6 [1, 5, 6] (σ' := [(1, .int .i64 b1), (5, .int .i64 t124), (6, .int .i64 (wr64 (a0 - (wr64 (t124 * b1)))))]) (by kernel_rfl) ?_
    refine t_end ?_
    show W _ _ _ _ _ _ _
    refine w_seq ?_
    refine w_seq ?_
    refine w_reg fun all => ?_
    by_cases c126 : (wr64 (a0 - (wr64 (t124 * b1)))) ≥ (wr64 (b1 - (wr64 (a0 - (wr64 (t124 * b1))))))
    · rw [if_pos c126] at e
      have c126b : (decide ((wr64 (a0 - (wr64 (t124 * b1)))) ≥ (wr64 (b1 - (wr64 (a0 - (wr64 (t124 * b1)))))))) = true := decide_eq_true c126
      refine t_qz 4 [5, 17, 20] (σ' := [(5, .int .i64 t124), (17, .int .i64 (wr64 (a0 - (wr64 (t124 * b1))))), (20, .int .i64 (wr64 (b1 - (wr64 (a0 - (wr64 (t124 * b1)))))))]) (by kernel_rfl) ?_
      refine t_v (dv_quiet rfl (congrArg (fun t => some (Value.bool t)) c126b)) ?_
      refine t_keep [5, 21] (σ' := [(5, .int .i64 t124), (21, .bool true)]) (by kernel_rfl) ?_
      refine t_end ?_
      show W _ _ _ _ _ _ _
      refine w_cond rfl (fun _ => ?_) (fun c_ => by cases c_)
      show W _ _ _ _ _ _ _
      refine w_reg fun all => ?_
      refine t_qz 3 [5] (σ' := [(5, .int .i64 (wr64 (t124 + 1)))]) (by kernel_rfl) ?_
      refine t_end ?_
      show W _ _ _ _ _ _ _
      refine w_seq ?_
      refine w_reg fun all => ?_
      refine t_qz 2 [4] (σ' := [(4, .int .i64 (wr64 (t124 + 1)))]) (by kernel_rfl) ?_
      refine t_end ?_
      show W _ _ _ _ _ _ _
      refine w_ret ?_
      obtain rfl := Option.some.inj e
      exact ⟨[.int .i64 (wr64 (t124 + 1))], [], S, ⟨rfl, trivial⟩, VS.none, rfl, rfl, rfl⟩
    · rw [if_neg c126] at e
      have c126b : (decide ((wr64 (a0 - (wr64 (t124 * b1)))) ≥ (wr64 (b1 - (wr64 (a0 - (wr64 (t124 * b1)))))))) = false := decide_eq_false c126
      refine t_qz 4 [5, 17, 20] (σ' := [(5, .int .i64 t124), (17, .int .i64 (wr64 (a0 - (wr64 (t124 * b1))))), (20, .int .i64 (wr64 (b1 - (wr64 (a0 - (wr64 (t124 * b1)))))))]) (by kernel_rfl) ?_
      refine t_v (dv_quiet rfl (congrArg (fun t => some (Value.bool t)) c126b)) ?_
      refine t_keep [5, 21] (σ' := [(5, .int .i64 t124), (21, .bool false)]) (by kernel_rfl) ?_
      refine t_end ?_
      show W _ _ _ _ _ _ _
      refine w_cond rfl (fun c_ => by cases c_) (fun _ => ?_)
      show W _ _ _ _ _ _ _
      refine w_skip ?_
      show W _ _ _ _ _ _ _
      refine w_seq ?_
      refine w_reg fun all => ?_
      refine t_qz 2 [4] (σ' := [(4, .int .i64 t124)]) (by kernel_rfl) ?_
      refine t_end ?_
      show W _ _ _ _ _ _ _
      refine w_ret ?_
      obtain rfl := Option.some.inj e
      exact ⟨[.int .i64 t124], [], S, ⟨rfl, trivial⟩, VS.none, rfl, rfl, rfl⟩

/-- glyphicref.SamePoint -/
def c26 : C :=
  (.seq (.reg [⟨(some 2), .box (.tmp 0), none⟩,
     ⟨(some 3), .box (.tmp 1), none⟩,
     ⟨(some 4), .mv (.const (.bool false)), none⟩])
  (.seq (.reg [⟨(some 5), .pad 0 (.tmp 2), none⟩,
     ⟨(some 6), .ld none (.tmp 5), none⟩,
     ⟨(some 7), .pad 0 (.tmp 3), none⟩,
     ⟨(some 8), .ld none (.tmp 7), none⟩,
     ⟨(some 9), .bin .eql (.tmp 6) (.tmp 8), none⟩,
     ⟨(some 10), .mv (.tmp 9), none⟩,
     ⟨(some 11), .pad 1 (.tmp 2), (some (10, true))⟩,
     ⟨(some 12), .ld none (.tmp 11), (some (10, true))⟩,
     ⟨(some 13), .pad 1 (.tmp 3), (some (10, true))⟩,
     ⟨(some 14), .ld none (.tmp 13), (some (10, true))⟩,
     ⟨(some 15), .bin .eql (.tmp 12) (.tmp 14), (some (10, true))⟩,
     ⟨(some 16), .pk (.tmp 10) (.tmp 15) (.const (.bool false)), none⟩,
     ⟨(some 4), .mv (.tmp 16), none⟩])
  .ret))
def glyphicref_SamePoint.f (a0_X : Int) (a0_Y : Int) (b1_X : Int) (b1_Y : Int) : Option (Bool) := if a0_X = b1_X then (some (a0_Y == b1_Y)) else (some false)
theorem glyphicref_SamePoint.ok {S : Seal} {a0_X : Int} {a0_Y : Int} {b1_X : Int} {b1_Y : Int} {r0_ : Bool} (e : glyphicref_SamePoint.f a0_X a0_Y b1_X b1_Y = some r0_) :
    Cal Try.prog 26 [.agg #[.int .i64 a0_X, .int .i64 a0_Y], .agg #[.int .i64 b1_X, .int .i64 b1_Y]] [] S fun v H' S' => v = .bool r0_ ∧ H' = [] ∧ S' = S := by
  unfold glyphicref_SamePoint.f at e
  refine cal_of (c := c26) (N := 17) Try.func26 rfl rfl (by kernel_rfl) (rs := [.t 4]) (by kernel_rfl) (Nat.le_of_ble_eq_true rfl) ?_
  unfold c26
  refine w_seq ?_
  refine w_reg fun all => ?_
  refine t_a (.box rfl rfl rfl) fun b136 fb136 sb136 => ?_
  refine t_a (.box rfl rfl rfl) fun b137 fb137 sb137 => ?_
  refine t_qz 1 [2, 3] (σ' := [(2, .pointer (some ⟨b136, 0, none⟩)), (3, .pointer (some ⟨b137, 0, none⟩))]) (by kernel_rfl) ?_
  refine t_end ?_
  show W _ _ _ _ _ _ _
  refine w_seq ?_
  refine w_reg fun all => ?_
  refine t_qz 1 [2, 3, 5] (σ' := [(2, .pointer (some ⟨b136, 0, none⟩)), (3, .pointer (some ⟨b137, 0, none⟩)), (5, .pointer (some ⟨b136, 0, none⟩))]) (by kernel_rfl) ?_
  refine t_v (.ld1 rfl rfl rfl (.at 1 rfl rfl)) ?_
  refine t_qz 1 [2, 3, 6, 7] (σ' := [(2, .pointer (some ⟨b136, 0, none⟩)), (3, .pointer (some ⟨b137, 0, none⟩)), (6, .int .i64 a0_X), (7, .pointer (some ⟨b137, 0, none⟩))]) (by kernel_rfl) ?_
  refine t_v (.ld1 rfl rfl rfl (.at 0 rfl rfl)) ?_
  by_cases c138 : a0_X = b1_X
  · rw [if_pos c138] at e
    have c138b : (a0_X == b1_X) = true := beq_iff_eq.mpr c138
    refine t_v (dv_quiet rfl (congrArg (fun t => some (Value.bool t)) c138b)) ?_
    refine t_qz 2 [3, 10, 11] (σ' := [(3, .pointer (some ⟨b137, 0, none⟩)), (10, .bool true), (11, .pointer (some ⟨b136, 1, none⟩))]) (by kernel_rfl) ?_
    refine t_v (.ld1 rfl rfl rfl (.at 1 rfl rfl)) ?_
    refine t_qz 1 [10, 12, 13] (σ' := [(10, .bool true), (12, .int .i64 a0_Y), (13, .pointer (some ⟨b137, 1, none⟩))]) (by kernel_rfl) ?_
    refine t_v (.ld1 rfl rfl rfl (.at 0 rfl rfl)) ?_
    refine t_qz 3 [4] (σ' := [(4, .bool (a0_Y == b1_Y))]) (by kernel_rfl) ?_
    refine t_end ?_
    show W _ _ _ _ _ _ _
    refine w_ret ?_
    obtain rfl := Option.some.inj e
    exact ⟨[.bool (a0_Y == b1_Y)], [], S, ⟨rfl, trivial⟩, VS.none, rfl, rfl, rfl⟩
  · rw [if_neg c138] at e
    have c138b : (a0_X == b1_X) = false := beq_eq_false_iff_ne.mpr c138
    refine t_v (dv_quiet rfl (congrArg (fun t => some (Value.bool t)) c138b)) ?_
    refine t_qz 8 [4] (σ' := [(4, .bool false)]) (by kernel_rfl) ?_
    refine t_end ?_
    show W _ _ _ _ _ _ _
    refine w_ret ?_
    obtain rfl := Option.some.inj e
    exact ⟨[.bool false], [], S, ⟨rfl, trivial⟩, VS.none, rfl, rfl, rfl⟩

/-- glyphiclaw13.TurnScales -/
def c17 : C :=
  (.seq (.reg [⟨(some 3), .box (.tmp 0), none⟩,
     ⟨(some 6), .mv (.const (.bool false)), none⟩])
  (.seq (.reg [⟨(some 14), .call 49 [], none⟩,
     ⟨(some 7), .mv (.tmp 14), none⟩])
  (.seq (.seq (.reg [⟨(some 15), .mv (.tmp 7), none⟩,
      ⟨(some 16), .un .not (.tmp 15), none⟩])
   (.cond (.tmp 16)
    (.seq (.reg [⟨(some 6), .mv (.const (.bool false)), none⟩])
     .ret)
    .skip))
  (.seq (.reg [⟨(some 17), .pad 0 (.tmp 3), none⟩,
     ⟨(some 18), .ld none (.tmp 17), none⟩,
     ⟨(some 19), .bin .rem (.tmp 18) (.const (.int .i64 1000000000)), none⟩,
     ⟨(some 20), .pad 1 (.tmp 3), none⟩,
     ⟨(some 21), .ld none (.tmp 20), none⟩,
     ⟨(some 22), .bin .rem (.tmp 21) (.const (.int .i64 1000000000)), none⟩,
     ⟨(some 23), .bld [(.int .i64 0), (.int .i64 0)] [(0, 1, (.tmp 19)), (1, 1, (.tmp 22))], none⟩,
     ⟨none, .st 2 (.tmp 3) (.tmp 23), none⟩])
  (.seq (.reg [⟨(some 24), .mv (.tmp 1), none⟩,
     ⟨(some 25), .bin .rem (.tmp 24) (.const (.int .i64 1000000000)), none⟩,
     ⟨(some 26), .bin .add (.tmp 25) (.const (.int .i64 1000000000)), none⟩,
     ⟨(some 27), .bin .rem (.tmp 26) (.const (.int .i64 1000000000)), none⟩,
     ⟨(some 28), .bin .add (.tmp 27) (.const (.int .i64 1)), none⟩,
     ⟨(some 1), .mv (.tmp 28), none⟩])
  (.seq (.reg [⟨(some 30), .ld (some 2) (.tmp 3), none⟩,
     ⟨(some 31), .bld [(.int .i64 0), (.int .i64 0)] [], none⟩,
     ⟨(some 32), .mv (.tmp 1), none⟩,
     ⟨(some 33), .mv (.tmp 2), none⟩,
     ⟨(some 34), .call 51 [(.tmp 30), (.tmp 31), (.tmp 32), (.tmp 33)], none⟩,
     ⟨(some 29), .mv (.tmp 34), none⟩,
     ⟨(some 35), .xt 0 (.tmp 29), none⟩,
     ⟨(some 36), .xt 1 (.tmp 29), none⟩,
     ⟨(some 8), .new [(.int .i64 0), (.int .i64 0)], none⟩,
     ⟨none, .st 2 (.tmp 8) (.tmp 35), none⟩,
     ⟨(some 9), .mv (.tmp 36), none⟩])
  (.seq (.reg [⟨(some 38), .ld (some 2) (.tmp 3), none⟩,
     ⟨(some 39), .bld [(.int .i64 0), (.int .i64 0)] [], none⟩,
     ⟨(some 40), .mv (.tmp 1), none⟩,
     ⟨(some 41), .call 51 [(.tmp 38), (.tmp 39), (.tmp 40), (.const (.int .i64 0))], none⟩,
     ⟨(some 37), .mv (.tmp 41), none⟩,
     ⟨(some 42), .xt 0 (.tmp 37), none⟩,
     ⟨(some 43), .xt 1 (.tmp 37), none⟩,
     ⟨(some 10), .new [(.int .i64 0), (.int .i64 0)], none⟩,
     ⟨none, .st 2 (.tmp 10) (.tmp 42), none⟩,
     ⟨(some 11), .mv (.tmp 43), none⟩])
  (.seq (.reg [⟨(some 44), .pad 0 (.tmp 3), none⟩,
     ⟨(some 45), .ld none (.tmp 44), none⟩,
     ⟨(some 46), .mv (.tmp 1), none⟩,
     ⟨(some 47), .bin .mul (.tmp 45) (.tmp 46), none⟩,
     ⟨(some 48), .call 52 [(.tmp 47), (.const (.int .i64 1000000))], none⟩,
     ⟨(some 12), .mv (.tmp 48), none⟩])
  (.seq (.reg [⟨(some 49), .pad 1 (.tmp 3), none⟩,
     ⟨(some 50), .ld none (.tmp 49), none⟩,
     ⟨(some 51), .mv (.tmp 1), none⟩,
     ⟨(some 52), .bin .mul (.tmp 50) (.tmp 51), none⟩,
     ⟨(some 53), .call 52 [(.tmp 52), (.const (.int .i64 1000000))], none⟩,
     ⟨(some 13), .mv (.tmp 53), none⟩])
  (.seq (.drw [⟨(some 54), .mv (.tmp 7), none⟩,
     ⟨(some 55), .mv (.tmp 54), none⟩,
     ⟨(some 56), .mv (.tmp 9), (some (55, true))⟩,
     ⟨(some 57), .pk (.tmp 55) (.tmp 56) (.const (.bool false)), none⟩,
     ⟨(some 58), .mv (.tmp 57), none⟩,
     ⟨(some 59), .mv (.tmp 11), (some (58, true))⟩,
     ⟨(some 60), .pk (.tmp 58) (.tmp 59) (.const (.bool false)), none⟩,
     ⟨(some 61), .mv (.tmp 60), none⟩,
     ⟨(some 62), .pad 0 (.tmp 10), (some (61, true))⟩,
     ⟨(some 63), .ld none (.tmp 62), (some (61, true))⟩,
     ⟨(some 64), .mv (.tmp 12), (some (61, true))⟩,
     ⟨(some 65), .bin .eql (.tmp 63) (.tmp 64), (some (61, true))⟩,
     ⟨(some 66), .pk (.tmp 61) (.tmp 65) (.const (.bool false)), none⟩,
     ⟨(some 67), .mv (.tmp 66), none⟩,
     ⟨(some 68), .pad 1 (.tmp 10), (some (67, true))⟩,
     ⟨(some 69), .ld none (.tmp 68), (some (67, true))⟩,
     ⟨(some 70), .mv (.tmp 13), (some (67, true))⟩,
     ⟨(some 71), .bin .eql (.tmp 69) (.tmp 70), (some (67, true))⟩,
     ⟨(some 72), .pk (.tmp 67) (.tmp 71) (.const (.bool false)), none⟩,
     ⟨(some 73), .mv (.tmp 72), none⟩,
     ⟨(some 74), .ld (some 2) (.tmp 8), (some (73, true))⟩,
     ⟨(some 75), .ld (some 2) (.tmp 10), (some (73, true))⟩,
     ⟨(some 76), .mv (.tmp 2), (some (73, true))⟩,
     ⟨(some 77), .call 50 [(.tmp 75), (.tmp 76)], (some (73, true))⟩,
     ⟨(some 78), .call 26 [(.tmp 74), (.tmp 77)], (some (73, true))⟩,
     ⟨(some 79), .pk (.tmp 73) (.tmp 78) (.const (.bool false)), none⟩,
     ⟨(some 6), .mv (.tmp 79), none⟩] [[], [0], [1], [1, 2], [3, 1], [4], [4, 5], [6, 4], [7], [8, 7], [7], [9, 10, 7], [7, 11], [12, 7], [13], [14, 13], [13], [15, 16, 13], [13, 17], [18, 13], [19], [19], [19], [21, 22, 19, 19], [20, 23, 23, 19], [19, 24], [25, 24, 0, 1, 2, 3, 4, 5, 6, 7, 8, 9, 10, 11, 12, 13, 14, 15, 16, 17, 18, 19, 20, 21, 22, 23, 24, 25]])
  .ret))))))))))
def glyphiclaw13_TurnScales.f (k : Nat) (p0_X : Int) (p0_Y : Int) (by1 : Int) (n2 : Int) : Option (Bool) := (glyphiclaw13_first.f k).bind fun t106 => (if t106 = true then ((turn_Apply.f k (Int.tmod p0_X 1000000000) (Int.tmod p0_Y 1000000000) 0 0 (wr64 ((Int.tmod (wr64 ((Int.tmod by1 1000000000) + 1000000000)) 1000000000) + 1)) n2).bind fun (t108, t109, t110) => (if t110 = true then ((turn_Apply.f k (Int.tmod p0_X 1000000000) (Int.tmod p0_Y 1000000000) 0 0 (wr64 ((Int.tmod (wr64 ((Int.tmod by1 1000000000) + 1000000000)) 1000000000) + 1)) 0).bind fun (t114, t115, t116) => (if t116 = true then ((glyphicref1_Round.f (wr64 ((Int.tmod p0_X 1000000000) * (wr64 ((Int.tmod (wr64 ((Int.tmod by1 1000000000) + 1000000000)) 1000000000) + 1)))) 1000000).bind fun t127 => ((glyphicref1_Round.f (wr64 ((Int.tmod p0_Y 1000000000) * (wr64 ((Int.tmod (wr64 ((Int.tmod by1 1000000000) + 1000000000)) 1000000000) + 1)))) 1000000).bind fun t129 => (if t114 = t127 then (if t115 = t129 then ((turn_Quarter.f k t114 t115 n2).bind fun (t133, t134) => ((glyphicref_SamePoint.f t108 t109 t133 t134).bind fun t139 => (some t139))) else (some false)) else (some false)))) else ((glyphicref1_Round.f (wr64 ((Int.tmod p0_X 1000000000) * (wr64 ((Int.tmod (wr64 ((Int.tmod by1 1000000000) + 1000000000)) 1000000000) + 1)))) 1000000).bind fun t142 => ((glyphicref1_Round.f (wr64 ((Int.tmod p0_Y 1000000000) * (wr64 ((Int.tmod (wr64 ((Int.tmod by1 1000000000) + 1000000000)) 1000000000) + 1)))) 1000000).bind fun t144 => (some false))))) else ((turn_Apply.f k (Int.tmod p0_X 1000000000) (Int.tmod p0_Y 1000000000) 0 0 (wr64 ((Int.tmod (wr64 ((Int.tmod by1 1000000000) + 1000000000)) 1000000000) + 1)) 0).bind fun (t147, t148, t149) => (if t149 = true then ((glyphicref1_Round.f (wr64 ((Int.tmod p0_X 1000000000) * (wr64 ((Int.tmod (wr64 ((Int.tmod by1 1000000000) + 1000000000)) 1000000000) + 1)))) 1000000).bind fun t153 => ((glyphicref1_Round.f (wr64 ((Int.tmod p0_Y 1000000000) * (wr64 ((Int.tmod (wr64 ((Int.tmod by1 1000000000) + 1000000000)) 1000000000) + 1)))) 1000000).bind fun t155 => (some false))) else ((glyphicref1_Round.f (wr64 ((Int.tmod p0_X 1000000000) * (wr64 ((Int.tmod (wr64 ((Int.tmod by1 1000000000) + 1000000000)) 1000000000) + 1)))) 1000000).bind fun t158 => ((glyphicref1_Round.f (wr64 ((Int.tmod p0_Y 1000000000) * (wr64 ((Int.tmod (wr64 ((Int.tmod by1 1000000000) + 1000000000)) 1000000000) + 1)))) 1000000).bind fun t160 => (some false))))))) else (some false))
theorem glyphiclaw13_TurnScales.ok {S : Seal} {k : Nat} {p0_X : Int} {p0_Y : Int} {by1 : Int} {n2 : Int}  (e : glyphiclaw13_TurnScales.f k p0_X p0_Y by1 n2 = some true) :
    Cal Try.prog 17 [.agg #[.int .i64 p0_X, .int .i64 p0_Y], .int .i64 by1, .int .i64 n2] [] S fun v H' S' => v = .bool true ∧ H' = [] ∧ S' = S := by
  unfold glyphiclaw13_TurnScales.f at e
  refine cal_of (c := c17) (N := 80) Try.func17 rfl rfl (by kernel_rfl) (rs := [.t 6]) (by kernel_rfl) (Nat.le_of_ble_eq_true rfl) ?_
  unfold c17
  refine w_seq ?_
  refine w_reg fun all => ?_
  refine t_a (.box rfl rfl rfl) fun b1 fb1 sb1 => ?_
  refine t_qz 1 [1, 2, 3] (σ' := [(1, .int .i64 by1), (2, .int .i64 n2), (3, .pointer (some ⟨b1, 0, none⟩))]) (by kernel_rfl) ?_
  refine t_end ?_
  show W _ _ _ _ _ _ _
  refine w_seq ?_
  refine w_reg fun all => ?_
  obtain ⟨t106, h107, e⟩ := bind_of e
  cases t106 with
  | true =>
    rw [if_pos rfl] at e
    refine t_v (.call (vs := []) rfl rfl (by kernel_rfl) (glyphiclaw13_first.ok h107)) ?_
    refine t_qz 1 [1, 2, 3, 7] (σ' := [(1, .int .i64 by1), (2, .int .i64 n2), (3, .pointer (some ⟨b1, 0, none⟩)), (7, .bool true)]) (by kernel_rfl) ?_
    refine t_end ?_
    show W _ _ _ _ _ _ _
    refine w_seq ?_
    refine w_seq ?_
    refine w_reg fun all => ?_
    refine t_qz 2 [1, 2, 3, 7, 16] (σ' := [(1, .int .i64 by1), (2, .int .i64 n2), (3, .pointer (some ⟨b1, 0, none⟩)), (7, .bool true), (16, .bool false)]) (by kernel_rfl) ?_
    refine t_end ?_
    show W _ _ _ _ _ _ _
    refine w_cond rfl (fun c_ => by cases c_) (fun _ => ?_)
    show W _ _ _ _ _ _ _
    refine w_skip ?_
    show W _ _ _ _ _ _ _
    refine w_seq ?_
    refine w_reg fun all => ?_
    refine t_qz 1 [1, 2, 3, 7, 17] (σ' := [(1, .int .i64 by1), (2, .int .i64 n2), (3, .pointer (some ⟨b1, 0, none⟩)), (7, .bool true), (17, .pointer (some ⟨b1, 0, none⟩))]) (by kernel_rfl) ?_
    refine t_v (.ld1 rfl rfl rfl (.at 0 rfl rfl)) ?_
    refine t_qz 2 [1, 2, 3, 7, 19, 20] (σ' := [(1, .int .i64 by1), (2, .int .i64 n2), (3, .pointer (some ⟨b1, 0, none⟩)), (7, .bool true), (19, .int .i64 (Int.tmod p0_X 1000000000)), (20, .pointer (some ⟨b1, 1, none⟩))]) (by kernel_rfl) ?_
    refine t_v (.ld1 rfl rfl rfl (.at 0 rfl rfl)) ?_
    refine t_qz 2 [1, 2, 3, 7, 23] (σ' := [(1, .int .i64 by1), (2, .int .i64 n2), (3, .pointer (some ⟨b1, 0, none⟩)), (7, .bool true), (23, .agg #[.int .i64 (Int.tmod p0_X 1000000000), .int .i64 (Int.tmod p0_Y 1000000000)])]) (by kernel_rfl) ?_
    refine t_sti 0 (cs := [.int .i64 (Int.tmod p0_X 1000000000), .int .i64 (Int.tmod p0_Y 1000000000)]) rfl rfl rfl rfl rfl rfl rfl rfl rfl ?_
    refine t_keep [1, 2, 3, 7] (σ' := [(1, .int .i64 by1), (2, .int .i64 n2), (3, .pointer (some ⟨b1, 0, none⟩)), (7, .bool true)]) (by kernel_rfl) ?_
    refine t_end ?_
    show W _ _ _ _ _ _ _
    refine w_seq ?_
    refine w_reg fun all => ?_
    refine t_qz 6 [1, 2, 3, 7] (σ' := [(1, .int .i64 (wr64 ((Int.tmod (wr64 ((Int.tmod by1 1000000000) + 1000000000)) 1000000000) + 1))), (2, .int .i64 n2), (3, .pointer (some ⟨b1, 0, none⟩)), (7, .bool true)]) (by kernel_rfl) ?_
    refine t_end ?_
    show W _ _ _ _ _ _ _
    refine w_seq ?_
    refine w_reg fun all => ?_
    refine t_v (.ldn rfl rfl rfl (.at 0 rfl rfl)) ?_
    obtain ⟨⟨t108, t109, t110⟩, h111, e⟩ := bind_of e
    try dsimp only at e
    refine t_qz 3 [1, 2, 3, 7, 30, 31, 32, 33] (σ' := [(1, .int .i64 (wr64 ((Int.tmod (wr64 ((Int.tmod by1 1000000000) + 1000000000)) 1000000000) + 1))), (2, .int .i64 n2), (3, .pointer (some ⟨b1, 0, none⟩)), (7, .bool true), (30, .agg #[.int .i64 (Int.tmod p0_X 1000000000), .int .i64 (Int.tmod p0_Y 1000000000)]), (31, .agg #[.int .i64 0, .int .i64 0]), (32, .int .i64 (wr64 ((Int.tmod (wr64 ((Int.tmod by1 1000000000) + 1000000000)) 1000000000) + 1))), (33, .int .i64 n2)]) (by kernel_rfl) ?_
    refine t_v (.call (vs := [.agg #[.int .i64 (Int.tmod p0_X 1000000000), .int .i64 (Int.tmod p0_Y 1000000000)], .agg #[.int .i64 0, .int .i64 0], .int .i64 (wr64 ((Int.tmod (wr64 ((Int.tmod by1 1000000000) + 1000000000)) 1000000000) + 1)), .int .i64 n2]) rfl rfl (by kernel_rfl) (turn_Apply.ok h111)) ?_
    by_cases c112 : t110 = true
    · rw [if_pos c112] at e
      have c112b : t110 = true := c112
      refine t_qz 2 [1, 2, 3, 7, 29, 35] (σ' := [(1, .int .i64 (wr64 ((Int.tmod (wr64 ((Int.tmod by1 1000000000) + 1000000000)) 1000000000) + 1))), (2, .int .i64 n2), (3, .pointer (some ⟨b1, 0, none⟩)), (7, .bool true), (29, .tuple #[.agg #[.int .i64 t108, .int .i64 t109], .bool t110]), (35, .agg #[.int .i64 t108, .int .i64 t109])]) (by kernel_rfl) ?_
      refine t_v (dv_quiet rfl (congrArg (fun t => some (Value.bool t)) c112b)) ?_
      refine t_a (.new rfl rfl) fun b113 fb113 sb113 => ?_
      refine t_sti 0 (cs := [.int .i64 t108, .int .i64 t109]) rfl rfl rfl rfl rfl rfl rfl rfl rfl ?_
      refine t_qz 1 [1, 2, 3, 7, 8, 9] (σ' := [(1, .int .i64 (wr64 ((Int.tmod (wr64 ((Int.tmod by1 1000000000) + 1000000000)) 1000000000) + 1))), (2, .int .i64 n2), (3, .pointer (some ⟨b1, 0, none⟩)), (7, .bool true), (8, .pointer (some ⟨b113, 0, none⟩)), (9, .bool true)]) (by kernel_rfl) ?_
      refine t_end ?_
      show W _ _ _ _ _ _ _
      refine w_seq ?_
      refine w_reg fun all => ?_
      refine t_v (.ldn rfl rfl rfl (.at 1 rfl rfl)) ?_
      obtain ⟨⟨t114, t115, t116⟩, h117, e⟩ := bind_of e
      try dsimp only at e
      refine t_qz 2 [1, 2, 3, 7, 8, 9, 38, 39, 40] (σ' := [(1, .int .i64 (wr64 ((Int.tmod (wr64 ((Int.tmod by1 1000000000) + 1000000000)) 1000000000) + 1))), (2, .int .i64 n2), (3, .pointer (some ⟨b1, 0, none⟩)), (7, .bool true), (8, .pointer (some ⟨b113, 0, none⟩)), (9, .bool true), (38, .agg #[.int .i64 (Int.tmod p0_X 1000000000), .int .i64 (Int.tmod p0_Y 1000000000)]), (39, .agg #[.int .i64 0, .int .i64 0]), (40, .int .i64 (wr64 ((Int.tmod (wr64 ((Int.tmod by1 1000000000) + 1000000000)) 1000000000) + 1)))]) (by kernel_rfl) ?_
      refine t_v (.call (vs := [.agg #[.int .i64 (Int.tmod p0_X 1000000000), .int .i64 (Int.tmod p0_Y 1000000000)], .agg #[.int .i64 0, .int .i64 0], .int .i64 (wr64 ((Int.tmod (wr64 ((Int.tmod by1 1000000000) + 1000000000)) 1000000000) + 1)), .int .i64 0]) rfl rfl (by kernel_rfl) (turn_Apply.ok h117)) ?_
      by_cases c118 : t116 = true
      · rw [if_pos c118] at e
        have c118b : t116 = true := c118
        refine t_qz 2 [1, 2, 3, 7, 8, 9, 37, 42] (σ' := [(1, .int .i64 (wr64 ((Int.tmod (wr64 ((Int.tmod by1 1000000000) + 1000000000)) 1000000000) + 1))), (2, .int .i64 n2), (3, .pointer (some ⟨b1, 0, none⟩)), (7, .bool true), (8, .pointer (some ⟨b113, 0, none⟩)), (9, .bool true), (37, .tuple #[.agg #[.int .i64 t114, .int .i64 t115], .bool t116]), (42, .agg #[.int .i64 t114, .int .i64 t115])]) (by kernel_rfl) ?_
        refine t_v (dv_quiet rfl (congrArg (fun t => some (Value.bool t)) c118b)) ?_
        refine t_a (.new rfl rfl) fun b119 fb119 sb119 => ?_
        refine t_sti 0 (cs := [.int .i64 t114, .int .i64 t115]) rfl rfl rfl rfl rfl rfl rfl rfl rfl ?_
        refine t_qz 1 [1, 2, 3, 7, 8, 9, 10, 11] (σ' := [(1, .int .i64 (wr64 ((Int.tmod (wr64 ((Int.tmod by1 1000000000) + 1000000000)) 1000000000) + 1))), (2, .int .i64 n2), (3, .pointer (some ⟨b1, 0, none⟩)), (7, .bool true), (8, .pointer (some ⟨b113, 0, none⟩)), (9, .bool true), (10, .pointer (some ⟨b119, 0, none⟩)), (11, .bool true)]) (by kernel_rfl) ?_
        refine t_end ?_
        show W _ _ _ _ _ _ _
        refine w_seq ?_
        refine w_reg fun all => ?_
        refine t_qz 1 [1, 2, 3, 7, 8, 9, 10, 11, 44] (σ' := [(1, .int .i64 (wr64 ((Int.tmod (wr64 ((Int.tmod by1 1000000000) + 1000000000)) 1000000000) + 1))), (2, .int .i64 n2), (3, .pointer (some ⟨b1, 0, none⟩)), (7, .bool true), (8, .pointer (some ⟨b113, 0, none⟩)), (9, .bool true), (10, .pointer (some ⟨b119, 0, none⟩)), (11, .bool true), (44, .pointer (some ⟨b1, 0, none⟩))]) (by kernel_rfl) ?_
        refine t_v (.ld1 rfl rfl rfl (.at 2 rfl rfl)) ?_
        obtain ⟨t127, h128, e⟩ := bind_of e
        refine t_qz 2 [1, 2, 3, 7, 8, 9, 10, 11, 47] (σ' := [(1, .int .i64 (wr64 ((Int.tmod (wr64 ((Int.tmod by1 1000000000) + 1000000000)) 1000000000) + 1))), (2, .int .i64 n2), (3, .pointer (some ⟨b1, 0, none⟩)), (7, .bool true), (8, .pointer (some ⟨b113, 0, none⟩)), (9, .bool true), (10, .pointer (some ⟨b119, 0, none⟩)), (11, .bool true), (47, .int .i64 (wr64 ((Int.tmod p0_X 1000000000) * (wr64 ((Int.tmod (wr64 ((Int.tmod by1 1000000000) + 1000000000)) 1000000000) + 1)))))]) (by kernel_rfl) ?_
        refine t_v (.call (vs := [.int .i64 (wr64 ((Int.tmod p0_X 1000000000) * (wr64 ((Int.tmod (wr64 ((Int.tmod by1 1000000000) + 1000000000)) 1000000000) + 1)))), .int .i64 1000000]) rfl rfl (by kernel_rfl) (glyphicref1_Round.ok h128)) ?_
        refine t_qz 1 [1, 2, 3, 7, 8, 9, 10, 11, 12] (σ' := [(1, .int .i64 (wr64 ((Int.tmod (wr64 ((Int.tmod by1 1000000000) + 1000000000)) 1000000000) + 1))), (2, .int .i64 n2), (3, .pointer (some ⟨b1, 0, none⟩)), (7, .bool true), (8, .pointer (some ⟨b113, 0, none⟩)), (9, .bool true), (10, .pointer (some ⟨b119, 0, none⟩)), (11, .bool true), (12, .int .i64 t127)]) (by kernel_rfl) ?_
        refine t_end ?_
        show W _ _ _ _ _ _ _
        refine w_seq ?_
        refine w_reg fun all => ?_
        refine t_qz 1 [1, 2, 7, 8, 9, 10, 11, 12, 49] (σ' := [(1, .int .i64 (wr64 ((Int.tmod (wr64 ((Int.tmod by1 1000000000) + 1000000000)) 1000000000) + 1))), (2, .int .i64 n2), (7, .bool true), (8, .pointer (some ⟨b113, 0, none⟩)), (9, .bool true), (10, .pointer (some ⟨b119, 0, none⟩)), (11, .bool true), (12, .int .i64 t127), (49, .pointer (some ⟨b1, 1, none⟩))]) (by kernel_rfl) ?_
        refine t_v (.ld1 rfl rfl rfl (.at 2 rfl rfl)) ?_
        obtain ⟨t129, h130, e⟩ := bind_of e
        refine t_qz 2 [2, 7, 8, 9, 10, 11, 12, 52] (σ' := [(2, .int .i64 n2), (7, .bool true), (8, .pointer (some ⟨b113, 0, none⟩)), (9, .bool true), (10, .pointer (some ⟨b119, 0, none⟩)), (11, .bool true), (12, .int .i64 t127), (52, .int .i64 (wr64 ((Int.tmod p0_Y 1000000000) * (wr64 ((Int.tmod (wr64 ((Int.tmod by1 1000000000) + 1000000000)) 1000000000) + 1)))))]) (by kernel_rfl) ?_
        refine t_v (.call (vs := [.int .i64 (wr64 ((Int.tmod p0_Y 1000000000) * (wr64 ((Int.tmod (wr64 ((Int.tmod by1 1000000000) + 1000000000)) 1000000000) + 1)))), .int .i64 1000000]) rfl rfl (by kernel_rfl) (glyphicref1_Round.ok h130)) ?_
        refine t_qz 1 [2, 7, 8, 9, 10, 11, 12, 13] (σ' := [(2, .int .i64 n2), (7, .bool true), (8, .pointer (some ⟨b113, 0, none⟩)), (9, .bool true), (10, .pointer (some ⟨b119, 0, none⟩)), (11, .bool true), (12, .int .i64 t127), (13, .int .i64 t129)]) (by kernel_rfl) ?_
        refine t_end ?_
        show W _ _ _ _ _ _ _
        refine w_seq ?_
        by_cases c131 : t114 = t127
        · rw [if_pos c131] at e
          have c131b : (t114 == t127) = true := beq_iff_eq.mpr c131
          by_cases c132 : t115 = t129
          · rw [if_pos c132] at e
            have c132b : (t115 == t129) = true := beq_iff_eq.mpr c132
            obtain ⟨⟨t133, t134⟩, h135, e⟩ := bind_of e
            try dsimp only at e
            obtain ⟨t139, h140, e⟩ := bind_of e
            refine w_drwE mixed 27 [.v (.bool true), .v (.bool true), .v (.bool true), .v (.bool true), .v (.bool true), .v (.bool true), .v (.bool true), .v (.bool true), .v (.pointer (some ⟨b119, 0, none⟩)), .v (.int .i64 t114), .v (.int .i64 t127), .v (.bool true), .v (.bool true), .v (.bool true), .v (.pointer (some ⟨b119, 1, none⟩)), .v (.int .i64 t115), .v (.int .i64 t129), .v (.bool true), .v (.bool true), .v (.bool true), .v (.agg #[.int .i64 t108, .int .i64 t109]), .v (.agg #[.int .i64 t114, .int .i64 t115]), .v (.int .i64 n2), .v (.agg #[.int .i64 t133, .int .i64 t134]), .v (.bool t139), .v (.bool t139), .v (.bool t139)] (by kernel_rfl) ?_ ?_
            · refine DI.sq 9 (by kernel_rfl) rfl ?_
              refine .cons (.ld1 rfl rfl rfl (.at 0 rfl rfl)) ?_
              refine DI.sq 1 (by kernel_rfl) rfl ?_
              refine .cons (dv_quiet rfl (congrArg (fun t => some (Value.bool t)) c131b)) ?_
              refine DI.sq 3 (by kernel_rfl) rfl ?_
              refine .cons (.ld1 rfl rfl rfl (.at 0 rfl rfl)) ?_
              refine DI.sq 1 (by kernel_rfl) rfl ?_
              refine .cons (dv_quiet rfl (congrArg (fun t => some (Value.bool t)) c132b)) ?_
              refine DI.sq 2 (by kernel_rfl) rfl ?_
              refine .cons (.ldn rfl rfl rfl (.at 1 rfl rfl)) ?_
              refine .cons (.ldn rfl rfl rfl (.at 0 rfl rfl)) ?_
              refine DI.sq 1 (by kernel_rfl) rfl ?_
              refine .cons (.call (vs := [.agg #[.int .i64 t114, .int .i64 t115], .int .i64 n2]) rfl rfl (by kernel_rfl) (turn_Quarter.ok h135)) ?_
              refine .cons (.call (vs := [.agg #[.int .i64 t108, .int .i64 t109], .agg #[.int .i64 t133, .int .i64 t134]]) rfl rfl (by kernel_rfl) (glyphicref_SamePoint.ok h140)) ?_
              refine DI.sq 2 (by kernel_rfl) rfl ?_
              exact .nil
            refine fk_q 27 [6] (σ' := [(6, .bool t139)]) t_more (by kernel_rfl) ?_
            refine fk_nil fun all => ?_
            refine t_keep [6] (σ' := [(6, .bool t139)]) (by kernel_rfl) ?_
            refine t_end ?_
            show W _ _ _ _ _ _ _
            refine w_ret ?_
            have hr_ := Option.some.inj e
            exact ⟨[.bool t139], [], S, ⟨rfl, trivial⟩, VS.none, congrArg Value.bool hr_, rfl, rfl⟩
          · rw [if_neg c132] at e
            exact absurd (Option.some.inj e) (by decide)
        · rw [if_neg c131] at e
          exact absurd (Option.some.inj e) (by decide)
      · rw [if_neg c118] at e
        have c118b : t116 = false := Bool.eq_false_iff.mpr c118
        refine t_qz 2 [1, 2, 3, 7, 8, 9, 37, 42] (σ' := [(1, .int .i64 (wr64 ((Int.tmod (wr64 ((Int.tmod by1 1000000000) + 1000000000)) 1000000000) + 1))), (2, .int .i64 n2), (3, .pointer (some ⟨b1, 0, none⟩)), (7, .bool true), (8, .pointer (some ⟨b113, 0, none⟩)), (9, .bool true), (37, .tuple #[.agg #[.int .i64 t114, .int .i64 t115], .bool t116]), (42, .agg #[.int .i64 t114, .int .i64 t115])]) (by kernel_rfl) ?_
        refine t_v (dv_quiet rfl (congrArg (fun t => some (Value.bool t)) c118b)) ?_
        refine t_a (.new rfl rfl) fun b141 fb141 sb141 => ?_
        refine t_sti 0 (cs := [.int .i64 t114, .int .i64 t115]) rfl rfl rfl rfl rfl rfl rfl rfl rfl ?_
        refine t_qz 1 [1, 2, 3, 7, 8, 9, 10, 11] (σ' := [(1, .int .i64 (wr64 ((Int.tmod (wr64 ((Int.tmod by1 1000000000) + 1000000000)) 1000000000) + 1))), (2, .int .i64 n2), (3, .pointer (some ⟨b1, 0, none⟩)), (7, .bool true), (8, .pointer (some ⟨b113, 0, none⟩)), (9, .bool true), (10, .pointer (some ⟨b141, 0, none⟩)), (11, .bool false)]) (by kernel_rfl) ?_
        refine t_end ?_
        show W _ _ _ _ _ _ _
        refine w_seq ?_
        refine w_reg fun all => ?_
        refine t_qz 1 [1, 2, 3, 7, 8, 9, 10, 11, 44] (σ' := [(1, .int .i64 (wr64 ((Int.tmod (wr64 ((Int.tmod by1 1000000000) + 1000000000)) 1000000000) + 1))), (2, .int .i64 n2), (3, .pointer (some ⟨b1, 0, none⟩)), (7, .bool true), (8, .pointer (some ⟨b113, 0, none⟩)), (9, .bool true), (10, .pointer (some ⟨b141, 0, none⟩)), (11, .bool false), (44, .pointer (some ⟨b1, 0, none⟩))]) (by kernel_rfl) ?_
        refine t_v (.ld1 rfl rfl rfl (.at 2 rfl rfl)) ?_
        obtain ⟨t142, h143, e⟩ := bind_of e
        refine t_qz 2 [1, 2, 3, 7, 8, 9, 10, 11, 47] (σ' := [(1, .int .i64 (wr64 ((Int.tmod (wr64 ((Int.tmod by1 1000000000) + 1000000000)) 1000000000) + 1))), (2, .int .i64 n2), (3, .pointer (some ⟨b1, 0, none⟩)), (7, .bool true), (8, .pointer (some ⟨b113, 0, none⟩)), (9, .bool true), (10, .pointer (some ⟨b141, 0, none⟩)), (11, .bool false), (47, .int .i64 (wr64 ((Int.tmod p0_X 1000000000) * (wr64 ((Int.tmod (wr64 ((Int.tmod by1 1000000000) + 1000000000)) 1000000000) + 1)))))]) (by kernel_rfl) ?_
        refine t_v (.call (vs := [.int .i64 (wr64 ((Int.tmod p0_X 1000000000) * (wr64 ((Int.tmod (wr64 ((Int.tmod by1 1000000000) + 1000000000)) 1000000000) + 1)))), .int .i64 1000000]) rfl rfl (by kernel_rfl) (glyphicref1_Round.ok h143)) ?_
        refine t_qz 1 [1, 2, 3, 7, 8, 9, 10, 11, 12] (σ' := [(1, .int .i64 (wr64 ((Int.tmod (wr64 ((Int.tmod by1 1000000000) + 1000000000)) 1000000000) + 1))), (2, .int .i64 n2), (3, .pointer (some ⟨b1, 0, none⟩)), (7, .bool true), (8, .pointer (some ⟨b113, 0, none⟩)), (9, .bool true), (10, .pointer (some ⟨b141, 0, none⟩)), (11, .bool false), (12, .int .i64 t142)]) (by kernel_rfl) ?_
        refine t_end ?_
        show W _ _ _ _ _ _ _
        refine w_seq ?_
        refine w_reg fun all => ?_
        refine t_qz 1 [1, 2, 7, 8, 9, 10, 11, 12, 49] (σ' := [(1, .int .i64 (wr64 ((Int.tmod (wr64 ((Int.tmod by1 1000000000) + 1000000000)) 1000000000) + 1))), (2, .int .i64 n2), (7, .bool true), (8, .pointer (some ⟨b113, 0, none⟩)), (9, .bool true), (10, .pointer (some ⟨b141, 0, none⟩)), (11, .bool false), (12, .int .i64 t142), (49, .pointer (some ⟨b1, 1, none⟩))]) (by kernel_rfl) ?_
        refine t_v (.ld1 rfl rfl rfl (.at 2 rfl rfl)) ?_
        obtain ⟨t144, h145, e⟩ := bind_of e
        refine t_qz 2 [2, 7, 8, 9, 10, 11, 12, 52] (σ' := [(2, .int .i64 n2), (7, .bool true), (8, .pointer (some ⟨b113, 0, none⟩)), (9, .bool true), (10, .pointer (some ⟨b141, 0, none⟩)), (11, .bool false), (12, .int .i64 t142), (52, .int .i64 (wr64 ((Int.tmod p0_Y 1000000000) * (wr64 ((Int.tmod (wr64 ((Int.tmod by1 1000000000) + 1000000000)) 1000000000) + 1)))))]) (by kernel_rfl) ?_
        refine t_v (.call (vs := [.int .i64 (wr64 ((Int.tmod p0_Y 1000000000) * (wr64 ((Int.tmod (wr64 ((Int.tmod by1 1000000000) + 1000000000)) 1000000000) + 1)))), .int .i64 1000000]) rfl rfl (by kernel_rfl) (glyphicref1_Round.ok h145)) ?_
        refine t_qz 1 [2, 7, 8, 9, 10, 11, 12, 13] (σ' := [(2, .int .i64 n2), (7, .bool true), (8, .pointer (some ⟨b113, 0, none⟩)), (9, .bool true), (10, .pointer (some ⟨b141, 0, none⟩)), (11, .bool false), (12, .int .i64 t142), (13, .int .i64 t144)]) (by kernel_rfl) ?_
        refine t_end ?_
        show W _ _ _ _ _ _ _
        refine w_seq ?_
        refine w_drwE mixed 27 [.v (.bool true), .v (.bool true), .v (.bool true), .v (.bool true), .v (.bool true), .v (.bool false), .v (.bool false), .v (.bool false), .v (.tuple #[]), .v (.tuple #[]), .v (.tuple #[]), .v (.tuple #[]), .v (.bool false), .v (.bool false), .v (.tuple #[]), .v (.tuple #[]), .v (.tuple #[]), .v (.tuple #[]), .v (.bool false), .v (.bool false), .v (.tuple #[]), .v (.tuple #[]), .v (.tuple #[]), .v (.tuple #[]), .v (.tuple #[]), .v (.bool false), .v (.bool false)] (by kernel_rfl) ?_ ?_
        · refine DI.sq 27 (by kernel_rfl) rfl ?_
          exact .nil
        refine fk_q 27 [6] (σ' := [(6, .bool false)]) t_more (by kernel_rfl) ?_
        refine fk_nil fun all => ?_
        refine t_keep [6] (σ' := [(6, .bool false)]) (by kernel_rfl) ?_
        refine t_end ?_
        show W _ _ _ _ _ _ _
        refine w_ret ?_
        have hr_ := Option.some.inj e
        exact ⟨[.bool false], [], S, ⟨rfl, trivial⟩, VS.none, congrArg Value.bool hr_, rfl, rfl⟩
    · rw [if_neg c112] at e
      have c112b : t110 = false := Bool.eq_false_iff.mpr c112
      refine t_qz 2 [1, 2, 3, 7, 29, 35] (σ' := [(1, .int .i64 (wr64 ((Int.tmod (wr64 ((Int.tmod by1 1000000000) + 1000000000)) 1000000000) + 1))), (2, .int .i64 n2), (3, .pointer (some ⟨b1, 0, none⟩)), (7, .bool true), (29, .tuple #[.agg #[.int .i64 t108, .int .i64 t109], .bool t110]), (35, .agg #[.int .i64 t108, .int .i64 t109])]) (by kernel_rfl) ?_
      refine t_v (dv_quiet rfl (congrArg (fun t => some (Value.bool t)) c112b)) ?_
      refine t_a (.new rfl rfl) fun b146 fb146 sb146 => ?_
      refine t_sti 0 (cs := [.int .i64 t108, .int .i64 t109]) rfl rfl rfl rfl rfl rfl rfl rfl rfl ?_
      refine t_qz 1 [1, 2, 3, 7, 8, 9] (σ' := [(1, .int .i64 (wr64 ((Int.tmod (wr64 ((Int.tmod by1 1000000000) + 1000000000)) 1000000000) + 1))), (2, .int .i64 n2), (3, .pointer (some ⟨b1, 0, none⟩)), (7, .bool true), (8, .pointer (some ⟨b146, 0, none⟩)), (9, .bool false)]) (by kernel_rfl) ?_
      refine t_end ?_
      show W _ _ _ _ _ _ _
      refine w_seq ?_
      refine w_reg fun all => ?_
      refine t_v (.ldn rfl rfl rfl (.at 1 rfl rfl)) ?_
      obtain ⟨⟨t147, t148, t149⟩, h150, e⟩ := bind_of e
      try dsimp only at e
      refine t_qz 2 [1, 2, 3, 7, 8, 9, 38, 39, 40] (σ' := [(1, .int .i64 (wr64 ((Int.tmod (wr64 ((Int.tmod by1 1000000000) + 1000000000)) 1000000000) + 1))), (2, .int .i64 n2), (3, .pointer (some ⟨b1, 0, none⟩)), (7, .bool true), (8, .pointer (some ⟨b146, 0, none⟩)), (9, .bool false), (38, .agg #[.int .i64 (Int.tmod p0_X 1000000000), .int .i64 (Int.tmod p0_Y 1000000000)]), (39, .agg #[.int .i64 0, .int .i64 0]), (40, .int .i64 (wr64 ((Int.tmod (wr64 ((Int.tmod by1 1000000000) + 1000000000)) 1000000000) + 1)))]) (by kernel_rfl) ?_
      refine t_v (.call (vs := [.agg #[.int .i64 (Int.tmod p0_X 1000000000), .int .i64 (Int.tmod p0_Y 1000000000)], .agg #[.int .i64 0, .int .i64 0], .int .i64 (wr64 ((Int.tmod (wr64 ((Int.tmod by1 1000000000) + 1000000000)) 1000000000) + 1)), .int .i64 0]) rfl rfl (by kernel_rfl) (turn_Apply.ok h150)) ?_
      by_cases c151 : t149 = true
      · rw [if_pos c151] at e
        have c151b : t149 = true := c151
        refine t_qz 2 [1, 2, 3, 7, 8, 9, 37, 42] (σ' := [(1, .int .i64 (wr64 ((Int.tmod (wr64 ((Int.tmod by1 1000000000) + 1000000000)) 1000000000) + 1))), (2, .int .i64 n2), (3, .pointer (some ⟨b1, 0, none⟩)), (7, .bool true), (8, .pointer (some ⟨b146, 0, none⟩)), (9, .bool false), (37, .tuple #[.agg #[.int .i64 t147, .int .i64 t148], .bool t149]), (42, .agg #[.int .i64 t147, .int .i64 t148])]) (by kernel_rfl) ?_
        refine t_v (dv_quiet rfl (congrArg (fun t => some (Value.bool t)) c151b)) ?_
        refine t_a (.new rfl rfl) fun b152 fb152 sb152 => ?_
        refine t_sti 0 (cs := [.int .i64 t147, .int .i64 t148]) rfl rfl rfl rfl rfl rfl rfl rfl rfl ?_
        refine t_qz 1 [1, 2, 3, 7, 8, 9, 10, 11] (σ' := [(1, .int .i64 (wr64 ((Int.tmod (wr64 ((Int.tmod by1 1000000000) + 1000000000)) 1000000000) + 1))), (2, .int .i64 n2), (3, .pointer (some ⟨b1, 0, none⟩)), (7, .bool true), (8, .pointer (some ⟨b146, 0, none⟩)), (9, .bool false), (10, .pointer (some ⟨b152, 0, none⟩)), (11, .bool true)]) (by kernel_rfl) ?_
        refine t_end ?_
        show W _ _ _ _ _ _ _
        refine w_seq ?_
        refine w_reg fun all => ?_
        refine t_qz 1 [1, 2, 3, 7, 8, 9, 10, 11, 44] (σ' := [(1, .int .i64 (wr64 ((Int.tmod (wr64 ((Int.tmod by1 1000000000) + 1000000000)) 1000000000) + 1))), (2, .int .i64 n2), (3, .pointer (some ⟨b1, 0, none⟩)), (7, .bool true), (8, .pointer (some ⟨b146, 0, none⟩)), (9, .bool false), (10, .pointer (some ⟨b152, 0, none⟩)), (11, .bool true), (44, .pointer (some ⟨b1, 0, none⟩))]) (by kernel_rfl) ?_
        refine t_v (.ld1 rfl rfl rfl (.at 2 rfl rfl)) ?_
        obtain ⟨t153, h154, e⟩ := bind_of e
        refine t_qz 2 [1, 2, 3, 7, 8, 9, 10, 11, 47] (σ' := [(1, .int .i64 (wr64 ((Int.tmod (wr64 ((Int.tmod by1 1000000000) + 1000000000)) 1000000000) + 1))), (2, .int .i64 n2), (3, .pointer (some ⟨b1, 0, none⟩)), (7, .bool true), (8, .pointer (some ⟨b146, 0, none⟩)), (9, .bool false), (10, .pointer (some ⟨b152, 0, none⟩)), (11, .bool true), (47, .int .i64 (wr64 ((Int.tmod p0_X 1000000000) * (wr64 ((Int.tmod (wr64 ((Int.tmod by1 1000000000) + 1000000000)) 1000000000) + 1)))))]) (by kernel_rfl) ?_
        refine t_v (.call (vs := [.int .i64 (wr64 ((Int.tmod p0_X 1000000000) * (wr64 ((Int.tmod (wr64 ((Int.tmod by1 1000000000) + 1000000000)) 1000000000) + 1)))), .int .i64 1000000]) rfl rfl (by kernel_rfl) (glyphicref1_Round.ok h154)) ?_
        refine t_qz 1 [1, 2, 3, 7, 8, 9, 10, 11, 12] (σ' := [(1, .int .i64 (wr64 ((Int.tmod (wr64 ((Int.tmod by1 1000000000) + 1000000000)) 1000000000) + 1))), (2, .int .i64 n2), (3, .pointer (some ⟨b1, 0, none⟩)), (7, .bool true), (8, .pointer (some ⟨b146, 0, none⟩)), (9, .bool false), (10, .pointer (some ⟨b152, 0, none⟩)), (11, .bool true), (12, .int .i64 t153)]) (by kernel_rfl) ?_
        refine t_end ?_
        show W _ _ _ _ _ _ _
        refine w_seq ?_
        refine w_reg fun all => ?_
        refine t_qz 1 [1, 2, 7, 8, 9, 10, 11, 12, 49] (σ' := [(1, .int .i64 (wr64 ((Int.tmod (wr64 ((Int.tmod by1 1000000000) + 1000000000)) 1000000000) + 1))), (2, .int .i64 n2), (7, .bool true), (8, .pointer (some ⟨b146, 0, none⟩)), (9, .bool false), (10, .pointer (some ⟨b152, 0, none⟩)), (11, .bool true), (12, .int .i64 t153), (49, .pointer (some ⟨b1, 1, none⟩))]) (by kernel_rfl) ?_
        refine t_v (.ld1 rfl rfl rfl (.at 2 rfl rfl)) ?_
        obtain ⟨t155, h156, e⟩ := bind_of e
        refine t_qz 2 [2, 7, 8, 9, 10, 11, 12, 52] (σ' := [(2, .int .i64 n2), (7, .bool true), (8, .pointer (some ⟨b146, 0, none⟩)), (9, .bool false), (10, .pointer (some ⟨b152, 0, none⟩)), (11, .bool true), (12, .int .i64 t153), (52, .int .i64 (wr64 ((Int.tmod p0_Y 1000000000) * (wr64 ((Int.tmod (wr64 ((Int.tmod by1 1000000000) + 1000000000)) 1000000000) + 1)))))]) (by kernel_rfl) ?_
        refine t_v (.call (vs := [.int .i64 (wr64 ((Int.tmod p0_Y 1000000000) * (wr64 ((Int.tmod (wr64 ((Int.tmod by1 1000000000) + 1000000000)) 1000000000) + 1)))), .int .i64 1000000]) rfl rfl (by kernel_rfl) (glyphicref1_Round.ok h156)) ?_
        refine t_qz 1 [2, 7, 8, 9, 10, 11, 12, 13] (σ' := [(2, .int .i64 n2), (7, .bool true), (8, .pointer (some ⟨b146, 0, none⟩)), (9, .bool false), (10, .pointer (some ⟨b152, 0, none⟩)), (11, .bool true), (12, .int .i64 t153), (13, .int .i64 t155)]) (by kernel_rfl) ?_
        refine t_end ?_
        show W _ _ _ _ _ _ _
        refine w_seq ?_
        refine w_drwE mixed 27 [.v (.bool true), .v (.bool true), .v (.bool false), .v (.bool false), .v (.bool false), .v (.tuple #[]), .v (.bool false), .v (.bool false), .v (.tuple #[]), .v (.tuple #[]), .v (.tuple #[]), .v (.tuple #[]), .v (.bool false), .v (.bool false), .v (.tuple #[]), .v (.tuple #[]), .v (.tuple #[]), .v (.tuple #[]), .v (.bool false), .v (.bool false), .v (.tuple #[]), .v (.tuple #[]), .v (.tuple #[]), .v (.tuple #[]), .v (.tuple #[]), .v (.bool false), .v (.bool false)] (by kernel_rfl) ?_ ?_
        · refine DI.sq 27 (by kernel_rfl) rfl ?_
          exact .nil
        refine fk_q 27 [6] (σ' := [(6, .bool false)]) t_more (by kernel_rfl) ?_
        refine fk_nil fun all => ?_
        refine t_keep [6] (σ' := [(6, .bool false)]) (by kernel_rfl) ?_
        refine t_end ?_
        show W _ _ _ _ _ _ _
        refine w_ret ?_
        have hr_ := Option.some.inj e
        exact ⟨[.bool false], [], S, ⟨rfl, trivial⟩, VS.none, congrArg Value.bool hr_, rfl, rfl⟩
      · rw [if_neg c151] at e
        have c151b : t149 = false := Bool.eq_false_iff.mpr c151
        refine t_qz 2 [1, 2, 3, 7, 8, 9, 37, 42] (σ' := [(1, .int .i64 (wr64 ((Int.tmod (wr64 ((Int.tmod by1 1000000000) + 1000000000)) 1000000000) + 1))), (2, .int .i64 n2), (3, .pointer (some ⟨b1, 0, none⟩)), (7, .bool true), (8, .pointer (some ⟨b146, 0, none⟩)), (9, .bool false), (37, .tuple #[.agg #[.int .i64 t147, .int .i64 t148], .bool t149]), (42, .agg #[.int .i64 t147, .int .i64 t148])]) (by kernel_rfl) ?_
        refine t_v (dv_quiet rfl (congrArg (fun t => some (Value.bool t)) c151b)) ?_
        refine t_a (.new rfl rfl) fun b157 fb157 sb157 => ?_
        refine t_sti 0 (cs := [.int .i64 t147, .int .i64 t148]) rfl rfl rfl rfl rfl rfl rfl rfl rfl ?_
        refine t_qz 1 [1, 2, 3, 7, 8, 9, 10, 11] (σ' := [(1, .int .i64 (wr64 ((Int.tmod (wr64 ((Int.tmod by1 1000000000) + 1000000000)) 1000000000) + 1))), (2, .int .i64 n2), (3, .pointer (some ⟨b1, 0, none⟩)), (7, .bool true), (8, .pointer (some ⟨b146, 0, none⟩)), (9, .bool false), (10, .pointer (some ⟨b157, 0, none⟩)), (11, .bool false)]) (by kernel_rfl) ?_
        refine t_end ?_
        show W _ _ _ _ _ _ _
        refine w_seq ?_
        refine w_reg fun all => ?_
        refine t_qz 1 [1, 2, 3, 7, 8, 9, 10, 11, 44] (σ' := [(1, .int .i64 (wr64 ((Int.tmod (wr64 ((Int.tmod by1 1000000000) + 1000000000)) 1000000000) + 1))), (2, .int .i64 n2), (3, .pointer (some ⟨b1, 0, none⟩)), (7, .bool true), (8, .pointer (some ⟨b146, 0, none⟩)), (9, .bool false), (10, .pointer (some ⟨b157, 0, none⟩)), (11, .bool false), (44, .pointer (some ⟨b1, 0, none⟩))]) (by kernel_rfl) ?_
        refine t_v (.ld1 rfl rfl rfl (.at 2 rfl rfl)) ?_
        obtain ⟨t158, h159, e⟩ := bind_of e
        refine t_qz 2 [1, 2, 3, 7, 8, 9, 10, 11, 47] (σ' := [(1, .int .i64 (wr64 ((Int.tmod (wr64 ((Int.tmod by1 1000000000) + 1000000000)) 1000000000) + 1))), (2, .int .i64 n2), (3, .pointer (some ⟨b1, 0, none⟩)), (7, .bool true), (8, .pointer (some ⟨b146, 0, none⟩)), (9, .bool false), (10, .pointer (some ⟨b157, 0, none⟩)), (11, .bool false), (47, .int .i64 (wr64 ((Int.tmod p0_X 1000000000) * (wr64 ((Int.tmod (wr64 ((Int.tmod by1 1000000000) + 1000000000)) 1000000000) + 1)))))]) (by kernel_rfl) ?_
        refine t_v (.call (vs := [.int .i64 (wr64 ((Int.tmod p0_X 1000000000) * (wr64 ((Int.tmod (wr64 ((Int.tmod by1 1000000000) + 1000000000)) 1000000000) + 1)))), .int .i64 1000000]) rfl rfl (by kernel_rfl) (glyphicref1_Round.ok h159)) ?_
        refine t_qz 1 [1, 2, 3, 7, 8, 9, 10, 11, 12] (σ' := [(1, .int .i64 (wr64 ((Int.tmod (wr64 ((Int.tmod by1 1000000000) + 1000000000)) 1000000000) + 1))), (2, .int .i64 n2), (3, .pointer (some ⟨b1, 0, none⟩)), (7, .bool true), (8, .pointer (some ⟨b146, 0, none⟩)), (9, .bool false), (10, .pointer (some ⟨b157, 0, none⟩)), (11, .bool false), (12, .int .i64 t158)]) (by kernel_rfl) ?_
        refine t_end ?_
        show W _ _ _ _ _ _ _
        refine w_seq ?_
        refine w_reg fun all => ?_
        refine t_qz 1 [1, 2, 7, 8, 9, 10, 11, 12, 49] (σ' := [(1, .int .i64 (wr64 ((Int.tmod (wr64 ((Int.tmod by1 1000000000) + 1000000000)) 1000000000) + 1))), (2, .int .i64 n2), (7, .bool true), (8, .pointer (some ⟨b146, 0, none⟩)), (9, .bool false), (10, .pointer (some ⟨b157, 0, none⟩)), (11, .bool false), (12, .int .i64 t158), (49, .pointer (some ⟨b1, 1, none⟩))]) (by kernel_rfl) ?_
        refine t_v (.ld1 rfl rfl rfl (.at 2 rfl rfl)) ?_
        obtain ⟨t160, h161, e⟩ := bind_of e
        refine t_qz 2 [2, 7, 8, 9, 10, 11, 12, 52] (σ' := [(2, .int .i64 n2), (7, .bool true), (8, .pointer (some ⟨b146, 0, none⟩)), (9, .bool false), (10, .pointer (some ⟨b157, 0, none⟩)), (11, .bool false), (12, .int .i64 t158), (52, .int .i64 (wr64 ((Int.tmod p0_Y 1000000000) * (wr64 ((Int.tmod (wr64 ((Int.tmod by1 1000000000) + 1000000000)) 1000000000) + 1)))))]) (by kernel_rfl) ?_
        refine t_v (.call (vs := [.int .i64 (wr64 ((Int.tmod p0_Y 1000000000) * (wr64 ((Int.tmod (wr64 ((Int.tmod by1 1000000000) + 1000000000)) 1000000000) + 1)))), .int .i64 1000000]) rfl rfl (by kernel_rfl) (glyphicref1_Round.ok h161)) ?_
        refine t_qz 1 [2, 7, 8, 9, 10, 11, 12, 13] (σ' := [(2, .int .i64 n2), (7, .bool true), (8, .pointer (some ⟨b146, 0, none⟩)), (9, .bool false), (10, .pointer (some ⟨b157, 0, none⟩)), (11, .bool false), (12, .int .i64 t158), (13, .int .i64 t160)]) (by kernel_rfl) ?_
        refine t_end ?_
        show W _ _ _ _ _ _ _
        refine w_seq ?_
        refine w_drwE mixed 27 [.v (.bool true), .v (.bool true), .v (.bool false), .v (.bool false), .v (.bool false), .v (.tuple #[]), .v (.bool false), .v (.bool false), .v (.tuple #[]), .v (.tuple #[]), .v (.tuple #[]), .v (.tuple #[]), .v (.bool false), .v (.bool false), .v (.tuple #[]), .v (.tuple #[]), .v (.tuple #[]), .v (.tuple #[]), .v (.bool false), .v (.bool false), .v (.tuple #[]), .v (.tuple #[]), .v (.tuple #[]), .v (.tuple #[]), .v (.tuple #[]), .v (.bool false), .v (.bool false)] (by kernel_rfl) ?_ ?_
        · refine DI.sq 27 (by kernel_rfl) rfl ?_
          exact .nil
        refine fk_q 27 [6] (σ' := [(6, .bool false)]) t_more (by kernel_rfl) ?_
        refine fk_nil fun all => ?_
        refine t_keep [6] (σ' := [(6, .bool false)]) (by kernel_rfl) ?_
        refine t_end ?_
        show W _ _ _ _ _ _ _
        refine w_ret ?_
        have hr_ := Option.some.inj e
        exact ⟨[.bool false], [], S, ⟨rfl, trivial⟩, VS.none, congrArg Value.bool hr_, rfl, rfl⟩
  | false =>
    rw [if_neg (by decide)] at e
    exact absurd (Option.some.inj e) (by decide)

def glyphiclaw13_TurnScales.Pure : Prop := ∀ (p0_X : Int) (p0_Y : Int) (by1 : Int) (n2 : Int), (Lit.int .i64 p0_X).wf = true → (Lit.int .i64 p0_Y).wf = true → (Lit.int .i64 by1).wf = true → (Lit.int .i64 n2).wf = true → ∃ k, glyphiclaw13_TurnScales.f k p0_X p0_Y by1 n2 = some true
theorem glyphiclaw13_TurnScales.walk (P : glyphiclaw13_TurnScales.Pure) (p0_X : Int) (p0_Y : Int) (by1 : Int) (n2 : Int) (w : World) (hp0_X : (Lit.int .i64 p0_X).wf = true) (hp0_Y : (Lit.int .i64 p0_Y).wf = true) (hby1 : (Lit.int .i64 by1).wf = true) (hn2 : (Lit.int .i64 n2).wf = true) :
    Calls Try.prog 17 #[.agg #[.int .i64 p0_X, .int .i64 p0_Y], .int .i64 by1, .int .i64 n2] w fun e w' => e = .returned (.bool true) ∧ Below w.heap.size w w' := let ⟨k, h⟩ := P p0_X p0_Y by1 n2 hp0_X hp0_Y hby1 hn2; law_w (hok0 w) (glyphiclaw13_TurnScales.ok (k := k) h)
end Go.Proofs.Ytgaikembekkfiaa.QTurnScales
