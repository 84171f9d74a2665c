/- Functions of the program as Lean functions, each with the proof of its walk. Written by gen.py, a program of these sessions. -/
import Derived.Test.YtpimfacaalkmdaaQFlattenSaysx2
namespace Go.Proofs.Ytpimfacaalkmdaa.QFlattenSays
open Go Go.RowKit Go.Proofs.YtpimfacaalkmdaaE
set_option linter.unusedVariables false
set_option maxRecDepth 100000
set_option maxHeartbeats 8000000
/-- glyphicref.SameEdges -/
def c33 : C :=
  (.seq (.reg [⟨(some 4), .mv (.const (.bool false)), none⟩])
  (.seq (.seq (.reg [⟨(some 7), .mv (.tmp 0), none⟩,
      ⟨(some 8), .lns (.tmp 7), none⟩,
      ⟨(some 9), .mv (.tmp 1), none⟩,
      ⟨(some 10), .lns (.tmp 9), none⟩,
      ⟨(some 11), .bin .neq (.tmp 8) (.tmp 10), none⟩])
   (.cond (.tmp 11)
    (.seq (.reg [⟨(some 4), .mv (.const (.bool false)), none⟩])
     .ret)
    .skip))
  (.seq (.seq (.reg [⟨(some 5), .mv (.const (.int .i64 0)), none⟩])
   (.block 0 (.loop (.seq (.seq (.reg [⟨(some 12), .mv (.tmp 5), none⟩,
         ⟨(some 13), .mv (.tmp 0), none⟩,
         ⟨(some 14), .lns (.tmp 13), none⟩,
         ⟨(some 15), .bin .lss (.tmp 12) (.tmp 14), none⟩])
      (.cond (.tmp 15)
       .skip
       (.exit 0)))
     (.seq (.block 1 (.seq (.drw [⟨(some 18), .mv (.tmp 0), none⟩,
          ⟨(some 19), .mv (.tmp 5), none⟩,
          ⟨(some 20), .ixs 4 (.tmp 18) (.tmp 19), none⟩,
          ⟨(some 21), .ld (some 4) (.tmp 20), none⟩,
          ⟨(some 22), .mv (.tmp 1), none⟩,
          ⟨(some 23), .mv (.tmp 5), none⟩,
          ⟨(some 24), .ixs 4 (.tmp 22) (.tmp 23), none⟩,
          ⟨(some 25), .ld (some 4) (.tmp 24), none⟩,
          ⟨(some 26), .call 73 [(.tmp 21), (.tmp 25)], none⟩,
          ⟨(some 6), .mv (.tmp 26), none⟩] [[], [], [0, 1], [2], [], [], [4, 5], [6], [3, 7], [8, 8, 0, 1, 2, 3, 4, 5, 6, 7, 8]])
       (.seq (.reg [⟨(some 27), .mv (.tmp 6), none⟩,
          ⟨(some 28), .un .not (.tmp 27), none⟩])
       (.cond (.tmp 28)
        (.seq (.reg [⟨(some 4), .mv (.const (.bool false)), none⟩])
         .ret)
        .skip))))
     (.reg [⟨(some 16), .mv (.tmp 5), none⟩,
       ⟨(some 17), .bin .add (.tmp 16) (.const (.int .i64 1)), none⟩,
       ⟨(some 5), .mv (.tmp 17), none⟩]))))))
  (.seq (.reg [⟨(some 4), .mv (.const (.bool true)), none⟩])
  .ret))))
def glyphicref_SameEdges_v1.l0 : Nat → List (Int × Int × Int × Int) → List (Int × Int × Int × Int) → Int → Option ((Bool) ⊕ (Unit))
  | 0, _, _, _ => none
  | k + 1, a0, b1, x530 => if x530 < (a0.length : Int) then ((lgt a0 x530).bind fun (x532, x533, x534, x535) => ((lgt b1 x530).bind fun (x545, x546, x547, x548) => ((glyphicref_SameEdge.f x532 x533 x534 x535 x545 x546 x547 x548).bind fun t558 => (if t558 = true then (glyphicref_SameEdges_v1.l0 k a0 b1 (wr64 (x530 + 1))) else (some (.inl false)))))) else (some (.inr ()))
def glyphicref_SameEdges_v1.f (k : Nat) (a0 : List (Int × Int × Int × Int)) (b1 : List (Int × Int × Int × Int)) : Option (Bool) := if (a0.length : Int) = (b1.length : Int) then ((glyphicref_SameEdges_v1.l0 k a0 b1 0 : Option ((Bool) ⊕ (Unit))).bind fun s_ => match s_ with | .inl q563 => some q563 | .inr _ => (some true)) else (some false)
theorem glyphicref_SameEdges_v1.ok {S : Seal} {k : Nat} {a0 : List (Int × Int × Int × Int)} {b1 : List (Int × Int × Int × Int)} {r0_ : Bool}{a_a0 : Option Addr} {c_a0 : Nat} (h_a0 : SlE S E_i644 a0 a_a0) {a_b1 : Option Addr} {c_b1 : Nat} (h_b1 : SlE S E_i644 b1 a_b1) (e : glyphicref_SameEdges_v1.f k a0 b1 = some r0_) :
    Cal Try.prog 33 [.slice a_a0 a0.length c_a0, .slice a_b1 b1.length c_b1] [] S fun v H' S' => v = .bool r0_ ∧ H' = [] ∧ S' = S := by
  unfold glyphicref_SameEdges_v1.f at e
  refine cal_of (c := c33) (N := 29) Try.func33 rfl rfl (by kernel_rfl) (rs := [.t 4]) (by kernel_rfl) (Nat.le_of_ble_eq_true rfl) ?_
  unfold c33
  refine w_seq ?_
  refine w_reg fun all => ?_
  refine t_qz 1 [0, 1] (σ' := [(0, .slice a_a0 a0.length c_a0), (1, .slice a_b1 b1.length c_b1)]) (by kernel_rfl) ?_
  refine t_end ?_
  show W _ _ _ _ _ _ _
  refine w_seq ?_
  refine w_seq ?_
  refine w_reg fun all => ?_
  by_cases c526 : (a0.length : Int) = (b1.length : Int)
  · rw [if_pos c526] at e
    have c526b : ((a0.length : Int) == (b1.length : Int)) = true := beq_iff_eq.mpr c526
    refine t_qz 4 [0, 1, 8, 10] (σ' := [(0, .slice a_a0 a0.length c_a0), (1, .slice a_b1 b1.length c_b1), (8, .int .i64 (a0.length : Int)), (10, .int .i64 (b1.length : Int))]) (by kernel_rfl) ?_
    refine t_v (dv_quiet rfl (congrArg (fun t => some (Value.bool (!t))) c526b)) ?_
    refine t_keep [0, 1, 11] (σ' := [(0, .slice a_a0 a0.length c_a0), (1, .slice a_b1 b1.length c_b1), (11, .bool false)]) (by kernel_rfl) ?_
    refine t_end ?_
    show W _ _ _ _ _ _ _
    refine w_cond rfl (fun c_ => by cases c_) (fun _ => ?_)
    show W _ _ _ _ _ _ _
    refine w_skip ?_
    show W _ _ _ _ _ _ _
    obtain ⟨s529, e528, e⟩ := bind_of e
    refine w_cut [] (fun σ_ H_ S_ => ∃ u_ : Unit, s529 = .inr u_ ∧ [] = σ_ ∧ ([] : List Own) = H_ ∧ S = S_) ?_ ?_
    · show W _ _ _ _ _ _ _
      refine w_seq ?_
      refine w_reg fun all => ?_
      refine t_qz 1 [0, 1, 5] (σ' := [(0, .slice a_a0 a0.length c_a0), (1, .slice a_b1 b1.length c_b1), (5, .int .i64 0)]) (by kernel_rfl) ?_
      refine t_end ?_
      show W _ _ _ _ _ _ _
      refine w_block ?_
      refine w_kp [0, 1, 5] (σ' := [(0, .slice a_a0 a0.length c_a0), (1, .slice a_b1 b1.length c_b1), (5, .int .i64 0)]) (by kernel_rfl) ?_
      refine w_loop (fun n_ σ_ H_ S_ => ∃ (x530 : Int), [(0, .slice a_a0 a0.length c_a0), (1, .slice a_b1 b1.length c_b1), (5, .int .i64 x530)] = σ_ ∧ ([] : List Own) = H_ ∧ S = S_ ∧ glyphicref_SameEdges_v1.l0 n_ a0 b1 x530 = some s529) _ ⟨0, rfl, rfl, rfl, e528⟩ ?_
      rintro n562 σ_ H_ S_ ⟨x530, rfl, rfl, rfl, e528⟩
      cases n562 with
      | zero => rw [glyphicref_SameEdges_v1.l0.eq_1] at e528; cases e528
      | succ k_ =>
        rw [glyphicref_SameEdges_v1.l0.eq_2] at e528
        refine w_seq ?_
        refine w_seq ?_
        refine w_reg fun all => ?_
        by_cases c531 : x530 < (a0.length : Int)
        · rw [if_pos c531] at e528
          have c531b : (decide (x530 < (a0.length : Int))) = true := decide_eq_true c531
          refine t_qz 3 [0, 1, 5, 12, 14] (σ' := [(0, .slice a_a0 a0.length c_a0), (1, .slice a_b1 b1.length c_b1), (5, .int .i64 x530), (12, .int .i64 x530), (14, .int .i64 (a0.length : Int))]) (by kernel_rfl) ?_
          refine t_v (dv_quiet rfl (congrArg (fun t => some (Value.bool t)) c531b)) ?_
          refine t_keep [0, 1, 5, 15] (σ' := [(0, .slice a_a0 a0.length c_a0), (1, .slice a_b1 b1.length c_b1), (5, .int .i64 x530), (15, .bool true)]) (by kernel_rfl) ?_
          refine t_end ?_
          show W _ _ _ _ _ _ _
          refine w_cond rfl (fun _ => ?_) (fun c_ => by cases c_)
          show W _ _ _ _ _ _ _
          refine w_skip ?_
          show W _ _ _ _ _ _ _
          refine w_seq ?_
          refine w_block ?_
          refine w_seq ?_
          obtain ⟨⟨x532, x533, x534, x535⟩, hx536, e528⟩ := bind_of e528
          try dsimp only at e528
          obtain ⟨lb537, lo538, ll539, la540, lS541, lv542, lz543, lu544⟩ := sle_get (E := E_i644) h_a0 hx536
          obtain ⟨⟨x545, x546, x547, x548⟩, hx549, e528⟩ := bind_of e528
          try dsimp only at e528
          obtain ⟨lb550, lo551, ll552, la553, lS554, lv555, lz556, lu557⟩ := sle_get (E := E_i644) h_b1 hx549
          obtain ⟨t558, h559, e528⟩ := bind_of e528
          refine w_drwE mixed 10 [.v (.slice a_a0 a0.length c_a0), .v (.int .i64 x530), .v (.pointer (some ⟨lb537, lo538 + (x530).toNat * 4 + 0, none⟩)), .v (.agg #[.int .i64 x532, .int .i64 x533, .int .i64 x534, .int .i64 x535]), .v (.slice a_b1 b1.length c_b1), .v (.int .i64 x530), .v (.pointer (some ⟨lb550, lo551 + (x530).toNat * 4 + 0, none⟩)), .v (.agg #[.int .i64 x545, .int .i64 x546, .int .i64 x547, .int .i64 x548]), .v (.bool t558), .v (.bool t558)] (by kernel_rfl) ?_ ?_
          · refine DI.sq 2 (by kernel_rfl) rfl ?_
            refine .cons (.quiet rfl (ixs_sle rfl rfl la540 lz543 lu544)) ?_
            refine .cons (.ldn (vs := [.int .i64 x532, .int .i64 x533, .int .i64 x534, .int .i64 x535]) rfl rfl rfl (.sealed lS541 (subl_sub lv542 (by kernel_rfl)))) ?_
            refine DI.sq 2 (by kernel_rfl) rfl ?_
            refine .cons (.quiet rfl (ixs_sle rfl rfl la553 lz556 lu557)) ?_
            refine .cons (.ldn (vs := [.int .i64 x545, .int .i64 x546, .int .i64 x547, .int .i64 x548]) rfl rfl rfl (.sealed lS554 (subl_sub lv555 (by kernel_rfl)))) ?_
            refine .cons (.call (vs := [.agg #[.int .i64 x532, .int .i64 x533, .int .i64 x534, .int .i64 x535], .agg #[.int .i64 x545, .int .i64 x546, .int .i64 x547, .int .i64 x548]]) rfl rfl (by kernel_rfl) (glyphicref_SameEdge.ok h559)) ?_
            refine DI.sq 1 (by kernel_rfl) rfl ?_
            exact .nil
          refine fk_q 10 [0, 1, 5, 6] (σ' := [(0, .slice a_a0 a0.length c_a0), (1, .slice a_b1 b1.length c_b1), (5, .int .i64 x530), (6, .bool t558)]) t_more (by kernel_rfl) ?_
          refine fk_nil fun all => ?_
          refine t_keep [0, 1, 5, 6] (σ' := [(0, .slice a_a0 a0.length c_a0), (1, .slice a_b1 b1.length c_b1), (5, .int .i64 x530), (6, .bool t558)]) (by kernel_rfl) ?_
          refine t_end ?_
          show W _ _ _ _ _ _ _
          refine w_seq ?_
          refine w_reg fun all => ?_
          by_cases c560 : t558 = true
          · rw [if_pos c560] at e528
            have c560b : t558 = true := c560
            refine t_qz 1 [0, 1, 5, 27] (σ' := [(0, .slice a_a0 a0.length c_a0), (1, .slice a_b1 b1.length c_b1), (5, .int .i64 x530), (27, .bool t558)]) (by kernel_rfl) ?_
            refine t_v (dv_quiet rfl (congrArg (fun t => some (Value.bool (!t))) c560b)) ?_
            refine t_keep [0, 1, 5, 28] (σ' := [(0, .slice a_a0 a0.length c_a0), (1, .slice a_b1 b1.length c_b1), (5, .int .i64 x530), (28, .bool false)]) (by kernel_rfl) ?_
            refine t_end ?_
            show W _ _ _ _ _ _ _
            refine w_cond rfl (fun c_ => by cases c_) (fun _ => ?_)
            show W _ _ _ _ _ _ _
            refine w_skip ?_
            show W _ _ _ _ _ _ _
            refine w_reg fun all => ?_
            refine t_qz 3 [0, 1, 5] (σ' := [(0, .slice a_a0 a0.length c_a0), (1, .slice a_b1 b1.length c_b1), (5, .int .i64 (wr64 (x530 + 1)))]) (by kernel_rfl) ?_
            refine t_end ?_
            exact ⟨k_, Nat.lt_succ_self _, [(0, .slice a_a0 a0.length c_a0), (1, .slice a_b1 b1.length c_b1), (5, .int .i64 (wr64 (x530 + 1)))], ([] : List Own), S, keep_sub [0, 1, 5] (by kernel_rfl), VS.sel [] (by kernel_rfl), wr64 (x530 + 1), rfl, rfl, rfl, e528⟩
          · rw [if_neg c560] at e528
            have c560b : t558 = false := Bool.eq_false_iff.mpr c560
            refine t_qz 1 [0, 1, 5, 27] (σ' := [(0, .slice a_a0 a0.length c_a0), (1, .slice a_b1 b1.length c_b1), (5, .int .i64 x530), (27, .bool t558)]) (by kernel_rfl) ?_
            refine t_v (dv_quiet rfl (congrArg (fun t => some (Value.bool (!t))) c560b)) ?_
            refine t_keep [0, 1, 5, 28] (σ' := [(0, .slice a_a0 a0.length c_a0), (1, .slice a_b1 b1.length c_b1), (5, .int .i64 x530), (28, .bool true)]) (by kernel_rfl) ?_
            refine t_end ?_
            show W _ _ _ _ _ _ _
            refine w_cond rfl (fun _ => ?_) (fun c_ => by cases c_)
            show W _ _ _ _ _ _ _
            refine w_seq ?_
            refine w_reg fun all => ?_
            refine t_qz 1 [4] (σ' := [(4, .bool false)]) (by kernel_rfl) ?_
            refine t_end ?_
            show W _ _ _ _ _ _ _
            refine w_ret ?_
            obtain rfl := Option.some.inj e528
            obtain rfl := Option.some.inj e
            exact ⟨[.bool false], [], S, ⟨rfl, trivial⟩, VS.none, rfl, rfl, rfl⟩
        · rw [if_neg c531] at e528
          have c531b : (decide (x530 < (a0.length : Int))) = false := decide_eq_false c531
          refine t_qz 3 [0, 1, 5, 12, 14] (σ' := [(0, .slice a_a0 a0.length c_a0), (1, .slice a_b1 b1.length c_b1), (5, .int .i64 x530), (12, .int .i64 x530), (14, .int .i64 (a0.length : Int))]) (by kernel_rfl) ?_
          refine t_v (dv_quiet rfl (congrArg (fun t => some (Value.bool t)) c531b)) ?_
          refine t_keep [0, 1, 5, 15] (σ' := [(0, .slice a_a0 a0.length c_a0), (1, .slice a_b1 b1.length c_b1), (5, .int .i64 x530), (15, .bool false)]) (by kernel_rfl) ?_
          refine t_end ?_
          show W _ _ _ _ _ _ _
          refine w_cond rfl (fun c_ => by cases c_) (fun _ => ?_)
          show W _ _ _ _ _ _ _
          refine w_exit ?_
          obtain rfl := Option.some.inj e528
          exact ⟨([] : List Own), S, VS.sel [] (by kernel_rfl), (), rfl, by kernel_rfl, rfl, rfl⟩
    · rintro σ_ H_ S_ ⟨u_, rfl, rfl, rfl, rfl⟩
      dsimp only at e
      refine w_seq ?_
      refine w_reg fun all => ?_
      refine t_qz 1 [4] (σ' := [(4, .bool true)]) (by kernel_rfl) ?_
      refine t_end ?_
      show W _ _ _ _ _ _ _
      refine w_ret ?_
      obtain rfl := Option.some.inj e
      exact ⟨[.bool true], [], S, ⟨rfl, trivial⟩, VS.none, rfl, rfl, rfl⟩
  · rw [if_neg c526] at e
    have c526b : ((a0.length : Int) == (b1.length : Int)) = false := beq_eq_false_iff_ne.mpr c526
    refine t_qz 4 [0, 1, 8, 10] (σ' := [(0, .slice a_a0 a0.length c_a0), (1, .slice a_b1 b1.length c_b1), (8, .int .i64 (a0.length : Int)), (10, .int .i64 (b1.length : Int))]) (by kernel_rfl) ?_
    refine t_v (dv_quiet rfl (congrArg (fun t => some (Value.bool (!t))) c526b)) ?_
    refine t_keep [0, 1, 11] (σ' := [(0, .slice a_a0 a0.length c_a0), (1, .slice a_b1 b1.length c_b1), (11, .bool true)]) (by kernel_rfl) ?_
    refine t_end ?_
    show W _ _ _ _ _ _ _
    refine w_cond rfl (fun _ => ?_) (fun c_ => by cases c_)
    show W _ _ _ _ _ _ _
    refine w_seq ?_
    refine w_reg fun all => ?_
    refine t_qz 1 [4] (σ' := [(4, .bool false)]) (by kernel_rfl) ?_
    refine t_end ?_
    show W _ _ _ _ _ _ _
    refine w_ret ?_
    obtain rfl := Option.some.inj e
    exact ⟨[.bool false], [], S, ⟨rfl, trivial⟩, VS.none, rfl, rfl, rfl⟩

/-- flatten.Size -/
def c35 : C :=
  (.seq (.reg [⟨(some 1), .box (.tmp 0), none⟩,
     ⟨(some 2), .mv (.const (.int .i64 0)), none⟩])
  (.seq (.reg [⟨(some 3), .mv (.const (.int .i64 1)), none⟩])
  (.seq (.reg [⟨(some 8), .pad 0 (.tmp 1), none⟩,
     ⟨(some 9), .ld (some 2) (.tmp 8), none⟩,
     ⟨(some 4), .new [(.int .i64 0), (.int .i64 0)], none⟩,
     ⟨none, .st 2 (.tmp 4) (.tmp 9), none⟩])
  (.seq (.seq (.reg [⟨(some 10), .pad 2 (.tmp 1), none⟩,
      ⟨(some 11), .ld none (.tmp 10), none⟩,
      ⟨(some 12), .lns (.tmp 11), none⟩,
      ⟨(some 13), .mv (.const (.int .i64 0)), none⟩])
   (.block 0 (.loop (.seq (.reg [⟨(some 14), .bin .lss (.tmp 13) (.tmp 12), none⟩])
     (.seq (.cond (.tmp 14)
       .skip
       (.exit 0))
     (.seq (.block 1 (.seq (.reg [⟨(some 15), .ixs 7 (.tmp 11) (.tmp 13), none⟩,
          ⟨(some 16), .ld (some 7) (.tmp 15), none⟩,
          ⟨(some 6), .new [(.int .i64 0), (.int .i64 0), (.int .i64 0), (.int .i64 0), (.int .i64 0), (.int .i64 0), (.int .i64 0)], none⟩,
          ⟨none, .st 7 (.tmp 6) (.tmp 16), none⟩])
       (.seq (.reg [⟨(some 17), .mv (.tmp 3), none⟩,
          ⟨(some 18), .ld (some 2) (.tmp 4), none⟩,
          ⟨(some 19), .ld (some 7) (.tmp 6), none⟩,
          ⟨(some 20), .call 29 [(.tmp 18), (.tmp 19)], none⟩,
          ⟨(some 21), .bin .add (.tmp 17) (.tmp 20), none⟩,
          ⟨(some 3), .mv (.tmp 21), none⟩])
       (.seq (.reg [⟨(some 22), .ld (some 7) (.tmp 6), none⟩,
          ⟨(some 23), .call 70 [(.tmp 22)], none⟩,
          ⟨(some 7), .mv (.tmp 23), none⟩])
       (.seq (.reg [⟨(some 24), .mv (.tmp 7), none⟩,
          ⟨(some 25), .lns (.tmp 24), none⟩,
          ⟨(some 26), .bin .gtr (.tmp 25) (.const (.int .i64 0)), none⟩])
       (.cond (.tmp 26)
        (.reg [⟨(some 27), .mv (.tmp 7), none⟩,
           ⟨(some 28), .mv (.tmp 7), none⟩,
           ⟨(some 29), .lns (.tmp 28), none⟩,
           ⟨(some 30), .bin .sub (.tmp 29) (.const (.int .i64 1)), none⟩,
           ⟨(some 31), .ixs 2 (.tmp 27) (.tmp 30), none⟩,
           ⟨(some 32), .ld (some 2) (.tmp 31), none⟩,
           ⟨none, .st 2 (.tmp 4) (.tmp 32), none⟩])
        .skip))))))
     (.reg [⟨(some 33), .bin .add (.tmp 13) (.const (.int .i64 1)), none⟩,
       ⟨(some 13), .mv (.tmp 33), none⟩])))))))
  (.seq (.reg [⟨(some 34), .mv (.tmp 3), none⟩,
     ⟨(some 2), .mv (.tmp 34), none⟩])
  .ret)))))
def flatten_Size_v1.l0 : Nat → List (Int × Int × Int × Int × Int × Int × Int) → Int → Int → Int → Int → Option (Int × Int × Int)
  | 0, _, _, _, _, _ => none
  | k + 1, p0_2, x571, x572, x573, x574 => if x572 < (p0_2.length : Int) then ((lgt p0_2 x572).bind fun (x576, x577, x578, x579, x580, x581, x582) => ((flatten_Count.f k x573 x574 x576 x577 x578 x579 x580 x581 x582).bind fun t593 => (if x576 = 1 then ((flatten_points_v2.f x577 x578 x579 x580 x581 x582).bind fun (t596, t597, t598, t599, t600, t601, t602) => (flatten_Size_v1.l0 k p0_2 (wr64 (x571 + t593)) (wr64 (x572 + 1)) t597 t598)) else (if x576 = 2 then ((flatten_points_v3.f x577 x578 x579 x580 x581 x582).bind fun (t607, t608, t609, t610, t611, t612, t613) => (flatten_Size_v1.l0 k p0_2 (wr64 (x571 + t593)) (wr64 (x572 + 1)) t610 t611)) else (if x576 = 3 then ((flatten_points_v4.f x577 x578 x579 x580 x581 x582).bind fun (t618, t619, t620, t621, t622, t623, t624) => (flatten_Size_v1.l0 k p0_2 (wr64 (x571 + t593)) (wr64 (x572 + 1)) t623 t624)) else (none)))))) else (some (x571, x573, x574))
def flatten_Size_v1.f (k : Nat) (p0_0 : Int) (p0_1 : Int) (p0_2 : List (Int × Int × Int × Int × Int × Int × Int)) (p0_3 : Bool) : Option (Int) := (flatten_Size_v1.l0 k p0_2 1 0 p0_0 p0_1 : Option (Int × Int × Int)).bind fun (x629, x630, x631) => (some x629)
theorem flatten_Size_v1.ok {S : Seal} {k : Nat} {p0_0 : Int} {p0_1 : Int} {p0_2 : List (Int × Int × Int × Int × Int × Int × Int)} {p0_3 : Bool} {r0_ : Int}{a_p0_2 : Option Addr} {c_p0_2 : Nat} (h_p0_2 : SlE S E_i647 p0_2 a_p0_2) (e : flatten_Size_v1.f k p0_0 p0_1 p0_2 p0_3 = some r0_) :
    Cal Try.prog 35 [.agg #[.int .i64 p0_0, .int .i64 p0_1, .slice a_p0_2 p0_2.length c_p0_2, .bool p0_3]] [] S fun v H' S' => v = .int .i64 r0_ ∧ H' = [] ∧ S' = S := by
  unfold flatten_Size_v1.f at e
  refine cal_of (c := c35) (N := 35) Try.func35 rfl rfl (by kernel_rfl) (rs := [.t 2]) (by kernel_rfl) (Nat.le_of_ble_eq_true rfl) ?_
  unfold c35
  refine w_seq ?_
  refine w_reg fun all => ?_
  refine t_a (.box rfl rfl rfl) fun b566 fb566 sb566 => ?_
  refine t_qz 1 [1] (σ' := [(1, .pointer (some ⟨b566, 0, none⟩))]) (by kernel_rfl) ?_
  refine t_end ?_
  show W _ _ _ _ _ _ _
  refine w_seq ?_
  refine w_reg fun all => ?_
  refine t_qz 1 [1, 3] (σ' := [(1, .pointer (some ⟨b566, 0, none⟩)), (3, .int .i64 1)]) (by kernel_rfl) ?_
  refine t_end ?_
  show W _ _ _ _ _ _ _
  refine w_seq ?_
  refine w_reg fun all => ?_
  refine t_qz 1 [1, 3, 8] (σ' := [(1, .pointer (some ⟨b566, 0, none⟩)), (3, .int .i64 1), (8, .pointer (some ⟨b566, 0, none⟩))]) (by kernel_rfl) ?_
  refine t_v (.ldn rfl rfl rfl (.at 0 rfl rfl)) ?_
  refine t_a (.new rfl rfl) fun b567 fb567 sb567 => ?_
  refine t_sti 0 (cs := [.int .i64 p0_0, .int .i64 p0_1]) rfl rfl rfl rfl rfl rfl rfl rfl rfl ?_
  refine t_keep [1, 3, 4] (σ' := [(1, .pointer (some ⟨b566, 0, none⟩)), (3, .int .i64 1), (4, .pointer (some ⟨b567, 0, none⟩))]) (by kernel_rfl) ?_
  refine t_end ?_
  show W _ _ _ _ _ _ _
  obtain ⟨⟨x629, x630, x631⟩, e569, e⟩ := bind_of e
  try dsimp only at e
  refine w_cut [3] (fun σ_ H_ S_ => [(3, .int .i64 x629)] = σ_ ∧ ([⟨b567, [.int .i64 x630, .int .i64 x631], 2⟩, ⟨b566, [.int .i64 p0_0, .int .i64 p0_1, .slice a_p0_2 p0_2.length c_p0_2, .bool p0_3], 4⟩] : List Own) = H_ ∧ S = S_) ?_ ?_
  · show W _ _ _ _ _ _ _
    refine w_seq ?_
    refine w_reg fun all => ?_
    refine t_qz 1 [3, 4, 10] (σ' := [(3, .int .i64 1), (4, .pointer (some ⟨b567, 0, none⟩)), (10, .pointer (some ⟨b566, 2, none⟩))]) (by kernel_rfl) ?_
    refine t_v (.ld1 rfl rfl rfl (.at 1 rfl rfl)) ?_
    refine t_qz 2 [3, 4, 11, 12, 13] (σ' := [(3, .int .i64 1), (4, .pointer (some ⟨b567, 0, none⟩)), (11, .slice a_p0_2 p0_2.length c_p0_2), (12, .int .i64 (p0_2.length : Int)), (13, .int .i64 0)]) (by kernel_rfl) ?_
    refine t_end ?_
    show W _ _ _ _ _ _ _
    refine w_block ?_
    refine w_kp [3, 4, 11, 12, 13] (σ' := [(3, .int .i64 1), (4, .pointer (some ⟨b567, 0, none⟩)), (11, .slice a_p0_2 p0_2.length c_p0_2), (12, .int .i64 (p0_2.length : Int)), (13, .int .i64 0)]) (by kernel_rfl) ?_
    refine w_loop (fun n_ σ_ H_ S_ => ∃ (x571 : Int) (x572 : Int) (x573 : Int) (x574 : Int), [(3, .int .i64 x571), (4, .pointer (some ⟨b567, 0, none⟩)), (11, .slice a_p0_2 p0_2.length c_p0_2), (12, .int .i64 (p0_2.length : Int)), (13, .int .i64 x572)] = σ_ ∧ ([⟨b567, [.int .i64 x573, .int .i64 x574], 2⟩, ⟨b566, [.int .i64 p0_0, .int .i64 p0_1, .slice a_p0_2 p0_2.length c_p0_2, .bool p0_3], 4⟩] : List Own) = H_ ∧ S = S_ ∧ flatten_Size_v1.l0 n_ p0_2 x571 x572 x573 x574 = some (x629, x630, x631)) _ ⟨1, 0, p0_0, p0_1, rfl, rfl, rfl, e569⟩ ?_
    rintro n628 σ_ H_ S_ ⟨x571, x572, x573, x574, rfl, rfl, rfl, e569⟩
    cases n628 with
    | zero => rw [flatten_Size_v1.l0.eq_1] at e569; cases e569
    | succ k_ =>
      rw [flatten_Size_v1.l0.eq_2] at e569
      refine w_seq ?_
      refine w_reg fun all => ?_
      by_cases c575 : x572 < (p0_2.length : Int)
      · rw [if_pos c575] at e569
        have c575b : (decide (x572 < (p0_2.length : Int))) = true := decide_eq_true c575
        refine t_v (dv_quiet rfl (congrArg (fun t => some (Value.bool t)) c575b)) ?_
        refine t_keep [3, 4, 11, 12, 13, 14] (σ' := [(3, .int .i64 x571), (4, .pointer (some ⟨b567, 0, none⟩)), (11, .slice a_p0_2 p0_2.length c_p0_2), (12, .int .i64 (p0_2.length : Int)), (13, .int .i64 x572), (14, .bool true)]) (by kernel_rfl) ?_
        refine t_end ?_
        show W _ _ _ _ _ _ _
        refine w_seq ?_
        refine w_cond rfl (fun _ => ?_) (fun c_ => by cases c_)
        show W _ _ _ _ _ _ _
        refine w_skip ?_
        show W _ _ _ _ _ _ _
        refine w_seq ?_
        refine w_block ?_
        refine w_seq ?_
        refine w_reg fun all => ?_
        obtain ⟨⟨x576, x577, x578, x579, x580, x581, x582⟩, hx583, e569⟩ := bind_of e569
        try dsimp only at e569
        obtain ⟨lb584, lo585, ll586, la587, lS588, lv589, lz590, lu591⟩ := sle_get (E := E_i647) h_p0_2 hx583
        refine t_v (.quiet rfl (ixs_sle rfl rfl la587 lz590 lu591)) ?_
        refine t_v (.ldn (vs := [.int .i64 x576, .int .i64 x577, .int .i64 x578, .int .i64 x579, .int .i64 x580, .int .i64 x581, .int .i64 x582]) rfl rfl rfl (.sealed lS588 (subl_sub lv589 (by kernel_rfl)))) ?_
        refine t_a (.new rfl rfl) fun b592 fb592 sb592 => ?_
        refine t_sti 0 (cs := [.int .i64 x576, .int .i64 x577, .int .i64 x578, .int .i64 x579, .int .i64 x580, .int .i64 x581, .int .i64 x582]) rfl rfl rfl rfl rfl rfl rfl rfl rfl ?_
        refine t_keep [3, 4, 6, 11, 12, 13] (σ' := [(3, .int .i64 x571), (4, .pointer (some ⟨b567, 0, none⟩)), (6, .pointer (some ⟨b592, 0, none⟩)), (11, .slice a_p0_2 p0_2.length c_p0_2), (12, .int .i64 (p0_2.length : Int)), (13, .int .i64 x572)]) (by kernel_rfl) ?_
        refine t_end ?_
        show W _ _ _ _ _ _ _
        refine w_seq ?_
        refine w_reg fun all => ?_
        refine t_qz 1 [4, 6, 11, 12, 13, 17] (σ' := [(4, .pointer (some ⟨b567, 0, none⟩)), (6, .pointer (some ⟨b592, 0, none⟩)), (11, .slice a_p0_2 p0_2.length c_p0_2), (12, .int .i64 (p0_2.length : Int)), (13, .int .i64 x572), (17, .int .i64 x571)]) (by kernel_rfl) ?_
        refine t_v (.ldn rfl rfl rfl (.at 1 rfl rfl)) ?_
        refine t_v (.ldn rfl rfl rfl (.at 0 rfl rfl)) ?_
        obtain ⟨t593, h594, e569⟩ := bind_of e569
        refine t_v (.call (vs := [.agg #[.int .i64 x573, .int .i64 x574], .agg #[.int .i64 x576, .int .i64 x577, .int .i64 x578, .int .i64 x579, .int .i64 x580, .int .i64 x581, .int .i64 x582]]) rfl rfl (by kernel_rfl) (flatten_Count.ok h594)) ?_
        refine t_qz 2 [3, 4, 6, 11, 12, 13] (σ' := [(3, .int .i64 (wr64 (x571 + t593))), (4, .pointer (some ⟨b567, 0, none⟩)), (6, .pointer (some ⟨b592, 0, none⟩)), (11, .slice a_p0_2 p0_2.length c_p0_2), (12, .int .i64 (p0_2.length : Int)), (13, .int .i64 x572)]) (by kernel_rfl) ?_
        refine t_end ?_
        show W _ _ _ _ _ _ _
        refine w_seq ?_
        refine w_reg fun all => ?_
        refine t_v (.ldn rfl rfl rfl (.at 0 rfl rfl)) ?_
        by_cases c595 : x576 = 1
        · rw [if_pos c595] at e569
          have c595b : (x576 == 1) = true := beq_iff_eq.mpr c595
          obtain ⟨⟨t596, t597, t598, t599, t600, t601, t602⟩, h603, e569⟩ := bind_of e569
          try dsimp only at e569
          refine t_call (vs := [.agg #[.int .i64 1, .int .i64 x577, .int .i64 x578, .int .i64 x579, .int .i64 x580, .int .i64 x581, .int .i64 x582]]) (H1 := ([] : List Own)) (F := ([⟨b592, [.int .i64 x576, .int .i64 x577, .int .i64 x578, .int .i64 x579, .int .i64 x580, .int .i64 x581, .int .i64 x582], 7⟩, ⟨b567, [.int .i64 x573, .int .i64 x574], 2⟩, ⟨b566, [.int .i64 p0_0, .int .i64 p0_1, .slice a_p0_2 p0_2.length c_p0_2, .bool p0_3], 4⟩] : List Own)) rfl rfl (Eq.trans (b := (some [.agg #[.int .i64 x576, .int .i64 x577, .int .i64 x578, .int .i64 x579, .int .i64 x580, .int .i64 x581, .int .i64 x582]] : Option (List Value))) (by kernel_rfl) (congrArg (fun q_ => (some [.agg #[.int .i64 q_, .int .i64 x577, .int .i64 x578, .int .i64 x579, .int .i64 x580, .int .i64 x581, .int .i64 x582]] : Option (List Value))) c595)) (sel_perm (is := []) (by kernel_rfl)) (flatten_points_v2.ok h603) ?_
          rintro _ _ S_ ⟨N604, rfl, rfl, hS_⟩
          obtain rfl := hS_.symm
          refine t_qz 1 [3, 4, 7, 11, 12, 13] (σ' := [(3, .int .i64 (wr64 (x571 + t593))), (4, .pointer (some ⟨b567, 0, none⟩)), (7, .slice (some ⟨N604, 1, none⟩) 1 3), (11, .slice a_p0_2 p0_2.length c_p0_2), (12, .int .i64 (p0_2.length : Int)), (13, .int .i64 x572)]) (by kernel_rfl) ?_
          refine t_end ?_
          show W _ _ _ _ _ _ _
          refine w_seq ?_
          refine w_reg fun all => ?_
          refine t_qz 3 [3, 4, 7, 11, 12, 13, 26] (σ' := [(3, .int .i64 (wr64 (x571 + t593))), (4, .pointer (some ⟨b567, 0, none⟩)), (7, .slice (some ⟨N604, 1, none⟩) 1 3), (11, .slice a_p0_2 p0_2.length c_p0_2), (12, .int .i64 (p0_2.length : Int)), (13, .int .i64 x572), (26, .bool true)]) (by kernel_rfl) ?_
          refine t_end ?_
          show W _ _ _ _ _ _ _
          refine w_cond rfl (fun _ => ?_) (fun c_ => by cases c_)
          show W _ _ _ _ _ _ _
          refine w_reg fun all => ?_
          refine t_qz 5 [3, 4, 11, 12, 13, 31] (σ' := [(3, .int .i64 (wr64 (x571 + t593))), (4, .pointer (some ⟨b567, 0, none⟩)), (11, .slice a_p0_2 p0_2.length c_p0_2), (12, .int .i64 (p0_2.length : Int)), (13, .int .i64 x572), (31, .pointer (some ⟨N604, 1, none⟩))]) (by kernel_rfl) ?_
          refine t_v (.ldn rfl rfl rfl (.at 0 rfl rfl)) ?_
          refine t_sti 2 (cs := [.int .i64 t597, .int .i64 t598]) rfl rfl rfl rfl rfl rfl rfl rfl rfl ?_
          refine t_keep [3, 4, 11, 12, 13] (σ' := [(3, .int .i64 (wr64 (x571 + t593))), (4, .pointer (some ⟨b567, 0, none⟩)), (11, .slice a_p0_2 p0_2.length c_p0_2), (12, .int .i64 (p0_2.length : Int)), (13, .int .i64 x572)]) (by kernel_rfl) ?_
          refine t_end ?_
          show W _ _ _ _ _ _ _
          refine w_reg fun all => ?_
          refine t_qz 2 [3, 4, 11, 12, 13] (σ' := [(3, .int .i64 (wr64 (x571 + t593))), (4, .pointer (some ⟨b567, 0, none⟩)), (11, .slice a_p0_2 p0_2.length c_p0_2), (12, .int .i64 (p0_2.length : Int)), (13, .int .i64 (wr64 (x572 + 1)))]) (by kernel_rfl) ?_
          refine t_end ?_
          exact ⟨k_, Nat.lt_succ_self _, [(3, .int .i64 (wr64 (x571 + t593))), (4, .pointer (some ⟨b567, 0, none⟩)), (11, .slice a_p0_2 p0_2.length c_p0_2), (12, .int .i64 (p0_2.length : Int)), (13, .int .i64 (wr64 (x572 + 1)))], ([⟨b567, [.int .i64 t597, .int .i64 t598], 2⟩, ⟨b566, [.int .i64 p0_0, .int .i64 p0_1, .slice a_p0_2 p0_2.length c_p0_2, .bool p0_3], 4⟩] : List Own), S, keep_sub [3, 4, 11, 12, 13] (by kernel_rfl), VS.sel [2, 2] (by kernel_rfl), wr64 (x571 + t593), wr64 (x572 + 1), t597, t598, rfl, rfl, rfl, e569⟩
        · rw [if_neg c595] at e569
          have c595b : (x576 == 1) = false := beq_eq_false_iff_ne.mpr c595
          by_cases c606 : x576 = 2
          · rw [if_pos c606] at e569
            have c606b : (x576 == 2) = true := beq_iff_eq.mpr c606
            obtain ⟨⟨t607, t608, t609, t610, t611, t612, t613⟩, h614, e569⟩ := bind_of e569
            try dsimp only at e569
            refine t_call (vs := [.agg #[.int .i64 2, .int .i64 x577, .int .i64 x578, .int .i64 x579, .int .i64 x580, .int .i64 x581, .int .i64 x582]]) (H1 := ([] : List Own)) (F := ([⟨b592, [.int .i64 x576, .int .i64 x577, .int .i64 x578, .int .i64 x579, .int .i64 x580, .int .i64 x581, .int .i64 x582], 7⟩, ⟨b567, [.int .i64 x573, .int .i64 x574], 2⟩, ⟨b566, [.int .i64 p0_0, .int .i64 p0_1, .slice a_p0_2 p0_2.length c_p0_2, .bool p0_3], 4⟩] : List Own)) rfl rfl (Eq.trans (b := (some [.agg #[.int .i64 x576, .int .i64 x577, .int .i64 x578, .int .i64 x579, .int .i64 x580, .int .i64 x581, .int .i64 x582]] : Option (List Value))) (by kernel_rfl) (congrArg (fun q_ => (some [.agg #[.int .i64 q_, .int .i64 x577, .int .i64 x578, .int .i64 x579, .int .i64 x580, .int .i64 x581, .int .i64 x582]] : Option (List Value))) c606)) (sel_perm (is := []) (by kernel_rfl)) (flatten_points_v3.ok h614) ?_
            rintro _ _ S_ ⟨N615, rfl, rfl, hS_⟩
            obtain rfl := hS_.symm
            refine t_qz 1 [3, 4, 7, 11, 12, 13] (σ' := [(3, .int .i64 (wr64 (x571 + t593))), (4, .pointer (some ⟨b567, 0, none⟩)), (7, .slice (some ⟨N615, 1, none⟩) 2 3), (11, .slice a_p0_2 p0_2.length c_p0_2), (12, .int .i64 (p0_2.length : Int)), (13, .int .i64 x572)]) (by kernel_rfl) ?_
            refine t_end ?_
            show W _ _ _ _ _ _ _
            refine w_seq ?_
            refine w_reg fun all => ?_
            refine t_qz 3 [3, 4, 7, 11, 12, 13, 26] (σ' := [(3, .int .i64 (wr64 (x571 + t593))), (4, .pointer (some ⟨b567, 0, none⟩)), (7, .slice (some ⟨N615, 1, none⟩) 2 3), (11, .slice a_p0_2 p0_2.length c_p0_2), (12, .int .i64 (p0_2.length : Int)), (13, .int .i64 x572), (26, .bool true)]) (by kernel_rfl) ?_
            refine t_end ?_
            show W _ _ _ _ _ _ _
            refine w_cond rfl (fun _ => ?_) (fun c_ => by cases c_)
            show W _ _ _ _ _ _ _
            refine w_reg fun all => ?_
            refine t_qz 5 [3, 4, 11, 12, 13, 31] (σ' := [(3, .int .i64 (wr64 (x571 + t593))), (4, .pointer (some ⟨b567, 0, none⟩)), (11, .slice a_p0_2 p0_2.length c_p0_2), (12, .int .i64 (p0_2.length : Int)), (13, .int .i64 x572), (31, .pointer (some ⟨N615, 3, none⟩))]) (by kernel_rfl) ?_
            refine t_v (.ldn rfl rfl rfl (.at 0 rfl rfl)) ?_
            refine t_sti 2 (cs := [.int .i64 t610, .int .i64 t611]) rfl rfl rfl rfl rfl rfl rfl rfl rfl ?_
            refine t_keep [3, 4, 11, 12, 13] (σ' := [(3, .int .i64 (wr64 (x571 + t593))), (4, .pointer (some ⟨b567, 0, none⟩)), (11, .slice a_p0_2 p0_2.length c_p0_2), (12, .int .i64 (p0_2.length : Int)), (13, .int .i64 x572)]) (by kernel_rfl) ?_
            refine t_end ?_
            show W _ _ _ _ _ _ _
            refine w_reg fun all => ?_
            refine t_qz 2 [3, 4, 11, 12, 13] (σ' := [(3, .int .i64 (wr64 (x571 + t593))), (4, .pointer (some ⟨b567, 0, none⟩)), (11, .slice a_p0_2 p0_2.length c_p0_2), (12, .int .i64 (p0_2.length : Int)), (13, .int .i64 (wr64 (x572 + 1)))]) (by kernel_rfl) ?_
            refine t_end ?_
            exact ⟨k_, Nat.lt_succ_self _, [(3, .int .i64 (wr64 (x571 + t593))), (4, .pointer (some ⟨b567, 0, none⟩)), (11, .slice a_p0_2 p0_2.length c_p0_2), (12, .int .i64 (p0_2.length : Int)), (13, .int .i64 (wr64 (x572 + 1)))], ([⟨b567, [.int .i64 t610, .int .i64 t611], 2⟩, ⟨b566, [.int .i64 p0_0, .int .i64 p0_1, .slice a_p0_2 p0_2.length c_p0_2, .bool p0_3], 4⟩] : List Own), S, keep_sub [3, 4, 11, 12, 13] (by kernel_rfl), VS.sel [2, 2] (by kernel_rfl), wr64 (x571 + t593), wr64 (x572 + 1), t610, t611, rfl, rfl, rfl, e569⟩
          · rw [if_neg c606] at e569
            have c606b : (x576 == 2) = false := beq_eq_false_iff_ne.mpr c606
            by_cases c617 : x576 = 3
            · rw [if_pos c617] at e569
              have c617b : (x576 == 3) = true := beq_iff_eq.mpr c617
              obtain ⟨⟨t618, t619, t620, t621, t622, t623, t624⟩, h625, e569⟩ := bind_of e569
              try dsimp only at e569
              refine t_call (vs := [.agg #[.int .i64 3, .int .i64 x577, .int .i64 x578, .int .i64 x579, .int .i64 x580, .int .i64 x581, .int .i64 x582]]) (H1 := ([] : List Own)) (F := ([⟨b592, [.int .i64 x576, .int .i64 x577, .int .i64 x578, .int .i64 x579, .int .i64 x580, .int .i64 x581, .int .i64 x582], 7⟩, ⟨b567, [.int .i64 x573, .int .i64 x574], 2⟩, ⟨b566, [.int .i64 p0_0, .int .i64 p0_1, .slice a_p0_2 p0_2.length c_p0_2, .bool p0_3], 4⟩] : List Own)) rfl rfl (Eq.trans (b := (some [.agg #[.int .i64 x576, .int .i64 x577, .int .i64 x578, .int .i64 x579, .int .i64 x580, .int .i64 x581, .int .i64 x582]] : Option (List Value))) (by kernel_rfl) (congrArg (fun q_ => (some [.agg #[.int .i64 q_, .int .i64 x577, .int .i64 x578, .int .i64 x579, .int .i64 x580, .int .i64 x581, .int .i64 x582]] : Option (List Value))) c617)) (sel_perm (is := []) (by kernel_rfl)) (flatten_points_v4.ok h625) ?_
              rintro _ _ S_ ⟨N626, rfl, rfl, hS_⟩
              obtain rfl := hS_.symm
              refine t_qz 1 [3, 4, 7, 11, 12, 13] (σ' := [(3, .int .i64 (wr64 (x571 + t593))), (4, .pointer (some ⟨b567, 0, none⟩)), (7, .slice (some ⟨N626, 1, none⟩) 3 3), (11, .slice a_p0_2 p0_2.length c_p0_2), (12, .int .i64 (p0_2.length : Int)), (13, .int .i64 x572)]) (by kernel_rfl) ?_
              refine t_end ?_
              show W _ _ _ _ _ _ _
              refine w_seq ?_
              refine w_reg fun all => ?_
              refine t_qz 3 [3, 4, 7, 11, 12, 13, 26] (σ' := [(3, .int .i64 (wr64 (x571 + t593))), (4, .pointer (some ⟨b567, 0, none⟩)), (7, .slice (some ⟨N626, 1, none⟩) 3 3), (11, .slice a_p0_2 p0_2.length c_p0_2), (12, .int .i64 (p0_2.length : Int)), (13, .int .i64 x572), (26, .bool true)]) (by kernel_rfl) ?_
              refine t_end ?_
              show W _ _ _ _ _ _ _
              refine w_cond rfl (fun _ => ?_) (fun c_ => by cases c_)
              show W _ _ _ _ _ _ _
              refine w_reg fun all => ?_
              refine t_qz 5 [3, 4, 11, 12, 13, 31] (σ' := [(3, .int .i64 (wr64 (x571 + t593))), (4, .pointer (some ⟨b567, 0, none⟩)), (11, .slice a_p0_2 p0_2.length c_p0_2), (12, .int .i64 (p0_2.length : Int)), (13, .int .i64 x572), (31, .pointer (some ⟨N626, 5, none⟩))]) (by kernel_rfl) ?_
              refine t_v (.ldn rfl rfl rfl (.at 0 rfl rfl)) ?_
              refine t_sti 2 (cs := [.int .i64 t623, .int .i64 t624]) rfl rfl rfl rfl rfl rfl rfl rfl rfl ?_
              refine t_keep [3, 4, 11, 12, 13] (σ' := [(3, .int .i64 (wr64 (x571 + t593))), (4, .pointer (some ⟨b567, 0, none⟩)), (11, .slice a_p0_2 p0_2.length c_p0_2), (12, .int .i64 (p0_2.length : Int)), (13, .int .i64 x572)]) (by kernel_rfl) ?_
              refine t_end ?_
              show W _ _ _ _ _ _ _
              refine w_reg fun all => ?_
              refine t_qz 2 [3, 4, 11, 12, 13] (σ' := [(3, .int .i64 (wr64 (x571 + t593))), (4, .pointer (some ⟨b567, 0, none⟩)), (11, .slice a_p0_2 p0_2.length c_p0_2), (12, .int .i64 (p0_2.length : Int)), (13, .int .i64 (wr64 (x572 + 1)))]) (by kernel_rfl) ?_
              refine t_end ?_
              exact ⟨k_, Nat.lt_succ_self _, [(3, .int .i64 (wr64 (x571 + t593))), (4, .pointer (some ⟨b567, 0, none⟩)), (11, .slice a_p0_2 p0_2.length c_p0_2), (12, .int .i64 (p0_2.length : Int)), (13, .int .i64 (wr64 (x572 + 1)))], ([⟨b567, [.int .i64 t623, .int .i64 t624], 2⟩, ⟨b566, [.int .i64 p0_0, .int .i64 p0_1, .slice a_p0_2 p0_2.length c_p0_2, .bool p0_3], 4⟩] : List Own), S, keep_sub [3, 4, 11, 12, 13] (by kernel_rfl), VS.sel [2, 2] (by kernel_rfl), wr64 (x571 + t593), wr64 (x572 + 1), t623, t624, rfl, rfl, rfl, e569⟩
            · rw [if_neg c617] at e569
              have c617b : (x576 == 3) = false := beq_eq_false_iff_ne.mpr c617
              cases e569
      · rw [if_neg c575] at e569
        have c575b : (decide (x572 < (p0_2.length : Int))) = false := decide_eq_false c575
        refine t_v (dv_quiet rfl (congrArg (fun t => some (Value.bool t)) c575b)) ?_
        refine t_keep [3, 4, 11, 12, 13, 14] (σ' := [(3, .int .i64 x571), (4, .pointer (some ⟨b567, 0, none⟩)), (11, .slice a_p0_2 p0_2.length c_p0_2), (12, .int .i64 (p0_2.length : Int)), (13, .int .i64 x572), (14, .bool false)]) (by kernel_rfl) ?_
        refine t_end ?_
        show W _ _ _ _ _ _ _
        refine w_seq ?_
        refine w_cond rfl (fun c_ => by cases c_) (fun _ => ?_)
        show W _ _ _ _ _ _ _
        refine w_exit ?_
        simp only [Option.some.injEq, Prod.mk.injEq] at e569
        obtain ⟨rfl, rfl, rfl⟩ := e569
        exact ⟨([⟨b567, [.int .i64 x573, .int .i64 x574], 2⟩, ⟨b566, [.int .i64 p0_0, .int .i64 p0_1, .slice a_p0_2 p0_2.length c_p0_2, .bool p0_3], 4⟩] : List Own), S, VS.sel [0, 0] (by kernel_rfl), by kernel_rfl, rfl, rfl⟩
  · rintro σ_ H_ S_ ⟨rfl, rfl, rfl⟩
    refine w_seq ?_
    refine w_reg fun all => ?_
    refine t_qz 2 [2] (σ' := [(2, .int .i64 x629)]) (by kernel_rfl) ?_
    refine t_end ?_
    show W _ _ _ _ _ _ _
    refine w_ret ?_
    obtain rfl := Option.some.inj e
    exact ⟨[.int .i64 x629], [], S, ⟨rfl, trivial⟩, VS.none, rfl, rfl, rfl⟩

/-- glyphicref20.Size -/
def c36 : C :=
  (.seq (.reg [⟨(some 1), .box (.tmp 0), none⟩,
     ⟨(some 2), .mv (.const (.int .i64 0)), none⟩])
  (.seq (.reg [⟨(some 3), .mv (.const (.int .i64 1)), none⟩])
  (.seq (.reg [⟨(some 6), .pad 0 (.tmp 1), none⟩,
     ⟨(some 7), .ld (some 2) (.tmp 6), none⟩,
     ⟨(some 4), .new [(.int .i64 0), (.int .i64 0)], none⟩,
     ⟨none, .st 2 (.tmp 4) (.tmp 7), none⟩])
  (.seq (.seq (.reg [⟨(some 5), .mv (.const (.int .i64 0)), none⟩])
   (.block 0 (.loop (.seq (.seq (.reg [⟨(some 8), .mv (.tmp 5), none⟩,
         ⟨(some 9), .pad 2 (.tmp 1), none⟩,
         ⟨(some 10), .ld none (.tmp 9), none⟩,
         ⟨(some 11), .lns (.tmp 10), none⟩,
         ⟨(some 12), .bin .lss (.tmp 8) (.tmp 11), none⟩])
      (.cond (.tmp 12)
       .skip
       (.exit 0)))
     (.seq (.block 1 (.seq (.drw [⟨(some 15), .mv (.tmp 3), none⟩,
          ⟨(some 16), .ld (some 2) (.tmp 4), none⟩,
          ⟨(some 17), .pad 2 (.tmp 1), none⟩,
          ⟨(some 18), .ld none (.tmp 17), none⟩,
          ⟨(some 19), .mv (.tmp 5), none⟩,
          ⟨(some 20), .ixs 7 (.tmp 18) (.tmp 19), none⟩,
          ⟨(some 21), .ld (some 7) (.tmp 20), none⟩,
          ⟨(some 22), .call 30 [(.tmp 16), (.tmp 21)], none⟩,
          ⟨(some 23), .bin .add (.tmp 15) (.tmp 22), none⟩,
          ⟨(some 3), .mv (.tmp 23), none⟩] [[], [], [], [2], [], [3, 4], [5], [1, 6], [0, 7], [8, 7, 0, 1, 2, 3, 4, 5, 6, 7, 8]])
       (.drw [⟨(some 24), .ld (some 2) (.tmp 4), none⟩,
         ⟨(some 25), .pad 2 (.tmp 1), none⟩,
         ⟨(some 26), .ld none (.tmp 25), none⟩,
         ⟨(some 27), .mv (.tmp 5), none⟩,
         ⟨(some 28), .ixs 7 (.tmp 26) (.tmp 27), none⟩,
         ⟨(some 29), .ld (some 7) (.tmp 28), none⟩,
         ⟨(some 30), .call 75 [(.tmp 24), (.tmp 29)], none⟩,
         ⟨none, .st 2 (.tmp 4) (.tmp 30), none⟩] [[], [], [1], [], [2, 3], [4], [0, 5], [6, 6, 0, 1, 2, 3, 4, 5, 6]])))
     (.reg [⟨(some 13), .mv (.tmp 5), none⟩,
       ⟨(some 14), .bin .add (.tmp 13) (.const (.int .i64 1)), none⟩,
       ⟨(some 5), .mv (.tmp 14), none⟩]))))))
  (.seq (.reg [⟨(some 31), .mv (.tmp 3), none⟩,
     ⟨(some 2), .mv (.tmp 31), none⟩])
  .ret)))))
def glyphicref20_Size_v1.l0 : Nat → List (Int × Int × Int × Int × Int × Int × Int) → Int → Int → Int → Int → Option (Int × Int × Int)
  | 0, _, _, _, _, _ => none
  | k + 1, p0_2, x639, x640, x641, x642 => if x640 < (p0_2.length : Int) then ((lgt p0_2 x640).bind fun (x644, x645, x646, x647, x648, x649, x650) => ((glyphicref20_Count.f k x641 x642 x644 x645 x646 x647 x648 x649 x650).bind fun t660 => ((lgt p0_2 x640).bind fun (x662, x663, x664, x665, x666, x667, x668) => ((glyphicref20_end.f x641 x642 x662 x663 x664 x665 x666 x667 x668).bind fun (t678, t679) => (glyphicref20_Size_v1.l0 k p0_2 (wr64 (x639 + t660)) (wr64 (x640 + 1)) t678 t679))))) else (some (x639, x641, x642))
def glyphicref20_Size_v1.f (k : Nat) (p0_0 : Int) (p0_1 : Int) (p0_2 : List (Int × Int × Int × Int × Int × Int × Int)) (p0_3 : Bool) : Option (Int) := (glyphicref20_Size_v1.l0 k p0_2 1 0 p0_0 p0_1 : Option (Int × Int × Int)).bind fun (x683, x684, x685) => (some x683)
theorem glyphicref20_Size_v1.ok {S : Seal} {k : Nat} {p0_0 : Int} {p0_1 : Int} {p0_2 : List (Int × Int × Int × Int × Int × Int × Int)} {p0_3 : Bool} {r0_ : Int}{a_p0_2 : Option Addr} {c_p0_2 : Nat} (h_p0_2 : SlE S E_i647 p0_2 a_p0_2) (e : glyphicref20_Size_v1.f k p0_0 p0_1 p0_2 p0_3 = some r0_) :
    Cal Try.prog 36 [.agg #[.int .i64 p0_0, .int .i64 p0_1, .slice a_p0_2 p0_2.length c_p0_2, .bool p0_3]] [] S fun v H' S' => v = .int .i64 r0_ ∧ H' = [] ∧ S' = S := by
  unfold glyphicref20_Size_v1.f at e
  refine cal_of (c := c36) (N := 32) Try.func36 rfl rfl (by kernel_rfl) (rs := [.t 2]) (by kernel_rfl) (Nat.le_of_ble_eq_true rfl) ?_
  unfold c36
  refine w_seq ?_
  refine w_reg fun all => ?_
  refine t_a (.box rfl rfl rfl) fun b634 fb634 sb634 => ?_
  refine t_qz 1 [1] (σ' := [(1, .pointer (some ⟨b634, 0, none⟩))]) (by kernel_rfl) ?_
  refine t_end ?_
  show W _ _ _ _ _ _ _
  refine w_seq ?_
  refine w_reg fun all => ?_
  refine t_qz 1 [1, 3] (σ' := [(1, .pointer (some ⟨b634, 0, none⟩)), (3, .int .i64 1)]) (by kernel_rfl) ?_
  refine t_end ?_
  show W _ _ _ _ _ _ _
  refine w_seq ?_
  refine w_reg fun all => ?_
  refine t_qz 1 [1, 3, 6] (σ' := [(1, .pointer (some ⟨b634, 0, none⟩)), (3, .int .i64 1), (6, .pointer (some ⟨b634, 0, none⟩))]) (by kernel_rfl) ?_
  refine t_v (.ldn rfl rfl rfl (.at 0 rfl rfl)) ?_
  refine t_a (.new rfl rfl) fun b635 fb635 sb635 => ?_
  refine t_sti 0 (cs := [.int .i64 p0_0, .int .i64 p0_1]) rfl rfl rfl rfl rfl rfl rfl rfl rfl ?_
  refine t_keep [1, 3, 4] (σ' := [(1, .pointer (some ⟨b634, 0, none⟩)), (3, .int .i64 1), (4, .pointer (some ⟨b635, 0, none⟩))]) (by kernel_rfl) ?_
  refine t_end ?_
  show W _ _ _ _ _ _ _
  obtain ⟨⟨x683, x684, x685⟩, e637, e⟩ := bind_of e
  try dsimp only at e
  refine w_cut [3] (fun σ_ H_ S_ => [(3, .int .i64 x683)] = σ_ ∧ ([⟨b635, [.int .i64 x684, .int .i64 x685], 2⟩, ⟨b634, [.int .i64 p0_0, .int .i64 p0_1, .slice a_p0_2 p0_2.length c_p0_2, .bool p0_3], 4⟩] : List Own) = H_ ∧ S = S_) ?_ ?_
  · show W _ _ _ _ _ _ _
    refine w_seq ?_
    refine w_reg fun all => ?_
    refine t_qz 1 [1, 3, 4, 5] (σ' := [(1, .pointer (some ⟨b634, 0, none⟩)), (3, .int .i64 1), (4, .pointer (some ⟨b635, 0, none⟩)), (5, .int .i64 0)]) (by kernel_rfl) ?_
    refine t_end ?_
    show W _ _ _ _ _ _ _
    refine w_block ?_
    refine w_kp [1, 3, 4, 5] (σ' := [(1, .pointer (some ⟨b634, 0, none⟩)), (3, .int .i64 1), (4, .pointer (some ⟨b635, 0, none⟩)), (5, .int .i64 0)]) (by kernel_rfl) ?_
    refine w_loop (fun n_ σ_ H_ S_ => ∃ (x639 : Int) (x640 : Int) (x641 : Int) (x642 : Int), [(1, .pointer (some ⟨b634, 0, none⟩)), (3, .int .i64 x639), (4, .pointer (some ⟨b635, 0, none⟩)), (5, .int .i64 x640)] = σ_ ∧ ([⟨b635, [.int .i64 x641, .int .i64 x642], 2⟩, ⟨b634, [.int .i64 p0_0, .int .i64 p0_1, .slice a_p0_2 p0_2.length c_p0_2, .bool p0_3], 4⟩] : List Own) = H_ ∧ S = S_ ∧ glyphicref20_Size_v1.l0 n_ p0_2 x639 x640 x641 x642 = some (x683, x684, x685)) _ ⟨1, 0, p0_0, p0_1, rfl, rfl, rfl, e637⟩ ?_
    rintro n682 σ_ H_ S_ ⟨x639, x640, x641, x642, rfl, rfl, rfl, e637⟩
    cases n682 with
    | zero => rw [glyphicref20_Size_v1.l0.eq_1] at e637; cases e637
    | succ k_ =>
      rw [glyphicref20_Size_v1.l0.eq_2] at e637
      refine w_seq ?_
      refine w_seq ?_
      refine w_reg fun all => ?_
      refine t_qz 2 [1, 3, 4, 5, 8, 9] (σ' := [(1, .pointer (some ⟨b634, 0, none⟩)), (3, .int .i64 x639), (4, .pointer (some ⟨b635, 0, none⟩)), (5, .int .i64 x640), (8, .int .i64 x640), (9, .pointer (some ⟨b634, 2, none⟩))]) (by kernel_rfl) ?_
      refine t_v (.ld1 rfl rfl rfl (.at 1 rfl rfl)) ?_
      by_cases c643 : x640 < (p0_2.length : Int)
      · rw [if_pos c643] at e637
        have c643b : (decide (x640 < (p0_2.length : Int))) = true := decide_eq_true c643
        refine t_qz 1 [1, 3, 4, 5, 8, 11] (σ' := [(1, .pointer (some ⟨b634, 0, none⟩)), (3, .int .i64 x639), (4, .pointer (some ⟨b635, 0, none⟩)), (5, .int .i64 x640), (8, .int .i64 x640), (11, .int .i64 (p0_2.length : Int))]) (by kernel_rfl) ?_
        refine t_v (dv_quiet rfl (congrArg (fun t => some (Value.bool t)) c643b)) ?_
        refine t_keep [1, 3, 4, 5, 12] (σ' := [(1, .pointer (some ⟨b634, 0, none⟩)), (3, .int .i64 x639), (4, .pointer (some ⟨b635, 0, none⟩)), (5, .int .i64 x640), (12, .bool true)]) (by kernel_rfl) ?_
        refine t_end ?_
        show W _ _ _ _ _ _ _
        refine w_cond rfl (fun _ => ?_) (fun c_ => by cases c_)
        show W _ _ _ _ _ _ _
        refine w_skip ?_
        show W _ _ _ _ _ _ _
        refine w_seq ?_
        refine w_block ?_
        refine w_seq ?_
        obtain ⟨⟨x644, x645, x646, x647, x648, x649, x650⟩, hx651, e637⟩ := bind_of e637
        try dsimp only at e637
        obtain ⟨lb652, lo653, ll654, la655, lS656, lv657, lz658, lu659⟩ := sle_get (E := E_i647) h_p0_2 hx651
        obtain ⟨t660, h661, e637⟩ := bind_of e637
        refine w_drwE mixed 10 [.v (.int .i64 x639), .v (.agg #[.int .i64 x641, .int .i64 x642]), .v (.pointer (some ⟨b634, 2, none⟩)), .v (.slice a_p0_2 p0_2.length c_p0_2), .v (.int .i64 x640), .v (.pointer (some ⟨lb652, lo653 + (x640).toNat * 7 + 0, none⟩)), .v (.agg #[.int .i64 x644, .int .i64 x645, .int .i64 x646, .int .i64 x647, .int .i64 x648, .int .i64 x649, .int .i64 x650]), .v (.int .i64 t660), .v (.int .i64 (wr64 (x639 + t660))), .v (.int .i64 (wr64 (x639 + t660)))] (by kernel_rfl) ?_ ?_
        · refine DI.sq 1 (by kernel_rfl) rfl ?_
          refine .cons (.ldn rfl rfl rfl (.at 0 rfl rfl)) ?_
          refine DI.sq 1 (by kernel_rfl) rfl ?_
          refine .cons (.ld1 rfl rfl rfl (.at 1 rfl rfl)) ?_
          refine DI.sq 1 (by kernel_rfl) rfl ?_
          refine .cons (.quiet rfl (ixs_sle rfl rfl la655 lz658 lu659)) ?_
          refine .cons (.ldn (vs := [.int .i64 x644, .int .i64 x645, .int .i64 x646, .int .i64 x647, .int .i64 x648, .int .i64 x649, .int .i64 x650]) rfl rfl rfl (.sealed lS656 (subl_sub lv657 (by kernel_rfl)))) ?_
          refine .cons (.call (vs := [.agg #[.int .i64 x641, .int .i64 x642], .agg #[.int .i64 x644, .int .i64 x645, .int .i64 x646, .int .i64 x647, .int .i64 x648, .int .i64 x649, .int .i64 x650]]) rfl rfl (by kernel_rfl) (glyphicref20_Count.ok h661)) ?_
          refine DI.sq 2 (by kernel_rfl) rfl ?_
          exact .nil
        refine fk_q 10 [1, 3, 4, 5] (σ' := [(1, .pointer (some ⟨b634, 0, none⟩)), (3, .int .i64 (wr64 (x639 + t660))), (4, .pointer (some ⟨b635, 0, none⟩)), (5, .int .i64 x640)]) t_more (by kernel_rfl) ?_
        refine fk_nil fun all => ?_
        refine t_keep [1, 3, 4, 5] (σ' := [(1, .pointer (some ⟨b634, 0, none⟩)), (3, .int .i64 (wr64 (x639 + t660))), (4, .pointer (some ⟨b635, 0, none⟩)), (5, .int .i64 x640)]) (by kernel_rfl) ?_
        refine t_end ?_
        show W _ _ _ _ _ _ _
        obtain ⟨⟨x662, x663, x664, x665, x666, x667, x668⟩, hx669, e637⟩ := bind_of e637
        try dsimp only at e637
        obtain ⟨lb670, lo671, ll672, la673, lS674, lv675, lz676, lu677⟩ := sle_get (E := E_i647) h_p0_2 hx669
        obtain ⟨⟨t678, t679⟩, h680, e637⟩ := bind_of e637
        try dsimp only at e637
        refine w_drwE mixed 7 [.v (.agg #[.int .i64 x641, .int .i64 x642]), .v (.pointer (some ⟨b634, 2, none⟩)), .v (.slice a_p0_2 p0_2.length c_p0_2), .v (.int .i64 x640), .v (.pointer (some ⟨lb670, lo671 + (x640).toNat * 7 + 0, none⟩)), .v (.agg #[.int .i64 x662, .int .i64 x663, .int .i64 x664, .int .i64 x665, .int .i64 x666, .int .i64 x667, .int .i64 x668]), .v (.agg #[.int .i64 t678, .int .i64 t679])] (by kernel_rfl) ?_ ?_
        · refine .cons (.ldn rfl rfl rfl (.at 0 rfl rfl)) ?_
          refine DI.sq 1 (by kernel_rfl) rfl ?_
          refine .cons (.ld1 rfl rfl rfl (.at 1 rfl rfl)) ?_
          refine DI.sq 1 (by kernel_rfl) rfl ?_
          refine .cons (.quiet rfl (ixs_sle rfl rfl la673 lz676 lu677)) ?_
          refine .cons (.ldn (vs := [.int .i64 x662, .int .i64 x663, .int .i64 x664, .int .i64 x665, .int .i64 x666, .int .i64 x667, .int .i64 x668]) rfl rfl rfl (.sealed lS674 (subl_sub lv675 (by kernel_rfl)))) ?_
          refine .cons (.call (vs := [.agg #[.int .i64 x641, .int .i64 x642], .agg #[.int .i64 x662, .int .i64 x663, .int .i64 x664, .int .i64 x665, .int .i64 x666, .int .i64 x667, .int .i64 x668]]) rfl rfl (by kernel_rfl) (glyphicref20_end.ok h680)) ?_
          exact .nil
        refine fk_q 7 [1, 3, 4, 5, 30] (σ' := [(1, .pointer (some ⟨b634, 0, none⟩)), (3, .int .i64 (wr64 (x639 + t660))), (4, .pointer (some ⟨b635, 0, none⟩)), (5, .int .i64 x640), (30, .agg #[.int .i64 t678, .int .i64 t679])]) t_more (by kernel_rfl) ?_
        refine fk_nil fun all => ?_
        refine t_sti 0 (cs := [.int .i64 t678, .int .i64 t679]) rfl rfl rfl rfl rfl rfl rfl rfl rfl ?_
        refine t_keep [1, 3, 4, 5] (σ' := [(1, .pointer (some ⟨b634, 0, none⟩)), (3, .int .i64 (wr64 (x639 + t660))), (4, .pointer (some ⟨b635, 0, none⟩)), (5, .int .i64 x640)]) (by kernel_rfl) ?_
        refine t_end ?_
        show W _ _ _ _ _ _ _
        refine w_reg fun all => ?_
        refine t_qz 3 [1, 3, 4, 5] (σ' := [(1, .pointer (some ⟨b634, 0, none⟩)), (3, .int .i64 (wr64 (x639 + t660))), (4, .pointer (some ⟨b635, 0, none⟩)), (5, .int .i64 (wr64 (x640 + 1)))]) (by kernel_rfl) ?_
        refine t_end ?_
        exact ⟨k_, Nat.lt_succ_self _, [(1, .pointer (some ⟨b634, 0, none⟩)), (3, .int .i64 (wr64 (x639 + t660))), (4, .pointer (some ⟨b635, 0, none⟩)), (5, .int .i64 (wr64 (x640 + 1)))], ([⟨b635, [.int .i64 t678, .int .i64 t679], 2⟩, ⟨b634, [.int .i64 p0_0, .int .i64 p0_1, .slice a_p0_2 p0_2.length c_p0_2, .bool p0_3], 4⟩] : List Own), S, keep_sub [1, 3, 4, 5] (by kernel_rfl), VS.sel [0, 0] (by kernel_rfl), wr64 (x639 + t660), wr64 (x640 + 1), t678, t679, rfl, rfl, rfl, e637⟩
      · rw [if_neg c643] at e637
        have c643b : (decide (x640 < (p0_2.length : Int))) = false := decide_eq_false c643
        refine t_qz 1 [1, 3, 4, 5, 8, 11] (σ' := [(1, .pointer (some ⟨b634, 0, none⟩)), (3, .int .i64 x639), (4, .pointer (some ⟨b635, 0, none⟩)), (5, .int .i64 x640), (8, .int .i64 x640), (11, .int .i64 (p0_2.length : Int))]) (by kernel_rfl) ?_
        refine t_v (dv_quiet rfl (congrArg (fun t => some (Value.bool t)) c643b)) ?_
        refine t_keep [1, 3, 4, 5, 12] (σ' := [(1, .pointer (some ⟨b634, 0, none⟩)), (3, .int .i64 x639), (4, .pointer (some ⟨b635, 0, none⟩)), (5, .int .i64 x640), (12, .bool false)]) (by kernel_rfl) ?_
        refine t_end ?_
        show W _ _ _ _ _ _ _
        refine w_cond rfl (fun c_ => by cases c_) (fun _ => ?_)
        show W _ _ _ _ _ _ _
        refine w_exit ?_
        simp only [Option.some.injEq, Prod.mk.injEq] at e637
        obtain ⟨rfl, rfl, rfl⟩ := e637
        exact ⟨([⟨b635, [.int .i64 x641, .int .i64 x642], 2⟩, ⟨b634, [.int .i64 p0_0, .int .i64 p0_1, .slice a_p0_2 p0_2.length c_p0_2, .bool p0_3], 4⟩] : List Own), S, VS.sel [0, 0] (by kernel_rfl), by kernel_rfl, rfl, rfl⟩
  · rintro σ_ H_ S_ ⟨rfl, rfl, rfl⟩
    refine w_seq ?_
    refine w_reg fun all => ?_
    refine t_qz 2 [2] (σ' := [(2, .int .i64 x683)]) (by kernel_rfl) ?_
    refine t_end ?_
    show W _ _ _ _ _ _ _
    refine w_ret ?_
    obtain rfl := Option.some.inj e
    exact ⟨[.int .i64 x683], [], S, ⟨rfl, trivial⟩, VS.none, rfl, rfl, rfl⟩

/-- glyphiclaw21.FlattenSays -/
def c7 : C :=
  (.seq (.reg [⟨(some 8), .mv (.const (.bool false)), none⟩])
  (.seq (.reg [⟨(some 17), .call 26 [], none⟩,
     ⟨(some 9), .mv (.tmp 17), none⟩])
  (.seq (.seq (.reg [⟨(some 18), .mv (.tmp 9), none⟩,
      ⟨(some 19), .un .not (.tmp 18), none⟩])
   (.cond (.tmp 19)
    (.seq (.reg [⟨(some 8), .mv (.const (.bool false)), none⟩])
     .ret)
    .skip))
  (.seq (.seq (.reg [⟨(some 20), .mv (.tmp 0), none⟩,
      ⟨(some 21), .lns (.tmp 20), none⟩,
      ⟨(some 22), .bin .gtr (.tmp 21) (.const (.int .i64 60)), none⟩])
   (.cond (.tmp 22)
    (.seq (.reg [⟨(some 23), .mv (.tmp 9), none⟩,
        ⟨(some 8), .mv (.tmp 23), none⟩])
     .ret)
    .skip))
  (.seq (.reg [⟨(some 24), .mv (.tmp 1), none⟩,
     ⟨(some 25), .bin .rem (.tmp 24) (.const (.int .i64 24)), none⟩,
     ⟨(some 26), .bin .add (.tmp 25) (.const (.int .i64 24)), none⟩,
     ⟨(some 27), .bin .rem (.tmp 26) (.const (.int .i64 24)), none⟩,
     ⟨(some 28), .bin .add (.tmp 27) (.const (.int .i64 1)), none⟩,
     ⟨(some 1), .mv (.tmp 28), none⟩])
  (.seq (.reg [⟨(some 29), .mv (.tmp 0), none⟩,
     ⟨(some 30), .bld [(.slice none 0 0), (.int .i64 0)] [(0, 1, (.tmp 29))], none⟩,
     ⟨(some 31), .box (.tmp 30), none⟩,
     ⟨(some 10), .mv (.tmp 31), none⟩])
  (.seq (.reg [⟨(some 32), .mv (.tmp 10), none⟩,
     ⟨(some 33), .mv (.tmp 1), none⟩,
     ⟨(some 34), .cnv .u64 (.tmp 33), none⟩,
     ⟨(some 35), .bin .shl (.const (.int .i64 1)) (.tmp 34), none⟩,
     ⟨(some 36), .bin .quo (.tmp 35) (.const (.int .i64 4)), none⟩,
     ⟨(some 37), .bin .add (.tmp 36) (.const (.int .i64 1)), none⟩,
     ⟨(some 38), .call 27 [(.tmp 32), (.tmp 37)], none⟩,
     ⟨(some 11), .new [(.int .i64 0), (.int .i64 0), (.slice none 0 0), (.bool false)], none⟩,
     ⟨none, .st 4 (.tmp 11) (.tmp 38), none⟩])
  (.seq (.reg [⟨(some 39), .pad 0 (.tmp 11), none⟩,
     ⟨(some 40), .ld (some 2) (.tmp 39), none⟩,
     ⟨(some 12), .new [(.int .i64 0), (.int .i64 0)], none⟩,
     ⟨none, .st 2 (.tmp 12) (.tmp 40), none⟩])
  (.seq (.seq (.reg [⟨(some 13), .mv (.const (.int .i64 0)), none⟩])
   (.block 0 (.loop (.seq (.seq (.reg [⟨(some 41), .mv (.tmp 13), none⟩,
         ⟨(some 42), .pad 2 (.tmp 11), none⟩,
         ⟨(some 43), .ld none (.tmp 42), none⟩,
         ⟨(some 44), .lns (.tmp 43), none⟩,
         ⟨(some 45), .bin .lss (.tmp 41) (.tmp 44), none⟩])
      (.cond (.tmp 45)
       .skip
       (.exit 0)))
     (.seq (.block 1 (.seq (.reg [⟨(some 48), .pad 2 (.tmp 11), none⟩,
          ⟨(some 49), .ld none (.tmp 48), none⟩,
          ⟨(some 50), .mv (.tmp 13), none⟩,
          ⟨(some 51), .ixs 7 (.tmp 49) (.tmp 50), none⟩,
          ⟨(some 52), .ld (some 7) (.tmp 51), none⟩,
          ⟨(some 14), .new [(.int .i64 0), (.int .i64 0), (.int .i64 0), (.int .i64 0), (.int .i64 0), (.int .i64 0), (.int .i64 0)], none⟩,
          ⟨none, .st 7 (.tmp 14) (.tmp 52), none⟩])
       (.seq (.reg [⟨(some 53), .ld (some 2) (.tmp 12), none⟩,
          ⟨(some 54), .ld (some 7) (.tmp 14), none⟩,
          ⟨(some 55), .call 29 [(.tmp 53), (.tmp 54)], none⟩,
          ⟨(some 15), .mv (.tmp 55), none⟩])
       (.seq (.seq (.reg [⟨(some 56), .mv (.tmp 15), none⟩,
           ⟨(some 57), .ld (some 2) (.tmp 12), none⟩,
           ⟨(some 58), .ld (some 7) (.tmp 14), none⟩,
           ⟨(some 59), .call 30 [(.tmp 57), (.tmp 58)], none⟩,
           ⟨(some 60), .bin .neq (.tmp 56) (.tmp 59), none⟩])
        (.cond (.tmp 60)
         (.seq (.reg [⟨(some 8), .mv (.const (.bool false)), none⟩])
          .ret)
         .skip))
       (.seq (.reg [⟨(some 61), .mv (.tmp 2), none⟩,
          ⟨(some 62), .mv (.tmp 15), none⟩,
          ⟨(some 63), .bin .add (.tmp 62) (.const (.int .i64 1)), none⟩,
          ⟨(some 64), .bin .rem (.tmp 61) (.tmp 63), none⟩,
          ⟨(some 65), .mv (.tmp 15), none⟩,
          ⟨(some 66), .bin .add (.tmp 64) (.tmp 65), none⟩,
          ⟨(some 67), .bin .add (.tmp 66) (.const (.int .i64 1)), none⟩,
          ⟨(some 68), .mv (.tmp 15), none⟩,
          ⟨(some 69), .bin .add (.tmp 68) (.const (.int .i64 1)), none⟩,
          ⟨(some 70), .bin .rem (.tmp 67) (.tmp 69), none⟩,
          ⟨(some 16), .mv (.tmp 70), none⟩])
       (.seq (.seq (.drw [⟨(some 71), .ld (some 2) (.tmp 12), none⟩,
           ⟨(some 72), .ld (some 7) (.tmp 14), none⟩,
           ⟨(some 73), .mv (.tmp 16), none⟩,
           ⟨(some 74), .mv (.tmp 15), none⟩,
           ⟨(some 75), .call 31 [(.tmp 71), (.tmp 72), (.tmp 73), (.tmp 74)], none⟩,
           ⟨(some 76), .ld (some 2) (.tmp 12), none⟩,
           ⟨(some 77), .ld (some 7) (.tmp 14), none⟩,
           ⟨(some 78), .mv (.tmp 16), none⟩,
           ⟨(some 79), .mv (.tmp 15), none⟩,
           ⟨(some 80), .call 32 [(.tmp 76), (.tmp 77), (.tmp 78), (.tmp 79)], none⟩,
           ⟨(some 81), .call 25 [(.tmp 75), (.tmp 80)], none⟩,
           ⟨(some 82), .un .not (.tmp 81), none⟩] [[], [], [], [], [0, 1, 2, 3], [], [], [], [], [5, 6, 7, 8, 4], [4, 9, 9], [10]])
        (.cond (.tmp 82)
         (.seq (.reg [⟨(some 8), .mv (.const (.bool false)), none⟩])
          .ret)
         .skip))
       (.reg [⟨(some 83), .pad 0 (.tmp 14), none⟩,
         ⟨(some 84), .ld none (.tmp 83), none⟩,
         ⟨(some 85), .bin .sub (.tmp 84) (.const (.int .i64 1)), none⟩,
         ⟨(some 86), .pad 1 (.tmp 14), none⟩,
         ⟨(some 87), .ixa 2 3 (.tmp 86) (.tmp 85), none⟩,
         ⟨(some 88), .ld (some 2) (.tmp 87), none⟩,
         ⟨none, .st 2 (.tmp 12) (.tmp 88), none⟩])))))))
     (.reg [⟨(some 46), .mv (.tmp 13), none⟩,
       ⟨(some 47), .bin .add (.tmp 46) (.const (.int .i64 1)), none⟩,
       ⟨(some 13), .mv (.tmp 47), none⟩]))))))
  (.seq (.drw [⟨(some 89), .mv (.tmp 9), none⟩,
     ⟨(some 90), .mv (.tmp 89), none⟩,
     ⟨(some 91), .ld (some 4) (.tmp 11), (some (90, true))⟩,
     ⟨(some 92), .mv (.tmp 3), (some (90, true))⟩,
     ⟨(some 93), .call 28 [(.tmp 91), (.tmp 92)], (some (90, true))⟩,
     ⟨(some 94), .ld (some 4) (.tmp 11), (some (90, true))⟩,
     ⟨(some 95), .mv (.tmp 3), (some (90, true))⟩,
     ⟨(some 96), .call 34 [(.tmp 94), (.tmp 95)], (some (90, true))⟩,
     ⟨(some 97), .call 33 [(.tmp 93), (.tmp 96)], (some (90, true))⟩,
     ⟨(some 98), .pk (.tmp 90) (.tmp 97) (.const (.bool false)), none⟩,
     ⟨(some 99), .mv (.tmp 98), none⟩,
     ⟨(some 100), .ld (some 4) (.tmp 11), (some (99, true))⟩,
     ⟨(some 101), .call 35 [(.tmp 100)], (some (99, true))⟩,
     ⟨(some 102), .ld (some 4) (.tmp 11), (some (99, true))⟩,
     ⟨(some 103), .call 36 [(.tmp 102)], (some (99, true))⟩,
     ⟨(some 104), .bin .eql (.tmp 101) (.tmp 103), (some (99, true))⟩,
     ⟨(some 105), .pk (.tmp 99) (.tmp 104) (.const (.bool false)), none⟩,
     ⟨(some 106), .mv (.tmp 105), none⟩,
     ⟨(some 107), .ld (some 4) (.tmp 11), (some (106, true))⟩,
     ⟨(some 108), .call 35 [(.tmp 107)], (some (106, true))⟩,
     ⟨(some 109), .ld (some 4) (.tmp 11), (some (106, true))⟩,
     ⟨(some 110), .call 28 [(.tmp 109), (.const (.bool true))], (some (106, true))⟩,
     ⟨(some 111), .lns (.tmp 110), (some (106, true))⟩,
     ⟨(some 112), .bin .geq (.tmp 108) (.tmp 111), (some (106, true))⟩,
     ⟨(some 113), .pk (.tmp 106) (.tmp 112) (.const (.bool false)), none⟩,
     ⟨(some 8), .mv (.tmp 113), none⟩] [[], [0], [1], [1], [2, 3, 1, 1], [1], [1], [5, 6, 4, 1], [4, 7, 7, 1], [1, 8], [9, 8], [10], [11, 10, 10], [10], [13, 12, 10], [12, 14, 10], [10, 15], [16, 14], [17], [18, 17, 17], [17], [20, 19, 17], [21, 17], [19, 22, 17], [17, 23], [24, 21, 0, 1, 2, 3, 4, 5, 6, 7, 8, 9, 10, 11, 12, 13, 14, 15, 16, 17, 18, 19, 20, 21, 22, 23, 24]])
  .ret))))))))))
def glyphiclaw21_FlattenSays.l0 : Nat → List (Int) → Int → List (Int × Int × Int × Int × Int × Int × Int) → Int → Int → Int → Option ((Bool) ⊕ (Int × Int))
  | 0, _, _, _, _, _, _ => none
  | k + 1, l0, i2, t270, x279, x280, x281 => if x279 < (t270.length : Int) then ((lgt t270 x279).bind fun (x283, x284, x285, x286, x287, x288, x289) => ((flatten_Count.f k x280 x281 x283 x284 x285 x286 x287 x288 x289).bind fun t292 => ((glyphicref20_Count.f k x280 x281 x283 x284 x285 x286 x287 x288 x289).bind fun t294 => (if t292 = t294 then (if (wr64 (t292 + 1)) = 0 then none else (if x283 = 1 then ((flatten_Point_v2.f x280 x281 x284 x285 x286 x287 x288 x289 (Int.tmod (wr64 ((wr64 ((Int.tmod i2 (wr64 (t292 + 1))) + t292)) + 1)) (wr64 (t292 + 1))) t292).bind fun (t299, t300) => ((glyphicref20_Point.f x280 x281 x283 x284 x285 x286 x287 x288 x289 (Int.tmod (wr64 ((wr64 ((Int.tmod i2 (wr64 (t292 + 1))) + t292)) + 1)) (wr64 (t292 + 1))) t292).bind fun (t302, t303) => ((glyphicref_SamePoint.f t299 t300 t302 t303).bind fun t305 => (if t305 = true then (if (wr64 (x283 - 1)) = 0 then (glyphiclaw21_FlattenSays.l0 k l0 i2 t270 (wr64 (x279 + 1)) x284 x285) else (if (wr64 (x283 - 1)) = 1 then (glyphiclaw21_FlattenSays.l0 k l0 i2 t270 (wr64 (x279 + 1)) x286 x287) else (if (wr64 (x283 - 1)) = 2 then (glyphiclaw21_FlattenSays.l0 k l0 i2 t270 (wr64 (x279 + 1)) x288 x289) else (none)))) else (some (.inl false)))))) else (if x283 = 2 then ((flatten_Point_v3.f x280 x281 x284 x285 x286 x287 x288 x289 (Int.tmod (wr64 ((wr64 ((Int.tmod i2 (wr64 (t292 + 1))) + t292)) + 1)) (wr64 (t292 + 1))) t292).bind fun (t315, t316) => ((glyphicref20_Point.f x280 x281 x283 x284 x285 x286 x287 x288 x289 (Int.tmod (wr64 ((wr64 ((Int.tmod i2 (wr64 (t292 + 1))) + t292)) + 1)) (wr64 (t292 + 1))) t292).bind fun (t318, t319) => ((glyphicref_SamePoint.f t315 t316 t318 t319).bind fun t321 => (if t321 = true then (if (wr64 (x283 - 1)) = 0 then (glyphiclaw21_FlattenSays.l0 k l0 i2 t270 (wr64 (x279 + 1)) x284 x285) else (if (wr64 (x283 - 1)) = 1 then (glyphiclaw21_FlattenSays.l0 k l0 i2 t270 (wr64 (x279 + 1)) x286 x287) else (if (wr64 (x283 - 1)) = 2 then (glyphiclaw21_FlattenSays.l0 k l0 i2 t270 (wr64 (x279 + 1)) x288 x289) else (none)))) else (some (.inl false)))))) else (if x283 = 3 then ((flatten_Point_v4.f x280 x281 x284 x285 x286 x287 x288 x289 (Int.tmod (wr64 ((wr64 ((Int.tmod i2 (wr64 (t292 + 1))) + t292)) + 1)) (wr64 (t292 + 1))) t292).bind fun (t331, t332) => ((glyphicref20_Point.f x280 x281 x283 x284 x285 x286 x287 x288 x289 (Int.tmod (wr64 ((wr64 ((Int.tmod i2 (wr64 (t292 + 1))) + t292)) + 1)) (wr64 (t292 + 1))) t292).bind fun (t334, t335) => ((glyphicref_SamePoint.f t331 t332 t334 t335).bind fun t337 => (if t337 = true then (if (wr64 (x283 - 1)) = 0 then (glyphiclaw21_FlattenSays.l0 k l0 i2 t270 (wr64 (x279 + 1)) x284 x285) else (if (wr64 (x283 - 1)) = 1 then (glyphiclaw21_FlattenSays.l0 k l0 i2 t270 (wr64 (x279 + 1)) x286 x287) else (if (wr64 (x283 - 1)) = 2 then (glyphiclaw21_FlattenSays.l0 k l0 i2 t270 (wr64 (x279 + 1)) x288 x289) else (none)))) else (some (.inl false)))))) else (none))))) else (some (.inl false)))))) else (some (.inr (x280, x281)))
def glyphiclaw21_FlattenSays.f (k : Nat) (l0 : List (Int)) (far1 : Int) (i2 : Int) (shut3 : Bool) : Option (Bool) := (glyphiclaw21_first.f).bind fun t40 => (if t40 = true then (if (l0.length : Int) > 60 then (some true) else (if (wru64 (wr64 ((Int.tmod (wr64 ((Int.tmod far1 24) + 24)) 24) + 1))) < 0 then none else ((glyphiclaw21_device_v1.f k (wr64 ((wr64 (Int.tdiv (wr64 (1 * 2 ^ (min (Int.toNat (wru64 (wr64 ((Int.tmod (wr64 ((Int.tmod far1 24) + 24)) 24) + 1)))) 64))) 4)) + 1)) l0 0).bind fun (t267, t268, t269, t270, t271) => ((glyphiclaw21_FlattenSays.l0 k l0 i2 t270 0 t267 t268 : Option ((Bool) ⊕ (Int × Int))).bind fun s_ => match s_ with | .inl q367 => some q367 | .inr (x347, x348) => ((flatten_Path_v2.f k t267 t268 t270 t269 shut3).bind fun t349 => ((glyphicref20_Path_v1.f k t267 t268 t270 t269 shut3).bind fun t352 => ((glyphicref_SameEdges_v1.f k t349 t352).bind fun t355 => (if t355 = true then ((flatten_Size_v1.f k t267 t268 t270 t269).bind fun t357 => ((glyphicref20_Size_v1.f k t267 t268 t270 t269).bind fun t359 => (if t357 = t359 then ((flatten_Size_v1.f k t267 t268 t270 t269).bind fun t362 => ((flatten_Path_v2.f k t267 t268 t270 t269 true).bind fun t364 => (some (decide (t362 ≥ (t364.length : Int)))))) else (some false)))) else (some false))))))))) else (some false))
theorem glyphiclaw21_FlattenSays.ok {S : Seal} {k : Nat} {l0 : List (Int)} {far1 : Int} {i2 : Int} {shut3 : Bool} {a_l0 : Option Addr} {c_l0 : Nat} (h_l0 : SlE S E_i64 l0 a_l0) (e : glyphiclaw21_FlattenSays.f k l0 far1 i2 shut3 = some true) :
    Cal Try.prog 7 [.slice a_l0 l0.length c_l0, .int .i64 far1, .int .i64 i2, .bool shut3] [] S fun v H' S' => v = .bool true ∧ H' = [] ∧ S' = S := by
  unfold glyphiclaw21_FlattenSays.f at e
  refine cal_of (c := c7) (N := 114) Try.func7 rfl rfl (by kernel_rfl) (rs := [.t 8]) (by kernel_rfl) (Nat.le_of_ble_eq_true rfl) ?_
  unfold c7
  refine w_seq ?_
  refine w_reg fun all => ?_
  refine t_qz 1 [0, 1, 2, 3] (σ' := [(0, .slice a_l0 l0.length c_l0), (1, .int .i64 far1), (2, .int .i64 i2), (3, .bool shut3)]) (by kernel_rfl) ?_
  refine t_end ?_
  show W _ _ _ _ _ _ _
  refine w_seq ?_
  refine w_reg fun all => ?_
  obtain ⟨t40, h41, e⟩ := bind_of e
  cases t40 with
  | true =>
    rw [if_pos rfl] at e
    refine t_v (.call (vs := []) rfl rfl (by kernel_rfl) (glyphiclaw21_first.ok h41)) ?_
    refine t_qz 1 [0, 1, 2, 3, 9] (σ' := [(0, .slice a_l0 l0.length c_l0), (1, .int .i64 far1), (2, .int .i64 i2), (3, .bool shut3), (9, .bool true)]) (by kernel_rfl) ?_
    refine t_end ?_
    show W _ _ _ _ _ _ _
    refine w_seq ?_
    refine w_seq ?_
    refine w_reg fun all => ?_
    refine t_qz 2 [0, 1, 2, 3, 9, 19] (σ' := [(0, .slice a_l0 l0.length c_l0), (1, .int .i64 far1), (2, .int .i64 i2), (3, .bool shut3), (9, .bool true), (19, .bool false)]) (by kernel_rfl) ?_
    refine t_end ?_
    show W _ _ _ _ _ _ _
    refine w_cond rfl (fun c_ => by cases c_) (fun _ => ?_)
    show W _ _ _ _ _ _ _
    refine w_skip ?_
    show W _ _ _ _ _ _ _
    refine w_seq ?_
    refine w_seq ?_
    refine w_reg fun all => ?_
    by_cases c42 : (l0.length : Int) > 60
    · rw [if_pos c42] at e
      have c42b : (decide ((l0.length : Int) > 60)) = true := decide_eq_true c42
      refine t_qz 2 [0, 1, 2, 3, 9, 21] (σ' := [(0, .slice a_l0 l0.length c_l0), (1, .int .i64 far1), (2, .int .i64 i2), (3, .bool shut3), (9, .bool true), (21, .int .i64 (l0.length : Int))]) (by kernel_rfl) ?_
      refine t_v (dv_quiet rfl (congrArg (fun t => some (Value.bool t)) c42b)) ?_
      refine t_keep [0, 1, 2, 3, 9, 22] (σ' := [(0, .slice a_l0 l0.length c_l0), (1, .int .i64 far1), (2, .int .i64 i2), (3, .bool shut3), (9, .bool true), (22, .bool true)]) (by kernel_rfl) ?_
      refine t_end ?_
      show W _ _ _ _ _ _ _
      refine w_cond rfl (fun _ => ?_) (fun c_ => by cases c_)
      show W _ _ _ _ _ _ _
      refine w_seq ?_
      refine w_reg fun all => ?_
      refine t_qz 2 [8] (σ' := [(8, .bool true)]) (by kernel_rfl) ?_
      refine t_end ?_
      show W _ _ _ _ _ _ _
      refine w_ret ?_
      have hr_ := Option.some.inj e
      exact ⟨[.bool true], [], S, ⟨rfl, trivial⟩, VS.none, congrArg Value.bool hr_, rfl, rfl⟩
    · rw [if_neg c42] at e
      have c42b : (decide ((l0.length : Int) > 60)) = false := decide_eq_false c42
      refine t_qz 2 [0, 1, 2, 3, 9, 21] (σ' := [(0, .slice a_l0 l0.length c_l0), (1, .int .i64 far1), (2, .int .i64 i2), (3, .bool shut3), (9, .bool true), (21, .int .i64 (l0.length : Int))]) (by kernel_rfl) ?_
      refine t_v (dv_quiet rfl (congrArg (fun t => some (Value.bool t)) c42b)) ?_
      refine t_keep [0, 1, 2, 3, 9, 22] (σ' := [(0, .slice a_l0 l0.length c_l0), (1, .int .i64 far1), (2, .int .i64 i2), (3, .bool shut3), (9, .bool true), (22, .bool false)]) (by kernel_rfl) ?_
      refine t_end ?_
      show W _ _ _ _ _ _ _
      refine w_cond rfl (fun c_ => by cases c_) (fun _ => ?_)
      show W _ _ _ _ _ _ _
      refine w_skip ?_
      show W _ _ _ _ _ _ _
      refine w_seq ?_
      refine w_reg fun all => ?_
      refine t_qz 6 [0, 1, 2, 3, 9] (σ' := [(0, .slice a_l0 l0.length c_l0), (1, .int .i64 (wr64 ((Int.tmod (wr64 ((Int.tmod far1 24) + 24)) 24) + 1))), (2, .int .i64 i2), (3, .bool shut3), (9, .bool true)]) (by kernel_rfl) ?_
      refine t_end ?_
      show W _ _ _ _ _ _ _
      refine w_seq ?_
      refine w_reg fun all => ?_
      refine t_qz 2 [1, 2, 3, 9, 30] (σ' := [(1, .int .i64 (wr64 ((Int.tmod (wr64 ((Int.tmod far1 24) + 24)) 24) + 1))), (2, .int .i64 i2), (3, .bool shut3), (9, .bool true), (30, .agg #[.slice a_l0 l0.length c_l0, .int .i64 0])]) (by kernel_rfl) ?_
      refine t_a (.box rfl rfl rfl) fun b43 fb43 sb43 => ?_
      refine t_qz 1 [1, 2, 3, 9, 10] (σ' := [(1, .int .i64 (wr64 ((Int.tmod (wr64 ((Int.tmod far1 24) + 24)) 24) + 1))), (2, .int .i64 i2), (3, .bool shut3), (9, .bool true), (10, .pointer (some ⟨b43, 0, none⟩))]) (by kernel_rfl) ?_
      refine t_end ?_
      show W _ _ _ _ _ _ _
      refine w_seq ?_
      refine w_reg fun all => ?_
      have c44 : ¬ (wru64 (wr64 ((Int.tmod (wr64 ((Int.tmod far1 24) + 24)) 24) + 1))) < 0 := by
        intro h_; rw [if_pos h_] at e; cases e
      rw [if_neg c44] at e
      refine t_qz 3 [2, 3, 9, 32, 34] (σ' := [(2, .int .i64 i2), (3, .bool shut3), (9, .bool true), (32, .pointer (some ⟨b43, 0, none⟩)), (34, .int .u64 (wru64 (wr64 ((Int.tmod (wr64 ((Int.tmod far1 24) + 24)) 24) + 1))))]) (by kernel_rfl) ?_
      refine t_v (.quiet rfl (qv_shl rfl rfl c44)) ?_
      obtain ⟨⟨t267, t268, t269, t270, t271⟩, h272, e⟩ := bind_of e
      try dsimp only at e
      refine t_qz 2 [2, 3, 9, 32, 37] (σ' := [(2, .int .i64 i2), (3, .bool shut3), (9, .bool true), (32, .pointer (some ⟨b43, 0, none⟩)), (37, .int .i64 (wr64 ((wr64 (Int.tdiv (wr64 (1 * 2 ^ (min (Int.toNat (wru64 (wr64 ((Int.tmod (wr64 ((Int.tmod far1 24) + 24)) 24) + 1)))) 64))) 4)) + 1)))]) (by kernel_rfl) ?_
      refine t_call (vs := [.pointer (some ⟨b43, 0, none⟩), .int .i64 (wr64 ((wr64 (Int.tdiv (wr64 (1 * 2 ^ (min (Int.toNat (wru64 (wr64 ((Int.tmod (wr64 ((Int.tmod far1 24) + 24)) 24) + 1)))) 64))) 4)) + 1))]) (H1 := ([⟨b43, [.slice a_l0 l0.length c_l0, .int .i64 0], 2⟩] : List Own)) (F := ([] : List Own)) rfl rfl (by kernel_rfl) (sel_perm (is := [0]) (by kernel_rfl)) (glyphiclaw21_device_v1.ok h_l0 h272) ?_
      rintro _ _ S_ ⟨N273, nN273, rfl, rfl, hS_⟩
      obtain rfl := hS_.symm
      refine t_a (.new rfl rfl) fun b274 fb274 sb274 => ?_
      refine t_sti 0 (cs := [.int .i64 t267, .int .i64 t268, .slice (ad N273) t270.length (nN273 / 7), .bool t269]) rfl rfl rfl rfl rfl rfl rfl rfl rfl ?_
      refine t_keep [2, 3, 9, 11] (σ' := [(2, .int .i64 i2), (3, .bool shut3), (9, .bool true), (11, .pointer (some ⟨b274, 0, none⟩))]) (by kernel_rfl) ?_
      refine t_end ?_
      show W _ _ _ _ _ _ _
      refine w_seq ?_
      refine w_reg fun all => ?_
      refine t_qz 1 [2, 3, 9, 11, 39] (σ' := [(2, .int .i64 i2), (3, .bool shut3), (9, .bool true), (11, .pointer (some ⟨b274, 0, none⟩)), (39, .pointer (some ⟨b274, 0, none⟩))]) (by kernel_rfl) ?_
      refine t_v (.ldn rfl rfl rfl (.at 0 rfl rfl)) ?_
      refine t_a (.new rfl rfl) fun b275 fb275 sb275 => ?_
      refine t_sti 0 (cs := [.int .i64 t267, .int .i64 t268]) rfl rfl rfl rfl rfl rfl rfl rfl rfl ?_
      refine t_keep [2, 3, 9, 11, 12] (σ' := [(2, .int .i64 i2), (3, .bool shut3), (9, .bool true), (11, .pointer (some ⟨b274, 0, none⟩)), (12, .pointer (some ⟨b275, 0, none⟩))]) (by kernel_rfl) ?_
      refine t_end ?_
      show W _ _ _ _ _ _ _
      obtain ⟨s278, e277, e⟩ := bind_of e
      refine w_cut [3, 9, 11] (fun σ_ H_ S_ => ∃ (x347 : Int) (x348 : Int), s278 = .inr (x347, x348) ∧ [(3, .bool shut3), (9, .bool true), (11, .pointer (some ⟨b274, 0, none⟩))] = σ_ ∧ ([⟨b275, [.int .i64 x347, .int .i64 x348], 2⟩, ⟨b274, [.int .i64 t267, .int .i64 t268, .slice (ad N273) t270.length (nN273 / 7), .bool t269], 4⟩, ⟨b43, [.slice a_l0 l0.length c_l0, .int .i64 t271], 2⟩, ⟨N273, encL E_i647 t270, nN273⟩] : List Own) = H_ ∧ S = S_) ?_ ?_
      · show W _ _ _ _ _ _ _
        refine w_seq ?_
        refine w_reg fun all => ?_
        refine t_qz 1 [2, 3, 9, 11, 12, 13] (σ' := [(2, .int .i64 i2), (3, .bool shut3), (9, .bool true), (11, .pointer (some ⟨b274, 0, none⟩)), (12, .pointer (some ⟨b275, 0, none⟩)), (13, .int .i64 0)]) (by kernel_rfl) ?_
        refine t_end ?_
        show W _ _ _ _ _ _ _
        refine w_block ?_
        refine w_kp [2, 3, 9, 11, 12, 13] (σ' := [(2, .int .i64 i2), (3, .bool shut3), (9, .bool true), (11, .pointer (some ⟨b274, 0, none⟩)), (12, .pointer (some ⟨b275, 0, none⟩)), (13, .int .i64 0)]) (by kernel_rfl) ?_
        refine w_loop (fun n_ σ_ H_ S_ => ∃ (x279 : Int) (x280 : Int) (x281 : Int), [(2, .int .i64 i2), (3, .bool shut3), (9, .bool true), (11, .pointer (some ⟨b274, 0, none⟩)), (12, .pointer (some ⟨b275, 0, none⟩)), (13, .int .i64 x279)] = σ_ ∧ ([⟨b275, [.int .i64 x280, .int .i64 x281], 2⟩, ⟨b274, [.int .i64 t267, .int .i64 t268, .slice (ad N273) t270.length (nN273 / 7), .bool t269], 4⟩, ⟨N273, encL E_i647 t270, nN273⟩, ⟨b43, [.slice a_l0 l0.length c_l0, .int .i64 t271], 2⟩] : List Own) = H_ ∧ S = S_ ∧ glyphiclaw21_FlattenSays.l0 n_ l0 i2 t270 x279 x280 x281 = some s278) _ ⟨0, t267, t268, rfl, rfl, rfl, e277⟩ ?_
        rintro n346 σ_ H_ S_ ⟨x279, x280, x281, rfl, rfl, rfl, e277⟩
        cases n346 with
        | zero => rw [glyphiclaw21_FlattenSays.l0.eq_1] at e277; cases e277
        | succ k_ =>
          rw [glyphiclaw21_FlattenSays.l0.eq_2] at e277
          refine w_seq ?_
          refine w_seq ?_
          refine w_reg fun all => ?_
          refine t_qz 2 [2, 3, 9, 11, 12, 13, 41, 42] (σ' := [(2, .int .i64 i2), (3, .bool shut3), (9, .bool true), (11, .pointer (some ⟨b274, 0, none⟩)), (12, .pointer (some ⟨b275, 0, none⟩)), (13, .int .i64 x279), (41, .int .i64 x279), (42, .pointer (some ⟨b274, 2, none⟩))]) (by kernel_rfl) ?_
          refine t_v (.ld1 rfl rfl rfl (.at 1 rfl rfl)) ?_
          by_cases c282 : x279 < (t270.length : Int)
          · rw [if_pos c282] at e277
            have c282b : (decide (x279 < (t270.length : Int))) = true := decide_eq_true c282
            refine t_qz 1 [2, 3, 9, 11, 12, 13, 41, 44] (σ' := [(2, .int .i64 i2), (3, .bool shut3), (9, .bool true), (11, .pointer (some ⟨b274, 0, none⟩)), (12, .pointer (some ⟨b275, 0, none⟩)), (13, .int .i64 x279), (41, .int .i64 x279), (44, .int .i64 (t270.length : Int))]) (by kernel_rfl) ?_
            refine t_v (dv_quiet rfl (congrArg (fun t => some (Value.bool t)) c282b)) ?_
            refine t_keep [2, 3, 9, 11, 12, 13, 45] (σ' := [(2, .int .i64 i2), (3, .bool shut3), (9, .bool true), (11, .pointer (some ⟨b274, 0, none⟩)), (12, .pointer (some ⟨b275, 0, none⟩)), (13, .int .i64 x279), (45, .bool true)]) (by kernel_rfl) ?_
            refine t_end ?_
            show W _ _ _ _ _ _ _
            refine w_cond rfl (fun _ => ?_) (fun c_ => by cases c_)
            show W _ _ _ _ _ _ _
            refine w_skip ?_
            show W _ _ _ _ _ _ _
            refine w_seq ?_
            refine w_block ?_
            refine w_seq ?_
            refine w_reg fun all => ?_
            refine t_qz 1 [2, 3, 9, 11, 12, 13, 48] (σ' := [(2, .int .i64 i2), (3, .bool shut3), (9, .bool true), (11, .pointer (some ⟨b274, 0, none⟩)), (12, .pointer (some ⟨b275, 0, none⟩)), (13, .int .i64 x279), (48, .pointer (some ⟨b274, 2, none⟩))]) (by kernel_rfl) ?_
            refine t_v (.ld1 rfl rfl rfl (.at 1 rfl rfl)) ?_
            obtain ⟨⟨x283, x284, x285, x286, x287, x288, x289⟩, hx290, e277⟩ := bind_of e277
            try dsimp only at e277
            refine t_qz 1 [2, 3, 9, 11, 12, 13, 49, 50] (σ' := [(2, .int .i64 i2), (3, .bool shut3), (9, .bool true), (11, .pointer (some ⟨b274, 0, none⟩)), (12, .pointer (some ⟨b275, 0, none⟩)), (13, .int .i64 x279), (49, .slice (ad N273) t270.length (nN273 / 7)), (50, .int .i64 x279)]) (by kernel_rfl) ?_
            refine t_v (.quietH rfl (by intro h_; cases h_) (ixl (E := E_i647) (j := 2) rfl rfl rfl (by decide) rfl hx290)) ?_
            refine t_v (.ldn (vs := [.int .i64 x283, .int .i64 x284, .int .i64 x285, .int .i64 x286, .int .i64 x287, .int .i64 x288, .int .i64 x289]) rfl rfl rfl (.lst 2 rfl (encL_sub (lgt_in hx290).1 (by kernel_rfl)))) ?_
            refine t_a (.new rfl rfl) fun b291 fb291 sb291 => ?_
            refine t_sti 0 (cs := [.int .i64 x283, .int .i64 x284, .int .i64 x285, .int .i64 x286, .int .i64 x287, .int .i64 x288, .int .i64 x289]) rfl rfl rfl rfl rfl rfl rfl rfl rfl ?_
            refine t_keep [2, 3, 9, 11, 12, 13, 14] (σ' := [(2, .int .i64 i2), (3, .bool shut3), (9, .bool true), (11, .pointer (some ⟨b274, 0, none⟩)), (12, .pointer (some ⟨b275, 0, none⟩)), (13, .int .i64 x279), (14, .pointer (some ⟨b291, 0, none⟩))]) (by kernel_rfl) ?_
            refine t_end ?_
            show W _ _ _ _ _ _ _
            refine w_seq ?_
            refine w_reg fun all => ?_
            refine t_v (.ldn rfl rfl rfl (.at 1 rfl rfl)) ?_
            refine t_v (.ldn rfl rfl rfl (.at 0 rfl rfl)) ?_
            obtain ⟨t292, h293, e277⟩ := bind_of e277
            refine t_v (.call (vs := [.agg #[.int .i64 x280, .int .i64 x281], .agg #[.int .i64 x283, .int .i64 x284, .int .i64 x285, .int .i64 x286, .int .i64 x287, .int .i64 x288, .int .i64 x289]]) rfl rfl (by kernel_rfl) (flatten_Count.ok h293)) ?_
            refine t_qz 1 [2, 3, 9, 11, 12, 13, 14, 15] (σ' := [(2, .int .i64 i2), (3, .bool shut3), (9, .bool true), (11, .pointer (some ⟨b274, 0, none⟩)), (12, .pointer (some ⟨b275, 0, none⟩)), (13, .int .i64 x279), (14, .pointer (some ⟨b291, 0, none⟩)), (15, .int .i64 t292)]) (by kernel_rfl) ?_
            refine t_end ?_
            show W _ _ _ _ _ _ _
            refine w_seq ?_
            refine w_seq ?_
            refine w_reg fun all => ?_
            refine t_qz 1 [2, 3, 9, 11, 12, 13, 14, 15, 56] (σ' := [(2, .int .i64 i2), (3, .bool shut3), (9, .bool true), (11, .pointer (some ⟨b274, 0, none⟩)), (12, .pointer (some ⟨b275, 0, none⟩)), (13, .int .i64 x279), (14, .pointer (some ⟨b291, 0, none⟩)), (15, .int .i64 t292), (56, .int .i64 t292)]) (by kernel_rfl) ?_
            refine t_v (.ldn rfl rfl rfl (.at 1 rfl rfl)) ?_
            refine t_v (.ldn rfl rfl rfl (.at 0 rfl rfl)) ?_
            obtain ⟨t294, h295, e277⟩ := bind_of e277
            refine t_v (.call (vs := [.agg #[.int .i64 x280, .int .i64 x281], .agg #[.int .i64 x283, .int .i64 x284, .int .i64 x285, .int .i64 x286, .int .i64 x287, .int .i64 x288, .int .i64 x289]]) rfl rfl (by kernel_rfl) (glyphicref20_Count.ok h295)) ?_
            by_cases c296 : t292 = t294
            · rw [if_pos c296] at e277
              have c296b : (t292 == t294) = true := beq_iff_eq.mpr c296
              refine t_v (dv_quiet rfl (congrArg (fun t => some (Value.bool (!t))) c296b)) ?_
              refine t_keep [2, 3, 9, 11, 12, 13, 14, 15, 60] (σ' := [(2, .int .i64 i2), (3, .bool shut3), (9, .bool true), (11, .pointer (some ⟨b274, 0, none⟩)), (12, .pointer (some ⟨b275, 0, none⟩)), (13, .int .i64 x279), (14, .pointer (some ⟨b291, 0, none⟩)), (15, .int .i64 t292), (60, .bool false)]) (by kernel_rfl) ?_
              refine t_end ?_
              show W _ _ _ _ _ _ _
              refine w_cond rfl (fun c_ => by cases c_) (fun _ => ?_)
              show W _ _ _ _ _ _ _
              refine w_skip ?_
              show W _ _ _ _ _ _ _
              refine w_seq ?_
              refine w_reg fun all => ?_
              have c297 : ¬ (wr64 (t292 + 1)) = 0 := by
                intro h_; rw [if_pos h_] at e277; cases e277
              rw [if_neg c297] at e277
              refine t_qz 3 [2, 3, 9, 11, 12, 13, 14, 15, 61, 63] (σ' := [(2, .int .i64 i2), (3, .bool shut3), (9, .bool true), (11, .pointer (some ⟨b274, 0, none⟩)), (12, .pointer (some ⟨b275, 0, none⟩)), (13, .int .i64 x279), (14, .pointer (some ⟨b291, 0, none⟩)), (15, .int .i64 t292), (61, .int .i64 i2), (63, .int .i64 (wr64 (t292 + 1)))]) (by kernel_rfl) ?_
              refine t_v (.quiet rfl (qv_rem rfl rfl c297)) ?_
              refine t_qz 5 [2, 3, 9, 11, 12, 13, 14, 15, 67, 69] (σ' := [(2, .int .i64 i2), (3, .bool shut3), (9, .bool true), (11, .pointer (some ⟨b274, 0, none⟩)), (12, .pointer (some ⟨b275, 0, none⟩)), (13, .int .i64 x279), (14, .pointer (some ⟨b291, 0, none⟩)), (15, .int .i64 t292), (67, .int .i64 (wr64 ((wr64 ((Int.tmod i2 (wr64 (t292 + 1))) + t292)) + 1))), (69, .int .i64 (wr64 (t292 + 1)))]) (by kernel_rfl) ?_
              refine t_v (.quiet rfl (qv_rem rfl rfl c297)) ?_
              refine t_qz 1 [2, 3, 9, 11, 12, 13, 14, 15, 16] (σ' := [(2, .int .i64 i2), (3, .bool shut3), (9, .bool true), (11, .pointer (some ⟨b274, 0, none⟩)), (12, .pointer (some ⟨b275, 0, none⟩)), (13, .int .i64 x279), (14, .pointer (some ⟨b291, 0, none⟩)), (15, .int .i64 t292), (16, .int .i64 (Int.tmod (wr64 ((wr64 ((Int.tmod i2 (wr64 (t292 + 1))) + t292)) + 1)) (wr64 (t292 + 1))))]) (by kernel_rfl) ?_
              refine t_end ?_
              show W _ _ _ _ _ _ _
              refine w_seq ?_
              refine w_seq ?_
              by_cases c298 : x283 = 1
              · rw [if_pos c298] at e277
                have c298b : (x283 == 1) = true := beq_iff_eq.mpr c298
                obtain ⟨⟨t299, t300⟩, h301, e277⟩ := bind_of e277
                try dsimp only at e277
                obtain ⟨⟨t302, t303⟩, h304, e277⟩ := bind_of e277
                try dsimp only at e277
                obtain ⟨t305, h306, e277⟩ := bind_of e277
                by_cases c307 : t305 = true
                · rw [if_pos c307] at e277
                  have c307b : t305 = true := c307
                  refine w_drwE mixed 12 [.v (.agg #[.int .i64 x280, .int .i64 x281]), .v (.agg #[.int .i64 x283, .int .i64 x284, .int .i64 x285, .int .i64 x286, .int .i64 x287, .int .i64 x288, .int .i64 x289]), .v (.int .i64 (Int.tmod (wr64 ((wr64 ((Int.tmod i2 (wr64 (t292 + 1))) + t292)) + 1)) (wr64 (t292 + 1)))), .v (.int .i64 t292), .v (.agg #[.int .i64 t299, .int .i64 t300]), .v (.agg #[.int .i64 x280, .int .i64 x281]), .v (.agg #[.int .i64 x283, .int .i64 x284, .int .i64 x285, .int .i64 x286, .int .i64 x287, .int .i64 x288, .int .i64 x289]), .v (.int .i64 (Int.tmod (wr64 ((wr64 ((Int.tmod i2 (wr64 (t292 + 1))) + t292)) + 1)) (wr64 (t292 + 1)))), .v (.int .i64 t292), .v (.agg #[.int .i64 t302, .int .i64 t303]), .v (.bool t305), .v (.bool false)] (by kernel_rfl) ?_ ?_
                  · refine .cons (.ldn rfl rfl rfl (.at 1 rfl rfl)) ?_
                    refine .cons (.ldn rfl rfl rfl (.at 0 rfl rfl)) ?_
                    refine DI.sq 2 (by kernel_rfl) rfl ?_
                    refine .cons (.call (vs := [.agg #[.int .i64 x280, .int .i64 x281], .agg #[.int .i64 1, .int .i64 x284, .int .i64 x285, .int .i64 x286, .int .i64 x287, .int .i64 x288, .int .i64 x289], .int .i64 (Int.tmod (wr64 ((wr64 ((Int.tmod i2 (wr64 (t292 + 1))) + t292)) + 1)) (wr64 (t292 + 1))), .int .i64 t292]) rfl rfl (Eq.trans (b := (some [.agg #[.int .i64 x280, .int .i64 x281], .agg #[.int .i64 x283, .int .i64 x284, .int .i64 x285, .int .i64 x286, .int .i64 x287, .int .i64 x288, .int .i64 x289], .int .i64 (Int.tmod (wr64 ((wr64 ((Int.tmod i2 (wr64 (t292 + 1))) + t292)) + 1)) (wr64 (t292 + 1))), .int .i64 t292] : Option (List Value))) (by kernel_rfl) (congrArg (fun q_ => (some [.agg #[.int .i64 x280, .int .i64 x281], .agg #[.int .i64 q_, .int .i64 x284, .int .i64 x285, .int .i64 x286, .int .i64 x287, .int .i64 x288, .int .i64 x289], .int .i64 (Int.tmod (wr64 ((wr64 ((Int.tmod i2 (wr64 (t292 + 1))) + t292)) + 1)) (wr64 (t292 + 1))), .int .i64 t292] : Option (List Value))) c298)) (flatten_Point_v2.ok h301)) ?_
                    refine .cons (.ldn rfl rfl rfl (.at 1 rfl rfl)) ?_
                    refine .cons (.ldn rfl rfl rfl (.at 0 rfl rfl)) ?_
                    refine DI.sq 2 (by kernel_rfl) rfl ?_
                    refine .cons (.call (vs := [.agg #[.int .i64 x280, .int .i64 x281], .agg #[.int .i64 x283, .int .i64 x284, .int .i64 x285, .int .i64 x286, .int .i64 x287, .int .i64 x288, .int .i64 x289], .int .i64 (Int.tmod (wr64 ((wr64 ((Int.tmod i2 (wr64 (t292 + 1))) + t292)) + 1)) (wr64 (t292 + 1))), .int .i64 t292]) rfl rfl (by kernel_rfl) (glyphicref20_Point.ok h304)) ?_
                    refine .cons (.call (vs := [.agg #[.int .i64 t299, .int .i64 t300], .agg #[.int .i64 t302, .int .i64 t303]]) rfl rfl (by kernel_rfl) (glyphicref_SamePoint.ok h306)) ?_
                    refine .cons (dv_quiet rfl (congrArg (fun t => some (Value.bool (!t))) c307b)) ?_
                    exact .nil
                  refine fk_q 12 [2, 3, 9, 11, 12, 13, 14, 82] (σ' := [(2, .int .i64 i2), (3, .bool shut3), (9, .bool true), (11, .pointer (some ⟨b274, 0, none⟩)), (12, .pointer (some ⟨b275, 0, none⟩)), (13, .int .i64 x279), (14, .pointer (some ⟨b291, 0, none⟩)), (82, .bool false)]) t_more (by kernel_rfl) ?_
                  refine fk_nil fun all => ?_
                  refine t_keep [2, 3, 9, 11, 12, 13, 14, 82] (σ' := [(2, .int .i64 i2), (3, .bool shut3), (9, .bool true), (11, .pointer (some ⟨b274, 0, none⟩)), (12, .pointer (some ⟨b275, 0, none⟩)), (13, .int .i64 x279), (14, .pointer (some ⟨b291, 0, none⟩)), (82, .bool false)]) (by kernel_rfl) ?_
                  refine t_end ?_
                  show W _ _ _ _ _ _ _
                  refine w_cond rfl (fun c_ => by cases c_) (fun _ => ?_)
                  show W _ _ _ _ _ _ _
                  refine w_skip ?_
                  show W _ _ _ _ _ _ _
                  refine w_reg fun all => ?_
                  refine t_qz 1 [2, 3, 9, 11, 12, 13, 14, 83] (σ' := [(2, .int .i64 i2), (3, .bool shut3), (9, .bool true), (11, .pointer (some ⟨b274, 0, none⟩)), (12, .pointer (some ⟨b275, 0, none⟩)), (13, .int .i64 x279), (14, .pointer (some ⟨b291, 0, none⟩)), (83, .pointer (some ⟨b291, 0, none⟩))]) (by kernel_rfl) ?_
                  refine t_v (.ld1 rfl rfl rfl (.at 0 rfl rfl)) ?_
                  by_cases c308 : (wr64 (x283 - 1)) = 0
                  · rw [if_pos c308] at e277
                    have c308b : ((wr64 (x283 - 1)) == 0) = true := beq_iff_eq.mpr c308
                    refine t_qz 2 [2, 3, 9, 11, 12, 13, 85, 86] (σ' := [(2, .int .i64 i2), (3, .bool shut3), (9, .bool true), (11, .pointer (some ⟨b274, 0, none⟩)), (12, .pointer (some ⟨b275, 0, none⟩)), (13, .int .i64 x279), (85, .int .i64 (wr64 (x283 - 1))), (86, .pointer (some ⟨b291, 1, none⟩))]) (by kernel_rfl) ?_
                    refine t_v (.quiet rfl (ixa_at (j := 0) (u := .pointer (some ⟨b291, 1, none⟩)) rfl c308b (by kernel_rfl))) ?_
                    refine t_v (.ldn rfl rfl rfl (.at 0 rfl rfl)) ?_
                    refine t_sti 1 (cs := [.int .i64 x284, .int .i64 x285]) rfl rfl rfl rfl rfl rfl rfl rfl rfl ?_
                    refine t_keep [2, 3, 9, 11, 12, 13] (σ' := [(2, .int .i64 i2), (3, .bool shut3), (9, .bool true), (11, .pointer (some ⟨b274, 0, none⟩)), (12, .pointer (some ⟨b275, 0, none⟩)), (13, .int .i64 x279)]) (by kernel_rfl) ?_
                    refine t_end ?_
                    show W _ _ _ _ _ _ _
                    refine w_reg fun all => ?_
                    refine t_qz 3 [2, 3, 9, 11, 12, 13] (σ' := [(2, .int .i64 i2), (3, .bool shut3), (9, .bool true), (11, .pointer (some ⟨b274, 0, none⟩)), (12, .pointer (some ⟨b275, 0, none⟩)), (13, .int .i64 (wr64 (x279 + 1)))]) (by kernel_rfl) ?_
                    refine t_end ?_
                    exact ⟨k_, Nat.lt_succ_self _, [(2, .int .i64 i2), (3, .bool shut3), (9, .bool true), (11, .pointer (some ⟨b274, 0, none⟩)), (12, .pointer (some ⟨b275, 0, none⟩)), (13, .int .i64 (wr64 (x279 + 1)))], ([⟨b275, [.int .i64 x284, .int .i64 x285], 2⟩, ⟨b274, [.int .i64 t267, .int .i64 t268, .slice (ad N273) t270.length (nN273 / 7), .bool t269], 4⟩, ⟨N273, encL E_i647 t270, nN273⟩, ⟨b43, [.slice a_l0 l0.length c_l0, .int .i64 t271], 2⟩] : List Own), S, keep_sub [2, 3, 9, 11, 12, 13] (by kernel_rfl), VS.sel [1, 1, 1, 1] (by kernel_rfl), wr64 (x279 + 1), x284, x285, rfl, rfl, rfl, e277⟩
                  · rw [if_neg c308] at e277
                    have c308b : ((wr64 (x283 - 1)) == 0) = false := beq_eq_false_iff_ne.mpr c308
                    by_cases c310 : (wr64 (x283 - 1)) = 1
                    · rw [if_pos c310] at e277
                      have c310b : ((wr64 (x283 - 1)) == 1) = true := beq_iff_eq.mpr c310
                      refine t_qz 2 [2, 3, 9, 11, 12, 13, 85, 86] (σ' := [(2, .int .i64 i2), (3, .bool shut3), (9, .bool true), (11, .pointer (some ⟨b274, 0, none⟩)), (12, .pointer (some ⟨b275, 0, none⟩)), (13, .int .i64 x279), (85, .int .i64 (wr64 (x283 - 1))), (86, .pointer (some ⟨b291, 1, none⟩))]) (by kernel_rfl) ?_
                      refine t_v (.quiet rfl (ixa_at (j := 1) (u := .pointer (some ⟨b291, 3, none⟩)) rfl c310b (by kernel_rfl))) ?_
                      refine t_v (.ldn rfl rfl rfl (.at 0 rfl rfl)) ?_
                      refine t_sti 1 (cs := [.int .i64 x286, .int .i64 x287]) rfl rfl rfl rfl rfl rfl rfl rfl rfl ?_
                      refine t_keep [2, 3, 9, 11, 12, 13] (σ' := [(2, .int .i64 i2), (3, .bool shut3), (9, .bool true), (11, .pointer (some ⟨b274, 0, none⟩)), (12, .pointer (some ⟨b275, 0, none⟩)), (13, .int .i64 x279)]) (by kernel_rfl) ?_
                      refine t_end ?_
                      show W _ _ _ _ _ _ _
                      refine w_reg fun all => ?_
                      refine t_qz 3 [2, 3, 9, 11, 12, 13] (σ' := [(2, .int .i64 i2), (3, .bool shut3), (9, .bool true), (11, .pointer (some ⟨b274, 0, none⟩)), (12, .pointer (some ⟨b275, 0, none⟩)), (13, .int .i64 (wr64 (x279 + 1)))]) (by kernel_rfl) ?_
                      refine t_end ?_
                      exact ⟨k_, Nat.lt_succ_self _, [(2, .int .i64 i2), (3, .bool shut3), (9, .bool true), (11, .pointer (some ⟨b274, 0, none⟩)), (12, .pointer (some ⟨b275, 0, none⟩)), (13, .int .i64 (wr64 (x279 + 1)))], ([⟨b275, [.int .i64 x286, .int .i64 x287], 2⟩, ⟨b274, [.int .i64 t267, .int .i64 t268, .slice (ad N273) t270.length (nN273 / 7), .bool t269], 4⟩, ⟨N273, encL E_i647 t270, nN273⟩, ⟨b43, [.slice a_l0 l0.length c_l0, .int .i64 t271], 2⟩] : List Own), S, keep_sub [2, 3, 9, 11, 12, 13] (by kernel_rfl), VS.sel [1, 1, 1, 1] (by kernel_rfl), wr64 (x279 + 1), x286, x287, rfl, rfl, rfl, e277⟩
                    · rw [if_neg c310] at e277
                      have c310b : ((wr64 (x283 - 1)) == 1) = false := beq_eq_false_iff_ne.mpr c310
                      by_cases c312 : (wr64 (x283 - 1)) = 2
                      · rw [if_pos c312] at e277
                        have c312b : ((wr64 (x283 - 1)) == 2) = true := beq_iff_eq.mpr c312
                        refine t_qz 2 [2, 3, 9, 11, 12, 13, 85, 86] (σ' := [(2, .int .i64 i2), (3, .bool shut3), (9, .bool true), (11, .pointer (some ⟨b274, 0, none⟩)), (12, .pointer (some ⟨b275, 0, none⟩)), (13, .int .i64 x279), (85, .int .i64 (wr64 (x283 - 1))), (86, .pointer (some ⟨b291, 1, none⟩))]) (by kernel_rfl) ?_
                        refine t_v (.quiet rfl (ixa_at (j := 2) (u := .pointer (some ⟨b291, 5, none⟩)) rfl c312b (by kernel_rfl))) ?_
                        refine t_v (.ldn rfl rfl rfl (.at 0 rfl rfl)) ?_
                        refine t_sti 1 (cs := [.int .i64 x288, .int .i64 x289]) rfl rfl rfl rfl rfl rfl rfl rfl rfl ?_
                        refine t_keep [2, 3, 9, 11, 12, 13] (σ' := [(2, .int .i64 i2), (3, .bool shut3), (9, .bool true), (11, .pointer (some ⟨b274, 0, none⟩)), (12, .pointer (some ⟨b275, 0, none⟩)), (13, .int .i64 x279)]) (by kernel_rfl) ?_
                        refine t_end ?_
                        show W _ _ _ _ _ _ _
                        refine w_reg fun all => ?_
                        refine t_qz 3 [2, 3, 9, 11, 12, 13] (σ' := [(2, .int .i64 i2), (3, .bool shut3), (9, .bool true), (11, .pointer (some ⟨b274, 0, none⟩)), (12, .pointer (some ⟨b275, 0, none⟩)), (13, .int .i64 (wr64 (x279 + 1)))]) (by kernel_rfl) ?_
                        refine t_end ?_
                        exact ⟨k_, Nat.lt_succ_self _, [(2, .int .i64 i2), (3, .bool shut3), (9, .bool true), (11, .pointer (some ⟨b274, 0, none⟩)), (12, .pointer (some ⟨b275, 0, none⟩)), (13, .int .i64 (wr64 (x279 + 1)))], ([⟨b275, [.int .i64 x288, .int .i64 x289], 2⟩, ⟨b274, [.int .i64 t267, .int .i64 t268, .slice (ad N273) t270.length (nN273 / 7), .bool t269], 4⟩, ⟨N273, encL E_i647 t270, nN273⟩, ⟨b43, [.slice a_l0 l0.length c_l0, .int .i64 t271], 2⟩] : List Own), S, keep_sub [2, 3, 9, 11, 12, 13] (by kernel_rfl), VS.sel [1, 1, 1, 1] (by kernel_rfl), wr64 (x279 + 1), x288, x289, rfl, rfl, rfl, e277⟩
                      · rw [if_neg c312] at e277
                        have c312b : ((wr64 (x283 - 1)) == 2) = false := beq_eq_false_iff_ne.mpr c312
                        cases e277
                · rw [if_neg c307] at e277
                  have c307b : t305 = false := Bool.eq_false_iff.mpr c307
                  refine w_drwE mixed 12 [.v (.agg #[.int .i64 x280, .int .i64 x281]), .v (.agg #[.int .i64 x283, .int .i64 x284, .int .i64 x285, .int .i64 x286, .int .i64 x287, .int .i64 x288, .int .i64 x289]), .v (.int .i64 (Int.tmod (wr64 ((wr64 ((Int.tmod i2 (wr64 (t292 + 1))) + t292)) + 1)) (wr64 (t292 + 1)))), .v (.int .i64 t292), .v (.agg #[.int .i64 t299, .int .i64 t300]), .v (.agg #[.int .i64 x280, .int .i64 x281]), .v (.agg #[.int .i64 x283, .int .i64 x284, .int .i64 x285, .int .i64 x286, .int .i64 x287, .int .i64 x288, .int .i64 x289]), .v (.int .i64 (Int.tmod (wr64 ((wr64 ((Int.tmod i2 (wr64 (t292 + 1))) + t292)) + 1)) (wr64 (t292 + 1)))), .v (.int .i64 t292), .v (.agg #[.int .i64 t302, .int .i64 t303]), .v (.bool t305), .v (.bool true)] (by kernel_rfl) ?_ ?_
                  · refine .cons (.ldn rfl rfl rfl (.at 1 rfl rfl)) ?_
                    refine .cons (.ldn rfl rfl rfl (.at 0 rfl rfl)) ?_
                    refine DI.sq 2 (by kernel_rfl) rfl ?_
                    refine .cons (.call (vs := [.agg #[.int .i64 x280, .int .i64 x281], .agg #[.int .i64 1, .int .i64 x284, .int .i64 x285, .int .i64 x286, .int .i64 x287, .int .i64 x288, .int .i64 x289], .int .i64 (Int.tmod (wr64 ((wr64 ((Int.tmod i2 (wr64 (t292 + 1))) + t292)) + 1)) (wr64 (t292 + 1))), .int .i64 t292]) rfl rfl (Eq.trans (b := (some [.agg #[.int .i64 x280, .int .i64 x281], .agg #[.int .i64 x283, .int .i64 x284, .int .i64 x285, .int .i64 x286, .int .i64 x287, .int .i64 x288, .int .i64 x289], .int .i64 (Int.tmod (wr64 ((wr64 ((Int.tmod i2 (wr64 (t292 + 1))) + t292)) + 1)) (wr64 (t292 + 1))), .int .i64 t292] : Option (List Value))) (by kernel_rfl) (congrArg (fun q_ => (some [.agg #[.int .i64 x280, .int .i64 x281], .agg #[.int .i64 q_, .int .i64 x284, .int .i64 x285, .int .i64 x286, .int .i64 x287, .int .i64 x288, .int .i64 x289], .int .i64 (Int.tmod (wr64 ((wr64 ((Int.tmod i2 (wr64 (t292 + 1))) + t292)) + 1)) (wr64 (t292 + 1))), .int .i64 t292] : Option (List Value))) c298)) (flatten_Point_v2.ok h301)) ?_
                    refine .cons (.ldn rfl rfl rfl (.at 1 rfl rfl)) ?_
                    refine .cons (.ldn rfl rfl rfl (.at 0 rfl rfl)) ?_
                    refine DI.sq 2 (by kernel_rfl) rfl ?_
                    refine .cons (.call (vs := [.agg #[.int .i64 x280, .int .i64 x281], .agg #[.int .i64 x283, .int .i64 x284, .int .i64 x285, .int .i64 x286, .int .i64 x287, .int .i64 x288, .int .i64 x289], .int .i64 (Int.tmod (wr64 ((wr64 ((Int.tmod i2 (wr64 (t292 + 1))) + t292)) + 1)) (wr64 (t292 + 1))), .int .i64 t292]) rfl rfl (by kernel_rfl) (glyphicref20_Point.ok h304)) ?_
                    refine .cons (.call (vs := [.agg #[.int .i64 t299, .int .i64 t300], .agg #[.int .i64 t302, .int .i64 t303]]) rfl rfl (by kernel_rfl) (glyphicref_SamePoint.ok h306)) ?_
                    refine .cons (dv_quiet rfl (congrArg (fun t => some (Value.bool (!t))) c307b)) ?_
                    exact .nil
                  refine fk_q 12 [2, 3, 9, 11, 12, 13, 14, 82] (σ' := [(2, .int .i64 i2), (3, .bool shut3), (9, .bool true), (11, .pointer (some ⟨b274, 0, none⟩)), (12, .pointer (some ⟨b275, 0, none⟩)), (13, .int .i64 x279), (14, .pointer (some ⟨b291, 0, none⟩)), (82, .bool true)]) t_more (by kernel_rfl) ?_
                  refine fk_nil fun all => ?_
                  refine t_keep [2, 3, 9, 11, 12, 13, 14, 82] (σ' := [(2, .int .i64 i2), (3, .bool shut3), (9, .bool true), (11, .pointer (some ⟨b274, 0, none⟩)), (12, .pointer (some ⟨b275, 0, none⟩)), (13, .int .i64 x279), (14, .pointer (some ⟨b291, 0, none⟩)), (82, .bool true)]) (by kernel_rfl) ?_
                  refine t_end ?_
                  show W _ _ _ _ _ _ _
                  refine w_cond rfl (fun _ => ?_) (fun c_ => by cases c_)
                  show W _ _ _ _ _ _ _
                  refine w_seq ?_
                  refine w_reg fun all => ?_
                  refine t_qz 1 [8] (σ' := [(8, .bool false)]) (by kernel_rfl) ?_
                  refine t_end ?_
                  show W _ _ _ _ _ _ _
                  refine w_ret ?_
                  obtain rfl := Option.some.inj e277
                  have hr_ := Option.some.inj e
                  exact ⟨[.bool false], [], S, ⟨rfl, trivial⟩, VS.none, congrArg Value.bool hr_, rfl, rfl⟩
              · rw [if_neg c298] at e277
                have c298b : (x283 == 1) = false := beq_eq_false_iff_ne.mpr c298
                by_cases c314 : x283 = 2
                · rw [if_pos c314] at e277
                  have c314b : (x283 == 2) = true := beq_iff_eq.mpr c314
                  obtain ⟨⟨t315, t316⟩, h317, e277⟩ := bind_of e277
                  try dsimp only at e277
                  obtain ⟨⟨t318, t319⟩, h320, e277⟩ := bind_of e277
                  try dsimp only at e277
                  obtain ⟨t321, h322, e277⟩ := bind_of e277
                  by_cases c323 : t321 = true
                  · rw [if_pos c323] at e277
                    have c323b : t321 = true := c323
                    refine w_drwE mixed 12 [.v (.agg #[.int .i64 x280, .int .i64 x281]), .v (.agg #[.int .i64 x283, .int .i64 x284, .int .i64 x285, .int .i64 x286, .int .i64 x287, .int .i64 x288, .int .i64 x289]), .v (.int .i64 (Int.tmod (wr64 ((wr64 ((Int.tmod i2 (wr64 (t292 + 1))) + t292)) + 1)) (wr64 (t292 + 1)))), .v (.int .i64 t292), .v (.agg #[.int .i64 t315, .int .i64 t316]), .v (.agg #[.int .i64 x280, .int .i64 x281]), .v (.agg #[.int .i64 x283, .int .i64 x284, .int .i64 x285, .int .i64 x286, .int .i64 x287, .int .i64 x288, .int .i64 x289]), .v (.int .i64 (Int.tmod (wr64 ((wr64 ((Int.tmod i2 (wr64 (t292 + 1))) + t292)) + 1)) (wr64 (t292 + 1)))), .v (.int .i64 t292), .v (.agg #[.int .i64 t318, .int .i64 t319]), .v (.bool t321), .v (.bool false)] (by kernel_rfl) ?_ ?_
                    · refine .cons (.ldn rfl rfl rfl (.at 1 rfl rfl)) ?_
                      refine .cons (.ldn rfl rfl rfl (.at 0 rfl rfl)) ?_
                      refine DI.sq 2 (by kernel_rfl) rfl ?_
                      refine .cons (.call (vs := [.agg #[.int .i64 x280, .int .i64 x281], .agg #[.int .i64 2, .int .i64 x284, .int .i64 x285, .int .i64 x286, .int .i64 x287, .int .i64 x288, .int .i64 x289], .int .i64 (Int.tmod (wr64 ((wr64 ((Int.tmod i2 (wr64 (t292 + 1))) + t292)) + 1)) (wr64 (t292 + 1))), .int .i64 t292]) rfl rfl (Eq.trans (b := (some [.agg #[.int .i64 x280, .int .i64 x281], .agg #[.int .i64 x283, .int .i64 x284, .int .i64 x285, .int .i64 x286, .int .i64 x287, .int .i64 x288, .int .i64 x289], .int .i64 (Int.tmod (wr64 ((wr64 ((Int.tmod i2 (wr64 (t292 + 1))) + t292)) + 1)) (wr64 (t292 + 1))), .int .i64 t292] : Option (List Value))) (by kernel_rfl) (congrArg (fun q_ => (some [.agg #[.int .i64 x280, .int .i64 x281], .agg #[.int .i64 q_, .int .i64 x284, .int .i64 x285, .int .i64 x286, .int .i64 x287, .int .i64 x288, .int .i64 x289], .int .i64 (Int.tmod (wr64 ((wr64 ((Int.tmod i2 (wr64 (t292 + 1))) + t292)) + 1)) (wr64 (t292 + 1))), .int .i64 t292] : Option (List Value))) c314)) (flatten_Point_v3.ok h317)) ?_
                      refine .cons (.ldn rfl rfl rfl (.at 1 rfl rfl)) ?_
                      refine .cons (.ldn rfl rfl rfl (.at 0 rfl rfl)) ?_
                      refine DI.sq 2 (by kernel_rfl) rfl ?_
                      refine .cons (.call (vs := [.agg #[.int .i64 x280, .int .i64 x281], .agg #[.int .i64 x283, .int .i64 x284, .int .i64 x285, .int .i64 x286, .int .i64 x287, .int .i64 x288, .int .i64 x289], .int .i64 (Int.tmod (wr64 ((wr64 ((Int.tmod i2 (wr64 (t292 + 1))) + t292)) + 1)) (wr64 (t292 + 1))), .int .i64 t292]) rfl rfl (by kernel_rfl) (glyphicref20_Point.ok h320)) ?_
                      refine .cons (.call (vs := [.agg #[.int .i64 t315, .int .i64 t316], .agg #[.int .i64 t318, .int .i64 t319]]) rfl rfl (by kernel_rfl) (glyphicref_SamePoint.ok h322)) ?_
                      refine .cons (dv_quiet rfl (congrArg (fun t => some (Value.bool (!t))) c323b)) ?_
                      exact .nil
                    refine fk_q 12 [2, 3, 9, 11, 12, 13, 14, 82] (σ' := [(2, .int .i64 i2), (3, .bool shut3), (9, .bool true), (11, .pointer (some ⟨b274, 0, none⟩)), (12, .pointer (some ⟨b275, 0, none⟩)), (13, .int .i64 x279), (14, .pointer (some ⟨b291, 0, none⟩)), (82, .bool false)]) t_more (by kernel_rfl) ?_
                    refine fk_nil fun all => ?_
                    refine t_keep [2, 3, 9, 11, 12, 13, 14, 82] (σ' := [(2, .int .i64 i2), (3, .bool shut3), (9, .bool true), (11, .pointer (some ⟨b274, 0, none⟩)), (12, .pointer (some ⟨b275, 0, none⟩)), (13, .int .i64 x279), (14, .pointer (some ⟨b291, 0, none⟩)), (82, .bool false)]) (by kernel_rfl) ?_
                    refine t_end ?_
                    show W _ _ _ _ _ _ _
                    refine w_cond rfl (fun c_ => by cases c_) (fun _ => ?_)
                    show W _ _ _ _ _ _ _
                    refine w_skip ?_
                    show W _ _ _ _ _ _ _
                    refine w_reg fun all => ?_
                    refine t_qz 1 [2, 3, 9, 11, 12, 13, 14, 83] (σ' := [(2, .int .i64 i2), (3, .bool shut3), (9, .bool true), (11, .pointer (some ⟨b274, 0, none⟩)), (12, .pointer (some ⟨b275, 0, none⟩)), (13, .int .i64 x279), (14, .pointer (some ⟨b291, 0, none⟩)), (83, .pointer (some ⟨b291, 0, none⟩))]) (by kernel_rfl) ?_
                    refine t_v (.ld1 rfl rfl rfl (.at 0 rfl rfl)) ?_
                    by_cases c324 : (wr64 (x283 - 1)) = 0
                    · rw [if_pos c324] at e277
                      have c324b : ((wr64 (x283 - 1)) == 0) = true := beq_iff_eq.mpr c324
                      refine t_qz 2 [2, 3, 9, 11, 12, 13, 85, 86] (σ' := [(2, .int .i64 i2), (3, .bool shut3), (9, .bool true), (11, .pointer (some ⟨b274, 0, none⟩)), (12, .pointer (some ⟨b275, 0, none⟩)), (13, .int .i64 x279), (85, .int .i64 (wr64 (x283 - 1))), (86, .pointer (some ⟨b291, 1, none⟩))]) (by kernel_rfl) ?_
                      refine t_v (.quiet rfl (ixa_at (j := 0) (u := .pointer (some ⟨b291, 1, none⟩)) rfl c324b (by kernel_rfl))) ?_
                      refine t_v (.ldn rfl rfl rfl (.at 0 rfl rfl)) ?_
                      refine t_sti 1 (cs := [.int .i64 x284, .int .i64 x285]) rfl rfl rfl rfl rfl rfl rfl rfl rfl ?_
                      refine t_keep [2, 3, 9, 11, 12, 13] (σ' := [(2, .int .i64 i2), (3, .bool shut3), (9, .bool true), (11, .pointer (some ⟨b274, 0, none⟩)), (12, .pointer (some ⟨b275, 0, none⟩)), (13, .int .i64 x279)]) (by kernel_rfl) ?_
                      refine t_end ?_
                      show W _ _ _ _ _ _ _
                      refine w_reg fun all => ?_
                      refine t_qz 3 [2, 3, 9, 11, 12, 13] (σ' := [(2, .int .i64 i2), (3, .bool shut3), (9, .bool true), (11, .pointer (some ⟨b274, 0, none⟩)), (12, .pointer (some ⟨b275, 0, none⟩)), (13, .int .i64 (wr64 (x279 + 1)))]) (by kernel_rfl) ?_
                      refine t_end ?_
                      exact ⟨k_, Nat.lt_succ_self _, [(2, .int .i64 i2), (3, .bool shut3), (9, .bool true), (11, .pointer (some ⟨b274, 0, none⟩)), (12, .pointer (some ⟨b275, 0, none⟩)), (13, .int .i64 (wr64 (x279 + 1)))], ([⟨b275, [.int .i64 x284, .int .i64 x285], 2⟩, ⟨b274, [.int .i64 t267, .int .i64 t268, .slice (ad N273) t270.length (nN273 / 7), .bool t269], 4⟩, ⟨N273, encL E_i647 t270, nN273⟩, ⟨b43, [.slice a_l0 l0.length c_l0, .int .i64 t271], 2⟩] : List Own), S, keep_sub [2, 3, 9, 11, 12, 13] (by kernel_rfl), VS.sel [1, 1, 1, 1] (by kernel_rfl), wr64 (x279 + 1), x284, x285, rfl, rfl, rfl, e277⟩
                    · rw [if_neg c324] at e277
                      have c324b : ((wr64 (x283 - 1)) == 0) = false := beq_eq_false_iff_ne.mpr c324
                      by_cases c326 : (wr64 (x283 - 1)) = 1
                      · rw [if_pos c326] at e277
                        have c326b : ((wr64 (x283 - 1)) == 1) = true := beq_iff_eq.mpr c326
                        refine t_qz 2 [2, 3, 9, 11, 12, 13, 85, 86] (σ' := [(2, .int .i64 i2), (3, .bool shut3), (9, .bool true), (11, .pointer (some ⟨b274, 0, none⟩)), (12, .pointer (some ⟨b275, 0, none⟩)), (13, .int .i64 x279), (85, .int .i64 (wr64 (x283 - 1))), (86, .pointer (some ⟨b291, 1, none⟩))]) (by kernel_rfl) ?_
                        refine t_v (.quiet rfl (ixa_at (j := 1) (u := .pointer (some ⟨b291, 3, none⟩)) rfl c326b (by kernel_rfl))) ?_
                        refine t_v (.ldn rfl rfl rfl (.at 0 rfl rfl)) ?_
                        refine t_sti 1 (cs := [.int .i64 x286, .int .i64 x287]) rfl rfl rfl rfl rfl rfl rfl rfl rfl ?_
                        refine t_keep [2, 3, 9, 11, 12, 13] (σ' := [(2, .int .i64 i2), (3, .bool shut3), (9, .bool true), (11, .pointer (some ⟨b274, 0, none⟩)), (12, .pointer (some ⟨b275, 0, none⟩)), (13, .int .i64 x279)]) (by kernel_rfl) ?_
                        refine t_end ?_
                        show W _ _ _ _ _ _ _
                        refine w_reg fun all => ?_
                        refine t_qz 3 [2, 3, 9, 11, 12, 13] (σ' := [(2, .int .i64 i2), (3, .bool shut3), (9, .bool true), (11, .pointer (some ⟨b274, 0, none⟩)), (12, .pointer (some ⟨b275, 0, none⟩)), (13, .int .i64 (wr64 (x279 + 1)))]) (by kernel_rfl) ?_
                        refine t_end ?_
                        exact ⟨k_, Nat.lt_succ_self _, [(2, .int .i64 i2), (3, .bool shut3), (9, .bool true), (11, .pointer (some ⟨b274, 0, none⟩)), (12, .pointer (some ⟨b275, 0, none⟩)), (13, .int .i64 (wr64 (x279 + 1)))], ([⟨b275, [.int .i64 x286, .int .i64 x287], 2⟩, ⟨b274, [.int .i64 t267, .int .i64 t268, .slice (ad N273) t270.length (nN273 / 7), .bool t269], 4⟩, ⟨N273, encL E_i647 t270, nN273⟩, ⟨b43, [.slice a_l0 l0.length c_l0, .int .i64 t271], 2⟩] : List Own), S, keep_sub [2, 3, 9, 11, 12, 13] (by kernel_rfl), VS.sel [1, 1, 1, 1] (by kernel_rfl), wr64 (x279 + 1), x286, x287, rfl, rfl, rfl, e277⟩
                      · rw [if_neg c326] at e277
                        have c326b : ((wr64 (x283 - 1)) == 1) = false := beq_eq_false_iff_ne.mpr c326
                        by_cases c328 : (wr64 (x283 - 1)) = 2
                        · rw [if_pos c328] at e277
                          have c328b : ((wr64 (x283 - 1)) == 2) = true := beq_iff_eq.mpr c328
                          refine t_qz 2 [2, 3, 9, 11, 12, 13, 85, 86] (σ' := [(2, .int .i64 i2), (3, .bool shut3), (9, .bool true), (11, .pointer (some ⟨b274, 0, none⟩)), (12, .pointer (some ⟨b275, 0, none⟩)), (13, .int .i64 x279), (85, .int .i64 (wr64 (x283 - 1))), (86, .pointer (some ⟨b291, 1, none⟩))]) (by kernel_rfl) ?_
                          refine t_v (.quiet rfl (ixa_at (j := 2) (u := .pointer (some ⟨b291, 5, none⟩)) rfl c328b (by kernel_rfl))) ?_
                          refine t_v (.ldn rfl rfl rfl (.at 0 rfl rfl)) ?_
                          refine t_sti 1 (cs := [.int .i64 x288, .int .i64 x289]) rfl rfl rfl rfl rfl rfl rfl rfl rfl ?_
                          refine t_keep [2, 3, 9, 11, 12, 13] (σ' := [(2, .int .i64 i2), (3, .bool shut3), (9, .bool true), (11, .pointer (some ⟨b274, 0, none⟩)), (12, .pointer (some ⟨b275, 0, none⟩)), (13, .int .i64 x279)]) (by kernel_rfl) ?_
                          refine t_end ?_
                          show W _ _ _ _ _ _ _
                          refine w_reg fun all => ?_
                          refine t_qz 3 [2, 3, 9, 11, 12, 13] (σ' := [(2, .int .i64 i2), (3, .bool shut3), (9, .bool true), (11, .pointer (some ⟨b274, 0, none⟩)), (12, .pointer (some ⟨b275, 0, none⟩)), (13, .int .i64 (wr64 (x279 + 1)))]) (by kernel_rfl) ?_
                          refine t_end ?_
                          exact ⟨k_, Nat.lt_succ_self _, [(2, .int .i64 i2), (3, .bool shut3), (9, .bool true), (11, .pointer (some ⟨b274, 0, none⟩)), (12, .pointer (some ⟨b275, 0, none⟩)), (13, .int .i64 (wr64 (x279 + 1)))], ([⟨b275, [.int .i64 x288, .int .i64 x289], 2⟩, ⟨b274, [.int .i64 t267, .int .i64 t268, .slice (ad N273) t270.length (nN273 / 7), .bool t269], 4⟩, ⟨N273, encL E_i647 t270, nN273⟩, ⟨b43, [.slice a_l0 l0.length c_l0, .int .i64 t271], 2⟩] : List Own), S, keep_sub [2, 3, 9, 11, 12, 13] (by kernel_rfl), VS.sel [1, 1, 1, 1] (by kernel_rfl), wr64 (x279 + 1), x288, x289, rfl, rfl, rfl, e277⟩
                        · rw [if_neg c328] at e277
                          have c328b : ((wr64 (x283 - 1)) == 2) = false := beq_eq_false_iff_ne.mpr c328
                          cases e277
                  · rw [if_neg c323] at e277
                    have c323b : t321 = false := Bool.eq_false_iff.mpr c323
                    refine w_drwE mixed 12 [.v (.agg #[.int .i64 x280, .int .i64 x281]), .v (.agg #[.int .i64 x283, .int .i64 x284, .int .i64 x285, .int .i64 x286, .int .i64 x287, .int .i64 x288, .int .i64 x289]), .v (.int .i64 (Int.tmod (wr64 ((wr64 ((Int.tmod i2 (wr64 (t292 + 1))) + t292)) + 1)) (wr64 (t292 + 1)))), .v (.int .i64 t292), .v (.agg #[.int .i64 t315, .int .i64 t316]), .v (.agg #[.int .i64 x280, .int .i64 x281]), .v (.agg #[.int .i64 x283, .int .i64 x284, .int .i64 x285, .int .i64 x286, .int .i64 x287, .int .i64 x288, .int .i64 x289]), .v (.int .i64 (Int.tmod (wr64 ((wr64 ((Int.tmod i2 (wr64 (t292 + 1))) + t292)) + 1)) (wr64 (t292 + 1)))), .v (.int .i64 t292), .v (.agg #[.int .i64 t318, .int .i64 t319]), .v (.bool t321), .v (.bool true)] (by kernel_rfl) ?_ ?_
                    · refine .cons (.ldn rfl rfl rfl (.at 1 rfl rfl)) ?_
                      refine .cons (.ldn rfl rfl rfl (.at 0 rfl rfl)) ?_
                      refine DI.sq 2 (by kernel_rfl) rfl ?_
                      refine .cons (.call (vs := [.agg #[.int .i64 x280, .int .i64 x281], .agg #[.int .i64 2, .int .i64 x284, .int .i64 x285, .int .i64 x286, .int .i64 x287, .int .i64 x288, .int .i64 x289], .int .i64 (Int.tmod (wr64 ((wr64 ((Int.tmod i2 (wr64 (t292 + 1))) + t292)) + 1)) (wr64 (t292 + 1))), .int .i64 t292]) rfl rfl (Eq.trans (b := (some [.agg #[.int .i64 x280, .int .i64 x281], .agg #[.int .i64 x283, .int .i64 x284, .int .i64 x285, .int .i64 x286, .int .i64 x287, .int .i64 x288, .int .i64 x289], .int .i64 (Int.tmod (wr64 ((wr64 ((Int.tmod i2 (wr64 (t292 + 1))) + t292)) + 1)) (wr64 (t292 + 1))), .int .i64 t292] : Option (List Value))) (by kernel_rfl) (congrArg (fun q_ => (some [.agg #[.int .i64 x280, .int .i64 x281], .agg #[.int .i64 q_, .int .i64 x284, .int .i64 x285, .int .i64 x286, .int .i64 x287, .int .i64 x288, .int .i64 x289], .int .i64 (Int.tmod (wr64 ((wr64 ((Int.tmod i2 (wr64 (t292 + 1))) + t292)) + 1)) (wr64 (t292 + 1))), .int .i64 t292] : Option (List Value))) c314)) (flatten_Point_v3.ok h317)) ?_
                      refine .cons (.ldn rfl rfl rfl (.at 1 rfl rfl)) ?_
                      refine .cons (.ldn rfl rfl rfl (.at 0 rfl rfl)) ?_
                      refine DI.sq 2 (by kernel_rfl) rfl ?_
                      refine .cons (.call (vs := [.agg #[.int .i64 x280, .int .i64 x281], .agg #[.int .i64 x283, .int .i64 x284, .int .i64 x285, .int .i64 x286, .int .i64 x287, .int .i64 x288, .int .i64 x289], .int .i64 (Int.tmod (wr64 ((wr64 ((Int.tmod i2 (wr64 (t292 + 1))) + t292)) + 1)) (wr64 (t292 + 1))), .int .i64 t292]) rfl rfl (by kernel_rfl) (glyphicref20_Point.ok h320)) ?_
                      refine .cons (.call (vs := [.agg #[.int .i64 t315, .int .i64 t316], .agg #[.int .i64 t318, .int .i64 t319]]) rfl rfl (by kernel_rfl) (glyphicref_SamePoint.ok h322)) ?_
                      refine .cons (dv_quiet rfl (congrArg (fun t => some (Value.bool (!t))) c323b)) ?_
                      exact .nil
                    refine fk_q 12 [2, 3, 9, 11, 12, 13, 14, 82] (σ' := [(2, .int .i64 i2), (3, .bool shut3), (9, .bool true), (11, .pointer (some ⟨b274, 0, none⟩)), (12, .pointer (some ⟨b275, 0, none⟩)), (13, .int .i64 x279), (14, .pointer (some ⟨b291, 0, none⟩)), (82, .bool true)]) t_more (by kernel_rfl) ?_
                    refine fk_nil fun all => ?_
                    refine t_keep [2, 3, 9, 11, 12, 13, 14, 82] (σ' := [(2, .int .i64 i2), (3, .bool shut3), (9, .bool true), (11, .pointer (some ⟨b274, 0, none⟩)), (12, .pointer (some ⟨b275, 0, none⟩)), (13, .int .i64 x279), (14, .pointer (some ⟨b291, 0, none⟩)), (82, .bool true)]) (by kernel_rfl) ?_
                    refine t_end ?_
                    show W _ _ _ _ _ _ _
                    refine w_cond rfl (fun _ => ?_) (fun c_ => by cases c_)
                    show W _ _ _ _ _ _ _
                    refine w_seq ?_
                    refine w_reg fun all => ?_
                    refine t_qz 1 [8] (σ' := [(8, .bool false)]) (by kernel_rfl) ?_
                    refine t_end ?_
                    show W _ _ _ _ _ _ _
                    refine w_ret ?_
                    obtain rfl := Option.some.inj e277
                    have hr_ := Option.some.inj e
                    exact ⟨[.bool false], [], S, ⟨rfl, trivial⟩, VS.none, congrArg Value.bool hr_, rfl, rfl⟩
                · rw [if_neg c314] at e277
                  have c314b : (x283 == 2) = false := beq_eq_false_iff_ne.mpr c314
                  by_cases c330 : x283 = 3
                  · rw [if_pos c330] at e277
                    have c330b : (x283 == 3) = true := beq_iff_eq.mpr c330
                    obtain ⟨⟨t331, t332⟩, h333, e277⟩ := bind_of e277
                    try dsimp only at e277
                    obtain ⟨⟨t334, t335⟩, h336, e277⟩ := bind_of e277
                    try dsimp only at e277
                    obtain ⟨t337, h338, e277⟩ := bind_of e277
                    by_cases c339 : t337 = true
                    · rw [if_pos c339] at e277
                      have c339b : t337 = true := c339
                      refine w_drwE mixed 12 [.v (.agg #[.int .i64 x280, .int .i64 x281]), .v (.agg #[.int .i64 x283, .int .i64 x284, .int .i64 x285, .int .i64 x286, .int .i64 x287, .int .i64 x288, .int .i64 x289]), .v (.int .i64 (Int.tmod (wr64 ((wr64 ((Int.tmod i2 (wr64 (t292 + 1))) + t292)) + 1)) (wr64 (t292 + 1)))), .v (.int .i64 t292), .v (.agg #[.int .i64 t331, .int .i64 t332]), .v (.agg #[.int .i64 x280, .int .i64 x281]), .v (.agg #[.int .i64 x283, .int .i64 x284, .int .i64 x285, .int .i64 x286, .int .i64 x287, .int .i64 x288, .int .i64 x289]), .v (.int .i64 (Int.tmod (wr64 ((wr64 ((Int.tmod i2 (wr64 (t292 + 1))) + t292)) + 1)) (wr64 (t292 + 1)))), .v (.int .i64 t292), .v (.agg #[.int .i64 t334, .int .i64 t335]), .v (.bool t337), .v (.bool false)] (by kernel_rfl) ?_ ?_
                      · refine .cons (.ldn rfl rfl rfl (.at 1 rfl rfl)) ?_
                        refine .cons (.ldn rfl rfl rfl (.at 0 rfl rfl)) ?_
                        refine DI.sq 2 (by kernel_rfl) rfl ?_
                        refine .cons (.call (vs := [.agg #[.int .i64 x280, .int .i64 x281], .agg #[.int .i64 3, .int .i64 x284, .int .i64 x285, .int .i64 x286, .int .i64 x287, .int .i64 x288, .int .i64 x289], .int .i64 (Int.tmod (wr64 ((wr64 ((Int.tmod i2 (wr64 (t292 + 1))) + t292)) + 1)) (wr64 (t292 + 1))), .int .i64 t292]) rfl rfl (Eq.trans (b := (some [.agg #[.int .i64 x280, .int .i64 x281], .agg #[.int .i64 x283, .int .i64 x284, .int .i64 x285, .int .i64 x286, .int .i64 x287, .int .i64 x288, .int .i64 x289], .int .i64 (Int.tmod (wr64 ((wr64 ((Int.tmod i2 (wr64 (t292 + 1))) + t292)) + 1)) (wr64 (t292 + 1))), .int .i64 t292] : Option (List Value))) (by kernel_rfl) (congrArg (fun q_ => (some [.agg #[.int .i64 x280, .int .i64 x281], .agg #[.int .i64 q_, .int .i64 x284, .int .i64 x285, .int .i64 x286, .int .i64 x287, .int .i64 x288, .int .i64 x289], .int .i64 (Int.tmod (wr64 ((wr64 ((Int.tmod i2 (wr64 (t292 + 1))) + t292)) + 1)) (wr64 (t292 + 1))), .int .i64 t292] : Option (List Value))) c330)) (flatten_Point_v4.ok h333)) ?_
                        refine .cons (.ldn rfl rfl rfl (.at 1 rfl rfl)) ?_
                        refine .cons (.ldn rfl rfl rfl (.at 0 rfl rfl)) ?_
                        refine DI.sq 2 (by kernel_rfl) rfl ?_
                        refine .cons (.call (vs := [.agg #[.int .i64 x280, .int .i64 x281], .agg #[.int .i64 x283, .int .i64 x284, .int .i64 x285, .int .i64 x286, .int .i64 x287, .int .i64 x288, .int .i64 x289], .int .i64 (Int.tmod (wr64 ((wr64 ((Int.tmod i2 (wr64 (t292 + 1))) + t292)) + 1)) (wr64 (t292 + 1))), .int .i64 t292]) rfl rfl (by kernel_rfl) (glyphicref20_Point.ok h336)) ?_
                        refine .cons (.call (vs := [.agg #[.int .i64 t331, .int .i64 t332], .agg #[.int .i64 t334, .int .i64 t335]]) rfl rfl (by kernel_rfl) (glyphicref_SamePoint.ok h338)) ?_
                        refine .cons (dv_quiet rfl (congrArg (fun t => some (Value.bool (!t))) c339b)) ?_
                        exact .nil
                      refine fk_q 12 [2, 3, 9, 11, 12, 13, 14, 82] (σ' := [(2, .int .i64 i2), (3, .bool shut3), (9, .bool true), (11, .pointer (some ⟨b274, 0, none⟩)), (12, .pointer (some ⟨b275, 0, none⟩)), (13, .int .i64 x279), (14, .pointer (some ⟨b291, 0, none⟩)), (82, .bool false)]) t_more (by kernel_rfl) ?_
                      refine fk_nil fun all => ?_
                      refine t_keep [2, 3, 9, 11, 12, 13, 14, 82] (σ' := [(2, .int .i64 i2), (3, .bool shut3), (9, .bool true), (11, .pointer (some ⟨b274, 0, none⟩)), (12, .pointer (some ⟨b275, 0, none⟩)), (13, .int .i64 x279), (14, .pointer (some ⟨b291, 0, none⟩)), (82, .bool false)]) (by kernel_rfl) ?_
                      refine t_end ?_
                      show W _ _ _ _ _ _ _
                      refine w_cond rfl (fun c_ => by cases c_) (fun _ => ?_)
                      show W _ _ _ _ _ _ _
                      refine w_skip ?_
                      show W _ _ _ _ _ _ _
                      refine w_reg fun all => ?_
                      refine t_qz 1 [2, 3, 9, 11, 12, 13, 14, 83] (σ' := [(2, .int .i64 i2), (3, .bool shut3), (9, .bool true), (11, .pointer (some ⟨b274, 0, none⟩)), (12, .pointer (some ⟨b275, 0, none⟩)), (13, .int .i64 x279), (14, .pointer (some ⟨b291, 0, none⟩)), (83, .pointer (some ⟨b291, 0, none⟩))]) (by kernel_rfl) ?_
                      refine t_v (.ld1 rfl rfl rfl (.at 0 rfl rfl)) ?_
                      by_cases c340 : (wr64 (x283 - 1)) = 0
                      · rw [if_pos c340] at e277
                        have c340b : ((wr64 (x283 - 1)) == 0) = true := beq_iff_eq.mpr c340
                        refine t_qz 2 [2, 3, 9, 11, 12, 13, 85, 86] (σ' := [(2, .int .i64 i2), (3, .bool shut3), (9, .bool true), (11, .pointer (some ⟨b274, 0, none⟩)), (12, .pointer (some ⟨b275, 0, none⟩)), (13, .int .i64 x279), (85, .int .i64 (wr64 (x283 - 1))), (86, .pointer (some ⟨b291, 1, none⟩))]) (by kernel_rfl) ?_
                        refine t_v (.quiet rfl (ixa_at (j := 0) (u := .pointer (some ⟨b291, 1, none⟩)) rfl c340b (by kernel_rfl))) ?_
                        refine t_v (.ldn rfl rfl rfl (.at 0 rfl rfl)) ?_
                        refine t_sti 1 (cs := [.int .i64 x284, .int .i64 x285]) rfl rfl rfl rfl rfl rfl rfl rfl rfl ?_
                        refine t_keep [2, 3, 9, 11, 12, 13] (σ' := [(2, .int .i64 i2), (3, .bool shut3), (9, .bool true), (11, .pointer (some ⟨b274, 0, none⟩)), (12, .pointer (some ⟨b275, 0, none⟩)), (13, .int .i64 x279)]) (by kernel_rfl) ?_
                        refine t_end ?_
                        show W _ _ _ _ _ _ _
                        refine w_reg fun all => ?_
                        refine t_qz 3 [2, 3, 9, 11, 12, 13] (σ' := [(2, .int .i64 i2), (3, .bool shut3), (9, .bool true), (11, .pointer (some ⟨b274, 0, none⟩)), (12, .pointer (some ⟨b275, 0, none⟩)), (13, .int .i64 (wr64 (x279 + 1)))]) (by kernel_rfl) ?_
                        refine t_end ?_
                        exact ⟨k_, Nat.lt_succ_self _, [(2, .int .i64 i2), (3, .bool shut3), (9, .bool true), (11, .pointer (some ⟨b274, 0, none⟩)), (12, .pointer (some ⟨b275, 0, none⟩)), (13, .int .i64 (wr64 (x279 + 1)))], ([⟨b275, [.int .i64 x284, .int .i64 x285], 2⟩, ⟨b274, [.int .i64 t267, .int .i64 t268, .slice (ad N273) t270.length (nN273 / 7), .bool t269], 4⟩, ⟨N273, encL E_i647 t270, nN273⟩, ⟨b43, [.slice a_l0 l0.length c_l0, .int .i64 t271], 2⟩] : List Own), S, keep_sub [2, 3, 9, 11, 12, 13] (by kernel_rfl), VS.sel [1, 1, 1, 1] (by kernel_rfl), wr64 (x279 + 1), x284, x285, rfl, rfl, rfl, e277⟩
                      · rw [if_neg c340] at e277
                        have c340b : ((wr64 (x283 - 1)) == 0) = false := beq_eq_false_iff_ne.mpr c340
                        by_cases c342 : (wr64 (x283 - 1)) = 1
                        · rw [if_pos c342] at e277
                          have c342b : ((wr64 (x283 - 1)) == 1) = true := beq_iff_eq.mpr c342
                          refine t_qz 2 [2, 3, 9, 11, 12, 13, 85, 86] (σ' := [(2, .int .i64 i2), (3, .bool shut3), (9, .bool true), (11, .pointer (some ⟨b274, 0, none⟩)), (12, .pointer (some ⟨b275, 0, none⟩)), (13, .int .i64 x279), (85, .int .i64 (wr64 (x283 - 1))), (86, .pointer (some ⟨b291, 1, none⟩))]) (by kernel_rfl) ?_
                          refine t_v (.quiet rfl (ixa_at (j := 1) (u := .pointer (some ⟨b291, 3, none⟩)) rfl c342b (by kernel_rfl))) ?_
                          refine t_v (.ldn rfl rfl rfl (.at 0 rfl rfl)) ?_
                          refine t_sti 1 (cs := [.int .i64 x286, .int .i64 x287]) rfl rfl rfl rfl rfl rfl rfl rfl rfl ?_
                          refine t_keep [2, 3, 9, 11, 12, 13] (σ' := [(2, .int .i64 i2), (3, .bool shut3), (9, .bool true), (11, .pointer (some ⟨b274, 0, none⟩)), (12, .pointer (some ⟨b275, 0, none⟩)), (13, .int .i64 x279)]) (by kernel_rfl) ?_
                          refine t_end ?_
                          show W _ _ _ _ _ _ _
                          refine w_reg fun all => ?_
                          refine t_qz 3 [2, 3, 9, 11, 12, 13] (σ' := [(2, .int .i64 i2), (3, .bool shut3), (9, .bool true), (11, .pointer (some ⟨b274, 0, none⟩)), (12, .pointer (some ⟨b275, 0, none⟩)), (13, .int .i64 (wr64 (x279 + 1)))]) (by kernel_rfl) ?_
                          refine t_end ?_
                          exact ⟨k_, Nat.lt_succ_self _, [(2, .int .i64 i2), (3, .bool shut3), (9, .bool true), (11, .pointer (some ⟨b274, 0, none⟩)), (12, .pointer (some ⟨b275, 0, none⟩)), (13, .int .i64 (wr64 (x279 + 1)))], ([⟨b275, [.int .i64 x286, .int .i64 x287], 2⟩, ⟨b274, [.int .i64 t267, .int .i64 t268, .slice (ad N273) t270.length (nN273 / 7), .bool t269], 4⟩, ⟨N273, encL E_i647 t270, nN273⟩, ⟨b43, [.slice a_l0 l0.length c_l0, .int .i64 t271], 2⟩] : List Own), S, keep_sub [2, 3, 9, 11, 12, 13] (by kernel_rfl), VS.sel [1, 1, 1, 1] (by kernel_rfl), wr64 (x279 + 1), x286, x287, rfl, rfl, rfl, e277⟩
                        · rw [if_neg c342] at e277
                          have c342b : ((wr64 (x283 - 1)) == 1) = false := beq_eq_false_iff_ne.mpr c342
                          by_cases c344 : (wr64 (x283 - 1)) = 2
                          · rw [if_pos c344] at e277
                            have c344b : ((wr64 (x283 - 1)) == 2) = true := beq_iff_eq.mpr c344
                            refine t_qz 2 [2, 3, 9, 11, 12, 13, 85, 86] (σ' := [(2, .int .i64 i2), (3, .bool shut3), (9, .bool true), (11, .pointer (some ⟨b274, 0, none⟩)), (12, .pointer (some ⟨b275, 0, none⟩)), (13, .int .i64 x279), (85, .int .i64 (wr64 (x283 - 1))), (86, .pointer (some ⟨b291, 1, none⟩))]) (by kernel_rfl) ?_
                            refine t_v (.quiet rfl (ixa_at (j := 2) (u := .pointer (some ⟨b291, 5, none⟩)) rfl c344b (by kernel_rfl))) ?_
                            refine t_v (.ldn rfl rfl rfl (.at 0 rfl rfl)) ?_
                            refine t_sti 1 (cs := [.int .i64 x288, .int .i64 x289]) rfl rfl rfl rfl rfl rfl rfl rfl rfl ?_
                            refine t_keep [2, 3, 9, 11, 12, 13] (σ' := [(2, .int .i64 i2), (3, .bool shut3), (9, .bool true), (11, .pointer (some ⟨b274, 0, none⟩)), (12, .pointer (some ⟨b275, 0, none⟩)), (13, .int .i64 x279)]) (by kernel_rfl) ?_
                            refine t_end ?_
                            show W _ _ _ _ _ _ _
                            refine w_reg fun all => ?_
                            refine t_qz 3 [2, 3, 9, 11, 12, 13] (σ' := [(2, .int .i64 i2), (3, .bool shut3), (9, .bool true), (11, .pointer (some ⟨b274, 0, none⟩)), (12, .pointer (some ⟨b275, 0, none⟩)), (13, .int .i64 (wr64 (x279 + 1)))]) (by kernel_rfl) ?_
                            refine t_end ?_
                            exact ⟨k_, Nat.lt_succ_self _, [(2, .int .i64 i2), (3, .bool shut3), (9, .bool true), (11, .pointer (some ⟨b274, 0, none⟩)), (12, .pointer (some ⟨b275, 0, none⟩)), (13, .int .i64 (wr64 (x279 + 1)))], ([⟨b275, [.int .i64 x288, .int .i64 x289], 2⟩, ⟨b274, [.int .i64 t267, .int .i64 t268, .slice (ad N273) t270.length (nN273 / 7), .bool t269], 4⟩, ⟨N273, encL E_i647 t270, nN273⟩, ⟨b43, [.slice a_l0 l0.length c_l0, .int .i64 t271], 2⟩] : List Own), S, keep_sub [2, 3, 9, 11, 12, 13] (by kernel_rfl), VS.sel [1, 1, 1, 1] (by kernel_rfl), wr64 (x279 + 1), x288, x289, rfl, rfl, rfl, e277⟩
                          · rw [if_neg c344] at e277
                            have c344b : ((wr64 (x283 - 1)) == 2) = false := beq_eq_false_iff_ne.mpr c344
                            cases e277
                    · rw [if_neg c339] at e277
                      have c339b : t337 = false := Bool.eq_false_iff.mpr c339
                      refine w_drwE mixed 12 [.v (.agg #[.int .i64 x280, .int .i64 x281]), .v (.agg #[.int .i64 x283, .int .i64 x284, .int .i64 x285, .int .i64 x286, .int .i64 x287, .int .i64 x288, .int .i64 x289]), .v (.int .i64 (Int.tmod (wr64 ((wr64 ((Int.tmod i2 (wr64 (t292 + 1))) + t292)) + 1)) (wr64 (t292 + 1)))), .v (.int .i64 t292), .v (.agg #[.int .i64 t331, .int .i64 t332]), .v (.agg #[.int .i64 x280, .int .i64 x281]), .v (.agg #[.int .i64 x283, .int .i64 x284, .int .i64 x285, .int .i64 x286, .int .i64 x287, .int .i64 x288, .int .i64 x289]), .v (.int .i64 (Int.tmod (wr64 ((wr64 ((Int.tmod i2 (wr64 (t292 + 1))) + t292)) + 1)) (wr64 (t292 + 1)))), .v (.int .i64 t292), .v (.agg #[.int .i64 t334, .int .i64 t335]), .v (.bool t337), .v (.bool true)] (by kernel_rfl) ?_ ?_
                      · refine .cons (.ldn rfl rfl rfl (.at 1 rfl rfl)) ?_
                        refine .cons (.ldn rfl rfl rfl (.at 0 rfl rfl)) ?_
                        refine DI.sq 2 (by kernel_rfl) rfl ?_
                        refine .cons (.call (vs := [.agg #[.int .i64 x280, .int .i64 x281], .agg #[.int .i64 3, .int .i64 x284, .int .i64 x285, .int .i64 x286, .int .i64 x287, .int .i64 x288, .int .i64 x289], .int .i64 (Int.tmod (wr64 ((wr64 ((Int.tmod i2 (wr64 (t292 + 1))) + t292)) + 1)) (wr64 (t292 + 1))), .int .i64 t292]) rfl rfl (Eq.trans (b := (some [.agg #[.int .i64 x280, .int .i64 x281], .agg #[.int .i64 x283, .int .i64 x284, .int .i64 x285, .int .i64 x286, .int .i64 x287, .int .i64 x288, .int .i64 x289], .int .i64 (Int.tmod (wr64 ((wr64 ((Int.tmod i2 (wr64 (t292 + 1))) + t292)) + 1)) (wr64 (t292 + 1))), .int .i64 t292] : Option (List Value))) (by kernel_rfl) (congrArg (fun q_ => (some [.agg #[.int .i64 x280, .int .i64 x281], .agg #[.int .i64 q_, .int .i64 x284, .int .i64 x285, .int .i64 x286, .int .i64 x287, .int .i64 x288, .int .i64 x289], .int .i64 (Int.tmod (wr64 ((wr64 ((Int.tmod i2 (wr64 (t292 + 1))) + t292)) + 1)) (wr64 (t292 + 1))), .int .i64 t292] : Option (List Value))) c330)) (flatten_Point_v4.ok h333)) ?_
                        refine .cons (.ldn rfl rfl rfl (.at 1 rfl rfl)) ?_
                        refine .cons (.ldn rfl rfl rfl (.at 0 rfl rfl)) ?_
                        refine DI.sq 2 (by kernel_rfl) rfl ?_
                        refine .cons (.call (vs := [.agg #[.int .i64 x280, .int .i64 x281], .agg #[.int .i64 x283, .int .i64 x284, .int .i64 x285, .int .i64 x286, .int .i64 x287, .int .i64 x288, .int .i64 x289], .int .i64 (Int.tmod (wr64 ((wr64 ((Int.tmod i2 (wr64 (t292 + 1))) + t292)) + 1)) (wr64 (t292 + 1))), .int .i64 t292]) rfl rfl (by kernel_rfl) (glyphicref20_Point.ok h336)) ?_
                        refine .cons (.call (vs := [.agg #[.int .i64 t331, .int .i64 t332], .agg #[.int .i64 t334, .int .i64 t335]]) rfl rfl (by kernel_rfl) (glyphicref_SamePoint.ok h338)) ?_
                        refine .cons (dv_quiet rfl (congrArg (fun t => some (Value.bool (!t))) c339b)) ?_
                        exact .nil
                      refine fk_q 12 [2, 3, 9, 11, 12, 13, 14, 82] (σ' := [(2, .int .i64 i2), (3, .bool shut3), (9, .bool true), (11, .pointer (some ⟨b274, 0, none⟩)), (12, .pointer (some ⟨b275, 0, none⟩)), (13, .int .i64 x279), (14, .pointer (some ⟨b291, 0, none⟩)), (82, .bool true)]) t_more (by kernel_rfl) ?_
                      refine fk_nil fun all => ?_
                      refine t_keep [2, 3, 9, 11, 12, 13, 14, 82] (σ' := [(2, .int .i64 i2), (3, .bool shut3), (9, .bool true), (11, .pointer (some ⟨b274, 0, none⟩)), (12, .pointer (some ⟨b275, 0, none⟩)), (13, .int .i64 x279), (14, .pointer (some ⟨b291, 0, none⟩)), (82, .bool true)]) (by kernel_rfl) ?_
                      refine t_end ?_
                      show W _ _ _ _ _ _ _
                      refine w_cond rfl (fun _ => ?_) (fun c_ => by cases c_)
                      show W _ _ _ _ _ _ _
                      refine w_seq ?_
                      refine w_reg fun all => ?_
                      refine t_qz 1 [8] (σ' := [(8, .bool false)]) (by kernel_rfl) ?_
                      refine t_end ?_
                      show W _ _ _ _ _ _ _
                      refine w_ret ?_
                      obtain rfl := Option.some.inj e277
                      have hr_ := Option.some.inj e
                      exact ⟨[.bool false], [], S, ⟨rfl, trivial⟩, VS.none, congrArg Value.bool hr_, rfl, rfl⟩
                  · rw [if_neg c330] at e277
                    have c330b : (x283 == 3) = false := beq_eq_false_iff_ne.mpr c330
                    cases e277
            · rw [if_neg c296] at e277
              have c296b : (t292 == t294) = false := beq_eq_false_iff_ne.mpr c296
              refine t_v (dv_quiet rfl (congrArg (fun t => some (Value.bool (!t))) c296b)) ?_
              refine t_keep [2, 3, 9, 11, 12, 13, 14, 15, 60] (σ' := [(2, .int .i64 i2), (3, .bool shut3), (9, .bool true), (11, .pointer (some ⟨b274, 0, none⟩)), (12, .pointer (some ⟨b275, 0, none⟩)), (13, .int .i64 x279), (14, .pointer (some ⟨b291, 0, none⟩)), (15, .int .i64 t292), (60, .bool true)]) (by kernel_rfl) ?_
              refine t_end ?_
              show W _ _ _ _ _ _ _
              refine w_cond rfl (fun _ => ?_) (fun c_ => by cases c_)
              show W _ _ _ _ _ _ _
              refine w_seq ?_
              refine w_reg fun all => ?_
              refine t_qz 1 [8] (σ' := [(8, .bool false)]) (by kernel_rfl) ?_
              refine t_end ?_
              show W _ _ _ _ _ _ _
              refine w_ret ?_
              obtain rfl := Option.some.inj e277
              have hr_ := Option.some.inj e
              exact ⟨[.bool false], [], S, ⟨rfl, trivial⟩, VS.none, congrArg Value.bool hr_, rfl, rfl⟩
          · rw [if_neg c282] at e277
            have c282b : (decide (x279 < (t270.length : Int))) = false := decide_eq_false c282
            refine t_qz 1 [2, 3, 9, 11, 12, 13, 41, 44] (σ' := [(2, .int .i64 i2), (3, .bool shut3), (9, .bool true), (11, .pointer (some ⟨b274, 0, none⟩)), (12, .pointer (some ⟨b275, 0, none⟩)), (13, .int .i64 x279), (41, .int .i64 x279), (44, .int .i64 (t270.length : Int))]) (by kernel_rfl) ?_
            refine t_v (dv_quiet rfl (congrArg (fun t => some (Value.bool t)) c282b)) ?_
            refine t_keep [2, 3, 9, 11, 12, 13, 45] (σ' := [(2, .int .i64 i2), (3, .bool shut3), (9, .bool true), (11, .pointer (some ⟨b274, 0, none⟩)), (12, .pointer (some ⟨b275, 0, none⟩)), (13, .int .i64 x279), (45, .bool false)]) (by kernel_rfl) ?_
            refine t_end ?_
            show W _ _ _ _ _ _ _
            refine w_cond rfl (fun c_ => by cases c_) (fun _ => ?_)
            show W _ _ _ _ _ _ _
            refine w_exit ?_
            obtain rfl := Option.some.inj e277
            exact ⟨([⟨b275, [.int .i64 x280, .int .i64 x281], 2⟩, ⟨b274, [.int .i64 t267, .int .i64 t268, .slice (ad N273) t270.length (nN273 / 7), .bool t269], 4⟩, ⟨b43, [.slice a_l0 l0.length c_l0, .int .i64 t271], 2⟩, ⟨N273, encL E_i647 t270, nN273⟩] : List Own), S, VS.sel [0, 0, 1, 0] (by kernel_rfl), x280, x281, rfl, by kernel_rfl, rfl, rfl⟩
      · rintro σ_ H_ S_ ⟨x347, x348, rfl, rfl, rfl, rfl⟩
        dsimp only at e
        refine w_seq ?_
        obtain ⟨t349, h350, e⟩ := bind_of e
        obtain ⟨t352, h353, e⟩ := bind_of e
        obtain ⟨t355, h356, e⟩ := bind_of e
        cases t355 with
        | true =>
          rw [if_pos rfl] at e
          obtain ⟨t357, h358, e⟩ := bind_of e
          obtain ⟨t359, h360, e⟩ := bind_of e
          by_cases c361 : t357 = t359
          · rw [if_pos c361] at e
            have c361b : (t357 == t359) = true := beq_iff_eq.mpr c361
            obtain ⟨t362, h363, e⟩ := bind_of e
            obtain ⟨t364, h365, e⟩ := bind_of e
            refine w_kp [3, 9, 11] (σ' := [(3, .bool shut3), (9, .bool true), (11, .pointer (some ⟨b274, 0, none⟩))]) (by kernel_rfl) ?_
            refine w_gameQ mixed (by kernel_rfl) fun all G hend hstep hqf => ?_
            have hg_3ffffff : ∀ (N366 : Option Nat) (nN366 : Nat) (N354 : Option Nat) (nN354 : Nat) (N351 : Option Nat) (nN351 : Nat), G [true, true, true, true, true, true, true, true, true, true, true, true, true, true, true, true, true, true, true, true, true, true, true, true, true, true] [(8, .bool (decide (t362 ≥ (t364.length : Int))))] ([⟨N273, encL E_i647 t270, nN273⟩, ⟨N366, encL E_i644 t364, nN366⟩, ⟨N354, encL E_i644 t352, nN354⟩, ⟨N351, encL E_i644 t349, nN351⟩, ⟨b275, [.int .i64 x347, .int .i64 x348], 2⟩, ⟨b274, [.int .i64 t267, .int .i64 t268, .slice (ad N273) t270.length (nN273 / 7), .bool t269], 4⟩, ⟨b43, [.slice a_l0 l0.length c_l0, .int .i64 t271], 2⟩] : List Own) := by
              intro N366 nN366 N354 nN354 N351 nN351
              refine hend _ _ _ (by kernel_rfl) ?_
              show W _ _ _ _ _ _ _
              refine w_ret ?_
              have hr_ := Option.some.inj e
              exact ⟨[.bool (decide (t362 ≥ (t364.length : Int)))], [], S, ⟨rfl, trivial⟩, VS.none, congrArg Value.bool hr_, rfl, rfl⟩
            have hg_1ffffff : ∀ (N366 : Option Nat) (nN366 : Nat) (N354 : Option Nat) (nN354 : Nat) (N351 : Option Nat) (nN351 : Nat), G [true, true, true, true, true, true, true, true, true, true, true, true, true, true, true, true, true, true, true, true, true, true, true, true, true, false] [(113, .bool (decide (t362 ≥ (t364.length : Int))))] ([⟨N273, encL E_i647 t270, nN273⟩, ⟨N366, encL E_i644 t364, nN366⟩, ⟨N354, encL E_i644 t352, nN354⟩, ⟨N351, encL E_i644 t349, nN351⟩, ⟨b275, [.int .i64 x347, .int .i64 x348], 2⟩, ⟨b274, [.int .i64 t267, .int .i64 t268, .slice (ad N273) t270.length (nN273 / 7), .bool t269], 4⟩, ⟨b43, [.slice a_l0 l0.length c_l0, .int .i64 t271], 2⟩] : List Own) := by
              intro N366 nN366 N354 nN354 N351 nN351
              exact hqf 25 [8] _ _ _ [(8, .bool (decide (t362 ≥ (t364.length : Int))))] (by kernel_rfl) (by kernel_rfl) (hg_3ffffff N366 nN366 N354 nN354 N351 nN351)
            have hg_ffffff : ∀ (N366 : Option Nat) (nN366 : Nat) (N354 : Option Nat) (nN354 : Nat) (N351 : Option Nat) (nN351 : Nat), G [true, true, true, true, true, true, true, true, true, true, true, true, true, true, true, true, true, true, true, true, true, true, true, true, false, false] [(106, .bool true), (112, .bool (decide (t362 ≥ (t364.length : Int))))] ([⟨N273, encL E_i647 t270, nN273⟩, ⟨N366, encL E_i644 t364, nN366⟩, ⟨N354, encL E_i644 t352, nN354⟩, ⟨N351, encL E_i644 t349, nN351⟩, ⟨b275, [.int .i64 x347, .int .i64 x348], 2⟩, ⟨b274, [.int .i64 t267, .int .i64 t268, .slice (ad N273) t270.length (nN273 / 7), .bool t269], 4⟩, ⟨b43, [.slice a_l0 l0.length c_l0, .int .i64 t271], 2⟩] : List Own) := by
              intro N366 nN366 N354 nN354 N351 nN351
              exact hqf 24 [113] _ _ _ [(113, .bool (decide (t362 ≥ (t364.length : Int))))] (by kernel_rfl) (by kernel_rfl) (hg_1ffffff N366 nN366 N354 nN354 N351 nN351)
            have hg_7fffff : ∀ (N366 : Option Nat) (nN366 : Nat) (N354 : Option Nat) (nN354 : Nat) (N351 : Option Nat) (nN351 : Nat), G [true, true, true, true, true, true, true, true, true, true, true, true, true, true, true, true, true, true, true, true, true, true, true, false, false, false] [(106, .bool true), (108, .int .i64 t362), (111, .int .i64 (t364.length : Int))] ([⟨N273, encL E_i647 t270, nN273⟩, ⟨N366, encL E_i644 t364, nN366⟩, ⟨N354, encL E_i644 t352, nN354⟩, ⟨N351, encL E_i644 t349, nN351⟩, ⟨b275, [.int .i64 x347, .int .i64 x348], 2⟩, ⟨b274, [.int .i64 t267, .int .i64 t268, .slice (ad N273) t270.length (nN273 / 7), .bool t269], 4⟩, ⟨b43, [.slice a_l0 l0.length c_l0, .int .i64 t271], 2⟩] : List Own) := by
              intro N366 nN366 N354 nN354 N351 nN351
              exact hqf 23 [106, 112] _ _ _ [(106, .bool true), (112, .bool (decide (t362 ≥ (t364.length : Int))))] (by kernel_rfl) (by kernel_rfl) (hg_ffffff N366 nN366 N354 nN354 N351 nN351)
            have hg_3fffff : ∀ (N366 : Option Nat) (nN366 : Nat) (N354 : Option Nat) (nN354 : Nat) (N351 : Option Nat) (nN351 : Nat), G [true, true, true, true, true, true, true, true, true, true, true, true, true, true, true, true, true, true, true, true, true, true, false, false, false, false] [(106, .bool true), (108, .int .i64 t362), (110, .slice (ad N366) t364.length (nN366 / 4))] ([⟨N273, encL E_i647 t270, nN273⟩, ⟨N366, encL E_i644 t364, nN366⟩, ⟨N354, encL E_i644 t352, nN354⟩, ⟨N351, encL E_i644 t349, nN351⟩, ⟨b275, [.int .i64 x347, .int .i64 x348], 2⟩, ⟨b274, [.int .i64 t267, .int .i64 t268, .slice (ad N273) t270.length (nN273 / 7), .bool t269], 4⟩, ⟨b43, [.slice a_l0 l0.length c_l0, .int .i64 t271], 2⟩] : List Own) := by
              intro N366 nN366 N354 nN354 N351 nN351
              exact hqf 22 [106, 108, 111] _ _ _ [(106, .bool true), (108, .int .i64 t362), (111, .int .i64 (t364.length : Int))] (by kernel_rfl) (by kernel_rfl) (hg_7fffff N366 nN366 N354 nN354 N351 nN351)
            have hg_1fffff : ∀ (N354 : Option Nat) (nN354 : Nat) (N351 : Option Nat) (nN351 : Nat), G [true, true, true, true, true, true, true, true, true, true, true, true, true, true, true, true, true, true, true, true, true, false, false, false, false, false] [(106, .bool true), (108, .int .i64 t362), (109, .agg #[.int .i64 t267, .int .i64 t268, .slice (ad N273) t270.length (nN273 / 7), .bool t269])] ([⟨N273, encL E_i647 t270, nN273⟩, ⟨N354, encL E_i644 t352, nN354⟩, ⟨N351, encL E_i644 t349, nN351⟩, ⟨b275, [.int .i64 x347, .int .i64 x348], 2⟩, ⟨b274, [.int .i64 t267, .int .i64 t268, .slice (ad N273) t270.length (nN273 / 7), .bool t269], 4⟩, ⟨b43, [.slice a_l0 l0.length c_l0, .int .i64 t271], 2⟩] : List Own) := by
              intro N354 nN354 N351 nN351
              refine hstep [21] _ _ _ (by kernel_rfl) (List.cons_ne_nil _ _) ⟨?_, trivial⟩
              · show T _ _ _ _ _ _ _ _
                refine t_call (vs := [.agg #[.int .i64 t267, .int .i64 t268, .slice (ad N273) t270.length (nN273 / 7), .bool t269], .bool true]) (H1 := ([⟨N273, encL E_i647 t270, nN273⟩] : List Own)) (F := ([⟨N354, encL E_i644 t352, nN354⟩, ⟨N351, encL E_i644 t349, nN351⟩, ⟨b275, [.int .i64 x347, .int .i64 x348], 2⟩, ⟨b274, [.int .i64 t267, .int .i64 t268, .slice (ad N273) t270.length (nN273 / 7), .bool t269], 4⟩, ⟨b43, [.slice a_l0 l0.length c_l0, .int .i64 t271], 2⟩] : List Own)) rfl rfl (by kernel_rfl) (sel_perm (is := [0]) (by kernel_rfl)) (cal_lend (Qc := fun v_ H_ => ∃ (N366 : Option Nat) (nN366 : Nat), v_ = (.slice (ad N366) t364.length (nN366 / 4)) ∧ H_ = ([⟨N366, encL E_i644 t364, nN366⟩] : List Own)) fun S1_ le1_ hS1_ => (flatten_Path_v2.ok (SlE.ofAd (E := E_i647) (L := t270) hS1_ (by decide)) h365).mono fun _ _ _ ⟨N366, nN366, h1_, h2_, h3_⟩ => ⟨⟨N366, nN366, h1_, h2_⟩, h3_⟩) ?_
                rintro _ _ S_ ⟨⟨_, rfl, ⟨N366, nN366, rfl, rfl⟩⟩, hS_⟩
                obtain rfl := hS_.symm
                refine t_keep [106, 108, 110] (σ' := [(106, .bool true), (108, .int .i64 t362), (110, .slice (ad N366) t364.length (nN366 / 4))]) (by kernel_rfl) ?_
                refine t_end ?_
                exact ⟨hg_3fffff N366 nN366 N354 nN354 N351 nN351, rfl⟩
            have hg_fffff : ∀ (N354 : Option Nat) (nN354 : Nat) (N351 : Option Nat) (nN351 : Nat), G [true, true, true, true, true, true, true, true, true, true, true, true, true, true, true, true, true, true, true, true, false, false, false, false, false, false] [(11, .pointer (some ⟨b274, 0, none⟩)), (106, .bool true), (108, .int .i64 t362)] ([⟨N273, encL E_i647 t270, nN273⟩, ⟨N354, encL E_i644 t352, nN354⟩, ⟨N351, encL E_i644 t349, nN351⟩, ⟨b275, [.int .i64 x347, .int .i64 x348], 2⟩, ⟨b274, [.int .i64 t267, .int .i64 t268, .slice (ad N273) t270.length (nN273 / 7), .bool t269], 4⟩, ⟨b43, [.slice a_l0 l0.length c_l0, .int .i64 t271], 2⟩] : List Own) := by
              intro N354 nN354 N351 nN351
              refine hstep [20] _ _ _ (by kernel_rfl) (List.cons_ne_nil _ _) ⟨?_, trivial⟩
              · show T _ _ _ _ _ _ _ _
                refine t_v (.ldn rfl rfl rfl (.at 4 rfl rfl)) ?_
                refine t_keep [106, 108, 109] (σ' := [(106, .bool true), (108, .int .i64 t362), (109, .agg #[.int .i64 t267, .int .i64 t268, .slice (ad N273) t270.length (nN273 / 7), .bool t269])]) (by kernel_rfl) ?_
                refine t_end ?_
                exact ⟨hg_1fffff N354 nN354 N351 nN351, rfl⟩
            have hg_17ffff : ∀ (N354 : Option Nat) (nN354 : Nat) (N351 : Option Nat) (nN351 : Nat), G [true, true, true, true, true, true, true, true, true, true, true, true, true, true, true, true, true, true, true, false, true, false, false, false, false, false] [(106, .bool true), (107, .agg #[.int .i64 t267, .int .i64 t268, .slice (ad N273) t270.length (nN273 / 7), .bool t269]), (109, .agg #[.int .i64 t267, .int .i64 t268, .slice (ad N273) t270.length (nN273 / 7), .bool t269])] ([⟨N273, encL E_i647 t270, nN273⟩, ⟨N354, encL E_i644 t352, nN354⟩, ⟨N351, encL E_i644 t349, nN351⟩, ⟨b275, [.int .i64 x347, .int .i64 x348], 2⟩, ⟨b274, [.int .i64 t267, .int .i64 t268, .slice (ad N273) t270.length (nN273 / 7), .bool t269], 4⟩, ⟨b43, [.slice a_l0 l0.length c_l0, .int .i64 t271], 2⟩] : List Own) := by
              intro N354 nN354 N351 nN351
              refine hstep [19] _ _ _ (by kernel_rfl) (List.cons_ne_nil _ _) ⟨?_, trivial⟩
              · show T _ _ _ _ _ _ _ _
                refine t_v (.callr (vs := [.agg #[.int .i64 t267, .int .i64 t268, .slice (ad N273) t270.length (nN273 / 7), .bool t269]]) (A := ([⟨N273, encL E_i647 t270, nN273⟩] : List Own)) (F0 := ([⟨N354, encL E_i644 t352, nN354⟩, ⟨N351, encL E_i644 t349, nN351⟩, ⟨b275, [.int .i64 x347, .int .i64 x348], 2⟩, ⟨b274, [.int .i64 t267, .int .i64 t268, .slice (ad N273) t270.length (nN273 / 7), .bool t269], 4⟩, ⟨b43, [.slice a_l0 l0.length c_l0, .int .i64 t271], 2⟩] : List Own)) rfl rfl (by kernel_rfl) (sel_perm (is := [0]) (by kernel_rfl)) (cal_lendr fun S1_ le1_ hS1_ => (flatten_Size_v1.ok (SlE.ofAd (E := E_i647) (L := t270) hS1_ (by decide)) h363))) ?_
                refine t_keep [106, 108, 109] (σ' := [(106, .bool true), (108, .int .i64 t362), (109, .agg #[.int .i64 t267, .int .i64 t268, .slice (ad N273) t270.length (nN273 / 7), .bool t269])]) (by kernel_rfl) ?_
                refine t_end ?_
                exact ⟨hg_1fffff N354 nN354 N351 nN351, rfl⟩
            have hg_7ffff : ∀ (N354 : Option Nat) (nN354 : Nat) (N351 : Option Nat) (nN351 : Nat), G [true, true, true, true, true, true, true, true, true, true, true, true, true, true, true, true, true, true, true, false, false, false, false, false, false, false] [(11, .pointer (some ⟨b274, 0, none⟩)), (106, .bool true), (107, .agg #[.int .i64 t267, .int .i64 t268, .slice (ad N273) t270.length (nN273 / 7), .bool t269])] ([⟨N273, encL E_i647 t270, nN273⟩, ⟨N354, encL E_i644 t352, nN354⟩, ⟨N351, encL E_i644 t349, nN351⟩, ⟨b275, [.int .i64 x347, .int .i64 x348], 2⟩, ⟨b274, [.int .i64 t267, .int .i64 t268, .slice (ad N273) t270.length (nN273 / 7), .bool t269], 4⟩, ⟨b43, [.slice a_l0 l0.length c_l0, .int .i64 t271], 2⟩] : List Own) := by
              intro N354 nN354 N351 nN351
              refine hstep [19, 20] _ _ _ (by kernel_rfl) (List.cons_ne_nil _ _) ⟨?_, ?_, trivial⟩
              · show T _ _ _ _ _ _ _ _
                refine t_v (.callr (vs := [.agg #[.int .i64 t267, .int .i64 t268, .slice (ad N273) t270.length (nN273 / 7), .bool t269]]) (A := ([⟨N273, encL E_i647 t270, nN273⟩] : List Own)) (F0 := ([⟨N354, encL E_i644 t352, nN354⟩, ⟨N351, encL E_i644 t349, nN351⟩, ⟨b275, [.int .i64 x347, .int .i64 x348], 2⟩, ⟨b274, [.int .i64 t267, .int .i64 t268, .slice (ad N273) t270.length (nN273 / 7), .bool t269], 4⟩, ⟨b43, [.slice a_l0 l0.length c_l0, .int .i64 t271], 2⟩] : List Own)) rfl rfl (by kernel_rfl) (sel_perm (is := [0]) (by kernel_rfl)) (cal_lendr fun S1_ le1_ hS1_ => (flatten_Size_v1.ok (SlE.ofAd (E := E_i647) (L := t270) hS1_ (by decide)) h363))) ?_
                refine t_keep [11, 106, 108] (σ' := [(11, .pointer (some ⟨b274, 0, none⟩)), (106, .bool true), (108, .int .i64 t362)]) (by kernel_rfl) ?_
                refine t_end ?_
                exact ⟨hg_fffff N354 nN354 N351 nN351, rfl⟩
              · show T _ _ _ _ _ _ _ _
                refine t_v (.ldn rfl rfl rfl (.at 4 rfl rfl)) ?_
                refine t_keep [106, 107, 109] (σ' := [(106, .bool true), (107, .agg #[.int .i64 t267, .int .i64 t268, .slice (ad N273) t270.length (nN273 / 7), .bool t269]), (109, .agg #[.int .i64 t267, .int .i64 t268, .slice (ad N273) t270.length (nN273 / 7), .bool t269])]) (by kernel_rfl) ?_
                refine t_end ?_
                exact ⟨hg_17ffff N354 nN354 N351 nN351, rfl⟩
            have hg_13ffff : ∀ (N354 : Option Nat) (nN354 : Nat) (N351 : Option Nat) (nN351 : Nat), G [true, true, true, true, true, true, true, true, true, true, true, true, true, true, true, true, true, true, false, false, true, false, false, false, false, false] [(11, .pointer (some ⟨b274, 0, none⟩)), (106, .bool true), (109, .agg #[.int .i64 t267, .int .i64 t268, .slice (ad N273) t270.length (nN273 / 7), .bool t269])] ([⟨N273, encL E_i647 t270, nN273⟩, ⟨N354, encL E_i644 t352, nN354⟩, ⟨N351, encL E_i644 t349, nN351⟩, ⟨b275, [.int .i64 x347, .int .i64 x348], 2⟩, ⟨b274, [.int .i64 t267, .int .i64 t268, .slice (ad N273) t270.length (nN273 / 7), .bool t269], 4⟩, ⟨b43, [.slice a_l0 l0.length c_l0, .int .i64 t271], 2⟩] : List Own) := by
              intro N354 nN354 N351 nN351
              refine hstep [18] _ _ _ (by kernel_rfl) (List.cons_ne_nil _ _) ⟨?_, trivial⟩
              · show T _ _ _ _ _ _ _ _
                refine t_v (.ldn rfl rfl rfl (.at 4 rfl rfl)) ?_
                refine t_keep [106, 107, 109] (σ' := [(106, .bool true), (107, .agg #[.int .i64 t267, .int .i64 t268, .slice (ad N273) t270.length (nN273 / 7), .bool t269]), (109, .agg #[.int .i64 t267, .int .i64 t268, .slice (ad N273) t270.length (nN273 / 7), .bool t269])]) (by kernel_rfl) ?_
                refine t_end ?_
                exact ⟨hg_17ffff N354 nN354 N351 nN351, rfl⟩
            have hg_3ffff : ∀ (N354 : Option Nat) (nN354 : Nat) (N351 : Option Nat) (nN351 : Nat), G [true, true, true, true, true, true, true, true, true, true, true, true, true, true, true, true, true, true, false, false, false, false, false, false, false, false] [(11, .pointer (some ⟨b274, 0, none⟩)), (106, .bool true)] ([⟨N273, encL E_i647 t270, nN273⟩, ⟨N354, encL E_i644 t352, nN354⟩, ⟨N351, encL E_i644 t349, nN351⟩, ⟨b275, [.int .i64 x347, .int .i64 x348], 2⟩, ⟨b274, [.int .i64 t267, .int .i64 t268, .slice (ad N273) t270.length (nN273 / 7), .bool t269], 4⟩, ⟨b43, [.slice a_l0 l0.length c_l0, .int .i64 t271], 2⟩] : List Own) := by
              intro N354 nN354 N351 nN351
              refine hstep [18, 20] _ _ _ (by kernel_rfl) (List.cons_ne_nil _ _) ⟨?_, ?_, trivial⟩
              · show T _ _ _ _ _ _ _ _
                refine t_v (.ldn rfl rfl rfl (.at 4 rfl rfl)) ?_
                refine t_keep [11, 106, 107] (σ' := [(11, .pointer (some ⟨b274, 0, none⟩)), (106, .bool true), (107, .agg #[.int .i64 t267, .int .i64 t268, .slice (ad N273) t270.length (nN273 / 7), .bool t269])]) (by kernel_rfl) ?_
                refine t_end ?_
                exact ⟨hg_7ffff N354 nN354 N351 nN351, rfl⟩
              · show T _ _ _ _ _ _ _ _
                refine t_v (.ldn rfl rfl rfl (.at 4 rfl rfl)) ?_
                refine t_keep [11, 106, 109] (σ' := [(11, .pointer (some ⟨b274, 0, none⟩)), (106, .bool true), (109, .agg #[.int .i64 t267, .int .i64 t268, .slice (ad N273) t270.length (nN273 / 7), .bool t269])]) (by kernel_rfl) ?_
                refine t_end ?_
                exact ⟨hg_13ffff N354 nN354 N351 nN351, rfl⟩
            have hg_1ffff : ∀ (N354 : Option Nat) (nN354 : Nat) (N351 : Option Nat) (nN351 : Nat), G [true, true, true, true, true, true, true, true, true, true, true, true, true, true, true, true, true, false, false, false, false, false, false, false, false, false] [(11, .pointer (some ⟨b274, 0, none⟩)), (105, .bool true)] ([⟨N273, encL E_i647 t270, nN273⟩, ⟨N354, encL E_i644 t352, nN354⟩, ⟨N351, encL E_i644 t349, nN351⟩, ⟨b275, [.int .i64 x347, .int .i64 x348], 2⟩, ⟨b274, [.int .i64 t267, .int .i64 t268, .slice (ad N273) t270.length (nN273 / 7), .bool t269], 4⟩, ⟨b43, [.slice a_l0 l0.length c_l0, .int .i64 t271], 2⟩] : List Own) := by
              intro N354 nN354 N351 nN351
              exact hqf 17 [11, 106] _ _ _ [(11, .pointer (some ⟨b274, 0, none⟩)), (106, .bool true)] (by kernel_rfl) (by kernel_rfl) (hg_3ffff N354 nN354 N351 nN351)
            have hg_ffff : ∀ (N354 : Option Nat) (nN354 : Nat) (N351 : Option Nat) (nN351 : Nat), G [true, true, true, true, true, true, true, true, true, true, true, true, true, true, true, true, false, false, false, false, false, false, false, false, false, false] [(11, .pointer (some ⟨b274, 0, none⟩)), (99, .bool true), (104, .bool true)] ([⟨N273, encL E_i647 t270, nN273⟩, ⟨N354, encL E_i644 t352, nN354⟩, ⟨N351, encL E_i644 t349, nN351⟩, ⟨b275, [.int .i64 x347, .int .i64 x348], 2⟩, ⟨b274, [.int .i64 t267, .int .i64 t268, .slice (ad N273) t270.length (nN273 / 7), .bool t269], 4⟩, ⟨b43, [.slice a_l0 l0.length c_l0, .int .i64 t271], 2⟩] : List Own) := by
              intro N354 nN354 N351 nN351
              exact hqf 16 [11, 105] _ _ _ [(11, .pointer (some ⟨b274, 0, none⟩)), (105, .bool true)] (by kernel_rfl) (by kernel_rfl) (hg_1ffff N354 nN354 N351 nN351)
            have hg_7fff : ∀ (N354 : Option Nat) (nN354 : Nat) (N351 : Option Nat) (nN351 : Nat), G [true, true, true, true, true, true, true, true, true, true, true, true, true, true, true, false, false, false, false, false, false, false, false, false, false, false] [(11, .pointer (some ⟨b274, 0, none⟩)), (99, .bool true), (101, .int .i64 t357), (103, .int .i64 t359)] ([⟨N273, encL E_i647 t270, nN273⟩, ⟨N354, encL E_i644 t352, nN354⟩, ⟨N351, encL E_i644 t349, nN351⟩, ⟨b275, [.int .i64 x347, .int .i64 x348], 2⟩, ⟨b274, [.int .i64 t267, .int .i64 t268, .slice (ad N273) t270.length (nN273 / 7), .bool t269], 4⟩, ⟨b43, [.slice a_l0 l0.length c_l0, .int .i64 t271], 2⟩] : List Own) := by
              intro N354 nN354 N351 nN351
              refine hstep [15] _ _ _ (by kernel_rfl) (List.cons_ne_nil _ _) ⟨?_, trivial⟩
              · show T _ _ _ _ _ _ _ _
                refine t_v (dv_quiet rfl (congrArg (fun t => some (Value.bool t)) c361b)) ?_
                refine t_keep [11, 99, 104] (σ' := [(11, .pointer (some ⟨b274, 0, none⟩)), (99, .bool true), (104, .bool true)]) (by kernel_rfl) ?_
                refine t_end ?_
                exact ⟨hg_ffff N354 nN354 N351 nN351, rfl⟩
            have hg_3fff : ∀ (N354 : Option Nat) (nN354 : Nat) (N351 : Option Nat) (nN351 : Nat), G [true, true, true, true, true, true, true, true, true, true, true, true, true, true, false, false, false, false, false, false, false, false, false, false, false, false] [(11, .pointer (some ⟨b274, 0, none⟩)), (99, .bool true), (101, .int .i64 t357), (102, .agg #[.int .i64 t267, .int .i64 t268, .slice (ad N273) t270.length (nN273 / 7), .bool t269])] ([⟨N273, encL E_i647 t270, nN273⟩, ⟨N354, encL E_i644 t352, nN354⟩, ⟨N351, encL E_i644 t349, nN351⟩, ⟨b275, [.int .i64 x347, .int .i64 x348], 2⟩, ⟨b274, [.int .i64 t267, .int .i64 t268, .slice (ad N273) t270.length (nN273 / 7), .bool t269], 4⟩, ⟨b43, [.slice a_l0 l0.length c_l0, .int .i64 t271], 2⟩] : List Own) := by
              intro N354 nN354 N351 nN351
              refine hstep [14] _ _ _ (by kernel_rfl) (List.cons_ne_nil _ _) ⟨?_, trivial⟩
              · show T _ _ _ _ _ _ _ _
                refine t_v (.callr (vs := [.agg #[.int .i64 t267, .int .i64 t268, .slice (ad N273) t270.length (nN273 / 7), .bool t269]]) (A := ([⟨N273, encL E_i647 t270, nN273⟩] : List Own)) (F0 := ([⟨N354, encL E_i644 t352, nN354⟩, ⟨N351, encL E_i644 t349, nN351⟩, ⟨b275, [.int .i64 x347, .int .i64 x348], 2⟩, ⟨b274, [.int .i64 t267, .int .i64 t268, .slice (ad N273) t270.length (nN273 / 7), .bool t269], 4⟩, ⟨b43, [.slice a_l0 l0.length c_l0, .int .i64 t271], 2⟩] : List Own)) rfl rfl (by kernel_rfl) (sel_perm (is := [0]) (by kernel_rfl)) (cal_lendr fun S1_ le1_ hS1_ => (glyphicref20_Size_v1.ok (SlE.ofAd (E := E_i647) (L := t270) hS1_ (by decide)) h360))) ?_
                refine t_keep [11, 99, 101, 103] (σ' := [(11, .pointer (some ⟨b274, 0, none⟩)), (99, .bool true), (101, .int .i64 t357), (103, .int .i64 t359)]) (by kernel_rfl) ?_
                refine t_end ?_
                exact ⟨hg_7fff N354 nN354 N351 nN351, rfl⟩
            have hg_1fff : ∀ (N354 : Option Nat) (nN354 : Nat) (N351 : Option Nat) (nN351 : Nat), G [true, true, true, true, true, true, true, true, true, true, true, true, true, false, false, false, false, false, false, false, false, false, false, false, false, false] [(11, .pointer (some ⟨b274, 0, none⟩)), (99, .bool true), (101, .int .i64 t357)] ([⟨N273, encL E_i647 t270, nN273⟩, ⟨N354, encL E_i644 t352, nN354⟩, ⟨N351, encL E_i644 t349, nN351⟩, ⟨b275, [.int .i64 x347, .int .i64 x348], 2⟩, ⟨b274, [.int .i64 t267, .int .i64 t268, .slice (ad N273) t270.length (nN273 / 7), .bool t269], 4⟩, ⟨b43, [.slice a_l0 l0.length c_l0, .int .i64 t271], 2⟩] : List Own) := by
              intro N354 nN354 N351 nN351
              refine hstep [13] _ _ _ (by kernel_rfl) (List.cons_ne_nil _ _) ⟨?_, trivial⟩
              · show T _ _ _ _ _ _ _ _
                refine t_v (.ldn rfl rfl rfl (.at 4 rfl rfl)) ?_
                refine t_keep [11, 99, 101, 102] (σ' := [(11, .pointer (some ⟨b274, 0, none⟩)), (99, .bool true), (101, .int .i64 t357), (102, .agg #[.int .i64 t267, .int .i64 t268, .slice (ad N273) t270.length (nN273 / 7), .bool t269])]) (by kernel_rfl) ?_
                refine t_end ?_
                exact ⟨hg_3fff N354 nN354 N351 nN351, rfl⟩
            have hg_2fff : ∀ (N354 : Option Nat) (nN354 : Nat) (N351 : Option Nat) (nN351 : Nat), G [true, true, true, true, true, true, true, true, true, true, true, true, false, true, false, false, false, false, false, false, false, false, false, false, false, false] [(11, .pointer (some ⟨b274, 0, none⟩)), (99, .bool true), (100, .agg #[.int .i64 t267, .int .i64 t268, .slice (ad N273) t270.length (nN273 / 7), .bool t269]), (102, .agg #[.int .i64 t267, .int .i64 t268, .slice (ad N273) t270.length (nN273 / 7), .bool t269])] ([⟨N273, encL E_i647 t270, nN273⟩, ⟨N354, encL E_i644 t352, nN354⟩, ⟨N351, encL E_i644 t349, nN351⟩, ⟨b275, [.int .i64 x347, .int .i64 x348], 2⟩, ⟨b274, [.int .i64 t267, .int .i64 t268, .slice (ad N273) t270.length (nN273 / 7), .bool t269], 4⟩, ⟨b43, [.slice a_l0 l0.length c_l0, .int .i64 t271], 2⟩] : List Own) := by
              intro N354 nN354 N351 nN351
              refine hstep [12] _ _ _ (by kernel_rfl) (List.cons_ne_nil _ _) ⟨?_, trivial⟩
              · show T _ _ _ _ _ _ _ _
                refine t_v (.callr (vs := [.agg #[.int .i64 t267, .int .i64 t268, .slice (ad N273) t270.length (nN273 / 7), .bool t269]]) (A := ([⟨N273, encL E_i647 t270, nN273⟩] : List Own)) (F0 := ([⟨N354, encL E_i644 t352, nN354⟩, ⟨N351, encL E_i644 t349, nN351⟩, ⟨b275, [.int .i64 x347, .int .i64 x348], 2⟩, ⟨b274, [.int .i64 t267, .int .i64 t268, .slice (ad N273) t270.length (nN273 / 7), .bool t269], 4⟩, ⟨b43, [.slice a_l0 l0.length c_l0, .int .i64 t271], 2⟩] : List Own)) rfl rfl (by kernel_rfl) (sel_perm (is := [0]) (by kernel_rfl)) (cal_lendr fun S1_ le1_ hS1_ => (flatten_Size_v1.ok (SlE.ofAd (E := E_i647) (L := t270) hS1_ (by decide)) h358))) ?_
                refine t_keep [11, 99, 101, 102] (σ' := [(11, .pointer (some ⟨b274, 0, none⟩)), (99, .bool true), (101, .int .i64 t357), (102, .agg #[.int .i64 t267, .int .i64 t268, .slice (ad N273) t270.length (nN273 / 7), .bool t269])]) (by kernel_rfl) ?_
                refine t_end ?_
                exact ⟨hg_3fff N354 nN354 N351 nN351, rfl⟩
            have hg_27ff : ∀ (N354 : Option Nat) (nN354 : Nat) (N351 : Option Nat) (nN351 : Nat), G [true, true, true, true, true, true, true, true, true, true, true, false, false, true, false, false, false, false, false, false, false, false, false, false, false, false] [(11, .pointer (some ⟨b274, 0, none⟩)), (99, .bool true), (102, .agg #[.int .i64 t267, .int .i64 t268, .slice (ad N273) t270.length (nN273 / 7), .bool t269])] ([⟨N273, encL E_i647 t270, nN273⟩, ⟨N354, encL E_i644 t352, nN354⟩, ⟨N351, encL E_i644 t349, nN351⟩, ⟨b275, [.int .i64 x347, .int .i64 x348], 2⟩, ⟨b274, [.int .i64 t267, .int .i64 t268, .slice (ad N273) t270.length (nN273 / 7), .bool t269], 4⟩, ⟨b43, [.slice a_l0 l0.length c_l0, .int .i64 t271], 2⟩] : List Own) := by
              intro N354 nN354 N351 nN351
              refine hstep [11] _ _ _ (by kernel_rfl) (List.cons_ne_nil _ _) ⟨?_, trivial⟩
              · show T _ _ _ _ _ _ _ _
                refine t_v (.ldn rfl rfl rfl (.at 4 rfl rfl)) ?_
                refine t_keep [11, 99, 100, 102] (σ' := [(11, .pointer (some ⟨b274, 0, none⟩)), (99, .bool true), (100, .agg #[.int .i64 t267, .int .i64 t268, .slice (ad N273) t270.length (nN273 / 7), .bool t269]), (102, .agg #[.int .i64 t267, .int .i64 t268, .slice (ad N273) t270.length (nN273 / 7), .bool t269])]) (by kernel_rfl) ?_
                refine t_end ?_
                exact ⟨hg_2fff N354 nN354 N351 nN351, rfl⟩
            have hg_fff : ∀ (N354 : Option Nat) (nN354 : Nat) (N351 : Option Nat) (nN351 : Nat), G [true, true, true, true, true, true, true, true, true, true, true, true, false, false, false, false, false, false, false, false, false, false, false, false, false, false] [(11, .pointer (some ⟨b274, 0, none⟩)), (99, .bool true), (100, .agg #[.int .i64 t267, .int .i64 t268, .slice (ad N273) t270.length (nN273 / 7), .bool t269])] ([⟨N273, encL E_i647 t270, nN273⟩, ⟨N354, encL E_i644 t352, nN354⟩, ⟨N351, encL E_i644 t349, nN351⟩, ⟨b275, [.int .i64 x347, .int .i64 x348], 2⟩, ⟨b274, [.int .i64 t267, .int .i64 t268, .slice (ad N273) t270.length (nN273 / 7), .bool t269], 4⟩, ⟨b43, [.slice a_l0 l0.length c_l0, .int .i64 t271], 2⟩] : List Own) := by
              intro N354 nN354 N351 nN351
              refine hstep [12, 13] _ _ _ (by kernel_rfl) (List.cons_ne_nil _ _) ⟨?_, ?_, trivial⟩
              · show T _ _ _ _ _ _ _ _
                refine t_v (.callr (vs := [.agg #[.int .i64 t267, .int .i64 t268, .slice (ad N273) t270.length (nN273 / 7), .bool t269]]) (A := ([⟨N273, encL E_i647 t270, nN273⟩] : List Own)) (F0 := ([⟨N354, encL E_i644 t352, nN354⟩, ⟨N351, encL E_i644 t349, nN351⟩, ⟨b275, [.int .i64 x347, .int .i64 x348], 2⟩, ⟨b274, [.int .i64 t267, .int .i64 t268, .slice (ad N273) t270.length (nN273 / 7), .bool t269], 4⟩, ⟨b43, [.slice a_l0 l0.length c_l0, .int .i64 t271], 2⟩] : List Own)) rfl rfl (by kernel_rfl) (sel_perm (is := [0]) (by kernel_rfl)) (cal_lendr fun S1_ le1_ hS1_ => (flatten_Size_v1.ok (SlE.ofAd (E := E_i647) (L := t270) hS1_ (by decide)) h358))) ?_
                refine t_keep [11, 99, 101] (σ' := [(11, .pointer (some ⟨b274, 0, none⟩)), (99, .bool true), (101, .int .i64 t357)]) (by kernel_rfl) ?_
                refine t_end ?_
                exact ⟨hg_1fff N354 nN354 N351 nN351, rfl⟩
              · show T _ _ _ _ _ _ _ _
                refine t_v (.ldn rfl rfl rfl (.at 4 rfl rfl)) ?_
                refine t_keep [11, 99, 100, 102] (σ' := [(11, .pointer (some ⟨b274, 0, none⟩)), (99, .bool true), (100, .agg #[.int .i64 t267, .int .i64 t268, .slice (ad N273) t270.length (nN273 / 7), .bool t269]), (102, .agg #[.int .i64 t267, .int .i64 t268, .slice (ad N273) t270.length (nN273 / 7), .bool t269])]) (by kernel_rfl) ?_
                refine t_end ?_
                exact ⟨hg_2fff N354 nN354 N351 nN351, rfl⟩
            have hg_7ff : ∀ (N354 : Option Nat) (nN354 : Nat) (N351 : Option Nat) (nN351 : Nat), G [true, true, true, true, true, true, true, true, true, true, true, false, false, false, false, false, false, false, false, false, false, false, false, false, false, false] [(11, .pointer (some ⟨b274, 0, none⟩)), (99, .bool true)] ([⟨N273, encL E_i647 t270, nN273⟩, ⟨N354, encL E_i644 t352, nN354⟩, ⟨N351, encL E_i644 t349, nN351⟩, ⟨b275, [.int .i64 x347, .int .i64 x348], 2⟩, ⟨b274, [.int .i64 t267, .int .i64 t268, .slice (ad N273) t270.length (nN273 / 7), .bool t269], 4⟩, ⟨b43, [.slice a_l0 l0.length c_l0, .int .i64 t271], 2⟩] : List Own) := by
              intro N354 nN354 N351 nN351
              refine hstep [11, 13] _ _ _ (by kernel_rfl) (List.cons_ne_nil _ _) ⟨?_, ?_, trivial⟩
              · show T _ _ _ _ _ _ _ _
                refine t_v (.ldn rfl rfl rfl (.at 4 rfl rfl)) ?_
                refine t_keep [11, 99, 100] (σ' := [(11, .pointer (some ⟨b274, 0, none⟩)), (99, .bool true), (100, .agg #[.int .i64 t267, .int .i64 t268, .slice (ad N273) t270.length (nN273 / 7), .bool t269])]) (by kernel_rfl) ?_
                refine t_end ?_
                exact ⟨hg_fff N354 nN354 N351 nN351, rfl⟩
              · show T _ _ _ _ _ _ _ _
                refine t_v (.ldn rfl rfl rfl (.at 4 rfl rfl)) ?_
                refine t_keep [11, 99, 102] (σ' := [(11, .pointer (some ⟨b274, 0, none⟩)), (99, .bool true), (102, .agg #[.int .i64 t267, .int .i64 t268, .slice (ad N273) t270.length (nN273 / 7), .bool t269])]) (by kernel_rfl) ?_
                refine t_end ?_
                exact ⟨hg_27ff N354 nN354 N351 nN351, rfl⟩
            have hg_3ff : ∀ (N354 : Option Nat) (nN354 : Nat) (N351 : Option Nat) (nN351 : Nat), G [true, true, true, true, true, true, true, true, true, true, false, false, false, false, false, false, false, false, false, false, false, false, false, false, false, false] [(11, .pointer (some ⟨b274, 0, none⟩)), (98, .bool true)] ([⟨N273, encL E_i647 t270, nN273⟩, ⟨N354, encL E_i644 t352, nN354⟩, ⟨N351, encL E_i644 t349, nN351⟩, ⟨b275, [.int .i64 x347, .int .i64 x348], 2⟩, ⟨b274, [.int .i64 t267, .int .i64 t268, .slice (ad N273) t270.length (nN273 / 7), .bool t269], 4⟩, ⟨b43, [.slice a_l0 l0.length c_l0, .int .i64 t271], 2⟩] : List Own) := by
              intro N354 nN354 N351 nN351
              exact hqf 10 [11, 99] _ _ _ [(11, .pointer (some ⟨b274, 0, none⟩)), (99, .bool true)] (by kernel_rfl) (by kernel_rfl) (hg_7ff N354 nN354 N351 nN351)
            have hg_1ff : ∀ (N354 : Option Nat) (nN354 : Nat) (N351 : Option Nat) (nN351 : Nat), G [true, true, true, true, true, true, true, true, true, false, false, false, false, false, false, false, false, false, false, false, false, false, false, false, false, false] [(11, .pointer (some ⟨b274, 0, none⟩)), (90, .bool true), (97, .bool true)] ([⟨N273, encL E_i647 t270, nN273⟩, ⟨N354, encL E_i644 t352, nN354⟩, ⟨N351, encL E_i644 t349, nN351⟩, ⟨b275, [.int .i64 x347, .int .i64 x348], 2⟩, ⟨b274, [.int .i64 t267, .int .i64 t268, .slice (ad N273) t270.length (nN273 / 7), .bool t269], 4⟩, ⟨b43, [.slice a_l0 l0.length c_l0, .int .i64 t271], 2⟩] : List Own) := by
              intro N354 nN354 N351 nN351
              exact hqf 9 [11, 98] _ _ _ [(11, .pointer (some ⟨b274, 0, none⟩)), (98, .bool true)] (by kernel_rfl) (by kernel_rfl) (hg_3ff N354 nN354 N351 nN351)
            have hg_ff : ∀ (N354 : Option Nat) (nN354 : Nat) (N351 : Option Nat) (nN351 : Nat), G [true, true, true, true, true, true, true, true, false, false, false, false, false, false, false, false, false, false, false, false, false, false, false, false, false, false] [(11, .pointer (some ⟨b274, 0, none⟩)), (90, .bool true), (93, .slice (ad N351) t349.length (nN351 / 4)), (96, .slice (ad N354) t352.length (nN354 / 4))] ([⟨N273, encL E_i647 t270, nN273⟩, ⟨N354, encL E_i644 t352, nN354⟩, ⟨N351, encL E_i644 t349, nN351⟩, ⟨b275, [.int .i64 x347, .int .i64 x348], 2⟩, ⟨b274, [.int .i64 t267, .int .i64 t268, .slice (ad N273) t270.length (nN273 / 7), .bool t269], 4⟩, ⟨b43, [.slice a_l0 l0.length c_l0, .int .i64 t271], 2⟩] : List Own) := by
              intro N354 nN354 N351 nN351
              refine hstep [8] _ _ _ (by kernel_rfl) (List.cons_ne_nil _ _) ⟨?_, trivial⟩
              · show T _ _ _ _ _ _ _ _
                refine t_v (.callr (vs := [.slice (ad N351) t349.length (nN351 / 4), .slice (ad N354) t352.length (nN354 / 4)]) (A := ([⟨N351, encL E_i644 t349, nN351⟩, ⟨N354, encL E_i644 t352, nN354⟩] : List Own)) (F0 := ([⟨N273, encL E_i647 t270, nN273⟩, ⟨b275, [.int .i64 x347, .int .i64 x348], 2⟩, ⟨b274, [.int .i64 t267, .int .i64 t268, .slice (ad N273) t270.length (nN273 / 7), .bool t269], 4⟩, ⟨b43, [.slice a_l0 l0.length c_l0, .int .i64 t271], 2⟩] : List Own)) rfl rfl (by kernel_rfl) (sel_perm (is := [2, 1]) (by kernel_rfl)) (cal_lendr fun S1_ le1_ hS1_ => (cal_lendr fun S2_ le2_ hS2_ => (glyphicref_SameEdges_v1.ok (SlE.mono (SlE.ofAd (E := E_i644) (L := t349) hS1_ (by decide)) le2_) (SlE.ofAd (E := E_i644) (L := t352) hS2_ (by decide)) h356)))) ?_
                refine t_keep [11, 90, 97] (σ' := [(11, .pointer (some ⟨b274, 0, none⟩)), (90, .bool true), (97, .bool true)]) (by kernel_rfl) ?_
                refine t_end ?_
                exact ⟨hg_1ff N354 nN354 N351 nN351, rfl⟩
            have hg_7f : ∀ (N351 : Option Nat) (nN351 : Nat), G [true, true, true, true, true, true, true, false, false, false, false, false, false, false, false, false, false, false, false, false, false, false, false, false, false, false] [(11, .pointer (some ⟨b274, 0, none⟩)), (90, .bool true), (93, .slice (ad N351) t349.length (nN351 / 4)), (94, .agg #[.int .i64 t267, .int .i64 t268, .slice (ad N273) t270.length (nN273 / 7), .bool t269]), (95, .bool shut3)] ([⟨N273, encL E_i647 t270, nN273⟩, ⟨N351, encL E_i644 t349, nN351⟩, ⟨b275, [.int .i64 x347, .int .i64 x348], 2⟩, ⟨b274, [.int .i64 t267, .int .i64 t268, .slice (ad N273) t270.length (nN273 / 7), .bool t269], 4⟩, ⟨b43, [.slice a_l0 l0.length c_l0, .int .i64 t271], 2⟩] : List Own) := by
              intro N351 nN351
              refine hstep [7] _ _ _ (by kernel_rfl) (List.cons_ne_nil _ _) ⟨?_, trivial⟩
              · show T _ _ _ _ _ _ _ _
                refine t_call (vs := [.agg #[.int .i64 t267, .int .i64 t268, .slice (ad N273) t270.length (nN273 / 7), .bool t269], .bool shut3]) (H1 := ([⟨N273, encL E_i647 t270, nN273⟩] : List Own)) (F := ([⟨N351, encL E_i644 t349, nN351⟩, ⟨b275, [.int .i64 x347, .int .i64 x348], 2⟩, ⟨b274, [.int .i64 t267, .int .i64 t268, .slice (ad N273) t270.length (nN273 / 7), .bool t269], 4⟩, ⟨b43, [.slice a_l0 l0.length c_l0, .int .i64 t271], 2⟩] : List Own)) rfl rfl (by kernel_rfl) (sel_perm (is := [0]) (by kernel_rfl)) (cal_lend (Qc := fun v_ H_ => ∃ (N354 : Option Nat) (nN354 : Nat), v_ = (.slice (ad N354) t352.length (nN354 / 4)) ∧ H_ = ([⟨N354, encL E_i644 t352, nN354⟩] : List Own)) fun S1_ le1_ hS1_ => (glyphicref20_Path_v1.ok (SlE.ofAd (E := E_i647) (L := t270) hS1_ (by decide)) h353).mono fun _ _ _ ⟨N354, nN354, h1_, h2_, h3_⟩ => ⟨⟨N354, nN354, h1_, h2_⟩, h3_⟩) ?_
                rintro _ _ S_ ⟨⟨_, rfl, ⟨N354, nN354, rfl, rfl⟩⟩, hS_⟩
                obtain rfl := hS_.symm
                refine t_keep [11, 90, 93, 96] (σ' := [(11, .pointer (some ⟨b274, 0, none⟩)), (90, .bool true), (93, .slice (ad N351) t349.length (nN351 / 4)), (96, .slice (ad N354) t352.length (nN354 / 4))]) (by kernel_rfl) ?_
                refine t_end ?_
                exact ⟨hg_ff N354 nN354 N351 nN351, rfl⟩
            have hg_5f : ∀ (N351 : Option Nat) (nN351 : Nat), G [true, true, true, true, true, false, true, false, false, false, false, false, false, false, false, false, false, false, false, false, false, false, false, false, false, false] [(11, .pointer (some ⟨b274, 0, none⟩)), (90, .bool true), (93, .slice (ad N351) t349.length (nN351 / 4)), (95, .bool shut3)] ([⟨N273, encL E_i647 t270, nN273⟩, ⟨N351, encL E_i644 t349, nN351⟩, ⟨b275, [.int .i64 x347, .int .i64 x348], 2⟩, ⟨b274, [.int .i64 t267, .int .i64 t268, .slice (ad N273) t270.length (nN273 / 7), .bool t269], 4⟩, ⟨b43, [.slice a_l0 l0.length c_l0, .int .i64 t271], 2⟩] : List Own) := by
              intro N351 nN351
              refine hstep [5] _ _ _ (by kernel_rfl) (List.cons_ne_nil _ _) ⟨?_, trivial⟩
              · show T _ _ _ _ _ _ _ _
                refine t_v (.ldn rfl rfl rfl (.at 3 rfl rfl)) ?_
                refine t_keep [11, 90, 93, 94, 95] (σ' := [(11, .pointer (some ⟨b274, 0, none⟩)), (90, .bool true), (93, .slice (ad N351) t349.length (nN351 / 4)), (94, .agg #[.int .i64 t267, .int .i64 t268, .slice (ad N273) t270.length (nN273 / 7), .bool t269]), (95, .bool shut3)]) (by kernel_rfl) ?_
                refine t_end ?_
                exact ⟨hg_7f N351 nN351, rfl⟩
            have hg_6f : G [true, true, true, true, false, true, true, false, false, false, false, false, false, false, false, false, false, false, false, false, false, false, false, false, false, false] [(11, .pointer (some ⟨b274, 0, none⟩)), (90, .bool true), (91, .agg #[.int .i64 t267, .int .i64 t268, .slice (ad N273) t270.length (nN273 / 7), .bool t269]), (92, .bool shut3), (94, .agg #[.int .i64 t267, .int .i64 t268, .slice (ad N273) t270.length (nN273 / 7), .bool t269]), (95, .bool shut3)] ([⟨b275, [.int .i64 x347, .int .i64 x348], 2⟩, ⟨b274, [.int .i64 t267, .int .i64 t268, .slice (ad N273) t270.length (nN273 / 7), .bool t269], 4⟩, ⟨b43, [.slice a_l0 l0.length c_l0, .int .i64 t271], 2⟩, ⟨N273, encL E_i647 t270, nN273⟩] : List Own) := by
              refine hstep [4] _ _ _ (by kernel_rfl) (List.cons_ne_nil _ _) ⟨?_, trivial⟩
              · show T _ _ _ _ _ _ _ _
                refine t_call (vs := [.agg #[.int .i64 t267, .int .i64 t268, .slice (ad N273) t270.length (nN273 / 7), .bool t269], .bool shut3]) (H1 := ([⟨N273, encL E_i647 t270, nN273⟩] : List Own)) (F := ([⟨b275, [.int .i64 x347, .int .i64 x348], 2⟩, ⟨b274, [.int .i64 t267, .int .i64 t268, .slice (ad N273) t270.length (nN273 / 7), .bool t269], 4⟩, ⟨b43, [.slice a_l0 l0.length c_l0, .int .i64 t271], 2⟩] : List Own)) rfl rfl (by kernel_rfl) (sel_perm (is := [3]) (by kernel_rfl)) (cal_lend (Qc := fun v_ H_ => ∃ (N351 : Option Nat) (nN351 : Nat), v_ = (.slice (ad N351) t349.length (nN351 / 4)) ∧ H_ = ([⟨N351, encL E_i644 t349, nN351⟩] : List Own)) fun S1_ le1_ hS1_ => (flatten_Path_v2.ok (SlE.ofAd (E := E_i647) (L := t270) hS1_ (by decide)) h350).mono fun _ _ _ ⟨N351, nN351, h1_, h2_, h3_⟩ => ⟨⟨N351, nN351, h1_, h2_⟩, h3_⟩) ?_
                rintro _ _ S_ ⟨⟨_, rfl, ⟨N351, nN351, rfl, rfl⟩⟩, hS_⟩
                obtain rfl := hS_.symm
                refine t_keep [11, 90, 93, 94, 95] (σ' := [(11, .pointer (some ⟨b274, 0, none⟩)), (90, .bool true), (93, .slice (ad N351) t349.length (nN351 / 4)), (94, .agg #[.int .i64 t267, .int .i64 t268, .slice (ad N273) t270.length (nN273 / 7), .bool t269]), (95, .bool shut3)]) (by kernel_rfl) ?_
                refine t_end ?_
                exact ⟨hg_7f N351 nN351, rfl⟩
            have hg_4f : G [true, true, true, true, false, false, true, false, false, false, false, false, false, false, false, false, false, false, false, false, false, false, false, false, false, false] [(11, .pointer (some ⟨b274, 0, none⟩)), (90, .bool true), (91, .agg #[.int .i64 t267, .int .i64 t268, .slice (ad N273) t270.length (nN273 / 7), .bool t269]), (92, .bool shut3), (95, .bool shut3)] ([⟨b275, [.int .i64 x347, .int .i64 x348], 2⟩, ⟨b274, [.int .i64 t267, .int .i64 t268, .slice (ad N273) t270.length (nN273 / 7), .bool t269], 4⟩, ⟨b43, [.slice a_l0 l0.length c_l0, .int .i64 t271], 2⟩, ⟨N273, encL E_i647 t270, nN273⟩] : List Own) := by
              refine hstep [4, 5] _ _ _ (by kernel_rfl) (List.cons_ne_nil _ _) ⟨?_, ?_, trivial⟩
              · show T _ _ _ _ _ _ _ _
                refine t_call (vs := [.agg #[.int .i64 t267, .int .i64 t268, .slice (ad N273) t270.length (nN273 / 7), .bool t269], .bool shut3]) (H1 := ([⟨N273, encL E_i647 t270, nN273⟩] : List Own)) (F := ([⟨b275, [.int .i64 x347, .int .i64 x348], 2⟩, ⟨b274, [.int .i64 t267, .int .i64 t268, .slice (ad N273) t270.length (nN273 / 7), .bool t269], 4⟩, ⟨b43, [.slice a_l0 l0.length c_l0, .int .i64 t271], 2⟩] : List Own)) rfl rfl (by kernel_rfl) (sel_perm (is := [3]) (by kernel_rfl)) (cal_lend (Qc := fun v_ H_ => ∃ (N351 : Option Nat) (nN351 : Nat), v_ = (.slice (ad N351) t349.length (nN351 / 4)) ∧ H_ = ([⟨N351, encL E_i644 t349, nN351⟩] : List Own)) fun S1_ le1_ hS1_ => (flatten_Path_v2.ok (SlE.ofAd (E := E_i647) (L := t270) hS1_ (by decide)) h350).mono fun _ _ _ ⟨N351, nN351, h1_, h2_, h3_⟩ => ⟨⟨N351, nN351, h1_, h2_⟩, h3_⟩) ?_
                rintro _ _ S_ ⟨⟨_, rfl, ⟨N351, nN351, rfl, rfl⟩⟩, hS_⟩
                obtain rfl := hS_.symm
                refine t_keep [11, 90, 93, 95] (σ' := [(11, .pointer (some ⟨b274, 0, none⟩)), (90, .bool true), (93, .slice (ad N351) t349.length (nN351 / 4)), (95, .bool shut3)]) (by kernel_rfl) ?_
                refine t_end ?_
                exact ⟨hg_5f N351 nN351, rfl⟩
              · show T _ _ _ _ _ _ _ _
                refine t_v (.ldn rfl rfl rfl (.at 1 rfl rfl)) ?_
                refine t_keep [11, 90, 91, 92, 94, 95] (σ' := [(11, .pointer (some ⟨b274, 0, none⟩)), (90, .bool true), (91, .agg #[.int .i64 t267, .int .i64 t268, .slice (ad N273) t270.length (nN273 / 7), .bool t269]), (92, .bool shut3), (94, .agg #[.int .i64 t267, .int .i64 t268, .slice (ad N273) t270.length (nN273 / 7), .bool t269]), (95, .bool shut3)]) (by kernel_rfl) ?_
                refine t_end ?_
                exact ⟨hg_6f, rfl⟩
            have hg_6b : G [true, true, false, true, false, true, true, false, false, false, false, false, false, false, false, false, false, false, false, false, false, false, false, false, false, false] [(11, .pointer (some ⟨b274, 0, none⟩)), (90, .bool true), (92, .bool shut3), (94, .agg #[.int .i64 t267, .int .i64 t268, .slice (ad N273) t270.length (nN273 / 7), .bool t269]), (95, .bool shut3)] ([⟨b275, [.int .i64 x347, .int .i64 x348], 2⟩, ⟨b274, [.int .i64 t267, .int .i64 t268, .slice (ad N273) t270.length (nN273 / 7), .bool t269], 4⟩, ⟨b43, [.slice a_l0 l0.length c_l0, .int .i64 t271], 2⟩, ⟨N273, encL E_i647 t270, nN273⟩] : List Own) := by
              refine hstep [2] _ _ _ (by kernel_rfl) (List.cons_ne_nil _ _) ⟨?_, trivial⟩
              · show T _ _ _ _ _ _ _ _
                refine t_v (.ldn rfl rfl rfl (.at 1 rfl rfl)) ?_
                refine t_keep [11, 90, 91, 92, 94, 95] (σ' := [(11, .pointer (some ⟨b274, 0, none⟩)), (90, .bool true), (91, .agg #[.int .i64 t267, .int .i64 t268, .slice (ad N273) t270.length (nN273 / 7), .bool t269]), (92, .bool shut3), (94, .agg #[.int .i64 t267, .int .i64 t268, .slice (ad N273) t270.length (nN273 / 7), .bool t269]), (95, .bool shut3)]) (by kernel_rfl) ?_
                refine t_end ?_
                exact ⟨hg_6f, rfl⟩
            have hg_4b : G [true, true, false, true, false, false, true, false, false, false, false, false, false, false, false, false, false, false, false, false, false, false, false, false, false, false] [(11, .pointer (some ⟨b274, 0, none⟩)), (90, .bool true), (92, .bool shut3), (95, .bool shut3)] ([⟨b275, [.int .i64 x347, .int .i64 x348], 2⟩, ⟨b274, [.int .i64 t267, .int .i64 t268, .slice (ad N273) t270.length (nN273 / 7), .bool t269], 4⟩, ⟨b43, [.slice a_l0 l0.length c_l0, .int .i64 t271], 2⟩, ⟨N273, encL E_i647 t270, nN273⟩] : List Own) := by
              refine hstep [2, 5] _ _ _ (by kernel_rfl) (List.cons_ne_nil _ _) ⟨?_, ?_, trivial⟩
              · show T _ _ _ _ _ _ _ _
                refine t_v (.ldn rfl rfl rfl (.at 1 rfl rfl)) ?_
                refine t_keep [11, 90, 91, 92, 95] (σ' := [(11, .pointer (some ⟨b274, 0, none⟩)), (90, .bool true), (91, .agg #[.int .i64 t267, .int .i64 t268, .slice (ad N273) t270.length (nN273 / 7), .bool t269]), (92, .bool shut3), (95, .bool shut3)]) (by kernel_rfl) ?_
                refine t_end ?_
                exact ⟨hg_4f, rfl⟩
              · show T _ _ _ _ _ _ _ _
                refine t_v (.ldn rfl rfl rfl (.at 1 rfl rfl)) ?_
                refine t_keep [11, 90, 92, 94, 95] (σ' := [(11, .pointer (some ⟨b274, 0, none⟩)), (90, .bool true), (92, .bool shut3), (94, .agg #[.int .i64 t267, .int .i64 t268, .slice (ad N273) t270.length (nN273 / 7), .bool t269]), (95, .bool shut3)]) (by kernel_rfl) ?_
                refine t_end ?_
                exact ⟨hg_6b, rfl⟩
            have hg_b : G [true, true, false, true, false, false, false, false, false, false, false, false, false, false, false, false, false, false, false, false, false, false, false, false, false, false] [(3, .bool shut3), (11, .pointer (some ⟨b274, 0, none⟩)), (90, .bool true), (92, .bool shut3)] ([⟨b275, [.int .i64 x347, .int .i64 x348], 2⟩, ⟨b274, [.int .i64 t267, .int .i64 t268, .slice (ad N273) t270.length (nN273 / 7), .bool t269], 4⟩, ⟨b43, [.slice a_l0 l0.length c_l0, .int .i64 t271], 2⟩, ⟨N273, encL E_i647 t270, nN273⟩] : List Own) := by
              exact hqf 6 [11, 90, 92, 95] _ _ _ [(11, .pointer (some ⟨b274, 0, none⟩)), (90, .bool true), (92, .bool shut3), (95, .bool shut3)] (by kernel_rfl) (by kernel_rfl) hg_4b
            have hg_3 : G [true, true, false, false, false, false, false, false, false, false, false, false, false, false, false, false, false, false, false, false, false, false, false, false, false, false] [(3, .bool shut3), (11, .pointer (some ⟨b274, 0, none⟩)), (90, .bool true)] ([⟨b275, [.int .i64 x347, .int .i64 x348], 2⟩, ⟨b274, [.int .i64 t267, .int .i64 t268, .slice (ad N273) t270.length (nN273 / 7), .bool t269], 4⟩, ⟨b43, [.slice a_l0 l0.length c_l0, .int .i64 t271], 2⟩, ⟨N273, encL E_i647 t270, nN273⟩] : List Own) := by
              exact hqf 3 [3, 11, 90, 92] _ _ _ [(3, .bool shut3), (11, .pointer (some ⟨b274, 0, none⟩)), (90, .bool true), (92, .bool shut3)] (by kernel_rfl) (by kernel_rfl) hg_b
            have hg_1 : G [true, false, false, false, false, false, false, false, false, false, false, false, false, false, false, false, false, false, false, false, false, false, false, false, false, false] [(3, .bool shut3), (11, .pointer (some ⟨b274, 0, none⟩)), (89, .bool true)] ([⟨b275, [.int .i64 x347, .int .i64 x348], 2⟩, ⟨b274, [.int .i64 t267, .int .i64 t268, .slice (ad N273) t270.length (nN273 / 7), .bool t269], 4⟩, ⟨b43, [.slice a_l0 l0.length c_l0, .int .i64 t271], 2⟩, ⟨N273, encL E_i647 t270, nN273⟩] : List Own) := by
              exact hqf 1 [3, 11, 90] _ _ _ [(3, .bool shut3), (11, .pointer (some ⟨b274, 0, none⟩)), (90, .bool true)] (by kernel_rfl) (by kernel_rfl) hg_3
            have hg_0 : G [false, false, false, false, false, false, false, false, false, false, false, false, false, false, false, false, false, false, false, false, false, false, false, false, false, false] [(3, .bool shut3), (9, .bool true), (11, .pointer (some ⟨b274, 0, none⟩))] ([⟨b275, [.int .i64 x347, .int .i64 x348], 2⟩, ⟨b274, [.int .i64 t267, .int .i64 t268, .slice (ad N273) t270.length (nN273 / 7), .bool t269], 4⟩, ⟨b43, [.slice a_l0 l0.length c_l0, .int .i64 t271], 2⟩, ⟨N273, encL E_i647 t270, nN273⟩] : List Own) := by
              exact hqf 0 [3, 11, 89] _ _ _ [(3, .bool shut3), (11, .pointer (some ⟨b274, 0, none⟩)), (89, .bool true)] (by kernel_rfl) (by kernel_rfl) hg_1
            exact hg_0
          · rw [if_neg c361] at e
            exact absurd (Option.some.inj e) (by decide)
        | false =>
          rw [if_neg (by decide)] at e
          exact absurd (Option.some.inj e) (by decide)
  | false =>
    rw [if_neg (by decide)] at e
    exact absurd (Option.some.inj e) (by decide)

def glyphiclaw21_FlattenSays.Pure : Prop := ∀ (l0 : List (Int)) (far1 : Int) (i2 : Int) (shut3 : Bool), (Lit.int .i64 far1).wf = true → (Lit.int .i64 i2).wf = true → ∃ k, glyphiclaw21_FlattenSays.f k l0 far1 i2 shut3 = some true
theorem glyphiclaw21_FlattenSays.walk (P : glyphiclaw21_FlattenSays.Pure) (l0 : List (Int)) (far1 : Int) (i2 : Int) (shut3 : Bool) (w : World) {S : Seal} (hS : HOK [] S w) {a_l0 : Option Addr} {c_l0 : Nat} (h_l0 : SlI S .i64 l0 a_l0) (hfar1 : (Lit.int .i64 far1).wf = true) (hi2 : (Lit.int .i64 i2).wf = true) :
    Calls Try.prog 7 #[.slice a_l0 l0.length c_l0, .int .i64 far1, .int .i64 i2, .bool shut3] w fun e w' => e = .returned (.bool true) ∧ Below w.heap.size w w' := let ⟨k, h⟩ := P l0 far1 i2 shut3 hfar1 hi2; law_w hS (glyphiclaw21_FlattenSays.ok (SlI.e h_l0) (k := k) h)
end Go.Proofs.Ytpimfacaalkmdaa.QFlattenSays
