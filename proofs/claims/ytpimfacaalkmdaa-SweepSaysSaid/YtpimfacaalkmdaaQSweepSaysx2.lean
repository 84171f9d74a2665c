/- Functions of the program as Lean functions, each with the proof of its walk. Written by gen.py, a program of these sessions. -/
import Derived.Test.YtpimfacaalkmdaaQSweepSaysx1
namespace Go.Proofs.Ytpimfacaalkmdaa.QSweepSays
open Go Go.RowKit Go.Proofs.YtpimfacaalkmdaaE Go.Proofs.YtpimfacaalkmdaaX
set_option linter.unusedVariables false
set_option maxRecDepth 100000
set_option maxHeartbeats 8000000
/-- glyphicref20.Fill -/
def c46 : C :=
  (.seq (.reg [⟨(some 8), .mv (.const (.int .u64 0)), none⟩])
  (.seq (.reg [⟨(some 9), .mv (.const (.int .u64 0)), none⟩])
  (.seq (.seq (.reg [⟨(some 10), .mv (.const (.int .i64 0)), none⟩])
   (.block 0 (.loop (.seq (.seq (.reg [⟨(some 11), .mv (.tmp 10), none⟩,
         ⟨(some 12), .bin .lss (.tmp 11) (.const (.int .i64 64)), none⟩])
      (.cond (.tmp 12)
       .skip
       (.exit 0)))
     (.seq (.block 1 (.seq (.reg [⟨(some 15), .mv (.tmp 0), none⟩,
          ⟨(some 16), .mv (.tmp 1), none⟩,
          ⟨(some 17), .mv (.tmp 2), none⟩,
          ⟨(some 18), .mv (.tmp 3), none⟩,
          ⟨(some 19), .mv (.tmp 10), none⟩,
          ⟨(some 20), .call 49 [(.tmp 17), (.tmp 18), (.tmp 19)], none⟩,
          ⟨(some 21), .call 87 [(.tmp 15), (.tmp 16), (.tmp 20)], none⟩])
       (.cond (.tmp 21)
        (.reg [⟨(some 22), .mv (.tmp 9), none⟩,
           ⟨(some 23), .mv (.tmp 10), none⟩,
           ⟨(some 24), .cnv .u64 (.tmp 23), none⟩,
           ⟨(some 25), .bin .shl (.const (.int .u64 1)) (.tmp 24), none⟩,
           ⟨(some 26), .bin .or (.tmp 22) (.tmp 25), none⟩,
           ⟨(some 9), .mv (.tmp 26), none⟩])
        .skip)))
     (.reg [⟨(some 13), .mv (.tmp 10), none⟩,
       ⟨(some 14), .bin .add (.tmp 13) (.const (.int .i64 1)), none⟩,
       ⟨(some 10), .mv (.tmp 14), none⟩]))))))
  (.seq (.reg [⟨(some 27), .mv (.tmp 9), none⟩,
     ⟨(some 8), .mv (.tmp 27), none⟩])
  .ret))))
def glyphicref20_Fill_v1.l0 : Nat → List (Int × Int × Int × Int) → Int → Int → Int → Int → Int → Option (Int)
  | 0, _, _, _, _, _, _ => none
  | k + 1, l0, rule1, x2, y3, x414, x415 => if x415 < 64 then ((glyphicref20_Sample.f x2 y3 x415).bind fun (t417, t418) => ((glyphicref20_Inside_v1.f k l0 rule1 t417 t418).bind fun t420 => (if t420 = true then (if (wru64 x415) < 0 then none else (glyphicref20_Fill_v1.l0 k l0 rule1 x2 y3 (bits .or .u64 x414 (wru64 (1 * 2 ^ (min (Int.toNat (wru64 x415)) 64)))) (wr64 (x415 + 1)))) else (glyphicref20_Fill_v1.l0 k l0 rule1 x2 y3 x414 (wr64 (x415 + 1)))))) else (some x414)
def glyphicref20_Fill_v1.f (k : Nat) (l0 : List (Int × Int × Int × Int)) (rule1 : Int) (x2 : Int) (y3 : Int) : Option (Int) := (glyphicref20_Fill_v1.l0 k l0 rule1 x2 y3 0 0 : Option (Int)).bind fun x426 => (some x426)
theorem glyphicref20_Fill_v1.ok {S : Seal} {k : Nat} {l0 : List (Int × Int × Int × Int)} {rule1 : Int} {x2 : Int} {y3 : Int} {r0_ : Int}{a_l0 : Option Addr} {c_l0 : Nat} (h_l0 : SlE S E_i644 l0 a_l0) (e : glyphicref20_Fill_v1.f k l0 rule1 x2 y3 = some r0_) :
    Cal Try.prog 46 [.slice a_l0 l0.length c_l0, .int .i64 rule1, .int .i64 x2, .int .i64 y3] [] S fun v H' S' => v = .int .u64 r0_ ∧ H' = [] ∧ S' = S := by
  unfold glyphicref20_Fill_v1.f at e
  refine cal_of (c := c46) (N := 28) Try.func46 rfl rfl (by kernel_rfl) (rs := [.t 8]) (by kernel_rfl) (Nat.le_of_ble_eq_true rfl) ?_
  unfold c46
  refine w_seq ?_
  refine w_reg fun all => ?_
  refine t_qz 1 [0, 1, 2, 3] (σ' := [(0, .slice a_l0 l0.length c_l0), (1, .int .i64 rule1), (2, .int .i64 x2), (3, .int .i64 y3)]) (by kernel_rfl) ?_
  refine t_end ?_
  show W _ _ _ _ _ _ _
  refine w_seq ?_
  refine w_reg fun all => ?_
  refine t_qz 1 [0, 1, 2, 3, 9] (σ' := [(0, .slice a_l0 l0.length c_l0), (1, .int .i64 rule1), (2, .int .i64 x2), (3, .int .i64 y3), (9, .int .u64 0)]) (by kernel_rfl) ?_
  refine t_end ?_
  show W _ _ _ _ _ _ _
  obtain ⟨x426, e412, e⟩ := bind_of e
  refine w_cut [9] (fun σ_ H_ S_ => [(9, .int .u64 x426)] = σ_ ∧ ([] : List Own) = H_ ∧ S = S_) ?_ ?_
  · show W _ _ _ _ _ _ _
    refine w_seq ?_
    refine w_reg fun all => ?_
    refine t_qz 1 [0, 1, 2, 3, 9, 10] (σ' := [(0, .slice a_l0 l0.length c_l0), (1, .int .i64 rule1), (2, .int .i64 x2), (3, .int .i64 y3), (9, .int .u64 0), (10, .int .i64 0)]) (by kernel_rfl) ?_
    refine t_end ?_
    show W _ _ _ _ _ _ _
    refine w_block ?_
    refine w_kp [0, 1, 2, 3, 9, 10] (σ' := [(0, .slice a_l0 l0.length c_l0), (1, .int .i64 rule1), (2, .int .i64 x2), (3, .int .i64 y3), (9, .int .u64 0), (10, .int .i64 0)]) (by kernel_rfl) ?_
    refine w_loop (fun n_ σ_ H_ S_ => ∃ (x414 : Int) (x415 : Int), [(0, .slice a_l0 l0.length c_l0), (1, .int .i64 rule1), (2, .int .i64 x2), (3, .int .i64 y3), (9, .int .u64 x414), (10, .int .i64 x415)] = σ_ ∧ ([] : List Own) = H_ ∧ S = S_ ∧ glyphicref20_Fill_v1.l0 n_ l0 rule1 x2 y3 x414 x415 = some x426) _ ⟨0, 0, rfl, rfl, rfl, e412⟩ ?_
    rintro n425 σ_ H_ S_ ⟨x414, x415, rfl, rfl, rfl, e412⟩
    cases n425 with
    | zero => rw [glyphicref20_Fill_v1.l0.eq_1] at e412; cases e412
    | succ k_ =>
      rw [glyphicref20_Fill_v1.l0.eq_2] at e412
      refine w_seq ?_
      refine w_seq ?_
      refine w_reg fun all => ?_
      by_cases c416 : x415 < 64
      · rw [if_pos c416] at e412
        have c416b : (decide (x415 < 64)) = true := decide_eq_true c416
        refine t_qz 1 [0, 1, 2, 3, 9, 10, 11] (σ' := [(0, .slice a_l0 l0.length c_l0), (1, .int .i64 rule1), (2, .int .i64 x2), (3, .int .i64 y3), (9, .int .u64 x414), (10, .int .i64 x415), (11, .int .i64 x415)]) (by kernel_rfl) ?_
        refine t_v (dv_quiet rfl (congrArg (fun t => some (Value.bool t)) c416b)) ?_
        refine t_keep [0, 1, 2, 3, 9, 10, 12] (σ' := [(0, .slice a_l0 l0.length c_l0), (1, .int .i64 rule1), (2, .int .i64 x2), (3, .int .i64 y3), (9, .int .u64 x414), (10, .int .i64 x415), (12, .bool true)]) (by kernel_rfl) ?_
        refine t_end ?_
        show W _ _ _ _ _ _ _
        refine w_cond rfl (fun _ => ?_) (fun c_ => by cases c_)
        show W _ _ _ _ _ _ _
        refine w_skip ?_
        show W _ _ _ _ _ _ _
        refine w_seq ?_
        refine w_block ?_
        refine w_seq ?_
        refine w_reg fun all => ?_
        obtain ⟨⟨t417, t418⟩, h419, e412⟩ := bind_of e412
        try dsimp only at e412
        refine t_qz 5 [0, 1, 2, 3, 9, 10, 15, 16, 17, 18, 19] (σ' := [(0, .slice a_l0 l0.length c_l0), (1, .int .i64 rule1), (2, .int .i64 x2), (3, .int .i64 y3), (9, .int .u64 x414), (10, .int .i64 x415), (15, .slice a_l0 l0.length c_l0), (16, .int .i64 rule1), (17, .int .i64 x2), (18, .int .i64 y3), (19, .int .i64 x415)]) (by kernel_rfl) ?_
        refine t_v (.call (vs := [.int .i64 x2, .int .i64 y3, .int .i64 x415]) rfl rfl (by kernel_rfl) (glyphicref20_Sample.ok h419)) ?_
        obtain ⟨t420, h421, e412⟩ := bind_of e412
        cases t420 with
        | true =>
          rw [if_pos rfl] at e412
          refine t_v (.call (vs := [.slice a_l0 l0.length c_l0, .int .i64 rule1, .agg #[.int .i64 t417, .int .i64 t418]]) rfl rfl (by kernel_rfl) (glyphicref20_Inside_v1.ok h_l0 h421)) ?_
          refine t_keep [0, 1, 2, 3, 9, 10, 21] (σ' := [(0, .slice a_l0 l0.length c_l0), (1, .int .i64 rule1), (2, .int .i64 x2), (3, .int .i64 y3), (9, .int .u64 x414), (10, .int .i64 x415), (21, .bool true)]) (by kernel_rfl) ?_
          refine t_end ?_
          show W _ _ _ _ _ _ _
          refine w_cond rfl (fun _ => ?_) (fun c_ => by cases c_)
          show W _ _ _ _ _ _ _
          refine w_reg fun all => ?_
          have c422 : ¬ (wru64 x415) < 0 := by
            intro h_; rw [if_pos h_] at e412; cases e412
          rw [if_neg c422] at e412
          refine t_qz 3 [0, 1, 2, 3, 10, 22, 24] (σ' := [(0, .slice a_l0 l0.length c_l0), (1, .int .i64 rule1), (2, .int .i64 x2), (3, .int .i64 y3), (10, .int .i64 x415), (22, .int .u64 x414), (24, .int .u64 (wru64 x415))]) (by kernel_rfl) ?_
          refine t_v (.quiet rfl (qv_shl rfl rfl c422)) ?_
          refine t_qz 2 [0, 1, 2, 3, 9, 10] (σ' := [(0, .slice a_l0 l0.length c_l0), (1, .int .i64 rule1), (2, .int .i64 x2), (3, .int .i64 y3), (9, .int .u64 (bits .or .u64 x414 (wru64 (1 * 2 ^ (min (Int.toNat (wru64 x415)) 64))))), (10, .int .i64 x415)]) (by kernel_rfl) ?_
          refine t_end ?_
          show W _ _ _ _ _ _ _
          refine w_reg fun all => ?_
          refine t_qz 3 [0, 1, 2, 3, 9, 10] (σ' := [(0, .slice a_l0 l0.length c_l0), (1, .int .i64 rule1), (2, .int .i64 x2), (3, .int .i64 y3), (9, .int .u64 (bits .or .u64 x414 (wru64 (1 * 2 ^ (min (Int.toNat (wru64 x415)) 64))))), (10, .int .i64 (wr64 (x415 + 1)))]) (by kernel_rfl) ?_
          refine t_end ?_
          exact ⟨k_, Nat.lt_succ_self _, [(0, .slice a_l0 l0.length c_l0), (1, .int .i64 rule1), (2, .int .i64 x2), (3, .int .i64 y3), (9, .int .u64 (bits .or .u64 x414 (wru64 (1 * 2 ^ (min (Int.toNat (wru64 x415)) 64))))), (10, .int .i64 (wr64 (x415 + 1)))], ([] : List Own), S, keep_sub [0, 1, 2, 3, 9, 10] (by kernel_rfl), VS.sel [] (by kernel_rfl), bits .or .u64 x414 (wru64 (1 * 2 ^ (min (Int.toNat (wru64 x415)) 64))), wr64 (x415 + 1), rfl, rfl, rfl, e412⟩
        | false =>
          rw [if_neg (by decide)] at e412
          refine t_v (.call (vs := [.slice a_l0 l0.length c_l0, .int .i64 rule1, .agg #[.int .i64 t417, .int .i64 t418]]) rfl rfl (by kernel_rfl) (glyphicref20_Inside_v1.ok h_l0 h421)) ?_
          refine t_keep [0, 1, 2, 3, 9, 10, 21] (σ' := [(0, .slice a_l0 l0.length c_l0), (1, .int .i64 rule1), (2, .int .i64 x2), (3, .int .i64 y3), (9, .int .u64 x414), (10, .int .i64 x415), (21, .bool false)]) (by kernel_rfl) ?_
          refine t_end ?_
          show W _ _ _ _ _ _ _
          refine w_cond rfl (fun c_ => by cases c_) (fun _ => ?_)
          show W _ _ _ _ _ _ _
          refine w_skip ?_
          show W _ _ _ _ _ _ _
          refine w_reg fun all => ?_
          refine t_qz 3 [0, 1, 2, 3, 9, 10] (σ' := [(0, .slice a_l0 l0.length c_l0), (1, .int .i64 rule1), (2, .int .i64 x2), (3, .int .i64 y3), (9, .int .u64 x414), (10, .int .i64 (wr64 (x415 + 1)))]) (by kernel_rfl) ?_
          refine t_end ?_
          exact ⟨k_, Nat.lt_succ_self _, [(0, .slice a_l0 l0.length c_l0), (1, .int .i64 rule1), (2, .int .i64 x2), (3, .int .i64 y3), (9, .int .u64 x414), (10, .int .i64 (wr64 (x415 + 1)))], ([] : List Own), S, keep_sub [0, 1, 2, 3, 9, 10] (by kernel_rfl), VS.sel [] (by kernel_rfl), x414, wr64 (x415 + 1), rfl, rfl, rfl, e412⟩
      · rw [if_neg c416] at e412
        have c416b : (decide (x415 < 64)) = false := decide_eq_false c416
        refine t_qz 1 [0, 1, 2, 3, 9, 10, 11] (σ' := [(0, .slice a_l0 l0.length c_l0), (1, .int .i64 rule1), (2, .int .i64 x2), (3, .int .i64 y3), (9, .int .u64 x414), (10, .int .i64 x415), (11, .int .i64 x415)]) (by kernel_rfl) ?_
        refine t_v (dv_quiet rfl (congrArg (fun t => some (Value.bool t)) c416b)) ?_
        refine t_keep [0, 1, 2, 3, 9, 10, 12] (σ' := [(0, .slice a_l0 l0.length c_l0), (1, .int .i64 rule1), (2, .int .i64 x2), (3, .int .i64 y3), (9, .int .u64 x414), (10, .int .i64 x415), (12, .bool false)]) (by kernel_rfl) ?_
        refine t_end ?_
        show W _ _ _ _ _ _ _
        refine w_cond rfl (fun c_ => by cases c_) (fun _ => ?_)
        show W _ _ _ _ _ _ _
        refine w_exit ?_
        obtain rfl := Option.some.inj e412
        exact ⟨([] : List Own), S, VS.sel [] (by kernel_rfl), by kernel_rfl, rfl, rfl⟩
  · rintro σ_ H_ S_ ⟨rfl, rfl, rfl⟩
    refine w_seq ?_
    refine w_reg fun all => ?_
    refine t_qz 2 [8] (σ' := [(8, .int .u64 x426)]) (by kernel_rfl) ?_
    refine t_end ?_
    show W _ _ _ _ _ _ _
    refine w_ret ?_
    obtain rfl := Option.some.inj e
    exact ⟨[.int .u64 x426], [], S, ⟨rfl, trivial⟩, VS.none, rfl, rfl, rfl⟩

/-- glyphicref1.Dot -/
def c77 : C :=
  (.seq (.reg [⟨(some 3), .box (.tmp 0), none⟩,
     ⟨(some 4), .box (.tmp 1), none⟩,
     ⟨(some 5), .box (.tmp 2), none⟩,
     ⟨(some 6), .mv (.const (.int .i64 0)), none⟩])
  (.seq (.reg [⟨(some 7), .pad 0 (.tmp 4), none⟩,
     ⟨(some 8), .ld none (.tmp 7), none⟩,
     ⟨(some 9), .pad 0 (.tmp 3), none⟩,
     ⟨(some 10), .ld none (.tmp 9), none⟩,
     ⟨(some 11), .bin .sub (.tmp 8) (.tmp 10), none⟩,
     ⟨(some 12), .pad 0 (.tmp 5), none⟩,
     ⟨(some 13), .ld none (.tmp 12), none⟩,
     ⟨(some 14), .pad 0 (.tmp 3), none⟩,
     ⟨(some 15), .ld none (.tmp 14), none⟩,
     ⟨(some 16), .bin .sub (.tmp 13) (.tmp 15), none⟩,
     ⟨(some 17), .bin .mul (.tmp 11) (.tmp 16), none⟩,
     ⟨(some 18), .pad 1 (.tmp 4), none⟩,
     ⟨(some 19), .ld none (.tmp 18), none⟩,
     ⟨(some 20), .pad 1 (.tmp 3), none⟩,
     ⟨(some 21), .ld none (.tmp 20), none⟩,
     ⟨(some 22), .bin .sub (.tmp 19) (.tmp 21), none⟩,
     ⟨(some 23), .pad 1 (.tmp 5), none⟩,
     ⟨(some 24), .ld none (.tmp 23), none⟩,
     ⟨(some 25), .pad 1 (.tmp 3), none⟩,
     ⟨(some 26), .ld none (.tmp 25), none⟩,
     ⟨(some 27), .bin .sub (.tmp 24) (.tmp 26), none⟩,
     ⟨(some 28), .bin .mul (.tmp 22) (.tmp 27), none⟩,
     ⟨(some 29), .bin .add (.tmp 17) (.tmp 28), none⟩,
     ⟨(some 6), .mv (.tmp 29), none⟩])
  .ret))
def glyphicref1_Dot.f (a0_X : Int) (a0_Y : Int) (b1_X : Int) (b1_Y : Int) (p2_X : Int) (p2_Y : Int) : Option (Int) := some (wr64 ((wr64 ((wr64 (b1_X - a0_X)) * (wr64 (p2_X - a0_X)))) + (wr64 ((wr64 (b1_Y - a0_Y)) * (wr64 (p2_Y - a0_Y))))))
theorem glyphicref1_Dot.ok {S : Seal} {a0_X : Int} {a0_Y : Int} {b1_X : Int} {b1_Y : Int} {p2_X : Int} {p2_Y : Int} {r0_ : Int}(e : glyphicref1_Dot.f a0_X a0_Y b1_X b1_Y p2_X p2_Y = some r0_) :
    Cal Try.prog 77 [.agg #[.int .i64 a0_X, .int .i64 a0_Y], .agg #[.int .i64 b1_X, .int .i64 b1_Y], .agg #[.int .i64 p2_X, .int .i64 p2_Y]] [] S fun v H' S' => v = .int .i64 r0_ ∧ H' = [] ∧ S' = S := by
  unfold glyphicref1_Dot.f at e
  refine cal_of (c := c77) (N := 30) Try.func77 rfl rfl (by kernel_rfl) (rs := [.t 6]) (by kernel_rfl) (Nat.le_of_ble_eq_true rfl) ?_
  unfold c77
  refine w_seq ?_
  refine w_reg fun all => ?_
  refine t_a (.box rfl rfl rfl) fun b473 fb473 sb473 => ?_
  refine t_a (.box rfl rfl rfl) fun b474 fb474 sb474 => ?_
  refine t_a (.box rfl rfl rfl) fun b475 fb475 sb475 => ?_
  refine t_qz 1 [3, 4, 5] (σ' := [(3, .pointer (some ⟨b473, 0, none⟩)), (4, .pointer (some ⟨b474, 0, none⟩)), (5, .pointer (some ⟨b475, 0, none⟩))]) (by kernel_rfl) ?_
  refine t_end ?_
  show W _ _ _ _ _ _ _
  refine w_seq ?_
  refine w_reg fun all => ?_
  refine t_qz 1 [3, 4, 5, 7] (σ' := [(3, .pointer (some ⟨b473, 0, none⟩)), (4, .pointer (some ⟨b474, 0, none⟩)), (5, .pointer (some ⟨b475, 0, none⟩)), (7, .pointer (some ⟨b474, 0, none⟩))]) (by kernel_rfl) ?_
  refine t_v (.ld1 rfl rfl rfl (.at 1 rfl rfl)) ?_
  refine t_qz 1 [3, 4, 5, 8, 9] (σ' := [(3, .pointer (some ⟨b473, 0, none⟩)), (4, .pointer (some ⟨b474, 0, none⟩)), (5, .pointer (some ⟨b475, 0, none⟩)), (8, .int .i64 b1_X), (9, .pointer (some ⟨b473, 0, none⟩))]) (by kernel_rfl) ?_
  refine t_v (.ld1 rfl rfl rfl (.at 2 rfl rfl)) ?_
  refine t_qz 2 [3, 4, 5, 11, 12] (σ' := [(3, .pointer (some ⟨b473, 0, none⟩)), (4, .pointer (some ⟨b474, 0, none⟩)), (5, .pointer (some ⟨b475, 0, none⟩)), (11, .int .i64 (wr64 (b1_X - a0_X))), (12, .pointer (some ⟨b475, 0, none⟩))]) (by kernel_rfl) ?_
  refine t_v (.ld1 rfl rfl rfl (.at 0 rfl rfl)) ?_
  refine t_qz 1 [3, 4, 5, 11, 13, 14] (σ' := [(3, .pointer (some ⟨b473, 0, none⟩)), (4, .pointer (some ⟨b474, 0, none⟩)), (5, .pointer (some ⟨b475, 0, none⟩)), (11, .int .i64 (wr64 (b1_X - a0_X))), (13, .int .i64 p2_X), (14, .pointer (some ⟨b473, 0, none⟩))]) (by kernel_rfl) ?_
  refine t_v (.ld1 rfl rfl rfl (.at 2 rfl rfl)) ?_
  refine t_qz 3 [3, 5, 17, 18] (σ' := [(3, .pointer (some ⟨b473, 0, none⟩)), (5, .pointer (some ⟨b475, 0, none⟩)), (17, .int .i64 (wr64 ((wr64 (b1_X - a0_X)) * (wr64 (p2_X - a0_X))))), (18, .pointer (some ⟨b474, 1, none⟩))]) (by kernel_rfl) ?_
  refine t_v (.ld1 rfl rfl rfl (.at 1 rfl rfl)) ?_
  refine t_qz 1 [3, 5, 17, 19, 20] (σ' := [(3, .pointer (some ⟨b473, 0, none⟩)), (5, .pointer (some ⟨b475, 0, none⟩)), (17, .int .i64 (wr64 ((wr64 (b1_X - a0_X)) * (wr64 (p2_X - a0_X))))), (19, .int .i64 b1_Y), (20, .pointer (some ⟨b473, 1, none⟩))]) (by kernel_rfl) ?_
  refine t_v (.ld1 rfl rfl rfl (.at 2 rfl rfl)) ?_
  refine t_qz 2 [3, 17, 22, 23] (σ' := [(3, .pointer (some ⟨b473, 0, none⟩)), (17, .int .i64 (wr64 ((wr64 (b1_X - a0_X)) * (wr64 (p2_X - a0_X))))), (22, .int .i64 (wr64 (b1_Y - a0_Y))), (23, .pointer (some ⟨b475, 1, none⟩))]) (by kernel_rfl) ?_
  refine t_v (.ld1 rfl rfl rfl (.at 0 rfl rfl)) ?_
  refine t_qz 1 [17, 22, 24, 25] (σ' := [(17, .int .i64 (wr64 ((wr64 (b1_X - a0_X)) * (wr64 (p2_X - a0_X))))), (22, .int .i64 (wr64 (b1_Y - a0_Y))), (24, .int .i64 p2_Y), (25, .pointer (some ⟨b473, 1, none⟩))]) (by kernel_rfl) ?_
  refine t_v (.ld1 rfl rfl rfl (.at 2 rfl rfl)) ?_
  refine t_qz 4 [6] (σ' := [(6, .int .i64 (wr64 ((wr64 ((wr64 (b1_X - a0_X)) * (wr64 (p2_X - a0_X)))) + (wr64 ((wr64 (b1_Y - a0_Y)) * (wr64 (p2_Y - a0_Y)))))))]) (by kernel_rfl) ?_
  refine t_end ?_
  show W _ _ _ _ _ _ _
  refine w_ret ?_
  obtain rfl := Option.some.inj e
  exact ⟨[.int .i64 (wr64 ((wr64 ((wr64 (b1_X - a0_X)) * (wr64 (p2_X - a0_X)))) + (wr64 ((wr64 (b1_Y - a0_Y)) * (wr64 (p2_Y - a0_Y))))))], [], S, ⟨rfl, trivial⟩, VS.none, rfl, rfl, rfl⟩

/-- glyphicref1.Len2 -/
def c78 : C :=
  (.seq (.reg [⟨(some 2), .box (.tmp 0), none⟩,
     ⟨(some 3), .box (.tmp 1), none⟩,
     ⟨(some 4), .mv (.const (.int .i64 0)), none⟩])
  (.seq (.reg [⟨(some 5), .ld (some 2) (.tmp 2), none⟩,
     ⟨(some 6), .ld (some 2) (.tmp 3), none⟩,
     ⟨(some 7), .ld (some 2) (.tmp 3), none⟩,
     ⟨(some 8), .call 77 [(.tmp 5), (.tmp 6), (.tmp 7)], none⟩,
     ⟨(some 4), .mv (.tmp 8), none⟩])
  .ret))
def glyphicref1_Len2.f (a0_X : Int) (a0_Y : Int) (b1_X : Int) (b1_Y : Int) : Option (Int) := (glyphicref1_Dot.f a0_X a0_Y b1_X b1_Y b1_X b1_Y).bind fun t480 => (some t480)
theorem glyphicref1_Len2.ok {S : Seal} {a0_X : Int} {a0_Y : Int} {b1_X : Int} {b1_Y : Int} {r0_ : Int}(e : glyphicref1_Len2.f a0_X a0_Y b1_X b1_Y = some r0_) :
    Cal Try.prog 78 [.agg #[.int .i64 a0_X, .int .i64 a0_Y], .agg #[.int .i64 b1_X, .int .i64 b1_Y]] [] S fun v H' S' => v = .int .i64 r0_ ∧ H' = [] ∧ S' = S := by
  unfold glyphicref1_Len2.f at e
  refine cal_of (c := c78) (N := 9) Try.func78 rfl rfl (by kernel_rfl) (rs := [.t 4]) (by kernel_rfl) (Nat.le_of_ble_eq_true rfl) ?_
  unfold c78
  refine w_seq ?_
  refine w_reg fun all => ?_
  refine t_a (.box rfl rfl rfl) fun b478 fb478 sb478 => ?_
  refine t_a (.box rfl rfl rfl) fun b479 fb479 sb479 => ?_
  refine t_qz 1 [2, 3] (σ' := [(2, .pointer (some ⟨b478, 0, none⟩)), (3, .pointer (some ⟨b479, 0, none⟩))]) (by kernel_rfl) ?_
  refine t_end ?_
  show W _ _ _ _ _ _ _
  refine w_seq ?_
  refine w_reg fun all => ?_
  refine t_v (.ldn rfl rfl rfl (.at 1 rfl rfl)) ?_
  refine t_v (.ldn rfl rfl rfl (.at 0 rfl rfl)) ?_
  refine t_v (.ldn rfl rfl rfl (.at 0 rfl rfl)) ?_
  obtain ⟨t480, h481, e⟩ := bind_of e
  refine t_v (.call (vs := [.agg #[.int .i64 a0_X, .int .i64 a0_Y], .agg #[.int .i64 b1_X, .int .i64 b1_Y], .agg #[.int .i64 b1_X, .int .i64 b1_Y]]) rfl rfl (by kernel_rfl) (glyphicref1_Dot.ok h481)) ?_
  refine t_qz 1 [4] (σ' := [(4, .int .i64 t480)]) (by kernel_rfl) ?_
  refine t_end ?_
  show W _ _ _ _ _ _ _
  refine w_ret ?_
  obtain rfl := Option.some.inj e
  exact ⟨[.int .i64 t480], [], S, ⟨rfl, trivial⟩, VS.none, rfl, rfl, rfl⟩

/-- glyphicref1.size -/
def c79 : C :=
  (.seq (.reg [⟨(some 2), .mv (.const (.int .u64 0)), none⟩])
  (.seq (.seq (.reg [⟨(some 3), .mv (.tmp 0), none⟩,
      ⟨(some 4), .bin .lss (.tmp 3) (.const (.int .i64 0)), none⟩])
   (.cond (.tmp 4)
    (.seq (.reg [⟨(some 5), .mv (.tmp 0), none⟩,
        ⟨(some 6), .bin .add (.tmp 5) (.const (.int .i64 1)), none⟩,
        ⟨(some 7), .un .neg (.tmp 6), none⟩,
        ⟨(some 8), .cnv .u64 (.tmp 7), none⟩,
        ⟨(some 9), .bin .add (.tmp 8) (.const (.int .u64 1)), none⟩,
        ⟨(some 2), .mv (.tmp 9), none⟩])
     .ret)
    .skip))
  (.seq (.reg [⟨(some 10), .mv (.tmp 0), none⟩,
     ⟨(some 11), .cnv .u64 (.tmp 10), none⟩,
     ⟨(some 2), .mv (.tmp 11), none⟩])
  .ret)))
def glyphicref1_size.f (n0 : Int) : Option (Int) := if n0 < 0 then (some (wru64 ((wru64 (wr64 (0 - (wr64 (n0 + 1))))) + 1))) else (some (wru64 n0))
theorem glyphicref1_size.ok {S : Seal} {n0 : Int} {r0_ : Int}(e : glyphicref1_size.f n0 = some r0_) :
    Cal Try.prog 79 [.int .i64 n0] [] S fun v H' S' => v = .int .u64 r0_ ∧ H' = [] ∧ S' = S := by
  unfold glyphicref1_size.f at e
  refine cal_of (c := c79) (N := 12) Try.func79 rfl rfl (by kernel_rfl) (rs := [.t 2]) (by kernel_rfl) (Nat.le_of_ble_eq_true rfl) ?_
  unfold c79
  refine w_seq ?_
  refine w_reg fun all => ?_
  refine t_qz 1 [0] (σ' := [(0, .int .i64 n0)]) (by kernel_rfl) ?_
  refine t_end ?_
  show W _ _ _ _ _ _ _
  refine w_seq ?_
  refine w_seq ?_
  refine w_reg fun all => ?_
  by_cases c492 : n0 < 0
  · rw [if_pos c492] at e
    have c492b : (decide (n0 < 0)) = true := decide_eq_true c492
    refine t_qz 1 [0, 3] (σ' := [(0, .int .i64 n0), (3, .int .i64 n0)]) (by kernel_rfl) ?_
    refine t_v (dv_quiet rfl (congrArg (fun t => some (Value.bool t)) c492b)) ?_
    refine t_keep [0, 4] (σ' := [(0, .int .i64 n0), (4, .bool true)]) (by kernel_rfl) ?_
    refine t_end ?_
    show W _ _ _ _ _ _ _
    refine w_cond rfl (fun _ => ?_) (fun c_ => by cases c_)
    show W _ _ _ _ _ _ _
    refine w_seq ?_
    refine w_reg fun all => ?_
    refine t_qz 6 [2] (σ' := [(2, .int .u64 (wru64 ((wru64 (wr64 (0 - (wr64 (n0 + 1))))) + 1)))]) (by kernel_rfl) ?_
    refine t_end ?_
    show W _ _ _ _ _ _ _
    refine w_ret ?_
    obtain rfl := Option.some.inj e
    exact ⟨[.int .u64 (wru64 ((wru64 (wr64 (0 - (wr64 (n0 + 1))))) + 1))], [], S, ⟨rfl, trivial⟩, VS.none, rfl, rfl, rfl⟩
  · rw [if_neg c492] at e
    have c492b : (decide (n0 < 0)) = false := decide_eq_false c492
    refine t_qz 1 [0, 3] (σ' := [(0, .int .i64 n0), (3, .int .i64 n0)]) (by kernel_rfl) ?_
    refine t_v (dv_quiet rfl (congrArg (fun t => some (Value.bool t)) c492b)) ?_
    refine t_keep [0, 4] (σ' := [(0, .int .i64 n0), (4, .bool false)]) (by kernel_rfl) ?_
    refine t_end ?_
    show W _ _ _ _ _ _ _
    refine w_cond rfl (fun c_ => by cases c_) (fun _ => ?_)
    show W _ _ _ _ _ _ _
    refine w_skip ?_
    show W _ _ _ _ _ _ _
    refine w_seq ?_
    refine w_reg fun all => ?_
    refine t_qz 3 [2] (σ' := [(2, .int .u64 (wru64 n0))]) (by kernel_rfl) ?_
    refine t_end ?_
    show W _ _ _ _ _ _ _
    refine w_ret ?_
    obtain rfl := Option.some.inj e
    exact ⟨[.int .u64 (wru64 n0)], [], S, ⟨rfl, trivial⟩, VS.none, rfl, rfl, rfl⟩

/-- glyphicref1.Near -/
def c39 : C :=
  (.seq (.reg [⟨(some 4), .box (.tmp 0), none⟩,
     ⟨(some 5), .box (.tmp 1), none⟩,
     ⟨(some 6), .box (.tmp 2), none⟩,
     ⟨(some 8), .mv (.const (.bool false)), none⟩])
  (.seq (.reg [⟨(some 16), .ld (some 2) (.tmp 4), none⟩,
     ⟨(some 17), .ld (some 2) (.tmp 5), none⟩,
     ⟨(some 18), .ld (some 2) (.tmp 6), none⟩,
     ⟨(some 19), .call 77 [(.tmp 16), (.tmp 17), (.tmp 18)], none⟩,
     ⟨(some 9), .mv (.tmp 19), none⟩])
  (.seq (.reg [⟨(some 20), .ld (some 2) (.tmp 4), none⟩,
     ⟨(some 21), .ld (some 2) (.tmp 5), none⟩,
     ⟨(some 22), .call 78 [(.tmp 20), (.tmp 21)], none⟩,
     ⟨(some 10), .mv (.tmp 22), none⟩])
  (.seq (.block 0 (.seq (.reg [⟨(some 24), .mv (.tmp 9), none⟩,
       ⟨(some 25), .bin .leq (.tmp 24) (.const (.int .i64 0)), none⟩,
       ⟨(some 23), .mv (.tmp 25), none⟩])
    (.cond (.tmp 23)
     (.seq (.reg [⟨(some 26), .ld (some 2) (.tmp 4), none⟩,
         ⟨(some 27), .ld (some 2) (.tmp 6), none⟩,
         ⟨(some 28), .call 78 [(.tmp 26), (.tmp 27)], none⟩,
         ⟨(some 29), .mv (.tmp 3), none⟩,
         ⟨(some 30), .mv (.tmp 3), none⟩,
         ⟨(some 31), .bin .mul (.tmp 29) (.tmp 30), none⟩,
         ⟨(some 32), .bin .quo (.tmp 31) (.const (.int .i64 4)), none⟩,
         ⟨(some 33), .bin .leq (.tmp 28) (.tmp 32), none⟩,
         ⟨(some 8), .mv (.tmp 33), none⟩])
      .ret)
     (.seq (.reg [⟨(some 35), .mv (.tmp 9), none⟩,
         ⟨(some 36), .mv (.tmp 10), none⟩,
         ⟨(some 37), .bin .geq (.tmp 35) (.tmp 36), none⟩,
         ⟨(some 34), .mv (.tmp 37), none⟩])
      (.cond (.tmp 34)
       (.seq (.reg [⟨(some 38), .ld (some 2) (.tmp 5), none⟩,
           ⟨(some 39), .ld (some 2) (.tmp 6), none⟩,
           ⟨(some 40), .call 78 [(.tmp 38), (.tmp 39)], none⟩,
           ⟨(some 41), .mv (.tmp 3), none⟩,
           ⟨(some 42), .mv (.tmp 3), none⟩,
           ⟨(some 43), .bin .mul (.tmp 41) (.tmp 42), none⟩,
           ⟨(some 44), .bin .quo (.tmp 43) (.const (.int .i64 4)), none⟩,
           ⟨(some 45), .bin .leq (.tmp 40) (.tmp 44), none⟩,
           ⟨(some 8), .mv (.tmp 45), none⟩])
        .ret)
       .skip)))))
  (.seq (.reg [⟨(some 46), .ld (some 2) (.tmp 4), none⟩,
     ⟨(some 47), .ld (some 2) (.tmp 5), none⟩,
     ⟨(some 48), .ld (some 2) (.tmp 6), none⟩,
     ⟨(some 49), .call 80 [(.tmp 46), (.tmp 47), (.tmp 48)], none⟩,
     ⟨(some 50), .call 79 [(.tmp 49)], none⟩,
     ⟨(some 11), .mv (.tmp 50), none⟩])
  (.seq (.reg [⟨(some 52), .mv (.tmp 11), none⟩,
     ⟨(some 53), .bin .mul (.const (.int .u64 2)) (.tmp 52), none⟩,
     ⟨(some 54), .mv (.tmp 11), none⟩,
     ⟨(some 55), .bin .mul (.const (.int .u64 2)) (.tmp 54), none⟩,
     ⟨(some 56), .call 81 [(.tmp 53), (.tmp 55)], none⟩,
     ⟨(some 51), .mv (.tmp 56), none⟩,
     ⟨(some 57), .xt 0 (.tmp 51), none⟩,
     ⟨(some 58), .xt 1 (.tmp 51), none⟩,
     ⟨(some 12), .mv (.tmp 57), none⟩,
     ⟨(some 13), .mv (.tmp 58), none⟩])
  (.seq (.reg [⟨(some 60), .mv (.tmp 3), none⟩,
     ⟨(some 61), .mv (.tmp 3), none⟩,
     ⟨(some 62), .bin .mul (.tmp 60) (.tmp 61), none⟩,
     ⟨(some 63), .cnv .u64 (.tmp 62), none⟩,
     ⟨(some 64), .mv (.tmp 10), none⟩,
     ⟨(some 65), .cnv .u64 (.tmp 64), none⟩,
     ⟨(some 66), .call 81 [(.tmp 63), (.tmp 65)], none⟩,
     ⟨(some 59), .mv (.tmp 66), none⟩,
     ⟨(some 67), .xt 0 (.tmp 59), none⟩,
     ⟨(some 68), .xt 1 (.tmp 59), none⟩,
     ⟨(some 14), .mv (.tmp 67), none⟩,
     ⟨(some 15), .mv (.tmp 68), none⟩])
  (.seq (.reg [⟨(some 69), .mv (.tmp 12), none⟩,
     ⟨(some 70), .mv (.tmp 14), none⟩,
     ⟨(some 71), .bin .lss (.tmp 69) (.tmp 70), none⟩,
     ⟨(some 72), .mv (.tmp 71), none⟩,
     ⟨(some 73), .mv (.tmp 12), (some (72, false))⟩,
     ⟨(some 74), .mv (.tmp 14), (some (72, false))⟩,
     ⟨(some 75), .bin .eql (.tmp 73) (.tmp 74), (some (72, false))⟩,
     ⟨(some 76), .mv (.tmp 75), (some (72, false))⟩,
     ⟨(some 77), .mv (.tmp 13), (some (76, true))⟩,
     ⟨(some 78), .mv (.tmp 15), (some (76, true))⟩,
     ⟨(some 79), .bin .leq (.tmp 77) (.tmp 78), (some (76, true))⟩,
     ⟨(some 80), .pk (.tmp 76) (.tmp 79) (.const (.bool false)), (some (72, false))⟩,
     ⟨(some 81), .pk (.tmp 72) (.const (.bool true)) (.tmp 80), none⟩,
     ⟨(some 8), .mv (.tmp 81), none⟩])
  .ret))))))))
def glyphicref1_Near.f (a0_X : Int) (a0_Y : Int) (b1_X : Int) (b1_Y : Int) (p2_X : Int) (p2_Y : Int) (w3 : Int) : Option (Bool) := (glyphicref1_Dot.f a0_X a0_Y b1_X b1_Y p2_X p2_Y).bind fun t476 => ((glyphicref1_Len2.f a0_X a0_Y b1_X b1_Y).bind fun t482 => (if t476 ≤ 0 then ((glyphicref1_Len2.f a0_X a0_Y p2_X p2_Y).bind fun t485 => (some (decide (t485 ≤ (wr64 (Int.tdiv (wr64 (w3 * w3)) 4)))))) else (if t476 ≥ t482 then ((glyphicref1_Len2.f b1_X b1_Y p2_X p2_Y).bind fun t488 => (some (decide (t488 ≤ (wr64 (Int.tdiv (wr64 (w3 * w3)) 4)))))) else ((glyphicref1_Cross.f a0_X a0_Y b1_X b1_Y p2_X p2_Y).bind fun t490 => ((glyphicref1_size.f t490).bind fun t493 => ((bits_Mul64.f (wru64 (2 * t493)) (wru64 (2 * t493))).bind fun (t495, t496) => ((bits_Mul64.f (wru64 (wr64 (w3 * w3))) (wru64 t482)).bind fun (t498, t499) => (if t495 < t498 then (some true) else (if t495 = t498 then (some (decide (t496 ≤ t499))) else (some false))))))))))
theorem glyphicref1_Near.ok {S : Seal} {a0_X : Int} {a0_Y : Int} {b1_X : Int} {b1_Y : Int} {p2_X : Int} {p2_Y : Int} {w3 : Int} {r0_ : Bool}(e : glyphicref1_Near.f a0_X a0_Y b1_X b1_Y p2_X p2_Y w3 = some r0_) :
    Cal Try.prog 39 [.agg #[.int .i64 a0_X, .int .i64 a0_Y], .agg #[.int .i64 b1_X, .int .i64 b1_Y], .agg #[.int .i64 p2_X, .int .i64 p2_Y], .int .i64 w3] [] S fun v H' S' => v = .bool r0_ ∧ H' = [] ∧ S' = S := by
  unfold glyphicref1_Near.f at e
  refine cal_of (c := c39) (N := 82) Try.func39 rfl rfl (by kernel_rfl) (rs := [.t 8]) (by kernel_rfl) (Nat.le_of_ble_eq_true rfl) ?_
  unfold c39
  refine w_seq ?_
  refine w_reg fun all => ?_
  refine t_a (.box rfl rfl rfl) fun b470 fb470 sb470 => ?_
  refine t_a (.box rfl rfl rfl) fun b471 fb471 sb471 => ?_
  refine t_a (.box rfl rfl rfl) fun b472 fb472 sb472 => ?_
  refine t_qz 1 [3, 4, 5, 6] (σ' := [(3, .int .i64 w3), (4, .pointer (some ⟨b470, 0, none⟩)), (5, .pointer (some ⟨b471, 0, none⟩)), (6, .pointer (some ⟨b472, 0, none⟩))]) (by kernel_rfl) ?_
  refine t_end ?_
  show W _ _ _ _ _ _ _
  refine w_seq ?_
  refine w_reg fun all => ?_
  refine t_v (.ldn rfl rfl rfl (.at 2 rfl rfl)) ?_
  refine t_v (.ldn rfl rfl rfl (.at 1 rfl rfl)) ?_
  refine t_v (.ldn rfl rfl rfl (.at 0 rfl rfl)) ?_
  obtain ⟨t476, h477, e⟩ := bind_of e
  refine t_v (.call (vs := [.agg #[.int .i64 a0_X, .int .i64 a0_Y], .agg #[.int .i64 b1_X, .int .i64 b1_Y], .agg #[.int .i64 p2_X, .int .i64 p2_Y]]) rfl rfl (by kernel_rfl) (glyphicref1_Dot.ok h477)) ?_
  refine t_qz 1 [3, 4, 5, 6, 9] (σ' := [(3, .int .i64 w3), (4, .pointer (some ⟨b470, 0, none⟩)), (5, .pointer (some ⟨b471, 0, none⟩)), (6, .pointer (some ⟨b472, 0, none⟩)), (9, .int .i64 t476)]) (by kernel_rfl) ?_
  refine t_end ?_
  show W _ _ _ _ _ _ _
  refine w_seq ?_
  refine w_reg fun all => ?_
  refine t_v (.ldn rfl rfl rfl (.at 2 rfl rfl)) ?_
  refine t_v (.ldn rfl rfl rfl (.at 1 rfl rfl)) ?_
  obtain ⟨t482, h483, e⟩ := bind_of e
  refine t_v (.call (vs := [.agg #[.int .i64 a0_X, .int .i64 a0_Y], .agg #[.int .i64 b1_X, .int .i64 b1_Y]]) rfl rfl (by kernel_rfl) (glyphicref1_Len2.ok h483)) ?_
  refine t_qz 1 [3, 4, 5, 6, 9, 10] (σ' := [(3, .int .i64 w3), (4, .pointer (some ⟨b470, 0, none⟩)), (5, .pointer (some ⟨b471, 0, none⟩)), (6, .pointer (some ⟨b472, 0, none⟩)), (9, .int .i64 t476), (10, .int .i64 t482)]) (by kernel_rfl) ?_
  refine t_end ?_
  show W _ _ _ _ _ _ _
  refine w_seq ?_
  refine w_block ?_
  refine w_seq ?_
  refine w_reg fun all => ?_
  by_cases c484 : t476 ≤ 0
  · rw [if_pos c484] at e
    have c484b : (decide (t476 ≤ 0)) = true := decide_eq_true c484
    refine t_qz 1 [3, 4, 5, 6, 9, 10, 24] (σ' := [(3, .int .i64 w3), (4, .pointer (some ⟨b470, 0, none⟩)), (5, .pointer (some ⟨b471, 0, none⟩)), (6, .pointer (some ⟨b472, 0, none⟩)), (9, .int .i64 t476), (10, .int .i64 t482), (24, .int .i64 t476)]) (by kernel_rfl) ?_
    refine t_v (dv_quiet rfl (congrArg (fun t => some (Value.bool t)) c484b)) ?_
    refine t_qz 1 [3, 4, 5, 6, 9, 10, 23] (σ' := [(3, .int .i64 w3), (4, .pointer (some ⟨b470, 0, none⟩)), (5, .pointer (some ⟨b471, 0, none⟩)), (6, .pointer (some ⟨b472, 0, none⟩)), (9, .int .i64 t476), (10, .int .i64 t482), (23, .bool true)]) (by kernel_rfl) ?_
    refine t_end ?_
    show W _ _ _ _ _ _ _
    refine w_cond rfl (fun _ => ?_) (fun c_ => by cases c_)
    show W _ _ _ _ _ _ _
    refine w_seq ?_
    refine w_reg fun all => ?_
    refine t_v (.ldn rfl rfl rfl (.at 2 rfl rfl)) ?_
    refine t_v (.ldn rfl rfl rfl (.at 0 rfl rfl)) ?_
    obtain ⟨t485, h486, e⟩ := bind_of e
    refine t_v (.call (vs := [.agg #[.int .i64 a0_X, .int .i64 a0_Y], .agg #[.int .i64 p2_X, .int .i64 p2_Y]]) rfl rfl (by kernel_rfl) (glyphicref1_Len2.ok h486)) ?_
    refine t_qz 6 [8] (σ' := [(8, .bool (decide (t485 ≤ (wr64 (Int.tdiv (wr64 (w3 * w3)) 4)))))]) (by kernel_rfl) ?_
    refine t_end ?_
    show W _ _ _ _ _ _ _
    refine w_ret ?_
    obtain rfl := Option.some.inj e
    exact ⟨[.bool (decide (t485 ≤ (wr64 (Int.tdiv (wr64 (w3 * w3)) 4))))], [], S, ⟨rfl, trivial⟩, VS.none, rfl, rfl, rfl⟩
  · rw [if_neg c484] at e
    have c484b : (decide (t476 ≤ 0)) = false := decide_eq_false c484
    refine t_qz 1 [3, 4, 5, 6, 9, 10, 24] (σ' := [(3, .int .i64 w3), (4, .pointer (some ⟨b470, 0, none⟩)), (5, .pointer (some ⟨b471, 0, none⟩)), (6, .pointer (some ⟨b472, 0, none⟩)), (9, .int .i64 t476), (10, .int .i64 t482), (24, .int .i64 t476)]) (by kernel_rfl) ?_
    refine t_v (dv_quiet rfl (congrArg (fun t => some (Value.bool t)) c484b)) ?_
    refine t_qz 1 [3, 4, 5, 6, 9, 10, 23] (σ' := [(3, .int .i64 w3), (4, .pointer (some ⟨b470, 0, none⟩)), (5, .pointer (some ⟨b471, 0, none⟩)), (6, .pointer (some ⟨b472, 0, none⟩)), (9, .int .i64 t476), (10, .int .i64 t482), (23, .bool false)]) (by kernel_rfl) ?_
    refine t_end ?_
    show W _ _ _ _ _ _ _
    refine w_cond rfl (fun c_ => by cases c_) (fun _ => ?_)
    show W _ _ _ _ _ _ _
    refine w_seq ?_
    refine w_reg fun all => ?_
    by_cases c487 : t476 ≥ t482
    · rw [if_pos c487] at e
      have c487b : (decide (t476 ≥ t482)) = true := decide_eq_true c487
      refine t_qz 2 [3, 4, 5, 6, 10, 35, 36] (σ' := [(3, .int .i64 w3), (4, .pointer (some ⟨b470, 0, none⟩)), (5, .pointer (some ⟨b471, 0, none⟩)), (6, .pointer (some ⟨b472, 0, none⟩)), (10, .int .i64 t482), (35, .int .i64 t476), (36, .int .i64 t482)]) (by kernel_rfl) ?_
      refine t_v (dv_quiet rfl (congrArg (fun t => some (Value.bool t)) c487b)) ?_
      refine t_qz 1 [3, 4, 5, 6, 10, 34] (σ' := [(3, .int .i64 w3), (4, .pointer (some ⟨b470, 0, none⟩)), (5, .pointer (some ⟨b471, 0, none⟩)), (6, .pointer (some ⟨b472, 0, none⟩)), (10, .int .i64 t482), (34, .bool true)]) (by kernel_rfl) ?_
      refine t_end ?_
      show W _ _ _ _ _ _ _
      refine w_cond rfl (fun _ => ?_) (fun c_ => by cases c_)
      show W _ _ _ _ _ _ _
      refine w_seq ?_
      refine w_reg fun all => ?_
      refine t_v (.ldn rfl rfl rfl (.at 1 rfl rfl)) ?_
      refine t_v (.ldn rfl rfl rfl (.at 0 rfl rfl)) ?_
      obtain ⟨t488, h489, e⟩ := bind_of e
      refine t_v (.call (vs := [.agg #[.int .i64 b1_X, .int .i64 b1_Y], .agg #[.int .i64 p2_X, .int .i64 p2_Y]]) rfl rfl (by kernel_rfl) (glyphicref1_Len2.ok h489)) ?_
      refine t_qz 6 [8] (σ' := [(8, .bool (decide (t488 ≤ (wr64 (Int.tdiv (wr64 (w3 * w3)) 4)))))]) (by kernel_rfl) ?_
      refine t_end ?_
      show W _ _ _ _ _ _ _
      refine w_ret ?_
      obtain rfl := Option.some.inj e
      exact ⟨[.bool (decide (t488 ≤ (wr64 (Int.tdiv (wr64 (w3 * w3)) 4))))], [], S, ⟨rfl, trivial⟩, VS.none, rfl, rfl, rfl⟩
    · rw [if_neg c487] at e
      have c487b : (decide (t476 ≥ t482)) = false := decide_eq_false c487
      refine t_qz 2 [3, 4, 5, 6, 10, 35, 36] (σ' := [(3, .int .i64 w3), (4, .pointer (some ⟨b470, 0, none⟩)), (5, .pointer (some ⟨b471, 0, none⟩)), (6, .pointer (some ⟨b472, 0, none⟩)), (10, .int .i64 t482), (35, .int .i64 t476), (36, .int .i64 t482)]) (by kernel_rfl) ?_
      refine t_v (dv_quiet rfl (congrArg (fun t => some (Value.bool t)) c487b)) ?_
      refine t_qz 1 [3, 4, 5, 6, 10, 34] (σ' := [(3, .int .i64 w3), (4, .pointer (some ⟨b470, 0, none⟩)), (5, .pointer (some ⟨b471, 0, none⟩)), (6, .pointer (some ⟨b472, 0, none⟩)), (10, .int .i64 t482), (34, .bool false)]) (by kernel_rfl) ?_
      refine t_end ?_
      show W _ _ _ _ _ _ _
      refine w_cond rfl (fun c_ => by cases c_) (fun _ => ?_)
      show W _ _ _ _ _ _ _
      refine w_skip ?_
      show W _ _ _ _ _ _ _
      refine w_seq ?_
      refine w_reg fun all => ?_
      refine t_v (.ldn rfl rfl rfl (.at 2 rfl rfl)) ?_
      refine t_v (.ldn rfl rfl rfl (.at 1 rfl rfl)) ?_
      refine t_v (.ldn rfl rfl rfl (.at 0 rfl rfl)) ?_
      obtain ⟨t490, h491, e⟩ := bind_of e
      refine t_v (.call (vs := [.agg #[.int .i64 a0_X, .int .i64 a0_Y], .agg #[.int .i64 b1_X, .int .i64 b1_Y], .agg #[.int .i64 p2_X, .int .i64 p2_Y]]) rfl rfl (by kernel_rfl) (glyphicref1_Cross.ok h491)) ?_
      obtain ⟨t493, h494, e⟩ := bind_of e
      refine t_v (.call (vs := [.int .i64 t490]) rfl rfl (by kernel_rfl) (glyphicref1_size.ok h494)) ?_
      refine t_qz 1 [3, 10, 11] (σ' := [(3, .int .i64 w3), (10, .int .i64 t482), (11, .int .u64 t493)]) (by kernel_rfl) ?_
      refine t_end ?_
      show W _ _ _ _ _ _ _
      refine w_seq ?_
      refine w_reg fun all => ?_
      obtain ⟨⟨t495, t496⟩, h497, e⟩ := bind_of e
      try dsimp only at e
      refine t_qz 4 [3, 10, 53, 55] (σ' := [(3, .int .i64 w3), (10, .int .i64 t482), (53, .int .u64 (wru64 (2 * t493))), (55, .int .u64 (wru64 (2 * t493)))]) (by kernel_rfl) ?_
      refine t_v (.call (vs := [.int .u64 (wru64 (2 * t493)), .int .u64 (wru64 (2 * t493))]) rfl rfl (by kernel_rfl) (bits_Mul64.ok h497)) ?_
      refine t_qz 5 [3, 10, 12, 13] (σ' := [(3, .int .i64 w3), (10, .int .i64 t482), (12, .int .u64 t495), (13, .int .u64 t496)]) (by kernel_rfl) ?_
      refine t_end ?_
      show W _ _ _ _ _ _ _
      refine w_seq ?_
      refine w_reg fun all => ?_
      obtain ⟨⟨t498, t499⟩, h500, e⟩ := bind_of e
      try dsimp only at e
      refine t_qz 6 [12, 13, 63, 65] (σ' := [(12, .int .u64 t495), (13, .int .u64 t496), (63, .int .u64 (wru64 (wr64 (w3 * w3)))), (65, .int .u64 (wru64 t482))]) (by kernel_rfl) ?_
      refine t_v (.call (vs := [.int .u64 (wru64 (wr64 (w3 * w3))), .int .u64 (wru64 t482)]) rfl rfl (by kernel_rfl) (bits_Mul64.ok h500)) ?_
      refine t_qz 5 [12, 13, 14, 15] (σ' := [(12, .int .u64 t495), (13, .int .u64 t496), (14, .int .u64 t498), (15, .int .u64 t499)]) (by kernel_rfl) ?_
      refine t_end ?_
      show W _ _ _ _ _ _ _
      refine w_seq ?_
      refine w_reg fun all => ?_
      by_cases c501 : t495 < t498
      · rw [if_pos c501] at e
        have c501b : (decide (t495 < t498)) = true := decide_eq_true c501
        refine t_qz 2 [12, 13, 14, 15, 69, 70] (σ' := [(12, .int .u64 t495), (13, .int .u64 t496), (14, .int .u64 t498), (15, .int .u64 t499), (69, .int .u64 t495), (70, .int .u64 t498)]) (by kernel_rfl) ?_
        refine t_v (dv_quiet rfl (congrArg (fun t => some (Value.bool t)) c501b)) ?_
        refine t_qz 11 [8] (σ' := [(8, .bool true)]) (by kernel_rfl) ?_
        refine t_end ?_
        show W _ _ _ _ _ _ _
        refine w_ret ?_
        obtain rfl := Option.some.inj e
        exact ⟨[.bool true], [], S, ⟨rfl, trivial⟩, VS.none, rfl, rfl, rfl⟩
      · rw [if_neg c501] at e
        have c501b : (decide (t495 < t498)) = false := decide_eq_false c501
        refine t_qz 2 [12, 13, 14, 15, 69, 70] (σ' := [(12, .int .u64 t495), (13, .int .u64 t496), (14, .int .u64 t498), (15, .int .u64 t499), (69, .int .u64 t495), (70, .int .u64 t498)]) (by kernel_rfl) ?_
        refine t_v (dv_quiet rfl (congrArg (fun t => some (Value.bool t)) c501b)) ?_
        by_cases c502 : t495 = t498
        · rw [if_pos c502] at e
          have c502b : (t495 == t498) = true := beq_iff_eq.mpr c502
          refine t_qz 3 [13, 15, 72, 73, 74] (σ' := [(13, .int .u64 t496), (15, .int .u64 t499), (72, .bool false), (73, .int .u64 t495), (74, .int .u64 t498)]) (by kernel_rfl) ?_
          refine t_v (dv_quiet rfl (congrArg (fun t => some (Value.bool t)) c502b)) ?_
          refine t_qz 7 [8] (σ' := [(8, .bool (decide (t496 ≤ t499)))]) (by kernel_rfl) ?_
          refine t_end ?_
          show W _ _ _ _ _ _ _
          refine w_ret ?_
          obtain rfl := Option.some.inj e
          exact ⟨[.bool (decide (t496 ≤ t499))], [], S, ⟨rfl, trivial⟩, VS.none, rfl, rfl, rfl⟩
        · rw [if_neg c502] at e
          have c502b : (t495 == t498) = false := beq_eq_false_iff_ne.mpr c502
          refine t_qz 3 [13, 15, 72, 73, 74] (σ' := [(13, .int .u64 t496), (15, .int .u64 t499), (72, .bool false), (73, .int .u64 t495), (74, .int .u64 t498)]) (by kernel_rfl) ?_
          refine t_v (dv_quiet rfl (congrArg (fun t => some (Value.bool t)) c502b)) ?_
          refine t_qz 7 [8] (σ' := [(8, .bool false)]) (by kernel_rfl) ?_
          refine t_end ?_
          show W _ _ _ _ _ _ _
          refine w_ret ?_
          obtain rfl := Option.some.inj e
          exact ⟨[.bool false], [], S, ⟨rfl, trivial⟩, VS.none, rfl, rfl, rfl⟩

/-- glyphicref20.Near -/
def c24 : C :=
  (.seq (.reg [⟨(some 5), .box (.tmp 2), none⟩,
     ⟨(some 6), .mv (.const (.bool false)), none⟩])
  (.seq (.seq (.reg [⟨(some 7), .mv (.const (.int .i64 0)), none⟩])
   (.block 0 (.loop (.seq (.seq (.reg [⟨(some 8), .mv (.tmp 7), none⟩,
         ⟨(some 9), .mv (.tmp 0), none⟩,
         ⟨(some 10), .lns (.tmp 9), none⟩,
         ⟨(some 11), .bin .lss (.tmp 8) (.tmp 10), none⟩])
      (.cond (.tmp 11)
       .skip
       (.exit 0)))
     (.seq (.block 1 (.seq (.drw [⟨(some 14), .mv (.tmp 0), none⟩,
          ⟨(some 15), .mv (.tmp 7), none⟩,
          ⟨(some 16), .ixs 4 (.tmp 14) (.tmp 15), none⟩,
          ⟨(some 17), .pad 0 (.tmp 16), none⟩,
          ⟨(some 18), .ld (some 2) (.tmp 17), none⟩,
          ⟨(some 19), .mv (.tmp 0), none⟩,
          ⟨(some 20), .mv (.tmp 7), none⟩,
          ⟨(some 21), .ixs 4 (.tmp 19) (.tmp 20), none⟩,
          ⟨(some 22), .pad 2 (.tmp 21), none⟩,
          ⟨(some 23), .ld (some 2) (.tmp 22), none⟩,
          ⟨(some 24), .ld (some 2) (.tmp 5), none⟩,
          ⟨(some 25), .mv (.tmp 1), none⟩,
          ⟨(some 26), .call 39 [(.tmp 18), (.tmp 23), (.tmp 24), (.tmp 25)], none⟩] [[], [], [0, 1], [2], [3], [], [], [5, 6], [7], [8], [], [], [4, 9, 10, 11]])
       (.cond (.tmp 26)
        (.seq (.reg [⟨(some 6), .mv (.const (.bool true)), none⟩])
         .ret)
        .skip)))
     (.reg [⟨(some 12), .mv (.tmp 7), none⟩,
       ⟨(some 13), .bin .add (.tmp 12) (.const (.int .i64 1)), none⟩,
       ⟨(some 7), .mv (.tmp 13), none⟩]))))))
  (.seq (.reg [⟨(some 6), .mv (.const (.bool false)), none⟩])
  .ret)))
def glyphicref20_Near_v1.l0 : Nat → List (Int × Int × Int × Int) → Int → Int → Int → Int → Option ((Bool) ⊕ (Unit))
  | 0, _, _, _, _, _ => none
  | k + 1, l0, w1, p2_0, p2_1, x442 => if x442 < (l0.length : Int) then ((lgt l0 x442).bind fun (x444, x445, x446, x447) => ((lgt l0 x442).bind fun (x457, x458, x459, x460) => ((glyphicref1_Near.f x444 x445 x459 x460 p2_0 p2_1 w1).bind fun t470 => (if t470 = true then (some (.inl true)) else (glyphicref20_Near_v1.l0 k l0 w1 p2_0 p2_1 (wr64 (x442 + 1))))))) else (some (.inr ()))
def glyphicref20_Near_v1.f (k : Nat) (l0 : List (Int × Int × Int × Int)) (w1 : Int) (p2_0 : Int) (p2_1 : Int) : Option (Bool) := (glyphicref20_Near_v1.l0 k l0 w1 p2_0 p2_1 0 : Option ((Bool) ⊕ (Unit))).bind fun s_ => match s_ with | .inl q474 => some q474 | .inr _ => (some false)
theorem glyphicref20_Near_v1.ok {S : Seal} {k : Nat} {l0 : List (Int × Int × Int × Int)} {w1 : Int} {p2_0 : Int} {p2_1 : Int} {r0_ : Bool}{a_l0 : Option Addr} {c_l0 : Nat} (h_l0 : SlE S E_i644 l0 a_l0) (e : glyphicref20_Near_v1.f k l0 w1 p2_0 p2_1 = some r0_) :
    Cal Try.prog 24 [.slice a_l0 l0.length c_l0, .int .i64 w1, .agg #[.int .i64 p2_0, .int .i64 p2_1]] [] S fun v H' S' => v = .bool r0_ ∧ H' = [] ∧ S' = S := by
  unfold glyphicref20_Near_v1.f at e
  refine cal_of (c := c24) (N := 27) Try.func24 rfl rfl (by kernel_rfl) (rs := [.t 6]) (by kernel_rfl) (Nat.le_of_ble_eq_true rfl) ?_
  unfold c24
  refine w_seq ?_
  refine w_reg fun all => ?_
  refine t_a (.box rfl rfl rfl) fun b438 fb438 sb438 => ?_
  refine t_qz 1 [0, 1, 5] (σ' := [(0, .slice a_l0 l0.length c_l0), (1, .int .i64 w1), (5, .pointer (some ⟨b438, 0, none⟩))]) (by kernel_rfl) ?_
  refine t_end ?_
  show W _ _ _ _ _ _ _
  obtain ⟨s441, e440, e⟩ := bind_of e
  refine w_cut [] (fun σ_ H_ S_ => ∃ u_ : Unit, s441 = .inr u_ ∧ [] = σ_ ∧ ([⟨b438, [.int .i64 p2_0, .int .i64 p2_1], 2⟩] : List Own) = H_ ∧ S = S_) ?_ ?_
  · show W _ _ _ _ _ _ _
    refine w_seq ?_
    refine w_reg fun all => ?_
    refine t_qz 1 [0, 1, 5, 7] (σ' := [(0, .slice a_l0 l0.length c_l0), (1, .int .i64 w1), (5, .pointer (some ⟨b438, 0, none⟩)), (7, .int .i64 0)]) (by kernel_rfl) ?_
    refine t_end ?_
    show W _ _ _ _ _ _ _
    refine w_block ?_
    refine w_kp [0, 1, 5, 7] (σ' := [(0, .slice a_l0 l0.length c_l0), (1, .int .i64 w1), (5, .pointer (some ⟨b438, 0, none⟩)), (7, .int .i64 0)]) (by kernel_rfl) ?_
    refine w_loop (fun n_ σ_ H_ S_ => ∃ (x442 : Int), [(0, .slice a_l0 l0.length c_l0), (1, .int .i64 w1), (5, .pointer (some ⟨b438, 0, none⟩)), (7, .int .i64 x442)] = σ_ ∧ ([⟨b438, [.int .i64 p2_0, .int .i64 p2_1], 2⟩] : List Own) = H_ ∧ S = S_ ∧ glyphicref20_Near_v1.l0 n_ l0 w1 p2_0 p2_1 x442 = some s441) _ ⟨0, rfl, rfl, rfl, e440⟩ ?_
    rintro n473 σ_ H_ S_ ⟨x442, rfl, rfl, rfl, e440⟩
    cases n473 with
    | zero => rw [glyphicref20_Near_v1.l0.eq_1] at e440; cases e440
    | succ k_ =>
      rw [glyphicref20_Near_v1.l0.eq_2] at e440
      refine w_seq ?_
      refine w_seq ?_
      refine w_reg fun all => ?_
      by_cases c443 : x442 < (l0.length : Int)
      · rw [if_pos c443] at e440
        have c443b : (decide (x442 < (l0.length : Int))) = true := decide_eq_true c443
        refine t_qz 3 [0, 1, 5, 7, 8, 10] (σ' := [(0, .slice a_l0 l0.length c_l0), (1, .int .i64 w1), (5, .pointer (some ⟨b438, 0, none⟩)), (7, .int .i64 x442), (8, .int .i64 x442), (10, .int .i64 (l0.length : Int))]) (by kernel_rfl) ?_
        refine t_v (dv_quiet rfl (congrArg (fun t => some (Value.bool t)) c443b)) ?_
        refine t_keep [0, 1, 5, 7, 11] (σ' := [(0, .slice a_l0 l0.length c_l0), (1, .int .i64 w1), (5, .pointer (some ⟨b438, 0, none⟩)), (7, .int .i64 x442), (11, .bool true)]) (by kernel_rfl) ?_
        refine t_end ?_
        show W _ _ _ _ _ _ _
        refine w_cond rfl (fun _ => ?_) (fun c_ => by cases c_)
        show W _ _ _ _ _ _ _
        refine w_skip ?_
        show W _ _ _ _ _ _ _
        refine w_seq ?_
        refine w_block ?_
        refine w_seq ?_
        obtain ⟨⟨x444, x445, x446, x447⟩, hx448, e440⟩ := bind_of e440
        try dsimp only at e440
        obtain ⟨lb449, lo450, ll451, la452, lS453, lv454, lz455, lu456⟩ := sle_get (E := E_i644) h_l0 hx448
        obtain ⟨⟨x457, x458, x459, x460⟩, hx461, e440⟩ := bind_of e440
        try dsimp only at e440
        obtain ⟨lb462, lo463, ll464, la465, lS466, lv467, lz468, lu469⟩ := sle_get (E := E_i644) h_l0 hx461
        obtain ⟨t470, h471, e440⟩ := bind_of e440
        cases t470 with
        | true =>
          rw [if_pos rfl] at e440
          refine w_drwE mixed 13 [.v (.slice a_l0 l0.length c_l0), .v (.int .i64 x442), .v (.pointer (some ⟨lb449, lo450 + (x442).toNat * 4 + 0, none⟩)), .v (.pointer (some ⟨lb449, lo450 + (x442).toNat * 4 + 0, none⟩)), .v (.agg #[.int .i64 x444, .int .i64 x445]), .v (.slice a_l0 l0.length c_l0), .v (.int .i64 x442), .v (.pointer (some ⟨lb462, lo463 + (x442).toNat * 4 + 0, none⟩)), .v (.pointer (some ⟨lb462, lo463 + (x442).toNat * 4 + 2, none⟩)), .v (.agg #[.int .i64 x459, .int .i64 x460]), .v (.agg #[.int .i64 p2_0, .int .i64 p2_1]), .v (.int .i64 w1), .v (.bool true)] (by kernel_rfl) ?_ ?_
          · refine DI.sq 2 (by kernel_rfl) rfl ?_
            refine .cons (.quiet rfl (ixs_sle rfl rfl la452 lz455 lu456)) ?_
            refine DI.sq 1 (by kernel_rfl) rfl ?_
            refine .cons (.ldn (vs := [.int .i64 x444, .int .i64 x445]) rfl rfl rfl (.sealed lS453 (subl_sub lv454 (by kernel_rfl)))) ?_
            refine DI.sq 2 (by kernel_rfl) rfl ?_
            refine .cons (.quiet rfl (ixs_sle rfl rfl la465 lz468 lu469)) ?_
            refine DI.sq 1 (by kernel_rfl) rfl ?_
            refine .cons (.ldn (vs := [.int .i64 x459, .int .i64 x460]) rfl rfl rfl (.sealed lS466 (subl_sub lv467 (by kernel_rfl)))) ?_
            refine .cons (.ldn rfl rfl rfl (.at 0 rfl rfl)) ?_
            refine DI.sq 1 (by kernel_rfl) rfl ?_
            refine .cons (.call (vs := [.agg #[.int .i64 x444, .int .i64 x445], .agg #[.int .i64 x459, .int .i64 x460], .agg #[.int .i64 p2_0, .int .i64 p2_1], .int .i64 w1]) rfl rfl (by kernel_rfl) (glyphicref1_Near.ok h471)) ?_
            exact .nil
          refine fk_q 13 [0, 1, 5, 7, 26] (σ' := [(0, .slice a_l0 l0.length c_l0), (1, .int .i64 w1), (5, .pointer (some ⟨b438, 0, none⟩)), (7, .int .i64 x442), (26, .bool true)]) t_more (by kernel_rfl) ?_
          refine fk_nil fun all => ?_
          refine t_keep [0, 1, 5, 7, 26] (σ' := [(0, .slice a_l0 l0.length c_l0), (1, .int .i64 w1), (5, .pointer (some ⟨b438, 0, none⟩)), (7, .int .i64 x442), (26, .bool true)]) (by kernel_rfl) ?_
          refine t_end ?_
          show W _ _ _ _ _ _ _
          refine w_cond rfl (fun _ => ?_) (fun c_ => by cases c_)
          show W _ _ _ _ _ _ _
          refine w_seq ?_
          refine w_reg fun all => ?_
          refine t_qz 1 [6] (σ' := [(6, .bool true)]) (by kernel_rfl) ?_
          refine t_end ?_
          show W _ _ _ _ _ _ _
          refine w_ret ?_
          obtain rfl := Option.some.inj e440
          obtain rfl := Option.some.inj e
          exact ⟨[.bool true], [], S, ⟨rfl, trivial⟩, VS.none, rfl, rfl, rfl⟩
        | false =>
          rw [if_neg (by decide)] at e440
          refine w_drwE mixed 13 [.v (.slice a_l0 l0.length c_l0), .v (.int .i64 x442), .v (.pointer (some ⟨lb449, lo450 + (x442).toNat * 4 + 0, none⟩)), .v (.pointer (some ⟨lb449, lo450 + (x442).toNat * 4 + 0, none⟩)), .v (.agg #[.int .i64 x444, .int .i64 x445]), .v (.slice a_l0 l0.length c_l0), .v (.int .i64 x442), .v (.pointer (some ⟨lb462, lo463 + (x442).toNat * 4 + 0, none⟩)), .v (.pointer (some ⟨lb462, lo463 + (x442).toNat * 4 + 2, none⟩)), .v (.agg #[.int .i64 x459, .int .i64 x460]), .v (.agg #[.int .i64 p2_0, .int .i64 p2_1]), .v (.int .i64 w1), .v (.bool false)] (by kernel_rfl) ?_ ?_
          · refine DI.sq 2 (by kernel_rfl) rfl ?_
            refine .cons (.quiet rfl (ixs_sle rfl rfl la452 lz455 lu456)) ?_
            refine DI.sq 1 (by kernel_rfl) rfl ?_
            refine .cons (.ldn (vs := [.int .i64 x444, .int .i64 x445]) rfl rfl rfl (.sealed lS453 (subl_sub lv454 (by kernel_rfl)))) ?_
            refine DI.sq 2 (by kernel_rfl) rfl ?_
            refine .cons (.quiet rfl (ixs_sle rfl rfl la465 lz468 lu469)) ?_
            refine DI.sq 1 (by kernel_rfl) rfl ?_
            refine .cons (.ldn (vs := [.int .i64 x459, .int .i64 x460]) rfl rfl rfl (.sealed lS466 (subl_sub lv467 (by kernel_rfl)))) ?_
            refine .cons (.ldn rfl rfl rfl (.at 0 rfl rfl)) ?_
            refine DI.sq 1 (by kernel_rfl) rfl ?_
            refine .cons (.call (vs := [.agg #[.int .i64 x444, .int .i64 x445], .agg #[.int .i64 x459, .int .i64 x460], .agg #[.int .i64 p2_0, .int .i64 p2_1], .int .i64 w1]) rfl rfl (by kernel_rfl) (glyphicref1_Near.ok h471)) ?_
            exact .nil
          refine fk_q 13 [0, 1, 5, 7, 26] (σ' := [(0, .slice a_l0 l0.length c_l0), (1, .int .i64 w1), (5, .pointer (some ⟨b438, 0, none⟩)), (7, .int .i64 x442), (26, .bool false)]) t_more (by kernel_rfl) ?_
          refine fk_nil fun all => ?_
          refine t_keep [0, 1, 5, 7, 26] (σ' := [(0, .slice a_l0 l0.length c_l0), (1, .int .i64 w1), (5, .pointer (some ⟨b438, 0, none⟩)), (7, .int .i64 x442), (26, .bool false)]) (by kernel_rfl) ?_
          refine t_end ?_
          show W _ _ _ _ _ _ _
          refine w_cond rfl (fun c_ => by cases c_) (fun _ => ?_)
          show W _ _ _ _ _ _ _
          refine w_skip ?_
          show W _ _ _ _ _ _ _
          refine w_reg fun all => ?_
          refine t_qz 3 [0, 1, 5, 7] (σ' := [(0, .slice a_l0 l0.length c_l0), (1, .int .i64 w1), (5, .pointer (some ⟨b438, 0, none⟩)), (7, .int .i64 (wr64 (x442 + 1)))]) (by kernel_rfl) ?_
          refine t_end ?_
          exact ⟨k_, Nat.lt_succ_self _, [(0, .slice a_l0 l0.length c_l0), (1, .int .i64 w1), (5, .pointer (some ⟨b438, 0, none⟩)), (7, .int .i64 (wr64 (x442 + 1)))], ([⟨b438, [.int .i64 p2_0, .int .i64 p2_1], 2⟩] : List Own), S, keep_sub [0, 1, 5, 7] (by kernel_rfl), VS.sel [0] (by kernel_rfl), wr64 (x442 + 1), rfl, rfl, rfl, e440⟩
      · rw [if_neg c443] at e440
        have c443b : (decide (x442 < (l0.length : Int))) = false := decide_eq_false c443
        refine t_qz 3 [0, 1, 5, 7, 8, 10] (σ' := [(0, .slice a_l0 l0.length c_l0), (1, .int .i64 w1), (5, .pointer (some ⟨b438, 0, none⟩)), (7, .int .i64 x442), (8, .int .i64 x442), (10, .int .i64 (l0.length : Int))]) (by kernel_rfl) ?_
        refine t_v (dv_quiet rfl (congrArg (fun t => some (Value.bool t)) c443b)) ?_
        refine t_keep [0, 1, 5, 7, 11] (σ' := [(0, .slice a_l0 l0.length c_l0), (1, .int .i64 w1), (5, .pointer (some ⟨b438, 0, none⟩)), (7, .int .i64 x442), (11, .bool false)]) (by kernel_rfl) ?_
        refine t_end ?_
        show W _ _ _ _ _ _ _
        refine w_cond rfl (fun c_ => by cases c_) (fun _ => ?_)
        show W _ _ _ _ _ _ _
        refine w_exit ?_
        obtain rfl := Option.some.inj e440
        exact ⟨([⟨b438, [.int .i64 p2_0, .int .i64 p2_1], 2⟩] : List Own), S, VS.sel [0] (by kernel_rfl), (), rfl, by kernel_rfl, rfl, rfl⟩
  · rintro σ_ H_ S_ ⟨u_, rfl, rfl, rfl, rfl⟩
    dsimp only at e
    refine w_seq ?_
    refine w_reg fun all => ?_
    refine t_qz 1 [6] (σ' := [(6, .bool false)]) (by kernel_rfl) ?_
    refine t_end ?_
    show W _ _ _ _ _ _ _
    refine w_ret ?_
    obtain rfl := Option.some.inj e
    exact ⟨[.bool false], [], S, ⟨rfl, trivial⟩, VS.none, rfl, rfl, rfl⟩

/-- glyphicref20.Line -/
def c47 : C :=
  (.seq (.reg [⟨(some 8), .mv (.const (.int .u64 0)), none⟩])
  (.seq (.reg [⟨(some 9), .mv (.const (.int .u64 0)), none⟩])
  (.seq (.seq (.reg [⟨(some 10), .mv (.const (.int .i64 0)), none⟩])
   (.block 0 (.loop (.seq (.seq (.reg [⟨(some 11), .mv (.tmp 10), none⟩,
         ⟨(some 12), .bin .lss (.tmp 11) (.const (.int .i64 64)), none⟩])
      (.cond (.tmp 12)
       .skip
       (.exit 0)))
     (.seq (.block 1 (.seq (.reg [⟨(some 15), .mv (.tmp 0), none⟩,
          ⟨(some 16), .mv (.tmp 1), none⟩,
          ⟨(some 17), .mv (.tmp 2), none⟩,
          ⟨(some 18), .mv (.tmp 3), none⟩,
          ⟨(some 19), .mv (.tmp 10), none⟩,
          ⟨(some 20), .call 49 [(.tmp 17), (.tmp 18), (.tmp 19)], none⟩,
          ⟨(some 21), .call 24 [(.tmp 15), (.tmp 16), (.tmp 20)], none⟩])
       (.cond (.tmp 21)
        (.reg [⟨(some 22), .mv (.tmp 9), none⟩,
           ⟨(some 23), .mv (.tmp 10), none⟩,
           ⟨(some 24), .cnv .u64 (.tmp 23), none⟩,
           ⟨(some 25), .bin .shl (.const (.int .u64 1)) (.tmp 24), none⟩,
           ⟨(some 26), .bin .or (.tmp 22) (.tmp 25), none⟩,
           ⟨(some 9), .mv (.tmp 26), none⟩])
        .skip)))
     (.reg [⟨(some 13), .mv (.tmp 10), none⟩,
       ⟨(some 14), .bin .add (.tmp 13) (.const (.int .i64 1)), none⟩,
       ⟨(some 10), .mv (.tmp 14), none⟩]))))))
  (.seq (.reg [⟨(some 27), .mv (.tmp 9), none⟩,
     ⟨(some 8), .mv (.tmp 27), none⟩])
  .ret))))
def glyphicref20_Line_v1.l0 : Nat → List (Int × Int × Int × Int) → Int → Int → Int → Int → Int → Option (Int)
  | 0, _, _, _, _, _, _ => none
  | k + 1, l0, wide1, x2, y3, x435, x436 => if x436 < 64 then ((glyphicref20_Sample.f x2 y3 x436).bind fun (t438, t439) => ((glyphicref20_Near_v1.f k l0 wide1 t438 t439).bind fun t441 => (if t441 = true then (if (wru64 x436) < 0 then none else (glyphicref20_Line_v1.l0 k l0 wide1 x2 y3 (bits .or .u64 x435 (wru64 (1 * 2 ^ (min (Int.toNat (wru64 x436)) 64)))) (wr64 (x436 + 1)))) else (glyphicref20_Line_v1.l0 k l0 wide1 x2 y3 x435 (wr64 (x436 + 1)))))) else (some x435)
def glyphicref20_Line_v1.f (k : Nat) (l0 : List (Int × Int × Int × Int)) (wide1 : Int) (x2 : Int) (y3 : Int) : Option (Int) := (glyphicref20_Line_v1.l0 k l0 wide1 x2 y3 0 0 : Option (Int)).bind fun x447 => (some x447)
theorem glyphicref20_Line_v1.ok {S : Seal} {k : Nat} {l0 : List (Int × Int × Int × Int)} {wide1 : Int} {x2 : Int} {y3 : Int} {r0_ : Int}{a_l0 : Option Addr} {c_l0 : Nat} (h_l0 : SlE S E_i644 l0 a_l0) (e : glyphicref20_Line_v1.f k l0 wide1 x2 y3 = some r0_) :
    Cal Try.prog 47 [.slice a_l0 l0.length c_l0, .int .i64 wide1, .int .i64 x2, .int .i64 y3] [] S fun v H' S' => v = .int .u64 r0_ ∧ H' = [] ∧ S' = S := by
  unfold glyphicref20_Line_v1.f at e
  refine cal_of (c := c47) (N := 28) Try.func47 rfl rfl (by kernel_rfl) (rs := [.t 8]) (by kernel_rfl) (Nat.le_of_ble_eq_true rfl) ?_
  unfold c47
  refine w_seq ?_
  refine w_reg fun all => ?_
  refine t_qz 1 [0, 1, 2, 3] (σ' := [(0, .slice a_l0 l0.length c_l0), (1, .int .i64 wide1), (2, .int .i64 x2), (3, .int .i64 y3)]) (by kernel_rfl) ?_
  refine t_end ?_
  show W _ _ _ _ _ _ _
  refine w_seq ?_
  refine w_reg fun all => ?_
  refine t_qz 1 [0, 1, 2, 3, 9] (σ' := [(0, .slice a_l0 l0.length c_l0), (1, .int .i64 wide1), (2, .int .i64 x2), (3, .int .i64 y3), (9, .int .u64 0)]) (by kernel_rfl) ?_
  refine t_end ?_
  show W _ _ _ _ _ _ _
  obtain ⟨x447, e433, e⟩ := bind_of e
  refine w_cut [9] (fun σ_ H_ S_ => [(9, .int .u64 x447)] = σ_ ∧ ([] : List Own) = H_ ∧ S = S_) ?_ ?_
  · show W _ _ _ _ _ _ _
    refine w_seq ?_
    refine w_reg fun all => ?_
    refine t_qz 1 [0, 1, 2, 3, 9, 10] (σ' := [(0, .slice a_l0 l0.length c_l0), (1, .int .i64 wide1), (2, .int .i64 x2), (3, .int .i64 y3), (9, .int .u64 0), (10, .int .i64 0)]) (by kernel_rfl) ?_
    refine t_end ?_
    show W _ _ _ _ _ _ _
    refine w_block ?_
    refine w_kp [0, 1, 2, 3, 9, 10] (σ' := [(0, .slice a_l0 l0.length c_l0), (1, .int .i64 wide1), (2, .int .i64 x2), (3, .int .i64 y3), (9, .int .u64 0), (10, .int .i64 0)]) (by kernel_rfl) ?_
    refine w_loop (fun n_ σ_ H_ S_ => ∃ (x435 : Int) (x436 : Int), [(0, .slice a_l0 l0.length c_l0), (1, .int .i64 wide1), (2, .int .i64 x2), (3, .int .i64 y3), (9, .int .u64 x435), (10, .int .i64 x436)] = σ_ ∧ ([] : List Own) = H_ ∧ S = S_ ∧ glyphicref20_Line_v1.l0 n_ l0 wide1 x2 y3 x435 x436 = some x447) _ ⟨0, 0, rfl, rfl, rfl, e433⟩ ?_
    rintro n446 σ_ H_ S_ ⟨x435, x436, rfl, rfl, rfl, e433⟩
    cases n446 with
    | zero => rw [glyphicref20_Line_v1.l0.eq_1] at e433; cases e433
    | succ k_ =>
      rw [glyphicref20_Line_v1.l0.eq_2] at e433
      refine w_seq ?_
      refine w_seq ?_
      refine w_reg fun all => ?_
      by_cases c437 : x436 < 64
      · rw [if_pos c437] at e433
        have c437b : (decide (x436 < 64)) = true := decide_eq_true c437
        refine t_qz 1 [0, 1, 2, 3, 9, 10, 11] (σ' := [(0, .slice a_l0 l0.length c_l0), (1, .int .i64 wide1), (2, .int .i64 x2), (3, .int .i64 y3), (9, .int .u64 x435), (10, .int .i64 x436), (11, .int .i64 x436)]) (by kernel_rfl) ?_
        refine t_v (dv_quiet rfl (congrArg (fun t => some (Value.bool t)) c437b)) ?_
        refine t_keep [0, 1, 2, 3, 9, 10, 12] (σ' := [(0, .slice a_l0 l0.length c_l0), (1, .int .i64 wide1), (2, .int .i64 x2), (3, .int .i64 y3), (9, .int .u64 x435), (10, .int .i64 x436), (12, .bool true)]) (by kernel_rfl) ?_
        refine t_end ?_
        show W _ _ _ _ _ _ _
        refine w_cond rfl (fun _ => ?_) (fun c_ => by cases c_)
        show W _ _ _ _ _ _ _
        refine w_skip ?_
        show W _ _ _ _ _ _ _
        refine w_seq ?_
        refine w_block ?_
        refine w_seq ?_
        refine w_reg fun all => ?_
        obtain ⟨⟨t438, t439⟩, h440, e433⟩ := bind_of e433
        try dsimp only at e433
        refine t_qz 5 [0, 1, 2, 3, 9, 10, 15, 16, 17, 18, 19] (σ' := [(0, .slice a_l0 l0.length c_l0), (1, .int .i64 wide1), (2, .int .i64 x2), (3, .int .i64 y3), (9, .int .u64 x435), (10, .int .i64 x436), (15, .slice a_l0 l0.length c_l0), (16, .int .i64 wide1), (17, .int .i64 x2), (18, .int .i64 y3), (19, .int .i64 x436)]) (by kernel_rfl) ?_
        refine t_v (.call (vs := [.int .i64 x2, .int .i64 y3, .int .i64 x436]) rfl rfl (by kernel_rfl) (glyphicref20_Sample.ok h440)) ?_
        obtain ⟨t441, h442, e433⟩ := bind_of e433
        cases t441 with
        | true =>
          rw [if_pos rfl] at e433
          refine t_v (.call (vs := [.slice a_l0 l0.length c_l0, .int .i64 wide1, .agg #[.int .i64 t438, .int .i64 t439]]) rfl rfl (by kernel_rfl) (glyphicref20_Near_v1.ok h_l0 h442)) ?_
          refine t_keep [0, 1, 2, 3, 9, 10, 21] (σ' := [(0, .slice a_l0 l0.length c_l0), (1, .int .i64 wide1), (2, .int .i64 x2), (3, .int .i64 y3), (9, .int .u64 x435), (10, .int .i64 x436), (21, .bool true)]) (by kernel_rfl) ?_
          refine t_end ?_
          show W _ _ _ _ _ _ _
          refine w_cond rfl (fun _ => ?_) (fun c_ => by cases c_)
          show W _ _ _ _ _ _ _
          refine w_reg fun all => ?_
          have c443 : ¬ (wru64 x436) < 0 := by
            intro h_; rw [if_pos h_] at e433; cases e433
          rw [if_neg c443] at e433
          refine t_qz 3 [0, 1, 2, 3, 10, 22, 24] (σ' := [(0, .slice a_l0 l0.length c_l0), (1, .int .i64 wide1), (2, .int .i64 x2), (3, .int .i64 y3), (10, .int .i64 x436), (22, .int .u64 x435), (24, .int .u64 (wru64 x436))]) (by kernel_rfl) ?_
          refine t_v (.quiet rfl (qv_shl rfl rfl c443)) ?_
          refine t_qz 2 [0, 1, 2, 3, 9, 10] (σ' := [(0, .slice a_l0 l0.length c_l0), (1, .int .i64 wide1), (2, .int .i64 x2), (3, .int .i64 y3), (9, .int .u64 (bits .or .u64 x435 (wru64 (1 * 2 ^ (min (Int.toNat (wru64 x436)) 64))))), (10, .int .i64 x436)]) (by kernel_rfl) ?_
          refine t_end ?_
          show W _ _ _ _ _ _ _
          refine w_reg fun all => ?_
          refine t_qz 3 [0, 1, 2, 3, 9, 10] (σ' := [(0, .slice a_l0 l0.length c_l0), (1, .int .i64 wide1), (2, .int .i64 x2), (3, .int .i64 y3), (9, .int .u64 (bits .or .u64 x435 (wru64 (1 * 2 ^ (min (Int.toNat (wru64 x436)) 64))))), (10, .int .i64 (wr64 (x436 + 1)))]) (by kernel_rfl) ?_
          refine t_end ?_
          exact ⟨k_, Nat.lt_succ_self _, [(0, .slice a_l0 l0.length c_l0), (1, .int .i64 wide1), (2, .int .i64 x2), (3, .int .i64 y3), (9, .int .u64 (bits .or .u64 x435 (wru64 (1 * 2 ^ (min (Int.toNat (wru64 x436)) 64))))), (10, .int .i64 (wr64 (x436 + 1)))], ([] : List Own), S, keep_sub [0, 1, 2, 3, 9, 10] (by kernel_rfl), VS.sel [] (by kernel_rfl), bits .or .u64 x435 (wru64 (1 * 2 ^ (min (Int.toNat (wru64 x436)) 64))), wr64 (x436 + 1), rfl, rfl, rfl, e433⟩
        | false =>
          rw [if_neg (by decide)] at e433
          refine t_v (.call (vs := [.slice a_l0 l0.length c_l0, .int .i64 wide1, .agg #[.int .i64 t438, .int .i64 t439]]) rfl rfl (by kernel_rfl) (glyphicref20_Near_v1.ok h_l0 h442)) ?_
          refine t_keep [0, 1, 2, 3, 9, 10, 21] (σ' := [(0, .slice a_l0 l0.length c_l0), (1, .int .i64 wide1), (2, .int .i64 x2), (3, .int .i64 y3), (9, .int .u64 x435), (10, .int .i64 x436), (21, .bool false)]) (by kernel_rfl) ?_
          refine t_end ?_
          show W _ _ _ _ _ _ _
          refine w_cond rfl (fun c_ => by cases c_) (fun _ => ?_)
          show W _ _ _ _ _ _ _
          refine w_skip ?_
          show W _ _ _ _ _ _ _
          refine w_reg fun all => ?_
          refine t_qz 3 [0, 1, 2, 3, 9, 10] (σ' := [(0, .slice a_l0 l0.length c_l0), (1, .int .i64 wide1), (2, .int .i64 x2), (3, .int .i64 y3), (9, .int .u64 x435), (10, .int .i64 (wr64 (x436 + 1)))]) (by kernel_rfl) ?_
          refine t_end ?_
          exact ⟨k_, Nat.lt_succ_self _, [(0, .slice a_l0 l0.length c_l0), (1, .int .i64 wide1), (2, .int .i64 x2), (3, .int .i64 y3), (9, .int .u64 x435), (10, .int .i64 (wr64 (x436 + 1)))], ([] : List Own), S, keep_sub [0, 1, 2, 3, 9, 10] (by kernel_rfl), VS.sel [] (by kernel_rfl), x435, wr64 (x436 + 1), rfl, rfl, rfl, e433⟩
      · rw [if_neg c437] at e433
        have c437b : (decide (x436 < 64)) = false := decide_eq_false c437
        refine t_qz 1 [0, 1, 2, 3, 9, 10, 11] (σ' := [(0, .slice a_l0 l0.length c_l0), (1, .int .i64 wide1), (2, .int .i64 x2), (3, .int .i64 y3), (9, .int .u64 x435), (10, .int .i64 x436), (11, .int .i64 x436)]) (by kernel_rfl) ?_
        refine t_v (dv_quiet rfl (congrArg (fun t => some (Value.bool t)) c437b)) ?_
        refine t_keep [0, 1, 2, 3, 9, 10, 12] (σ' := [(0, .slice a_l0 l0.length c_l0), (1, .int .i64 wide1), (2, .int .i64 x2), (3, .int .i64 y3), (9, .int .u64 x435), (10, .int .i64 x436), (12, .bool false)]) (by kernel_rfl) ?_
        refine t_end ?_
        show W _ _ _ _ _ _ _
        refine w_cond rfl (fun c_ => by cases c_) (fun _ => ?_)
        show W _ _ _ _ _ _ _
        refine w_exit ?_
        obtain rfl := Option.some.inj e433
        exact ⟨([] : List Own), S, VS.sel [] (by kernel_rfl), by kernel_rfl, rfl, rfl⟩
  · rintro σ_ H_ S_ ⟨rfl, rfl, rfl⟩
    refine w_seq ?_
    refine w_reg fun all => ?_
    refine t_qz 2 [8] (σ' := [(8, .int .u64 x447)]) (by kernel_rfl) ?_
    refine t_end ?_
    show W _ _ _ _ _ _ _
    refine w_ret ?_
    obtain rfl := Option.some.inj e
    exact ⟨[.int .u64 x447], [], S, ⟨rfl, trivial⟩, VS.none, rfl, rfl, rfl⟩

/-- glyphicref.SamePoint -/
def c25 : C :=
  (.seq (.reg [⟨(some 2), .box (.tmp 0), none⟩,
     ⟨(some 3), .box (.tmp 1), none⟩,
     ⟨(some 4), .mv (.const (.bool false)), none⟩])
  (.seq (.reg [⟨(some 5), .pad 0 (.tmp 2), none⟩,
     ⟨(some 6), .ld none (.tmp 5), none⟩,
     ⟨(some 7), .pad 0 (.tmp 3), none⟩,
     ⟨(some 8), .ld none (.tmp 7), none⟩,
     ⟨(some 9), .bin .eql (.tmp 6) (.tmp 8), none⟩,
     ⟨(some 10), .mv (.tmp 9), none⟩,
     ⟨(some 11), .pad 1 (.tmp 2), (some (10, true))⟩,
     ⟨(some 12), .ld none (.tmp 11), (some (10, true))⟩,
     ⟨(some 13), .pad 1 (.tmp 3), (some (10, true))⟩,
     ⟨(some 14), .ld none (.tmp 13), (some (10, true))⟩,
     ⟨(some 15), .bin .eql (.tmp 12) (.tmp 14), (some (10, true))⟩,
     ⟨(some 16), .pk (.tmp 10) (.tmp 15) (.const (.bool false)), none⟩,
     ⟨(some 4), .mv (.tmp 16), none⟩])
  .ret))
def glyphicref_SamePoint.f (a0_X : Int) (a0_Y : Int) (b1_X : Int) (b1_Y : Int) : Option (Bool) := if a0_X = b1_X then (some (a0_Y == b1_Y)) else (some false)
theorem glyphicref_SamePoint.ok {S : Seal} {a0_X : Int} {a0_Y : Int} {b1_X : Int} {b1_Y : Int} {r0_ : Bool}(e : glyphicref_SamePoint.f a0_X a0_Y b1_X b1_Y = some r0_) :
    Cal Try.prog 25 [.agg #[.int .i64 a0_X, .int .i64 a0_Y], .agg #[.int .i64 b1_X, .int .i64 b1_Y]] [] S fun v H' S' => v = .bool r0_ ∧ H' = [] ∧ S' = S := by
  unfold glyphicref_SamePoint.f at e
  refine cal_of (c := c25) (N := 17) Try.func25 rfl rfl (by kernel_rfl) (rs := [.t 4]) (by kernel_rfl) (Nat.le_of_ble_eq_true rfl) ?_
  unfold c25
  refine w_seq ?_
  refine w_reg fun all => ?_
  refine t_a (.box rfl rfl rfl) fun b431 fb431 sb431 => ?_
  refine t_a (.box rfl rfl rfl) fun b432 fb432 sb432 => ?_
  refine t_qz 1 [2, 3] (σ' := [(2, .pointer (some ⟨b431, 0, none⟩)), (3, .pointer (some ⟨b432, 0, none⟩))]) (by kernel_rfl) ?_
  refine t_end ?_
  show W _ _ _ _ _ _ _
  refine w_seq ?_
  refine w_reg fun all => ?_
  refine t_qz 1 [2, 3, 5] (σ' := [(2, .pointer (some ⟨b431, 0, none⟩)), (3, .pointer (some ⟨b432, 0, none⟩)), (5, .pointer (some ⟨b431, 0, none⟩))]) (by kernel_rfl) ?_
  refine t_v (.ld1 rfl rfl rfl (.at 1 rfl rfl)) ?_
  refine t_qz 1 [2, 3, 6, 7] (σ' := [(2, .pointer (some ⟨b431, 0, none⟩)), (3, .pointer (some ⟨b432, 0, none⟩)), (6, .int .i64 a0_X), (7, .pointer (some ⟨b432, 0, none⟩))]) (by kernel_rfl) ?_
  refine t_v (.ld1 rfl rfl rfl (.at 0 rfl rfl)) ?_
  by_cases c433 : a0_X = b1_X
  · rw [if_pos c433] at e
    have c433b : (a0_X == b1_X) = true := beq_iff_eq.mpr c433
    refine t_v (dv_quiet rfl (congrArg (fun t => some (Value.bool t)) c433b)) ?_
    refine t_qz 2 [3, 10, 11] (σ' := [(3, .pointer (some ⟨b432, 0, none⟩)), (10, .bool true), (11, .pointer (some ⟨b431, 1, none⟩))]) (by kernel_rfl) ?_
    refine t_v (.ld1 rfl rfl rfl (.at 1 rfl rfl)) ?_
    refine t_qz 1 [10, 12, 13] (σ' := [(10, .bool true), (12, .int .i64 a0_Y), (13, .pointer (some ⟨b432, 1, none⟩))]) (by kernel_rfl) ?_
    refine t_v (.ld1 rfl rfl rfl (.at 0 rfl rfl)) ?_
    refine t_qz 3 [4] (σ' := [(4, .bool (a0_Y == b1_Y))]) (by kernel_rfl) ?_
    refine t_end ?_
    show W _ _ _ _ _ _ _
    refine w_ret ?_
    obtain rfl := Option.some.inj e
    exact ⟨[.bool (a0_Y == b1_Y)], [], S, ⟨rfl, trivial⟩, VS.none, rfl, rfl, rfl⟩
  · rw [if_neg c433] at e
    have c433b : (a0_X == b1_X) = false := beq_eq_false_iff_ne.mpr c433
    refine t_v (dv_quiet rfl (congrArg (fun t => some (Value.bool t)) c433b)) ?_
    refine t_qz 8 [4] (σ' := [(4, .bool false)]) (by kernel_rfl) ?_
    refine t_end ?_
    show W _ _ _ _ _ _ _
    refine w_ret ?_
    obtain rfl := Option.some.inj e
    exact ⟨[.bool false], [], S, ⟨rfl, trivial⟩, VS.none, rfl, rfl, rfl⟩

def bits_OnesCount64.f (x0 : Int) : Option (Int) := (some (wru64 ((bits .and .u64 (Int.fdiv x0 2) 6148914691236517205) + (bits .and .u64 x0 6148914691236517205)))).bind fun v439 => ((some (wru64 ((bits .and .u64 (Int.fdiv v439 4) 3689348814741910323) + (bits .and .u64 v439 3689348814741910323)))).bind fun v441 => ((some (bits .and .u64 (wru64 ((Int.fdiv v441 16) + v441)) 1085102592571150095)).bind fun v443 => ((some (wru64 ((wru64 (v443 + (Int.fdiv v443 256))) + (Int.fdiv (wru64 (v443 + (Int.fdiv v443 256))) 65536)))).bind fun v445 => ((some (bits .and .i64 (wr64 (wru64 (v445 + (Int.fdiv v445 4294967296)))) 127)).bind fun v447 => (some v447)))))
theorem bits_OnesCount64.ok {S : Seal} {x0 : Int} {r0_ : Int}(e : bits_OnesCount64.f x0 = some r0_) :
    Cal Try.prog 85 [.int .u64 x0] [] S fun v H' S' => v = .int .i64 r0_ ∧ H' = [] ∧ S' = S := by
  unfold bits_OnesCount64.f at e
  refine cal_of (c := c85) (N := 35) Try.func85 rfl rfl (by kernel_rfl) (rs := [.t 2]) (by kernel_rfl) (Nat.le_of_ble_eq_true rfl) ?_
  unfold c85
  refine w_seq ?_
  refine w_reg fun all => ?_
  refine t_qz 1 [0] (σ' := [(0, .int .u64 x0)]) (by kernel_rfl) ?_
  refine t_end ?_
  show W _ _ _ _ _ _ _
  refine w_seq ?_
  refine w_reg fun all => ?_
  obtain ⟨v439, hv440, e⟩ := bind_of e
  have hv440b := Option.some.inj hv440
  refine t_qz 5 [5, 7] (σ' := [(5, .int .u64 (bits .and .u64 (Int.fdiv x0 2) 6148914691236517205)), (7, .int .u64 (bits .and .u64 x0 6148914691236517205))]) (by kernel_rfl) ?_
  refine t_v (dv_quiet rfl (congrArg (fun t => some (Value.int .u64 t)) hv440b)) ?_
  refine t_qz 1 [0] (σ' := [(0, .int .u64 v439)]) (by kernel_rfl) ?_
  refine t_end ?_
  show W _ _ _ _ _ _ _
  refine w_seq ?_
  refine w_reg fun all => ?_
  obtain ⟨v441, hv442, e⟩ := bind_of e
  have hv442b := Option.some.inj hv442
  refine t_qz 5 [11, 13] (σ' := [(11, .int .u64 (bits .and .u64 (Int.fdiv v439 4) 3689348814741910323)), (13, .int .u64 (bits .and .u64 v439 3689348814741910323))]) (by kernel_rfl) ?_
  refine t_v (dv_quiet rfl (congrArg (fun t => some (Value.int .u64 t)) hv442b)) ?_
  refine t_qz 1 [0] (σ' := [(0, .int .u64 v441)]) (by kernel_rfl) ?_
  refine t_end ?_
  show W _ _ _ _ _ _ _
  refine w_seq ?_
  refine w_reg fun all => ?_
  obtain ⟨v443, hv444, e⟩ := bind_of e
  have hv444b := Option.some.inj hv444
  refine t_qz 4 [18] (σ' := [(18, .int .u64 (wru64 ((Int.fdiv v441 16) + v441)))]) (by kernel_rfl) ?_
  refine t_v (dv_quiet rfl (congrArg (fun t => some (Value.int .u64 t)) hv444b)) ?_
  refine t_qz 1 [0] (σ' := [(0, .int .u64 v443)]) (by kernel_rfl) ?_
  refine t_end ?_
  show W _ _ _ _ _ _ _
  refine w_seq ?_
  refine w_reg fun all => ?_
  refine t_qz 5 [0] (σ' := [(0, .int .u64 (wru64 (v443 + (Int.fdiv v443 256))))]) (by kernel_rfl) ?_
  refine t_end ?_
  show W _ _ _ _ _ _ _
  refine w_seq ?_
  refine w_reg fun all => ?_
  obtain ⟨v445, hv446, e⟩ := bind_of e
  have hv446b := Option.some.inj hv446
  refine t_qz 3 [24, 26] (σ' := [(24, .int .u64 (wru64 (v443 + (Int.fdiv v443 256)))), (26, .int .u64 (Int.fdiv (wru64 (v443 + (Int.fdiv v443 256))) 65536))]) (by kernel_rfl) ?_
  refine t_v (dv_quiet rfl (congrArg (fun t => some (Value.int .u64 t)) hv446b)) ?_
  refine t_qz 1 [0] (σ' := [(0, .int .u64 v445)]) (by kernel_rfl) ?_
  refine t_end ?_
  show W _ _ _ _ _ _ _
  refine w_seq ?_
  refine w_reg fun all => ?_
  refine t_qz 5 [0] (σ' := [(0, .int .u64 (wru64 (v445 + (Int.fdiv v445 4294967296))))]) (by kernel_rfl) ?_
  refine t_end ?_
  show W _ _ _ _ _ _ _
  refine w_seq ?_
  refine w_reg fun all => ?_
  obtain ⟨v447, hv448, e⟩ := bind_of e
  have hv448b := Option.some.inj hv448
  refine t_qz 2 [33] (σ' := [(33, .int .i64 (wr64 (wru64 (v445 + (Int.fdiv v445 4294967296)))))]) (by kernel_rfl) ?_
  refine t_v (dv_quiet rfl (congrArg (fun t => some (Value.int .i64 t)) hv448b)) ?_
  refine t_qz 1 [2] (σ' := [(2, .int .i64 v447)]) (by kernel_rfl) ?_
  refine t_end ?_
  show W _ _ _ _ _ _ _
  refine w_ret ?_
  obtain rfl := Option.some.inj e
  exact ⟨[.int .i64 v447], [], S, ⟨rfl, trivial⟩, VS.none, rfl, rfl, rfl⟩

def sweep_Count.f (mask0 : Int) : Option (Int) := (bits_OnesCount64.f mask0).bind fun t449 => (some t449)
theorem sweep_Count.ok {S : Seal} {mask0 : Int} {r0_ : Int}(e : sweep_Count.f mask0 = some r0_) :
    Cal Try.prog 42 [.int .u64 mask0] [] S fun v H' S' => v = .int .i64 r0_ ∧ H' = [] ∧ S' = S := by
  unfold sweep_Count.f at e
  refine cal_of (c := c42) (N := 5) Try.func42 rfl rfl (by kernel_rfl) (rs := [.t 2]) (by kernel_rfl) (Nat.le_of_ble_eq_true rfl) ?_
  unfold c42
  refine w_seq ?_
  refine w_reg fun all => ?_
  refine t_qz 1 [0] (σ' := [(0, .int .u64 mask0)]) (by kernel_rfl) ?_
  refine t_end ?_
  show W _ _ _ _ _ _ _
  refine w_seq ?_
  refine w_reg fun all => ?_
  obtain ⟨t449, h450, e⟩ := bind_of e
  refine t_qz 1 [3] (σ' := [(3, .int .u64 mask0)]) (by kernel_rfl) ?_
  refine t_v (.call (vs := [.int .u64 mask0]) rfl rfl (by kernel_rfl) (bits_OnesCount64.ok h450)) ?_
  refine t_qz 1 [2] (σ' := [(2, .int .i64 t449)]) (by kernel_rfl) ?_
  refine t_end ?_
  show W _ _ _ _ _ _ _
  refine w_ret ?_
  obtain rfl := Option.some.inj e
  exact ⟨[.int .i64 t449], [], S, ⟨rfl, trivial⟩, VS.none, rfl, rfl, rfl⟩

/-- glyphicref20.Bits -/
def c50 : C :=
  (.seq (.reg [⟨(some 2), .mv (.const (.int .i64 0)), none⟩])
  (.seq (.reg [⟨(some 3), .mv (.const (.int .i64 0)), none⟩])
  (.seq (.seq (.reg [⟨(some 4), .mv (.const (.int .i64 0)), none⟩])
   (.block 0 (.loop (.seq (.seq (.reg [⟨(some 5), .mv (.tmp 4), none⟩,
         ⟨(some 6), .bin .lss (.tmp 5) (.const (.int .i64 64)), none⟩])
      (.cond (.tmp 6)
       .skip
       (.exit 0)))
     (.seq (.block 1 (.reg [⟨(some 9), .mv (.tmp 3), none⟩,
         ⟨(some 10), .mv (.tmp 0), none⟩,
         ⟨(some 11), .mv (.tmp 4), none⟩,
         ⟨(some 12), .cnv .u64 (.tmp 11), none⟩,
         ⟨(some 13), .bin .shr (.tmp 10) (.tmp 12), none⟩,
         ⟨(some 14), .bin .and (.tmp 13) (.const (.int .u64 1)), none⟩,
         ⟨(some 15), .cnv .i64 (.tmp 14), none⟩,
         ⟨(some 16), .bin .add (.tmp 9) (.tmp 15), none⟩,
         ⟨(some 3), .mv (.tmp 16), none⟩]))
     (.reg [⟨(some 7), .mv (.tmp 4), none⟩,
       ⟨(some 8), .bin .add (.tmp 7) (.const (.int .i64 1)), none⟩,
       ⟨(some 4), .mv (.tmp 8), none⟩]))))))
  (.seq (.reg [⟨(some 17), .mv (.tmp 3), none⟩,
     ⟨(some 2), .mv (.tmp 17), none⟩])
  .ret))))
def glyphicref20_Bits.l0 : Nat → Int → Int → Int → Option (Int)
  | 0, _, _, _ => none
  | k + 1, m0, x456, x457 => if x457 < 64 then (if (wru64 x457) < 0 then none else (glyphicref20_Bits.l0 k m0 (wr64 (x456 + (wr64 (bits .and .u64 (Int.fdiv m0 (2 ^ (min (Int.toNat (wru64 x457)) 64))) 1)))) (wr64 (x457 + 1)))) else (some x456)
def glyphicref20_Bits.f (k : Nat) (m0 : Int) : Option (Int) := (glyphicref20_Bits.l0 k m0 0 0 : Option (Int)).bind fun x462 => (some x462)
theorem glyphicref20_Bits.ok {S : Seal} {k : Nat} {m0 : Int} {r0_ : Int}(e : glyphicref20_Bits.f k m0 = some r0_) :
    Cal Try.prog 50 [.int .u64 m0] [] S fun v H' S' => v = .int .i64 r0_ ∧ H' = [] ∧ S' = S := by
  unfold glyphicref20_Bits.f at e
  refine cal_of (c := c50) (N := 18) Try.func50 rfl rfl (by kernel_rfl) (rs := [.t 2]) (by kernel_rfl) (Nat.le_of_ble_eq_true rfl) ?_
  unfold c50
  refine w_seq ?_
  refine w_reg fun all => ?_
  refine t_qz 1 [0] (σ' := [(0, .int .u64 m0)]) (by kernel_rfl) ?_
  refine t_end ?_
  show W _ _ _ _ _ _ _
  refine w_seq ?_
  refine w_reg fun all => ?_
  refine t_qz 1 [0, 3] (σ' := [(0, .int .u64 m0), (3, .int .i64 0)]) (by kernel_rfl) ?_
  refine t_end ?_
  show W _ _ _ _ _ _ _
  obtain ⟨x462, e454, e⟩ := bind_of e
  refine w_cut [3] (fun σ_ H_ S_ => [(3, .int .i64 x462)] = σ_ ∧ ([] : List Own) = H_ ∧ S = S_) ?_ ?_
  · show W _ _ _ _ _ _ _
    refine w_seq ?_
    refine w_reg fun all => ?_
    refine t_qz 1 [0, 3, 4] (σ' := [(0, .int .u64 m0), (3, .int .i64 0), (4, .int .i64 0)]) (by kernel_rfl) ?_
    refine t_end ?_
    show W _ _ _ _ _ _ _
    refine w_block ?_
    refine w_kp [0, 3, 4] (σ' := [(0, .int .u64 m0), (3, .int .i64 0), (4, .int .i64 0)]) (by kernel_rfl) ?_
    refine w_loop (fun n_ σ_ H_ S_ => ∃ (x456 : Int) (x457 : Int), [(0, .int .u64 m0), (3, .int .i64 x456), (4, .int .i64 x457)] = σ_ ∧ ([] : List Own) = H_ ∧ S = S_ ∧ glyphicref20_Bits.l0 n_ m0 x456 x457 = some x462) _ ⟨0, 0, rfl, rfl, rfl, e454⟩ ?_
    rintro n461 σ_ H_ S_ ⟨x456, x457, rfl, rfl, rfl, e454⟩
    cases n461 with
    | zero => rw [glyphicref20_Bits.l0.eq_1] at e454; cases e454
    | succ k_ =>
      rw [glyphicref20_Bits.l0.eq_2] at e454
      refine w_seq ?_
      refine w_seq ?_
      refine w_reg fun all => ?_
      by_cases c458 : x457 < 64
      · rw [if_pos c458] at e454
        have c458b : (decide (x457 < 64)) = true := decide_eq_true c458
        refine t_qz 1 [0, 3, 4, 5] (σ' := [(0, .int .u64 m0), (3, .int .i64 x456), (4, .int .i64 x457), (5, .int .i64 x457)]) (by kernel_rfl) ?_
        refine t_v (dv_quiet rfl (congrArg (fun t => some (Value.bool t)) c458b)) ?_
        refine t_keep [0, 3, 4, 6] (σ' := [(0, .int .u64 m0), (3, .int .i64 x456), (4, .int .i64 x457), (6, .bool true)]) (by kernel_rfl) ?_
        refine t_end ?_
        show W _ _ _ _ _ _ _
        refine w_cond rfl (fun _ => ?_) (fun c_ => by cases c_)
        show W _ _ _ _ _ _ _
        refine w_skip ?_
        show W _ _ _ _ _ _ _
        refine w_seq ?_
        refine w_block ?_
        refine w_reg fun all => ?_
        have c459 : ¬ (wru64 x457) < 0 := by
          intro h_; rw [if_pos h_] at e454; cases e454
        rw [if_neg c459] at e454
        refine t_qz 4 [0, 4, 9, 10, 12] (σ' := [(0, .int .u64 m0), (4, .int .i64 x457), (9, .int .i64 x456), (10, .int .u64 m0), (12, .int .u64 (wru64 x457))]) (by kernel_rfl) ?_
        refine t_v (.quiet rfl (qv_shr rfl rfl c459)) ?_
        refine t_qz 4 [0, 3, 4] (σ' := [(0, .int .u64 m0), (3, .int .i64 (wr64 (x456 + (wr64 (bits .and .u64 (Int.fdiv m0 (2 ^ (min (Int.toNat (wru64 x457)) 64))) 1))))), (4, .int .i64 x457)]) (by kernel_rfl) ?_
        refine t_end ?_
        show W _ _ _ _ _ _ _
        refine w_reg fun all => ?_
        refine t_qz 3 [0, 3, 4] (σ' := [(0, .int .u64 m0), (3, .int .i64 (wr64 (x456 + (wr64 (bits .and .u64 (Int.fdiv m0 (2 ^ (min (Int.toNat (wru64 x457)) 64))) 1))))), (4, .int .i64 (wr64 (x457 + 1)))]) (by kernel_rfl) ?_
        refine t_end ?_
        exact ⟨k_, Nat.lt_succ_self _, [(0, .int .u64 m0), (3, .int .i64 (wr64 (x456 + (wr64 (bits .and .u64 (Int.fdiv m0 (2 ^ (min (Int.toNat (wru64 x457)) 64))) 1))))), (4, .int .i64 (wr64 (x457 + 1)))], ([] : List Own), S, keep_sub [0, 3, 4] (by kernel_rfl), VS.sel [] (by kernel_rfl), wr64 (x456 + (wr64 (bits .and .u64 (Int.fdiv m0 (2 ^ (min (Int.toNat (wru64 x457)) 64))) 1))), wr64 (x457 + 1), rfl, rfl, rfl, e454⟩
      · rw [if_neg c458] at e454
        have c458b : (decide (x457 < 64)) = false := decide_eq_false c458
        refine t_qz 1 [0, 3, 4, 5] (σ' := [(0, .int .u64 m0), (3, .int .i64 x456), (4, .int .i64 x457), (5, .int .i64 x457)]) (by kernel_rfl) ?_
        refine t_v (dv_quiet rfl (congrArg (fun t => some (Value.bool t)) c458b)) ?_
        refine t_keep [0, 3, 4, 6] (σ' := [(0, .int .u64 m0), (3, .int .i64 x456), (4, .int .i64 x457), (6, .bool false)]) (by kernel_rfl) ?_
        refine t_end ?_
        show W _ _ _ _ _ _ _
        refine w_cond rfl (fun c_ => by cases c_) (fun _ => ?_)
        show W _ _ _ _ _ _ _
        refine w_exit ?_
        obtain rfl := Option.some.inj e454
        exact ⟨([] : List Own), S, VS.sel [] (by kernel_rfl), by kernel_rfl, rfl, rfl⟩
  · rintro σ_ H_ S_ ⟨rfl, rfl, rfl⟩
    refine w_seq ?_
    refine w_reg fun all => ?_
    refine t_qz 2 [2] (σ' := [(2, .int .i64 x462)]) (by kernel_rfl) ?_
    refine t_end ?_
    show W _ _ _ _ _ _ _
    refine w_ret ?_
    obtain rfl := Option.some.inj e
    exact ⟨[.int .i64 x462], [], S, ⟨rfl, trivial⟩, VS.none, rfl, rfl, rfl⟩

/-- glyphiclaw24.SweepSays -/
def c10 : C :=
  (.seq (.reg [⟨(some 12), .mv (.const (.bool false)), none⟩])
  (.seq (.reg [⟨(some 21), .call 40 [], none⟩,
     ⟨(some 13), .mv (.tmp 21), none⟩])
  (.seq (.seq (.reg [⟨(some 22), .mv (.tmp 13), none⟩,
      ⟨(some 23), .un .not (.tmp 22), none⟩])
   (.cond (.tmp 23)
    (.seq (.reg [⟨(some 12), .mv (.const (.bool false)), none⟩])
     .ret)
    .skip))
  (.seq (.seq (.reg [⟨(some 24), .mv (.tmp 0), none⟩,
      ⟨(some 25), .lns (.tmp 24), none⟩,
      ⟨(some 26), .bin .gtr (.tmp 25) (.const (.int .i64 150)), none⟩])
   (.cond (.tmp 26)
    (.seq (.reg [⟨(some 27), .mv (.tmp 13), none⟩,
        ⟨(some 12), .mv (.tmp 27), none⟩])
     .ret)
    .skip))
  (.seq (.reg [⟨(some 28), .mv (.tmp 0), none⟩,
     ⟨(some 29), .bld [(.slice none 0 0), (.int .i64 0)] [(0, 1, (.tmp 28))], none⟩,
     ⟨(some 30), .box (.tmp 29), none⟩,
     ⟨(some 14), .mv (.tmp 30), none⟩])
  (.seq (.reg [⟨(some 31), .mv (.tmp 14), none⟩,
     ⟨(some 32), .call 37 [(.tmp 31), (.const (.int .i64 1500))], none⟩,
     ⟨(some 33), .bin .add (.tmp 32) (.const (.int .i64 50)), none⟩,
     ⟨(some 15), .mv (.tmp 33), none⟩])
  (.seq (.reg [⟨(some 34), .mv (.tmp 14), none⟩,
     ⟨(some 35), .mv (.tmp 15), none⟩,
     ⟨(some 36), .call 43 [(.tmp 34), (.const (.int .i64 10)), (.tmp 35)], none⟩,
     ⟨(some 16), .mv (.tmp 36), none⟩])
  (.seq (.seq (.reg [⟨(some 37), .mv (.tmp 14), none⟩,
      ⟨(some 38), .call 37 [(.tmp 37), (.const (.int .i64 3))], none⟩,
      ⟨(some 39), .bin .eql (.tmp 38) (.const (.int .i64 0)), none⟩])
   (.cond (.tmp 39)
    (.reg [⟨(some 40), .mv (.tmp 16), none⟩,
       ⟨(some 41), .mv (.tmp 14), none⟩,
       ⟨(some 42), .mv (.tmp 15), none⟩,
       ⟨(some 43), .call 17 [(.tmp 41), (.const (.int .i64 8)), (.tmp 42)], none⟩,
       ⟨(some 44), .app 36 4 32 [(.int .i64 0), (.int .i64 0), (.int .i64 0), (.int .i64 0)] (.tmp 40) (.tmp 43), none⟩,
       ⟨(some 16), .mv (.tmp 44), none⟩])
    .skip))
  (.seq (.reg [⟨(some 45), .mv (.tmp 3), none⟩,
     ⟨(some 46), .call 44 [(.tmp 45), (.const (.int .i64 12))], none⟩,
     ⟨(some 47), .bin .sub (.tmp 46) (.const (.int .i64 4)), none⟩,
     ⟨(some 3), .mv (.tmp 47), none⟩])
  (.seq (.reg [⟨(some 48), .mv (.tmp 4), none⟩,
     ⟨(some 49), .call 44 [(.tmp 48), (.const (.int .i64 7))], none⟩,
     ⟨(some 4), .mv (.tmp 49), none⟩])
  (.seq (.reg [⟨(some 50), .mv (.tmp 2), none⟩,
     ⟨(some 51), .bin .and (.tmp 50) (.const (.int .i64 65535)), none⟩,
     ⟨(some 52), .call 44 [(.tmp 51), (.const (.int .i64 900))], none⟩,
     ⟨(some 2), .mv (.tmp 52), none⟩])
  (.seq (.reg [⟨(some 53), .mv (.tmp 16), none⟩,
     ⟨(some 54), .mv (.tmp 1), none⟩,
     ⟨(some 55), .bin .and (.tmp 54) (.const (.int .i64 1)), none⟩,
     ⟨(some 56), .mv (.tmp 3), none⟩,
     ⟨(some 57), .mv (.tmp 4), none⟩,
     ⟨(some 58), .call 41 [(.tmp 53), (.tmp 55), (.tmp 56), (.tmp 57)], none⟩,
     ⟨(some 17), .mv (.tmp 58), none⟩])
  (.seq (.reg [⟨(some 59), .mv (.tmp 16), none⟩,
     ⟨(some 60), .mv (.tmp 2), none⟩,
     ⟨(some 61), .mv (.tmp 3), none⟩,
     ⟨(some 62), .mv (.tmp 4), none⟩,
     ⟨(some 63), .call 45 [(.tmp 59), (.tmp 60), (.tmp 61), (.tmp 62)], none⟩,
     ⟨(some 18), .mv (.tmp 63), none⟩])
  (.seq (.seq (.reg [⟨(some 64), .mv (.tmp 17), none⟩,
      ⟨(some 65), .lns (.tmp 64), none⟩,
      ⟨(some 66), .mv (.tmp 4), none⟩,
      ⟨(some 67), .bin .neq (.tmp 65) (.tmp 66), none⟩,
      ⟨(some 68), .mv (.tmp 67), none⟩,
      ⟨(some 69), .mv (.tmp 18), (some (68, false))⟩,
      ⟨(some 70), .lns (.tmp 69), (some (68, false))⟩,
      ⟨(some 71), .mv (.tmp 4), (some (68, false))⟩,
      ⟨(some 72), .bin .neq (.tmp 70) (.tmp 71), (some (68, false))⟩,
      ⟨(some 73), .pk (.tmp 68) (.const (.bool true)) (.tmp 72), none⟩])
   (.cond (.tmp 73)
    (.seq (.reg [⟨(some 12), .mv (.const (.bool false)), none⟩])
     .ret)
    .skip))
  (.seq (.seq (.reg [⟨(some 19), .mv (.const (.int .i64 0)), none⟩])
   (.block 0 (.loop (.seq (.seq (.reg [⟨(some 74), .mv (.tmp 19), none⟩,
         ⟨(some 75), .mv (.tmp 4), none⟩,
         ⟨(some 76), .bin .lss (.tmp 74) (.tmp 75), none⟩])
      (.cond (.tmp 76)
       .skip
       (.exit 0)))
     (.seq (.block 1 (.seq (.drw [⟨(some 79), .mv (.tmp 17), none⟩,
          ⟨(some 80), .mv (.tmp 19), none⟩,
          ⟨(some 81), .ixs 1 (.tmp 79) (.tmp 80), none⟩,
          ⟨(some 82), .ld none (.tmp 81), none⟩,
          ⟨(some 83), .mv (.tmp 16), none⟩,
          ⟨(some 84), .mv (.tmp 1), none⟩,
          ⟨(some 85), .bin .and (.tmp 84) (.const (.int .i64 1)), none⟩,
          ⟨(some 86), .mv (.tmp 19), none⟩,
          ⟨(some 87), .mv (.tmp 3), none⟩,
          ⟨(some 88), .call 46 [(.tmp 83), (.tmp 85), (.tmp 86), (.tmp 87)], none⟩,
          ⟨(some 89), .bin .neq (.tmp 82) (.tmp 88), none⟩,
          ⟨(some 90), .mv (.tmp 89), none⟩,
          ⟨(some 91), .mv (.tmp 18), (some (90, false))⟩,
          ⟨(some 92), .mv (.tmp 19), (some (90, false))⟩,
          ⟨(some 93), .ixs 1 (.tmp 91) (.tmp 92), (some (90, false))⟩,
          ⟨(some 94), .ld none (.tmp 93), (some (90, false))⟩,
          ⟨(some 95), .mv (.tmp 16), (some (90, false))⟩,
          ⟨(some 96), .mv (.tmp 2), (some (90, false))⟩,
          ⟨(some 97), .mv (.tmp 19), (some (90, false))⟩,
          ⟨(some 98), .mv (.tmp 3), (some (90, false))⟩,
          ⟨(some 99), .call 47 [(.tmp 95), (.tmp 96), (.tmp 97), (.tmp 98)], (some (90, false))⟩,
          ⟨(some 100), .bin .neq (.tmp 94) (.tmp 99), (some (90, false))⟩,
          ⟨(some 101), .pk (.tmp 90) (.const (.bool true)) (.tmp 100), none⟩] [[], [], [0, 1], [2], [], [], [5], [], [], [4, 6, 7, 8], [3, 9], [10, 9], [11], [11], [12, 13, 11], [14, 11], [11], [11], [11], [11], [16, 17, 18, 19, 11, 11], [15, 20, 11], [11, 21]])
       (.cond (.tmp 101)
        (.seq (.reg [⟨(some 12), .mv (.const (.bool false)), none⟩])
         .ret)
        .skip)))
     (.reg [⟨(some 77), .mv (.tmp 19), none⟩,
       ⟨(some 78), .bin .add (.tmp 77) (.const (.int .i64 1)), none⟩,
       ⟨(some 19), .mv (.tmp 78), none⟩]))))))
  (.seq (.seq (.reg [⟨(some 20), .mv (.const (.int .i64 0)), none⟩])
   (.block 2 (.loop (.seq (.seq (.reg [⟨(some 102), .mv (.tmp 20), none⟩,
         ⟨(some 103), .bin .lss (.tmp 102) (.const (.int .i64 64)), none⟩])
      (.cond (.tmp 103)
       .skip
       (.exit 2)))
     (.seq (.block 3 (.seq (.reg [⟨(some 106), .mv (.tmp 4), none⟩,
          ⟨(some 107), .mv (.tmp 3), none⟩,
          ⟨(some 108), .mv (.tmp 20), none⟩,
          ⟨(some 109), .call 48 [(.tmp 106), (.tmp 107), (.tmp 108)], none⟩,
          ⟨(some 110), .mv (.tmp 4), none⟩,
          ⟨(some 111), .mv (.tmp 3), none⟩,
          ⟨(some 112), .mv (.tmp 20), none⟩,
          ⟨(some 113), .call 49 [(.tmp 110), (.tmp 111), (.tmp 112)], none⟩,
          ⟨(some 114), .call 25 [(.tmp 109), (.tmp 113)], none⟩,
          ⟨(some 115), .un .not (.tmp 114), none⟩])
       (.cond (.tmp 115)
        (.seq (.reg [⟨(some 12), .mv (.const (.bool false)), none⟩])
         .ret)
        .skip)))
     (.reg [⟨(some 104), .mv (.tmp 20), none⟩,
       ⟨(some 105), .bin .add (.tmp 104) (.const (.int .i64 1)), none⟩,
       ⟨(some 20), .mv (.tmp 105), none⟩]))))))
  (.seq (.reg [⟨(some 116), .mv (.tmp 13), none⟩,
     ⟨(some 117), .mv (.tmp 116), none⟩,
     ⟨(some 118), .mv (.tmp 5), (some (117, true))⟩,
     ⟨(some 119), .call 42 [(.tmp 118)], (some (117, true))⟩,
     ⟨(some 120), .mv (.tmp 5), (some (117, true))⟩,
     ⟨(some 121), .call 50 [(.tmp 120)], (some (117, true))⟩,
     ⟨(some 122), .bin .eql (.tmp 119) (.tmp 121), (some (117, true))⟩,
     ⟨(some 123), .pk (.tmp 117) (.tmp 122) (.const (.bool false)), none⟩,
     ⟨(some 12), .mv (.tmp 123), none⟩])
  .ret)))))))))))))))))
def glyphiclaw24_SweepSays.l0 : Nat → List (Int) → Int → List (Int × Int × Int × Int) → Int → Int → Int → List (Int) → List (Int) → Int → Option ((Bool) ⊕ (Int))
  | 0, _, _, _, _, _, _, _, _, _ => none
  | k + 1, l0, rule1, y278, t280, t282, t284, t286, t399, x407 => if x407 < t282 then ((lgt t286 x407).bind fun x409 => ((glyphicref20_Fill_v1.f k y278 (bits .and .i64 rule1 1) x407 (wr64 (t280 - 4))).bind fun t411 => (if x409 = t411 then ((lgt t399 x407).bind fun x414 => ((glyphicref20_Line_v1.f k y278 t284 x407 (wr64 (t280 - 4))).bind fun t416 => (if x414 = t416 then (glyphiclaw24_SweepSays.l0 k l0 rule1 y278 t280 t282 t284 t286 t399 (wr64 (x407 + 1))) else (some (.inl false))))) else (some (.inl false))))) else (some (.inr (wr64 (t280 - 4))))
def glyphiclaw24_SweepSays.l1 : Nat → Int → Int → Int → Option ((Bool) ⊕ (Unit))
  | 0, _, _, _ => none
  | k + 1, t282, x421, x425 => if x425 < 64 then ((sweep_Sample.f t282 x421 x425).bind fun (t427, t428) => ((glyphicref20_Sample.f t282 x421 x425).bind fun (t430, t431) => ((glyphicref_SamePoint.f t427 t428 t430 t431).bind fun t433 => (if t433 = true then (glyphiclaw24_SweepSays.l1 k t282 x421 (wr64 (x425 + 1))) else (some (.inl false)))))) else (some (.inr ()))
def glyphiclaw24_SweepSays.f (k : Nat) (l0 : List (Int)) (rule1 : Int) (wide2 : Int) (y3 : Int) (w4 : Int) (mask5 : Int) : Option (Bool) := (glyphiclaw24_first.f k).bind fun t123 => (if t123 = true then (if (l0.length : Int) > 150 then (some true) else ((glyphicmake_Seq_Next_v1.f 1500 l0 0).bind fun (t163, t164) => ((glyphicmake_Ring_v1.f k 10 (wr64 (t163 + 50)) l0 t164).bind fun (t258, t259) => (((glyphicmake_Seq_Next_v1.f 3 l0 t259).bind fun (t265, t266) => (if t265 = 0 then ((glyphicmake_Edges_v1.f k 8 (wr64 (t163 + 50)) l0 t266).bind fun (t269, t270) => ((lapp t258 t269).bind fun y273 => (some (true, y273, t270)))) else (some (true, t258, t266))) : Option (Bool × List (Int × Int × Int × Int) × Int)).bind fun (x276, y278, x279) => ((glyphicworld_Number.f y3 12).bind fun t280 => ((glyphicworld_Number.f w4 7).bind fun t282 => ((glyphicworld_Number.f (bits .and .i64 wide2 65535) 900).bind fun t284 => ((sweep_Fill_v1.f k y278 (bits .and .i64 rule1 1) (wr64 (t280 - 4)) t282).bind fun t286 => ((sweep_Line_v1.f k y278 t284 (wr64 (t280 - 4)) t282).bind fun t399 => (if (t286.length : Int) = t282 then (if (t399.length : Int) = t282 then ((glyphiclaw24_SweepSays.l0 k l0 rule1 y278 t280 t282 t284 t286 t399 0 : Option ((Bool) ⊕ (Int))).bind fun s_ => match s_ with | .inl q466 => some q466 | .inr x421 => ((glyphiclaw24_SweepSays.l1 k t282 x421 0 : Option ((Bool) ⊕ (Unit))).bind fun s_ => match s_ with | .inl q465 => some q465 | .inr _ => (if x276 = true then ((sweep_Count.f mask5).bind fun t451 => ((glyphicref20_Bits.f k mask5).bind fun t463 => (some (t451 == t463)))) else (some false)))) else (some false)) else (some false))))))))))) else (some false))
theorem glyphiclaw24_SweepSays.ok {S : Seal} {k : Nat} {l0 : List (Int)} {rule1 : Int} {wide2 : Int} {y3 : Int} {w4 : Int} {mask5 : Int} {a_l0 : Option Addr} {c_l0 : Nat} (h_l0 : SlE S E_i64 l0 a_l0) (e : glyphiclaw24_SweepSays.f k l0 rule1 wide2 y3 w4 mask5 = some true) :
    Cal Try.prog 10 [.slice a_l0 l0.length c_l0, .int .i64 rule1, .int .i64 wide2, .int .i64 y3, .int .i64 w4, .int .u64 mask5] [] S fun v H' S' => v = .bool true ∧ H' = [] ∧ S' = S := by
  unfold glyphiclaw24_SweepSays.f at e
  refine cal_of (c := c10) (N := 124) Try.func10 rfl rfl (by kernel_rfl) (rs := [.t 12]) (by kernel_rfl) (Nat.le_of_ble_eq_true rfl) ?_
  unfold c10
  refine w_seq ?_
  refine w_reg fun all => ?_
  refine t_qz 1 [0, 1, 2, 3, 4, 5] (σ' := [(0, .slice a_l0 l0.length c_l0), (1, .int .i64 rule1), (2, .int .i64 wide2), (3, .int .i64 y3), (4, .int .i64 w4), (5, .int .u64 mask5)]) (by kernel_rfl) ?_
  refine t_end ?_
  show W _ _ _ _ _ _ _
  refine w_seq ?_
  refine w_reg fun all => ?_
  obtain ⟨t123, h124, e⟩ := bind_of e
  cases t123 with
  | true =>
    rw [if_pos rfl] at e
    refine t_v (.call (vs := []) rfl rfl (by kernel_rfl) (glyphiclaw24_first.ok h124)) ?_
    refine t_qz 1 [0, 1, 2, 3, 4, 5, 13] (σ' := [(0, .slice a_l0 l0.length c_l0), (1, .int .i64 rule1), (2, .int .i64 wide2), (3, .int .i64 y3), (4, .int .i64 w4), (5, .int .u64 mask5), (13, .bool true)]) (by kernel_rfl) ?_
    refine t_end ?_
    show W _ _ _ _ _ _ _
    refine w_seq ?_
    refine w_seq ?_
    refine w_reg fun all => ?_
    refine t_qz 2 [0, 1, 2, 3, 4, 5, 13, 23] (σ' := [(0, .slice a_l0 l0.length c_l0), (1, .int .i64 rule1), (2, .int .i64 wide2), (3, .int .i64 y3), (4, .int .i64 w4), (5, .int .u64 mask5), (13, .bool true), (23, .bool false)]) (by kernel_rfl) ?_
    refine t_end ?_
    show W _ _ _ _ _ _ _
    refine w_cond rfl (fun c_ => by cases c_) (fun _ => ?_)
    show W _ _ _ _ _ _ _
    refine w_skip ?_
    show W _ _ _ _ _ _ _
    refine w_seq ?_
    refine w_seq ?_
    refine w_reg fun all => ?_
    by_cases c125 : (l0.length : Int) > 150
    · rw [if_pos c125] at e
      have c125b : (decide ((l0.length : Int) > 150)) = true := decide_eq_true c125
      refine t_qz 2 [0, 1, 2, 3, 4, 5, 13, 25] (σ' := [(0, .slice a_l0 l0.length c_l0), (1, .int .i64 rule1), (2, .int .i64 wide2), (3, .int .i64 y3), (4, .int .i64 w4), (5, .int .u64 mask5), (13, .bool true), (25, .int .i64 (l0.length : Int))]) (by kernel_rfl) ?_
      refine t_v (dv_quiet rfl (congrArg (fun t => some (Value.bool t)) c125b)) ?_
      refine t_keep [0, 1, 2, 3, 4, 5, 13, 26] (σ' := [(0, .slice a_l0 l0.length c_l0), (1, .int .i64 rule1), (2, .int .i64 wide2), (3, .int .i64 y3), (4, .int .i64 w4), (5, .int .u64 mask5), (13, .bool true), (26, .bool true)]) (by kernel_rfl) ?_
      refine t_end ?_
      show W _ _ _ _ _ _ _
      refine w_cond rfl (fun _ => ?_) (fun c_ => by cases c_)
      show W _ _ _ _ _ _ _
      refine w_seq ?_
      refine w_reg fun all => ?_
      refine t_qz 2 [12] (σ' := [(12, .bool true)]) (by kernel_rfl) ?_
      refine t_end ?_
      show W _ _ _ _ _ _ _
      refine w_ret ?_
      have hr_ := Option.some.inj e
      exact ⟨[.bool true], [], S, ⟨rfl, trivial⟩, VS.none, congrArg Value.bool hr_, rfl, rfl⟩
    · rw [if_neg c125] at e
      have c125b : (decide ((l0.length : Int) > 150)) = false := decide_eq_false c125
      refine t_qz 2 [0, 1, 2, 3, 4, 5, 13, 25] (σ' := [(0, .slice a_l0 l0.length c_l0), (1, .int .i64 rule1), (2, .int .i64 wide2), (3, .int .i64 y3), (4, .int .i64 w4), (5, .int .u64 mask5), (13, .bool true), (25, .int .i64 (l0.length : Int))]) (by kernel_rfl) ?_
      refine t_v (dv_quiet rfl (congrArg (fun t => some (Value.bool t)) c125b)) ?_
      refine t_keep [0, 1, 2, 3, 4, 5, 13, 26] (σ' := [(0, .slice a_l0 l0.length c_l0), (1, .int .i64 rule1), (2, .int .i64 wide2), (3, .int .i64 y3), (4, .int .i64 w4), (5, .int .u64 mask5), (13, .bool true), (26, .bool false)]) (by kernel_rfl) ?_
      refine t_end ?_
      show W _ _ _ _ _ _ _
      refine w_cond rfl (fun c_ => by cases c_) (fun _ => ?_)
      show W _ _ _ _ _ _ _
      refine w_skip ?_
      show W _ _ _ _ _ _ _
      refine w_seq ?_
      refine w_reg fun all => ?_
      refine t_qz 2 [1, 2, 3, 4, 5, 13, 29] (σ' := [(1, .int .i64 rule1), (2, .int .i64 wide2), (3, .int .i64 y3), (4, .int .i64 w4), (5, .int .u64 mask5), (13, .bool true), (29, .agg #[.slice a_l0 l0.length c_l0, .int .i64 0])]) (by kernel_rfl) ?_
      refine t_a (.box rfl rfl rfl) fun b126 fb126 sb126 => ?_
      refine t_qz 1 [1, 2, 3, 4, 5, 13, 14] (σ' := [(1, .int .i64 rule1), (2, .int .i64 wide2), (3, .int .i64 y3), (4, .int .i64 w4), (5, .int .u64 mask5), (13, .bool true), (14, .pointer (some ⟨b126, 0, none⟩))]) (by kernel_rfl) ?_
      refine t_end ?_
      show W _ _ _ _ _ _ _
      refine w_seq ?_
      refine w_reg fun all => ?_
      obtain ⟨⟨t163, t164⟩, h165, e⟩ := bind_of e
      try dsimp only at e
      refine t_qz 1 [1, 2, 3, 4, 5, 13, 14, 31] (σ' := [(1, .int .i64 rule1), (2, .int .i64 wide2), (3, .int .i64 y3), (4, .int .i64 w4), (5, .int .u64 mask5), (13, .bool true), (14, .pointer (some ⟨b126, 0, none⟩)), (31, .pointer (some ⟨b126, 0, none⟩))]) (by kernel_rfl) ?_
      refine t_call (vs := [.pointer (some ⟨b126, 0, none⟩), .int .i64 1500]) (H1 := ([⟨b126, [.slice a_l0 l0.length c_l0, .int .i64 0], 2⟩] : List Own)) (F := ([] : List Own)) rfl rfl (by kernel_rfl) (sel_perm (is := [0]) (by kernel_rfl)) (glyphicmake_Seq_Next_v1.ok h_l0 h165) ?_
      rintro _ _ S_ ⟨rfl, rfl, hS_⟩
      obtain rfl := hS_.symm
      refine t_qz 2 [1, 2, 3, 4, 5, 13, 14, 15] (σ' := [(1, .int .i64 rule1), (2, .int .i64 wide2), (3, .int .i64 y3), (4, .int .i64 w4), (5, .int .u64 mask5), (13, .bool true), (14, .pointer (some ⟨b126, 0, none⟩)), (15, .int .i64 (wr64 (t163 + 50)))]) (by kernel_rfl) ?_
      refine t_end ?_
      show W _ _ _ _ _ _ _
      refine w_seq ?_
      refine w_reg fun all => ?_
      obtain ⟨⟨t258, t259⟩, h260, e⟩ := bind_of e
      try dsimp only at e
      refine t_qz 2 [1, 2, 3, 4, 5, 13, 14, 15, 34, 35] (σ' := [(1, .int .i64 rule1), (2, .int .i64 wide2), (3, .int .i64 y3), (4, .int .i64 w4), (5, .int .u64 mask5), (13, .bool true), (14, .pointer (some ⟨b126, 0, none⟩)), (15, .int .i64 (wr64 (t163 + 50))), (34, .pointer (some ⟨b126, 0, none⟩)), (35, .int .i64 (wr64 (t163 + 50)))]) (by kernel_rfl) ?_
      refine t_call (vs := [.pointer (some ⟨b126, 0, none⟩), .int .i64 10, .int .i64 (wr64 (t163 + 50))]) (H1 := ([⟨b126, [.slice a_l0 l0.length c_l0, .int .i64 t164], 2⟩] : List Own)) (F := ([] : List Own)) rfl rfl (by kernel_rfl) (sel_perm (is := [0]) (by kernel_rfl)) (glyphicmake_Ring_v1.ok h_l0 h260) ?_
      rintro _ _ S_ ⟨N261, nN261, rfl, rfl, hS_⟩
      obtain rfl := hS_.symm
      refine t_qz 1 [1, 2, 3, 4, 5, 13, 14, 15, 16] (σ' := [(1, .int .i64 rule1), (2, .int .i64 wide2), (3, .int .i64 y3), (4, .int .i64 w4), (5, .int .u64 mask5), (13, .bool true), (14, .pointer (some ⟨b126, 0, none⟩)), (15, .int .i64 (wr64 (t163 + 50))), (16, .slice (ad N261) t258.length (nN261 / 4))]) (by kernel_rfl) ?_
      refine t_end ?_
      show W _ _ _ _ _ _ _
      obtain ⟨⟨x276, y278, x279⟩, e263, e⟩ := bind_of e
      try dsimp only at e
      refine w_cut [1, 2, 3, 4, 5, 13, 16] (fun σ_ H_ S_ => ∃ (a277 : Option Nat) (na277 : Nat), [(1, .int .i64 rule1), (2, .int .i64 wide2), (3, .int .i64 y3), (4, .int .i64 w4), (5, .int .u64 mask5), (13, .bool x276), (16, .slice (ad a277) y278.length (na277 / 4))] = σ_ ∧ ([⟨b126, [.slice a_l0 l0.length c_l0, .int .i64 x279], 2⟩, ⟨a277, encL E_i644 y278, na277⟩] : List Own) = H_ ∧ S = S_) ?_ ?_
      · show W _ _ _ _ _ _ _
        refine w_seq ?_
        refine w_reg fun all => ?_
        obtain ⟨⟨t265, t266⟩, h267, e263⟩ := bind_of e263
        try dsimp only at e263
        refine t_qz 1 [1, 2, 3, 4, 5, 13, 14, 15, 16, 37] (σ' := [(1, .int .i64 rule1), (2, .int .i64 wide2), (3, .int .i64 y3), (4, .int .i64 w4), (5, .int .u64 mask5), (13, .bool true), (14, .pointer (some ⟨b126, 0, none⟩)), (15, .int .i64 (wr64 (t163 + 50))), (16, .slice (ad N261) t258.length (nN261 / 4)), (37, .pointer (some ⟨b126, 0, none⟩))]) (by kernel_rfl) ?_
        refine t_call (vs := [.pointer (some ⟨b126, 0, none⟩), .int .i64 3]) (H1 := ([⟨b126, [.slice a_l0 l0.length c_l0, .int .i64 t259], 2⟩] : List Own)) (F := ([⟨N261, encL E_i644 t258, nN261⟩] : List Own)) rfl rfl (by kernel_rfl) (sel_perm (is := [1]) (by kernel_rfl)) (glyphicmake_Seq_Next_v1.ok h_l0 h267) ?_
        rintro _ _ S_ ⟨rfl, rfl, hS_⟩
        obtain rfl := hS_.symm
        by_cases c268 : t265 = 0
        · rw [if_pos c268] at e263
          have c268b : (t265 == 0) = true := beq_iff_eq.mpr c268
          refine t_v (dv_quiet rfl (congrArg (fun t => some (Value.bool t)) c268b)) ?_
          refine t_keep [1, 2, 3, 4, 5, 13, 14, 15, 16, 39] (σ' := [(1, .int .i64 rule1), (2, .int .i64 wide2), (3, .int .i64 y3), (4, .int .i64 w4), (5, .int .u64 mask5), (13, .bool true), (14, .pointer (some ⟨b126, 0, none⟩)), (15, .int .i64 (wr64 (t163 + 50))), (16, .slice (ad N261) t258.length (nN261 / 4)), (39, .bool true)]) (by kernel_rfl) ?_
          refine t_end ?_
          show W _ _ _ _ _ _ _
          refine w_cond rfl (fun _ => ?_) (fun c_ => by cases c_)
          show W _ _ _ _ _ _ _
          refine w_reg fun all => ?_
          obtain ⟨⟨t269, t270⟩, h271, e263⟩ := bind_of e263
          try dsimp only at e263
          refine t_qz 3 [1, 2, 3, 4, 5, 13, 40, 41, 42] (σ' := [(1, .int .i64 rule1), (2, .int .i64 wide2), (3, .int .i64 y3), (4, .int .i64 w4), (5, .int .u64 mask5), (13, .bool true), (40, .slice (ad N261) t258.length (nN261 / 4)), (41, .pointer (some ⟨b126, 0, none⟩)), (42, .int .i64 (wr64 (t163 + 50)))]) (by kernel_rfl) ?_
          refine t_call (vs := [.pointer (some ⟨b126, 0, none⟩), .int .i64 8, .int .i64 (wr64 (t163 + 50))]) (H1 := ([⟨b126, [.slice a_l0 l0.length c_l0, .int .i64 t266], 2⟩] : List Own)) (F := ([⟨N261, encL E_i644 t258, nN261⟩] : List Own)) rfl rfl (by kernel_rfl) (sel_perm (is := [0]) (by kernel_rfl)) (glyphicmake_Edges_v1.ok h_l0 h271) ?_
          rintro _ _ S_ ⟨N272, nN272, rfl, rfl, hS_⟩
          obtain rfl := hS_.symm
          obtain ⟨y273, hl274, e263⟩ := bind_of e263
          refine t_pure (fun w_ h_ => apO (E := E_i644) (z := 4) h_ (j := 0) rfl rfl (by decide)) fun hy_ => ?_
          refine t_appX (E := E_i644) (L := t258) (X := t269) (F := ([⟨N272, encL E_i644 t269, nN272⟩, ⟨b126, [.slice a_l0 l0.length c_l0, .int .i64 t270], 2⟩] : List Own)) rfl rfl rfl rfl (sel_perm (is := [2]) (by kernel_rfl)) rfl hy_ rfl (by decide) (by decide) rfl hl274 fun a275 na275 => ?_
          refine t_qz 1 [1, 2, 3, 4, 5, 13, 16] (σ' := [(1, .int .i64 rule1), (2, .int .i64 wide2), (3, .int .i64 y3), (4, .int .i64 w4), (5, .int .u64 mask5), (13, .bool true), (16, .slice (ad a275) y273.length (na275 / 4))]) (by kernel_rfl) ?_
          refine t_end ?_
          simp only [Option.some.injEq, Prod.mk.injEq] at e263
          obtain ⟨rfl, rfl, rfl⟩ := e263
          exact ⟨([⟨b126, [.slice a_l0 l0.length c_l0, .int .i64 t270], 2⟩, ⟨a275, encL E_i644 y273, na275⟩] : List Own), S, VS.sel [2, 0] (by kernel_rfl), a275, na275, by kernel_rfl, rfl, rfl⟩
        · rw [if_neg c268] at e263
          have c268b : (t265 == 0) = false := beq_eq_false_iff_ne.mpr c268
          refine t_v (dv_quiet rfl (congrArg (fun t => some (Value.bool t)) c268b)) ?_
          refine t_keep [1, 2, 3, 4, 5, 13, 14, 15, 16, 39] (σ' := [(1, .int .i64 rule1), (2, .int .i64 wide2), (3, .int .i64 y3), (4, .int .i64 w4), (5, .int .u64 mask5), (13, .bool true), (14, .pointer (some ⟨b126, 0, none⟩)), (15, .int .i64 (wr64 (t163 + 50))), (16, .slice (ad N261) t258.length (nN261 / 4)), (39, .bool false)]) (by kernel_rfl) ?_
          refine t_end ?_
          show W _ _ _ _ _ _ _
          refine w_cond rfl (fun c_ => by cases c_) (fun _ => ?_)
          show W _ _ _ _ _ _ _
          refine w_skip ?_
          simp only [Option.some.injEq, Prod.mk.injEq] at e263
          obtain ⟨rfl, rfl, rfl⟩ := e263
          exact ⟨([⟨b126, [.slice a_l0 l0.length c_l0, .int .i64 t266], 2⟩, ⟨N261, encL E_i644 t258, nN261⟩] : List Own), S, VS.sel [0, 0] (by kernel_rfl), N261, nN261, by kernel_rfl, rfl, rfl⟩
      · rintro σ_ H_ S_ ⟨a277, na277, rfl, rfl, rfl⟩
        refine w_seq ?_
        refine w_reg fun all => ?_
        obtain ⟨t280, h281, e⟩ := bind_of e
        refine t_qz 1 [1, 2, 4, 5, 13, 16, 45] (σ' := [(1, .int .i64 rule1), (2, .int .i64 wide2), (4, .int .i64 w4), (5, .int .u64 mask5), (13, .bool x276), (16, .slice (ad a277) y278.length (na277 / 4)), (45, .int .i64 y3)]) (by kernel_rfl) ?_
        refine t_v (.call (vs := [.int .i64 y3, .int .i64 12]) rfl rfl (by kernel_rfl) (glyphicworld_Number.ok h281)) ?_
        refine t_qz 2 [1, 2, 3, 4, 5, 13, 16] (σ' := [(1, .int .i64 rule1), (2, .int .i64 wide2), (3, .int .i64 (wr64 (t280 - 4))), (4, .int .i64 w4), (5, .int .u64 mask5), (13, .bool x276), (16, .slice (ad a277) y278.length (na277 / 4))]) (by kernel_rfl) ?_
        refine t_end ?_
        show W _ _ _ _ _ _ _
        refine w_seq ?_
        refine w_reg fun all => ?_
        obtain ⟨t282, h283, e⟩ := bind_of e
        refine t_qz 1 [1, 2, 3, 5, 13, 16, 48] (σ' := [(1, .int .i64 rule1), (2, .int .i64 wide2), (3, .int .i64 (wr64 (t280 - 4))), (5, .int .u64 mask5), (13, .bool x276), (16, .slice (ad a277) y278.length (na277 / 4)), (48, .int .i64 w4)]) (by kernel_rfl) ?_
        refine t_v (.call (vs := [.int .i64 w4, .int .i64 7]) rfl rfl (by kernel_rfl) (glyphicworld_Number.ok h283)) ?_
        refine t_qz 1 [1, 2, 3, 4, 5, 13, 16] (σ' := [(1, .int .i64 rule1), (2, .int .i64 wide2), (3, .int .i64 (wr64 (t280 - 4))), (4, .int .i64 t282), (5, .int .u64 mask5), (13, .bool x276), (16, .slice (ad a277) y278.length (na277 / 4))]) (by kernel_rfl) ?_
        refine t_end ?_
        show W _ _ _ _ _ _ _
        refine w_seq ?_
        refine w_reg fun all => ?_
        obtain ⟨t284, h285, e⟩ := bind_of e
        refine t_qz 2 [1, 3, 4, 5, 13, 16, 51] (σ' := [(1, .int .i64 rule1), (3, .int .i64 (wr64 (t280 - 4))), (4, .int .i64 t282), (5, .int .u64 mask5), (13, .bool x276), (16, .slice (ad a277) y278.length (na277 / 4)), (51, .int .i64 (bits .and .i64 wide2 65535))]) (by kernel_rfl) ?_
        refine t_v (.call (vs := [.int .i64 (bits .and .i64 wide2 65535), .int .i64 900]) rfl rfl (by kernel_rfl) (glyphicworld_Number.ok h285)) ?_
        refine t_qz 1 [1, 2, 3, 4, 5, 13, 16] (σ' := [(1, .int .i64 rule1), (2, .int .i64 t284), (3, .int .i64 (wr64 (t280 - 4))), (4, .int .i64 t282), (5, .int .u64 mask5), (13, .bool x276), (16, .slice (ad a277) y278.length (na277 / 4))]) (by kernel_rfl) ?_
        refine t_end ?_
        show W _ _ _ _ _ _ _
        refine w_seq ?_
        refine w_reg fun all => ?_
        obtain ⟨t286, h287, e⟩ := bind_of e
        refine t_qz 5 [1, 2, 3, 4, 5, 13, 16, 53, 55, 56, 57] (σ' := [(1, .int .i64 rule1), (2, .int .i64 t284), (3, .int .i64 (wr64 (t280 - 4))), (4, .int .i64 t282), (5, .int .u64 mask5), (13, .bool x276), (16, .slice (ad a277) y278.length (na277 / 4)), (53, .slice (ad a277) y278.length (na277 / 4)), (55, .int .i64 (bits .and .i64 rule1 1)), (56, .int .i64 (wr64 (t280 - 4))), (57, .int .i64 t282)]) (by kernel_rfl) ?_
        refine t_call (vs := [.slice (ad a277) y278.length (na277 / 4), .int .i64 (bits .and .i64 rule1 1), .int .i64 (wr64 (t280 - 4)), .int .i64 t282]) (H1 := ([⟨a277, encL E_i644 y278, na277⟩] : List Own)) (F := ([⟨b126, [.slice a_l0 l0.length c_l0, .int .i64 x279], 2⟩] : List Own)) rfl rfl (by kernel_rfl) (sel_perm (is := [1]) (by kernel_rfl)) (cal_lend (Qc := fun v_ H_ => ∃ (N288 : Option Nat) (nN288 : Nat), v_ = (.slice (ad N288) t286.length (nN288 / 1)) ∧ H_ = ([⟨N288, encL E_u64 t286, nN288⟩] : List Own)) fun S1_ le1_ hS1_ => (sweep_Fill_v1.ok (SlE.ofAd (E := E_i644) (L := y278) hS1_ (by decide)) h287).mono fun _ _ _ ⟨N288, nN288, h1_, h2_, h3_⟩ => ⟨⟨N288, nN288, h1_, h2_⟩, h3_⟩) ?_
        rintro _ _ S_ ⟨⟨_, rfl, ⟨N288, nN288, rfl, rfl⟩⟩, hS_⟩
        obtain rfl := hS_.symm
        refine t_qz 1 [1, 2, 3, 4, 5, 13, 16, 17] (σ' := [(1, .int .i64 rule1), (2, .int .i64 t284), (3, .int .i64 (wr64 (t280 - 4))), (4, .int .i64 t282), (5, .int .u64 mask5), (13, .bool x276), (16, .slice (ad a277) y278.length (na277 / 4)), (17, .slice (ad N288) t286.length (nN288 / 1))]) (by kernel_rfl) ?_
        refine t_end ?_
        show W _ _ _ _ _ _ _
        refine w_seq ?_
        refine w_reg fun all => ?_
        obtain ⟨t399, h400, e⟩ := bind_of e
        refine t_qz 4 [1, 2, 3, 4, 5, 13, 16, 17, 59, 60, 61, 62] (σ' := [(1, .int .i64 rule1), (2, .int .i64 t284), (3, .int .i64 (wr64 (t280 - 4))), (4, .int .i64 t282), (5, .int .u64 mask5), (13, .bool x276), (16, .slice (ad a277) y278.length (na277 / 4)), (17, .slice (ad N288) t286.length (nN288 / 1)), (59, .slice (ad a277) y278.length (na277 / 4)), (60, .int .i64 t284), (61, .int .i64 (wr64 (t280 - 4))), (62, .int .i64 t282)]) (by kernel_rfl) ?_
        refine t_call (vs := [.slice (ad a277) y278.length (na277 / 4), .int .i64 t284, .int .i64 (wr64 (t280 - 4)), .int .i64 t282]) (H1 := ([⟨a277, encL E_i644 y278, na277⟩] : List Own)) (F := ([⟨N288, encL E_u64 t286, nN288⟩, ⟨b126, [.slice a_l0 l0.length c_l0, .int .i64 x279], 2⟩] : List Own)) rfl rfl (by kernel_rfl) (sel_perm (is := [0]) (by kernel_rfl)) (cal_lend (Qc := fun v_ H_ => ∃ (N401 : Option Nat) (nN401 : Nat), v_ = (.slice (ad N401) t399.length (nN401 / 1)) ∧ H_ = ([⟨N401, encL E_u64 t399, nN401⟩] : List Own)) fun S1_ le1_ hS1_ => (sweep_Line_v1.ok (SlE.ofAd (E := E_i644) (L := y278) hS1_ (by decide)) h400).mono fun _ _ _ ⟨N401, nN401, h1_, h2_, h3_⟩ => ⟨⟨N401, nN401, h1_, h2_⟩, h3_⟩) ?_
        rintro _ _ S_ ⟨⟨_, rfl, ⟨N401, nN401, rfl, rfl⟩⟩, hS_⟩
        obtain rfl := hS_.symm
        refine t_qz 1 [1, 2, 3, 4, 5, 13, 16, 17, 18] (σ' := [(1, .int .i64 rule1), (2, .int .i64 t284), (3, .int .i64 (wr64 (t280 - 4))), (4, .int .i64 t282), (5, .int .u64 mask5), (13, .bool x276), (16, .slice (ad a277) y278.length (na277 / 4)), (17, .slice (ad N288) t286.length (nN288 / 1)), (18, .slice (ad N401) t399.length (nN401 / 1))]) (by kernel_rfl) ?_
        refine t_end ?_
        show W _ _ _ _ _ _ _
        refine w_seq ?_
        refine w_seq ?_
        refine w_reg fun all => ?_
        by_cases c402 : (t286.length : Int) = t282
        · rw [if_pos c402] at e
          have c402b : ((t286.length : Int) == t282) = true := beq_iff_eq.mpr c402
          refine t_qz 3 [1, 2, 3, 4, 5, 13, 16, 17, 18, 65, 66] (σ' := [(1, .int .i64 rule1), (2, .int .i64 t284), (3, .int .i64 (wr64 (t280 - 4))), (4, .int .i64 t282), (5, .int .u64 mask5), (13, .bool x276), (16, .slice (ad a277) y278.length (na277 / 4)), (17, .slice (ad N288) t286.length (nN288 / 1)), (18, .slice (ad N401) t399.length (nN401 / 1)), (65, .int .i64 (t286.length : Int)), (66, .int .i64 t282)]) (by kernel_rfl) ?_
          refine t_v (dv_quiet rfl (congrArg (fun t => some (Value.bool (!t))) c402b)) ?_
          by_cases c403 : (t399.length : Int) = t282
          · rw [if_pos c403] at e
            have c403b : ((t399.length : Int) == t282) = true := beq_iff_eq.mpr c403
            refine t_qz 4 [1, 2, 3, 4, 5, 13, 16, 17, 18, 68, 70, 71] (σ' := [(1, .int .i64 rule1), (2, .int .i64 t284), (3, .int .i64 (wr64 (t280 - 4))), (4, .int .i64 t282), (5, .int .u64 mask5), (13, .bool x276), (16, .slice (ad a277) y278.length (na277 / 4)), (17, .slice (ad N288) t286.length (nN288 / 1)), (18, .slice (ad N401) t399.length (nN401 / 1)), (68, .bool false), (70, .int .i64 (t399.length : Int)), (71, .int .i64 t282)]) (by kernel_rfl) ?_
            refine t_v (dv_quiet rfl (congrArg (fun t => some (Value.bool (!t))) c403b)) ?_
            refine t_qz 1 [1, 2, 3, 4, 5, 13, 16, 17, 18, 73] (σ' := [(1, .int .i64 rule1), (2, .int .i64 t284), (3, .int .i64 (wr64 (t280 - 4))), (4, .int .i64 t282), (5, .int .u64 mask5), (13, .bool x276), (16, .slice (ad a277) y278.length (na277 / 4)), (17, .slice (ad N288) t286.length (nN288 / 1)), (18, .slice (ad N401) t399.length (nN401 / 1)), (73, .bool false)]) (by kernel_rfl) ?_
            refine t_end ?_
            show W _ _ _ _ _ _ _
            refine w_cond rfl (fun c_ => by cases c_) (fun _ => ?_)
            show W _ _ _ _ _ _ _
            refine w_skip ?_
            show W _ _ _ _ _ _ _
            obtain ⟨s406, e405, e⟩ := bind_of e
            refine w_cut [3, 4, 5, 13] (fun σ_ H_ S_ => ∃ (x421 : Int), s406 = .inr x421 ∧ [(3, .int .i64 x421), (4, .int .i64 t282), (5, .int .u64 mask5), (13, .bool x276)] = σ_ ∧ ([⟨b126, [.slice a_l0 l0.length c_l0, .int .i64 x279], 2⟩, ⟨a277, encL E_i644 y278, na277⟩, ⟨N401, encL E_u64 t399, nN401⟩, ⟨N288, encL E_u64 t286, nN288⟩] : List Own) = H_ ∧ S = S_) ?_ ?_
            · show W _ _ _ _ _ _ _
              refine w_seq ?_
              refine w_reg fun all => ?_
              refine t_qz 1 [1, 2, 3, 4, 5, 13, 16, 17, 18, 19] (σ' := [(1, .int .i64 rule1), (2, .int .i64 t284), (3, .int .i64 (wr64 (t280 - 4))), (4, .int .i64 t282), (5, .int .u64 mask5), (13, .bool x276), (16, .slice (ad a277) y278.length (na277 / 4)), (17, .slice (ad N288) t286.length (nN288 / 1)), (18, .slice (ad N401) t399.length (nN401 / 1)), (19, .int .i64 0)]) (by kernel_rfl) ?_
              refine t_end ?_
              show W _ _ _ _ _ _ _
              refine w_block ?_
              refine w_kp [1, 2, 3, 4, 5, 13, 16, 17, 18, 19] (σ' := [(1, .int .i64 rule1), (2, .int .i64 t284), (3, .int .i64 (wr64 (t280 - 4))), (4, .int .i64 t282), (5, .int .u64 mask5), (13, .bool x276), (16, .slice (ad a277) y278.length (na277 / 4)), (17, .slice (ad N288) t286.length (nN288 / 1)), (18, .slice (ad N401) t399.length (nN401 / 1)), (19, .int .i64 0)]) (by kernel_rfl) ?_
              refine w_loop (fun n_ σ_ H_ S_ => ∃ (x407 : Int), [(1, .int .i64 rule1), (2, .int .i64 t284), (3, .int .i64 (wr64 (t280 - 4))), (4, .int .i64 t282), (5, .int .u64 mask5), (13, .bool x276), (16, .slice (ad a277) y278.length (na277 / 4)), (17, .slice (ad N288) t286.length (nN288 / 1)), (18, .slice (ad N401) t399.length (nN401 / 1)), (19, .int .i64 x407)] = σ_ ∧ ([⟨a277, encL E_i644 y278, na277⟩, ⟨N401, encL E_u64 t399, nN401⟩, ⟨N288, encL E_u64 t286, nN288⟩, ⟨b126, [.slice a_l0 l0.length c_l0, .int .i64 x279], 2⟩] : List Own) = H_ ∧ S = S_ ∧ glyphiclaw24_SweepSays.l0 n_ l0 rule1 y278 t280 t282 t284 t286 t399 x407 = some s406) _ ⟨0, rfl, rfl, rfl, e405⟩ ?_
              rintro n420 σ_ H_ S_ ⟨x407, rfl, rfl, rfl, e405⟩
              cases n420 with
              | zero => rw [glyphiclaw24_SweepSays.l0.eq_1] at e405; cases e405
              | succ k_ =>
                rw [glyphiclaw24_SweepSays.l0.eq_2] at e405
                refine w_seq ?_
                refine w_seq ?_
                refine w_reg fun all => ?_
                by_cases c408 : x407 < t282
                · rw [if_pos c408] at e405
                  have c408b : (decide (x407 < t282)) = true := decide_eq_true c408
                  refine t_qz 2 [1, 2, 3, 4, 5, 13, 16, 17, 18, 19, 74, 75] (σ' := [(1, .int .i64 rule1), (2, .int .i64 t284), (3, .int .i64 (wr64 (t280 - 4))), (4, .int .i64 t282), (5, .int .u64 mask5), (13, .bool x276), (16, .slice (ad a277) y278.length (na277 / 4)), (17, .slice (ad N288) t286.length (nN288 / 1)), (18, .slice (ad N401) t399.length (nN401 / 1)), (19, .int .i64 x407), (74, .int .i64 x407), (75, .int .i64 t282)]) (by kernel_rfl) ?_
                  refine t_v (dv_quiet rfl (congrArg (fun t => some (Value.bool t)) c408b)) ?_
                  refine t_keep [1, 2, 3, 4, 5, 13, 16, 17, 18, 19, 76] (σ' := [(1, .int .i64 rule1), (2, .int .i64 t284), (3, .int .i64 (wr64 (t280 - 4))), (4, .int .i64 t282), (5, .int .u64 mask5), (13, .bool x276), (16, .slice (ad a277) y278.length (na277 / 4)), (17, .slice (ad N288) t286.length (nN288 / 1)), (18, .slice (ad N401) t399.length (nN401 / 1)), (19, .int .i64 x407), (76, .bool true)]) (by kernel_rfl) ?_
                  refine t_end ?_
                  show W _ _ _ _ _ _ _
                  refine w_cond rfl (fun _ => ?_) (fun c_ => by cases c_)
                  show W _ _ _ _ _ _ _
                  refine w_skip ?_
                  show W _ _ _ _ _ _ _
                  refine w_seq ?_
                  refine w_block ?_
                  refine w_seq ?_
                  obtain ⟨x409, hx410, e405⟩ := bind_of e405
                  obtain ⟨t411, h412, e405⟩ := bind_of e405
                  by_cases c413 : x409 = t411
                  · rw [if_pos c413] at e405
                    have c413b : (x409 == t411) = true := beq_iff_eq.mpr c413
                    obtain ⟨x414, hx415, e405⟩ := bind_of e405
                    obtain ⟨t416, h417, e405⟩ := bind_of e405
                    by_cases c418 : x414 = t416
                    · rw [if_pos c418] at e405
                      have c418b : (x414 == t416) = true := beq_iff_eq.mpr c418
                      refine w_drwE mixed 23 [.v (.slice (ad N288) t286.length (nN288 / 1)), .v (.int .i64 x407), .v (.pointer (some ⟨bk N288, (x407).toNat * 1 + 0, none⟩)), .v (.int .u64 x409), .v (.slice (ad a277) y278.length (na277 / 4)), .v (.int .i64 rule1), .v (.int .i64 (bits .and .i64 rule1 1)), .v (.int .i64 x407), .v (.int .i64 (wr64 (t280 - 4))), .v (.int .u64 t411), .v (.bool false), .v (.bool false), .v (.slice (ad N401) t399.length (nN401 / 1)), .v (.int .i64 x407), .v (.pointer (some ⟨bk N401, (x407).toNat * 1 + 0, none⟩)), .v (.int .u64 x414), .v (.slice (ad a277) y278.length (na277 / 4)), .v (.int .i64 t284), .v (.int .i64 x407), .v (.int .i64 (wr64 (t280 - 4))), .v (.int .u64 t416), .v (.bool false), .v (.bool false)] (by kernel_rfl) ?_ ?_
                      · refine DI.sq 2 (by kernel_rfl) rfl ?_
                        refine .cons (.quietH rfl (by intro h_; cases h_) (ixl (E := E_u64) (j := 2) rfl rfl rfl (by decide) rfl hx410)) ?_
                        refine .cons (.ld1 rfl rfl rfl (.lst 2 rfl (encL_at (lgt_in hx410).1 rfl))) ?_
                        refine DI.sq 5 (by kernel_rfl) rfl ?_
                        refine .cons (.callr (vs := [.slice (ad a277) y278.length (na277 / 4), .int .i64 (bits .and .i64 rule1 1), .int .i64 x407, .int .i64 (wr64 (t280 - 4))]) (A := ([⟨a277, encL E_i644 y278, na277⟩] : List Own)) (F0 := ([⟨N401, encL E_u64 t399, nN401⟩, ⟨N288, encL E_u64 t286, nN288⟩, ⟨b126, [.slice a_l0 l0.length c_l0, .int .i64 x279], 2⟩] : List Own)) rfl rfl (by kernel_rfl) (sel_perm (is := [0]) (by kernel_rfl)) (cal_lendr fun S1_ le1_ hS1_ => (glyphicref20_Fill_v1.ok (SlE.ofAd (E := E_i644) (L := y278) hS1_ (by decide)) h412))) ?_
                        refine .cons (dv_quiet rfl (congrArg (fun t => some (Value.bool (!t))) c413b)) ?_
                        refine DI.sq 3 (by kernel_rfl) rfl ?_
                        refine .cons (.quietH rfl (by intro h_; cases h_) (ixl (E := E_u64) (j := 1) rfl rfl rfl (by decide) rfl hx415)) ?_
                        refine .cons (.ld1 rfl rfl rfl (.lst 1 rfl (encL_at (lgt_in hx415).1 rfl))) ?_
                        refine DI.sq 4 (by kernel_rfl) rfl ?_
                        refine .cons (.callr (vs := [.slice (ad a277) y278.length (na277 / 4), .int .i64 t284, .int .i64 x407, .int .i64 (wr64 (t280 - 4))]) (A := ([⟨a277, encL E_i644 y278, na277⟩] : List Own)) (F0 := ([⟨N401, encL E_u64 t399, nN401⟩, ⟨N288, encL E_u64 t286, nN288⟩, ⟨b126, [.slice a_l0 l0.length c_l0, .int .i64 x279], 2⟩] : List Own)) rfl rfl (by kernel_rfl) (sel_perm (is := [0]) (by kernel_rfl)) (cal_lendr fun S1_ le1_ hS1_ => (glyphicref20_Line_v1.ok (SlE.ofAd (E := E_i644) (L := y278) hS1_ (by decide)) h417))) ?_
                        refine .cons (dv_quiet rfl (congrArg (fun t => some (Value.bool (!t))) c418b)) ?_
                        refine DI.sq 1 (by kernel_rfl) rfl ?_
                        exact .nil
                      refine fk_q 23 [1, 2, 3, 4, 5, 13, 16, 17, 18, 19, 91, 92, 93, 94, 95, 96, 97, 98, 99, 100, 101] (σ' := [(1, .int .i64 rule1), (2, .int .i64 t284), (3, .int .i64 (wr64 (t280 - 4))), (4, .int .i64 t282), (5, .int .u64 mask5), (13, .bool x276), (16, .slice (ad a277) y278.length (na277 / 4)), (17, .slice (ad N288) t286.length (nN288 / 1)), (18, .slice (ad N401) t399.length (nN401 / 1)), (19, .int .i64 x407), (91, .slice (ad N401) t399.length (nN401 / 1)), (92, .int .i64 x407), (93, .pointer (some ⟨bk N401, (x407).toNat * 1 + 0, none⟩)), (94, .int .u64 x414), (95, .slice (ad a277) y278.length (na277 / 4)), (96, .int .i64 t284), (97, .int .i64 x407), (98, .int .i64 (wr64 (t280 - 4))), (99, .int .u64 t416), (100, .bool false), (101, .bool false)]) t_more (by kernel_rfl) ?_
                      refine fk_nil fun all => ?_
                      refine t_keep [1, 2, 3, 4, 5, 13, 16, 17, 18, 19, 91, 92, 93, 94, 95, 96, 97, 98, 99, 100, 101] (σ' := [(1, .int .i64 rule1), (2, .int .i64 t284), (3, .int .i64 (wr64 (t280 - 4))), (4, .int .i64 t282), (5, .int .u64 mask5), (13, .bool x276), (16, .slice (ad a277) y278.length (na277 / 4)), (17, .slice (ad N288) t286.length (nN288 / 1)), (18, .slice (ad N401) t399.length (nN401 / 1)), (19, .int .i64 x407), (91, .slice (ad N401) t399.length (nN401 / 1)), (92, .int .i64 x407), (93, .pointer (some ⟨bk N401, (x407).toNat * 1 + 0, none⟩)), (94, .int .u64 x414), (95, .slice (ad a277) y278.length (na277 / 4)), (96, .int .i64 t284), (97, .int .i64 x407), (98, .int .i64 (wr64 (t280 - 4))), (99, .int .u64 t416), (100, .bool false), (101, .bool false)]) (by kernel_rfl) ?_
                      refine t_end ?_
                      show W _ _ _ _ _ _ _
                      refine w_cond rfl (fun c_ => by cases c_) (fun _ => ?_)
                      show W _ _ _ _ _ _ _
                      refine w_skip ?_
                      show W _ _ _ _ _ _ _
                      refine w_reg fun all => ?_
                      refine t_qz 3 [1, 2, 3, 4, 5, 13, 16, 17, 18, 19, 91, 92, 93, 94, 95, 96, 97, 98, 99, 100] (σ' := [(1, .int .i64 rule1), (2, .int .i64 t284), (3, .int .i64 (wr64 (t280 - 4))), (4, .int .i64 t282), (5, .int .u64 mask5), (13, .bool x276), (16, .slice (ad a277) y278.length (na277 / 4)), (17, .slice (ad N288) t286.length (nN288 / 1)), (18, .slice (ad N401) t399.length (nN401 / 1)), (19, .int .i64 (wr64 (x407 + 1))), (91, .slice (ad N401) t399.length (nN401 / 1)), (92, .int .i64 x407), (93, .pointer (some ⟨bk N401, (x407).toNat * 1 + 0, none⟩)), (94, .int .u64 x414), (95, .slice (ad a277) y278.length (na277 / 4)), (96, .int .i64 t284), (97, .int .i64 x407), (98, .int .i64 (wr64 (t280 - 4))), (99, .int .u64 t416), (100, .bool false)]) (by kernel_rfl) ?_
                      refine t_end ?_
                      exact ⟨k_, Nat.lt_succ_self _, [(1, .int .i64 rule1), (2, .int .i64 t284), (3, .int .i64 (wr64 (t280 - 4))), (4, .int .i64 t282), (5, .int .u64 mask5), (13, .bool x276), (16, .slice (ad a277) y278.length (na277 / 4)), (17, .slice (ad N288) t286.length (nN288 / 1)), (18, .slice (ad N401) t399.length (nN401 / 1)), (19, .int .i64 (wr64 (x407 + 1)))], ([⟨a277, encL E_i644 y278, na277⟩, ⟨N401, encL E_u64 t399, nN401⟩, ⟨N288, encL E_u64 t286, nN288⟩, ⟨b126, [.slice a_l0 l0.length c_l0, .int .i64 x279], 2⟩] : List Own), S, keep_sub [1, 2, 3, 4, 5, 13, 16, 17, 18, 19] (by kernel_rfl), VS.sel [0, 0, 0, 0] (by kernel_rfl), wr64 (x407 + 1), rfl, rfl, rfl, e405⟩
                    · rw [if_neg c418] at e405
                      have c418b : (x414 == t416) = false := beq_eq_false_iff_ne.mpr c418
                      refine w_drwE mixed 23 [.v (.slice (ad N288) t286.length (nN288 / 1)), .v (.int .i64 x407), .v (.pointer (some ⟨bk N288, (x407).toNat * 1 + 0, none⟩)), .v (.int .u64 x409), .v (.slice (ad a277) y278.length (na277 / 4)), .v (.int .i64 rule1), .v (.int .i64 (bits .and .i64 rule1 1)), .v (.int .i64 x407), .v (.int .i64 (wr64 (t280 - 4))), .v (.int .u64 t411), .v (.bool false), .v (.bool false), .v (.slice (ad N401) t399.length (nN401 / 1)), .v (.int .i64 x407), .v (.pointer (some ⟨bk N401, (x407).toNat * 1 + 0, none⟩)), .v (.int .u64 x414), .v (.slice (ad a277) y278.length (na277 / 4)), .v (.int .i64 t284), .v (.int .i64 x407), .v (.int .i64 (wr64 (t280 - 4))), .v (.int .u64 t416), .v (.bool true), .v (.bool true)] (by kernel_rfl) ?_ ?_
                      · refine DI.sq 2 (by kernel_rfl) rfl ?_
                        refine .cons (.quietH rfl (by intro h_; cases h_) (ixl (E := E_u64) (j := 2) rfl rfl rfl (by decide) rfl hx410)) ?_
                        refine .cons (.ld1 rfl rfl rfl (.lst 2 rfl (encL_at (lgt_in hx410).1 rfl))) ?_
                        refine DI.sq 5 (by kernel_rfl) rfl ?_
                        refine .cons (.callr (vs := [.slice (ad a277) y278.length (na277 / 4), .int .i64 (bits .and .i64 rule1 1), .int .i64 x407, .int .i64 (wr64 (t280 - 4))]) (A := ([⟨a277, encL E_i644 y278, na277⟩] : List Own)) (F0 := ([⟨N401, encL E_u64 t399, nN401⟩, ⟨N288, encL E_u64 t286, nN288⟩, ⟨b126, [.slice a_l0 l0.length c_l0, .int .i64 x279], 2⟩] : List Own)) rfl rfl (by kernel_rfl) (sel_perm (is := [0]) (by kernel_rfl)) (cal_lendr fun S1_ le1_ hS1_ => (glyphicref20_Fill_v1.ok (SlE.ofAd (E := E_i644) (L := y278) hS1_ (by decide)) h412))) ?_
                        refine .cons (dv_quiet rfl (congrArg (fun t => some (Value.bool (!t))) c413b)) ?_
                        refine DI.sq 3 (by kernel_rfl) rfl ?_
                        refine .cons (.quietH rfl (by intro h_; cases h_) (ixl (E := E_u64) (j := 1) rfl rfl rfl (by decide) rfl hx415)) ?_
                        refine .cons (.ld1 rfl rfl rfl (.lst 1 rfl (encL_at (lgt_in hx415).1 rfl))) ?_
                        refine DI.sq 4 (by kernel_rfl) rfl ?_
                        refine .cons (.callr (vs := [.slice (ad a277) y278.length (na277 / 4), .int .i64 t284, .int .i64 x407, .int .i64 (wr64 (t280 - 4))]) (A := ([⟨a277, encL E_i644 y278, na277⟩] : List Own)) (F0 := ([⟨N401, encL E_u64 t399, nN401⟩, ⟨N288, encL E_u64 t286, nN288⟩, ⟨b126, [.slice a_l0 l0.length c_l0, .int .i64 x279], 2⟩] : List Own)) rfl rfl (by kernel_rfl) (sel_perm (is := [0]) (by kernel_rfl)) (cal_lendr fun S1_ le1_ hS1_ => (glyphicref20_Line_v1.ok (SlE.ofAd (E := E_i644) (L := y278) hS1_ (by decide)) h417))) ?_
                        refine .cons (dv_quiet rfl (congrArg (fun t => some (Value.bool (!t))) c418b)) ?_
                        refine DI.sq 1 (by kernel_rfl) rfl ?_
                        exact .nil
                      refine fk_q 23 [1, 2, 3, 4, 5, 13, 16, 17, 18, 19, 91, 92, 93, 94, 95, 96, 97, 98, 99, 100, 101] (σ' := [(1, .int .i64 rule1), (2, .int .i64 t284), (3, .int .i64 (wr64 (t280 - 4))), (4, .int .i64 t282), (5, .int .u64 mask5), (13, .bool x276), (16, .slice (ad a277) y278.length (na277 / 4)), (17, .slice (ad N288) t286.length (nN288 / 1)), (18, .slice (ad N401) t399.length (nN401 / 1)), (19, .int .i64 x407), (91, .slice (ad N401) t399.length (nN401 / 1)), (92, .int .i64 x407), (93, .pointer (some ⟨bk N401, (x407).toNat * 1 + 0, none⟩)), (94, .int .u64 x414), (95, .slice (ad a277) y278.length (na277 / 4)), (96, .int .i64 t284), (97, .int .i64 x407), (98, .int .i64 (wr64 (t280 - 4))), (99, .int .u64 t416), (100, .bool true), (101, .bool true)]) t_more (by kernel_rfl) ?_
                      refine fk_nil fun all => ?_
                      refine t_keep [1, 2, 3, 4, 5, 13, 16, 17, 18, 19, 91, 92, 93, 94, 95, 96, 97, 98, 99, 100, 101] (σ' := [(1, .int .i64 rule1), (2, .int .i64 t284), (3, .int .i64 (wr64 (t280 - 4))), (4, .int .i64 t282), (5, .int .u64 mask5), (13, .bool x276), (16, .slice (ad a277) y278.length (na277 / 4)), (17, .slice (ad N288) t286.length (nN288 / 1)), (18, .slice (ad N401) t399.length (nN401 / 1)), (19, .int .i64 x407), (91, .slice (ad N401) t399.length (nN401 / 1)), (92, .int .i64 x407), (93, .pointer (some ⟨bk N401, (x407).toNat * 1 + 0, none⟩)), (94, .int .u64 x414), (95, .slice (ad a277) y278.length (na277 / 4)), (96, .int .i64 t284), (97, .int .i64 x407), (98, .int .i64 (wr64 (t280 - 4))), (99, .int .u64 t416), (100, .bool true), (101, .bool true)]) (by kernel_rfl) ?_
                      refine t_end ?_
                      show W _ _ _ _ _ _ _
                      refine w_cond rfl (fun _ => ?_) (fun c_ => by cases c_)
                      show W _ _ _ _ _ _ _
                      refine w_seq ?_
                      refine w_reg fun all => ?_
                      refine t_qz 1 [12] (σ' := [(12, .bool false)]) (by kernel_rfl) ?_
                      refine t_end ?_
                      show W _ _ _ _ _ _ _
                      refine w_ret ?_
                      obtain rfl := Option.some.inj e405
                      have hr_ := Option.some.inj e
                      exact ⟨[.bool false], [], S, ⟨rfl, trivial⟩, VS.none, congrArg Value.bool hr_, rfl, rfl⟩
                  · rw [if_neg c413] at e405
                    have c413b : (x409 == t411) = false := beq_eq_false_iff_ne.mpr c413
                    refine w_drwE mixed 23 [.v (.slice (ad N288) t286.length (nN288 / 1)), .v (.int .i64 x407), .v (.pointer (some ⟨bk N288, (x407).toNat * 1 + 0, none⟩)), .v (.int .u64 x409), .v (.slice (ad a277) y278.length (na277 / 4)), .v (.int .i64 rule1), .v (.int .i64 (bits .and .i64 rule1 1)), .v (.int .i64 x407), .v (.int .i64 (wr64 (t280 - 4))), .v (.int .u64 t411), .v (.bool true), .v (.bool true), .v (.tuple #[]), .v (.tuple #[]), .v (.tuple #[]), .v (.tuple #[]), .v (.tuple #[]), .v (.tuple #[]), .v (.tuple #[]), .v (.tuple #[]), .v (.tuple #[]), .v (.tuple #[]), .v (.bool true)] (by kernel_rfl) ?_ ?_
                    · refine DI.sq 2 (by kernel_rfl) rfl ?_
                      refine .cons (.quietH rfl (by intro h_; cases h_) (ixl (E := E_u64) (j := 2) rfl rfl rfl (by decide) rfl hx410)) ?_
                      refine .cons (.ld1 rfl rfl rfl (.lst 2 rfl (encL_at (lgt_in hx410).1 rfl))) ?_
                      refine DI.sq 5 (by kernel_rfl) rfl ?_
                      refine .cons (.callr (vs := [.slice (ad a277) y278.length (na277 / 4), .int .i64 (bits .and .i64 rule1 1), .int .i64 x407, .int .i64 (wr64 (t280 - 4))]) (A := ([⟨a277, encL E_i644 y278, na277⟩] : List Own)) (F0 := ([⟨N401, encL E_u64 t399, nN401⟩, ⟨N288, encL E_u64 t286, nN288⟩, ⟨b126, [.slice a_l0 l0.length c_l0, .int .i64 x279], 2⟩] : List Own)) rfl rfl (by kernel_rfl) (sel_perm (is := [0]) (by kernel_rfl)) (cal_lendr fun S1_ le1_ hS1_ => (glyphicref20_Fill_v1.ok (SlE.ofAd (E := E_i644) (L := y278) hS1_ (by decide)) h412))) ?_
                      refine .cons (dv_quiet rfl (congrArg (fun t => some (Value.bool (!t))) c413b)) ?_
                      refine DI.sq 12 (by kernel_rfl) rfl ?_
                      exact .nil
                    refine fk_q 23 [1, 2, 3, 4, 5, 13, 16, 17, 18, 19, 91, 92, 93, 94, 95, 96, 97, 98, 99, 100, 101] (σ' := [(1, .int .i64 rule1), (2, .int .i64 t284), (3, .int .i64 (wr64 (t280 - 4))), (4, .int .i64 t282), (5, .int .u64 mask5), (13, .bool x276), (16, .slice (ad a277) y278.length (na277 / 4)), (17, .slice (ad N288) t286.length (nN288 / 1)), (18, .slice (ad N401) t399.length (nN401 / 1)), (19, .int .i64 x407), (91, .tuple #[]), (92, .tuple #[]), (93, .tuple #[]), (94, .tuple #[]), (95, .tuple #[]), (96, .tuple #[]), (97, .tuple #[]), (98, .tuple #[]), (99, .tuple #[]), (100, .tuple #[]), (101, .bool true)]) t_more (by kernel_rfl) ?_
                    refine fk_nil fun all => ?_
                    refine t_keep [1, 2, 3, 4, 5, 13, 16, 17, 18, 19, 91, 92, 93, 94, 95, 96, 97, 98, 99, 100, 101] (σ' := [(1, .int .i64 rule1), (2, .int .i64 t284), (3, .int .i64 (wr64 (t280 - 4))), (4, .int .i64 t282), (5, .int .u64 mask5), (13, .bool x276), (16, .slice (ad a277) y278.length (na277 / 4)), (17, .slice (ad N288) t286.length (nN288 / 1)), (18, .slice (ad N401) t399.length (nN401 / 1)), (19, .int .i64 x407), (91, .tuple #[]), (92, .tuple #[]), (93, .tuple #[]), (94, .tuple #[]), (95, .tuple #[]), (96, .tuple #[]), (97, .tuple #[]), (98, .tuple #[]), (99, .tuple #[]), (100, .tuple #[]), (101, .bool true)]) (by kernel_rfl) ?_
                    refine t_end ?_
                    show W _ _ _ _ _ _ _
                    refine w_cond rfl (fun _ => ?_) (fun c_ => by cases c_)
                    show W _ _ _ _ _ _ _
                    refine w_seq ?_
                    refine w_reg fun all => ?_
                    refine t_qz 1 [12] (σ' := [(12, .bool false)]) (by kernel_rfl) ?_
                    refine t_end ?_
                    show W _ _ _ _ _ _ _
                    refine w_ret ?_
                    obtain rfl := Option.some.inj e405
                    have hr_ := Option.some.inj e
                    exact ⟨[.bool false], [], S, ⟨rfl, trivial⟩, VS.none, congrArg Value.bool hr_, rfl, rfl⟩
                · rw [if_neg c408] at e405
                  have c408b : (decide (x407 < t282)) = false := decide_eq_false c408
                  refine t_qz 2 [1, 2, 3, 4, 5, 13, 16, 17, 18, 19, 74, 75] (σ' := [(1, .int .i64 rule1), (2, .int .i64 t284), (3, .int .i64 (wr64 (t280 - 4))), (4, .int .i64 t282), (5, .int .u64 mask5), (13, .bool x276), (16, .slice (ad a277) y278.length (na277 / 4)), (17, .slice (ad N288) t286.length (nN288 / 1)), (18, .slice (ad N401) t399.length (nN401 / 1)), (19, .int .i64 x407), (74, .int .i64 x407), (75, .int .i64 t282)]) (by kernel_rfl) ?_
                  refine t_v (dv_quiet rfl (congrArg (fun t => some (Value.bool t)) c408b)) ?_
                  refine t_keep [1, 2, 3, 4, 5, 13, 16, 17, 18, 19, 76] (σ' := [(1, .int .i64 rule1), (2, .int .i64 t284), (3, .int .i64 (wr64 (t280 - 4))), (4, .int .i64 t282), (5, .int .u64 mask5), (13, .bool x276), (16, .slice (ad a277) y278.length (na277 / 4)), (17, .slice (ad N288) t286.length (nN288 / 1)), (18, .slice (ad N401) t399.length (nN401 / 1)), (19, .int .i64 x407), (76, .bool false)]) (by kernel_rfl) ?_
                  refine t_end ?_
                  show W _ _ _ _ _ _ _
                  refine w_cond rfl (fun c_ => by cases c_) (fun _ => ?_)
                  show W _ _ _ _ _ _ _
                  refine w_exit ?_
                  obtain rfl := Option.some.inj e405
                  exact ⟨([⟨b126, [.slice a_l0 l0.length c_l0, .int .i64 x279], 2⟩, ⟨a277, encL E_i644 y278, na277⟩, ⟨N401, encL E_u64 t399, nN401⟩, ⟨N288, encL E_u64 t286, nN288⟩] : List Own), S, VS.sel [3, 0, 0, 0] (by kernel_rfl), wr64 (t280 - 4), rfl, by kernel_rfl, rfl, rfl⟩
            · rintro σ_ H_ S_ ⟨x421, rfl, rfl, rfl, rfl⟩
              dsimp only at e
              obtain ⟨s424, e423, e⟩ := bind_of e
              refine w_cut [5, 13] (fun σ_ H_ S_ => ∃ u_ : Unit, s424 = .inr u_ ∧ [(5, .int .u64 mask5), (13, .bool x276)] = σ_ ∧ ([⟨b126, [.slice a_l0 l0.length c_l0, .int .i64 x279], 2⟩, ⟨a277, encL E_i644 y278, na277⟩, ⟨N401, encL E_u64 t399, nN401⟩, ⟨N288, encL E_u64 t286, nN288⟩] : List Own) = H_ ∧ S = S_) ?_ ?_
              · show W _ _ _ _ _ _ _
                refine w_seq ?_
                refine w_reg fun all => ?_
                refine t_qz 1 [3, 4, 5, 13, 20] (σ' := [(3, .int .i64 x421), (4, .int .i64 t282), (5, .int .u64 mask5), (13, .bool x276), (20, .int .i64 0)]) (by kernel_rfl) ?_
                refine t_end ?_
                show W _ _ _ _ _ _ _
                refine w_block ?_
                refine w_kp [3, 4, 5, 13, 20] (σ' := [(3, .int .i64 x421), (4, .int .i64 t282), (5, .int .u64 mask5), (13, .bool x276), (20, .int .i64 0)]) (by kernel_rfl) ?_
                refine w_loop (fun n_ σ_ H_ S_ => ∃ (x425 : Int), [(3, .int .i64 x421), (4, .int .i64 t282), (5, .int .u64 mask5), (13, .bool x276), (20, .int .i64 x425)] = σ_ ∧ ([⟨b126, [.slice a_l0 l0.length c_l0, .int .i64 x279], 2⟩, ⟨a277, encL E_i644 y278, na277⟩, ⟨N401, encL E_u64 t399, nN401⟩, ⟨N288, encL E_u64 t286, nN288⟩] : List Own) = H_ ∧ S = S_ ∧ glyphiclaw24_SweepSays.l1 n_ t282 x421 x425 = some s424) _ ⟨0, rfl, rfl, rfl, e423⟩ ?_
                rintro n437 σ_ H_ S_ ⟨x425, rfl, rfl, rfl, e423⟩
                cases n437 with
                | zero => rw [glyphiclaw24_SweepSays.l1.eq_1] at e423; cases e423
                | succ k_ =>
                  rw [glyphiclaw24_SweepSays.l1.eq_2] at e423
                  refine w_seq ?_
                  refine w_seq ?_
                  refine w_reg fun all => ?_
                  by_cases c426 : x425 < 64
                  · rw [if_pos c426] at e423
                    have c426b : (decide (x425 < 64)) = true := decide_eq_true c426
                    refine t_qz 1 [3, 4, 5, 13, 20, 102] (σ' := [(3, .int .i64 x421), (4, .int .i64 t282), (5, .int .u64 mask5), (13, .bool x276), (20, .int .i64 x425), (102, .int .i64 x425)]) (by kernel_rfl) ?_
                    refine t_v (dv_quiet rfl (congrArg (fun t => some (Value.bool t)) c426b)) ?_
                    refine t_keep [3, 4, 5, 13, 20, 103] (σ' := [(3, .int .i64 x421), (4, .int .i64 t282), (5, .int .u64 mask5), (13, .bool x276), (20, .int .i64 x425), (103, .bool true)]) (by kernel_rfl) ?_
                    refine t_end ?_
                    show W _ _ _ _ _ _ _
                    refine w_cond rfl (fun _ => ?_) (fun c_ => by cases c_)
                    show W _ _ _ _ _ _ _
                    refine w_skip ?_
                    show W _ _ _ _ _ _ _
                    refine w_seq ?_
                    refine w_block ?_
                    refine w_seq ?_
                    refine w_reg fun all => ?_
                    obtain ⟨⟨t427, t428⟩, h429, e423⟩ := bind_of e423
                    try dsimp only at e423
                    refine t_qz 3 [3, 4, 5, 13, 20, 106, 107, 108] (σ' := [(3, .int .i64 x421), (4, .int .i64 t282), (5, .int .u64 mask5), (13, .bool x276), (20, .int .i64 x425), (106, .int .i64 t282), (107, .int .i64 x421), (108, .int .i64 x425)]) (by kernel_rfl) ?_
                    refine t_v (.call (vs := [.int .i64 t282, .int .i64 x421, .int .i64 x425]) rfl rfl (by kernel_rfl) (sweep_Sample.ok h429)) ?_
                    obtain ⟨⟨t430, t431⟩, h432, e423⟩ := bind_of e423
                    try dsimp only at e423
                    refine t_qz 3 [3, 4, 5, 13, 20, 109, 110, 111, 112] (σ' := [(3, .int .i64 x421), (4, .int .i64 t282), (5, .int .u64 mask5), (13, .bool x276), (20, .int .i64 x425), (109, .agg #[.int .i64 t427, .int .i64 t428]), (110, .int .i64 t282), (111, .int .i64 x421), (112, .int .i64 x425)]) (by kernel_rfl) ?_
                    refine t_v (.call (vs := [.int .i64 t282, .int .i64 x421, .int .i64 x425]) rfl rfl (by kernel_rfl) (glyphicref20_Sample.ok h432)) ?_
                    obtain ⟨t433, h434, e423⟩ := bind_of e423
                    refine t_v (.call (vs := [.agg #[.int .i64 t427, .int .i64 t428], .agg #[.int .i64 t430, .int .i64 t431]]) rfl rfl (by kernel_rfl) (glyphicref_SamePoint.ok h434)) ?_
                    by_cases c435 : t433 = true
                    · rw [if_pos c435] at e423
                      have c435b : t433 = true := c435
                      refine t_v (dv_quiet rfl (congrArg (fun t => some (Value.bool (!t))) c435b)) ?_
                      refine t_keep [3, 4, 5, 13, 20, 115] (σ' := [(3, .int .i64 x421), (4, .int .i64 t282), (5, .int .u64 mask5), (13, .bool x276), (20, .int .i64 x425), (115, .bool false)]) (by kernel_rfl) ?_
                      refine t_end ?_
                      show W _ _ _ _ _ _ _
                      refine w_cond rfl (fun c_ => by cases c_) (fun _ => ?_)
                      show W _ _ _ _ _ _ _
                      refine w_skip ?_
                      show W _ _ _ _ _ _ _
                      refine w_reg fun all => ?_
                      refine t_qz 3 [3, 4, 5, 13, 20] (σ' := [(3, .int .i64 x421), (4, .int .i64 t282), (5, .int .u64 mask5), (13, .bool x276), (20, .int .i64 (wr64 (x425 + 1)))]) (by kernel_rfl) ?_
                      refine t_end ?_
                      exact ⟨k_, Nat.lt_succ_self _, [(3, .int .i64 x421), (4, .int .i64 t282), (5, .int .u64 mask5), (13, .bool x276), (20, .int .i64 (wr64 (x425 + 1)))], ([⟨b126, [.slice a_l0 l0.length c_l0, .int .i64 x279], 2⟩, ⟨a277, encL E_i644 y278, na277⟩, ⟨N401, encL E_u64 t399, nN401⟩, ⟨N288, encL E_u64 t286, nN288⟩] : List Own), S, keep_sub [3, 4, 5, 13, 20] (by kernel_rfl), VS.sel [0, 0, 0, 0] (by kernel_rfl), wr64 (x425 + 1), rfl, rfl, rfl, e423⟩
                    · rw [if_neg c435] at e423
                      have c435b : t433 = false := Bool.eq_false_iff.mpr c435
                      refine t_v (dv_quiet rfl (congrArg (fun t => some (Value.bool (!t))) c435b)) ?_
                      refine t_keep [3, 4, 5, 13, 20, 115] (σ' := [(3, .int .i64 x421), (4, .int .i64 t282), (5, .int .u64 mask5), (13, .bool x276), (20, .int .i64 x425), (115, .bool true)]) (by kernel_rfl) ?_
                      refine t_end ?_
                      show W _ _ _ _ _ _ _
                      refine w_cond rfl (fun _ => ?_) (fun c_ => by cases c_)
                      show W _ _ _ _ _ _ _
                      refine w_seq ?_
                      refine w_reg fun all => ?_
                      refine t_qz 1 [12] (σ' := [(12, .bool false)]) (by kernel_rfl) ?_
                      refine t_end ?_
                      show W _ _ _ _ _ _ _
                      refine w_ret ?_
                      obtain rfl := Option.some.inj e423
                      have hr_ := Option.some.inj e
                      exact ⟨[.bool false], [], S, ⟨rfl, trivial⟩, VS.none, congrArg Value.bool hr_, rfl, rfl⟩
                  · rw [if_neg c426] at e423
                    have c426b : (decide (x425 < 64)) = false := decide_eq_false c426
                    refine t_qz 1 [3, 4, 5, 13, 20, 102] (σ' := [(3, .int .i64 x421), (4, .int .i64 t282), (5, .int .u64 mask5), (13, .bool x276), (20, .int .i64 x425), (102, .int .i64 x425)]) (by kernel_rfl) ?_
                    refine t_v (dv_quiet rfl (congrArg (fun t => some (Value.bool t)) c426b)) ?_
                    refine t_keep [3, 4, 5, 13, 20, 103] (σ' := [(3, .int .i64 x421), (4, .int .i64 t282), (5, .int .u64 mask5), (13, .bool x276), (20, .int .i64 x425), (103, .bool false)]) (by kernel_rfl) ?_
                    refine t_end ?_
                    show W _ _ _ _ _ _ _
                    refine w_cond rfl (fun c_ => by cases c_) (fun _ => ?_)
                    show W _ _ _ _ _ _ _
                    refine w_exit ?_
                    obtain rfl := Option.some.inj e423
                    exact ⟨([⟨b126, [.slice a_l0 l0.length c_l0, .int .i64 x279], 2⟩, ⟨a277, encL E_i644 y278, na277⟩, ⟨N401, encL E_u64 t399, nN401⟩, ⟨N288, encL E_u64 t286, nN288⟩] : List Own), S, VS.sel [0, 0, 0, 0] (by kernel_rfl), (), rfl, by kernel_rfl, rfl, rfl⟩
              · rintro σ_ H_ S_ ⟨u_, rfl, rfl, rfl, rfl⟩
                dsimp only at e
                refine w_seq ?_
                refine w_reg fun all => ?_
                by_cases c438 : x276 = true
                · rw [if_pos c438] at e
                  have c438b : x276 = true := c438
                  refine t_v (dv_quiet rfl (congrArg (fun t => some (Value.bool t)) c438b)) ?_
                  obtain ⟨t451, h452, e⟩ := bind_of e
                  refine t_qz 2 [5, 117, 118] (σ' := [(5, .int .u64 mask5), (117, .bool true), (118, .int .u64 mask5)]) (by kernel_rfl) ?_
                  refine t_v (.call (vs := [.int .u64 mask5]) rfl rfl (by kernel_rfl) (sweep_Count.ok h452)) ?_
                  obtain ⟨t463, h464, e⟩ := bind_of e
                  refine t_qz 1 [117, 119, 120] (σ' := [(117, .bool true), (119, .int .i64 t451), (120, .int .u64 mask5)]) (by kernel_rfl) ?_
                  refine t_v (.call (vs := [.int .u64 mask5]) rfl rfl (by kernel_rfl) (glyphicref20_Bits.ok h464)) ?_
                  refine t_qz 3 [12] (σ' := [(12, .bool (t451 == t463))]) (by kernel_rfl) ?_
                  refine t_end ?_
                  show W _ _ _ _ _ _ _
                  refine w_ret ?_
                  have hr_ := Option.some.inj e
                  exact ⟨[.bool (t451 == t463)], [], S, ⟨rfl, trivial⟩, VS.none, congrArg Value.bool hr_, rfl, rfl⟩
                · rw [if_neg c438] at e
                  exact absurd (Option.some.inj e) (by decide)
          · rw [if_neg c403] at e
            exact absurd (Option.some.inj e) (by decide)
        · rw [if_neg c402] at e
          exact absurd (Option.some.inj e) (by decide)
  | false =>
    rw [if_neg (by decide)] at e
    exact absurd (Option.some.inj e) (by decide)

def glyphiclaw24_SweepSays.Pure : Prop := ∀ (l0 : List (Int)) (rule1 : Int) (wide2 : Int) (y3 : Int) (w4 : Int) (mask5 : Int), (Lit.int .i64 rule1).wf = true → (Lit.int .i64 wide2).wf = true → (Lit.int .i64 y3).wf = true → (Lit.int .i64 w4).wf = true → (Lit.int .u64 mask5).wf = true → ∃ k, glyphiclaw24_SweepSays.f k l0 rule1 wide2 y3 w4 mask5 = some true
theorem glyphiclaw24_SweepSays.walk (P : glyphiclaw24_SweepSays.Pure) (l0 : List (Int)) (rule1 : Int) (wide2 : Int) (y3 : Int) (w4 : Int) (mask5 : Int) (w : World) {S : Seal} (hS : HOK [] S w) {a_l0 : Option Addr} {c_l0 : Nat} (h_l0 : SlI S .i64 l0 a_l0) (hrule1 : (Lit.int .i64 rule1).wf = true) (hwide2 : (Lit.int .i64 wide2).wf = true) (hy3 : (Lit.int .i64 y3).wf = true) (hw4 : (Lit.int .i64 w4).wf = true) (hmask5 : (Lit.int .u64 mask5).wf = true) :
    Calls Try.prog 10 #[.slice a_l0 l0.length c_l0, .int .i64 rule1, .int .i64 wide2, .int .i64 y3, .int .i64 w4, .int .u64 mask5] w fun e w' => e = .returned (.bool true) ∧ Below w.heap.size w w' := let ⟨k, h⟩ := P l0 rule1 wide2 y3 w4 mask5 hrule1 hwide2 hy3 hw4 hmask5; law_w hS (glyphiclaw24_SweepSays.ok (SlI.e h_l0) (k := k) h)
end Go.Proofs.Ytpimfacaalkmdaa.QSweepSays
