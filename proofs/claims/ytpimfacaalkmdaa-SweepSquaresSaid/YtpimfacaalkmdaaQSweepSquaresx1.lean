/- Functions of the program as Lean functions, each with the proof of its walk. Written by gen.py, a program of these sessions. -/
import Derived.Test.YtpimfacaalkmdaaQSweepSquaresx0
namespace Go.Proofs.Ytpimfacaalkmdaa.QSweepSquares
open Go Go.RowKit Go.Proofs.YtpimfacaalkmdaaE
set_option linter.unusedVariables false
set_option maxRecDepth 100000
set_option maxHeartbeats 8000000
/-- sweep.Fill$1 -/
def c83 : C :=
  (.seq (.reg [⟨(some 4), .box (.tmp 1), none⟩,
     ⟨(some 5), .mv (.const (.bool false)), none⟩])
  (.seq (.reg [⟨(some 6), .mv (.tmp 0), none⟩,
     ⟨(some 7), .ld none (.tmp 2), none⟩,
     ⟨(some 8), .ld (some 2) (.tmp 4), none⟩,
     ⟨(some 9), .call 84 [(.tmp 6), (.tmp 7), (.tmp 8)], none⟩,
     ⟨(some 5), .mv (.tmp 9), none⟩])
  .ret))
def sweep_Fill_1_v1.f (k : Nat) (l0 : List (Int × Int × Int × Int)) (p1_0 : Int) (p1_1 : Int) (m0_0 : Int) : Option (Bool) := (wind_Inside_v1.f k l0 m0_0 p1_0 p1_1).bind fun t129 => (some t129)
theorem sweep_Fill_1_v1.ok {S : Seal} {B0 : Nat} {k : Nat} {l0 : List (Int × Int × Int × Int)} {p1_0 : Int} {p1_1 : Int} {m0_0 : Int} {r0_ : Bool}{a_l0 : Option Addr} {c_l0 : Nat} (h_l0 : SlE S E_i644 l0 a_l0) (e : sweep_Fill_1_v1.f k l0 p1_0 p1_1 m0_0 = some r0_) :
    Cal Try.prog 83 [.slice a_l0 l0.length c_l0, .agg #[.int .i64 p1_0, .int .i64 p1_1], .pointer (some ⟨B0, 0, none⟩)] ([⟨B0, [.int .i64 m0_0], 1⟩] : List Own) S fun v H' S' => v = .bool r0_ ∧ H' = ([⟨B0, [.int .i64 m0_0], 1⟩] : List Own) ∧ S' = S := by
  unfold sweep_Fill_1_v1.f at e
  refine cal_of (c := c83) (N := 10) Try.func83 rfl rfl (by kernel_rfl) (rs := [.t 5]) (by kernel_rfl) (Nat.le_of_ble_eq_true rfl) ?_
  unfold c83
  refine w_seq ?_
  refine w_reg fun all => ?_
  refine t_a (.box rfl rfl rfl) fun b81 fb81 sb81 => ?_
  refine t_qz 1 [0, 2, 4] (σ' := [(0, .slice a_l0 l0.length c_l0), (2, .pointer (some ⟨B0, 0, none⟩)), (4, .pointer (some ⟨b81, 0, none⟩))]) (by kernel_rfl) ?_
  refine t_end ?_
  show W _ _ _ _ _ _ _
  refine w_seq ?_
  refine w_reg fun all => ?_
  refine t_qz 1 [2, 4, 6] (σ' := [(2, .pointer (some ⟨B0, 0, none⟩)), (4, .pointer (some ⟨b81, 0, none⟩)), (6, .slice a_l0 l0.length c_l0)]) (by kernel_rfl) ?_
  refine t_v (.ld1 rfl rfl rfl (.at 1 rfl rfl)) ?_
  refine t_v (.ldn rfl rfl rfl (.at 0 rfl rfl)) ?_
  obtain ⟨t129, h130, e⟩ := bind_of e
  refine t_v (.call (vs := [.slice a_l0 l0.length c_l0, .int .i64 m0_0, .agg #[.int .i64 p1_0, .int .i64 p1_1]]) rfl rfl (by kernel_rfl) (wind_Inside_v1.ok h_l0 h130)) ?_
  refine t_qz 1 [5] (σ' := [(5, .bool t129)]) (by kernel_rfl) ?_
  refine t_end ?_
  show W _ _ _ _ _ _ _
  refine w_ret ?_
  obtain rfl := Option.some.inj e
  exact ⟨[.bool t129], ([⟨B0, [.int .i64 m0_0], 1⟩] : List Own), S, ⟨rfl, trivial⟩, VS.sel [1] (by kernel_rfl), rfl, rfl, rfl⟩

/-- sweep.masks -/
def c82 : C :=
  (.seq (.reg [⟨(some 10), .mv (.const (.slice none 0 0)), none⟩])
  (.seq (.seq (.reg [⟨(some 16), .mv (.tmp 3), none⟩,
      ⟨(some 17), .bin .lss (.tmp 16) (.const (.int .i64 1)), none⟩])
   (.cond (.tmp 17)
    (.seq (.reg [⟨(some 10), .mv (.const (.slice none 0 0)), none⟩])
     .ret)
    .skip))
  (.seq (.reg [⟨(some 18), .mv (.tmp 3), none⟩,
     ⟨(some 19), .mks 1 8 [(.int .u64 0)] (.tmp 18) (.tmp 18), none⟩,
     ⟨(some 11), .mv (.tmp 19), none⟩])
  (.seq (.seq (.reg [⟨(some 20), .mv (.const (.int .i64 0)), none⟩])
   (.block 0 (.loop (.seq (.reg [⟨(some 21), .bin .lss (.tmp 20) (.const (.int .i64 8)), none⟩])
     (.seq (.cond (.tmp 21)
       .skip
       (.exit 0))
     (.seq (.block 1 (.seq (.reg [⟨(some 22), .mv (.tmp 20), none⟩,
          ⟨(some 12), .mv (.tmp 22), none⟩])
       (.seq (.reg [⟨(some 23), .mv (.tmp 0), none⟩,
          ⟨(some 24), .mv (.tmp 1), none⟩,
          ⟨(some 25), .mv (.tmp 2), none⟩,
          ⟨(some 26), .mv (.tmp 12), none⟩,
          ⟨(some 27), .bin .mul (.tmp 26) (.const (.int .i64 8)), none⟩,
          ⟨(some 28), .call 48 [(.const (.int .i64 0)), (.tmp 25), (.tmp 27)], none⟩,
          ⟨(some 29), .fld none 1 (.tmp 28), none⟩,
          ⟨(some 30), .call 110 [(.tmp 23), (.tmp 24), (.tmp 29)], none⟩,
          ⟨(some 13), .mv (.tmp 30), none⟩])
       (.seq (.reg [⟨(some 14), .mv (.const (.int .i64 0)), none⟩])
       (.block 2 (.loop (.seq (.seq (.reg [⟨(some 31), .mv (.tmp 14), none⟩,
             ⟨(some 32), .mv (.tmp 3), none⟩,
             ⟨(some 33), .bin .lss (.tmp 31) (.tmp 32), none⟩,
             ⟨(some 34), .mv (.tmp 33), none⟩,
             ⟨(some 35), .mv (.tmp 13), (some (34, true))⟩,
             ⟨(some 36), .lns (.tmp 35), (some (34, true))⟩,
             ⟨(some 37), .bin .gtr (.tmp 36) (.const (.int .i64 0)), (some (34, true))⟩,
             ⟨(some 38), .pk (.tmp 34) (.tmp 37) (.const (.bool false)), none⟩])
          (.cond (.tmp 38)
           .skip
           (.exit 2)))
         (.seq (.block 3 (.seq (.reg [⟨(some 41), .mv (.tmp 12), none⟩,
              ⟨(some 42), .bin .mul (.tmp 41) (.const (.int .i64 8)), none⟩,
              ⟨(some 15), .mv (.tmp 42), none⟩])
           (.block 4 (.loop (.seq (.seq (.reg [⟨(some 43), .mv (.tmp 15), none⟩,
                 ⟨(some 44), .mv (.tmp 12), none⟩,
                 ⟨(some 45), .bin .add (.tmp 44) (.const (.int .i64 1)), none⟩,
                 ⟨(some 46), .bin .mul (.tmp 45) (.const (.int .i64 8)), none⟩,
                 ⟨(some 47), .bin .lss (.tmp 43) (.tmp 46), none⟩])
              (.cond (.tmp 47)
               .skip
               (.exit 4)))
             (.seq (.block 5 (.seq (.reg [⟨(some 50), .mv (.tmp 4), none⟩,
                  ⟨(some 51), .mv (.tmp 13), none⟩,
                  ⟨(some 52), .mv (.tmp 14), none⟩,
                  ⟨(some 53), .mv (.tmp 2), none⟩,
                  ⟨(some 54), .mv (.tmp 15), none⟩,
                  ⟨(some 55), .call 48 [(.tmp 52), (.tmp 53), (.tmp 54)], none⟩,
                  ⟨(some 56), .clo (.tmp 50) [(.tmp 51), (.tmp 55)], none⟩])
               (.cond (.tmp 56)
                (.drw [⟨(some 57), .mv (.tmp 11), none⟩,
                   ⟨(some 58), .mv (.tmp 14), none⟩,
                   ⟨(some 59), .ixs 1 (.tmp 57) (.tmp 58), none⟩,
                   ⟨(some 60), .ld none (.tmp 59), none⟩,
                   ⟨(some 61), .mv (.tmp 15), none⟩,
                   ⟨(some 62), .bin .shl (.const (.int .u64 1)) (.tmp 61), none⟩,
                   ⟨(some 63), .bin .or (.tmp 60) (.tmp 62), none⟩,
                   ⟨(some 64), .ixs 1 (.tmp 57) (.tmp 58), none⟩,
                   ⟨none, .st 1 (.tmp 64) (.tmp 63), none⟩] [[], [], [0, 1], [2], [], [4], [3, 5], [0, 1, 0, 1, 2, 3, 4, 5, 6], [7, 6, 0, 1, 2, 3, 4, 5, 6]])
                .skip)))
             (.reg [⟨(some 48), .mv (.tmp 15), none⟩,
               ⟨(some 49), .bin .add (.tmp 48) (.const (.int .i64 1)), none⟩,
               ⟨(some 15), .mv (.tmp 49), none⟩])))))))
         (.reg [⟨(some 39), .mv (.tmp 14), none⟩,
           ⟨(some 40), .bin .add (.tmp 39) (.const (.int .i64 1)), none⟩,
           ⟨(some 14), .mv (.tmp 40), none⟩])))))))))
     (.reg [⟨(some 65), .bin .add (.tmp 20) (.const (.int .i64 1)), none⟩,
       ⟨(some 20), .mv (.tmp 65), none⟩])))))))
  (.seq (.reg [⟨(some 66), .mv (.tmp 11), none⟩,
     ⟨(some 10), .mv (.tmp 66), none⟩])
  .ret)))))
def sweep_masks_v1.l2 : Nat → Int → Int → Int → List (Int × Int × Int × Int) → Int → Int → List (Int) → Option (List (Int))
  | 0, _, _, _, _, _, _, _ => none
  | k + 1, y2, m0_0, x61, t70, x73, x80, y81 => if x80 < (wr64 ((wr64 (x61 + 1)) * 8)) then ((sweep_Sample.f x73 y2 x80).bind fun (t83, t84) => ((sweep_Fill_1_v1.f k t70 t83 t84 m0_0).bind fun t86 => (if t86 = true then ((lgt y81 x73).bind fun x88 => (if x80 < 0 then none else ((lgt y81 x73).bind fun x91 => ((lput y81 x73 (bits .or .u64 x88 (wru64 (1 * 2 ^ (min (Int.toNat x80) 64))))).bind fun y93 => (sweep_masks_v1.l2 k y2 m0_0 x61 t70 x73 (wr64 (x80 + 1)) y93))))) else (sweep_masks_v1.l2 k y2 m0_0 x61 t70 x73 (wr64 (x80 + 1)) y81)))) else (some y81)
def sweep_masks_v1.l1 : Nat → Int → Int → Int → Int → List (Int × Int × Int × Int) → Int → List (Int) → Option (List (Int))
  | 0, _, _, _, _, _, _, _ => none
  | k + 1, y2, w3, m0_0, x61, t70, x73, y74 => if x73 < w3 then (if (t70.length : Int) > 0 then ((sweep_masks_v1.l2 k y2 m0_0 x61 t70 x73 (wr64 (x61 * 8)) y74 : Option (List (Int))).bind fun y99 => (sweep_masks_v1.l1 k y2 w3 m0_0 x61 t70 (wr64 (x73 + 1)) y99)) else (some y74)) else (some y74)
def sweep_masks_v1.l0 : Nat → List (Int × Int × Int × Int) → Int → Int → Int → Int → Int → List (Int) → Option (List (Int))
  | 0, _, _, _, _, _, _, _ => none
  | k + 1, l0, wide1, y2, w3, m0_0, x61, y62 => if x61 < 8 then (((sweep_Sample.f 0 y2 (wr64 (x61 * 8))).bind fun (t67, t68) => ((sweep_crossing_v1.f k l0 wide1 t68).bind fun t70 => (sweep_masks_v1.l1 k y2 w3 m0_0 x61 t70 0 y62)) : Option (List (Int))).bind fun y102 => (sweep_masks_v1.l0 k l0 wide1 y2 w3 m0_0 (wr64 (x61 + 1)) y102)) else (some y62)
def sweep_masks_v1.f (k : Nat) (l0 : List (Int × Int × Int × Int)) (wide1 : Int) (y2 : Int) (w3 : Int) (m0_0 : Int) : Option (List (Int)) := if w3 < 1 then (some ([] : List (Int))) else ((lmk (0 : Int) w3 w3).bind fun y55 => ((sweep_masks_v1.l0 k l0 wide1 y2 w3 m0_0 0 y55 : Option (List (Int))).bind fun y105 => (some y105)))
theorem sweep_masks_v1.ok {S : Seal} {B0 : Nat} {k : Nat} {l0 : List (Int × Int × Int × Int)} {wide1 : Int} {y2 : Int} {w3 : Int} {m0_0 : Int} {r0_ : List (Int)}{a_l0 : Option Addr} {c_l0 : Nat} (h_l0 : SlE S E_i644 l0 a_l0) (e : sweep_masks_v1.f k l0 wide1 y2 w3 m0_0 = some r0_) :
    Cal Try.prog 82 [.slice a_l0 l0.length c_l0, .int .i64 wide1, .int .i64 y2, .int .i64 w3, .func (.func 83) #[] #[.pointer (some ⟨B0, 0, none⟩)]] ([⟨B0, [.int .i64 m0_0], 1⟩] : List Own) S fun v H' S' => ∃ (N0_ : Option Nat) (nN0_ : Nat) , v = .slice (ad N0_) r0_.length (nN0_ / 1) ∧ H' = ([⟨N0_, encL E_u64 r0_, nN0_⟩, ⟨B0, [.int .i64 m0_0], 1⟩] : List Own) ∧ S' = S := by
  unfold sweep_masks_v1.f at e
  refine cal_of (c := c82) (N := 67) Try.func82 rfl rfl (by kernel_rfl) (rs := [.t 10]) (by kernel_rfl) (Nat.le_of_ble_eq_true rfl) ?_
  unfold c82
  refine w_seq ?_
  refine w_reg fun all => ?_
  refine t_qz 1 [0, 1, 2, 3, 4] (σ' := [(0, .slice a_l0 l0.length c_l0), (1, .int .i64 wide1), (2, .int .i64 y2), (3, .int .i64 w3), (4, .func (.func 83) #[] #[.pointer (some ⟨B0, 0, none⟩)])]) (by kernel_rfl) ?_
  refine t_end ?_
  show W _ _ _ _ _ _ _
  refine w_seq ?_
  refine w_seq ?_
  refine w_reg fun all => ?_
  by_cases c54 : w3 < 1
  · rw [if_pos c54] at e
    have c54b : (decide (w3 < 1)) = true := decide_eq_true c54
    refine t_qz 1 [0, 1, 2, 3, 4, 16] (σ' := [(0, .slice a_l0 l0.length c_l0), (1, .int .i64 wide1), (2, .int .i64 y2), (3, .int .i64 w3), (4, .func (.func 83) #[] #[.pointer (some ⟨B0, 0, none⟩)]), (16, .int .i64 w3)]) (by kernel_rfl) ?_
    refine t_v (dv_quiet rfl (congrArg (fun t => some (Value.bool t)) c54b)) ?_
    refine t_keep [0, 1, 2, 3, 4, 17] (σ' := [(0, .slice a_l0 l0.length c_l0), (1, .int .i64 wide1), (2, .int .i64 y2), (3, .int .i64 w3), (4, .func (.func 83) #[] #[.pointer (some ⟨B0, 0, none⟩)]), (17, .bool true)]) (by kernel_rfl) ?_
    refine t_end ?_
    show W _ _ _ _ _ _ _
    refine w_cond rfl (fun _ => ?_) (fun c_ => by cases c_)
    show W _ _ _ _ _ _ _
    refine w_seq ?_
    refine w_reg fun all => ?_
    refine t_qz 1 [10] (σ' := [(10, .slice none 0 0)]) (by kernel_rfl) ?_
    refine t_end ?_
    show W _ _ _ _ _ _ _
    refine w_ret ?_
    obtain rfl := Option.some.inj e
    exact ⟨[.slice (ad none) ([] : List (Int)).length (0 / 1)], ([⟨none, encL E_u64 ([] : List (Int)), 0⟩, ⟨B0, [.int .i64 m0_0], 1⟩] : List Own), S, ⟨(show gt _ _ = some _ from (by kernel_rfl)), trivial⟩, VS.trans VS.vac (VS.sel [0, 0] (by kernel_rfl)), none, 0, rfl, rfl, rfl⟩
  · rw [if_neg c54] at e
    have c54b : (decide (w3 < 1)) = false := decide_eq_false c54
    refine t_qz 1 [0, 1, 2, 3, 4, 16] (σ' := [(0, .slice a_l0 l0.length c_l0), (1, .int .i64 wide1), (2, .int .i64 y2), (3, .int .i64 w3), (4, .func (.func 83) #[] #[.pointer (some ⟨B0, 0, none⟩)]), (16, .int .i64 w3)]) (by kernel_rfl) ?_
    refine t_v (dv_quiet rfl (congrArg (fun t => some (Value.bool t)) c54b)) ?_
    refine t_keep [0, 1, 2, 3, 4, 17] (σ' := [(0, .slice a_l0 l0.length c_l0), (1, .int .i64 wide1), (2, .int .i64 y2), (3, .int .i64 w3), (4, .func (.func 83) #[] #[.pointer (some ⟨B0, 0, none⟩)]), (17, .bool false)]) (by kernel_rfl) ?_
    refine t_end ?_
    show W _ _ _ _ _ _ _
    refine w_cond rfl (fun c_ => by cases c_) (fun _ => ?_)
    show W _ _ _ _ _ _ _
    refine w_skip ?_
    show W _ _ _ _ _ _ _
    refine w_seq ?_
    refine w_reg fun all => ?_
    obtain ⟨y55, hl56, e⟩ := bind_of e
    refine t_qz 1 [0, 1, 2, 3, 4, 18] (σ' := [(0, .slice a_l0 l0.length c_l0), (1, .int .i64 wide1), (2, .int .i64 y2), (3, .int .i64 w3), (4, .func (.func 83) #[] #[.pointer (some ⟨B0, 0, none⟩)]), (18, .int .i64 w3)]) (by kernel_rfl) ?_
    refine t_mkl (E := E_u64) (x0 := 0) rfl rfl rfl rfl rfl (by decide) (by decide) rfl hl56 fun a57 na57 => ?_
    refine t_qz 1 [0, 1, 2, 3, 4, 11] (σ' := [(0, .slice a_l0 l0.length c_l0), (1, .int .i64 wide1), (2, .int .i64 y2), (3, .int .i64 w3), (4, .func (.func 83) #[] #[.pointer (some ⟨B0, 0, none⟩)]), (11, .slice (ad (some a57)) y55.length (na57 / 1))]) (by kernel_rfl) ?_
    refine t_end ?_
    show W _ _ _ _ _ _ _
    obtain ⟨y105, e59, e⟩ := bind_of e
    refine w_cut [11] (fun σ_ H_ S_ => [(11, .slice (ad (some a57)) y105.length (na57 / 1))] = σ_ ∧ ([⟨B0, [.int .i64 m0_0], 1⟩, ⟨some a57, encL E_u64 y105, na57⟩] : List Own) = H_ ∧ S = S_) ?_ ?_
    · show W _ _ _ _ _ _ _
      refine w_seq ?_
      refine w_reg fun all => ?_
      refine t_qz 1 [0, 1, 2, 3, 4, 11, 20] (σ' := [(0, .slice a_l0 l0.length c_l0), (1, .int .i64 wide1), (2, .int .i64 y2), (3, .int .i64 w3), (4, .func (.func 83) #[] #[.pointer (some ⟨B0, 0, none⟩)]), (11, .slice (ad (some a57)) y55.length (na57 / 1)), (20, .int .i64 0)]) (by kernel_rfl) ?_
      refine t_end ?_
      show W _ _ _ _ _ _ _
      refine w_block ?_
      refine w_kp [0, 1, 2, 3, 4, 11, 20] (σ' := [(0, .slice a_l0 l0.length c_l0), (1, .int .i64 wide1), (2, .int .i64 y2), (3, .int .i64 w3), (4, .func (.func 83) #[] #[.pointer (some ⟨B0, 0, none⟩)]), (11, .slice (ad (some a57)) y55.length (na57 / 1)), (20, .int .i64 0)]) (by kernel_rfl) ?_
      refine w_loop (fun n_ σ_ H_ S_ => ∃ (x61 : Int) (y62 : List (Int)), [(0, .slice a_l0 l0.length c_l0), (1, .int .i64 wide1), (2, .int .i64 y2), (3, .int .i64 w3), (4, .func (.func 83) #[] #[.pointer (some ⟨B0, 0, none⟩)]), (11, .slice (ad (some a57)) y62.length (na57 / 1)), (20, .int .i64 x61)] = σ_ ∧ ([⟨some a57, encL E_u64 y62, na57⟩, ⟨B0, [.int .i64 m0_0], 1⟩] : List Own) = H_ ∧ S = S_ ∧ sweep_masks_v1.l0 n_ l0 wide1 y2 w3 m0_0 x61 y62 = some y105) _ ⟨0, y55, rfl, rfl, rfl, e59⟩ ?_
      rintro n104 σ_ H_ S_ ⟨x61, y62, rfl, rfl, rfl, e59⟩
      cases n104 with
      | zero => rw [sweep_masks_v1.l0.eq_1] at e59; cases e59
      | succ k_ =>
        rw [sweep_masks_v1.l0.eq_2] at e59
        refine w_seq ?_
        refine w_reg fun all => ?_
        by_cases c63 : x61 < 8
        · rw [if_pos c63] at e59
          have c63b : (decide (x61 < 8)) = true := decide_eq_true c63
          refine t_v (dv_quiet rfl (congrArg (fun t => some (Value.bool t)) c63b)) ?_
          refine t_keep [0, 1, 2, 3, 4, 11, 20, 21] (σ' := [(0, .slice a_l0 l0.length c_l0), (1, .int .i64 wide1), (2, .int .i64 y2), (3, .int .i64 w3), (4, .func (.func 83) #[] #[.pointer (some ⟨B0, 0, none⟩)]), (11, .slice (ad (some a57)) y62.length (na57 / 1)), (20, .int .i64 x61), (21, .bool true)]) (by kernel_rfl) ?_
          refine t_end ?_
          show W _ _ _ _ _ _ _
          refine w_seq ?_
          refine w_cond rfl (fun _ => ?_) (fun c_ => by cases c_)
          show W _ _ _ _ _ _ _
          refine w_skip ?_
          show W _ _ _ _ _ _ _
          obtain ⟨y102, e65, e59⟩ := bind_of e59
          refine w_cut [0, 1, 2, 3, 4, 11, 20] (fun σ_ H_ S_ => [(0, .slice a_l0 l0.length c_l0), (1, .int .i64 wide1), (2, .int .i64 y2), (3, .int .i64 w3), (4, .func (.func 83) #[] #[.pointer (some ⟨B0, 0, none⟩)]), (11, .slice (ad (some a57)) y102.length (na57 / 1)), (20, .int .i64 x61)] = σ_ ∧ ([⟨B0, [.int .i64 m0_0], 1⟩, ⟨some a57, encL E_u64 y102, na57⟩] : List Own) = H_ ∧ S = S_) ?_ ?_
          · show W _ _ _ _ _ _ _
            refine w_block ?_
            refine w_seq ?_
            refine w_reg fun all => ?_
            refine t_qz 2 [0, 1, 2, 3, 4, 11, 12, 20] (σ' := [(0, .slice a_l0 l0.length c_l0), (1, .int .i64 wide1), (2, .int .i64 y2), (3, .int .i64 w3), (4, .func (.func 83) #[] #[.pointer (some ⟨B0, 0, none⟩)]), (11, .slice (ad (some a57)) y62.length (na57 / 1)), (12, .int .i64 x61), (20, .int .i64 x61)]) (by kernel_rfl) ?_
            refine t_end ?_
            show W _ _ _ _ _ _ _
            refine w_seq ?_
            refine w_reg fun all => ?_
            obtain ⟨⟨t67, t68⟩, h69, e65⟩ := bind_of e65
            try dsimp only at e65
            refine t_qz 5 [0, 1, 2, 3, 4, 11, 12, 20, 23, 24, 25, 27] (σ' := [(0, .slice a_l0 l0.length c_l0), (1, .int .i64 wide1), (2, .int .i64 y2), (3, .int .i64 w3), (4, .func (.func 83) #[] #[.pointer (some ⟨B0, 0, none⟩)]), (11, .slice (ad (some a57)) y62.length (na57 / 1)), (12, .int .i64 x61), (20, .int .i64 x61), (23, .slice a_l0 l0.length c_l0), (24, .int .i64 wide1), (25, .int .i64 y2), (27, .int .i64 (wr64 (x61 * 8)))]) (by kernel_rfl) ?_
            refine t_v (.call (vs := [.int .i64 0, .int .i64 y2, .int .i64 (wr64 (x61 * 8))]) rfl rfl (by kernel_rfl) (sweep_Sample.ok h69)) ?_
            obtain ⟨t70, h71, e65⟩ := bind_of e65
            refine t_qz 1 [0, 1, 2, 3, 4, 11, 12, 20, 23, 24, 29] (σ' := [(0, .slice a_l0 l0.length c_l0), (1, .int .i64 wide1), (2, .int .i64 y2), (3, .int .i64 w3), (4, .func (.func 83) #[] #[.pointer (some ⟨B0, 0, none⟩)]), (11, .slice (ad (some a57)) y62.length (na57 / 1)), (12, .int .i64 x61), (20, .int .i64 x61), (23, .slice a_l0 l0.length c_l0), (24, .int .i64 wide1), (29, .int .i64 t68)]) (by kernel_rfl) ?_
            refine t_call (vs := [.slice a_l0 l0.length c_l0, .int .i64 wide1, .int .i64 t68]) (H1 := ([] : List Own)) (F := ([⟨some a57, encL E_u64 y62, na57⟩, ⟨B0, [.int .i64 m0_0], 1⟩] : List Own)) rfl rfl (by kernel_rfl) (sel_perm (is := []) (by kernel_rfl)) (sweep_crossing_v1.ok h_l0 h71) ?_
            rintro _ _ S_ ⟨N72, nN72, rfl, rfl, hS_⟩
            obtain rfl := hS_.symm
            refine t_qz 1 [0, 1, 2, 3, 4, 11, 12, 13, 20] (σ' := [(0, .slice a_l0 l0.length c_l0), (1, .int .i64 wide1), (2, .int .i64 y2), (3, .int .i64 w3), (4, .func (.func 83) #[] #[.pointer (some ⟨B0, 0, none⟩)]), (11, .slice (ad (some a57)) y62.length (na57 / 1)), (12, .int .i64 x61), (13, .slice (ad N72) t70.length (nN72 / 4)), (20, .int .i64 x61)]) (by kernel_rfl) ?_
            refine t_end ?_
            show W _ _ _ _ _ _ _
            refine w_seq ?_
            refine w_reg fun all => ?_
            refine t_qz 1 [0, 1, 2, 3, 4, 11, 12, 13, 14, 20] (σ' := [(0, .slice a_l0 l0.length c_l0), (1, .int .i64 wide1), (2, .int .i64 y2), (3, .int .i64 w3), (4, .func (.func 83) #[] #[.pointer (some ⟨B0, 0, none⟩)]), (11, .slice (ad (some a57)) y62.length (na57 / 1)), (12, .int .i64 x61), (13, .slice (ad N72) t70.length (nN72 / 4)), (14, .int .i64 0), (20, .int .i64 x61)]) (by kernel_rfl) ?_
            refine t_end ?_
            show W _ _ _ _ _ _ _
            refine w_block ?_
            refine w_kp [0, 1, 2, 3, 4, 11, 12, 13, 14, 20] (σ' := [(0, .slice a_l0 l0.length c_l0), (1, .int .i64 wide1), (2, .int .i64 y2), (3, .int .i64 w3), (4, .func (.func 83) #[] #[.pointer (some ⟨B0, 0, none⟩)]), (11, .slice (ad (some a57)) y62.length (na57 / 1)), (12, .int .i64 x61), (13, .slice (ad N72) t70.length (nN72 / 4)), (14, .int .i64 0), (20, .int .i64 x61)]) (by kernel_rfl) ?_
            refine w_loop (fun n_ σ_ H_ S_ => ∃ (x73 : Int) (y74 : List (Int)), [(0, .slice a_l0 l0.length c_l0), (1, .int .i64 wide1), (2, .int .i64 y2), (3, .int .i64 w3), (4, .func (.func 83) #[] #[.pointer (some ⟨B0, 0, none⟩)]), (11, .slice (ad (some a57)) y74.length (na57 / 1)), (12, .int .i64 x61), (13, .slice (ad N72) t70.length (nN72 / 4)), (14, .int .i64 x73), (20, .int .i64 x61)] = σ_ ∧ ([⟨N72, encL E_i644 t70, nN72⟩, ⟨some a57, encL E_u64 y74, na57⟩, ⟨B0, [.int .i64 m0_0], 1⟩] : List Own) = H_ ∧ S = S_ ∧ sweep_masks_v1.l1 n_ y2 w3 m0_0 x61 t70 x73 y74 = some y102) _ ⟨0, y62, rfl, rfl, rfl, e65⟩ ?_
            rintro n101 σ_ H_ S_ ⟨x73, y74, rfl, rfl, rfl, e65⟩
            cases n101 with
            | zero => rw [sweep_masks_v1.l1.eq_1] at e65; cases e65
            | succ k_ =>
              rw [sweep_masks_v1.l1.eq_2] at e65
              refine w_seq ?_
              refine w_seq ?_
              refine w_reg fun all => ?_
              by_cases c75 : x73 < w3
              · rw [if_pos c75] at e65
                have c75b : (decide (x73 < w3)) = true := decide_eq_true c75
                refine t_qz 2 [0, 1, 2, 3, 4, 11, 12, 13, 14, 20, 31, 32] (σ' := [(0, .slice a_l0 l0.length c_l0), (1, .int .i64 wide1), (2, .int .i64 y2), (3, .int .i64 w3), (4, .func (.func 83) #[] #[.pointer (some ⟨B0, 0, none⟩)]), (11, .slice (ad (some a57)) y74.length (na57 / 1)), (12, .int .i64 x61), (13, .slice (ad N72) t70.length (nN72 / 4)), (14, .int .i64 x73), (20, .int .i64 x61), (31, .int .i64 x73), (32, .int .i64 w3)]) (by kernel_rfl) ?_
                refine t_v (dv_quiet rfl (congrArg (fun t => some (Value.bool t)) c75b)) ?_
                by_cases c76 : (t70.length : Int) > 0
                · rw [if_pos c76] at e65
                  have c76b : (decide ((t70.length : Int) > 0)) = true := decide_eq_true c76
                  refine t_qz 3 [0, 1, 2, 3, 4, 11, 12, 13, 14, 20, 34, 35, 36] (σ' := [(0, .slice a_l0 l0.length c_l0), (1, .int .i64 wide1), (2, .int .i64 y2), (3, .int .i64 w3), (4, .func (.func 83) #[] #[.pointer (some ⟨B0, 0, none⟩)]), (11, .slice (ad (some a57)) y74.length (na57 / 1)), (12, .int .i64 x61), (13, .slice (ad N72) t70.length (nN72 / 4)), (14, .int .i64 x73), (20, .int .i64 x61), (34, .bool true), (35, .slice (ad N72) t70.length (nN72 / 4)), (36, .int .i64 (t70.length : Int))]) (by kernel_rfl) ?_
                  refine t_v (dv_quiet rfl (congrArg (fun t => some (Value.bool t)) c76b)) ?_
                  refine t_qz 1 [0, 1, 2, 3, 4, 11, 12, 13, 14, 20, 35, 36, 37, 38] (σ' := [(0, .slice a_l0 l0.length c_l0), (1, .int .i64 wide1), (2, .int .i64 y2), (3, .int .i64 w3), (4, .func (.func 83) #[] #[.pointer (some ⟨B0, 0, none⟩)]), (11, .slice (ad (some a57)) y74.length (na57 / 1)), (12, .int .i64 x61), (13, .slice (ad N72) t70.length (nN72 / 4)), (14, .int .i64 x73), (20, .int .i64 x61), (35, .slice (ad N72) t70.length (nN72 / 4)), (36, .int .i64 (t70.length : Int)), (37, .bool true), (38, .bool true)]) (by kernel_rfl) ?_
                  refine t_end ?_
                  show W _ _ _ _ _ _ _
                  refine w_cond rfl (fun _ => ?_) (fun c_ => by cases c_)
                  show W _ _ _ _ _ _ _
                  refine w_skip ?_
                  show W _ _ _ _ _ _ _
                  obtain ⟨y99, e78, e65⟩ := bind_of e65
                  refine w_cut [0, 1, 2, 3, 4, 11, 12, 13, 14, 20, 35, 36, 37] (fun σ_ H_ S_ => [(0, .slice a_l0 l0.length c_l0), (1, .int .i64 wide1), (2, .int .i64 y2), (3, .int .i64 w3), (4, .func (.func 83) #[] #[.pointer (some ⟨B0, 0, none⟩)]), (11, .slice (ad (some a57)) y99.length (na57 / 1)), (12, .int .i64 x61), (13, .slice (ad N72) t70.length (nN72 / 4)), (14, .int .i64 x73), (20, .int .i64 x61), (35, .slice (ad N72) t70.length (nN72 / 4)), (36, .int .i64 (t70.length : Int)), (37, .bool true)] = σ_ ∧ ([⟨B0, [.int .i64 m0_0], 1⟩, ⟨some a57, encL E_u64 y99, na57⟩, ⟨N72, encL E_i644 t70, nN72⟩] : List Own) = H_ ∧ S = S_) ?_ ?_
                  · show W _ _ _ _ _ _ _
                    refine w_block ?_
                    refine w_seq ?_
                    refine w_reg fun all => ?_
                    refine t_qz 3 [0, 1, 2, 3, 4, 11, 12, 13, 14, 15, 20, 35, 36, 37] (σ' := [(0, .slice a_l0 l0.length c_l0), (1, .int .i64 wide1), (2, .int .i64 y2), (3, .int .i64 w3), (4, .func (.func 83) #[] #[.pointer (some ⟨B0, 0, none⟩)]), (11, .slice (ad (some a57)) y74.length (na57 / 1)), (12, .int .i64 x61), (13, .slice (ad N72) t70.length (nN72 / 4)), (14, .int .i64 x73), (15, .int .i64 (wr64 (x61 * 8))), (20, .int .i64 x61), (35, .slice (ad N72) t70.length (nN72 / 4)), (36, .int .i64 (t70.length : Int)), (37, .bool true)]) (by kernel_rfl) ?_
                    refine t_end ?_
                    show W _ _ _ _ _ _ _
                    refine w_block ?_
                    refine w_kp [0, 1, 2, 3, 4, 11, 12, 13, 14, 15, 20, 35, 36, 37] (σ' := [(0, .slice a_l0 l0.length c_l0), (1, .int .i64 wide1), (2, .int .i64 y2), (3, .int .i64 w3), (4, .func (.func 83) #[] #[.pointer (some ⟨B0, 0, none⟩)]), (11, .slice (ad (some a57)) y74.length (na57 / 1)), (12, .int .i64 x61), (13, .slice (ad N72) t70.length (nN72 / 4)), (14, .int .i64 x73), (15, .int .i64 (wr64 (x61 * 8))), (20, .int .i64 x61), (35, .slice (ad N72) t70.length (nN72 / 4)), (36, .int .i64 (t70.length : Int)), (37, .bool true)]) (by kernel_rfl) ?_
                    refine w_loop (fun n_ σ_ H_ S_ => ∃ (x80 : Int) (y81 : List (Int)), [(0, .slice a_l0 l0.length c_l0), (1, .int .i64 wide1), (2, .int .i64 y2), (3, .int .i64 w3), (4, .func (.func 83) #[] #[.pointer (some ⟨B0, 0, none⟩)]), (11, .slice (ad (some a57)) y81.length (na57 / 1)), (12, .int .i64 x61), (13, .slice (ad N72) t70.length (nN72 / 4)), (14, .int .i64 x73), (15, .int .i64 x80), (20, .int .i64 x61), (35, .slice (ad N72) t70.length (nN72 / 4)), (36, .int .i64 (t70.length : Int)), (37, .bool true)] = σ_ ∧ ([⟨N72, encL E_i644 t70, nN72⟩, ⟨some a57, encL E_u64 y81, na57⟩, ⟨B0, [.int .i64 m0_0], 1⟩] : List Own) = H_ ∧ S = S_ ∧ sweep_masks_v1.l2 n_ y2 m0_0 x61 t70 x73 x80 y81 = some y99) _ ⟨wr64 (x61 * 8), y74, rfl, rfl, rfl, e78⟩ ?_
                    rintro n98 σ_ H_ S_ ⟨x80, y81, rfl, rfl, rfl, e78⟩
                    cases n98 with
                    | zero => rw [sweep_masks_v1.l2.eq_1] at e78; cases e78
                    | succ k_ =>
                      rw [sweep_masks_v1.l2.eq_2] at e78
                      refine w_seq ?_
                      refine w_seq ?_
                      refine w_reg fun all => ?_
                      by_cases c82 : x80 < (wr64 ((wr64 (x61 + 1)) * 8))
                      · rw [if_pos c82] at e78
                        have c82b : (decide (x80 < (wr64 ((wr64 (x61 + 1)) * 8)))) = true := decide_eq_true c82
                        refine t_qz 4 [0, 1, 2, 3, 4, 11, 12, 13, 14, 15, 20, 35, 36, 37, 43, 46] (σ' := [(0, .slice a_l0 l0.length c_l0), (1, .int .i64 wide1), (2, .int .i64 y2), (3, .int .i64 w3), (4, .func (.func 83) #[] #[.pointer (some ⟨B0, 0, none⟩)]), (11, .slice (ad (some a57)) y81.length (na57 / 1)), (12, .int .i64 x61), (13, .slice (ad N72) t70.length (nN72 / 4)), (14, .int .i64 x73), (15, .int .i64 x80), (20, .int .i64 x61), (35, .slice (ad N72) t70.length (nN72 / 4)), (36, .int .i64 (t70.length : Int)), (37, .bool true), (43, .int .i64 x80), (46, .int .i64 (wr64 ((wr64 (x61 + 1)) * 8)))]) (by kernel_rfl) ?_
                        refine t_v (dv_quiet rfl (congrArg (fun t => some (Value.bool t)) c82b)) ?_
                        refine t_keep [0, 1, 2, 3, 4, 11, 12, 13, 14, 15, 20, 35, 36, 37, 47] (σ' := [(0, .slice a_l0 l0.length c_l0), (1, .int .i64 wide1), (2, .int .i64 y2), (3, .int .i64 w3), (4, .func (.func 83) #[] #[.pointer (some ⟨B0, 0, none⟩)]), (11, .slice (ad (some a57)) y81.length (na57 / 1)), (12, .int .i64 x61), (13, .slice (ad N72) t70.length (nN72 / 4)), (14, .int .i64 x73), (15, .int .i64 x80), (20, .int .i64 x61), (35, .slice (ad N72) t70.length (nN72 / 4)), (36, .int .i64 (t70.length : Int)), (37, .bool true), (47, .bool true)]) (by kernel_rfl) ?_
                        refine t_end ?_
                        show W _ _ _ _ _ _ _
                        refine w_cond rfl (fun _ => ?_) (fun c_ => by cases c_)
                        show W _ _ _ _ _ _ _
                        refine w_skip ?_
                        show W _ _ _ _ _ _ _
                        refine w_seq ?_
                        refine w_block ?_
                        refine w_seq ?_
                        refine w_reg fun all => ?_
                        obtain ⟨⟨t83, t84⟩, h85, e78⟩ := bind_of e78
                        try dsimp only at e78
                        refine t_qz 5 [0, 1, 2, 3, 4, 11, 12, 13, 14, 15, 20, 35, 36, 37, 50, 51, 52, 53, 54] (σ' := [(0, .slice a_l0 l0.length c_l0), (1, .int .i64 wide1), (2, .int .i64 y2), (3, .int .i64 w3), (4, .func (.func 83) #[] #[.pointer (some ⟨B0, 0, none⟩)]), (11, .slice (ad (some a57)) y81.length (na57 / 1)), (12, .int .i64 x61), (13, .slice (ad N72) t70.length (nN72 / 4)), (14, .int .i64 x73), (15, .int .i64 x80), (20, .int .i64 x61), (35, .slice (ad N72) t70.length (nN72 / 4)), (36, .int .i64 (t70.length : Int)), (37, .bool true), (50, .func (.func 83) #[] #[.pointer (some ⟨B0, 0, none⟩)]), (51, .slice (ad N72) t70.length (nN72 / 4)), (52, .int .i64 x73), (53, .int .i64 y2), (54, .int .i64 x80)]) (by kernel_rfl) ?_
                        refine t_v (.call (vs := [.int .i64 x73, .int .i64 y2, .int .i64 x80]) rfl rfl (by kernel_rfl) (sweep_Sample.ok h85)) ?_
                        obtain ⟨t86, h87, e78⟩ := bind_of e78
                        cases t86 with
                        | true =>
                          rw [if_pos rfl] at e78
                          refine t_v (.clor (vs := [.slice (ad N72) t70.length (nN72 / 4), .agg #[.int .i64 t83, .int .i64 t84]]) (caps := #[.pointer (some ⟨B0, 0, none⟩)]) (A := ([⟨N72, encL E_i644 t70, nN72⟩, ⟨B0, [.int .i64 m0_0], 1⟩] : List Own)) (F0 := ([⟨some a57, encL E_u64 y81, na57⟩] : List Own)) rfl rfl rfl (by kernel_rfl) (by kernel_rfl) (sel_perm (is := [0, 1]) (by kernel_rfl)) (cal_lendr fun S1_ le1_ hS1_ => (sweep_Fill_1_v1.ok (SlE.ofAd (E := E_i644) (L := t70) hS1_ (by decide)) h87))) ?_
                          refine t_keep [0, 1, 2, 3, 4, 11, 12, 13, 14, 15, 20, 35, 36, 37, 56] (σ' := [(0, .slice a_l0 l0.length c_l0), (1, .int .i64 wide1), (2, .int .i64 y2), (3, .int .i64 w3), (4, .func (.func 83) #[] #[.pointer (some ⟨B0, 0, none⟩)]), (11, .slice (ad (some a57)) y81.length (na57 / 1)), (12, .int .i64 x61), (13, .slice (ad N72) t70.length (nN72 / 4)), (14, .int .i64 x73), (15, .int .i64 x80), (20, .int .i64 x61), (35, .slice (ad N72) t70.length (nN72 / 4)), (36, .int .i64 (t70.length : Int)), (37, .bool true), (56, .bool true)]) (by kernel_rfl) ?_
                          refine t_end ?_
                          show W _ _ _ _ _ _ _
                          refine w_cond rfl (fun _ => ?_) (fun c_ => by cases c_)
                          show W _ _ _ _ _ _ _
                          obtain ⟨x88, hx89, e78⟩ := bind_of e78
                          have c90 : ¬ x80 < 0 := by
                            intro h_; rw [if_pos h_] at e78; cases e78
                          rw [if_neg c90] at e78
                          obtain ⟨x91, hx92, e78⟩ := bind_of e78
                          refine w_drwE mixed 8 [.v (.slice (ad (some a57)) y81.length (na57 / 1)), .v (.int .i64 x73), .v (.pointer (some ⟨bk (some a57), (x73).toNat * 1 + 0, none⟩)), .v (.int .u64 x88), .v (.int .i64 x80), .v (.int .u64 (wru64 (1 * 2 ^ (min (Int.toNat x80) 64)))), .v (.int .u64 (bits .or .u64 x88 (wru64 (1 * 2 ^ (min (Int.toNat x80) 64))))), .v (.pointer (some ⟨bk (some a57), (x73).toNat * 1 + 0, none⟩))] (by kernel_rfl) ?_ ?_
                          · refine DI.sq 2 (by kernel_rfl) rfl ?_
                            refine .cons (.quietH rfl (by intro h_; cases h_) (ixl (E := E_u64) (j := 1) rfl rfl rfl (by decide) rfl hx89)) ?_
                            refine .cons (.ld1 rfl rfl rfl (.lst 1 rfl (encL_at (lgt_in hx89).1 rfl))) ?_
                            refine DI.sq 1 (by kernel_rfl) rfl ?_
                            refine .cons (.quiet rfl (qv_shl rfl rfl c90)) ?_
                            refine DI.sq 1 (by kernel_rfl) rfl ?_
                            refine .cons (.quietH rfl (by intro h_; cases h_) (ixl (E := E_u64) (j := 1) rfl rfl rfl (by decide) rfl hx92)) ?_
                            exact .nil
                          refine fk_q 8 [0, 1, 2, 3, 4, 11, 12, 13, 14, 15, 20, 35, 36, 37, 63, 64] (σ' := [(0, .slice a_l0 l0.length c_l0), (1, .int .i64 wide1), (2, .int .i64 y2), (3, .int .i64 w3), (4, .func (.func 83) #[] #[.pointer (some ⟨B0, 0, none⟩)]), (11, .slice (ad (some a57)) y81.length (na57 / 1)), (12, .int .i64 x61), (13, .slice (ad N72) t70.length (nN72 / 4)), (14, .int .i64 x73), (15, .int .i64 x80), (20, .int .i64 x61), (35, .slice (ad N72) t70.length (nN72 / 4)), (36, .int .i64 (t70.length : Int)), (37, .bool true), (63, .int .u64 (bits .or .u64 x88 (wru64 (1 * 2 ^ (min (Int.toNat x80) 64))))), (64, .pointer (some ⟨bk (some a57), (x73).toNat * 1 + 0, none⟩))]) t_more (by kernel_rfl) ?_
                          refine fk_nil fun all => ?_
                          obtain ⟨y93, hl94, e78⟩ := bind_of e78
                          refine t_stl 1 (E := E_u64) (L := y81) (L' := y93) (i := x73) (off := 0) (y0 := x91) (y1 := (bits .or .u64 x88 (wru64 (1 * 2 ^ (min (Int.toNat x80) 64))))) (H' := ([⟨N72, encL E_i644 t70, nN72⟩, ⟨some a57, encL E_u64 y93, na57⟩, ⟨B0, [.int .i64 m0_0], 1⟩] : List Own)) rfl rfl rfl rfl rfl rfl rfl (by decide) rfl hx92 (by kernel_rfl) hl94 rfl ?_
                          refine t_keep [0, 1, 2, 3, 4, 11, 12, 13, 14, 15, 20, 35, 36, 37, 63, 64] (σ' := [(0, .slice a_l0 l0.length c_l0), (1, .int .i64 wide1), (2, .int .i64 y2), (3, .int .i64 w3), (4, .func (.func 83) #[] #[.pointer (some ⟨B0, 0, none⟩)]), (11, .slice (ad (some a57)) y81.length (na57 / 1)), (12, .int .i64 x61), (13, .slice (ad N72) t70.length (nN72 / 4)), (14, .int .i64 x73), (15, .int .i64 x80), (20, .int .i64 x61), (35, .slice (ad N72) t70.length (nN72 / 4)), (36, .int .i64 (t70.length : Int)), (37, .bool true), (63, .int .u64 (bits .or .u64 x88 (wru64 (1 * 2 ^ (min (Int.toNat x80) 64))))), (64, .pointer (some ⟨bk (some a57), (x73).toNat * 1 + 0, none⟩))]) (by kernel_rfl) ?_
                          refine t_eq (σ' := [(0, .slice a_l0 l0.length c_l0), (1, .int .i64 wide1), (2, .int .i64 y2), (3, .int .i64 w3), (4, .func (.func 83) #[] #[.pointer (some ⟨B0, 0, none⟩)]), (11, .slice (ad (some a57)) y93.length (na57 / 1)), (12, .int .i64 x61), (13, .slice (ad N72) t70.length (nN72 / 4)), (14, .int .i64 x73), (15, .int .i64 x80), (20, .int .i64 x61), (35, .slice (ad N72) t70.length (nN72 / 4)), (36, .int .i64 (t70.length : Int)), (37, .bool true), (63, .int .u64 (bits .or .u64 x88 (wru64 (1 * 2 ^ (min (Int.toNat x80) 64))))), (64, .pointer (some ⟨bk (some a57), (x73).toNat * 1 + 0, none⟩))]) (H' := ([⟨N72, encL E_i644 t70, nN72⟩, ⟨some a57, encL E_u64 y93, na57⟩, ⟨B0, [.int .i64 m0_0], 1⟩] : List Own)) (by first | rfl | rw [(lput_is hl94).2]) (by first | rfl | rw [(lput_is hl94).2]) ?_
                          refine t_keep [0, 1, 2, 3, 4, 11, 12, 13, 14, 15, 20, 35, 36, 37] (σ' := [(0, .slice a_l0 l0.length c_l0), (1, .int .i64 wide1), (2, .int .i64 y2), (3, .int .i64 w3), (4, .func (.func 83) #[] #[.pointer (some ⟨B0, 0, none⟩)]), (11, .slice (ad (some a57)) y93.length (na57 / 1)), (12, .int .i64 x61), (13, .slice (ad N72) t70.length (nN72 / 4)), (14, .int .i64 x73), (15, .int .i64 x80), (20, .int .i64 x61), (35, .slice (ad N72) t70.length (nN72 / 4)), (36, .int .i64 (t70.length : Int)), (37, .bool true)]) (by kernel_rfl) ?_
                          refine t_end ?_
                          show W _ _ _ _ _ _ _
                          refine w_reg fun all => ?_
                          refine t_qz 3 [0, 1, 2, 3, 4, 11, 12, 13, 14, 15, 20, 35, 36, 37] (σ' := [(0, .slice a_l0 l0.length c_l0), (1, .int .i64 wide1), (2, .int .i64 y2), (3, .int .i64 w3), (4, .func (.func 83) #[] #[.pointer (some ⟨B0, 0, none⟩)]), (11, .slice (ad (some a57)) y93.length (na57 / 1)), (12, .int .i64 x61), (13, .slice (ad N72) t70.length (nN72 / 4)), (14, .int .i64 x73), (15, .int .i64 (wr64 (x80 + 1))), (20, .int .i64 x61), (35, .slice (ad N72) t70.length (nN72 / 4)), (36, .int .i64 (t70.length : Int)), (37, .bool true)]) (by kernel_rfl) ?_
                          refine t_end ?_
                          exact ⟨k_, Nat.lt_succ_self _, [(0, .slice a_l0 l0.length c_l0), (1, .int .i64 wide1), (2, .int .i64 y2), (3, .int .i64 w3), (4, .func (.func 83) #[] #[.pointer (some ⟨B0, 0, none⟩)]), (11, .slice (ad (some a57)) y93.length (na57 / 1)), (12, .int .i64 x61), (13, .slice (ad N72) t70.length (nN72 / 4)), (14, .int .i64 x73), (15, .int .i64 (wr64 (x80 + 1))), (20, .int .i64 x61), (35, .slice (ad N72) t70.length (nN72 / 4)), (36, .int .i64 (t70.length : Int)), (37, .bool true)], ([⟨N72, encL E_i644 t70, nN72⟩, ⟨some a57, encL E_u64 y93, na57⟩, ⟨B0, [.int .i64 m0_0], 1⟩] : List Own), S, keep_sub [0, 1, 2, 3, 4, 11, 12, 13, 14, 15, 20, 35, 36, 37] (by kernel_rfl), VS.sel [0, 0, 0] (by kernel_rfl), wr64 (x80 + 1), y93, rfl, rfl, rfl, e78⟩
                        | false =>
                          rw [if_neg (by decide)] at e78
                          refine t_v (.clor (vs := [.slice (ad N72) t70.length (nN72 / 4), .agg #[.int .i64 t83, .int .i64 t84]]) (caps := #[.pointer (some ⟨B0, 0, none⟩)]) (A := ([⟨N72, encL E_i644 t70, nN72⟩, ⟨B0, [.int .i64 m0_0], 1⟩] : List Own)) (F0 := ([⟨some a57, encL E_u64 y81, na57⟩] : List Own)) rfl rfl rfl (by kernel_rfl) (by kernel_rfl) (sel_perm (is := [0, 1]) (by kernel_rfl)) (cal_lendr fun S1_ le1_ hS1_ => (sweep_Fill_1_v1.ok (SlE.ofAd (E := E_i644) (L := t70) hS1_ (by decide)) h87))) ?_
                          refine t_keep [0, 1, 2, 3, 4, 11, 12, 13, 14, 15, 20, 35, 36, 37, 56] (σ' := [(0, .slice a_l0 l0.length c_l0), (1, .int .i64 wide1), (2, .int .i64 y2), (3, .int .i64 w3), (4, .func (.func 83) #[] #[.pointer (some ⟨B0, 0, none⟩)]), (11, .slice (ad (some a57)) y81.length (na57 / 1)), (12, .int .i64 x61), (13, .slice (ad N72) t70.length (nN72 / 4)), (14, .int .i64 x73), (15, .int .i64 x80), (20, .int .i64 x61), (35, .slice (ad N72) t70.length (nN72 / 4)), (36, .int .i64 (t70.length : Int)), (37, .bool true), (56, .bool false)]) (by kernel_rfl) ?_
                          refine t_end ?_
                          show W _ _ _ _ _ _ _
                          refine w_cond rfl (fun c_ => by cases c_) (fun _ => ?_)
                          show W _ _ _ _ _ _ _
                          refine w_skip ?_
                          show W _ _ _ _ _ _ _
                          refine w_reg fun all => ?_
                          refine t_qz 3 [0, 1, 2, 3, 4, 11, 12, 13, 14, 15, 20, 35, 36, 37] (σ' := [(0, .slice a_l0 l0.length c_l0), (1, .int .i64 wide1), (2, .int .i64 y2), (3, .int .i64 w3), (4, .func (.func 83) #[] #[.pointer (some ⟨B0, 0, none⟩)]), (11, .slice (ad (some a57)) y81.length (na57 / 1)), (12, .int .i64 x61), (13, .slice (ad N72) t70.length (nN72 / 4)), (14, .int .i64 x73), (15, .int .i64 (wr64 (x80 + 1))), (20, .int .i64 x61), (35, .slice (ad N72) t70.length (nN72 / 4)), (36, .int .i64 (t70.length : Int)), (37, .bool true)]) (by kernel_rfl) ?_
                          refine t_end ?_
                          exact ⟨k_, Nat.lt_succ_self _, [(0, .slice a_l0 l0.length c_l0), (1, .int .i64 wide1), (2, .int .i64 y2), (3, .int .i64 w3), (4, .func (.func 83) #[] #[.pointer (some ⟨B0, 0, none⟩)]), (11, .slice (ad (some a57)) y81.length (na57 / 1)), (12, .int .i64 x61), (13, .slice (ad N72) t70.length (nN72 / 4)), (14, .int .i64 x73), (15, .int .i64 (wr64 (x80 + 1))), (20, .int .i64 x61), (35, .slice (ad N72) t70.length (nN72 / 4)), (36, .int .i64 (t70.length : Int)), (37, .bool true)], ([⟨N72, encL E_i644 t70, nN72⟩, ⟨some a57, encL E_u64 y81, na57⟩, ⟨B0, [.int .i64 m0_0], 1⟩] : List Own), S, keep_sub [0, 1, 2, 3, 4, 11, 12, 13, 14, 15, 20, 35, 36, 37] (by kernel_rfl), VS.sel [0, 0, 0] (by kernel_rfl), wr64 (x80 + 1), y81, rfl, rfl, rfl, e78⟩
                      · rw [if_neg c82] at e78
                        have c82b : (decide (x80 < (wr64 ((wr64 (x61 + 1)) * 8)))) = false := decide_eq_false c82
                        refine t_qz 4 [0, 1, 2, 3, 4, 11, 12, 13, 14, 15, 20, 35, 36, 37, 43, 46] (σ' := [(0, .slice a_l0 l0.length c_l0), (1, .int .i64 wide1), (2, .int .i64 y2), (3, .int .i64 w3), (4, .func (.func 83) #[] #[.pointer (some ⟨B0, 0, none⟩)]), (11, .slice (ad (some a57)) y81.length (na57 / 1)), (12, .int .i64 x61), (13, .slice (ad N72) t70.length (nN72 / 4)), (14, .int .i64 x73), (15, .int .i64 x80), (20, .int .i64 x61), (35, .slice (ad N72) t70.length (nN72 / 4)), (36, .int .i64 (t70.length : Int)), (37, .bool true), (43, .int .i64 x80), (46, .int .i64 (wr64 ((wr64 (x61 + 1)) * 8)))]) (by kernel_rfl) ?_
                        refine t_v (dv_quiet rfl (congrArg (fun t => some (Value.bool t)) c82b)) ?_
                        refine t_keep [0, 1, 2, 3, 4, 11, 12, 13, 14, 15, 20, 35, 36, 37, 47] (σ' := [(0, .slice a_l0 l0.length c_l0), (1, .int .i64 wide1), (2, .int .i64 y2), (3, .int .i64 w3), (4, .func (.func 83) #[] #[.pointer (some ⟨B0, 0, none⟩)]), (11, .slice (ad (some a57)) y81.length (na57 / 1)), (12, .int .i64 x61), (13, .slice (ad N72) t70.length (nN72 / 4)), (14, .int .i64 x73), (15, .int .i64 x80), (20, .int .i64 x61), (35, .slice (ad N72) t70.length (nN72 / 4)), (36, .int .i64 (t70.length : Int)), (37, .bool true), (47, .bool false)]) (by kernel_rfl) ?_
                        refine t_end ?_
                        show W _ _ _ _ _ _ _
                        refine w_cond rfl (fun c_ => by cases c_) (fun _ => ?_)
                        show W _ _ _ _ _ _ _
                        refine w_exit ?_
                        obtain rfl := Option.some.inj e78
                        exact ⟨([⟨B0, [.int .i64 m0_0], 1⟩, ⟨some a57, encL E_u64 y81, na57⟩, ⟨N72, encL E_i644 t70, nN72⟩] : List Own), S, VS.sel [2, 1, 0] (by kernel_rfl), by kernel_rfl, rfl, rfl⟩
                  · rintro σ_ H_ S_ ⟨rfl, rfl, rfl⟩
                    refine w_reg fun all => ?_
                    refine t_qz 3 [0, 1, 2, 3, 4, 11, 12, 13, 14, 20, 35, 36, 37] (σ' := [(0, .slice a_l0 l0.length c_l0), (1, .int .i64 wide1), (2, .int .i64 y2), (3, .int .i64 w3), (4, .func (.func 83) #[] #[.pointer (some ⟨B0, 0, none⟩)]), (11, .slice (ad (some a57)) y99.length (na57 / 1)), (12, .int .i64 x61), (13, .slice (ad N72) t70.length (nN72 / 4)), (14, .int .i64 (wr64 (x73 + 1))), (20, .int .i64 x61), (35, .slice (ad N72) t70.length (nN72 / 4)), (36, .int .i64 (t70.length : Int)), (37, .bool true)]) (by kernel_rfl) ?_
                    refine t_end ?_
                    exact ⟨k_, Nat.lt_succ_self _, [(0, .slice a_l0 l0.length c_l0), (1, .int .i64 wide1), (2, .int .i64 y2), (3, .int .i64 w3), (4, .func (.func 83) #[] #[.pointer (some ⟨B0, 0, none⟩)]), (11, .slice (ad (some a57)) y99.length (na57 / 1)), (12, .int .i64 x61), (13, .slice (ad N72) t70.length (nN72 / 4)), (14, .int .i64 (wr64 (x73 + 1))), (20, .int .i64 x61)], ([⟨N72, encL E_i644 t70, nN72⟩, ⟨some a57, encL E_u64 y99, na57⟩, ⟨B0, [.int .i64 m0_0], 1⟩] : List Own), S, keep_sub [0, 1, 2, 3, 4, 11, 12, 13, 14, 20] (by kernel_rfl), VS.sel [2, 1, 0] (by kernel_rfl), wr64 (x73 + 1), y99, rfl, rfl, rfl, e65⟩
                · rw [if_neg c76] at e65
                  have c76b : (decide ((t70.length : Int) > 0)) = false := decide_eq_false c76
                  refine t_qz 3 [0, 1, 2, 3, 4, 11, 12, 13, 14, 20, 34, 35, 36] (σ' := [(0, .slice a_l0 l0.length c_l0), (1, .int .i64 wide1), (2, .int .i64 y2), (3, .int .i64 w3), (4, .func (.func 83) #[] #[.pointer (some ⟨B0, 0, none⟩)]), (11, .slice (ad (some a57)) y74.length (na57 / 1)), (12, .int .i64 x61), (13, .slice (ad N72) t70.length (nN72 / 4)), (14, .int .i64 x73), (20, .int .i64 x61), (34, .bool true), (35, .slice (ad N72) t70.length (nN72 / 4)), (36, .int .i64 (t70.length : Int))]) (by kernel_rfl) ?_
                  refine t_v (dv_quiet rfl (congrArg (fun t => some (Value.bool t)) c76b)) ?_
                  refine t_qz 1 [0, 1, 2, 3, 4, 11, 12, 13, 14, 20, 35, 36, 37, 38] (σ' := [(0, .slice a_l0 l0.length c_l0), (1, .int .i64 wide1), (2, .int .i64 y2), (3, .int .i64 w3), (4, .func (.func 83) #[] #[.pointer (some ⟨B0, 0, none⟩)]), (11, .slice (ad (some a57)) y74.length (na57 / 1)), (12, .int .i64 x61), (13, .slice (ad N72) t70.length (nN72 / 4)), (14, .int .i64 x73), (20, .int .i64 x61), (35, .slice (ad N72) t70.length (nN72 / 4)), (36, .int .i64 (t70.length : Int)), (37, .bool false), (38, .bool false)]) (by kernel_rfl) ?_
                  refine t_end ?_
                  show W _ _ _ _ _ _ _
                  refine w_cond rfl (fun c_ => by cases c_) (fun _ => ?_)
                  show W _ _ _ _ _ _ _
                  refine w_exit ?_
                  obtain rfl := Option.some.inj e65
                  exact ⟨([⟨B0, [.int .i64 m0_0], 1⟩, ⟨some a57, encL E_u64 y74, na57⟩] : List Own), S, VS.sel [2, 1] (by kernel_rfl), by kernel_rfl, rfl, rfl⟩
              · rw [if_neg c75] at e65
                have c75b : (decide (x73 < w3)) = false := decide_eq_false c75
                refine t_qz 2 [0, 1, 2, 3, 4, 11, 12, 13, 14, 20, 31, 32] (σ' := [(0, .slice a_l0 l0.length c_l0), (1, .int .i64 wide1), (2, .int .i64 y2), (3, .int .i64 w3), (4, .func (.func 83) #[] #[.pointer (some ⟨B0, 0, none⟩)]), (11, .slice (ad (some a57)) y74.length (na57 / 1)), (12, .int .i64 x61), (13, .slice (ad N72) t70.length (nN72 / 4)), (14, .int .i64 x73), (20, .int .i64 x61), (31, .int .i64 x73), (32, .int .i64 w3)]) (by kernel_rfl) ?_
                refine t_v (dv_quiet rfl (congrArg (fun t => some (Value.bool t)) c75b)) ?_
                refine t_qz 5 [0, 1, 2, 3, 4, 11, 12, 13, 14, 20, 35, 36, 37, 38] (σ' := [(0, .slice a_l0 l0.length c_l0), (1, .int .i64 wide1), (2, .int .i64 y2), (3, .int .i64 w3), (4, .func (.func 83) #[] #[.pointer (some ⟨B0, 0, none⟩)]), (11, .slice (ad (some a57)) y74.length (na57 / 1)), (12, .int .i64 x61), (13, .slice (ad N72) t70.length (nN72 / 4)), (14, .int .i64 x73), (20, .int .i64 x61), (35, .tuple #[]), (36, .tuple #[]), (37, .tuple #[]), (38, .bool false)]) (by kernel_rfl) ?_
                refine t_end ?_
                show W _ _ _ _ _ _ _
                refine w_cond rfl (fun c_ => by cases c_) (fun _ => ?_)
                show W _ _ _ _ _ _ _
                refine w_exit ?_
                obtain rfl := Option.some.inj e65
                exact ⟨([⟨B0, [.int .i64 m0_0], 1⟩, ⟨some a57, encL E_u64 y74, na57⟩] : List Own), S, VS.sel [2, 1] (by kernel_rfl), by kernel_rfl, rfl, rfl⟩
          · rintro σ_ H_ S_ ⟨rfl, rfl, rfl⟩
            refine w_reg fun all => ?_
            refine t_qz 2 [0, 1, 2, 3, 4, 11, 20] (σ' := [(0, .slice a_l0 l0.length c_l0), (1, .int .i64 wide1), (2, .int .i64 y2), (3, .int .i64 w3), (4, .func (.func 83) #[] #[.pointer (some ⟨B0, 0, none⟩)]), (11, .slice (ad (some a57)) y102.length (na57 / 1)), (20, .int .i64 (wr64 (x61 + 1)))]) (by kernel_rfl) ?_
            refine t_end ?_
            exact ⟨k_, Nat.lt_succ_self _, [(0, .slice a_l0 l0.length c_l0), (1, .int .i64 wide1), (2, .int .i64 y2), (3, .int .i64 w3), (4, .func (.func 83) #[] #[.pointer (some ⟨B0, 0, none⟩)]), (11, .slice (ad (some a57)) y102.length (na57 / 1)), (20, .int .i64 (wr64 (x61 + 1)))], ([⟨some a57, encL E_u64 y102, na57⟩, ⟨B0, [.int .i64 m0_0], 1⟩] : List Own), S, keep_sub [0, 1, 2, 3, 4, 11, 20] (by kernel_rfl), VS.sel [1, 0] (by kernel_rfl), wr64 (x61 + 1), y102, rfl, rfl, rfl, e59⟩
        · rw [if_neg c63] at e59
          have c63b : (decide (x61 < 8)) = false := decide_eq_false c63
          refine t_v (dv_quiet rfl (congrArg (fun t => some (Value.bool t)) c63b)) ?_
          refine t_keep [0, 1, 2, 3, 4, 11, 20, 21] (σ' := [(0, .slice a_l0 l0.length c_l0), (1, .int .i64 wide1), (2, .int .i64 y2), (3, .int .i64 w3), (4, .func (.func 83) #[] #[.pointer (some ⟨B0, 0, none⟩)]), (11, .slice (ad (some a57)) y62.length (na57 / 1)), (20, .int .i64 x61), (21, .bool false)]) (by kernel_rfl) ?_
          refine t_end ?_
          show W _ _ _ _ _ _ _
          refine w_seq ?_
          refine w_cond rfl (fun c_ => by cases c_) (fun _ => ?_)
          show W _ _ _ _ _ _ _
          refine w_exit ?_
          obtain rfl := Option.some.inj e59
          exact ⟨([⟨B0, [.int .i64 m0_0], 1⟩, ⟨some a57, encL E_u64 y62, na57⟩] : List Own), S, VS.sel [1, 0] (by kernel_rfl), by kernel_rfl, rfl, rfl⟩
    · rintro σ_ H_ S_ ⟨rfl, rfl, rfl⟩
      refine w_seq ?_
      refine w_reg fun all => ?_
      refine t_qz 2 [10] (σ' := [(10, .slice (ad (some a57)) y105.length (na57 / 1))]) (by kernel_rfl) ?_
      refine t_end ?_
      show W _ _ _ _ _ _ _
      refine w_ret ?_
      obtain rfl := Option.some.inj e
      exact ⟨[.slice (ad (some a57)) y105.length (na57 / 1)], ([⟨some a57, encL E_u64 y105, na57⟩, ⟨B0, [.int .i64 m0_0], 1⟩] : List Own), S, ⟨(show gt _ _ = some _ from (by kernel_rfl)), trivial⟩, VS.sel [1, 0] (by kernel_rfl), some a57, na57, rfl, rfl, rfl⟩

/-- sweep.Fill -/
def c41 : C :=
  (.seq (.reg [⟨(some 5), .box (.tmp 1), none⟩,
     ⟨(some 8), .mv (.const (.slice none 0 0)), none⟩])
  (.seq (.reg [⟨(some 9), .mv (.tmp 0), none⟩,
     ⟨(some 10), .mv (.tmp 2), none⟩,
     ⟨(some 11), .mv (.tmp 3), none⟩,
     ⟨(some 12), .mkf 83 [(.tmp 5)], none⟩,
     ⟨(some 13), .call 82 [(.tmp 9), (.const (.int .i64 0)), (.tmp 10), (.tmp 11), (.tmp 12)], none⟩,
     ⟨(some 8), .mv (.tmp 13), none⟩])
  .ret))
def sweep_Fill_v1.f (k : Nat) (l0 : List (Int × Int × Int × Int)) (rule1 : Int) (y2 : Int) (w3 : Int) : Option (List (Int)) := (sweep_masks_v1.f k l0 0 y2 w3 rule1).bind fun t106 => (some t106)
theorem sweep_Fill_v1.ok {S : Seal} {k : Nat} {l0 : List (Int × Int × Int × Int)} {rule1 : Int} {y2 : Int} {w3 : Int} {r0_ : List (Int)}{a_l0 : Option Addr} {c_l0 : Nat} (h_l0 : SlE S E_i644 l0 a_l0) (e : sweep_Fill_v1.f k l0 rule1 y2 w3 = some r0_) :
    Cal Try.prog 41 [.slice a_l0 l0.length c_l0, .int .i64 rule1, .int .i64 y2, .int .i64 w3] [] S fun v H' S' => ∃ (N0_ : Option Nat) (nN0_ : Nat) , v = .slice (ad N0_) r0_.length (nN0_ / 1) ∧ H' = ([⟨N0_, encL E_u64 r0_, nN0_⟩] : List Own) ∧ S' = S := by
  unfold sweep_Fill_v1.f at e
  refine cal_of (c := c41) (N := 14) Try.func41 rfl rfl (by kernel_rfl) (rs := [.t 8]) (by kernel_rfl) (Nat.le_of_ble_eq_true rfl) ?_
  unfold c41
  refine w_seq ?_
  refine w_reg fun all => ?_
  refine t_a (.box rfl rfl rfl) fun b1 fb1 sb1 => ?_
  refine t_qz 1 [0, 2, 3, 5] (σ' := [(0, .slice a_l0 l0.length c_l0), (2, .int .i64 y2), (3, .int .i64 w3), (5, .pointer (some ⟨b1, 0, none⟩))]) (by kernel_rfl) ?_
  refine t_end ?_
  show W _ _ _ _ _ _ _
  refine w_seq ?_
  refine w_reg fun all => ?_
  obtain ⟨t106, h107, e⟩ := bind_of e
  refine t_qz 4 [9, 10, 11, 12] (σ' := [(9, .slice a_l0 l0.length c_l0), (10, .int .i64 y2), (11, .int .i64 w3), (12, .func (.func 83) #[] #[.pointer (some ⟨b1, 0, none⟩)])]) (by kernel_rfl) ?_
  refine t_call (vs := [.slice a_l0 l0.length c_l0, .int .i64 0, .int .i64 y2, .int .i64 w3, .func (.func 83) #[] #[.pointer (some ⟨b1, 0, none⟩)]]) (H1 := ([⟨b1, [.int .i64 rule1], 1⟩] : List Own)) (F := ([] : List Own)) rfl rfl (by kernel_rfl) (sel_perm (is := [0]) (by kernel_rfl)) (sweep_masks_v1.ok h_l0 h107) ?_
  rintro _ _ S_ ⟨N108, nN108, rfl, rfl, hS_⟩
  obtain rfl := hS_.symm
  refine t_qz 1 [8] (σ' := [(8, .slice (ad N108) t106.length (nN108 / 1))]) (by kernel_rfl) ?_
  refine t_end ?_
  show W _ _ _ _ _ _ _
  refine w_ret ?_
  obtain rfl := Option.some.inj e
  exact ⟨[.slice (ad N108) t106.length (nN108 / 1)], ([⟨N108, encL E_u64 t106, nN108⟩] : List Own), S, ⟨rfl, trivial⟩, VS.sel [0] (by kernel_rfl), N108, nN108, rfl, rfl, rfl⟩

/-- math/bits.OnesCount64 -/
def c85 : C :=
  (.seq (.reg [⟨(some 2), .mv (.const (.int .i64 0)), none⟩])
  (.seq (.reg [⟨(some 3), .mv (.tmp 0), none⟩,
     ⟨(some 4), .bin .shr (.tmp 3) (.const (.int .u64 1)), none⟩,
     ⟨(some 5), .bin .and (.tmp 4) (.const (.int .u64 6148914691236517205)), none⟩,
     ⟨(some 6), .mv (.tmp 0), none⟩,
     ⟨(some 7), .bin .and (.tmp 6) (.const (.int .u64 6148914691236517205)), none⟩,
     ⟨(some 8), .bin .add (.tmp 5) (.tmp 7), none⟩,
     ⟨(some 0), .mv (.tmp 8), none⟩])
  (.seq (.reg [⟨(some 9), .mv (.tmp 0), none⟩,
     ⟨(some 10), .bin .shr (.tmp 9) (.const (.int .u64 2)), none⟩,
     ⟨(some 11), .bin .and (.tmp 10) (.const (.int .u64 3689348814741910323)), none⟩,
     ⟨(some 12), .mv (.tmp 0), none⟩,
     ⟨(some 13), .bin .and (.tmp 12) (.const (.int .u64 3689348814741910323)), none⟩,
     ⟨(some 14), .bin .add (.tmp 11) (.tmp 13), none⟩,
     ⟨(some 0), .mv (.tmp 14), none⟩])
  (.seq (.reg [⟨(some 15), .mv (.tmp 0), none⟩,
     ⟨(some 16), .bin .shr (.tmp 15) (.const (.int .u64 4)), none⟩,
     ⟨(some 17), .mv (.tmp 0), none⟩,
     ⟨(some 18), .bin .add (.tmp 16) (.tmp 17), none⟩,
     ⟨(some 19), .bin .and (.tmp 18) (.const (.int .u64 1085102592571150095)), none⟩,
     ⟨(some 0), .mv (.tmp 19), none⟩])
  (.seq (.reg [⟨(some 20), .mv (.tmp 0), none⟩,
     ⟨(some 21), .mv (.tmp 0), none⟩,
     ⟨(some 22), .bin .shr (.tmp 21) (.const (.int .u64 8)), none⟩,
     ⟨(some 23), .bin .add (.tmp 20) (.tmp 22), none⟩,
     ⟨(some 0), .mv (.tmp 23), none⟩])
  (.seq (.reg [⟨(some 24), .mv (.tmp 0), none⟩,
     ⟨(some 25), .mv (.tmp 0), none⟩,
     ⟨(some 26), .bin .shr (.tmp 25) (.const (.int .u64 16)), none⟩,
     ⟨(some 27), .bin .add (.tmp 24) (.tmp 26), none⟩,
     ⟨(some 0), .mv (.tmp 27), none⟩])
  (.seq (.reg [⟨(some 28), .mv (.tmp 0), none⟩,
     ⟨(some 29), .mv (.tmp 0), none⟩,
     ⟨(some 30), .bin .shr (.tmp 29) (.const (.int .u64 32)), none⟩,
     ⟨(some 31), .bin .add (.tmp 28) (.tmp 30), none⟩,
     ⟨(some 0), .mv (.tmp 31), none⟩])
  (.seq (.reg [⟨(some 32), .mv (.tmp 0), none⟩,
     ⟨(some 33), .cnv .i64 (.tmp 32), none⟩,
     ⟨(some 34), .bin .and (.tmp 33) (.const (.int .i64 127)), none⟩,
     ⟨(some 2), .mv (.tmp 34), none⟩])
  .ret))))))))
def bits_OnesCount64_v1.f  : Option (Unit) := some ()
theorem bits_OnesCount64_v1.ok {S : Seal}  (e : bits_OnesCount64_v1.f  = some ()) :
    Cal Try.prog 85 [.int .u64 5] [] S fun v H' S' => v = .int .i64 2 ∧ H' = [] ∧ S' = S := by
  unfold bits_OnesCount64_v1.f at e
  refine cal_of (c := c85) (N := 35) Try.func85 rfl rfl (by kernel_rfl) (rs := [.t 2]) (by kernel_rfl) (Nat.le_of_ble_eq_true rfl) ?_
  unfold c85
  refine w_seq ?_
  refine w_reg fun all => ?_
  refine t_qz 1 [0] (σ' := [(0, .int .u64 5)]) (by kernel_rfl) ?_
  refine t_end ?_
  show W _ _ _ _ _ _ _
  refine w_seq ?_
  refine w_reg fun all => ?_
  refine t_qz 7 [0] (σ' := [(0, .int .u64 5)]) (by kernel_rfl) ?_
  refine t_end ?_
  show W _ _ _ _ _ _ _
  refine w_seq ?_
  refine w_reg fun all => ?_
  refine t_qz 7 [0] (σ' := [(0, .int .u64 2)]) (by kernel_rfl) ?_
  refine t_end ?_
  show W _ _ _ _ _ _ _
  refine w_seq ?_
  refine w_reg fun all => ?_
  refine t_qz 6 [0] (σ' := [(0, .int .u64 2)]) (by kernel_rfl) ?_
  refine t_end ?_
  show W _ _ _ _ _ _ _
  refine w_seq ?_
  refine w_reg fun all => ?_
  refine t_qz 5 [0] (σ' := [(0, .int .u64 2)]) (by kernel_rfl) ?_
  refine t_end ?_
  show W _ _ _ _ _ _ _
  refine w_seq ?_
  refine w_reg fun all => ?_
  refine t_qz 5 [0] (σ' := [(0, .int .u64 2)]) (by kernel_rfl) ?_
  refine t_end ?_
  show W _ _ _ _ _ _ _
  refine w_seq ?_
  refine w_reg fun all => ?_
  refine t_qz 5 [0] (σ' := [(0, .int .u64 2)]) (by kernel_rfl) ?_
  refine t_end ?_
  show W _ _ _ _ _ _ _
  refine w_seq ?_
  refine w_reg fun all => ?_
  refine t_qz 4 [2] (σ' := [(2, .int .i64 2)]) (by kernel_rfl) ?_
  refine t_end ?_
  show W _ _ _ _ _ _ _
  refine w_ret ?_
  exact ⟨[.int .i64 2], [], S, ⟨rfl, trivial⟩, VS.none, rfl, rfl, rfl⟩

/-- sweep.Count -/
def c42 : C :=
  (.seq (.reg [⟨(some 2), .mv (.const (.int .i64 0)), none⟩])
  (.seq (.reg [⟨(some 3), .mv (.tmp 0), none⟩,
     ⟨(some 4), .call 85 [(.tmp 3)], none⟩,
     ⟨(some 2), .mv (.tmp 4), none⟩])
  .ret))
def sweep_Count_v1.f  : Option (Unit) := (bits_OnesCount64_v1.f).bind fun _ => (some ())
theorem sweep_Count_v1.ok {S : Seal}  (e : sweep_Count_v1.f  = some ()) :
    Cal Try.prog 42 [.int .u64 5] [] S fun v H' S' => v = .int .i64 2 ∧ H' = [] ∧ S' = S := by
  unfold sweep_Count_v1.f at e
  refine cal_of (c := c42) (N := 5) Try.func42 rfl rfl (by kernel_rfl) (rs := [.t 2]) (by kernel_rfl) (Nat.le_of_ble_eq_true rfl) ?_
  unfold c42
  refine w_seq ?_
  refine w_reg fun all => ?_
  refine t_qz 1 [0] (σ' := [(0, .int .u64 5)]) (by kernel_rfl) ?_
  refine t_end ?_
  show W _ _ _ _ _ _ _
  refine w_seq ?_
  refine w_reg fun all => ?_
  obtain ⟨u_, h119, e⟩ := bind_of e
  refine t_qz 1 [3] (σ' := [(3, .int .u64 5)]) (by kernel_rfl) ?_
  refine t_v (.call (vs := [.int .u64 5]) rfl rfl (by kernel_rfl) (bits_OnesCount64_v1.ok h119)) ?_
  refine t_qz 1 [2] (σ' := [(2, .int .i64 2)]) (by kernel_rfl) ?_
  refine t_end ?_
  show W _ _ _ _ _ _ _
  refine w_ret ?_
  exact ⟨[.int .i64 2], [], S, ⟨rfl, trivial⟩, VS.none, rfl, rfl, rfl⟩

/-- glyphiclaw24.first -/
def c40 : C :=
  (.seq (.reg [⟨(some 0), .mv (.const (.bool false)), none⟩])
  (.seq (.reg [⟨(some 2), .call 41 [(.const (.slice none 0 0)), (.const (.int .i64 0)), (.const (.int .i64 0)), (.const (.int .i64 2))], none⟩,
     ⟨(some 1), .mv (.tmp 2), none⟩])
  (.seq (.reg [⟨(some 3), .mv (.tmp 1), none⟩,
     ⟨(some 4), .lns (.tmp 3), none⟩,
     ⟨(some 5), .bin .eql (.tmp 4) (.const (.int .i64 2)), none⟩,
     ⟨(some 6), .mv (.tmp 5), none⟩,
     ⟨(some 7), .mv (.tmp 1), (some (6, true))⟩,
     ⟨(some 8), .ixs 1 (.tmp 7) (.const (.int .i64 0)), (some (6, true))⟩,
     ⟨(some 9), .ld none (.tmp 8), (some (6, true))⟩,
     ⟨(some 10), .bin .eql (.tmp 9) (.const (.int .u64 0)), (some (6, true))⟩,
     ⟨(some 11), .pk (.tmp 6) (.tmp 10) (.const (.bool false)), none⟩,
     ⟨(some 12), .mv (.tmp 11), none⟩,
     ⟨(some 13), .mv (.tmp 1), (some (12, true))⟩,
     ⟨(some 14), .ixs 1 (.tmp 13) (.const (.int .i64 1)), (some (12, true))⟩,
     ⟨(some 15), .ld none (.tmp 14), (some (12, true))⟩,
     ⟨(some 16), .bin .eql (.tmp 15) (.const (.int .u64 0)), (some (12, true))⟩,
     ⟨(some 17), .pk (.tmp 12) (.tmp 16) (.const (.bool false)), none⟩,
     ⟨(some 18), .mv (.tmp 17), none⟩,
     ⟨(some 19), .call 42 [(.const (.int .u64 5))], (some (18, true))⟩,
     ⟨(some 20), .bin .eql (.tmp 19) (.const (.int .i64 2)), (some (18, true))⟩,
     ⟨(some 21), .pk (.tmp 18) (.tmp 20) (.const (.bool false)), none⟩,
     ⟨(some 0), .mv (.tmp 21), none⟩])
  .ret)))
def glyphiclaw24_first.f (k : Nat)  : Option (Bool) := (sweep_Fill_v1.f k ([] : List (Int × Int × Int × Int)) 0 0 2).bind fun t109 => (if (t109.length : Int) = 2 then ((lgt t109 0).bind fun x113 => (if x113 = 0 then ((lgt t109 1).bind fun x116 => (if x116 = 0 then ((sweep_Count_v1.f).bind fun _ => (some true)) else (some false))) else (some false))) else (some false))
theorem glyphiclaw24_first.ok {S : Seal} {k : Nat}  {r0_ : Bool}(e : glyphiclaw24_first.f k  = some r0_) :
    Cal Try.prog 40 [] [] S fun v H' S' => v = .bool r0_ ∧ H' = [] ∧ S' = S := by
  unfold glyphiclaw24_first.f at e
  refine cal_of (c := c40) (N := 22) Try.func40 rfl rfl (by kernel_rfl) (rs := [.t 0]) (by kernel_rfl) (Nat.le_of_ble_eq_true rfl) ?_
  unfold c40
  refine w_seq ?_
  refine w_reg fun all => ?_
  refine t_qz 1 [] (σ' := []) (by kernel_rfl) ?_
  refine t_end ?_
  show W _ _ _ _ _ _ _
  refine w_seq ?_
  refine w_reg fun all => ?_
  obtain ⟨t109, h110, e⟩ := bind_of e
  refine t_call (vs := [.slice none ([] : List (Int × Int × Int × Int)).length 0, .int .i64 0, .int .i64 0, .int .i64 2]) (H1 := ([] : List Own)) (F := ([] : List Own)) rfl rfl (by kernel_rfl) (sel_perm (is := []) (by kernel_rfl)) (sweep_Fill_v1.ok SlE.nil h110) ?_
  rintro _ _ S_ ⟨N111, nN111, rfl, rfl, hS_⟩
  obtain rfl := hS_.symm
  refine t_qz 1 [1] (σ' := [(1, .slice (ad N111) t109.length (nN111 / 1))]) (by kernel_rfl) ?_
  refine t_end ?_
  show W _ _ _ _ _ _ _
  refine w_seq ?_
  refine w_reg fun all => ?_
  by_cases c112 : (t109.length : Int) = 2
  · rw [if_pos c112] at e
    have c112b : ((t109.length : Int) == 2) = true := beq_iff_eq.mpr c112
    refine t_qz 2 [1, 4] (σ' := [(1, .slice (ad N111) t109.length (nN111 / 1)), (4, .int .i64 (t109.length : Int))]) (by kernel_rfl) ?_
    refine t_v (dv_quiet rfl (congrArg (fun t => some (Value.bool t)) c112b)) ?_
    obtain ⟨x113, hx114, e⟩ := bind_of e
    refine t_qz 2 [1, 6, 7] (σ' := [(1, .slice (ad N111) t109.length (nN111 / 1)), (6, .bool true), (7, .slice (ad N111) t109.length (nN111 / 1))]) (by kernel_rfl) ?_
    refine t_v (.quietH rfl (by intro h_; cases h_) (ixl (E := E_u64) (j := 0) rfl rfl rfl (by decide) rfl hx114)) ?_
    refine t_v (.ld1 rfl rfl rfl (.lst 0 rfl (encL_at (lgt_in hx114).1 rfl))) ?_
    by_cases c115 : x113 = 0
    · rw [if_pos c115] at e
      have c115b : (x113 == 0) = true := beq_iff_eq.mpr c115
      refine t_v (dv_quiet rfl (congrArg (fun t => some (Value.bool t)) c115b)) ?_
      obtain ⟨x116, hx117, e⟩ := bind_of e
      refine t_qz 3 [12, 13] (σ' := [(12, .bool true), (13, .slice (ad N111) t109.length (nN111 / 1))]) (by kernel_rfl) ?_
      refine t_v (.quietH rfl (by intro h_; cases h_) (ixl (E := E_u64) (j := 0) rfl rfl rfl (by decide) rfl hx117)) ?_
      refine t_v (.ld1 rfl rfl rfl (.lst 0 rfl (encL_at (lgt_in hx117).1 rfl))) ?_
      by_cases c118 : x116 = 0
      · rw [if_pos c118] at e
        have c118b : (x116 == 0) = true := beq_iff_eq.mpr c118
        refine t_v (dv_quiet rfl (congrArg (fun t => some (Value.bool t)) c118b)) ?_
        obtain ⟨u_, h120, e⟩ := bind_of e
        refine t_qz 2 [18] (σ' := [(18, .bool true)]) (by kernel_rfl) ?_
        refine t_v (.call (vs := [.int .u64 5]) rfl rfl (by kernel_rfl) (sweep_Count_v1.ok h120)) ?_
        refine t_qz 3 [0] (σ' := [(0, .bool true)]) (by kernel_rfl) ?_
        refine t_end ?_
        show W _ _ _ _ _ _ _
        refine w_ret ?_
        obtain rfl := Option.some.inj e
        exact ⟨[.bool true], [], S, ⟨rfl, trivial⟩, VS.none, rfl, rfl, rfl⟩
      · rw [if_neg c118] at e
        have c118b : (x116 == 0) = false := beq_eq_false_iff_ne.mpr c118
        refine t_v (dv_quiet rfl (congrArg (fun t => some (Value.bool t)) c118b)) ?_
        refine t_qz 6 [0] (σ' := [(0, .bool false)]) (by kernel_rfl) ?_
        refine t_end ?_
        show W _ _ _ _ _ _ _
        refine w_ret ?_
        obtain rfl := Option.some.inj e
        exact ⟨[.bool false], [], S, ⟨rfl, trivial⟩, VS.none, rfl, rfl, rfl⟩
    · rw [if_neg c115] at e
      have c115b : (x113 == 0) = false := beq_eq_false_iff_ne.mpr c115
      refine t_v (dv_quiet rfl (congrArg (fun t => some (Value.bool t)) c115b)) ?_
      refine t_qz 12 [0] (σ' := [(0, .bool false)]) (by kernel_rfl) ?_
      refine t_end ?_
      show W _ _ _ _ _ _ _
      refine w_ret ?_
      obtain rfl := Option.some.inj e
      exact ⟨[.bool false], [], S, ⟨rfl, trivial⟩, VS.none, rfl, rfl, rfl⟩
  · rw [if_neg c112] at e
    have c112b : ((t109.length : Int) == 2) = false := beq_eq_false_iff_ne.mpr c112
    refine t_qz 2 [1, 4] (σ' := [(1, .slice (ad N111) t109.length (nN111 / 1)), (4, .int .i64 (t109.length : Int))]) (by kernel_rfl) ?_
    refine t_v (dv_quiet rfl (congrArg (fun t => some (Value.bool t)) c112b)) ?_
    refine t_qz 17 [0] (σ' := [(0, .bool false)]) (by kernel_rfl) ?_
    refine t_end ?_
    show W _ _ _ _ _ _ _
    refine w_ret ?_
    obtain rfl := Option.some.inj e
    exact ⟨[.bool false], [], S, ⟨rfl, trivial⟩, VS.none, rfl, rfl, rfl⟩

def bits_OnesCount64.f (x0 : Int) : Option (Int) := (some (wru64 ((bits .and .u64 (Int.fdiv x0 2) 6148914691236517205) + (bits .and .u64 x0 6148914691236517205)))).bind fun v197 => ((some (wru64 ((bits .and .u64 (Int.fdiv v197 4) 3689348814741910323) + (bits .and .u64 v197 3689348814741910323)))).bind fun v199 => ((some (bits .and .u64 (wru64 ((Int.fdiv v199 16) + v199)) 1085102592571150095)).bind fun v201 => ((some (wru64 ((wru64 (v201 + (Int.fdiv v201 256))) + (Int.fdiv (wru64 (v201 + (Int.fdiv v201 256))) 65536)))).bind fun v203 => ((some (bits .and .i64 (wr64 (wru64 (v203 + (Int.fdiv v203 4294967296)))) 127)).bind fun v205 => (some v205)))))
theorem bits_OnesCount64.ok {S : Seal} {x0 : Int} {r0_ : Int}(e : bits_OnesCount64.f x0 = some r0_) :
    Cal Try.prog 85 [.int .u64 x0] [] S fun v H' S' => v = .int .i64 r0_ ∧ H' = [] ∧ S' = S := by
  unfold bits_OnesCount64.f at e
  refine cal_of (c := c85) (N := 35) Try.func85 rfl rfl (by kernel_rfl) (rs := [.t 2]) (by kernel_rfl) (Nat.le_of_ble_eq_true rfl) ?_
  unfold c85
  refine w_seq ?_
  refine w_reg fun all => ?_
  refine t_qz 1 [0] (σ' := [(0, .int .u64 x0)]) (by kernel_rfl) ?_
  refine t_end ?_
  show W _ _ _ _ _ _ _
  refine w_seq ?_
  refine w_reg fun all => ?_
  obtain ⟨v197, hv198, e⟩ := bind_of e
  have hv198b := Option.some.inj hv198
  refine t_qz 5 [5, 7] (σ' := [(5, .int .u64 (bits .and .u64 (Int.fdiv x0 2) 6148914691236517205)), (7, .int .u64 (bits .and .u64 x0 6148914691236517205))]) (by kernel_rfl) ?_
  refine t_v (dv_quiet rfl (congrArg (fun t => some (Value.int .u64 t)) hv198b)) ?_
  refine t_qz 1 [0] (σ' := [(0, .int .u64 v197)]) (by kernel_rfl) ?_
  refine t_end ?_
  show W _ _ _ _ _ _ _
  refine w_seq ?_
  refine w_reg fun all => ?_
  obtain ⟨v199, hv200, e⟩ := bind_of e
  have hv200b := Option.some.inj hv200
  refine t_qz 5 [11, 13] (σ' := [(11, .int .u64 (bits .and .u64 (Int.fdiv v197 4) 3689348814741910323)), (13, .int .u64 (bits .and .u64 v197 3689348814741910323))]) (by kernel_rfl) ?_
  refine t_v (dv_quiet rfl (congrArg (fun t => some (Value.int .u64 t)) hv200b)) ?_
  refine t_qz 1 [0] (σ' := [(0, .int .u64 v199)]) (by kernel_rfl) ?_
  refine t_end ?_
  show W _ _ _ _ _ _ _
  refine w_seq ?_
  refine w_reg fun all => ?_
  obtain ⟨v201, hv202, e⟩ := bind_of e
  have hv202b := Option.some.inj hv202
  refine t_qz 4 [18] (σ' := [(18, .int .u64 (wru64 ((Int.fdiv v199 16) + v199)))]) (by kernel_rfl) ?_
  refine t_v (dv_quiet rfl (congrArg (fun t => some (Value.int .u64 t)) hv202b)) ?_
  refine t_qz 1 [0] (σ' := [(0, .int .u64 v201)]) (by kernel_rfl) ?_
  refine t_end ?_
  show W _ _ _ _ _ _ _
  refine w_seq ?_
  refine w_reg fun all => ?_
  refine t_qz 5 [0] (σ' := [(0, .int .u64 (wru64 (v201 + (Int.fdiv v201 256))))]) (by kernel_rfl) ?_
  refine t_end ?_
  show W _ _ _ _ _ _ _
  refine w_seq ?_
  refine w_reg fun all => ?_
  obtain ⟨v203, hv204, e⟩ := bind_of e
  have hv204b := Option.some.inj hv204
  refine t_qz 3 [24, 26] (σ' := [(24, .int .u64 (wru64 (v201 + (Int.fdiv v201 256)))), (26, .int .u64 (Int.fdiv (wru64 (v201 + (Int.fdiv v201 256))) 65536))]) (by kernel_rfl) ?_
  refine t_v (dv_quiet rfl (congrArg (fun t => some (Value.int .u64 t)) hv204b)) ?_
  refine t_qz 1 [0] (σ' := [(0, .int .u64 v203)]) (by kernel_rfl) ?_
  refine t_end ?_
  show W _ _ _ _ _ _ _
  refine w_seq ?_
  refine w_reg fun all => ?_
  refine t_qz 5 [0] (σ' := [(0, .int .u64 (wru64 (v203 + (Int.fdiv v203 4294967296))))]) (by kernel_rfl) ?_
  refine t_end ?_
  show W _ _ _ _ _ _ _
  refine w_seq ?_
  refine w_reg fun all => ?_
  obtain ⟨v205, hv206, e⟩ := bind_of e
  have hv206b := Option.some.inj hv206
  refine t_qz 2 [33] (σ' := [(33, .int .i64 (wr64 (wru64 (v203 + (Int.fdiv v203 4294967296)))))]) (by kernel_rfl) ?_
  refine t_v (dv_quiet rfl (congrArg (fun t => some (Value.int .i64 t)) hv206b)) ?_
  refine t_qz 1 [2] (σ' := [(2, .int .i64 v205)]) (by kernel_rfl) ?_
  refine t_end ?_
  show W _ _ _ _ _ _ _
  refine w_ret ?_
  obtain rfl := Option.some.inj e
  exact ⟨[.int .i64 v205], [], S, ⟨rfl, trivial⟩, VS.none, rfl, rfl, rfl⟩

def sweep_Count.f (mask0 : Int) : Option (Int) := (bits_OnesCount64.f mask0).bind fun t207 => (some t207)
theorem sweep_Count.ok {S : Seal} {mask0 : Int} {r0_ : Int}(e : sweep_Count.f mask0 = some r0_) :
    Cal Try.prog 42 [.int .u64 mask0] [] S fun v H' S' => v = .int .i64 r0_ ∧ H' = [] ∧ S' = S := by
  unfold sweep_Count.f at e
  refine cal_of (c := c42) (N := 5) Try.func42 rfl rfl (by kernel_rfl) (rs := [.t 2]) (by kernel_rfl) (Nat.le_of_ble_eq_true rfl) ?_
  unfold c42
  refine w_seq ?_
  refine w_reg fun all => ?_
  refine t_qz 1 [0] (σ' := [(0, .int .u64 mask0)]) (by kernel_rfl) ?_
  refine t_end ?_
  show W _ _ _ _ _ _ _
  refine w_seq ?_
  refine w_reg fun all => ?_
  obtain ⟨t207, h208, e⟩ := bind_of e
  refine t_qz 1 [3] (σ' := [(3, .int .u64 mask0)]) (by kernel_rfl) ?_
  refine t_v (.call (vs := [.int .u64 mask0]) rfl rfl (by kernel_rfl) (bits_OnesCount64.ok h208)) ?_
  refine t_qz 1 [2] (σ' := [(2, .int .i64 t207)]) (by kernel_rfl) ?_
  refine t_end ?_
  show W _ _ _ _ _ _ _
  refine w_ret ?_
  obtain rfl := Option.some.inj e
  exact ⟨[.int .i64 t207], [], S, ⟨rfl, trivial⟩, VS.none, rfl, rfl, rfl⟩

/-- glyphiclaw24.SweepSquares -/
def c9 : C :=
  (.seq (.reg [⟨(some 8), .mv (.const (.bool false)), none⟩])
  (.seq (.reg [⟨(some 26), .call 40 [], none⟩,
     ⟨(some 9), .mv (.tmp 26), none⟩])
  (.seq (.seq (.reg [⟨(some 27), .mv (.tmp 9), none⟩,
      ⟨(some 28), .un .not (.tmp 27), none⟩])
   (.cond (.tmp 28)
    (.seq (.reg [⟨(some 8), .mv (.const (.bool false)), none⟩])
     .ret)
    .skip))
  (.seq (.reg [⟨(some 29), .mv (.tmp 0), none⟩,
     ⟨(some 30), .bin .rem (.tmp 29) (.const (.int .i64 4)), none⟩,
     ⟨(some 31), .bin .add (.tmp 30) (.const (.int .i64 4)), none⟩,
     ⟨(some 32), .bin .rem (.tmp 31) (.const (.int .i64 4)), none⟩,
     ⟨(some 0), .mv (.tmp 32), none⟩])
  (.seq (.reg [⟨(some 33), .mv (.tmp 1), none⟩,
     ⟨(some 34), .bin .rem (.tmp 33) (.const (.int .i64 3)), none⟩,
     ⟨(some 35), .bin .add (.tmp 34) (.const (.int .i64 3)), none⟩,
     ⟨(some 36), .bin .rem (.tmp 35) (.const (.int .i64 3)), none⟩,
     ⟨(some 37), .bin .add (.tmp 36) (.const (.int .i64 1)), none⟩,
     ⟨(some 1), .mv (.tmp 37), none⟩])
  (.seq (.reg [⟨(some 38), .mv (.tmp 2), none⟩,
     ⟨(some 39), .bin .rem (.tmp 38) (.const (.int .i64 9)), none⟩,
     ⟨(some 40), .bin .add (.tmp 39) (.const (.int .i64 9)), none⟩,
     ⟨(some 41), .bin .rem (.tmp 40) (.const (.int .i64 9)), none⟩,
     ⟨(some 2), .mv (.tmp 41), none⟩])
  (.seq (.reg [⟨(some 42), .mv (.tmp 0), none⟩,
     ⟨(some 43), .bin .mul (.tmp 42) (.const (.int .i64 256)), none⟩,
     ⟨(some 44), .mv (.tmp 2), none⟩,
     ⟨(some 45), .bin .mul (.const (.int .i64 32)) (.tmp 44), none⟩,
     ⟨(some 46), .bin .add (.tmp 43) (.tmp 45), none⟩,
     ⟨(some 47), .bld [(.int .i64 0), (.int .i64 0)] [(0, 1, (.tmp 46)), (1, 1, (.const (.int .i64 0)))], none⟩,
     ⟨(some 10), .new [(.int .i64 0), (.int .i64 0)], none⟩,
     ⟨none, .st 2 (.tmp 10) (.tmp 47), none⟩])
  (.seq (.reg [⟨(some 48), .pad 0 (.tmp 10), none⟩,
     ⟨(some 49), .ld none (.tmp 48), none⟩,
     ⟨(some 50), .mv (.tmp 1), none⟩,
     ⟨(some 51), .bin .mul (.tmp 50) (.const (.int .i64 256)), none⟩,
     ⟨(some 52), .bin .add (.tmp 49) (.tmp 51), none⟩,
     ⟨(some 53), .bld [(.int .i64 0), (.int .i64 0)] [(0, 1, (.tmp 52)), (1, 1, (.const (.int .i64 256)))], none⟩,
     ⟨(some 11), .new [(.int .i64 0), (.int .i64 0)], none⟩,
     ⟨none, .st 2 (.tmp 11) (.tmp 53), none⟩])
  (.seq (.reg [⟨(some 54), .ld (some 2) (.tmp 10), none⟩,
     ⟨(some 55), .pad 0 (.tmp 11), none⟩,
     ⟨(some 56), .ld none (.tmp 55), none⟩,
     ⟨(some 57), .pad 1 (.tmp 10), none⟩,
     ⟨(some 58), .ld none (.tmp 57), none⟩,
     ⟨(some 59), .bld [(.int .i64 0), (.int .i64 0)] [(0, 1, (.tmp 56)), (1, 1, (.tmp 58))], none⟩,
     ⟨(some 60), .ld (some 2) (.tmp 11), none⟩,
     ⟨(some 61), .pad 0 (.tmp 10), none⟩,
     ⟨(some 62), .ld none (.tmp 61), none⟩,
     ⟨(some 63), .pad 1 (.tmp 11), none⟩,
     ⟨(some 64), .ld none (.tmp 63), none⟩,
     ⟨(some 65), .bld [(.int .i64 0), (.int .i64 0)] [(0, 1, (.tmp 62)), (1, 1, (.tmp 64))], none⟩,
     ⟨(some 66), .bsl [(.int .i64 0), (.int .i64 0), (.int .i64 0), (.int .i64 0), (.int .i64 0), (.int .i64 0), (.int .i64 0), (.int .i64 0)] 4 [(0, 2, (.tmp 54)), (2, 2, (.tmp 59)), (4, 2, (.tmp 60)), (6, 2, (.tmp 65))], none⟩,
     ⟨(some 12), .mv (.tmp 66), none⟩])
  (.seq (.reg [⟨(some 13), .mv (.const (.slice none 0 0)), none⟩])
  (.seq (.seq (.reg [⟨(some 14), .mv (.const (.int .i64 0)), none⟩])
   (.block 0 (.loop (.seq (.seq (.reg [⟨(some 67), .mv (.tmp 14), none⟩,
         ⟨(some 68), .bin .lss (.tmp 67) (.const (.int .i64 4)), none⟩])
      (.cond (.tmp 68)
       .skip
       (.exit 0)))
     (.seq (.block 1 (.seq (.reg [⟨(some 71), .mv (.tmp 12), none⟩,
          ⟨(some 72), .mv (.tmp 14), none⟩,
          ⟨(some 73), .ixs 2 (.tmp 71) (.tmp 72), none⟩,
          ⟨(some 74), .ld (some 2) (.tmp 73), none⟩,
          ⟨(some 15), .new [(.int .i64 0), (.int .i64 0)], none⟩,
          ⟨none, .st 2 (.tmp 15) (.tmp 74), none⟩])
       (.seq (.reg [⟨(some 75), .mv (.tmp 12), none⟩,
          ⟨(some 76), .mv (.tmp 14), none⟩,
          ⟨(some 77), .bin .add (.tmp 76) (.const (.int .i64 1)), none⟩,
          ⟨(some 78), .bin .rem (.tmp 77) (.const (.int .i64 4)), none⟩,
          ⟨(some 79), .ixs 2 (.tmp 75) (.tmp 78), none⟩,
          ⟨(some 80), .ld (some 2) (.tmp 79), none⟩,
          ⟨(some 16), .new [(.int .i64 0), (.int .i64 0)], none⟩,
          ⟨none, .st 2 (.tmp 16) (.tmp 80), none⟩])
       (.seq (.seq (.reg [⟨(some 81), .mv (.tmp 3), none⟩])
        (.cond (.tmp 81)
         (.reg [⟨(some 82), .ld (some 2) (.tmp 16), none⟩,
            ⟨(some 83), .ld (some 2) (.tmp 15), none⟩,
            ⟨none, .st 2 (.tmp 15) (.tmp 82), none⟩,
            ⟨none, .st 2 (.tmp 16) (.tmp 83), none⟩])
         .skip))
       (.reg [⟨(some 84), .mv (.tmp 13), none⟩,
         ⟨(some 85), .ld (some 2) (.tmp 15), none⟩,
         ⟨(some 86), .ld (some 2) (.tmp 16), none⟩,
         ⟨(some 87), .bld [(.int .i64 0), (.int .i64 0), (.int .i64 0), (.int .i64 0)] [(0, 2, (.tmp 85)), (2, 2, (.tmp 86))], none⟩,
         ⟨(some 88), .bsl [(.int .i64 0), (.int .i64 0), (.int .i64 0), (.int .i64 0)] 1 [(0, 4, (.tmp 87))], none⟩,
         ⟨(some 89), .app 36 4 32 [(.int .i64 0), (.int .i64 0), (.int .i64 0), (.int .i64 0)] (.tmp 84) (.tmp 88), none⟩,
         ⟨(some 13), .mv (.tmp 89), none⟩])))))
     (.reg [⟨(some 69), .mv (.tmp 14), none⟩,
       ⟨(some 70), .bin .add (.tmp 69) (.const (.int .i64 1)), none⟩,
       ⟨(some 14), .mv (.tmp 70), none⟩]))))))
  (.seq (.seq (.reg [⟨(some 17), .mv (.const (.int .i64 0)), none⟩])
   (.block 2 (.loop (.seq (.seq (.reg [⟨(some 90), .mv (.tmp 17), none⟩,
         ⟨(some 91), .bin .lss (.tmp 90) (.const (.int .i64 2)), none⟩])
      (.cond (.tmp 91)
       .skip
       (.exit 2)))
     (.seq (.block 3 (.seq (.reg [⟨(some 94), .mv (.tmp 13), none⟩,
          ⟨(some 95), .mv (.tmp 17), none⟩,
          ⟨(some 96), .call 41 [(.tmp 94), (.tmp 95), (.const (.int .i64 0)), (.const (.int .i64 10))], none⟩,
          ⟨(some 18), .mv (.tmp 96), none⟩])
       (.seq (.reg [⟨(some 97), .mv (.tmp 13), none⟩,
          ⟨(some 98), .mv (.tmp 17), none⟩,
          ⟨(some 99), .call 41 [(.tmp 97), (.tmp 98), (.const (.int .i64 1)), (.const (.int .i64 10))], none⟩,
          ⟨(some 19), .mv (.tmp 99), none⟩])
       (.seq (.reg [⟨(some 20), .mv (.const (.int .i64 0)), none⟩])
       (.seq (.seq (.reg [⟨(some 100), .mv (.tmp 18), none⟩,
           ⟨(some 101), .lns (.tmp 100), none⟩,
           ⟨(some 102), .bin .neq (.tmp 101) (.const (.int .i64 10)), none⟩,
           ⟨(some 103), .mv (.tmp 102), none⟩,
           ⟨(some 104), .mv (.tmp 19), (some (103, false))⟩,
           ⟨(some 105), .lns (.tmp 104), (some (103, false))⟩,
           ⟨(some 106), .bin .neq (.tmp 105) (.const (.int .i64 10)), (some (103, false))⟩,
           ⟨(some 107), .pk (.tmp 103) (.const (.bool true)) (.tmp 106), none⟩])
        (.cond (.tmp 107)
         (.seq (.reg [⟨(some 8), .mv (.const (.bool false)), none⟩])
          .ret)
         .skip))
       (.seq (.seq (.reg [⟨(some 21), .mv (.const (.int .i64 0)), none⟩])
        (.block 4 (.loop (.seq (.seq (.reg [⟨(some 108), .mv (.tmp 21), none⟩,
              ⟨(some 109), .bin .lss (.tmp 108) (.const (.int .i64 10)), none⟩])
           (.cond (.tmp 109)
            .skip
            (.exit 4)))
          (.seq (.block 5 (.seq (.reg [⟨(some 112), .mv (.tmp 18), none⟩,
               ⟨(some 113), .mv (.tmp 21), none⟩,
               ⟨(some 114), .ixs 1 (.tmp 112) (.tmp 113), none⟩,
               ⟨(some 115), .ld none (.tmp 114), none⟩,
               ⟨(some 116), .call 42 [(.tmp 115)], none⟩,
               ⟨(some 22), .mv (.tmp 116), none⟩])
            (.seq (.reg [⟨(some 117), .mv (.tmp 20), none⟩,
               ⟨(some 118), .mv (.tmp 22), none⟩,
               ⟨(some 119), .bin .add (.tmp 117) (.tmp 118), none⟩,
               ⟨(some 20), .mv (.tmp 119), none⟩])
            (.seq (.reg [⟨(some 23), .mv (.const (.int .i64 0)), none⟩])
            (.seq (.seq (.reg [⟨(some 24), .mv (.const (.int .i64 0)), none⟩])
             (.block 6 (.loop (.seq (.seq (.reg [⟨(some 120), .mv (.tmp 24), none⟩,
                   ⟨(some 121), .bin .lss (.tmp 120) (.const (.int .i64 8)), none⟩])
                (.cond (.tmp 121)
                 .skip
                 (.exit 6)))
               (.seq (.block 7 (.seq (.reg [⟨(some 124), .mv (.tmp 21), none⟩,
                    ⟨(some 125), .bin .mul (.tmp 124) (.const (.int .i64 256)), none⟩,
                    ⟨(some 126), .mv (.tmp 24), none⟩,
                    ⟨(some 127), .bin .mul (.const (.int .i64 32)) (.tmp 126), none⟩,
                    ⟨(some 128), .bin .add (.tmp 125) (.tmp 127), none⟩,
                    ⟨(some 129), .bin .add (.tmp 128) (.const (.int .i64 16)), none⟩,
                    ⟨(some 25), .mv (.tmp 129), none⟩])
                 (.seq (.reg [⟨(some 130), .mv (.tmp 25), none⟩,
                    ⟨(some 131), .pad 0 (.tmp 10), none⟩,
                    ⟨(some 132), .ld none (.tmp 131), none⟩,
                    ⟨(some 133), .bin .gtr (.tmp 130) (.tmp 132), none⟩,
                    ⟨(some 134), .mv (.tmp 133), none⟩,
                    ⟨(some 135), .mv (.tmp 25), (some (134, true))⟩,
                    ⟨(some 136), .pad 0 (.tmp 11), (some (134, true))⟩,
                    ⟨(some 137), .ld none (.tmp 136), (some (134, true))⟩,
                    ⟨(some 138), .bin .lss (.tmp 135) (.tmp 137), (some (134, true))⟩,
                    ⟨(some 139), .pk (.tmp 134) (.tmp 138) (.const (.bool false)), none⟩])
                 (.cond (.tmp 139)
                  (.reg [⟨(some 140), .mv (.tmp 23), none⟩,
                     ⟨(some 141), .bin .add (.tmp 140) (.const (.int .i64 8)), none⟩,
                     ⟨(some 23), .mv (.tmp 141), none⟩])
                  .skip))))
               (.reg [⟨(some 122), .mv (.tmp 24), none⟩,
                 ⟨(some 123), .bin .add (.tmp 122) (.const (.int .i64 1)), none⟩,
                 ⟨(some 24), .mv (.tmp 123), none⟩]))))))
            (.seq (.reg [⟨(some 142), .mv (.tmp 22), none⟩,
               ⟨(some 143), .mv (.tmp 23), none⟩,
               ⟨(some 144), .bin .neq (.tmp 142) (.tmp 143), none⟩,
               ⟨(some 145), .mv (.tmp 144), none⟩,
               ⟨(some 146), .mv (.tmp 19), (some (145, false))⟩,
               ⟨(some 147), .mv (.tmp 21), (some (145, false))⟩,
               ⟨(some 148), .ixs 1 (.tmp 146) (.tmp 147), (some (145, false))⟩,
               ⟨(some 149), .ld none (.tmp 148), (some (145, false))⟩,
               ⟨(some 150), .bin .neq (.tmp 149) (.const (.int .u64 0)), (some (145, false))⟩,
               ⟨(some 151), .pk (.tmp 145) (.const (.bool true)) (.tmp 150), none⟩])
            (.cond (.tmp 151)
             (.seq (.reg [⟨(some 8), .mv (.const (.bool false)), none⟩])
              .ret)
             .skip)))))))
          (.reg [⟨(some 110), .mv (.tmp 21), none⟩,
            ⟨(some 111), .bin .add (.tmp 110) (.const (.int .i64 1)), none⟩,
            ⟨(some 21), .mv (.tmp 111), none⟩]))))))
       (.seq (.reg [⟨(some 152), .mv (.tmp 20), none⟩,
          ⟨(some 153), .mv (.tmp 1), none⟩,
          ⟨(some 154), .bin .mul (.const (.int .i64 64)) (.tmp 153), none⟩,
          ⟨(some 155), .bin .neq (.tmp 152) (.tmp 154), none⟩])
       (.cond (.tmp 155)
        (.seq (.reg [⟨(some 8), .mv (.const (.bool false)), none⟩])
         .ret)
        .skip))))))))
     (.reg [⟨(some 92), .mv (.tmp 17), none⟩,
       ⟨(some 93), .bin .add (.tmp 92) (.const (.int .i64 1)), none⟩,
       ⟨(some 17), .mv (.tmp 93), none⟩]))))))
  (.seq (.reg [⟨(some 156), .mv (.tmp 9), none⟩,
     ⟨(some 8), .mv (.tmp 156), none⟩])
  .ret)))))))))))))
def glyphiclaw24_SweepSquares.l2 : Nat → Int → Int → Int → Int → Int → Int → Int → Option (Int × Int)
  | 0, _, _, _, _, _, _, _ => none
  | k + 1, x168, x169, x189, x190, t209, x214, x215 => if x215 < 8 then (if (wr64 ((wr64 ((wr64 (x190 * 256)) + (wr64 (32 * x215)))) + 16)) > x169 then (if (wr64 ((wr64 ((wr64 (x190 * 256)) + (wr64 (32 * x215)))) + 16)) < x168 then (glyphiclaw24_SweepSquares.l2 k x168 x169 x189 x190 t209 (wr64 (x214 + 8)) (wr64 (x215 + 1))) else (glyphiclaw24_SweepSquares.l2 k x168 x169 x189 x190 t209 x214 (wr64 (x215 + 1)))) else (glyphiclaw24_SweepSquares.l2 k x168 x169 x189 x190 t209 x214 (wr64 (x215 + 1)))) else (some (wr64 (x189 + t209), x214))
def glyphiclaw24_SweepSquares.l1 : Nat → Int → Int → List (Int) → List (Int) → Int → Int → Option ((Bool) ⊕ (Int))
  | 0, _, _, _, _, _, _ => none
  | k + 1, x168, x169, t178, t181, x189, x190 => if x190 < 10 then (((lgt t178 x190).bind fun x195 => ((sweep_Count.f x195).bind fun t209 => ((glyphiclaw24_SweepSquares.l2 k x168 x169 x189 x190 t209 0 0 : Option (Int × Int)).bind fun (x223, x224) => (if t209 = x224 then ((lgt t181 x190).bind fun x226 => (if x226 = 0 then (some (.inr (x223, x226))) else (some (.inl false)))) else (some (.inl false))))) : Option ((Bool) ⊕ (Int × Int))).bind fun s_ => match s_ with | .inl q232 => some (.inl q232) | .inr (x229, x230) => (glyphiclaw24_SweepSquares.l1 k x168 x169 t178 t181 x229 (wr64 (x190 + 1)))) else (some (.inr x189))
def glyphiclaw24_SweepSquares.l0 : Nat → Int → List (Int × Int × Int × Int) → Int → Int → Int → Option ((Bool) ⊕ (Unit))
  | 0, _, _, _, _, _ => none
  | k + 1, x161, y163, x168, x169, x173 => if x173 < 2 then (((sweep_Fill_v1.f k y163 x173 0 10).bind fun t178 => ((sweep_Fill_v1.f k y163 x173 1 10).bind fun t181 => (if (t178.length : Int) = 10 then (if (t181.length : Int) = 10 then ((glyphiclaw24_SweepSquares.l1 k x168 x169 t178 t181 0 0 : Option ((Bool) ⊕ (Int))).bind fun s_ => match s_ with | .inl q236 => some (.inl q236) | .inr x234 => (if x234 = (wr64 (64 * x161)) then (some (.inr (t181, (t181.length : Int)))) else (some (.inl false)))) else (some (.inl false))) else (some (.inl false)))) : Option ((Bool) ⊕ (List (Int) × Int))).bind fun s_ => match s_ with | .inl q241 => some (.inl q241) | .inr (y238, x239) => (glyphiclaw24_SweepSquares.l0 k x161 y163 x168 x169 (wr64 (x173 + 1)))) else (some (.inr ()))
def glyphiclaw24_SweepSquares.f (k : Nat) (t0 : Int) (o1 : Int) (A2 : Int) (r3 : Bool) : Option (Bool) := (glyphiclaw24_first.f k).bind fun t121 => (if t121 = true then ((if r3 = true then (some (wr64 ((Int.tmod (wr64 ((Int.tmod o1 3) + 3)) 3) + 1), ([(wr64 ((wr64 ((wr64 ((Int.tmod (wr64 ((Int.tmod t0 4) + 4)) 4) * 256)) + (wr64 (32 * (Int.tmod (wr64 ((Int.tmod A2 9) + 9)) 9))))) + (wr64 ((wr64 ((Int.tmod (wr64 ((Int.tmod o1 3) + 3)) 3) + 1)) * 256))), 0, wr64 ((wr64 ((Int.tmod (wr64 ((Int.tmod t0 4) + 4)) 4) * 256)) + (wr64 (32 * (Int.tmod (wr64 ((Int.tmod A2 9) + 9)) 9)))), 0), (wr64 ((wr64 ((wr64 ((Int.tmod (wr64 ((Int.tmod t0 4) + 4)) 4) * 256)) + (wr64 (32 * (Int.tmod (wr64 ((Int.tmod A2 9) + 9)) 9))))) + (wr64 ((wr64 ((Int.tmod (wr64 ((Int.tmod o1 3) + 3)) 3) + 1)) * 256))), 256, wr64 ((wr64 ((wr64 ((Int.tmod (wr64 ((Int.tmod t0 4) + 4)) 4) * 256)) + (wr64 (32 * (Int.tmod (wr64 ((Int.tmod A2 9) + 9)) 9))))) + (wr64 ((wr64 ((Int.tmod (wr64 ((Int.tmod o1 3) + 3)) 3) + 1)) * 256))), 0), (wr64 ((wr64 ((Int.tmod (wr64 ((Int.tmod t0 4) + 4)) 4) * 256)) + (wr64 (32 * (Int.tmod (wr64 ((Int.tmod A2 9) + 9)) 9)))), 256, wr64 ((wr64 ((wr64 ((Int.tmod (wr64 ((Int.tmod t0 4) + 4)) 4) * 256)) + (wr64 (32 * (Int.tmod (wr64 ((Int.tmod A2 9) + 9)) 9))))) + (wr64 ((wr64 ((Int.tmod (wr64 ((Int.tmod o1 3) + 3)) 3) + 1)) * 256))), 256), (wr64 ((wr64 ((Int.tmod (wr64 ((Int.tmod t0 4) + 4)) 4) * 256)) + (wr64 (32 * (Int.tmod (wr64 ((Int.tmod A2 9) + 9)) 9)))), 0, wr64 ((wr64 ((Int.tmod (wr64 ((Int.tmod t0 4) + 4)) 4) * 256)) + (wr64 (32 * (Int.tmod (wr64 ((Int.tmod A2 9) + 9)) 9)))), 256)] : List (Int × Int × Int × Int)), wr64 ((wr64 ((Int.tmod (wr64 ((Int.tmod t0 4) + 4)) 4) * 256)) + (wr64 (32 * (Int.tmod (wr64 ((Int.tmod A2 9) + 9)) 9)))), wr64 ((wr64 ((wr64 ((Int.tmod (wr64 ((Int.tmod t0 4) + 4)) 4) * 256)) + (wr64 (32 * (Int.tmod (wr64 ((Int.tmod A2 9) + 9)) 9))))) + (wr64 ((wr64 ((Int.tmod (wr64 ((Int.tmod o1 3) + 3)) 3) + 1)) * 256))), wr64 ((wr64 ((wr64 ((Int.tmod (wr64 ((Int.tmod t0 4) + 4)) 4) * 256)) + (wr64 (32 * (Int.tmod (wr64 ((Int.tmod A2 9) + 9)) 9))))) + (wr64 ((wr64 ((Int.tmod (wr64 ((Int.tmod o1 3) + 3)) 3) + 1)) * 256))), wr64 ((wr64 ((Int.tmod (wr64 ((Int.tmod t0 4) + 4)) 4) * 256)) + (wr64 (32 * (Int.tmod (wr64 ((Int.tmod A2 9) + 9)) 9)))), wr64 ((wr64 ((wr64 ((Int.tmod (wr64 ((Int.tmod t0 4) + 4)) 4) * 256)) + (wr64 (32 * (Int.tmod (wr64 ((Int.tmod A2 9) + 9)) 9))))) + (wr64 ((wr64 ((Int.tmod (wr64 ((Int.tmod o1 3) + 3)) 3) + 1)) * 256))), wr64 ((wr64 ((Int.tmod (wr64 ((Int.tmod t0 4) + 4)) 4) * 256)) + (wr64 (32 * (Int.tmod (wr64 ((Int.tmod A2 9) + 9)) 9)))))) else (some (wr64 ((Int.tmod (wr64 ((Int.tmod o1 3) + 3)) 3) + 1), ([(wr64 ((wr64 ((Int.tmod (wr64 ((Int.tmod t0 4) + 4)) 4) * 256)) + (wr64 (32 * (Int.tmod (wr64 ((Int.tmod A2 9) + 9)) 9)))), 0, wr64 ((wr64 ((wr64 ((Int.tmod (wr64 ((Int.tmod t0 4) + 4)) 4) * 256)) + (wr64 (32 * (Int.tmod (wr64 ((Int.tmod A2 9) + 9)) 9))))) + (wr64 ((wr64 ((Int.tmod (wr64 ((Int.tmod o1 3) + 3)) 3) + 1)) * 256))), 0), (wr64 ((wr64 ((wr64 ((Int.tmod (wr64 ((Int.tmod t0 4) + 4)) 4) * 256)) + (wr64 (32 * (Int.tmod (wr64 ((Int.tmod A2 9) + 9)) 9))))) + (wr64 ((wr64 ((Int.tmod (wr64 ((Int.tmod o1 3) + 3)) 3) + 1)) * 256))), 0, wr64 ((wr64 ((wr64 ((Int.tmod (wr64 ((Int.tmod t0 4) + 4)) 4) * 256)) + (wr64 (32 * (Int.tmod (wr64 ((Int.tmod A2 9) + 9)) 9))))) + (wr64 ((wr64 ((Int.tmod (wr64 ((Int.tmod o1 3) + 3)) 3) + 1)) * 256))), 256), (wr64 ((wr64 ((wr64 ((Int.tmod (wr64 ((Int.tmod t0 4) + 4)) 4) * 256)) + (wr64 (32 * (Int.tmod (wr64 ((Int.tmod A2 9) + 9)) 9))))) + (wr64 ((wr64 ((Int.tmod (wr64 ((Int.tmod o1 3) + 3)) 3) + 1)) * 256))), 256, wr64 ((wr64 ((Int.tmod (wr64 ((Int.tmod t0 4) + 4)) 4) * 256)) + (wr64 (32 * (Int.tmod (wr64 ((Int.tmod A2 9) + 9)) 9)))), 256), (wr64 ((wr64 ((Int.tmod (wr64 ((Int.tmod t0 4) + 4)) 4) * 256)) + (wr64 (32 * (Int.tmod (wr64 ((Int.tmod A2 9) + 9)) 9)))), 256, wr64 ((wr64 ((Int.tmod (wr64 ((Int.tmod t0 4) + 4)) 4) * 256)) + (wr64 (32 * (Int.tmod (wr64 ((Int.tmod A2 9) + 9)) 9)))), 0)] : List (Int × Int × Int × Int)), wr64 ((wr64 ((Int.tmod (wr64 ((Int.tmod t0 4) + 4)) 4) * 256)) + (wr64 (32 * (Int.tmod (wr64 ((Int.tmod A2 9) + 9)) 9)))), wr64 ((wr64 ((wr64 ((Int.tmod (wr64 ((Int.tmod t0 4) + 4)) 4) * 256)) + (wr64 (32 * (Int.tmod (wr64 ((Int.tmod A2 9) + 9)) 9))))) + (wr64 ((wr64 ((Int.tmod (wr64 ((Int.tmod o1 3) + 3)) 3) + 1)) * 256))), wr64 ((wr64 ((wr64 ((Int.tmod (wr64 ((Int.tmod t0 4) + 4)) 4) * 256)) + (wr64 (32 * (Int.tmod (wr64 ((Int.tmod A2 9) + 9)) 9))))) + (wr64 ((wr64 ((Int.tmod (wr64 ((Int.tmod o1 3) + 3)) 3) + 1)) * 256))), wr64 ((wr64 ((Int.tmod (wr64 ((Int.tmod t0 4) + 4)) 4) * 256)) + (wr64 (32 * (Int.tmod (wr64 ((Int.tmod A2 9) + 9)) 9)))), wr64 ((wr64 ((wr64 ((Int.tmod (wr64 ((Int.tmod t0 4) + 4)) 4) * 256)) + (wr64 (32 * (Int.tmod (wr64 ((Int.tmod A2 9) + 9)) 9))))) + (wr64 ((wr64 ((Int.tmod (wr64 ((Int.tmod o1 3) + 3)) 3) + 1)) * 256))), wr64 ((wr64 ((Int.tmod (wr64 ((Int.tmod t0 4) + 4)) 4) * 256)) + (wr64 (32 * (Int.tmod (wr64 ((Int.tmod A2 9) + 9)) 9)))))) : Option (Int × List (Int × Int × Int × Int) × Int × Int × Int × Int × Int × Int)).bind fun (x161, y163, x164, x165, x166, x167, x168, x169) => ((glyphiclaw24_SweepSquares.l0 k x161 y163 x168 x169 0 : Option ((Bool) ⊕ (Unit))).bind fun s_ => match s_ with | .inl q243 => some q243 | .inr _ => (some t121))) else (some false))
theorem glyphiclaw24_SweepSquares.ok {S : Seal} {k : Nat} {t0 : Int} {o1 : Int} {A2 : Int} {r3 : Bool} (e : glyphiclaw24_SweepSquares.f k t0 o1 A2 r3 = some true) :
    Cal Try.prog 9 [.int .i64 t0, .int .i64 o1, .int .i64 A2, .bool r3] [] S fun v H' S' => v = .bool true ∧ H' = [] ∧ S' = S := by
  unfold glyphiclaw24_SweepSquares.f at e
  refine cal_of (c := c9) (N := 157) Try.func9 rfl rfl (by kernel_rfl) (rs := [.t 8]) (by kernel_rfl) (Nat.le_of_ble_eq_true rfl) ?_
  unfold c9
  refine w_seq ?_
  refine w_reg fun all => ?_
  refine t_qz 1 [0, 1, 2, 3] (σ' := [(0, .int .i64 t0), (1, .int .i64 o1), (2, .int .i64 A2), (3, .bool r3)]) (by kernel_rfl) ?_
  refine t_end ?_
  show W _ _ _ _ _ _ _
  refine w_seq ?_
  refine w_reg fun all => ?_
  obtain ⟨t121, h122, e⟩ := bind_of e
  refine t_v (.call (vs := []) rfl rfl (by kernel_rfl) (glyphiclaw24_first.ok h122)) ?_
  refine t_qz 1 [0, 1, 2, 3, 9] (σ' := [(0, .int .i64 t0), (1, .int .i64 o1), (2, .int .i64 A2), (3, .bool r3), (9, .bool t121)]) (by kernel_rfl) ?_
  refine t_end ?_
  show W _ _ _ _ _ _ _
  refine w_seq ?_
  refine w_seq ?_
  refine w_reg fun all => ?_
  by_cases c123 : t121 = true
  · rw [if_pos c123] at e
    have c123b : t121 = true := c123
    refine t_qz 1 [0, 1, 2, 3, 9, 27] (σ' := [(0, .int .i64 t0), (1, .int .i64 o1), (2, .int .i64 A2), (3, .bool r3), (9, .bool t121), (27, .bool t121)]) (by kernel_rfl) ?_
    refine t_v (dv_quiet rfl (congrArg (fun t => some (Value.bool (!t))) c123b)) ?_
    refine t_keep [0, 1, 2, 3, 9, 28] (σ' := [(0, .int .i64 t0), (1, .int .i64 o1), (2, .int .i64 A2), (3, .bool r3), (9, .bool t121), (28, .bool false)]) (by kernel_rfl) ?_
    refine t_end ?_
    show W _ _ _ _ _ _ _
    refine w_cond rfl (fun c_ => by cases c_) (fun _ => ?_)
    show W _ _ _ _ _ _ _
    refine w_skip ?_
    show W _ _ _ _ _ _ _
    refine w_seq ?_
    refine w_reg fun all => ?_
    refine t_qz 5 [0, 1, 2, 3, 9] (σ' := [(0, .int .i64 (Int.tmod (wr64 ((Int.tmod t0 4) + 4)) 4)), (1, .int .i64 o1), (2, .int .i64 A2), (3, .bool r3), (9, .bool t121)]) (by kernel_rfl) ?_
    refine t_end ?_
    show W _ _ _ _ _ _ _
    refine w_seq ?_
    refine w_reg fun all => ?_
    refine t_qz 6 [0, 1, 2, 3, 9] (σ' := [(0, .int .i64 (Int.tmod (wr64 ((Int.tmod t0 4) + 4)) 4)), (1, .int .i64 (wr64 ((Int.tmod (wr64 ((Int.tmod o1 3) + 3)) 3) + 1))), (2, .int .i64 A2), (3, .bool r3), (9, .bool t121)]) (by kernel_rfl) ?_
    refine t_end ?_
    show W _ _ _ _ _ _ _
    refine w_seq ?_
    refine w_reg fun all => ?_
    refine t_qz 5 [0, 1, 2, 3, 9] (σ' := [(0, .int .i64 (Int.tmod (wr64 ((Int.tmod t0 4) + 4)) 4)), (1, .int .i64 (wr64 ((Int.tmod (wr64 ((Int.tmod o1 3) + 3)) 3) + 1))), (2, .int .i64 (Int.tmod (wr64 ((Int.tmod A2 9) + 9)) 9)), (3, .bool r3), (9, .bool t121)]) (by kernel_rfl) ?_
    refine t_end ?_
    show W _ _ _ _ _ _ _
    refine w_seq ?_
    refine w_reg fun all => ?_
    refine t_qz 6 [1, 3, 9, 47] (σ' := [(1, .int .i64 (wr64 ((Int.tmod (wr64 ((Int.tmod o1 3) + 3)) 3) + 1))), (3, .bool r3), (9, .bool t121), (47, .agg #[.int .i64 (wr64 ((wr64 ((Int.tmod (wr64 ((Int.tmod t0 4) + 4)) 4) * 256)) + (wr64 (32 * (Int.tmod (wr64 ((Int.tmod A2 9) + 9)) 9))))), .int .i64 0])]) (by kernel_rfl) ?_
    refine t_a (.new rfl rfl) fun b124 fb124 sb124 => ?_
    refine t_sti 0 (cs := [.int .i64 (wr64 ((wr64 ((Int.tmod (wr64 ((Int.tmod t0 4) + 4)) 4) * 256)) + (wr64 (32 * (Int.tmod (wr64 ((Int.tmod A2 9) + 9)) 9))))), .int .i64 0]) rfl rfl rfl rfl rfl rfl rfl rfl rfl ?_
    refine t_keep [1, 3, 9, 10] (σ' := [(1, .int .i64 (wr64 ((Int.tmod (wr64 ((Int.tmod o1 3) + 3)) 3) + 1))), (3, .bool r3), (9, .bool t121), (10, .pointer (some ⟨b124, 0, none⟩))]) (by kernel_rfl) ?_
    refine t_end ?_
    show W _ _ _ _ _ _ _
    refine w_seq ?_
    refine w_reg fun all => ?_
    refine t_qz 1 [1, 3, 9, 10, 48] (σ' := [(1, .int .i64 (wr64 ((Int.tmod (wr64 ((Int.tmod o1 3) + 3)) 3) + 1))), (3, .bool r3), (9, .bool t121), (10, .pointer (some ⟨b124, 0, none⟩)), (48, .pointer (some ⟨b124, 0, none⟩))]) (by kernel_rfl) ?_
    refine t_v (.ld1 rfl rfl rfl (.at 0 rfl rfl)) ?_
    refine t_qz 4 [1, 3, 9, 10, 53] (σ' := [(1, .int .i64 (wr64 ((Int.tmod (wr64 ((Int.tmod o1 3) + 3)) 3) + 1))), (3, .bool r3), (9, .bool t121), (10, .pointer (some ⟨b124, 0, none⟩)), (53, .agg #[.int .i64 (wr64 ((wr64 ((wr64 ((Int.tmod (wr64 ((Int.tmod t0 4) + 4)) 4) * 256)) + (wr64 (32 * (Int.tmod (wr64 ((Int.tmod A2 9) + 9)) 9))))) + (wr64 ((wr64 ((Int.tmod (wr64 ((Int.tmod o1 3) + 3)) 3) + 1)) * 256)))), .int .i64 256])]) (by kernel_rfl) ?_
    refine t_a (.new rfl rfl) fun b125 fb125 sb125 => ?_
    refine t_sti 0 (cs := [.int .i64 (wr64 ((wr64 ((wr64 ((Int.tmod (wr64 ((Int.tmod t0 4) + 4)) 4) * 256)) + (wr64 (32 * (Int.tmod (wr64 ((Int.tmod A2 9) + 9)) 9))))) + (wr64 ((wr64 ((Int.tmod (wr64 ((Int.tmod o1 3) + 3)) 3) + 1)) * 256)))), .int .i64 256]) rfl rfl rfl rfl rfl rfl rfl rfl rfl ?_
    refine t_keep [1, 3, 9, 10, 11] (σ' := [(1, .int .i64 (wr64 ((Int.tmod (wr64 ((Int.tmod o1 3) + 3)) 3) + 1))), (3, .bool r3), (9, .bool t121), (10, .pointer (some ⟨b124, 0, none⟩)), (11, .pointer (some ⟨b125, 0, none⟩))]) (by kernel_rfl) ?_
    refine t_end ?_
    show W _ _ _ _ _ _ _
    refine w_seq ?_
    refine w_reg fun all => ?_
    refine t_v (.ldn rfl rfl rfl (.at 1 rfl rfl)) ?_
    refine t_qz 1 [1, 3, 9, 10, 11, 54, 55] (σ' := [(1, .int .i64 (wr64 ((Int.tmod (wr64 ((Int.tmod o1 3) + 3)) 3) + 1))), (3, .bool r3), (9, .bool t121), (10, .pointer (some ⟨b124, 0, none⟩)), (11, .pointer (some ⟨b125, 0, none⟩)), (54, .agg #[.int .i64 (wr64 ((wr64 ((Int.tmod (wr64 ((Int.tmod t0 4) + 4)) 4) * 256)) + (wr64 (32 * (Int.tmod (wr64 ((Int.tmod A2 9) + 9)) 9))))), .int .i64 0]), (55, .pointer (some ⟨b125, 0, none⟩))]) (by kernel_rfl) ?_
    refine t_v (.ld1 rfl rfl rfl (.at 0 rfl rfl)) ?_
    refine t_qz 1 [1, 3, 9, 10, 11, 54, 56, 57] (σ' := [(1, .int .i64 (wr64 ((Int.tmod (wr64 ((Int.tmod o1 3) + 3)) 3) + 1))), (3, .bool r3), (9, .bool t121), (10, .pointer (some ⟨b124, 0, none⟩)), (11, .pointer (some ⟨b125, 0, none⟩)), (54, .agg #[.int .i64 (wr64 ((wr64 ((Int.tmod (wr64 ((Int.tmod t0 4) + 4)) 4) * 256)) + (wr64 (32 * (Int.tmod (wr64 ((Int.tmod A2 9) + 9)) 9))))), .int .i64 0]), (56, .int .i64 (wr64 ((wr64 ((wr64 ((Int.tmod (wr64 ((Int.tmod t0 4) + 4)) 4) * 256)) + (wr64 (32 * (Int.tmod (wr64 ((Int.tmod A2 9) + 9)) 9))))) + (wr64 ((wr64 ((Int.tmod (wr64 ((Int.tmod o1 3) + 3)) 3) + 1)) * 256))))), (57, .pointer (some ⟨b124, 1, none⟩))]) (by kernel_rfl) ?_
    refine t_v (.ld1 rfl rfl rfl (.at 1 rfl rfl)) ?_
    refine t_qz 1 [1, 3, 9, 10, 11, 54, 59] (σ' := [(1, .int .i64 (wr64 ((Int.tmod (wr64 ((Int.tmod o1 3) + 3)) 3) + 1))), (3, .bool r3), (9, .bool t121), (10, .pointer (some ⟨b124, 0, none⟩)), (11, .pointer (some ⟨b125, 0, none⟩)), (54, .agg #[.int .i64 (wr64 ((wr64 ((Int.tmod (wr64 ((Int.tmod t0 4) + 4)) 4) * 256)) + (wr64 (32 * (Int.tmod (wr64 ((Int.tmod A2 9) + 9)) 9))))), .int .i64 0]), (59, .agg #[.int .i64 (wr64 ((wr64 ((wr64 ((Int.tmod (wr64 ((Int.tmod t0 4) + 4)) 4) * 256)) + (wr64 (32 * (Int.tmod (wr64 ((Int.tmod A2 9) + 9)) 9))))) + (wr64 ((wr64 ((Int.tmod (wr64 ((Int.tmod o1 3) + 3)) 3) + 1)) * 256)))), .int .i64 0])]) (by kernel_rfl) ?_
    refine t_v (.ldn rfl rfl rfl (.at 0 rfl rfl)) ?_
    refine t_qz 1 [1, 3, 9, 10, 11, 54, 59, 60, 61] (σ' := [(1, .int .i64 (wr64 ((Int.tmod (wr64 ((Int.tmod o1 3) + 3)) 3) + 1))), (3, .bool r3), (9, .bool t121), (10, .pointer (some ⟨b124, 0, none⟩)), (11, .pointer (some ⟨b125, 0, none⟩)), (54, .agg #[.int .i64 (wr64 ((wr64 ((Int.tmod (wr64 ((Int.tmod t0 4) + 4)) 4) * 256)) + (wr64 (32 * (Int.tmod (wr64 ((Int.tmod A2 9) + 9)) 9))))), .int .i64 0]), (59, .agg #[.int .i64 (wr64 ((wr64 ((wr64 ((Int.tmod (wr64 ((Int.tmod t0 4) + 4)) 4) * 256)) + (wr64 (32 * (Int.tmod (wr64 ((Int.tmod A2 9) + 9)) 9))))) + (wr64 ((wr64 ((Int.tmod (wr64 ((Int.tmod o1 3) + 3)) 3) + 1)) * 256)))), .int .i64 0]), (60, .agg #[.int .i64 (wr64 ((wr64 ((wr64 ((Int.tmod (wr64 ((Int.tmod t0 4) + 4)) 4) * 256)) + (wr64 (32 * (Int.tmod (wr64 ((Int.tmod A2 9) + 9)) 9))))) + (wr64 ((wr64 ((Int.tmod (wr64 ((Int.tmod o1 3) + 3)) 3) + 1)) * 256)))), .int .i64 256]), (61, .pointer (some ⟨b124, 0, none⟩))]) (by kernel_rfl) ?_
    refine t_v (.ld1 rfl rfl rfl (.at 1 rfl rfl)) ?_
    refine t_qz 1 [1, 3, 9, 10, 11, 54, 59, 60, 62, 63] (σ' := [(1, .int .i64 (wr64 ((Int.tmod (wr64 ((Int.tmod o1 3) + 3)) 3) + 1))), (3, .bool r3), (9, .bool t121), (10, .pointer (some ⟨b124, 0, none⟩)), (11, .pointer (some ⟨b125, 0, none⟩)), (54, .agg #[.int .i64 (wr64 ((wr64 ((Int.tmod (wr64 ((Int.tmod t0 4) + 4)) 4) * 256)) + (wr64 (32 * (Int.tmod (wr64 ((Int.tmod A2 9) + 9)) 9))))), .int .i64 0]), (59, .agg #[.int .i64 (wr64 ((wr64 ((wr64 ((Int.tmod (wr64 ((Int.tmod t0 4) + 4)) 4) * 256)) + (wr64 (32 * (Int.tmod (wr64 ((Int.tmod A2 9) + 9)) 9))))) + (wr64 ((wr64 ((Int.tmod (wr64 ((Int.tmod o1 3) + 3)) 3) + 1)) * 256)))), .int .i64 0]), (60, .agg #[.int .i64 (wr64 ((wr64 ((wr64 ((Int.tmod (wr64 ((Int.tmod t0 4) + 4)) 4) * 256)) + (wr64 (32 * (Int.tmod (wr64 ((Int.tmod A2 9) + 9)) 9))))) + (wr64 ((wr64 ((Int.tmod (wr64 ((Int.tmod o1 3) + 3)) 3) + 1)) * 256)))), .int .i64 256]), (62, .int .i64 (wr64 ((wr64 ((Int.tmod (wr64 ((Int.tmod t0 4) + 4)) 4) * 256)) + (wr64 (32 * (Int.tmod (wr64 ((Int.tmod A2 9) + 9)) 9)))))), (63, .pointer (some ⟨b125, 1, none⟩))]) (by kernel_rfl) ?_
    refine t_v (.ld1 rfl rfl rfl (.at 0 rfl rfl)) ?_
    refine t_qz 1 [1, 3, 9, 10, 11, 54, 59, 60, 65] (σ' := [(1, .int .i64 (wr64 ((Int.tmod (wr64 ((Int.tmod o1 3) + 3)) 3) + 1))), (3, .bool r3), (9, .bool t121), (10, .pointer (some ⟨b124, 0, none⟩)), (11, .pointer (some ⟨b125, 0, none⟩)), (54, .agg #[.int .i64 (wr64 ((wr64 ((Int.tmod (wr64 ((Int.tmod t0 4) + 4)) 4) * 256)) + (wr64 (32 * (Int.tmod (wr64 ((Int.tmod A2 9) + 9)) 9))))), .int .i64 0]), (59, .agg #[.int .i64 (wr64 ((wr64 ((wr64 ((Int.tmod (wr64 ((Int.tmod t0 4) + 4)) 4) * 256)) + (wr64 (32 * (Int.tmod (wr64 ((Int.tmod A2 9) + 9)) 9))))) + (wr64 ((wr64 ((Int.tmod (wr64 ((Int.tmod o1 3) + 3)) 3) + 1)) * 256)))), .int .i64 0]), (60, .agg #[.int .i64 (wr64 ((wr64 ((wr64 ((Int.tmod (wr64 ((Int.tmod t0 4) + 4)) 4) * 256)) + (wr64 (32 * (Int.tmod (wr64 ((Int.tmod A2 9) + 9)) 9))))) + (wr64 ((wr64 ((Int.tmod (wr64 ((Int.tmod o1 3) + 3)) 3) + 1)) * 256)))), .int .i64 256]), (65, .agg #[.int .i64 (wr64 ((wr64 ((Int.tmod (wr64 ((Int.tmod t0 4) + 4)) 4) * 256)) + (wr64 (32 * (Int.tmod (wr64 ((Int.tmod A2 9) + 9)) 9))))), .int .i64 256])]) (by kernel_rfl) ?_
    refine t_a (.bsl rfl rfl rfl rfl) fun b126 fb126 sb126 => ?_
    refine t_qz 1 [1, 3, 9, 10, 11, 12] (σ' := [(1, .int .i64 (wr64 ((Int.tmod (wr64 ((Int.tmod o1 3) + 3)) 3) + 1))), (3, .bool r3), (9, .bool t121), (10, .pointer (some ⟨b124, 0, none⟩)), (11, .pointer (some ⟨b125, 0, none⟩)), (12, .slice (some ⟨b126, 0, none⟩) 4 4)]) (by kernel_rfl) ?_
    refine t_end ?_
    show W _ _ _ _ _ _ _
    refine w_seq ?_
    refine w_reg fun all => ?_
    refine t_qz 1 [1, 3, 9, 10, 11, 12, 13] (σ' := [(1, .int .i64 (wr64 ((Int.tmod (wr64 ((Int.tmod o1 3) + 3)) 3) + 1))), (3, .bool r3), (9, .bool t121), (10, .pointer (some ⟨b124, 0, none⟩)), (11, .pointer (some ⟨b125, 0, none⟩)), (12, .slice (some ⟨b126, 0, none⟩) 4 4), (13, .slice none 0 0)]) (by kernel_rfl) ?_
    refine t_end ?_
    show W _ _ _ _ _ _ _
    obtain ⟨⟨x161, y163, x164, x165, x166, x167, x168, x169⟩, e128, e⟩ := bind_of e
    try dsimp only at e
    refine w_cut [1, 9, 10, 11, 13] (fun σ_ H_ S_ => ∃ (a162 : Option Nat) (na162 : Nat), [(1, .int .i64 x161), (9, .bool t121), (10, .pointer (some ⟨b124, 0, none⟩)), (11, .pointer (some ⟨b125, 0, none⟩)), (13, .slice (ad a162) y163.length (na162 / 4))] = σ_ ∧ ([⟨b126, [.int .i64 x164, .int .i64 0, .int .i64 x165, .int .i64 0, .int .i64 x166, .int .i64 256, .int .i64 x167, .int .i64 256], 8⟩, ⟨b125, [.int .i64 x168, .int .i64 256], 2⟩, ⟨b124, [.int .i64 x169, .int .i64 0], 2⟩, ⟨a162, encL E_i644 y163, na162⟩] : List Own) = H_ ∧ S = S_) ?_ ?_
    · show W _ _ _ _ _ _ _
      refine w_seq ?_
      refine w_reg fun all => ?_
      refine t_qz 1 [1, 3, 9, 10, 11, 12, 13, 14] (σ' := [(1, .int .i64 (wr64 ((Int.tmod (wr64 ((Int.tmod o1 3) + 3)) 3) + 1))), (3, .bool r3), (9, .bool t121), (10, .pointer (some ⟨b124, 0, none⟩)), (11, .pointer (some ⟨b125, 0, none⟩)), (12, .slice (some ⟨b126, 0, none⟩) 4 4), (13, .slice none 0 0), (14, .int .i64 0)]) (by kernel_rfl) ?_
      refine t_end ?_
      show W _ _ _ _ _ _ _
      refine w_block ?_
      refine w_lun 10 ?_
      refine wl_step ?_
      refine w_seq ?_
      refine w_seq ?_
      refine w_reg fun all => ?_
      refine t_qz 2 [1, 3, 9, 10, 11, 12, 13, 14, 68] (σ' := [(1, .int .i64 (wr64 ((Int.tmod (wr64 ((Int.tmod o1 3) + 3)) 3) + 1))), (3, .bool r3), (9, .bool t121), (10, .pointer (some ⟨b124, 0, none⟩)), (11, .pointer (some ⟨b125, 0, none⟩)), (12, .slice (some ⟨b126, 0, none⟩) 4 4), (13, .slice none 0 0), (14, .int .i64 0), (68, .bool true)]) (by kernel_rfl) ?_
      refine t_end ?_
      show W _ _ _ _ _ _ _
      refine w_cond rfl (fun _ => ?_) (fun c_ => by cases c_)
      show W _ _ _ _ _ _ _
      refine w_skip ?_
      show W _ _ _ _ _ _ _
      refine w_seq ?_
      refine w_block ?_
      refine w_seq ?_
      refine w_reg fun all => ?_
      refine t_qz 3 [1, 3, 9, 10, 11, 12, 13, 14, 73] (σ' := [(1, .int .i64 (wr64 ((Int.tmod (wr64 ((Int.tmod o1 3) + 3)) 3) + 1))), (3, .bool r3), (9, .bool t121), (10, .pointer (some ⟨b124, 0, none⟩)), (11, .pointer (some ⟨b125, 0, none⟩)), (12, .slice (some ⟨b126, 0, none⟩) 4 4), (13, .slice none 0 0), (14, .int .i64 0), (73, .pointer (some ⟨b126, 0, none⟩))]) (by kernel_rfl) ?_
      refine t_v (.ldn rfl rfl rfl (.at 0 rfl rfl)) ?_
      refine t_a (.new rfl rfl) fun b130 fb130 sb130 => ?_
      refine t_sti 0 (cs := [.int .i64 (wr64 ((wr64 ((Int.tmod (wr64 ((Int.tmod t0 4) + 4)) 4) * 256)) + (wr64 (32 * (Int.tmod (wr64 ((Int.tmod A2 9) + 9)) 9))))), .int .i64 0]) rfl rfl rfl rfl rfl rfl rfl rfl rfl ?_
      refine t_keep [1, 3, 9, 10, 11, 12, 13, 14, 15] (σ' := [(1, .int .i64 (wr64 ((Int.tmod (wr64 ((Int.tmod o1 3) + 3)) 3) + 1))), (3, .bool r3), (9, .bool t121), (10, .pointer (some ⟨b124, 0, none⟩)), (11, .pointer (some ⟨b125, 0, none⟩)), (12, .slice (some ⟨b126, 0, none⟩) 4 4), (13, .slice none 0 0), (14, .int .i64 0), (15, .pointer (some ⟨b130, 0, none⟩))]) (by kernel_rfl) ?_
      refine t_end ?_
      show W _ _ _ _ _ _ _
      refine w_seq ?_
      refine w_reg fun all => ?_
      refine t_qz 5 [1, 3, 9, 10, 11, 12, 13, 14, 15, 79] (σ' := [(1, .int .i64 (wr64 ((Int.tmod (wr64 ((Int.tmod o1 3) + 3)) 3) + 1))), (3, .bool r3), (9, .bool t121), (10, .pointer (some ⟨b124, 0, none⟩)), (11, .pointer (some ⟨b125, 0, none⟩)), (12, .slice (some ⟨b126, 0, none⟩) 4 4), (13, .slice none 0 0), (14, .int .i64 0), (15, .pointer (some ⟨b130, 0, none⟩)), (79, .pointer (some ⟨b126, 2, none⟩))]) (by kernel_rfl) ?_
      refine t_v (.ldn rfl rfl rfl (.at 1 rfl rfl)) ?_
      refine t_a (.new rfl rfl) fun b131 fb131 sb131 => ?_
      refine t_sti 0 (cs := [.int .i64 (wr64 ((wr64 ((wr64 ((Int.tmod (wr64 ((Int.tmod t0 4) + 4)) 4) * 256)) + (wr64 (32 * (Int.tmod (wr64 ((Int.tmod A2 9) + 9)) 9))))) + (wr64 ((wr64 ((Int.tmod (wr64 ((Int.tmod o1 3) + 3)) 3) + 1)) * 256)))), .int .i64 0]) rfl rfl rfl rfl rfl rfl rfl rfl rfl ?_
      refine t_keep [1, 3, 9, 10, 11, 12, 13, 14, 15, 16] (σ' := [(1, .int .i64 (wr64 ((Int.tmod (wr64 ((Int.tmod o1 3) + 3)) 3) + 1))), (3, .bool r3), (9, .bool t121), (10, .pointer (some ⟨b124, 0, none⟩)), (11, .pointer (some ⟨b125, 0, none⟩)), (12, .slice (some ⟨b126, 0, none⟩) 4 4), (13, .slice none 0 0), (14, .int .i64 0), (15, .pointer (some ⟨b130, 0, none⟩)), (16, .pointer (some ⟨b131, 0, none⟩))]) (by kernel_rfl) ?_
      refine t_end ?_
      show W _ _ _ _ _ _ _
      refine w_seq ?_
      refine w_seq ?_
      refine w_reg fun all => ?_
      by_cases c132 : r3 = true
      · rw [if_pos c132] at e128
        have c132b : r3 = true := c132
        refine t_v (dv_quiet rfl (congrArg (fun t => some (Value.bool t)) c132b)) ?_
        refine t_keep [1, 3, 9, 10, 11, 12, 13, 14, 15, 16, 81] (σ' := [(1, .int .i64 (wr64 ((Int.tmod (wr64 ((Int.tmod o1 3) + 3)) 3) + 1))), (3, .bool r3), (9, .bool t121), (10, .pointer (some ⟨b124, 0, none⟩)), (11, .pointer (some ⟨b125, 0, none⟩)), (12, .slice (some ⟨b126, 0, none⟩) 4 4), (13, .slice none 0 0), (14, .int .i64 0), (15, .pointer (some ⟨b130, 0, none⟩)), (16, .pointer (some ⟨b131, 0, none⟩)), (81, .bool true)]) (by kernel_rfl) ?_
        refine t_end ?_
        show W _ _ _ _ _ _ _
        refine w_cond rfl (fun _ => ?_) (fun c_ => by cases c_)
        show W _ _ _ _ _ _ _
        refine w_reg fun all => ?_
        refine t_v (.ldn rfl rfl rfl (.at 0 rfl rfl)) ?_
        refine t_v (.ldn rfl rfl rfl (.at 1 rfl rfl)) ?_
        refine t_sti 1 (cs := [.int .i64 (wr64 ((wr64 ((wr64 ((Int.tmod (wr64 ((Int.tmod t0 4) + 4)) 4) * 256)) + (wr64 (32 * (Int.tmod (wr64 ((Int.tmod A2 9) + 9)) 9))))) + (wr64 ((wr64 ((Int.tmod (wr64 ((Int.tmod o1 3) + 3)) 3) + 1)) * 256)))), .int .i64 0]) rfl rfl rfl rfl rfl rfl rfl rfl rfl ?_
        refine t_sti 0 (cs := [.int .i64 (wr64 ((wr64 ((Int.tmod (wr64 ((Int.tmod t0 4) + 4)) 4) * 256)) + (wr64 (32 * (Int.tmod (wr64 ((Int.tmod A2 9) + 9)) 9))))), .int .i64 0]) rfl rfl rfl rfl rfl rfl rfl rfl rfl ?_
        refine t_keep [1, 3, 9, 10, 11, 12, 13, 14, 15, 16] (σ' := [(1, .int .i64 (wr64 ((Int.tmod (wr64 ((Int.tmod o1 3) + 3)) 3) + 1))), (3, .bool r3), (9, .bool t121), (10, .pointer (some ⟨b124, 0, none⟩)), (11, .pointer (some ⟨b125, 0, none⟩)), (12, .slice (some ⟨b126, 0, none⟩) 4 4), (13, .slice none 0 0), (14, .int .i64 0), (15, .pointer (some ⟨b130, 0, none⟩)), (16, .pointer (some ⟨b131, 0, none⟩))]) (by kernel_rfl) ?_
        refine t_end ?_
        show W _ _ _ _ _ _ _
        refine w_reg fun all => ?_
        refine t_qz 1 [1, 3, 9, 10, 11, 12, 14, 15, 16, 84] (σ' := [(1, .int .i64 (wr64 ((Int.tmod (wr64 ((Int.tmod o1 3) + 3)) 3) + 1))), (3, .bool r3), (9, .bool t121), (10, .pointer (some ⟨b124, 0, none⟩)), (11, .pointer (some ⟨b125, 0, none⟩)), (12, .slice (some ⟨b126, 0, none⟩) 4 4), (14, .int .i64 0), (15, .pointer (some ⟨b130, 0, none⟩)), (16, .pointer (some ⟨b131, 0, none⟩)), (84, .slice none 0 0)]) (by kernel_rfl) ?_
        refine t_v (.ldn rfl rfl rfl (.at 1 rfl rfl)) ?_
        refine t_v (.ldn rfl rfl rfl (.at 0 rfl rfl)) ?_
        refine t_qz 1 [1, 3, 9, 10, 11, 12, 14, 84, 87] (σ' := [(1, .int .i64 (wr64 ((Int.tmod (wr64 ((Int.tmod o1 3) + 3)) 3) + 1))), (3, .bool r3), (9, .bool t121), (10, .pointer (some ⟨b124, 0, none⟩)), (11, .pointer (some ⟨b125, 0, none⟩)), (12, .slice (some ⟨b126, 0, none⟩) 4 4), (14, .int .i64 0), (84, .slice none 0 0), (87, .agg #[.int .i64 (wr64 ((wr64 ((wr64 ((Int.tmod (wr64 ((Int.tmod t0 4) + 4)) 4) * 256)) + (wr64 (32 * (Int.tmod (wr64 ((Int.tmod A2 9) + 9)) 9))))) + (wr64 ((wr64 ((Int.tmod (wr64 ((Int.tmod o1 3) + 3)) 3) + 1)) * 256)))), .int .i64 0, .int .i64 (wr64 ((wr64 ((Int.tmod (wr64 ((Int.tmod t0 4) + 4)) 4) * 256)) + (wr64 (32 * (Int.tmod (wr64 ((Int.tmod A2 9) + 9)) 9))))), .int .i64 0])]) (by kernel_rfl) ?_
        refine t_a (.bsl rfl rfl rfl rfl) fun b133 fb133 sb133 => ?_
        refine t_app0 (news := [.int .i64 (wr64 ((wr64 ((wr64 ((Int.tmod (wr64 ((Int.tmod t0 4) + 4)) 4) * 256)) + (wr64 (32 * (Int.tmod (wr64 ((Int.tmod A2 9) + 9)) 9))))) + (wr64 ((wr64 ((Int.tmod (wr64 ((Int.tmod o1 3) + 3)) 3) + 1)) * 256)))), .int .i64 0, .int .i64 (wr64 ((wr64 ((Int.tmod (wr64 ((Int.tmod t0 4) + 4)) 4) * 256)) + (wr64 (32 * (Int.tmod (wr64 ((Int.tmod A2 9) + 9)) 9))))), .int .i64 0]) rfl rfl rfl rfl (.at 0 rfl rfl) (by decide) (by decide) (by decide) rfl fun b134 nb134 fb134 sb134 => ?_
        refine t_qz 1 [1, 3, 9, 10, 11, 12, 13, 14] (σ' := [(1, .int .i64 (wr64 ((Int.tmod (wr64 ((Int.tmod o1 3) + 3)) 3) + 1))), (3, .bool r3), (9, .bool t121), (10, .pointer (some ⟨b124, 0, none⟩)), (11, .pointer (some ⟨b125, 0, none⟩)), (12, .slice (some ⟨b126, 0, none⟩) 4 4), (13, .slice (some ⟨b134, 0, none⟩) 1 (nb134 / 4)), (14, .int .i64 0)]) (by kernel_rfl) ?_
        refine t_end ?_
        show W _ _ _ _ _ _ _
        refine w_reg fun all => ?_
        refine t_qz 3 [1, 3, 9, 10, 11, 12, 13, 14] (σ' := [(1, .int .i64 (wr64 ((Int.tmod (wr64 ((Int.tmod o1 3) + 3)) 3) + 1))), (3, .bool r3), (9, .bool t121), (10, .pointer (some ⟨b124, 0, none⟩)), (11, .pointer (some ⟨b125, 0, none⟩)), (12, .slice (some ⟨b126, 0, none⟩) 4 4), (13, .slice (some ⟨b134, 0, none⟩) 1 (nb134 / 4)), (14, .int .i64 1)]) (by kernel_rfl) ?_
        refine t_end ?_
        show WL _ _ _ _ _ _ _ _
        refine wl_step ?_
        refine w_seq ?_
        refine w_seq ?_
        refine w_reg fun all => ?_
        refine t_qz 2 [1, 3, 9, 10, 11, 12, 13, 14, 68] (σ' := [(1, .int .i64 (wr64 ((Int.tmod (wr64 ((Int.tmod o1 3) + 3)) 3) + 1))), (3, .bool r3), (9, .bool t121), (10, .pointer (some ⟨b124, 0, none⟩)), (11, .pointer (some ⟨b125, 0, none⟩)), (12, .slice (some ⟨b126, 0, none⟩) 4 4), (13, .slice (some ⟨b134, 0, none⟩) 1 (nb134 / 4)), (14, .int .i64 1), (68, .bool true)]) (by kernel_rfl) ?_
        refine t_end ?_
        show W _ _ _ _ _ _ _
        refine w_cond rfl (fun _ => ?_) (fun c_ => by cases c_)
        show W _ _ _ _ _ _ _
        refine w_skip ?_
        show W _ _ _ _ _ _ _
        refine w_seq ?_
        refine w_block ?_
        refine w_seq ?_
        refine w_reg fun all => ?_
        refine t_qz 3 [1, 3, 9, 10, 11, 12, 13, 14, 73] (σ' := [(1, .int .i64 (wr64 ((Int.tmod (wr64 ((Int.tmod o1 3) + 3)) 3) + 1))), (3, .bool r3), (9, .bool t121), (10, .pointer (some ⟨b124, 0, none⟩)), (11, .pointer (some ⟨b125, 0, none⟩)), (12, .slice (some ⟨b126, 0, none⟩) 4 4), (13, .slice (some ⟨b134, 0, none⟩) 1 (nb134 / 4)), (14, .int .i64 1), (73, .pointer (some ⟨b126, 2, none⟩))]) (by kernel_rfl) ?_
        refine t_v (.ldn rfl rfl rfl (.at 4 rfl rfl)) ?_
        refine t_a (.new rfl rfl) fun b135 fb135 sb135 => ?_
        refine t_sti 0 (cs := [.int .i64 (wr64 ((wr64 ((wr64 ((Int.tmod (wr64 ((Int.tmod t0 4) + 4)) 4) * 256)) + (wr64 (32 * (Int.tmod (wr64 ((Int.tmod A2 9) + 9)) 9))))) + (wr64 ((wr64 ((Int.tmod (wr64 ((Int.tmod o1 3) + 3)) 3) + 1)) * 256)))), .int .i64 0]) rfl rfl rfl rfl rfl rfl rfl rfl rfl ?_
        refine t_keep [1, 3, 9, 10, 11, 12, 13, 14, 15] (σ' := [(1, .int .i64 (wr64 ((Int.tmod (wr64 ((Int.tmod o1 3) + 3)) 3) + 1))), (3, .bool r3), (9, .bool t121), (10, .pointer (some ⟨b124, 0, none⟩)), (11, .pointer (some ⟨b125, 0, none⟩)), (12, .slice (some ⟨b126, 0, none⟩) 4 4), (13, .slice (some ⟨b134, 0, none⟩) 1 (nb134 / 4)), (14, .int .i64 1), (15, .pointer (some ⟨b135, 0, none⟩))]) (by kernel_rfl) ?_
        refine t_end ?_
        show W _ _ _ _ _ _ _
        refine w_seq ?_
        refine w_reg fun all => ?_
        refine t_qz 5 [1, 3, 9, 10, 11, 12, 13, 14, 15, 79] (σ' := [(1, .int .i64 (wr64 ((Int.tmod (wr64 ((Int.tmod o1 3) + 3)) 3) + 1))), (3, .bool r3), (9, .bool t121), (10, .pointer (some ⟨b124, 0, none⟩)), (11, .pointer (some ⟨b125, 0, none⟩)), (12, .slice (some ⟨b126, 0, none⟩) 4 4), (13, .slice (some ⟨b134, 0, none⟩) 1 (nb134 / 4)), (14, .int .i64 1), (15, .pointer (some ⟨b135, 0, none⟩)), (79, .pointer (some ⟨b126, 4, none⟩))]) (by kernel_rfl) ?_
        refine t_v (.ldn rfl rfl rfl (.at 5 rfl rfl)) ?_
        refine t_a (.new rfl rfl) fun b136 fb136 sb136 => ?_
        refine t_sti 0 (cs := [.int .i64 (wr64 ((wr64 ((wr64 ((Int.tmod (wr64 ((Int.tmod t0 4) + 4)) 4) * 256)) + (wr64 (32 * (Int.tmod (wr64 ((Int.tmod A2 9) + 9)) 9))))) + (wr64 ((wr64 ((Int.tmod (wr64 ((Int.tmod o1 3) + 3)) 3) + 1)) * 256)))), .int .i64 256]) rfl rfl rfl rfl rfl rfl rfl rfl rfl ?_
        refine t_keep [1, 3, 9, 10, 11, 12, 13, 14, 15, 16] (σ' := [(1, .int .i64 (wr64 ((Int.tmod (wr64 ((Int.tmod o1 3) + 3)) 3) + 1))), (3, .bool r3), (9, .bool t121), (10, .pointer (some ⟨b124, 0, none⟩)), (11, .pointer (some ⟨b125, 0, none⟩)), (12, .slice (some ⟨b126, 0, none⟩) 4 4), (13, .slice (some ⟨b134, 0, none⟩) 1 (nb134 / 4)), (14, .int .i64 1), (15, .pointer (some ⟨b135, 0, none⟩)), (16, .pointer (some ⟨b136, 0, none⟩))]) (by kernel_rfl) ?_
        refine t_end ?_
        show W _ _ _ _ _ _ _
        refine w_seq ?_
        refine w_seq ?_
        refine w_reg fun all => ?_
        refine t_v (dv_quiet rfl (congrArg (fun t => some (Value.bool t)) c132b)) ?_
        refine t_keep [1, 3, 9, 10, 11, 12, 13, 14, 15, 16, 81] (σ' := [(1, .int .i64 (wr64 ((Int.tmod (wr64 ((Int.tmod o1 3) + 3)) 3) + 1))), (3, .bool r3), (9, .bool t121), (10, .pointer (some ⟨b124, 0, none⟩)), (11, .pointer (some ⟨b125, 0, none⟩)), (12, .slice (some ⟨b126, 0, none⟩) 4 4), (13, .slice (some ⟨b134, 0, none⟩) 1 (nb134 / 4)), (14, .int .i64 1), (15, .pointer (some ⟨b135, 0, none⟩)), (16, .pointer (some ⟨b136, 0, none⟩)), (81, .bool true)]) (by kernel_rfl) ?_
        refine t_end ?_
        show W _ _ _ _ _ _ _
        refine w_cond rfl (fun _ => ?_) (fun c_ => by cases c_)
        show W _ _ _ _ _ _ _
        refine w_reg fun all => ?_
        refine t_v (.ldn rfl rfl rfl (.at 0 rfl rfl)) ?_
        refine t_v (.ldn rfl rfl rfl (.at 1 rfl rfl)) ?_
        refine t_sti 1 (cs := [.int .i64 (wr64 ((wr64 ((wr64 ((Int.tmod (wr64 ((Int.tmod t0 4) + 4)) 4) * 256)) + (wr64 (32 * (Int.tmod (wr64 ((Int.tmod A2 9) + 9)) 9))))) + (wr64 ((wr64 ((Int.tmod (wr64 ((Int.tmod o1 3) + 3)) 3) + 1)) * 256)))), .int .i64 256]) rfl rfl rfl rfl rfl rfl rfl rfl rfl ?_
        refine t_sti 0 (cs := [.int .i64 (wr64 ((wr64 ((wr64 ((Int.tmod (wr64 ((Int.tmod t0 4) + 4)) 4) * 256)) + (wr64 (32 * (Int.tmod (wr64 ((Int.tmod A2 9) + 9)) 9))))) + (wr64 ((wr64 ((Int.tmod (wr64 ((Int.tmod o1 3) + 3)) 3) + 1)) * 256)))), .int .i64 0]) rfl rfl rfl rfl rfl rfl rfl rfl rfl ?_
        refine t_keep [1, 3, 9, 10, 11, 12, 13, 14, 15, 16] (σ' := [(1, .int .i64 (wr64 ((Int.tmod (wr64 ((Int.tmod o1 3) + 3)) 3) + 1))), (3, .bool r3), (9, .bool t121), (10, .pointer (some ⟨b124, 0, none⟩)), (11, .pointer (some ⟨b125, 0, none⟩)), (12, .slice (some ⟨b126, 0, none⟩) 4 4), (13, .slice (some ⟨b134, 0, none⟩) 1 (nb134 / 4)), (14, .int .i64 1), (15, .pointer (some ⟨b135, 0, none⟩)), (16, .pointer (some ⟨b136, 0, none⟩))]) (by kernel_rfl) ?_
        refine t_end ?_
        show W _ _ _ _ _ _ _
        refine w_reg fun all => ?_
        refine t_qz 1 [1, 3, 9, 10, 11, 12, 14, 15, 16, 84] (σ' := [(1, .int .i64 (wr64 ((Int.tmod (wr64 ((Int.tmod o1 3) + 3)) 3) + 1))), (3, .bool r3), (9, .bool t121), (10, .pointer (some ⟨b124, 0, none⟩)), (11, .pointer (some ⟨b125, 0, none⟩)), (12, .slice (some ⟨b126, 0, none⟩) 4 4), (14, .int .i64 1), (15, .pointer (some ⟨b135, 0, none⟩)), (16, .pointer (some ⟨b136, 0, none⟩)), (84, .slice (some ⟨b134, 0, none⟩) 1 (nb134 / 4))]) (by kernel_rfl) ?_
        refine t_v (.ldn rfl rfl rfl (.at 1 rfl rfl)) ?_
        refine t_v (.ldn rfl rfl rfl (.at 0 rfl rfl)) ?_
        refine t_qz 1 [1, 3, 9, 10, 11, 12, 14, 84, 87] (σ' := [(1, .int .i64 (wr64 ((Int.tmod (wr64 ((Int.tmod o1 3) + 3)) 3) + 1))), (3, .bool r3), (9, .bool t121), (10, .pointer (some ⟨b124, 0, none⟩)), (11, .pointer (some ⟨b125, 0, none⟩)), (12, .slice (some ⟨b126, 0, none⟩) 4 4), (14, .int .i64 1), (84, .slice (some ⟨b134, 0, none⟩) 1 (nb134 / 4)), (87, .agg #[.int .i64 (wr64 ((wr64 ((wr64 ((Int.tmod (wr64 ((Int.tmod t0 4) + 4)) 4) * 256)) + (wr64 (32 * (Int.tmod (wr64 ((Int.tmod A2 9) + 9)) 9))))) + (wr64 ((wr64 ((Int.tmod (wr64 ((Int.tmod o1 3) + 3)) 3) + 1)) * 256)))), .int .i64 256, .int .i64 (wr64 ((wr64 ((wr64 ((Int.tmod (wr64 ((Int.tmod t0 4) + 4)) 4) * 256)) + (wr64 (32 * (Int.tmod (wr64 ((Int.tmod A2 9) + 9)) 9))))) + (wr64 ((wr64 ((Int.tmod (wr64 ((Int.tmod o1 3) + 3)) 3) + 1)) * 256)))), .int .i64 0])]) (by kernel_rfl) ?_
        refine t_a (.bsl rfl rfl rfl rfl) fun b137 fb137 sb137 => ?_
        refine t_app1 (cs := [.int .i64 (wr64 ((wr64 ((wr64 ((Int.tmod (wr64 ((Int.tmod t0 4) + 4)) 4) * 256)) + (wr64 (32 * (Int.tmod (wr64 ((Int.tmod A2 9) + 9)) 9))))) + (wr64 ((wr64 ((Int.tmod (wr64 ((Int.tmod o1 3) + 3)) 3) + 1)) * 256)))), .int .i64 0, .int .i64 (wr64 ((wr64 ((Int.tmod (wr64 ((Int.tmod t0 4) + 4)) 4) * 256)) + (wr64 (32 * (Int.tmod (wr64 ((Int.tmod A2 9) + 9)) 9))))), .int .i64 0]) (M := nb134) (F := ([⟨b137, [.int .i64 (wr64 ((wr64 ((wr64 ((Int.tmod (wr64 ((Int.tmod t0 4) + 4)) 4) * 256)) + (wr64 (32 * (Int.tmod (wr64 ((Int.tmod A2 9) + 9)) 9))))) + (wr64 ((wr64 ((Int.tmod (wr64 ((Int.tmod o1 3) + 3)) 3) + 1)) * 256)))), .int .i64 256, .int .i64 (wr64 ((wr64 ((wr64 ((Int.tmod (wr64 ((Int.tmod t0 4) + 4)) 4) * 256)) + (wr64 (32 * (Int.tmod (wr64 ((Int.tmod A2 9) + 9)) 9))))) + (wr64 ((wr64 ((Int.tmod (wr64 ((Int.tmod o1 3) + 3)) 3) + 1)) * 256)))), .int .i64 0], 4⟩, ⟨b136, [.int .i64 (wr64 ((wr64 ((wr64 ((Int.tmod (wr64 ((Int.tmod t0 4) + 4)) 4) * 256)) + (wr64 (32 * (Int.tmod (wr64 ((Int.tmod A2 9) + 9)) 9))))) + (wr64 ((wr64 ((Int.tmod (wr64 ((Int.tmod o1 3) + 3)) 3) + 1)) * 256)))), .int .i64 0], 2⟩, ⟨b135, [.int .i64 (wr64 ((wr64 ((wr64 ((Int.tmod (wr64 ((Int.tmod t0 4) + 4)) 4) * 256)) + (wr64 (32 * (Int.tmod (wr64 ((Int.tmod A2 9) + 9)) 9))))) + (wr64 ((wr64 ((Int.tmod (wr64 ((Int.tmod o1 3) + 3)) 3) + 1)) * 256)))), .int .i64 256], 2⟩, ⟨b133, [.int .i64 (wr64 ((wr64 ((wr64 ((Int.tmod (wr64 ((Int.tmod t0 4) + 4)) 4) * 256)) + (wr64 (32 * (Int.tmod (wr64 ((Int.tmod A2 9) + 9)) 9))))) + (wr64 ((wr64 ((Int.tmod (wr64 ((Int.tmod o1 3) + 3)) 3) + 1)) * 256)))), .int .i64 0, .int .i64 (wr64 ((wr64 ((Int.tmod (wr64 ((Int.tmod t0 4) + 4)) 4) * 256)) + (wr64 (32 * (Int.tmod (wr64 ((Int.tmod A2 9) + 9)) 9))))), .int .i64 0], 4⟩, ⟨b131, [.int .i64 (wr64 ((wr64 ((Int.tmod (wr64 ((Int.tmod t0 4) + 4)) 4) * 256)) + (wr64 (32 * (Int.tmod (wr64 ((Int.tmod A2 9) + 9)) 9))))), .int .i64 0], 2⟩, ⟨b130, [.int .i64 (wr64 ((wr64 ((wr64 ((Int.tmod (wr64 ((Int.tmod t0 4) + 4)) 4) * 256)) + (wr64 (32 * (Int.tmod (wr64 ((Int.tmod A2 9) + 9)) 9))))) + (wr64 ((wr64 ((Int.tmod (wr64 ((Int.tmod o1 3) + 3)) 3) + 1)) * 256)))), .int .i64 0], 2⟩, ⟨b126, [.int .i64 (wr64 ((wr64 ((Int.tmod (wr64 ((Int.tmod t0 4) + 4)) 4) * 256)) + (wr64 (32 * (Int.tmod (wr64 ((Int.tmod A2 9) + 9)) 9))))), .int .i64 0, .int .i64 (wr64 ((wr64 ((wr64 ((Int.tmod (wr64 ((Int.tmod t0 4) + 4)) 4) * 256)) + (wr64 (32 * (Int.tmod (wr64 ((Int.tmod A2 9) + 9)) 9))))) + (wr64 ((wr64 ((Int.tmod (wr64 ((Int.tmod o1 3) + 3)) 3) + 1)) * 256)))), .int .i64 0, .int .i64 (wr64 ((wr64 ((wr64 ((Int.tmod (wr64 ((Int.tmod t0 4) + 4)) 4) * 256)) + (wr64 (32 * (Int.tmod (wr64 ((Int.tmod A2 9) + 9)) 9))))) + (wr64 ((wr64 ((Int.tmod (wr64 ((Int.tmod o1 3) + 3)) 3) + 1)) * 256)))), .int .i64 256, .int .i64 (wr64 ((wr64 ((Int.tmod (wr64 ((Int.tmod t0 4) + 4)) 4) * 256)) + (wr64 (32 * (Int.tmod (wr64 ((Int.tmod A2 9) + 9)) 9))))), .int .i64 256], 8⟩, ⟨b125, [.int .i64 (wr64 ((wr64 ((wr64 ((Int.tmod (wr64 ((Int.tmod t0 4) + 4)) 4) * 256)) + (wr64 (32 * (Int.tmod (wr64 ((Int.tmod A2 9) + 9)) 9))))) + (wr64 ((wr64 ((Int.tmod (wr64 ((Int.tmod o1 3) + 3)) 3) + 1)) * 256)))), .int .i64 256], 2⟩, ⟨b124, [.int .i64 (wr64 ((wr64 ((Int.tmod (wr64 ((Int.tmod t0 4) + 4)) 4) * 256)) + (wr64 (32 * (Int.tmod (wr64 ((Int.tmod A2 9) + 9)) 9))))), .int .i64 0], 2⟩] : List Own)) (news := [.int .i64 (wr64 ((wr64 ((wr64 ((Int.tmod (wr64 ((Int.tmod t0 4) + 4)) 4) * 256)) + (wr64 (32 * (Int.tmod (wr64 ((Int.tmod A2 9) + 9)) 9))))) + (wr64 ((wr64 ((Int.tmod (wr64 ((Int.tmod o1 3) + 3)) 3) + 1)) * 256)))), .int .i64 256, .int .i64 (wr64 ((wr64 ((wr64 ((Int.tmod (wr64 ((Int.tmod t0 4) + 4)) 4) * 256)) + (wr64 (32 * (Int.tmod (wr64 ((Int.tmod A2 9) + 9)) 9))))) + (wr64 ((wr64 ((Int.tmod (wr64 ((Int.tmod o1 3) + 3)) 3) + 1)) * 256)))), .int .i64 0]) rfl rfl rfl rfl (sel_perm (is := [3]) (by kernel_rfl)) (.at 0 rfl rfl) (by kernel_rfl) rfl rfl (by decide) (by decide) rfl fun b138 nb138 => ?_
        refine t_qz 1 [1, 3, 9, 10, 11, 12, 13, 14] (σ' := [(1, .int .i64 (wr64 ((Int.tmod (wr64 ((Int.tmod o1 3) + 3)) 3) + 1))), (3, .bool r3), (9, .bool t121), (10, .pointer (some ⟨b124, 0, none⟩)), (11, .pointer (some ⟨b125, 0, none⟩)), (12, .slice (some ⟨b126, 0, none⟩) 4 4), (13, .slice (some ⟨b138, 0, none⟩) 2 (nb138 / 4)), (14, .int .i64 1)]) (by kernel_rfl) ?_
        refine t_end ?_
        show W _ _ _ _ _ _ _
        refine w_reg fun all => ?_
        refine t_qz 3 [1, 3, 9, 10, 11, 12, 13, 14] (σ' := [(1, .int .i64 (wr64 ((Int.tmod (wr64 ((Int.tmod o1 3) + 3)) 3) + 1))), (3, .bool r3), (9, .bool t121), (10, .pointer (some ⟨b124, 0, none⟩)), (11, .pointer (some ⟨b125, 0, none⟩)), (12, .slice (some ⟨b126, 0, none⟩) 4 4), (13, .slice (some ⟨b138, 0, none⟩) 2 (nb138 / 4)), (14, .int .i64 2)]) (by kernel_rfl) ?_
        refine t_end ?_
        show WL _ _ _ _ _ _ _ _
        refine wl_step ?_
        refine w_seq ?_
        refine w_seq ?_
        refine w_reg fun all => ?_
        refine t_qz 2 [1, 3, 9, 10, 11, 12, 13, 14, 68] (σ' := [(1, .int .i64 (wr64 ((Int.tmod (wr64 ((Int.tmod o1 3) + 3)) 3) + 1))), (3, .bool r3), (9, .bool t121), (10, .pointer (some ⟨b124, 0, none⟩)), (11, .pointer (some ⟨b125, 0, none⟩)), (12, .slice (some ⟨b126, 0, none⟩) 4 4), (13, .slice (some ⟨b138, 0, none⟩) 2 (nb138 / 4)), (14, .int .i64 2), (68, .bool true)]) (by kernel_rfl) ?_
        refine t_end ?_
        show W _ _ _ _ _ _ _
        refine w_cond rfl (fun _ => ?_) (fun c_ => by cases c_)
        show W _ _ _ _ _ _ _
        refine w_skip ?_
        show W _ _ _ _ _ _ _
        refine w_seq ?_
        refine w_block ?_
        refine w_seq ?_
        refine w_reg fun all => ?_
        refine t_qz 3 [1, 3, 9, 10, 11, 12, 13, 14, 73] (σ' := [(1, .int .i64 (wr64 ((Int.tmod (wr64 ((Int.tmod o1 3) + 3)) 3) + 1))), (3, .bool r3), (9, .bool t121), (10, .pointer (some ⟨b124, 0, none⟩)), (11, .pointer (some ⟨b125, 0, none⟩)), (12, .slice (some ⟨b126, 0, none⟩) 4 4), (13, .slice (some ⟨b138, 0, none⟩) 2 (nb138 / 4)), (14, .int .i64 2), (73, .pointer (some ⟨b126, 4, none⟩))]) (by kernel_rfl) ?_
        refine t_v (.ldn rfl rfl rfl (.at 7 rfl rfl)) ?_
        refine t_a (.new rfl rfl) fun b139 fb139 sb139 => ?_
        refine t_sti 0 (cs := [.int .i64 (wr64 ((wr64 ((wr64 ((Int.tmod (wr64 ((Int.tmod t0 4) + 4)) 4) * 256)) + (wr64 (32 * (Int.tmod (wr64 ((Int.tmod A2 9) + 9)) 9))))) + (wr64 ((wr64 ((Int.tmod (wr64 ((Int.tmod o1 3) + 3)) 3) + 1)) * 256)))), .int .i64 256]) rfl rfl rfl rfl rfl rfl rfl rfl rfl ?_
        refine t_keep [1, 3, 9, 10, 11, 12, 13, 14, 15] (σ' := [(1, .int .i64 (wr64 ((Int.tmod (wr64 ((Int.tmod o1 3) + 3)) 3) + 1))), (3, .bool r3), (9, .bool t121), (10, .pointer (some ⟨b124, 0, none⟩)), (11, .pointer (some ⟨b125, 0, none⟩)), (12, .slice (some ⟨b126, 0, none⟩) 4 4), (13, .slice (some ⟨b138, 0, none⟩) 2 (nb138 / 4)), (14, .int .i64 2), (15, .pointer (some ⟨b139, 0, none⟩))]) (by kernel_rfl) ?_
        refine t_end ?_
        show W _ _ _ _ _ _ _
        refine w_seq ?_
        refine w_reg fun all => ?_
        refine t_qz 5 [1, 3, 9, 10, 11, 12, 13, 14, 15, 79] (σ' := [(1, .int .i64 (wr64 ((Int.tmod (wr64 ((Int.tmod o1 3) + 3)) 3) + 1))), (3, .bool r3), (9, .bool t121), (10, .pointer (some ⟨b124, 0, none⟩)), (11, .pointer (some ⟨b125, 0, none⟩)), (12, .slice (some ⟨b126, 0, none⟩) 4 4), (13, .slice (some ⟨b138, 0, none⟩) 2 (nb138 / 4)), (14, .int .i64 2), (15, .pointer (some ⟨b139, 0, none⟩)), (79, .pointer (some ⟨b126, 6, none⟩))]) (by kernel_rfl) ?_
        refine t_v (.ldn rfl rfl rfl (.at 8 rfl rfl)) ?_
        refine t_a (.new rfl rfl) fun b140 fb140 sb140 => ?_
        refine t_sti 0 (cs := [.int .i64 (wr64 ((wr64 ((Int.tmod (wr64 ((Int.tmod t0 4) + 4)) 4) * 256)) + (wr64 (32 * (Int.tmod (wr64 ((Int.tmod A2 9) + 9)) 9))))), .int .i64 256]) rfl rfl rfl rfl rfl rfl rfl rfl rfl ?_
        refine t_keep [1, 3, 9, 10, 11, 12, 13, 14, 15, 16] (σ' := [(1, .int .i64 (wr64 ((Int.tmod (wr64 ((Int.tmod o1 3) + 3)) 3) + 1))), (3, .bool r3), (9, .bool t121), (10, .pointer (some ⟨b124, 0, none⟩)), (11, .pointer (some ⟨b125, 0, none⟩)), (12, .slice (some ⟨b126, 0, none⟩) 4 4), (13, .slice (some ⟨b138, 0, none⟩) 2 (nb138 / 4)), (14, .int .i64 2), (15, .pointer (some ⟨b139, 0, none⟩)), (16, .pointer (some ⟨b140, 0, none⟩))]) (by kernel_rfl) ?_
        refine t_end ?_
        show W _ _ _ _ _ _ _
        refine w_seq ?_
        refine w_seq ?_
        refine w_reg fun all => ?_
        refine t_v (dv_quiet rfl (congrArg (fun t => some (Value.bool t)) c132b)) ?_
        refine t_keep [1, 3, 9, 10, 11, 12, 13, 14, 15, 16, 81] (σ' := [(1, .int .i64 (wr64 ((Int.tmod (wr64 ((Int.tmod o1 3) + 3)) 3) + 1))), (3, .bool r3), (9, .bool t121), (10, .pointer (some ⟨b124, 0, none⟩)), (11, .pointer (some ⟨b125, 0, none⟩)), (12, .slice (some ⟨b126, 0, none⟩) 4 4), (13, .slice (some ⟨b138, 0, none⟩) 2 (nb138 / 4)), (14, .int .i64 2), (15, .pointer (some ⟨b139, 0, none⟩)), (16, .pointer (some ⟨b140, 0, none⟩)), (81, .bool true)]) (by kernel_rfl) ?_
        refine t_end ?_
        show W _ _ _ _ _ _ _
        refine w_cond rfl (fun _ => ?_) (fun c_ => by cases c_)
        show W _ _ _ _ _ _ _
        refine w_reg fun all => ?_
        refine t_v (.ldn rfl rfl rfl (.at 0 rfl rfl)) ?_
        refine t_v (.ldn rfl rfl rfl (.at 1 rfl rfl)) ?_
        refine t_sti 1 (cs := [.int .i64 (wr64 ((wr64 ((Int.tmod (wr64 ((Int.tmod t0 4) + 4)) 4) * 256)) + (wr64 (32 * (Int.tmod (wr64 ((Int.tmod A2 9) + 9)) 9))))), .int .i64 256]) rfl rfl rfl rfl rfl rfl rfl rfl rfl ?_
        refine t_sti 0 (cs := [.int .i64 (wr64 ((wr64 ((wr64 ((Int.tmod (wr64 ((Int.tmod t0 4) + 4)) 4) * 256)) + (wr64 (32 * (Int.tmod (wr64 ((Int.tmod A2 9) + 9)) 9))))) + (wr64 ((wr64 ((Int.tmod (wr64 ((Int.tmod o1 3) + 3)) 3) + 1)) * 256)))), .int .i64 256]) rfl rfl rfl rfl rfl rfl rfl rfl rfl ?_
        refine t_keep [1, 3, 9, 10, 11, 12, 13, 14, 15, 16] (σ' := [(1, .int .i64 (wr64 ((Int.tmod (wr64 ((Int.tmod o1 3) + 3)) 3) + 1))), (3, .bool r3), (9, .bool t121), (10, .pointer (some ⟨b124, 0, none⟩)), (11, .pointer (some ⟨b125, 0, none⟩)), (12, .slice (some ⟨b126, 0, none⟩) 4 4), (13, .slice (some ⟨b138, 0, none⟩) 2 (nb138 / 4)), (14, .int .i64 2), (15, .pointer (some ⟨b139, 0, none⟩)), (16, .pointer (some ⟨b140, 0, none⟩))]) (by kernel_rfl) ?_
        refine t_end ?_
        show W _ _ _ _ _ _ _
        refine w_reg fun all => ?_
        refine t_qz 1 [1, 3, 9, 10, 11, 12, 14, 15, 16, 84] (σ' := [(1, .int .i64 (wr64 ((Int.tmod (wr64 ((Int.tmod o1 3) + 3)) 3) + 1))), (3, .bool r3), (9, .bool t121), (10, .pointer (some ⟨b124, 0, none⟩)), (11, .pointer (some ⟨b125, 0, none⟩)), (12, .slice (some ⟨b126, 0, none⟩) 4 4), (14, .int .i64 2), (15, .pointer (some ⟨b139, 0, none⟩)), (16, .pointer (some ⟨b140, 0, none⟩)), (84, .slice (some ⟨b138, 0, none⟩) 2 (nb138 / 4))]) (by kernel_rfl) ?_
        refine t_v (.ldn rfl rfl rfl (.at 1 rfl rfl)) ?_
        refine t_v (.ldn rfl rfl rfl (.at 0 rfl rfl)) ?_
        refine t_qz 1 [1, 3, 9, 10, 11, 12, 14, 84, 87] (σ' := [(1, .int .i64 (wr64 ((Int.tmod (wr64 ((Int.tmod o1 3) + 3)) 3) + 1))), (3, .bool r3), (9, .bool t121), (10, .pointer (some ⟨b124, 0, none⟩)), (11, .pointer (some ⟨b125, 0, none⟩)), (12, .slice (some ⟨b126, 0, none⟩) 4 4), (14, .int .i64 2), (84, .slice (some ⟨b138, 0, none⟩) 2 (nb138 / 4)), (87, .agg #[.int .i64 (wr64 ((wr64 ((Int.tmod (wr64 ((Int.tmod t0 4) + 4)) 4) * 256)) + (wr64 (32 * (Int.tmod (wr64 ((Int.tmod A2 9) + 9)) 9))))), .int .i64 256, .int .i64 (wr64 ((wr64 ((wr64 ((Int.tmod (wr64 ((Int.tmod t0 4) + 4)) 4) * 256)) + (wr64 (32 * (Int.tmod (wr64 ((Int.tmod A2 9) + 9)) 9))))) + (wr64 ((wr64 ((Int.tmod (wr64 ((Int.tmod o1 3) + 3)) 3) + 1)) * 256)))), .int .i64 256])]) (by kernel_rfl) ?_
        refine t_a (.bsl rfl rfl rfl rfl) fun b141 fb141 sb141 => ?_
        refine t_app1 (cs := [.int .i64 (wr64 ((wr64 ((wr64 ((Int.tmod (wr64 ((Int.tmod t0 4) + 4)) 4) * 256)) + (wr64 (32 * (Int.tmod (wr64 ((Int.tmod A2 9) + 9)) 9))))) + (wr64 ((wr64 ((Int.tmod (wr64 ((Int.tmod o1 3) + 3)) 3) + 1)) * 256)))), .int .i64 0, .int .i64 (wr64 ((wr64 ((Int.tmod (wr64 ((Int.tmod t0 4) + 4)) 4) * 256)) + (wr64 (32 * (Int.tmod (wr64 ((Int.tmod A2 9) + 9)) 9))))), .int .i64 0, .int .i64 (wr64 ((wr64 ((wr64 ((Int.tmod (wr64 ((Int.tmod t0 4) + 4)) 4) * 256)) + (wr64 (32 * (Int.tmod (wr64 ((Int.tmod A2 9) + 9)) 9))))) + (wr64 ((wr64 ((Int.tmod (wr64 ((Int.tmod o1 3) + 3)) 3) + 1)) * 256)))), .int .i64 256, .int .i64 (wr64 ((wr64 ((wr64 ((Int.tmod (wr64 ((Int.tmod t0 4) + 4)) 4) * 256)) + (wr64 (32 * (Int.tmod (wr64 ((Int.tmod A2 9) + 9)) 9))))) + (wr64 ((wr64 ((Int.tmod (wr64 ((Int.tmod o1 3) + 3)) 3) + 1)) * 256)))), .int .i64 0]) (M := nb138) (F := ([⟨b141, [.int .i64 (wr64 ((wr64 ((Int.tmod (wr64 ((Int.tmod t0 4) + 4)) 4) * 256)) + (wr64 (32 * (Int.tmod (wr64 ((Int.tmod A2 9) + 9)) 9))))), .int .i64 256, .int .i64 (wr64 ((wr64 ((wr64 ((Int.tmod (wr64 ((Int.tmod t0 4) + 4)) 4) * 256)) + (wr64 (32 * (Int.tmod (wr64 ((Int.tmod A2 9) + 9)) 9))))) + (wr64 ((wr64 ((Int.tmod (wr64 ((Int.tmod o1 3) + 3)) 3) + 1)) * 256)))), .int .i64 256], 4⟩, ⟨b140, [.int .i64 (wr64 ((wr64 ((wr64 ((Int.tmod (wr64 ((Int.tmod t0 4) + 4)) 4) * 256)) + (wr64 (32 * (Int.tmod (wr64 ((Int.tmod A2 9) + 9)) 9))))) + (wr64 ((wr64 ((Int.tmod (wr64 ((Int.tmod o1 3) + 3)) 3) + 1)) * 256)))), .int .i64 256], 2⟩, ⟨b139, [.int .i64 (wr64 ((wr64 ((Int.tmod (wr64 ((Int.tmod t0 4) + 4)) 4) * 256)) + (wr64 (32 * (Int.tmod (wr64 ((Int.tmod A2 9) + 9)) 9))))), .int .i64 256], 2⟩, ⟨b137, [.int .i64 (wr64 ((wr64 ((wr64 ((Int.tmod (wr64 ((Int.tmod t0 4) + 4)) 4) * 256)) + (wr64 (32 * (Int.tmod (wr64 ((Int.tmod A2 9) + 9)) 9))))) + (wr64 ((wr64 ((Int.tmod (wr64 ((Int.tmod o1 3) + 3)) 3) + 1)) * 256)))), .int .i64 256, .int .i64 (wr64 ((wr64 ((wr64 ((Int.tmod (wr64 ((Int.tmod t0 4) + 4)) 4) * 256)) + (wr64 (32 * (Int.tmod (wr64 ((Int.tmod A2 9) + 9)) 9))))) + (wr64 ((wr64 ((Int.tmod (wr64 ((Int.tmod o1 3) + 3)) 3) + 1)) * 256)))), .int .i64 0], 4⟩, ⟨b136, [.int .i64 (wr64 ((wr64 ((wr64 ((Int.tmod (wr64 ((Int.tmod t0 4) + 4)) 4) * 256)) + (wr64 (32 * (Int.tmod (wr64 ((Int.tmod A2 9) + 9)) 9))))) + (wr64 ((wr64 ((Int.tmod (wr64 ((Int.tmod o1 3) + 3)) 3) + 1)) * 256)))), .int .i64 0], 2⟩, ⟨b135, [.int .i64 (wr64 ((wr64 ((wr64 ((Int.tmod (wr64 ((Int.tmod t0 4) + 4)) 4) * 256)) + (wr64 (32 * (Int.tmod (wr64 ((Int.tmod A2 9) + 9)) 9))))) + (wr64 ((wr64 ((Int.tmod (wr64 ((Int.tmod o1 3) + 3)) 3) + 1)) * 256)))), .int .i64 256], 2⟩, ⟨b133, [.int .i64 (wr64 ((wr64 ((wr64 ((Int.tmod (wr64 ((Int.tmod t0 4) + 4)) 4) * 256)) + (wr64 (32 * (Int.tmod (wr64 ((Int.tmod A2 9) + 9)) 9))))) + (wr64 ((wr64 ((Int.tmod (wr64 ((Int.tmod o1 3) + 3)) 3) + 1)) * 256)))), .int .i64 0, .int .i64 (wr64 ((wr64 ((Int.tmod (wr64 ((Int.tmod t0 4) + 4)) 4) * 256)) + (wr64 (32 * (Int.tmod (wr64 ((Int.tmod A2 9) + 9)) 9))))), .int .i64 0], 4⟩, ⟨b131, [.int .i64 (wr64 ((wr64 ((Int.tmod (wr64 ((Int.tmod t0 4) + 4)) 4) * 256)) + (wr64 (32 * (Int.tmod (wr64 ((Int.tmod A2 9) + 9)) 9))))), .int .i64 0], 2⟩, ⟨b130, [.int .i64 (wr64 ((wr64 ((wr64 ((Int.tmod (wr64 ((Int.tmod t0 4) + 4)) 4) * 256)) + (wr64 (32 * (Int.tmod (wr64 ((Int.tmod A2 9) + 9)) 9))))) + (wr64 ((wr64 ((Int.tmod (wr64 ((Int.tmod o1 3) + 3)) 3) + 1)) * 256)))), .int .i64 0], 2⟩, ⟨b126, [.int .i64 (wr64 ((wr64 ((Int.tmod (wr64 ((Int.tmod t0 4) + 4)) 4) * 256)) + (wr64 (32 * (Int.tmod (wr64 ((Int.tmod A2 9) + 9)) 9))))), .int .i64 0, .int .i64 (wr64 ((wr64 ((wr64 ((Int.tmod (wr64 ((Int.tmod t0 4) + 4)) 4) * 256)) + (wr64 (32 * (Int.tmod (wr64 ((Int.tmod A2 9) + 9)) 9))))) + (wr64 ((wr64 ((Int.tmod (wr64 ((Int.tmod o1 3) + 3)) 3) + 1)) * 256)))), .int .i64 0, .int .i64 (wr64 ((wr64 ((wr64 ((Int.tmod (wr64 ((Int.tmod t0 4) + 4)) 4) * 256)) + (wr64 (32 * (Int.tmod (wr64 ((Int.tmod A2 9) + 9)) 9))))) + (wr64 ((wr64 ((Int.tmod (wr64 ((Int.tmod o1 3) + 3)) 3) + 1)) * 256)))), .int .i64 256, .int .i64 (wr64 ((wr64 ((Int.tmod (wr64 ((Int.tmod t0 4) + 4)) 4) * 256)) + (wr64 (32 * (Int.tmod (wr64 ((Int.tmod A2 9) + 9)) 9))))), .int .i64 256], 8⟩, ⟨b125, [.int .i64 (wr64 ((wr64 ((wr64 ((Int.tmod (wr64 ((Int.tmod t0 4) + 4)) 4) * 256)) + (wr64 (32 * (Int.tmod (wr64 ((Int.tmod A2 9) + 9)) 9))))) + (wr64 ((wr64 ((Int.tmod (wr64 ((Int.tmod o1 3) + 3)) 3) + 1)) * 256)))), .int .i64 256], 2⟩, ⟨b124, [.int .i64 (wr64 ((wr64 ((Int.tmod (wr64 ((Int.tmod t0 4) + 4)) 4) * 256)) + (wr64 (32 * (Int.tmod (wr64 ((Int.tmod A2 9) + 9)) 9))))), .int .i64 0], 2⟩] : List Own)) (news := [.int .i64 (wr64 ((wr64 ((Int.tmod (wr64 ((Int.tmod t0 4) + 4)) 4) * 256)) + (wr64 (32 * (Int.tmod (wr64 ((Int.tmod A2 9) + 9)) 9))))), .int .i64 256, .int .i64 (wr64 ((wr64 ((wr64 ((Int.tmod (wr64 ((Int.tmod t0 4) + 4)) 4) * 256)) + (wr64 (32 * (Int.tmod (wr64 ((Int.tmod A2 9) + 9)) 9))))) + (wr64 ((wr64 ((Int.tmod (wr64 ((Int.tmod o1 3) + 3)) 3) + 1)) * 256)))), .int .i64 256]) rfl rfl rfl rfl (sel_perm (is := [3]) (by kernel_rfl)) (.at 0 rfl rfl) (by kernel_rfl) rfl rfl (by decide) (by decide) rfl fun b142 nb142 => ?_
        refine t_qz 1 [1, 3, 9, 10, 11, 12, 13, 14] (σ' := [(1, .int .i64 (wr64 ((Int.tmod (wr64 ((Int.tmod o1 3) + 3)) 3) + 1))), (3, .bool r3), (9, .bool t121), (10, .pointer (some ⟨b124, 0, none⟩)), (11, .pointer (some ⟨b125, 0, none⟩)), (12, .slice (some ⟨b126, 0, none⟩) 4 4), (13, .slice (some ⟨b142, 0, none⟩) 3 (nb142 / 4)), (14, .int .i64 2)]) (by kernel_rfl) ?_
        refine t_end ?_
        show W _ _ _ _ _ _ _
        refine w_reg fun all => ?_
        refine t_qz 3 [1, 3, 9, 10, 11, 12, 13, 14] (σ' := [(1, .int .i64 (wr64 ((Int.tmod (wr64 ((Int.tmod o1 3) + 3)) 3) + 1))), (3, .bool r3), (9, .bool t121), (10, .pointer (some ⟨b124, 0, none⟩)), (11, .pointer (some ⟨b125, 0, none⟩)), (12, .slice (some ⟨b126, 0, none⟩) 4 4), (13, .slice (some ⟨b142, 0, none⟩) 3 (nb142 / 4)), (14, .int .i64 3)]) (by kernel_rfl) ?_
        refine t_end ?_
        show WL _ _ _ _ _ _ _ _
        refine wl_step ?_
        refine w_seq ?_
        refine w_seq ?_
        refine w_reg fun all => ?_
        refine t_qz 2 [1, 3, 9, 10, 11, 12, 13, 14, 68] (σ' := [(1, .int .i64 (wr64 ((Int.tmod (wr64 ((Int.tmod o1 3) + 3)) 3) + 1))), (3, .bool r3), (9, .bool t121), (10, .pointer (some ⟨b124, 0, none⟩)), (11, .pointer (some ⟨b125, 0, none⟩)), (12, .slice (some ⟨b126, 0, none⟩) 4 4), (13, .slice (some ⟨b142, 0, none⟩) 3 (nb142 / 4)), (14, .int .i64 3), (68, .bool true)]) (by kernel_rfl) ?_
        refine t_end ?_
        show W _ _ _ _ _ _ _
        refine w_cond rfl (fun _ => ?_) (fun c_ => by cases c_)
        show W _ _ _ _ _ _ _
        refine w_skip ?_
        show W _ _ _ _ _ _ _
        refine w_seq ?_
        refine w_block ?_
        refine w_seq ?_
        refine w_reg fun all => ?_
        refine t_qz 3 [1, 3, 9, 10, 11, 12, 13, 14, 73] (σ' := [(1, .int .i64 (wr64 ((Int.tmod (wr64 ((Int.tmod o1 3) + 3)) 3) + 1))), (3, .bool r3), (9, .bool t121), (10, .pointer (some ⟨b124, 0, none⟩)), (11, .pointer (some ⟨b125, 0, none⟩)), (12, .slice (some ⟨b126, 0, none⟩) 4 4), (13, .slice (some ⟨b142, 0, none⟩) 3 (nb142 / 4)), (14, .int .i64 3), (73, .pointer (some ⟨b126, 6, none⟩))]) (by kernel_rfl) ?_
        refine t_v (.ldn rfl rfl rfl (.at 10 rfl rfl)) ?_
        refine t_a (.new rfl rfl) fun b143 fb143 sb143 => ?_
        refine t_sti 0 (cs := [.int .i64 (wr64 ((wr64 ((Int.tmod (wr64 ((Int.tmod t0 4) + 4)) 4) * 256)) + (wr64 (32 * (Int.tmod (wr64 ((Int.tmod A2 9) + 9)) 9))))), .int .i64 256]) rfl rfl rfl rfl rfl rfl rfl rfl rfl ?_
        refine t_keep [1, 3, 9, 10, 11, 12, 13, 14, 15] (σ' := [(1, .int .i64 (wr64 ((Int.tmod (wr64 ((Int.tmod o1 3) + 3)) 3) + 1))), (3, .bool r3), (9, .bool t121), (10, .pointer (some ⟨b124, 0, none⟩)), (11, .pointer (some ⟨b125, 0, none⟩)), (12, .slice (some ⟨b126, 0, none⟩) 4 4), (13, .slice (some ⟨b142, 0, none⟩) 3 (nb142 / 4)), (14, .int .i64 3), (15, .pointer (some ⟨b143, 0, none⟩))]) (by kernel_rfl) ?_
        refine t_end ?_
        show W _ _ _ _ _ _ _
        refine w_seq ?_
        refine w_reg fun all => ?_
        refine t_qz 5 [1, 3, 9, 10, 11, 12, 13, 14, 15, 79] (σ' := [(1, .int .i64 (wr64 ((Int.tmod (wr64 ((Int.tmod o1 3) + 3)) 3) + 1))), (3, .bool r3), (9, .bool t121), (10, .pointer (some ⟨b124, 0, none⟩)), (11, .pointer (some ⟨b125, 0, none⟩)), (12, .slice (some ⟨b126, 0, none⟩) 4 4), (13, .slice (some ⟨b142, 0, none⟩) 3 (nb142 / 4)), (14, .int .i64 3), (15, .pointer (some ⟨b143, 0, none⟩)), (79, .pointer (some ⟨b126, 0, none⟩))]) (by kernel_rfl) ?_
        refine t_v (.ldn rfl rfl rfl (.at 11 rfl rfl)) ?_
        refine t_a (.new rfl rfl) fun b144 fb144 sb144 => ?_
        refine t_sti 0 (cs := [.int .i64 (wr64 ((wr64 ((Int.tmod (wr64 ((Int.tmod t0 4) + 4)) 4) * 256)) + (wr64 (32 * (Int.tmod (wr64 ((Int.tmod A2 9) + 9)) 9))))), .int .i64 0]) rfl rfl rfl rfl rfl rfl rfl rfl rfl ?_
        refine t_keep [1, 3, 9, 10, 11, 12, 13, 14, 15, 16] (σ' := [(1, .int .i64 (wr64 ((Int.tmod (wr64 ((Int.tmod o1 3) + 3)) 3) + 1))), (3, .bool r3), (9, .bool t121), (10, .pointer (some ⟨b124, 0, none⟩)), (11, .pointer (some ⟨b125, 0, none⟩)), (12, .slice (some ⟨b126, 0, none⟩) 4 4), (13, .slice (some ⟨b142, 0, none⟩) 3 (nb142 / 4)), (14, .int .i64 3), (15, .pointer (some ⟨b143, 0, none⟩)), (16, .pointer (some ⟨b144, 0, none⟩))]) (by kernel_rfl) ?_
        refine t_end ?_
        show W _ _ _ _ _ _ _
        refine w_seq ?_
        refine w_seq ?_
        refine w_reg fun all => ?_
        refine t_v (dv_quiet rfl (congrArg (fun t => some (Value.bool t)) c132b)) ?_
        refine t_keep [1, 3, 9, 10, 11, 12, 13, 14, 15, 16, 81] (σ' := [(1, .int .i64 (wr64 ((Int.tmod (wr64 ((Int.tmod o1 3) + 3)) 3) + 1))), (3, .bool r3), (9, .bool t121), (10, .pointer (some ⟨b124, 0, none⟩)), (11, .pointer (some ⟨b125, 0, none⟩)), (12, .slice (some ⟨b126, 0, none⟩) 4 4), (13, .slice (some ⟨b142, 0, none⟩) 3 (nb142 / 4)), (14, .int .i64 3), (15, .pointer (some ⟨b143, 0, none⟩)), (16, .pointer (some ⟨b144, 0, none⟩)), (81, .bool true)]) (by kernel_rfl) ?_
        refine t_end ?_
        show W _ _ _ _ _ _ _
        refine w_cond rfl (fun _ => ?_) (fun c_ => by cases c_)
        show W _ _ _ _ _ _ _
        refine w_reg fun all => ?_
        refine t_v (.ldn rfl rfl rfl (.at 0 rfl rfl)) ?_
        refine t_v (.ldn rfl rfl rfl (.at 1 rfl rfl)) ?_
        refine t_sti 1 (cs := [.int .i64 (wr64 ((wr64 ((Int.tmod (wr64 ((Int.tmod t0 4) + 4)) 4) * 256)) + (wr64 (32 * (Int.tmod (wr64 ((Int.tmod A2 9) + 9)) 9))))), .int .i64 0]) rfl rfl rfl rfl rfl rfl rfl rfl rfl ?_
        refine t_sti 0 (cs := [.int .i64 (wr64 ((wr64 ((Int.tmod (wr64 ((Int.tmod t0 4) + 4)) 4) * 256)) + (wr64 (32 * (Int.tmod (wr64 ((Int.tmod A2 9) + 9)) 9))))), .int .i64 256]) rfl rfl rfl rfl rfl rfl rfl rfl rfl ?_
        refine t_keep [1, 3, 9, 10, 11, 12, 13, 14, 15, 16] (σ' := [(1, .int .i64 (wr64 ((Int.tmod (wr64 ((Int.tmod o1 3) + 3)) 3) + 1))), (3, .bool r3), (9, .bool t121), (10, .pointer (some ⟨b124, 0, none⟩)), (11, .pointer (some ⟨b125, 0, none⟩)), (12, .slice (some ⟨b126, 0, none⟩) 4 4), (13, .slice (some ⟨b142, 0, none⟩) 3 (nb142 / 4)), (14, .int .i64 3), (15, .pointer (some ⟨b143, 0, none⟩)), (16, .pointer (some ⟨b144, 0, none⟩))]) (by kernel_rfl) ?_
        refine t_end ?_
        show W _ _ _ _ _ _ _
        refine w_reg fun all => ?_
        refine t_qz 1 [1, 3, 9, 10, 11, 12, 14, 15, 16, 84] (σ' := [(1, .int .i64 (wr64 ((Int.tmod (wr64 ((Int.tmod o1 3) + 3)) 3) + 1))), (3, .bool r3), (9, .bool t121), (10, .pointer (some ⟨b124, 0, none⟩)), (11, .pointer (some ⟨b125, 0, none⟩)), (12, .slice (some ⟨b126, 0, none⟩) 4 4), (14, .int .i64 3), (15, .pointer (some ⟨b143, 0, none⟩)), (16, .pointer (some ⟨b144, 0, none⟩)), (84, .slice (some ⟨b142, 0, none⟩) 3 (nb142 / 4))]) (by kernel_rfl) ?_
        refine t_v (.ldn rfl rfl rfl (.at 1 rfl rfl)) ?_
        refine t_v (.ldn rfl rfl rfl (.at 0 rfl rfl)) ?_
        refine t_qz 1 [1, 3, 9, 10, 11, 12, 14, 84, 87] (σ' := [(1, .int .i64 (wr64 ((Int.tmod (wr64 ((Int.tmod o1 3) + 3)) 3) + 1))), (3, .bool r3), (9, .bool t121), (10, .pointer (some ⟨b124, 0, none⟩)), (11, .pointer (some ⟨b125, 0, none⟩)), (12, .slice (some ⟨b126, 0, none⟩) 4 4), (14, .int .i64 3), (84, .slice (some ⟨b142, 0, none⟩) 3 (nb142 / 4)), (87, .agg #[.int .i64 (wr64 ((wr64 ((Int.tmod (wr64 ((Int.tmod t0 4) + 4)) 4) * 256)) + (wr64 (32 * (Int.tmod (wr64 ((Int.tmod A2 9) + 9)) 9))))), .int .i64 0, .int .i64 (wr64 ((wr64 ((Int.tmod (wr64 ((Int.tmod t0 4) + 4)) 4) * 256)) + (wr64 (32 * (Int.tmod (wr64 ((Int.tmod A2 9) + 9)) 9))))), .int .i64 256])]) (by kernel_rfl) ?_
        refine t_a (.bsl rfl rfl rfl rfl) fun b145 fb145 sb145 => ?_
        refine t_app1 (cs := [.int .i64 (wr64 ((wr64 ((wr64 ((Int.tmod (wr64 ((Int.tmod t0 4) + 4)) 4) * 256)) + (wr64 (32 * (Int.tmod (wr64 ((Int.tmod A2 9) + 9)) 9))))) + (wr64 ((wr64 ((Int.tmod (wr64 ((Int.tmod o1 3) + 3)) 3) + 1)) * 256)))), .int .i64 0, .int .i64 (wr64 ((wr64 ((Int.tmod (wr64 ((Int.tmod t0 4) + 4)) 4) * 256)) + (wr64 (32 * (Int.tmod (wr64 ((Int.tmod A2 9) + 9)) 9))))), .int .i64 0, .int .i64 (wr64 ((wr64 ((wr64 ((Int.tmod (wr64 ((Int.tmod t0 4) + 4)) 4) * 256)) + (wr64 (32 * (Int.tmod (wr64 ((Int.tmod A2 9) + 9)) 9))))) + (wr64 ((wr64 ((Int.tmod (wr64 ((Int.tmod o1 3) + 3)) 3) + 1)) * 256)))), .int .i64 256, .int .i64 (wr64 ((wr64 ((wr64 ((Int.tmod (wr64 ((Int.tmod t0 4) + 4)) 4) * 256)) + (wr64 (32 * (Int.tmod (wr64 ((Int.tmod A2 9) + 9)) 9))))) + (wr64 ((wr64 ((Int.tmod (wr64 ((Int.tmod o1 3) + 3)) 3) + 1)) * 256)))), .int .i64 0, .int .i64 (wr64 ((wr64 ((Int.tmod (wr64 ((Int.tmod t0 4) + 4)) 4) * 256)) + (wr64 (32 * (Int.tmod (wr64 ((Int.tmod A2 9) + 9)) 9))))), .int .i64 256, .int .i64 (wr64 ((wr64 ((wr64 ((Int.tmod (wr64 ((Int.tmod t0 4) + 4)) 4) * 256)) + (wr64 (32 * (Int.tmod (wr64 ((Int.tmod A2 9) + 9)) 9))))) + (wr64 ((wr64 ((Int.tmod (wr64 ((Int.tmod o1 3) + 3)) 3) + 1)) * 256)))), .int .i64 256]) (M := nb142) (F := ([⟨b145, [.int .i64 (wr64 ((wr64 ((Int.tmod (wr64 ((Int.tmod t0 4) + 4)) 4) * 256)) + (wr64 (32 * (Int.tmod (wr64 ((Int.tmod A2 9) + 9)) 9))))), .int .i64 0, .int .i64 (wr64 ((wr64 ((Int.tmod (wr64 ((Int.tmod t0 4) + 4)) 4) * 256)) + (wr64 (32 * (Int.tmod (wr64 ((Int.tmod A2 9) + 9)) 9))))), .int .i64 256], 4⟩, ⟨b144, [.int .i64 (wr64 ((wr64 ((Int.tmod (wr64 ((Int.tmod t0 4) + 4)) 4) * 256)) + (wr64 (32 * (Int.tmod (wr64 ((Int.tmod A2 9) + 9)) 9))))), .int .i64 256], 2⟩, ⟨b143, [.int .i64 (wr64 ((wr64 ((Int.tmod (wr64 ((Int.tmod t0 4) + 4)) 4) * 256)) + (wr64 (32 * (Int.tmod (wr64 ((Int.tmod A2 9) + 9)) 9))))), .int .i64 0], 2⟩, ⟨b141, [.int .i64 (wr64 ((wr64 ((Int.tmod (wr64 ((Int.tmod t0 4) + 4)) 4) * 256)) + (wr64 (32 * (Int.tmod (wr64 ((Int.tmod A2 9) + 9)) 9))))), .int .i64 256, .int .i64 (wr64 ((wr64 ((wr64 ((Int.tmod (wr64 ((Int.tmod t0 4) + 4)) 4) * 256)) + (wr64 (32 * (Int.tmod (wr64 ((Int.tmod A2 9) + 9)) 9))))) + (wr64 ((wr64 ((Int.tmod (wr64 ((Int.tmod o1 3) + 3)) 3) + 1)) * 256)))), .int .i64 256], 4⟩, ⟨b140, [.int .i64 (wr64 ((wr64 ((wr64 ((Int.tmod (wr64 ((Int.tmod t0 4) + 4)) 4) * 256)) + (wr64 (32 * (Int.tmod (wr64 ((Int.tmod A2 9) + 9)) 9))))) + (wr64 ((wr64 ((Int.tmod (wr64 ((Int.tmod o1 3) + 3)) 3) + 1)) * 256)))), .int .i64 256], 2⟩, ⟨b139, [.int .i64 (wr64 ((wr64 ((Int.tmod (wr64 ((Int.tmod t0 4) + 4)) 4) * 256)) + (wr64 (32 * (Int.tmod (wr64 ((Int.tmod A2 9) + 9)) 9))))), .int .i64 256], 2⟩, ⟨b137, [.int .i64 (wr64 ((wr64 ((wr64 ((Int.tmod (wr64 ((Int.tmod t0 4) + 4)) 4) * 256)) + (wr64 (32 * (Int.tmod (wr64 ((Int.tmod A2 9) + 9)) 9))))) + (wr64 ((wr64 ((Int.tmod (wr64 ((Int.tmod o1 3) + 3)) 3) + 1)) * 256)))), .int .i64 256, .int .i64 (wr64 ((wr64 ((wr64 ((Int.tmod (wr64 ((Int.tmod t0 4) + 4)) 4) * 256)) + (wr64 (32 * (Int.tmod (wr64 ((Int.tmod A2 9) + 9)) 9))))) + (wr64 ((wr64 ((Int.tmod (wr64 ((Int.tmod o1 3) + 3)) 3) + 1)) * 256)))), .int .i64 0], 4⟩, ⟨b136, [.int .i64 (wr64 ((wr64 ((wr64 ((Int.tmod (wr64 ((Int.tmod t0 4) + 4)) 4) * 256)) + (wr64 (32 * (Int.tmod (wr64 ((Int.tmod A2 9) + 9)) 9))))) + (wr64 ((wr64 ((Int.tmod (wr64 ((Int.tmod o1 3) + 3)) 3) + 1)) * 256)))), .int .i64 0], 2⟩, ⟨b135, [.int .i64 (wr64 ((wr64 ((wr64 ((Int.tmod (wr64 ((Int.tmod t0 4) + 4)) 4) * 256)) + (wr64 (32 * (Int.tmod (wr64 ((Int.tmod A2 9) + 9)) 9))))) + (wr64 ((wr64 ((Int.tmod (wr64 ((Int.tmod o1 3) + 3)) 3) + 1)) * 256)))), .int .i64 256], 2⟩, ⟨b133, [.int .i64 (wr64 ((wr64 ((wr64 ((Int.tmod (wr64 ((Int.tmod t0 4) + 4)) 4) * 256)) + (wr64 (32 * (Int.tmod (wr64 ((Int.tmod A2 9) + 9)) 9))))) + (wr64 ((wr64 ((Int.tmod (wr64 ((Int.tmod o1 3) + 3)) 3) + 1)) * 256)))), .int .i64 0, .int .i64 (wr64 ((wr64 ((Int.tmod (wr64 ((Int.tmod t0 4) + 4)) 4) * 256)) + (wr64 (32 * (Int.tmod (wr64 ((Int.tmod A2 9) + 9)) 9))))), .int .i64 0], 4⟩, ⟨b131, [.int .i64 (wr64 ((wr64 ((Int.tmod (wr64 ((Int.tmod t0 4) + 4)) 4) * 256)) + (wr64 (32 * (Int.tmod (wr64 ((Int.tmod A2 9) + 9)) 9))))), .int .i64 0], 2⟩, ⟨b130, [.int .i64 (wr64 ((wr64 ((wr64 ((Int.tmod (wr64 ((Int.tmod t0 4) + 4)) 4) * 256)) + (wr64 (32 * (Int.tmod (wr64 ((Int.tmod A2 9) + 9)) 9))))) + (wr64 ((wr64 ((Int.tmod (wr64 ((Int.tmod o1 3) + 3)) 3) + 1)) * 256)))), .int .i64 0], 2⟩, ⟨b126, [.int .i64 (wr64 ((wr64 ((Int.tmod (wr64 ((Int.tmod t0 4) + 4)) 4) * 256)) + (wr64 (32 * (Int.tmod (wr64 ((Int.tmod A2 9) + 9)) 9))))), .int .i64 0, .int .i64 (wr64 ((wr64 ((wr64 ((Int.tmod (wr64 ((Int.tmod t0 4) + 4)) 4) * 256)) + (wr64 (32 * (Int.tmod (wr64 ((Int.tmod A2 9) + 9)) 9))))) + (wr64 ((wr64 ((Int.tmod (wr64 ((Int.tmod o1 3) + 3)) 3) + 1)) * 256)))), .int .i64 0, .int .i64 (wr64 ((wr64 ((wr64 ((Int.tmod (wr64 ((Int.tmod t0 4) + 4)) 4) * 256)) + (wr64 (32 * (Int.tmod (wr64 ((Int.tmod A2 9) + 9)) 9))))) + (wr64 ((wr64 ((Int.tmod (wr64 ((Int.tmod o1 3) + 3)) 3) + 1)) * 256)))), .int .i64 256, .int .i64 (wr64 ((wr64 ((Int.tmod (wr64 ((Int.tmod t0 4) + 4)) 4) * 256)) + (wr64 (32 * (Int.tmod (wr64 ((Int.tmod A2 9) + 9)) 9))))), .int .i64 256], 8⟩, ⟨b125, [.int .i64 (wr64 ((wr64 ((wr64 ((Int.tmod (wr64 ((Int.tmod t0 4) + 4)) 4) * 256)) + (wr64 (32 * (Int.tmod (wr64 ((Int.tmod A2 9) + 9)) 9))))) + (wr64 ((wr64 ((Int.tmod (wr64 ((Int.tmod o1 3) + 3)) 3) + 1)) * 256)))), .int .i64 256], 2⟩, ⟨b124, [.int .i64 (wr64 ((wr64 ((Int.tmod (wr64 ((Int.tmod t0 4) + 4)) 4) * 256)) + (wr64 (32 * (Int.tmod (wr64 ((Int.tmod A2 9) + 9)) 9))))), .int .i64 0], 2⟩] : List Own)) (news := [.int .i64 (wr64 ((wr64 ((Int.tmod (wr64 ((Int.tmod t0 4) + 4)) 4) * 256)) + (wr64 (32 * (Int.tmod (wr64 ((Int.tmod A2 9) + 9)) 9))))), .int .i64 0, .int .i64 (wr64 ((wr64 ((Int.tmod (wr64 ((Int.tmod t0 4) + 4)) 4) * 256)) + (wr64 (32 * (Int.tmod (wr64 ((Int.tmod A2 9) + 9)) 9))))), .int .i64 256]) rfl rfl rfl rfl (sel_perm (is := [3]) (by kernel_rfl)) (.at 0 rfl rfl) (by kernel_rfl) rfl rfl (by decide) (by decide) rfl fun b146 nb146 => ?_
        refine t_qz 1 [1, 3, 9, 10, 11, 12, 13, 14] (σ' := [(1, .int .i64 (wr64 ((Int.tmod (wr64 ((Int.tmod o1 3) + 3)) 3) + 1))), (3, .bool r3), (9, .bool t121), (10, .pointer (some ⟨b124, 0, none⟩)), (11, .pointer (some ⟨b125, 0, none⟩)), (12, .slice (some ⟨b126, 0, none⟩) 4 4), (13, .slice (some ⟨b146, 0, none⟩) 4 (nb146 / 4)), (14, .int .i64 3)]) (by kernel_rfl) ?_
        refine t_end ?_
        show W _ _ _ _ _ _ _
        refine w_reg fun all => ?_
        refine t_qz 3 [1, 3, 9, 10, 11, 12, 13, 14] (σ' := [(1, .int .i64 (wr64 ((Int.tmod (wr64 ((Int.tmod o1 3) + 3)) 3) + 1))), (3, .bool r3), (9, .bool t121), (10, .pointer (some ⟨b124, 0, none⟩)), (11, .pointer (some ⟨b125, 0, none⟩)), (12, .slice (some ⟨b126, 0, none⟩) 4 4), (13, .slice (some ⟨b146, 0, none⟩) 4 (nb146 / 4)), (14, .int .i64 4)]) (by kernel_rfl) ?_
        refine t_end ?_
        show WL _ _ _ _ _ _ _ _
        refine wl_step ?_
        refine w_seq ?_
        refine w_seq ?_
        refine w_reg fun all => ?_
        refine t_qz 2 [1, 3, 9, 10, 11, 12, 13, 14, 68] (σ' := [(1, .int .i64 (wr64 ((Int.tmod (wr64 ((Int.tmod o1 3) + 3)) 3) + 1))), (3, .bool r3), (9, .bool t121), (10, .pointer (some ⟨b124, 0, none⟩)), (11, .pointer (some ⟨b125, 0, none⟩)), (12, .slice (some ⟨b126, 0, none⟩) 4 4), (13, .slice (some ⟨b146, 0, none⟩) 4 (nb146 / 4)), (14, .int .i64 4), (68, .bool false)]) (by kernel_rfl) ?_
        refine t_end ?_
        show W _ _ _ _ _ _ _
        refine w_cond rfl (fun c_ => by cases c_) (fun _ => ?_)
        show W _ _ _ _ _ _ _
        refine w_exit ?_
        simp only [Option.some.injEq, Prod.mk.injEq] at e128
        obtain ⟨rfl, rfl, rfl, rfl, rfl, rfl, rfl, rfl⟩ := e128
        exact ⟨([⟨b126, [.int .i64 (wr64 ((wr64 ((Int.tmod (wr64 ((Int.tmod t0 4) + 4)) 4) * 256)) + (wr64 (32 * (Int.tmod (wr64 ((Int.tmod A2 9) + 9)) 9))))), .int .i64 0, .int .i64 (wr64 ((wr64 ((wr64 ((Int.tmod (wr64 ((Int.tmod t0 4) + 4)) 4) * 256)) + (wr64 (32 * (Int.tmod (wr64 ((Int.tmod A2 9) + 9)) 9))))) + (wr64 ((wr64 ((Int.tmod (wr64 ((Int.tmod o1 3) + 3)) 3) + 1)) * 256)))), .int .i64 0, .int .i64 (wr64 ((wr64 ((wr64 ((Int.tmod (wr64 ((Int.tmod t0 4) + 4)) 4) * 256)) + (wr64 (32 * (Int.tmod (wr64 ((Int.tmod A2 9) + 9)) 9))))) + (wr64 ((wr64 ((Int.tmod (wr64 ((Int.tmod o1 3) + 3)) 3) + 1)) * 256)))), .int .i64 256, .int .i64 (wr64 ((wr64 ((Int.tmod (wr64 ((Int.tmod t0 4) + 4)) 4) * 256)) + (wr64 (32 * (Int.tmod (wr64 ((Int.tmod A2 9) + 9)) 9))))), .int .i64 256], 8⟩, ⟨b125, [.int .i64 (wr64 ((wr64 ((wr64 ((Int.tmod (wr64 ((Int.tmod t0 4) + 4)) 4) * 256)) + (wr64 (32 * (Int.tmod (wr64 ((Int.tmod A2 9) + 9)) 9))))) + (wr64 ((wr64 ((Int.tmod (wr64 ((Int.tmod o1 3) + 3)) 3) + 1)) * 256)))), .int .i64 256], 2⟩, ⟨b124, [.int .i64 (wr64 ((wr64 ((Int.tmod (wr64 ((Int.tmod t0 4) + 4)) 4) * 256)) + (wr64 (32 * (Int.tmod (wr64 ((Int.tmod A2 9) + 9)) 9))))), .int .i64 0], 2⟩, ⟨some b146, encL E_i644 ([(wr64 ((wr64 ((wr64 ((Int.tmod (wr64 ((Int.tmod t0 4) + 4)) 4) * 256)) + (wr64 (32 * (Int.tmod (wr64 ((Int.tmod A2 9) + 9)) 9))))) + (wr64 ((wr64 ((Int.tmod (wr64 ((Int.tmod o1 3) + 3)) 3) + 1)) * 256))), 0, wr64 ((wr64 ((Int.tmod (wr64 ((Int.tmod t0 4) + 4)) 4) * 256)) + (wr64 (32 * (Int.tmod (wr64 ((Int.tmod A2 9) + 9)) 9)))), 0), (wr64 ((wr64 ((wr64 ((Int.tmod (wr64 ((Int.tmod t0 4) + 4)) 4) * 256)) + (wr64 (32 * (Int.tmod (wr64 ((Int.tmod A2 9) + 9)) 9))))) + (wr64 ((wr64 ((Int.tmod (wr64 ((Int.tmod o1 3) + 3)) 3) + 1)) * 256))), 256, wr64 ((wr64 ((wr64 ((Int.tmod (wr64 ((Int.tmod t0 4) + 4)) 4) * 256)) + (wr64 (32 * (Int.tmod (wr64 ((Int.tmod A2 9) + 9)) 9))))) + (wr64 ((wr64 ((Int.tmod (wr64 ((Int.tmod o1 3) + 3)) 3) + 1)) * 256))), 0), (wr64 ((wr64 ((Int.tmod (wr64 ((Int.tmod t0 4) + 4)) 4) * 256)) + (wr64 (32 * (Int.tmod (wr64 ((Int.tmod A2 9) + 9)) 9)))), 256, wr64 ((wr64 ((wr64 ((Int.tmod (wr64 ((Int.tmod t0 4) + 4)) 4) * 256)) + (wr64 (32 * (Int.tmod (wr64 ((Int.tmod A2 9) + 9)) 9))))) + (wr64 ((wr64 ((Int.tmod (wr64 ((Int.tmod o1 3) + 3)) 3) + 1)) * 256))), 256), (wr64 ((wr64 ((Int.tmod (wr64 ((Int.tmod t0 4) + 4)) 4) * 256)) + (wr64 (32 * (Int.tmod (wr64 ((Int.tmod A2 9) + 9)) 9)))), 0, wr64 ((wr64 ((Int.tmod (wr64 ((Int.tmod t0 4) + 4)) 4) * 256)) + (wr64 (32 * (Int.tmod (wr64 ((Int.tmod A2 9) + 9)) 9)))), 256)] : List (Int × Int × Int × Int)), nb146⟩] : List Own), S, VS.sel [13, 13, 13, 0] (by kernel_rfl), some b146, nb146, by kernel_rfl, rfl, rfl⟩
      · rw [if_neg c132] at e128
        have c132b : r3 = false := Bool.eq_false_iff.mpr c132
        refine t_v (dv_quiet rfl (congrArg (fun t => some (Value.bool t)) c132b)) ?_
        refine t_keep [1, 3, 9, 10, 11, 12, 13, 14, 15, 16, 81] (σ' := [(1, .int .i64 (wr64 ((Int.tmod (wr64 ((Int.tmod o1 3) + 3)) 3) + 1))), (3, .bool r3), (9, .bool t121), (10, .pointer (some ⟨b124, 0, none⟩)), (11, .pointer (some ⟨b125, 0, none⟩)), (12, .slice (some ⟨b126, 0, none⟩) 4 4), (13, .slice none 0 0), (14, .int .i64 0), (15, .pointer (some ⟨b130, 0, none⟩)), (16, .pointer (some ⟨b131, 0, none⟩)), (81, .bool false)]) (by kernel_rfl) ?_
        refine t_end ?_
        show W _ _ _ _ _ _ _
        refine w_cond rfl (fun c_ => by cases c_) (fun _ => ?_)
        show W _ _ _ _ _ _ _
        refine w_skip ?_
        show W _ _ _ _ _ _ _
        refine w_reg fun all => ?_
        refine t_qz 1 [1, 3, 9, 10, 11, 12, 14, 15, 16, 84] (σ' := [(1, .int .i64 (wr64 ((Int.tmod (wr64 ((Int.tmod o1 3) + 3)) 3) + 1))), (3, .bool r3), (9, .bool t121), (10, .pointer (some ⟨b124, 0, none⟩)), (11, .pointer (some ⟨b125, 0, none⟩)), (12, .slice (some ⟨b126, 0, none⟩) 4 4), (14, .int .i64 0), (15, .pointer (some ⟨b130, 0, none⟩)), (16, .pointer (some ⟨b131, 0, none⟩)), (84, .slice none 0 0)]) (by kernel_rfl) ?_
        refine t_v (.ldn rfl rfl rfl (.at 1 rfl rfl)) ?_
        refine t_v (.ldn rfl rfl rfl (.at 0 rfl rfl)) ?_
        refine t_qz 1 [1, 3, 9, 10, 11, 12, 14, 84, 87] (σ' := [(1, .int .i64 (wr64 ((Int.tmod (wr64 ((Int.tmod o1 3) + 3)) 3) + 1))), (3, .bool r3), (9, .bool t121), (10, .pointer (some ⟨b124, 0, none⟩)), (11, .pointer (some ⟨b125, 0, none⟩)), (12, .slice (some ⟨b126, 0, none⟩) 4 4), (14, .int .i64 0), (84, .slice none 0 0), (87, .agg #[.int .i64 (wr64 ((wr64 ((Int.tmod (wr64 ((Int.tmod t0 4) + 4)) 4) * 256)) + (wr64 (32 * (Int.tmod (wr64 ((Int.tmod A2 9) + 9)) 9))))), .int .i64 0, .int .i64 (wr64 ((wr64 ((wr64 ((Int.tmod (wr64 ((Int.tmod t0 4) + 4)) 4) * 256)) + (wr64 (32 * (Int.tmod (wr64 ((Int.tmod A2 9) + 9)) 9))))) + (wr64 ((wr64 ((Int.tmod (wr64 ((Int.tmod o1 3) + 3)) 3) + 1)) * 256)))), .int .i64 0])]) (by kernel_rfl) ?_
        refine t_a (.bsl rfl rfl rfl rfl) fun b147 fb147 sb147 => ?_
        refine t_app0 (news := [.int .i64 (wr64 ((wr64 ((Int.tmod (wr64 ((Int.tmod t0 4) + 4)) 4) * 256)) + (wr64 (32 * (Int.tmod (wr64 ((Int.tmod A2 9) + 9)) 9))))), .int .i64 0, .int .i64 (wr64 ((wr64 ((wr64 ((Int.tmod (wr64 ((Int.tmod t0 4) + 4)) 4) * 256)) + (wr64 (32 * (Int.tmod (wr64 ((Int.tmod A2 9) + 9)) 9))))) + (wr64 ((wr64 ((Int.tmod (wr64 ((Int.tmod o1 3) + 3)) 3) + 1)) * 256)))), .int .i64 0]) rfl rfl rfl rfl (.at 0 rfl rfl) (by decide) (by decide) (by decide) rfl fun b148 nb148 fb148 sb148 => ?_
        refine t_qz 1 [1, 3, 9, 10, 11, 12, 13, 14] (σ' := [(1, .int .i64 (wr64 ((Int.tmod (wr64 ((Int.tmod o1 3) + 3)) 3) + 1))), (3, .bool r3), (9, .bool t121), (10, .pointer (some ⟨b124, 0, none⟩)), (11, .pointer (some ⟨b125, 0, none⟩)), (12, .slice (some ⟨b126, 0, none⟩) 4 4), (13, .slice (some ⟨b148, 0, none⟩) 1 (nb148 / 4)), (14, .int .i64 0)]) (by kernel_rfl) ?_
        refine t_end ?_
        show W _ _ _ _ _ _ _
        refine w_reg fun all => ?_
        refine t_qz 3 [1, 3, 9, 10, 11, 12, 13, 14] (σ' := [(1, .int .i64 (wr64 ((Int.tmod (wr64 ((Int.tmod o1 3) + 3)) 3) + 1))), (3, .bool r3), (9, .bool t121), (10, .pointer (some ⟨b124, 0, none⟩)), (11, .pointer (some ⟨b125, 0, none⟩)), (12, .slice (some ⟨b126, 0, none⟩) 4 4), (13, .slice (some ⟨b148, 0, none⟩) 1 (nb148 / 4)), (14, .int .i64 1)]) (by kernel_rfl) ?_
        refine t_end ?_
        show WL _ _ _ _ _ _ _ _
        refine wl_step ?_
        refine w_seq ?_
        refine w_seq ?_
        refine w_reg fun all => ?_
        refine t_qz 2 [1, 3, 9, 10, 11, 12, 13, 14, 68] (σ' := [(1, .int .i64 (wr64 ((Int.tmod (wr64 ((Int.tmod o1 3) + 3)) 3) + 1))), (3, .bool r3), (9, .bool t121), (10, .pointer (some ⟨b124, 0, none⟩)), (11, .pointer (some ⟨b125, 0, none⟩)), (12, .slice (some ⟨b126, 0, none⟩) 4 4), (13, .slice (some ⟨b148, 0, none⟩) 1 (nb148 / 4)), (14, .int .i64 1), (68, .bool true)]) (by kernel_rfl) ?_
        refine t_end ?_
        show W _ _ _ _ _ _ _
        refine w_cond rfl (fun _ => ?_) (fun c_ => by cases c_)
        show W _ _ _ _ _ _ _
        refine w_skip ?_
        show W _ _ _ _ _ _ _
        refine w_seq ?_
        refine w_block ?_
        refine w_seq ?_
        refine w_reg fun all => ?_
        refine t_qz 3 [1, 3, 9, 10, 11, 12, 13, 14, 73] (σ' := [(1, .int .i64 (wr64 ((Int.tmod (wr64 ((Int.tmod o1 3) + 3)) 3) + 1))), (3, .bool r3), (9, .bool t121), (10, .pointer (some ⟨b124, 0, none⟩)), (11, .pointer (some ⟨b125, 0, none⟩)), (12, .slice (some ⟨b126, 0, none⟩) 4 4), (13, .slice (some ⟨b148, 0, none⟩) 1 (nb148 / 4)), (14, .int .i64 1), (73, .pointer (some ⟨b126, 2, none⟩))]) (by kernel_rfl) ?_
        refine t_v (.ldn rfl rfl rfl (.at 4 rfl rfl)) ?_
        refine t_a (.new rfl rfl) fun b149 fb149 sb149 => ?_
        refine t_sti 0 (cs := [.int .i64 (wr64 ((wr64 ((wr64 ((Int.tmod (wr64 ((Int.tmod t0 4) + 4)) 4) * 256)) + (wr64 (32 * (Int.tmod (wr64 ((Int.tmod A2 9) + 9)) 9))))) + (wr64 ((wr64 ((Int.tmod (wr64 ((Int.tmod o1 3) + 3)) 3) + 1)) * 256)))), .int .i64 0]) rfl rfl rfl rfl rfl rfl rfl rfl rfl ?_
        refine t_keep [1, 3, 9, 10, 11, 12, 13, 14, 15] (σ' := [(1, .int .i64 (wr64 ((Int.tmod (wr64 ((Int.tmod o1 3) + 3)) 3) + 1))), (3, .bool r3), (9, .bool t121), (10, .pointer (some ⟨b124, 0, none⟩)), (11, .pointer (some ⟨b125, 0, none⟩)), (12, .slice (some ⟨b126, 0, none⟩) 4 4), (13, .slice (some ⟨b148, 0, none⟩) 1 (nb148 / 4)), (14, .int .i64 1), (15, .pointer (some ⟨b149, 0, none⟩))]) (by kernel_rfl) ?_
        refine t_end ?_
        show W _ _ _ _ _ _ _
        refine w_seq ?_
        refine w_reg fun all => ?_
        refine t_qz 5 [1, 3, 9, 10, 11, 12, 13, 14, 15, 79] (σ' := [(1, .int .i64 (wr64 ((Int.tmod (wr64 ((Int.tmod o1 3) + 3)) 3) + 1))), (3, .bool r3), (9, .bool t121), (10, .pointer (some ⟨b124, 0, none⟩)), (11, .pointer (some ⟨b125, 0, none⟩)), (12, .slice (some ⟨b126, 0, none⟩) 4 4), (13, .slice (some ⟨b148, 0, none⟩) 1 (nb148 / 4)), (14, .int .i64 1), (15, .pointer (some ⟨b149, 0, none⟩)), (79, .pointer (some ⟨b126, 4, none⟩))]) (by kernel_rfl) ?_
        refine t_v (.ldn rfl rfl rfl (.at 5 rfl rfl)) ?_
        refine t_a (.new rfl rfl) fun b150 fb150 sb150 => ?_
        refine t_sti 0 (cs := [.int .i64 (wr64 ((wr64 ((wr64 ((Int.tmod (wr64 ((Int.tmod t0 4) + 4)) 4) * 256)) + (wr64 (32 * (Int.tmod (wr64 ((Int.tmod A2 9) + 9)) 9))))) + (wr64 ((wr64 ((Int.tmod (wr64 ((Int.tmod o1 3) + 3)) 3) + 1)) * 256)))), .int .i64 256]) rfl rfl rfl rfl rfl rfl rfl rfl rfl ?_
        refine t_keep [1, 3, 9, 10, 11, 12, 13, 14, 15, 16] (σ' := [(1, .int .i64 (wr64 ((Int.tmod (wr64 ((Int.tmod o1 3) + 3)) 3) + 1))), (3, .bool r3), (9, .bool t121), (10, .pointer (some ⟨b124, 0, none⟩)), (11, .pointer (some ⟨b125, 0, none⟩)), (12, .slice (some ⟨b126, 0, none⟩) 4 4), (13, .slice (some ⟨b148, 0, none⟩) 1 (nb148 / 4)), (14, .int .i64 1), (15, .pointer (some ⟨b149, 0, none⟩)), (16, .pointer (some ⟨b150, 0, none⟩))]) (by kernel_rfl) ?_
        refine t_end ?_
        show W _ _ _ _ _ _ _
        refine w_seq ?_
        refine w_seq ?_
        refine w_reg fun all => ?_
        refine t_v (dv_quiet rfl (congrArg (fun t => some (Value.bool t)) c132b)) ?_
        refine t_keep [1, 3, 9, 10, 11, 12, 13, 14, 15, 16, 81] (σ' := [(1, .int .i64 (wr64 ((Int.tmod (wr64 ((Int.tmod o1 3) + 3)) 3) + 1))), (3, .bool r3), (9, .bool t121), (10, .pointer (some ⟨b124, 0, none⟩)), (11, .pointer (some ⟨b125, 0, none⟩)), (12, .slice (some ⟨b126, 0, none⟩) 4 4), (13, .slice (some ⟨b148, 0, none⟩) 1 (nb148 / 4)), (14, .int .i64 1), (15, .pointer (some ⟨b149, 0, none⟩)), (16, .pointer (some ⟨b150, 0, none⟩)), (81, .bool false)]) (by kernel_rfl) ?_
        refine t_end ?_
        show W _ _ _ _ _ _ _
        refine w_cond rfl (fun c_ => by cases c_) (fun _ => ?_)
        show W _ _ _ _ _ _ _
        refine w_skip ?_
        show W _ _ _ _ _ _ _
        refine w_reg fun all => ?_
        refine t_qz 1 [1, 3, 9, 10, 11, 12, 14, 15, 16, 84] (σ' := [(1, .int .i64 (wr64 ((Int.tmod (wr64 ((Int.tmod o1 3) + 3)) 3) + 1))), (3, .bool r3), (9, .bool t121), (10, .pointer (some ⟨b124, 0, none⟩)), (11, .pointer (some ⟨b125, 0, none⟩)), (12, .slice (some ⟨b126, 0, none⟩) 4 4), (14, .int .i64 1), (15, .pointer (some ⟨b149, 0, none⟩)), (16, .pointer (some ⟨b150, 0, none⟩)), (84, .slice (some ⟨b148, 0, none⟩) 1 (nb148 / 4))]) (by kernel_rfl) ?_
        refine t_v (.ldn rfl rfl rfl (.at 1 rfl rfl)) ?_
        refine t_v (.ldn rfl rfl rfl (.at 0 rfl rfl)) ?_
        refine t_qz 1 [1, 3, 9, 10, 11, 12, 14, 84, 87] (σ' := [(1, .int .i64 (wr64 ((Int.tmod (wr64 ((Int.tmod o1 3) + 3)) 3) + 1))), (3, .bool r3), (9, .bool t121), (10, .pointer (some ⟨b124, 0, none⟩)), (11, .pointer (some ⟨b125, 0, none⟩)), (12, .slice (some ⟨b126, 0, none⟩) 4 4), (14, .int .i64 1), (84, .slice (some ⟨b148, 0, none⟩) 1 (nb148 / 4)), (87, .agg #[.int .i64 (wr64 ((wr64 ((wr64 ((Int.tmod (wr64 ((Int.tmod t0 4) + 4)) 4) * 256)) + (wr64 (32 * (Int.tmod (wr64 ((Int.tmod A2 9) + 9)) 9))))) + (wr64 ((wr64 ((Int.tmod (wr64 ((Int.tmod o1 3) + 3)) 3) + 1)) * 256)))), .int .i64 0, .int .i64 (wr64 ((wr64 ((wr64 ((Int.tmod (wr64 ((Int.tmod t0 4) + 4)) 4) * 256)) + (wr64 (32 * (Int.tmod (wr64 ((Int.tmod A2 9) + 9)) 9))))) + (wr64 ((wr64 ((Int.tmod (wr64 ((Int.tmod o1 3) + 3)) 3) + 1)) * 256)))), .int .i64 256])]) (by kernel_rfl) ?_
        refine t_a (.bsl rfl rfl rfl rfl) fun b151 fb151 sb151 => ?_
        refine t_app1 (cs := [.int .i64 (wr64 ((wr64 ((Int.tmod (wr64 ((Int.tmod t0 4) + 4)) 4) * 256)) + (wr64 (32 * (Int.tmod (wr64 ((Int.tmod A2 9) + 9)) 9))))), .int .i64 0, .int .i64 (wr64 ((wr64 ((wr64 ((Int.tmod (wr64 ((Int.tmod t0 4) + 4)) 4) * 256)) + (wr64 (32 * (Int.tmod (wr64 ((Int.tmod A2 9) + 9)) 9))))) + (wr64 ((wr64 ((Int.tmod (wr64 ((Int.tmod o1 3) + 3)) 3) + 1)) * 256)))), .int .i64 0]) (M := nb148) (F := ([⟨b151, [.int .i64 (wr64 ((wr64 ((wr64 ((Int.tmod (wr64 ((Int.tmod t0 4) + 4)) 4) * 256)) + (wr64 (32 * (Int.tmod (wr64 ((Int.tmod A2 9) + 9)) 9))))) + (wr64 ((wr64 ((Int.tmod (wr64 ((Int.tmod o1 3) + 3)) 3) + 1)) * 256)))), .int .i64 0, .int .i64 (wr64 ((wr64 ((wr64 ((Int.tmod (wr64 ((Int.tmod t0 4) + 4)) 4) * 256)) + (wr64 (32 * (Int.tmod (wr64 ((Int.tmod A2 9) + 9)) 9))))) + (wr64 ((wr64 ((Int.tmod (wr64 ((Int.tmod o1 3) + 3)) 3) + 1)) * 256)))), .int .i64 256], 4⟩, ⟨b150, [.int .i64 (wr64 ((wr64 ((wr64 ((Int.tmod (wr64 ((Int.tmod t0 4) + 4)) 4) * 256)) + (wr64 (32 * (Int.tmod (wr64 ((Int.tmod A2 9) + 9)) 9))))) + (wr64 ((wr64 ((Int.tmod (wr64 ((Int.tmod o1 3) + 3)) 3) + 1)) * 256)))), .int .i64 256], 2⟩, ⟨b149, [.int .i64 (wr64 ((wr64 ((wr64 ((Int.tmod (wr64 ((Int.tmod t0 4) + 4)) 4) * 256)) + (wr64 (32 * (Int.tmod (wr64 ((Int.tmod A2 9) + 9)) 9))))) + (wr64 ((wr64 ((Int.tmod (wr64 ((Int.tmod o1 3) + 3)) 3) + 1)) * 256)))), .int .i64 0], 2⟩, ⟨b147, [.int .i64 (wr64 ((wr64 ((Int.tmod (wr64 ((Int.tmod t0 4) + 4)) 4) * 256)) + (wr64 (32 * (Int.tmod (wr64 ((Int.tmod A2 9) + 9)) 9))))), .int .i64 0, .int .i64 (wr64 ((wr64 ((wr64 ((Int.tmod (wr64 ((Int.tmod t0 4) + 4)) 4) * 256)) + (wr64 (32 * (Int.tmod (wr64 ((Int.tmod A2 9) + 9)) 9))))) + (wr64 ((wr64 ((Int.tmod (wr64 ((Int.tmod o1 3) + 3)) 3) + 1)) * 256)))), .int .i64 0], 4⟩, ⟨b131, [.int .i64 (wr64 ((wr64 ((wr64 ((Int.tmod (wr64 ((Int.tmod t0 4) + 4)) 4) * 256)) + (wr64 (32 * (Int.tmod (wr64 ((Int.tmod A2 9) + 9)) 9))))) + (wr64 ((wr64 ((Int.tmod (wr64 ((Int.tmod o1 3) + 3)) 3) + 1)) * 256)))), .int .i64 0], 2⟩, ⟨b130, [.int .i64 (wr64 ((wr64 ((Int.tmod (wr64 ((Int.tmod t0 4) + 4)) 4) * 256)) + (wr64 (32 * (Int.tmod (wr64 ((Int.tmod A2 9) + 9)) 9))))), .int .i64 0], 2⟩, ⟨b126, [.int .i64 (wr64 ((wr64 ((Int.tmod (wr64 ((Int.tmod t0 4) + 4)) 4) * 256)) + (wr64 (32 * (Int.tmod (wr64 ((Int.tmod A2 9) + 9)) 9))))), .int .i64 0, .int .i64 (wr64 ((wr64 ((wr64 ((Int.tmod (wr64 ((Int.tmod t0 4) + 4)) 4) * 256)) + (wr64 (32 * (Int.tmod (wr64 ((Int.tmod A2 9) + 9)) 9))))) + (wr64 ((wr64 ((Int.tmod (wr64 ((Int.tmod o1 3) + 3)) 3) + 1)) * 256)))), .int .i64 0, .int .i64 (wr64 ((wr64 ((wr64 ((Int.tmod (wr64 ((Int.tmod t0 4) + 4)) 4) * 256)) + (wr64 (32 * (Int.tmod (wr64 ((Int.tmod A2 9) + 9)) 9))))) + (wr64 ((wr64 ((Int.tmod (wr64 ((Int.tmod o1 3) + 3)) 3) + 1)) * 256)))), .int .i64 256, .int .i64 (wr64 ((wr64 ((Int.tmod (wr64 ((Int.tmod t0 4) + 4)) 4) * 256)) + (wr64 (32 * (Int.tmod (wr64 ((Int.tmod A2 9) + 9)) 9))))), .int .i64 256], 8⟩, ⟨b125, [.int .i64 (wr64 ((wr64 ((wr64 ((Int.tmod (wr64 ((Int.tmod t0 4) + 4)) 4) * 256)) + (wr64 (32 * (Int.tmod (wr64 ((Int.tmod A2 9) + 9)) 9))))) + (wr64 ((wr64 ((Int.tmod (wr64 ((Int.tmod o1 3) + 3)) 3) + 1)) * 256)))), .int .i64 256], 2⟩, ⟨b124, [.int .i64 (wr64 ((wr64 ((Int.tmod (wr64 ((Int.tmod t0 4) + 4)) 4) * 256)) + (wr64 (32 * (Int.tmod (wr64 ((Int.tmod A2 9) + 9)) 9))))), .int .i64 0], 2⟩] : List Own)) (news := [.int .i64 (wr64 ((wr64 ((wr64 ((Int.tmod (wr64 ((Int.tmod t0 4) + 4)) 4) * 256)) + (wr64 (32 * (Int.tmod (wr64 ((Int.tmod A2 9) + 9)) 9))))) + (wr64 ((wr64 ((Int.tmod (wr64 ((Int.tmod o1 3) + 3)) 3) + 1)) * 256)))), .int .i64 0, .int .i64 (wr64 ((wr64 ((wr64 ((Int.tmod (wr64 ((Int.tmod t0 4) + 4)) 4) * 256)) + (wr64 (32 * (Int.tmod (wr64 ((Int.tmod A2 9) + 9)) 9))))) + (wr64 ((wr64 ((Int.tmod (wr64 ((Int.tmod o1 3) + 3)) 3) + 1)) * 256)))), .int .i64 256]) rfl rfl rfl rfl (sel_perm (is := [3]) (by kernel_rfl)) (.at 0 rfl rfl) (by kernel_rfl) rfl rfl (by decide) (by decide) rfl fun b152 nb152 => ?_
        refine t_qz 1 [1, 3, 9, 10, 11, 12, 13, 14] (σ' := [(1, .int .i64 (wr64 ((Int.tmod (wr64 ((Int.tmod o1 3) + 3)) 3) + 1))), (3, .bool r3), (9, .bool t121), (10, .pointer (some ⟨b124, 0, none⟩)), (11, .pointer (some ⟨b125, 0, none⟩)), (12, .slice (some ⟨b126, 0, none⟩) 4 4), (13, .slice (some ⟨b152, 0, none⟩) 2 (nb152 / 4)), (14, .int .i64 1)]) (by kernel_rfl) ?_
        refine t_end ?_
        show W _ _ _ _ _ _ _
        refine w_reg fun all => ?_
        refine t_qz 3 [1, 3, 9, 10, 11, 12, 13, 14] (σ' := [(1, .int .i64 (wr64 ((Int.tmod (wr64 ((Int.tmod o1 3) + 3)) 3) + 1))), (3, .bool r3), (9, .bool t121), (10, .pointer (some ⟨b124, 0, none⟩)), (11, .pointer (some ⟨b125, 0, none⟩)), (12, .slice (some ⟨b126, 0, none⟩) 4 4), (13, .slice (some ⟨b152, 0, none⟩) 2 (nb152 / 4)), (14, .int .i64 2)]) (by kernel_rfl) ?_
        refine t_end ?_
        show WL _ _ _ _ _ _ _ _
        refine wl_step ?_
        refine w_seq ?_
        refine w_seq ?_
        refine w_reg fun all => ?_
        refine t_qz 2 [1, 3, 9, 10, 11, 12, 13, 14, 68] (σ' := [(1, .int .i64 (wr64 ((Int.tmod (wr64 ((Int.tmod o1 3) + 3)) 3) + 1))), (3, .bool r3), (9, .bool t121), (10, .pointer (some ⟨b124, 0, none⟩)), (11, .pointer (some ⟨b125, 0, none⟩)), (12, .slice (some ⟨b126, 0, none⟩) 4 4), (13, .slice (some ⟨b152, 0, none⟩) 2 (nb152 / 4)), (14, .int .i64 2), (68, .bool true)]) (by kernel_rfl) ?_
        refine t_end ?_
        show W _ _ _ _ _ _ _
        refine w_cond rfl (fun _ => ?_) (fun c_ => by cases c_)
        show W _ _ _ _ _ _ _
        refine w_skip ?_
        show W _ _ _ _ _ _ _
        refine w_seq ?_
        refine w_block ?_
        refine w_seq ?_
        refine w_reg fun all => ?_
        refine t_qz 3 [1, 3, 9, 10, 11, 12, 13, 14, 73] (σ' := [(1, .int .i64 (wr64 ((Int.tmod (wr64 ((Int.tmod o1 3) + 3)) 3) + 1))), (3, .bool r3), (9, .bool t121), (10, .pointer (some ⟨b124, 0, none⟩)), (11, .pointer (some ⟨b125, 0, none⟩)), (12, .slice (some ⟨b126, 0, none⟩) 4 4), (13, .slice (some ⟨b152, 0, none⟩) 2 (nb152 / 4)), (14, .int .i64 2), (73, .pointer (some ⟨b126, 4, none⟩))]) (by kernel_rfl) ?_
        refine t_v (.ldn rfl rfl rfl (.at 7 rfl rfl)) ?_
        refine t_a (.new rfl rfl) fun b153 fb153 sb153 => ?_
        refine t_sti 0 (cs := [.int .i64 (wr64 ((wr64 ((wr64 ((Int.tmod (wr64 ((Int.tmod t0 4) + 4)) 4) * 256)) + (wr64 (32 * (Int.tmod (wr64 ((Int.tmod A2 9) + 9)) 9))))) + (wr64 ((wr64 ((Int.tmod (wr64 ((Int.tmod o1 3) + 3)) 3) + 1)) * 256)))), .int .i64 256]) rfl rfl rfl rfl rfl rfl rfl rfl rfl ?_
        refine t_keep [1, 3, 9, 10, 11, 12, 13, 14, 15] (σ' := [(1, .int .i64 (wr64 ((Int.tmod (wr64 ((Int.tmod o1 3) + 3)) 3) + 1))), (3, .bool r3), (9, .bool t121), (10, .pointer (some ⟨b124, 0, none⟩)), (11, .pointer (some ⟨b125, 0, none⟩)), (12, .slice (some ⟨b126, 0, none⟩) 4 4), (13, .slice (some ⟨b152, 0, none⟩) 2 (nb152 / 4)), (14, .int .i64 2), (15, .pointer (some ⟨b153, 0, none⟩))]) (by kernel_rfl) ?_
        refine t_end ?_
        show W _ _ _ _ _ _ _
        refine w_seq ?_
        refine w_reg fun all => ?_
        refine t_qz 5 [1, 3, 9, 10, 11, 12, 13, 14, 15, 79] (σ' := [(1, .int .i64 (wr64 ((Int.tmod (wr64 ((Int.tmod o1 3) + 3)) 3) + 1))), (3, .bool r3), (9, .bool t121), (10, .pointer (some ⟨b124, 0, none⟩)), (11, .pointer (some ⟨b125, 0, none⟩)), (12, .slice (some ⟨b126, 0, none⟩) 4 4), (13, .slice (some ⟨b152, 0, none⟩) 2 (nb152 / 4)), (14, .int .i64 2), (15, .pointer (some ⟨b153, 0, none⟩)), (79, .pointer (some ⟨b126, 6, none⟩))]) (by kernel_rfl) ?_
        refine t_v (.ldn rfl rfl rfl (.at 8 rfl rfl)) ?_
        refine t_a (.new rfl rfl) fun b154 fb154 sb154 => ?_
        refine t_sti 0 (cs := [.int .i64 (wr64 ((wr64 ((Int.tmod (wr64 ((Int.tmod t0 4) + 4)) 4) * 256)) + (wr64 (32 * (Int.tmod (wr64 ((Int.tmod A2 9) + 9)) 9))))), .int .i64 256]) rfl rfl rfl rfl rfl rfl rfl rfl rfl ?_
        refine t_keep [1, 3, 9, 10, 11, 12, 13, 14, 15, 16] (σ' := [(1, .int .i64 (wr64 ((Int.tmod (wr64 ((Int.tmod o1 3) + 3)) 3) + 1))), (3, .bool r3), (9, .bool t121), (10, .pointer (some ⟨b124, 0, none⟩)), (11, .pointer (some ⟨b125, 0, none⟩)), (12, .slice (some ⟨b126, 0, none⟩) 4 4), (13, .slice (some ⟨b152, 0, none⟩) 2 (nb152 / 4)), (14, .int .i64 2), (15, .pointer (some ⟨b153, 0, none⟩)), (16, .pointer (some ⟨b154, 0, none⟩))]) (by kernel_rfl) ?_
        refine t_end ?_
        show W _ _ _ _ _ _ _
        refine w_seq ?_
        refine w_seq ?_
        refine w_reg fun all => ?_
        refine t_v (dv_quiet rfl (congrArg (fun t => some (Value.bool t)) c132b)) ?_
        refine t_keep [1, 3, 9, 10, 11, 12, 13, 14, 15, 16, 81] (σ' := [(1, .int .i64 (wr64 ((Int.tmod (wr64 ((Int.tmod o1 3) + 3)) 3) + 1))), (3, .bool r3), (9, .bool t121), (10, .pointer (some ⟨b124, 0, none⟩)), (11, .pointer (some ⟨b125, 0, none⟩)), (12, .slice (some ⟨b126, 0, none⟩) 4 4), (13, .slice (some ⟨b152, 0, none⟩) 2 (nb152 / 4)), (14, .int .i64 2), (15, .pointer (some ⟨b153, 0, none⟩)), (16, .pointer (some ⟨b154, 0, none⟩)), (81, .bool false)]) (by kernel_rfl) ?_
        refine t_end ?_
        show W _ _ _ _ _ _ _
        refine w_cond rfl (fun c_ => by cases c_) (fun _ => ?_)
        show W _ _ _ _ _ _ _
        refine w_skip ?_
        show W _ _ _ _ _ _ _
        refine w_reg fun all => ?_
        refine t_qz 1 [1, 3, 9, 10, 11, 12, 14, 15, 16, 84] (σ' := [(1, .int .i64 (wr64 ((Int.tmod (wr64 ((Int.tmod o1 3) + 3)) 3) + 1))), (3, .bool r3), (9, .bool t121), (10, .pointer (some ⟨b124, 0, none⟩)), (11, .pointer (some ⟨b125, 0, none⟩)), (12, .slice (some ⟨b126, 0, none⟩) 4 4), (14, .int .i64 2), (15, .pointer (some ⟨b153, 0, none⟩)), (16, .pointer (some ⟨b154, 0, none⟩)), (84, .slice (some ⟨b152, 0, none⟩) 2 (nb152 / 4))]) (by kernel_rfl) ?_
        refine t_v (.ldn rfl rfl rfl (.at 1 rfl rfl)) ?_
        refine t_v (.ldn rfl rfl rfl (.at 0 rfl rfl)) ?_
        refine t_qz 1 [1, 3, 9, 10, 11, 12, 14, 84, 87] (σ' := [(1, .int .i64 (wr64 ((Int.tmod (wr64 ((Int.tmod o1 3) + 3)) 3) + 1))), (3, .bool r3), (9, .bool t121), (10, .pointer (some ⟨b124, 0, none⟩)), (11, .pointer (some ⟨b125, 0, none⟩)), (12, .slice (some ⟨b126, 0, none⟩) 4 4), (14, .int .i64 2), (84, .slice (some ⟨b152, 0, none⟩) 2 (nb152 / 4)), (87, .agg #[.int .i64 (wr64 ((wr64 ((wr64 ((Int.tmod (wr64 ((Int.tmod t0 4) + 4)) 4) * 256)) + (wr64 (32 * (Int.tmod (wr64 ((Int.tmod A2 9) + 9)) 9))))) + (wr64 ((wr64 ((Int.tmod (wr64 ((Int.tmod o1 3) + 3)) 3) + 1)) * 256)))), .int .i64 256, .int .i64 (wr64 ((wr64 ((Int.tmod (wr64 ((Int.tmod t0 4) + 4)) 4) * 256)) + (wr64 (32 * (Int.tmod (wr64 ((Int.tmod A2 9) + 9)) 9))))), .int .i64 256])]) (by kernel_rfl) ?_
        refine t_a (.bsl rfl rfl rfl rfl) fun b155 fb155 sb155 => ?_
        refine t_app1 (cs := [.int .i64 (wr64 ((wr64 ((Int.tmod (wr64 ((Int.tmod t0 4) + 4)) 4) * 256)) + (wr64 (32 * (Int.tmod (wr64 ((Int.tmod A2 9) + 9)) 9))))), .int .i64 0, .int .i64 (wr64 ((wr64 ((wr64 ((Int.tmod (wr64 ((Int.tmod t0 4) + 4)) 4) * 256)) + (wr64 (32 * (Int.tmod (wr64 ((Int.tmod A2 9) + 9)) 9))))) + (wr64 ((wr64 ((Int.tmod (wr64 ((Int.tmod o1 3) + 3)) 3) + 1)) * 256)))), .int .i64 0, .int .i64 (wr64 ((wr64 ((wr64 ((Int.tmod (wr64 ((Int.tmod t0 4) + 4)) 4) * 256)) + (wr64 (32 * (Int.tmod (wr64 ((Int.tmod A2 9) + 9)) 9))))) + (wr64 ((wr64 ((Int.tmod (wr64 ((Int.tmod o1 3) + 3)) 3) + 1)) * 256)))), .int .i64 0, .int .i64 (wr64 ((wr64 ((wr64 ((Int.tmod (wr64 ((Int.tmod t0 4) + 4)) 4) * 256)) + (wr64 (32 * (Int.tmod (wr64 ((Int.tmod A2 9) + 9)) 9))))) + (wr64 ((wr64 ((Int.tmod (wr64 ((Int.tmod o1 3) + 3)) 3) + 1)) * 256)))), .int .i64 256]) (M := nb152) (F := ([⟨b155, [.int .i64 (wr64 ((wr64 ((wr64 ((Int.tmod (wr64 ((Int.tmod t0 4) + 4)) 4) * 256)) + (wr64 (32 * (Int.tmod (wr64 ((Int.tmod A2 9) + 9)) 9))))) + (wr64 ((wr64 ((Int.tmod (wr64 ((Int.tmod o1 3) + 3)) 3) + 1)) * 256)))), .int .i64 256, .int .i64 (wr64 ((wr64 ((Int.tmod (wr64 ((Int.tmod t0 4) + 4)) 4) * 256)) + (wr64 (32 * (Int.tmod (wr64 ((Int.tmod A2 9) + 9)) 9))))), .int .i64 256], 4⟩, ⟨b154, [.int .i64 (wr64 ((wr64 ((Int.tmod (wr64 ((Int.tmod t0 4) + 4)) 4) * 256)) + (wr64 (32 * (Int.tmod (wr64 ((Int.tmod A2 9) + 9)) 9))))), .int .i64 256], 2⟩, ⟨b153, [.int .i64 (wr64 ((wr64 ((wr64 ((Int.tmod (wr64 ((Int.tmod t0 4) + 4)) 4) * 256)) + (wr64 (32 * (Int.tmod (wr64 ((Int.tmod A2 9) + 9)) 9))))) + (wr64 ((wr64 ((Int.tmod (wr64 ((Int.tmod o1 3) + 3)) 3) + 1)) * 256)))), .int .i64 256], 2⟩, ⟨b151, [.int .i64 (wr64 ((wr64 ((wr64 ((Int.tmod (wr64 ((Int.tmod t0 4) + 4)) 4) * 256)) + (wr64 (32 * (Int.tmod (wr64 ((Int.tmod A2 9) + 9)) 9))))) + (wr64 ((wr64 ((Int.tmod (wr64 ((Int.tmod o1 3) + 3)) 3) + 1)) * 256)))), .int .i64 0, .int .i64 (wr64 ((wr64 ((wr64 ((Int.tmod (wr64 ((Int.tmod t0 4) + 4)) 4) * 256)) + (wr64 (32 * (Int.tmod (wr64 ((Int.tmod A2 9) + 9)) 9))))) + (wr64 ((wr64 ((Int.tmod (wr64 ((Int.tmod o1 3) + 3)) 3) + 1)) * 256)))), .int .i64 256], 4⟩, ⟨b150, [.int .i64 (wr64 ((wr64 ((wr64 ((Int.tmod (wr64 ((Int.tmod t0 4) + 4)) 4) * 256)) + (wr64 (32 * (Int.tmod (wr64 ((Int.tmod A2 9) + 9)) 9))))) + (wr64 ((wr64 ((Int.tmod (wr64 ((Int.tmod o1 3) + 3)) 3) + 1)) * 256)))), .int .i64 256], 2⟩, ⟨b149, [.int .i64 (wr64 ((wr64 ((wr64 ((Int.tmod (wr64 ((Int.tmod t0 4) + 4)) 4) * 256)) + (wr64 (32 * (Int.tmod (wr64 ((Int.tmod A2 9) + 9)) 9))))) + (wr64 ((wr64 ((Int.tmod (wr64 ((Int.tmod o1 3) + 3)) 3) + 1)) * 256)))), .int .i64 0], 2⟩, ⟨b147, [.int .i64 (wr64 ((wr64 ((Int.tmod (wr64 ((Int.tmod t0 4) + 4)) 4) * 256)) + (wr64 (32 * (Int.tmod (wr64 ((Int.tmod A2 9) + 9)) 9))))), .int .i64 0, .int .i64 (wr64 ((wr64 ((wr64 ((Int.tmod (wr64 ((Int.tmod t0 4) + 4)) 4) * 256)) + (wr64 (32 * (Int.tmod (wr64 ((Int.tmod A2 9) + 9)) 9))))) + (wr64 ((wr64 ((Int.tmod (wr64 ((Int.tmod o1 3) + 3)) 3) + 1)) * 256)))), .int .i64 0], 4⟩, ⟨b131, [.int .i64 (wr64 ((wr64 ((wr64 ((Int.tmod (wr64 ((Int.tmod t0 4) + 4)) 4) * 256)) + (wr64 (32 * (Int.tmod (wr64 ((Int.tmod A2 9) + 9)) 9))))) + (wr64 ((wr64 ((Int.tmod (wr64 ((Int.tmod o1 3) + 3)) 3) + 1)) * 256)))), .int .i64 0], 2⟩, ⟨b130, [.int .i64 (wr64 ((wr64 ((Int.tmod (wr64 ((Int.tmod t0 4) + 4)) 4) * 256)) + (wr64 (32 * (Int.tmod (wr64 ((Int.tmod A2 9) + 9)) 9))))), .int .i64 0], 2⟩, ⟨b126, [.int .i64 (wr64 ((wr64 ((Int.tmod (wr64 ((Int.tmod t0 4) + 4)) 4) * 256)) + (wr64 (32 * (Int.tmod (wr64 ((Int.tmod A2 9) + 9)) 9))))), .int .i64 0, .int .i64 (wr64 ((wr64 ((wr64 ((Int.tmod (wr64 ((Int.tmod t0 4) + 4)) 4) * 256)) + (wr64 (32 * (Int.tmod (wr64 ((Int.tmod A2 9) + 9)) 9))))) + (wr64 ((wr64 ((Int.tmod (wr64 ((Int.tmod o1 3) + 3)) 3) + 1)) * 256)))), .int .i64 0, .int .i64 (wr64 ((wr64 ((wr64 ((Int.tmod (wr64 ((Int.tmod t0 4) + 4)) 4) * 256)) + (wr64 (32 * (Int.tmod (wr64 ((Int.tmod A2 9) + 9)) 9))))) + (wr64 ((wr64 ((Int.tmod (wr64 ((Int.tmod o1 3) + 3)) 3) + 1)) * 256)))), .int .i64 256, .int .i64 (wr64 ((wr64 ((Int.tmod (wr64 ((Int.tmod t0 4) + 4)) 4) * 256)) + (wr64 (32 * (Int.tmod (wr64 ((Int.tmod A2 9) + 9)) 9))))), .int .i64 256], 8⟩, ⟨b125, [.int .i64 (wr64 ((wr64 ((wr64 ((Int.tmod (wr64 ((Int.tmod t0 4) + 4)) 4) * 256)) + (wr64 (32 * (Int.tmod (wr64 ((Int.tmod A2 9) + 9)) 9))))) + (wr64 ((wr64 ((Int.tmod (wr64 ((Int.tmod o1 3) + 3)) 3) + 1)) * 256)))), .int .i64 256], 2⟩, ⟨b124, [.int .i64 (wr64 ((wr64 ((Int.tmod (wr64 ((Int.tmod t0 4) + 4)) 4) * 256)) + (wr64 (32 * (Int.tmod (wr64 ((Int.tmod A2 9) + 9)) 9))))), .int .i64 0], 2⟩] : List Own)) (news := [.int .i64 (wr64 ((wr64 ((wr64 ((Int.tmod (wr64 ((Int.tmod t0 4) + 4)) 4) * 256)) + (wr64 (32 * (Int.tmod (wr64 ((Int.tmod A2 9) + 9)) 9))))) + (wr64 ((wr64 ((Int.tmod (wr64 ((Int.tmod o1 3) + 3)) 3) + 1)) * 256)))), .int .i64 256, .int .i64 (wr64 ((wr64 ((Int.tmod (wr64 ((Int.tmod t0 4) + 4)) 4) * 256)) + (wr64 (32 * (Int.tmod (wr64 ((Int.tmod A2 9) + 9)) 9))))), .int .i64 256]) rfl rfl rfl rfl (sel_perm (is := [3]) (by kernel_rfl)) (.at 0 rfl rfl) (by kernel_rfl) rfl rfl (by decide) (by decide) rfl fun b156 nb156 => ?_
        refine t_qz 1 [1, 3, 9, 10, 11, 12, 13, 14] (σ' := [(1, .int .i64 (wr64 ((Int.tmod (wr64 ((Int.tmod o1 3) + 3)) 3) + 1))), (3, .bool r3), (9, .bool t121), (10, .pointer (some ⟨b124, 0, none⟩)), (11, .pointer (some ⟨b125, 0, none⟩)), (12, .slice (some ⟨b126, 0, none⟩) 4 4), (13, .slice (some ⟨b156, 0, none⟩) 3 (nb156 / 4)), (14, .int .i64 2)]) (by kernel_rfl) ?_
        refine t_end ?_
        show W _ _ _ _ _ _ _
        refine w_reg fun all => ?_
        refine t_qz 3 [1, 3, 9, 10, 11, 12, 13, 14] (σ' := [(1, .int .i64 (wr64 ((Int.tmod (wr64 ((Int.tmod o1 3) + 3)) 3) + 1))), (3, .bool r3), (9, .bool t121), (10, .pointer (some ⟨b124, 0, none⟩)), (11, .pointer (some ⟨b125, 0, none⟩)), (12, .slice (some ⟨b126, 0, none⟩) 4 4), (13, .slice (some ⟨b156, 0, none⟩) 3 (nb156 / 4)), (14, .int .i64 3)]) (by kernel_rfl) ?_
        refine t_end ?_
        show WL _ _ _ _ _ _ _ _
        refine wl_step ?_
        refine w_seq ?_
        refine w_seq ?_
        refine w_reg fun all => ?_
        refine t_qz 2 [1, 3, 9, 10, 11, 12, 13, 14, 68] (σ' := [(1, .int .i64 (wr64 ((Int.tmod (wr64 ((Int.tmod o1 3) + 3)) 3) + 1))), (3, .bool r3), (9, .bool t121), (10, .pointer (some ⟨b124, 0, none⟩)), (11, .pointer (some ⟨b125, 0, none⟩)), (12, .slice (some ⟨b126, 0, none⟩) 4 4), (13, .slice (some ⟨b156, 0, none⟩) 3 (nb156 / 4)), (14, .int .i64 3), (68, .bool true)]) (by kernel_rfl) ?_
        refine t_end ?_
        show W _ _ _ _ _ _ _
        refine w_cond rfl (fun _ => ?_) (fun c_ => by cases c_)
        show W _ _ _ _ _ _ _
        refine w_skip ?_
        show W _ _ _ _ _ _ _
        refine w_seq ?_
        refine w_block ?_
        refine w_seq ?_
        refine w_reg fun all => ?_
        refine t_qz 3 [1, 3, 9, 10, 11, 12, 13, 14, 73] (σ' := [(1, .int .i64 (wr64 ((Int.tmod (wr64 ((Int.tmod o1 3) + 3)) 3) + 1))), (3, .bool r3), (9, .bool t121), (10, .pointer (some ⟨b124, 0, none⟩)), (11, .pointer (some ⟨b125, 0, none⟩)), (12, .slice (some ⟨b126, 0, none⟩) 4 4), (13, .slice (some ⟨b156, 0, none⟩) 3 (nb156 / 4)), (14, .int .i64 3), (73, .pointer (some ⟨b126, 6, none⟩))]) (by kernel_rfl) ?_
        refine t_v (.ldn rfl rfl rfl (.at 10 rfl rfl)) ?_
        refine t_a (.new rfl rfl) fun b157 fb157 sb157 => ?_
        refine t_sti 0 (cs := [.int .i64 (wr64 ((wr64 ((Int.tmod (wr64 ((Int.tmod t0 4) + 4)) 4) * 256)) + (wr64 (32 * (Int.tmod (wr64 ((Int.tmod A2 9) + 9)) 9))))), .int .i64 256]) rfl rfl rfl rfl rfl rfl rfl rfl rfl ?_
        refine t_keep [1, 3, 9, 10, 11, 12, 13, 14, 15] (σ' := [(1, .int .i64 (wr64 ((Int.tmod (wr64 ((Int.tmod o1 3) + 3)) 3) + 1))), (3, .bool r3), (9, .bool t121), (10, .pointer (some ⟨b124, 0, none⟩)), (11, .pointer (some ⟨b125, 0, none⟩)), (12, .slice (some ⟨b126, 0, none⟩) 4 4), (13, .slice (some ⟨b156, 0, none⟩) 3 (nb156 / 4)), (14, .int .i64 3), (15, .pointer (some ⟨b157, 0, none⟩))]) (by kernel_rfl) ?_
        refine t_end ?_
        show W _ _ _ _ _ _ _
        refine w_seq ?_
        refine w_reg fun all => ?_
        refine t_qz 5 [1, 3, 9, 10, 11, 12, 13, 14, 15, 79] (σ' := [(1, .int .i64 (wr64 ((Int.tmod (wr64 ((Int.tmod o1 3) + 3)) 3) + 1))), (3, .bool r3), (9, .bool t121), (10, .pointer (some ⟨b124, 0, none⟩)), (11, .pointer (some ⟨b125, 0, none⟩)), (12, .slice (some ⟨b126, 0, none⟩) 4 4), (13, .slice (some ⟨b156, 0, none⟩) 3 (nb156 / 4)), (14, .int .i64 3), (15, .pointer (some ⟨b157, 0, none⟩)), (79, .pointer (some ⟨b126, 0, none⟩))]) (by kernel_rfl) ?_
        refine t_v (.ldn rfl rfl rfl (.at 11 rfl rfl)) ?_
        refine t_a (.new rfl rfl) fun b158 fb158 sb158 => ?_
        refine t_sti 0 (cs := [.int .i64 (wr64 ((wr64 ((Int.tmod (wr64 ((Int.tmod t0 4) + 4)) 4) * 256)) + (wr64 (32 * (Int.tmod (wr64 ((Int.tmod A2 9) + 9)) 9))))), .int .i64 0]) rfl rfl rfl rfl rfl rfl rfl rfl rfl ?_
        refine t_keep [1, 3, 9, 10, 11, 12, 13, 14, 15, 16] (σ' := [(1, .int .i64 (wr64 ((Int.tmod (wr64 ((Int.tmod o1 3) + 3)) 3) + 1))), (3, .bool r3), (9, .bool t121), (10, .pointer (some ⟨b124, 0, none⟩)), (11, .pointer (some ⟨b125, 0, none⟩)), (12, .slice (some ⟨b126, 0, none⟩) 4 4), (13, .slice (some ⟨b156, 0, none⟩) 3 (nb156 / 4)), (14, .int .i64 3), (15, .pointer (some ⟨b157, 0, none⟩)), (16, .pointer (some ⟨b158, 0, none⟩))]) (by kernel_rfl) ?_
        refine t_end ?_
        show W _ _ _ _ _ _ _
        refine w_seq ?_
        refine w_seq ?_
        refine w_reg fun all => ?_
        refine t_v (dv_quiet rfl (congrArg (fun t => some (Value.bool t)) c132b)) ?_
        refine t_keep [1, 3, 9, 10, 11, 12, 13, 14, 15, 16, 81] (σ' := [(1, .int .i64 (wr64 ((Int.tmod (wr64 ((Int.tmod o1 3) + 3)) 3) + 1))), (3, .bool r3), (9, .bool t121), (10, .pointer (some ⟨b124, 0, none⟩)), (11, .pointer (some ⟨b125, 0, none⟩)), (12, .slice (some ⟨b126, 0, none⟩) 4 4), (13, .slice (some ⟨b156, 0, none⟩) 3 (nb156 / 4)), (14, .int .i64 3), (15, .pointer (some ⟨b157, 0, none⟩)), (16, .pointer (some ⟨b158, 0, none⟩)), (81, .bool false)]) (by kernel_rfl) ?_
        refine t_end ?_
        show W _ _ _ _ _ _ _
        refine w_cond rfl (fun c_ => by cases c_) (fun _ => ?_)
        show W _ _ _ _ _ _ _
        refine w_skip ?_
        show W _ _ _ _ _ _ _
        refine w_reg fun all => ?_
        refine t_qz 1 [1, 3, 9, 10, 11, 12, 14, 15, 16, 84] (σ' := [(1, .int .i64 (wr64 ((Int.tmod (wr64 ((Int.tmod o1 3) + 3)) 3) + 1))), (3, .bool r3), (9, .bool t121), (10, .pointer (some ⟨b124, 0, none⟩)), (11, .pointer (some ⟨b125, 0, none⟩)), (12, .slice (some ⟨b126, 0, none⟩) 4 4), (14, .int .i64 3), (15, .pointer (some ⟨b157, 0, none⟩)), (16, .pointer (some ⟨b158, 0, none⟩)), (84, .slice (some ⟨b156, 0, none⟩) 3 (nb156 / 4))]) (by kernel_rfl) ?_
        refine t_v (.ldn rfl rfl rfl (.at 1 rfl rfl)) ?_
        refine t_v (.ldn rfl rfl rfl (.at 0 rfl rfl)) ?_
        refine t_qz 1 [1, 3, 9, 10, 11, 12, 14, 84, 87] (σ' := [(1, .int .i64 (wr64 ((Int.tmod (wr64 ((Int.tmod o1 3) + 3)) 3) + 1))), (3, .bool r3), (9, .bool t121), (10, .pointer (some ⟨b124, 0, none⟩)), (11, .pointer (some ⟨b125, 0, none⟩)), (12, .slice (some ⟨b126, 0, none⟩) 4 4), (14, .int .i64 3), (84, .slice (some ⟨b156, 0, none⟩) 3 (nb156 / 4)), (87, .agg #[.int .i64 (wr64 ((wr64 ((Int.tmod (wr64 ((Int.tmod t0 4) + 4)) 4) * 256)) + (wr64 (32 * (Int.tmod (wr64 ((Int.tmod A2 9) + 9)) 9))))), .int .i64 256, .int .i64 (wr64 ((wr64 ((Int.tmod (wr64 ((Int.tmod t0 4) + 4)) 4) * 256)) + (wr64 (32 * (Int.tmod (wr64 ((Int.tmod A2 9) + 9)) 9))))), .int .i64 0])]) (by kernel_rfl) ?_
        refine t_a (.bsl rfl rfl rfl rfl) fun b159 fb159 sb159 => ?_
        refine t_app1 (cs := [.int .i64 (wr64 ((wr64 ((Int.tmod (wr64 ((Int.tmod t0 4) + 4)) 4) * 256)) + (wr64 (32 * (Int.tmod (wr64 ((Int.tmod A2 9) + 9)) 9))))), .int .i64 0, .int .i64 (wr64 ((wr64 ((wr64 ((Int.tmod (wr64 ((Int.tmod t0 4) + 4)) 4) * 256)) + (wr64 (32 * (Int.tmod (wr64 ((Int.tmod A2 9) + 9)) 9))))) + (wr64 ((wr64 ((Int.tmod (wr64 ((Int.tmod o1 3) + 3)) 3) + 1)) * 256)))), .int .i64 0, .int .i64 (wr64 ((wr64 ((wr64 ((Int.tmod (wr64 ((Int.tmod t0 4) + 4)) 4) * 256)) + (wr64 (32 * (Int.tmod (wr64 ((Int.tmod A2 9) + 9)) 9))))) + (wr64 ((wr64 ((Int.tmod (wr64 ((Int.tmod o1 3) + 3)) 3) + 1)) * 256)))), .int .i64 0, .int .i64 (wr64 ((wr64 ((wr64 ((Int.tmod (wr64 ((Int.tmod t0 4) + 4)) 4) * 256)) + (wr64 (32 * (Int.tmod (wr64 ((Int.tmod A2 9) + 9)) 9))))) + (wr64 ((wr64 ((Int.tmod (wr64 ((Int.tmod o1 3) + 3)) 3) + 1)) * 256)))), .int .i64 256, .int .i64 (wr64 ((wr64 ((wr64 ((Int.tmod (wr64 ((Int.tmod t0 4) + 4)) 4) * 256)) + (wr64 (32 * (Int.tmod (wr64 ((Int.tmod A2 9) + 9)) 9))))) + (wr64 ((wr64 ((Int.tmod (wr64 ((Int.tmod o1 3) + 3)) 3) + 1)) * 256)))), .int .i64 256, .int .i64 (wr64 ((wr64 ((Int.tmod (wr64 ((Int.tmod t0 4) + 4)) 4) * 256)) + (wr64 (32 * (Int.tmod (wr64 ((Int.tmod A2 9) + 9)) 9))))), .int .i64 256]) (M := nb156) (F := ([⟨b159, [.int .i64 (wr64 ((wr64 ((Int.tmod (wr64 ((Int.tmod t0 4) + 4)) 4) * 256)) + (wr64 (32 * (Int.tmod (wr64 ((Int.tmod A2 9) + 9)) 9))))), .int .i64 256, .int .i64 (wr64 ((wr64 ((Int.tmod (wr64 ((Int.tmod t0 4) + 4)) 4) * 256)) + (wr64 (32 * (Int.tmod (wr64 ((Int.tmod A2 9) + 9)) 9))))), .int .i64 0], 4⟩, ⟨b158, [.int .i64 (wr64 ((wr64 ((Int.tmod (wr64 ((Int.tmod t0 4) + 4)) 4) * 256)) + (wr64 (32 * (Int.tmod (wr64 ((Int.tmod A2 9) + 9)) 9))))), .int .i64 0], 2⟩, ⟨b157, [.int .i64 (wr64 ((wr64 ((Int.tmod (wr64 ((Int.tmod t0 4) + 4)) 4) * 256)) + (wr64 (32 * (Int.tmod (wr64 ((Int.tmod A2 9) + 9)) 9))))), .int .i64 256], 2⟩, ⟨b155, [.int .i64 (wr64 ((wr64 ((wr64 ((Int.tmod (wr64 ((Int.tmod t0 4) + 4)) 4) * 256)) + (wr64 (32 * (Int.tmod (wr64 ((Int.tmod A2 9) + 9)) 9))))) + (wr64 ((wr64 ((Int.tmod (wr64 ((Int.tmod o1 3) + 3)) 3) + 1)) * 256)))), .int .i64 256, .int .i64 (wr64 ((wr64 ((Int.tmod (wr64 ((Int.tmod t0 4) + 4)) 4) * 256)) + (wr64 (32 * (Int.tmod (wr64 ((Int.tmod A2 9) + 9)) 9))))), .int .i64 256], 4⟩, ⟨b154, [.int .i64 (wr64 ((wr64 ((Int.tmod (wr64 ((Int.tmod t0 4) + 4)) 4) * 256)) + (wr64 (32 * (Int.tmod (wr64 ((Int.tmod A2 9) + 9)) 9))))), .int .i64 256], 2⟩, ⟨b153, [.int .i64 (wr64 ((wr64 ((wr64 ((Int.tmod (wr64 ((Int.tmod t0 4) + 4)) 4) * 256)) + (wr64 (32 * (Int.tmod (wr64 ((Int.tmod A2 9) + 9)) 9))))) + (wr64 ((wr64 ((Int.tmod (wr64 ((Int.tmod o1 3) + 3)) 3) + 1)) * 256)))), .int .i64 256], 2⟩, ⟨b151, [.int .i64 (wr64 ((wr64 ((wr64 ((Int.tmod (wr64 ((Int.tmod t0 4) + 4)) 4) * 256)) + (wr64 (32 * (Int.tmod (wr64 ((Int.tmod A2 9) + 9)) 9))))) + (wr64 ((wr64 ((Int.tmod (wr64 ((Int.tmod o1 3) + 3)) 3) + 1)) * 256)))), .int .i64 0, .int .i64 (wr64 ((wr64 ((wr64 ((Int.tmod (wr64 ((Int.tmod t0 4) + 4)) 4) * 256)) + (wr64 (32 * (Int.tmod (wr64 ((Int.tmod A2 9) + 9)) 9))))) + (wr64 ((wr64 ((Int.tmod (wr64 ((Int.tmod o1 3) + 3)) 3) + 1)) * 256)))), .int .i64 256], 4⟩, ⟨b150, [.int .i64 (wr64 ((wr64 ((wr64 ((Int.tmod (wr64 ((Int.tmod t0 4) + 4)) 4) * 256)) + (wr64 (32 * (Int.tmod (wr64 ((Int.tmod A2 9) + 9)) 9))))) + (wr64 ((wr64 ((Int.tmod (wr64 ((Int.tmod o1 3) + 3)) 3) + 1)) * 256)))), .int .i64 256], 2⟩, ⟨b149, [.int .i64 (wr64 ((wr64 ((wr64 ((Int.tmod (wr64 ((Int.tmod t0 4) + 4)) 4) * 256)) + (wr64 (32 * (Int.tmod (wr64 ((Int.tmod A2 9) + 9)) 9))))) + (wr64 ((wr64 ((Int.tmod (wr64 ((Int.tmod o1 3) + 3)) 3) + 1)) * 256)))), .int .i64 0], 2⟩, ⟨b147, [.int .i64 (wr64 ((wr64 ((Int.tmod (wr64 ((Int.tmod t0 4) + 4)) 4) * 256)) + (wr64 (32 * (Int.tmod (wr64 ((Int.tmod A2 9) + 9)) 9))))), .int .i64 0, .int .i64 (wr64 ((wr64 ((wr64 ((Int.tmod (wr64 ((Int.tmod t0 4) + 4)) 4) * 256)) + (wr64 (32 * (Int.tmod (wr64 ((Int.tmod A2 9) + 9)) 9))))) + (wr64 ((wr64 ((Int.tmod (wr64 ((Int.tmod o1 3) + 3)) 3) + 1)) * 256)))), .int .i64 0], 4⟩, ⟨b131, [.int .i64 (wr64 ((wr64 ((wr64 ((Int.tmod (wr64 ((Int.tmod t0 4) + 4)) 4) * 256)) + (wr64 (32 * (Int.tmod (wr64 ((Int.tmod A2 9) + 9)) 9))))) + (wr64 ((wr64 ((Int.tmod (wr64 ((Int.tmod o1 3) + 3)) 3) + 1)) * 256)))), .int .i64 0], 2⟩, ⟨b130, [.int .i64 (wr64 ((wr64 ((Int.tmod (wr64 ((Int.tmod t0 4) + 4)) 4) * 256)) + (wr64 (32 * (Int.tmod (wr64 ((Int.tmod A2 9) + 9)) 9))))), .int .i64 0], 2⟩, ⟨b126, [.int .i64 (wr64 ((wr64 ((Int.tmod (wr64 ((Int.tmod t0 4) + 4)) 4) * 256)) + (wr64 (32 * (Int.tmod (wr64 ((Int.tmod A2 9) + 9)) 9))))), .int .i64 0, .int .i64 (wr64 ((wr64 ((wr64 ((Int.tmod (wr64 ((Int.tmod t0 4) + 4)) 4) * 256)) + (wr64 (32 * (Int.tmod (wr64 ((Int.tmod A2 9) + 9)) 9))))) + (wr64 ((wr64 ((Int.tmod (wr64 ((Int.tmod o1 3) + 3)) 3) + 1)) * 256)))), .int .i64 0, .int .i64 (wr64 ((wr64 ((wr64 ((Int.tmod (wr64 ((Int.tmod t0 4) + 4)) 4) * 256)) + (wr64 (32 * (Int.tmod (wr64 ((Int.tmod A2 9) + 9)) 9))))) + (wr64 ((wr64 ((Int.tmod (wr64 ((Int.tmod o1 3) + 3)) 3) + 1)) * 256)))), .int .i64 256, .int .i64 (wr64 ((wr64 ((Int.tmod (wr64 ((Int.tmod t0 4) + 4)) 4) * 256)) + (wr64 (32 * (Int.tmod (wr64 ((Int.tmod A2 9) + 9)) 9))))), .int .i64 256], 8⟩, ⟨b125, [.int .i64 (wr64 ((wr64 ((wr64 ((Int.tmod (wr64 ((Int.tmod t0 4) + 4)) 4) * 256)) + (wr64 (32 * (Int.tmod (wr64 ((Int.tmod A2 9) + 9)) 9))))) + (wr64 ((wr64 ((Int.tmod (wr64 ((Int.tmod o1 3) + 3)) 3) + 1)) * 256)))), .int .i64 256], 2⟩, ⟨b124, [.int .i64 (wr64 ((wr64 ((Int.tmod (wr64 ((Int.tmod t0 4) + 4)) 4) * 256)) + (wr64 (32 * (Int.tmod (wr64 ((Int.tmod A2 9) + 9)) 9))))), .int .i64 0], 2⟩] : List Own)) (news := [.int .i64 (wr64 ((wr64 ((Int.tmod (wr64 ((Int.tmod t0 4) + 4)) 4) * 256)) + (wr64 (32 * (Int.tmod (wr64 ((Int.tmod A2 9) + 9)) 9))))), .int .i64 256, .int .i64 (wr64 ((wr64 ((Int.tmod (wr64 ((Int.tmod t0 4) + 4)) 4) * 256)) + (wr64 (32 * (Int.tmod (wr64 ((Int.tmod A2 9) + 9)) 9))))), .int .i64 0]) rfl rfl rfl rfl (sel_perm (is := [3]) (by kernel_rfl)) (.at 0 rfl rfl) (by kernel_rfl) rfl rfl (by decide) (by decide) rfl fun b160 nb160 => ?_
        refine t_qz 1 [1, 3, 9, 10, 11, 12, 13, 14] (σ' := [(1, .int .i64 (wr64 ((Int.tmod (wr64 ((Int.tmod o1 3) + 3)) 3) + 1))), (3, .bool r3), (9, .bool t121), (10, .pointer (some ⟨b124, 0, none⟩)), (11, .pointer (some ⟨b125, 0, none⟩)), (12, .slice (some ⟨b126, 0, none⟩) 4 4), (13, .slice (some ⟨b160, 0, none⟩) 4 (nb160 / 4)), (14, .int .i64 3)]) (by kernel_rfl) ?_
        refine t_end ?_
        show W _ _ _ _ _ _ _
        refine w_reg fun all => ?_
        refine t_qz 3 [1, 3, 9, 10, 11, 12, 13, 14] (σ' := [(1, .int .i64 (wr64 ((Int.tmod (wr64 ((Int.tmod o1 3) + 3)) 3) + 1))), (3, .bool r3), (9, .bool t121), (10, .pointer (some ⟨b124, 0, none⟩)), (11, .pointer (some ⟨b125, 0, none⟩)), (12, .slice (some ⟨b126, 0, none⟩) 4 4), (13, .slice (some ⟨b160, 0, none⟩) 4 (nb160 / 4)), (14, .int .i64 4)]) (by kernel_rfl) ?_
        refine t_end ?_
        show WL _ _ _ _ _ _ _ _
        refine wl_step ?_
        refine w_seq ?_
        refine w_seq ?_
        refine w_reg fun all => ?_
        refine t_qz 2 [1, 3, 9, 10, 11, 12, 13, 14, 68] (σ' := [(1, .int .i64 (wr64 ((Int.tmod (wr64 ((Int.tmod o1 3) + 3)) 3) + 1))), (3, .bool r3), (9, .bool t121), (10, .pointer (some ⟨b124, 0, none⟩)), (11, .pointer (some ⟨b125, 0, none⟩)), (12, .slice (some ⟨b126, 0, none⟩) 4 4), (13, .slice (some ⟨b160, 0, none⟩) 4 (nb160 / 4)), (14, .int .i64 4), (68, .bool false)]) (by kernel_rfl) ?_
        refine t_end ?_
        show W _ _ _ _ _ _ _
        refine w_cond rfl (fun c_ => by cases c_) (fun _ => ?_)
        show W _ _ _ _ _ _ _
        refine w_exit ?_
        simp only [Option.some.injEq, Prod.mk.injEq] at e128
        obtain ⟨rfl, rfl, rfl, rfl, rfl, rfl, rfl, rfl⟩ := e128
        exact ⟨([⟨b126, [.int .i64 (wr64 ((wr64 ((Int.tmod (wr64 ((Int.tmod t0 4) + 4)) 4) * 256)) + (wr64 (32 * (Int.tmod (wr64 ((Int.tmod A2 9) + 9)) 9))))), .int .i64 0, .int .i64 (wr64 ((wr64 ((wr64 ((Int.tmod (wr64 ((Int.tmod t0 4) + 4)) 4) * 256)) + (wr64 (32 * (Int.tmod (wr64 ((Int.tmod A2 9) + 9)) 9))))) + (wr64 ((wr64 ((Int.tmod (wr64 ((Int.tmod o1 3) + 3)) 3) + 1)) * 256)))), .int .i64 0, .int .i64 (wr64 ((wr64 ((wr64 ((Int.tmod (wr64 ((Int.tmod t0 4) + 4)) 4) * 256)) + (wr64 (32 * (Int.tmod (wr64 ((Int.tmod A2 9) + 9)) 9))))) + (wr64 ((wr64 ((Int.tmod (wr64 ((Int.tmod o1 3) + 3)) 3) + 1)) * 256)))), .int .i64 256, .int .i64 (wr64 ((wr64 ((Int.tmod (wr64 ((Int.tmod t0 4) + 4)) 4) * 256)) + (wr64 (32 * (Int.tmod (wr64 ((Int.tmod A2 9) + 9)) 9))))), .int .i64 256], 8⟩, ⟨b125, [.int .i64 (wr64 ((wr64 ((wr64 ((Int.tmod (wr64 ((Int.tmod t0 4) + 4)) 4) * 256)) + (wr64 (32 * (Int.tmod (wr64 ((Int.tmod A2 9) + 9)) 9))))) + (wr64 ((wr64 ((Int.tmod (wr64 ((Int.tmod o1 3) + 3)) 3) + 1)) * 256)))), .int .i64 256], 2⟩, ⟨b124, [.int .i64 (wr64 ((wr64 ((Int.tmod (wr64 ((Int.tmod t0 4) + 4)) 4) * 256)) + (wr64 (32 * (Int.tmod (wr64 ((Int.tmod A2 9) + 9)) 9))))), .int .i64 0], 2⟩, ⟨some b160, encL E_i644 ([(wr64 ((wr64 ((Int.tmod (wr64 ((Int.tmod t0 4) + 4)) 4) * 256)) + (wr64 (32 * (Int.tmod (wr64 ((Int.tmod A2 9) + 9)) 9)))), 0, wr64 ((wr64 ((wr64 ((Int.tmod (wr64 ((Int.tmod t0 4) + 4)) 4) * 256)) + (wr64 (32 * (Int.tmod (wr64 ((Int.tmod A2 9) + 9)) 9))))) + (wr64 ((wr64 ((Int.tmod (wr64 ((Int.tmod o1 3) + 3)) 3) + 1)) * 256))), 0), (wr64 ((wr64 ((wr64 ((Int.tmod (wr64 ((Int.tmod t0 4) + 4)) 4) * 256)) + (wr64 (32 * (Int.tmod (wr64 ((Int.tmod A2 9) + 9)) 9))))) + (wr64 ((wr64 ((Int.tmod (wr64 ((Int.tmod o1 3) + 3)) 3) + 1)) * 256))), 0, wr64 ((wr64 ((wr64 ((Int.tmod (wr64 ((Int.tmod t0 4) + 4)) 4) * 256)) + (wr64 (32 * (Int.tmod (wr64 ((Int.tmod A2 9) + 9)) 9))))) + (wr64 ((wr64 ((Int.tmod (wr64 ((Int.tmod o1 3) + 3)) 3) + 1)) * 256))), 256), (wr64 ((wr64 ((wr64 ((Int.tmod (wr64 ((Int.tmod t0 4) + 4)) 4) * 256)) + (wr64 (32 * (Int.tmod (wr64 ((Int.tmod A2 9) + 9)) 9))))) + (wr64 ((wr64 ((Int.tmod (wr64 ((Int.tmod o1 3) + 3)) 3) + 1)) * 256))), 256, wr64 ((wr64 ((Int.tmod (wr64 ((Int.tmod t0 4) + 4)) 4) * 256)) + (wr64 (32 * (Int.tmod (wr64 ((Int.tmod A2 9) + 9)) 9)))), 256), (wr64 ((wr64 ((Int.tmod (wr64 ((Int.tmod t0 4) + 4)) 4) * 256)) + (wr64 (32 * (Int.tmod (wr64 ((Int.tmod A2 9) + 9)) 9)))), 256, wr64 ((wr64 ((Int.tmod (wr64 ((Int.tmod t0 4) + 4)) 4) * 256)) + (wr64 (32 * (Int.tmod (wr64 ((Int.tmod A2 9) + 9)) 9)))), 0)] : List (Int × Int × Int × Int)), nb160⟩] : List Own), S, VS.sel [13, 13, 13, 0] (by kernel_rfl), some b160, nb160, by kernel_rfl, rfl, rfl⟩
    · rintro σ_ H_ S_ ⟨a162, na162, rfl, rfl, rfl⟩
      obtain ⟨s172, e171, e⟩ := bind_of e
      refine w_cut [9] (fun σ_ H_ S_ => ∃ u_ : Unit, s172 = .inr u_ ∧ [(9, .bool t121)] = σ_ ∧ ([⟨b126, [.int .i64 x164, .int .i64 0, .int .i64 x165, .int .i64 0, .int .i64 x166, .int .i64 256, .int .i64 x167, .int .i64 256], 8⟩, ⟨b125, [.int .i64 x168, .int .i64 256], 2⟩, ⟨b124, [.int .i64 x169, .int .i64 0], 2⟩, ⟨a162, encL E_i644 y163, na162⟩] : List Own) = H_ ∧ S = S_) ?_ ?_
      · show W _ _ _ _ _ _ _
        refine w_seq ?_
        refine w_reg fun all => ?_
        refine t_qz 1 [1, 9, 10, 11, 13, 17] (σ' := [(1, .int .i64 x161), (9, .bool t121), (10, .pointer (some ⟨b124, 0, none⟩)), (11, .pointer (some ⟨b125, 0, none⟩)), (13, .slice (ad a162) y163.length (na162 / 4)), (17, .int .i64 0)]) (by kernel_rfl) ?_
        refine t_end ?_
        show W _ _ _ _ _ _ _
        refine w_block ?_
        refine w_kp [1, 9, 10, 11, 13, 17] (σ' := [(1, .int .i64 x161), (9, .bool t121), (10, .pointer (some ⟨b124, 0, none⟩)), (11, .pointer (some ⟨b125, 0, none⟩)), (13, .slice (ad a162) y163.length (na162 / 4)), (17, .int .i64 0)]) (by kernel_rfl) ?_
        refine w_loop (fun n_ σ_ H_ S_ => ∃ (x173 : Int), [(1, .int .i64 x161), (9, .bool t121), (10, .pointer (some ⟨b124, 0, none⟩)), (11, .pointer (some ⟨b125, 0, none⟩)), (13, .slice (ad a162) y163.length (na162 / 4)), (17, .int .i64 x173)] = σ_ ∧ ([⟨b126, [.int .i64 x164, .int .i64 0, .int .i64 x165, .int .i64 0, .int .i64 x166, .int .i64 256, .int .i64 x167, .int .i64 256], 8⟩, ⟨b125, [.int .i64 x168, .int .i64 256], 2⟩, ⟨b124, [.int .i64 x169, .int .i64 0], 2⟩, ⟨a162, encL E_i644 y163, na162⟩] : List Own) = H_ ∧ S = S_ ∧ glyphiclaw24_SweepSquares.l0 n_ x161 y163 x168 x169 x173 = some s172) _ ⟨0, rfl, rfl, rfl, e171⟩ ?_
        rintro n242 σ_ H_ S_ ⟨x173, rfl, rfl, rfl, e171⟩
        cases n242 with
        | zero => rw [glyphiclaw24_SweepSquares.l0.eq_1] at e171; cases e171
        | succ k_ =>
          rw [glyphiclaw24_SweepSquares.l0.eq_2] at e171
          refine w_seq ?_
          refine w_seq ?_
          refine w_reg fun all => ?_
          by_cases c174 : x173 < 2
          · rw [if_pos c174] at e171
            have c174b : (decide (x173 < 2)) = true := decide_eq_true c174
            refine t_qz 1 [1, 9, 10, 11, 13, 17, 90] (σ' := [(1, .int .i64 x161), (9, .bool t121), (10, .pointer (some ⟨b124, 0, none⟩)), (11, .pointer (some ⟨b125, 0, none⟩)), (13, .slice (ad a162) y163.length (na162 / 4)), (17, .int .i64 x173), (90, .int .i64 x173)]) (by kernel_rfl) ?_
            refine t_v (dv_quiet rfl (congrArg (fun t => some (Value.bool t)) c174b)) ?_
            refine t_keep [1, 9, 10, 11, 13, 17, 91] (σ' := [(1, .int .i64 x161), (9, .bool t121), (10, .pointer (some ⟨b124, 0, none⟩)), (11, .pointer (some ⟨b125, 0, none⟩)), (13, .slice (ad a162) y163.length (na162 / 4)), (17, .int .i64 x173), (91, .bool true)]) (by kernel_rfl) ?_
            refine t_end ?_
            show W _ _ _ _ _ _ _
            refine w_cond rfl (fun _ => ?_) (fun c_ => by cases c_)
            show W _ _ _ _ _ _ _
            refine w_skip ?_
            show W _ _ _ _ _ _ _
            obtain ⟨s177, e176, e171⟩ := bind_of e171
            refine w_cut [1, 9, 10, 11, 13, 17, 104, 105, 106] (fun σ_ H_ S_ => ∃ (y238 : List (Int)) (x239 : Int), ∃ (a237 : Option Nat) (na237 : Nat), s177 = .inr (y238, x239) ∧ [(1, .int .i64 x161), (9, .bool t121), (10, .pointer (some ⟨b124, 0, none⟩)), (11, .pointer (some ⟨b125, 0, none⟩)), (13, .slice (ad a162) y163.length (na162 / 4)), (17, .int .i64 x173), (104, .slice (ad a237) y238.length (na237 / 1)), (105, .int .i64 x239), (106, .bool false)] = σ_ ∧ ([⟨b126, [.int .i64 x164, .int .i64 0, .int .i64 x165, .int .i64 0, .int .i64 x166, .int .i64 256, .int .i64 x167, .int .i64 256], 8⟩, ⟨b125, [.int .i64 x168, .int .i64 256], 2⟩, ⟨b124, [.int .i64 x169, .int .i64 0], 2⟩, ⟨a162, encL E_i644 y163, na162⟩, ⟨a237, encL E_u64 y238, na237⟩] : List Own) = H_ ∧ S = S_) ?_ ?_
            · show W _ _ _ _ _ _ _
              refine w_block ?_
              refine w_seq ?_
              refine w_reg fun all => ?_
              obtain ⟨t178, h179, e176⟩ := bind_of e176
              refine t_qz 2 [1, 9, 10, 11, 13, 17, 94, 95] (σ' := [(1, .int .i64 x161), (9, .bool t121), (10, .pointer (some ⟨b124, 0, none⟩)), (11, .pointer (some ⟨b125, 0, none⟩)), (13, .slice (ad a162) y163.length (na162 / 4)), (17, .int .i64 x173), (94, .slice (ad a162) y163.length (na162 / 4)), (95, .int .i64 x173)]) (by kernel_rfl) ?_
              refine t_call (vs := [.slice (ad a162) y163.length (na162 / 4), .int .i64 x173, .int .i64 0, .int .i64 10]) (H1 := ([⟨a162, encL E_i644 y163, na162⟩] : List Own)) (F := ([⟨b126, [.int .i64 x164, .int .i64 0, .int .i64 x165, .int .i64 0, .int .i64 x166, .int .i64 256, .int .i64 x167, .int .i64 256], 8⟩, ⟨b125, [.int .i64 x168, .int .i64 256], 2⟩, ⟨b124, [.int .i64 x169, .int .i64 0], 2⟩] : List Own)) rfl rfl (by kernel_rfl) (sel_perm (is := [3]) (by kernel_rfl)) (cal_lend (Qc := fun v_ H_ => ∃ (N180 : Option Nat) (nN180 : Nat), v_ = (.slice (ad N180) t178.length (nN180 / 1)) ∧ H_ = ([⟨N180, encL E_u64 t178, nN180⟩] : List Own)) fun S1_ le1_ hS1_ => (sweep_Fill_v1.ok (SlE.ofAd (E := E_i644) (L := y163) hS1_ (by decide)) h179).mono fun _ _ _ ⟨N180, nN180, h1_, h2_, h3_⟩ => ⟨⟨N180, nN180, h1_, h2_⟩, h3_⟩) ?_
              rintro _ _ S_ ⟨⟨_, rfl, ⟨N180, nN180, rfl, rfl⟩⟩, hS_⟩
              obtain rfl := hS_.symm
              refine t_qz 1 [1, 9, 10, 11, 13, 17, 18] (σ' := [(1, .int .i64 x161), (9, .bool t121), (10, .pointer (some ⟨b124, 0, none⟩)), (11, .pointer (some ⟨b125, 0, none⟩)), (13, .slice (ad a162) y163.length (na162 / 4)), (17, .int .i64 x173), (18, .slice (ad N180) t178.length (nN180 / 1))]) (by kernel_rfl) ?_
              refine t_end ?_
              show W _ _ _ _ _ _ _
              refine w_seq ?_
              refine w_reg fun all => ?_
              obtain ⟨t181, h182, e176⟩ := bind_of e176
              refine t_qz 2 [1, 9, 10, 11, 13, 17, 18, 97, 98] (σ' := [(1, .int .i64 x161), (9, .bool t121), (10, .pointer (some ⟨b124, 0, none⟩)), (11, .pointer (some ⟨b125, 0, none⟩)), (13, .slice (ad a162) y163.length (na162 / 4)), (17, .int .i64 x173), (18, .slice (ad N180) t178.length (nN180 / 1)), (97, .slice (ad a162) y163.length (na162 / 4)), (98, .int .i64 x173)]) (by kernel_rfl) ?_
              refine t_call (vs := [.slice (ad a162) y163.length (na162 / 4), .int .i64 x173, .int .i64 1, .int .i64 10]) (H1 := ([⟨a162, encL E_i644 y163, na162⟩] : List Own)) (F := ([⟨N180, encL E_u64 t178, nN180⟩, ⟨b126, [.int .i64 x164, .int .i64 0, .int .i64 x165, .int .i64 0, .int .i64 x166, .int .i64 256, .int .i64 x167, .int .i64 256], 8⟩, ⟨b125, [.int .i64 x168, .int .i64 256], 2⟩, ⟨b124, [.int .i64 x169, .int .i64 0], 2⟩] : List Own)) rfl rfl (by kernel_rfl) (sel_perm (is := [0]) (by kernel_rfl)) (cal_lend (Qc := fun v_ H_ => ∃ (N183 : Option Nat) (nN183 : Nat), v_ = (.slice (ad N183) t181.length (nN183 / 1)) ∧ H_ = ([⟨N183, encL E_u64 t181, nN183⟩] : List Own)) fun S1_ le1_ hS1_ => (sweep_Fill_v1.ok (SlE.ofAd (E := E_i644) (L := y163) hS1_ (by decide)) h182).mono fun _ _ _ ⟨N183, nN183, h1_, h2_, h3_⟩ => ⟨⟨N183, nN183, h1_, h2_⟩, h3_⟩) ?_
              rintro _ _ S_ ⟨⟨_, rfl, ⟨N183, nN183, rfl, rfl⟩⟩, hS_⟩
              obtain rfl := hS_.symm
              refine t_qz 1 [1, 9, 10, 11, 13, 17, 18, 19] (σ' := [(1, .int .i64 x161), (9, .bool t121), (10, .pointer (some ⟨b124, 0, none⟩)), (11, .pointer (some ⟨b125, 0, none⟩)), (13, .slice (ad a162) y163.length (na162 / 4)), (17, .int .i64 x173), (18, .slice (ad N180) t178.length (nN180 / 1)), (19, .slice (ad N183) t181.length (nN183 / 1))]) (by kernel_rfl) ?_
              refine t_end ?_
              show W _ _ _ _ _ _ _
              refine w_seq ?_
              refine w_reg fun all => ?_
              refine t_qz 1 [1, 9, 10, 11, 13, 17, 18, 19, 20] (σ' := [(1, .int .i64 x161), (9, .bool t121), (10, .pointer (some ⟨b124, 0, none⟩)), (11, .pointer (some ⟨b125, 0, none⟩)), (13, .slice (ad a162) y163.length (na162 / 4)), (17, .int .i64 x173), (18, .slice (ad N180) t178.length (nN180 / 1)), (19, .slice (ad N183) t181.length (nN183 / 1)), (20, .int .i64 0)]) (by kernel_rfl) ?_
              refine t_end ?_
              show W _ _ _ _ _ _ _
              refine w_seq ?_
              refine w_seq ?_
              refine w_reg fun all => ?_
              by_cases c184 : (t178.length : Int) = 10
              · rw [if_pos c184] at e176
                have c184b : ((t178.length : Int) == 10) = true := beq_iff_eq.mpr c184
                refine t_qz 2 [1, 9, 10, 11, 13, 17, 18, 19, 20, 101] (σ' := [(1, .int .i64 x161), (9, .bool t121), (10, .pointer (some ⟨b124, 0, none⟩)), (11, .pointer (some ⟨b125, 0, none⟩)), (13, .slice (ad a162) y163.length (na162 / 4)), (17, .int .i64 x173), (18, .slice (ad N180) t178.length (nN180 / 1)), (19, .slice (ad N183) t181.length (nN183 / 1)), (20, .int .i64 0), (101, .int .i64 (t178.length : Int))]) (by kernel_rfl) ?_
                refine t_v (dv_quiet rfl (congrArg (fun t => some (Value.bool (!t))) c184b)) ?_
                by_cases c185 : (t181.length : Int) = 10
                · rw [if_pos c185] at e176
                  have c185b : ((t181.length : Int) == 10) = true := beq_iff_eq.mpr c185
                  refine t_qz 3 [1, 9, 10, 11, 13, 17, 18, 19, 20, 103, 104, 105] (σ' := [(1, .int .i64 x161), (9, .bool t121), (10, .pointer (some ⟨b124, 0, none⟩)), (11, .pointer (some ⟨b125, 0, none⟩)), (13, .slice (ad a162) y163.length (na162 / 4)), (17, .int .i64 x173), (18, .slice (ad N180) t178.length (nN180 / 1)), (19, .slice (ad N183) t181.length (nN183 / 1)), (20, .int .i64 0), (103, .bool false), (104, .slice (ad N183) t181.length (nN183 / 1)), (105, .int .i64 (t181.length : Int))]) (by kernel_rfl) ?_
                  refine t_v (dv_quiet rfl (congrArg (fun t => some (Value.bool (!t))) c185b)) ?_
                  refine t_qz 1 [1, 9, 10, 11, 13, 17, 18, 19, 20, 104, 105, 106, 107] (σ' := [(1, .int .i64 x161), (9, .bool t121), (10, .pointer (some ⟨b124, 0, none⟩)), (11, .pointer (some ⟨b125, 0, none⟩)), (13, .slice (ad a162) y163.length (na162 / 4)), (17, .int .i64 x173), (18, .slice (ad N180) t178.length (nN180 / 1)), (19, .slice (ad N183) t181.length (nN183 / 1)), (20, .int .i64 0), (104, .slice (ad N183) t181.length (nN183 / 1)), (105, .int .i64 (t181.length : Int)), (106, .bool false), (107, .bool false)]) (by kernel_rfl) ?_
                  refine t_end ?_
                  show W _ _ _ _ _ _ _
                  refine w_cond rfl (fun c_ => by cases c_) (fun _ => ?_)
                  show W _ _ _ _ _ _ _
                  refine w_skip ?_
                  show W _ _ _ _ _ _ _
                  obtain ⟨s188, e187, e176⟩ := bind_of e176
                  refine w_cut [1, 9, 10, 11, 13, 17, 20, 104, 105, 106] (fun σ_ H_ S_ => ∃ (x234 : Int), s188 = .inr x234 ∧ [(1, .int .i64 x161), (9, .bool t121), (10, .pointer (some ⟨b124, 0, none⟩)), (11, .pointer (some ⟨b125, 0, none⟩)), (13, .slice (ad a162) y163.length (na162 / 4)), (17, .int .i64 x173), (20, .int .i64 x234), (104, .slice (ad N183) t181.length (nN183 / 1)), (105, .int .i64 (t181.length : Int)), (106, .bool false)] = σ_ ∧ ([⟨b126, [.int .i64 x164, .int .i64 0, .int .i64 x165, .int .i64 0, .int .i64 x166, .int .i64 256, .int .i64 x167, .int .i64 256], 8⟩, ⟨b125, [.int .i64 x168, .int .i64 256], 2⟩, ⟨b124, [.int .i64 x169, .int .i64 0], 2⟩, ⟨a162, encL E_i644 y163, na162⟩, ⟨N183, encL E_u64 t181, nN183⟩, ⟨N180, encL E_u64 t178, nN180⟩] : List Own) = H_ ∧ S = S_) ?_ ?_
                  · show W _ _ _ _ _ _ _
                    refine w_seq ?_
                    refine w_reg fun all => ?_
                    refine t_qz 1 [1, 9, 10, 11, 13, 17, 18, 19, 20, 21, 104, 105, 106] (σ' := [(1, .int .i64 x161), (9, .bool t121), (10, .pointer (some ⟨b124, 0, none⟩)), (11, .pointer (some ⟨b125, 0, none⟩)), (13, .slice (ad a162) y163.length (na162 / 4)), (17, .int .i64 x173), (18, .slice (ad N180) t178.length (nN180 / 1)), (19, .slice (ad N183) t181.length (nN183 / 1)), (20, .int .i64 0), (21, .int .i64 0), (104, .slice (ad N183) t181.length (nN183 / 1)), (105, .int .i64 (t181.length : Int)), (106, .bool false)]) (by kernel_rfl) ?_
                    refine t_end ?_
                    show W _ _ _ _ _ _ _
                    refine w_block ?_
                    refine w_kp [1, 9, 10, 11, 13, 17, 18, 19, 20, 21, 104, 105, 106] (σ' := [(1, .int .i64 x161), (9, .bool t121), (10, .pointer (some ⟨b124, 0, none⟩)), (11, .pointer (some ⟨b125, 0, none⟩)), (13, .slice (ad a162) y163.length (na162 / 4)), (17, .int .i64 x173), (18, .slice (ad N180) t178.length (nN180 / 1)), (19, .slice (ad N183) t181.length (nN183 / 1)), (20, .int .i64 0), (21, .int .i64 0), (104, .slice (ad N183) t181.length (nN183 / 1)), (105, .int .i64 (t181.length : Int)), (106, .bool false)]) (by kernel_rfl) ?_
                    refine w_loop (fun n_ σ_ H_ S_ => ∃ (x189 : Int) (x190 : Int), [(1, .int .i64 x161), (9, .bool t121), (10, .pointer (some ⟨b124, 0, none⟩)), (11, .pointer (some ⟨b125, 0, none⟩)), (13, .slice (ad a162) y163.length (na162 / 4)), (17, .int .i64 x173), (18, .slice (ad N180) t178.length (nN180 / 1)), (19, .slice (ad N183) t181.length (nN183 / 1)), (20, .int .i64 x189), (21, .int .i64 x190), (104, .slice (ad N183) t181.length (nN183 / 1)), (105, .int .i64 (t181.length : Int)), (106, .bool false)] = σ_ ∧ ([⟨a162, encL E_i644 y163, na162⟩, ⟨N183, encL E_u64 t181, nN183⟩, ⟨N180, encL E_u64 t178, nN180⟩, ⟨b126, [.int .i64 x164, .int .i64 0, .int .i64 x165, .int .i64 0, .int .i64 x166, .int .i64 256, .int .i64 x167, .int .i64 256], 8⟩, ⟨b125, [.int .i64 x168, .int .i64 256], 2⟩, ⟨b124, [.int .i64 x169, .int .i64 0], 2⟩] : List Own) = H_ ∧ S = S_ ∧ glyphiclaw24_SweepSquares.l1 n_ x168 x169 t178 t181 x189 x190 = some s188) _ ⟨0, 0, rfl, rfl, rfl, e187⟩ ?_
                    rintro n233 σ_ H_ S_ ⟨x189, x190, rfl, rfl, rfl, e187⟩
                    cases n233 with
                    | zero => rw [glyphiclaw24_SweepSquares.l1.eq_1] at e187; cases e187
                    | succ k_ =>
                      rw [glyphiclaw24_SweepSquares.l1.eq_2] at e187
                      refine w_seq ?_
                      refine w_seq ?_
                      refine w_reg fun all => ?_
                      by_cases c191 : x190 < 10
                      · rw [if_pos c191] at e187
                        have c191b : (decide (x190 < 10)) = true := decide_eq_true c191
                        refine t_qz 1 [1, 9, 10, 11, 13, 17, 18, 19, 20, 21, 104, 105, 106, 108] (σ' := [(1, .int .i64 x161), (9, .bool t121), (10, .pointer (some ⟨b124, 0, none⟩)), (11, .pointer (some ⟨b125, 0, none⟩)), (13, .slice (ad a162) y163.length (na162 / 4)), (17, .int .i64 x173), (18, .slice (ad N180) t178.length (nN180 / 1)), (19, .slice (ad N183) t181.length (nN183 / 1)), (20, .int .i64 x189), (21, .int .i64 x190), (104, .slice (ad N183) t181.length (nN183 / 1)), (105, .int .i64 (t181.length : Int)), (106, .bool false), (108, .int .i64 x190)]) (by kernel_rfl) ?_
                        refine t_v (dv_quiet rfl (congrArg (fun t => some (Value.bool t)) c191b)) ?_
                        refine t_keep [1, 9, 10, 11, 13, 17, 18, 19, 20, 21, 104, 105, 106, 109] (σ' := [(1, .int .i64 x161), (9, .bool t121), (10, .pointer (some ⟨b124, 0, none⟩)), (11, .pointer (some ⟨b125, 0, none⟩)), (13, .slice (ad a162) y163.length (na162 / 4)), (17, .int .i64 x173), (18, .slice (ad N180) t178.length (nN180 / 1)), (19, .slice (ad N183) t181.length (nN183 / 1)), (20, .int .i64 x189), (21, .int .i64 x190), (104, .slice (ad N183) t181.length (nN183 / 1)), (105, .int .i64 (t181.length : Int)), (106, .bool false), (109, .bool true)]) (by kernel_rfl) ?_
                        refine t_end ?_
                        show W _ _ _ _ _ _ _
                        refine w_cond rfl (fun _ => ?_) (fun c_ => by cases c_)
                        show W _ _ _ _ _ _ _
                        refine w_skip ?_
                        show W _ _ _ _ _ _ _
                        obtain ⟨s194, e193, e187⟩ := bind_of e187
                        refine w_cut [1, 9, 10, 11, 13, 17, 18, 19, 20, 21, 104, 105, 106, 146, 147, 148, 149, 150] (fun σ_ H_ S_ => ∃ (x229 : Int) (x230 : Int), s194 = .inr (x229, x230) ∧ [(1, .int .i64 x161), (9, .bool t121), (10, .pointer (some ⟨b124, 0, none⟩)), (11, .pointer (some ⟨b125, 0, none⟩)), (13, .slice (ad a162) y163.length (na162 / 4)), (17, .int .i64 x173), (18, .slice (ad N180) t178.length (nN180 / 1)), (19, .slice (ad N183) t181.length (nN183 / 1)), (20, .int .i64 x229), (21, .int .i64 x190), (104, .slice (ad N183) t181.length (nN183 / 1)), (105, .int .i64 (t181.length : Int)), (106, .bool false), (146, .slice (ad N183) t181.length (nN183 / 1)), (147, .int .i64 x190), (148, .pointer (some ⟨bk N183, (x190).toNat * 1 + 0, none⟩)), (149, .int .u64 x230), (150, .bool false)] = σ_ ∧ ([⟨b126, [.int .i64 x164, .int .i64 0, .int .i64 x165, .int .i64 0, .int .i64 x166, .int .i64 256, .int .i64 x167, .int .i64 256], 8⟩, ⟨b125, [.int .i64 x168, .int .i64 256], 2⟩, ⟨b124, [.int .i64 x169, .int .i64 0], 2⟩, ⟨a162, encL E_i644 y163, na162⟩, ⟨N180, encL E_u64 t178, nN180⟩, ⟨N183, encL E_u64 t181, nN183⟩] : List Own) = H_ ∧ S = S_) ?_ ?_
                        · show W _ _ _ _ _ _ _
                          refine w_block ?_
                          refine w_seq ?_
                          refine w_reg fun all => ?_
                          obtain ⟨x195, hx196, e193⟩ := bind_of e193
                          refine t_qz 2 [1, 9, 10, 11, 13, 17, 18, 19, 20, 21, 104, 105, 106, 112, 113] (σ' := [(1, .int .i64 x161), (9, .bool t121), (10, .pointer (some ⟨b124, 0, none⟩)), (11, .pointer (some ⟨b125, 0, none⟩)), (13, .slice (ad a162) y163.length (na162 / 4)), (17, .int .i64 x173), (18, .slice (ad N180) t178.length (nN180 / 1)), (19, .slice (ad N183) t181.length (nN183 / 1)), (20, .int .i64 x189), (21, .int .i64 x190), (104, .slice (ad N183) t181.length (nN183 / 1)), (105, .int .i64 (t181.length : Int)), (106, .bool false), (112, .slice (ad N180) t178.length (nN180 / 1)), (113, .int .i64 x190)]) (by kernel_rfl) ?_
                          refine t_v (.quietH rfl (by intro h_; cases h_) (ixl (E := E_u64) (j := 2) rfl rfl rfl (by decide) rfl hx196)) ?_
                          refine t_v (.ld1 rfl rfl rfl (.lst 2 rfl (encL_at (lgt_in hx196).1 rfl))) ?_
                          obtain ⟨t209, h210, e193⟩ := bind_of e193
                          refine t_v (.call (vs := [.int .u64 x195]) rfl rfl (by kernel_rfl) (sweep_Count.ok h210)) ?_
                          refine t_qz 1 [1, 9, 10, 11, 13, 17, 18, 19, 20, 21, 22, 104, 105, 106] (σ' := [(1, .int .i64 x161), (9, .bool t121), (10, .pointer (some ⟨b124, 0, none⟩)), (11, .pointer (some ⟨b125, 0, none⟩)), (13, .slice (ad a162) y163.length (na162 / 4)), (17, .int .i64 x173), (18, .slice (ad N180) t178.length (nN180 / 1)), (19, .slice (ad N183) t181.length (nN183 / 1)), (20, .int .i64 x189), (21, .int .i64 x190), (22, .int .i64 t209), (104, .slice (ad N183) t181.length (nN183 / 1)), (105, .int .i64 (t181.length : Int)), (106, .bool false)]) (by kernel_rfl) ?_
                          refine t_end ?_
                          show W _ _ _ _ _ _ _
                          refine w_seq ?_
                          refine w_reg fun all => ?_
                          refine t_qz 4 [1, 9, 10, 11, 13, 17, 18, 19, 20, 21, 22, 104, 105, 106] (σ' := [(1, .int .i64 x161), (9, .bool t121), (10, .pointer (some ⟨b124, 0, none⟩)), (11, .pointer (some ⟨b125, 0, none⟩)), (13, .slice (ad a162) y163.length (na162 / 4)), (17, .int .i64 x173), (18, .slice (ad N180) t178.length (nN180 / 1)), (19, .slice (ad N183) t181.length (nN183 / 1)), (20, .int .i64 (wr64 (x189 + t209))), (21, .int .i64 x190), (22, .int .i64 t209), (104, .slice (ad N183) t181.length (nN183 / 1)), (105, .int .i64 (t181.length : Int)), (106, .bool false)]) (by kernel_rfl) ?_
                          refine t_end ?_
                          show W _ _ _ _ _ _ _
                          refine w_seq ?_
                          refine w_reg fun all => ?_
                          refine t_qz 1 [1, 9, 10, 11, 13, 17, 18, 19, 20, 21, 22, 23, 104, 105, 106] (σ' := [(1, .int .i64 x161), (9, .bool t121), (10, .pointer (some ⟨b124, 0, none⟩)), (11, .pointer (some ⟨b125, 0, none⟩)), (13, .slice (ad a162) y163.length (na162 / 4)), (17, .int .i64 x173), (18, .slice (ad N180) t178.length (nN180 / 1)), (19, .slice (ad N183) t181.length (nN183 / 1)), (20, .int .i64 (wr64 (x189 + t209))), (21, .int .i64 x190), (22, .int .i64 t209), (23, .int .i64 0), (104, .slice (ad N183) t181.length (nN183 / 1)), (105, .int .i64 (t181.length : Int)), (106, .bool false)]) (by kernel_rfl) ?_
                          refine t_end ?_
                          show W _ _ _ _ _ _ _
                          obtain ⟨⟨x223, x224⟩, e212, e193⟩ := bind_of e193
                          try dsimp only at e193
                          refine w_cut [1, 9, 10, 11, 13, 17, 18, 19, 20, 21, 22, 23, 104, 105, 106] (fun σ_ H_ S_ => [(1, .int .i64 x161), (9, .bool t121), (10, .pointer (some ⟨b124, 0, none⟩)), (11, .pointer (some ⟨b125, 0, none⟩)), (13, .slice (ad a162) y163.length (na162 / 4)), (17, .int .i64 x173), (18, .slice (ad N180) t178.length (nN180 / 1)), (19, .slice (ad N183) t181.length (nN183 / 1)), (20, .int .i64 x223), (21, .int .i64 x190), (22, .int .i64 t209), (23, .int .i64 x224), (104, .slice (ad N183) t181.length (nN183 / 1)), (105, .int .i64 (t181.length : Int)), (106, .bool false)] = σ_ ∧ ([⟨b126, [.int .i64 x164, .int .i64 0, .int .i64 x165, .int .i64 0, .int .i64 x166, .int .i64 256, .int .i64 x167, .int .i64 256], 8⟩, ⟨b125, [.int .i64 x168, .int .i64 256], 2⟩, ⟨b124, [.int .i64 x169, .int .i64 0], 2⟩, ⟨a162, encL E_i644 y163, na162⟩, ⟨N180, encL E_u64 t178, nN180⟩, ⟨N183, encL E_u64 t181, nN183⟩] : List Own) = H_ ∧ S = S_) ?_ ?_
                          · show W _ _ _ _ _ _ _
                            refine w_seq ?_
                            refine w_reg fun all => ?_
                            refine t_qz 1 [1, 9, 10, 11, 13, 17, 18, 19, 20, 21, 22, 23, 24, 104, 105, 106] (σ' := [(1, .int .i64 x161), (9, .bool t121), (10, .pointer (some ⟨b124, 0, none⟩)), (11, .pointer (some ⟨b125, 0, none⟩)), (13, .slice (ad a162) y163.length (na162 / 4)), (17, .int .i64 x173), (18, .slice (ad N180) t178.length (nN180 / 1)), (19, .slice (ad N183) t181.length (nN183 / 1)), (20, .int .i64 (wr64 (x189 + t209))), (21, .int .i64 x190), (22, .int .i64 t209), (23, .int .i64 0), (24, .int .i64 0), (104, .slice (ad N183) t181.length (nN183 / 1)), (105, .int .i64 (t181.length : Int)), (106, .bool false)]) (by kernel_rfl) ?_
                            refine t_end ?_
                            show W _ _ _ _ _ _ _
                            refine w_block ?_
                            refine w_kp [1, 9, 10, 11, 13, 17, 18, 19, 20, 21, 22, 23, 24, 104, 105, 106] (σ' := [(1, .int .i64 x161), (9, .bool t121), (10, .pointer (some ⟨b124, 0, none⟩)), (11, .pointer (some ⟨b125, 0, none⟩)), (13, .slice (ad a162) y163.length (na162 / 4)), (17, .int .i64 x173), (18, .slice (ad N180) t178.length (nN180 / 1)), (19, .slice (ad N183) t181.length (nN183 / 1)), (20, .int .i64 (wr64 (x189 + t209))), (21, .int .i64 x190), (22, .int .i64 t209), (23, .int .i64 0), (24, .int .i64 0), (104, .slice (ad N183) t181.length (nN183 / 1)), (105, .int .i64 (t181.length : Int)), (106, .bool false)]) (by kernel_rfl) ?_
                            refine w_loop (fun n_ σ_ H_ S_ => ∃ (x214 : Int) (x215 : Int), [(1, .int .i64 x161), (9, .bool t121), (10, .pointer (some ⟨b124, 0, none⟩)), (11, .pointer (some ⟨b125, 0, none⟩)), (13, .slice (ad a162) y163.length (na162 / 4)), (17, .int .i64 x173), (18, .slice (ad N180) t178.length (nN180 / 1)), (19, .slice (ad N183) t181.length (nN183 / 1)), (20, .int .i64 (wr64 (x189 + t209))), (21, .int .i64 x190), (22, .int .i64 t209), (23, .int .i64 x214), (24, .int .i64 x215), (104, .slice (ad N183) t181.length (nN183 / 1)), (105, .int .i64 (t181.length : Int)), (106, .bool false)] = σ_ ∧ ([⟨a162, encL E_i644 y163, na162⟩, ⟨N183, encL E_u64 t181, nN183⟩, ⟨N180, encL E_u64 t178, nN180⟩, ⟨b126, [.int .i64 x164, .int .i64 0, .int .i64 x165, .int .i64 0, .int .i64 x166, .int .i64 256, .int .i64 x167, .int .i64 256], 8⟩, ⟨b125, [.int .i64 x168, .int .i64 256], 2⟩, ⟨b124, [.int .i64 x169, .int .i64 0], 2⟩] : List Own) = H_ ∧ S = S_ ∧ glyphiclaw24_SweepSquares.l2 n_ x168 x169 x189 x190 t209 x214 x215 = some (x223, x224)) _ ⟨0, 0, rfl, rfl, rfl, e212⟩ ?_
                            rintro n222 σ_ H_ S_ ⟨x214, x215, rfl, rfl, rfl, e212⟩
                            cases n222 with
                            | zero => rw [glyphiclaw24_SweepSquares.l2.eq_1] at e212; cases e212
                            | succ k_ =>
                              rw [glyphiclaw24_SweepSquares.l2.eq_2] at e212
                              refine w_seq ?_
                              refine w_seq ?_
                              refine w_reg fun all => ?_
                              by_cases c216 : x215 < 8
                              · rw [if_pos c216] at e212
                                have c216b : (decide (x215 < 8)) = true := decide_eq_true c216
                                refine t_qz 1 [1, 9, 10, 11, 13, 17, 18, 19, 20, 21, 22, 23, 24, 104, 105, 106, 120] (σ' := [(1, .int .i64 x161), (9, .bool t121), (10, .pointer (some ⟨b124, 0, none⟩)), (11, .pointer (some ⟨b125, 0, none⟩)), (13, .slice (ad a162) y163.length (na162 / 4)), (17, .int .i64 x173), (18, .slice (ad N180) t178.length (nN180 / 1)), (19, .slice (ad N183) t181.length (nN183 / 1)), (20, .int .i64 (wr64 (x189 + t209))), (21, .int .i64 x190), (22, .int .i64 t209), (23, .int .i64 x214), (24, .int .i64 x215), (104, .slice (ad N183) t181.length (nN183 / 1)), (105, .int .i64 (t181.length : Int)), (106, .bool false), (120, .int .i64 x215)]) (by kernel_rfl) ?_
                                refine t_v (dv_quiet rfl (congrArg (fun t => some (Value.bool t)) c216b)) ?_
                                refine t_keep [1, 9, 10, 11, 13, 17, 18, 19, 20, 21, 22, 23, 24, 104, 105, 106, 121] (σ' := [(1, .int .i64 x161), (9, .bool t121), (10, .pointer (some ⟨b124, 0, none⟩)), (11, .pointer (some ⟨b125, 0, none⟩)), (13, .slice (ad a162) y163.length (na162 / 4)), (17, .int .i64 x173), (18, .slice (ad N180) t178.length (nN180 / 1)), (19, .slice (ad N183) t181.length (nN183 / 1)), (20, .int .i64 (wr64 (x189 + t209))), (21, .int .i64 x190), (22, .int .i64 t209), (23, .int .i64 x214), (24, .int .i64 x215), (104, .slice (ad N183) t181.length (nN183 / 1)), (105, .int .i64 (t181.length : Int)), (106, .bool false), (121, .bool true)]) (by kernel_rfl) ?_
                                refine t_end ?_
                                show W _ _ _ _ _ _ _
                                refine w_cond rfl (fun _ => ?_) (fun c_ => by cases c_)
                                show W _ _ _ _ _ _ _
                                refine w_skip ?_
                                show W _ _ _ _ _ _ _
                                refine w_seq ?_
                                refine w_block ?_
                                refine w_seq ?_
                                refine w_reg fun all => ?_
                                refine t_qz 7 [1, 9, 10, 11, 13, 17, 18, 19, 20, 21, 22, 23, 24, 25, 104, 105, 106] (σ' := [(1, .int .i64 x161), (9, .bool t121), (10, .pointer (some ⟨b124, 0, none⟩)), (11, .pointer (some ⟨b125, 0, none⟩)), (13, .slice (ad a162) y163.length (na162 / 4)), (17, .int .i64 x173), (18, .slice (ad N180) t178.length (nN180 / 1)), (19, .slice (ad N183) t181.length (nN183 / 1)), (20, .int .i64 (wr64 (x189 + t209))), (21, .int .i64 x190), (22, .int .i64 t209), (23, .int .i64 x214), (24, .int .i64 x215), (25, .int .i64 (wr64 ((wr64 ((wr64 (x190 * 256)) + (wr64 (32 * x215)))) + 16))), (104, .slice (ad N183) t181.length (nN183 / 1)), (105, .int .i64 (t181.length : Int)), (106, .bool false)]) (by kernel_rfl) ?_
                                refine t_end ?_
                                show W _ _ _ _ _ _ _
                                refine w_seq ?_
                                refine w_reg fun all => ?_
                                refine t_qz 2 [1, 9, 10, 11, 13, 17, 18, 19, 20, 21, 22, 23, 24, 25, 104, 105, 106, 130, 131] (σ' := [(1, .int .i64 x161), (9, .bool t121), (10, .pointer (some ⟨b124, 0, none⟩)), (11, .pointer (some ⟨b125, 0, none⟩)), (13, .slice (ad a162) y163.length (na162 / 4)), (17, .int .i64 x173), (18, .slice (ad N180) t178.length (nN180 / 1)), (19, .slice (ad N183) t181.length (nN183 / 1)), (20, .int .i64 (wr64 (x189 + t209))), (21, .int .i64 x190), (22, .int .i64 t209), (23, .int .i64 x214), (24, .int .i64 x215), (25, .int .i64 (wr64 ((wr64 ((wr64 (x190 * 256)) + (wr64 (32 * x215)))) + 16))), (104, .slice (ad N183) t181.length (nN183 / 1)), (105, .int .i64 (t181.length : Int)), (106, .bool false), (130, .int .i64 (wr64 ((wr64 ((wr64 (x190 * 256)) + (wr64 (32 * x215)))) + 16))), (131, .pointer (some ⟨b124, 0, none⟩))]) (by kernel_rfl) ?_
                                refine t_v (.ld1 rfl rfl rfl (.at 5 rfl rfl)) ?_
                                by_cases c217 : (wr64 ((wr64 ((wr64 (x190 * 256)) + (wr64 (32 * x215)))) + 16)) > x169
                                · rw [if_pos c217] at e212
                                  have c217b : (decide ((wr64 ((wr64 ((wr64 (x190 * 256)) + (wr64 (32 * x215)))) + 16)) > x169)) = true := decide_eq_true c217
                                  refine t_v (dv_quiet rfl (congrArg (fun t => some (Value.bool t)) c217b)) ?_
                                  refine t_qz 3 [1, 9, 10, 11, 13, 17, 18, 19, 20, 21, 22, 23, 24, 104, 105, 106, 134, 135, 136] (σ' := [(1, .int .i64 x161), (9, .bool t121), (10, .pointer (some ⟨b124, 0, none⟩)), (11, .pointer (some ⟨b125, 0, none⟩)), (13, .slice (ad a162) y163.length (na162 / 4)), (17, .int .i64 x173), (18, .slice (ad N180) t178.length (nN180 / 1)), (19, .slice (ad N183) t181.length (nN183 / 1)), (20, .int .i64 (wr64 (x189 + t209))), (21, .int .i64 x190), (22, .int .i64 t209), (23, .int .i64 x214), (24, .int .i64 x215), (104, .slice (ad N183) t181.length (nN183 / 1)), (105, .int .i64 (t181.length : Int)), (106, .bool false), (134, .bool true), (135, .int .i64 (wr64 ((wr64 ((wr64 (x190 * 256)) + (wr64 (32 * x215)))) + 16))), (136, .pointer (some ⟨b125, 0, none⟩))]) (by kernel_rfl) ?_
                                  refine t_v (.ld1 rfl rfl rfl (.at 4 rfl rfl)) ?_
                                  by_cases c218 : (wr64 ((wr64 ((wr64 (x190 * 256)) + (wr64 (32 * x215)))) + 16)) < x168
                                  · rw [if_pos c218] at e212
                                    have c218b : (decide ((wr64 ((wr64 ((wr64 (x190 * 256)) + (wr64 (32 * x215)))) + 16)) < x168)) = true := decide_eq_true c218
                                    refine t_v (dv_quiet rfl (congrArg (fun t => some (Value.bool t)) c218b)) ?_
                                    refine t_qz 1 [1, 9, 10, 11, 13, 17, 18, 19, 20, 21, 22, 23, 24, 104, 105, 106, 135, 136, 137, 138, 139] (σ' := [(1, .int .i64 x161), (9, .bool t121), (10, .pointer (some ⟨b124, 0, none⟩)), (11, .pointer (some ⟨b125, 0, none⟩)), (13, .slice (ad a162) y163.length (na162 / 4)), (17, .int .i64 x173), (18, .slice (ad N180) t178.length (nN180 / 1)), (19, .slice (ad N183) t181.length (nN183 / 1)), (20, .int .i64 (wr64 (x189 + t209))), (21, .int .i64 x190), (22, .int .i64 t209), (23, .int .i64 x214), (24, .int .i64 x215), (104, .slice (ad N183) t181.length (nN183 / 1)), (105, .int .i64 (t181.length : Int)), (106, .bool false), (135, .int .i64 (wr64 ((wr64 ((wr64 (x190 * 256)) + (wr64 (32 * x215)))) + 16))), (136, .pointer (some ⟨b125, 0, none⟩)), (137, .int .i64 x168), (138, .bool true), (139, .bool true)]) (by kernel_rfl) ?_
                                    refine t_end ?_
                                    show W _ _ _ _ _ _ _
                                    refine w_cond rfl (fun _ => ?_) (fun c_ => by cases c_)
                                    show W _ _ _ _ _ _ _
                                    refine w_reg fun all => ?_
                                    refine t_qz 3 [1, 9, 10, 11, 13, 17, 18, 19, 20, 21, 22, 23, 24, 104, 105, 106, 135, 136, 137, 138] (σ' := [(1, .int .i64 x161), (9, .bool t121), (10, .pointer (some ⟨b124, 0, none⟩)), (11, .pointer (some ⟨b125, 0, none⟩)), (13, .slice (ad a162) y163.length (na162 / 4)), (17, .int .i64 x173), (18, .slice (ad N180) t178.length (nN180 / 1)), (19, .slice (ad N183) t181.length (nN183 / 1)), (20, .int .i64 (wr64 (x189 + t209))), (21, .int .i64 x190), (22, .int .i64 t209), (23, .int .i64 (wr64 (x214 + 8))), (24, .int .i64 x215), (104, .slice (ad N183) t181.length (nN183 / 1)), (105, .int .i64 (t181.length : Int)), (106, .bool false), (135, .int .i64 (wr64 ((wr64 ((wr64 (x190 * 256)) + (wr64 (32 * x215)))) + 16))), (136, .pointer (some ⟨b125, 0, none⟩)), (137, .int .i64 x168), (138, .bool true)]) (by kernel_rfl) ?_
                                    refine t_end ?_
                                    show W _ _ _ _ _ _ _
                                    refine w_reg fun all => ?_
                                    refine t_qz 3 [1, 9, 10, 11, 13, 17, 18, 19, 20, 21, 22, 23, 24, 104, 105, 106, 135, 136, 137, 138] (σ' := [(1, .int .i64 x161), (9, .bool t121), (10, .pointer (some ⟨b124, 0, none⟩)), (11, .pointer (some ⟨b125, 0, none⟩)), (13, .slice (ad a162) y163.length (na162 / 4)), (17, .int .i64 x173), (18, .slice (ad N180) t178.length (nN180 / 1)), (19, .slice (ad N183) t181.length (nN183 / 1)), (20, .int .i64 (wr64 (x189 + t209))), (21, .int .i64 x190), (22, .int .i64 t209), (23, .int .i64 (wr64 (x214 + 8))), (24, .int .i64 (wr64 (x215 + 1))), (104, .slice (ad N183) t181.length (nN183 / 1)), (105, .int .i64 (t181.length : Int)), (106, .bool false), (135, .int .i64 (wr64 ((wr64 ((wr64 (x190 * 256)) + (wr64 (32 * x215)))) + 16))), (136, .pointer (some ⟨b125, 0, none⟩)), (137, .int .i64 x168), (138, .bool true)]) (by kernel_rfl) ?_
                                    refine t_end ?_
                                    exact ⟨k_, Nat.lt_succ_self _, [(1, .int .i64 x161), (9, .bool t121), (10, .pointer (some ⟨b124, 0, none⟩)), (11, .pointer (some ⟨b125, 0, none⟩)), (13, .slice (ad a162) y163.length (na162 / 4)), (17, .int .i64 x173), (18, .slice (ad N180) t178.length (nN180 / 1)), (19, .slice (ad N183) t181.length (nN183 / 1)), (20, .int .i64 (wr64 (x189 + t209))), (21, .int .i64 x190), (22, .int .i64 t209), (23, .int .i64 (wr64 (x214 + 8))), (24, .int .i64 (wr64 (x215 + 1))), (104, .slice (ad N183) t181.length (nN183 / 1)), (105, .int .i64 (t181.length : Int)), (106, .bool false)], ([⟨a162, encL E_i644 y163, na162⟩, ⟨N183, encL E_u64 t181, nN183⟩, ⟨N180, encL E_u64 t178, nN180⟩, ⟨b126, [.int .i64 x164, .int .i64 0, .int .i64 x165, .int .i64 0, .int .i64 x166, .int .i64 256, .int .i64 x167, .int .i64 256], 8⟩, ⟨b125, [.int .i64 x168, .int .i64 256], 2⟩, ⟨b124, [.int .i64 x169, .int .i64 0], 2⟩] : List Own), S, keep_sub [1, 9, 10, 11, 13, 17, 18, 19, 20, 21, 22, 23, 24, 104, 105, 106] (by kernel_rfl), VS.sel [0, 0, 0, 0, 0, 0] (by kernel_rfl), wr64 (x214 + 8), wr64 (x215 + 1), rfl, rfl, rfl, e212⟩
                                  · rw [if_neg c218] at e212
                                    have c218b : (decide ((wr64 ((wr64 ((wr64 (x190 * 256)) + (wr64 (32 * x215)))) + 16)) < x168)) = false := decide_eq_false c218
                                    refine t_v (dv_quiet rfl (congrArg (fun t => some (Value.bool t)) c218b)) ?_
                                    refine t_qz 1 [1, 9, 10, 11, 13, 17, 18, 19, 20, 21, 22, 23, 24, 104, 105, 106, 135, 136, 137, 138, 139] (σ' := [(1, .int .i64 x161), (9, .bool t121), (10, .pointer (some ⟨b124, 0, none⟩)), (11, .pointer (some ⟨b125, 0, none⟩)), (13, .slice (ad a162) y163.length (na162 / 4)), (17, .int .i64 x173), (18, .slice (ad N180) t178.length (nN180 / 1)), (19, .slice (ad N183) t181.length (nN183 / 1)), (20, .int .i64 (wr64 (x189 + t209))), (21, .int .i64 x190), (22, .int .i64 t209), (23, .int .i64 x214), (24, .int .i64 x215), (104, .slice (ad N183) t181.length (nN183 / 1)), (105, .int .i64 (t181.length : Int)), (106, .bool false), (135, .int .i64 (wr64 ((wr64 ((wr64 (x190 * 256)) + (wr64 (32 * x215)))) + 16))), (136, .pointer (some ⟨b125, 0, none⟩)), (137, .int .i64 x168), (138, .bool false), (139, .bool false)]) (by kernel_rfl) ?_
                                    refine t_end ?_
                                    show W _ _ _ _ _ _ _
                                    refine w_cond rfl (fun c_ => by cases c_) (fun _ => ?_)
                                    show W _ _ _ _ _ _ _
                                    refine w_skip ?_
                                    show W _ _ _ _ _ _ _
                                    refine w_reg fun all => ?_
                                    refine t_qz 3 [1, 9, 10, 11, 13, 17, 18, 19, 20, 21, 22, 23, 24, 104, 105, 106, 135, 136, 137, 138] (σ' := [(1, .int .i64 x161), (9, .bool t121), (10, .pointer (some ⟨b124, 0, none⟩)), (11, .pointer (some ⟨b125, 0, none⟩)), (13, .slice (ad a162) y163.length (na162 / 4)), (17, .int .i64 x173), (18, .slice (ad N180) t178.length (nN180 / 1)), (19, .slice (ad N183) t181.length (nN183 / 1)), (20, .int .i64 (wr64 (x189 + t209))), (21, .int .i64 x190), (22, .int .i64 t209), (23, .int .i64 x214), (24, .int .i64 (wr64 (x215 + 1))), (104, .slice (ad N183) t181.length (nN183 / 1)), (105, .int .i64 (t181.length : Int)), (106, .bool false), (135, .int .i64 (wr64 ((wr64 ((wr64 (x190 * 256)) + (wr64 (32 * x215)))) + 16))), (136, .pointer (some ⟨b125, 0, none⟩)), (137, .int .i64 x168), (138, .bool false)]) (by kernel_rfl) ?_
                                    refine t_end ?_
                                    exact ⟨k_, Nat.lt_succ_self _, [(1, .int .i64 x161), (9, .bool t121), (10, .pointer (some ⟨b124, 0, none⟩)), (11, .pointer (some ⟨b125, 0, none⟩)), (13, .slice (ad a162) y163.length (na162 / 4)), (17, .int .i64 x173), (18, .slice (ad N180) t178.length (nN180 / 1)), (19, .slice (ad N183) t181.length (nN183 / 1)), (20, .int .i64 (wr64 (x189 + t209))), (21, .int .i64 x190), (22, .int .i64 t209), (23, .int .i64 x214), (24, .int .i64 (wr64 (x215 + 1))), (104, .slice (ad N183) t181.length (nN183 / 1)), (105, .int .i64 (t181.length : Int)), (106, .bool false)], ([⟨a162, encL E_i644 y163, na162⟩, ⟨N183, encL E_u64 t181, nN183⟩, ⟨N180, encL E_u64 t178, nN180⟩, ⟨b126, [.int .i64 x164, .int .i64 0, .int .i64 x165, .int .i64 0, .int .i64 x166, .int .i64 256, .int .i64 x167, .int .i64 256], 8⟩, ⟨b125, [.int .i64 x168, .int .i64 256], 2⟩, ⟨b124, [.int .i64 x169, .int .i64 0], 2⟩] : List Own), S, keep_sub [1, 9, 10, 11, 13, 17, 18, 19, 20, 21, 22, 23, 24, 104, 105, 106] (by kernel_rfl), VS.sel [0, 0, 0, 0, 0, 0] (by kernel_rfl), x214, wr64 (x215 + 1), rfl, rfl, rfl, e212⟩
                                · rw [if_neg c217] at e212
                                  have c217b : (decide ((wr64 ((wr64 ((wr64 (x190 * 256)) + (wr64 (32 * x215)))) + 16)) > x169)) = false := decide_eq_false c217
                                  refine t_v (dv_quiet rfl (congrArg (fun t => some (Value.bool t)) c217b)) ?_
                                  refine t_qz 6 [1, 9, 10, 11, 13, 17, 18, 19, 20, 21, 22, 23, 24, 104, 105, 106, 135, 136, 137, 138, 139] (σ' := [(1, .int .i64 x161), (9, .bool t121), (10, .pointer (some ⟨b124, 0, none⟩)), (11, .pointer (some ⟨b125, 0, none⟩)), (13, .slice (ad a162) y163.length (na162 / 4)), (17, .int .i64 x173), (18, .slice (ad N180) t178.length (nN180 / 1)), (19, .slice (ad N183) t181.length (nN183 / 1)), (20, .int .i64 (wr64 (x189 + t209))), (21, .int .i64 x190), (22, .int .i64 t209), (23, .int .i64 x214), (24, .int .i64 x215), (104, .slice (ad N183) t181.length (nN183 / 1)), (105, .int .i64 (t181.length : Int)), (106, .bool false), (135, .tuple #[]), (136, .tuple #[]), (137, .tuple #[]), (138, .tuple #[]), (139, .bool false)]) (by kernel_rfl) ?_
                                  refine t_end ?_
                                  show W _ _ _ _ _ _ _
                                  refine w_cond rfl (fun c_ => by cases c_) (fun _ => ?_)
                                  show W _ _ _ _ _ _ _
                                  refine w_skip ?_
                                  show W _ _ _ _ _ _ _
                                  refine w_reg fun all => ?_
                                  refine t_qz 3 [1, 9, 10, 11, 13, 17, 18, 19, 20, 21, 22, 23, 24, 104, 105, 106, 135, 136, 137, 138] (σ' := [(1, .int .i64 x161), (9, .bool t121), (10, .pointer (some ⟨b124, 0, none⟩)), (11, .pointer (some ⟨b125, 0, none⟩)), (13, .slice (ad a162) y163.length (na162 / 4)), (17, .int .i64 x173), (18, .slice (ad N180) t178.length (nN180 / 1)), (19, .slice (ad N183) t181.length (nN183 / 1)), (20, .int .i64 (wr64 (x189 + t209))), (21, .int .i64 x190), (22, .int .i64 t209), (23, .int .i64 x214), (24, .int .i64 (wr64 (x215 + 1))), (104, .slice (ad N183) t181.length (nN183 / 1)), (105, .int .i64 (t181.length : Int)), (106, .bool false), (135, .tuple #[]), (136, .tuple #[]), (137, .tuple #[]), (138, .tuple #[])]) (by kernel_rfl) ?_
                                  refine t_end ?_
                                  exact ⟨k_, Nat.lt_succ_self _, [(1, .int .i64 x161), (9, .bool t121), (10, .pointer (some ⟨b124, 0, none⟩)), (11, .pointer (some ⟨b125, 0, none⟩)), (13, .slice (ad a162) y163.length (na162 / 4)), (17, .int .i64 x173), (18, .slice (ad N180) t178.length (nN180 / 1)), (19, .slice (ad N183) t181.length (nN183 / 1)), (20, .int .i64 (wr64 (x189 + t209))), (21, .int .i64 x190), (22, .int .i64 t209), (23, .int .i64 x214), (24, .int .i64 (wr64 (x215 + 1))), (104, .slice (ad N183) t181.length (nN183 / 1)), (105, .int .i64 (t181.length : Int)), (106, .bool false)], ([⟨a162, encL E_i644 y163, na162⟩, ⟨N183, encL E_u64 t181, nN183⟩, ⟨N180, encL E_u64 t178, nN180⟩, ⟨b126, [.int .i64 x164, .int .i64 0, .int .i64 x165, .int .i64 0, .int .i64 x166, .int .i64 256, .int .i64 x167, .int .i64 256], 8⟩, ⟨b125, [.int .i64 x168, .int .i64 256], 2⟩, ⟨b124, [.int .i64 x169, .int .i64 0], 2⟩] : List Own), S, keep_sub [1, 9, 10, 11, 13, 17, 18, 19, 20, 21, 22, 23, 24, 104, 105, 106] (by kernel_rfl), VS.sel [0, 0, 0, 0, 0, 0] (by kernel_rfl), x214, wr64 (x215 + 1), rfl, rfl, rfl, e212⟩
                              · rw [if_neg c216] at e212
                                have c216b : (decide (x215 < 8)) = false := decide_eq_false c216
                                refine t_qz 1 [1, 9, 10, 11, 13, 17, 18, 19, 20, 21, 22, 23, 24, 104, 105, 106, 120] (σ' := [(1, .int .i64 x161), (9, .bool t121), (10, .pointer (some ⟨b124, 0, none⟩)), (11, .pointer (some ⟨b125, 0, none⟩)), (13, .slice (ad a162) y163.length (na162 / 4)), (17, .int .i64 x173), (18, .slice (ad N180) t178.length (nN180 / 1)), (19, .slice (ad N183) t181.length (nN183 / 1)), (20, .int .i64 (wr64 (x189 + t209))), (21, .int .i64 x190), (22, .int .i64 t209), (23, .int .i64 x214), (24, .int .i64 x215), (104, .slice (ad N183) t181.length (nN183 / 1)), (105, .int .i64 (t181.length : Int)), (106, .bool false), (120, .int .i64 x215)]) (by kernel_rfl) ?_
                                refine t_v (dv_quiet rfl (congrArg (fun t => some (Value.bool t)) c216b)) ?_
                                refine t_keep [1, 9, 10, 11, 13, 17, 18, 19, 20, 21, 22, 23, 24, 104, 105, 106, 121] (σ' := [(1, .int .i64 x161), (9, .bool t121), (10, .pointer (some ⟨b124, 0, none⟩)), (11, .pointer (some ⟨b125, 0, none⟩)), (13, .slice (ad a162) y163.length (na162 / 4)), (17, .int .i64 x173), (18, .slice (ad N180) t178.length (nN180 / 1)), (19, .slice (ad N183) t181.length (nN183 / 1)), (20, .int .i64 (wr64 (x189 + t209))), (21, .int .i64 x190), (22, .int .i64 t209), (23, .int .i64 x214), (24, .int .i64 x215), (104, .slice (ad N183) t181.length (nN183 / 1)), (105, .int .i64 (t181.length : Int)), (106, .bool false), (121, .bool false)]) (by kernel_rfl) ?_
                                refine t_end ?_
                                show W _ _ _ _ _ _ _
                                refine w_cond rfl (fun c_ => by cases c_) (fun _ => ?_)
                                show W _ _ _ _ _ _ _
                                refine w_exit ?_
                                simp only [Option.some.injEq, Prod.mk.injEq] at e212
                                obtain ⟨rfl, rfl⟩ := e212
                                exact ⟨([⟨b126, [.int .i64 x164, .int .i64 0, .int .i64 x165, .int .i64 0, .int .i64 x166, .int .i64 256, .int .i64 x167, .int .i64 256], 8⟩, ⟨b125, [.int .i64 x168, .int .i64 256], 2⟩, ⟨b124, [.int .i64 x169, .int .i64 0], 2⟩, ⟨a162, encL E_i644 y163, na162⟩, ⟨N180, encL E_u64 t178, nN180⟩, ⟨N183, encL E_u64 t181, nN183⟩] : List Own), S, VS.sel [3, 3, 3, 0, 1, 0] (by kernel_rfl), by kernel_rfl, rfl, rfl⟩
                          · rintro σ_ H_ S_ ⟨rfl, rfl, rfl⟩
                            refine w_seq ?_
                            refine w_reg fun all => ?_
                            by_cases c225 : t209 = x224
                            · rw [if_pos c225] at e193
                              have c225b : (t209 == x224) = true := beq_iff_eq.mpr c225
                              refine t_qz 2 [1, 9, 10, 11, 13, 17, 18, 19, 20, 21, 104, 105, 106, 142, 143] (σ' := [(1, .int .i64 x161), (9, .bool t121), (10, .pointer (some ⟨b124, 0, none⟩)), (11, .pointer (some ⟨b125, 0, none⟩)), (13, .slice (ad a162) y163.length (na162 / 4)), (17, .int .i64 x173), (18, .slice (ad N180) t178.length (nN180 / 1)), (19, .slice (ad N183) t181.length (nN183 / 1)), (20, .int .i64 x223), (21, .int .i64 x190), (104, .slice (ad N183) t181.length (nN183 / 1)), (105, .int .i64 (t181.length : Int)), (106, .bool false), (142, .int .i64 t209), (143, .int .i64 x224)]) (by kernel_rfl) ?_
                              refine t_v (dv_quiet rfl (congrArg (fun t => some (Value.bool (!t))) c225b)) ?_
                              obtain ⟨x226, hx227, e193⟩ := bind_of e193
                              refine t_qz 3 [1, 9, 10, 11, 13, 17, 18, 19, 20, 21, 104, 105, 106, 145, 146, 147] (σ' := [(1, .int .i64 x161), (9, .bool t121), (10, .pointer (some ⟨b124, 0, none⟩)), (11, .pointer (some ⟨b125, 0, none⟩)), (13, .slice (ad a162) y163.length (na162 / 4)), (17, .int .i64 x173), (18, .slice (ad N180) t178.length (nN180 / 1)), (19, .slice (ad N183) t181.length (nN183 / 1)), (20, .int .i64 x223), (21, .int .i64 x190), (104, .slice (ad N183) t181.length (nN183 / 1)), (105, .int .i64 (t181.length : Int)), (106, .bool false), (145, .bool false), (146, .slice (ad N183) t181.length (nN183 / 1)), (147, .int .i64 x190)]) (by kernel_rfl) ?_
                              refine t_v (.quietH rfl (by intro h_; cases h_) (ixl (E := E_u64) (j := 5) rfl rfl rfl (by decide) rfl hx227)) ?_
                              refine t_v (.ld1 rfl rfl rfl (.lst 5 rfl (encL_at (lgt_in hx227).1 rfl))) ?_
                              by_cases c228 : x226 = 0
                              · rw [if_pos c228] at e193
                                have c228b : (x226 == 0) = true := beq_iff_eq.mpr c228
                                refine t_v (dv_quiet rfl (congrArg (fun t => some (Value.bool (!t))) c228b)) ?_
                                refine t_qz 1 [1, 9, 10, 11, 13, 17, 18, 19, 20, 21, 104, 105, 106, 146, 147, 148, 149, 150, 151] (σ' := [(1, .int .i64 x161), (9, .bool t121), (10, .pointer (some ⟨b124, 0, none⟩)), (11, .pointer (some ⟨b125, 0, none⟩)), (13, .slice (ad a162) y163.length (na162 / 4)), (17, .int .i64 x173), (18, .slice (ad N180) t178.length (nN180 / 1)), (19, .slice (ad N183) t181.length (nN183 / 1)), (20, .int .i64 x223), (21, .int .i64 x190), (104, .slice (ad N183) t181.length (nN183 / 1)), (105, .int .i64 (t181.length : Int)), (106, .bool false), (146, .slice (ad N183) t181.length (nN183 / 1)), (147, .int .i64 x190), (148, .pointer (some ⟨bk N183, (x190).toNat * 1 + 0, none⟩)), (149, .int .u64 x226), (150, .bool false), (151, .bool false)]) (by kernel_rfl) ?_
                                refine t_end ?_
                                show W _ _ _ _ _ _ _
                                refine w_cond rfl (fun c_ => by cases c_) (fun _ => ?_)
                                show W _ _ _ _ _ _ _
                                refine w_skip ?_
                                obtain rfl := Option.some.inj e193
                                exact ⟨([⟨b126, [.int .i64 x164, .int .i64 0, .int .i64 x165, .int .i64 0, .int .i64 x166, .int .i64 256, .int .i64 x167, .int .i64 256], 8⟩, ⟨b125, [.int .i64 x168, .int .i64 256], 2⟩, ⟨b124, [.int .i64 x169, .int .i64 0], 2⟩, ⟨a162, encL E_i644 y163, na162⟩, ⟨N180, encL E_u64 t178, nN180⟩, ⟨N183, encL E_u64 t181, nN183⟩] : List Own), S, VS.sel [0, 0, 0, 0, 0, 0] (by kernel_rfl), x223, x226, rfl, by kernel_rfl, rfl, rfl⟩
                              · rw [if_neg c228] at e193
                                have c228b : (x226 == 0) = false := beq_eq_false_iff_ne.mpr c228
                                refine t_v (dv_quiet rfl (congrArg (fun t => some (Value.bool (!t))) c228b)) ?_
                                refine t_qz 1 [1, 9, 10, 11, 13, 17, 18, 19, 20, 21, 104, 105, 106, 146, 147, 148, 149, 150, 151] (σ' := [(1, .int .i64 x161), (9, .bool t121), (10, .pointer (some ⟨b124, 0, none⟩)), (11, .pointer (some ⟨b125, 0, none⟩)), (13, .slice (ad a162) y163.length (na162 / 4)), (17, .int .i64 x173), (18, .slice (ad N180) t178.length (nN180 / 1)), (19, .slice (ad N183) t181.length (nN183 / 1)), (20, .int .i64 x223), (21, .int .i64 x190), (104, .slice (ad N183) t181.length (nN183 / 1)), (105, .int .i64 (t181.length : Int)), (106, .bool false), (146, .slice (ad N183) t181.length (nN183 / 1)), (147, .int .i64 x190), (148, .pointer (some ⟨bk N183, (x190).toNat * 1 + 0, none⟩)), (149, .int .u64 x226), (150, .bool true), (151, .bool true)]) (by kernel_rfl) ?_
                                refine t_end ?_
                                show W _ _ _ _ _ _ _
                                refine w_cond rfl (fun _ => ?_) (fun c_ => by cases c_)
                                show W _ _ _ _ _ _ _
                                refine w_seq ?_
                                refine w_reg fun all => ?_
                                refine t_qz 1 [8] (σ' := [(8, .bool false)]) (by kernel_rfl) ?_
                                refine t_end ?_
                                show W _ _ _ _ _ _ _
                                refine w_ret ?_
                                obtain rfl := Option.some.inj e193
                                obtain rfl := Option.some.inj e187
                                obtain rfl := Option.some.inj e176
                                obtain rfl := Option.some.inj e171
                                have hr_ := Option.some.inj e
                                exact ⟨[.bool false], [], S, ⟨rfl, trivial⟩, VS.none, congrArg Value.bool hr_, rfl, rfl⟩
                            · rw [if_neg c225] at e193
                              have c225b : (t209 == x224) = false := beq_eq_false_iff_ne.mpr c225
                              refine t_qz 2 [1, 9, 10, 11, 13, 17, 18, 19, 20, 21, 104, 105, 106, 142, 143] (σ' := [(1, .int .i64 x161), (9, .bool t121), (10, .pointer (some ⟨b124, 0, none⟩)), (11, .pointer (some ⟨b125, 0, none⟩)), (13, .slice (ad a162) y163.length (na162 / 4)), (17, .int .i64 x173), (18, .slice (ad N180) t178.length (nN180 / 1)), (19, .slice (ad N183) t181.length (nN183 / 1)), (20, .int .i64 x223), (21, .int .i64 x190), (104, .slice (ad N183) t181.length (nN183 / 1)), (105, .int .i64 (t181.length : Int)), (106, .bool false), (142, .int .i64 t209), (143, .int .i64 x224)]) (by kernel_rfl) ?_
                              refine t_v (dv_quiet rfl (congrArg (fun t => some (Value.bool (!t))) c225b)) ?_
                              refine t_qz 7 [1, 9, 10, 11, 13, 17, 18, 19, 20, 21, 104, 105, 106, 146, 147, 148, 149, 150, 151] (σ' := [(1, .int .i64 x161), (9, .bool t121), (10, .pointer (some ⟨b124, 0, none⟩)), (11, .pointer (some ⟨b125, 0, none⟩)), (13, .slice (ad a162) y163.length (na162 / 4)), (17, .int .i64 x173), (18, .slice (ad N180) t178.length (nN180 / 1)), (19, .slice (ad N183) t181.length (nN183 / 1)), (20, .int .i64 x223), (21, .int .i64 x190), (104, .slice (ad N183) t181.length (nN183 / 1)), (105, .int .i64 (t181.length : Int)), (106, .bool false), (146, .tuple #[]), (147, .tuple #[]), (148, .tuple #[]), (149, .tuple #[]), (150, .tuple #[]), (151, .bool true)]) (by kernel_rfl) ?_
                              refine t_end ?_
                              show W _ _ _ _ _ _ _
                              refine w_cond rfl (fun _ => ?_) (fun c_ => by cases c_)
                              show W _ _ _ _ _ _ _
                              refine w_seq ?_
                              refine w_reg fun all => ?_
                              refine t_qz 1 [8] (σ' := [(8, .bool false)]) (by kernel_rfl) ?_
                              refine t_end ?_
                              show W _ _ _ _ _ _ _
                              refine w_ret ?_
                              obtain rfl := Option.some.inj e193
                              obtain rfl := Option.some.inj e187
                              obtain rfl := Option.some.inj e176
                              obtain rfl := Option.some.inj e171
                              have hr_ := Option.some.inj e
                              exact ⟨[.bool false], [], S, ⟨rfl, trivial⟩, VS.none, congrArg Value.bool hr_, rfl, rfl⟩
                        · rintro σ_ H_ S_ ⟨x229, x230, rfl, rfl, rfl, rfl⟩
                          dsimp only at e187
                          refine w_reg fun all => ?_
                          refine t_qz 3 [1, 9, 10, 11, 13, 17, 18, 19, 20, 21, 104, 105, 106, 146, 147, 148, 149, 150] (σ' := [(1, .int .i64 x161), (9, .bool t121), (10, .pointer (some ⟨b124, 0, none⟩)), (11, .pointer (some ⟨b125, 0, none⟩)), (13, .slice (ad a162) y163.length (na162 / 4)), (17, .int .i64 x173), (18, .slice (ad N180) t178.length (nN180 / 1)), (19, .slice (ad N183) t181.length (nN183 / 1)), (20, .int .i64 x229), (21, .int .i64 (wr64 (x190 + 1))), (104, .slice (ad N183) t181.length (nN183 / 1)), (105, .int .i64 (t181.length : Int)), (106, .bool false), (146, .slice (ad N183) t181.length (nN183 / 1)), (147, .int .i64 x190), (148, .pointer (some ⟨bk N183, (x190).toNat * 1 + 0, none⟩)), (149, .int .u64 x230), (150, .bool false)]) (by kernel_rfl) ?_
                          refine t_end ?_
                          exact ⟨k_, Nat.lt_succ_self _, [(1, .int .i64 x161), (9, .bool t121), (10, .pointer (some ⟨b124, 0, none⟩)), (11, .pointer (some ⟨b125, 0, none⟩)), (13, .slice (ad a162) y163.length (na162 / 4)), (17, .int .i64 x173), (18, .slice (ad N180) t178.length (nN180 / 1)), (19, .slice (ad N183) t181.length (nN183 / 1)), (20, .int .i64 x229), (21, .int .i64 (wr64 (x190 + 1))), (104, .slice (ad N183) t181.length (nN183 / 1)), (105, .int .i64 (t181.length : Int)), (106, .bool false)], ([⟨a162, encL E_i644 y163, na162⟩, ⟨N183, encL E_u64 t181, nN183⟩, ⟨N180, encL E_u64 t178, nN180⟩, ⟨b126, [.int .i64 x164, .int .i64 0, .int .i64 x165, .int .i64 0, .int .i64 x166, .int .i64 256, .int .i64 x167, .int .i64 256], 8⟩, ⟨b125, [.int .i64 x168, .int .i64 256], 2⟩, ⟨b124, [.int .i64 x169, .int .i64 0], 2⟩] : List Own), S, keep_sub [1, 9, 10, 11, 13, 17, 18, 19, 20, 21, 104, 105, 106] (by kernel_rfl), VS.sel [3, 4, 3, 0, 0, 0] (by kernel_rfl), x229, wr64 (x190 + 1), rfl, rfl, rfl, e187⟩
                      · rw [if_neg c191] at e187
                        have c191b : (decide (x190 < 10)) = false := decide_eq_false c191
                        refine t_qz 1 [1, 9, 10, 11, 13, 17, 18, 19, 20, 21, 104, 105, 106, 108] (σ' := [(1, .int .i64 x161), (9, .bool t121), (10, .pointer (some ⟨b124, 0, none⟩)), (11, .pointer (some ⟨b125, 0, none⟩)), (13, .slice (ad a162) y163.length (na162 / 4)), (17, .int .i64 x173), (18, .slice (ad N180) t178.length (nN180 / 1)), (19, .slice (ad N183) t181.length (nN183 / 1)), (20, .int .i64 x189), (21, .int .i64 x190), (104, .slice (ad N183) t181.length (nN183 / 1)), (105, .int .i64 (t181.length : Int)), (106, .bool false), (108, .int .i64 x190)]) (by kernel_rfl) ?_
                        refine t_v (dv_quiet rfl (congrArg (fun t => some (Value.bool t)) c191b)) ?_
                        refine t_keep [1, 9, 10, 11, 13, 17, 18, 19, 20, 21, 104, 105, 106, 109] (σ' := [(1, .int .i64 x161), (9, .bool t121), (10, .pointer (some ⟨b124, 0, none⟩)), (11, .pointer (some ⟨b125, 0, none⟩)), (13, .slice (ad a162) y163.length (na162 / 4)), (17, .int .i64 x173), (18, .slice (ad N180) t178.length (nN180 / 1)), (19, .slice (ad N183) t181.length (nN183 / 1)), (20, .int .i64 x189), (21, .int .i64 x190), (104, .slice (ad N183) t181.length (nN183 / 1)), (105, .int .i64 (t181.length : Int)), (106, .bool false), (109, .bool false)]) (by kernel_rfl) ?_
                        refine t_end ?_
                        show W _ _ _ _ _ _ _
                        refine w_cond rfl (fun c_ => by cases c_) (fun _ => ?_)
                        show W _ _ _ _ _ _ _
                        refine w_exit ?_
                        obtain rfl := Option.some.inj e187
                        exact ⟨([⟨b126, [.int .i64 x164, .int .i64 0, .int .i64 x165, .int .i64 0, .int .i64 x166, .int .i64 256, .int .i64 x167, .int .i64 256], 8⟩, ⟨b125, [.int .i64 x168, .int .i64 256], 2⟩, ⟨b124, [.int .i64 x169, .int .i64 0], 2⟩, ⟨a162, encL E_i644 y163, na162⟩, ⟨N183, encL E_u64 t181, nN183⟩, ⟨N180, encL E_u64 t178, nN180⟩] : List Own), S, VS.sel [3, 3, 3, 0, 0, 0] (by kernel_rfl), x189, rfl, by kernel_rfl, rfl, rfl⟩
                  · rintro σ_ H_ S_ ⟨x234, rfl, rfl, rfl, rfl⟩
                    dsimp only at e176
                    refine w_seq ?_
                    refine w_reg fun all => ?_
                    by_cases c235 : x234 = (wr64 (64 * x161))
                    · rw [if_pos c235] at e176
                      have c235b : (x234 == (wr64 (64 * x161))) = true := beq_iff_eq.mpr c235
                      refine t_qz 3 [1, 9, 10, 11, 13, 17, 104, 105, 106, 152, 154] (σ' := [(1, .int .i64 x161), (9, .bool t121), (10, .pointer (some ⟨b124, 0, none⟩)), (11, .pointer (some ⟨b125, 0, none⟩)), (13, .slice (ad a162) y163.length (na162 / 4)), (17, .int .i64 x173), (104, .slice (ad N183) t181.length (nN183 / 1)), (105, .int .i64 (t181.length : Int)), (106, .bool false), (152, .int .i64 x234), (154, .int .i64 (wr64 (64 * x161)))]) (by kernel_rfl) ?_
                      refine t_v (dv_quiet rfl (congrArg (fun t => some (Value.bool (!t))) c235b)) ?_
                      refine t_keep [1, 9, 10, 11, 13, 17, 104, 105, 106, 155] (σ' := [(1, .int .i64 x161), (9, .bool t121), (10, .pointer (some ⟨b124, 0, none⟩)), (11, .pointer (some ⟨b125, 0, none⟩)), (13, .slice (ad a162) y163.length (na162 / 4)), (17, .int .i64 x173), (104, .slice (ad N183) t181.length (nN183 / 1)), (105, .int .i64 (t181.length : Int)), (106, .bool false), (155, .bool false)]) (by kernel_rfl) ?_
                      refine t_end ?_
                      show W _ _ _ _ _ _ _
                      refine w_cond rfl (fun c_ => by cases c_) (fun _ => ?_)
                      show W _ _ _ _ _ _ _
                      refine w_skip ?_
                      obtain rfl := Option.some.inj e176
                      exact ⟨([⟨b126, [.int .i64 x164, .int .i64 0, .int .i64 x165, .int .i64 0, .int .i64 x166, .int .i64 256, .int .i64 x167, .int .i64 256], 8⟩, ⟨b125, [.int .i64 x168, .int .i64 256], 2⟩, ⟨b124, [.int .i64 x169, .int .i64 0], 2⟩, ⟨a162, encL E_i644 y163, na162⟩, ⟨N183, encL E_u64 t181, nN183⟩] : List Own), S, VS.sel [0, 0, 0, 0, 0] (by kernel_rfl), t181, (t181.length : Int), N183, nN183, rfl, by kernel_rfl, rfl, rfl⟩
                    · rw [if_neg c235] at e176
                      have c235b : (x234 == (wr64 (64 * x161))) = false := beq_eq_false_iff_ne.mpr c235
                      refine t_qz 3 [1, 9, 10, 11, 13, 17, 104, 105, 106, 152, 154] (σ' := [(1, .int .i64 x161), (9, .bool t121), (10, .pointer (some ⟨b124, 0, none⟩)), (11, .pointer (some ⟨b125, 0, none⟩)), (13, .slice (ad a162) y163.length (na162 / 4)), (17, .int .i64 x173), (104, .slice (ad N183) t181.length (nN183 / 1)), (105, .int .i64 (t181.length : Int)), (106, .bool false), (152, .int .i64 x234), (154, .int .i64 (wr64 (64 * x161)))]) (by kernel_rfl) ?_
                      refine t_v (dv_quiet rfl (congrArg (fun t => some (Value.bool (!t))) c235b)) ?_
                      refine t_keep [1, 9, 10, 11, 13, 17, 104, 105, 106, 155] (σ' := [(1, .int .i64 x161), (9, .bool t121), (10, .pointer (some ⟨b124, 0, none⟩)), (11, .pointer (some ⟨b125, 0, none⟩)), (13, .slice (ad a162) y163.length (na162 / 4)), (17, .int .i64 x173), (104, .slice (ad N183) t181.length (nN183 / 1)), (105, .int .i64 (t181.length : Int)), (106, .bool false), (155, .bool true)]) (by kernel_rfl) ?_
                      refine t_end ?_
                      show W _ _ _ _ _ _ _
                      refine w_cond rfl (fun _ => ?_) (fun c_ => by cases c_)
                      show W _ _ _ _ _ _ _
                      refine w_seq ?_
                      refine w_reg fun all => ?_
                      refine t_qz 1 [8] (σ' := [(8, .bool false)]) (by kernel_rfl) ?_
                      refine t_end ?_
                      show W _ _ _ _ _ _ _
                      refine w_ret ?_
                      obtain rfl := Option.some.inj e176
                      obtain rfl := Option.some.inj e171
                      have hr_ := Option.some.inj e
                      exact ⟨[.bool false], [], S, ⟨rfl, trivial⟩, VS.none, congrArg Value.bool hr_, rfl, rfl⟩
                · rw [if_neg c185] at e176
                  have c185b : ((t181.length : Int) == 10) = false := beq_eq_false_iff_ne.mpr c185
                  refine t_qz 3 [1, 9, 10, 11, 13, 17, 18, 19, 20, 103, 104, 105] (σ' := [(1, .int .i64 x161), (9, .bool t121), (10, .pointer (some ⟨b124, 0, none⟩)), (11, .pointer (some ⟨b125, 0, none⟩)), (13, .slice (ad a162) y163.length (na162 / 4)), (17, .int .i64 x173), (18, .slice (ad N180) t178.length (nN180 / 1)), (19, .slice (ad N183) t181.length (nN183 / 1)), (20, .int .i64 0), (103, .bool false), (104, .slice (ad N183) t181.length (nN183 / 1)), (105, .int .i64 (t181.length : Int))]) (by kernel_rfl) ?_
                  refine t_v (dv_quiet rfl (congrArg (fun t => some (Value.bool (!t))) c185b)) ?_
                  refine t_qz 1 [1, 9, 10, 11, 13, 17, 18, 19, 20, 104, 105, 106, 107] (σ' := [(1, .int .i64 x161), (9, .bool t121), (10, .pointer (some ⟨b124, 0, none⟩)), (11, .pointer (some ⟨b125, 0, none⟩)), (13, .slice (ad a162) y163.length (na162 / 4)), (17, .int .i64 x173), (18, .slice (ad N180) t178.length (nN180 / 1)), (19, .slice (ad N183) t181.length (nN183 / 1)), (20, .int .i64 0), (104, .slice (ad N183) t181.length (nN183 / 1)), (105, .int .i64 (t181.length : Int)), (106, .bool true), (107, .bool true)]) (by kernel_rfl) ?_
                  refine t_end ?_
                  show W _ _ _ _ _ _ _
                  refine w_cond rfl (fun _ => ?_) (fun c_ => by cases c_)
                  show W _ _ _ _ _ _ _
                  refine w_seq ?_
                  refine w_reg fun all => ?_
                  refine t_qz 1 [8] (σ' := [(8, .bool false)]) (by kernel_rfl) ?_
                  refine t_end ?_
                  show W _ _ _ _ _ _ _
                  refine w_ret ?_
                  obtain rfl := Option.some.inj e176
                  obtain rfl := Option.some.inj e171
                  have hr_ := Option.some.inj e
                  exact ⟨[.bool false], [], S, ⟨rfl, trivial⟩, VS.none, congrArg Value.bool hr_, rfl, rfl⟩
              · rw [if_neg c184] at e176
                have c184b : ((t178.length : Int) == 10) = false := beq_eq_false_iff_ne.mpr c184
                refine t_qz 2 [1, 9, 10, 11, 13, 17, 18, 19, 20, 101] (σ' := [(1, .int .i64 x161), (9, .bool t121), (10, .pointer (some ⟨b124, 0, none⟩)), (11, .pointer (some ⟨b125, 0, none⟩)), (13, .slice (ad a162) y163.length (na162 / 4)), (17, .int .i64 x173), (18, .slice (ad N180) t178.length (nN180 / 1)), (19, .slice (ad N183) t181.length (nN183 / 1)), (20, .int .i64 0), (101, .int .i64 (t178.length : Int))]) (by kernel_rfl) ?_
                refine t_v (dv_quiet rfl (congrArg (fun t => some (Value.bool (!t))) c184b)) ?_
                refine t_qz 5 [1, 9, 10, 11, 13, 17, 18, 19, 20, 104, 105, 106, 107] (σ' := [(1, .int .i64 x161), (9, .bool t121), (10, .pointer (some ⟨b124, 0, none⟩)), (11, .pointer (some ⟨b125, 0, none⟩)), (13, .slice (ad a162) y163.length (na162 / 4)), (17, .int .i64 x173), (18, .slice (ad N180) t178.length (nN180 / 1)), (19, .slice (ad N183) t181.length (nN183 / 1)), (20, .int .i64 0), (104, .tuple #[]), (105, .tuple #[]), (106, .tuple #[]), (107, .bool true)]) (by kernel_rfl) ?_
                refine t_end ?_
                show W _ _ _ _ _ _ _
                refine w_cond rfl (fun _ => ?_) (fun c_ => by cases c_)
                show W _ _ _ _ _ _ _
                refine w_seq ?_
                refine w_reg fun all => ?_
                refine t_qz 1 [8] (σ' := [(8, .bool false)]) (by kernel_rfl) ?_
                refine t_end ?_
                show W _ _ _ _ _ _ _
                refine w_ret ?_
                obtain rfl := Option.some.inj e176
                obtain rfl := Option.some.inj e171
                have hr_ := Option.some.inj e
                exact ⟨[.bool false], [], S, ⟨rfl, trivial⟩, VS.none, congrArg Value.bool hr_, rfl, rfl⟩
            · rintro σ_ H_ S_ ⟨y238, x239, a237, na237, rfl, rfl, rfl, rfl⟩
              dsimp only at e171
              refine w_reg fun all => ?_
              refine t_qz 3 [1, 9, 10, 11, 13, 17, 104, 105, 106] (σ' := [(1, .int .i64 x161), (9, .bool t121), (10, .pointer (some ⟨b124, 0, none⟩)), (11, .pointer (some ⟨b125, 0, none⟩)), (13, .slice (ad a162) y163.length (na162 / 4)), (17, .int .i64 (wr64 (x173 + 1))), (104, .slice (ad a237) y238.length (na237 / 1)), (105, .int .i64 x239), (106, .bool false)]) (by kernel_rfl) ?_
              refine t_end ?_
              exact ⟨k_, Nat.lt_succ_self _, [(1, .int .i64 x161), (9, .bool t121), (10, .pointer (some ⟨b124, 0, none⟩)), (11, .pointer (some ⟨b125, 0, none⟩)), (13, .slice (ad a162) y163.length (na162 / 4)), (17, .int .i64 (wr64 (x173 + 1)))], ([⟨b126, [.int .i64 x164, .int .i64 0, .int .i64 x165, .int .i64 0, .int .i64 x166, .int .i64 256, .int .i64 x167, .int .i64 256], 8⟩, ⟨b125, [.int .i64 x168, .int .i64 256], 2⟩, ⟨b124, [.int .i64 x169, .int .i64 0], 2⟩, ⟨a162, encL E_i644 y163, na162⟩] : List Own), S, keep_sub [1, 9, 10, 11, 13, 17] (by kernel_rfl), VS.sel [0, 0, 0, 0] (by kernel_rfl), wr64 (x173 + 1), rfl, rfl, rfl, e171⟩
          · rw [if_neg c174] at e171
            have c174b : (decide (x173 < 2)) = false := decide_eq_false c174
            refine t_qz 1 [1, 9, 10, 11, 13, 17, 90] (σ' := [(1, .int .i64 x161), (9, .bool t121), (10, .pointer (some ⟨b124, 0, none⟩)), (11, .pointer (some ⟨b125, 0, none⟩)), (13, .slice (ad a162) y163.length (na162 / 4)), (17, .int .i64 x173), (90, .int .i64 x173)]) (by kernel_rfl) ?_
            refine t_v (dv_quiet rfl (congrArg (fun t => some (Value.bool t)) c174b)) ?_
            refine t_keep [1, 9, 10, 11, 13, 17, 91] (σ' := [(1, .int .i64 x161), (9, .bool t121), (10, .pointer (some ⟨b124, 0, none⟩)), (11, .pointer (some ⟨b125, 0, none⟩)), (13, .slice (ad a162) y163.length (na162 / 4)), (17, .int .i64 x173), (91, .bool false)]) (by kernel_rfl) ?_
            refine t_end ?_
            show W _ _ _ _ _ _ _
            refine w_cond rfl (fun c_ => by cases c_) (fun _ => ?_)
            show W _ _ _ _ _ _ _
            refine w_exit ?_
            obtain rfl := Option.some.inj e171
            exact ⟨([⟨b126, [.int .i64 x164, .int .i64 0, .int .i64 x165, .int .i64 0, .int .i64 x166, .int .i64 256, .int .i64 x167, .int .i64 256], 8⟩, ⟨b125, [.int .i64 x168, .int .i64 256], 2⟩, ⟨b124, [.int .i64 x169, .int .i64 0], 2⟩, ⟨a162, encL E_i644 y163, na162⟩] : List Own), S, VS.sel [0, 0, 0, 0] (by kernel_rfl), (), rfl, by kernel_rfl, rfl, rfl⟩
      · rintro σ_ H_ S_ ⟨u_, rfl, rfl, rfl, rfl⟩
        dsimp only at e
        refine w_seq ?_
        refine w_reg fun all => ?_
        refine t_qz 2 [8] (σ' := [(8, .bool t121)]) (by kernel_rfl) ?_
        refine t_end ?_
        show W _ _ _ _ _ _ _
        refine w_ret ?_
        have hr_ := Option.some.inj e
        exact ⟨[.bool t121], [], S, ⟨rfl, trivial⟩, VS.none, congrArg Value.bool hr_, rfl, rfl⟩
  · rw [if_neg c123] at e
    exact absurd (Option.some.inj e) (by decide)

def glyphiclaw24_SweepSquares.Pure : Prop := ∀ (t0 : Int) (o1 : Int) (A2 : Int) (r3 : Bool), (Lit.int .i64 t0).wf = true → (Lit.int .i64 o1).wf = true → (Lit.int .i64 A2).wf = true → ∃ k, glyphiclaw24_SweepSquares.f k t0 o1 A2 r3 = some true
theorem glyphiclaw24_SweepSquares.walk (P : glyphiclaw24_SweepSquares.Pure) (t0 : Int) (o1 : Int) (A2 : Int) (r3 : Bool) (w : World) (ht0 : (Lit.int .i64 t0).wf = true) (ho1 : (Lit.int .i64 o1).wf = true) (hA2 : (Lit.int .i64 A2).wf = true) :
    Calls Try.prog 9 #[.int .i64 t0, .int .i64 o1, .int .i64 A2, .bool r3] w fun e w' => e = .returned (.bool true) ∧ Below w.heap.size w w' := let ⟨k, h⟩ := P t0 o1 A2 r3 ht0 ho1 hA2; law_w (hok0 w) (glyphiclaw24_SweepSquares.ok (k := k) h)
end Go.Proofs.Ytpimfacaalkmdaa.QSweepSquares
