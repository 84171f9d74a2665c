/- Functions of the program as Lean functions, each with the proof of its walk. Written by gen.py, a program of these sessions. -/
import Derived.Test.YtpimfacaalkmdaaQSweepMovesx0
namespace Go.Proofs.Ytpimfacaalkmdaa.QSweepMoves
open Go Go.RowKit Go.Proofs.YtpimfacaalkmdaaE Go.Proofs.YtpimfacaalkmdaaX
set_option linter.unusedVariables false
set_option maxRecDepth 100000
set_option maxHeartbeats 8000000
/-- sweep.Fill$1 -/
def c83 : C :=
  (.seq (.reg [⟨(some 4), .box (.tmp 1), none⟩,
     ⟨(some 5), .mv (.const (.bool false)), none⟩])
  (.seq (.reg [⟨(some 6), .mv (.tmp 0), none⟩,
     ⟨(some 7), .ld none (.tmp 2), none⟩,
     ⟨(some 8), .ld (some 2) (.tmp 4), none⟩,
     ⟨(some 9), .call 84 [(.tmp 6), (.tmp 7), (.tmp 8)], none⟩,
     ⟨(some 5), .mv (.tmp 9), none⟩])
  .ret))
def sweep_Fill_1_v1.f (k : Nat) (l0 : List (Int × Int × Int × Int)) (p1_0 : Int) (p1_1 : Int) (m0_0 : Int) : Option (Bool) := (wind_Inside_v1.f k l0 m0_0 p1_0 p1_1).bind fun t129 => (some t129)
theorem sweep_Fill_1_v1.ok {S : Seal} {B0 : Nat} {k : Nat} {l0 : List (Int × Int × Int × Int)} {p1_0 : Int} {p1_1 : Int} {m0_0 : Int} {r0_ : Bool}{a_l0 : Option Addr} {c_l0 : Nat} (h_l0 : SlE S E_i644 l0 a_l0) (e : sweep_Fill_1_v1.f k l0 p1_0 p1_1 m0_0 = some r0_) :
    Cal Try.prog 83 [.slice a_l0 l0.length c_l0, .agg #[.int .i64 p1_0, .int .i64 p1_1], .pointer (some ⟨B0, 0, none⟩)] ([⟨B0, [.int .i64 m0_0], 1⟩] : List Own) S fun v H' S' => v = .bool r0_ ∧ H' = ([⟨B0, [.int .i64 m0_0], 1⟩] : List Own) ∧ S' = S := by
  unfold sweep_Fill_1_v1.f at e
  refine cal_of (c := c83) (N := 10) Try.func83 rfl rfl (by kernel_rfl) (rs := [.t 5]) (by kernel_rfl) (Nat.le_of_ble_eq_true rfl) ?_
  unfold c83
  refine w_seq ?_
  refine w_reg fun all => ?_
  refine t_a (.box rfl rfl rfl) fun b81 fb81 sb81 => ?_
  refine t_qz 1 [0, 2, 4] (σ' := [(0, .slice a_l0 l0.length c_l0), (2, .pointer (some ⟨B0, 0, none⟩)), (4, .pointer (some ⟨b81, 0, none⟩))]) (by kernel_rfl) ?_
  refine t_end ?_
  show W _ _ _ _ _ _ _
  refine w_seq ?_
  refine w_reg fun all => ?_
  refine t_qz 1 [2, 4, 6] (σ' := [(2, .pointer (some ⟨B0, 0, none⟩)), (4, .pointer (some ⟨b81, 0, none⟩)), (6, .slice a_l0 l0.length c_l0)]) (by kernel_rfl) ?_
  refine t_v (.ld1 rfl rfl rfl (.at 1 rfl rfl)) ?_
  refine t_v (.ldn rfl rfl rfl (.at 0 rfl rfl)) ?_
  obtain ⟨t129, h130, e⟩ := bind_of e
  refine t_v (.call (vs := [.slice a_l0 l0.length c_l0, .int .i64 m0_0, .agg #[.int .i64 p1_0, .int .i64 p1_1]]) rfl rfl (by kernel_rfl) (wind_Inside_v1.ok h_l0 h130)) ?_
  refine t_qz 1 [5] (σ' := [(5, .bool t129)]) (by kernel_rfl) ?_
  refine t_end ?_
  show W _ _ _ _ _ _ _
  refine w_ret ?_
  obtain rfl := Option.some.inj e
  exact ⟨[.bool t129], ([⟨B0, [.int .i64 m0_0], 1⟩] : List Own), S, ⟨rfl, trivial⟩, VS.sel [1] (by kernel_rfl), rfl, rfl, rfl⟩

/-- sweep.masks -/
def c82 : C :=
  (.seq (.reg [⟨(some 10), .mv (.const (.slice none 0 0)), none⟩])
  (.seq (.seq (.reg [⟨(some 16), .mv (.tmp 3), none⟩,
      ⟨(some 17), .bin .lss (.tmp 16) (.const (.int .i64 1)), none⟩])
   (.cond (.tmp 17)
    (.seq (.reg [⟨(some 10), .mv (.const (.slice none 0 0)), none⟩])
     .ret)
    .skip))
  (.seq (.reg [⟨(some 18), .mv (.tmp 3), none⟩,
     ⟨(some 19), .mks 1 8 [(.int .u64 0)] (.tmp 18) (.tmp 18), none⟩,
     ⟨(some 11), .mv (.tmp 19), none⟩])
  (.seq (.seq (.reg [⟨(some 20), .mv (.const (.int .i64 0)), none⟩])
   (.block 0 (.loop (.seq (.reg [⟨(some 21), .bin .lss (.tmp 20) (.const (.int .i64 8)), none⟩])
     (.seq (.cond (.tmp 21)
       .skip
       (.exit 0))
     (.seq (.block 1 (.seq (.reg [⟨(some 22), .mv (.tmp 20), none⟩,
          ⟨(some 12), .mv (.tmp 22), none⟩])
       (.seq (.reg [⟨(some 23), .mv (.tmp 0), none⟩,
          ⟨(some 24), .mv (.tmp 1), none⟩,
          ⟨(some 25), .mv (.tmp 2), none⟩,
          ⟨(some 26), .mv (.tmp 12), none⟩,
          ⟨(some 27), .bin .mul (.tmp 26) (.const (.int .i64 8)), none⟩,
          ⟨(some 28), .call 48 [(.const (.int .i64 0)), (.tmp 25), (.tmp 27)], none⟩,
          ⟨(some 29), .fld none 1 (.tmp 28), none⟩,
          ⟨(some 30), .call 110 [(.tmp 23), (.tmp 24), (.tmp 29)], none⟩,
          ⟨(some 13), .mv (.tmp 30), none⟩])
       (.seq (.reg [⟨(some 14), .mv (.const (.int .i64 0)), none⟩])
       (.block 2 (.loop (.seq (.seq (.reg [⟨(some 31), .mv (.tmp 14), none⟩,
             ⟨(some 32), .mv (.tmp 3), none⟩,
             ⟨(some 33), .bin .lss (.tmp 31) (.tmp 32), none⟩,
             ⟨(some 34), .mv (.tmp 33), none⟩,
             ⟨(some 35), .mv (.tmp 13), (some (34, true))⟩,
             ⟨(some 36), .lns (.tmp 35), (some (34, true))⟩,
             ⟨(some 37), .bin .gtr (.tmp 36) (.const (.int .i64 0)), (some (34, true))⟩,
             ⟨(some 38), .pk (.tmp 34) (.tmp 37) (.const (.bool false)), none⟩])
          (.cond (.tmp 38)
           .skip
           (.exit 2)))
         (.seq (.block 3 (.seq (.reg [⟨(some 41), .mv (.tmp 12), none⟩,
              ⟨(some 42), .bin .mul (.tmp 41) (.const (.int .i64 8)), none⟩,
              ⟨(some 15), .mv (.tmp 42), none⟩])
           (.block 4 (.loop (.seq (.seq (.reg [⟨(some 43), .mv (.tmp 15), none⟩,
                 ⟨(some 44), .mv (.tmp 12), none⟩,
                 ⟨(some 45), .bin .add (.tmp 44) (.const (.int .i64 1)), none⟩,
                 ⟨(some 46), .bin .mul (.tmp 45) (.const (.int .i64 8)), none⟩,
                 ⟨(some 47), .bin .lss (.tmp 43) (.tmp 46), none⟩])
              (.cond (.tmp 47)
               .skip
               (.exit 4)))
             (.seq (.block 5 (.seq (.reg [⟨(some 50), .mv (.tmp 4), none⟩,
                  ⟨(some 51), .mv (.tmp 13), none⟩,
                  ⟨(some 52), .mv (.tmp 14), none⟩,
                  ⟨(some 53), .mv (.tmp 2), none⟩,
                  ⟨(some 54), .mv (.tmp 15), none⟩,
                  ⟨(some 55), .call 48 [(.tmp 52), (.tmp 53), (.tmp 54)], none⟩,
                  ⟨(some 56), .clo (.tmp 50) [(.tmp 51), (.tmp 55)], none⟩])
               (.cond (.tmp 56)
                (.drw [⟨(some 57), .mv (.tmp 11), none⟩,
                   ⟨(some 58), .mv (.tmp 14), none⟩,
                   ⟨(some 59), .ixs 1 (.tmp 57) (.tmp 58), none⟩,
                   ⟨(some 60), .ld none (.tmp 59), none⟩,
                   ⟨(some 61), .mv (.tmp 15), none⟩,
                   ⟨(some 62), .bin .shl (.const (.int .u64 1)) (.tmp 61), none⟩,
                   ⟨(some 63), .bin .or (.tmp 60) (.tmp 62), none⟩,
                   ⟨(some 64), .ixs 1 (.tmp 57) (.tmp 58), none⟩,
                   ⟨none, .st 1 (.tmp 64) (.tmp 63), none⟩] [[], [], [0, 1], [2], [], [4], [3, 5], [0, 1, 0, 1, 2, 3, 4, 5, 6], [7, 6, 0, 1, 2, 3, 4, 5, 6]])
                .skip)))
             (.reg [⟨(some 48), .mv (.tmp 15), none⟩,
               ⟨(some 49), .bin .add (.tmp 48) (.const (.int .i64 1)), none⟩,
               ⟨(some 15), .mv (.tmp 49), none⟩])))))))
         (.reg [⟨(some 39), .mv (.tmp 14), none⟩,
           ⟨(some 40), .bin .add (.tmp 39) (.const (.int .i64 1)), none⟩,
           ⟨(some 14), .mv (.tmp 40), none⟩])))))))))
     (.reg [⟨(some 65), .bin .add (.tmp 20) (.const (.int .i64 1)), none⟩,
       ⟨(some 20), .mv (.tmp 65), none⟩])))))))
  (.seq (.reg [⟨(some 66), .mv (.tmp 11), none⟩,
     ⟨(some 10), .mv (.tmp 66), none⟩])
  .ret)))))
def sweep_masks_v1.l2 : Nat → Int → Int → Int → List (Int × Int × Int × Int) → Int → Int → List (Int) → Option (List (Int) × Bool)
  | 0, _, _, _, _, _, _, _ => none
  | k + 1, y2, m0_0, x62, t71, x74, x81, y82 => if x81 < (wr64 ((wr64 (x62 + 1)) * 8)) then ((sweep_Sample.f x74 y2 x81).bind fun (t84, t85) => ((sweep_Fill_1_v1.f k t71 t84 t85 m0_0).bind fun t87 => (if t87 = true then ((lgt y82 x74).bind fun x89 => (if x81 < 0 then none else ((lgt y82 x74).bind fun x92 => ((lput y82 x74 (bits .or .u64 x89 (wru64 (1 * 2 ^ (min (Int.toNat x81) 64))))).bind fun y94 => (sweep_masks_v1.l2 k y2 m0_0 x62 t71 x74 (wr64 (x81 + 1)) y94))))) else (sweep_masks_v1.l2 k y2 m0_0 x62 t71 x74 (wr64 (x81 + 1)) y82)))) else (some (y82, true))
def sweep_masks_v1.l1 : Nat → Int → Int → Int → Int → List (Int × Int × Int × Int) → Int → List (Int) → Option (List (Int))
  | 0, _, _, _, _, _, _, _ => none
  | k + 1, y2, w3, m0_0, x62, t71, x74, y75 => if x74 < w3 then (if (t71.length : Int) > 0 then ((sweep_masks_v1.l2 k y2 m0_0 x62 t71 x74 (wr64 (x62 * 8)) y75 : Option (List (Int) × Bool)).bind fun (y100, x101) => (sweep_masks_v1.l1 k y2 w3 m0_0 x62 t71 (wr64 (x74 + 1)) y100)) else (some y75)) else (some y75)
def sweep_masks_v1.l0 : Nat → List (Int × Int × Int × Int) → Int → Int → Int → Int → Int → List (Int) → Option (List (Int))
  | 0, _, _, _, _, _, _, _ => none
  | k + 1, l0, wide1, y2, w3, m0_0, x62, y63 => if x62 < 8 then (((sweep_Sample.f 0 y2 (wr64 (x62 * 8))).bind fun (t68, t69) => ((sweep_crossing_v1.f k l0 wide1 t69).bind fun t71 => (sweep_masks_v1.l1 k y2 w3 m0_0 x62 t71 0 y63)) : Option (List (Int))).bind fun y104 => (sweep_masks_v1.l0 k l0 wide1 y2 w3 m0_0 (wr64 (x62 + 1)) y104)) else (some y63)
def sweep_masks_v1.f (k : Nat) (l0 : List (Int × Int × Int × Int)) (wide1 : Int) (y2 : Int) (w3 : Int) (m0_0 : Int) : Option (List (Int)) := if w3 < 1 then (some ([] : List (Int))) else ((lmk (0 : Int) w3 w3).bind fun y56 => ((sweep_masks_v1.l0 k l0 wide1 y2 w3 m0_0 0 y56 : Option (List (Int))).bind fun y107 => (some y107)))
theorem sweep_masks_v1.ok {S : Seal} {B0 : Nat} {k : Nat} {l0 : List (Int × Int × Int × Int)} {wide1 : Int} {y2 : Int} {w3 : Int} {m0_0 : Int} {r0_ : List (Int)}{a_l0 : Option Addr} {c_l0 : Nat} (h_l0 : SlE S E_i644 l0 a_l0) (e : sweep_masks_v1.f k l0 wide1 y2 w3 m0_0 = some r0_) :
    Cal Try.prog 82 [.slice a_l0 l0.length c_l0, .int .i64 wide1, .int .i64 y2, .int .i64 w3, .func (.func 83) #[] #[.pointer (some ⟨B0, 0, none⟩)]] ([⟨B0, [.int .i64 m0_0], 1⟩] : List Own) S fun v H' S' => ∃ (N0_ : Option Nat) (nN0_ : Nat) , v = .slice (ad N0_) r0_.length (nN0_ / 1) ∧ H' = ([⟨N0_, encL E_u64 r0_, nN0_⟩, ⟨B0, [.int .i64 m0_0], 1⟩] : List Own) ∧ S' = S := by
  unfold sweep_masks_v1.f at e
  refine cal_of (c := c82) (N := 67) Try.func82 rfl rfl (by kernel_rfl) (rs := [.t 10]) (by kernel_rfl) (Nat.le_of_ble_eq_true rfl) ?_
  unfold c82
  refine w_seq ?_
  refine w_reg fun all => ?_
  refine t_qz 1 [0, 1, 2, 3, 4] (σ' := [(0, .slice a_l0 l0.length c_l0), (1, .int .i64 wide1), (2, .int .i64 y2), (3, .int .i64 w3), (4, .func (.func 83) #[] #[.pointer (some ⟨B0, 0, none⟩)])]) (by kernel_rfl) ?_
  refine t_end ?_
  show W _ _ _ _ _ _ _
  refine w_seq ?_
  refine w_seq ?_
  refine w_reg fun all => ?_
  by_cases c55 : w3 < 1
  · rw [if_pos c55] at e
    have c55b : (decide (w3 < 1)) = true := decide_eq_true c55
    refine t_qz 1 [0, 1, 2, 3, 4, 16] (σ' := [(0, .slice a_l0 l0.length c_l0), (1, .int .i64 wide1), (2, .int .i64 y2), (3, .int .i64 w3), (4, .func (.func 83) #[] #[.pointer (some ⟨B0, 0, none⟩)]), (16, .int .i64 w3)]) (by kernel_rfl) ?_
    refine t_v (dv_quiet rfl (congrArg (fun t => some (Value.bool t)) c55b)) ?_
    refine t_keep [0, 1, 2, 3, 4, 17] (σ' := [(0, .slice a_l0 l0.length c_l0), (1, .int .i64 wide1), (2, .int .i64 y2), (3, .int .i64 w3), (4, .func (.func 83) #[] #[.pointer (some ⟨B0, 0, none⟩)]), (17, .bool true)]) (by kernel_rfl) ?_
    refine t_end ?_
    show W _ _ _ _ _ _ _
    refine w_cond rfl (fun _ => ?_) (fun c_ => by cases c_)
    show W _ _ _ _ _ _ _
    refine w_seq ?_
    refine w_reg fun all => ?_
    refine t_qz 1 [10] (σ' := [(10, .slice none 0 0)]) (by kernel_rfl) ?_
    refine t_end ?_
    show W _ _ _ _ _ _ _
    refine w_ret ?_
    obtain rfl := Option.some.inj e
    exact ⟨[.slice (ad none) ([] : List (Int)).length (0 / 1)], ([⟨none, encL E_u64 ([] : List (Int)), 0⟩, ⟨B0, [.int .i64 m0_0], 1⟩] : List Own), S, ⟨(show gt _ _ = some _ from (by kernel_rfl)), trivial⟩, VS.trans VS.vac (VS.sel [0, 0] (by kernel_rfl)), none, 0, rfl, rfl, rfl⟩
  · rw [if_neg c55] at e
    have c55b : (decide (w3 < 1)) = false := decide_eq_false c55
    refine t_qz 1 [0, 1, 2, 3, 4, 16] (σ' := [(0, .slice a_l0 l0.length c_l0), (1, .int .i64 wide1), (2, .int .i64 y2), (3, .int .i64 w3), (4, .func (.func 83) #[] #[.pointer (some ⟨B0, 0, none⟩)]), (16, .int .i64 w3)]) (by kernel_rfl) ?_
    refine t_v (dv_quiet rfl (congrArg (fun t => some (Value.bool t)) c55b)) ?_
    refine t_keep [0, 1, 2, 3, 4, 17] (σ' := [(0, .slice a_l0 l0.length c_l0), (1, .int .i64 wide1), (2, .int .i64 y2), (3, .int .i64 w3), (4, .func (.func 83) #[] #[.pointer (some ⟨B0, 0, none⟩)]), (17, .bool false)]) (by kernel_rfl) ?_
    refine t_end ?_
    show W _ _ _ _ _ _ _
    refine w_cond rfl (fun c_ => by cases c_) (fun _ => ?_)
    show W _ _ _ _ _ _ _
    refine w_skip ?_
    show W _ _ _ _ _ _ _
    refine w_seq ?_
    refine w_reg fun all => ?_
    obtain ⟨y56, hl57, e⟩ := bind_of e
    refine t_qz 1 [0, 1, 2, 3, 4, 18] (σ' := [(0, .slice a_l0 l0.length c_l0), (1, .int .i64 wide1), (2, .int .i64 y2), (3, .int .i64 w3), (4, .func (.func 83) #[] #[.pointer (some ⟨B0, 0, none⟩)]), (18, .int .i64 w3)]) (by kernel_rfl) ?_
    refine t_mkl (E := E_u64) (x0 := 0) rfl rfl rfl rfl rfl (by decide) (by decide) rfl hl57 fun a58 na58 => ?_
    refine t_qz 1 [0, 1, 2, 3, 4, 11] (σ' := [(0, .slice a_l0 l0.length c_l0), (1, .int .i64 wide1), (2, .int .i64 y2), (3, .int .i64 w3), (4, .func (.func 83) #[] #[.pointer (some ⟨B0, 0, none⟩)]), (11, .slice (ad (some a58)) y56.length (na58 / 1))]) (by kernel_rfl) ?_
    refine t_end ?_
    show W _ _ _ _ _ _ _
    obtain ⟨y107, e60, e⟩ := bind_of e
    refine w_cut [11] (fun σ_ H_ S_ => [(11, .slice (ad (some a58)) y107.length (na58 / 1))] = σ_ ∧ ([⟨B0, [.int .i64 m0_0], 1⟩, ⟨some a58, encL E_u64 y107, na58⟩] : List Own) = H_ ∧ S = S_) ?_ ?_
    · show W _ _ _ _ _ _ _
      refine w_seq ?_
      refine w_reg fun all => ?_
      refine t_qz 1 [0, 1, 2, 3, 4, 11, 20] (σ' := [(0, .slice a_l0 l0.length c_l0), (1, .int .i64 wide1), (2, .int .i64 y2), (3, .int .i64 w3), (4, .func (.func 83) #[] #[.pointer (some ⟨B0, 0, none⟩)]), (11, .slice (ad (some a58)) y56.length (na58 / 1)), (20, .int .i64 0)]) (by kernel_rfl) ?_
      refine t_end ?_
      show W _ _ _ _ _ _ _
      refine w_block ?_
      refine w_kp [0, 1, 2, 3, 4, 11, 20] (σ' := [(0, .slice a_l0 l0.length c_l0), (1, .int .i64 wide1), (2, .int .i64 y2), (3, .int .i64 w3), (4, .func (.func 83) #[] #[.pointer (some ⟨B0, 0, none⟩)]), (11, .slice (ad (some a58)) y56.length (na58 / 1)), (20, .int .i64 0)]) (by kernel_rfl) ?_
      refine w_loop (fun n_ σ_ H_ S_ => ∃ (x62 : Int) (y63 : List (Int)), [(0, .slice a_l0 l0.length c_l0), (1, .int .i64 wide1), (2, .int .i64 y2), (3, .int .i64 w3), (4, .func (.func 83) #[] #[.pointer (some ⟨B0, 0, none⟩)]), (11, .slice (ad (some a58)) y63.length (na58 / 1)), (20, .int .i64 x62)] = σ_ ∧ ([⟨some a58, encL E_u64 y63, na58⟩, ⟨B0, [.int .i64 m0_0], 1⟩] : List Own) = H_ ∧ S = S_ ∧ sweep_masks_v1.l0 n_ l0 wide1 y2 w3 m0_0 x62 y63 = some y107) _ ⟨0, y56, rfl, rfl, rfl, e60⟩ ?_
      rintro n106 σ_ H_ S_ ⟨x62, y63, rfl, rfl, rfl, e60⟩
      cases n106 with
      | zero => rw [sweep_masks_v1.l0.eq_1] at e60; cases e60
      | succ k_ =>
        rw [sweep_masks_v1.l0.eq_2] at e60
        refine w_seq ?_
        refine w_reg fun all => ?_
        by_cases c64 : x62 < 8
        · rw [if_pos c64] at e60
          have c64b : (decide (x62 < 8)) = true := decide_eq_true c64
          refine t_v (dv_quiet rfl (congrArg (fun t => some (Value.bool t)) c64b)) ?_
          refine t_keep [0, 1, 2, 3, 4, 11, 20, 21] (σ' := [(0, .slice a_l0 l0.length c_l0), (1, .int .i64 wide1), (2, .int .i64 y2), (3, .int .i64 w3), (4, .func (.func 83) #[] #[.pointer (some ⟨B0, 0, none⟩)]), (11, .slice (ad (some a58)) y63.length (na58 / 1)), (20, .int .i64 x62), (21, .bool true)]) (by kernel_rfl) ?_
          refine t_end ?_
          show W _ _ _ _ _ _ _
          refine w_seq ?_
          refine w_cond rfl (fun _ => ?_) (fun c_ => by cases c_)
          show W _ _ _ _ _ _ _
          refine w_skip ?_
          show W _ _ _ _ _ _ _
          obtain ⟨y104, e66, e60⟩ := bind_of e60
          refine w_cut [0, 1, 2, 3, 4, 11, 20] (fun σ_ H_ S_ => [(0, .slice a_l0 l0.length c_l0), (1, .int .i64 wide1), (2, .int .i64 y2), (3, .int .i64 w3), (4, .func (.func 83) #[] #[.pointer (some ⟨B0, 0, none⟩)]), (11, .slice (ad (some a58)) y104.length (na58 / 1)), (20, .int .i64 x62)] = σ_ ∧ ([⟨B0, [.int .i64 m0_0], 1⟩, ⟨some a58, encL E_u64 y104, na58⟩] : List Own) = H_ ∧ S = S_) ?_ ?_
          · show W _ _ _ _ _ _ _
            refine w_block ?_
            refine w_seq ?_
            refine w_reg fun all => ?_
            refine t_qz 2 [0, 1, 2, 3, 4, 11, 12, 20] (σ' := [(0, .slice a_l0 l0.length c_l0), (1, .int .i64 wide1), (2, .int .i64 y2), (3, .int .i64 w3), (4, .func (.func 83) #[] #[.pointer (some ⟨B0, 0, none⟩)]), (11, .slice (ad (some a58)) y63.length (na58 / 1)), (12, .int .i64 x62), (20, .int .i64 x62)]) (by kernel_rfl) ?_
            refine t_end ?_
            show W _ _ _ _ _ _ _
            refine w_seq ?_
            refine w_reg fun all => ?_
            obtain ⟨⟨t68, t69⟩, h70, e66⟩ := bind_of e66
            try dsimp only at e66
            refine t_qz 5 [0, 1, 2, 3, 4, 11, 12, 20, 23, 24, 25, 27] (σ' := [(0, .slice a_l0 l0.length c_l0), (1, .int .i64 wide1), (2, .int .i64 y2), (3, .int .i64 w3), (4, .func (.func 83) #[] #[.pointer (some ⟨B0, 0, none⟩)]), (11, .slice (ad (some a58)) y63.length (na58 / 1)), (12, .int .i64 x62), (20, .int .i64 x62), (23, .slice a_l0 l0.length c_l0), (24, .int .i64 wide1), (25, .int .i64 y2), (27, .int .i64 (wr64 (x62 * 8)))]) (by kernel_rfl) ?_
            refine t_v (.call (vs := [.int .i64 0, .int .i64 y2, .int .i64 (wr64 (x62 * 8))]) rfl rfl (by kernel_rfl) (sweep_Sample.ok h70)) ?_
            obtain ⟨t71, h72, e66⟩ := bind_of e66
            refine t_qz 1 [0, 1, 2, 3, 4, 11, 12, 20, 23, 24, 29] (σ' := [(0, .slice a_l0 l0.length c_l0), (1, .int .i64 wide1), (2, .int .i64 y2), (3, .int .i64 w3), (4, .func (.func 83) #[] #[.pointer (some ⟨B0, 0, none⟩)]), (11, .slice (ad (some a58)) y63.length (na58 / 1)), (12, .int .i64 x62), (20, .int .i64 x62), (23, .slice a_l0 l0.length c_l0), (24, .int .i64 wide1), (29, .int .i64 t69)]) (by kernel_rfl) ?_
            refine t_call (vs := [.slice a_l0 l0.length c_l0, .int .i64 wide1, .int .i64 t69]) (H1 := ([] : List Own)) (F := ([⟨some a58, encL E_u64 y63, na58⟩, ⟨B0, [.int .i64 m0_0], 1⟩] : List Own)) rfl rfl (by kernel_rfl) (sel_perm (is := []) (by kernel_rfl)) (sweep_crossing_v1.ok h_l0 h72) ?_
            rintro _ _ S_ ⟨N73, nN73, rfl, rfl, hS_⟩
            obtain rfl := hS_.symm
            refine t_qz 1 [0, 1, 2, 3, 4, 11, 12, 13, 20] (σ' := [(0, .slice a_l0 l0.length c_l0), (1, .int .i64 wide1), (2, .int .i64 y2), (3, .int .i64 w3), (4, .func (.func 83) #[] #[.pointer (some ⟨B0, 0, none⟩)]), (11, .slice (ad (some a58)) y63.length (na58 / 1)), (12, .int .i64 x62), (13, .slice (ad N73) t71.length (nN73 / 4)), (20, .int .i64 x62)]) (by kernel_rfl) ?_
            refine t_end ?_
            show W _ _ _ _ _ _ _
            refine w_seq ?_
            refine w_reg fun all => ?_
            refine t_qz 1 [0, 1, 2, 3, 4, 11, 12, 13, 14, 20] (σ' := [(0, .slice a_l0 l0.length c_l0), (1, .int .i64 wide1), (2, .int .i64 y2), (3, .int .i64 w3), (4, .func (.func 83) #[] #[.pointer (some ⟨B0, 0, none⟩)]), (11, .slice (ad (some a58)) y63.length (na58 / 1)), (12, .int .i64 x62), (13, .slice (ad N73) t71.length (nN73 / 4)), (14, .int .i64 0), (20, .int .i64 x62)]) (by kernel_rfl) ?_
            refine t_end ?_
            show W _ _ _ _ _ _ _
            refine w_block ?_
            refine w_kp [0, 1, 2, 3, 4, 11, 12, 13, 14, 20] (σ' := [(0, .slice a_l0 l0.length c_l0), (1, .int .i64 wide1), (2, .int .i64 y2), (3, .int .i64 w3), (4, .func (.func 83) #[] #[.pointer (some ⟨B0, 0, none⟩)]), (11, .slice (ad (some a58)) y63.length (na58 / 1)), (12, .int .i64 x62), (13, .slice (ad N73) t71.length (nN73 / 4)), (14, .int .i64 0), (20, .int .i64 x62)]) (by kernel_rfl) ?_
            refine w_loop (fun n_ σ_ H_ S_ => ∃ (x74 : Int) (y75 : List (Int)), [(0, .slice a_l0 l0.length c_l0), (1, .int .i64 wide1), (2, .int .i64 y2), (3, .int .i64 w3), (4, .func (.func 83) #[] #[.pointer (some ⟨B0, 0, none⟩)]), (11, .slice (ad (some a58)) y75.length (na58 / 1)), (12, .int .i64 x62), (13, .slice (ad N73) t71.length (nN73 / 4)), (14, .int .i64 x74), (20, .int .i64 x62)] = σ_ ∧ ([⟨N73, encL E_i644 t71, nN73⟩, ⟨some a58, encL E_u64 y75, na58⟩, ⟨B0, [.int .i64 m0_0], 1⟩] : List Own) = H_ ∧ S = S_ ∧ sweep_masks_v1.l1 n_ y2 w3 m0_0 x62 t71 x74 y75 = some y104) _ ⟨0, y63, rfl, rfl, rfl, e66⟩ ?_
            rintro n103 σ_ H_ S_ ⟨x74, y75, rfl, rfl, rfl, e66⟩
            cases n103 with
            | zero => rw [sweep_masks_v1.l1.eq_1] at e66; cases e66
            | succ k_ =>
              rw [sweep_masks_v1.l1.eq_2] at e66
              refine w_seq ?_
              refine w_seq ?_
              refine w_reg fun all => ?_
              by_cases c76 : x74 < w3
              · rw [if_pos c76] at e66
                have c76b : (decide (x74 < w3)) = true := decide_eq_true c76
                refine t_qz 2 [0, 1, 2, 3, 4, 11, 12, 13, 14, 20, 31, 32] (σ' := [(0, .slice a_l0 l0.length c_l0), (1, .int .i64 wide1), (2, .int .i64 y2), (3, .int .i64 w3), (4, .func (.func 83) #[] #[.pointer (some ⟨B0, 0, none⟩)]), (11, .slice (ad (some a58)) y75.length (na58 / 1)), (12, .int .i64 x62), (13, .slice (ad N73) t71.length (nN73 / 4)), (14, .int .i64 x74), (20, .int .i64 x62), (31, .int .i64 x74), (32, .int .i64 w3)]) (by kernel_rfl) ?_
                refine t_v (dv_quiet rfl (congrArg (fun t => some (Value.bool t)) c76b)) ?_
                by_cases c77 : (t71.length : Int) > 0
                · rw [if_pos c77] at e66
                  have c77b : (decide ((t71.length : Int) > 0)) = true := decide_eq_true c77
                  refine t_qz 3 [0, 1, 2, 3, 4, 11, 12, 13, 14, 20, 34, 35, 36] (σ' := [(0, .slice a_l0 l0.length c_l0), (1, .int .i64 wide1), (2, .int .i64 y2), (3, .int .i64 w3), (4, .func (.func 83) #[] #[.pointer (some ⟨B0, 0, none⟩)]), (11, .slice (ad (some a58)) y75.length (na58 / 1)), (12, .int .i64 x62), (13, .slice (ad N73) t71.length (nN73 / 4)), (14, .int .i64 x74), (20, .int .i64 x62), (34, .bool true), (35, .slice (ad N73) t71.length (nN73 / 4)), (36, .int .i64 (t71.length : Int))]) (by kernel_rfl) ?_
                  refine t_v (dv_quiet rfl (congrArg (fun t => some (Value.bool t)) c77b)) ?_
                  refine t_qz 1 [0, 1, 2, 3, 4, 11, 12, 13, 14, 20, 35, 36, 37, 38] (σ' := [(0, .slice a_l0 l0.length c_l0), (1, .int .i64 wide1), (2, .int .i64 y2), (3, .int .i64 w3), (4, .func (.func 83) #[] #[.pointer (some ⟨B0, 0, none⟩)]), (11, .slice (ad (some a58)) y75.length (na58 / 1)), (12, .int .i64 x62), (13, .slice (ad N73) t71.length (nN73 / 4)), (14, .int .i64 x74), (20, .int .i64 x62), (35, .slice (ad N73) t71.length (nN73 / 4)), (36, .int .i64 (t71.length : Int)), (37, .bool true), (38, .bool true)]) (by kernel_rfl) ?_
                  refine t_end ?_
                  show W _ _ _ _ _ _ _
                  refine w_cond rfl (fun _ => ?_) (fun c_ => by cases c_)
                  show W _ _ _ _ _ _ _
                  refine w_skip ?_
                  show W _ _ _ _ _ _ _
                  obtain ⟨⟨y100, x101⟩, e79, e66⟩ := bind_of e66
                  try dsimp only at e66
                  refine w_cut [0, 1, 2, 3, 4, 11, 12, 13, 14, 20, 35, 36, 37] (fun σ_ H_ S_ => [(0, .slice a_l0 l0.length c_l0), (1, .int .i64 wide1), (2, .int .i64 y2), (3, .int .i64 w3), (4, .func (.func 83) #[] #[.pointer (some ⟨B0, 0, none⟩)]), (11, .slice (ad (some a58)) y100.length (na58 / 1)), (12, .int .i64 x62), (13, .slice (ad N73) t71.length (nN73 / 4)), (14, .int .i64 x74), (20, .int .i64 x62), (35, .slice (ad N73) t71.length (nN73 / 4)), (36, .int .i64 (t71.length : Int)), (37, .bool x101)] = σ_ ∧ ([⟨B0, [.int .i64 m0_0], 1⟩, ⟨some a58, encL E_u64 y100, na58⟩, ⟨N73, encL E_i644 t71, nN73⟩] : List Own) = H_ ∧ S = S_) ?_ ?_
                  · show W _ _ _ _ _ _ _
                    refine w_block ?_
                    refine w_seq ?_
                    refine w_reg fun all => ?_
                    refine t_qz 3 [0, 1, 2, 3, 4, 11, 12, 13, 14, 15, 20, 35, 36, 37] (σ' := [(0, .slice a_l0 l0.length c_l0), (1, .int .i64 wide1), (2, .int .i64 y2), (3, .int .i64 w3), (4, .func (.func 83) #[] #[.pointer (some ⟨B0, 0, none⟩)]), (11, .slice (ad (some a58)) y75.length (na58 / 1)), (12, .int .i64 x62), (13, .slice (ad N73) t71.length (nN73 / 4)), (14, .int .i64 x74), (15, .int .i64 (wr64 (x62 * 8))), (20, .int .i64 x62), (35, .slice (ad N73) t71.length (nN73 / 4)), (36, .int .i64 (t71.length : Int)), (37, .bool true)]) (by kernel_rfl) ?_
                    refine t_end ?_
                    show W _ _ _ _ _ _ _
                    refine w_block ?_
                    refine w_kp [0, 1, 2, 3, 4, 11, 12, 13, 14, 15, 20, 35, 36, 37] (σ' := [(0, .slice a_l0 l0.length c_l0), (1, .int .i64 wide1), (2, .int .i64 y2), (3, .int .i64 w3), (4, .func (.func 83) #[] #[.pointer (some ⟨B0, 0, none⟩)]), (11, .slice (ad (some a58)) y75.length (na58 / 1)), (12, .int .i64 x62), (13, .slice (ad N73) t71.length (nN73 / 4)), (14, .int .i64 x74), (15, .int .i64 (wr64 (x62 * 8))), (20, .int .i64 x62), (35, .slice (ad N73) t71.length (nN73 / 4)), (36, .int .i64 (t71.length : Int)), (37, .bool true)]) (by kernel_rfl) ?_
                    refine w_loop (fun n_ σ_ H_ S_ => ∃ (x81 : Int) (y82 : List (Int)), [(0, .slice a_l0 l0.length c_l0), (1, .int .i64 wide1), (2, .int .i64 y2), (3, .int .i64 w3), (4, .func (.func 83) #[] #[.pointer (some ⟨B0, 0, none⟩)]), (11, .slice (ad (some a58)) y82.length (na58 / 1)), (12, .int .i64 x62), (13, .slice (ad N73) t71.length (nN73 / 4)), (14, .int .i64 x74), (15, .int .i64 x81), (20, .int .i64 x62), (35, .slice (ad N73) t71.length (nN73 / 4)), (36, .int .i64 (t71.length : Int)), (37, .bool true)] = σ_ ∧ ([⟨N73, encL E_i644 t71, nN73⟩, ⟨some a58, encL E_u64 y82, na58⟩, ⟨B0, [.int .i64 m0_0], 1⟩] : List Own) = H_ ∧ S = S_ ∧ sweep_masks_v1.l2 n_ y2 m0_0 x62 t71 x74 x81 y82 = some (y100, x101)) _ ⟨wr64 (x62 * 8), y75, rfl, rfl, rfl, e79⟩ ?_
                    rintro n99 σ_ H_ S_ ⟨x81, y82, rfl, rfl, rfl, e79⟩
                    cases n99 with
                    | zero => rw [sweep_masks_v1.l2.eq_1] at e79; cases e79
                    | succ k_ =>
                      rw [sweep_masks_v1.l2.eq_2] at e79
                      refine w_seq ?_
                      refine w_seq ?_
                      refine w_reg fun all => ?_
                      by_cases c83 : x81 < (wr64 ((wr64 (x62 + 1)) * 8))
                      · rw [if_pos c83] at e79
                        have c83b : (decide (x81 < (wr64 ((wr64 (x62 + 1)) * 8)))) = true := decide_eq_true c83
                        refine t_qz 4 [0, 1, 2, 3, 4, 11, 12, 13, 14, 15, 20, 35, 36, 37, 43, 46] (σ' := [(0, .slice a_l0 l0.length c_l0), (1, .int .i64 wide1), (2, .int .i64 y2), (3, .int .i64 w3), (4, .func (.func 83) #[] #[.pointer (some ⟨B0, 0, none⟩)]), (11, .slice (ad (some a58)) y82.length (na58 / 1)), (12, .int .i64 x62), (13, .slice (ad N73) t71.length (nN73 / 4)), (14, .int .i64 x74), (15, .int .i64 x81), (20, .int .i64 x62), (35, .slice (ad N73) t71.length (nN73 / 4)), (36, .int .i64 (t71.length : Int)), (37, .bool true), (43, .int .i64 x81), (46, .int .i64 (wr64 ((wr64 (x62 + 1)) * 8)))]) (by kernel_rfl) ?_
                        refine t_v (dv_quiet rfl (congrArg (fun t => some (Value.bool t)) c83b)) ?_
                        refine t_keep [0, 1, 2, 3, 4, 11, 12, 13, 14, 15, 20, 35, 36, 37, 47] (σ' := [(0, .slice a_l0 l0.length c_l0), (1, .int .i64 wide1), (2, .int .i64 y2), (3, .int .i64 w3), (4, .func (.func 83) #[] #[.pointer (some ⟨B0, 0, none⟩)]), (11, .slice (ad (some a58)) y82.length (na58 / 1)), (12, .int .i64 x62), (13, .slice (ad N73) t71.length (nN73 / 4)), (14, .int .i64 x74), (15, .int .i64 x81), (20, .int .i64 x62), (35, .slice (ad N73) t71.length (nN73 / 4)), (36, .int .i64 (t71.length : Int)), (37, .bool true), (47, .bool true)]) (by kernel_rfl) ?_
                        refine t_end ?_
                        show W _ _ _ _ _ _ _
                        refine w_cond rfl (fun _ => ?_) (fun c_ => by cases c_)
                        show W _ _ _ _ _ _ _
                        refine w_skip ?_
                        show W _ _ _ _ _ _ _
                        refine w_seq ?_
                        refine w_block ?_
                        refine w_seq ?_
                        refine w_reg fun all => ?_
                        obtain ⟨⟨t84, t85⟩, h86, e79⟩ := bind_of e79
                        try dsimp only at e79
                        refine t_qz 5 [0, 1, 2, 3, 4, 11, 12, 13, 14, 15, 20, 35, 36, 37, 50, 51, 52, 53, 54] (σ' := [(0, .slice a_l0 l0.length c_l0), (1, .int .i64 wide1), (2, .int .i64 y2), (3, .int .i64 w3), (4, .func (.func 83) #[] #[.pointer (some ⟨B0, 0, none⟩)]), (11, .slice (ad (some a58)) y82.length (na58 / 1)), (12, .int .i64 x62), (13, .slice (ad N73) t71.length (nN73 / 4)), (14, .int .i64 x74), (15, .int .i64 x81), (20, .int .i64 x62), (35, .slice (ad N73) t71.length (nN73 / 4)), (36, .int .i64 (t71.length : Int)), (37, .bool true), (50, .func (.func 83) #[] #[.pointer (some ⟨B0, 0, none⟩)]), (51, .slice (ad N73) t71.length (nN73 / 4)), (52, .int .i64 x74), (53, .int .i64 y2), (54, .int .i64 x81)]) (by kernel_rfl) ?_
                        refine t_v (.call (vs := [.int .i64 x74, .int .i64 y2, .int .i64 x81]) rfl rfl (by kernel_rfl) (sweep_Sample.ok h86)) ?_
                        obtain ⟨t87, h88, e79⟩ := bind_of e79
                        cases t87 with
                        | true =>
                          rw [if_pos rfl] at e79
                          refine t_v (.clor (vs := [.slice (ad N73) t71.length (nN73 / 4), .agg #[.int .i64 t84, .int .i64 t85]]) (caps := #[.pointer (some ⟨B0, 0, none⟩)]) (A := ([⟨N73, encL E_i644 t71, nN73⟩, ⟨B0, [.int .i64 m0_0], 1⟩] : List Own)) (F0 := ([⟨some a58, encL E_u64 y82, na58⟩] : List Own)) rfl rfl rfl (by kernel_rfl) (by kernel_rfl) (sel_perm (is := [0, 1]) (by kernel_rfl)) (cal_lendr fun S1_ le1_ hS1_ => (sweep_Fill_1_v1.ok (SlE.ofAd (E := E_i644) (L := t71) hS1_ (by decide)) h88))) ?_
                          refine t_keep [0, 1, 2, 3, 4, 11, 12, 13, 14, 15, 20, 35, 36, 37, 56] (σ' := [(0, .slice a_l0 l0.length c_l0), (1, .int .i64 wide1), (2, .int .i64 y2), (3, .int .i64 w3), (4, .func (.func 83) #[] #[.pointer (some ⟨B0, 0, none⟩)]), (11, .slice (ad (some a58)) y82.length (na58 / 1)), (12, .int .i64 x62), (13, .slice (ad N73) t71.length (nN73 / 4)), (14, .int .i64 x74), (15, .int .i64 x81), (20, .int .i64 x62), (35, .slice (ad N73) t71.length (nN73 / 4)), (36, .int .i64 (t71.length : Int)), (37, .bool true), (56, .bool true)]) (by kernel_rfl) ?_
                          refine t_end ?_
                          show W _ _ _ _ _ _ _
                          refine w_cond rfl (fun _ => ?_) (fun c_ => by cases c_)
                          show W _ _ _ _ _ _ _
                          obtain ⟨x89, hx90, e79⟩ := bind_of e79
                          have c91 : ¬ x81 < 0 := by
                            intro h_; rw [if_pos h_] at e79; cases e79
                          rw [if_neg c91] at e79
                          obtain ⟨x92, hx93, e79⟩ := bind_of e79
                          refine w_drwE mixed 8 [.v (.slice (ad (some a58)) y82.length (na58 / 1)), .v (.int .i64 x74), .v (.pointer (some ⟨bk (some a58), (x74).toNat * 1 + 0, none⟩)), .v (.int .u64 x89), .v (.int .i64 x81), .v (.int .u64 (wru64 (1 * 2 ^ (min (Int.toNat x81) 64)))), .v (.int .u64 (bits .or .u64 x89 (wru64 (1 * 2 ^ (min (Int.toNat x81) 64))))), .v (.pointer (some ⟨bk (some a58), (x74).toNat * 1 + 0, none⟩))] (by kernel_rfl) ?_ ?_
                          · refine DI.sq 2 (by kernel_rfl) rfl ?_
                            refine .cons (.quietH rfl (by intro h_; cases h_) (ixl (E := E_u64) (j := 1) rfl rfl rfl (by decide) rfl hx90)) ?_
                            refine .cons (.ld1 rfl rfl rfl (.lst 1 rfl (encL_at (lgt_in hx90).1 rfl))) ?_
                            refine DI.sq 1 (by kernel_rfl) rfl ?_
                            refine .cons (.quiet rfl (qv_shl rfl rfl c91)) ?_
                            refine DI.sq 1 (by kernel_rfl) rfl ?_
                            refine .cons (.quietH rfl (by intro h_; cases h_) (ixl (E := E_u64) (j := 1) rfl rfl rfl (by decide) rfl hx93)) ?_
                            exact .nil
                          refine fk_q 8 [0, 1, 2, 3, 4, 11, 12, 13, 14, 15, 20, 35, 36, 37, 63, 64] (σ' := [(0, .slice a_l0 l0.length c_l0), (1, .int .i64 wide1), (2, .int .i64 y2), (3, .int .i64 w3), (4, .func (.func 83) #[] #[.pointer (some ⟨B0, 0, none⟩)]), (11, .slice (ad (some a58)) y82.length (na58 / 1)), (12, .int .i64 x62), (13, .slice (ad N73) t71.length (nN73 / 4)), (14, .int .i64 x74), (15, .int .i64 x81), (20, .int .i64 x62), (35, .slice (ad N73) t71.length (nN73 / 4)), (36, .int .i64 (t71.length : Int)), (37, .bool true), (63, .int .u64 (bits .or .u64 x89 (wru64 (1 * 2 ^ (min (Int.toNat x81) 64))))), (64, .pointer (some ⟨bk (some a58), (x74).toNat * 1 + 0, none⟩))]) t_more (by kernel_rfl) ?_
                          refine fk_nil fun all => ?_
                          obtain ⟨y94, hl95, e79⟩ := bind_of e79
                          refine t_stl 1 (E := E_u64) (L := y82) (L' := y94) (i := x74) (off := 0) (y0 := x92) (y1 := (bits .or .u64 x89 (wru64 (1 * 2 ^ (min (Int.toNat x81) 64))))) (H' := ([⟨N73, encL E_i644 t71, nN73⟩, ⟨some a58, encL E_u64 y94, na58⟩, ⟨B0, [.int .i64 m0_0], 1⟩] : List Own)) rfl rfl rfl rfl rfl rfl rfl (by decide) rfl hx93 (by kernel_rfl) hl95 rfl ?_
                          refine t_keep [0, 1, 2, 3, 4, 11, 12, 13, 14, 15, 20, 35, 36, 37, 63, 64] (σ' := [(0, .slice a_l0 l0.length c_l0), (1, .int .i64 wide1), (2, .int .i64 y2), (3, .int .i64 w3), (4, .func (.func 83) #[] #[.pointer (some ⟨B0, 0, none⟩)]), (11, .slice (ad (some a58)) y82.length (na58 / 1)), (12, .int .i64 x62), (13, .slice (ad N73) t71.length (nN73 / 4)), (14, .int .i64 x74), (15, .int .i64 x81), (20, .int .i64 x62), (35, .slice (ad N73) t71.length (nN73 / 4)), (36, .int .i64 (t71.length : Int)), (37, .bool true), (63, .int .u64 (bits .or .u64 x89 (wru64 (1 * 2 ^ (min (Int.toNat x81) 64))))), (64, .pointer (some ⟨bk (some a58), (x74).toNat * 1 + 0, none⟩))]) (by kernel_rfl) ?_
                          refine t_eq (σ' := [(0, .slice a_l0 l0.length c_l0), (1, .int .i64 wide1), (2, .int .i64 y2), (3, .int .i64 w3), (4, .func (.func 83) #[] #[.pointer (some ⟨B0, 0, none⟩)]), (11, .slice (ad (some a58)) y94.length (na58 / 1)), (12, .int .i64 x62), (13, .slice (ad N73) t71.length (nN73 / 4)), (14, .int .i64 x74), (15, .int .i64 x81), (20, .int .i64 x62), (35, .slice (ad N73) t71.length (nN73 / 4)), (36, .int .i64 (t71.length : Int)), (37, .bool true), (63, .int .u64 (bits .or .u64 x89 (wru64 (1 * 2 ^ (min (Int.toNat x81) 64))))), (64, .pointer (some ⟨bk (some a58), (x74).toNat * 1 + 0, none⟩))]) (H' := ([⟨N73, encL E_i644 t71, nN73⟩, ⟨some a58, encL E_u64 y94, na58⟩, ⟨B0, [.int .i64 m0_0], 1⟩] : List Own)) (by first | rfl | rw [(lput_is hl95).2]) (by first | rfl | rw [(lput_is hl95).2]) ?_
                          refine t_keep [0, 1, 2, 3, 4, 11, 12, 13, 14, 15, 20, 35, 36, 37] (σ' := [(0, .slice a_l0 l0.length c_l0), (1, .int .i64 wide1), (2, .int .i64 y2), (3, .int .i64 w3), (4, .func (.func 83) #[] #[.pointer (some ⟨B0, 0, none⟩)]), (11, .slice (ad (some a58)) y94.length (na58 / 1)), (12, .int .i64 x62), (13, .slice (ad N73) t71.length (nN73 / 4)), (14, .int .i64 x74), (15, .int .i64 x81), (20, .int .i64 x62), (35, .slice (ad N73) t71.length (nN73 / 4)), (36, .int .i64 (t71.length : Int)), (37, .bool true)]) (by kernel_rfl) ?_
                          refine t_end ?_
                          show W _ _ _ _ _ _ _
                          refine w_reg fun all => ?_
                          refine t_qz 3 [0, 1, 2, 3, 4, 11, 12, 13, 14, 15, 20, 35, 36, 37] (σ' := [(0, .slice a_l0 l0.length c_l0), (1, .int .i64 wide1), (2, .int .i64 y2), (3, .int .i64 w3), (4, .func (.func 83) #[] #[.pointer (some ⟨B0, 0, none⟩)]), (11, .slice (ad (some a58)) y94.length (na58 / 1)), (12, .int .i64 x62), (13, .slice (ad N73) t71.length (nN73 / 4)), (14, .int .i64 x74), (15, .int .i64 (wr64 (x81 + 1))), (20, .int .i64 x62), (35, .slice (ad N73) t71.length (nN73 / 4)), (36, .int .i64 (t71.length : Int)), (37, .bool true)]) (by kernel_rfl) ?_
                          refine t_end ?_
                          exact ⟨k_, Nat.lt_succ_self _, [(0, .slice a_l0 l0.length c_l0), (1, .int .i64 wide1), (2, .int .i64 y2), (3, .int .i64 w3), (4, .func (.func 83) #[] #[.pointer (some ⟨B0, 0, none⟩)]), (11, .slice (ad (some a58)) y94.length (na58 / 1)), (12, .int .i64 x62), (13, .slice (ad N73) t71.length (nN73 / 4)), (14, .int .i64 x74), (15, .int .i64 (wr64 (x81 + 1))), (20, .int .i64 x62), (35, .slice (ad N73) t71.length (nN73 / 4)), (36, .int .i64 (t71.length : Int)), (37, .bool true)], ([⟨N73, encL E_i644 t71, nN73⟩, ⟨some a58, encL E_u64 y94, na58⟩, ⟨B0, [.int .i64 m0_0], 1⟩] : List Own), S, keep_sub [0, 1, 2, 3, 4, 11, 12, 13, 14, 15, 20, 35, 36, 37] (by kernel_rfl), VS.sel [0, 0, 0] (by kernel_rfl), wr64 (x81 + 1), y94, rfl, rfl, rfl, e79⟩
                        | false =>
                          rw [if_neg (by decide)] at e79
                          refine t_v (.clor (vs := [.slice (ad N73) t71.length (nN73 / 4), .agg #[.int .i64 t84, .int .i64 t85]]) (caps := #[.pointer (some ⟨B0, 0, none⟩)]) (A := ([⟨N73, encL E_i644 t71, nN73⟩, ⟨B0, [.int .i64 m0_0], 1⟩] : List Own)) (F0 := ([⟨some a58, encL E_u64 y82, na58⟩] : List Own)) rfl rfl rfl (by kernel_rfl) (by kernel_rfl) (sel_perm (is := [0, 1]) (by kernel_rfl)) (cal_lendr fun S1_ le1_ hS1_ => (sweep_Fill_1_v1.ok (SlE.ofAd (E := E_i644) (L := t71) hS1_ (by decide)) h88))) ?_
                          refine t_keep [0, 1, 2, 3, 4, 11, 12, 13, 14, 15, 20, 35, 36, 37, 56] (σ' := [(0, .slice a_l0 l0.length c_l0), (1, .int .i64 wide1), (2, .int .i64 y2), (3, .int .i64 w3), (4, .func (.func 83) #[] #[.pointer (some ⟨B0, 0, none⟩)]), (11, .slice (ad (some a58)) y82.length (na58 / 1)), (12, .int .i64 x62), (13, .slice (ad N73) t71.length (nN73 / 4)), (14, .int .i64 x74), (15, .int .i64 x81), (20, .int .i64 x62), (35, .slice (ad N73) t71.length (nN73 / 4)), (36, .int .i64 (t71.length : Int)), (37, .bool true), (56, .bool false)]) (by kernel_rfl) ?_
                          refine t_end ?_
                          show W _ _ _ _ _ _ _
                          refine w_cond rfl (fun c_ => by cases c_) (fun _ => ?_)
                          show W _ _ _ _ _ _ _
                          refine w_skip ?_
                          show W _ _ _ _ _ _ _
                          refine w_reg fun all => ?_
                          refine t_qz 3 [0, 1, 2, 3, 4, 11, 12, 13, 14, 15, 20, 35, 36, 37] (σ' := [(0, .slice a_l0 l0.length c_l0), (1, .int .i64 wide1), (2, .int .i64 y2), (3, .int .i64 w3), (4, .func (.func 83) #[] #[.pointer (some ⟨B0, 0, none⟩)]), (11, .slice (ad (some a58)) y82.length (na58 / 1)), (12, .int .i64 x62), (13, .slice (ad N73) t71.length (nN73 / 4)), (14, .int .i64 x74), (15, .int .i64 (wr64 (x81 + 1))), (20, .int .i64 x62), (35, .slice (ad N73) t71.length (nN73 / 4)), (36, .int .i64 (t71.length : Int)), (37, .bool true)]) (by kernel_rfl) ?_
                          refine t_end ?_
                          exact ⟨k_, Nat.lt_succ_self _, [(0, .slice a_l0 l0.length c_l0), (1, .int .i64 wide1), (2, .int .i64 y2), (3, .int .i64 w3), (4, .func (.func 83) #[] #[.pointer (some ⟨B0, 0, none⟩)]), (11, .slice (ad (some a58)) y82.length (na58 / 1)), (12, .int .i64 x62), (13, .slice (ad N73) t71.length (nN73 / 4)), (14, .int .i64 x74), (15, .int .i64 (wr64 (x81 + 1))), (20, .int .i64 x62), (35, .slice (ad N73) t71.length (nN73 / 4)), (36, .int .i64 (t71.length : Int)), (37, .bool true)], ([⟨N73, encL E_i644 t71, nN73⟩, ⟨some a58, encL E_u64 y82, na58⟩, ⟨B0, [.int .i64 m0_0], 1⟩] : List Own), S, keep_sub [0, 1, 2, 3, 4, 11, 12, 13, 14, 15, 20, 35, 36, 37] (by kernel_rfl), VS.sel [0, 0, 0] (by kernel_rfl), wr64 (x81 + 1), y82, rfl, rfl, rfl, e79⟩
                      · rw [if_neg c83] at e79
                        have c83b : (decide (x81 < (wr64 ((wr64 (x62 + 1)) * 8)))) = false := decide_eq_false c83
                        refine t_qz 4 [0, 1, 2, 3, 4, 11, 12, 13, 14, 15, 20, 35, 36, 37, 43, 46] (σ' := [(0, .slice a_l0 l0.length c_l0), (1, .int .i64 wide1), (2, .int .i64 y2), (3, .int .i64 w3), (4, .func (.func 83) #[] #[.pointer (some ⟨B0, 0, none⟩)]), (11, .slice (ad (some a58)) y82.length (na58 / 1)), (12, .int .i64 x62), (13, .slice (ad N73) t71.length (nN73 / 4)), (14, .int .i64 x74), (15, .int .i64 x81), (20, .int .i64 x62), (35, .slice (ad N73) t71.length (nN73 / 4)), (36, .int .i64 (t71.length : Int)), (37, .bool true), (43, .int .i64 x81), (46, .int .i64 (wr64 ((wr64 (x62 + 1)) * 8)))]) (by kernel_rfl) ?_
                        refine t_v (dv_quiet rfl (congrArg (fun t => some (Value.bool t)) c83b)) ?_
                        refine t_keep [0, 1, 2, 3, 4, 11, 12, 13, 14, 15, 20, 35, 36, 37, 47] (σ' := [(0, .slice a_l0 l0.length c_l0), (1, .int .i64 wide1), (2, .int .i64 y2), (3, .int .i64 w3), (4, .func (.func 83) #[] #[.pointer (some ⟨B0, 0, none⟩)]), (11, .slice (ad (some a58)) y82.length (na58 / 1)), (12, .int .i64 x62), (13, .slice (ad N73) t71.length (nN73 / 4)), (14, .int .i64 x74), (15, .int .i64 x81), (20, .int .i64 x62), (35, .slice (ad N73) t71.length (nN73 / 4)), (36, .int .i64 (t71.length : Int)), (37, .bool true), (47, .bool false)]) (by kernel_rfl) ?_
                        refine t_end ?_
                        show W _ _ _ _ _ _ _
                        refine w_cond rfl (fun c_ => by cases c_) (fun _ => ?_)
                        show W _ _ _ _ _ _ _
                        refine w_exit ?_
                        simp only [Option.some.injEq, Prod.mk.injEq] at e79
                        obtain ⟨rfl, rfl⟩ := e79
                        exact ⟨([⟨B0, [.int .i64 m0_0], 1⟩, ⟨some a58, encL E_u64 y82, na58⟩, ⟨N73, encL E_i644 t71, nN73⟩] : List Own), S, VS.sel [2, 1, 0] (by kernel_rfl), by kernel_rfl, rfl, rfl⟩
                  · rintro σ_ H_ S_ ⟨rfl, rfl, rfl⟩
                    refine w_reg fun all => ?_
                    refine t_qz 3 [0, 1, 2, 3, 4, 11, 12, 13, 14, 20, 35, 36, 37] (σ' := [(0, .slice a_l0 l0.length c_l0), (1, .int .i64 wide1), (2, .int .i64 y2), (3, .int .i64 w3), (4, .func (.func 83) #[] #[.pointer (some ⟨B0, 0, none⟩)]), (11, .slice (ad (some a58)) y100.length (na58 / 1)), (12, .int .i64 x62), (13, .slice (ad N73) t71.length (nN73 / 4)), (14, .int .i64 (wr64 (x74 + 1))), (20, .int .i64 x62), (35, .slice (ad N73) t71.length (nN73 / 4)), (36, .int .i64 (t71.length : Int)), (37, .bool x101)]) (by kernel_rfl) ?_
                    refine t_end ?_
                    exact ⟨k_, Nat.lt_succ_self _, [(0, .slice a_l0 l0.length c_l0), (1, .int .i64 wide1), (2, .int .i64 y2), (3, .int .i64 w3), (4, .func (.func 83) #[] #[.pointer (some ⟨B0, 0, none⟩)]), (11, .slice (ad (some a58)) y100.length (na58 / 1)), (12, .int .i64 x62), (13, .slice (ad N73) t71.length (nN73 / 4)), (14, .int .i64 (wr64 (x74 + 1))), (20, .int .i64 x62)], ([⟨N73, encL E_i644 t71, nN73⟩, ⟨some a58, encL E_u64 y100, na58⟩, ⟨B0, [.int .i64 m0_0], 1⟩] : List Own), S, keep_sub [0, 1, 2, 3, 4, 11, 12, 13, 14, 20] (by kernel_rfl), VS.sel [2, 1, 0] (by kernel_rfl), wr64 (x74 + 1), y100, rfl, rfl, rfl, e66⟩
                · rw [if_neg c77] at e66
                  have c77b : (decide ((t71.length : Int) > 0)) = false := decide_eq_false c77
                  refine t_qz 3 [0, 1, 2, 3, 4, 11, 12, 13, 14, 20, 34, 35, 36] (σ' := [(0, .slice a_l0 l0.length c_l0), (1, .int .i64 wide1), (2, .int .i64 y2), (3, .int .i64 w3), (4, .func (.func 83) #[] #[.pointer (some ⟨B0, 0, none⟩)]), (11, .slice (ad (some a58)) y75.length (na58 / 1)), (12, .int .i64 x62), (13, .slice (ad N73) t71.length (nN73 / 4)), (14, .int .i64 x74), (20, .int .i64 x62), (34, .bool true), (35, .slice (ad N73) t71.length (nN73 / 4)), (36, .int .i64 (t71.length : Int))]) (by kernel_rfl) ?_
                  refine t_v (dv_quiet rfl (congrArg (fun t => some (Value.bool t)) c77b)) ?_
                  refine t_qz 1 [0, 1, 2, 3, 4, 11, 12, 13, 14, 20, 35, 36, 37, 38] (σ' := [(0, .slice a_l0 l0.length c_l0), (1, .int .i64 wide1), (2, .int .i64 y2), (3, .int .i64 w3), (4, .func (.func 83) #[] #[.pointer (some ⟨B0, 0, none⟩)]), (11, .slice (ad (some a58)) y75.length (na58 / 1)), (12, .int .i64 x62), (13, .slice (ad N73) t71.length (nN73 / 4)), (14, .int .i64 x74), (20, .int .i64 x62), (35, .slice (ad N73) t71.length (nN73 / 4)), (36, .int .i64 (t71.length : Int)), (37, .bool false), (38, .bool false)]) (by kernel_rfl) ?_
                  refine t_end ?_
                  show W _ _ _ _ _ _ _
                  refine w_cond rfl (fun c_ => by cases c_) (fun _ => ?_)
                  show W _ _ _ _ _ _ _
                  refine w_exit ?_
                  obtain rfl := Option.some.inj e66
                  exact ⟨([⟨B0, [.int .i64 m0_0], 1⟩, ⟨some a58, encL E_u64 y75, na58⟩] : List Own), S, VS.sel [2, 1] (by kernel_rfl), by kernel_rfl, rfl, rfl⟩
              · rw [if_neg c76] at e66
                have c76b : (decide (x74 < w3)) = false := decide_eq_false c76
                refine t_qz 2 [0, 1, 2, 3, 4, 11, 12, 13, 14, 20, 31, 32] (σ' := [(0, .slice a_l0 l0.length c_l0), (1, .int .i64 wide1), (2, .int .i64 y2), (3, .int .i64 w3), (4, .func (.func 83) #[] #[.pointer (some ⟨B0, 0, none⟩)]), (11, .slice (ad (some a58)) y75.length (na58 / 1)), (12, .int .i64 x62), (13, .slice (ad N73) t71.length (nN73 / 4)), (14, .int .i64 x74), (20, .int .i64 x62), (31, .int .i64 x74), (32, .int .i64 w3)]) (by kernel_rfl) ?_
                refine t_v (dv_quiet rfl (congrArg (fun t => some (Value.bool t)) c76b)) ?_
                refine t_qz 5 [0, 1, 2, 3, 4, 11, 12, 13, 14, 20, 35, 36, 37, 38] (σ' := [(0, .slice a_l0 l0.length c_l0), (1, .int .i64 wide1), (2, .int .i64 y2), (3, .int .i64 w3), (4, .func (.func 83) #[] #[.pointer (some ⟨B0, 0, none⟩)]), (11, .slice (ad (some a58)) y75.length (na58 / 1)), (12, .int .i64 x62), (13, .slice (ad N73) t71.length (nN73 / 4)), (14, .int .i64 x74), (20, .int .i64 x62), (35, .tuple #[]), (36, .tuple #[]), (37, .tuple #[]), (38, .bool false)]) (by kernel_rfl) ?_
                refine t_end ?_
                show W _ _ _ _ _ _ _
                refine w_cond rfl (fun c_ => by cases c_) (fun _ => ?_)
                show W _ _ _ _ _ _ _
                refine w_exit ?_
                obtain rfl := Option.some.inj e66
                exact ⟨([⟨B0, [.int .i64 m0_0], 1⟩, ⟨some a58, encL E_u64 y75, na58⟩] : List Own), S, VS.sel [2, 1] (by kernel_rfl), by kernel_rfl, rfl, rfl⟩
          · rintro σ_ H_ S_ ⟨rfl, rfl, rfl⟩
            refine w_reg fun all => ?_
            refine t_qz 2 [0, 1, 2, 3, 4, 11, 20] (σ' := [(0, .slice a_l0 l0.length c_l0), (1, .int .i64 wide1), (2, .int .i64 y2), (3, .int .i64 w3), (4, .func (.func 83) #[] #[.pointer (some ⟨B0, 0, none⟩)]), (11, .slice (ad (some a58)) y104.length (na58 / 1)), (20, .int .i64 (wr64 (x62 + 1)))]) (by kernel_rfl) ?_
            refine t_end ?_
            exact ⟨k_, Nat.lt_succ_self _, [(0, .slice a_l0 l0.length c_l0), (1, .int .i64 wide1), (2, .int .i64 y2), (3, .int .i64 w3), (4, .func (.func 83) #[] #[.pointer (some ⟨B0, 0, none⟩)]), (11, .slice (ad (some a58)) y104.length (na58 / 1)), (20, .int .i64 (wr64 (x62 + 1)))], ([⟨some a58, encL E_u64 y104, na58⟩, ⟨B0, [.int .i64 m0_0], 1⟩] : List Own), S, keep_sub [0, 1, 2, 3, 4, 11, 20] (by kernel_rfl), VS.sel [1, 0] (by kernel_rfl), wr64 (x62 + 1), y104, rfl, rfl, rfl, e60⟩
        · rw [if_neg c64] at e60
          have c64b : (decide (x62 < 8)) = false := decide_eq_false c64
          refine t_v (dv_quiet rfl (congrArg (fun t => some (Value.bool t)) c64b)) ?_
          refine t_keep [0, 1, 2, 3, 4, 11, 20, 21] (σ' := [(0, .slice a_l0 l0.length c_l0), (1, .int .i64 wide1), (2, .int .i64 y2), (3, .int .i64 w3), (4, .func (.func 83) #[] #[.pointer (some ⟨B0, 0, none⟩)]), (11, .slice (ad (some a58)) y63.length (na58 / 1)), (20, .int .i64 x62), (21, .bool false)]) (by kernel_rfl) ?_
          refine t_end ?_
          show W _ _ _ _ _ _ _
          refine w_seq ?_
          refine w_cond rfl (fun c_ => by cases c_) (fun _ => ?_)
          show W _ _ _ _ _ _ _
          refine w_exit ?_
          obtain rfl := Option.some.inj e60
          exact ⟨([⟨B0, [.int .i64 m0_0], 1⟩, ⟨some a58, encL E_u64 y63, na58⟩] : List Own), S, VS.sel [1, 0] (by kernel_rfl), by kernel_rfl, rfl, rfl⟩
    · rintro σ_ H_ S_ ⟨rfl, rfl, rfl⟩
      refine w_seq ?_
      refine w_reg fun all => ?_
      refine t_qz 2 [10] (σ' := [(10, .slice (ad (some a58)) y107.length (na58 / 1))]) (by kernel_rfl) ?_
      refine t_end ?_
      show W _ _ _ _ _ _ _
      refine w_ret ?_
      obtain rfl := Option.some.inj e
      exact ⟨[.slice (ad (some a58)) y107.length (na58 / 1)], ([⟨some a58, encL E_u64 y107, na58⟩, ⟨B0, [.int .i64 m0_0], 1⟩] : List Own), S, ⟨(show gt _ _ = some _ from (by kernel_rfl)), trivial⟩, VS.sel [1, 0] (by kernel_rfl), some a58, na58, rfl, rfl, rfl⟩

/-- sweep.Fill -/
def c41 : C :=
  (.seq (.reg [⟨(some 5), .box (.tmp 1), none⟩,
     ⟨(some 8), .mv (.const (.slice none 0 0)), none⟩])
  (.seq (.reg [⟨(some 9), .mv (.tmp 0), none⟩,
     ⟨(some 10), .mv (.tmp 2), none⟩,
     ⟨(some 11), .mv (.tmp 3), none⟩,
     ⟨(some 12), .mkf 83 [(.tmp 5)], none⟩,
     ⟨(some 13), .call 82 [(.tmp 9), (.const (.int .i64 0)), (.tmp 10), (.tmp 11), (.tmp 12)], none⟩,
     ⟨(some 8), .mv (.tmp 13), none⟩])
  .ret))
def sweep_Fill_v1.f (k : Nat) (l0 : List (Int × Int × Int × Int)) (rule1 : Int) (y2 : Int) (w3 : Int) : Option (List (Int)) := (sweep_masks_v1.f k l0 0 y2 w3 rule1).bind fun t108 => (some t108)
theorem sweep_Fill_v1.ok {S : Seal} {k : Nat} {l0 : List (Int × Int × Int × Int)} {rule1 : Int} {y2 : Int} {w3 : Int} {r0_ : List (Int)}{a_l0 : Option Addr} {c_l0 : Nat} (h_l0 : SlE S E_i644 l0 a_l0) (e : sweep_Fill_v1.f k l0 rule1 y2 w3 = some r0_) :
    Cal Try.prog 41 [.slice a_l0 l0.length c_l0, .int .i64 rule1, .int .i64 y2, .int .i64 w3] [] S fun v H' S' => ∃ (N0_ : Option Nat) (nN0_ : Nat) , v = .slice (ad N0_) r0_.length (nN0_ / 1) ∧ H' = ([⟨N0_, encL E_u64 r0_, nN0_⟩] : List Own) ∧ S' = S := by
  unfold sweep_Fill_v1.f at e
  refine cal_of (c := c41) (N := 14) Try.func41 rfl rfl (by kernel_rfl) (rs := [.t 8]) (by kernel_rfl) (Nat.le_of_ble_eq_true rfl) ?_
  unfold c41
  refine w_seq ?_
  refine w_reg fun all => ?_
  refine t_a (.box rfl rfl rfl) fun b1 fb1 sb1 => ?_
  refine t_qz 1 [0, 2, 3, 5] (σ' := [(0, .slice a_l0 l0.length c_l0), (2, .int .i64 y2), (3, .int .i64 w3), (5, .pointer (some ⟨b1, 0, none⟩))]) (by kernel_rfl) ?_
  refine t_end ?_
  show W _ _ _ _ _ _ _
  refine w_seq ?_
  refine w_reg fun all => ?_
  obtain ⟨t108, h109, e⟩ := bind_of e
  refine t_qz 4 [9, 10, 11, 12] (σ' := [(9, .slice a_l0 l0.length c_l0), (10, .int .i64 y2), (11, .int .i64 w3), (12, .func (.func 83) #[] #[.pointer (some ⟨b1, 0, none⟩)])]) (by kernel_rfl) ?_
  refine t_call (vs := [.slice a_l0 l0.length c_l0, .int .i64 0, .int .i64 y2, .int .i64 w3, .func (.func 83) #[] #[.pointer (some ⟨b1, 0, none⟩)]]) (H1 := ([⟨b1, [.int .i64 rule1], 1⟩] : List Own)) (F := ([] : List Own)) rfl rfl (by kernel_rfl) (sel_perm (is := [0]) (by kernel_rfl)) (sweep_masks_v1.ok h_l0 h109) ?_
  rintro _ _ S_ ⟨N110, nN110, rfl, rfl, hS_⟩
  obtain rfl := hS_.symm
  refine t_qz 1 [8] (σ' := [(8, .slice (ad N110) t108.length (nN110 / 1))]) (by kernel_rfl) ?_
  refine t_end ?_
  show W _ _ _ _ _ _ _
  refine w_ret ?_
  obtain rfl := Option.some.inj e
  exact ⟨[.slice (ad N110) t108.length (nN110 / 1)], ([⟨N110, encL E_u64 t108, nN110⟩] : List Own), S, ⟨rfl, trivial⟩, VS.sel [0] (by kernel_rfl), N110, nN110, rfl, rfl, rfl⟩

/-- math/bits.OnesCount64 -/
def c85 : C :=
  (.seq (.reg [⟨(some 2), .mv (.const (.int .i64 0)), none⟩])
  (.seq (.reg [⟨(some 3), .mv (.tmp 0), none⟩,
     ⟨(some 4), .bin .shr (.tmp 3) (.const (.int .u64 1)), none⟩,
     ⟨(some 5), .bin .and (.tmp 4) (.const (.int .u64 6148914691236517205)), none⟩,
     ⟨(some 6), .mv (.tmp 0), none⟩,
     ⟨(some 7), .bin .and (.tmp 6) (.const (.int .u64 6148914691236517205)), none⟩,
     ⟨(some 8), .bin .add (.tmp 5) (.tmp 7), none⟩,
     ⟨(some 0), .mv (.tmp 8), none⟩])
  (.seq (.reg [⟨(some 9), .mv (.tmp 0), none⟩,
     ⟨(some 10), .bin .shr (.tmp 9) (.const (.int .u64 2)), none⟩,
     ⟨(some 11), .bin .and (.tmp 10) (.const (.int .u64 3689348814741910323)), none⟩,
     ⟨(some 12), .mv (.tmp 0), none⟩,
     ⟨(some 13), .bin .and (.tmp 12) (.const (.int .u64 3689348814741910323)), none⟩,
     ⟨(some 14), .bin .add (.tmp 11) (.tmp 13), none⟩,
     ⟨(some 0), .mv (.tmp 14), none⟩])
  (.seq (.reg [⟨(some 15), .mv (.tmp 0), none⟩,
     ⟨(some 16), .bin .shr (.tmp 15) (.const (.int .u64 4)), none⟩,
     ⟨(some 17), .mv (.tmp 0), none⟩,
     ⟨(some 18), .bin .add (.tmp 16) (.tmp 17), none⟩,
     ⟨(some 19), .bin .and (.tmp 18) (.const (.int .u64 1085102592571150095)), none⟩,
     ⟨(some 0), .mv (.tmp 19), none⟩])
  (.seq (.reg [⟨(some 20), .mv (.tmp 0), none⟩,
     ⟨(some 21), .mv (.tmp 0), none⟩,
     ⟨(some 22), .bin .shr (.tmp 21) (.const (.int .u64 8)), none⟩,
     ⟨(some 23), .bin .add (.tmp 20) (.tmp 22), none⟩,
     ⟨(some 0), .mv (.tmp 23), none⟩])
  (.seq (.reg [⟨(some 24), .mv (.tmp 0), none⟩,
     ⟨(some 25), .mv (.tmp 0), none⟩,
     ⟨(some 26), .bin .shr (.tmp 25) (.const (.int .u64 16)), none⟩,
     ⟨(some 27), .bin .add (.tmp 24) (.tmp 26), none⟩,
     ⟨(some 0), .mv (.tmp 27), none⟩])
  (.seq (.reg [⟨(some 28), .mv (.tmp 0), none⟩,
     ⟨(some 29), .mv (.tmp 0), none⟩,
     ⟨(some 30), .bin .shr (.tmp 29) (.const (.int .u64 32)), none⟩,
     ⟨(some 31), .bin .add (.tmp 28) (.tmp 30), none⟩,
     ⟨(some 0), .mv (.tmp 31), none⟩])
  (.seq (.reg [⟨(some 32), .mv (.tmp 0), none⟩,
     ⟨(some 33), .cnv .i64 (.tmp 32), none⟩,
     ⟨(some 34), .bin .and (.tmp 33) (.const (.int .i64 127)), none⟩,
     ⟨(some 2), .mv (.tmp 34), none⟩])
  .ret))))))))
def bits_OnesCount64_v1.f  : Option (Unit) := some ()
theorem bits_OnesCount64_v1.ok {S : Seal}  (e : bits_OnesCount64_v1.f  = some ()) :
    Cal Try.prog 85 [.int .u64 5] [] S fun v H' S' => v = .int .i64 2 ∧ H' = [] ∧ S' = S := by
  unfold bits_OnesCount64_v1.f at e
  refine cal_of (c := c85) (N := 35) Try.func85 rfl rfl (by kernel_rfl) (rs := [.t 2]) (by kernel_rfl) (Nat.le_of_ble_eq_true rfl) ?_
  unfold c85
  refine w_seq ?_
  refine w_reg fun all => ?_
  refine t_qz 1 [0] (σ' := [(0, .int .u64 5)]) (by kernel_rfl) ?_
  refine t_end ?_
  show W _ _ _ _ _ _ _
  refine w_seq ?_
  refine w_reg fun all => ?_
  refine t_qz 7 [0] (σ' := [(0, .int .u64 5)]) (by kernel_rfl) ?_
  refine t_end ?_
  show W _ _ _ _ _ _ _
  refine w_seq ?_
  refine w_reg fun all => ?_
  refine t_qz 7 [0] (σ' := [(0, .int .u64 2)]) (by kernel_rfl) ?_
  refine t_end ?_
  show W _ _ _ _ _ _ _
  refine w_seq ?_
  refine w_reg fun all => ?_
  refine t_qz 6 [0] (σ' := [(0, .int .u64 2)]) (by kernel_rfl) ?_
  refine t_end ?_
  show W _ _ _ _ _ _ _
  refine w_seq ?_
  refine w_reg fun all => ?_
  refine t_qz 5 [0] (σ' := [(0, .int .u64 2)]) (by kernel_rfl) ?_
  refine t_end ?_
  show W _ _ _ _ _ _ _
  refine w_seq ?_
  refine w_reg fun all => ?_
  refine t_qz 5 [0] (σ' := [(0, .int .u64 2)]) (by kernel_rfl) ?_
  refine t_end ?_
  show W _ _ _ _ _ _ _
  refine w_seq ?_
  refine w_reg fun all => ?_
  refine t_qz 5 [0] (σ' := [(0, .int .u64 2)]) (by kernel_rfl) ?_
  refine t_end ?_
  show W _ _ _ _ _ _ _
  refine w_seq ?_
  refine w_reg fun all => ?_
  refine t_qz 4 [2] (σ' := [(2, .int .i64 2)]) (by kernel_rfl) ?_
  refine t_end ?_
  show W _ _ _ _ _ _ _
  refine w_ret ?_
  exact ⟨[.int .i64 2], [], S, ⟨rfl, trivial⟩, VS.none, rfl, rfl, rfl⟩

/-- sweep.Count -/
def c42 : C :=
  (.seq (.reg [⟨(some 2), .mv (.const (.int .i64 0)), none⟩])
  (.seq (.reg [⟨(some 3), .mv (.tmp 0), none⟩,
     ⟨(some 4), .call 85 [(.tmp 3)], none⟩,
     ⟨(some 2), .mv (.tmp 4), none⟩])
  .ret))
def sweep_Count_v1.f  : Option (Unit) := (bits_OnesCount64_v1.f).bind fun _ => (some ())
theorem sweep_Count_v1.ok {S : Seal}  (e : sweep_Count_v1.f  = some ()) :
    Cal Try.prog 42 [.int .u64 5] [] S fun v H' S' => v = .int .i64 2 ∧ H' = [] ∧ S' = S := by
  unfold sweep_Count_v1.f at e
  refine cal_of (c := c42) (N := 5) Try.func42 rfl rfl (by kernel_rfl) (rs := [.t 2]) (by kernel_rfl) (Nat.le_of_ble_eq_true rfl) ?_
  unfold c42
  refine w_seq ?_
  refine w_reg fun all => ?_
  refine t_qz 1 [0] (σ' := [(0, .int .u64 5)]) (by kernel_rfl) ?_
  refine t_end ?_
  show W _ _ _ _ _ _ _
  refine w_seq ?_
  refine w_reg fun all => ?_
  obtain ⟨u_, h121, e⟩ := bind_of e
  refine t_qz 1 [3] (σ' := [(3, .int .u64 5)]) (by kernel_rfl) ?_
  refine t_v (.call (vs := [.int .u64 5]) rfl rfl (by kernel_rfl) (bits_OnesCount64_v1.ok h121)) ?_
  refine t_qz 1 [2] (σ' := [(2, .int .i64 2)]) (by kernel_rfl) ?_
  refine t_end ?_
  show W _ _ _ _ _ _ _
  refine w_ret ?_
  exact ⟨[.int .i64 2], [], S, ⟨rfl, trivial⟩, VS.none, rfl, rfl, rfl⟩

/-- glyphiclaw24.first -/
def c40 : C :=
  (.seq (.reg [⟨(some 0), .mv (.const (.bool false)), none⟩])
  (.seq (.reg [⟨(some 2), .call 41 [(.const (.slice none 0 0)), (.const (.int .i64 0)), (.const (.int .i64 0)), (.const (.int .i64 2))], none⟩,
     ⟨(some 1), .mv (.tmp 2), none⟩])
  (.seq (.reg [⟨(some 3), .mv (.tmp 1), none⟩,
     ⟨(some 4), .lns (.tmp 3), none⟩,
     ⟨(some 5), .bin .eql (.tmp 4) (.const (.int .i64 2)), none⟩,
     ⟨(some 6), .mv (.tmp 5), none⟩,
     ⟨(some 7), .mv (.tmp 1), (some (6, true))⟩,
     ⟨(some 8), .ixs 1 (.tmp 7) (.const (.int .i64 0)), (some (6, true))⟩,
     ⟨(some 9), .ld none (.tmp 8), (some (6, true))⟩,
     ⟨(some 10), .bin .eql (.tmp 9) (.const (.int .u64 0)), (some (6, true))⟩,
     ⟨(some 11), .pk (.tmp 6) (.tmp 10) (.const (.bool false)), none⟩,
     ⟨(some 12), .mv (.tmp 11), none⟩,
     ⟨(some 13), .mv (.tmp 1), (some (12, true))⟩,
     ⟨(some 14), .ixs 1 (.tmp 13) (.const (.int .i64 1)), (some (12, true))⟩,
     ⟨(some 15), .ld none (.tmp 14), (some (12, true))⟩,
     ⟨(some 16), .bin .eql (.tmp 15) (.const (.int .u64 0)), (some (12, true))⟩,
     ⟨(some 17), .pk (.tmp 12) (.tmp 16) (.const (.bool false)), none⟩,
     ⟨(some 18), .mv (.tmp 17), none⟩,
     ⟨(some 19), .call 42 [(.const (.int .u64 5))], (some (18, true))⟩,
     ⟨(some 20), .bin .eql (.tmp 19) (.const (.int .i64 2)), (some (18, true))⟩,
     ⟨(some 21), .pk (.tmp 18) (.tmp 20) (.const (.bool false)), none⟩,
     ⟨(some 0), .mv (.tmp 21), none⟩])
  .ret)))
def glyphiclaw24_first.f (k : Nat)  : Option (Bool) := (sweep_Fill_v1.f k ([] : List (Int × Int × Int × Int)) 0 0 2).bind fun t111 => (if (t111.length : Int) = 2 then ((lgt t111 0).bind fun x115 => (if x115 = 0 then ((lgt t111 1).bind fun x118 => (if x118 = 0 then ((sweep_Count_v1.f).bind fun _ => (some true)) else (some false))) else (some false))) else (some false))
theorem glyphiclaw24_first.ok {S : Seal} {k : Nat}  {r0_ : Bool}(e : glyphiclaw24_first.f k  = some r0_) :
    Cal Try.prog 40 [] [] S fun v H' S' => v = .bool r0_ ∧ H' = [] ∧ S' = S := by
  unfold glyphiclaw24_first.f at e
  refine cal_of (c := c40) (N := 22) Try.func40 rfl rfl (by kernel_rfl) (rs := [.t 0]) (by kernel_rfl) (Nat.le_of_ble_eq_true rfl) ?_
  unfold c40
  refine w_seq ?_
  refine w_reg fun all => ?_
  refine t_qz 1 [] (σ' := []) (by kernel_rfl) ?_
  refine t_end ?_
  show W _ _ _ _ _ _ _
  refine w_seq ?_
  refine w_reg fun all => ?_
  obtain ⟨t111, h112, e⟩ := bind_of e
  refine t_call (vs := [.slice none ([] : List (Int × Int × Int × Int)).length 0, .int .i64 0, .int .i64 0, .int .i64 2]) (H1 := ([] : List Own)) (F := ([] : List Own)) rfl rfl (by kernel_rfl) (sel_perm (is := []) (by kernel_rfl)) (sweep_Fill_v1.ok SlE.nil h112) ?_
  rintro _ _ S_ ⟨N113, nN113, rfl, rfl, hS_⟩
  obtain rfl := hS_.symm
  refine t_qz 1 [1] (σ' := [(1, .slice (ad N113) t111.length (nN113 / 1))]) (by kernel_rfl) ?_
  refine t_end ?_
  show W _ _ _ _ _ _ _
  refine w_seq ?_
  refine w_reg fun all => ?_
  by_cases c114 : (t111.length : Int) = 2
  · rw [if_pos c114] at e
    have c114b : ((t111.length : Int) == 2) = true := beq_iff_eq.mpr c114
    refine t_qz 2 [1, 4] (σ' := [(1, .slice (ad N113) t111.length (nN113 / 1)), (4, .int .i64 (t111.length : Int))]) (by kernel_rfl) ?_
    refine t_v (dv_quiet rfl (congrArg (fun t => some (Value.bool t)) c114b)) ?_
    obtain ⟨x115, hx116, e⟩ := bind_of e
    refine t_qz 2 [1, 6, 7] (σ' := [(1, .slice (ad N113) t111.length (nN113 / 1)), (6, .bool true), (7, .slice (ad N113) t111.length (nN113 / 1))]) (by kernel_rfl) ?_
    refine t_v (.quietH rfl (by intro h_; cases h_) (ixl (E := E_u64) (j := 0) rfl rfl rfl (by decide) rfl hx116)) ?_
    refine t_v (.ld1 rfl rfl rfl (.lst 0 rfl (encL_at (lgt_in hx116).1 rfl))) ?_
    by_cases c117 : x115 = 0
    · rw [if_pos c117] at e
      have c117b : (x115 == 0) = true := beq_iff_eq.mpr c117
      refine t_v (dv_quiet rfl (congrArg (fun t => some (Value.bool t)) c117b)) ?_
      obtain ⟨x118, hx119, e⟩ := bind_of e
      refine t_qz 3 [12, 13] (σ' := [(12, .bool true), (13, .slice (ad N113) t111.length (nN113 / 1))]) (by kernel_rfl) ?_
      refine t_v (.quietH rfl (by intro h_; cases h_) (ixl (E := E_u64) (j := 0) rfl rfl rfl (by decide) rfl hx119)) ?_
      refine t_v (.ld1 rfl rfl rfl (.lst 0 rfl (encL_at (lgt_in hx119).1 rfl))) ?_
      by_cases c120 : x118 = 0
      · rw [if_pos c120] at e
        have c120b : (x118 == 0) = true := beq_iff_eq.mpr c120
        refine t_v (dv_quiet rfl (congrArg (fun t => some (Value.bool t)) c120b)) ?_
        obtain ⟨u_, h122, e⟩ := bind_of e
        refine t_qz 2 [18] (σ' := [(18, .bool true)]) (by kernel_rfl) ?_
        refine t_v (.call (vs := [.int .u64 5]) rfl rfl (by kernel_rfl) (sweep_Count_v1.ok h122)) ?_
        refine t_qz 3 [0] (σ' := [(0, .bool true)]) (by kernel_rfl) ?_
        refine t_end ?_
        show W _ _ _ _ _ _ _
        refine w_ret ?_
        obtain rfl := Option.some.inj e
        exact ⟨[.bool true], [], S, ⟨rfl, trivial⟩, VS.none, rfl, rfl, rfl⟩
      · rw [if_neg c120] at e
        have c120b : (x118 == 0) = false := beq_eq_false_iff_ne.mpr c120
        refine t_v (dv_quiet rfl (congrArg (fun t => some (Value.bool t)) c120b)) ?_
        refine t_qz 6 [0] (σ' := [(0, .bool false)]) (by kernel_rfl) ?_
        refine t_end ?_
        show W _ _ _ _ _ _ _
        refine w_ret ?_
        obtain rfl := Option.some.inj e
        exact ⟨[.bool false], [], S, ⟨rfl, trivial⟩, VS.none, rfl, rfl, rfl⟩
    · rw [if_neg c117] at e
      have c117b : (x115 == 0) = false := beq_eq_false_iff_ne.mpr c117
      refine t_v (dv_quiet rfl (congrArg (fun t => some (Value.bool t)) c117b)) ?_
      refine t_qz 12 [0] (σ' := [(0, .bool false)]) (by kernel_rfl) ?_
      refine t_end ?_
      show W _ _ _ _ _ _ _
      refine w_ret ?_
      obtain rfl := Option.some.inj e
      exact ⟨[.bool false], [], S, ⟨rfl, trivial⟩, VS.none, rfl, rfl, rfl⟩
  · rw [if_neg c114] at e
    have c114b : ((t111.length : Int) == 2) = false := beq_eq_false_iff_ne.mpr c114
    refine t_qz 2 [1, 4] (σ' := [(1, .slice (ad N113) t111.length (nN113 / 1)), (4, .int .i64 (t111.length : Int))]) (by kernel_rfl) ?_
    refine t_v (dv_quiet rfl (congrArg (fun t => some (Value.bool t)) c114b)) ?_
    refine t_qz 17 [0] (σ' := [(0, .bool false)]) (by kernel_rfl) ?_
    refine t_end ?_
    show W _ _ _ _ _ _ _
    refine w_ret ?_
    obtain rfl := Option.some.inj e
    exact ⟨[.bool false], [], S, ⟨rfl, trivial⟩, VS.none, rfl, rfl, rfl⟩

/-- glyphicworld.Number -/
def c44 : C :=
  (.seq (.reg [⟨(some 4), .mv (.const (.int .i64 0)), none⟩])
  (.seq (.reg [⟨(some 6), .mv (.tmp 0), none⟩,
     ⟨(some 7), .mv (.tmp 1), none⟩,
     ⟨(some 8), .bin .rem (.tmp 6) (.tmp 7), none⟩,
     ⟨(some 5), .mv (.tmp 8), none⟩])
  (.seq (.seq (.reg [⟨(some 9), .mv (.tmp 5), none⟩,
      ⟨(some 10), .bin .lss (.tmp 9) (.const (.int .i64 0)), none⟩])
   (.cond (.tmp 10)
    (.reg [⟨(some 11), .mv (.tmp 5), none⟩,
       ⟨(some 12), .mv (.tmp 1), none⟩,
       ⟨(some 13), .bin .add (.tmp 11) (.tmp 12), none⟩,
       ⟨(some 5), .mv (.tmp 13), none⟩])
    .skip))
  (.seq (.reg [⟨(some 14), .mv (.tmp 5), none⟩,
     ⟨(some 4), .mv (.tmp 14), none⟩])
  .ret))))
def glyphicworld_Number.f (n0 : Int) (below1 : Int) : Option (Int) := if below1 = 0 then none else (if (Int.tmod n0 below1) < 0 then (some (wr64 ((Int.tmod n0 below1) + below1))) else (some (Int.tmod n0 below1)))
theorem glyphicworld_Number.ok {S : Seal} {n0 : Int} {below1 : Int} {r0_ : Int}(e : glyphicworld_Number.f n0 below1 = some r0_) :
    Cal Try.prog 44 [.int .i64 n0, .int .i64 below1] [] S fun v H' S' => v = .int .i64 r0_ ∧ H' = [] ∧ S' = S := by
  unfold glyphicworld_Number.f at e
  refine cal_of (c := c44) (N := 15) Try.func44 rfl rfl (by kernel_rfl) (rs := [.t 4]) (by kernel_rfl) (Nat.le_of_ble_eq_true rfl) ?_
  unfold c44
  refine w_seq ?_
  refine w_reg fun all => ?_
  refine t_qz 1 [0, 1] (σ' := [(0, .int .i64 n0), (1, .int .i64 below1)]) (by kernel_rfl) ?_
  refine t_end ?_
  show W _ _ _ _ _ _ _
  refine w_seq ?_
  refine w_reg fun all => ?_
  have c142 : ¬ below1 = 0 := by
    intro h_; rw [if_pos h_] at e; cases e
  rw [if_neg c142] at e
  refine t_qz 2 [1, 6, 7] (σ' := [(1, .int .i64 below1), (6, .int .i64 n0), (7, .int .i64 below1)]) (by kernel_rfl) ?_
  refine t_v (.quiet rfl (qv_rem rfl rfl c142)) ?_
  refine t_qz 1 [1, 5] (σ' := [(1, .int .i64 below1), (5, .int .i64 (Int.tmod n0 below1))]) (by kernel_rfl) ?_
  refine t_end ?_
  show W _ _ _ _ _ _ _
  refine w_seq ?_
  refine w_seq ?_
  refine w_reg fun all => ?_
  by_cases c143 : (Int.tmod n0 below1) < 0
  · rw [if_pos c143] at e
    have c143b : (decide ((Int.tmod n0 below1) < 0)) = true := decide_eq_true c143
    refine t_qz 1 [1, 5, 9] (σ' := [(1, .int .i64 below1), (5, .int .i64 (Int.tmod n0 below1)), (9, .int .i64 (Int.tmod n0 below1))]) (by kernel_rfl) ?_
    refine t_v (dv_quiet rfl (congrArg (fun t => some (Value.bool t)) c143b)) ?_
    refine t_keep [1, 5, 10] (σ' := [(1, .int .i64 below1), (5, .int .i64 (Int.tmod n0 below1)), (10, .bool true)]) (by kernel_rfl) ?_
    refine t_end ?_
    show W _ _ _ _ _ _ _
    refine w_cond rfl (fun _ => ?_) (fun c_ => by cases c_)
    show W _ _ _ _ _ _ _
    refine w_reg fun all => ?_
    refine t_qz 4 [5] (σ' := [(5, .int .i64 (wr64 ((Int.tmod n0 below1) + below1)))]) (by kernel_rfl) ?_
    refine t_end ?_
    show W _ _ _ _ _ _ _
    refine w_seq ?_
    refine w_reg fun all => ?_
    refine t_qz 2 [4] (σ' := [(4, .int .i64 (wr64 ((Int.tmod n0 below1) + below1)))]) (by kernel_rfl) ?_
    refine t_end ?_
    show W _ _ _ _ _ _ _
    refine w_ret ?_
    obtain rfl := Option.some.inj e
    exact ⟨[.int .i64 (wr64 ((Int.tmod n0 below1) + below1))], [], S, ⟨rfl, trivial⟩, VS.none, rfl, rfl, rfl⟩
  · rw [if_neg c143] at e
    have c143b : (decide ((Int.tmod n0 below1) < 0)) = false := decide_eq_false c143
    refine t_qz 1 [1, 5, 9] (σ' := [(1, .int .i64 below1), (5, .int .i64 (Int.tmod n0 below1)), (9, .int .i64 (Int.tmod n0 below1))]) (by kernel_rfl) ?_
    refine t_v (dv_quiet rfl (congrArg (fun t => some (Value.bool t)) c143b)) ?_
    refine t_keep [1, 5, 10] (σ' := [(1, .int .i64 below1), (5, .int .i64 (Int.tmod n0 below1)), (10, .bool false)]) (by kernel_rfl) ?_
    refine t_end ?_
    show W _ _ _ _ _ _ _
    refine w_cond rfl (fun c_ => by cases c_) (fun _ => ?_)
    show W _ _ _ _ _ _ _
    refine w_skip ?_
    show W _ _ _ _ _ _ _
    refine w_seq ?_
    refine w_reg fun all => ?_
    refine t_qz 2 [4] (σ' := [(4, .int .i64 (Int.tmod n0 below1))]) (by kernel_rfl) ?_
    refine t_end ?_
    show W _ _ _ _ _ _ _
    refine w_ret ?_
    obtain rfl := Option.some.inj e
    exact ⟨[.int .i64 (Int.tmod n0 below1)], [], S, ⟨rfl, trivial⟩, VS.none, rfl, rfl, rfl⟩

/-- (*glyphicmake.Seq).Next -/
def c37 : C :=
  (.seq (.reg [⟨(some 4), .mv (.const (.int .i64 0)), none⟩])
  (.seq (.reg [⟨(some 5), .mv (.const (.int .i64 0)), none⟩])
  (.seq (.seq (.drw [⟨(some 6), .mv (.tmp 0), none⟩,
      ⟨(some 7), .nck (.tmp 6), none⟩,
      ⟨(some 8), .pad 1 (.tmp 7), none⟩,
      ⟨(some 9), .ld none (.tmp 8), none⟩,
      ⟨(some 10), .mv (.tmp 0), none⟩,
      ⟨(some 11), .nck (.tmp 10), none⟩,
      ⟨(some 12), .pad 0 (.tmp 11), none⟩,
      ⟨(some 13), .ld none (.tmp 12), none⟩,
      ⟨(some 14), .lns (.tmp 13), none⟩,
      ⟨(some 15), .bin .lss (.tmp 9) (.tmp 14), none⟩] [[], [0], [1], [2], [], [4], [5], [6], [7], [3, 8]])
   (.cond (.tmp 15)
    (.drw [⟨(some 16), .mv (.tmp 0), none⟩,
       ⟨(some 17), .nck (.tmp 16), none⟩,
       ⟨(some 18), .pad 0 (.tmp 17), none⟩,
       ⟨(some 19), .ld none (.tmp 18), none⟩,
       ⟨(some 20), .mv (.tmp 0), none⟩,
       ⟨(some 21), .nck (.tmp 20), none⟩,
       ⟨(some 22), .pad 1 (.tmp 21), none⟩,
       ⟨(some 23), .ld none (.tmp 22), none⟩,
       ⟨(some 24), .ixs 1 (.tmp 19) (.tmp 23), none⟩,
       ⟨(some 25), .ld none (.tmp 24), none⟩,
       ⟨(some 5), .mv (.tmp 25), none⟩] [[], [0], [1], [2], [], [4], [5], [6], [3, 7], [8], [9, 0, 1, 2, 3, 4, 5, 6, 7, 8, 9]])
    .skip))
  (.seq (.reg [⟨(some 26), .mv (.tmp 0), none⟩,
     ⟨(some 27), .mv (.tmp 0), none⟩,
     ⟨(some 28), .nck (.tmp 27), none⟩,
     ⟨(some 29), .pad 1 (.tmp 28), none⟩,
     ⟨(some 30), .ld none (.tmp 29), none⟩,
     ⟨(some 31), .bin .add (.tmp 30) (.const (.int .i64 1)), none⟩,
     ⟨(some 32), .nck (.tmp 26), none⟩,
     ⟨(some 33), .pad 1 (.tmp 32), none⟩,
     ⟨none, .st 1 (.tmp 33) (.tmp 31), none⟩])
  (.seq (.reg [⟨(some 34), .mv (.tmp 5), none⟩,
     ⟨(some 35), .mv (.tmp 1), none⟩,
     ⟨(some 36), .call 44 [(.tmp 34), (.tmp 35)], none⟩,
     ⟨(some 4), .mv (.tmp 36), none⟩])
  .ret)))))
def glyphicmake_Seq_Next_v1.f (below1 : Int) (m0_0 : List (Int)) (m0_1 : Int) : Option (Int × Int) := (if m0_1 < (m0_0.length : Int) then ((lgt m0_0 m0_1).bind fun x150 => (some x150)) else (some 0) : Option (Int)).bind fun x160 => ((glyphicworld_Number.f x160 below1).bind fun t161 => (some (t161, wr64 (m0_1 + 1))))
theorem glyphicmake_Seq_Next_v1.ok {S : Seal} {B0 : Nat} {below1 : Int} {m0_0 : List (Int)} {m0_1 : Int} {r0_ : Int} {r1_ : Int}{a_m0_0 : Option Addr} {c_m0_0 : Nat} (h_m0_0 : SlE S E_i64 m0_0 a_m0_0) (e : glyphicmake_Seq_Next_v1.f below1 m0_0 m0_1 = some (r0_, r1_)) :
    Cal Try.prog 37 [.pointer (some ⟨B0, 0, none⟩), .int .i64 below1] ([⟨B0, [.slice a_m0_0 m0_0.length c_m0_0, .int .i64 m0_1], 2⟩] : List Own) S fun v H' S' => v = .int .i64 r0_ ∧ H' = ([⟨B0, [.slice a_m0_0 m0_0.length c_m0_0, .int .i64 r1_], 2⟩] : List Own) ∧ S' = S := by
  unfold glyphicmake_Seq_Next_v1.f at e
  refine cal_of (c := c37) (N := 37) Try.func37 rfl rfl (by kernel_rfl) (rs := [.t 4]) (by kernel_rfl) (Nat.le_of_ble_eq_true rfl) ?_
  unfold c37
  refine w_seq ?_
  refine w_reg fun all => ?_
  refine t_qz 1 [0, 1] (σ' := [(0, .pointer (some ⟨B0, 0, none⟩)), (1, .int .i64 below1)]) (by kernel_rfl) ?_
  refine t_end ?_
  show W _ _ _ _ _ _ _
  refine w_seq ?_
  refine w_reg fun all => ?_
  refine t_qz 1 [0, 1, 5] (σ' := [(0, .pointer (some ⟨B0, 0, none⟩)), (1, .int .i64 below1), (5, .int .i64 0)]) (by kernel_rfl) ?_
  refine t_end ?_
  show W _ _ _ _ _ _ _
  obtain ⟨x160, e147, e⟩ := bind_of e
  refine w_cut [0, 1, 5] (fun σ_ H_ S_ => [(0, .pointer (some ⟨B0, 0, none⟩)), (1, .int .i64 below1), (5, .int .i64 x160)] = σ_ ∧ ([⟨B0, [.slice a_m0_0 m0_0.length c_m0_0, .int .i64 m0_1], 2⟩] : List Own) = H_ ∧ S = S_) ?_ ?_
  · show W _ _ _ _ _ _ _
    refine w_seq ?_
    by_cases c149 : m0_1 < (m0_0.length : Int)
    · rw [if_pos c149] at e147
      have c149b : (decide (m0_1 < (m0_0.length : Int))) = true := decide_eq_true c149
      refine w_drwE mixed 10 [.v (.pointer (some ⟨B0, 0, none⟩)), .v (.pointer (some ⟨B0, 0, none⟩)), .v (.pointer (some ⟨B0, 1, none⟩)), .v (.int .i64 m0_1), .v (.pointer (some ⟨B0, 0, none⟩)), .v (.pointer (some ⟨B0, 0, none⟩)), .v (.pointer (some ⟨B0, 0, none⟩)), .v (.slice a_m0_0 m0_0.length c_m0_0), .v (.int .i64 (m0_0.length : Int)), .v (.bool true)] (by kernel_rfl) ?_ ?_
      · refine DI.sq 3 (by kernel_rfl) rfl ?_
        refine .cons (.ld1 rfl rfl rfl (.at 0 rfl rfl)) ?_
        refine DI.sq 3 (by kernel_rfl) rfl ?_
        refine .cons (.ld1 rfl rfl rfl (.at 0 rfl rfl)) ?_
        refine DI.sq 1 (by kernel_rfl) rfl ?_
        refine .cons (dv_quiet rfl (congrArg (fun t => some (Value.bool t)) c149b)) ?_
        exact .nil
      refine fk_q 10 [0, 1, 5, 15] (σ' := [(0, .pointer (some ⟨B0, 0, none⟩)), (1, .int .i64 below1), (5, .int .i64 0), (15, .bool true)]) t_more (by kernel_rfl) ?_
      refine fk_nil fun all => ?_
      refine t_keep [0, 1, 5, 15] (σ' := [(0, .pointer (some ⟨B0, 0, none⟩)), (1, .int .i64 below1), (5, .int .i64 0), (15, .bool true)]) (by kernel_rfl) ?_
      refine t_end ?_
      show W _ _ _ _ _ _ _
      refine w_cond rfl (fun _ => ?_) (fun c_ => by cases c_)
      show W _ _ _ _ _ _ _
      obtain ⟨x150, hx151, e147⟩ := bind_of e147
      obtain ⟨lb152, lo153, ll154, la155, lS156, lv157, lz158, lu159⟩ := sle_get (E := E_i64) h_m0_0 hx151
      refine w_drwE mixed 11 [.v (.pointer (some ⟨B0, 0, none⟩)), .v (.pointer (some ⟨B0, 0, none⟩)), .v (.pointer (some ⟨B0, 0, none⟩)), .v (.slice a_m0_0 m0_0.length c_m0_0), .v (.pointer (some ⟨B0, 0, none⟩)), .v (.pointer (some ⟨B0, 0, none⟩)), .v (.pointer (some ⟨B0, 1, none⟩)), .v (.int .i64 m0_1), .v (.pointer (some ⟨lb152, lo153 + (m0_1).toNat * 1 + 0, none⟩)), .v (.int .i64 x150), .v (.int .i64 x150)] (by kernel_rfl) ?_ ?_
      · refine DI.sq 3 (by kernel_rfl) rfl ?_
        refine .cons (.ld1 rfl rfl rfl (.at 0 rfl rfl)) ?_
        refine DI.sq 3 (by kernel_rfl) rfl ?_
        refine .cons (.ld1 rfl rfl rfl (.at 0 rfl rfl)) ?_
        refine .cons (.quiet rfl (ixs_sle rfl rfl la155 lz158 lu159)) ?_
        refine .cons (.ld1 rfl rfl rfl (.sealed lS156 (subl_at lv157 rfl))) ?_
        refine DI.sq 1 (by kernel_rfl) rfl ?_
        exact .nil
      refine fk_q 11 [0, 1, 5] (σ' := [(0, .pointer (some ⟨B0, 0, none⟩)), (1, .int .i64 below1), (5, .int .i64 x150)]) t_more (by kernel_rfl) ?_
      refine fk_nil fun all => ?_
      refine t_keep [0, 1, 5] (σ' := [(0, .pointer (some ⟨B0, 0, none⟩)), (1, .int .i64 below1), (5, .int .i64 x150)]) (by kernel_rfl) ?_
      refine t_end ?_
      obtain rfl := Option.some.inj e147
      exact ⟨([⟨B0, [.slice a_m0_0 m0_0.length c_m0_0, .int .i64 m0_1], 2⟩] : List Own), S, VS.sel [0] (by kernel_rfl), by kernel_rfl, rfl, rfl⟩
    · rw [if_neg c149] at e147
      have c149b : (decide (m0_1 < (m0_0.length : Int))) = false := decide_eq_false c149
      refine w_drwE mixed 10 [.v (.pointer (some ⟨B0, 0, none⟩)), .v (.pointer (some ⟨B0, 0, none⟩)), .v (.pointer (some ⟨B0, 1, none⟩)), .v (.int .i64 m0_1), .v (.pointer (some ⟨B0, 0, none⟩)), .v (.pointer (some ⟨B0, 0, none⟩)), .v (.pointer (some ⟨B0, 0, none⟩)), .v (.slice a_m0_0 m0_0.length c_m0_0), .v (.int .i64 (m0_0.length : Int)), .v (.bool false)] (by kernel_rfl) ?_ ?_
      · refine DI.sq 3 (by kernel_rfl) rfl ?_
        refine .cons (.ld1 rfl rfl rfl (.at 0 rfl rfl)) ?_
        refine DI.sq 3 (by kernel_rfl) rfl ?_
        refine .cons (.ld1 rfl rfl rfl (.at 0 rfl rfl)) ?_
        refine DI.sq 1 (by kernel_rfl) rfl ?_
        refine .cons (dv_quiet rfl (congrArg (fun t => some (Value.bool t)) c149b)) ?_
        exact .nil
      refine fk_q 10 [0, 1, 5, 15] (σ' := [(0, .pointer (some ⟨B0, 0, none⟩)), (1, .int .i64 below1), (5, .int .i64 0), (15, .bool false)]) t_more (by kernel_rfl) ?_
      refine fk_nil fun all => ?_
      refine t_keep [0, 1, 5, 15] (σ' := [(0, .pointer (some ⟨B0, 0, none⟩)), (1, .int .i64 below1), (5, .int .i64 0), (15, .bool false)]) (by kernel_rfl) ?_
      refine t_end ?_
      show W _ _ _ _ _ _ _
      refine w_cond rfl (fun c_ => by cases c_) (fun _ => ?_)
      show W _ _ _ _ _ _ _
      refine w_skip ?_
      obtain rfl := Option.some.inj e147
      exact ⟨([⟨B0, [.slice a_m0_0 m0_0.length c_m0_0, .int .i64 m0_1], 2⟩] : List Own), S, VS.sel [0] (by kernel_rfl), by kernel_rfl, rfl, rfl⟩
  · rintro σ_ H_ S_ ⟨rfl, rfl, rfl⟩
    refine w_seq ?_
    refine w_reg fun all => ?_
    refine t_qz 4 [1, 5, 26, 29] (σ' := [(1, .int .i64 below1), (5, .int .i64 x160), (26, .pointer (some ⟨B0, 0, none⟩)), (29, .pointer (some ⟨B0, 1, none⟩))]) (by kernel_rfl) ?_
    refine t_v (.ld1 rfl rfl rfl (.at 0 rfl rfl)) ?_
    refine t_qz 3 [1, 5, 31, 33] (σ' := [(1, .int .i64 below1), (5, .int .i64 x160), (31, .int .i64 (wr64 (m0_1 + 1))), (33, .pointer (some ⟨B0, 1, none⟩))]) (by kernel_rfl) ?_
    refine t_sti 0 (cs := [.slice a_m0_0 m0_0.length c_m0_0, .int .i64 (wr64 (m0_1 + 1))]) rfl rfl rfl rfl rfl rfl rfl rfl rfl ?_
    refine t_keep [1, 5] (σ' := [(1, .int .i64 below1), (5, .int .i64 x160)]) (by kernel_rfl) ?_
    refine t_end ?_
    show W _ _ _ _ _ _ _
    refine w_seq ?_
    refine w_reg fun all => ?_
    obtain ⟨t161, h162, e⟩ := bind_of e
    refine t_qz 2 [34, 35] (σ' := [(34, .int .i64 x160), (35, .int .i64 below1)]) (by kernel_rfl) ?_
    refine t_v (.call (vs := [.int .i64 x160, .int .i64 below1]) rfl rfl (by kernel_rfl) (glyphicworld_Number.ok h162)) ?_
    refine t_qz 1 [4] (σ' := [(4, .int .i64 t161)]) (by kernel_rfl) ?_
    refine t_end ?_
    show W _ _ _ _ _ _ _
    refine w_ret ?_
    simp only [Option.some.injEq, Prod.mk.injEq] at e
    obtain ⟨rfl, rfl⟩ := e
    exact ⟨[.int .i64 t161], ([⟨B0, [.slice a_m0_0 m0_0.length c_m0_0, .int .i64 (wr64 (m0_1 + 1))], 2⟩] : List Own), S, ⟨rfl, trivial⟩, VS.sel [0] (by kernel_rfl), rfl, rfl, rfl⟩

/-- glyphicmake.Point -/
def c18 : C :=
  (.seq (.reg [⟨(some 4), .new [(.int .i64 0), (.int .i64 0)], none⟩])
  (.seq (.reg [⟨(some 6), .mv (.tmp 0), none⟩,
     ⟨(some 7), .mv (.tmp 1), none⟩,
     ⟨(some 8), .bin .mul (.const (.int .i64 2)) (.tmp 7), none⟩,
     ⟨(some 9), .bin .add (.tmp 8) (.const (.int .i64 1)), none⟩,
     ⟨(some 10), .call 37 [(.tmp 6), (.tmp 9)], none⟩,
     ⟨(some 11), .mv (.tmp 1), none⟩,
     ⟨(some 12), .bin .sub (.tmp 10) (.tmp 11), none⟩,
     ⟨(some 5), .mv (.tmp 12), none⟩])
  (.seq (.reg [⟨(some 13), .mv (.tmp 5), none⟩,
     ⟨(some 14), .mv (.tmp 0), none⟩,
     ⟨(some 15), .mv (.tmp 1), none⟩,
     ⟨(some 16), .bin .mul (.const (.int .i64 2)) (.tmp 15), none⟩,
     ⟨(some 17), .bin .add (.tmp 16) (.const (.int .i64 1)), none⟩,
     ⟨(some 18), .call 37 [(.tmp 14), (.tmp 17)], none⟩,
     ⟨(some 19), .mv (.tmp 1), none⟩,
     ⟨(some 20), .bin .sub (.tmp 18) (.tmp 19), none⟩,
     ⟨(some 21), .bld [(.int .i64 0), (.int .i64 0)] [(0, 1, (.tmp 13)), (1, 1, (.tmp 20))], none⟩,
     ⟨none, .st 2 (.tmp 4) (.tmp 21), none⟩])
  .ret)))
def glyphicmake_Point_v1.f (far1 : Int) (m0_0 : List (Int)) (m0_1 : Int) : Option (Int × Int × Int) := (glyphicmake_Seq_Next_v1.f (wr64 ((wr64 (2 * far1)) + 1)) m0_0 m0_1).bind fun (t174, t175) => ((glyphicmake_Seq_Next_v1.f (wr64 ((wr64 (2 * far1)) + 1)) m0_0 t175).bind fun (t177, t178) => (some (wr64 (t174 - far1), wr64 (t177 - far1), t178)))
theorem glyphicmake_Point_v1.ok {S : Seal} {B0 : Nat} {far1 : Int} {m0_0 : List (Int)} {m0_1 : Int} {r0_ : Int} {r1_ : Int} {r2_ : Int}{a_m0_0 : Option Addr} {c_m0_0 : Nat} (h_m0_0 : SlE S E_i64 m0_0 a_m0_0) (e : glyphicmake_Point_v1.f far1 m0_0 m0_1 = some (r0_, r1_, r2_)) :
    Cal Try.prog 18 [.pointer (some ⟨B0, 0, none⟩), .int .i64 far1] ([⟨B0, [.slice a_m0_0 m0_0.length c_m0_0, .int .i64 m0_1], 2⟩] : List Own) S fun v H' S' => v = .agg #[.int .i64 r0_, .int .i64 r1_] ∧ H' = ([⟨B0, [.slice a_m0_0 m0_0.length c_m0_0, .int .i64 r2_], 2⟩] : List Own) ∧ S' = S := by
  unfold glyphicmake_Point_v1.f at e
  refine cal_of (c := c18) (N := 22) Try.func18 rfl rfl (by kernel_rfl) (rs := [.cn 2 4]) (by kernel_rfl) (Nat.le_of_ble_eq_true rfl) ?_
  unfold c18
  refine w_seq ?_
  refine w_reg fun all => ?_
  refine t_a (.new rfl rfl) fun b173 fb173 sb173 => ?_
  refine t_keep [0, 1, 4] (σ' := [(0, .pointer (some ⟨B0, 0, none⟩)), (1, .int .i64 far1), (4, .pointer (some ⟨b173, 0, none⟩))]) (by kernel_rfl) ?_
  refine t_end ?_
  show W _ _ _ _ _ _ _
  refine w_seq ?_
  refine w_reg fun all => ?_
  obtain ⟨⟨t174, t175⟩, h176, e⟩ := bind_of e
  try dsimp only at e
  refine t_qz 4 [0, 1, 4, 6, 9] (σ' := [(0, .pointer (some ⟨B0, 0, none⟩)), (1, .int .i64 far1), (4, .pointer (some ⟨b173, 0, none⟩)), (6, .pointer (some ⟨B0, 0, none⟩)), (9, .int .i64 (wr64 ((wr64 (2 * far1)) + 1)))]) (by kernel_rfl) ?_
  refine t_call (vs := [.pointer (some ⟨B0, 0, none⟩), .int .i64 (wr64 ((wr64 (2 * far1)) + 1))]) (H1 := ([⟨B0, [.slice a_m0_0 m0_0.length c_m0_0, .int .i64 m0_1], 2⟩] : List Own)) (F := ([⟨b173, [.int .i64 0, .int .i64 0], 2⟩] : List Own)) rfl rfl (by kernel_rfl) (sel_perm (is := [1]) (by kernel_rfl)) (glyphicmake_Seq_Next_v1.ok h_m0_0 h176) ?_
  rintro _ _ S_ ⟨rfl, rfl, hS_⟩
  obtain rfl := hS_.symm
  refine t_qz 3 [0, 1, 4, 5] (σ' := [(0, .pointer (some ⟨B0, 0, none⟩)), (1, .int .i64 far1), (4, .pointer (some ⟨b173, 0, none⟩)), (5, .int .i64 (wr64 (t174 - far1)))]) (by kernel_rfl) ?_
  refine t_end ?_
  show W _ _ _ _ _ _ _
  refine w_seq ?_
  refine w_reg fun all => ?_
  obtain ⟨⟨t177, t178⟩, h179, e⟩ := bind_of e
  try dsimp only at e
  refine t_qz 5 [1, 4, 13, 14, 17] (σ' := [(1, .int .i64 far1), (4, .pointer (some ⟨b173, 0, none⟩)), (13, .int .i64 (wr64 (t174 - far1))), (14, .pointer (some ⟨B0, 0, none⟩)), (17, .int .i64 (wr64 ((wr64 (2 * far1)) + 1)))]) (by kernel_rfl) ?_
  refine t_call (vs := [.pointer (some ⟨B0, 0, none⟩), .int .i64 (wr64 ((wr64 (2 * far1)) + 1))]) (H1 := ([⟨B0, [.slice a_m0_0 m0_0.length c_m0_0, .int .i64 t175], 2⟩] : List Own)) (F := ([⟨b173, [.int .i64 0, .int .i64 0], 2⟩] : List Own)) rfl rfl (by kernel_rfl) (sel_perm (is := [0]) (by kernel_rfl)) (glyphicmake_Seq_Next_v1.ok h_m0_0 h179) ?_
  rintro _ _ S_ ⟨rfl, rfl, hS_⟩
  obtain rfl := hS_.symm
  refine t_qz 3 [4, 21] (σ' := [(4, .pointer (some ⟨b173, 0, none⟩)), (21, .agg #[.int .i64 (wr64 (t174 - far1)), .int .i64 (wr64 (t177 - far1))])]) (by kernel_rfl) ?_
  refine t_sti 1 (cs := [.int .i64 (wr64 (t174 - far1)), .int .i64 (wr64 (t177 - far1))]) rfl rfl rfl rfl rfl rfl rfl rfl rfl ?_
  refine t_keep [4] (σ' := [(4, .pointer (some ⟨b173, 0, none⟩))]) (by kernel_rfl) ?_
  refine t_end ?_
  show W _ _ _ _ _ _ _
  refine w_ret ?_
  simp only [Option.some.injEq, Prod.mk.injEq] at e
  obtain ⟨rfl, rfl, rfl⟩ := e
  exact ⟨[.agg #[.int .i64 (wr64 (t174 - far1)), .int .i64 (wr64 (t177 - far1))]], ([⟨B0, [.slice a_m0_0 m0_0.length c_m0_0, .int .i64 t178], 2⟩] : List Own), S, ⟨⟨_, _, _, rfl, .at 1 rfl rfl, rfl⟩, trivial⟩, VS.sel [0] (by kernel_rfl), rfl, rfl, rfl⟩

/-- glyphicmake.Ring -/
def c43 : C :=
  (.seq (.reg [⟨(some 6), .mv (.const (.slice none 0 0)), none⟩])
  (.seq (.reg [⟨(some 13), .mv (.tmp 0), none⟩,
     ⟨(some 14), .mv (.tmp 1), none⟩,
     ⟨(some 15), .call 37 [(.tmp 13), (.tmp 14)], none⟩,
     ⟨(some 16), .bin .add (.const (.int .i64 3)) (.tmp 15), none⟩,
     ⟨(some 7), .mv (.tmp 16), none⟩])
  (.seq (.reg [⟨(some 17), .mv (.tmp 0), none⟩,
     ⟨(some 18), .mv (.tmp 2), none⟩,
     ⟨(some 19), .call 18 [(.tmp 17), (.tmp 18)], none⟩,
     ⟨(some 8), .new [(.int .i64 0), (.int .i64 0)], none⟩,
     ⟨none, .st 2 (.tmp 8) (.tmp 19), none⟩])
  (.seq (.reg [⟨(some 20), .ld (some 2) (.tmp 8), none⟩,
     ⟨(some 9), .new [(.int .i64 0), (.int .i64 0)], none⟩,
     ⟨none, .st 2 (.tmp 9) (.tmp 20), none⟩])
  (.seq (.reg [⟨(some 10), .mv (.const (.slice none 0 0)), none⟩])
  (.seq (.seq (.reg [⟨(some 11), .mv (.const (.int .i64 1)), none⟩])
   (.block 0 (.loop (.seq (.seq (.reg [⟨(some 21), .mv (.tmp 11), none⟩,
         ⟨(some 22), .mv (.tmp 7), none⟩,
         ⟨(some 23), .bin .lss (.tmp 21) (.tmp 22), none⟩])
      (.cond (.tmp 23)
       .skip
       (.exit 0)))
     (.seq (.block 1 (.seq (.reg [⟨(some 26), .mv (.tmp 0), none⟩,
          ⟨(some 27), .mv (.tmp 2), none⟩,
          ⟨(some 28), .call 18 [(.tmp 26), (.tmp 27)], none⟩,
          ⟨(some 12), .new [(.int .i64 0), (.int .i64 0)], none⟩,
          ⟨none, .st 2 (.tmp 12) (.tmp 28), none⟩])
       (.seq (.reg [⟨(some 29), .mv (.tmp 10), none⟩,
          ⟨(some 30), .ld (some 2) (.tmp 9), none⟩,
          ⟨(some 31), .ld (some 2) (.tmp 12), none⟩,
          ⟨(some 32), .bld [(.int .i64 0), (.int .i64 0), (.int .i64 0), (.int .i64 0)] [(0, 2, (.tmp 30)), (2, 2, (.tmp 31))], none⟩,
          ⟨(some 33), .bsl [(.int .i64 0), (.int .i64 0), (.int .i64 0), (.int .i64 0)] 1 [(0, 4, (.tmp 32))], none⟩,
          ⟨(some 34), .app 36 4 32 [(.int .i64 0), (.int .i64 0), (.int .i64 0), (.int .i64 0)] (.tmp 29) (.tmp 33), none⟩,
          ⟨(some 10), .mv (.tmp 34), none⟩])
       (.reg [⟨(some 35), .ld (some 2) (.tmp 12), none⟩,
         ⟨none, .st 2 (.tmp 9) (.tmp 35), none⟩]))))
     (.reg [⟨(some 24), .mv (.tmp 11), none⟩,
       ⟨(some 25), .bin .add (.tmp 24) (.const (.int .i64 1)), none⟩,
       ⟨(some 11), .mv (.tmp 25), none⟩]))))))
  (.seq (.reg [⟨(some 36), .mv (.tmp 10), none⟩,
     ⟨(some 37), .ld (some 2) (.tmp 9), none⟩,
     ⟨(some 38), .ld (some 2) (.tmp 8), none⟩,
     ⟨(some 39), .bld [(.int .i64 0), (.int .i64 0), (.int .i64 0), (.int .i64 0)] [(0, 2, (.tmp 37)), (2, 2, (.tmp 38))], none⟩,
     ⟨(some 40), .bsl [(.int .i64 0), (.int .i64 0), (.int .i64 0), (.int .i64 0)] 1 [(0, 4, (.tmp 39))], none⟩,
     ⟨(some 41), .app 36 4 32 [(.int .i64 0), (.int .i64 0), (.int .i64 0), (.int .i64 0)] (.tmp 36) (.tmp 40), none⟩,
     ⟨(some 6), .mv (.tmp 41), none⟩])
  .ret)))))))
def glyphicmake_Ring_v1.l0 : Nat → Int → List (Int) → Int → Int → List (Int × Int × Int × Int) → Int → Int → Int → Option (List (Int × Int × Int × Int) × Int × Int × Int)
  | 0, _, _, _, _, _, _, _, _ => none
  | k + 1, far2, m0_0, t216, x228, y230, x231, x232, x233 => if x228 < (wr64 (3 + t216)) then ((glyphicmake_Point_v1.f far2 m0_0 x233).bind fun (t235, t236, t237) => ((lapp y230 ([(x231, x232, t235, t236)] : List (Int × Int × Int × Int))).bind fun y241 => (glyphicmake_Ring_v1.l0 k far2 m0_0 t216 (wr64 (x228 + 1)) y241 t235 t236 t237))) else (some (y230, x231, x232, x233))
def glyphicmake_Ring_v1.f (k : Nat) (most1 : Int) (far2 : Int) (m0_0 : List (Int)) (m0_1 : Int) : Option (List (Int × Int × Int × Int) × Int) := (glyphicmake_Seq_Next_v1.f most1 m0_0 m0_1).bind fun (t216, t217) => ((glyphicmake_Point_v1.f far2 m0_0 t217).bind fun (t219, t220, t221) => ((glyphicmake_Ring_v1.l0 k far2 m0_0 t216 1 ([] : List (Int × Int × Int × Int)) t219 t220 t221 : Option (List (Int × Int × Int × Int) × Int × Int × Int)).bind fun (y247, x248, x249, x250) => ((lapp y247 ([(x248, x249, t219, t220)] : List (Int × Int × Int × Int))).bind fun y252 => (some (y252, x250)))))
theorem glyphicmake_Ring_v1.ok {S : Seal} {B0 : Nat} {k : Nat} {most1 : Int} {far2 : Int} {m0_0 : List (Int)} {m0_1 : Int} {r0_ : List (Int × Int × Int × Int)} {r1_ : Int}{a_m0_0 : Option Addr} {c_m0_0 : Nat} (h_m0_0 : SlE S E_i64 m0_0 a_m0_0) (e : glyphicmake_Ring_v1.f k most1 far2 m0_0 m0_1 = some (r0_, r1_)) :
    Cal Try.prog 43 [.pointer (some ⟨B0, 0, none⟩), .int .i64 most1, .int .i64 far2] ([⟨B0, [.slice a_m0_0 m0_0.length c_m0_0, .int .i64 m0_1], 2⟩] : List Own) S fun v H' S' => ∃ (N0_ : Option Nat) (nN0_ : Nat) , v = .slice (ad N0_) r0_.length (nN0_ / 4) ∧ H' = ([⟨N0_, encL E_i644 r0_, nN0_⟩, ⟨B0, [.slice a_m0_0 m0_0.length c_m0_0, .int .i64 r1_], 2⟩] : List Own) ∧ S' = S := by
  unfold glyphicmake_Ring_v1.f at e
  refine cal_of (c := c43) (N := 42) Try.func43 rfl rfl (by kernel_rfl) (rs := [.t 6]) (by kernel_rfl) (Nat.le_of_ble_eq_true rfl) ?_
  unfold c43
  refine w_seq ?_
  refine w_reg fun all => ?_
  refine t_qz 1 [0, 1, 2] (σ' := [(0, .pointer (some ⟨B0, 0, none⟩)), (1, .int .i64 most1), (2, .int .i64 far2)]) (by kernel_rfl) ?_
  refine t_end ?_
  show W _ _ _ _ _ _ _
  refine w_seq ?_
  refine w_reg fun all => ?_
  obtain ⟨⟨t216, t217⟩, h218, e⟩ := bind_of e
  try dsimp only at e
  refine t_qz 2 [0, 2, 13, 14] (σ' := [(0, .pointer (some ⟨B0, 0, none⟩)), (2, .int .i64 far2), (13, .pointer (some ⟨B0, 0, none⟩)), (14, .int .i64 most1)]) (by kernel_rfl) ?_
  refine t_call (vs := [.pointer (some ⟨B0, 0, none⟩), .int .i64 most1]) (H1 := ([⟨B0, [.slice a_m0_0 m0_0.length c_m0_0, .int .i64 m0_1], 2⟩] : List Own)) (F := ([] : List Own)) rfl rfl (by kernel_rfl) (sel_perm (is := [0]) (by kernel_rfl)) (glyphicmake_Seq_Next_v1.ok h_m0_0 h218) ?_
  rintro _ _ S_ ⟨rfl, rfl, hS_⟩
  obtain rfl := hS_.symm
  refine t_qz 2 [0, 2, 7] (σ' := [(0, .pointer (some ⟨B0, 0, none⟩)), (2, .int .i64 far2), (7, .int .i64 (wr64 (3 + t216)))]) (by kernel_rfl) ?_
  refine t_end ?_
  show W _ _ _ _ _ _ _
  refine w_seq ?_
  refine w_reg fun all => ?_
  obtain ⟨⟨t219, t220, t221⟩, h222, e⟩ := bind_of e
  try dsimp only at e
  refine t_qz 2 [0, 2, 7, 17, 18] (σ' := [(0, .pointer (some ⟨B0, 0, none⟩)), (2, .int .i64 far2), (7, .int .i64 (wr64 (3 + t216))), (17, .pointer (some ⟨B0, 0, none⟩)), (18, .int .i64 far2)]) (by kernel_rfl) ?_
  refine t_call (vs := [.pointer (some ⟨B0, 0, none⟩), .int .i64 far2]) (H1 := ([⟨B0, [.slice a_m0_0 m0_0.length c_m0_0, .int .i64 t217], 2⟩] : List Own)) (F := ([] : List Own)) rfl rfl (by kernel_rfl) (sel_perm (is := [0]) (by kernel_rfl)) (glyphicmake_Point_v1.ok h_m0_0 h222) ?_
  rintro _ _ S_ ⟨rfl, rfl, hS_⟩
  obtain rfl := hS_.symm
  refine t_a (.new rfl rfl) fun b223 fb223 sb223 => ?_
  refine t_sti 0 (cs := [.int .i64 t219, .int .i64 t220]) rfl rfl rfl rfl rfl rfl rfl rfl rfl ?_
  refine t_keep [0, 2, 7, 8] (σ' := [(0, .pointer (some ⟨B0, 0, none⟩)), (2, .int .i64 far2), (7, .int .i64 (wr64 (3 + t216))), (8, .pointer (some ⟨b223, 0, none⟩))]) (by kernel_rfl) ?_
  refine t_end ?_
  show W _ _ _ _ _ _ _
  refine w_seq ?_
  refine w_reg fun all => ?_
  refine t_v (.ldn rfl rfl rfl (.at 0 rfl rfl)) ?_
  refine t_a (.new rfl rfl) fun b224 fb224 sb224 => ?_
  refine t_sti 0 (cs := [.int .i64 t219, .int .i64 t220]) rfl rfl rfl rfl rfl rfl rfl rfl rfl ?_
  refine t_keep [0, 2, 7, 8, 9] (σ' := [(0, .pointer (some ⟨B0, 0, none⟩)), (2, .int .i64 far2), (7, .int .i64 (wr64 (3 + t216))), (8, .pointer (some ⟨b223, 0, none⟩)), (9, .pointer (some ⟨b224, 0, none⟩))]) (by kernel_rfl) ?_
  refine t_end ?_
  show W _ _ _ _ _ _ _
  refine w_seq ?_
  refine w_reg fun all => ?_
  refine t_qz 1 [0, 2, 7, 8, 9, 10] (σ' := [(0, .pointer (some ⟨B0, 0, none⟩)), (2, .int .i64 far2), (7, .int .i64 (wr64 (3 + t216))), (8, .pointer (some ⟨b223, 0, none⟩)), (9, .pointer (some ⟨b224, 0, none⟩)), (10, .slice none 0 0)]) (by kernel_rfl) ?_
  refine t_end ?_
  show W _ _ _ _ _ _ _
  obtain ⟨⟨y247, x248, x249, x250⟩, e226, e⟩ := bind_of e
  try dsimp only at e
  refine w_cut [8, 9, 10] (fun σ_ H_ S_ => ∃ (a246 : Option Nat) (na246 : Nat), [(8, .pointer (some ⟨b223, 0, none⟩)), (9, .pointer (some ⟨b224, 0, none⟩)), (10, .slice (ad a246) y247.length (na246 / 4))] = σ_ ∧ ([⟨b224, [.int .i64 x248, .int .i64 x249], 2⟩, ⟨b223, [.int .i64 t219, .int .i64 t220], 2⟩, ⟨B0, [.slice a_m0_0 m0_0.length c_m0_0, .int .i64 x250], 2⟩, ⟨a246, encL E_i644 y247, na246⟩] : List Own) = H_ ∧ S = S_) ?_ ?_
  · show W _ _ _ _ _ _ _
    refine w_seq ?_
    refine w_reg fun all => ?_
    refine t_qz 1 [0, 2, 7, 8, 9, 10, 11] (σ' := [(0, .pointer (some ⟨B0, 0, none⟩)), (2, .int .i64 far2), (7, .int .i64 (wr64 (3 + t216))), (8, .pointer (some ⟨b223, 0, none⟩)), (9, .pointer (some ⟨b224, 0, none⟩)), (10, .slice none 0 0), (11, .int .i64 1)]) (by kernel_rfl) ?_
    refine t_end ?_
    show W _ _ _ _ _ _ _
    refine w_block ?_
    refine w_vs VS.vac ?_
    refine w_kp [0, 2, 7, 8, 9, 10, 11] (σ' := [(0, .pointer (some ⟨B0, 0, none⟩)), (2, .int .i64 far2), (7, .int .i64 (wr64 (3 + t216))), (8, .pointer (some ⟨b223, 0, none⟩)), (9, .pointer (some ⟨b224, 0, none⟩)), (10, .slice (ad none) ([] : List (Int × Int × Int × Int)).length (0 / 4)), (11, .int .i64 1)]) (by kernel_rfl) ?_
    refine w_loop (fun n_ σ_ H_ S_ => ∃ (x228 : Int) (y230 : List (Int × Int × Int × Int)) (x231 : Int) (x232 : Int) (x233 : Int), ∃ (a229 : Option Nat) (na229 : Nat), [(0, .pointer (some ⟨B0, 0, none⟩)), (2, .int .i64 far2), (7, .int .i64 (wr64 (3 + t216))), (8, .pointer (some ⟨b223, 0, none⟩)), (9, .pointer (some ⟨b224, 0, none⟩)), (10, .slice (ad a229) y230.length (na229 / 4)), (11, .int .i64 x228)] = σ_ ∧ ([⟨a229, encL E_i644 y230, na229⟩, ⟨b224, [.int .i64 x231, .int .i64 x232], 2⟩, ⟨b223, [.int .i64 t219, .int .i64 t220], 2⟩, ⟨B0, [.slice a_m0_0 m0_0.length c_m0_0, .int .i64 x233], 2⟩] : List Own) = H_ ∧ S = S_ ∧ glyphicmake_Ring_v1.l0 n_ far2 m0_0 t216 x228 y230 x231 x232 x233 = some (y247, x248, x249, x250)) _ ⟨1, ([] : List (Int × Int × Int × Int)), t219, t220, t221, none, 0, rfl, rfl, rfl, e226⟩ ?_
    rintro n245 σ_ H_ S_ ⟨x228, y230, x231, x232, x233, a229, na229, rfl, rfl, rfl, e226⟩
    cases n245 with
    | zero => rw [glyphicmake_Ring_v1.l0.eq_1] at e226; cases e226
    | succ k_ =>
      rw [glyphicmake_Ring_v1.l0.eq_2] at e226
      refine w_seq ?_
      refine w_seq ?_
      refine w_reg fun all => ?_
      by_cases c234 : x228 < (wr64 (3 + t216))
      · rw [if_pos c234] at e226
        have c234b : (decide (x228 < (wr64 (3 + t216)))) = true := decide_eq_true c234
        refine t_qz 2 [0, 2, 7, 8, 9, 10, 11, 21, 22] (σ' := [(0, .pointer (some ⟨B0, 0, none⟩)), (2, .int .i64 far2), (7, .int .i64 (wr64 (3 + t216))), (8, .pointer (some ⟨b223, 0, none⟩)), (9, .pointer (some ⟨b224, 0, none⟩)), (10, .slice (ad a229) y230.length (na229 / 4)), (11, .int .i64 x228), (21, .int .i64 x228), (22, .int .i64 (wr64 (3 + t216)))]) (by kernel_rfl) ?_
        refine t_v (dv_quiet rfl (congrArg (fun t => some (Value.bool t)) c234b)) ?_
        refine t_keep [0, 2, 7, 8, 9, 10, 11, 23] (σ' := [(0, .pointer (some ⟨B0, 0, none⟩)), (2, .int .i64 far2), (7, .int .i64 (wr64 (3 + t216))), (8, .pointer (some ⟨b223, 0, none⟩)), (9, .pointer (some ⟨b224, 0, none⟩)), (10, .slice (ad a229) y230.length (na229 / 4)), (11, .int .i64 x228), (23, .bool true)]) (by kernel_rfl) ?_
        refine t_end ?_
        show W _ _ _ _ _ _ _
        refine w_cond rfl (fun _ => ?_) (fun c_ => by cases c_)
        show W _ _ _ _ _ _ _
        refine w_skip ?_
        show W _ _ _ _ _ _ _
        refine w_seq ?_
        refine w_block ?_
        refine w_seq ?_
        refine w_reg fun all => ?_
        obtain ⟨⟨t235, t236, t237⟩, h238, e226⟩ := bind_of e226
        try dsimp only at e226
        refine t_qz 2 [0, 2, 7, 8, 9, 10, 11, 26, 27] (σ' := [(0, .pointer (some ⟨B0, 0, none⟩)), (2, .int .i64 far2), (7, .int .i64 (wr64 (3 + t216))), (8, .pointer (some ⟨b223, 0, none⟩)), (9, .pointer (some ⟨b224, 0, none⟩)), (10, .slice (ad a229) y230.length (na229 / 4)), (11, .int .i64 x228), (26, .pointer (some ⟨B0, 0, none⟩)), (27, .int .i64 far2)]) (by kernel_rfl) ?_
        refine t_call (vs := [.pointer (some ⟨B0, 0, none⟩), .int .i64 far2]) (H1 := ([⟨B0, [.slice a_m0_0 m0_0.length c_m0_0, .int .i64 x233], 2⟩] : List Own)) (F := ([⟨a229, encL E_i644 y230, na229⟩, ⟨b224, [.int .i64 x231, .int .i64 x232], 2⟩, ⟨b223, [.int .i64 t219, .int .i64 t220], 2⟩] : List Own)) rfl rfl (by kernel_rfl) (sel_perm (is := [3]) (by kernel_rfl)) (glyphicmake_Point_v1.ok h_m0_0 h238) ?_
        rintro _ _ S_ ⟨rfl, rfl, hS_⟩
        obtain rfl := hS_.symm
        refine t_a (.new rfl rfl) fun b239 fb239 sb239 => ?_
        refine t_sti 0 (cs := [.int .i64 t235, .int .i64 t236]) rfl rfl rfl rfl rfl rfl rfl rfl rfl ?_
        refine t_keep [0, 2, 7, 8, 9, 10, 11, 12] (σ' := [(0, .pointer (some ⟨B0, 0, none⟩)), (2, .int .i64 far2), (7, .int .i64 (wr64 (3 + t216))), (8, .pointer (some ⟨b223, 0, none⟩)), (9, .pointer (some ⟨b224, 0, none⟩)), (10, .slice (ad a229) y230.length (na229 / 4)), (11, .int .i64 x228), (12, .pointer (some ⟨b239, 0, none⟩))]) (by kernel_rfl) ?_
        refine t_end ?_
        show W _ _ _ _ _ _ _
        refine w_seq ?_
        refine w_reg fun all => ?_
        refine t_qz 1 [0, 2, 7, 8, 9, 11, 12, 29] (σ' := [(0, .pointer (some ⟨B0, 0, none⟩)), (2, .int .i64 far2), (7, .int .i64 (wr64 (3 + t216))), (8, .pointer (some ⟨b223, 0, none⟩)), (9, .pointer (some ⟨b224, 0, none⟩)), (11, .int .i64 x228), (12, .pointer (some ⟨b239, 0, none⟩)), (29, .slice (ad a229) y230.length (na229 / 4))]) (by kernel_rfl) ?_
        refine t_v (.ldn rfl rfl rfl (.at 3 rfl rfl)) ?_
        refine t_v (.ldn rfl rfl rfl (.at 0 rfl rfl)) ?_
        refine t_qz 1 [0, 2, 7, 8, 9, 11, 12, 29, 32] (σ' := [(0, .pointer (some ⟨B0, 0, none⟩)), (2, .int .i64 far2), (7, .int .i64 (wr64 (3 + t216))), (8, .pointer (some ⟨b223, 0, none⟩)), (9, .pointer (some ⟨b224, 0, none⟩)), (11, .int .i64 x228), (12, .pointer (some ⟨b239, 0, none⟩)), (29, .slice (ad a229) y230.length (na229 / 4)), (32, .agg #[.int .i64 x231, .int .i64 x232, .int .i64 t235, .int .i64 t236])]) (by kernel_rfl) ?_
        refine t_a (.bsl rfl rfl rfl rfl) fun b240 fb240 sb240 => ?_
        obtain ⟨y241, hl242, e226⟩ := bind_of e226
        refine t_appX (E := E_i644) (L := y230) (X := ([(x231, x232, t235, t236)] : List (Int × Int × Int × Int))) (F := ([⟨b240, [.int .i64 x231, .int .i64 x232, .int .i64 t235, .int .i64 t236], 4⟩, ⟨b239, [.int .i64 t235, .int .i64 t236], 2⟩, ⟨B0, [.slice a_m0_0 m0_0.length c_m0_0, .int .i64 t237], 2⟩, ⟨b224, [.int .i64 x231, .int .i64 x232], 2⟩, ⟨b223, [.int .i64 t219, .int .i64 t220], 2⟩] : List Own)) rfl rfl rfl rfl (sel_perm (is := [3]) (by kernel_rfl)) rfl (Or.inr ⟨_, _, rfl, .at 0 rfl (by kernel_rfl)⟩) rfl (by decide) (by decide) rfl hl242 fun a243 na243 => ?_
        refine t_qz 1 [0, 2, 7, 8, 9, 10, 11, 12] (σ' := [(0, .pointer (some ⟨B0, 0, none⟩)), (2, .int .i64 far2), (7, .int .i64 (wr64 (3 + t216))), (8, .pointer (some ⟨b223, 0, none⟩)), (9, .pointer (some ⟨b224, 0, none⟩)), (10, .slice (ad a243) y241.length (na243 / 4)), (11, .int .i64 x228), (12, .pointer (some ⟨b239, 0, none⟩))]) (by kernel_rfl) ?_
        refine t_end ?_
        show W _ _ _ _ _ _ _
        refine w_reg fun all => ?_
        refine t_v (.ldn rfl rfl rfl (.at 2 rfl rfl)) ?_
        refine t_sti 4 (cs := [.int .i64 t235, .int .i64 t236]) rfl rfl rfl rfl rfl rfl rfl rfl rfl ?_
        refine t_keep [0, 2, 7, 8, 9, 10, 11] (σ' := [(0, .pointer (some ⟨B0, 0, none⟩)), (2, .int .i64 far2), (7, .int .i64 (wr64 (3 + t216))), (8, .pointer (some ⟨b223, 0, none⟩)), (9, .pointer (some ⟨b224, 0, none⟩)), (10, .slice (ad a243) y241.length (na243 / 4)), (11, .int .i64 x228)]) (by kernel_rfl) ?_
        refine t_end ?_
        show W _ _ _ _ _ _ _
        refine w_reg fun all => ?_
        refine t_qz 3 [0, 2, 7, 8, 9, 10, 11] (σ' := [(0, .pointer (some ⟨B0, 0, none⟩)), (2, .int .i64 far2), (7, .int .i64 (wr64 (3 + t216))), (8, .pointer (some ⟨b223, 0, none⟩)), (9, .pointer (some ⟨b224, 0, none⟩)), (10, .slice (ad a243) y241.length (na243 / 4)), (11, .int .i64 (wr64 (x228 + 1)))]) (by kernel_rfl) ?_
        refine t_end ?_
        exact ⟨k_, Nat.lt_succ_self _, [(0, .pointer (some ⟨B0, 0, none⟩)), (2, .int .i64 far2), (7, .int .i64 (wr64 (3 + t216))), (8, .pointer (some ⟨b223, 0, none⟩)), (9, .pointer (some ⟨b224, 0, none⟩)), (10, .slice (ad a243) y241.length (na243 / 4)), (11, .int .i64 (wr64 (x228 + 1)))], ([⟨a243, encL E_i644 y241, na243⟩, ⟨b224, [.int .i64 t235, .int .i64 t236], 2⟩, ⟨b223, [.int .i64 t219, .int .i64 t220], 2⟩, ⟨B0, [.slice a_m0_0 m0_0.length c_m0_0, .int .i64 t237], 2⟩] : List Own), S, keep_sub [0, 2, 7, 8, 9, 10, 11] (by kernel_rfl), VS.sel [0, 3, 3, 2] (by kernel_rfl), wr64 (x228 + 1), y241, t235, t236, t237, a243, na243, rfl, rfl, rfl, e226⟩
      · rw [if_neg c234] at e226
        have c234b : (decide (x228 < (wr64 (3 + t216)))) = false := decide_eq_false c234
        refine t_qz 2 [0, 2, 7, 8, 9, 10, 11, 21, 22] (σ' := [(0, .pointer (some ⟨B0, 0, none⟩)), (2, .int .i64 far2), (7, .int .i64 (wr64 (3 + t216))), (8, .pointer (some ⟨b223, 0, none⟩)), (9, .pointer (some ⟨b224, 0, none⟩)), (10, .slice (ad a229) y230.length (na229 / 4)), (11, .int .i64 x228), (21, .int .i64 x228), (22, .int .i64 (wr64 (3 + t216)))]) (by kernel_rfl) ?_
        refine t_v (dv_quiet rfl (congrArg (fun t => some (Value.bool t)) c234b)) ?_
        refine t_keep [0, 2, 7, 8, 9, 10, 11, 23] (σ' := [(0, .pointer (some ⟨B0, 0, none⟩)), (2, .int .i64 far2), (7, .int .i64 (wr64 (3 + t216))), (8, .pointer (some ⟨b223, 0, none⟩)), (9, .pointer (some ⟨b224, 0, none⟩)), (10, .slice (ad a229) y230.length (na229 / 4)), (11, .int .i64 x228), (23, .bool false)]) (by kernel_rfl) ?_
        refine t_end ?_
        show W _ _ _ _ _ _ _
        refine w_cond rfl (fun c_ => by cases c_) (fun _ => ?_)
        show W _ _ _ _ _ _ _
        refine w_exit ?_
        simp only [Option.some.injEq, Prod.mk.injEq] at e226
        obtain ⟨rfl, rfl, rfl, rfl⟩ := e226
        exact ⟨([⟨b224, [.int .i64 x231, .int .i64 x232], 2⟩, ⟨b223, [.int .i64 t219, .int .i64 t220], 2⟩, ⟨B0, [.slice a_m0_0 m0_0.length c_m0_0, .int .i64 x233], 2⟩, ⟨a229, encL E_i644 y230, na229⟩] : List Own), S, VS.sel [1, 1, 1, 0] (by kernel_rfl), a229, na229, by kernel_rfl, rfl, rfl⟩
  · rintro σ_ H_ S_ ⟨a246, na246, rfl, rfl, rfl⟩
    refine w_seq ?_
    refine w_reg fun all => ?_
    refine t_qz 1 [8, 9, 36] (σ' := [(8, .pointer (some ⟨b223, 0, none⟩)), (9, .pointer (some ⟨b224, 0, none⟩)), (36, .slice (ad a246) y247.length (na246 / 4))]) (by kernel_rfl) ?_
    refine t_v (.ldn rfl rfl rfl (.at 0 rfl rfl)) ?_
    refine t_v (.ldn rfl rfl rfl (.at 1 rfl rfl)) ?_
    refine t_qz 1 [36, 39] (σ' := [(36, .slice (ad a246) y247.length (na246 / 4)), (39, .agg #[.int .i64 x248, .int .i64 x249, .int .i64 t219, .int .i64 t220])]) (by kernel_rfl) ?_
    refine t_a (.bsl rfl rfl rfl rfl) fun b251 fb251 sb251 => ?_
    obtain ⟨y252, hl253, e⟩ := bind_of e
    refine t_appX (E := E_i644) (L := y247) (X := ([(x248, x249, t219, t220)] : List (Int × Int × Int × Int))) (F := ([⟨b251, [.int .i64 x248, .int .i64 x249, .int .i64 t219, .int .i64 t220], 4⟩, ⟨b224, [.int .i64 x248, .int .i64 x249], 2⟩, ⟨b223, [.int .i64 t219, .int .i64 t220], 2⟩, ⟨B0, [.slice a_m0_0 m0_0.length c_m0_0, .int .i64 x250], 2⟩] : List Own)) rfl rfl rfl rfl (sel_perm (is := [4]) (by kernel_rfl)) rfl (Or.inr ⟨_, _, rfl, .at 0 rfl (by kernel_rfl)⟩) rfl (by decide) (by decide) rfl hl253 fun a254 na254 => ?_
    refine t_qz 1 [6] (σ' := [(6, .slice (ad a254) y252.length (na254 / 4))]) (by kernel_rfl) ?_
    refine t_end ?_
    show W _ _ _ _ _ _ _
    refine w_ret ?_
    simp only [Option.some.injEq, Prod.mk.injEq] at e
    obtain ⟨rfl, rfl⟩ := e
    exact ⟨[.slice (ad a254) y252.length (na254 / 4)], ([⟨a254, encL E_i644 y252, na254⟩, ⟨B0, [.slice a_m0_0 m0_0.length c_m0_0, .int .i64 x250], 2⟩] : List Own), S, ⟨rfl, trivial⟩, VS.sel [0, 3] (by kernel_rfl), a254, na254, rfl, rfl, rfl⟩

/-- plane.Dot -/
def c104 : C :=
  (.seq (.reg [⟨(some 3), .box (.tmp 0), none⟩,
     ⟨(some 4), .box (.tmp 1), none⟩,
     ⟨(some 5), .box (.tmp 2), none⟩,
     ⟨(some 6), .mv (.const (.int .i64 0)), none⟩])
  (.seq (.drw [⟨(some 9), .ld (some 2) (.tmp 4), none⟩,
     ⟨(some 10), .ld (some 2) (.tmp 3), none⟩,
     ⟨(some 11), .call 116 [(.tmp 9), (.tmp 10)], none⟩,
     ⟨(some 12), .ld (some 2) (.tmp 5), none⟩,
     ⟨(some 13), .ld (some 2) (.tmp 3), none⟩,
     ⟨(some 14), .call 116 [(.tmp 12), (.tmp 13)], none⟩,
     ⟨(some 7), .new [(.int .i64 0), (.int .i64 0)], none⟩,
     ⟨(some 8), .new [(.int .i64 0), (.int .i64 0)], none⟩,
     ⟨none, .st 2 (.tmp 7) (.tmp 11), none⟩,
     ⟨none, .st 2 (.tmp 8) (.tmp 14), none⟩] [[], [], [0, 1], [], [], [3, 4, 2], [], [], [6, 2, 5, 0, 1, 2, 6, 7], [7, 5, 8, 0, 1, 2, 3, 4, 5, 6, 7, 8]])
  (.seq (.reg [⟨(some 15), .pad 0 (.tmp 7), none⟩,
     ⟨(some 16), .ld none (.tmp 15), none⟩,
     ⟨(some 17), .pad 0 (.tmp 8), none⟩,
     ⟨(some 18), .ld none (.tmp 17), none⟩,
     ⟨(some 19), .bin .mul (.tmp 16) (.tmp 18), none⟩,
     ⟨(some 20), .pad 1 (.tmp 7), none⟩,
     ⟨(some 21), .ld none (.tmp 20), none⟩,
     ⟨(some 22), .pad 1 (.tmp 8), none⟩,
     ⟨(some 23), .ld none (.tmp 22), none⟩,
     ⟨(some 24), .bin .mul (.tmp 21) (.tmp 23), none⟩,
     ⟨(some 25), .bin .add (.tmp 19) (.tmp 24), none⟩,
     ⟨(some 6), .mv (.tmp 25), none⟩])
  .ret)))
def plane_Dot.f (a0_X : Int) (a0_Y : Int) (b1_X : Int) (b1_Y : Int) (p2_X : Int) (p2_Y : Int) : Option (Int) := (plane_Sub.f b1_X b1_Y a0_X a0_Y).bind fun (t367, t368) => ((plane_Sub.f p2_X p2_Y a0_X a0_Y).bind fun (t370, t371) => (some (wr64 ((wr64 (t367 * t370)) + (wr64 (t368 * t371))))))
theorem plane_Dot.ok {S : Seal} {a0_X : Int} {a0_Y : Int} {b1_X : Int} {b1_Y : Int} {p2_X : Int} {p2_Y : Int} {r0_ : Int}(e : plane_Dot.f a0_X a0_Y b1_X b1_Y p2_X p2_Y = some r0_) :
    Cal Try.prog 104 [.agg #[.int .i64 a0_X, .int .i64 a0_Y], .agg #[.int .i64 b1_X, .int .i64 b1_Y], .agg #[.int .i64 p2_X, .int .i64 p2_Y]] [] S fun v H' S' => v = .int .i64 r0_ ∧ H' = [] ∧ S' = S := by
  unfold plane_Dot.f at e
  refine cal_of (c := c104) (N := 26) Try.func104 rfl rfl (by kernel_rfl) (rs := [.t 6]) (by kernel_rfl) (Nat.le_of_ble_eq_true rfl) ?_
  unfold c104
  refine w_seq ?_
  refine w_reg fun all => ?_
  refine t_a (.box rfl rfl rfl) fun b364 fb364 sb364 => ?_
  refine t_a (.box rfl rfl rfl) fun b365 fb365 sb365 => ?_
  refine t_a (.box rfl rfl rfl) fun b366 fb366 sb366 => ?_
  refine t_qz 1 [3, 4, 5] (σ' := [(3, .pointer (some ⟨b364, 0, none⟩)), (4, .pointer (some ⟨b365, 0, none⟩)), (5, .pointer (some ⟨b366, 0, none⟩))]) (by kernel_rfl) ?_
  refine t_end ?_
  show W _ _ _ _ _ _ _
  refine w_seq ?_
  obtain ⟨⟨t367, t368⟩, h369, e⟩ := bind_of e
  try dsimp only at e
  obtain ⟨⟨t370, t371⟩, h372, e⟩ := bind_of e
  try dsimp only at e
  refine w_drwE mixed 8 [.v (.agg #[.int .i64 b1_X, .int .i64 b1_Y]), .v (.agg #[.int .i64 a0_X, .int .i64 a0_Y]), .v (.agg #[.int .i64 t367, .int .i64 t368]), .v (.agg #[.int .i64 p2_X, .int .i64 p2_Y]), .v (.agg #[.int .i64 a0_X, .int .i64 a0_Y]), .v (.agg #[.int .i64 t370, .int .i64 t371]), .a [.int .i64 0, .int .i64 0] ptrTo, .a [.int .i64 0, .int .i64 0] ptrTo] (by kernel_rfl) ?_ ?_
  · refine .cons (.ldn rfl rfl rfl (.at 1 rfl rfl)) ?_
    refine .cons (.ldn rfl rfl rfl (.at 2 rfl rfl)) ?_
    refine .cons (.call (vs := [.agg #[.int .i64 b1_X, .int .i64 b1_Y], .agg #[.int .i64 a0_X, .int .i64 a0_Y]]) rfl rfl (by kernel_rfl) (plane_Sub.ok h369)) ?_
    refine .cons (.ldn rfl rfl rfl (.at 0 rfl rfl)) ?_
    refine .cons (.ldn rfl rfl rfl (.at 2 rfl rfl)) ?_
    refine .cons (.call (vs := [.agg #[.int .i64 p2_X, .int .i64 p2_Y], .agg #[.int .i64 a0_X, .int .i64 a0_Y]]) rfl rfl (by kernel_rfl) (plane_Sub.ok h372)) ?_
    refine .cons (.new rfl rfl) ?_
    refine .cons (.new rfl rfl) ?_
    exact .nil
  refine fk_q 6 [11, 14] (σ' := [(11, .agg #[.int .i64 t367, .int .i64 t368]), (14, .agg #[.int .i64 t370, .int .i64 t371])]) t_more (by kernel_rfl) ?_
  refine fk_a fun b373 fb373 sb373 => ?_
  refine fk_a fun b374 fb374 sb374 => ?_
  refine fk_nil fun all => ?_
  refine t_sti 1 (cs := [.int .i64 t367, .int .i64 t368]) rfl rfl rfl rfl rfl rfl rfl rfl rfl ?_
  refine t_sti 0 (cs := [.int .i64 t370, .int .i64 t371]) rfl rfl rfl rfl rfl rfl rfl rfl rfl ?_
  refine t_keep [7, 8] (σ' := [(7, .pointer (some ⟨b373, 0, none⟩)), (8, .pointer (some ⟨b374, 0, none⟩))]) (by kernel_rfl) ?_
  refine t_end ?_
  show W _ _ _ _ _ _ _
  refine w_seq ?_
  refine w_reg fun all => ?_
  refine t_qz 1 [7, 8, 15] (σ' := [(7, .pointer (some ⟨b373, 0, none⟩)), (8, .pointer (some ⟨b374, 0, none⟩)), (15, .pointer (some ⟨b373, 0, none⟩))]) (by kernel_rfl) ?_
  refine t_v (.ld1 rfl rfl rfl (.at 1 rfl rfl)) ?_
  refine t_qz 1 [7, 8, 16, 17] (σ' := [(7, .pointer (some ⟨b373, 0, none⟩)), (8, .pointer (some ⟨b374, 0, none⟩)), (16, .int .i64 t367), (17, .pointer (some ⟨b374, 0, none⟩))]) (by kernel_rfl) ?_
  refine t_v (.ld1 rfl rfl rfl (.at 0 rfl rfl)) ?_
  refine t_qz 2 [8, 19, 20] (σ' := [(8, .pointer (some ⟨b374, 0, none⟩)), (19, .int .i64 (wr64 (t367 * t370))), (20, .pointer (some ⟨b373, 1, none⟩))]) (by kernel_rfl) ?_
  refine t_v (.ld1 rfl rfl rfl (.at 1 rfl rfl)) ?_
  refine t_qz 1 [19, 21, 22] (σ' := [(19, .int .i64 (wr64 (t367 * t370))), (21, .int .i64 t368), (22, .pointer (some ⟨b374, 1, none⟩))]) (by kernel_rfl) ?_
  refine t_v (.ld1 rfl rfl rfl (.at 0 rfl rfl)) ?_
  refine t_qz 3 [6] (σ' := [(6, .int .i64 (wr64 ((wr64 (t367 * t370)) + (wr64 (t368 * t371)))))]) (by kernel_rfl) ?_
  refine t_end ?_
  show W _ _ _ _ _ _ _
  refine w_ret ?_
  obtain rfl := Option.some.inj e
  exact ⟨[.int .i64 (wr64 ((wr64 (t367 * t370)) + (wr64 (t368 * t371))))], [], S, ⟨rfl, trivial⟩, VS.none, rfl, rfl, rfl⟩

/-- plane.Len2 -/
def c90 : C :=
  (.seq (.reg [⟨(some 2), .box (.tmp 0), none⟩,
     ⟨(some 3), .box (.tmp 1), none⟩,
     ⟨(some 4), .mv (.const (.int .i64 0)), none⟩])
  (.seq (.reg [⟨(some 5), .ld (some 2) (.tmp 2), none⟩,
     ⟨(some 6), .ld (some 2) (.tmp 3), none⟩,
     ⟨(some 7), .ld (some 2) (.tmp 3), none⟩,
     ⟨(some 8), .call 104 [(.tmp 5), (.tmp 6), (.tmp 7)], none⟩,
     ⟨(some 4), .mv (.tmp 8), none⟩])
  .ret))
def plane_Len2.f (a0_X : Int) (a0_Y : Int) (b1_X : Int) (b1_Y : Int) : Option (Int) := (plane_Dot.f a0_X a0_Y b1_X b1_Y b1_X b1_Y).bind fun t379 => (some t379)
theorem plane_Len2.ok {S : Seal} {a0_X : Int} {a0_Y : Int} {b1_X : Int} {b1_Y : Int} {r0_ : Int}(e : plane_Len2.f a0_X a0_Y b1_X b1_Y = some r0_) :
    Cal Try.prog 90 [.agg #[.int .i64 a0_X, .int .i64 a0_Y], .agg #[.int .i64 b1_X, .int .i64 b1_Y]] [] S fun v H' S' => v = .int .i64 r0_ ∧ H' = [] ∧ S' = S := by
  unfold plane_Len2.f at e
  refine cal_of (c := c90) (N := 9) Try.func90 rfl rfl (by kernel_rfl) (rs := [.t 4]) (by kernel_rfl) (Nat.le_of_ble_eq_true rfl) ?_
  unfold c90
  refine w_seq ?_
  refine w_reg fun all => ?_
  refine t_a (.box rfl rfl rfl) fun b377 fb377 sb377 => ?_
  refine t_a (.box rfl rfl rfl) fun b378 fb378 sb378 => ?_
  refine t_qz 1 [2, 3] (σ' := [(2, .pointer (some ⟨b377, 0, none⟩)), (3, .pointer (some ⟨b378, 0, none⟩))]) (by kernel_rfl) ?_
  refine t_end ?_
  show W _ _ _ _ _ _ _
  refine w_seq ?_
  refine w_reg fun all => ?_
  refine t_v (.ldn rfl rfl rfl (.at 1 rfl rfl)) ?_
  refine t_v (.ldn rfl rfl rfl (.at 0 rfl rfl)) ?_
  refine t_v (.ldn rfl rfl rfl (.at 0 rfl rfl)) ?_
  obtain ⟨t379, h380, e⟩ := bind_of e
  refine t_v (.call (vs := [.agg #[.int .i64 a0_X, .int .i64 a0_Y], .agg #[.int .i64 b1_X, .int .i64 b1_Y], .agg #[.int .i64 b1_X, .int .i64 b1_Y]]) rfl rfl (by kernel_rfl) (plane_Dot.ok h380)) ?_
  refine t_qz 1 [4] (σ' := [(4, .int .i64 t379)]) (by kernel_rfl) ?_
  refine t_end ?_
  show W _ _ _ _ _ _ _
  refine w_ret ?_
  obtain rfl := Option.some.inj e
  exact ⟨[.int .i64 t379], [], S, ⟨rfl, trivial⟩, VS.none, rfl, rfl, rfl⟩

/-- plane.within$1 -/
def c117 : C :=
  (.seq (.reg [⟨(some 2), .mv (.const (.int .u64 0)), none⟩])
  (.seq (.reg [⟨(some 3), .mv (.tmp 0), none⟩,
     ⟨(some 4), .mv (.tmp 0), none⟩,
     ⟨(some 5), .un .neg (.tmp 4), none⟩,
     ⟨(some 6), .mm true [(.tmp 3), (.tmp 5)], none⟩,
     ⟨(some 7), .cnv .u64 (.tmp 6), none⟩,
     ⟨(some 2), .mv (.tmp 7), none⟩])
  .ret))
def plane_within_1.f (n0 : Int) : Option (Int) := some (wru64 (mx n0 (wr64 (0 - n0))))
theorem plane_within_1.ok {S : Seal} {n0 : Int} {r0_ : Int}(e : plane_within_1.f n0 = some r0_) :
    Cal Try.prog 117 [.int .i64 n0] [] S fun v H' S' => v = .int .u64 r0_ ∧ H' = [] ∧ S' = S := by
  unfold plane_within_1.f at e
  refine cal_of (c := c117) (N := 8) Try.func117 rfl rfl (by kernel_rfl) (rs := [.t 2]) (by kernel_rfl) (Nat.le_of_ble_eq_true rfl) ?_
  unfold c117
  refine w_seq ?_
  refine w_reg fun all => ?_
  refine t_qz 1 [0] (σ' := [(0, .int .i64 n0)]) (by kernel_rfl) ?_
  refine t_end ?_
  show W _ _ _ _ _ _ _
  refine w_seq ?_
  refine w_reg fun all => ?_
  refine t_qz 6 [2] (σ' := [(2, .int .u64 (wru64 (mx n0 (wr64 (0 - n0)))))]) (by kernel_rfl) ?_
  refine t_end ?_
  show W _ _ _ _ _ _ _
  refine w_ret ?_
  obtain rfl := Option.some.inj e
  exact ⟨[.int .u64 (wru64 (mx n0 (wr64 (0 - n0))))], [], S, ⟨rfl, trivial⟩, VS.none, rfl, rfl, rfl⟩

/-- plane.within -/
def c105 : C :=
  (.seq (.reg [⟨(some 8), .mv (.const (.bool false)), none⟩])
  (.seq (.reg [⟨(some 9), .mv (.func 117), none⟩])
  (.seq (.reg [⟨(some 15), .mv (.tmp 9), none⟩,
     ⟨(some 16), .mv (.tmp 0), none⟩,
     ⟨(some 17), .clo (.tmp 15) [(.tmp 16)], none⟩,
     ⟨(some 18), .mv (.tmp 9), none⟩,
     ⟨(some 19), .mv (.tmp 1), none⟩,
     ⟨(some 20), .clo (.tmp 18) [(.tmp 19)], none⟩,
     ⟨(some 21), .call 81 [(.tmp 17), (.tmp 20)], none⟩,
     ⟨(some 14), .mv (.tmp 21), none⟩,
     ⟨(some 22), .xt 0 (.tmp 14), none⟩,
     ⟨(some 23), .xt 1 (.tmp 14), none⟩,
     ⟨(some 10), .mv (.tmp 22), none⟩,
     ⟨(some 11), .mv (.tmp 23), none⟩])
  (.seq (.reg [⟨(some 25), .mv (.tmp 9), none⟩,
     ⟨(some 26), .mv (.tmp 2), none⟩,
     ⟨(some 27), .clo (.tmp 25) [(.tmp 26)], none⟩,
     ⟨(some 28), .mv (.tmp 9), none⟩,
     ⟨(some 29), .mv (.tmp 3), none⟩,
     ⟨(some 30), .clo (.tmp 28) [(.tmp 29)], none⟩,
     ⟨(some 31), .call 81 [(.tmp 27), (.tmp 30)], none⟩,
     ⟨(some 24), .mv (.tmp 31), none⟩,
     ⟨(some 32), .xt 0 (.tmp 24), none⟩,
     ⟨(some 33), .xt 1 (.tmp 24), none⟩,
     ⟨(some 12), .mv (.tmp 32), none⟩,
     ⟨(some 13), .mv (.tmp 33), none⟩])
  (.seq (.reg [⟨(some 34), .mv (.tmp 10), none⟩,
     ⟨(some 35), .mv (.tmp 12), none⟩,
     ⟨(some 36), .bin .lss (.tmp 34) (.tmp 35), none⟩,
     ⟨(some 37), .mv (.tmp 36), none⟩,
     ⟨(some 38), .mv (.tmp 10), (some (37, false))⟩,
     ⟨(some 39), .mv (.tmp 12), (some (37, false))⟩,
     ⟨(some 40), .bin .eql (.tmp 38) (.tmp 39), (some (37, false))⟩,
     ⟨(some 41), .mv (.tmp 40), (some (37, false))⟩,
     ⟨(some 42), .mv (.tmp 11), (some (41, true))⟩,
     ⟨(some 43), .mv (.tmp 13), (some (41, true))⟩,
     ⟨(some 44), .bin .leq (.tmp 42) (.tmp 43), (some (41, true))⟩,
     ⟨(some 45), .pk (.tmp 41) (.tmp 44) (.const (.bool false)), (some (37, false))⟩,
     ⟨(some 46), .pk (.tmp 37) (.const (.bool true)) (.tmp 45), none⟩,
     ⟨(some 8), .mv (.tmp 46), none⟩])
  .ret)))))
def plane_within.f (a0 : Int) (b1 : Int) (c2 : Int) (d3 : Int) : Option (Bool) := (plane_within_1.f a0).bind fun t371 => ((plane_within_1.f b1).bind fun t373 => ((bits_Mul64.f t371 t373).bind fun (t375, t376) => ((plane_within_1.f c2).bind fun t378 => ((plane_within_1.f d3).bind fun t380 => ((bits_Mul64.f t378 t380).bind fun (t382, t383) => (if t375 < t382 then (some true) else (if t375 = t382 then (some (decide (t376 ≤ t383))) else (some false))))))))
theorem plane_within.ok {S : Seal} {a0 : Int} {b1 : Int} {c2 : Int} {d3 : Int} {r0_ : Bool}(e : plane_within.f a0 b1 c2 d3 = some r0_) :
    Cal Try.prog 105 [.int .i64 a0, .int .i64 b1, .int .i64 c2, .int .i64 d3] [] S fun v H' S' => v = .bool r0_ ∧ H' = [] ∧ S' = S := by
  unfold plane_within.f at e
  refine cal_of (c := c105) (N := 47) Try.func105 rfl rfl (by kernel_rfl) (rs := [.t 8]) (by kernel_rfl) (Nat.le_of_ble_eq_true rfl) ?_
  unfold c105
  refine w_seq ?_
  refine w_reg fun all => ?_
  refine t_qz 1 [0, 1, 2, 3] (σ' := [(0, .int .i64 a0), (1, .int .i64 b1), (2, .int .i64 c2), (3, .int .i64 d3)]) (by kernel_rfl) ?_
  refine t_end ?_
  show W _ _ _ _ _ _ _
  refine w_seq ?_
  refine w_reg fun all => ?_
  refine t_qz 1 [0, 1, 2, 3, 9] (σ' := [(0, .int .i64 a0), (1, .int .i64 b1), (2, .int .i64 c2), (3, .int .i64 d3), (9, .func (.func 117) #[] #[])]) (by kernel_rfl) ?_
  refine t_end ?_
  show W _ _ _ _ _ _ _
  refine w_seq ?_
  refine w_reg fun all => ?_
  obtain ⟨t371, h372, e⟩ := bind_of e
  refine t_qz 2 [1, 2, 3, 9, 15, 16] (σ' := [(1, .int .i64 b1), (2, .int .i64 c2), (3, .int .i64 d3), (9, .func (.func 117) #[] #[]), (15, .func (.func 117) #[] #[]), (16, .int .i64 a0)]) (by kernel_rfl) ?_
  refine t_v (.clor (vs := [.int .i64 a0]) (caps := #[]) (A := ([] : List Own)) (F0 := ([] : List Own)) rfl rfl rfl (by kernel_rfl) (by kernel_rfl) (sel_perm (is := []) (by kernel_rfl)) (plane_within_1.ok h372)) ?_
  obtain ⟨t373, h374, e⟩ := bind_of e
  refine t_qz 2 [2, 3, 9, 17, 18, 19] (σ' := [(2, .int .i64 c2), (3, .int .i64 d3), (9, .func (.func 117) #[] #[]), (17, .int .u64 t371), (18, .func (.func 117) #[] #[]), (19, .int .i64 b1)]) (by kernel_rfl) ?_
  refine t_v (.clor (vs := [.int .i64 b1]) (caps := #[]) (A := ([] : List Own)) (F0 := ([] : List Own)) rfl rfl rfl (by kernel_rfl) (by kernel_rfl) (sel_perm (is := []) (by kernel_rfl)) (plane_within_1.ok h374)) ?_
  obtain ⟨⟨t375, t376⟩, h377, e⟩ := bind_of e
  try dsimp only at e
  refine t_v (.call (vs := [.int .u64 t371, .int .u64 t373]) rfl rfl (by kernel_rfl) (bits_Mul64.ok h377)) ?_
  refine t_qz 5 [2, 3, 9, 10, 11] (σ' := [(2, .int .i64 c2), (3, .int .i64 d3), (9, .func (.func 117) #[] #[]), (10, .int .u64 t375), (11, .int .u64 t376)]) (by kernel_rfl) ?_
  refine t_end ?_
  show W _ _ _ _ _ _ _
  refine w_seq ?_
  refine w_reg fun all => ?_
  obtain ⟨t378, h379, e⟩ := bind_of e
  refine t_qz 2 [3, 9, 10, 11, 25, 26] (σ' := [(3, .int .i64 d3), (9, .func (.func 117) #[] #[]), (10, .int .u64 t375), (11, .int .u64 t376), (25, .func (.func 117) #[] #[]), (26, .int .i64 c2)]) (by kernel_rfl) ?_
  refine t_v (.clor (vs := [.int .i64 c2]) (caps := #[]) (A := ([] : List Own)) (F0 := ([] : List Own)) rfl rfl rfl (by kernel_rfl) (by kernel_rfl) (sel_perm (is := []) (by kernel_rfl)) (plane_within_1.ok h379)) ?_
  obtain ⟨t380, h381, e⟩ := bind_of e
  refine t_qz 2 [10, 11, 27, 28, 29] (σ' := [(10, .int .u64 t375), (11, .int .u64 t376), (27, .int .u64 t378), (28, .func (.func 117) #[] #[]), (29, .int .i64 d3)]) (by kernel_rfl) ?_
  refine t_v (.clor (vs := [.int .i64 d3]) (caps := #[]) (A := ([] : List Own)) (F0 := ([] : List Own)) rfl rfl rfl (by kernel_rfl) (by kernel_rfl) (sel_perm (is := []) (by kernel_rfl)) (plane_within_1.ok h381)) ?_
  obtain ⟨⟨t382, t383⟩, h384, e⟩ := bind_of e
  try dsimp only at e
  refine t_v (.call (vs := [.int .u64 t378, .int .u64 t380]) rfl rfl (by kernel_rfl) (bits_Mul64.ok h384)) ?_
  refine t_qz 5 [10, 11, 12, 13] (σ' := [(10, .int .u64 t375), (11, .int .u64 t376), (12, .int .u64 t382), (13, .int .u64 t383)]) (by kernel_rfl) ?_
  refine t_end ?_
  show W _ _ _ _ _ _ _
  refine w_seq ?_
  refine w_reg fun all => ?_
  by_cases c385 : t375 < t382
  · rw [if_pos c385] at e
    have c385b : (decide (t375 < t382)) = true := decide_eq_true c385
    refine t_qz 2 [10, 11, 12, 13, 34, 35] (σ' := [(10, .int .u64 t375), (11, .int .u64 t376), (12, .int .u64 t382), (13, .int .u64 t383), (34, .int .u64 t375), (35, .int .u64 t382)]) (by kernel_rfl) ?_
    refine t_v (dv_quiet rfl (congrArg (fun t => some (Value.bool t)) c385b)) ?_
    refine t_qz 11 [8] (σ' := [(8, .bool true)]) (by kernel_rfl) ?_
    refine t_end ?_
    show W _ _ _ _ _ _ _
    refine w_ret ?_
    obtain rfl := Option.some.inj e
    exact ⟨[.bool true], [], S, ⟨rfl, trivial⟩, VS.none, rfl, rfl, rfl⟩
  · rw [if_neg c385] at e
    have c385b : (decide (t375 < t382)) = false := decide_eq_false c385
    refine t_qz 2 [10, 11, 12, 13, 34, 35] (σ' := [(10, .int .u64 t375), (11, .int .u64 t376), (12, .int .u64 t382), (13, .int .u64 t383), (34, .int .u64 t375), (35, .int .u64 t382)]) (by kernel_rfl) ?_
    refine t_v (dv_quiet rfl (congrArg (fun t => some (Value.bool t)) c385b)) ?_
    by_cases c386 : t375 = t382
    · rw [if_pos c386] at e
      have c386b : (t375 == t382) = true := beq_iff_eq.mpr c386
      refine t_qz 3 [11, 13, 37, 38, 39] (σ' := [(11, .int .u64 t376), (13, .int .u64 t383), (37, .bool false), (38, .int .u64 t375), (39, .int .u64 t382)]) (by kernel_rfl) ?_
      refine t_v (dv_quiet rfl (congrArg (fun t => some (Value.bool t)) c386b)) ?_
      refine t_qz 7 [8] (σ' := [(8, .bool (decide (t376 ≤ t383)))]) (by kernel_rfl) ?_
      refine t_end ?_
      show W _ _ _ _ _ _ _
      refine w_ret ?_
      obtain rfl := Option.some.inj e
      exact ⟨[.bool (decide (t376 ≤ t383))], [], S, ⟨rfl, trivial⟩, VS.none, rfl, rfl, rfl⟩
    · rw [if_neg c386] at e
      have c386b : (t375 == t382) = false := beq_eq_false_iff_ne.mpr c386
      refine t_qz 3 [11, 13, 37, 38, 39] (σ' := [(11, .int .u64 t376), (13, .int .u64 t383), (37, .bool false), (38, .int .u64 t375), (39, .int .u64 t382)]) (by kernel_rfl) ?_
      refine t_v (dv_quiet rfl (congrArg (fun t => some (Value.bool t)) c386b)) ?_
      refine t_qz 7 [8] (σ' := [(8, .bool false)]) (by kernel_rfl) ?_
      refine t_end ?_
      show W _ _ _ _ _ _ _
      refine w_ret ?_
      obtain rfl := Option.some.inj e
      exact ⟨[.bool false], [], S, ⟨rfl, trivial⟩, VS.none, rfl, rfl, rfl⟩

/-- plane.Near -/
def c65 : C :=
  (.seq (.reg [⟨(some 4), .box (.tmp 0), none⟩,
     ⟨(some 5), .box (.tmp 1), none⟩,
     ⟨(some 6), .box (.tmp 2), none⟩,
     ⟨(some 8), .mv (.const (.bool false)), none⟩])
  (.seq (.drw [⟨(some 12), .ld (some 2) (.tmp 4), none⟩,
     ⟨(some 13), .ld (some 2) (.tmp 5), none⟩,
     ⟨(some 14), .ld (some 2) (.tmp 6), none⟩,
     ⟨(some 15), .call 104 [(.tmp 12), (.tmp 13), (.tmp 14)], none⟩,
     ⟨(some 16), .ld (some 2) (.tmp 4), none⟩,
     ⟨(some 17), .ld (some 2) (.tmp 5), none⟩,
     ⟨(some 18), .call 90 [(.tmp 16), (.tmp 17)], none⟩,
     ⟨(some 9), .mv (.tmp 15), none⟩,
     ⟨(some 10), .mv (.tmp 18), none⟩] [[], [], [], [0, 1, 2], [], [], [4, 5, 3], [3, 6, 0, 1, 2, 3], [6, 7, 0, 1, 2, 3, 4, 5, 6, 7]])
  (.seq (.block 0 (.seq (.reg [⟨(some 20), .mv (.tmp 9), none⟩,
       ⟨(some 21), .bin .leq (.tmp 20) (.const (.int .i64 0)), none⟩,
       ⟨(some 19), .mv (.tmp 21), none⟩])
    (.cond (.tmp 19)
     (.seq (.reg [⟨(some 22), .ld (some 2) (.tmp 4), none⟩,
         ⟨(some 23), .ld (some 2) (.tmp 6), none⟩,
         ⟨(some 24), .call 90 [(.tmp 22), (.tmp 23)], none⟩,
         ⟨(some 25), .mv (.tmp 3), none⟩,
         ⟨(some 26), .mv (.tmp 3), none⟩,
         ⟨(some 27), .call 105 [(.const (.int .i64 4)), (.tmp 24), (.tmp 25), (.tmp 26)], none⟩,
         ⟨(some 8), .mv (.tmp 27), none⟩])
      .ret)
     (.seq (.reg [⟨(some 29), .mv (.tmp 9), none⟩,
         ⟨(some 30), .mv (.tmp 10), none⟩,
         ⟨(some 31), .bin .geq (.tmp 29) (.tmp 30), none⟩,
         ⟨(some 28), .mv (.tmp 31), none⟩])
      (.cond (.tmp 28)
       (.seq (.reg [⟨(some 32), .ld (some 2) (.tmp 5), none⟩,
           ⟨(some 33), .ld (some 2) (.tmp 6), none⟩,
           ⟨(some 34), .call 90 [(.tmp 32), (.tmp 33)], none⟩,
           ⟨(some 35), .mv (.tmp 3), none⟩,
           ⟨(some 36), .mv (.tmp 3), none⟩,
           ⟨(some 37), .call 105 [(.const (.int .i64 4)), (.tmp 34), (.tmp 35), (.tmp 36)], none⟩,
           ⟨(some 8), .mv (.tmp 37), none⟩])
        .ret)
       .skip)))))
  (.seq (.reg [⟨(some 38), .ld (some 2) (.tmp 4), none⟩,
     ⟨(some 39), .ld (some 2) (.tmp 5), none⟩,
     ⟨(some 40), .ld (some 2) (.tmp 6), none⟩,
     ⟨(some 41), .call 106 [(.tmp 38), (.tmp 39), (.tmp 40)], none⟩,
     ⟨(some 42), .bin .mul (.const (.int .i64 2)) (.tmp 41), none⟩,
     ⟨(some 11), .mv (.tmp 42), none⟩])
  (.seq (.reg [⟨(some 43), .mv (.tmp 11), none⟩,
     ⟨(some 44), .mv (.tmp 11), none⟩,
     ⟨(some 45), .mv (.tmp 3), none⟩,
     ⟨(some 46), .mv (.tmp 3), none⟩,
     ⟨(some 47), .bin .mul (.tmp 45) (.tmp 46), none⟩,
     ⟨(some 48), .mv (.tmp 10), none⟩,
     ⟨(some 49), .call 105 [(.tmp 43), (.tmp 44), (.tmp 47), (.tmp 48)], none⟩,
     ⟨(some 8), .mv (.tmp 49), none⟩])
  .ret)))))
def plane_Near.f (a0_X : Int) (a0_Y : Int) (b1_X : Int) (b1_Y : Int) (p2_X : Int) (p2_Y : Int) (w3 : Int) : Option (Bool) := (plane_Dot.f a0_X a0_Y b1_X b1_Y p2_X p2_Y).bind fun t364 => ((plane_Len2.f a0_X a0_Y b1_X b1_Y).bind fun t366 => (if t364 ≤ 0 then ((plane_Len2.f a0_X a0_Y p2_X p2_Y).bind fun t369 => ((plane_within.f 4 t369 w3 w3).bind fun t371 => (some t371))) else (if t364 ≥ t366 then ((plane_Len2.f b1_X b1_Y p2_X p2_Y).bind fun t374 => ((plane_within.f 4 t374 w3 w3).bind fun t376 => (some t376))) else ((plane_Cross.f a0_X a0_Y b1_X b1_Y p2_X p2_Y).bind fun t378 => ((plane_within.f (wr64 (2 * t378)) (wr64 (2 * t378)) (wr64 (w3 * w3)) t366).bind fun t380 => (some t380))))))
theorem plane_Near.ok {S : Seal} {a0_X : Int} {a0_Y : Int} {b1_X : Int} {b1_Y : Int} {p2_X : Int} {p2_Y : Int} {w3 : Int} {r0_ : Bool}(e : plane_Near.f a0_X a0_Y b1_X b1_Y p2_X p2_Y w3 = some r0_) :
    Cal Try.prog 65 [.agg #[.int .i64 a0_X, .int .i64 a0_Y], .agg #[.int .i64 b1_X, .int .i64 b1_Y], .agg #[.int .i64 p2_X, .int .i64 p2_Y], .int .i64 w3] [] S fun v H' S' => v = .bool r0_ ∧ H' = [] ∧ S' = S := by
  unfold plane_Near.f at e
  refine cal_of (c := c65) (N := 50) Try.func65 rfl rfl (by kernel_rfl) (rs := [.t 8]) (by kernel_rfl) (Nat.le_of_ble_eq_true rfl) ?_
  unfold c65
  refine w_seq ?_
  refine w_reg fun all => ?_
  refine t_a (.box rfl rfl rfl) fun b361 fb361 sb361 => ?_
  refine t_a (.box rfl rfl rfl) fun b362 fb362 sb362 => ?_
  refine t_a (.box rfl rfl rfl) fun b363 fb363 sb363 => ?_
  refine t_qz 1 [3, 4, 5, 6] (σ' := [(3, .int .i64 w3), (4, .pointer (some ⟨b361, 0, none⟩)), (5, .pointer (some ⟨b362, 0, none⟩)), (6, .pointer (some ⟨b363, 0, none⟩))]) (by kernel_rfl) ?_
  refine t_end ?_
  show W _ _ _ _ _ _ _
  refine w_seq ?_
  obtain ⟨t364, h365, e⟩ := bind_of e
  obtain ⟨t366, h367, e⟩ := bind_of e
  refine w_drwE mixed 9 [.v (.agg #[.int .i64 a0_X, .int .i64 a0_Y]), .v (.agg #[.int .i64 b1_X, .int .i64 b1_Y]), .v (.agg #[.int .i64 p2_X, .int .i64 p2_Y]), .v (.int .i64 t364), .v (.agg #[.int .i64 a0_X, .int .i64 a0_Y]), .v (.agg #[.int .i64 b1_X, .int .i64 b1_Y]), .v (.int .i64 t366), .v (.int .i64 t364), .v (.int .i64 t366)] (by kernel_rfl) ?_ ?_
  · refine .cons (.ldn rfl rfl rfl (.at 2 rfl rfl)) ?_
    refine .cons (.ldn rfl rfl rfl (.at 1 rfl rfl)) ?_
    refine .cons (.ldn rfl rfl rfl (.at 0 rfl rfl)) ?_
    refine .cons (.call (vs := [.agg #[.int .i64 a0_X, .int .i64 a0_Y], .agg #[.int .i64 b1_X, .int .i64 b1_Y], .agg #[.int .i64 p2_X, .int .i64 p2_Y]]) rfl rfl (by kernel_rfl) (plane_Dot.ok h365)) ?_
    refine .cons (.ldn rfl rfl rfl (.at 2 rfl rfl)) ?_
    refine .cons (.ldn rfl rfl rfl (.at 1 rfl rfl)) ?_
    refine .cons (.call (vs := [.agg #[.int .i64 a0_X, .int .i64 a0_Y], .agg #[.int .i64 b1_X, .int .i64 b1_Y]]) rfl rfl (by kernel_rfl) (plane_Len2.ok h367)) ?_
    refine DI.sq 2 (by kernel_rfl) rfl ?_
    exact .nil
  refine fk_q 9 [3, 4, 5, 6, 9, 10] (σ' := [(3, .int .i64 w3), (4, .pointer (some ⟨b361, 0, none⟩)), (5, .pointer (some ⟨b362, 0, none⟩)), (6, .pointer (some ⟨b363, 0, none⟩)), (9, .int .i64 t364), (10, .int .i64 t366)]) t_more (by kernel_rfl) ?_
  refine fk_nil fun all => ?_
  refine t_keep [3, 4, 5, 6, 9, 10] (σ' := [(3, .int .i64 w3), (4, .pointer (some ⟨b361, 0, none⟩)), (5, .pointer (some ⟨b362, 0, none⟩)), (6, .pointer (some ⟨b363, 0, none⟩)), (9, .int .i64 t364), (10, .int .i64 t366)]) (by kernel_rfl) ?_
  refine t_end ?_
  show W _ _ _ _ _ _ _
  refine w_seq ?_
  refine w_block ?_
  refine w_seq ?_
  refine w_reg fun all => ?_
  by_cases c368 : t364 ≤ 0
  · rw [if_pos c368] at e
    have c368b : (decide (t364 ≤ 0)) = true := decide_eq_true c368
    refine t_qz 1 [3, 4, 5, 6, 9, 10, 20] (σ' := [(3, .int .i64 w3), (4, .pointer (some ⟨b361, 0, none⟩)), (5, .pointer (some ⟨b362, 0, none⟩)), (6, .pointer (some ⟨b363, 0, none⟩)), (9, .int .i64 t364), (10, .int .i64 t366), (20, .int .i64 t364)]) (by kernel_rfl) ?_
    refine t_v (dv_quiet rfl (congrArg (fun t => some (Value.bool t)) c368b)) ?_
    refine t_qz 1 [3, 4, 5, 6, 9, 10, 19] (σ' := [(3, .int .i64 w3), (4, .pointer (some ⟨b361, 0, none⟩)), (5, .pointer (some ⟨b362, 0, none⟩)), (6, .pointer (some ⟨b363, 0, none⟩)), (9, .int .i64 t364), (10, .int .i64 t366), (19, .bool true)]) (by kernel_rfl) ?_
    refine t_end ?_
    show W _ _ _ _ _ _ _
    refine w_cond rfl (fun _ => ?_) (fun c_ => by cases c_)
    show W _ _ _ _ _ _ _
    refine w_seq ?_
    refine w_reg fun all => ?_
    refine t_v (.ldn rfl rfl rfl (.at 2 rfl rfl)) ?_
    refine t_v (.ldn rfl rfl rfl (.at 0 rfl rfl)) ?_
    obtain ⟨t369, h370, e⟩ := bind_of e
    refine t_v (.call (vs := [.agg #[.int .i64 a0_X, .int .i64 a0_Y], .agg #[.int .i64 p2_X, .int .i64 p2_Y]]) rfl rfl (by kernel_rfl) (plane_Len2.ok h370)) ?_
    obtain ⟨t371, h372, e⟩ := bind_of e
    refine t_qz 2 [24, 25, 26] (σ' := [(24, .int .i64 t369), (25, .int .i64 w3), (26, .int .i64 w3)]) (by kernel_rfl) ?_
    refine t_v (.call (vs := [.int .i64 4, .int .i64 t369, .int .i64 w3, .int .i64 w3]) rfl rfl (by kernel_rfl) (plane_within.ok h372)) ?_
    refine t_qz 1 [8] (σ' := [(8, .bool t371)]) (by kernel_rfl) ?_
    refine t_end ?_
    show W _ _ _ _ _ _ _
    refine w_ret ?_
    obtain rfl := Option.some.inj e
    exact ⟨[.bool t371], [], S, ⟨rfl, trivial⟩, VS.none, rfl, rfl, rfl⟩
  · rw [if_neg c368] at e
    have c368b : (decide (t364 ≤ 0)) = false := decide_eq_false c368
    refine t_qz 1 [3, 4, 5, 6, 9, 10, 20] (σ' := [(3, .int .i64 w3), (4, .pointer (some ⟨b361, 0, none⟩)), (5, .pointer (some ⟨b362, 0, none⟩)), (6, .pointer (some ⟨b363, 0, none⟩)), (9, .int .i64 t364), (10, .int .i64 t366), (20, .int .i64 t364)]) (by kernel_rfl) ?_
    refine t_v (dv_quiet rfl (congrArg (fun t => some (Value.bool t)) c368b)) ?_
    refine t_qz 1 [3, 4, 5, 6, 9, 10, 19] (σ' := [(3, .int .i64 w3), (4, .pointer (some ⟨b361, 0, none⟩)), (5, .pointer (some ⟨b362, 0, none⟩)), (6, .pointer (some ⟨b363, 0, none⟩)), (9, .int .i64 t364), (10, .int .i64 t366), (19, .bool false)]) (by kernel_rfl) ?_
    refine t_end ?_
    show W _ _ _ _ _ _ _
    refine w_cond rfl (fun c_ => by cases c_) (fun _ => ?_)
    show W _ _ _ _ _ _ _
    refine w_seq ?_
    refine w_reg fun all => ?_
    by_cases c373 : t364 ≥ t366
    · rw [if_pos c373] at e
      have c373b : (decide (t364 ≥ t366)) = true := decide_eq_true c373
      refine t_qz 2 [3, 4, 5, 6, 10, 29, 30] (σ' := [(3, .int .i64 w3), (4, .pointer (some ⟨b361, 0, none⟩)), (5, .pointer (some ⟨b362, 0, none⟩)), (6, .pointer (some ⟨b363, 0, none⟩)), (10, .int .i64 t366), (29, .int .i64 t364), (30, .int .i64 t366)]) (by kernel_rfl) ?_
      refine t_v (dv_quiet rfl (congrArg (fun t => some (Value.bool t)) c373b)) ?_
      refine t_qz 1 [3, 4, 5, 6, 10, 28] (σ' := [(3, .int .i64 w3), (4, .pointer (some ⟨b361, 0, none⟩)), (5, .pointer (some ⟨b362, 0, none⟩)), (6, .pointer (some ⟨b363, 0, none⟩)), (10, .int .i64 t366), (28, .bool true)]) (by kernel_rfl) ?_
      refine t_end ?_
      show W _ _ _ _ _ _ _
      refine w_cond rfl (fun _ => ?_) (fun c_ => by cases c_)
      show W _ _ _ _ _ _ _
      refine w_seq ?_
      refine w_reg fun all => ?_
      refine t_v (.ldn rfl rfl rfl (.at 1 rfl rfl)) ?_
      refine t_v (.ldn rfl rfl rfl (.at 0 rfl rfl)) ?_
      obtain ⟨t374, h375, e⟩ := bind_of e
      refine t_v (.call (vs := [.agg #[.int .i64 b1_X, .int .i64 b1_Y], .agg #[.int .i64 p2_X, .int .i64 p2_Y]]) rfl rfl (by kernel_rfl) (plane_Len2.ok h375)) ?_
      obtain ⟨t376, h377, e⟩ := bind_of e
      refine t_qz 2 [34, 35, 36] (σ' := [(34, .int .i64 t374), (35, .int .i64 w3), (36, .int .i64 w3)]) (by kernel_rfl) ?_
      refine t_v (.call (vs := [.int .i64 4, .int .i64 t374, .int .i64 w3, .int .i64 w3]) rfl rfl (by kernel_rfl) (plane_within.ok h377)) ?_
      refine t_qz 1 [8] (σ' := [(8, .bool t376)]) (by kernel_rfl) ?_
      refine t_end ?_
      show W _ _ _ _ _ _ _
      refine w_ret ?_
      obtain rfl := Option.some.inj e
      exact ⟨[.bool t376], [], S, ⟨rfl, trivial⟩, VS.none, rfl, rfl, rfl⟩
    · rw [if_neg c373] at e
      have c373b : (decide (t364 ≥ t366)) = false := decide_eq_false c373
      refine t_qz 2 [3, 4, 5, 6, 10, 29, 30] (σ' := [(3, .int .i64 w3), (4, .pointer (some ⟨b361, 0, none⟩)), (5, .pointer (some ⟨b362, 0, none⟩)), (6, .pointer (some ⟨b363, 0, none⟩)), (10, .int .i64 t366), (29, .int .i64 t364), (30, .int .i64 t366)]) (by kernel_rfl) ?_
      refine t_v (dv_quiet rfl (congrArg (fun t => some (Value.bool t)) c373b)) ?_
      refine t_qz 1 [3, 4, 5, 6, 10, 28] (σ' := [(3, .int .i64 w3), (4, .pointer (some ⟨b361, 0, none⟩)), (5, .pointer (some ⟨b362, 0, none⟩)), (6, .pointer (some ⟨b363, 0, none⟩)), (10, .int .i64 t366), (28, .bool false)]) (by kernel_rfl) ?_
      refine t_end ?_
      show W _ _ _ _ _ _ _
      refine w_cond rfl (fun c_ => by cases c_) (fun _ => ?_)
      show W _ _ _ _ _ _ _
      refine w_skip ?_
      show W _ _ _ _ _ _ _
      refine w_seq ?_
      refine w_reg fun all => ?_
      refine t_v (.ldn rfl rfl rfl (.at 2 rfl rfl)) ?_
      refine t_v (.ldn rfl rfl rfl (.at 1 rfl rfl)) ?_
      refine t_v (.ldn rfl rfl rfl (.at 0 rfl rfl)) ?_
      obtain ⟨t378, h379, e⟩ := bind_of e
      refine t_v (.call (vs := [.agg #[.int .i64 a0_X, .int .i64 a0_Y], .agg #[.int .i64 b1_X, .int .i64 b1_Y], .agg #[.int .i64 p2_X, .int .i64 p2_Y]]) rfl rfl (by kernel_rfl) (plane_Cross.ok h379)) ?_
      refine t_qz 2 [3, 10, 11] (σ' := [(3, .int .i64 w3), (10, .int .i64 t366), (11, .int .i64 (wr64 (2 * t378)))]) (by kernel_rfl) ?_
      refine t_end ?_
      show W _ _ _ _ _ _ _
      refine w_seq ?_
      refine w_reg fun all => ?_
      obtain ⟨t380, h381, e⟩ := bind_of e
      refine t_qz 6 [43, 44, 47, 48] (σ' := [(43, .int .i64 (wr64 (2 * t378))), (44, .int .i64 (wr64 (2 * t378))), (47, .int .i64 (wr64 (w3 * w3))), (48, .int .i64 t366)]) (by kernel_rfl) ?_
      refine t_v (.call (vs := [.int .i64 (wr64 (2 * t378)), .int .i64 (wr64 (2 * t378)), .int .i64 (wr64 (w3 * w3)), .int .i64 t366]) rfl rfl (by kernel_rfl) (plane_within.ok h381)) ?_
      refine t_qz 1 [8] (σ' := [(8, .bool t380)]) (by kernel_rfl) ?_
      refine t_end ?_
      show W _ _ _ _ _ _ _
      refine w_ret ?_
      obtain rfl := Option.some.inj e
      exact ⟨[.bool t380], [], S, ⟨rfl, trivial⟩, VS.none, rfl, rfl, rfl⟩

/-- stroke.Near$1 -/
def c64 : C :=
  (.seq (.reg [⟨(some 3), .box (.tmp 0), none⟩,
     ⟨(some 4), .mv (.const (.bool false)), none⟩])
  (.seq (.reg [⟨(some 5), .pad 0 (.tmp 3), none⟩,
     ⟨(some 6), .ld (some 2) (.tmp 5), none⟩,
     ⟨(some 7), .pad 2 (.tmp 3), none⟩,
     ⟨(some 8), .ld (some 2) (.tmp 7), none⟩,
     ⟨(some 9), .ld (some 2) (.tmp 1), none⟩,
     ⟨(some 10), .ld none (.tmp 2), none⟩,
     ⟨(some 11), .call 65 [(.tmp 6), (.tmp 8), (.tmp 9), (.tmp 10)], none⟩,
     ⟨(some 4), .mv (.tmp 11), none⟩])
  .ret))
def stroke_Near_1_v1.f (e0_0 : Int) (e0_1 : Int) (e0_2 : Int) (e0_3 : Int) (m0_0 : Int) (m0_1 : Int) (m1_0 : Int) : Option (Bool) := (plane_Near.f e0_0 e0_1 e0_2 e0_3 m0_0 m0_1 m1_0).bind fun t382 => (some t382)
theorem stroke_Near_1_v1.ok {S : Seal} {B0 : Nat} {B1 : Nat} {e0_0 : Int} {e0_1 : Int} {e0_2 : Int} {e0_3 : Int} {m0_0 : Int} {m0_1 : Int} {m1_0 : Int} {r0_ : Bool}(e : stroke_Near_1_v1.f e0_0 e0_1 e0_2 e0_3 m0_0 m0_1 m1_0 = some r0_) :
    Cal Try.prog 64 [.agg #[.int .i64 e0_0, .int .i64 e0_1, .int .i64 e0_2, .int .i64 e0_3], .pointer (some ⟨B0, 0, none⟩), .pointer (some ⟨B1, 0, none⟩)] ([⟨B0, [.int .i64 m0_0, .int .i64 m0_1], 2⟩, ⟨B1, [.int .i64 m1_0], 1⟩] : List Own) S fun v H' S' => v = .bool r0_ ∧ H' = ([⟨B0, [.int .i64 m0_0, .int .i64 m0_1], 2⟩, ⟨B1, [.int .i64 m1_0], 1⟩] : List Own) ∧ S' = S := by
  unfold stroke_Near_1_v1.f at e
  refine cal_of (c := c64) (N := 12) Try.func64 rfl rfl (by kernel_rfl) (rs := [.t 4]) (by kernel_rfl) (Nat.le_of_ble_eq_true rfl) ?_
  unfold c64
  refine w_seq ?_
  refine w_reg fun all => ?_
  refine t_a (.box rfl rfl rfl) fun b360 fb360 sb360 => ?_
  refine t_qz 1 [1, 2, 3] (σ' := [(1, .pointer (some ⟨B0, 0, none⟩)), (2, .pointer (some ⟨B1, 0, none⟩)), (3, .pointer (some ⟨b360, 0, none⟩))]) (by kernel_rfl) ?_
  refine t_end ?_
  show W _ _ _ _ _ _ _
  refine w_seq ?_
  refine w_reg fun all => ?_
  refine t_qz 1 [1, 2, 3, 5] (σ' := [(1, .pointer (some ⟨B0, 0, none⟩)), (2, .pointer (some ⟨B1, 0, none⟩)), (3, .pointer (some ⟨b360, 0, none⟩)), (5, .pointer (some ⟨b360, 0, none⟩))]) (by kernel_rfl) ?_
  refine t_v (.ldn rfl rfl rfl (.at 0 rfl rfl)) ?_
  refine t_qz 1 [1, 2, 6, 7] (σ' := [(1, .pointer (some ⟨B0, 0, none⟩)), (2, .pointer (some ⟨B1, 0, none⟩)), (6, .agg #[.int .i64 e0_0, .int .i64 e0_1]), (7, .pointer (some ⟨b360, 2, none⟩))]) (by kernel_rfl) ?_
  refine t_v (.ldn rfl rfl rfl (.at 0 rfl rfl)) ?_
  refine t_v (.ldn rfl rfl rfl (.at 1 rfl rfl)) ?_
  refine t_v (.ld1 rfl rfl rfl (.at 2 rfl rfl)) ?_
  obtain ⟨t382, h383, e⟩ := bind_of e
  refine t_v (.call (vs := [.agg #[.int .i64 e0_0, .int .i64 e0_1], .agg #[.int .i64 e0_2, .int .i64 e0_3], .agg #[.int .i64 m0_0, .int .i64 m0_1], .int .i64 m1_0]) rfl rfl (by kernel_rfl) (plane_Near.ok h383)) ?_
  refine t_qz 1 [4] (σ' := [(4, .bool t382)]) (by kernel_rfl) ?_
  refine t_end ?_
  show W _ _ _ _ _ _ _
  refine w_ret ?_
  obtain rfl := Option.some.inj e
  exact ⟨[.bool t382], ([⟨B0, [.int .i64 m0_0, .int .i64 m0_1], 2⟩, ⟨B1, [.int .i64 m1_0], 1⟩] : List Own), S, ⟨rfl, trivial⟩, VS.sel [1, 1] (by kernel_rfl), rfl, rfl, rfl⟩

/-- slices.IndexFunc[[]api.Edge,api.Edge] -/
def c103 : C :=
  (.seq (.reg [⟨(some 4), .mv (.const (.int .i64 0)), none⟩])
  (.seq (.seq (.reg [⟨(some 6), .mv (.tmp 0), none⟩,
      ⟨(some 7), .lns (.tmp 6), none⟩,
      ⟨(some 8), .mv (.const (.int .i64 0)), none⟩])
   (.block 0 (.loop (.seq (.reg [⟨(some 9), .bin .lss (.tmp 8) (.tmp 7), none⟩])
     (.seq (.cond (.tmp 9)
       .skip
       (.exit 0))
     (.seq (.block 1 (.seq (.reg [⟨(some 10), .mv (.tmp 8), none⟩,
          ⟨(some 5), .mv (.tmp 10), none⟩])
       (.seq (.reg [⟨(some 11), .mv (.tmp 1), none⟩,
          ⟨(some 12), .mv (.tmp 0), none⟩,
          ⟨(some 13), .mv (.tmp 5), none⟩,
          ⟨(some 14), .ixs 4 (.tmp 12) (.tmp 13), none⟩,
          ⟨(some 15), .ld (some 4) (.tmp 14), none⟩,
          ⟨(some 16), .clo (.tmp 11) [(.tmp 15)], none⟩])
       (.cond (.tmp 16)
        (.seq (.reg [⟨(some 17), .mv (.tmp 5), none⟩,
            ⟨(some 4), .mv (.tmp 17), none⟩])
         .ret)
        .skip))))
     (.reg [⟨(some 18), .bin .add (.tmp 8) (.const (.int .i64 1)), none⟩,
       ⟨(some 8), .mv (.tmp 18), none⟩])))))))
  (.seq (.reg [⟨(some 4), .mv (.const (.int .i64 (-1))), none⟩])
  .ret)))
def api_Edge_v2.l0 : Nat → List (Int × Int × Int × Int) → Int → Int → Int → Int → Option ((Int) ⊕ (Unit))
  | 0, _, _, _, _, _ => none
  | k + 1, s0, m0_0, m0_1, m1_0, x345 => if x345 < (s0.length : Int) then ((lgt s0 x345).bind fun (x347, x348, x349, x350) => ((stroke_Near_1_v1.f x347 x348 x349 x350 m0_0 m0_1 m1_0).bind fun t384 => (if t384 = true then (some (.inl x345)) else (api_Edge_v2.l0 k s0 m0_0 m0_1 m1_0 (wr64 (x345 + 1)))))) else (some (.inr ()))
def api_Edge_v2.f (k : Nat) (s0 : List (Int × Int × Int × Int)) (m0_0 : Int) (m0_1 : Int) (m1_0 : Int) : Option (Int) := (api_Edge_v2.l0 k s0 m0_0 m0_1 m1_0 0 : Option ((Int) ⊕ (Unit))).bind fun s_ => match s_ with | .inl q388 => some q388 | .inr _ => (some (-1))
theorem api_Edge_v2.ok {S : Seal} {B0 : Nat} {B1 : Nat} {k : Nat} {s0 : List (Int × Int × Int × Int)} {m0_0 : Int} {m0_1 : Int} {m1_0 : Int} {r0_ : Int}{a_s0 : Option Addr} {c_s0 : Nat} (h_s0 : SlE S E_i644 s0 a_s0) (e : api_Edge_v2.f k s0 m0_0 m0_1 m1_0 = some r0_) :
    Cal Try.prog 103 [.slice a_s0 s0.length c_s0, .func (.func 64) #[] #[.pointer (some ⟨B0, 0, none⟩), .pointer (some ⟨B1, 0, none⟩)]] ([⟨B0, [.int .i64 m0_0, .int .i64 m0_1], 2⟩, ⟨B1, [.int .i64 m1_0], 1⟩] : List Own) S fun v H' S' => v = .int .i64 r0_ ∧ H' = ([⟨B0, [.int .i64 m0_0, .int .i64 m0_1], 2⟩, ⟨B1, [.int .i64 m1_0], 1⟩] : List Own) ∧ S' = S := by
  unfold api_Edge_v2.f at e
  refine cal_of (c := c103) (N := 19) Try.func103 rfl rfl (by kernel_rfl) (rs := [.t 4]) (by kernel_rfl) (Nat.le_of_ble_eq_true rfl) ?_
  unfold c103
  refine w_seq ?_
  refine w_reg fun all => ?_
  refine t_qz 1 [0, 1] (σ' := [(0, .slice a_s0 s0.length c_s0), (1, .func (.func 64) #[] #[.pointer (some ⟨B0, 0, none⟩), .pointer (some ⟨B1, 0, none⟩)])]) (by kernel_rfl) ?_
  refine t_end ?_
  show W _ _ _ _ _ _ _
  obtain ⟨s344, e343, e⟩ := bind_of e
  refine w_cut [] (fun σ_ H_ S_ => ∃ u_ : Unit, s344 = .inr u_ ∧ [] = σ_ ∧ ([⟨B0, [.int .i64 m0_0, .int .i64 m0_1], 2⟩, ⟨B1, [.int .i64 m1_0], 1⟩] : List Own) = H_ ∧ S = S_) ?_ ?_
  · show W _ _ _ _ _ _ _
    refine w_seq ?_
    refine w_reg fun all => ?_
    refine t_qz 3 [0, 1, 7, 8] (σ' := [(0, .slice a_s0 s0.length c_s0), (1, .func (.func 64) #[] #[.pointer (some ⟨B0, 0, none⟩), .pointer (some ⟨B1, 0, none⟩)]), (7, .int .i64 (s0.length : Int)), (8, .int .i64 0)]) (by kernel_rfl) ?_
    refine t_end ?_
    show W _ _ _ _ _ _ _
    refine w_block ?_
    refine w_kp [0, 1, 7, 8] (σ' := [(0, .slice a_s0 s0.length c_s0), (1, .func (.func 64) #[] #[.pointer (some ⟨B0, 0, none⟩), .pointer (some ⟨B1, 0, none⟩)]), (7, .int .i64 (s0.length : Int)), (8, .int .i64 0)]) (by kernel_rfl) ?_
    refine w_loop (fun n_ σ_ H_ S_ => ∃ (x345 : Int), [(0, .slice a_s0 s0.length c_s0), (1, .func (.func 64) #[] #[.pointer (some ⟨B0, 0, none⟩), .pointer (some ⟨B1, 0, none⟩)]), (7, .int .i64 (s0.length : Int)), (8, .int .i64 x345)] = σ_ ∧ ([⟨B0, [.int .i64 m0_0, .int .i64 m0_1], 2⟩, ⟨B1, [.int .i64 m1_0], 1⟩] : List Own) = H_ ∧ S = S_ ∧ api_Edge_v2.l0 n_ s0 m0_0 m0_1 m1_0 x345 = some s344) _ ⟨0, rfl, rfl, rfl, e343⟩ ?_
    rintro n387 σ_ H_ S_ ⟨x345, rfl, rfl, rfl, e343⟩
    cases n387 with
    | zero => rw [api_Edge_v2.l0.eq_1] at e343; cases e343
    | succ k_ =>
      rw [api_Edge_v2.l0.eq_2] at e343
      refine w_seq ?_
      refine w_reg fun all => ?_
      by_cases c346 : x345 < (s0.length : Int)
      · rw [if_pos c346] at e343
        have c346b : (decide (x345 < (s0.length : Int))) = true := decide_eq_true c346
        refine t_v (dv_quiet rfl (congrArg (fun t => some (Value.bool t)) c346b)) ?_
        refine t_keep [0, 1, 7, 8, 9] (σ' := [(0, .slice a_s0 s0.length c_s0), (1, .func (.func 64) #[] #[.pointer (some ⟨B0, 0, none⟩), .pointer (some ⟨B1, 0, none⟩)]), (7, .int .i64 (s0.length : Int)), (8, .int .i64 x345), (9, .bool true)]) (by kernel_rfl) ?_
        refine t_end ?_
        show W _ _ _ _ _ _ _
        refine w_seq ?_
        refine w_cond rfl (fun _ => ?_) (fun c_ => by cases c_)
        show W _ _ _ _ _ _ _
        refine w_skip ?_
        show W _ _ _ _ _ _ _
        refine w_seq ?_
        refine w_block ?_
        refine w_seq ?_
        refine w_reg fun all => ?_
        refine t_qz 2 [0, 1, 5, 7, 8] (σ' := [(0, .slice a_s0 s0.length c_s0), (1, .func (.func 64) #[] #[.pointer (some ⟨B0, 0, none⟩), .pointer (some ⟨B1, 0, none⟩)]), (5, .int .i64 x345), (7, .int .i64 (s0.length : Int)), (8, .int .i64 x345)]) (by kernel_rfl) ?_
        refine t_end ?_
        show W _ _ _ _ _ _ _
        refine w_seq ?_
        refine w_reg fun all => ?_
        obtain ⟨⟨x347, x348, x349, x350⟩, hx351, e343⟩ := bind_of e343
        try dsimp only at e343
        obtain ⟨lb352, lo353, ll354, la355, lS356, lv357, lz358, lu359⟩ := sle_get (E := E_i644) h_s0 hx351
        refine t_qz 3 [0, 1, 5, 7, 8, 11, 12, 13] (σ' := [(0, .slice a_s0 s0.length c_s0), (1, .func (.func 64) #[] #[.pointer (some ⟨B0, 0, none⟩), .pointer (some ⟨B1, 0, none⟩)]), (5, .int .i64 x345), (7, .int .i64 (s0.length : Int)), (8, .int .i64 x345), (11, .func (.func 64) #[] #[.pointer (some ⟨B0, 0, none⟩), .pointer (some ⟨B1, 0, none⟩)]), (12, .slice a_s0 s0.length c_s0), (13, .int .i64 x345)]) (by kernel_rfl) ?_
        refine t_v (.quiet rfl (ixs_sle rfl rfl la355 lz358 lu359)) ?_
        refine t_v (.ldn (vs := [.int .i64 x347, .int .i64 x348, .int .i64 x349, .int .i64 x350]) rfl rfl rfl (.sealed lS356 (subl_sub lv357 (by kernel_rfl)))) ?_
        obtain ⟨t384, h385, e343⟩ := bind_of e343
        cases t384 with
        | true =>
          rw [if_pos rfl] at e343
          refine t_v (.clor (vs := [.agg #[.int .i64 x347, .int .i64 x348, .int .i64 x349, .int .i64 x350]]) (caps := #[.pointer (some ⟨B0, 0, none⟩), .pointer (some ⟨B1, 0, none⟩)]) (A := ([⟨B0, [.int .i64 m0_0, .int .i64 m0_1], 2⟩, ⟨B1, [.int .i64 m1_0], 1⟩] : List Own)) (F0 := ([] : List Own)) rfl rfl rfl (by kernel_rfl) (by kernel_rfl) (sel_perm (is := [0, 0]) (by kernel_rfl)) (stroke_Near_1_v1.ok h385)) ?_
          refine t_keep [0, 1, 5, 7, 8, 16] (σ' := [(0, .slice a_s0 s0.length c_s0), (1, .func (.func 64) #[] #[.pointer (some ⟨B0, 0, none⟩), .pointer (some ⟨B1, 0, none⟩)]), (5, .int .i64 x345), (7, .int .i64 (s0.length : Int)), (8, .int .i64 x345), (16, .bool true)]) (by kernel_rfl) ?_
          refine t_end ?_
          show W _ _ _ _ _ _ _
          refine w_cond rfl (fun _ => ?_) (fun c_ => by cases c_)
          show W _ _ _ _ _ _ _
          refine w_seq ?_
          refine w_reg fun all => ?_
          refine t_qz 2 [4] (σ' := [(4, .int .i64 x345)]) (by kernel_rfl) ?_
          refine t_end ?_
          show W _ _ _ _ _ _ _
          refine w_ret ?_
          obtain rfl := Option.some.inj e343
          obtain rfl := Option.some.inj e
          exact ⟨[.int .i64 x345], ([⟨B0, [.int .i64 m0_0, .int .i64 m0_1], 2⟩, ⟨B1, [.int .i64 m1_0], 1⟩] : List Own), S, ⟨rfl, trivial⟩, VS.sel [0, 0] (by kernel_rfl), rfl, rfl, rfl⟩
        | false =>
          rw [if_neg (by decide)] at e343
          refine t_v (.clor (vs := [.agg #[.int .i64 x347, .int .i64 x348, .int .i64 x349, .int .i64 x350]]) (caps := #[.pointer (some ⟨B0, 0, none⟩), .pointer (some ⟨B1, 0, none⟩)]) (A := ([⟨B0, [.int .i64 m0_0, .int .i64 m0_1], 2⟩, ⟨B1, [.int .i64 m1_0], 1⟩] : List Own)) (F0 := ([] : List Own)) rfl rfl rfl (by kernel_rfl) (by kernel_rfl) (sel_perm (is := [0, 0]) (by kernel_rfl)) (stroke_Near_1_v1.ok h385)) ?_
          refine t_keep [0, 1, 5, 7, 8, 16] (σ' := [(0, .slice a_s0 s0.length c_s0), (1, .func (.func 64) #[] #[.pointer (some ⟨B0, 0, none⟩), .pointer (some ⟨B1, 0, none⟩)]), (5, .int .i64 x345), (7, .int .i64 (s0.length : Int)), (8, .int .i64 x345), (16, .bool false)]) (by kernel_rfl) ?_
          refine t_end ?_
          show W _ _ _ _ _ _ _
          refine w_cond rfl (fun c_ => by cases c_) (fun _ => ?_)
          show W _ _ _ _ _ _ _
          refine w_skip ?_
          show W _ _ _ _ _ _ _
          refine w_reg fun all => ?_
          refine t_qz 2 [0, 1, 7, 8] (σ' := [(0, .slice a_s0 s0.length c_s0), (1, .func (.func 64) #[] #[.pointer (some ⟨B0, 0, none⟩), .pointer (some ⟨B1, 0, none⟩)]), (7, .int .i64 (s0.length : Int)), (8, .int .i64 (wr64 (x345 + 1)))]) (by kernel_rfl) ?_
          refine t_end ?_
          exact ⟨k_, Nat.lt_succ_self _, [(0, .slice a_s0 s0.length c_s0), (1, .func (.func 64) #[] #[.pointer (some ⟨B0, 0, none⟩), .pointer (some ⟨B1, 0, none⟩)]), (7, .int .i64 (s0.length : Int)), (8, .int .i64 (wr64 (x345 + 1)))], ([⟨B0, [.int .i64 m0_0, .int .i64 m0_1], 2⟩, ⟨B1, [.int .i64 m1_0], 1⟩] : List Own), S, keep_sub [0, 1, 7, 8] (by kernel_rfl), VS.sel [0, 0] (by kernel_rfl), wr64 (x345 + 1), rfl, rfl, rfl, e343⟩
      · rw [if_neg c346] at e343
        have c346b : (decide (x345 < (s0.length : Int))) = false := decide_eq_false c346
        refine t_v (dv_quiet rfl (congrArg (fun t => some (Value.bool t)) c346b)) ?_
        refine t_keep [0, 1, 7, 8, 9] (σ' := [(0, .slice a_s0 s0.length c_s0), (1, .func (.func 64) #[] #[.pointer (some ⟨B0, 0, none⟩), .pointer (some ⟨B1, 0, none⟩)]), (7, .int .i64 (s0.length : Int)), (8, .int .i64 x345), (9, .bool false)]) (by kernel_rfl) ?_
        refine t_end ?_
        show W _ _ _ _ _ _ _
        refine w_seq ?_
        refine w_cond rfl (fun c_ => by cases c_) (fun _ => ?_)
        show W _ _ _ _ _ _ _
        refine w_exit ?_
        obtain rfl := Option.some.inj e343
        exact ⟨([⟨B0, [.int .i64 m0_0, .int .i64 m0_1], 2⟩, ⟨B1, [.int .i64 m1_0], 1⟩] : List Own), S, VS.sel [0, 0] (by kernel_rfl), (), rfl, by kernel_rfl, rfl, rfl⟩
  · rintro σ_ H_ S_ ⟨u_, rfl, rfl, rfl, rfl⟩
    dsimp only at e
    refine w_seq ?_
    refine w_reg fun all => ?_
    refine t_qz 1 [4] (σ' := [(4, .int .i64 (-1))]) (by kernel_rfl) ?_
    refine t_end ?_
    show W _ _ _ _ _ _ _
    refine w_ret ?_
    obtain rfl := Option.some.inj e
    exact ⟨[.int .i64 (-1)], ([⟨B0, [.int .i64 m0_0, .int .i64 m0_1], 2⟩, ⟨B1, [.int .i64 m1_0], 1⟩] : List Own), S, ⟨rfl, trivial⟩, VS.sel [0, 0] (by kernel_rfl), rfl, rfl, rfl⟩

/-- slices.ContainsFunc[[]api.Edge,api.Edge] -/
def c63 : C :=
  (.seq (.reg [⟨(some 4), .mv (.const (.bool false)), none⟩])
  (.seq (.reg [⟨(some 5), .mv (.tmp 0), none⟩,
     ⟨(some 6), .mv (.tmp 1), none⟩,
     ⟨(some 7), .call 103 [(.tmp 5), (.tmp 6)], none⟩,
     ⟨(some 8), .bin .geq (.tmp 7) (.const (.int .i64 0)), none⟩,
     ⟨(some 4), .mv (.tmp 8), none⟩])
  .ret))
def api_Edge_v1.f (k : Nat) (s0 : List (Int × Int × Int × Int)) (m0_0 : Int) (m0_1 : Int) (m1_0 : Int) : Option (Bool) := (api_Edge_v2.f k s0 m0_0 m0_1 m1_0).bind fun t389 => (some (decide (t389 ≥ 0)))
theorem api_Edge_v1.ok {S : Seal} {B0 : Nat} {B1 : Nat} {k : Nat} {s0 : List (Int × Int × Int × Int)} {m0_0 : Int} {m0_1 : Int} {m1_0 : Int} {r0_ : Bool}{a_s0 : Option Addr} {c_s0 : Nat} (h_s0 : SlE S E_i644 s0 a_s0) (e : api_Edge_v1.f k s0 m0_0 m0_1 m1_0 = some r0_) :
    Cal Try.prog 63 [.slice a_s0 s0.length c_s0, .func (.func 64) #[] #[.pointer (some ⟨B0, 0, none⟩), .pointer (some ⟨B1, 0, none⟩)]] ([⟨B0, [.int .i64 m0_0, .int .i64 m0_1], 2⟩, ⟨B1, [.int .i64 m1_0], 1⟩] : List Own) S fun v H' S' => v = .bool r0_ ∧ H' = ([⟨B0, [.int .i64 m0_0, .int .i64 m0_1], 2⟩, ⟨B1, [.int .i64 m1_0], 1⟩] : List Own) ∧ S' = S := by
  unfold api_Edge_v1.f at e
  refine cal_of (c := c63) (N := 9) Try.func63 rfl rfl (by kernel_rfl) (rs := [.t 4]) (by kernel_rfl) (Nat.le_of_ble_eq_true rfl) ?_
  unfold c63
  refine w_seq ?_
  refine w_reg fun all => ?_
  refine t_qz 1 [0, 1] (σ' := [(0, .slice a_s0 s0.length c_s0), (1, .func (.func 64) #[] #[.pointer (some ⟨B0, 0, none⟩), .pointer (some ⟨B1, 0, none⟩)])]) (by kernel_rfl) ?_
  refine t_end ?_
  show W _ _ _ _ _ _ _
  refine w_seq ?_
  refine w_reg fun all => ?_
  obtain ⟨t389, h390, e⟩ := bind_of e
  refine t_qz 2 [5, 6] (σ' := [(5, .slice a_s0 s0.length c_s0), (6, .func (.func 64) #[] #[.pointer (some ⟨B0, 0, none⟩), .pointer (some ⟨B1, 0, none⟩)])]) (by kernel_rfl) ?_
  refine t_v (.callr (vs := [.slice a_s0 s0.length c_s0, .func (.func 64) #[] #[.pointer (some ⟨B0, 0, none⟩), .pointer (some ⟨B1, 0, none⟩)]]) (A := ([⟨B0, [.int .i64 m0_0, .int .i64 m0_1], 2⟩, ⟨B1, [.int .i64 m1_0], 1⟩] : List Own)) (F0 := ([] : List Own)) rfl rfl (by kernel_rfl) (sel_perm (is := [0, 0]) (by kernel_rfl)) (api_Edge_v2.ok h_s0 h390)) ?_
  refine t_qz 2 [4] (σ' := [(4, .bool (decide (t389 ≥ 0)))]) (by kernel_rfl) ?_
  refine t_end ?_
  show W _ _ _ _ _ _ _
  refine w_ret ?_
  obtain rfl := Option.some.inj e
  exact ⟨[.bool (decide (t389 ≥ 0))], ([⟨B0, [.int .i64 m0_0, .int .i64 m0_1], 2⟩, ⟨B1, [.int .i64 m1_0], 1⟩] : List Own), S, ⟨rfl, trivial⟩, VS.sel [0, 0] (by kernel_rfl), rfl, rfl, rfl⟩

/-- stroke.Near -/
def c19 : C :=
  (.seq (.reg [⟨(some 4), .box (.tmp 1), none⟩,
     ⟨(some 5), .box (.tmp 2), none⟩,
     ⟨(some 6), .mv (.const (.bool false)), none⟩])
  (.seq (.reg [⟨(some 7), .mv (.tmp 0), none⟩,
     ⟨(some 8), .mkf 64 [(.tmp 5), (.tmp 4)], none⟩,
     ⟨(some 9), .call 63 [(.tmp 7), (.tmp 8)], none⟩,
     ⟨(some 6), .mv (.tmp 9), none⟩])
  .ret))
def stroke_Near_v1.f (k : Nat) (l0 : List (Int × Int × Int × Int)) (w1 : Int) (p2_0 : Int) (p2_1 : Int) : Option (Bool) := (api_Edge_v1.f k l0 p2_0 p2_1 w1).bind fun t391 => (some t391)
theorem stroke_Near_v1.ok {S : Seal} {k : Nat} {l0 : List (Int × Int × Int × Int)} {w1 : Int} {p2_0 : Int} {p2_1 : Int} {r0_ : Bool}{a_l0 : Option Addr} {c_l0 : Nat} (h_l0 : SlE S E_i644 l0 a_l0) (e : stroke_Near_v1.f k l0 w1 p2_0 p2_1 = some r0_) :
    Cal Try.prog 19 [.slice a_l0 l0.length c_l0, .int .i64 w1, .agg #[.int .i64 p2_0, .int .i64 p2_1]] [] S fun v H' S' => v = .bool r0_ ∧ H' = [] ∧ S' = S := by
  unfold stroke_Near_v1.f at e
  refine cal_of (c := c19) (N := 10) Try.func19 rfl rfl (by kernel_rfl) (rs := [.t 6]) (by kernel_rfl) (Nat.le_of_ble_eq_true rfl) ?_
  unfold c19
  refine w_seq ?_
  refine w_reg fun all => ?_
  refine t_a (.box rfl rfl rfl) fun b340 fb340 sb340 => ?_
  refine t_a (.box rfl rfl rfl) fun b341 fb341 sb341 => ?_
  refine t_qz 1 [0, 4, 5] (σ' := [(0, .slice a_l0 l0.length c_l0), (4, .pointer (some ⟨b340, 0, none⟩)), (5, .pointer (some ⟨b341, 0, none⟩))]) (by kernel_rfl) ?_
  refine t_end ?_
  show W _ _ _ _ _ _ _
  refine w_seq ?_
  refine w_reg fun all => ?_
  obtain ⟨t391, h392, e⟩ := bind_of e
  refine t_qz 2 [7, 8] (σ' := [(7, .slice a_l0 l0.length c_l0), (8, .func (.func 64) #[] #[.pointer (some ⟨b341, 0, none⟩), .pointer (some ⟨b340, 0, none⟩)])]) (by kernel_rfl) ?_
  refine t_v (.callr (vs := [.slice a_l0 l0.length c_l0, .func (.func 64) #[] #[.pointer (some ⟨b341, 0, none⟩), .pointer (some ⟨b340, 0, none⟩)]]) (A := ([⟨b341, [.int .i64 p2_0, .int .i64 p2_1], 2⟩, ⟨b340, [.int .i64 w1], 1⟩] : List Own)) (F0 := ([] : List Own)) rfl rfl (by kernel_rfl) (sel_perm (is := [0, 0]) (by kernel_rfl)) (api_Edge_v1.ok h_l0 h392)) ?_
  refine t_qz 1 [6] (σ' := [(6, .bool t391)]) (by kernel_rfl) ?_
  refine t_end ?_
  show W _ _ _ _ _ _ _
  refine w_ret ?_
  obtain rfl := Option.some.inj e
  exact ⟨[.bool t391], [], S, ⟨rfl, trivial⟩, VS.none, rfl, rfl, rfl⟩

/-- sweep.Line$1 -/
def c86 : C :=
  (.seq (.reg [⟨(some 4), .box (.tmp 1), none⟩,
     ⟨(some 5), .mv (.const (.bool false)), none⟩])
  (.seq (.reg [⟨(some 6), .mv (.tmp 0), none⟩,
     ⟨(some 7), .ld none (.tmp 2), none⟩,
     ⟨(some 8), .ld (some 2) (.tmp 4), none⟩,
     ⟨(some 9), .call 19 [(.tmp 6), (.tmp 7), (.tmp 8)], none⟩,
     ⟨(some 5), .mv (.tmp 9), none⟩])
  .ret))
def sweep_Line_1_v1.f (k : Nat) (l0 : List (Int × Int × Int × Int)) (p1_0 : Int) (p1_1 : Int) (m0_0 : Int) : Option (Bool) := (stroke_Near_v1.f k l0 m0_0 p1_0 p1_1).bind fun t393 => (some t393)
theorem sweep_Line_1_v1.ok {S : Seal} {B0 : Nat} {k : Nat} {l0 : List (Int × Int × Int × Int)} {p1_0 : Int} {p1_1 : Int} {m0_0 : Int} {r0_ : Bool}{a_l0 : Option Addr} {c_l0 : Nat} (h_l0 : SlE S E_i644 l0 a_l0) (e : sweep_Line_1_v1.f k l0 p1_0 p1_1 m0_0 = some r0_) :
    Cal Try.prog 86 [.slice a_l0 l0.length c_l0, .agg #[.int .i64 p1_0, .int .i64 p1_1], .pointer (some ⟨B0, 0, none⟩)] ([⟨B0, [.int .i64 m0_0], 1⟩] : List Own) S fun v H' S' => v = .bool r0_ ∧ H' = ([⟨B0, [.int .i64 m0_0], 1⟩] : List Own) ∧ S' = S := by
  unfold sweep_Line_1_v1.f at e
  refine cal_of (c := c86) (N := 10) Try.func86 rfl rfl (by kernel_rfl) (rs := [.t 5]) (by kernel_rfl) (Nat.le_of_ble_eq_true rfl) ?_
  unfold c86
  refine w_seq ?_
  refine w_reg fun all => ?_
  refine t_a (.box rfl rfl rfl) fun b339 fb339 sb339 => ?_
  refine t_qz 1 [0, 2, 4] (σ' := [(0, .slice a_l0 l0.length c_l0), (2, .pointer (some ⟨B0, 0, none⟩)), (4, .pointer (some ⟨b339, 0, none⟩))]) (by kernel_rfl) ?_
  refine t_end ?_
  show W _ _ _ _ _ _ _
  refine w_seq ?_
  refine w_reg fun all => ?_
  refine t_qz 1 [2, 4, 6] (σ' := [(2, .pointer (some ⟨B0, 0, none⟩)), (4, .pointer (some ⟨b339, 0, none⟩)), (6, .slice a_l0 l0.length c_l0)]) (by kernel_rfl) ?_
  refine t_v (.ld1 rfl rfl rfl (.at 1 rfl rfl)) ?_
  refine t_v (.ldn rfl rfl rfl (.at 0 rfl rfl)) ?_
  obtain ⟨t393, h394, e⟩ := bind_of e
  refine t_v (.call (vs := [.slice a_l0 l0.length c_l0, .int .i64 m0_0, .agg #[.int .i64 p1_0, .int .i64 p1_1]]) rfl rfl (by kernel_rfl) (stroke_Near_v1.ok h_l0 h394)) ?_
  refine t_qz 1 [5] (σ' := [(5, .bool t393)]) (by kernel_rfl) ?_
  refine t_end ?_
  show W _ _ _ _ _ _ _
  refine w_ret ?_
  obtain rfl := Option.some.inj e
  exact ⟨[.bool t393], ([⟨B0, [.int .i64 m0_0], 1⟩] : List Own), S, ⟨rfl, trivial⟩, VS.sel [1] (by kernel_rfl), rfl, rfl, rfl⟩

def sweep_masks_v2.l2 : Nat → Int → Int → Int → List (Int × Int × Int × Int) → Int → Int → List (Int) → Option (List (Int) × Bool)
  | 0, _, _, _, _, _, _, _ => none
  | k + 1, y2, m0_0, x370, t379, x382, x389, y390 => if x389 < (wr64 ((wr64 (x370 + 1)) * 8)) then ((sweep_Sample.f x382 y2 x389).bind fun (t392, t393) => ((sweep_Line_1_v1.f k t379 t392 t393 m0_0).bind fun t395 => (if t395 = true then ((lgt y390 x382).bind fun x397 => (if x389 < 0 then none else ((lgt y390 x382).bind fun x400 => ((lput y390 x382 (bits .or .u64 x397 (wru64 (1 * 2 ^ (min (Int.toNat x389) 64))))).bind fun y402 => (sweep_masks_v2.l2 k y2 m0_0 x370 t379 x382 (wr64 (x389 + 1)) y402))))) else (sweep_masks_v2.l2 k y2 m0_0 x370 t379 x382 (wr64 (x389 + 1)) y390)))) else (some (y390, true))
def sweep_masks_v2.l1 : Nat → Int → Int → Int → Int → List (Int × Int × Int × Int) → Int → List (Int) → Option (List (Int))
  | 0, _, _, _, _, _, _, _ => none
  | k + 1, y2, w3, m0_0, x370, t379, x382, y383 => if x382 < w3 then (if (t379.length : Int) > 0 then ((sweep_masks_v2.l2 k y2 m0_0 x370 t379 x382 (wr64 (x370 * 8)) y383 : Option (List (Int) × Bool)).bind fun (y408, x409) => (sweep_masks_v2.l1 k y2 w3 m0_0 x370 t379 (wr64 (x382 + 1)) y408)) else (some y383)) else (some y383)
def sweep_masks_v2.l0 : Nat → List (Int × Int × Int × Int) → Int → Int → Int → Int → Int → List (Int) → Option (List (Int))
  | 0, _, _, _, _, _, _, _ => none
  | k + 1, l0, wide1, y2, w3, m0_0, x370, y371 => if x370 < 8 then (((sweep_Sample.f 0 y2 (wr64 (x370 * 8))).bind fun (t376, t377) => ((sweep_crossing_v1.f k l0 wide1 t377).bind fun t379 => (sweep_masks_v2.l1 k y2 w3 m0_0 x370 t379 0 y371)) : Option (List (Int))).bind fun y412 => (sweep_masks_v2.l0 k l0 wide1 y2 w3 m0_0 (wr64 (x370 + 1)) y412)) else (some y371)
def sweep_masks_v2.f (k : Nat) (l0 : List (Int × Int × Int × Int)) (wide1 : Int) (y2 : Int) (w3 : Int) (m0_0 : Int) : Option (List (Int)) := if w3 < 1 then (some ([] : List (Int))) else ((lmk (0 : Int) w3 w3).bind fun y364 => ((sweep_masks_v2.l0 k l0 wide1 y2 w3 m0_0 0 y364 : Option (List (Int))).bind fun y415 => (some y415)))
theorem sweep_masks_v2.ok {S : Seal} {B0 : Nat} {k : Nat} {l0 : List (Int × Int × Int × Int)} {wide1 : Int} {y2 : Int} {w3 : Int} {m0_0 : Int} {r0_ : List (Int)}{a_l0 : Option Addr} {c_l0 : Nat} (h_l0 : SlE S E_i644 l0 a_l0) (e : sweep_masks_v2.f k l0 wide1 y2 w3 m0_0 = some r0_) :
    Cal Try.prog 82 [.slice a_l0 l0.length c_l0, .int .i64 wide1, .int .i64 y2, .int .i64 w3, .func (.func 86) #[] #[.pointer (some ⟨B0, 0, none⟩)]] ([⟨B0, [.int .i64 m0_0], 1⟩] : List Own) S fun v H' S' => ∃ (N0_ : Option Nat) (nN0_ : Nat) , v = .slice (ad N0_) r0_.length (nN0_ / 1) ∧ H' = ([⟨N0_, encL E_u64 r0_, nN0_⟩, ⟨B0, [.int .i64 m0_0], 1⟩] : List Own) ∧ S' = S := by
  unfold sweep_masks_v2.f at e
  refine cal_of (c := c82) (N := 67) Try.func82 rfl rfl (by kernel_rfl) (rs := [.t 10]) (by kernel_rfl) (Nat.le_of_ble_eq_true rfl) ?_
  unfold c82
  refine w_seq ?_
  refine w_reg fun all => ?_
  refine t_qz 1 [0, 1, 2, 3, 4] (σ' := [(0, .slice a_l0 l0.length c_l0), (1, .int .i64 wide1), (2, .int .i64 y2), (3, .int .i64 w3), (4, .func (.func 86) #[] #[.pointer (some ⟨B0, 0, none⟩)])]) (by kernel_rfl) ?_
  refine t_end ?_
  show W _ _ _ _ _ _ _
  refine w_seq ?_
  refine w_seq ?_
  refine w_reg fun all => ?_
  by_cases c363 : w3 < 1
  · rw [if_pos c363] at e
    have c363b : (decide (w3 < 1)) = true := decide_eq_true c363
    refine t_qz 1 [0, 1, 2, 3, 4, 16] (σ' := [(0, .slice a_l0 l0.length c_l0), (1, .int .i64 wide1), (2, .int .i64 y2), (3, .int .i64 w3), (4, .func (.func 86) #[] #[.pointer (some ⟨B0, 0, none⟩)]), (16, .int .i64 w3)]) (by kernel_rfl) ?_
    refine t_v (dv_quiet rfl (congrArg (fun t => some (Value.bool t)) c363b)) ?_
    refine t_keep [0, 1, 2, 3, 4, 17] (σ' := [(0, .slice a_l0 l0.length c_l0), (1, .int .i64 wide1), (2, .int .i64 y2), (3, .int .i64 w3), (4, .func (.func 86) #[] #[.pointer (some ⟨B0, 0, none⟩)]), (17, .bool true)]) (by kernel_rfl) ?_
    refine t_end ?_
    show W _ _ _ _ _ _ _
    refine w_cond rfl (fun _ => ?_) (fun c_ => by cases c_)
    show W _ _ _ _ _ _ _
    refine w_seq ?_
    refine w_reg fun all => ?_
    refine t_qz 1 [10] (σ' := [(10, .slice none 0 0)]) (by kernel_rfl) ?_
    refine t_end ?_
    show W _ _ _ _ _ _ _
    refine w_ret ?_
    obtain rfl := Option.some.inj e
    exact ⟨[.slice (ad none) ([] : List (Int)).length (0 / 1)], ([⟨none, encL E_u64 ([] : List (Int)), 0⟩, ⟨B0, [.int .i64 m0_0], 1⟩] : List Own), S, ⟨(show gt _ _ = some _ from (by kernel_rfl)), trivial⟩, VS.trans VS.vac (VS.sel [0, 0] (by kernel_rfl)), none, 0, rfl, rfl, rfl⟩
  · rw [if_neg c363] at e
    have c363b : (decide (w3 < 1)) = false := decide_eq_false c363
    refine t_qz 1 [0, 1, 2, 3, 4, 16] (σ' := [(0, .slice a_l0 l0.length c_l0), (1, .int .i64 wide1), (2, .int .i64 y2), (3, .int .i64 w3), (4, .func (.func 86) #[] #[.pointer (some ⟨B0, 0, none⟩)]), (16, .int .i64 w3)]) (by kernel_rfl) ?_
    refine t_v (dv_quiet rfl (congrArg (fun t => some (Value.bool t)) c363b)) ?_
    refine t_keep [0, 1, 2, 3, 4, 17] (σ' := [(0, .slice a_l0 l0.length c_l0), (1, .int .i64 wide1), (2, .int .i64 y2), (3, .int .i64 w3), (4, .func (.func 86) #[] #[.pointer (some ⟨B0, 0, none⟩)]), (17, .bool false)]) (by kernel_rfl) ?_
    refine t_end ?_
    show W _ _ _ _ _ _ _
    refine w_cond rfl (fun c_ => by cases c_) (fun _ => ?_)
    show W _ _ _ _ _ _ _
    refine w_skip ?_
    show W _ _ _ _ _ _ _
    refine w_seq ?_
    refine w_reg fun all => ?_
    obtain ⟨y364, hl365, e⟩ := bind_of e
    refine t_qz 1 [0, 1, 2, 3, 4, 18] (σ' := [(0, .slice a_l0 l0.length c_l0), (1, .int .i64 wide1), (2, .int .i64 y2), (3, .int .i64 w3), (4, .func (.func 86) #[] #[.pointer (some ⟨B0, 0, none⟩)]), (18, .int .i64 w3)]) (by kernel_rfl) ?_
    refine t_mkl (E := E_u64) (x0 := 0) rfl rfl rfl rfl rfl (by decide) (by decide) rfl hl365 fun a366 na366 => ?_
    refine t_qz 1 [0, 1, 2, 3, 4, 11] (σ' := [(0, .slice a_l0 l0.length c_l0), (1, .int .i64 wide1), (2, .int .i64 y2), (3, .int .i64 w3), (4, .func (.func 86) #[] #[.pointer (some ⟨B0, 0, none⟩)]), (11, .slice (ad (some a366)) y364.length (na366 / 1))]) (by kernel_rfl) ?_
    refine t_end ?_
    show W _ _ _ _ _ _ _
    obtain ⟨y415, e368, e⟩ := bind_of e
    refine w_cut [11] (fun σ_ H_ S_ => [(11, .slice (ad (some a366)) y415.length (na366 / 1))] = σ_ ∧ ([⟨B0, [.int .i64 m0_0], 1⟩, ⟨some a366, encL E_u64 y415, na366⟩] : List Own) = H_ ∧ S = S_) ?_ ?_
    · show W _ _ _ _ _ _ _
      refine w_seq ?_
      refine w_reg fun all => ?_
      refine t_qz 1 [0, 1, 2, 3, 4, 11, 20] (σ' := [(0, .slice a_l0 l0.length c_l0), (1, .int .i64 wide1), (2, .int .i64 y2), (3, .int .i64 w3), (4, .func (.func 86) #[] #[.pointer (some ⟨B0, 0, none⟩)]), (11, .slice (ad (some a366)) y364.length (na366 / 1)), (20, .int .i64 0)]) (by kernel_rfl) ?_
      refine t_end ?_
      show W _ _ _ _ _ _ _
      refine w_block ?_
      refine w_kp [0, 1, 2, 3, 4, 11, 20] (σ' := [(0, .slice a_l0 l0.length c_l0), (1, .int .i64 wide1), (2, .int .i64 y2), (3, .int .i64 w3), (4, .func (.func 86) #[] #[.pointer (some ⟨B0, 0, none⟩)]), (11, .slice (ad (some a366)) y364.length (na366 / 1)), (20, .int .i64 0)]) (by kernel_rfl) ?_
      refine w_loop (fun n_ σ_ H_ S_ => ∃ (x370 : Int) (y371 : List (Int)), [(0, .slice a_l0 l0.length c_l0), (1, .int .i64 wide1), (2, .int .i64 y2), (3, .int .i64 w3), (4, .func (.func 86) #[] #[.pointer (some ⟨B0, 0, none⟩)]), (11, .slice (ad (some a366)) y371.length (na366 / 1)), (20, .int .i64 x370)] = σ_ ∧ ([⟨some a366, encL E_u64 y371, na366⟩, ⟨B0, [.int .i64 m0_0], 1⟩] : List Own) = H_ ∧ S = S_ ∧ sweep_masks_v2.l0 n_ l0 wide1 y2 w3 m0_0 x370 y371 = some y415) _ ⟨0, y364, rfl, rfl, rfl, e368⟩ ?_
      rintro n414 σ_ H_ S_ ⟨x370, y371, rfl, rfl, rfl, e368⟩
      cases n414 with
      | zero => rw [sweep_masks_v2.l0.eq_1] at e368; cases e368
      | succ k_ =>
        rw [sweep_masks_v2.l0.eq_2] at e368
        refine w_seq ?_
        refine w_reg fun all => ?_
        by_cases c372 : x370 < 8
        · rw [if_pos c372] at e368
          have c372b : (decide (x370 < 8)) = true := decide_eq_true c372
          refine t_v (dv_quiet rfl (congrArg (fun t => some (Value.bool t)) c372b)) ?_
          refine t_keep [0, 1, 2, 3, 4, 11, 20, 21] (σ' := [(0, .slice a_l0 l0.length c_l0), (1, .int .i64 wide1), (2, .int .i64 y2), (3, .int .i64 w3), (4, .func (.func 86) #[] #[.pointer (some ⟨B0, 0, none⟩)]), (11, .slice (ad (some a366)) y371.length (na366 / 1)), (20, .int .i64 x370), (21, .bool true)]) (by kernel_rfl) ?_
          refine t_end ?_
          show W _ _ _ _ _ _ _
          refine w_seq ?_
          refine w_cond rfl (fun _ => ?_) (fun c_ => by cases c_)
          show W _ _ _ _ _ _ _
          refine w_skip ?_
          show W _ _ _ _ _ _ _
          obtain ⟨y412, e374, e368⟩ := bind_of e368
          refine w_cut [0, 1, 2, 3, 4, 11, 20] (fun σ_ H_ S_ => [(0, .slice a_l0 l0.length c_l0), (1, .int .i64 wide1), (2, .int .i64 y2), (3, .int .i64 w3), (4, .func (.func 86) #[] #[.pointer (some ⟨B0, 0, none⟩)]), (11, .slice (ad (some a366)) y412.length (na366 / 1)), (20, .int .i64 x370)] = σ_ ∧ ([⟨B0, [.int .i64 m0_0], 1⟩, ⟨some a366, encL E_u64 y412, na366⟩] : List Own) = H_ ∧ S = S_) ?_ ?_
          · show W _ _ _ _ _ _ _
            refine w_block ?_
            refine w_seq ?_
            refine w_reg fun all => ?_
            refine t_qz 2 [0, 1, 2, 3, 4, 11, 12, 20] (σ' := [(0, .slice a_l0 l0.length c_l0), (1, .int .i64 wide1), (2, .int .i64 y2), (3, .int .i64 w3), (4, .func (.func 86) #[] #[.pointer (some ⟨B0, 0, none⟩)]), (11, .slice (ad (some a366)) y371.length (na366 / 1)), (12, .int .i64 x370), (20, .int .i64 x370)]) (by kernel_rfl) ?_
            refine t_end ?_
            show W _ _ _ _ _ _ _
            refine w_seq ?_
            refine w_reg fun all => ?_
            obtain ⟨⟨t376, t377⟩, h378, e374⟩ := bind_of e374
            try dsimp only at e374
            refine t_qz 5 [0, 1, 2, 3, 4, 11, 12, 20, 23, 24, 25, 27] (σ' := [(0, .slice a_l0 l0.length c_l0), (1, .int .i64 wide1), (2, .int .i64 y2), (3, .int .i64 w3), (4, .func (.func 86) #[] #[.pointer (some ⟨B0, 0, none⟩)]), (11, .slice (ad (some a366)) y371.length (na366 / 1)), (12, .int .i64 x370), (20, .int .i64 x370), (23, .slice a_l0 l0.length c_l0), (24, .int .i64 wide1), (25, .int .i64 y2), (27, .int .i64 (wr64 (x370 * 8)))]) (by kernel_rfl) ?_
            refine t_v (.call (vs := [.int .i64 0, .int .i64 y2, .int .i64 (wr64 (x370 * 8))]) rfl rfl (by kernel_rfl) (sweep_Sample.ok h378)) ?_
            obtain ⟨t379, h380, e374⟩ := bind_of e374
            refine t_qz 1 [0, 1, 2, 3, 4, 11, 12, 20, 23, 24, 29] (σ' := [(0, .slice a_l0 l0.length c_l0), (1, .int .i64 wide1), (2, .int .i64 y2), (3, .int .i64 w3), (4, .func (.func 86) #[] #[.pointer (some ⟨B0, 0, none⟩)]), (11, .slice (ad (some a366)) y371.length (na366 / 1)), (12, .int .i64 x370), (20, .int .i64 x370), (23, .slice a_l0 l0.length c_l0), (24, .int .i64 wide1), (29, .int .i64 t377)]) (by kernel_rfl) ?_
            refine t_call (vs := [.slice a_l0 l0.length c_l0, .int .i64 wide1, .int .i64 t377]) (H1 := ([] : List Own)) (F := ([⟨some a366, encL E_u64 y371, na366⟩, ⟨B0, [.int .i64 m0_0], 1⟩] : List Own)) rfl rfl (by kernel_rfl) (sel_perm (is := []) (by kernel_rfl)) (sweep_crossing_v1.ok h_l0 h380) ?_
            rintro _ _ S_ ⟨N381, nN381, rfl, rfl, hS_⟩
            obtain rfl := hS_.symm
            refine t_qz 1 [0, 1, 2, 3, 4, 11, 12, 13, 20] (σ' := [(0, .slice a_l0 l0.length c_l0), (1, .int .i64 wide1), (2, .int .i64 y2), (3, .int .i64 w3), (4, .func (.func 86) #[] #[.pointer (some ⟨B0, 0, none⟩)]), (11, .slice (ad (some a366)) y371.length (na366 / 1)), (12, .int .i64 x370), (13, .slice (ad N381) t379.length (nN381 / 4)), (20, .int .i64 x370)]) (by kernel_rfl) ?_
            refine t_end ?_
            show W _ _ _ _ _ _ _
            refine w_seq ?_
            refine w_reg fun all => ?_
            refine t_qz 1 [0, 1, 2, 3, 4, 11, 12, 13, 14, 20] (σ' := [(0, .slice a_l0 l0.length c_l0), (1, .int .i64 wide1), (2, .int .i64 y2), (3, .int .i64 w3), (4, .func (.func 86) #[] #[.pointer (some ⟨B0, 0, none⟩)]), (11, .slice (ad (some a366)) y371.length (na366 / 1)), (12, .int .i64 x370), (13, .slice (ad N381) t379.length (nN381 / 4)), (14, .int .i64 0), (20, .int .i64 x370)]) (by kernel_rfl) ?_
            refine t_end ?_
            show W _ _ _ _ _ _ _
            refine w_block ?_
            refine w_kp [0, 1, 2, 3, 4, 11, 12, 13, 14, 20] (σ' := [(0, .slice a_l0 l0.length c_l0), (1, .int .i64 wide1), (2, .int .i64 y2), (3, .int .i64 w3), (4, .func (.func 86) #[] #[.pointer (some ⟨B0, 0, none⟩)]), (11, .slice (ad (some a366)) y371.length (na366 / 1)), (12, .int .i64 x370), (13, .slice (ad N381) t379.length (nN381 / 4)), (14, .int .i64 0), (20, .int .i64 x370)]) (by kernel_rfl) ?_
            refine w_loop (fun n_ σ_ H_ S_ => ∃ (x382 : Int) (y383 : List (Int)), [(0, .slice a_l0 l0.length c_l0), (1, .int .i64 wide1), (2, .int .i64 y2), (3, .int .i64 w3), (4, .func (.func 86) #[] #[.pointer (some ⟨B0, 0, none⟩)]), (11, .slice (ad (some a366)) y383.length (na366 / 1)), (12, .int .i64 x370), (13, .slice (ad N381) t379.length (nN381 / 4)), (14, .int .i64 x382), (20, .int .i64 x370)] = σ_ ∧ ([⟨N381, encL E_i644 t379, nN381⟩, ⟨some a366, encL E_u64 y383, na366⟩, ⟨B0, [.int .i64 m0_0], 1⟩] : List Own) = H_ ∧ S = S_ ∧ sweep_masks_v2.l1 n_ y2 w3 m0_0 x370 t379 x382 y383 = some y412) _ ⟨0, y371, rfl, rfl, rfl, e374⟩ ?_
            rintro n411 σ_ H_ S_ ⟨x382, y383, rfl, rfl, rfl, e374⟩
            cases n411 with
            | zero => rw [sweep_masks_v2.l1.eq_1] at e374; cases e374
            | succ k_ =>
              rw [sweep_masks_v2.l1.eq_2] at e374
              refine w_seq ?_
              refine w_seq ?_
              refine w_reg fun all => ?_
              by_cases c384 : x382 < w3
              · rw [if_pos c384] at e374
                have c384b : (decide (x382 < w3)) = true := decide_eq_true c384
                refine t_qz 2 [0, 1, 2, 3, 4, 11, 12, 13, 14, 20, 31, 32] (σ' := [(0, .slice a_l0 l0.length c_l0), (1, .int .i64 wide1), (2, .int .i64 y2), (3, .int .i64 w3), (4, .func (.func 86) #[] #[.pointer (some ⟨B0, 0, none⟩)]), (11, .slice (ad (some a366)) y383.length (na366 / 1)), (12, .int .i64 x370), (13, .slice (ad N381) t379.length (nN381 / 4)), (14, .int .i64 x382), (20, .int .i64 x370), (31, .int .i64 x382), (32, .int .i64 w3)]) (by kernel_rfl) ?_
                refine t_v (dv_quiet rfl (congrArg (fun t => some (Value.bool t)) c384b)) ?_
                by_cases c385 : (t379.length : Int) > 0
                · rw [if_pos c385] at e374
                  have c385b : (decide ((t379.length : Int) > 0)) = true := decide_eq_true c385
                  refine t_qz 3 [0, 1, 2, 3, 4, 11, 12, 13, 14, 20, 34, 35, 36] (σ' := [(0, .slice a_l0 l0.length c_l0), (1, .int .i64 wide1), (2, .int .i64 y2), (3, .int .i64 w3), (4, .func (.func 86) #[] #[.pointer (some ⟨B0, 0, none⟩)]), (11, .slice (ad (some a366)) y383.length (na366 / 1)), (12, .int .i64 x370), (13, .slice (ad N381) t379.length (nN381 / 4)), (14, .int .i64 x382), (20, .int .i64 x370), (34, .bool true), (35, .slice (ad N381) t379.length (nN381 / 4)), (36, .int .i64 (t379.length : Int))]) (by kernel_rfl) ?_
                  refine t_v (dv_quiet rfl (congrArg (fun t => some (Value.bool t)) c385b)) ?_
                  refine t_qz 1 [0, 1, 2, 3, 4, 11, 12, 13, 14, 20, 35, 36, 37, 38] (σ' := [(0, .slice a_l0 l0.length c_l0), (1, .int .i64 wide1), (2, .int .i64 y2), (3, .int .i64 w3), (4, .func (.func 86) #[] #[.pointer (some ⟨B0, 0, none⟩)]), (11, .slice (ad (some a366)) y383.length (na366 / 1)), (12, .int .i64 x370), (13, .slice (ad N381) t379.length (nN381 / 4)), (14, .int .i64 x382), (20, .int .i64 x370), (35, .slice (ad N381) t379.length (nN381 / 4)), (36, .int .i64 (t379.length : Int)), (37, .bool true), (38, .bool true)]) (by kernel_rfl) ?_
                  refine t_end ?_
                  show W _ _ _ _ _ _ _
                  refine w_cond rfl (fun _ => ?_) (fun c_ => by cases c_)
                  show W _ _ _ _ _ _ _
                  refine w_skip ?_
                  show W _ _ _ _ _ _ _
                  obtain ⟨⟨y408, x409⟩, e387, e374⟩ := bind_of e374
                  try dsimp only at e374
                  refine w_cut [0, 1, 2, 3, 4, 11, 12, 13, 14, 20, 35, 36, 37] (fun σ_ H_ S_ => [(0, .slice a_l0 l0.length c_l0), (1, .int .i64 wide1), (2, .int .i64 y2), (3, .int .i64 w3), (4, .func (.func 86) #[] #[.pointer (some ⟨B0, 0, none⟩)]), (11, .slice (ad (some a366)) y408.length (na366 / 1)), (12, .int .i64 x370), (13, .slice (ad N381) t379.length (nN381 / 4)), (14, .int .i64 x382), (20, .int .i64 x370), (35, .slice (ad N381) t379.length (nN381 / 4)), (36, .int .i64 (t379.length : Int)), (37, .bool x409)] = σ_ ∧ ([⟨B0, [.int .i64 m0_0], 1⟩, ⟨some a366, encL E_u64 y408, na366⟩, ⟨N381, encL E_i644 t379, nN381⟩] : List Own) = H_ ∧ S = S_) ?_ ?_
                  · show W _ _ _ _ _ _ _
                    refine w_block ?_
                    refine w_seq ?_
                    refine w_reg fun all => ?_
                    refine t_qz 3 [0, 1, 2, 3, 4, 11, 12, 13, 14, 15, 20, 35, 36, 37] (σ' := [(0, .slice a_l0 l0.length c_l0), (1, .int .i64 wide1), (2, .int .i64 y2), (3, .int .i64 w3), (4, .func (.func 86) #[] #[.pointer (some ⟨B0, 0, none⟩)]), (11, .slice (ad (some a366)) y383.length (na366 / 1)), (12, .int .i64 x370), (13, .slice (ad N381) t379.length (nN381 / 4)), (14, .int .i64 x382), (15, .int .i64 (wr64 (x370 * 8))), (20, .int .i64 x370), (35, .slice (ad N381) t379.length (nN381 / 4)), (36, .int .i64 (t379.length : Int)), (37, .bool true)]) (by kernel_rfl) ?_
                    refine t_end ?_
                    show W _ _ _ _ _ _ _
                    refine w_block ?_
                    refine w_kp [0, 1, 2, 3, 4, 11, 12, 13, 14, 15, 20, 35, 36, 37] (σ' := [(0, .slice a_l0 l0.length c_l0), (1, .int .i64 wide1), (2, .int .i64 y2), (3, .int .i64 w3), (4, .func (.func 86) #[] #[.pointer (some ⟨B0, 0, none⟩)]), (11, .slice (ad (some a366)) y383.length (na366 / 1)), (12, .int .i64 x370), (13, .slice (ad N381) t379.length (nN381 / 4)), (14, .int .i64 x382), (15, .int .i64 (wr64 (x370 * 8))), (20, .int .i64 x370), (35, .slice (ad N381) t379.length (nN381 / 4)), (36, .int .i64 (t379.length : Int)), (37, .bool true)]) (by kernel_rfl) ?_
                    refine w_loop (fun n_ σ_ H_ S_ => ∃ (x389 : Int) (y390 : List (Int)), [(0, .slice a_l0 l0.length c_l0), (1, .int .i64 wide1), (2, .int .i64 y2), (3, .int .i64 w3), (4, .func (.func 86) #[] #[.pointer (some ⟨B0, 0, none⟩)]), (11, .slice (ad (some a366)) y390.length (na366 / 1)), (12, .int .i64 x370), (13, .slice (ad N381) t379.length (nN381 / 4)), (14, .int .i64 x382), (15, .int .i64 x389), (20, .int .i64 x370), (35, .slice (ad N381) t379.length (nN381 / 4)), (36, .int .i64 (t379.length : Int)), (37, .bool true)] = σ_ ∧ ([⟨N381, encL E_i644 t379, nN381⟩, ⟨some a366, encL E_u64 y390, na366⟩, ⟨B0, [.int .i64 m0_0], 1⟩] : List Own) = H_ ∧ S = S_ ∧ sweep_masks_v2.l2 n_ y2 m0_0 x370 t379 x382 x389 y390 = some (y408, x409)) _ ⟨wr64 (x370 * 8), y383, rfl, rfl, rfl, e387⟩ ?_
                    rintro n407 σ_ H_ S_ ⟨x389, y390, rfl, rfl, rfl, e387⟩
                    cases n407 with
                    | zero => rw [sweep_masks_v2.l2.eq_1] at e387; cases e387
                    | succ k_ =>
                      rw [sweep_masks_v2.l2.eq_2] at e387
                      refine w_seq ?_
                      refine w_seq ?_
                      refine w_reg fun all => ?_
                      by_cases c391 : x389 < (wr64 ((wr64 (x370 + 1)) * 8))
                      · rw [if_pos c391] at e387
                        have c391b : (decide (x389 < (wr64 ((wr64 (x370 + 1)) * 8)))) = true := decide_eq_true c391
                        refine t_qz 4 [0, 1, 2, 3, 4, 11, 12, 13, 14, 15, 20, 35, 36, 37, 43, 46] (σ' := [(0, .slice a_l0 l0.length c_l0), (1, .int .i64 wide1), (2, .int .i64 y2), (3, .int .i64 w3), (4, .func (.func 86) #[] #[.pointer (some ⟨B0, 0, none⟩)]), (11, .slice (ad (some a366)) y390.length (na366 / 1)), (12, .int .i64 x370), (13, .slice (ad N381) t379.length (nN381 / 4)), (14, .int .i64 x382), (15, .int .i64 x389), (20, .int .i64 x370), (35, .slice (ad N381) t379.length (nN381 / 4)), (36, .int .i64 (t379.length : Int)), (37, .bool true), (43, .int .i64 x389), (46, .int .i64 (wr64 ((wr64 (x370 + 1)) * 8)))]) (by kernel_rfl) ?_
                        refine t_v (dv_quiet rfl (congrArg (fun t => some (Value.bool t)) c391b)) ?_
                        refine t_keep [0, 1, 2, 3, 4, 11, 12, 13, 14, 15, 20, 35, 36, 37, 47] (σ' := [(0, .slice a_l0 l0.length c_l0), (1, .int .i64 wide1), (2, .int .i64 y2), (3, .int .i64 w3), (4, .func (.func 86) #[] #[.pointer (some ⟨B0, 0, none⟩)]), (11, .slice (ad (some a366)) y390.length (na366 / 1)), (12, .int .i64 x370), (13, .slice (ad N381) t379.length (nN381 / 4)), (14, .int .i64 x382), (15, .int .i64 x389), (20, .int .i64 x370), (35, .slice (ad N381) t379.length (nN381 / 4)), (36, .int .i64 (t379.length : Int)), (37, .bool true), (47, .bool true)]) (by kernel_rfl) ?_
                        refine t_end ?_
                        show W _ _ _ _ _ _ _
                        refine w_cond rfl (fun _ => ?_) (fun c_ => by cases c_)
                        show W _ _ _ _ _ _ _
                        refine w_skip ?_
                        show W _ _ _ _ _ _ _
                        refine w_seq ?_
                        refine w_block ?_
                        refine w_seq ?_
                        refine w_reg fun all => ?_
                        obtain ⟨⟨t392, t393⟩, h394, e387⟩ := bind_of e387
                        try dsimp only at e387
                        refine t_qz 5 [0, 1, 2, 3, 4, 11, 12, 13, 14, 15, 20, 35, 36, 37, 50, 51, 52, 53, 54] (σ' := [(0, .slice a_l0 l0.length c_l0), (1, .int .i64 wide1), (2, .int .i64 y2), (3, .int .i64 w3), (4, .func (.func 86) #[] #[.pointer (some ⟨B0, 0, none⟩)]), (11, .slice (ad (some a366)) y390.length (na366 / 1)), (12, .int .i64 x370), (13, .slice (ad N381) t379.length (nN381 / 4)), (14, .int .i64 x382), (15, .int .i64 x389), (20, .int .i64 x370), (35, .slice (ad N381) t379.length (nN381 / 4)), (36, .int .i64 (t379.length : Int)), (37, .bool true), (50, .func (.func 86) #[] #[.pointer (some ⟨B0, 0, none⟩)]), (51, .slice (ad N381) t379.length (nN381 / 4)), (52, .int .i64 x382), (53, .int .i64 y2), (54, .int .i64 x389)]) (by kernel_rfl) ?_
                        refine t_v (.call (vs := [.int .i64 x382, .int .i64 y2, .int .i64 x389]) rfl rfl (by kernel_rfl) (sweep_Sample.ok h394)) ?_
                        obtain ⟨t395, h396, e387⟩ := bind_of e387
                        cases t395 with
                        | true =>
                          rw [if_pos rfl] at e387
                          refine t_v (.clor (vs := [.slice (ad N381) t379.length (nN381 / 4), .agg #[.int .i64 t392, .int .i64 t393]]) (caps := #[.pointer (some ⟨B0, 0, none⟩)]) (A := ([⟨N381, encL E_i644 t379, nN381⟩, ⟨B0, [.int .i64 m0_0], 1⟩] : List Own)) (F0 := ([⟨some a366, encL E_u64 y390, na366⟩] : List Own)) rfl rfl rfl (by kernel_rfl) (by kernel_rfl) (sel_perm (is := [0, 1]) (by kernel_rfl)) (cal_lendr fun S1_ le1_ hS1_ => (sweep_Line_1_v1.ok (SlE.ofAd (E := E_i644) (L := t379) hS1_ (by decide)) h396))) ?_
                          refine t_keep [0, 1, 2, 3, 4, 11, 12, 13, 14, 15, 20, 35, 36, 37, 56] (σ' := [(0, .slice a_l0 l0.length c_l0), (1, .int .i64 wide1), (2, .int .i64 y2), (3, .int .i64 w3), (4, .func (.func 86) #[] #[.pointer (some ⟨B0, 0, none⟩)]), (11, .slice (ad (some a366)) y390.length (na366 / 1)), (12, .int .i64 x370), (13, .slice (ad N381) t379.length (nN381 / 4)), (14, .int .i64 x382), (15, .int .i64 x389), (20, .int .i64 x370), (35, .slice (ad N381) t379.length (nN381 / 4)), (36, .int .i64 (t379.length : Int)), (37, .bool true), (56, .bool true)]) (by kernel_rfl) ?_
                          refine t_end ?_
                          show W _ _ _ _ _ _ _
                          refine w_cond rfl (fun _ => ?_) (fun c_ => by cases c_)
                          show W _ _ _ _ _ _ _
                          obtain ⟨x397, hx398, e387⟩ := bind_of e387
                          have c399 : ¬ x389 < 0 := by
                            intro h_; rw [if_pos h_] at e387; cases e387
                          rw [if_neg c399] at e387
                          obtain ⟨x400, hx401, e387⟩ := bind_of e387
                          refine w_drwE mixed 8 [.v (.slice (ad (some a366)) y390.length (na366 / 1)), .v (.int .i64 x382), .v (.pointer (some ⟨bk (some a366), (x382).toNat * 1 + 0, none⟩)), .v (.int .u64 x397), .v (.int .i64 x389), .v (.int .u64 (wru64 (1 * 2 ^ (min (Int.toNat x389) 64)))), .v (.int .u64 (bits .or .u64 x397 (wru64 (1 * 2 ^ (min (Int.toNat x389) 64))))), .v (.pointer (some ⟨bk (some a366), (x382).toNat * 1 + 0, none⟩))] (by kernel_rfl) ?_ ?_
                          · refine DI.sq 2 (by kernel_rfl) rfl ?_
                            refine .cons (.quietH rfl (by intro h_; cases h_) (ixl (E := E_u64) (j := 1) rfl rfl rfl (by decide) rfl hx398)) ?_
                            refine .cons (.ld1 rfl rfl rfl (.lst 1 rfl (encL_at (lgt_in hx398).1 rfl))) ?_
                            refine DI.sq 1 (by kernel_rfl) rfl ?_
                            refine .cons (.quiet rfl (qv_shl rfl rfl c399)) ?_
                            refine DI.sq 1 (by kernel_rfl) rfl ?_
                            refine .cons (.quietH rfl (by intro h_; cases h_) (ixl (E := E_u64) (j := 1) rfl rfl rfl (by decide) rfl hx401)) ?_
                            exact .nil
                          refine fk_q 8 [0, 1, 2, 3, 4, 11, 12, 13, 14, 15, 20, 35, 36, 37, 63, 64] (σ' := [(0, .slice a_l0 l0.length c_l0), (1, .int .i64 wide1), (2, .int .i64 y2), (3, .int .i64 w3), (4, .func (.func 86) #[] #[.pointer (some ⟨B0, 0, none⟩)]), (11, .slice (ad (some a366)) y390.length (na366 / 1)), (12, .int .i64 x370), (13, .slice (ad N381) t379.length (nN381 / 4)), (14, .int .i64 x382), (15, .int .i64 x389), (20, .int .i64 x370), (35, .slice (ad N381) t379.length (nN381 / 4)), (36, .int .i64 (t379.length : Int)), (37, .bool true), (63, .int .u64 (bits .or .u64 x397 (wru64 (1 * 2 ^ (min (Int.toNat x389) 64))))), (64, .pointer (some ⟨bk (some a366), (x382).toNat * 1 + 0, none⟩))]) t_more (by kernel_rfl) ?_
                          refine fk_nil fun all => ?_
                          obtain ⟨y402, hl403, e387⟩ := bind_of e387
                          refine t_stl 1 (E := E_u64) (L := y390) (L' := y402) (i := x382) (off := 0) (y0 := x400) (y1 := (bits .or .u64 x397 (wru64 (1 * 2 ^ (min (Int.toNat x389) 64))))) (H' := ([⟨N381, encL E_i644 t379, nN381⟩, ⟨some a366, encL E_u64 y402, na366⟩, ⟨B0, [.int .i64 m0_0], 1⟩] : List Own)) rfl rfl rfl rfl rfl rfl rfl (by decide) rfl hx401 (by kernel_rfl) hl403 rfl ?_
                          refine t_keep [0, 1, 2, 3, 4, 11, 12, 13, 14, 15, 20, 35, 36, 37, 63, 64] (σ' := [(0, .slice a_l0 l0.length c_l0), (1, .int .i64 wide1), (2, .int .i64 y2), (3, .int .i64 w3), (4, .func (.func 86) #[] #[.pointer (some ⟨B0, 0, none⟩)]), (11, .slice (ad (some a366)) y390.length (na366 / 1)), (12, .int .i64 x370), (13, .slice (ad N381) t379.length (nN381 / 4)), (14, .int .i64 x382), (15, .int .i64 x389), (20, .int .i64 x370), (35, .slice (ad N381) t379.length (nN381 / 4)), (36, .int .i64 (t379.length : Int)), (37, .bool true), (63, .int .u64 (bits .or .u64 x397 (wru64 (1 * 2 ^ (min (Int.toNat x389) 64))))), (64, .pointer (some ⟨bk (some a366), (x382).toNat * 1 + 0, none⟩))]) (by kernel_rfl) ?_
                          refine t_eq (σ' := [(0, .slice a_l0 l0.length c_l0), (1, .int .i64 wide1), (2, .int .i64 y2), (3, .int .i64 w3), (4, .func (.func 86) #[] #[.pointer (some ⟨B0, 0, none⟩)]), (11, .slice (ad (some a366)) y402.length (na366 / 1)), (12, .int .i64 x370), (13, .slice (ad N381) t379.length (nN381 / 4)), (14, .int .i64 x382), (15, .int .i64 x389), (20, .int .i64 x370), (35, .slice (ad N381) t379.length (nN381 / 4)), (36, .int .i64 (t379.length : Int)), (37, .bool true), (63, .int .u64 (bits .or .u64 x397 (wru64 (1 * 2 ^ (min (Int.toNat x389) 64))))), (64, .pointer (some ⟨bk (some a366), (x382).toNat * 1 + 0, none⟩))]) (H' := ([⟨N381, encL E_i644 t379, nN381⟩, ⟨some a366, encL E_u64 y402, na366⟩, ⟨B0, [.int .i64 m0_0], 1⟩] : List Own)) (by first | rfl | rw [(lput_is hl403).2]) (by first | rfl | rw [(lput_is hl403).2]) ?_
                          refine t_keep [0, 1, 2, 3, 4, 11, 12, 13, 14, 15, 20, 35, 36, 37] (σ' := [(0, .slice a_l0 l0.length c_l0), (1, .int .i64 wide1), (2, .int .i64 y2), (3, .int .i64 w3), (4, .func (.func 86) #[] #[.pointer (some ⟨B0, 0, none⟩)]), (11, .slice (ad (some a366)) y402.length (na366 / 1)), (12, .int .i64 x370), (13, .slice (ad N381) t379.length (nN381 / 4)), (14, .int .i64 x382), (15, .int .i64 x389), (20, .int .i64 x370), (35, .slice (ad N381) t379.length (nN381 / 4)), (36, .int .i64 (t379.length : Int)), (37, .bool true)]) (by kernel_rfl) ?_
                          refine t_end ?_
                          show W _ _ _ _ _ _ _
                          refine w_reg fun all => ?_
                          refine t_qz 3 [0, 1, 2, 3, 4, 11, 12, 13, 14, 15, 20, 35, 36, 37] (σ' := [(0, .slice a_l0 l0.length c_l0), (1, .int .i64 wide1), (2, .int .i64 y2), (3, .int .i64 w3), (4, .func (.func 86) #[] #[.pointer (some ⟨B0, 0, none⟩)]), (11, .slice (ad (some a366)) y402.length (na366 / 1)), (12, .int .i64 x370), (13, .slice (ad N381) t379.length (nN381 / 4)), (14, .int .i64 x382), (15, .int .i64 (wr64 (x389 + 1))), (20, .int .i64 x370), (35, .slice (ad N381) t379.length (nN381 / 4)), (36, .int .i64 (t379.length : Int)), (37, .bool true)]) (by kernel_rfl) ?_
                          refine t_end ?_
                          exact ⟨k_, Nat.lt_succ_self _, [(0, .slice a_l0 l0.length c_l0), (1, .int .i64 wide1), (2, .int .i64 y2), (3, .int .i64 w3), (4, .func (.func 86) #[] #[.pointer (some ⟨B0, 0, none⟩)]), (11, .slice (ad (some a366)) y402.length (na366 / 1)), (12, .int .i64 x370), (13, .slice (ad N381) t379.length (nN381 / 4)), (14, .int .i64 x382), (15, .int .i64 (wr64 (x389 + 1))), (20, .int .i64 x370), (35, .slice (ad N381) t379.length (nN381 / 4)), (36, .int .i64 (t379.length : Int)), (37, .bool true)], ([⟨N381, encL E_i644 t379, nN381⟩, ⟨some a366, encL E_u64 y402, na366⟩, ⟨B0, [.int .i64 m0_0], 1⟩] : List Own), S, keep_sub [0, 1, 2, 3, 4, 11, 12, 13, 14, 15, 20, 35, 36, 37] (by kernel_rfl), VS.sel [0, 0, 0] (by kernel_rfl), wr64 (x389 + 1), y402, rfl, rfl, rfl, e387⟩
                        | false =>
                          rw [if_neg (by decide)] at e387
                          refine t_v (.clor (vs := [.slice (ad N381) t379.length (nN381 / 4), .agg #[.int .i64 t392, .int .i64 t393]]) (caps := #[.pointer (some ⟨B0, 0, none⟩)]) (A := ([⟨N381, encL E_i644 t379, nN381⟩, ⟨B0, [.int .i64 m0_0], 1⟩] : List Own)) (F0 := ([⟨some a366, encL E_u64 y390, na366⟩] : List Own)) rfl rfl rfl (by kernel_rfl) (by kernel_rfl) (sel_perm (is := [0, 1]) (by kernel_rfl)) (cal_lendr fun S1_ le1_ hS1_ => (sweep_Line_1_v1.ok (SlE.ofAd (E := E_i644) (L := t379) hS1_ (by decide)) h396))) ?_
                          refine t_keep [0, 1, 2, 3, 4, 11, 12, 13, 14, 15, 20, 35, 36, 37, 56] (σ' := [(0, .slice a_l0 l0.length c_l0), (1, .int .i64 wide1), (2, .int .i64 y2), (3, .int .i64 w3), (4, .func (.func 86) #[] #[.pointer (some ⟨B0, 0, none⟩)]), (11, .slice (ad (some a366)) y390.length (na366 / 1)), (12, .int .i64 x370), (13, .slice (ad N381) t379.length (nN381 / 4)), (14, .int .i64 x382), (15, .int .i64 x389), (20, .int .i64 x370), (35, .slice (ad N381) t379.length (nN381 / 4)), (36, .int .i64 (t379.length : Int)), (37, .bool true), (56, .bool false)]) (by kernel_rfl) ?_
                          refine t_end ?_
                          show W _ _ _ _ _ _ _
                          refine w_cond rfl (fun c_ => by cases c_) (fun _ => ?_)
                          show W _ _ _ _ _ _ _
                          refine w_skip ?_
                          show W _ _ _ _ _ _ _
                          refine w_reg fun all => ?_
                          refine t_qz 3 [0, 1, 2, 3, 4, 11, 12, 13, 14, 15, 20, 35, 36, 37] (σ' := [(0, .slice a_l0 l0.length c_l0), (1, .int .i64 wide1), (2, .int .i64 y2), (3, .int .i64 w3), (4, .func (.func 86) #[] #[.pointer (some ⟨B0, 0, none⟩)]), (11, .slice (ad (some a366)) y390.length (na366 / 1)), (12, .int .i64 x370), (13, .slice (ad N381) t379.length (nN381 / 4)), (14, .int .i64 x382), (15, .int .i64 (wr64 (x389 + 1))), (20, .int .i64 x370), (35, .slice (ad N381) t379.length (nN381 / 4)), (36, .int .i64 (t379.length : Int)), (37, .bool true)]) (by kernel_rfl) ?_
                          refine t_end ?_
                          exact ⟨k_, Nat.lt_succ_self _, [(0, .slice a_l0 l0.length c_l0), (1, .int .i64 wide1), (2, .int .i64 y2), (3, .int .i64 w3), (4, .func (.func 86) #[] #[.pointer (some ⟨B0, 0, none⟩)]), (11, .slice (ad (some a366)) y390.length (na366 / 1)), (12, .int .i64 x370), (13, .slice (ad N381) t379.length (nN381 / 4)), (14, .int .i64 x382), (15, .int .i64 (wr64 (x389 + 1))), (20, .int .i64 x370), (35, .slice (ad N381) t379.length (nN381 / 4)), (36, .int .i64 (t379.length : Int)), (37, .bool true)], ([⟨N381, encL E_i644 t379, nN381⟩, ⟨some a366, encL E_u64 y390, na366⟩, ⟨B0, [.int .i64 m0_0], 1⟩] : List Own), S, keep_sub [0, 1, 2, 3, 4, 11, 12, 13, 14, 15, 20, 35, 36, 37] (by kernel_rfl), VS.sel [0, 0, 0] (by kernel_rfl), wr64 (x389 + 1), y390, rfl, rfl, rfl, e387⟩
                      · rw [if_neg c391] at e387
                        have c391b : (decide (x389 < (wr64 ((wr64 (x370 + 1)) * 8)))) = false := decide_eq_false c391
                        refine t_qz 4 [0, 1, 2, 3, 4, 11, 12, 13, 14, 15, 20, 35, 36, 37, 43, 46] (σ' := [(0, .slice a_l0 l0.length c_l0), (1, .int .i64 wide1), (2, .int .i64 y2), (3, .int .i64 w3), (4, .func (.func 86) #[] #[.pointer (some ⟨B0, 0, none⟩)]), (11, .slice (ad (some a366)) y390.length (na366 / 1)), (12, .int .i64 x370), (13, .slice (ad N381) t379.length (nN381 / 4)), (14, .int .i64 x382), (15, .int .i64 x389), (20, .int .i64 x370), (35, .slice (ad N381) t379.length (nN381 / 4)), (36, .int .i64 (t379.length : Int)), (37, .bool true), (43, .int .i64 x389), (46, .int .i64 (wr64 ((wr64 (x370 + 1)) * 8)))]) (by kernel_rfl) ?_
                        refine t_v (dv_quiet rfl (congrArg (fun t => some (Value.bool t)) c391b)) ?_
                        refine t_keep [0, 1, 2, 3, 4, 11, 12, 13, 14, 15, 20, 35, 36, 37, 47] (σ' := [(0, .slice a_l0 l0.length c_l0), (1, .int .i64 wide1), (2, .int .i64 y2), (3, .int .i64 w3), (4, .func (.func 86) #[] #[.pointer (some ⟨B0, 0, none⟩)]), (11, .slice (ad (some a366)) y390.length (na366 / 1)), (12, .int .i64 x370), (13, .slice (ad N381) t379.length (nN381 / 4)), (14, .int .i64 x382), (15, .int .i64 x389), (20, .int .i64 x370), (35, .slice (ad N381) t379.length (nN381 / 4)), (36, .int .i64 (t379.length : Int)), (37, .bool true), (47, .bool false)]) (by kernel_rfl) ?_
                        refine t_end ?_
                        show W _ _ _ _ _ _ _
                        refine w_cond rfl (fun c_ => by cases c_) (fun _ => ?_)
                        show W _ _ _ _ _ _ _
                        refine w_exit ?_
                        simp only [Option.some.injEq, Prod.mk.injEq] at e387
                        obtain ⟨rfl, rfl⟩ := e387
                        exact ⟨([⟨B0, [.int .i64 m0_0], 1⟩, ⟨some a366, encL E_u64 y390, na366⟩, ⟨N381, encL E_i644 t379, nN381⟩] : List Own), S, VS.sel [2, 1, 0] (by kernel_rfl), by kernel_rfl, rfl, rfl⟩
                  · rintro σ_ H_ S_ ⟨rfl, rfl, rfl⟩
                    refine w_reg fun all => ?_
                    refine t_qz 3 [0, 1, 2, 3, 4, 11, 12, 13, 14, 20, 35, 36, 37] (σ' := [(0, .slice a_l0 l0.length c_l0), (1, .int .i64 wide1), (2, .int .i64 y2), (3, .int .i64 w3), (4, .func (.func 86) #[] #[.pointer (some ⟨B0, 0, none⟩)]), (11, .slice (ad (some a366)) y408.length (na366 / 1)), (12, .int .i64 x370), (13, .slice (ad N381) t379.length (nN381 / 4)), (14, .int .i64 (wr64 (x382 + 1))), (20, .int .i64 x370), (35, .slice (ad N381) t379.length (nN381 / 4)), (36, .int .i64 (t379.length : Int)), (37, .bool x409)]) (by kernel_rfl) ?_
                    refine t_end ?_
                    exact ⟨k_, Nat.lt_succ_self _, [(0, .slice a_l0 l0.length c_l0), (1, .int .i64 wide1), (2, .int .i64 y2), (3, .int .i64 w3), (4, .func (.func 86) #[] #[.pointer (some ⟨B0, 0, none⟩)]), (11, .slice (ad (some a366)) y408.length (na366 / 1)), (12, .int .i64 x370), (13, .slice (ad N381) t379.length (nN381 / 4)), (14, .int .i64 (wr64 (x382 + 1))), (20, .int .i64 x370)], ([⟨N381, encL E_i644 t379, nN381⟩, ⟨some a366, encL E_u64 y408, na366⟩, ⟨B0, [.int .i64 m0_0], 1⟩] : List Own), S, keep_sub [0, 1, 2, 3, 4, 11, 12, 13, 14, 20] (by kernel_rfl), VS.sel [2, 1, 0] (by kernel_rfl), wr64 (x382 + 1), y408, rfl, rfl, rfl, e374⟩
                · rw [if_neg c385] at e374
                  have c385b : (decide ((t379.length : Int) > 0)) = false := decide_eq_false c385
                  refine t_qz 3 [0, 1, 2, 3, 4, 11, 12, 13, 14, 20, 34, 35, 36] (σ' := [(0, .slice a_l0 l0.length c_l0), (1, .int .i64 wide1), (2, .int .i64 y2), (3, .int .i64 w3), (4, .func (.func 86) #[] #[.pointer (some ⟨B0, 0, none⟩)]), (11, .slice (ad (some a366)) y383.length (na366 / 1)), (12, .int .i64 x370), (13, .slice (ad N381) t379.length (nN381 / 4)), (14, .int .i64 x382), (20, .int .i64 x370), (34, .bool true), (35, .slice (ad N381) t379.length (nN381 / 4)), (36, .int .i64 (t379.length : Int))]) (by kernel_rfl) ?_
                  refine t_v (dv_quiet rfl (congrArg (fun t => some (Value.bool t)) c385b)) ?_
                  refine t_qz 1 [0, 1, 2, 3, 4, 11, 12, 13, 14, 20, 35, 36, 37, 38] (σ' := [(0, .slice a_l0 l0.length c_l0), (1, .int .i64 wide1), (2, .int .i64 y2), (3, .int .i64 w3), (4, .func (.func 86) #[] #[.pointer (some ⟨B0, 0, none⟩)]), (11, .slice (ad (some a366)) y383.length (na366 / 1)), (12, .int .i64 x370), (13, .slice (ad N381) t379.length (nN381 / 4)), (14, .int .i64 x382), (20, .int .i64 x370), (35, .slice (ad N381) t379.length (nN381 / 4)), (36, .int .i64 (t379.length : Int)), (37, .bool false), (38, .bool false)]) (by kernel_rfl) ?_
                  refine t_end ?_
                  show W _ _ _ _ _ _ _
                  refine w_cond rfl (fun c_ => by cases c_) (fun _ => ?_)
                  show W _ _ _ _ _ _ _
                  refine w_exit ?_
                  obtain rfl := Option.some.inj e374
                  exact ⟨([⟨B0, [.int .i64 m0_0], 1⟩, ⟨some a366, encL E_u64 y383, na366⟩] : List Own), S, VS.sel [2, 1] (by kernel_rfl), by kernel_rfl, rfl, rfl⟩
              · rw [if_neg c384] at e374
                have c384b : (decide (x382 < w3)) = false := decide_eq_false c384
                refine t_qz 2 [0, 1, 2, 3, 4, 11, 12, 13, 14, 20, 31, 32] (σ' := [(0, .slice a_l0 l0.length c_l0), (1, .int .i64 wide1), (2, .int .i64 y2), (3, .int .i64 w3), (4, .func (.func 86) #[] #[.pointer (some ⟨B0, 0, none⟩)]), (11, .slice (ad (some a366)) y383.length (na366 / 1)), (12, .int .i64 x370), (13, .slice (ad N381) t379.length (nN381 / 4)), (14, .int .i64 x382), (20, .int .i64 x370), (31, .int .i64 x382), (32, .int .i64 w3)]) (by kernel_rfl) ?_
                refine t_v (dv_quiet rfl (congrArg (fun t => some (Value.bool t)) c384b)) ?_
                refine t_qz 5 [0, 1, 2, 3, 4, 11, 12, 13, 14, 20, 35, 36, 37, 38] (σ' := [(0, .slice a_l0 l0.length c_l0), (1, .int .i64 wide1), (2, .int .i64 y2), (3, .int .i64 w3), (4, .func (.func 86) #[] #[.pointer (some ⟨B0, 0, none⟩)]), (11, .slice (ad (some a366)) y383.length (na366 / 1)), (12, .int .i64 x370), (13, .slice (ad N381) t379.length (nN381 / 4)), (14, .int .i64 x382), (20, .int .i64 x370), (35, .tuple #[]), (36, .tuple #[]), (37, .tuple #[]), (38, .bool false)]) (by kernel_rfl) ?_
                refine t_end ?_
                show W _ _ _ _ _ _ _
                refine w_cond rfl (fun c_ => by cases c_) (fun _ => ?_)
                show W _ _ _ _ _ _ _
                refine w_exit ?_
                obtain rfl := Option.some.inj e374
                exact ⟨([⟨B0, [.int .i64 m0_0], 1⟩, ⟨some a366, encL E_u64 y383, na366⟩] : List Own), S, VS.sel [2, 1] (by kernel_rfl), by kernel_rfl, rfl, rfl⟩
          · rintro σ_ H_ S_ ⟨rfl, rfl, rfl⟩
            refine w_reg fun all => ?_
            refine t_qz 2 [0, 1, 2, 3, 4, 11, 20] (σ' := [(0, .slice a_l0 l0.length c_l0), (1, .int .i64 wide1), (2, .int .i64 y2), (3, .int .i64 w3), (4, .func (.func 86) #[] #[.pointer (some ⟨B0, 0, none⟩)]), (11, .slice (ad (some a366)) y412.length (na366 / 1)), (20, .int .i64 (wr64 (x370 + 1)))]) (by kernel_rfl) ?_
            refine t_end ?_
            exact ⟨k_, Nat.lt_succ_self _, [(0, .slice a_l0 l0.length c_l0), (1, .int .i64 wide1), (2, .int .i64 y2), (3, .int .i64 w3), (4, .func (.func 86) #[] #[.pointer (some ⟨B0, 0, none⟩)]), (11, .slice (ad (some a366)) y412.length (na366 / 1)), (20, .int .i64 (wr64 (x370 + 1)))], ([⟨some a366, encL E_u64 y412, na366⟩, ⟨B0, [.int .i64 m0_0], 1⟩] : List Own), S, keep_sub [0, 1, 2, 3, 4, 11, 20] (by kernel_rfl), VS.sel [1, 0] (by kernel_rfl), wr64 (x370 + 1), y412, rfl, rfl, rfl, e368⟩
        · rw [if_neg c372] at e368
          have c372b : (decide (x370 < 8)) = false := decide_eq_false c372
          refine t_v (dv_quiet rfl (congrArg (fun t => some (Value.bool t)) c372b)) ?_
          refine t_keep [0, 1, 2, 3, 4, 11, 20, 21] (σ' := [(0, .slice a_l0 l0.length c_l0), (1, .int .i64 wide1), (2, .int .i64 y2), (3, .int .i64 w3), (4, .func (.func 86) #[] #[.pointer (some ⟨B0, 0, none⟩)]), (11, .slice (ad (some a366)) y371.length (na366 / 1)), (20, .int .i64 x370), (21, .bool false)]) (by kernel_rfl) ?_
          refine t_end ?_
          show W _ _ _ _ _ _ _
          refine w_seq ?_
          refine w_cond rfl (fun c_ => by cases c_) (fun _ => ?_)
          show W _ _ _ _ _ _ _
          refine w_exit ?_
          obtain rfl := Option.some.inj e368
          exact ⟨([⟨B0, [.int .i64 m0_0], 1⟩, ⟨some a366, encL E_u64 y371, na366⟩] : List Own), S, VS.sel [1, 0] (by kernel_rfl), by kernel_rfl, rfl, rfl⟩
    · rintro σ_ H_ S_ ⟨rfl, rfl, rfl⟩
      refine w_seq ?_
      refine w_reg fun all => ?_
      refine t_qz 2 [10] (σ' := [(10, .slice (ad (some a366)) y415.length (na366 / 1))]) (by kernel_rfl) ?_
      refine t_end ?_
      show W _ _ _ _ _ _ _
      refine w_ret ?_
      obtain rfl := Option.some.inj e
      exact ⟨[.slice (ad (some a366)) y415.length (na366 / 1)], ([⟨some a366, encL E_u64 y415, na366⟩, ⟨B0, [.int .i64 m0_0], 1⟩] : List Own), S, ⟨(show gt _ _ = some _ from (by kernel_rfl)), trivial⟩, VS.sel [1, 0] (by kernel_rfl), some a366, na366, rfl, rfl, rfl⟩

/-- sweep.Line -/
def c45 : C :=
  (.seq (.reg [⟨(some 5), .box (.tmp 1), none⟩,
     ⟨(some 8), .mv (.const (.slice none 0 0)), none⟩])
  (.seq (.reg [⟨(some 9), .mv (.tmp 0), none⟩,
     ⟨(some 10), .ld none (.tmp 5), none⟩,
     ⟨(some 11), .mv (.tmp 2), none⟩,
     ⟨(some 12), .mv (.tmp 3), none⟩,
     ⟨(some 13), .mkf 86 [(.tmp 5)], none⟩,
     ⟨(some 14), .call 82 [(.tmp 9), (.tmp 10), (.tmp 11), (.tmp 12), (.tmp 13)], none⟩,
     ⟨(some 8), .mv (.tmp 14), none⟩])
  .ret))
def sweep_Line_v1.f (k : Nat) (l0 : List (Int × Int × Int × Int)) (wide1 : Int) (y2 : Int) (w3 : Int) : Option (List (Int)) := (sweep_masks_v2.f k l0 wide1 y2 w3 wide1).bind fun t416 => (some t416)
theorem sweep_Line_v1.ok {S : Seal} {k : Nat} {l0 : List (Int × Int × Int × Int)} {wide1 : Int} {y2 : Int} {w3 : Int} {r0_ : List (Int)}{a_l0 : Option Addr} {c_l0 : Nat} (h_l0 : SlE S E_i644 l0 a_l0) (e : sweep_Line_v1.f k l0 wide1 y2 w3 = some r0_) :
    Cal Try.prog 45 [.slice a_l0 l0.length c_l0, .int .i64 wide1, .int .i64 y2, .int .i64 w3] [] S fun v H' S' => ∃ (N0_ : Option Nat) (nN0_ : Nat) , v = .slice (ad N0_) r0_.length (nN0_ / 1) ∧ H' = ([⟨N0_, encL E_u64 r0_, nN0_⟩] : List Own) ∧ S' = S := by
  unfold sweep_Line_v1.f at e
  refine cal_of (c := c45) (N := 15) Try.func45 rfl rfl (by kernel_rfl) (rs := [.t 8]) (by kernel_rfl) (Nat.le_of_ble_eq_true rfl) ?_
  unfold c45
  refine w_seq ?_
  refine w_reg fun all => ?_
  refine t_a (.box rfl rfl rfl) fun b309 fb309 sb309 => ?_
  refine t_qz 1 [0, 2, 3, 5] (σ' := [(0, .slice a_l0 l0.length c_l0), (2, .int .i64 y2), (3, .int .i64 w3), (5, .pointer (some ⟨b309, 0, none⟩))]) (by kernel_rfl) ?_
  refine t_end ?_
  show W _ _ _ _ _ _ _
  refine w_seq ?_
  refine w_reg fun all => ?_
  refine t_qz 1 [2, 3, 5, 9] (σ' := [(2, .int .i64 y2), (3, .int .i64 w3), (5, .pointer (some ⟨b309, 0, none⟩)), (9, .slice a_l0 l0.length c_l0)]) (by kernel_rfl) ?_
  refine t_v (.ld1 rfl rfl rfl (.at 0 rfl rfl)) ?_
  obtain ⟨t416, h417, e⟩ := bind_of e
  refine t_qz 3 [9, 10, 11, 12, 13] (σ' := [(9, .slice a_l0 l0.length c_l0), (10, .int .i64 wide1), (11, .int .i64 y2), (12, .int .i64 w3), (13, .func (.func 86) #[] #[.pointer (some ⟨b309, 0, none⟩)])]) (by kernel_rfl) ?_
  refine t_call (vs := [.slice a_l0 l0.length c_l0, .int .i64 wide1, .int .i64 y2, .int .i64 w3, .func (.func 86) #[] #[.pointer (some ⟨b309, 0, none⟩)]]) (H1 := ([⟨b309, [.int .i64 wide1], 1⟩] : List Own)) (F := ([] : List Own)) rfl rfl (by kernel_rfl) (sel_perm (is := [0]) (by kernel_rfl)) (sweep_masks_v2.ok h_l0 h417) ?_
  rintro _ _ S_ ⟨N418, nN418, rfl, rfl, hS_⟩
  obtain rfl := hS_.symm
  refine t_qz 1 [8] (σ' := [(8, .slice (ad N418) t416.length (nN418 / 1))]) (by kernel_rfl) ?_
  refine t_end ?_
  show W _ _ _ _ _ _ _
  refine w_ret ?_
  obtain rfl := Option.some.inj e
  exact ⟨[.slice (ad N418) t416.length (nN418 / 1)], ([⟨N418, encL E_u64 t416, nN418⟩] : List Own), S, ⟨rfl, trivial⟩, VS.sel [0] (by kernel_rfl), N418, nN418, rfl, rfl, rfl⟩

/-- glyphicref.SameMasks -/
def c51 : C :=
  (.seq (.reg [⟨(some 4), .mv (.const (.bool false)), none⟩])
  (.seq (.seq (.reg [⟨(some 7), .mv (.tmp 0), none⟩,
      ⟨(some 8), .lns (.tmp 7), none⟩,
      ⟨(some 9), .mv (.tmp 1), none⟩,
      ⟨(some 10), .lns (.tmp 9), none⟩,
      ⟨(some 11), .bin .neq (.tmp 8) (.tmp 10), none⟩])
   (.cond (.tmp 11)
    (.seq (.reg [⟨(some 4), .mv (.const (.bool false)), none⟩])
     .ret)
    .skip))
  (.seq (.seq (.reg [⟨(some 5), .mv (.const (.int .i64 0)), none⟩])
   (.block 0 (.loop (.seq (.seq (.reg [⟨(some 12), .mv (.tmp 5), none⟩,
         ⟨(some 13), .mv (.tmp 0), none⟩,
         ⟨(some 14), .lns (.tmp 13), none⟩,
         ⟨(some 15), .bin .lss (.tmp 12) (.tmp 14), none⟩])
      (.cond (.tmp 15)
       .skip
       (.exit 0)))
     (.seq (.block 1 (.seq (.drw [⟨(some 18), .mv (.tmp 0), none⟩,
          ⟨(some 19), .mv (.tmp 5), none⟩,
          ⟨(some 20), .ixs 1 (.tmp 18) (.tmp 19), none⟩,
          ⟨(some 21), .ld none (.tmp 20), none⟩,
          ⟨(some 22), .mv (.tmp 1), none⟩,
          ⟨(some 23), .mv (.tmp 5), none⟩,
          ⟨(some 24), .ixs 1 (.tmp 22) (.tmp 23), none⟩,
          ⟨(some 25), .ld none (.tmp 24), none⟩,
          ⟨(some 26), .bin .eql (.tmp 21) (.tmp 25), none⟩,
          ⟨(some 6), .mv (.tmp 26), none⟩] [[], [], [0, 1], [2], [], [], [4, 5], [6], [3, 7], [8, 0, 1, 2, 3, 4, 5, 6, 7, 8]])
       (.seq (.reg [⟨(some 27), .mv (.tmp 6), none⟩,
          ⟨(some 28), .un .not (.tmp 27), none⟩])
       (.cond (.tmp 28)
        (.seq (.reg [⟨(some 4), .mv (.const (.bool false)), none⟩])
         .ret)
        .skip))))
     (.reg [⟨(some 16), .mv (.tmp 5), none⟩,
       ⟨(some 17), .bin .add (.tmp 16) (.const (.int .i64 1)), none⟩,
       ⟨(some 5), .mv (.tmp 17), none⟩]))))))
  (.seq (.reg [⟨(some 4), .mv (.const (.bool true)), none⟩])
  .ret))))
def glyphicref_SameMasks_v1.l0 : Nat → List (Int) → List (Int) → Int → Option ((Bool) ⊕ (Unit))
  | 0, _, _, _ => none
  | k + 1, a0, b1, x435 => if x435 < (a0.length : Int) then ((lgt a0 x435).bind fun x437 => ((lgt b1 x435).bind fun x447 => (if x437 = x447 then (glyphicref_SameMasks_v1.l0 k a0 b1 (wr64 (x435 + 1))) else (some (.inl false))))) else (some (.inr ()))
def glyphicref_SameMasks_v1.f (k : Nat) (a0 : List (Int)) (b1 : List (Int)) : Option (Bool) := if (a0.length : Int) = (b1.length : Int) then ((glyphicref_SameMasks_v1.l0 k a0 b1 0 : Option ((Bool) ⊕ (Unit))).bind fun s_ => match s_ with | .inl q460 => some q460 | .inr _ => (some true)) else (some false)
theorem glyphicref_SameMasks_v1.ok {S : Seal} {k : Nat} {a0 : List (Int)} {b1 : List (Int)} {r0_ : Bool}{a_a0 : Option Addr} {c_a0 : Nat} (h_a0 : SlE S E_u64 a0 a_a0) {a_b1 : Option Addr} {c_b1 : Nat} (h_b1 : SlE S E_u64 b1 a_b1) (e : glyphicref_SameMasks_v1.f k a0 b1 = some r0_) :
    Cal Try.prog 51 [.slice a_a0 a0.length c_a0, .slice a_b1 b1.length c_b1] [] S fun v H' S' => v = .bool r0_ ∧ H' = [] ∧ S' = S := by
  unfold glyphicref_SameMasks_v1.f at e
  refine cal_of (c := c51) (N := 29) Try.func51 rfl rfl (by kernel_rfl) (rs := [.t 4]) (by kernel_rfl) (Nat.le_of_ble_eq_true rfl) ?_
  unfold c51
  refine w_seq ?_
  refine w_reg fun all => ?_
  refine t_qz 1 [0, 1] (σ' := [(0, .slice a_a0 a0.length c_a0), (1, .slice a_b1 b1.length c_b1)]) (by kernel_rfl) ?_
  refine t_end ?_
  show W _ _ _ _ _ _ _
  refine w_seq ?_
  refine w_seq ?_
  refine w_reg fun all => ?_
  by_cases c431 : (a0.length : Int) = (b1.length : Int)
  · rw [if_pos c431] at e
    have c431b : ((a0.length : Int) == (b1.length : Int)) = true := beq_iff_eq.mpr c431
    refine t_qz 4 [0, 1, 8, 10] (σ' := [(0, .slice a_a0 a0.length c_a0), (1, .slice a_b1 b1.length c_b1), (8, .int .i64 (a0.length : Int)), (10, .int .i64 (b1.length : Int))]) (by kernel_rfl) ?_
    refine t_v (dv_quiet rfl (congrArg (fun t => some (Value.bool (!t))) c431b)) ?_
    refine t_keep [0, 1, 11] (σ' := [(0, .slice a_a0 a0.length c_a0), (1, .slice a_b1 b1.length c_b1), (11, .bool false)]) (by kernel_rfl) ?_
    refine t_end ?_
    show W _ _ _ _ _ _ _
    refine w_cond rfl (fun c_ => by cases c_) (fun _ => ?_)
    show W _ _ _ _ _ _ _
    refine w_skip ?_
    show W _ _ _ _ _ _ _
    obtain ⟨s434, e433, e⟩ := bind_of e
    refine w_cut [] (fun σ_ H_ S_ => ∃ u_ : Unit, s434 = .inr u_ ∧ [] = σ_ ∧ ([] : List Own) = H_ ∧ S = S_) ?_ ?_
    · show W _ _ _ _ _ _ _
      refine w_seq ?_
      refine w_reg fun all => ?_
      refine t_qz 1 [0, 1, 5] (σ' := [(0, .slice a_a0 a0.length c_a0), (1, .slice a_b1 b1.length c_b1), (5, .int .i64 0)]) (by kernel_rfl) ?_
      refine t_end ?_
      show W _ _ _ _ _ _ _
      refine w_block ?_
      refine w_kp [0, 1, 5] (σ' := [(0, .slice a_a0 a0.length c_a0), (1, .slice a_b1 b1.length c_b1), (5, .int .i64 0)]) (by kernel_rfl) ?_
      refine w_loop (fun n_ σ_ H_ S_ => ∃ (x435 : Int), [(0, .slice a_a0 a0.length c_a0), (1, .slice a_b1 b1.length c_b1), (5, .int .i64 x435)] = σ_ ∧ ([] : List Own) = H_ ∧ S = S_ ∧ glyphicref_SameMasks_v1.l0 n_ a0 b1 x435 = some s434) _ ⟨0, rfl, rfl, rfl, e433⟩ ?_
      rintro n459 σ_ H_ S_ ⟨x435, rfl, rfl, rfl, e433⟩
      cases n459 with
      | zero => rw [glyphicref_SameMasks_v1.l0.eq_1] at e433; cases e433
      | succ k_ =>
        rw [glyphicref_SameMasks_v1.l0.eq_2] at e433
        refine w_seq ?_
        refine w_seq ?_
        refine w_reg fun all => ?_
        by_cases c436 : x435 < (a0.length : Int)
        · rw [if_pos c436] at e433
          have c436b : (decide (x435 < (a0.length : Int))) = true := decide_eq_true c436
          refine t_qz 3 [0, 1, 5, 12, 14] (σ' := [(0, .slice a_a0 a0.length c_a0), (1, .slice a_b1 b1.length c_b1), (5, .int .i64 x435), (12, .int .i64 x435), (14, .int .i64 (a0.length : Int))]) (by kernel_rfl) ?_
          refine t_v (dv_quiet rfl (congrArg (fun t => some (Value.bool t)) c436b)) ?_
          refine t_keep [0, 1, 5, 15] (σ' := [(0, .slice a_a0 a0.length c_a0), (1, .slice a_b1 b1.length c_b1), (5, .int .i64 x435), (15, .bool true)]) (by kernel_rfl) ?_
          refine t_end ?_
          show W _ _ _ _ _ _ _
          refine w_cond rfl (fun _ => ?_) (fun c_ => by cases c_)
          show W _ _ _ _ _ _ _
          refine w_skip ?_
          show W _ _ _ _ _ _ _
          refine w_seq ?_
          refine w_block ?_
          refine w_seq ?_
          obtain ⟨x437, hx438, e433⟩ := bind_of e433
          obtain ⟨lb439, lo440, ll441, la442, lS443, lv444, lz445, lu446⟩ := sle_get (E := E_u64) h_a0 hx438
          obtain ⟨x447, hx448, e433⟩ := bind_of e433
          obtain ⟨lb449, lo450, ll451, la452, lS453, lv454, lz455, lu456⟩ := sle_get (E := E_u64) h_b1 hx448
          refine w_drwE mixed 10 [.v (.slice a_a0 a0.length c_a0), .v (.int .i64 x435), .v (.pointer (some ⟨lb439, lo440 + (x435).toNat * 1 + 0, none⟩)), .v (.int .u64 x437), .v (.slice a_b1 b1.length c_b1), .v (.int .i64 x435), .v (.pointer (some ⟨lb449, lo450 + (x435).toNat * 1 + 0, none⟩)), .v (.int .u64 x447), .v (.bool (x437 == x447)), .v (.bool (x437 == x447))] (by kernel_rfl) ?_ ?_
          · refine DI.sq 2 (by kernel_rfl) rfl ?_
            refine .cons (.quiet rfl (ixs_sle rfl rfl la442 lz445 lu446)) ?_
            refine .cons (.ld1 rfl rfl rfl (.sealed lS443 (subl_at lv444 rfl))) ?_
            refine DI.sq 2 (by kernel_rfl) rfl ?_
            refine .cons (.quiet rfl (ixs_sle rfl rfl la452 lz455 lu456)) ?_
            refine .cons (.ld1 rfl rfl rfl (.sealed lS453 (subl_at lv454 rfl))) ?_
            refine DI.sq 2 (by kernel_rfl) rfl ?_
            exact .nil
          refine fk_q 10 [0, 1, 5, 6] (σ' := [(0, .slice a_a0 a0.length c_a0), (1, .slice a_b1 b1.length c_b1), (5, .int .i64 x435), (6, .bool (x437 == x447))]) t_more (by kernel_rfl) ?_
          refine fk_nil fun all => ?_
          refine t_keep [0, 1, 5, 6] (σ' := [(0, .slice a_a0 a0.length c_a0), (1, .slice a_b1 b1.length c_b1), (5, .int .i64 x435), (6, .bool (x437 == x447))]) (by kernel_rfl) ?_
          refine t_end ?_
          show W _ _ _ _ _ _ _
          refine w_seq ?_
          refine w_reg fun all => ?_
          by_cases c457 : x437 = x447
          · rw [if_pos c457] at e433
            have c457b : (x437 == x447) = true := beq_iff_eq.mpr c457
            refine t_qz 1 [0, 1, 5, 27] (σ' := [(0, .slice a_a0 a0.length c_a0), (1, .slice a_b1 b1.length c_b1), (5, .int .i64 x435), (27, .bool (x437 == x447))]) (by kernel_rfl) ?_
            refine t_v (dv_quiet rfl (congrArg (fun t => some (Value.bool (!t))) c457b)) ?_
            refine t_keep [0, 1, 5, 28] (σ' := [(0, .slice a_a0 a0.length c_a0), (1, .slice a_b1 b1.length c_b1), (5, .int .i64 x435), (28, .bool false)]) (by kernel_rfl) ?_
            refine t_end ?_
            show W _ _ _ _ _ _ _
            refine w_cond rfl (fun c_ => by cases c_) (fun _ => ?_)
            show W _ _ _ _ _ _ _
            refine w_skip ?_
            show W _ _ _ _ _ _ _
            refine w_reg fun all => ?_
            refine t_qz 3 [0, 1, 5] (σ' := [(0, .slice a_a0 a0.length c_a0), (1, .slice a_b1 b1.length c_b1), (5, .int .i64 (wr64 (x435 + 1)))]) (by kernel_rfl) ?_
            refine t_end ?_
            exact ⟨k_, Nat.lt_succ_self _, [(0, .slice a_a0 a0.length c_a0), (1, .slice a_b1 b1.length c_b1), (5, .int .i64 (wr64 (x435 + 1)))], ([] : List Own), S, keep_sub [0, 1, 5] (by kernel_rfl), VS.sel [] (by kernel_rfl), wr64 (x435 + 1), rfl, rfl, rfl, e433⟩
          · rw [if_neg c457] at e433
            have c457b : (x437 == x447) = false := beq_eq_false_iff_ne.mpr c457
            refine t_qz 1 [0, 1, 5, 27] (σ' := [(0, .slice a_a0 a0.length c_a0), (1, .slice a_b1 b1.length c_b1), (5, .int .i64 x435), (27, .bool (x437 == x447))]) (by kernel_rfl) ?_
            refine t_v (dv_quiet rfl (congrArg (fun t => some (Value.bool (!t))) c457b)) ?_
            refine t_keep [0, 1, 5, 28] (σ' := [(0, .slice a_a0 a0.length c_a0), (1, .slice a_b1 b1.length c_b1), (5, .int .i64 x435), (28, .bool true)]) (by kernel_rfl) ?_
            refine t_end ?_
            show W _ _ _ _ _ _ _
            refine w_cond rfl (fun _ => ?_) (fun c_ => by cases c_)
            show W _ _ _ _ _ _ _
            refine w_seq ?_
            refine w_reg fun all => ?_
            refine t_qz 1 [4] (σ' := [(4, .bool false)]) (by kernel_rfl) ?_
            refine t_end ?_
            show W _ _ _ _ _ _ _
            refine w_ret ?_
            obtain rfl := Option.some.inj e433
            obtain rfl := Option.some.inj e
            exact ⟨[.bool false], [], S, ⟨rfl, trivial⟩, VS.none, rfl, rfl, rfl⟩
        · rw [if_neg c436] at e433
          have c436b : (decide (x435 < (a0.length : Int))) = false := decide_eq_false c436
          refine t_qz 3 [0, 1, 5, 12, 14] (σ' := [(0, .slice a_a0 a0.length c_a0), (1, .slice a_b1 b1.length c_b1), (5, .int .i64 x435), (12, .int .i64 x435), (14, .int .i64 (a0.length : Int))]) (by kernel_rfl) ?_
          refine t_v (dv_quiet rfl (congrArg (fun t => some (Value.bool t)) c436b)) ?_
          refine t_keep [0, 1, 5, 15] (σ' := [(0, .slice a_a0 a0.length c_a0), (1, .slice a_b1 b1.length c_b1), (5, .int .i64 x435), (15, .bool false)]) (by kernel_rfl) ?_
          refine t_end ?_
          show W _ _ _ _ _ _ _
          refine w_cond rfl (fun c_ => by cases c_) (fun _ => ?_)
          show W _ _ _ _ _ _ _
          refine w_exit ?_
          obtain rfl := Option.some.inj e433
          exact ⟨([] : List Own), S, VS.sel [] (by kernel_rfl), (), rfl, by kernel_rfl, rfl, rfl⟩
    · rintro σ_ H_ S_ ⟨u_, rfl, rfl, rfl, rfl⟩
      dsimp only at e
      refine w_seq ?_
      refine w_reg fun all => ?_
      refine t_qz 1 [4] (σ' := [(4, .bool true)]) (by kernel_rfl) ?_
      refine t_end ?_
      show W _ _ _ _ _ _ _
      refine w_ret ?_
      obtain rfl := Option.some.inj e
      exact ⟨[.bool true], [], S, ⟨rfl, trivial⟩, VS.none, rfl, rfl, rfl⟩
  · rw [if_neg c431] at e
    have c431b : ((a0.length : Int) == (b1.length : Int)) = false := beq_eq_false_iff_ne.mpr c431
    refine t_qz 4 [0, 1, 8, 10] (σ' := [(0, .slice a_a0 a0.length c_a0), (1, .slice a_b1 b1.length c_b1), (8, .int .i64 (a0.length : Int)), (10, .int .i64 (b1.length : Int))]) (by kernel_rfl) ?_
    refine t_v (dv_quiet rfl (congrArg (fun t => some (Value.bool (!t))) c431b)) ?_
    refine t_keep [0, 1, 11] (σ' := [(0, .slice a_a0 a0.length c_a0), (1, .slice a_b1 b1.length c_b1), (11, .bool true)]) (by kernel_rfl) ?_
    refine t_end ?_
    show W _ _ _ _ _ _ _
    refine w_cond rfl (fun _ => ?_) (fun c_ => by cases c_)
    show W _ _ _ _ _ _ _
    refine w_seq ?_
    refine w_reg fun all => ?_
    refine t_qz 1 [4] (σ' := [(4, .bool false)]) (by kernel_rfl) ?_
    refine t_end ?_
    show W _ _ _ _ _ _ _
    refine w_ret ?_
    obtain rfl := Option.some.inj e
    exact ⟨[.bool false], [], S, ⟨rfl, trivial⟩, VS.none, rfl, rfl, rfl⟩

/-- glyphiclaw24.SweepMoves -/
def c11 : C :=
  (.seq (.reg [⟨(some 6), .mv (.const (.bool false)), none⟩])
  (.seq (.reg [⟨(some 18), .call 40 [], none⟩,
     ⟨(some 7), .mv (.tmp 18), none⟩])
  (.seq (.seq (.reg [⟨(some 19), .mv (.tmp 7), none⟩,
      ⟨(some 20), .un .not (.tmp 19), none⟩])
   (.cond (.tmp 20)
    (.seq (.reg [⟨(some 6), .mv (.const (.bool false)), none⟩])
     .ret)
    .skip))
  (.seq (.seq (.reg [⟨(some 21), .mv (.tmp 0), none⟩,
      ⟨(some 22), .lns (.tmp 21), none⟩,
      ⟨(some 23), .bin .gtr (.tmp 22) (.const (.int .i64 100)), none⟩])
   (.cond (.tmp 23)
    (.seq (.reg [⟨(some 24), .mv (.tmp 7), none⟩,
        ⟨(some 6), .mv (.tmp 24), none⟩])
     .ret)
    .skip))
  (.seq (.reg [⟨(some 25), .mv (.tmp 0), none⟩,
     ⟨(some 26), .bld [(.slice none 0 0), (.int .i64 0)] [(0, 1, (.tmp 25))], none⟩,
     ⟨(some 27), .box (.tmp 26), none⟩,
     ⟨(some 8), .mv (.tmp 27), none⟩])
  (.seq (.reg [⟨(some 28), .mv (.tmp 8), none⟩,
     ⟨(some 29), .call 43 [(.tmp 28), (.const (.int .i64 8)), (.const (.int .i64 700))], none⟩,
     ⟨(some 9), .mv (.tmp 29), none⟩])
  (.seq (.reg [⟨(some 10), .mv (.const (.slice none 0 0)), none⟩])
  (.seq (.reg [⟨(some 30), .bld [(.int .i64 0), (.int .i64 0)] [(0, 1, (.const (.int .i64 256)))], none⟩,
     ⟨(some 11), .new [(.int .i64 0), (.int .i64 0)], none⟩,
     ⟨none, .st 2 (.tmp 11) (.tmp 30), none⟩])
  (.seq (.reg [⟨(some 12), .mv (.const (.int .i64 0)), none⟩])
  (.seq (.seq (.reg [⟨(some 31), .mv (.tmp 2), none⟩])
   (.cond (.tmp 31)
    (.seq (.reg [⟨(some 32), .bld [(.int .i64 0), (.int .i64 0)] [(1, 1, (.const (.int .i64 256)))], none⟩,
        ⟨none, .st 2 (.tmp 11) (.tmp 32), none⟩])
     (.reg [⟨(some 12), .mv (.const (.int .i64 1)), none⟩]))
    .skip))
  (.seq (.seq (.reg [⟨(some 13), .mv (.const (.int .i64 0)), none⟩])
   (.block 0 (.loop (.seq (.seq (.reg [⟨(some 33), .mv (.tmp 13), none⟩,
         ⟨(some 34), .mv (.tmp 9), none⟩,
         ⟨(some 35), .lns (.tmp 34), none⟩,
         ⟨(some 36), .bin .lss (.tmp 33) (.tmp 35), none⟩])
      (.cond (.tmp 36)
       .skip
       (.exit 0)))
     (.seq (.block 1 (.drw [⟨(some 39), .mv (.tmp 10), none⟩,
         ⟨(some 40), .mv (.tmp 9), none⟩,
         ⟨(some 41), .mv (.tmp 13), none⟩,
         ⟨(some 42), .ixs 4 (.tmp 40) (.tmp 41), none⟩,
         ⟨(some 43), .pad 0 (.tmp 42), none⟩,
         ⟨(some 44), .pad 0 (.tmp 43), none⟩,
         ⟨(some 45), .ld none (.tmp 44), none⟩,
         ⟨(some 46), .pad 0 (.tmp 11), none⟩,
         ⟨(some 47), .ld none (.tmp 46), none⟩,
         ⟨(some 48), .bin .add (.tmp 45) (.tmp 47), none⟩,
         ⟨(some 49), .mv (.tmp 9), none⟩,
         ⟨(some 50), .mv (.tmp 13), none⟩,
         ⟨(some 51), .ixs 4 (.tmp 49) (.tmp 50), none⟩,
         ⟨(some 52), .pad 0 (.tmp 51), none⟩,
         ⟨(some 53), .pad 1 (.tmp 52), none⟩,
         ⟨(some 54), .ld none (.tmp 53), none⟩,
         ⟨(some 55), .pad 1 (.tmp 11), none⟩,
         ⟨(some 56), .ld none (.tmp 55), none⟩,
         ⟨(some 57), .bin .add (.tmp 54) (.tmp 56), none⟩,
         ⟨(some 58), .bld [(.int .i64 0), (.int .i64 0)] [(0, 1, (.tmp 48)), (1, 1, (.tmp 57))], none⟩,
         ⟨(some 59), .mv (.tmp 9), none⟩,
         ⟨(some 60), .mv (.tmp 13), none⟩,
         ⟨(some 61), .ixs 4 (.tmp 59) (.tmp 60), none⟩,
         ⟨(some 62), .pad 2 (.tmp 61), none⟩,
         ⟨(some 63), .pad 0 (.tmp 62), none⟩,
         ⟨(some 64), .ld none (.tmp 63), none⟩,
         ⟨(some 65), .pad 0 (.tmp 11), none⟩,
         ⟨(some 66), .ld none (.tmp 65), none⟩,
         ⟨(some 67), .bin .add (.tmp 64) (.tmp 66), none⟩,
         ⟨(some 68), .mv (.tmp 9), none⟩,
         ⟨(some 69), .mv (.tmp 13), none⟩,
         ⟨(some 70), .ixs 4 (.tmp 68) (.tmp 69), none⟩,
         ⟨(some 71), .pad 2 (.tmp 70), none⟩,
         ⟨(some 72), .pad 1 (.tmp 71), none⟩,
         ⟨(some 73), .ld none (.tmp 72), none⟩,
         ⟨(some 74), .pad 1 (.tmp 11), none⟩,
         ⟨(some 75), .ld none (.tmp 74), none⟩,
         ⟨(some 76), .bin .add (.tmp 73) (.tmp 75), none⟩,
         ⟨(some 77), .bld [(.int .i64 0), (.int .i64 0)] [(0, 1, (.tmp 67)), (1, 1, (.tmp 76))], none⟩,
         ⟨(some 78), .bld [(.int .i64 0), (.int .i64 0), (.int .i64 0), (.int .i64 0)] [(0, 2, (.tmp 58)), (2, 2, (.tmp 77))], none⟩,
         ⟨(some 79), .bsl [(.int .i64 0), (.int .i64 0), (.int .i64 0), (.int .i64 0)] 1 [(0, 4, (.tmp 78))], none⟩,
         ⟨(some 80), .app 36 4 32 [(.int .i64 0), (.int .i64 0), (.int .i64 0), (.int .i64 0)] (.tmp 39) (.tmp 79), none⟩,
         ⟨(some 10), .mv (.tmp 80), none⟩] [[], [], [], [1, 2], [3], [4], [5], [], [7], [6, 8], [], [], [10, 11], [12], [13], [14], [], [16], [15, 17], [9, 18], [], [], [20, 21], [22], [23], [24], [], [26], [25, 27], [], [], [29, 30], [31], [32], [33], [], [35], [34, 36], [28, 37], [19, 38], [39], [0, 40], [41, 41, 0, 1, 2, 3, 4, 5, 6, 7, 8, 9, 10, 11, 12, 13, 14, 15, 16, 17, 18, 19, 20, 21, 22, 23, 24, 25, 26, 27, 28, 29, 30, 31, 32, 33, 34, 35, 36, 37, 38, 39, 40, 41]]))
     (.reg [⟨(some 37), .mv (.tmp 13), none⟩,
       ⟨(some 38), .bin .add (.tmp 37) (.const (.int .i64 1)), none⟩,
       ⟨(some 13), .mv (.tmp 38), none⟩]))))))
  (.seq (.reg [⟨(some 81), .mv (.tmp 9), none⟩,
     ⟨(some 82), .mv (.tmp 1), none⟩,
     ⟨(some 83), .bin .and (.tmp 82) (.const (.int .i64 1)), none⟩,
     ⟨(some 84), .call 41 [(.tmp 81), (.tmp 83), (.const (.int .i64 0)), (.const (.int .i64 4))], none⟩,
     ⟨(some 14), .mv (.tmp 84), none⟩])
  (.seq (.reg [⟨(some 85), .mv (.tmp 10), none⟩,
     ⟨(some 86), .mv (.tmp 1), none⟩,
     ⟨(some 87), .bin .and (.tmp 86) (.const (.int .i64 1)), none⟩,
     ⟨(some 88), .mv (.tmp 12), none⟩,
     ⟨(some 89), .call 41 [(.tmp 85), (.tmp 87), (.tmp 88), (.const (.int .i64 4))], none⟩,
     ⟨(some 15), .mv (.tmp 89), none⟩])
  (.seq (.reg [⟨(some 90), .mv (.tmp 9), none⟩,
     ⟨(some 91), .call 45 [(.tmp 90), (.const (.int .i64 100)), (.const (.int .i64 0)), (.const (.int .i64 4))], none⟩,
     ⟨(some 16), .mv (.tmp 91), none⟩])
  (.seq (.reg [⟨(some 92), .mv (.tmp 10), none⟩,
     ⟨(some 93), .mv (.tmp 12), none⟩,
     ⟨(some 94), .call 45 [(.tmp 92), (.const (.int .i64 100)), (.tmp 93), (.const (.int .i64 4))], none⟩,
     ⟨(some 17), .mv (.tmp 94), none⟩])
  (.seq (.seq (.reg [⟨(some 95), .mv (.tmp 14), none⟩,
      ⟨(some 96), .lns (.tmp 95), none⟩,
      ⟨(some 97), .bin .neq (.tmp 96) (.const (.int .i64 4)), none⟩,
      ⟨(some 98), .mv (.tmp 97), none⟩,
      ⟨(some 99), .mv (.tmp 15), (some (98, false))⟩,
      ⟨(some 100), .lns (.tmp 99), (some (98, false))⟩,
      ⟨(some 101), .bin .neq (.tmp 100) (.const (.int .i64 4)), (some (98, false))⟩,
      ⟨(some 102), .pk (.tmp 98) (.const (.bool true)) (.tmp 101), none⟩,
      ⟨(some 103), .mv (.tmp 102), none⟩,
      ⟨(some 104), .mv (.tmp 16), (some (103, false))⟩,
      ⟨(some 105), .lns (.tmp 104), (some (103, false))⟩,
      ⟨(some 106), .bin .neq (.tmp 105) (.const (.int .i64 4)), (some (103, false))⟩,
      ⟨(some 107), .pk (.tmp 103) (.const (.bool true)) (.tmp 106), none⟩,
      ⟨(some 108), .mv (.tmp 107), none⟩,
      ⟨(some 109), .mv (.tmp 17), (some (108, false))⟩,
      ⟨(some 110), .lns (.tmp 109), (some (108, false))⟩,
      ⟨(some 111), .bin .neq (.tmp 110) (.const (.int .i64 4)), (some (108, false))⟩,
      ⟨(some 112), .pk (.tmp 108) (.const (.bool true)) (.tmp 111), none⟩])
   (.cond (.tmp 112)
    (.seq (.reg [⟨(some 6), .mv (.const (.bool false)), none⟩])
     .ret)
    .skip))
  (.seq (.seq (.reg [⟨(some 113), .mv (.tmp 2), none⟩])
   (.cond (.tmp 113)
    (.seq (.reg [⟨(some 114), .mv (.tmp 7), none⟩,
        ⟨(some 115), .mv (.tmp 114), none⟩,
        ⟨(some 116), .mv (.tmp 14), (some (115, true))⟩,
        ⟨(some 117), .mv (.tmp 15), (some (115, true))⟩,
        ⟨(some 118), .call 51 [(.tmp 116), (.tmp 117)], (some (115, true))⟩,
        ⟨(some 119), .pk (.tmp 115) (.tmp 118) (.const (.bool false)), none⟩,
        ⟨(some 120), .mv (.tmp 119), none⟩,
        ⟨(some 121), .mv (.tmp 16), (some (120, true))⟩,
        ⟨(some 122), .mv (.tmp 17), (some (120, true))⟩,
        ⟨(some 123), .call 51 [(.tmp 121), (.tmp 122)], (some (120, true))⟩,
        ⟨(some 124), .pk (.tmp 120) (.tmp 123) (.const (.bool false)), none⟩,
        ⟨(some 6), .mv (.tmp 124), none⟩])
     .ret)
    .skip))
  (.seq (.drw [⟨(some 125), .mv (.tmp 7), none⟩,
     ⟨(some 126), .mv (.tmp 125), none⟩,
     ⟨(some 127), .mv (.tmp 14), (some (126, true))⟩,
     ⟨(some 128), .sls 1 (.tmp 127) none (some (.const (.int .i64 3))), (some (126, true))⟩,
     ⟨(some 129), .mv (.tmp 15), (some (126, true))⟩,
     ⟨(some 130), .sls 1 (.tmp 129) (some (.const (.int .i64 1))) none, (some (126, true))⟩,
     ⟨(some 131), .call 51 [(.tmp 128), (.tmp 130)], (some (126, true))⟩,
     ⟨(some 132), .pk (.tmp 126) (.tmp 131) (.const (.bool false)), none⟩,
     ⟨(some 133), .mv (.tmp 132), none⟩,
     ⟨(some 134), .mv (.tmp 16), (some (133, true))⟩,
     ⟨(some 135), .sls 1 (.tmp 134) none (some (.const (.int .i64 3))), (some (133, true))⟩,
     ⟨(some 136), .mv (.tmp 17), (some (133, true))⟩,
     ⟨(some 137), .sls 1 (.tmp 136) (some (.const (.int .i64 1))) none, (some (133, true))⟩,
     ⟨(some 138), .call 51 [(.tmp 135), (.tmp 137)], (some (133, true))⟩,
     ⟨(some 139), .pk (.tmp 133) (.tmp 138) (.const (.bool false)), none⟩,
     ⟨(some 6), .mv (.tmp 139), none⟩] [[], [0], [1], [2, 1], [1], [4, 1], [3, 5, 1, 1], [1, 6], [7, 6], [8], [9, 8], [8], [11, 8], [10, 12, 8, 8], [8, 13], [14, 13, 0, 1, 2, 3, 4, 5, 6, 7, 8, 9, 10, 11, 12, 13, 14]])
  .ret))))))))))))))))))
def glyphiclaw24_SweepMoves.l0 : Nat → List (Int × Int × Int × Int) → Int → Int → Int → List (Int × Int × Int × Int) → Option (List (Int × Int × Int × Int))
  | 0, _, _, _, _, _ => none
  | k + 1, t255, x266, x267, x271, y273 => if x271 < (t255.length : Int) then ((lgt t255 x271).bind fun (x275, x276, x277, x278) => ((lgt t255 x271).bind fun (x280, x281, x282, x283) => ((lgt t255 x271).bind fun (x285, x286, x287, x288) => ((lgt t255 x271).bind fun (x290, x291, x292, x293) => ((lapp y273 ([(wr64 (x275 + x266), wr64 (x281 + x267), wr64 (x287 + x266), wr64 (x293 + x267))] : List (Int × Int × Int × Int))).bind fun y296 => (glyphiclaw24_SweepMoves.l0 k t255 x266 x267 (wr64 (x271 + 1)) y296)))))) else (some y273)
def glyphiclaw24_SweepMoves.f (k : Nat) (t0 : List (Int)) (o1 : Int) (A2 : Bool) : Option (Bool) := (glyphiclaw24_first.f k).bind fun t123 => (if t123 = true then (if (t0.length : Int) > 100 then (some true) else ((glyphicmake_Ring_v1.f k 8 700 t0 0).bind fun (t255, t256) => ((if A2 = true then (some (true, 1, 0, 256)) else (some (true, 0, 256, 0)) : Option (Bool × Int × Int × Int)).bind fun (x264, x265, x266, x267) => ((glyphiclaw24_SweepMoves.l0 k t255 x266 x267 0 ([] : List (Int × Int × Int × Int)) : Option (List (Int × Int × Int × Int))).bind fun y302 => ((sweep_Fill_v1.f k t255 (bits .and .i64 o1 1) 0 4).bind fun t303 => ((sweep_Fill_v1.f k y302 (bits .and .i64 o1 1) x265 4).bind fun t306 => ((sweep_Line_v1.f k t255 100 0 4).bind fun t419 => ((sweep_Line_v1.f k y302 100 x265 4).bind fun t422 => (if (t303.length : Int) = 4 then (if (t306.length : Int) = 4 then (if (t419.length : Int) = 4 then (if (t422.length : Int) = 4 then (if A2 = true then (if x264 = true then ((glyphicref_SameMasks_v1.f k t303 t306).bind fun t431 => (if t431 = true then ((glyphicref_SameMasks_v1.f k t419 t422).bind fun t433 => (some t433)) else (some false))) else (some false)) else (if x264 = true then ((lsub t303 0 3).bind fun y436 => ((lsub t306 1 (t306.length : Int)).bind fun y442 => ((glyphicref_SameMasks_v1.f k y436 y442).bind fun t448 => (if t448 = true then ((lsub t419 0 3).bind fun y450 => ((lsub t422 1 (t422.length : Int)).bind fun y456 => ((glyphicref_SameMasks_v1.f k y450 y456).bind fun t462 => (some t462)))) else (some false))))) else (some false))) else (some false)) else (some false)) else (some false)) else (some false)))))))))) else (some false))
theorem glyphiclaw24_SweepMoves.ok {S : Seal} {k : Nat} {t0 : List (Int)} {o1 : Int} {A2 : Bool} {a_t0 : Option Addr} {c_t0 : Nat} (h_t0 : SlE S E_i64 t0 a_t0) (e : glyphiclaw24_SweepMoves.f k t0 o1 A2 = some true) :
    Cal Try.prog 11 [.slice a_t0 t0.length c_t0, .int .i64 o1, .bool A2] [] S fun v H' S' => v = .bool true ∧ H' = [] ∧ S' = S := by
  unfold glyphiclaw24_SweepMoves.f at e
  refine cal_of (c := c11) (N := 140) Try.func11 rfl rfl (by kernel_rfl) (rs := [.t 6]) (by kernel_rfl) (Nat.le_of_ble_eq_true rfl) ?_
  unfold c11
  refine w_seq ?_
  refine w_reg fun all => ?_
  refine t_qz 1 [0, 1, 2] (σ' := [(0, .slice a_t0 t0.length c_t0), (1, .int .i64 o1), (2, .bool A2)]) (by kernel_rfl) ?_
  refine t_end ?_
  show W _ _ _ _ _ _ _
  refine w_seq ?_
  refine w_reg fun all => ?_
  obtain ⟨t123, h124, e⟩ := bind_of e
  cases t123 with
  | true =>
    rw [if_pos rfl] at e
    refine t_v (.call (vs := []) rfl rfl (by kernel_rfl) (glyphiclaw24_first.ok h124)) ?_
    refine t_qz 1 [0, 1, 2, 7] (σ' := [(0, .slice a_t0 t0.length c_t0), (1, .int .i64 o1), (2, .bool A2), (7, .bool true)]) (by kernel_rfl) ?_
    refine t_end ?_
    show W _ _ _ _ _ _ _
    refine w_seq ?_
    refine w_seq ?_
    refine w_reg fun all => ?_
    refine t_qz 2 [0, 1, 2, 7, 20] (σ' := [(0, .slice a_t0 t0.length c_t0), (1, .int .i64 o1), (2, .bool A2), (7, .bool true), (20, .bool false)]) (by kernel_rfl) ?_
    refine t_end ?_
    show W _ _ _ _ _ _ _
    refine w_cond rfl (fun c_ => by cases c_) (fun _ => ?_)
    show W _ _ _ _ _ _ _
    refine w_skip ?_
    show W _ _ _ _ _ _ _
    refine w_seq ?_
    refine w_seq ?_
    refine w_reg fun all => ?_
    by_cases c125 : (t0.length : Int) > 100
    · rw [if_pos c125] at e
      have c125b : (decide ((t0.length : Int) > 100)) = true := decide_eq_true c125
      refine t_qz 2 [0, 1, 2, 7, 22] (σ' := [(0, .slice a_t0 t0.length c_t0), (1, .int .i64 o1), (2, .bool A2), (7, .bool true), (22, .int .i64 (t0.length : Int))]) (by kernel_rfl) ?_
      refine t_v (dv_quiet rfl (congrArg (fun t => some (Value.bool t)) c125b)) ?_
      refine t_keep [0, 1, 2, 7, 23] (σ' := [(0, .slice a_t0 t0.length c_t0), (1, .int .i64 o1), (2, .bool A2), (7, .bool true), (23, .bool true)]) (by kernel_rfl) ?_
      refine t_end ?_
      show W _ _ _ _ _ _ _
      refine w_cond rfl (fun _ => ?_) (fun c_ => by cases c_)
      show W _ _ _ _ _ _ _
      refine w_seq ?_
      refine w_reg fun all => ?_
      refine t_qz 2 [6] (σ' := [(6, .bool true)]) (by kernel_rfl) ?_
      refine t_end ?_
      show W _ _ _ _ _ _ _
      refine w_ret ?_
      have hr_ := Option.some.inj e
      exact ⟨[.bool true], [], S, ⟨rfl, trivial⟩, VS.none, congrArg Value.bool hr_, rfl, rfl⟩
    · rw [if_neg c125] at e
      have c125b : (decide ((t0.length : Int) > 100)) = false := decide_eq_false c125
      refine t_qz 2 [0, 1, 2, 7, 22] (σ' := [(0, .slice a_t0 t0.length c_t0), (1, .int .i64 o1), (2, .bool A2), (7, .bool true), (22, .int .i64 (t0.length : Int))]) (by kernel_rfl) ?_
      refine t_v (dv_quiet rfl (congrArg (fun t => some (Value.bool t)) c125b)) ?_
      refine t_keep [0, 1, 2, 7, 23] (σ' := [(0, .slice a_t0 t0.length c_t0), (1, .int .i64 o1), (2, .bool A2), (7, .bool true), (23, .bool false)]) (by kernel_rfl) ?_
      refine t_end ?_
      show W _ _ _ _ _ _ _
      refine w_cond rfl (fun c_ => by cases c_) (fun _ => ?_)
      show W _ _ _ _ _ _ _
      refine w_skip ?_
      show W _ _ _ _ _ _ _
      refine w_seq ?_
      refine w_reg fun all => ?_
      refine t_qz 2 [1, 2, 7, 26] (σ' := [(1, .int .i64 o1), (2, .bool A2), (7, .bool true), (26, .agg #[.slice a_t0 t0.length c_t0, .int .i64 0])]) (by kernel_rfl) ?_
      refine t_a (.box rfl rfl rfl) fun b126 fb126 sb126 => ?_
      refine t_qz 1 [1, 2, 7, 8] (σ' := [(1, .int .i64 o1), (2, .bool A2), (7, .bool true), (8, .pointer (some ⟨b126, 0, none⟩))]) (by kernel_rfl) ?_
      refine t_end ?_
      show W _ _ _ _ _ _ _
      refine w_seq ?_
      refine w_reg fun all => ?_
      obtain ⟨⟨t255, t256⟩, h257, e⟩ := bind_of e
      try dsimp only at e
      refine t_qz 1 [1, 2, 7, 28] (σ' := [(1, .int .i64 o1), (2, .bool A2), (7, .bool true), (28, .pointer (some ⟨b126, 0, none⟩))]) (by kernel_rfl) ?_
      refine t_call (vs := [.pointer (some ⟨b126, 0, none⟩), .int .i64 8, .int .i64 700]) (H1 := ([⟨b126, [.slice a_t0 t0.length c_t0, .int .i64 0], 2⟩] : List Own)) (F := ([] : List Own)) rfl rfl (by kernel_rfl) (sel_perm (is := [0]) (by kernel_rfl)) (glyphicmake_Ring_v1.ok h_t0 h257) ?_
      rintro _ _ S_ ⟨N258, nN258, rfl, rfl, hS_⟩
      obtain rfl := hS_.symm
      refine t_qz 1 [1, 2, 7, 9] (σ' := [(1, .int .i64 o1), (2, .bool A2), (7, .bool true), (9, .slice (ad N258) t255.length (nN258 / 4))]) (by kernel_rfl) ?_
      refine t_end ?_
      show W _ _ _ _ _ _ _
      refine w_seq ?_
      refine w_reg fun all => ?_
      refine t_qz 1 [1, 2, 7, 9, 10] (σ' := [(1, .int .i64 o1), (2, .bool A2), (7, .bool true), (9, .slice (ad N258) t255.length (nN258 / 4)), (10, .slice none 0 0)]) (by kernel_rfl) ?_
      refine t_end ?_
      show W _ _ _ _ _ _ _
      refine w_seq ?_
      refine w_reg fun all => ?_
      refine t_qz 1 [1, 2, 7, 9, 10, 30] (σ' := [(1, .int .i64 o1), (2, .bool A2), (7, .bool true), (9, .slice (ad N258) t255.length (nN258 / 4)), (10, .slice none 0 0), (30, .agg #[.int .i64 256, .int .i64 0])]) (by kernel_rfl) ?_
      refine t_a (.new rfl rfl) fun b259 fb259 sb259 => ?_
      refine t_sti 0 (cs := [.int .i64 256, .int .i64 0]) rfl rfl rfl rfl rfl rfl rfl rfl rfl ?_
      refine t_keep [1, 2, 7, 9, 10, 11] (σ' := [(1, .int .i64 o1), (2, .bool A2), (7, .bool true), (9, .slice (ad N258) t255.length (nN258 / 4)), (10, .slice none 0 0), (11, .pointer (some ⟨b259, 0, none⟩))]) (by kernel_rfl) ?_
      refine t_end ?_
      show W _ _ _ _ _ _ _
      refine w_seq ?_
      refine w_reg fun all => ?_
      refine t_qz 1 [1, 2, 7, 9, 10, 11, 12] (σ' := [(1, .int .i64 o1), (2, .bool A2), (7, .bool true), (9, .slice (ad N258) t255.length (nN258 / 4)), (10, .slice none 0 0), (11, .pointer (some ⟨b259, 0, none⟩)), (12, .int .i64 0)]) (by kernel_rfl) ?_
      refine t_end ?_
      show W _ _ _ _ _ _ _
      obtain ⟨⟨x264, x265, x266, x267⟩, e261, e⟩ := bind_of e
      try dsimp only at e
      refine w_cut [1, 2, 7, 9, 10, 11, 12] (fun σ_ H_ S_ => [(1, .int .i64 o1), (2, .bool A2), (7, .bool x264), (9, .slice (ad N258) t255.length (nN258 / 4)), (10, .slice none 0 0), (11, .pointer (some ⟨b259, 0, none⟩)), (12, .int .i64 x265)] = σ_ ∧ ([⟨b259, [.int .i64 x266, .int .i64 x267], 2⟩, ⟨b126, [.slice a_t0 t0.length c_t0, .int .i64 t256], 2⟩, ⟨N258, encL E_i644 t255, nN258⟩] : List Own) = H_ ∧ S = S_) ?_ ?_
      · show W _ _ _ _ _ _ _
        refine w_seq ?_
        refine w_reg fun all => ?_
        by_cases c263 : A2 = true
        · rw [if_pos c263] at e261
          have c263b : A2 = true := c263
          refine t_v (dv_quiet rfl (congrArg (fun t => some (Value.bool t)) c263b)) ?_
          refine t_keep [1, 2, 7, 9, 10, 11, 12, 31] (σ' := [(1, .int .i64 o1), (2, .bool A2), (7, .bool true), (9, .slice (ad N258) t255.length (nN258 / 4)), (10, .slice none 0 0), (11, .pointer (some ⟨b259, 0, none⟩)), (12, .int .i64 0), (31, .bool true)]) (by kernel_rfl) ?_
          refine t_end ?_
          show W _ _ _ _ _ _ _
          refine w_cond rfl (fun _ => ?_) (fun c_ => by cases c_)
          show W _ _ _ _ _ _ _
          refine w_seq ?_
          refine w_reg fun all => ?_
          refine t_qz 1 [1, 2, 7, 9, 10, 11, 32] (σ' := [(1, .int .i64 o1), (2, .bool A2), (7, .bool true), (9, .slice (ad N258) t255.length (nN258 / 4)), (10, .slice none 0 0), (11, .pointer (some ⟨b259, 0, none⟩)), (32, .agg #[.int .i64 0, .int .i64 256])]) (by kernel_rfl) ?_
          refine t_sti 0 (cs := [.int .i64 0, .int .i64 256]) rfl rfl rfl rfl rfl rfl rfl rfl rfl ?_
          refine t_keep [1, 2, 7, 9, 10, 11] (σ' := [(1, .int .i64 o1), (2, .bool A2), (7, .bool true), (9, .slice (ad N258) t255.length (nN258 / 4)), (10, .slice none 0 0), (11, .pointer (some ⟨b259, 0, none⟩))]) (by kernel_rfl) ?_
          refine t_end ?_
          show W _ _ _ _ _ _ _
          refine w_reg fun all => ?_
          refine t_qz 1 [1, 2, 7, 9, 10, 11, 12] (σ' := [(1, .int .i64 o1), (2, .bool A2), (7, .bool true), (9, .slice (ad N258) t255.length (nN258 / 4)), (10, .slice none 0 0), (11, .pointer (some ⟨b259, 0, none⟩)), (12, .int .i64 1)]) (by kernel_rfl) ?_
          refine t_end ?_
          simp only [Option.some.injEq, Prod.mk.injEq] at e261
          obtain ⟨rfl, rfl, rfl, rfl⟩ := e261
          exact ⟨([⟨b259, [.int .i64 0, .int .i64 256], 2⟩, ⟨b126, [.slice a_t0 t0.length c_t0, .int .i64 t256], 2⟩, ⟨N258, encL E_i644 t255, nN258⟩] : List Own), S, VS.sel [0, 1, 0] (by kernel_rfl), by kernel_rfl, rfl, rfl⟩
        · rw [if_neg c263] at e261
          have c263b : A2 = false := Bool.eq_false_iff.mpr c263
          refine t_v (dv_quiet rfl (congrArg (fun t => some (Value.bool t)) c263b)) ?_
          refine t_keep [1, 2, 7, 9, 10, 11, 12, 31] (σ' := [(1, .int .i64 o1), (2, .bool A2), (7, .bool true), (9, .slice (ad N258) t255.length (nN258 / 4)), (10, .slice none 0 0), (11, .pointer (some ⟨b259, 0, none⟩)), (12, .int .i64 0), (31, .bool false)]) (by kernel_rfl) ?_
          refine t_end ?_
          show W _ _ _ _ _ _ _
          refine w_cond rfl (fun c_ => by cases c_) (fun _ => ?_)
          show W _ _ _ _ _ _ _
          refine w_skip ?_
          simp only [Option.some.injEq, Prod.mk.injEq] at e261
          obtain ⟨rfl, rfl, rfl, rfl⟩ := e261
          exact ⟨([⟨b259, [.int .i64 256, .int .i64 0], 2⟩, ⟨b126, [.slice a_t0 t0.length c_t0, .int .i64 t256], 2⟩, ⟨N258, encL E_i644 t255, nN258⟩] : List Own), S, VS.sel [0, 1, 0] (by kernel_rfl), by kernel_rfl, rfl, rfl⟩
      · rintro σ_ H_ S_ ⟨rfl, rfl, rfl⟩
        obtain ⟨y302, e269, e⟩ := bind_of e
        refine w_cut [1, 2, 7, 9, 10, 12] (fun σ_ H_ S_ => ∃ (a301 : Option Nat) (na301 : Nat), [(1, .int .i64 o1), (2, .bool A2), (7, .bool x264), (9, .slice (ad N258) t255.length (nN258 / 4)), (10, .slice (ad a301) y302.length (na301 / 4)), (12, .int .i64 x265)] = σ_ ∧ ([⟨b259, [.int .i64 x266, .int .i64 x267], 2⟩, ⟨b126, [.slice a_t0 t0.length c_t0, .int .i64 t256], 2⟩, ⟨N258, encL E_i644 t255, nN258⟩, ⟨a301, encL E_i644 y302, na301⟩] : List Own) = H_ ∧ S = S_) ?_ ?_
        · show W _ _ _ _ _ _ _
          refine w_seq ?_
          refine w_reg fun all => ?_
          refine t_qz 1 [1, 2, 7, 9, 10, 11, 12, 13] (σ' := [(1, .int .i64 o1), (2, .bool A2), (7, .bool x264), (9, .slice (ad N258) t255.length (nN258 / 4)), (10, .slice none 0 0), (11, .pointer (some ⟨b259, 0, none⟩)), (12, .int .i64 x265), (13, .int .i64 0)]) (by kernel_rfl) ?_
          refine t_end ?_
          show W _ _ _ _ _ _ _
          refine w_block ?_
          refine w_vs VS.vac ?_
          refine w_kp [1, 2, 7, 9, 10, 11, 12, 13] (σ' := [(1, .int .i64 o1), (2, .bool A2), (7, .bool x264), (9, .slice (ad N258) t255.length (nN258 / 4)), (10, .slice (ad none) ([] : List (Int × Int × Int × Int)).length (0 / 4)), (11, .pointer (some ⟨b259, 0, none⟩)), (12, .int .i64 x265), (13, .int .i64 0)]) (by kernel_rfl) ?_
          refine w_loop (fun n_ σ_ H_ S_ => ∃ (x271 : Int) (y273 : List (Int × Int × Int × Int)), ∃ (a272 : Option Nat) (na272 : Nat), [(1, .int .i64 o1), (2, .bool A2), (7, .bool x264), (9, .slice (ad N258) t255.length (nN258 / 4)), (10, .slice (ad a272) y273.length (na272 / 4)), (11, .pointer (some ⟨b259, 0, none⟩)), (12, .int .i64 x265), (13, .int .i64 x271)] = σ_ ∧ ([⟨a272, encL E_i644 y273, na272⟩, ⟨b259, [.int .i64 x266, .int .i64 x267], 2⟩, ⟨b126, [.slice a_t0 t0.length c_t0, .int .i64 t256], 2⟩, ⟨N258, encL E_i644 t255, nN258⟩] : List Own) = H_ ∧ S = S_ ∧ glyphiclaw24_SweepMoves.l0 n_ t255 x266 x267 x271 y273 = some y302) _ ⟨0, ([] : List (Int × Int × Int × Int)), none, 0, rfl, rfl, rfl, e269⟩ ?_
          rintro n300 σ_ H_ S_ ⟨x271, y273, a272, na272, rfl, rfl, rfl, e269⟩
          cases n300 with
          | zero => rw [glyphiclaw24_SweepMoves.l0.eq_1] at e269; cases e269
          | succ k_ =>
            rw [glyphiclaw24_SweepMoves.l0.eq_2] at e269
            refine w_seq ?_
            refine w_seq ?_
            refine w_reg fun all => ?_
            by_cases c274 : x271 < (t255.length : Int)
            · rw [if_pos c274] at e269
              have c274b : (decide (x271 < (t255.length : Int))) = true := decide_eq_true c274
              refine t_qz 3 [1, 2, 7, 9, 10, 11, 12, 13, 33, 35] (σ' := [(1, .int .i64 o1), (2, .bool A2), (7, .bool x264), (9, .slice (ad N258) t255.length (nN258 / 4)), (10, .slice (ad a272) y273.length (na272 / 4)), (11, .pointer (some ⟨b259, 0, none⟩)), (12, .int .i64 x265), (13, .int .i64 x271), (33, .int .i64 x271), (35, .int .i64 (t255.length : Int))]) (by kernel_rfl) ?_
              refine t_v (dv_quiet rfl (congrArg (fun t => some (Value.bool t)) c274b)) ?_
              refine t_keep [1, 2, 7, 9, 10, 11, 12, 13, 36] (σ' := [(1, .int .i64 o1), (2, .bool A2), (7, .bool x264), (9, .slice (ad N258) t255.length (nN258 / 4)), (10, .slice (ad a272) y273.length (na272 / 4)), (11, .pointer (some ⟨b259, 0, none⟩)), (12, .int .i64 x265), (13, .int .i64 x271), (36, .bool true)]) (by kernel_rfl) ?_
              refine t_end ?_
              show W _ _ _ _ _ _ _
              refine w_cond rfl (fun _ => ?_) (fun c_ => by cases c_)
              show W _ _ _ _ _ _ _
              refine w_skip ?_
              show W _ _ _ _ _ _ _
              refine w_seq ?_
              refine w_block ?_
              obtain ⟨⟨x275, x276, x277, x278⟩, hx279, e269⟩ := bind_of e269
              try dsimp only at e269
              obtain ⟨⟨x280, x281, x282, x283⟩, hx284, e269⟩ := bind_of e269
              try dsimp only at e269
              obtain ⟨⟨x285, x286, x287, x288⟩, hx289, e269⟩ := bind_of e269
              try dsimp only at e269
              obtain ⟨⟨x290, x291, x292, x293⟩, hx294, e269⟩ := bind_of e269
              try dsimp only at e269
              refine w_drwE mixed 41 [.v (.slice (ad a272) y273.length (na272 / 4)), .v (.slice (ad N258) t255.length (nN258 / 4)), .v (.int .i64 x271), .v (.pointer (some ⟨bk N258, (x271).toNat * 4 + 0, none⟩)), .v (.pointer (some ⟨bk N258, (x271).toNat * 4 + 0, none⟩)), .v (.pointer (some ⟨bk N258, (x271).toNat * 4 + 0, none⟩)), .v (.int .i64 x275), .v (.pointer (some ⟨b259, 0, none⟩)), .v (.int .i64 x266), .v (.int .i64 (wr64 (x275 + x266))), .v (.slice (ad N258) t255.length (nN258 / 4)), .v (.int .i64 x271), .v (.pointer (some ⟨bk N258, (x271).toNat * 4 + 0, none⟩)), .v (.pointer (some ⟨bk N258, (x271).toNat * 4 + 0, none⟩)), .v (.pointer (some ⟨bk N258, (x271).toNat * 4 + 1, none⟩)), .v (.int .i64 x281), .v (.pointer (some ⟨b259, 1, none⟩)), .v (.int .i64 x267), .v (.int .i64 (wr64 (x281 + x267))), .v (.agg #[.int .i64 (wr64 (x275 + x266)), .int .i64 (wr64 (x281 + x267))]), .v (.slice (ad N258) t255.length (nN258 / 4)), .v (.int .i64 x271), .v (.pointer (some ⟨bk N258, (x271).toNat * 4 + 0, none⟩)), .v (.pointer (some ⟨bk N258, (x271).toNat * 4 + 2, none⟩)), .v (.pointer (some ⟨bk N258, (x271).toNat * 4 + 2, none⟩)), .v (.int .i64 x287), .v (.pointer (some ⟨b259, 0, none⟩)), .v (.int .i64 x266), .v (.int .i64 (wr64 (x287 + x266))), .v (.slice (ad N258) t255.length (nN258 / 4)), .v (.int .i64 x271), .v (.pointer (some ⟨bk N258, (x271).toNat * 4 + 0, none⟩)), .v (.pointer (some ⟨bk N258, (x271).toNat * 4 + 2, none⟩)), .v (.pointer (some ⟨bk N258, (x271).toNat * 4 + 3, none⟩)), .v (.int .i64 x293), .v (.pointer (some ⟨b259, 1, none⟩)), .v (.int .i64 x267), .v (.int .i64 (wr64 (x293 + x267))), .v (.agg #[.int .i64 (wr64 (x287 + x266)), .int .i64 (wr64 (x293 + x267))]), .v (.agg #[.int .i64 (wr64 (x275 + x266)), .int .i64 (wr64 (x281 + x267)), .int .i64 (wr64 (x287 + x266)), .int .i64 (wr64 (x293 + x267))]), .a [.int .i64 (wr64 (x275 + x266)), .int .i64 (wr64 (x281 + x267)), .int .i64 (wr64 (x287 + x266)), .int .i64 (wr64 (x293 + x267))] (slTo 1)] (by kernel_rfl) ?_ ?_
              · refine DI.sq 3 (by kernel_rfl) rfl ?_
                refine .cons (.quietH rfl (by intro h_; cases h_) (ixl (E := E_i644) (j := 3) rfl rfl rfl (by decide) rfl hx279)) ?_
                refine DI.sq 2 (by kernel_rfl) rfl ?_
                refine .cons (.ld1 rfl rfl rfl (.lst 3 rfl (encL_at (lgt_in hx279).1 rfl))) ?_
                refine DI.sq 1 (by kernel_rfl) rfl ?_
                refine .cons (.ld1 rfl rfl rfl (.at 1 rfl rfl)) ?_
                refine DI.sq 3 (by kernel_rfl) rfl ?_
                refine .cons (.quietH rfl (by intro h_; cases h_) (ixl (E := E_i644) (j := 3) rfl rfl rfl (by decide) rfl hx284)) ?_
                refine DI.sq 2 (by kernel_rfl) rfl ?_
                refine .cons (.ld1 rfl rfl rfl (.lst 3 rfl (encL_at (lgt_in hx284).1 rfl))) ?_
                refine DI.sq 1 (by kernel_rfl) rfl ?_
                refine .cons (.ld1 rfl rfl rfl (.at 1 rfl rfl)) ?_
                refine DI.sq 4 (by kernel_rfl) rfl ?_
                refine .cons (.quietH rfl (by intro h_; cases h_) (ixl (E := E_i644) (j := 3) rfl rfl rfl (by decide) rfl hx289)) ?_
                refine DI.sq 2 (by kernel_rfl) rfl ?_
                refine .cons (.ld1 rfl rfl rfl (.lst 3 rfl (encL_at (lgt_in hx289).1 rfl))) ?_
                refine DI.sq 1 (by kernel_rfl) rfl ?_
                refine .cons (.ld1 rfl rfl rfl (.at 1 rfl rfl)) ?_
                refine DI.sq 3 (by kernel_rfl) rfl ?_
                refine .cons (.quietH rfl (by intro h_; cases h_) (ixl (E := E_i644) (j := 3) rfl rfl rfl (by decide) rfl hx294)) ?_
                refine DI.sq 2 (by kernel_rfl) rfl ?_
                refine .cons (.ld1 rfl rfl rfl (.lst 3 rfl (encL_at (lgt_in hx294).1 rfl))) ?_
                refine DI.sq 1 (by kernel_rfl) rfl ?_
                refine .cons (.ld1 rfl rfl rfl (.at 1 rfl rfl)) ?_
                refine DI.sq 3 (by kernel_rfl) rfl ?_
                refine .cons (.bsl rfl rfl rfl rfl) ?_
                exact .nil
              refine fk_q 40 [1, 2, 7, 9, 11, 12, 13, 39] (σ' := [(1, .int .i64 o1), (2, .bool A2), (7, .bool x264), (9, .slice (ad N258) t255.length (nN258 / 4)), (11, .pointer (some ⟨b259, 0, none⟩)), (12, .int .i64 x265), (13, .int .i64 x271), (39, .slice (ad a272) y273.length (na272 / 4))]) t_more (by kernel_rfl) ?_
              refine fk_a fun b295 fb295 sb295 => ?_
              refine fk_nil fun all => ?_
              obtain ⟨y296, hl297, e269⟩ := bind_of e269
              refine t_appX (E := E_i644) (L := y273) (X := ([(wr64 (x275 + x266), wr64 (x281 + x267), wr64 (x287 + x266), wr64 (x293 + x267))] : List (Int × Int × Int × Int))) (F := ([⟨b295, [.int .i64 (wr64 (x275 + x266)), .int .i64 (wr64 (x281 + x267)), .int .i64 (wr64 (x287 + x266)), .int .i64 (wr64 (x293 + x267))], 4⟩, ⟨b259, [.int .i64 x266, .int .i64 x267], 2⟩, ⟨b126, [.slice a_t0 t0.length c_t0, .int .i64 t256], 2⟩, ⟨N258, encL E_i644 t255, nN258⟩] : List Own)) rfl rfl rfl rfl (sel_perm (is := [1]) (by kernel_rfl)) rfl (Or.inr ⟨_, _, rfl, .at 0 rfl (by kernel_rfl)⟩) rfl (by decide) (by decide) rfl hl297 fun a298 na298 => ?_
              refine t_qz 1 [1, 2, 7, 9, 10, 11, 12, 13] (σ' := [(1, .int .i64 o1), (2, .bool A2), (7, .bool x264), (9, .slice (ad N258) t255.length (nN258 / 4)), (10, .slice (ad a298) y296.length (na298 / 4)), (11, .pointer (some ⟨b259, 0, none⟩)), (12, .int .i64 x265), (13, .int .i64 x271)]) (by kernel_rfl) ?_
              refine t_end ?_
              show W _ _ _ _ _ _ _
              refine w_reg fun all => ?_
              refine t_qz 3 [1, 2, 7, 9, 10, 11, 12, 13] (σ' := [(1, .int .i64 o1), (2, .bool A2), (7, .bool x264), (9, .slice (ad N258) t255.length (nN258 / 4)), (10, .slice (ad a298) y296.length (na298 / 4)), (11, .pointer (some ⟨b259, 0, none⟩)), (12, .int .i64 x265), (13, .int .i64 (wr64 (x271 + 1)))]) (by kernel_rfl) ?_
              refine t_end ?_
              exact ⟨k_, Nat.lt_succ_self _, [(1, .int .i64 o1), (2, .bool A2), (7, .bool x264), (9, .slice (ad N258) t255.length (nN258 / 4)), (10, .slice (ad a298) y296.length (na298 / 4)), (11, .pointer (some ⟨b259, 0, none⟩)), (12, .int .i64 x265), (13, .int .i64 (wr64 (x271 + 1)))], ([⟨a298, encL E_i644 y296, na298⟩, ⟨b259, [.int .i64 x266, .int .i64 x267], 2⟩, ⟨b126, [.slice a_t0 t0.length c_t0, .int .i64 t256], 2⟩, ⟨N258, encL E_i644 t255, nN258⟩] : List Own), S, keep_sub [1, 2, 7, 9, 10, 11, 12, 13] (by kernel_rfl), VS.sel [0, 1, 1, 1] (by kernel_rfl), wr64 (x271 + 1), y296, a298, na298, rfl, rfl, rfl, e269⟩
            · rw [if_neg c274] at e269
              have c274b : (decide (x271 < (t255.length : Int))) = false := decide_eq_false c274
              refine t_qz 3 [1, 2, 7, 9, 10, 11, 12, 13, 33, 35] (σ' := [(1, .int .i64 o1), (2, .bool A2), (7, .bool x264), (9, .slice (ad N258) t255.length (nN258 / 4)), (10, .slice (ad a272) y273.length (na272 / 4)), (11, .pointer (some ⟨b259, 0, none⟩)), (12, .int .i64 x265), (13, .int .i64 x271), (33, .int .i64 x271), (35, .int .i64 (t255.length : Int))]) (by kernel_rfl) ?_
              refine t_v (dv_quiet rfl (congrArg (fun t => some (Value.bool t)) c274b)) ?_
              refine t_keep [1, 2, 7, 9, 10, 11, 12, 13, 36] (σ' := [(1, .int .i64 o1), (2, .bool A2), (7, .bool x264), (9, .slice (ad N258) t255.length (nN258 / 4)), (10, .slice (ad a272) y273.length (na272 / 4)), (11, .pointer (some ⟨b259, 0, none⟩)), (12, .int .i64 x265), (13, .int .i64 x271), (36, .bool false)]) (by kernel_rfl) ?_
              refine t_end ?_
              show W _ _ _ _ _ _ _
              refine w_cond rfl (fun c_ => by cases c_) (fun _ => ?_)
              show W _ _ _ _ _ _ _
              refine w_exit ?_
              obtain rfl := Option.some.inj e269
              exact ⟨([⟨b259, [.int .i64 x266, .int .i64 x267], 2⟩, ⟨b126, [.slice a_t0 t0.length c_t0, .int .i64 t256], 2⟩, ⟨N258, encL E_i644 t255, nN258⟩, ⟨a272, encL E_i644 y273, na272⟩] : List Own), S, VS.sel [1, 1, 1, 0] (by kernel_rfl), a272, na272, by kernel_rfl, rfl, rfl⟩
        · rintro σ_ H_ S_ ⟨a301, na301, rfl, rfl, rfl⟩
          refine w_seq ?_
          refine w_reg fun all => ?_
          obtain ⟨t303, h304, e⟩ := bind_of e
          refine t_qz 3 [1, 2, 7, 9, 10, 12, 81, 83] (σ' := [(1, .int .i64 o1), (2, .bool A2), (7, .bool x264), (9, .slice (ad N258) t255.length (nN258 / 4)), (10, .slice (ad a301) y302.length (na301 / 4)), (12, .int .i64 x265), (81, .slice (ad N258) t255.length (nN258 / 4)), (83, .int .i64 (bits .and .i64 o1 1))]) (by kernel_rfl) ?_
          refine t_call (vs := [.slice (ad N258) t255.length (nN258 / 4), .int .i64 (bits .and .i64 o1 1), .int .i64 0, .int .i64 4]) (H1 := ([⟨N258, encL E_i644 t255, nN258⟩] : List Own)) (F := ([⟨b259, [.int .i64 x266, .int .i64 x267], 2⟩, ⟨b126, [.slice a_t0 t0.length c_t0, .int .i64 t256], 2⟩, ⟨a301, encL E_i644 y302, na301⟩] : List Own)) rfl rfl (by kernel_rfl) (sel_perm (is := [2]) (by kernel_rfl)) (cal_lend (Qc := fun v_ H_ => ∃ (N305 : Option Nat) (nN305 : Nat), v_ = (.slice (ad N305) t303.length (nN305 / 1)) ∧ H_ = ([⟨N305, encL E_u64 t303, nN305⟩] : List Own)) fun S1_ le1_ hS1_ => (sweep_Fill_v1.ok (SlE.ofAd (E := E_i644) (L := t255) hS1_ (by decide)) h304).mono fun _ _ _ ⟨N305, nN305, h1_, h2_, h3_⟩ => ⟨⟨N305, nN305, h1_, h2_⟩, h3_⟩) ?_
          rintro _ _ S_ ⟨⟨_, rfl, ⟨N305, nN305, rfl, rfl⟩⟩, hS_⟩
          obtain rfl := hS_.symm
          refine t_qz 1 [1, 2, 7, 9, 10, 12, 14] (σ' := [(1, .int .i64 o1), (2, .bool A2), (7, .bool x264), (9, .slice (ad N258) t255.length (nN258 / 4)), (10, .slice (ad a301) y302.length (na301 / 4)), (12, .int .i64 x265), (14, .slice (ad N305) t303.length (nN305 / 1))]) (by kernel_rfl) ?_
          refine t_end ?_
          show W _ _ _ _ _ _ _
          refine w_seq ?_
          refine w_reg fun all => ?_
          obtain ⟨t306, h307, e⟩ := bind_of e
          refine t_qz 4 [2, 7, 9, 10, 12, 14, 85, 87, 88] (σ' := [(2, .bool A2), (7, .bool x264), (9, .slice (ad N258) t255.length (nN258 / 4)), (10, .slice (ad a301) y302.length (na301 / 4)), (12, .int .i64 x265), (14, .slice (ad N305) t303.length (nN305 / 1)), (85, .slice (ad a301) y302.length (na301 / 4)), (87, .int .i64 (bits .and .i64 o1 1)), (88, .int .i64 x265)]) (by kernel_rfl) ?_
          refine t_call (vs := [.slice (ad a301) y302.length (na301 / 4), .int .i64 (bits .and .i64 o1 1), .int .i64 x265, .int .i64 4]) (H1 := ([⟨a301, encL E_i644 y302, na301⟩] : List Own)) (F := ([⟨N258, encL E_i644 t255, nN258⟩, ⟨N305, encL E_u64 t303, nN305⟩, ⟨b259, [.int .i64 x266, .int .i64 x267], 2⟩, ⟨b126, [.slice a_t0 t0.length c_t0, .int .i64 t256], 2⟩] : List Own)) rfl rfl (by kernel_rfl) (sel_perm (is := [4]) (by kernel_rfl)) (cal_lend (Qc := fun v_ H_ => ∃ (N308 : Option Nat) (nN308 : Nat), v_ = (.slice (ad N308) t306.length (nN308 / 1)) ∧ H_ = ([⟨N308, encL E_u64 t306, nN308⟩] : List Own)) fun S1_ le1_ hS1_ => (sweep_Fill_v1.ok (SlE.ofAd (E := E_i644) (L := y302) hS1_ (by decide)) h307).mono fun _ _ _ ⟨N308, nN308, h1_, h2_, h3_⟩ => ⟨⟨N308, nN308, h1_, h2_⟩, h3_⟩) ?_
          rintro _ _ S_ ⟨⟨_, rfl, ⟨N308, nN308, rfl, rfl⟩⟩, hS_⟩
          obtain rfl := hS_.symm
          refine t_qz 1 [2, 7, 9, 10, 12, 14, 15] (σ' := [(2, .bool A2), (7, .bool x264), (9, .slice (ad N258) t255.length (nN258 / 4)), (10, .slice (ad a301) y302.length (na301 / 4)), (12, .int .i64 x265), (14, .slice (ad N305) t303.length (nN305 / 1)), (15, .slice (ad N308) t306.length (nN308 / 1))]) (by kernel_rfl) ?_
          refine t_end ?_
          show W _ _ _ _ _ _ _
          refine w_seq ?_
          refine w_reg fun all => ?_
          obtain ⟨t419, h420, e⟩ := bind_of e
          refine t_qz 1 [2, 7, 10, 12, 14, 15, 90] (σ' := [(2, .bool A2), (7, .bool x264), (10, .slice (ad a301) y302.length (na301 / 4)), (12, .int .i64 x265), (14, .slice (ad N305) t303.length (nN305 / 1)), (15, .slice (ad N308) t306.length (nN308 / 1)), (90, .slice (ad N258) t255.length (nN258 / 4))]) (by kernel_rfl) ?_
          refine t_call (vs := [.slice (ad N258) t255.length (nN258 / 4), .int .i64 100, .int .i64 0, .int .i64 4]) (H1 := ([⟨N258, encL E_i644 t255, nN258⟩] : List Own)) (F := ([⟨a301, encL E_i644 y302, na301⟩, ⟨N308, encL E_u64 t306, nN308⟩, ⟨N305, encL E_u64 t303, nN305⟩, ⟨b259, [.int .i64 x266, .int .i64 x267], 2⟩, ⟨b126, [.slice a_t0 t0.length c_t0, .int .i64 t256], 2⟩] : List Own)) rfl rfl (by kernel_rfl) (sel_perm (is := [2]) (by kernel_rfl)) (cal_lend (Qc := fun v_ H_ => ∃ (N421 : Option Nat) (nN421 : Nat), v_ = (.slice (ad N421) t419.length (nN421 / 1)) ∧ H_ = ([⟨N421, encL E_u64 t419, nN421⟩] : List Own)) fun S1_ le1_ hS1_ => (sweep_Line_v1.ok (SlE.ofAd (E := E_i644) (L := t255) hS1_ (by decide)) h420).mono fun _ _ _ ⟨N421, nN421, h1_, h2_, h3_⟩ => ⟨⟨N421, nN421, h1_, h2_⟩, h3_⟩) ?_
          rintro _ _ S_ ⟨⟨_, rfl, ⟨N421, nN421, rfl, rfl⟩⟩, hS_⟩
          obtain rfl := hS_.symm
          refine t_qz 1 [2, 7, 10, 12, 14, 15, 16] (σ' := [(2, .bool A2), (7, .bool x264), (10, .slice (ad a301) y302.length (na301 / 4)), (12, .int .i64 x265), (14, .slice (ad N305) t303.length (nN305 / 1)), (15, .slice (ad N308) t306.length (nN308 / 1)), (16, .slice (ad N421) t419.length (nN421 / 1))]) (by kernel_rfl) ?_
          refine t_end ?_
          show W _ _ _ _ _ _ _
          refine w_seq ?_
          refine w_reg fun all => ?_
          obtain ⟨t422, h423, e⟩ := bind_of e
          refine t_qz 2 [2, 7, 14, 15, 16, 92, 93] (σ' := [(2, .bool A2), (7, .bool x264), (14, .slice (ad N305) t303.length (nN305 / 1)), (15, .slice (ad N308) t306.length (nN308 / 1)), (16, .slice (ad N421) t419.length (nN421 / 1)), (92, .slice (ad a301) y302.length (na301 / 4)), (93, .int .i64 x265)]) (by kernel_rfl) ?_
          refine t_call (vs := [.slice (ad a301) y302.length (na301 / 4), .int .i64 100, .int .i64 x265, .int .i64 4]) (H1 := ([⟨a301, encL E_i644 y302, na301⟩] : List Own)) (F := ([⟨N258, encL E_i644 t255, nN258⟩, ⟨N421, encL E_u64 t419, nN421⟩, ⟨N308, encL E_u64 t306, nN308⟩, ⟨N305, encL E_u64 t303, nN305⟩, ⟨b259, [.int .i64 x266, .int .i64 x267], 2⟩, ⟨b126, [.slice a_t0 t0.length c_t0, .int .i64 t256], 2⟩] : List Own)) rfl rfl (by kernel_rfl) (sel_perm (is := [2]) (by kernel_rfl)) (cal_lend (Qc := fun v_ H_ => ∃ (N424 : Option Nat) (nN424 : Nat), v_ = (.slice (ad N424) t422.length (nN424 / 1)) ∧ H_ = ([⟨N424, encL E_u64 t422, nN424⟩] : List Own)) fun S1_ le1_ hS1_ => (sweep_Line_v1.ok (SlE.ofAd (E := E_i644) (L := y302) hS1_ (by decide)) h423).mono fun _ _ _ ⟨N424, nN424, h1_, h2_, h3_⟩ => ⟨⟨N424, nN424, h1_, h2_⟩, h3_⟩) ?_
          rintro _ _ S_ ⟨⟨_, rfl, ⟨N424, nN424, rfl, rfl⟩⟩, hS_⟩
          obtain rfl := hS_.symm
          refine t_qz 1 [2, 7, 14, 15, 16, 17] (σ' := [(2, .bool A2), (7, .bool x264), (14, .slice (ad N305) t303.length (nN305 / 1)), (15, .slice (ad N308) t306.length (nN308 / 1)), (16, .slice (ad N421) t419.length (nN421 / 1)), (17, .slice (ad N424) t422.length (nN424 / 1))]) (by kernel_rfl) ?_
          refine t_end ?_
          show W _ _ _ _ _ _ _
          refine w_seq ?_
          refine w_seq ?_
          refine w_reg fun all => ?_
          by_cases c425 : (t303.length : Int) = 4
          · rw [if_pos c425] at e
            have c425b : ((t303.length : Int) == 4) = true := beq_iff_eq.mpr c425
            refine t_qz 2 [2, 7, 14, 15, 16, 17, 96] (σ' := [(2, .bool A2), (7, .bool x264), (14, .slice (ad N305) t303.length (nN305 / 1)), (15, .slice (ad N308) t306.length (nN308 / 1)), (16, .slice (ad N421) t419.length (nN421 / 1)), (17, .slice (ad N424) t422.length (nN424 / 1)), (96, .int .i64 (t303.length : Int))]) (by kernel_rfl) ?_
            refine t_v (dv_quiet rfl (congrArg (fun t => some (Value.bool (!t))) c425b)) ?_
            by_cases c426 : (t306.length : Int) = 4
            · rw [if_pos c426] at e
              have c426b : ((t306.length : Int) == 4) = true := beq_iff_eq.mpr c426
              refine t_qz 3 [2, 7, 14, 15, 16, 17, 98, 100] (σ' := [(2, .bool A2), (7, .bool x264), (14, .slice (ad N305) t303.length (nN305 / 1)), (15, .slice (ad N308) t306.length (nN308 / 1)), (16, .slice (ad N421) t419.length (nN421 / 1)), (17, .slice (ad N424) t422.length (nN424 / 1)), (98, .bool false), (100, .int .i64 (t306.length : Int))]) (by kernel_rfl) ?_
              refine t_v (dv_quiet rfl (congrArg (fun t => some (Value.bool (!t))) c426b)) ?_
              by_cases c427 : (t419.length : Int) = 4
              · rw [if_pos c427] at e
                have c427b : ((t419.length : Int) == 4) = true := beq_iff_eq.mpr c427
                refine t_qz 4 [2, 7, 14, 15, 16, 17, 103, 105] (σ' := [(2, .bool A2), (7, .bool x264), (14, .slice (ad N305) t303.length (nN305 / 1)), (15, .slice (ad N308) t306.length (nN308 / 1)), (16, .slice (ad N421) t419.length (nN421 / 1)), (17, .slice (ad N424) t422.length (nN424 / 1)), (103, .bool false), (105, .int .i64 (t419.length : Int))]) (by kernel_rfl) ?_
                refine t_v (dv_quiet rfl (congrArg (fun t => some (Value.bool (!t))) c427b)) ?_
                by_cases c428 : (t422.length : Int) = 4
                · rw [if_pos c428] at e
                  have c428b : ((t422.length : Int) == 4) = true := beq_iff_eq.mpr c428
                  refine t_qz 4 [2, 7, 14, 15, 16, 17, 108, 110] (σ' := [(2, .bool A2), (7, .bool x264), (14, .slice (ad N305) t303.length (nN305 / 1)), (15, .slice (ad N308) t306.length (nN308 / 1)), (16, .slice (ad N421) t419.length (nN421 / 1)), (17, .slice (ad N424) t422.length (nN424 / 1)), (108, .bool false), (110, .int .i64 (t422.length : Int))]) (by kernel_rfl) ?_
                  refine t_v (dv_quiet rfl (congrArg (fun t => some (Value.bool (!t))) c428b)) ?_
                  refine t_qz 1 [2, 7, 14, 15, 16, 17, 112] (σ' := [(2, .bool A2), (7, .bool x264), (14, .slice (ad N305) t303.length (nN305 / 1)), (15, .slice (ad N308) t306.length (nN308 / 1)), (16, .slice (ad N421) t419.length (nN421 / 1)), (17, .slice (ad N424) t422.length (nN424 / 1)), (112, .bool false)]) (by kernel_rfl) ?_
                  refine t_end ?_
                  show W _ _ _ _ _ _ _
                  refine w_cond rfl (fun c_ => by cases c_) (fun _ => ?_)
                  show W _ _ _ _ _ _ _
                  refine w_skip ?_
                  show W _ _ _ _ _ _ _
                  refine w_seq ?_
                  refine w_seq ?_
                  refine w_reg fun all => ?_
                  by_cases c429 : A2 = true
                  · rw [if_pos c429] at e
                    have c429b : A2 = true := c429
                    refine t_v (dv_quiet rfl (congrArg (fun t => some (Value.bool t)) c429b)) ?_
                    refine t_keep [7, 14, 15, 16, 17, 113] (σ' := [(7, .bool x264), (14, .slice (ad N305) t303.length (nN305 / 1)), (15, .slice (ad N308) t306.length (nN308 / 1)), (16, .slice (ad N421) t419.length (nN421 / 1)), (17, .slice (ad N424) t422.length (nN424 / 1)), (113, .bool true)]) (by kernel_rfl) ?_
                    refine t_end ?_
                    show W _ _ _ _ _ _ _
                    refine w_cond rfl (fun _ => ?_) (fun c_ => by cases c_)
                    show W _ _ _ _ _ _ _
                    refine w_seq ?_
                    refine w_reg fun all => ?_
                    by_cases c430 : x264 = true
                    · rw [if_pos c430] at e
                      have c430b : x264 = true := c430
                      refine t_v (dv_quiet rfl (congrArg (fun t => some (Value.bool t)) c430b)) ?_
                      obtain ⟨t431, h432, e⟩ := bind_of e
                      cases t431 with
                      | true =>
                        rw [if_pos rfl] at e
                        refine t_qz 3 [16, 17, 115, 116, 117] (σ' := [(16, .slice (ad N421) t419.length (nN421 / 1)), (17, .slice (ad N424) t422.length (nN424 / 1)), (115, .bool true), (116, .slice (ad N305) t303.length (nN305 / 1)), (117, .slice (ad N308) t306.length (nN308 / 1))]) (by kernel_rfl) ?_
                        refine t_v (.callr (vs := [.slice (ad N305) t303.length (nN305 / 1), .slice (ad N308) t306.length (nN308 / 1)]) (A := ([⟨N305, encL E_u64 t303, nN305⟩, ⟨N308, encL E_u64 t306, nN308⟩] : List Own)) (F0 := ([⟨a301, encL E_i644 y302, na301⟩, ⟨N424, encL E_u64 t422, nN424⟩, ⟨N258, encL E_i644 t255, nN258⟩, ⟨N421, encL E_u64 t419, nN421⟩, ⟨b259, [.int .i64 x266, .int .i64 x267], 2⟩, ⟨b126, [.slice a_t0 t0.length c_t0, .int .i64 t256], 2⟩] : List Own)) rfl rfl (by kernel_rfl) (sel_perm (is := [5, 4]) (by kernel_rfl)) (cal_lendr fun S1_ le1_ hS1_ => (cal_lendr fun S2_ le2_ hS2_ => (glyphicref_SameMasks_v1.ok (SlE.mono (SlE.ofAd (E := E_u64) (L := t303) hS1_ (by decide)) le2_) (SlE.ofAd (E := E_u64) (L := t306) hS2_ (by decide)) h432)))) ?_
                        obtain ⟨t433, h434, e⟩ := bind_of e
                        refine t_qz 4 [120, 121, 122] (σ' := [(120, .bool true), (121, .slice (ad N421) t419.length (nN421 / 1)), (122, .slice (ad N424) t422.length (nN424 / 1))]) (by kernel_rfl) ?_
                        refine t_v (.callr (vs := [.slice (ad N421) t419.length (nN421 / 1), .slice (ad N424) t422.length (nN424 / 1)]) (A := ([⟨N421, encL E_u64 t419, nN421⟩, ⟨N424, encL E_u64 t422, nN424⟩] : List Own)) (F0 := ([⟨a301, encL E_i644 y302, na301⟩, ⟨N258, encL E_i644 t255, nN258⟩, ⟨N308, encL E_u64 t306, nN308⟩, ⟨N305, encL E_u64 t303, nN305⟩, ⟨b259, [.int .i64 x266, .int .i64 x267], 2⟩, ⟨b126, [.slice a_t0 t0.length c_t0, .int .i64 t256], 2⟩] : List Own)) rfl rfl (by kernel_rfl) (sel_perm (is := [3, 1]) (by kernel_rfl)) (cal_lendr fun S1_ le1_ hS1_ => (cal_lendr fun S2_ le2_ hS2_ => (glyphicref_SameMasks_v1.ok (SlE.mono (SlE.ofAd (E := E_u64) (L := t419) hS1_ (by decide)) le2_) (SlE.ofAd (E := E_u64) (L := t422) hS2_ (by decide)) h434)))) ?_
                        refine t_qz 2 [6] (σ' := [(6, .bool t433)]) (by kernel_rfl) ?_
                        refine t_end ?_
                        show W _ _ _ _ _ _ _
                        refine w_ret ?_
                        have hr_ := Option.some.inj e
                        exact ⟨[.bool t433], [], S, ⟨rfl, trivial⟩, VS.none, congrArg Value.bool hr_, rfl, rfl⟩
                      | false =>
                        rw [if_neg (by decide)] at e
                        exact absurd (Option.some.inj e) (by decide)
                    · rw [if_neg c430] at e
                      exact absurd (Option.some.inj e) (by decide)
                  · rw [if_neg c429] at e
                    have c429b : A2 = false := Bool.eq_false_iff.mpr c429
                    refine t_v (dv_quiet rfl (congrArg (fun t => some (Value.bool t)) c429b)) ?_
                    refine t_keep [7, 14, 15, 16, 17, 113] (σ' := [(7, .bool x264), (14, .slice (ad N305) t303.length (nN305 / 1)), (15, .slice (ad N308) t306.length (nN308 / 1)), (16, .slice (ad N421) t419.length (nN421 / 1)), (17, .slice (ad N424) t422.length (nN424 / 1)), (113, .bool false)]) (by kernel_rfl) ?_
                    refine t_end ?_
                    show W _ _ _ _ _ _ _
                    refine w_cond rfl (fun c_ => by cases c_) (fun _ => ?_)
                    show W _ _ _ _ _ _ _
                    refine w_skip ?_
                    show W _ _ _ _ _ _ _
                    refine w_seq ?_
                    by_cases c435 : x264 = true
                    · rw [if_pos c435] at e
                      have c435b : x264 = true := c435
                      obtain ⟨y436, hl437, e⟩ := bind_of e
                      first | refine t_pure (fun w_ h_ => HOK.le h_ (j := 5) rfl) fun hM_ => ?_ | refine w_pure (fun w_ h_ => HOK.le h_ (j := 5) rfl) fun hM_ => ?_
                      obtain ⟨q438, c439, hv441, hq440⟩ := cutN (E := E_u64) (z := 1) rfl (by decide) hM_ hl437
                      obtain ⟨y442, hl443, e⟩ := bind_of e
                      first | refine t_pure (fun w_ h_ => HOK.le h_ (j := 4) rfl) fun hM_ => ?_ | refine w_pure (fun w_ h_ => HOK.le h_ (j := 4) rfl) fun hM_ => ?_
                      obtain ⟨q444, c445, hv447, hq446⟩ := cutN (E := E_u64) (z := 1) rfl (by decide) hM_ hl443
                      obtain ⟨t448, h449, e⟩ := bind_of e
                      cases t448 with
                      | true =>
                        rw [if_pos rfl] at e
                        obtain ⟨y450, hl451, e⟩ := bind_of e
                        first | refine t_pure (fun w_ h_ => HOK.le h_ (j := 3) rfl) fun hM_ => ?_ | refine w_pure (fun w_ h_ => HOK.le h_ (j := 3) rfl) fun hM_ => ?_
                        obtain ⟨q452, c453, hv455, hq454⟩ := cutN (E := E_u64) (z := 1) rfl (by decide) hM_ hl451
                        obtain ⟨y456, hl457, e⟩ := bind_of e
                        first | refine t_pure (fun w_ h_ => HOK.le h_ (j := 1) rfl) fun hM_ => ?_ | refine w_pure (fun w_ h_ => HOK.le h_ (j := 1) rfl) fun hM_ => ?_
                        obtain ⟨q458, c459, hv461, hq460⟩ := cutN (E := E_u64) (z := 1) rfl (by decide) hM_ hl457
                        obtain ⟨t462, h463, e⟩ := bind_of e
                        refine w_drwE mixed 16 [.v (.bool true), .v (.bool true), .v (.slice (ad N305) t303.length (nN305 / 1)), .v (.slice (some ⟨bk N305, q438, none⟩) y436.length c439), .v (.slice (ad N308) t306.length (nN308 / 1)), .v (.slice (some ⟨bk N308, q444, none⟩) y442.length c445), .v (.bool true), .v (.bool true), .v (.bool true), .v (.slice (ad N421) t419.length (nN421 / 1)), .v (.slice (some ⟨bk N421, q452, none⟩) y450.length c453), .v (.slice (ad N424) t422.length (nN424 / 1)), .v (.slice (some ⟨bk N424, q458, none⟩) y456.length c459), .v (.bool t462), .v (.bool t462), .v (.bool t462)] (by kernel_rfl) ?_ ?_
                        · refine .cons (dv_quiet rfl (congrArg (fun t => some (Value.bool t)) c435b)) ?_
                          refine DI.sq 2 (by kernel_rfl) rfl ?_
                          refine .cons (.quietH rfl (by intro h_; cases h_) (hq440 (j := 5) rfl .no (.is rfl) rfl)) ?_
                          refine DI.sq 1 (by kernel_rfl) rfl ?_
                          refine .cons (.quietH rfl (by intro h_; cases h_) (hq446 (j := 4) rfl (.is rfl) .no rfl)) ?_
                          refine .cons (.callr (vs := [.slice (some ⟨bk N305, q438, none⟩) y436.length c439, .slice (some ⟨bk N308, q444, none⟩) y442.length c445]) (A := ([⟨N305, encL E_u64 t303, nN305⟩, ⟨N308, encL E_u64 t306, nN308⟩] : List Own)) (F0 := ([⟨a301, encL E_i644 y302, na301⟩, ⟨N424, encL E_u64 t422, nN424⟩, ⟨N258, encL E_i644 t255, nN258⟩, ⟨N421, encL E_u64 t419, nN421⟩, ⟨b259, [.int .i64 x266, .int .i64 x267], 2⟩, ⟨b126, [.slice a_t0 t0.length c_t0, .int .i64 t256], 2⟩] : List Own)) rfl rfl (by kernel_rfl) (sel_perm (is := [5, 4]) (by kernel_rfl)) (cal_lendr fun S1_ le1_ hS1_ => (cal_lendr fun S2_ le2_ hS2_ => (glyphicref_SameMasks_v1.ok (SlE.mono (SlE.of hv441 (by decide) hS1_) le2_) (SlE.of hv447 (by decide) hS2_) h449)))) ?_
                          refine DI.sq 3 (by kernel_rfl) rfl ?_
                          refine .cons (.quietH rfl (by intro h_; cases h_) (hq454 (j := 3) rfl .no (.is rfl) rfl)) ?_
                          refine DI.sq 1 (by kernel_rfl) rfl ?_
                          refine .cons (.quietH rfl (by intro h_; cases h_) (hq460 (j := 1) rfl (.is rfl) .no rfl)) ?_
                          refine .cons (.callr (vs := [.slice (some ⟨bk N421, q452, none⟩) y450.length c453, .slice (some ⟨bk N424, q458, none⟩) y456.length c459]) (A := ([⟨N421, encL E_u64 t419, nN421⟩, ⟨N424, encL E_u64 t422, nN424⟩] : List Own)) (F0 := ([⟨a301, encL E_i644 y302, na301⟩, ⟨N258, encL E_i644 t255, nN258⟩, ⟨N308, encL E_u64 t306, nN308⟩, ⟨N305, encL E_u64 t303, nN305⟩, ⟨b259, [.int .i64 x266, .int .i64 x267], 2⟩, ⟨b126, [.slice a_t0 t0.length c_t0, .int .i64 t256], 2⟩] : List Own)) rfl rfl (by kernel_rfl) (sel_perm (is := [3, 1]) (by kernel_rfl)) (cal_lendr fun S1_ le1_ hS1_ => (cal_lendr fun S2_ le2_ hS2_ => (glyphicref_SameMasks_v1.ok (SlE.mono (SlE.of hv455 (by decide) hS1_) le2_) (SlE.of hv461 (by decide) hS2_) h463)))) ?_
                          refine DI.sq 2 (by kernel_rfl) rfl ?_
                          exact .nil
                        refine fk_q 16 [6] (σ' := [(6, .bool t462)]) t_more (by kernel_rfl) ?_
                        refine fk_nil fun all => ?_
                        refine t_keep [6] (σ' := [(6, .bool t462)]) (by kernel_rfl) ?_
                        refine t_end ?_
                        show W _ _ _ _ _ _ _
                        refine w_ret ?_
                        have hr_ := Option.some.inj e
                        exact ⟨[.bool t462], [], S, ⟨rfl, trivial⟩, VS.none, congrArg Value.bool hr_, rfl, rfl⟩
                      | false =>
                        rw [if_neg (by decide)] at e
                        exact absurd (Option.some.inj e) (by decide)
                    · rw [if_neg c435] at e
                      exact absurd (Option.some.inj e) (by decide)
                · rw [if_neg c428] at e
                  exact absurd (Option.some.inj e) (by decide)
              · rw [if_neg c427] at e
                exact absurd (Option.some.inj e) (by decide)
            · rw [if_neg c426] at e
              exact absurd (Option.some.inj e) (by decide)
          · rw [if_neg c425] at e
            exact absurd (Option.some.inj e) (by decide)
  | false =>
    rw [if_neg (by decide)] at e
    exact absurd (Option.some.inj e) (by decide)

def glyphiclaw24_SweepMoves.Pure : Prop := ∀ (t0 : List (Int)) (o1 : Int) (A2 : Bool), (Lit.int .i64 o1).wf = true → ∃ k, glyphiclaw24_SweepMoves.f k t0 o1 A2 = some true
theorem glyphiclaw24_SweepMoves.walk (P : glyphiclaw24_SweepMoves.Pure) (t0 : List (Int)) (o1 : Int) (A2 : Bool) (w : World) {S : Seal} (hS : HOK [] S w) {a_t0 : Option Addr} {c_t0 : Nat} (h_t0 : SlI S .i64 t0 a_t0) (ho1 : (Lit.int .i64 o1).wf = true) :
    Calls Try.prog 11 #[.slice a_t0 t0.length c_t0, .int .i64 o1, .bool A2] w fun e w' => e = .returned (.bool true) ∧ Below w.heap.size w w' := let ⟨k, h⟩ := P t0 o1 A2 ho1; law_w hS (glyphiclaw24_SweepMoves.ok (SlI.e h_t0) (k := k) h)
end Go.Proofs.Ytpimfacaalkmdaa.QSweepMoves
