/- Functions of the program as Lean functions, each with the proof of its walk. Written by gen.py, a program of these sessions. -/
import Derived.Test.YtpimfacaalkmdaaQSweepRowsx0
namespace Go.Proofs.Ytpimfacaalkmdaa.QSweepRows
open Go Go.RowKit Go.Proofs.YtpimfacaalkmdaaE Go.Proofs.YtpimfacaalkmdaaX
set_option linter.unusedVariables false
set_option maxRecDepth 100000
set_option maxHeartbeats 8000000
/-- sweep.Fill$1 -/
def c83 : C :=
  (.seq (.reg [⟨(some 4), .box (.tmp 1), none⟩,
     ⟨(some 5), .mv (.const (.bool false)), none⟩])
  (.seq (.reg [⟨(some 6), .mv (.tmp 0), none⟩,
     ⟨(some 7), .ld none (.tmp 2), none⟩,
     ⟨(some 8), .ld (some 2) (.tmp 4), none⟩,
     ⟨(some 9), .call 84 [(.tmp 6), (.tmp 7), (.tmp 8)], none⟩,
     ⟨(some 5), .mv (.tmp 9), none⟩])
  .ret))
def sweep_Fill_1_v1.f (k : Nat) (l0 : List (Int × Int × Int × Int)) (p1_0 : Int) (p1_1 : Int) (m0_0 : Int) : Option (Bool) := (wind_Inside_v1.f k l0 m0_0 p1_0 p1_1).bind fun t129 => (some t129)
theorem sweep_Fill_1_v1.ok {S : Seal} {B0 : Nat} {k : Nat} {l0 : List (Int × Int × Int × Int)} {p1_0 : Int} {p1_1 : Int} {m0_0 : Int} {r0_ : Bool}{a_l0 : Option Addr} {c_l0 : Nat} (h_l0 : SlE S E_i644 l0 a_l0) (e : sweep_Fill_1_v1.f k l0 p1_0 p1_1 m0_0 = some r0_) :
    Cal Try.prog 83 [.slice a_l0 l0.length c_l0, .agg #[.int .i64 p1_0, .int .i64 p1_1], .pointer (some ⟨B0, 0, none⟩)] ([⟨B0, [.int .i64 m0_0], 1⟩] : List Own) S fun v H' S' => v = .bool r0_ ∧ H' = ([⟨B0, [.int .i64 m0_0], 1⟩] : List Own) ∧ S' = S := by
  unfold sweep_Fill_1_v1.f at e
  refine cal_of (c := c83) (N := 10) Try.func83 rfl rfl (by kernel_rfl) (rs := [.t 5]) (by kernel_rfl) (Nat.le_of_ble_eq_true rfl) ?_
  unfold c83
  refine w_seq ?_
  refine w_reg fun all => ?_
  refine t_a (.box rfl rfl rfl) fun b81 fb81 sb81 => ?_
  refine t_qz 1 [0, 2, 4] (σ' := [(0, .slice a_l0 l0.length c_l0), (2, .pointer (some ⟨B0, 0, none⟩)), (4, .pointer (some ⟨b81, 0, none⟩))]) (by kernel_rfl) ?_
  refine t_end ?_
  show W _ _ _ _ _ _ _
  refine w_seq ?_
  refine w_reg fun all => ?_
  refine t_qz 1 [2, 4, 6] (σ' := [(2, .pointer (some ⟨B0, 0, none⟩)), (4, .pointer (some ⟨b81, 0, none⟩)), (6, .slice a_l0 l0.length c_l0)]) (by kernel_rfl) ?_
  refine t_v (.ld1 rfl rfl rfl (.at 1 rfl rfl)) ?_
  refine t_v (.ldn rfl rfl rfl (.at 0 rfl rfl)) ?_
  obtain ⟨t129, h130, e⟩ := bind_of e
  refine t_v (.call (vs := [.slice a_l0 l0.length c_l0, .int .i64 m0_0, .agg #[.int .i64 p1_0, .int .i64 p1_1]]) rfl rfl (by kernel_rfl) (wind_Inside_v1.ok h_l0 h130)) ?_
  refine t_qz 1 [5] (σ' := [(5, .bool t129)]) (by kernel_rfl) ?_
  refine t_end ?_
  show W _ _ _ _ _ _ _
  refine w_ret ?_
  obtain rfl := Option.some.inj e
  exact ⟨[.bool t129], ([⟨B0, [.int .i64 m0_0], 1⟩] : List Own), S, ⟨rfl, trivial⟩, VS.sel [1] (by kernel_rfl), rfl, rfl, rfl⟩

/-- sweep.masks -/
def c82 : C :=
  (.seq (.reg [⟨(some 10), .mv (.const (.slice none 0 0)), none⟩])
  (.seq (.seq (.reg [⟨(some 16), .mv (.tmp 3), none⟩,
      ⟨(some 17), .bin .lss (.tmp 16) (.const (.int .i64 1)), none⟩])
   (.cond (.tmp 17)
    (.seq (.reg [⟨(some 10), .mv (.const (.slice none 0 0)), none⟩])
     .ret)
    .skip))
  (.seq (.reg [⟨(some 18), .mv (.tmp 3), none⟩,
     ⟨(some 19), .mks 1 8 [(.int .u64 0)] (.tmp 18) (.tmp 18), none⟩,
     ⟨(some 11), .mv (.tmp 19), none⟩])
  (.seq (.seq (.reg [⟨(some 20), .mv (.const (.int .i64 0)), none⟩])
   (.block 0 (.loop (.seq (.reg [⟨(some 21), .bin .lss (.tmp 20) (.const (.int .i64 8)), none⟩])
     (.seq (.cond (.tmp 21)
       .skip
       (.exit 0))
     (.seq (.block 1 (.seq (.reg [⟨(some 22), .mv (.tmp 20), none⟩,
          ⟨(some 12), .mv (.tmp 22), none⟩])
       (.seq (.reg [⟨(some 23), .mv (.tmp 0), none⟩,
          ⟨(some 24), .mv (.tmp 1), none⟩,
          ⟨(some 25), .mv (.tmp 2), none⟩,
          ⟨(some 26), .mv (.tmp 12), none⟩,
          ⟨(some 27), .bin .mul (.tmp 26) (.const (.int .i64 8)), none⟩,
          ⟨(some 28), .call 48 [(.const (.int .i64 0)), (.tmp 25), (.tmp 27)], none⟩,
          ⟨(some 29), .fld none 1 (.tmp 28), none⟩,
          ⟨(some 30), .call 110 [(.tmp 23), (.tmp 24), (.tmp 29)], none⟩,
          ⟨(some 13), .mv (.tmp 30), none⟩])
       (.seq (.reg [⟨(some 14), .mv (.const (.int .i64 0)), none⟩])
       (.block 2 (.loop (.seq (.seq (.reg [⟨(some 31), .mv (.tmp 14), none⟩,
             ⟨(some 32), .mv (.tmp 3), none⟩,
             ⟨(some 33), .bin .lss (.tmp 31) (.tmp 32), none⟩,
             ⟨(some 34), .mv (.tmp 33), none⟩,
             ⟨(some 35), .mv (.tmp 13), (some (34, true))⟩,
             ⟨(some 36), .lns (.tmp 35), (some (34, true))⟩,
             ⟨(some 37), .bin .gtr (.tmp 36) (.const (.int .i64 0)), (some (34, true))⟩,
             ⟨(some 38), .pk (.tmp 34) (.tmp 37) (.const (.bool false)), none⟩])
          (.cond (.tmp 38)
           .skip
           (.exit 2)))
         (.seq (.block 3 (.seq (.reg [⟨(some 41), .mv (.tmp 12), none⟩,
              ⟨(some 42), .bin .mul (.tmp 41) (.const (.int .i64 8)), none⟩,
              ⟨(some 15), .mv (.tmp 42), none⟩])
           (.block 4 (.loop (.seq (.seq (.reg [⟨(some 43), .mv (.tmp 15), none⟩,
                 ⟨(some 44), .mv (.tmp 12), none⟩,
                 ⟨(some 45), .bin .add (.tmp 44) (.const (.int .i64 1)), none⟩,
                 ⟨(some 46), .bin .mul (.tmp 45) (.const (.int .i64 8)), none⟩,
                 ⟨(some 47), .bin .lss (.tmp 43) (.tmp 46), none⟩])
              (.cond (.tmp 47)
               .skip
               (.exit 4)))
             (.seq (.block 5 (.seq (.reg [⟨(some 50), .mv (.tmp 4), none⟩,
                  ⟨(some 51), .mv (.tmp 13), none⟩,
                  ⟨(some 52), .mv (.tmp 14), none⟩,
                  ⟨(some 53), .mv (.tmp 2), none⟩,
                  ⟨(some 54), .mv (.tmp 15), none⟩,
                  ⟨(some 55), .call 48 [(.tmp 52), (.tmp 53), (.tmp 54)], none⟩,
                  ⟨(some 56), .clo (.tmp 50) [(.tmp 51), (.tmp 55)], none⟩])
               (.cond (.tmp 56)
                (.drw [⟨(some 57), .mv (.tmp 11), none⟩,
                   ⟨(some 58), .mv (.tmp 14), none⟩,
                   ⟨(some 59), .ixs 1 (.tmp 57) (.tmp 58), none⟩,
                   ⟨(some 60), .ld none (.tmp 59), none⟩,
                   ⟨(some 61), .mv (.tmp 15), none⟩,
                   ⟨(some 62), .bin .shl (.const (.int .u64 1)) (.tmp 61), none⟩,
                   ⟨(some 63), .bin .or (.tmp 60) (.tmp 62), none⟩,
                   ⟨(some 64), .ixs 1 (.tmp 57) (.tmp 58), none⟩,
                   ⟨none, .st 1 (.tmp 64) (.tmp 63), none⟩] [[], [], [0, 1], [2], [], [4], [3, 5], [0, 1, 0, 1, 2, 3, 4, 5, 6], [7, 6, 0, 1, 2, 3, 4, 5, 6]])
                .skip)))
             (.reg [⟨(some 48), .mv (.tmp 15), none⟩,
               ⟨(some 49), .bin .add (.tmp 48) (.const (.int .i64 1)), none⟩,
               ⟨(some 15), .mv (.tmp 49), none⟩])))))))
         (.reg [⟨(some 39), .mv (.tmp 14), none⟩,
           ⟨(some 40), .bin .add (.tmp 39) (.const (.int .i64 1)), none⟩,
           ⟨(some 14), .mv (.tmp 40), none⟩])))))))))
     (.reg [⟨(some 65), .bin .add (.tmp 20) (.const (.int .i64 1)), none⟩,
       ⟨(some 20), .mv (.tmp 65), none⟩])))))))
  (.seq (.reg [⟨(some 66), .mv (.tmp 11), none⟩,
     ⟨(some 10), .mv (.tmp 66), none⟩])
  .ret)))))
def sweep_masks_v1.l2 : Nat → Int → Int → Int → List (Int × Int × Int × Int) → Int → Int → List (Int) → Option (List (Int) × Bool)
  | 0, _, _, _, _, _, _, _ => none
  | k + 1, y2, m0_0, x62, t71, x74, x81, y82 => if x81 < (wr64 ((wr64 (x62 + 1)) * 8)) then ((sweep_Sample.f x74 y2 x81).bind fun (t84, t85) => ((sweep_Fill_1_v1.f k t71 t84 t85 m0_0).bind fun t87 => (if t87 = true then ((lgt y82 x74).bind fun x89 => (if x81 < 0 then none else ((lgt y82 x74).bind fun x92 => ((lput y82 x74 (bits .or .u64 x89 (wru64 (1 * 2 ^ (min (Int.toNat x81) 64))))).bind fun y94 => (sweep_masks_v1.l2 k y2 m0_0 x62 t71 x74 (wr64 (x81 + 1)) y94))))) else (sweep_masks_v1.l2 k y2 m0_0 x62 t71 x74 (wr64 (x81 + 1)) y82)))) else (some (y82, true))
def sweep_masks_v1.l1 : Nat → Int → Int → Int → Int → List (Int × Int × Int × Int) → Int → List (Int) → Option (List (Int))
  | 0, _, _, _, _, _, _, _ => none
  | k + 1, y2, w3, m0_0, x62, t71, x74, y75 => if x74 < w3 then (if (t71.length : Int) > 0 then ((sweep_masks_v1.l2 k y2 m0_0 x62 t71 x74 (wr64 (x62 * 8)) y75 : Option (List (Int) × Bool)).bind fun (y100, x101) => (sweep_masks_v1.l1 k y2 w3 m0_0 x62 t71 (wr64 (x74 + 1)) y100)) else (some y75)) else (some y75)
def sweep_masks_v1.l0 : Nat → List (Int × Int × Int × Int) → Int → Int → Int → Int → Int → List (Int) → Option (List (Int))
  | 0, _, _, _, _, _, _, _ => none
  | k + 1, l0, wide1, y2, w3, m0_0, x62, y63 => if x62 < 8 then (((sweep_Sample.f 0 y2 (wr64 (x62 * 8))).bind fun (t68, t69) => ((sweep_crossing_v1.f k l0 wide1 t69).bind fun t71 => (sweep_masks_v1.l1 k y2 w3 m0_0 x62 t71 0 y63)) : Option (List (Int))).bind fun y104 => (sweep_masks_v1.l0 k l0 wide1 y2 w3 m0_0 (wr64 (x62 + 1)) y104)) else (some y63)
def sweep_masks_v1.f (k : Nat) (l0 : List (Int × Int × Int × Int)) (wide1 : Int) (y2 : Int) (w3 : Int) (m0_0 : Int) : Option (List (Int)) := if w3 < 1 then (some ([] : List (Int))) else ((lmk (0 : Int) w3 w3).bind fun y56 => ((sweep_masks_v1.l0 k l0 wide1 y2 w3 m0_0 0 y56 : Option (List (Int))).bind fun y107 => (some y107)))
theorem sweep_masks_v1.ok {S : Seal} {B0 : Nat} {k : Nat} {l0 : List (Int × Int × Int × Int)} {wide1 : Int} {y2 : Int} {w3 : Int} {m0_0 : Int} {r0_ : List (Int)}{a_l0 : Option Addr} {c_l0 : Nat} (h_l0 : SlE S E_i644 l0 a_l0) (e : sweep_masks_v1.f k l0 wide1 y2 w3 m0_0 = some r0_) :
    Cal Try.prog 82 [.slice a_l0 l0.length c_l0, .int .i64 wide1, .int .i64 y2, .int .i64 w3, .func (.func 83) #[] #[.pointer (some ⟨B0, 0, none⟩)]] ([⟨B0, [.int .i64 m0_0], 1⟩] : List Own) S fun v H' S' => ∃ (N0_ : Option Nat) (nN0_ : Nat) , v = .slice (ad N0_) r0_.length (nN0_ / 1) ∧ H' = ([⟨N0_, encL E_u64 r0_, nN0_⟩, ⟨B0, [.int .i64 m0_0], 1⟩] : List Own) ∧ S' = S := by
  unfold sweep_masks_v1.f at e
  refine cal_of (c := c82) (N := 67) Try.func82 rfl rfl (by kernel_rfl) (rs := [.t 10]) (by kernel_rfl) (Nat.le_of_ble_eq_true rfl) ?_
  unfold c82
  refine w_seq ?_
  refine w_reg fun all => ?_
  refine t_qz 1 [0, 1, 2, 3, 4] (σ' := [(0, .slice a_l0 l0.length c_l0), (1, .int .i64 wide1), (2, .int .i64 y2), (3, .int .i64 w3), (4, .func (.func 83) #[] #[.pointer (some ⟨B0, 0, none⟩)])]) (by kernel_rfl) ?_
  refine t_end ?_
  show W _ _ _ _ _ _ _
  refine w_seq ?_
  refine w_seq ?_
  refine w_reg fun all => ?_
  by_cases c55 : w3 < 1
  · rw [if_pos c55] at e
    have c55b : (decide (w3 < 1)) = true := decide_eq_true c55
    refine t_qz 1 [0, 1, 2, 3, 4, 16] (σ' := [(0, .slice a_l0 l0.length c_l0), (1, .int .i64 wide1), (2, .int .i64 y2), (3, .int .i64 w3), (4, .func (.func 83) #[] #[.pointer (some ⟨B0, 0, none⟩)]), (16, .int .i64 w3)]) (by kernel_rfl) ?_
    refine t_v (dv_quiet rfl (congrArg (fun t => some (Value.bool t)) c55b)) ?_
    refine t_keep [0, 1, 2, 3, 4, 17] (σ' := [(0, .slice a_l0 l0.length c_l0), (1, .int .i64 wide1), (2, .int .i64 y2), (3, .int .i64 w3), (4, .func (.func 83) #[] #[.pointer (some ⟨B0, 0, none⟩)]), (17, .bool true)]) (by kernel_rfl) ?_
    refine t_end ?_
    show W _ _ _ _ _ _ _
    refine w_cond rfl (fun _ => ?_) (fun c_ => by cases c_)
    show W _ _ _ _ _ _ _
    refine w_seq ?_
    refine w_reg fun all => ?_
    refine t_qz 1 [10] (σ' := [(10, .slice none 0 0)]) (by kernel_rfl) ?_
    refine t_end ?_
    show W _ _ _ _ _ _ _
    refine w_ret ?_
    obtain rfl := Option.some.inj e
    exact ⟨[.slice (ad none) ([] : List (Int)).length (0 / 1)], ([⟨none, encL E_u64 ([] : List (Int)), 0⟩, ⟨B0, [.int .i64 m0_0], 1⟩] : List Own), S, ⟨(show gt _ _ = some _ from (by kernel_rfl)), trivial⟩, VS.trans VS.vac (VS.sel [0, 0] (by kernel_rfl)), none, 0, rfl, rfl, rfl⟩
  · rw [if_neg c55] at e
    have c55b : (decide (w3 < 1)) = false := decide_eq_false c55
    refine t_qz 1 [0, 1, 2, 3, 4, 16] (σ' := [(0, .slice a_l0 l0.length c_l0), (1, .int .i64 wide1), (2, .int .i64 y2), (3, .int .i64 w3), (4, .func (.func 83) #[] #[.pointer (some ⟨B0, 0, none⟩)]), (16, .int .i64 w3)]) (by kernel_rfl) ?_
    refine t_v (dv_quiet rfl (congrArg (fun t => some (Value.bool t)) c55b)) ?_
    refine t_keep [0, 1, 2, 3, 4, 17] (σ' := [(0, .slice a_l0 l0.length c_l0), (1, .int .i64 wide1), (2, .int .i64 y2), (3, .int .i64 w3), (4, .func (.func 83) #[] #[.pointer (some ⟨B0, 0, none⟩)]), (17, .bool false)]) (by kernel_rfl) ?_
    refine t_end ?_
    show W _ _ _ _ _ _ _
    refine w_cond rfl (fun c_ => by cases c_) (fun _ => ?_)
    show W _ _ _ _ _ _ _
    refine w_skip ?_
    show W _ _ _ _ _ _ _
    refine w_seq ?_
    refine w_reg fun all => ?_
    obtain ⟨y56, hl57, e⟩ := bind_of e
    refine t_qz 1 [0, 1, 2, 3, 4, 18] (σ' := [(0, .slice a_l0 l0.length c_l0), (1, .int .i64 wide1), (2, .int .i64 y2), (3, .int .i64 w3), (4, .func (.func 83) #[] #[.pointer (some ⟨B0, 0, none⟩)]), (18, .int .i64 w3)]) (by kernel_rfl) ?_
    refine t_mkl (E := E_u64) (x0 := 0) rfl rfl rfl rfl rfl (by decide) (by decide) rfl hl57 fun a58 na58 => ?_
    refine t_qz 1 [0, 1, 2, 3, 4, 11] (σ' := [(0, .slice a_l0 l0.length c_l0), (1, .int .i64 wide1), (2, .int .i64 y2), (3, .int .i64 w3), (4, .func (.func 83) #[] #[.pointer (some ⟨B0, 0, none⟩)]), (11, .slice (ad (some a58)) y56.length (na58 / 1))]) (by kernel_rfl) ?_
    refine t_end ?_
    show W _ _ _ _ _ _ _
    obtain ⟨y107, e60, e⟩ := bind_of e
    refine w_cut [11] (fun σ_ H_ S_ => [(11, .slice (ad (some a58)) y107.length (na58 / 1))] = σ_ ∧ ([⟨B0, [.int .i64 m0_0], 1⟩, ⟨some a58, encL E_u64 y107, na58⟩] : List Own) = H_ ∧ S = S_) ?_ ?_
    · show W _ _ _ _ _ _ _
      refine w_seq ?_
      refine w_reg fun all => ?_
      refine t_qz 1 [0, 1, 2, 3, 4, 11, 20] (σ' := [(0, .slice a_l0 l0.length c_l0), (1, .int .i64 wide1), (2, .int .i64 y2), (3, .int .i64 w3), (4, .func (.func 83) #[] #[.pointer (some ⟨B0, 0, none⟩)]), (11, .slice (ad (some a58)) y56.length (na58 / 1)), (20, .int .i64 0)]) (by kernel_rfl) ?_
      refine t_end ?_
      show W _ _ _ _ _ _ _
      refine w_block ?_
      refine w_kp [0, 1, 2, 3, 4, 11, 20] (σ' := [(0, .slice a_l0 l0.length c_l0), (1, .int .i64 wide1), (2, .int .i64 y2), (3, .int .i64 w3), (4, .func (.func 83) #[] #[.pointer (some ⟨B0, 0, none⟩)]), (11, .slice (ad (some a58)) y56.length (na58 / 1)), (20, .int .i64 0)]) (by kernel_rfl) ?_
      refine w_loop (fun n_ σ_ H_ S_ => ∃ (x62 : Int) (y63 : List (Int)), [(0, .slice a_l0 l0.length c_l0), (1, .int .i64 wide1), (2, .int .i64 y2), (3, .int .i64 w3), (4, .func (.func 83) #[] #[.pointer (some ⟨B0, 0, none⟩)]), (11, .slice (ad (some a58)) y63.length (na58 / 1)), (20, .int .i64 x62)] = σ_ ∧ ([⟨some a58, encL E_u64 y63, na58⟩, ⟨B0, [.int .i64 m0_0], 1⟩] : List Own) = H_ ∧ S = S_ ∧ sweep_masks_v1.l0 n_ l0 wide1 y2 w3 m0_0 x62 y63 = some y107) _ ⟨0, y56, rfl, rfl, rfl, e60⟩ ?_
      rintro n106 σ_ H_ S_ ⟨x62, y63, rfl, rfl, rfl, e60⟩
      cases n106 with
      | zero => rw [sweep_masks_v1.l0.eq_1] at e60; cases e60
      | succ k_ =>
        rw [sweep_masks_v1.l0.eq_2] at e60
        refine w_seq ?_
        refine w_reg fun all => ?_
        by_cases c64 : x62 < 8
        · rw [if_pos c64] at e60
          have c64b : (decide (x62 < 8)) = true := decide_eq_true c64
          refine t_v (dv_quiet rfl (congrArg (fun t => some (Value.bool t)) c64b)) ?_
          refine t_keep [0, 1, 2, 3, 4, 11, 20, 21] (σ' := [(0, .slice a_l0 l0.length c_l0), (1, .int .i64 wide1), (2, .int .i64 y2), (3, .int .i64 w3), (4, .func (.func 83) #[] #[.pointer (some ⟨B0, 0, none⟩)]), (11, .slice (ad (some a58)) y63.length (na58 / 1)), (20, .int .i64 x62), (21, .bool true)]) (by kernel_rfl) ?_
          refine t_end ?_
          show W _ _ _ _ _ _ _
          refine w_seq ?_
          refine w_cond rfl (fun _ => ?_) (fun c_ => by cases c_)
          show W _ _ _ _ _ _ _
          refine w_skip ?_
          show W _ _ _ _ _ _ _
          obtain ⟨y104, e66, e60⟩ := bind_of e60
          refine w_cut [0, 1, 2, 3, 4, 11, 20] (fun σ_ H_ S_ => [(0, .slice a_l0 l0.length c_l0), (1, .int .i64 wide1), (2, .int .i64 y2), (3, .int .i64 w3), (4, .func (.func 83) #[] #[.pointer (some ⟨B0, 0, none⟩)]), (11, .slice (ad (some a58)) y104.length (na58 / 1)), (20, .int .i64 x62)] = σ_ ∧ ([⟨B0, [.int .i64 m0_0], 1⟩, ⟨some a58, encL E_u64 y104, na58⟩] : List Own) = H_ ∧ S = S_) ?_ ?_
          · show W _ _ _ _ _ _ _
            refine w_block ?_
            refine w_seq ?_
            refine w_reg fun all => ?_
            refine t_qz 2 [0, 1, 2, 3, 4, 11, 12, 20] (σ' := [(0, .slice a_l0 l0.length c_l0), (1, .int .i64 wide1), (2, .int .i64 y2), (3, .int .i64 w3), (4, .func (.func 83) #[] #[.pointer (some ⟨B0, 0, none⟩)]), (11, .slice (ad (some a58)) y63.length (na58 / 1)), (12, .int .i64 x62), (20, .int .i64 x62)]) (by kernel_rfl) ?_
            refine t_end ?_
            show W _ _ _ _ _ _ _
            refine w_seq ?_
            refine w_reg fun all => ?_
            obtain ⟨⟨t68, t69⟩, h70, e66⟩ := bind_of e66
            try dsimp only at e66
            refine t_qz 5 [0, 1, 2, 3, 4, 11, 12, 20, 23, 24, 25, 27] (σ' := [(0, .slice a_l0 l0.length c_l0), (1, .int .i64 wide1), (2, .int .i64 y2), (3, .int .i64 w3), (4, .func (.func 83) #[] #[.pointer (some ⟨B0, 0, none⟩)]), (11, .slice (ad (some a58)) y63.length (na58 / 1)), (12, .int .i64 x62), (20, .int .i64 x62), (23, .slice a_l0 l0.length c_l0), (24, .int .i64 wide1), (25, .int .i64 y2), (27, .int .i64 (wr64 (x62 * 8)))]) (by kernel_rfl) ?_
            refine t_v (.call (vs := [.int .i64 0, .int .i64 y2, .int .i64 (wr64 (x62 * 8))]) rfl rfl (by kernel_rfl) (sweep_Sample.ok h70)) ?_
            obtain ⟨t71, h72, e66⟩ := bind_of e66
            refine t_qz 1 [0, 1, 2, 3, 4, 11, 12, 20, 23, 24, 29] (σ' := [(0, .slice a_l0 l0.length c_l0), (1, .int .i64 wide1), (2, .int .i64 y2), (3, .int .i64 w3), (4, .func (.func 83) #[] #[.pointer (some ⟨B0, 0, none⟩)]), (11, .slice (ad (some a58)) y63.length (na58 / 1)), (12, .int .i64 x62), (20, .int .i64 x62), (23, .slice a_l0 l0.length c_l0), (24, .int .i64 wide1), (29, .int .i64 t69)]) (by kernel_rfl) ?_
            refine t_call (vs := [.slice a_l0 l0.length c_l0, .int .i64 wide1, .int .i64 t69]) (H1 := ([] : List Own)) (F := ([⟨some a58, encL E_u64 y63, na58⟩, ⟨B0, [.int .i64 m0_0], 1⟩] : List Own)) rfl rfl (by kernel_rfl) (sel_perm (is := []) (by kernel_rfl)) (sweep_crossing_v1.ok h_l0 h72) ?_
            rintro _ _ S_ ⟨N73, nN73, rfl, rfl, hS_⟩
            obtain rfl := hS_.symm
            refine t_qz 1 [0, 1, 2, 3, 4, 11, 12, 13, 20] (σ' := [(0, .slice a_l0 l0.length c_l0), (1, .int .i64 wide1), (2, .int .i64 y2), (3, .int .i64 w3), (4, .func (.func 83) #[] #[.pointer (some ⟨B0, 0, none⟩)]), (11, .slice (ad (some a58)) y63.length (na58 / 1)), (12, .int .i64 x62), (13, .slice (ad N73) t71.length (nN73 / 4)), (20, .int .i64 x62)]) (by kernel_rfl) ?_
            refine t_end ?_
            show W _ _ _ _ _ _ _
            refine w_seq ?_
            refine w_reg fun all => ?_
            refine t_qz 1 [0, 1, 2, 3, 4, 11, 12, 13, 14, 20] (σ' := [(0, .slice a_l0 l0.length c_l0), (1, .int .i64 wide1), (2, .int .i64 y2), (3, .int .i64 w3), (4, .func (.func 83) #[] #[.pointer (some ⟨B0, 0, none⟩)]), (11, .slice (ad (some a58)) y63.length (na58 / 1)), (12, .int .i64 x62), (13, .slice (ad N73) t71.length (nN73 / 4)), (14, .int .i64 0), (20, .int .i64 x62)]) (by kernel_rfl) ?_
            refine t_end ?_
            show W _ _ _ _ _ _ _
            refine w_block ?_
            refine w_kp [0, 1, 2, 3, 4, 11, 12, 13, 14, 20] (σ' := [(0, .slice a_l0 l0.length c_l0), (1, .int .i64 wide1), (2, .int .i64 y2), (3, .int .i64 w3), (4, .func (.func 83) #[] #[.pointer (some ⟨B0, 0, none⟩)]), (11, .slice (ad (some a58)) y63.length (na58 / 1)), (12, .int .i64 x62), (13, .slice (ad N73) t71.length (nN73 / 4)), (14, .int .i64 0), (20, .int .i64 x62)]) (by kernel_rfl) ?_
            refine w_loop (fun n_ σ_ H_ S_ => ∃ (x74 : Int) (y75 : List (Int)), [(0, .slice a_l0 l0.length c_l0), (1, .int .i64 wide1), (2, .int .i64 y2), (3, .int .i64 w3), (4, .func (.func 83) #[] #[.pointer (some ⟨B0, 0, none⟩)]), (11, .slice (ad (some a58)) y75.length (na58 / 1)), (12, .int .i64 x62), (13, .slice (ad N73) t71.length (nN73 / 4)), (14, .int .i64 x74), (20, .int .i64 x62)] = σ_ ∧ ([⟨N73, encL E_i644 t71, nN73⟩, ⟨some a58, encL E_u64 y75, na58⟩, ⟨B0, [.int .i64 m0_0], 1⟩] : List Own) = H_ ∧ S = S_ ∧ sweep_masks_v1.l1 n_ y2 w3 m0_0 x62 t71 x74 y75 = some y104) _ ⟨0, y63, rfl, rfl, rfl, e66⟩ ?_
            rintro n103 σ_ H_ S_ ⟨x74, y75, rfl, rfl, rfl, e66⟩
            cases n103 with
            | zero => rw [sweep_masks_v1.l1.eq_1] at e66; cases e66
            | succ k_ =>
              rw [sweep_masks_v1.l1.eq_2] at e66
              refine w_seq ?_
              refine w_seq ?_
              refine w_reg fun all => ?_
              by_cases c76 : x74 < w3
              · rw [if_pos c76] at e66
                have c76b : (decide (x74 < w3)) = true := decide_eq_true c76
                refine t_qz 2 [0, 1, 2, 3, 4, 11, 12, 13, 14, 20, 31, 32] (σ' := [(0, .slice a_l0 l0.length c_l0), (1, .int .i64 wide1), (2, .int .i64 y2), (3, .int .i64 w3), (4, .func (.func 83) #[] #[.pointer (some ⟨B0, 0, none⟩)]), (11, .slice (ad (some a58)) y75.length (na58 / 1)), (12, .int .i64 x62), (13, .slice (ad N73) t71.length (nN73 / 4)), (14, .int .i64 x74), (20, .int .i64 x62), (31, .int .i64 x74), (32, .int .i64 w3)]) (by kernel_rfl) ?_
                refine t_v (dv_quiet rfl (congrArg (fun t => some (Value.bool t)) c76b)) ?_
                by_cases c77 : (t71.length : Int) > 0
                · rw [if_pos c77] at e66
                  have c77b : (decide ((t71.length : Int) > 0)) = true := decide_eq_true c77
                  refine t_qz 3 [0, 1, 2, 3, 4, 11, 12, 13, 14, 20, 34, 35, 36] (σ' := [(0, .slice a_l0 l0.length c_l0), (1, .int .i64 wide1), (2, .int .i64 y2), (3, .int .i64 w3), (4, .func (.func 83) #[] #[.pointer (some ⟨B0, 0, none⟩)]), (11, .slice (ad (some a58)) y75.length (na58 / 1)), (12, .int .i64 x62), (13, .slice (ad N73) t71.length (nN73 / 4)), (14, .int .i64 x74), (20, .int .i64 x62), (34, .bool true), (35, .slice (ad N73) t71.length (nN73 / 4)), (36, .int .i64 (t71.length : Int))]) (by kernel_rfl) ?_
                  refine t_v (dv_quiet rfl (congrArg (fun t => some (Value.bool t)) c77b)) ?_
                  refine t_qz 1 [0, 1, 2, 3, 4, 11, 12, 13, 14, 20, 35, 36, 37, 38] (σ' := [(0, .slice a_l0 l0.length c_l0), (1, .int .i64 wide1), (2, .int .i64 y2), (3, .int .i64 w3), (4, .func (.func 83) #[] #[.pointer (some ⟨B0, 0, none⟩)]), (11, .slice (ad (some a58)) y75.length (na58 / 1)), (12, .int .i64 x62), (13, .slice (ad N73) t71.length (nN73 / 4)), (14, .int .i64 x74), (20, .int .i64 x62), (35, .slice (ad N73) t71.length (nN73 / 4)), (36, .int .i64 (t71.length : Int)), (37, .bool true), (38, .bool true)]) (by kernel_rfl) ?_
                  refine t_end ?_
                  show W _ _ _ _ _ _ _
                  refine w_cond rfl (fun _ => ?_) (fun c_ => by cases c_)
                  show W _ _ _ _ _ _ _
                  refine w_skip ?_
                  show W _ _ _ _ _ _ _
                  obtain ⟨⟨y100, x101⟩, e79, e66⟩ := bind_of e66
                  try dsimp only at e66
                  refine w_cut [0, 1, 2, 3, 4, 11, 12, 13, 14, 20, 35, 36, 37] (fun σ_ H_ S_ => [(0, .slice a_l0 l0.length c_l0), (1, .int .i64 wide1), (2, .int .i64 y2), (3, .int .i64 w3), (4, .func (.func 83) #[] #[.pointer (some ⟨B0, 0, none⟩)]), (11, .slice (ad (some a58)) y100.length (na58 / 1)), (12, .int .i64 x62), (13, .slice (ad N73) t71.length (nN73 / 4)), (14, .int .i64 x74), (20, .int .i64 x62), (35, .slice (ad N73) t71.length (nN73 / 4)), (36, .int .i64 (t71.length : Int)), (37, .bool x101)] = σ_ ∧ ([⟨B0, [.int .i64 m0_0], 1⟩, ⟨some a58, encL E_u64 y100, na58⟩, ⟨N73, encL E_i644 t71, nN73⟩] : List Own) = H_ ∧ S = S_) ?_ ?_
                  · show W _ _ _ _ _ _ _
                    refine w_block ?_
                    refine w_seq ?_
                    refine w_reg fun all => ?_
                    refine t_qz 3 [0, 1, 2, 3, 4, 11, 12, 13, 14, 15, 20, 35, 36, 37] (σ' := [(0, .slice a_l0 l0.length c_l0), (1, .int .i64 wide1), (2, .int .i64 y2), (3, .int .i64 w3), (4, .func (.func 83) #[] #[.pointer (some ⟨B0, 0, none⟩)]), (11, .slice (ad (some a58)) y75.length (na58 / 1)), (12, .int .i64 x62), (13, .slice (ad N73) t71.length (nN73 / 4)), (14, .int .i64 x74), (15, .int .i64 (wr64 (x62 * 8))), (20, .int .i64 x62), (35, .slice (ad N73) t71.length (nN73 / 4)), (36, .int .i64 (t71.length : Int)), (37, .bool true)]) (by kernel_rfl) ?_
                    refine t_end ?_
                    show W _ _ _ _ _ _ _
                    refine w_block ?_
                    refine w_kp [0, 1, 2, 3, 4, 11, 12, 13, 14, 15, 20, 35, 36, 37] (σ' := [(0, .slice a_l0 l0.length c_l0), (1, .int .i64 wide1), (2, .int .i64 y2), (3, .int .i64 w3), (4, .func (.func 83) #[] #[.pointer (some ⟨B0, 0, none⟩)]), (11, .slice (ad (some a58)) y75.length (na58 / 1)), (12, .int .i64 x62), (13, .slice (ad N73) t71.length (nN73 / 4)), (14, .int .i64 x74), (15, .int .i64 (wr64 (x62 * 8))), (20, .int .i64 x62), (35, .slice (ad N73) t71.length (nN73 / 4)), (36, .int .i64 (t71.length : Int)), (37, .bool true)]) (by kernel_rfl) ?_
                    refine w_loop (fun n_ σ_ H_ S_ => ∃ (x81 : Int) (y82 : List (Int)), [(0, .slice a_l0 l0.length c_l0), (1, .int .i64 wide1), (2, .int .i64 y2), (3, .int .i64 w3), (4, .func (.func 83) #[] #[.pointer (some ⟨B0, 0, none⟩)]), (11, .slice (ad (some a58)) y82.length (na58 / 1)), (12, .int .i64 x62), (13, .slice (ad N73) t71.length (nN73 / 4)), (14, .int .i64 x74), (15, .int .i64 x81), (20, .int .i64 x62), (35, .slice (ad N73) t71.length (nN73 / 4)), (36, .int .i64 (t71.length : Int)), (37, .bool true)] = σ_ ∧ ([⟨N73, encL E_i644 t71, nN73⟩, ⟨some a58, encL E_u64 y82, na58⟩, ⟨B0, [.int .i64 m0_0], 1⟩] : List Own) = H_ ∧ S = S_ ∧ sweep_masks_v1.l2 n_ y2 m0_0 x62 t71 x74 x81 y82 = some (y100, x101)) _ ⟨wr64 (x62 * 8), y75, rfl, rfl, rfl, e79⟩ ?_
                    rintro n99 σ_ H_ S_ ⟨x81, y82, rfl, rfl, rfl, e79⟩
                    cases n99 with
                    | zero => rw [sweep_masks_v1.l2.eq_1] at e79; cases e79
                    | succ k_ =>
                      rw [sweep_masks_v1.l2.eq_2] at e79
                      refine w_seq ?_
                      refine w_seq ?_
                      refine w_reg fun all => ?_
                      by_cases c83 : x81 < (wr64 ((wr64 (x62 + 1)) * 8))
                      · rw [if_pos c83] at e79
                        have c83b : (decide (x81 < (wr64 ((wr64 (x62 + 1)) * 8)))) = true := decide_eq_true c83
                        refine t_qz 4 [0, 1, 2, 3, 4, 11, 12, 13, 14, 15, 20, 35, 36, 37, 43, 46] (σ' := [(0, .slice a_l0 l0.length c_l0), (1, .int .i64 wide1), (2, .int .i64 y2), (3, .int .i64 w3), (4, .func (.func 83) #[] #[.pointer (some ⟨B0, 0, none⟩)]), (11, .slice (ad (some a58)) y82.length (na58 / 1)), (12, .int .i64 x62), (13, .slice (ad N73) t71.length (nN73 / 4)), (14, .int .i64 x74), (15, .int .i64 x81), (20, .int .i64 x62), (35, .slice (ad N73) t71.length (nN73 / 4)), (36, .int .i64 (t71.length : Int)), (37, .bool true), (43, .int .i64 x81), (46, .int .i64 (wr64 ((wr64 (x62 + 1)) * 8)))]) (by kernel_rfl) ?_
                        refine t_v (dv_quiet rfl (congrArg (fun t => some (Value.bool t)) c83b)) ?_
                        refine t_keep [0, 1, 2, 3, 4, 11, 12, 13, 14, 15, 20, 35, 36, 37, 47] (σ' := [(0, .slice a_l0 l0.length c_l0), (1, .int .i64 wide1), (2, .int .i64 y2), (3, .int .i64 w3), (4, .func (.func 83) #[] #[.pointer (some ⟨B0, 0, none⟩)]), (11, .slice (ad (some a58)) y82.length (na58 / 1)), (12, .int .i64 x62), (13, .slice (ad N73) t71.length (nN73 / 4)), (14, .int .i64 x74), (15, .int .i64 x81), (20, .int .i64 x62), (35, .slice (ad N73) t71.length (nN73 / 4)), (36, .int .i64 (t71.length : Int)), (37, .bool true), (47, .bool true)]) (by kernel_rfl) ?_
                        refine t_end ?_
                        show W _ _ _ _ _ _ _
                        refine w_cond rfl (fun _ => ?_) (fun c_ => by cases c_)
                        show W _ _ _ _ _ _ _
                        refine w_skip ?_
                        show W _ _ _ _ _ _ _
                        refine w_seq ?_
                        refine w_block ?_
                        refine w_seq ?_
                        refine w_reg fun all => ?_
                        obtain ⟨⟨t84, t85⟩, h86, e79⟩ := bind_of e79
                        try dsimp only at e79
                        refine t_qz 5 [0, 1, 2, 3, 4, 11, 12, 13, 14, 15, 20, 35, 36, 37, 50, 51, 52, 53, 54] (σ' := [(0, .slice a_l0 l0.length c_l0), (1, .int .i64 wide1), (2, .int .i64 y2), (3, .int .i64 w3), (4, .func (.func 83) #[] #[.pointer (some ⟨B0, 0, none⟩)]), (11, .slice (ad (some a58)) y82.length (na58 / 1)), (12, .int .i64 x62), (13, .slice (ad N73) t71.length (nN73 / 4)), (14, .int .i64 x74), (15, .int .i64 x81), (20, .int .i64 x62), (35, .slice (ad N73) t71.length (nN73 / 4)), (36, .int .i64 (t71.length : Int)), (37, .bool true), (50, .func (.func 83) #[] #[.pointer (some ⟨B0, 0, none⟩)]), (51, .slice (ad N73) t71.length (nN73 / 4)), (52, .int .i64 x74), (53, .int .i64 y2), (54, .int .i64 x81)]) (by kernel_rfl) ?_
                        refine t_v (.call (vs := [.int .i64 x74, .int .i64 y2, .int .i64 x81]) rfl rfl (by kernel_rfl) (sweep_Sample.ok h86)) ?_
                        obtain ⟨t87, h88, e79⟩ := bind_of e79
                        cases t87 with
                        | true =>
                          rw [if_pos rfl] at e79
                          refine t_v (.clor (vs := [.slice (ad N73) t71.length (nN73 / 4), .agg #[.int .i64 t84, .int .i64 t85]]) (caps := #[.pointer (some ⟨B0, 0, none⟩)]) (A := ([⟨N73, encL E_i644 t71, nN73⟩, ⟨B0, [.int .i64 m0_0], 1⟩] : List Own)) (F0 := ([⟨some a58, encL E_u64 y82, na58⟩] : List Own)) rfl rfl rfl (by kernel_rfl) (by kernel_rfl) (sel_perm (is := [0, 1]) (by kernel_rfl)) (cal_lendr fun S1_ le1_ hS1_ => (sweep_Fill_1_v1.ok (SlE.ofAd (E := E_i644) (L := t71) hS1_ (by decide)) h88))) ?_
                          refine t_keep [0, 1, 2, 3, 4, 11, 12, 13, 14, 15, 20, 35, 36, 37, 56] (σ' := [(0, .slice a_l0 l0.length c_l0), (1, .int .i64 wide1), (2, .int .i64 y2), (3, .int .i64 w3), (4, .func (.func 83) #[] #[.pointer (some ⟨B0, 0, none⟩)]), (11, .slice (ad (some a58)) y82.length (na58 / 1)), (12, .int .i64 x62), (13, .slice (ad N73) t71.length (nN73 / 4)), (14, .int .i64 x74), (15, .int .i64 x81), (20, .int .i64 x62), (35, .slice (ad N73) t71.length (nN73 / 4)), (36, .int .i64 (t71.length : Int)), (37, .bool true), (56, .bool true)]) (by kernel_rfl) ?_
                          refine t_end ?_
                          show W _ _ _ _ _ _ _
                          refine w_cond rfl (fun _ => ?_) (fun c_ => by cases c_)
                          show W _ _ _ _ _ _ _
                          obtain ⟨x89, hx90, e79⟩ := bind_of e79
                          have c91 : ¬ x81 < 0 := by
                            intro h_; rw [if_pos h_] at e79; cases e79
                          rw [if_neg c91] at e79
                          obtain ⟨x92, hx93, e79⟩ := bind_of e79
                          refine w_drwE mixed 8 [.v (.slice (ad (some a58)) y82.length (na58 / 1)), .v (.int .i64 x74), .v (.pointer (some ⟨bk (some a58), (x74).toNat * 1 + 0, none⟩)), .v (.int .u64 x89), .v (.int .i64 x81), .v (.int .u64 (wru64 (1 * 2 ^ (min (Int.toNat x81) 64)))), .v (.int .u64 (bits .or .u64 x89 (wru64 (1 * 2 ^ (min (Int.toNat x81) 64))))), .v (.pointer (some ⟨bk (some a58), (x74).toNat * 1 + 0, none⟩))] (by kernel_rfl) ?_ ?_
                          · refine DI.sq 2 (by kernel_rfl) rfl ?_
                            refine .cons (.quietH rfl (by intro h_; cases h_) (ixl (E := E_u64) (j := 1) rfl rfl rfl (by decide) rfl hx90)) ?_
                            refine .cons (.ld1 rfl rfl rfl (.lst 1 rfl (encL_at (lgt_in hx90).1 rfl))) ?_
                            refine DI.sq 1 (by kernel_rfl) rfl ?_
                            refine .cons (.quiet rfl (qv_shl rfl rfl c91)) ?_
                            refine DI.sq 1 (by kernel_rfl) rfl ?_
                            refine .cons (.quietH rfl (by intro h_; cases h_) (ixl (E := E_u64) (j := 1) rfl rfl rfl (by decide) rfl hx93)) ?_
                            exact .nil
                          refine fk_q 8 [0, 1, 2, 3, 4, 11, 12, 13, 14, 15, 20, 35, 36, 37, 63, 64] (σ' := [(0, .slice a_l0 l0.length c_l0), (1, .int .i64 wide1), (2, .int .i64 y2), (3, .int .i64 w3), (4, .func (.func 83) #[] #[.pointer (some ⟨B0, 0, none⟩)]), (11, .slice (ad (some a58)) y82.length (na58 / 1)), (12, .int .i64 x62), (13, .slice (ad N73) t71.length (nN73 / 4)), (14, .int .i64 x74), (15, .int .i64 x81), (20, .int .i64 x62), (35, .slice (ad N73) t71.length (nN73 / 4)), (36, .int .i64 (t71.length : Int)), (37, .bool true), (63, .int .u64 (bits .or .u64 x89 (wru64 (1 * 2 ^ (min (Int.toNat x81) 64))))), (64, .pointer (some ⟨bk (some a58), (x74).toNat * 1 + 0, none⟩))]) t_more (by kernel_rfl) ?_
                          refine fk_nil fun all => ?_
                          obtain ⟨y94, hl95, e79⟩ := bind_of e79
                          refine t_stl 1 (E := E_u64) (L := y82) (L' := y94) (i := x74) (off := 0) (y0 := x92) (y1 := (bits .or .u64 x89 (wru64 (1 * 2 ^ (min (Int.toNat x81) 64))))) (H' := ([⟨N73, encL E_i644 t71, nN73⟩, ⟨some a58, encL E_u64 y94, na58⟩, ⟨B0, [.int .i64 m0_0], 1⟩] : List Own)) rfl rfl rfl rfl rfl rfl rfl (by decide) rfl hx93 (by kernel_rfl) hl95 rfl ?_
                          refine t_keep [0, 1, 2, 3, 4, 11, 12, 13, 14, 15, 20, 35, 36, 37, 63, 64] (σ' := [(0, .slice a_l0 l0.length c_l0), (1, .int .i64 wide1), (2, .int .i64 y2), (3, .int .i64 w3), (4, .func (.func 83) #[] #[.pointer (some ⟨B0, 0, none⟩)]), (11, .slice (ad (some a58)) y82.length (na58 / 1)), (12, .int .i64 x62), (13, .slice (ad N73) t71.length (nN73 / 4)), (14, .int .i64 x74), (15, .int .i64 x81), (20, .int .i64 x62), (35, .slice (ad N73) t71.length (nN73 / 4)), (36, .int .i64 (t71.length : Int)), (37, .bool true), (63, .int .u64 (bits .or .u64 x89 (wru64 (1 * 2 ^ (min (Int.toNat x81) 64))))), (64, .pointer (some ⟨bk (some a58), (x74).toNat * 1 + 0, none⟩))]) (by kernel_rfl) ?_
                          refine t_eq (σ' := [(0, .slice a_l0 l0.length c_l0), (1, .int .i64 wide1), (2, .int .i64 y2), (3, .int .i64 w3), (4, .func (.func 83) #[] #[.pointer (some ⟨B0, 0, none⟩)]), (11, .slice (ad (some a58)) y94.length (na58 / 1)), (12, .int .i64 x62), (13, .slice (ad N73) t71.length (nN73 / 4)), (14, .int .i64 x74), (15, .int .i64 x81), (20, .int .i64 x62), (35, .slice (ad N73) t71.length (nN73 / 4)), (36, .int .i64 (t71.length : Int)), (37, .bool true), (63, .int .u64 (bits .or .u64 x89 (wru64 (1 * 2 ^ (min (Int.toNat x81) 64))))), (64, .pointer (some ⟨bk (some a58), (x74).toNat * 1 + 0, none⟩))]) (H' := ([⟨N73, encL E_i644 t71, nN73⟩, ⟨some a58, encL E_u64 y94, na58⟩, ⟨B0, [.int .i64 m0_0], 1⟩] : List Own)) (by first | rfl | rw [(lput_is hl95).2]) (by first | rfl | rw [(lput_is hl95).2]) ?_
                          refine t_keep [0, 1, 2, 3, 4, 11, 12, 13, 14, 15, 20, 35, 36, 37] (σ' := [(0, .slice a_l0 l0.length c_l0), (1, .int .i64 wide1), (2, .int .i64 y2), (3, .int .i64 w3), (4, .func (.func 83) #[] #[.pointer (some ⟨B0, 0, none⟩)]), (11, .slice (ad (some a58)) y94.length (na58 / 1)), (12, .int .i64 x62), (13, .slice (ad N73) t71.length (nN73 / 4)), (14, .int .i64 x74), (15, .int .i64 x81), (20, .int .i64 x62), (35, .slice (ad N73) t71.length (nN73 / 4)), (36, .int .i64 (t71.length : Int)), (37, .bool true)]) (by kernel_rfl) ?_
                          refine t_end ?_
                          show W _ _ _ _ _ _ _
                          refine w_reg fun all => ?_
                          refine t_qz 3 [0, 1, 2, 3, 4, 11, 12, 13, 14, 15, 20, 35, 36, 37] (σ' := [(0, .slice a_l0 l0.length c_l0), (1, .int .i64 wide1), (2, .int .i64 y2), (3, .int .i64 w3), (4, .func (.func 83) #[] #[.pointer (some ⟨B0, 0, none⟩)]), (11, .slice (ad (some a58)) y94.length (na58 / 1)), (12, .int .i64 x62), (13, .slice (ad N73) t71.length (nN73 / 4)), (14, .int .i64 x74), (15, .int .i64 (wr64 (x81 + 1))), (20, .int .i64 x62), (35, .slice (ad N73) t71.length (nN73 / 4)), (36, .int .i64 (t71.length : Int)), (37, .bool true)]) (by kernel_rfl) ?_
                          refine t_end ?_
                          exact ⟨k_, Nat.lt_succ_self _, [(0, .slice a_l0 l0.length c_l0), (1, .int .i64 wide1), (2, .int .i64 y2), (3, .int .i64 w3), (4, .func (.func 83) #[] #[.pointer (some ⟨B0, 0, none⟩)]), (11, .slice (ad (some a58)) y94.length (na58 / 1)), (12, .int .i64 x62), (13, .slice (ad N73) t71.length (nN73 / 4)), (14, .int .i64 x74), (15, .int .i64 (wr64 (x81 + 1))), (20, .int .i64 x62), (35, .slice (ad N73) t71.length (nN73 / 4)), (36, .int .i64 (t71.length : Int)), (37, .bool true)], ([⟨N73, encL E_i644 t71, nN73⟩, ⟨some a58, encL E_u64 y94, na58⟩, ⟨B0, [.int .i64 m0_0], 1⟩] : List Own), S, keep_sub [0, 1, 2, 3, 4, 11, 12, 13, 14, 15, 20, 35, 36, 37] (by kernel_rfl), VS.sel [0, 0, 0] (by kernel_rfl), wr64 (x81 + 1), y94, rfl, rfl, rfl, e79⟩
                        | false =>
                          rw [if_neg (by decide)] at e79
                          refine t_v (.clor (vs := [.slice (ad N73) t71.length (nN73 / 4), .agg #[.int .i64 t84, .int .i64 t85]]) (caps := #[.pointer (some ⟨B0, 0, none⟩)]) (A := ([⟨N73, encL E_i644 t71, nN73⟩, ⟨B0, [.int .i64 m0_0], 1⟩] : List Own)) (F0 := ([⟨some a58, encL E_u64 y82, na58⟩] : List Own)) rfl rfl rfl (by kernel_rfl) (by kernel_rfl) (sel_perm (is := [0, 1]) (by kernel_rfl)) (cal_lendr fun S1_ le1_ hS1_ => (sweep_Fill_1_v1.ok (SlE.ofAd (E := E_i644) (L := t71) hS1_ (by decide)) h88))) ?_
                          refine t_keep [0, 1, 2, 3, 4, 11, 12, 13, 14, 15, 20, 35, 36, 37, 56] (σ' := [(0, .slice a_l0 l0.length c_l0), (1, .int .i64 wide1), (2, .int .i64 y2), (3, .int .i64 w3), (4, .func (.func 83) #[] #[.pointer (some ⟨B0, 0, none⟩)]), (11, .slice (ad (some a58)) y82.length (na58 / 1)), (12, .int .i64 x62), (13, .slice (ad N73) t71.length (nN73 / 4)), (14, .int .i64 x74), (15, .int .i64 x81), (20, .int .i64 x62), (35, .slice (ad N73) t71.length (nN73 / 4)), (36, .int .i64 (t71.length : Int)), (37, .bool true), (56, .bool false)]) (by kernel_rfl) ?_
                          refine t_end ?_
                          show W _ _ _ _ _ _ _
                          refine w_cond rfl (fun c_ => by cases c_) (fun _ => ?_)
                          show W _ _ _ _ _ _ _
                          refine w_skip ?_
                          show W _ _ _ _ _ _ _
                          refine w_reg fun all => ?_
                          refine t_qz 3 [0, 1, 2, 3, 4, 11, 12, 13, 14, 15, 20, 35, 36, 37] (σ' := [(0, .slice a_l0 l0.length c_l0), (1, .int .i64 wide1), (2, .int .i64 y2), (3, .int .i64 w3), (4, .func (.func 83) #[] #[.pointer (some ⟨B0, 0, none⟩)]), (11, .slice (ad (some a58)) y82.length (na58 / 1)), (12, .int .i64 x62), (13, .slice (ad N73) t71.length (nN73 / 4)), (14, .int .i64 x74), (15, .int .i64 (wr64 (x81 + 1))), (20, .int .i64 x62), (35, .slice (ad N73) t71.length (nN73 / 4)), (36, .int .i64 (t71.length : Int)), (37, .bool true)]) (by kernel_rfl) ?_
                          refine t_end ?_
                          exact ⟨k_, Nat.lt_succ_self _, [(0, .slice a_l0 l0.length c_l0), (1, .int .i64 wide1), (2, .int .i64 y2), (3, .int .i64 w3), (4, .func (.func 83) #[] #[.pointer (some ⟨B0, 0, none⟩)]), (11, .slice (ad (some a58)) y82.length (na58 / 1)), (12, .int .i64 x62), (13, .slice (ad N73) t71.length (nN73 / 4)), (14, .int .i64 x74), (15, .int .i64 (wr64 (x81 + 1))), (20, .int .i64 x62), (35, .slice (ad N73) t71.length (nN73 / 4)), (36, .int .i64 (t71.length : Int)), (37, .bool true)], ([⟨N73, encL E_i644 t71, nN73⟩, ⟨some a58, encL E_u64 y82, na58⟩, ⟨B0, [.int .i64 m0_0], 1⟩] : List Own), S, keep_sub [0, 1, 2, 3, 4, 11, 12, 13, 14, 15, 20, 35, 36, 37] (by kernel_rfl), VS.sel [0, 0, 0] (by kernel_rfl), wr64 (x81 + 1), y82, rfl, rfl, rfl, e79⟩
                      · rw [if_neg c83] at e79
                        have c83b : (decide (x81 < (wr64 ((wr64 (x62 + 1)) * 8)))) = false := decide_eq_false c83
                        refine t_qz 4 [0, 1, 2, 3, 4, 11, 12, 13, 14, 15, 20, 35, 36, 37, 43, 46] (σ' := [(0, .slice a_l0 l0.length c_l0), (1, .int .i64 wide1), (2, .int .i64 y2), (3, .int .i64 w3), (4, .func (.func 83) #[] #[.pointer (some ⟨B0, 0, none⟩)]), (11, .slice (ad (some a58)) y82.length (na58 / 1)), (12, .int .i64 x62), (13, .slice (ad N73) t71.length (nN73 / 4)), (14, .int .i64 x74), (15, .int .i64 x81), (20, .int .i64 x62), (35, .slice (ad N73) t71.length (nN73 / 4)), (36, .int .i64 (t71.length : Int)), (37, .bool true), (43, .int .i64 x81), (46, .int .i64 (wr64 ((wr64 (x62 + 1)) * 8)))]) (by kernel_rfl) ?_
                        refine t_v (dv_quiet rfl (congrArg (fun t => some (Value.bool t)) c83b)) ?_
                        refine t_keep [0, 1, 2, 3, 4, 11, 12, 13, 14, 15, 20, 35, 36, 37, 47] (σ' := [(0, .slice a_l0 l0.length c_l0), (1, .int .i64 wide1), (2, .int .i64 y2), (3, .int .i64 w3), (4, .func (.func 83) #[] #[.pointer (some ⟨B0, 0, none⟩)]), (11, .slice (ad (some a58)) y82.length (na58 / 1)), (12, .int .i64 x62), (13, .slice (ad N73) t71.length (nN73 / 4)), (14, .int .i64 x74), (15, .int .i64 x81), (20, .int .i64 x62), (35, .slice (ad N73) t71.length (nN73 / 4)), (36, .int .i64 (t71.length : Int)), (37, .bool true), (47, .bool false)]) (by kernel_rfl) ?_
                        refine t_end ?_
                        show W _ _ _ _ _ _ _
                        refine w_cond rfl (fun c_ => by cases c_) (fun _ => ?_)
                        show W _ _ _ _ _ _ _
                        refine w_exit ?_
                        simp only [Option.some.injEq, Prod.mk.injEq] at e79
                        obtain ⟨rfl, rfl⟩ := e79
                        exact ⟨([⟨B0, [.int .i64 m0_0], 1⟩, ⟨some a58, encL E_u64 y82, na58⟩, ⟨N73, encL E_i644 t71, nN73⟩] : List Own), S, VS.sel [2, 1, 0] (by kernel_rfl), by kernel_rfl, rfl, rfl⟩
                  · rintro σ_ H_ S_ ⟨rfl, rfl, rfl⟩
                    refine w_reg fun all => ?_
                    refine t_qz 3 [0, 1, 2, 3, 4, 11, 12, 13, 14, 20, 35, 36, 37] (σ' := [(0, .slice a_l0 l0.length c_l0), (1, .int .i64 wide1), (2, .int .i64 y2), (3, .int .i64 w3), (4, .func (.func 83) #[] #[.pointer (some ⟨B0, 0, none⟩)]), (11, .slice (ad (some a58)) y100.length (na58 / 1)), (12, .int .i64 x62), (13, .slice (ad N73) t71.length (nN73 / 4)), (14, .int .i64 (wr64 (x74 + 1))), (20, .int .i64 x62), (35, .slice (ad N73) t71.length (nN73 / 4)), (36, .int .i64 (t71.length : Int)), (37, .bool x101)]) (by kernel_rfl) ?_
                    refine t_end ?_
                    exact ⟨k_, Nat.lt_succ_self _, [(0, .slice a_l0 l0.length c_l0), (1, .int .i64 wide1), (2, .int .i64 y2), (3, .int .i64 w3), (4, .func (.func 83) #[] #[.pointer (some ⟨B0, 0, none⟩)]), (11, .slice (ad (some a58)) y100.length (na58 / 1)), (12, .int .i64 x62), (13, .slice (ad N73) t71.length (nN73 / 4)), (14, .int .i64 (wr64 (x74 + 1))), (20, .int .i64 x62)], ([⟨N73, encL E_i644 t71, nN73⟩, ⟨some a58, encL E_u64 y100, na58⟩, ⟨B0, [.int .i64 m0_0], 1⟩] : List Own), S, keep_sub [0, 1, 2, 3, 4, 11, 12, 13, 14, 20] (by kernel_rfl), VS.sel [2, 1, 0] (by kernel_rfl), wr64 (x74 + 1), y100, rfl, rfl, rfl, e66⟩
                · rw [if_neg c77] at e66
                  have c77b : (decide ((t71.length : Int) > 0)) = false := decide_eq_false c77
                  refine t_qz 3 [0, 1, 2, 3, 4, 11, 12, 13, 14, 20, 34, 35, 36] (σ' := [(0, .slice a_l0 l0.length c_l0), (1, .int .i64 wide1), (2, .int .i64 y2), (3, .int .i64 w3), (4, .func (.func 83) #[] #[.pointer (some ⟨B0, 0, none⟩)]), (11, .slice (ad (some a58)) y75.length (na58 / 1)), (12, .int .i64 x62), (13, .slice (ad N73) t71.length (nN73 / 4)), (14, .int .i64 x74), (20, .int .i64 x62), (34, .bool true), (35, .slice (ad N73) t71.length (nN73 / 4)), (36, .int .i64 (t71.length : Int))]) (by kernel_rfl) ?_
                  refine t_v (dv_quiet rfl (congrArg (fun t => some (Value.bool t)) c77b)) ?_
                  refine t_qz 1 [0, 1, 2, 3, 4, 11, 12, 13, 14, 20, 35, 36, 37, 38] (σ' := [(0, .slice a_l0 l0.length c_l0), (1, .int .i64 wide1), (2, .int .i64 y2), (3, .int .i64 w3), (4, .func (.func 83) #[] #[.pointer (some ⟨B0, 0, none⟩)]), (11, .slice (ad (some a58)) y75.length (na58 / 1)), (12, .int .i64 x62), (13, .slice (ad N73) t71.length (nN73 / 4)), (14, .int .i64 x74), (20, .int .i64 x62), (35, .slice (ad N73) t71.length (nN73 / 4)), (36, .int .i64 (t71.length : Int)), (37, .bool false), (38, .bool false)]) (by kernel_rfl) ?_
                  refine t_end ?_
                  show W _ _ _ _ _ _ _
                  refine w_cond rfl (fun c_ => by cases c_) (fun _ => ?_)
                  show W _ _ _ _ _ _ _
                  refine w_exit ?_
                  obtain rfl := Option.some.inj e66
                  exact ⟨([⟨B0, [.int .i64 m0_0], 1⟩, ⟨some a58, encL E_u64 y75, na58⟩] : List Own), S, VS.sel [2, 1] (by kernel_rfl), by kernel_rfl, rfl, rfl⟩
              · rw [if_neg c76] at e66
                have c76b : (decide (x74 < w3)) = false := decide_eq_false c76
                refine t_qz 2 [0, 1, 2, 3, 4, 11, 12, 13, 14, 20, 31, 32] (σ' := [(0, .slice a_l0 l0.length c_l0), (1, .int .i64 wide1), (2, .int .i64 y2), (3, .int .i64 w3), (4, .func (.func 83) #[] #[.pointer (some ⟨B0, 0, none⟩)]), (11, .slice (ad (some a58)) y75.length (na58 / 1)), (12, .int .i64 x62), (13, .slice (ad N73) t71.length (nN73 / 4)), (14, .int .i64 x74), (20, .int .i64 x62), (31, .int .i64 x74), (32, .int .i64 w3)]) (by kernel_rfl) ?_
                refine t_v (dv_quiet rfl (congrArg (fun t => some (Value.bool t)) c76b)) ?_
                refine t_qz 5 [0, 1, 2, 3, 4, 11, 12, 13, 14, 20, 35, 36, 37, 38] (σ' := [(0, .slice a_l0 l0.length c_l0), (1, .int .i64 wide1), (2, .int .i64 y2), (3, .int .i64 w3), (4, .func (.func 83) #[] #[.pointer (some ⟨B0, 0, none⟩)]), (11, .slice (ad (some a58)) y75.length (na58 / 1)), (12, .int .i64 x62), (13, .slice (ad N73) t71.length (nN73 / 4)), (14, .int .i64 x74), (20, .int .i64 x62), (35, .tuple #[]), (36, .tuple #[]), (37, .tuple #[]), (38, .bool false)]) (by kernel_rfl) ?_
                refine t_end ?_
                show W _ _ _ _ _ _ _
                refine w_cond rfl (fun c_ => by cases c_) (fun _ => ?_)
                show W _ _ _ _ _ _ _
                refine w_exit ?_
                obtain rfl := Option.some.inj e66
                exact ⟨([⟨B0, [.int .i64 m0_0], 1⟩, ⟨some a58, encL E_u64 y75, na58⟩] : List Own), S, VS.sel [2, 1] (by kernel_rfl), by kernel_rfl, rfl, rfl⟩
          · rintro σ_ H_ S_ ⟨rfl, rfl, rfl⟩
            refine w_reg fun all => ?_
            refine t_qz 2 [0, 1, 2, 3, 4, 11, 20] (σ' := [(0, .slice a_l0 l0.length c_l0), (1, .int .i64 wide1), (2, .int .i64 y2), (3, .int .i64 w3), (4, .func (.func 83) #[] #[.pointer (some ⟨B0, 0, none⟩)]), (11, .slice (ad (some a58)) y104.length (na58 / 1)), (20, .int .i64 (wr64 (x62 + 1)))]) (by kernel_rfl) ?_
            refine t_end ?_
            exact ⟨k_, Nat.lt_succ_self _, [(0, .slice a_l0 l0.length c_l0), (1, .int .i64 wide1), (2, .int .i64 y2), (3, .int .i64 w3), (4, .func (.func 83) #[] #[.pointer (some ⟨B0, 0, none⟩)]), (11, .slice (ad (some a58)) y104.length (na58 / 1)), (20, .int .i64 (wr64 (x62 + 1)))], ([⟨some a58, encL E_u64 y104, na58⟩, ⟨B0, [.int .i64 m0_0], 1⟩] : List Own), S, keep_sub [0, 1, 2, 3, 4, 11, 20] (by kernel_rfl), VS.sel [1, 0] (by kernel_rfl), wr64 (x62 + 1), y104, rfl, rfl, rfl, e60⟩
        · rw [if_neg c64] at e60
          have c64b : (decide (x62 < 8)) = false := decide_eq_false c64
          refine t_v (dv_quiet rfl (congrArg (fun t => some (Value.bool t)) c64b)) ?_
          refine t_keep [0, 1, 2, 3, 4, 11, 20, 21] (σ' := [(0, .slice a_l0 l0.length c_l0), (1, .int .i64 wide1), (2, .int .i64 y2), (3, .int .i64 w3), (4, .func (.func 83) #[] #[.pointer (some ⟨B0, 0, none⟩)]), (11, .slice (ad (some a58)) y63.length (na58 / 1)), (20, .int .i64 x62), (21, .bool false)]) (by kernel_rfl) ?_
          refine t_end ?_
          show W _ _ _ _ _ _ _
          refine w_seq ?_
          refine w_cond rfl (fun c_ => by cases c_) (fun _ => ?_)
          show W _ _ _ _ _ _ _
          refine w_exit ?_
          obtain rfl := Option.some.inj e60
          exact ⟨([⟨B0, [.int .i64 m0_0], 1⟩, ⟨some a58, encL E_u64 y63, na58⟩] : List Own), S, VS.sel [1, 0] (by kernel_rfl), by kernel_rfl, rfl, rfl⟩
    · rintro σ_ H_ S_ ⟨rfl, rfl, rfl⟩
      refine w_seq ?_
      refine w_reg fun all => ?_
      refine t_qz 2 [10] (σ' := [(10, .slice (ad (some a58)) y107.length (na58 / 1))]) (by kernel_rfl) ?_
      refine t_end ?_
      show W _ _ _ _ _ _ _
      refine w_ret ?_
      obtain rfl := Option.some.inj e
      exact ⟨[.slice (ad (some a58)) y107.length (na58 / 1)], ([⟨some a58, encL E_u64 y107, na58⟩, ⟨B0, [.int .i64 m0_0], 1⟩] : List Own), S, ⟨(show gt _ _ = some _ from (by kernel_rfl)), trivial⟩, VS.sel [1, 0] (by kernel_rfl), some a58, na58, rfl, rfl, rfl⟩

/-- sweep.Fill -/
def c41 : C :=
  (.seq (.reg [⟨(some 5), .box (.tmp 1), none⟩,
     ⟨(some 8), .mv (.const (.slice none 0 0)), none⟩])
  (.seq (.reg [⟨(some 9), .mv (.tmp 0), none⟩,
     ⟨(some 10), .mv (.tmp 2), none⟩,
     ⟨(some 11), .mv (.tmp 3), none⟩,
     ⟨(some 12), .mkf 83 [(.tmp 5)], none⟩,
     ⟨(some 13), .call 82 [(.tmp 9), (.const (.int .i64 0)), (.tmp 10), (.tmp 11), (.tmp 12)], none⟩,
     ⟨(some 8), .mv (.tmp 13), none⟩])
  .ret))
def sweep_Fill_v1.f (k : Nat) (l0 : List (Int × Int × Int × Int)) (rule1 : Int) (y2 : Int) (w3 : Int) : Option (List (Int)) := (sweep_masks_v1.f k l0 0 y2 w3 rule1).bind fun t108 => (some t108)
theorem sweep_Fill_v1.ok {S : Seal} {k : Nat} {l0 : List (Int × Int × Int × Int)} {rule1 : Int} {y2 : Int} {w3 : Int} {r0_ : List (Int)}{a_l0 : Option Addr} {c_l0 : Nat} (h_l0 : SlE S E_i644 l0 a_l0) (e : sweep_Fill_v1.f k l0 rule1 y2 w3 = some r0_) :
    Cal Try.prog 41 [.slice a_l0 l0.length c_l0, .int .i64 rule1, .int .i64 y2, .int .i64 w3] [] S fun v H' S' => ∃ (N0_ : Option Nat) (nN0_ : Nat) , v = .slice (ad N0_) r0_.length (nN0_ / 1) ∧ H' = ([⟨N0_, encL E_u64 r0_, nN0_⟩] : List Own) ∧ S' = S := by
  unfold sweep_Fill_v1.f at e
  refine cal_of (c := c41) (N := 14) Try.func41 rfl rfl (by kernel_rfl) (rs := [.t 8]) (by kernel_rfl) (Nat.le_of_ble_eq_true rfl) ?_
  unfold c41
  refine w_seq ?_
  refine w_reg fun all => ?_
  refine t_a (.box rfl rfl rfl) fun b1 fb1 sb1 => ?_
  refine t_qz 1 [0, 2, 3, 5] (σ' := [(0, .slice a_l0 l0.length c_l0), (2, .int .i64 y2), (3, .int .i64 w3), (5, .pointer (some ⟨b1, 0, none⟩))]) (by kernel_rfl) ?_
  refine t_end ?_
  show W _ _ _ _ _ _ _
  refine w_seq ?_
  refine w_reg fun all => ?_
  obtain ⟨t108, h109, e⟩ := bind_of e
  refine t_qz 4 [9, 10, 11, 12] (σ' := [(9, .slice a_l0 l0.length c_l0), (10, .int .i64 y2), (11, .int .i64 w3), (12, .func (.func 83) #[] #[.pointer (some ⟨b1, 0, none⟩)])]) (by kernel_rfl) ?_
  refine t_call (vs := [.slice a_l0 l0.length c_l0, .int .i64 0, .int .i64 y2, .int .i64 w3, .func (.func 83) #[] #[.pointer (some ⟨b1, 0, none⟩)]]) (H1 := ([⟨b1, [.int .i64 rule1], 1⟩] : List Own)) (F := ([] : List Own)) rfl rfl (by kernel_rfl) (sel_perm (is := [0]) (by kernel_rfl)) (sweep_masks_v1.ok h_l0 h109) ?_
  rintro _ _ S_ ⟨N110, nN110, rfl, rfl, hS_⟩
  obtain rfl := hS_.symm
  refine t_qz 1 [8] (σ' := [(8, .slice (ad N110) t108.length (nN110 / 1))]) (by kernel_rfl) ?_
  refine t_end ?_
  show W _ _ _ _ _ _ _
  refine w_ret ?_
  obtain rfl := Option.some.inj e
  exact ⟨[.slice (ad N110) t108.length (nN110 / 1)], ([⟨N110, encL E_u64 t108, nN110⟩] : List Own), S, ⟨rfl, trivial⟩, VS.sel [0] (by kernel_rfl), N110, nN110, rfl, rfl, rfl⟩

/-- math/bits.OnesCount64 -/
def c85 : C :=
  (.seq (.reg [⟨(some 2), .mv (.const (.int .i64 0)), none⟩])
  (.seq (.reg [⟨(some 3), .mv (.tmp 0), none⟩,
     ⟨(some 4), .bin .shr (.tmp 3) (.const (.int .u64 1)), none⟩,
     ⟨(some 5), .bin .and (.tmp 4) (.const (.int .u64 6148914691236517205)), none⟩,
     ⟨(some 6), .mv (.tmp 0), none⟩,
     ⟨(some 7), .bin .and (.tmp 6) (.const (.int .u64 6148914691236517205)), none⟩,
     ⟨(some 8), .bin .add (.tmp 5) (.tmp 7), none⟩,
     ⟨(some 0), .mv (.tmp 8), none⟩])
  (.seq (.reg [⟨(some 9), .mv (.tmp 0), none⟩,
     ⟨(some 10), .bin .shr (.tmp 9) (.const (.int .u64 2)), none⟩,
     ⟨(some 11), .bin .and (.tmp 10) (.const (.int .u64 3689348814741910323)), none⟩,
     ⟨(some 12), .mv (.tmp 0), none⟩,
     ⟨(some 13), .bin .and (.tmp 12) (.const (.int .u64 3689348814741910323)), none⟩,
     ⟨(some 14), .bin .add (.tmp 11) (.tmp 13), none⟩,
     ⟨(some 0), .mv (.tmp 14), none⟩])
  (.seq (.reg [⟨(some 15), .mv (.tmp 0), none⟩,
     ⟨(some 16), .bin .shr (.tmp 15) (.const (.int .u64 4)), none⟩,
     ⟨(some 17), .mv (.tmp 0), none⟩,
     ⟨(some 18), .bin .add (.tmp 16) (.tmp 17), none⟩,
     ⟨(some 19), .bin .and (.tmp 18) (.const (.int .u64 1085102592571150095)), none⟩,
     ⟨(some 0), .mv (.tmp 19), none⟩])
  (.seq (.reg [⟨(some 20), .mv (.tmp 0), none⟩,
     ⟨(some 21), .mv (.tmp 0), none⟩,
     ⟨(some 22), .bin .shr (.tmp 21) (.const (.int .u64 8)), none⟩,
     ⟨(some 23), .bin .add (.tmp 20) (.tmp 22), none⟩,
     ⟨(some 0), .mv (.tmp 23), none⟩])
  (.seq (.reg [⟨(some 24), .mv (.tmp 0), none⟩,
     ⟨(some 25), .mv (.tmp 0), none⟩,
     ⟨(some 26), .bin .shr (.tmp 25) (.const (.int .u64 16)), none⟩,
     ⟨(some 27), .bin .add (.tmp 24) (.tmp 26), none⟩,
     ⟨(some 0), .mv (.tmp 27), none⟩])
  (.seq (.reg [⟨(some 28), .mv (.tmp 0), none⟩,
     ⟨(some 29), .mv (.tmp 0), none⟩,
     ⟨(some 30), .bin .shr (.tmp 29) (.const (.int .u64 32)), none⟩,
     ⟨(some 31), .bin .add (.tmp 28) (.tmp 30), none⟩,
     ⟨(some 0), .mv (.tmp 31), none⟩])
  (.seq (.reg [⟨(some 32), .mv (.tmp 0), none⟩,
     ⟨(some 33), .cnv .i64 (.tmp 32), none⟩,
     ⟨(some 34), .bin .and (.tmp 33) (.const (.int .i64 127)), none⟩,
     ⟨(some 2), .mv (.tmp 34), none⟩])
  .ret))))))))
def bits_OnesCount64_v1.f  : Option (Unit) := some ()
theorem bits_OnesCount64_v1.ok {S : Seal}  (e : bits_OnesCount64_v1.f  = some ()) :
    Cal Try.prog 85 [.int .u64 5] [] S fun v H' S' => v = .int .i64 2 ∧ H' = [] ∧ S' = S := by
  unfold bits_OnesCount64_v1.f at e
  refine cal_of (c := c85) (N := 35) Try.func85 rfl rfl (by kernel_rfl) (rs := [.t 2]) (by kernel_rfl) (Nat.le_of_ble_eq_true rfl) ?_
  unfold c85
  refine w_seq ?_
  refine w_reg fun all => ?_
  refine t_qz 1 [0] (σ' := [(0, .int .u64 5)]) (by kernel_rfl) ?_
  refine t_end ?_
  show W _ _ _ _ _ _ _
  refine w_seq ?_
  refine w_reg fun all => ?_
  refine t_qz 7 [0] (σ' := [(0, .int .u64 5)]) (by kernel_rfl) ?_
  refine t_end ?_
  show W _ _ _ _ _ _ _
  refine w_seq ?_
  refine w_reg fun all => ?_
  refine t_qz 7 [0] (σ' := [(0, .int .u64 2)]) (by kernel_rfl) ?_
  refine t_end ?_
  show W _ _ _ _ _ _ _
  refine w_seq ?_
  refine w_reg fun all => ?_
  refine t_qz 6 [0] (σ' := [(0, .int .u64 2)]) (by kernel_rfl) ?_
  refine t_end ?_
  show W _ _ _ _ _ _ _
  refine w_seq ?_
  refine w_reg fun all => ?_
  refine t_qz 5 [0] (σ' := [(0, .int .u64 2)]) (by kernel_rfl) ?_
  refine t_end ?_
  show W _ _ _ _ _ _ _
  refine w_seq ?_
  refine w_reg fun all => ?_
  refine t_qz 5 [0] (σ' := [(0, .int .u64 2)]) (by kernel_rfl) ?_
  refine t_end ?_
  show W _ _ _ _ _ _ _
  refine w_seq ?_
  refine w_reg fun all => ?_
  refine t_qz 5 [0] (σ' := [(0, .int .u64 2)]) (by kernel_rfl) ?_
  refine t_end ?_
  show W _ _ _ _ _ _ _
  refine w_seq ?_
  refine w_reg fun all => ?_
  refine t_qz 4 [2] (σ' := [(2, .int .i64 2)]) (by kernel_rfl) ?_
  refine t_end ?_
  show W _ _ _ _ _ _ _
  refine w_ret ?_
  exact ⟨[.int .i64 2], [], S, ⟨rfl, trivial⟩, VS.none, rfl, rfl, rfl⟩

/-- sweep.Count -/
def c42 : C :=
  (.seq (.reg [⟨(some 2), .mv (.const (.int .i64 0)), none⟩])
  (.seq (.reg [⟨(some 3), .mv (.tmp 0), none⟩,
     ⟨(some 4), .call 85 [(.tmp 3)], none⟩,
     ⟨(some 2), .mv (.tmp 4), none⟩])
  .ret))
def sweep_Count_v1.f  : Option (Unit) := (bits_OnesCount64_v1.f).bind fun _ => (some ())
theorem sweep_Count_v1.ok {S : Seal}  (e : sweep_Count_v1.f  = some ()) :
    Cal Try.prog 42 [.int .u64 5] [] S fun v H' S' => v = .int .i64 2 ∧ H' = [] ∧ S' = S := by
  unfold sweep_Count_v1.f at e
  refine cal_of (c := c42) (N := 5) Try.func42 rfl rfl (by kernel_rfl) (rs := [.t 2]) (by kernel_rfl) (Nat.le_of_ble_eq_true rfl) ?_
  unfold c42
  refine w_seq ?_
  refine w_reg fun all => ?_
  refine t_qz 1 [0] (σ' := [(0, .int .u64 5)]) (by kernel_rfl) ?_
  refine t_end ?_
  show W _ _ _ _ _ _ _
  refine w_seq ?_
  refine w_reg fun all => ?_
  obtain ⟨u_, h121, e⟩ := bind_of e
  refine t_qz 1 [3] (σ' := [(3, .int .u64 5)]) (by kernel_rfl) ?_
  refine t_v (.call (vs := [.int .u64 5]) rfl rfl (by kernel_rfl) (bits_OnesCount64_v1.ok h121)) ?_
  refine t_qz 1 [2] (σ' := [(2, .int .i64 2)]) (by kernel_rfl) ?_
  refine t_end ?_
  show W _ _ _ _ _ _ _
  refine w_ret ?_
  exact ⟨[.int .i64 2], [], S, ⟨rfl, trivial⟩, VS.none, rfl, rfl, rfl⟩

/-- glyphiclaw24.first -/
def c40 : C :=
  (.seq (.reg [⟨(some 0), .mv (.const (.bool false)), none⟩])
  (.seq (.reg [⟨(some 2), .call 41 [(.const (.slice none 0 0)), (.const (.int .i64 0)), (.const (.int .i64 0)), (.const (.int .i64 2))], none⟩,
     ⟨(some 1), .mv (.tmp 2), none⟩])
  (.seq (.reg [⟨(some 3), .mv (.tmp 1), none⟩,
     ⟨(some 4), .lns (.tmp 3), none⟩,
     ⟨(some 5), .bin .eql (.tmp 4) (.const (.int .i64 2)), none⟩,
     ⟨(some 6), .mv (.tmp 5), none⟩,
     ⟨(some 7), .mv (.tmp 1), (some (6, true))⟩,
     ⟨(some 8), .ixs 1 (.tmp 7) (.const (.int .i64 0)), (some (6, true))⟩,
     ⟨(some 9), .ld none (.tmp 8), (some (6, true))⟩,
     ⟨(some 10), .bin .eql (.tmp 9) (.const (.int .u64 0)), (some (6, true))⟩,
     ⟨(some 11), .pk (.tmp 6) (.tmp 10) (.const (.bool false)), none⟩,
     ⟨(some 12), .mv (.tmp 11), none⟩,
     ⟨(some 13), .mv (.tmp 1), (some (12, true))⟩,
     ⟨(some 14), .ixs 1 (.tmp 13) (.const (.int .i64 1)), (some (12, true))⟩,
     ⟨(some 15), .ld none (.tmp 14), (some (12, true))⟩,
     ⟨(some 16), .bin .eql (.tmp 15) (.const (.int .u64 0)), (some (12, true))⟩,
     ⟨(some 17), .pk (.tmp 12) (.tmp 16) (.const (.bool false)), none⟩,
     ⟨(some 18), .mv (.tmp 17), none⟩,
     ⟨(some 19), .call 42 [(.const (.int .u64 5))], (some (18, true))⟩,
     ⟨(some 20), .bin .eql (.tmp 19) (.const (.int .i64 2)), (some (18, true))⟩,
     ⟨(some 21), .pk (.tmp 18) (.tmp 20) (.const (.bool false)), none⟩,
     ⟨(some 0), .mv (.tmp 21), none⟩])
  .ret)))
def glyphiclaw24_first.f (k : Nat)  : Option (Bool) := (sweep_Fill_v1.f k ([] : List (Int × Int × Int × Int)) 0 0 2).bind fun t111 => (if (t111.length : Int) = 2 then ((lgt t111 0).bind fun x115 => (if x115 = 0 then ((lgt t111 1).bind fun x118 => (if x118 = 0 then ((sweep_Count_v1.f).bind fun _ => (some true)) else (some false))) else (some false))) else (some false))
theorem glyphiclaw24_first.ok {S : Seal} {k : Nat}  {r0_ : Bool}(e : glyphiclaw24_first.f k  = some r0_) :
    Cal Try.prog 40 [] [] S fun v H' S' => v = .bool r0_ ∧ H' = [] ∧ S' = S := by
  unfold glyphiclaw24_first.f at e
  refine cal_of (c := c40) (N := 22) Try.func40 rfl rfl (by kernel_rfl) (rs := [.t 0]) (by kernel_rfl) (Nat.le_of_ble_eq_true rfl) ?_
  unfold c40
  refine w_seq ?_
  refine w_reg fun all => ?_
  refine t_qz 1 [] (σ' := []) (by kernel_rfl) ?_
  refine t_end ?_
  show W _ _ _ _ _ _ _
  refine w_seq ?_
  refine w_reg fun all => ?_
  obtain ⟨t111, h112, e⟩ := bind_of e
  refine t_call (vs := [.slice none ([] : List (Int × Int × Int × Int)).length 0, .int .i64 0, .int .i64 0, .int .i64 2]) (H1 := ([] : List Own)) (F := ([] : List Own)) rfl rfl (by kernel_rfl) (sel_perm (is := []) (by kernel_rfl)) (sweep_Fill_v1.ok SlE.nil h112) ?_
  rintro _ _ S_ ⟨N113, nN113, rfl, rfl, hS_⟩
  obtain rfl := hS_.symm
  refine t_qz 1 [1] (σ' := [(1, .slice (ad N113) t111.length (nN113 / 1))]) (by kernel_rfl) ?_
  refine t_end ?_
  show W _ _ _ _ _ _ _
  refine w_seq ?_
  refine w_reg fun all => ?_
  by_cases c114 : (t111.length : Int) = 2
  · rw [if_pos c114] at e
    have c114b : ((t111.length : Int) == 2) = true := beq_iff_eq.mpr c114
    refine t_qz 2 [1, 4] (σ' := [(1, .slice (ad N113) t111.length (nN113 / 1)), (4, .int .i64 (t111.length : Int))]) (by kernel_rfl) ?_
    refine t_v (dv_quiet rfl (congrArg (fun t => some (Value.bool t)) c114b)) ?_
    obtain ⟨x115, hx116, e⟩ := bind_of e
    refine t_qz 2 [1, 6, 7] (σ' := [(1, .slice (ad N113) t111.length (nN113 / 1)), (6, .bool true), (7, .slice (ad N113) t111.length (nN113 / 1))]) (by kernel_rfl) ?_
    refine t_v (.quietH rfl (by intro h_; cases h_) (ixl (E := E_u64) (j := 0) rfl rfl rfl (by decide) rfl hx116)) ?_
    refine t_v (.ld1 rfl rfl rfl (.lst 0 rfl (encL_at (lgt_in hx116).1 rfl))) ?_
    by_cases c117 : x115 = 0
    · rw [if_pos c117] at e
      have c117b : (x115 == 0) = true := beq_iff_eq.mpr c117
      refine t_v (dv_quiet rfl (congrArg (fun t => some (Value.bool t)) c117b)) ?_
      obtain ⟨x118, hx119, e⟩ := bind_of e
      refine t_qz 3 [12, 13] (σ' := [(12, .bool true), (13, .slice (ad N113) t111.length (nN113 / 1))]) (by kernel_rfl) ?_
      refine t_v (.quietH rfl (by intro h_; cases h_) (ixl (E := E_u64) (j := 0) rfl rfl rfl (by decide) rfl hx119)) ?_
      refine t_v (.ld1 rfl rfl rfl (.lst 0 rfl (encL_at (lgt_in hx119).1 rfl))) ?_
      by_cases c120 : x118 = 0
      · rw [if_pos c120] at e
        have c120b : (x118 == 0) = true := beq_iff_eq.mpr c120
        refine t_v (dv_quiet rfl (congrArg (fun t => some (Value.bool t)) c120b)) ?_
        obtain ⟨u_, h122, e⟩ := bind_of e
        refine t_qz 2 [18] (σ' := [(18, .bool true)]) (by kernel_rfl) ?_
        refine t_v (.call (vs := [.int .u64 5]) rfl rfl (by kernel_rfl) (sweep_Count_v1.ok h122)) ?_
        refine t_qz 3 [0] (σ' := [(0, .bool true)]) (by kernel_rfl) ?_
        refine t_end ?_
        show W _ _ _ _ _ _ _
        refine w_ret ?_
        obtain rfl := Option.some.inj e
        exact ⟨[.bool true], [], S, ⟨rfl, trivial⟩, VS.none, rfl, rfl, rfl⟩
      · rw [if_neg c120] at e
        have c120b : (x118 == 0) = false := beq_eq_false_iff_ne.mpr c120
        refine t_v (dv_quiet rfl (congrArg (fun t => some (Value.bool t)) c120b)) ?_
        refine t_qz 6 [0] (σ' := [(0, .bool false)]) (by kernel_rfl) ?_
        refine t_end ?_
        show W _ _ _ _ _ _ _
        refine w_ret ?_
        obtain rfl := Option.some.inj e
        exact ⟨[.bool false], [], S, ⟨rfl, trivial⟩, VS.none, rfl, rfl, rfl⟩
    · rw [if_neg c117] at e
      have c117b : (x115 == 0) = false := beq_eq_false_iff_ne.mpr c117
      refine t_v (dv_quiet rfl (congrArg (fun t => some (Value.bool t)) c117b)) ?_
      refine t_qz 12 [0] (σ' := [(0, .bool false)]) (by kernel_rfl) ?_
      refine t_end ?_
      show W _ _ _ _ _ _ _
      refine w_ret ?_
      obtain rfl := Option.some.inj e
      exact ⟨[.bool false], [], S, ⟨rfl, trivial⟩, VS.none, rfl, rfl, rfl⟩
  · rw [if_neg c114] at e
    have c114b : ((t111.length : Int) == 2) = false := beq_eq_false_iff_ne.mpr c114
    refine t_qz 2 [1, 4] (σ' := [(1, .slice (ad N113) t111.length (nN113 / 1)), (4, .int .i64 (t111.length : Int))]) (by kernel_rfl) ?_
    refine t_v (dv_quiet rfl (congrArg (fun t => some (Value.bool t)) c114b)) ?_
    refine t_qz 17 [0] (σ' := [(0, .bool false)]) (by kernel_rfl) ?_
    refine t_end ?_
    show W _ _ _ _ _ _ _
    refine w_ret ?_
    obtain rfl := Option.some.inj e
    exact ⟨[.bool false], [], S, ⟨rfl, trivial⟩, VS.none, rfl, rfl, rfl⟩

/-- glyphicworld.Number -/
def c44 : C :=
  (.seq (.reg [⟨(some 4), .mv (.const (.int .i64 0)), none⟩])
  (.seq (.reg [⟨(some 6), .mv (.tmp 0), none⟩,
     ⟨(some 7), .mv (.tmp 1), none⟩,
     ⟨(some 8), .bin .rem (.tmp 6) (.tmp 7), none⟩,
     ⟨(some 5), .mv (.tmp 8), none⟩])
  (.seq (.seq (.reg [⟨(some 9), .mv (.tmp 5), none⟩,
      ⟨(some 10), .bin .lss (.tmp 9) (.const (.int .i64 0)), none⟩])
   (.cond (.tmp 10)
    (.reg [⟨(some 11), .mv (.tmp 5), none⟩,
       ⟨(some 12), .mv (.tmp 1), none⟩,
       ⟨(some 13), .bin .add (.tmp 11) (.tmp 12), none⟩,
       ⟨(some 5), .mv (.tmp 13), none⟩])
    .skip))
  (.seq (.reg [⟨(some 14), .mv (.tmp 5), none⟩,
     ⟨(some 4), .mv (.tmp 14), none⟩])
  .ret))))
def glyphicworld_Number.f (n0 : Int) (below1 : Int) : Option (Int) := if below1 = 0 then none else (if (Int.tmod n0 below1) < 0 then (some (wr64 ((Int.tmod n0 below1) + below1))) else (some (Int.tmod n0 below1)))
theorem glyphicworld_Number.ok {S : Seal} {n0 : Int} {below1 : Int} {r0_ : Int}(e : glyphicworld_Number.f n0 below1 = some r0_) :
    Cal Try.prog 44 [.int .i64 n0, .int .i64 below1] [] S fun v H' S' => v = .int .i64 r0_ ∧ H' = [] ∧ S' = S := by
  unfold glyphicworld_Number.f at e
  refine cal_of (c := c44) (N := 15) Try.func44 rfl rfl (by kernel_rfl) (rs := [.t 4]) (by kernel_rfl) (Nat.le_of_ble_eq_true rfl) ?_
  unfold c44
  refine w_seq ?_
  refine w_reg fun all => ?_
  refine t_qz 1 [0, 1] (σ' := [(0, .int .i64 n0), (1, .int .i64 below1)]) (by kernel_rfl) ?_
  refine t_end ?_
  show W _ _ _ _ _ _ _
  refine w_seq ?_
  refine w_reg fun all => ?_
  have c177 : ¬ below1 = 0 := by
    intro h_; rw [if_pos h_] at e; cases e
  rw [if_neg c177] at e
  refine t_qz 2 [1, 6, 7] (σ' := [(1, .int .i64 below1), (6, .int .i64 n0), (7, .int .i64 below1)]) (by kernel_rfl) ?_
  refine t_v (.quiet rfl (qv_rem rfl rfl c177)) ?_
  refine t_qz 1 [1, 5] (σ' := [(1, .int .i64 below1), (5, .int .i64 (Int.tmod n0 below1))]) (by kernel_rfl) ?_
  refine t_end ?_
  show W _ _ _ _ _ _ _
  refine w_seq ?_
  refine w_seq ?_
  refine w_reg fun all => ?_
  by_cases c178 : (Int.tmod n0 below1) < 0
  · rw [if_pos c178] at e
    have c178b : (decide ((Int.tmod n0 below1) < 0)) = true := decide_eq_true c178
    refine t_qz 1 [1, 5, 9] (σ' := [(1, .int .i64 below1), (5, .int .i64 (Int.tmod n0 below1)), (9, .int .i64 (Int.tmod n0 below1))]) (by kernel_rfl) ?_
    refine t_v (dv_quiet rfl (congrArg (fun t => some (Value.bool t)) c178b)) ?_
    refine t_keep [1, 5, 10] (σ' := [(1, .int .i64 below1), (5, .int .i64 (Int.tmod n0 below1)), (10, .bool true)]) (by kernel_rfl) ?_
    refine t_end ?_
    show W _ _ _ _ _ _ _
    refine w_cond rfl (fun _ => ?_) (fun c_ => by cases c_)
    show W _ _ _ _ _ _ _
    refine w_reg fun all => ?_
    refine t_qz 4 [5] (σ' := [(5, .int .i64 (wr64 ((Int.tmod n0 below1) + below1)))]) (by kernel_rfl) ?_
    refine t_end ?_
    show W _ _ _ _ _ _ _
    refine w_seq ?_
    refine w_reg fun all => ?_
    refine t_qz 2 [4] (σ' := [(4, .int .i64 (wr64 ((Int.tmod n0 below1) + below1)))]) (by kernel_rfl) ?_
    refine t_end ?_
    show W _ _ _ _ _ _ _
    refine w_ret ?_
    obtain rfl := Option.some.inj e
    exact ⟨[.int .i64 (wr64 ((Int.tmod n0 below1) + below1))], [], S, ⟨rfl, trivial⟩, VS.none, rfl, rfl, rfl⟩
  · rw [if_neg c178] at e
    have c178b : (decide ((Int.tmod n0 below1) < 0)) = false := decide_eq_false c178
    refine t_qz 1 [1, 5, 9] (σ' := [(1, .int .i64 below1), (5, .int .i64 (Int.tmod n0 below1)), (9, .int .i64 (Int.tmod n0 below1))]) (by kernel_rfl) ?_
    refine t_v (dv_quiet rfl (congrArg (fun t => some (Value.bool t)) c178b)) ?_
    refine t_keep [1, 5, 10] (σ' := [(1, .int .i64 below1), (5, .int .i64 (Int.tmod n0 below1)), (10, .bool false)]) (by kernel_rfl) ?_
    refine t_end ?_
    show W _ _ _ _ _ _ _
    refine w_cond rfl (fun c_ => by cases c_) (fun _ => ?_)
    show W _ _ _ _ _ _ _
    refine w_skip ?_
    show W _ _ _ _ _ _ _
    refine w_seq ?_
    refine w_reg fun all => ?_
    refine t_qz 2 [4] (σ' := [(4, .int .i64 (Int.tmod n0 below1))]) (by kernel_rfl) ?_
    refine t_end ?_
    show W _ _ _ _ _ _ _
    refine w_ret ?_
    obtain rfl := Option.some.inj e
    exact ⟨[.int .i64 (Int.tmod n0 below1)], [], S, ⟨rfl, trivial⟩, VS.none, rfl, rfl, rfl⟩

/-- (*glyphicmake.Seq).Next -/
def c37 : C :=
  (.seq (.reg [⟨(some 4), .mv (.const (.int .i64 0)), none⟩])
  (.seq (.reg [⟨(some 5), .mv (.const (.int .i64 0)), none⟩])
  (.seq (.seq (.drw [⟨(some 6), .mv (.tmp 0), none⟩,
      ⟨(some 7), .nck (.tmp 6), none⟩,
      ⟨(some 8), .pad 1 (.tmp 7), none⟩,
      ⟨(some 9), .ld none (.tmp 8), none⟩,
      ⟨(some 10), .mv (.tmp 0), none⟩,
      ⟨(some 11), .nck (.tmp 10), none⟩,
      ⟨(some 12), .pad 0 (.tmp 11), none⟩,
      ⟨(some 13), .ld none (.tmp 12), none⟩,
      ⟨(some 14), .lns (.tmp 13), none⟩,
      ⟨(some 15), .bin .lss (.tmp 9) (.tmp 14), none⟩] [[], [0], [1], [2], [], [4], [5], [6], [7], [3, 8]])
   (.cond (.tmp 15)
    (.drw [⟨(some 16), .mv (.tmp 0), none⟩,
       ⟨(some 17), .nck (.tmp 16), none⟩,
       ⟨(some 18), .pad 0 (.tmp 17), none⟩,
       ⟨(some 19), .ld none (.tmp 18), none⟩,
       ⟨(some 20), .mv (.tmp 0), none⟩,
       ⟨(some 21), .nck (.tmp 20), none⟩,
       ⟨(some 22), .pad 1 (.tmp 21), none⟩,
       ⟨(some 23), .ld none (.tmp 22), none⟩,
       ⟨(some 24), .ixs 1 (.tmp 19) (.tmp 23), none⟩,
       ⟨(some 25), .ld none (.tmp 24), none⟩,
       ⟨(some 5), .mv (.tmp 25), none⟩] [[], [0], [1], [2], [], [4], [5], [6], [3, 7], [8], [9, 0, 1, 2, 3, 4, 5, 6, 7, 8, 9]])
    .skip))
  (.seq (.reg [⟨(some 26), .mv (.tmp 0), none⟩,
     ⟨(some 27), .mv (.tmp 0), none⟩,
     ⟨(some 28), .nck (.tmp 27), none⟩,
     ⟨(some 29), .pad 1 (.tmp 28), none⟩,
     ⟨(some 30), .ld none (.tmp 29), none⟩,
     ⟨(some 31), .bin .add (.tmp 30) (.const (.int .i64 1)), none⟩,
     ⟨(some 32), .nck (.tmp 26), none⟩,
     ⟨(some 33), .pad 1 (.tmp 32), none⟩,
     ⟨none, .st 1 (.tmp 33) (.tmp 31), none⟩])
  (.seq (.reg [⟨(some 34), .mv (.tmp 5), none⟩,
     ⟨(some 35), .mv (.tmp 1), none⟩,
     ⟨(some 36), .call 44 [(.tmp 34), (.tmp 35)], none⟩,
     ⟨(some 4), .mv (.tmp 36), none⟩])
  .ret)))))
def glyphicmake_Seq_Next_v1.f (below1 : Int) (m0_0 : List (Int)) (m0_1 : Int) : Option (Int × Int) := (if m0_1 < (m0_0.length : Int) then ((lgt m0_0 m0_1).bind fun x185 => (some x185)) else (some 0) : Option (Int)).bind fun x195 => ((glyphicworld_Number.f x195 below1).bind fun t196 => (some (t196, wr64 (m0_1 + 1))))
theorem glyphicmake_Seq_Next_v1.ok {S : Seal} {B0 : Nat} {below1 : Int} {m0_0 : List (Int)} {m0_1 : Int} {r0_ : Int} {r1_ : Int}{a_m0_0 : Option Addr} {c_m0_0 : Nat} (h_m0_0 : SlE S E_i64 m0_0 a_m0_0) (e : glyphicmake_Seq_Next_v1.f below1 m0_0 m0_1 = some (r0_, r1_)) :
    Cal Try.prog 37 [.pointer (some ⟨B0, 0, none⟩), .int .i64 below1] ([⟨B0, [.slice a_m0_0 m0_0.length c_m0_0, .int .i64 m0_1], 2⟩] : List Own) S fun v H' S' => v = .int .i64 r0_ ∧ H' = ([⟨B0, [.slice a_m0_0 m0_0.length c_m0_0, .int .i64 r1_], 2⟩] : List Own) ∧ S' = S := by
  unfold glyphicmake_Seq_Next_v1.f at e
  refine cal_of (c := c37) (N := 37) Try.func37 rfl rfl (by kernel_rfl) (rs := [.t 4]) (by kernel_rfl) (Nat.le_of_ble_eq_true rfl) ?_
  unfold c37
  refine w_seq ?_
  refine w_reg fun all => ?_
  refine t_qz 1 [0, 1] (σ' := [(0, .pointer (some ⟨B0, 0, none⟩)), (1, .int .i64 below1)]) (by kernel_rfl) ?_
  refine t_end ?_
  show W _ _ _ _ _ _ _
  refine w_seq ?_
  refine w_reg fun all => ?_
  refine t_qz 1 [0, 1, 5] (σ' := [(0, .pointer (some ⟨B0, 0, none⟩)), (1, .int .i64 below1), (5, .int .i64 0)]) (by kernel_rfl) ?_
  refine t_end ?_
  show W _ _ _ _ _ _ _
  obtain ⟨x195, e182, e⟩ := bind_of e
  refine w_cut [0, 1, 5] (fun σ_ H_ S_ => [(0, .pointer (some ⟨B0, 0, none⟩)), (1, .int .i64 below1), (5, .int .i64 x195)] = σ_ ∧ ([⟨B0, [.slice a_m0_0 m0_0.length c_m0_0, .int .i64 m0_1], 2⟩] : List Own) = H_ ∧ S = S_) ?_ ?_
  · show W _ _ _ _ _ _ _
    refine w_seq ?_
    by_cases c184 : m0_1 < (m0_0.length : Int)
    · rw [if_pos c184] at e182
      have c184b : (decide (m0_1 < (m0_0.length : Int))) = true := decide_eq_true c184
      refine w_drwE mixed 10 [.v (.pointer (some ⟨B0, 0, none⟩)), .v (.pointer (some ⟨B0, 0, none⟩)), .v (.pointer (some ⟨B0, 1, none⟩)), .v (.int .i64 m0_1), .v (.pointer (some ⟨B0, 0, none⟩)), .v (.pointer (some ⟨B0, 0, none⟩)), .v (.pointer (some ⟨B0, 0, none⟩)), .v (.slice a_m0_0 m0_0.length c_m0_0), .v (.int .i64 (m0_0.length : Int)), .v (.bool true)] (by kernel_rfl) ?_ ?_
      · refine DI.sq 3 (by kernel_rfl) rfl ?_
        refine .cons (.ld1 rfl rfl rfl (.at 0 rfl rfl)) ?_
        refine DI.sq 3 (by kernel_rfl) rfl ?_
        refine .cons (.ld1 rfl rfl rfl (.at 0 rfl rfl)) ?_
        refine DI.sq 1 (by kernel_rfl) rfl ?_
        refine .cons (dv_quiet rfl (congrArg (fun t => some (Value.bool t)) c184b)) ?_
        exact .nil
      refine fk_q 10 [0, 1, 5, 15] (σ' := [(0, .pointer (some ⟨B0, 0, none⟩)), (1, .int .i64 below1), (5, .int .i64 0), (15, .bool true)]) t_more (by kernel_rfl) ?_
      refine fk_nil fun all => ?_
      refine t_keep [0, 1, 5, 15] (σ' := [(0, .pointer (some ⟨B0, 0, none⟩)), (1, .int .i64 below1), (5, .int .i64 0), (15, .bool true)]) (by kernel_rfl) ?_
      refine t_end ?_
      show W _ _ _ _ _ _ _
      refine w_cond rfl (fun _ => ?_) (fun c_ => by cases c_)
      show W _ _ _ _ _ _ _
      obtain ⟨x185, hx186, e182⟩ := bind_of e182
      obtain ⟨lb187, lo188, ll189, la190, lS191, lv192, lz193, lu194⟩ := sle_get (E := E_i64) h_m0_0 hx186
      refine w_drwE mixed 11 [.v (.pointer (some ⟨B0, 0, none⟩)), .v (.pointer (some ⟨B0, 0, none⟩)), .v (.pointer (some ⟨B0, 0, none⟩)), .v (.slice a_m0_0 m0_0.length c_m0_0), .v (.pointer (some ⟨B0, 0, none⟩)), .v (.pointer (some ⟨B0, 0, none⟩)), .v (.pointer (some ⟨B0, 1, none⟩)), .v (.int .i64 m0_1), .v (.pointer (some ⟨lb187, lo188 + (m0_1).toNat * 1 + 0, none⟩)), .v (.int .i64 x185), .v (.int .i64 x185)] (by kernel_rfl) ?_ ?_
      · refine DI.sq 3 (by kernel_rfl) rfl ?_
        refine .cons (.ld1 rfl rfl rfl (.at 0 rfl rfl)) ?_
        refine DI.sq 3 (by kernel_rfl) rfl ?_
        refine .cons (.ld1 rfl rfl rfl (.at 0 rfl rfl)) ?_
        refine .cons (.quiet rfl (ixs_sle rfl rfl la190 lz193 lu194)) ?_
        refine .cons (.ld1 rfl rfl rfl (.sealed lS191 (subl_at lv192 rfl))) ?_
        refine DI.sq 1 (by kernel_rfl) rfl ?_
        exact .nil
      refine fk_q 11 [0, 1, 5] (σ' := [(0, .pointer (some ⟨B0, 0, none⟩)), (1, .int .i64 below1), (5, .int .i64 x185)]) t_more (by kernel_rfl) ?_
      refine fk_nil fun all => ?_
      refine t_keep [0, 1, 5] (σ' := [(0, .pointer (some ⟨B0, 0, none⟩)), (1, .int .i64 below1), (5, .int .i64 x185)]) (by kernel_rfl) ?_
      refine t_end ?_
      obtain rfl := Option.some.inj e182
      exact ⟨([⟨B0, [.slice a_m0_0 m0_0.length c_m0_0, .int .i64 m0_1], 2⟩] : List Own), S, VS.sel [0] (by kernel_rfl), by kernel_rfl, rfl, rfl⟩
    · rw [if_neg c184] at e182
      have c184b : (decide (m0_1 < (m0_0.length : Int))) = false := decide_eq_false c184
      refine w_drwE mixed 10 [.v (.pointer (some ⟨B0, 0, none⟩)), .v (.pointer (some ⟨B0, 0, none⟩)), .v (.pointer (some ⟨B0, 1, none⟩)), .v (.int .i64 m0_1), .v (.pointer (some ⟨B0, 0, none⟩)), .v (.pointer (some ⟨B0, 0, none⟩)), .v (.pointer (some ⟨B0, 0, none⟩)), .v (.slice a_m0_0 m0_0.length c_m0_0), .v (.int .i64 (m0_0.length : Int)), .v (.bool false)] (by kernel_rfl) ?_ ?_
      · refine DI.sq 3 (by kernel_rfl) rfl ?_
        refine .cons (.ld1 rfl rfl rfl (.at 0 rfl rfl)) ?_
        refine DI.sq 3 (by kernel_rfl) rfl ?_
        refine .cons (.ld1 rfl rfl rfl (.at 0 rfl rfl)) ?_
        refine DI.sq 1 (by kernel_rfl) rfl ?_
        refine .cons (dv_quiet rfl (congrArg (fun t => some (Value.bool t)) c184b)) ?_
        exact .nil
      refine fk_q 10 [0, 1, 5, 15] (σ' := [(0, .pointer (some ⟨B0, 0, none⟩)), (1, .int .i64 below1), (5, .int .i64 0), (15, .bool false)]) t_more (by kernel_rfl) ?_
      refine fk_nil fun all => ?_
      refine t_keep [0, 1, 5, 15] (σ' := [(0, .pointer (some ⟨B0, 0, none⟩)), (1, .int .i64 below1), (5, .int .i64 0), (15, .bool false)]) (by kernel_rfl) ?_
      refine t_end ?_
      show W _ _ _ _ _ _ _
      refine w_cond rfl (fun c_ => by cases c_) (fun _ => ?_)
      show W _ _ _ _ _ _ _
      refine w_skip ?_
      obtain rfl := Option.some.inj e182
      exact ⟨([⟨B0, [.slice a_m0_0 m0_0.length c_m0_0, .int .i64 m0_1], 2⟩] : List Own), S, VS.sel [0] (by kernel_rfl), by kernel_rfl, rfl, rfl⟩
  · rintro σ_ H_ S_ ⟨rfl, rfl, rfl⟩
    refine w_seq ?_
    refine w_reg fun all => ?_
    refine t_qz 4 [1, 5, 26, 29] (σ' := [(1, .int .i64 below1), (5, .int .i64 x195), (26, .pointer (some ⟨B0, 0, none⟩)), (29, .pointer (some ⟨B0, 1, none⟩))]) (by kernel_rfl) ?_
    refine t_v (.ld1 rfl rfl rfl (.at 0 rfl rfl)) ?_
    refine t_qz 3 [1, 5, 31, 33] (σ' := [(1, .int .i64 below1), (5, .int .i64 x195), (31, .int .i64 (wr64 (m0_1 + 1))), (33, .pointer (some ⟨B0, 1, none⟩))]) (by kernel_rfl) ?_
    refine t_sti 0 (cs := [.slice a_m0_0 m0_0.length c_m0_0, .int .i64 (wr64 (m0_1 + 1))]) rfl rfl rfl rfl rfl rfl rfl rfl rfl ?_
    refine t_keep [1, 5] (σ' := [(1, .int .i64 below1), (5, .int .i64 x195)]) (by kernel_rfl) ?_
    refine t_end ?_
    show W _ _ _ _ _ _ _
    refine w_seq ?_
    refine w_reg fun all => ?_
    obtain ⟨t196, h197, e⟩ := bind_of e
    refine t_qz 2 [34, 35] (σ' := [(34, .int .i64 x195), (35, .int .i64 below1)]) (by kernel_rfl) ?_
    refine t_v (.call (vs := [.int .i64 x195, .int .i64 below1]) rfl rfl (by kernel_rfl) (glyphicworld_Number.ok h197)) ?_
    refine t_qz 1 [4] (σ' := [(4, .int .i64 t196)]) (by kernel_rfl) ?_
    refine t_end ?_
    show W _ _ _ _ _ _ _
    refine w_ret ?_
    simp only [Option.some.injEq, Prod.mk.injEq] at e
    obtain ⟨rfl, rfl⟩ := e
    exact ⟨[.int .i64 t196], ([⟨B0, [.slice a_m0_0 m0_0.length c_m0_0, .int .i64 (wr64 (m0_1 + 1))], 2⟩] : List Own), S, ⟨rfl, trivial⟩, VS.sel [0] (by kernel_rfl), rfl, rfl, rfl⟩

/-- glyphicmake.Point -/
def c18 : C :=
  (.seq (.reg [⟨(some 4), .new [(.int .i64 0), (.int .i64 0)], none⟩])
  (.seq (.reg [⟨(some 6), .mv (.tmp 0), none⟩,
     ⟨(some 7), .mv (.tmp 1), none⟩,
     ⟨(some 8), .bin .mul (.const (.int .i64 2)) (.tmp 7), none⟩,
     ⟨(some 9), .bin .add (.tmp 8) (.const (.int .i64 1)), none⟩,
     ⟨(some 10), .call 37 [(.tmp 6), (.tmp 9)], none⟩,
     ⟨(some 11), .mv (.tmp 1), none⟩,
     ⟨(some 12), .bin .sub (.tmp 10) (.tmp 11), none⟩,
     ⟨(some 5), .mv (.tmp 12), none⟩])
  (.seq (.reg [⟨(some 13), .mv (.tmp 5), none⟩,
     ⟨(some 14), .mv (.tmp 0), none⟩,
     ⟨(some 15), .mv (.tmp 1), none⟩,
     ⟨(some 16), .bin .mul (.const (.int .i64 2)) (.tmp 15), none⟩,
     ⟨(some 17), .bin .add (.tmp 16) (.const (.int .i64 1)), none⟩,
     ⟨(some 18), .call 37 [(.tmp 14), (.tmp 17)], none⟩,
     ⟨(some 19), .mv (.tmp 1), none⟩,
     ⟨(some 20), .bin .sub (.tmp 18) (.tmp 19), none⟩,
     ⟨(some 21), .bld [(.int .i64 0), (.int .i64 0)] [(0, 1, (.tmp 13)), (1, 1, (.tmp 20))], none⟩,
     ⟨none, .st 2 (.tmp 4) (.tmp 21), none⟩])
  .ret)))
def glyphicmake_Point_v1.f (far1 : Int) (m0_0 : List (Int)) (m0_1 : Int) : Option (Int × Int × Int) := (glyphicmake_Seq_Next_v1.f (wr64 ((wr64 (2 * far1)) + 1)) m0_0 m0_1).bind fun (t209, t210) => ((glyphicmake_Seq_Next_v1.f (wr64 ((wr64 (2 * far1)) + 1)) m0_0 t210).bind fun (t212, t213) => (some (wr64 (t209 - far1), wr64 (t212 - far1), t213)))
theorem glyphicmake_Point_v1.ok {S : Seal} {B0 : Nat} {far1 : Int} {m0_0 : List (Int)} {m0_1 : Int} {r0_ : Int} {r1_ : Int} {r2_ : Int}{a_m0_0 : Option Addr} {c_m0_0 : Nat} (h_m0_0 : SlE S E_i64 m0_0 a_m0_0) (e : glyphicmake_Point_v1.f far1 m0_0 m0_1 = some (r0_, r1_, r2_)) :
    Cal Try.prog 18 [.pointer (some ⟨B0, 0, none⟩), .int .i64 far1] ([⟨B0, [.slice a_m0_0 m0_0.length c_m0_0, .int .i64 m0_1], 2⟩] : List Own) S fun v H' S' => v = .agg #[.int .i64 r0_, .int .i64 r1_] ∧ H' = ([⟨B0, [.slice a_m0_0 m0_0.length c_m0_0, .int .i64 r2_], 2⟩] : List Own) ∧ S' = S := by
  unfold glyphicmake_Point_v1.f at e
  refine cal_of (c := c18) (N := 22) Try.func18 rfl rfl (by kernel_rfl) (rs := [.cn 2 4]) (by kernel_rfl) (Nat.le_of_ble_eq_true rfl) ?_
  unfold c18
  refine w_seq ?_
  refine w_reg fun all => ?_
  refine t_a (.new rfl rfl) fun b208 fb208 sb208 => ?_
  refine t_keep [0, 1, 4] (σ' := [(0, .pointer (some ⟨B0, 0, none⟩)), (1, .int .i64 far1), (4, .pointer (some ⟨b208, 0, none⟩))]) (by kernel_rfl) ?_
  refine t_end ?_
  show W _ _ _ _ _ _ _
  refine w_seq ?_
  refine w_reg fun all => ?_
  obtain ⟨⟨t209, t210⟩, h211, e⟩ := bind_of e
  try dsimp only at e
  refine t_qz 4 [0, 1, 4, 6, 9] (σ' := [(0, .pointer (some ⟨B0, 0, none⟩)), (1, .int .i64 far1), (4, .pointer (some ⟨b208, 0, none⟩)), (6, .pointer (some ⟨B0, 0, none⟩)), (9, .int .i64 (wr64 ((wr64 (2 * far1)) + 1)))]) (by kernel_rfl) ?_
  refine t_call (vs := [.pointer (some ⟨B0, 0, none⟩), .int .i64 (wr64 ((wr64 (2 * far1)) + 1))]) (H1 := ([⟨B0, [.slice a_m0_0 m0_0.length c_m0_0, .int .i64 m0_1], 2⟩] : List Own)) (F := ([⟨b208, [.int .i64 0, .int .i64 0], 2⟩] : List Own)) rfl rfl (by kernel_rfl) (sel_perm (is := [1]) (by kernel_rfl)) (glyphicmake_Seq_Next_v1.ok h_m0_0 h211) ?_
  rintro _ _ S_ ⟨rfl, rfl, hS_⟩
  obtain rfl := hS_.symm
  refine t_qz 3 [0, 1, 4, 5] (σ' := [(0, .pointer (some ⟨B0, 0, none⟩)), (1, .int .i64 far1), (4, .pointer (some ⟨b208, 0, none⟩)), (5, .int .i64 (wr64 (t209 - far1)))]) (by kernel_rfl) ?_
  refine t_end ?_
  show W _ _ _ _ _ _ _
  refine w_seq ?_
  refine w_reg fun all => ?_
  obtain ⟨⟨t212, t213⟩, h214, e⟩ := bind_of e
  try dsimp only at e
  refine t_qz 5 [1, 4, 13, 14, 17] (σ' := [(1, .int .i64 far1), (4, .pointer (some ⟨b208, 0, none⟩)), (13, .int .i64 (wr64 (t209 - far1))), (14, .pointer (some ⟨B0, 0, none⟩)), (17, .int .i64 (wr64 ((wr64 (2 * far1)) + 1)))]) (by kernel_rfl) ?_
  refine t_call (vs := [.pointer (some ⟨B0, 0, none⟩), .int .i64 (wr64 ((wr64 (2 * far1)) + 1))]) (H1 := ([⟨B0, [.slice a_m0_0 m0_0.length c_m0_0, .int .i64 t210], 2⟩] : List Own)) (F := ([⟨b208, [.int .i64 0, .int .i64 0], 2⟩] : List Own)) rfl rfl (by kernel_rfl) (sel_perm (is := [0]) (by kernel_rfl)) (glyphicmake_Seq_Next_v1.ok h_m0_0 h214) ?_
  rintro _ _ S_ ⟨rfl, rfl, hS_⟩
  obtain rfl := hS_.symm
  refine t_qz 3 [4, 21] (σ' := [(4, .pointer (some ⟨b208, 0, none⟩)), (21, .agg #[.int .i64 (wr64 (t209 - far1)), .int .i64 (wr64 (t212 - far1))])]) (by kernel_rfl) ?_
  refine t_sti 1 (cs := [.int .i64 (wr64 (t209 - far1)), .int .i64 (wr64 (t212 - far1))]) rfl rfl rfl rfl rfl rfl rfl rfl rfl ?_
  refine t_keep [4] (σ' := [(4, .pointer (some ⟨b208, 0, none⟩))]) (by kernel_rfl) ?_
  refine t_end ?_
  show W _ _ _ _ _ _ _
  refine w_ret ?_
  simp only [Option.some.injEq, Prod.mk.injEq] at e
  obtain ⟨rfl, rfl, rfl⟩ := e
  exact ⟨[.agg #[.int .i64 (wr64 (t209 - far1)), .int .i64 (wr64 (t212 - far1))]], ([⟨B0, [.slice a_m0_0 m0_0.length c_m0_0, .int .i64 t213], 2⟩] : List Own), S, ⟨⟨_, _, _, rfl, .at 1 rfl rfl, rfl⟩, trivial⟩, VS.sel [0] (by kernel_rfl), rfl, rfl, rfl⟩

/-- glyphicmake.Ring -/
def c43 : C :=
  (.seq (.reg [⟨(some 6), .mv (.const (.slice none 0 0)), none⟩])
  (.seq (.reg [⟨(some 13), .mv (.tmp 0), none⟩,
     ⟨(some 14), .mv (.tmp 1), none⟩,
     ⟨(some 15), .call 37 [(.tmp 13), (.tmp 14)], none⟩,
     ⟨(some 16), .bin .add (.const (.int .i64 3)) (.tmp 15), none⟩,
     ⟨(some 7), .mv (.tmp 16), none⟩])
  (.seq (.reg [⟨(some 17), .mv (.tmp 0), none⟩,
     ⟨(some 18), .mv (.tmp 2), none⟩,
     ⟨(some 19), .call 18 [(.tmp 17), (.tmp 18)], none⟩,
     ⟨(some 8), .new [(.int .i64 0), (.int .i64 0)], none⟩,
     ⟨none, .st 2 (.tmp 8) (.tmp 19), none⟩])
  (.seq (.reg [⟨(some 20), .ld (some 2) (.tmp 8), none⟩,
     ⟨(some 9), .new [(.int .i64 0), (.int .i64 0)], none⟩,
     ⟨none, .st 2 (.tmp 9) (.tmp 20), none⟩])
  (.seq (.reg [⟨(some 10), .mv (.const (.slice none 0 0)), none⟩])
  (.seq (.seq (.reg [⟨(some 11), .mv (.const (.int .i64 1)), none⟩])
   (.block 0 (.loop (.seq (.seq (.reg [⟨(some 21), .mv (.tmp 11), none⟩,
         ⟨(some 22), .mv (.tmp 7), none⟩,
         ⟨(some 23), .bin .lss (.tmp 21) (.tmp 22), none⟩])
      (.cond (.tmp 23)
       .skip
       (.exit 0)))
     (.seq (.block 1 (.seq (.reg [⟨(some 26), .mv (.tmp 0), none⟩,
          ⟨(some 27), .mv (.tmp 2), none⟩,
          ⟨(some 28), .call 18 [(.tmp 26), (.tmp 27)], none⟩,
          ⟨(some 12), .new [(.int .i64 0), (.int .i64 0)], none⟩,
          ⟨none, .st 2 (.tmp 12) (.tmp 28), none⟩])
       (.seq (.reg [⟨(some 29), .mv (.tmp 10), none⟩,
          ⟨(some 30), .ld (some 2) (.tmp 9), none⟩,
          ⟨(some 31), .ld (some 2) (.tmp 12), none⟩,
          ⟨(some 32), .bld [(.int .i64 0), (.int .i64 0), (.int .i64 0), (.int .i64 0)] [(0, 2, (.tmp 30)), (2, 2, (.tmp 31))], none⟩,
          ⟨(some 33), .bsl [(.int .i64 0), (.int .i64 0), (.int .i64 0), (.int .i64 0)] 1 [(0, 4, (.tmp 32))], none⟩,
          ⟨(some 34), .app 36 4 32 [(.int .i64 0), (.int .i64 0), (.int .i64 0), (.int .i64 0)] (.tmp 29) (.tmp 33), none⟩,
          ⟨(some 10), .mv (.tmp 34), none⟩])
       (.reg [⟨(some 35), .ld (some 2) (.tmp 12), none⟩,
         ⟨none, .st 2 (.tmp 9) (.tmp 35), none⟩]))))
     (.reg [⟨(some 24), .mv (.tmp 11), none⟩,
       ⟨(some 25), .bin .add (.tmp 24) (.const (.int .i64 1)), none⟩,
       ⟨(some 11), .mv (.tmp 25), none⟩]))))))
  (.seq (.reg [⟨(some 36), .mv (.tmp 10), none⟩,
     ⟨(some 37), .ld (some 2) (.tmp 9), none⟩,
     ⟨(some 38), .ld (some 2) (.tmp 8), none⟩,
     ⟨(some 39), .bld [(.int .i64 0), (.int .i64 0), (.int .i64 0), (.int .i64 0)] [(0, 2, (.tmp 37)), (2, 2, (.tmp 38))], none⟩,
     ⟨(some 40), .bsl [(.int .i64 0), (.int .i64 0), (.int .i64 0), (.int .i64 0)] 1 [(0, 4, (.tmp 39))], none⟩,
     ⟨(some 41), .app 36 4 32 [(.int .i64 0), (.int .i64 0), (.int .i64 0), (.int .i64 0)] (.tmp 36) (.tmp 40), none⟩,
     ⟨(some 6), .mv (.tmp 41), none⟩])
  .ret)))))))
def glyphicmake_Ring_v1.l0 : Nat → Int → List (Int) → Int → Int → List (Int × Int × Int × Int) → Int → Int → Int → Option (List (Int × Int × Int × Int) × Int × Int × Int)
  | 0, _, _, _, _, _, _, _, _ => none
  | k + 1, far2, m0_0, t251, x263, y265, x266, x267, x268 => if x263 < (wr64 (3 + t251)) then ((glyphicmake_Point_v1.f far2 m0_0 x268).bind fun (t270, t271, t272) => ((lapp y265 ([(x266, x267, t270, t271)] : List (Int × Int × Int × Int))).bind fun y276 => (glyphicmake_Ring_v1.l0 k far2 m0_0 t251 (wr64 (x263 + 1)) y276 t270 t271 t272))) else (some (y265, x266, x267, x268))
def glyphicmake_Ring_v1.f (k : Nat) (most1 : Int) (far2 : Int) (m0_0 : List (Int)) (m0_1 : Int) : Option (List (Int × Int × Int × Int) × Int) := (glyphicmake_Seq_Next_v1.f most1 m0_0 m0_1).bind fun (t251, t252) => ((glyphicmake_Point_v1.f far2 m0_0 t252).bind fun (t254, t255, t256) => ((glyphicmake_Ring_v1.l0 k far2 m0_0 t251 1 ([] : List (Int × Int × Int × Int)) t254 t255 t256 : Option (List (Int × Int × Int × Int) × Int × Int × Int)).bind fun (y282, x283, x284, x285) => ((lapp y282 ([(x283, x284, t254, t255)] : List (Int × Int × Int × Int))).bind fun y287 => (some (y287, x285)))))
theorem glyphicmake_Ring_v1.ok {S : Seal} {B0 : Nat} {k : Nat} {most1 : Int} {far2 : Int} {m0_0 : List (Int)} {m0_1 : Int} {r0_ : List (Int × Int × Int × Int)} {r1_ : Int}{a_m0_0 : Option Addr} {c_m0_0 : Nat} (h_m0_0 : SlE S E_i64 m0_0 a_m0_0) (e : glyphicmake_Ring_v1.f k most1 far2 m0_0 m0_1 = some (r0_, r1_)) :
    Cal Try.prog 43 [.pointer (some ⟨B0, 0, none⟩), .int .i64 most1, .int .i64 far2] ([⟨B0, [.slice a_m0_0 m0_0.length c_m0_0, .int .i64 m0_1], 2⟩] : List Own) S fun v H' S' => ∃ (N0_ : Option Nat) (nN0_ : Nat) , v = .slice (ad N0_) r0_.length (nN0_ / 4) ∧ H' = ([⟨N0_, encL E_i644 r0_, nN0_⟩, ⟨B0, [.slice a_m0_0 m0_0.length c_m0_0, .int .i64 r1_], 2⟩] : List Own) ∧ S' = S := by
  unfold glyphicmake_Ring_v1.f at e
  refine cal_of (c := c43) (N := 42) Try.func43 rfl rfl (by kernel_rfl) (rs := [.t 6]) (by kernel_rfl) (Nat.le_of_ble_eq_true rfl) ?_
  unfold c43
  refine w_seq ?_
  refine w_reg fun all => ?_
  refine t_qz 1 [0, 1, 2] (σ' := [(0, .pointer (some ⟨B0, 0, none⟩)), (1, .int .i64 most1), (2, .int .i64 far2)]) (by kernel_rfl) ?_
  refine t_end ?_
  show W _ _ _ _ _ _ _
  refine w_seq ?_
  refine w_reg fun all => ?_
  obtain ⟨⟨t251, t252⟩, h253, e⟩ := bind_of e
  try dsimp only at e
  refine t_qz 2 [0, 2, 13, 14] (σ' := [(0, .pointer (some ⟨B0, 0, none⟩)), (2, .int .i64 far2), (13, .pointer (some ⟨B0, 0, none⟩)), (14, .int .i64 most1)]) (by kernel_rfl) ?_
  refine t_call (vs := [.pointer (some ⟨B0, 0, none⟩), .int .i64 most1]) (H1 := ([⟨B0, [.slice a_m0_0 m0_0.length c_m0_0, .int .i64 m0_1], 2⟩] : List Own)) (F := ([] : List Own)) rfl rfl (by kernel_rfl) (sel_perm (is := [0]) (by kernel_rfl)) (glyphicmake_Seq_Next_v1.ok h_m0_0 h253) ?_
  rintro _ _ S_ ⟨rfl, rfl, hS_⟩
  obtain rfl := hS_.symm
  refine t_qz 2 [0, 2, 7] (σ' := [(0, .pointer (some ⟨B0, 0, none⟩)), (2, .int .i64 far2), (7, .int .i64 (wr64 (3 + t251)))]) (by kernel_rfl) ?_
  refine t_end ?_
  show W _ _ _ _ _ _ _
  refine w_seq ?_
  refine w_reg fun all => ?_
  obtain ⟨⟨t254, t255, t256⟩, h257, e⟩ := bind_of e
  try dsimp only at e
  refine t_qz 2 [0, 2, 7, 17, 18] (σ' := [(0, .pointer (some ⟨B0, 0, none⟩)), (2, .int .i64 far2), (7, .int .i64 (wr64 (3 + t251))), (17, .pointer (some ⟨B0, 0, none⟩)), (18, .int .i64 far2)]) (by kernel_rfl) ?_
  refine t_call (vs := [.pointer (some ⟨B0, 0, none⟩), .int .i64 far2]) (H1 := ([⟨B0, [.slice a_m0_0 m0_0.length c_m0_0, .int .i64 t252], 2⟩] : List Own)) (F := ([] : List Own)) rfl rfl (by kernel_rfl) (sel_perm (is := [0]) (by kernel_rfl)) (glyphicmake_Point_v1.ok h_m0_0 h257) ?_
  rintro _ _ S_ ⟨rfl, rfl, hS_⟩
  obtain rfl := hS_.symm
  refine t_a (.new rfl rfl) fun b258 fb258 sb258 => ?_
  refine t_sti 0 (cs := [.int .i64 t254, .int .i64 t255]) rfl rfl rfl rfl rfl rfl rfl rfl rfl ?_
  refine t_keep [0, 2, 7, 8] (σ' := [(0, .pointer (some ⟨B0, 0, none⟩)), (2, .int .i64 far2), (7, .int .i64 (wr64 (3 + t251))), (8, .pointer (some ⟨b258, 0, none⟩))]) (by kernel_rfl) ?_
  refine t_end ?_
  show W _ _ _ _ _ _ _
  refine w_seq ?_
  refine w_reg fun all => ?_
  refine t_v (.ldn rfl rfl rfl (.at 0 rfl rfl)) ?_
  refine t_a (.new rfl rfl) fun b259 fb259 sb259 => ?_
  refine t_sti 0 (cs := [.int .i64 t254, .int .i64 t255]) rfl rfl rfl rfl rfl rfl rfl rfl rfl ?_
  refine t_keep [0, 2, 7, 8, 9] (σ' := [(0, .pointer (some ⟨B0, 0, none⟩)), (2, .int .i64 far2), (7, .int .i64 (wr64 (3 + t251))), (8, .pointer (some ⟨b258, 0, none⟩)), (9, .pointer (some ⟨b259, 0, none⟩))]) (by kernel_rfl) ?_
  refine t_end ?_
  show W _ _ _ _ _ _ _
  refine w_seq ?_
  refine w_reg fun all => ?_
  refine t_qz 1 [0, 2, 7, 8, 9, 10] (σ' := [(0, .pointer (some ⟨B0, 0, none⟩)), (2, .int .i64 far2), (7, .int .i64 (wr64 (3 + t251))), (8, .pointer (some ⟨b258, 0, none⟩)), (9, .pointer (some ⟨b259, 0, none⟩)), (10, .slice none 0 0)]) (by kernel_rfl) ?_
  refine t_end ?_
  show W _ _ _ _ _ _ _
  obtain ⟨⟨y282, x283, x284, x285⟩, e261, e⟩ := bind_of e
  try dsimp only at e
  refine w_cut [8, 9, 10] (fun σ_ H_ S_ => ∃ (a281 : Option Nat) (na281 : Nat), [(8, .pointer (some ⟨b258, 0, none⟩)), (9, .pointer (some ⟨b259, 0, none⟩)), (10, .slice (ad a281) y282.length (na281 / 4))] = σ_ ∧ ([⟨b259, [.int .i64 x283, .int .i64 x284], 2⟩, ⟨b258, [.int .i64 t254, .int .i64 t255], 2⟩, ⟨B0, [.slice a_m0_0 m0_0.length c_m0_0, .int .i64 x285], 2⟩, ⟨a281, encL E_i644 y282, na281⟩] : List Own) = H_ ∧ S = S_) ?_ ?_
  · show W _ _ _ _ _ _ _
    refine w_seq ?_
    refine w_reg fun all => ?_
    refine t_qz 1 [0, 2, 7, 8, 9, 10, 11] (σ' := [(0, .pointer (some ⟨B0, 0, none⟩)), (2, .int .i64 far2), (7, .int .i64 (wr64 (3 + t251))), (8, .pointer (some ⟨b258, 0, none⟩)), (9, .pointer (some ⟨b259, 0, none⟩)), (10, .slice none 0 0), (11, .int .i64 1)]) (by kernel_rfl) ?_
    refine t_end ?_
    show W _ _ _ _ _ _ _
    refine w_block ?_
    refine w_vs VS.vac ?_
    refine w_kp [0, 2, 7, 8, 9, 10, 11] (σ' := [(0, .pointer (some ⟨B0, 0, none⟩)), (2, .int .i64 far2), (7, .int .i64 (wr64 (3 + t251))), (8, .pointer (some ⟨b258, 0, none⟩)), (9, .pointer (some ⟨b259, 0, none⟩)), (10, .slice (ad none) ([] : List (Int × Int × Int × Int)).length (0 / 4)), (11, .int .i64 1)]) (by kernel_rfl) ?_
    refine w_loop (fun n_ σ_ H_ S_ => ∃ (x263 : Int) (y265 : List (Int × Int × Int × Int)) (x266 : Int) (x267 : Int) (x268 : Int), ∃ (a264 : Option Nat) (na264 : Nat), [(0, .pointer (some ⟨B0, 0, none⟩)), (2, .int .i64 far2), (7, .int .i64 (wr64 (3 + t251))), (8, .pointer (some ⟨b258, 0, none⟩)), (9, .pointer (some ⟨b259, 0, none⟩)), (10, .slice (ad a264) y265.length (na264 / 4)), (11, .int .i64 x263)] = σ_ ∧ ([⟨a264, encL E_i644 y265, na264⟩, ⟨b259, [.int .i64 x266, .int .i64 x267], 2⟩, ⟨b258, [.int .i64 t254, .int .i64 t255], 2⟩, ⟨B0, [.slice a_m0_0 m0_0.length c_m0_0, .int .i64 x268], 2⟩] : List Own) = H_ ∧ S = S_ ∧ glyphicmake_Ring_v1.l0 n_ far2 m0_0 t251 x263 y265 x266 x267 x268 = some (y282, x283, x284, x285)) _ ⟨1, ([] : List (Int × Int × Int × Int)), t254, t255, t256, none, 0, rfl, rfl, rfl, e261⟩ ?_
    rintro n280 σ_ H_ S_ ⟨x263, y265, x266, x267, x268, a264, na264, rfl, rfl, rfl, e261⟩
    cases n280 with
    | zero => rw [glyphicmake_Ring_v1.l0.eq_1] at e261; cases e261
    | succ k_ =>
      rw [glyphicmake_Ring_v1.l0.eq_2] at e261
      refine w_seq ?_
      refine w_seq ?_
      refine w_reg fun all => ?_
      by_cases c269 : x263 < (wr64 (3 + t251))
      · rw [if_pos c269] at e261
        have c269b : (decide (x263 < (wr64 (3 + t251)))) = true := decide_eq_true c269
        refine t_qz 2 [0, 2, 7, 8, 9, 10, 11, 21, 22] (σ' := [(0, .pointer (some ⟨B0, 0, none⟩)), (2, .int .i64 far2), (7, .int .i64 (wr64 (3 + t251))), (8, .pointer (some ⟨b258, 0, none⟩)), (9, .pointer (some ⟨b259, 0, none⟩)), (10, .slice (ad a264) y265.length (na264 / 4)), (11, .int .i64 x263), (21, .int .i64 x263), (22, .int .i64 (wr64 (3 + t251)))]) (by kernel_rfl) ?_
        refine t_v (dv_quiet rfl (congrArg (fun t => some (Value.bool t)) c269b)) ?_
        refine t_keep [0, 2, 7, 8, 9, 10, 11, 23] (σ' := [(0, .pointer (some ⟨B0, 0, none⟩)), (2, .int .i64 far2), (7, .int .i64 (wr64 (3 + t251))), (8, .pointer (some ⟨b258, 0, none⟩)), (9, .pointer (some ⟨b259, 0, none⟩)), (10, .slice (ad a264) y265.length (na264 / 4)), (11, .int .i64 x263), (23, .bool true)]) (by kernel_rfl) ?_
        refine t_end ?_
        show W _ _ _ _ _ _ _
        refine w_cond rfl (fun _ => ?_) (fun c_ => by cases c_)
        show W _ _ _ _ _ _ _
        refine w_skip ?_
        show W _ _ _ _ _ _ _
        refine w_seq ?_
        refine w_block ?_
        refine w_seq ?_
        refine w_reg fun all => ?_
        obtain ⟨⟨t270, t271, t272⟩, h273, e261⟩ := bind_of e261
        try dsimp only at e261
        refine t_qz 2 [0, 2, 7, 8, 9, 10, 11, 26, 27] (σ' := [(0, .pointer (some ⟨B0, 0, none⟩)), (2, .int .i64 far2), (7, .int .i64 (wr64 (3 + t251))), (8, .pointer (some ⟨b258, 0, none⟩)), (9, .pointer (some ⟨b259, 0, none⟩)), (10, .slice (ad a264) y265.length (na264 / 4)), (11, .int .i64 x263), (26, .pointer (some ⟨B0, 0, none⟩)), (27, .int .i64 far2)]) (by kernel_rfl) ?_
        refine t_call (vs := [.pointer (some ⟨B0, 0, none⟩), .int .i64 far2]) (H1 := ([⟨B0, [.slice a_m0_0 m0_0.length c_m0_0, .int .i64 x268], 2⟩] : List Own)) (F := ([⟨a264, encL E_i644 y265, na264⟩, ⟨b259, [.int .i64 x266, .int .i64 x267], 2⟩, ⟨b258, [.int .i64 t254, .int .i64 t255], 2⟩] : List Own)) rfl rfl (by kernel_rfl) (sel_perm (is := [3]) (by kernel_rfl)) (glyphicmake_Point_v1.ok h_m0_0 h273) ?_
        rintro _ _ S_ ⟨rfl, rfl, hS_⟩
        obtain rfl := hS_.symm
        refine t_a (.new rfl rfl) fun b274 fb274 sb274 => ?_
        refine t_sti 0 (cs := [.int .i64 t270, .int .i64 t271]) rfl rfl rfl rfl rfl rfl rfl rfl rfl ?_
        refine t_keep [0, 2, 7, 8, 9, 10, 11, 12] (σ' := [(0, .pointer (some ⟨B0, 0, none⟩)), (2, .int .i64 far2), (7, .int .i64 (wr64 (3 + t251))), (8, .pointer (some ⟨b258, 0, none⟩)), (9, .pointer (some ⟨b259, 0, none⟩)), (10, .slice (ad a264) y265.length (na264 / 4)), (11, .int .i64 x263), (12, .pointer (some ⟨b274, 0, none⟩))]) (by kernel_rfl) ?_
        refine t_end ?_
        show W _ _ _ _ _ _ _
        refine w_seq ?_
        refine w_reg fun all => ?_
        refine t_qz 1 [0, 2, 7, 8, 9, 11, 12, 29] (σ' := [(0, .pointer (some ⟨B0, 0, none⟩)), (2, .int .i64 far2), (7, .int .i64 (wr64 (3 + t251))), (8, .pointer (some ⟨b258, 0, none⟩)), (9, .pointer (some ⟨b259, 0, none⟩)), (11, .int .i64 x263), (12, .pointer (some ⟨b274, 0, none⟩)), (29, .slice (ad a264) y265.length (na264 / 4))]) (by kernel_rfl) ?_
        refine t_v (.ldn rfl rfl rfl (.at 3 rfl rfl)) ?_
        refine t_v (.ldn rfl rfl rfl (.at 0 rfl rfl)) ?_
        refine t_qz 1 [0, 2, 7, 8, 9, 11, 12, 29, 32] (σ' := [(0, .pointer (some ⟨B0, 0, none⟩)), (2, .int .i64 far2), (7, .int .i64 (wr64 (3 + t251))), (8, .pointer (some ⟨b258, 0, none⟩)), (9, .pointer (some ⟨b259, 0, none⟩)), (11, .int .i64 x263), (12, .pointer (some ⟨b274, 0, none⟩)), (29, .slice (ad a264) y265.length (na264 / 4)), (32, .agg #[.int .i64 x266, .int .i64 x267, .int .i64 t270, .int .i64 t271])]) (by kernel_rfl) ?_
        refine t_a (.bsl rfl rfl rfl rfl) fun b275 fb275 sb275 => ?_
        obtain ⟨y276, hl277, e261⟩ := bind_of e261
        refine t_appX (E := E_i644) (L := y265) (X := ([(x266, x267, t270, t271)] : List (Int × Int × Int × Int))) (F := ([⟨b275, [.int .i64 x266, .int .i64 x267, .int .i64 t270, .int .i64 t271], 4⟩, ⟨b274, [.int .i64 t270, .int .i64 t271], 2⟩, ⟨B0, [.slice a_m0_0 m0_0.length c_m0_0, .int .i64 t272], 2⟩, ⟨b259, [.int .i64 x266, .int .i64 x267], 2⟩, ⟨b258, [.int .i64 t254, .int .i64 t255], 2⟩] : List Own)) rfl rfl rfl rfl (sel_perm (is := [3]) (by kernel_rfl)) rfl (Or.inr ⟨_, _, rfl, .at 0 rfl (by kernel_rfl)⟩) rfl (by decide) (by decide) rfl hl277 fun a278 na278 => ?_
        refine t_qz 1 [0, 2, 7, 8, 9, 10, 11, 12] (σ' := [(0, .pointer (some ⟨B0, 0, none⟩)), (2, .int .i64 far2), (7, .int .i64 (wr64 (3 + t251))), (8, .pointer (some ⟨b258, 0, none⟩)), (9, .pointer (some ⟨b259, 0, none⟩)), (10, .slice (ad a278) y276.length (na278 / 4)), (11, .int .i64 x263), (12, .pointer (some ⟨b274, 0, none⟩))]) (by kernel_rfl) ?_
        refine t_end ?_
        show W _ _ _ _ _ _ _
        refine w_reg fun all => ?_
        refine t_v (.ldn rfl rfl rfl (.at 2 rfl rfl)) ?_
        refine t_sti 4 (cs := [.int .i64 t270, .int .i64 t271]) rfl rfl rfl rfl rfl rfl rfl rfl rfl ?_
        refine t_keep [0, 2, 7, 8, 9, 10, 11] (σ' := [(0, .pointer (some ⟨B0, 0, none⟩)), (2, .int .i64 far2), (7, .int .i64 (wr64 (3 + t251))), (8, .pointer (some ⟨b258, 0, none⟩)), (9, .pointer (some ⟨b259, 0, none⟩)), (10, .slice (ad a278) y276.length (na278 / 4)), (11, .int .i64 x263)]) (by kernel_rfl) ?_
        refine t_end ?_
        show W _ _ _ _ _ _ _
        refine w_reg fun all => ?_
        refine t_qz 3 [0, 2, 7, 8, 9, 10, 11] (σ' := [(0, .pointer (some ⟨B0, 0, none⟩)), (2, .int .i64 far2), (7, .int .i64 (wr64 (3 + t251))), (8, .pointer (some ⟨b258, 0, none⟩)), (9, .pointer (some ⟨b259, 0, none⟩)), (10, .slice (ad a278) y276.length (na278 / 4)), (11, .int .i64 (wr64 (x263 + 1)))]) (by kernel_rfl) ?_
        refine t_end ?_
        exact ⟨k_, Nat.lt_succ_self _, [(0, .pointer (some ⟨B0, 0, none⟩)), (2, .int .i64 far2), (7, .int .i64 (wr64 (3 + t251))), (8, .pointer (some ⟨b258, 0, none⟩)), (9, .pointer (some ⟨b259, 0, none⟩)), (10, .slice (ad a278) y276.length (na278 / 4)), (11, .int .i64 (wr64 (x263 + 1)))], ([⟨a278, encL E_i644 y276, na278⟩, ⟨b259, [.int .i64 t270, .int .i64 t271], 2⟩, ⟨b258, [.int .i64 t254, .int .i64 t255], 2⟩, ⟨B0, [.slice a_m0_0 m0_0.length c_m0_0, .int .i64 t272], 2⟩] : List Own), S, keep_sub [0, 2, 7, 8, 9, 10, 11] (by kernel_rfl), VS.sel [0, 3, 3, 2] (by kernel_rfl), wr64 (x263 + 1), y276, t270, t271, t272, a278, na278, rfl, rfl, rfl, e261⟩
      · rw [if_neg c269] at e261
        have c269b : (decide (x263 < (wr64 (3 + t251)))) = false := decide_eq_false c269
        refine t_qz 2 [0, 2, 7, 8, 9, 10, 11, 21, 22] (σ' := [(0, .pointer (some ⟨B0, 0, none⟩)), (2, .int .i64 far2), (7, .int .i64 (wr64 (3 + t251))), (8, .pointer (some ⟨b258, 0, none⟩)), (9, .pointer (some ⟨b259, 0, none⟩)), (10, .slice (ad a264) y265.length (na264 / 4)), (11, .int .i64 x263), (21, .int .i64 x263), (22, .int .i64 (wr64 (3 + t251)))]) (by kernel_rfl) ?_
        refine t_v (dv_quiet rfl (congrArg (fun t => some (Value.bool t)) c269b)) ?_
        refine t_keep [0, 2, 7, 8, 9, 10, 11, 23] (σ' := [(0, .pointer (some ⟨B0, 0, none⟩)), (2, .int .i64 far2), (7, .int .i64 (wr64 (3 + t251))), (8, .pointer (some ⟨b258, 0, none⟩)), (9, .pointer (some ⟨b259, 0, none⟩)), (10, .slice (ad a264) y265.length (na264 / 4)), (11, .int .i64 x263), (23, .bool false)]) (by kernel_rfl) ?_
        refine t_end ?_
        show W _ _ _ _ _ _ _
        refine w_cond rfl (fun c_ => by cases c_) (fun _ => ?_)
        show W _ _ _ _ _ _ _
        refine w_exit ?_
        simp only [Option.some.injEq, Prod.mk.injEq] at e261
        obtain ⟨rfl, rfl, rfl, rfl⟩ := e261
        exact ⟨([⟨b259, [.int .i64 x266, .int .i64 x267], 2⟩, ⟨b258, [.int .i64 t254, .int .i64 t255], 2⟩, ⟨B0, [.slice a_m0_0 m0_0.length c_m0_0, .int .i64 x268], 2⟩, ⟨a264, encL E_i644 y265, na264⟩] : List Own), S, VS.sel [1, 1, 1, 0] (by kernel_rfl), a264, na264, by kernel_rfl, rfl, rfl⟩
  · rintro σ_ H_ S_ ⟨a281, na281, rfl, rfl, rfl⟩
    refine w_seq ?_
    refine w_reg fun all => ?_
    refine t_qz 1 [8, 9, 36] (σ' := [(8, .pointer (some ⟨b258, 0, none⟩)), (9, .pointer (some ⟨b259, 0, none⟩)), (36, .slice (ad a281) y282.length (na281 / 4))]) (by kernel_rfl) ?_
    refine t_v (.ldn rfl rfl rfl (.at 0 rfl rfl)) ?_
    refine t_v (.ldn rfl rfl rfl (.at 1 rfl rfl)) ?_
    refine t_qz 1 [36, 39] (σ' := [(36, .slice (ad a281) y282.length (na281 / 4)), (39, .agg #[.int .i64 x283, .int .i64 x284, .int .i64 t254, .int .i64 t255])]) (by kernel_rfl) ?_
    refine t_a (.bsl rfl rfl rfl rfl) fun b286 fb286 sb286 => ?_
    obtain ⟨y287, hl288, e⟩ := bind_of e
    refine t_appX (E := E_i644) (L := y282) (X := ([(x283, x284, t254, t255)] : List (Int × Int × Int × Int))) (F := ([⟨b286, [.int .i64 x283, .int .i64 x284, .int .i64 t254, .int .i64 t255], 4⟩, ⟨b259, [.int .i64 x283, .int .i64 x284], 2⟩, ⟨b258, [.int .i64 t254, .int .i64 t255], 2⟩, ⟨B0, [.slice a_m0_0 m0_0.length c_m0_0, .int .i64 x285], 2⟩] : List Own)) rfl rfl rfl rfl (sel_perm (is := [4]) (by kernel_rfl)) rfl (Or.inr ⟨_, _, rfl, .at 0 rfl (by kernel_rfl)⟩) rfl (by decide) (by decide) rfl hl288 fun a289 na289 => ?_
    refine t_qz 1 [6] (σ' := [(6, .slice (ad a289) y287.length (na289 / 4))]) (by kernel_rfl) ?_
    refine t_end ?_
    show W _ _ _ _ _ _ _
    refine w_ret ?_
    simp only [Option.some.injEq, Prod.mk.injEq] at e
    obtain ⟨rfl, rfl⟩ := e
    exact ⟨[.slice (ad a289) y287.length (na289 / 4)], ([⟨a289, encL E_i644 y287, na289⟩, ⟨B0, [.slice a_m0_0 m0_0.length c_m0_0, .int .i64 x285], 2⟩] : List Own), S, ⟨rfl, trivial⟩, VS.sel [0, 3] (by kernel_rfl), a289, na289, rfl, rfl, rfl⟩

/-- plane.Dot -/
def c104 : C :=
  (.seq (.reg [⟨(some 3), .box (.tmp 0), none⟩,
     ⟨(some 4), .box (.tmp 1), none⟩,
     ⟨(some 5), .box (.tmp 2), none⟩,
     ⟨(some 6), .mv (.const (.int .i64 0)), none⟩])
  (.seq (.drw [⟨(some 9), .ld (some 2) (.tmp 4), none⟩,
     ⟨(some 10), .ld (some 2) (.tmp 3), none⟩,
     ⟨(some 11), .call 116 [(.tmp 9), (.tmp 10)], none⟩,
     ⟨(some 12), .ld (some 2) (.tmp 5), none⟩,
     ⟨(some 13), .ld (some 2) (.tmp 3), none⟩,
     ⟨(some 14), .call 116 [(.tmp 12), (.tmp 13)], none⟩,
     ⟨(some 7), .new [(.int .i64 0), (.int .i64 0)], none⟩,
     ⟨(some 8), .new [(.int .i64 0), (.int .i64 0)], none⟩,
     ⟨none, .st 2 (.tmp 7) (.tmp 11), none⟩,
     ⟨none, .st 2 (.tmp 8) (.tmp 14), none⟩] [[], [], [0, 1], [], [], [3, 4, 2], [], [], [6, 2, 5, 0, 1, 2, 6, 7], [7, 5, 8, 0, 1, 2, 3, 4, 5, 6, 7, 8]])
  (.seq (.reg [⟨(some 15), .pad 0 (.tmp 7), none⟩,
     ⟨(some 16), .ld none (.tmp 15), none⟩,
     ⟨(some 17), .pad 0 (.tmp 8), none⟩,
     ⟨(some 18), .ld none (.tmp 17), none⟩,
     ⟨(some 19), .bin .mul (.tmp 16) (.tmp 18), none⟩,
     ⟨(some 20), .pad 1 (.tmp 7), none⟩,
     ⟨(some 21), .ld none (.tmp 20), none⟩,
     ⟨(some 22), .pad 1 (.tmp 8), none⟩,
     ⟨(some 23), .ld none (.tmp 22), none⟩,
     ⟨(some 24), .bin .mul (.tmp 21) (.tmp 23), none⟩,
     ⟨(some 25), .bin .add (.tmp 19) (.tmp 24), none⟩,
     ⟨(some 6), .mv (.tmp 25), none⟩])
  .ret)))
def plane_Dot.f (a0_X : Int) (a0_Y : Int) (b1_X : Int) (b1_Y : Int) (p2_X : Int) (p2_Y : Int) : Option (Int) := (plane_Sub.f b1_X b1_Y a0_X a0_Y).bind fun (t358, t359) => ((plane_Sub.f p2_X p2_Y a0_X a0_Y).bind fun (t361, t362) => (some (wr64 ((wr64 (t358 * t361)) + (wr64 (t359 * t362))))))
theorem plane_Dot.ok {S : Seal} {a0_X : Int} {a0_Y : Int} {b1_X : Int} {b1_Y : Int} {p2_X : Int} {p2_Y : Int} {r0_ : Int}(e : plane_Dot.f a0_X a0_Y b1_X b1_Y p2_X p2_Y = some r0_) :
    Cal Try.prog 104 [.agg #[.int .i64 a0_X, .int .i64 a0_Y], .agg #[.int .i64 b1_X, .int .i64 b1_Y], .agg #[.int .i64 p2_X, .int .i64 p2_Y]] [] S fun v H' S' => v = .int .i64 r0_ ∧ H' = [] ∧ S' = S := by
  unfold plane_Dot.f at e
  refine cal_of (c := c104) (N := 26) Try.func104 rfl rfl (by kernel_rfl) (rs := [.t 6]) (by kernel_rfl) (Nat.le_of_ble_eq_true rfl) ?_
  unfold c104
  refine w_seq ?_
  refine w_reg fun all => ?_
  refine t_a (.box rfl rfl rfl) fun b355 fb355 sb355 => ?_
  refine t_a (.box rfl rfl rfl) fun b356 fb356 sb356 => ?_
  refine t_a (.box rfl rfl rfl) fun b357 fb357 sb357 => ?_
  refine t_qz 1 [3, 4, 5] (σ' := [(3, .pointer (some ⟨b355, 0, none⟩)), (4, .pointer (some ⟨b356, 0, none⟩)), (5, .pointer (some ⟨b357, 0, none⟩))]) (by kernel_rfl) ?_
  refine t_end ?_
  show W _ _ _ _ _ _ _
  refine w_seq ?_
  obtain ⟨⟨t358, t359⟩, h360, e⟩ := bind_of e
  try dsimp only at e
  obtain ⟨⟨t361, t362⟩, h363, e⟩ := bind_of e
  try dsimp only at e
  refine w_drwE mixed 8 [.v (.agg #[.int .i64 b1_X, .int .i64 b1_Y]), .v (.agg #[.int .i64 a0_X, .int .i64 a0_Y]), .v (.agg #[.int .i64 t358, .int .i64 t359]), .v (.agg #[.int .i64 p2_X, .int .i64 p2_Y]), .v (.agg #[.int .i64 a0_X, .int .i64 a0_Y]), .v (.agg #[.int .i64 t361, .int .i64 t362]), .a [.int .i64 0, .int .i64 0] ptrTo, .a [.int .i64 0, .int .i64 0] ptrTo] (by kernel_rfl) ?_ ?_
  · refine .cons (.ldn rfl rfl rfl (.at 1 rfl rfl)) ?_
    refine .cons (.ldn rfl rfl rfl (.at 2 rfl rfl)) ?_
    refine .cons (.call (vs := [.agg #[.int .i64 b1_X, .int .i64 b1_Y], .agg #[.int .i64 a0_X, .int .i64 a0_Y]]) rfl rfl (by kernel_rfl) (plane_Sub.ok h360)) ?_
    refine .cons (.ldn rfl rfl rfl (.at 0 rfl rfl)) ?_
    refine .cons (.ldn rfl rfl rfl (.at 2 rfl rfl)) ?_
    refine .cons (.call (vs := [.agg #[.int .i64 p2_X, .int .i64 p2_Y], .agg #[.int .i64 a0_X, .int .i64 a0_Y]]) rfl rfl (by kernel_rfl) (plane_Sub.ok h363)) ?_
    refine .cons (.new rfl rfl) ?_
    refine .cons (.new rfl rfl) ?_
    exact .nil
  refine fk_q 6 [11, 14] (σ' := [(11, .agg #[.int .i64 t358, .int .i64 t359]), (14, .agg #[.int .i64 t361, .int .i64 t362])]) t_more (by kernel_rfl) ?_
  refine fk_a fun b364 fb364 sb364 => ?_
  refine fk_a fun b365 fb365 sb365 => ?_
  refine fk_nil fun all => ?_
  refine t_sti 1 (cs := [.int .i64 t358, .int .i64 t359]) rfl rfl rfl rfl rfl rfl rfl rfl rfl ?_
  refine t_sti 0 (cs := [.int .i64 t361, .int .i64 t362]) rfl rfl rfl rfl rfl rfl rfl rfl rfl ?_
  refine t_keep [7, 8] (σ' := [(7, .pointer (some ⟨b364, 0, none⟩)), (8, .pointer (some ⟨b365, 0, none⟩))]) (by kernel_rfl) ?_
  refine t_end ?_
  show W _ _ _ _ _ _ _
  refine w_seq ?_
  refine w_reg fun all => ?_
  refine t_qz 1 [7, 8, 15] (σ' := [(7, .pointer (some ⟨b364, 0, none⟩)), (8, .pointer (some ⟨b365, 0, none⟩)), (15, .pointer (some ⟨b364, 0, none⟩))]) (by kernel_rfl) ?_
  refine t_v (.ld1 rfl rfl rfl (.at 1 rfl rfl)) ?_
  refine t_qz 1 [7, 8, 16, 17] (σ' := [(7, .pointer (some ⟨b364, 0, none⟩)), (8, .pointer (some ⟨b365, 0, none⟩)), (16, .int .i64 t358), (17, .pointer (some ⟨b365, 0, none⟩))]) (by kernel_rfl) ?_
  refine t_v (.ld1 rfl rfl rfl (.at 0 rfl rfl)) ?_
  refine t_qz 2 [8, 19, 20] (σ' := [(8, .pointer (some ⟨b365, 0, none⟩)), (19, .int .i64 (wr64 (t358 * t361))), (20, .pointer (some ⟨b364, 1, none⟩))]) (by kernel_rfl) ?_
  refine t_v (.ld1 rfl rfl rfl (.at 1 rfl rfl)) ?_
  refine t_qz 1 [19, 21, 22] (σ' := [(19, .int .i64 (wr64 (t358 * t361))), (21, .int .i64 t359), (22, .pointer (some ⟨b365, 1, none⟩))]) (by kernel_rfl) ?_
  refine t_v (.ld1 rfl rfl rfl (.at 0 rfl rfl)) ?_
  refine t_qz 3 [6] (σ' := [(6, .int .i64 (wr64 ((wr64 (t358 * t361)) + (wr64 (t359 * t362)))))]) (by kernel_rfl) ?_
  refine t_end ?_
  show W _ _ _ _ _ _ _
  refine w_ret ?_
  obtain rfl := Option.some.inj e
  exact ⟨[.int .i64 (wr64 ((wr64 (t358 * t361)) + (wr64 (t359 * t362))))], [], S, ⟨rfl, trivial⟩, VS.none, rfl, rfl, rfl⟩

/-- plane.Len2 -/
def c90 : C :=
  (.seq (.reg [⟨(some 2), .box (.tmp 0), none⟩,
     ⟨(some 3), .box (.tmp 1), none⟩,
     ⟨(some 4), .mv (.const (.int .i64 0)), none⟩])
  (.seq (.reg [⟨(some 5), .ld (some 2) (.tmp 2), none⟩,
     ⟨(some 6), .ld (some 2) (.tmp 3), none⟩,
     ⟨(some 7), .ld (some 2) (.tmp 3), none⟩,
     ⟨(some 8), .call 104 [(.tmp 5), (.tmp 6), (.tmp 7)], none⟩,
     ⟨(some 4), .mv (.tmp 8), none⟩])
  .ret))
def plane_Len2.f (a0_X : Int) (a0_Y : Int) (b1_X : Int) (b1_Y : Int) : Option (Int) := (plane_Dot.f a0_X a0_Y b1_X b1_Y b1_X b1_Y).bind fun t370 => (some t370)
theorem plane_Len2.ok {S : Seal} {a0_X : Int} {a0_Y : Int} {b1_X : Int} {b1_Y : Int} {r0_ : Int}(e : plane_Len2.f a0_X a0_Y b1_X b1_Y = some r0_) :
    Cal Try.prog 90 [.agg #[.int .i64 a0_X, .int .i64 a0_Y], .agg #[.int .i64 b1_X, .int .i64 b1_Y]] [] S fun v H' S' => v = .int .i64 r0_ ∧ H' = [] ∧ S' = S := by
  unfold plane_Len2.f at e
  refine cal_of (c := c90) (N := 9) Try.func90 rfl rfl (by kernel_rfl) (rs := [.t 4]) (by kernel_rfl) (Nat.le_of_ble_eq_true rfl) ?_
  unfold c90
  refine w_seq ?_
  refine w_reg fun all => ?_
  refine t_a (.box rfl rfl rfl) fun b368 fb368 sb368 => ?_
  refine t_a (.box rfl rfl rfl) fun b369 fb369 sb369 => ?_
  refine t_qz 1 [2, 3] (σ' := [(2, .pointer (some ⟨b368, 0, none⟩)), (3, .pointer (some ⟨b369, 0, none⟩))]) (by kernel_rfl) ?_
  refine t_end ?_
  show W _ _ _ _ _ _ _
  refine w_seq ?_
  refine w_reg fun all => ?_
  refine t_v (.ldn rfl rfl rfl (.at 1 rfl rfl)) ?_
  refine t_v (.ldn rfl rfl rfl (.at 0 rfl rfl)) ?_
  refine t_v (.ldn rfl rfl rfl (.at 0 rfl rfl)) ?_
  obtain ⟨t370, h371, e⟩ := bind_of e
  refine t_v (.call (vs := [.agg #[.int .i64 a0_X, .int .i64 a0_Y], .agg #[.int .i64 b1_X, .int .i64 b1_Y], .agg #[.int .i64 b1_X, .int .i64 b1_Y]]) rfl rfl (by kernel_rfl) (plane_Dot.ok h371)) ?_
  refine t_qz 1 [4] (σ' := [(4, .int .i64 t370)]) (by kernel_rfl) ?_
  refine t_end ?_
  show W _ _ _ _ _ _ _
  refine w_ret ?_
  obtain rfl := Option.some.inj e
  exact ⟨[.int .i64 t370], [], S, ⟨rfl, trivial⟩, VS.none, rfl, rfl, rfl⟩

/-- plane.within$1 -/
def c117 : C :=
  (.seq (.reg [⟨(some 2), .mv (.const (.int .u64 0)), none⟩])
  (.seq (.reg [⟨(some 3), .mv (.tmp 0), none⟩,
     ⟨(some 4), .mv (.tmp 0), none⟩,
     ⟨(some 5), .un .neg (.tmp 4), none⟩,
     ⟨(some 6), .mm true [(.tmp 3), (.tmp 5)], none⟩,
     ⟨(some 7), .cnv .u64 (.tmp 6), none⟩,
     ⟨(some 2), .mv (.tmp 7), none⟩])
  .ret))
def plane_within_1.f (n0 : Int) : Option (Int) := some (wru64 (mx n0 (wr64 (0 - n0))))
theorem plane_within_1.ok {S : Seal} {n0 : Int} {r0_ : Int}(e : plane_within_1.f n0 = some r0_) :
    Cal Try.prog 117 [.int .i64 n0] [] S fun v H' S' => v = .int .u64 r0_ ∧ H' = [] ∧ S' = S := by
  unfold plane_within_1.f at e
  refine cal_of (c := c117) (N := 8) Try.func117 rfl rfl (by kernel_rfl) (rs := [.t 2]) (by kernel_rfl) (Nat.le_of_ble_eq_true rfl) ?_
  unfold c117
  refine w_seq ?_
  refine w_reg fun all => ?_
  refine t_qz 1 [0] (σ' := [(0, .int .i64 n0)]) (by kernel_rfl) ?_
  refine t_end ?_
  show W _ _ _ _ _ _ _
  refine w_seq ?_
  refine w_reg fun all => ?_
  refine t_qz 6 [2] (σ' := [(2, .int .u64 (wru64 (mx n0 (wr64 (0 - n0)))))]) (by kernel_rfl) ?_
  refine t_end ?_
  show W _ _ _ _ _ _ _
  refine w_ret ?_
  obtain rfl := Option.some.inj e
  exact ⟨[.int .u64 (wru64 (mx n0 (wr64 (0 - n0))))], [], S, ⟨rfl, trivial⟩, VS.none, rfl, rfl, rfl⟩

/-- plane.within -/
def c105 : C :=
  (.seq (.reg [⟨(some 8), .mv (.const (.bool false)), none⟩])
  (.seq (.reg [⟨(some 9), .mv (.func 117), none⟩])
  (.seq (.reg [⟨(some 15), .mv (.tmp 9), none⟩,
     ⟨(some 16), .mv (.tmp 0), none⟩,
     ⟨(some 17), .clo (.tmp 15) [(.tmp 16)], none⟩,
     ⟨(some 18), .mv (.tmp 9), none⟩,
     ⟨(some 19), .mv (.tmp 1), none⟩,
     ⟨(some 20), .clo (.tmp 18) [(.tmp 19)], none⟩,
     ⟨(some 21), .call 81 [(.tmp 17), (.tmp 20)], none⟩,
     ⟨(some 14), .mv (.tmp 21), none⟩,
     ⟨(some 22), .xt 0 (.tmp 14), none⟩,
     ⟨(some 23), .xt 1 (.tmp 14), none⟩,
     ⟨(some 10), .mv (.tmp 22), none⟩,
     ⟨(some 11), .mv (.tmp 23), none⟩])
  (.seq (.reg [⟨(some 25), .mv (.tmp 9), none⟩,
     ⟨(some 26), .mv (.tmp 2), none⟩,
     ⟨(some 27), .clo (.tmp 25) [(.tmp 26)], none⟩,
     ⟨(some 28), .mv (.tmp 9), none⟩,
     ⟨(some 29), .mv (.tmp 3), none⟩,
     ⟨(some 30), .clo (.tmp 28) [(.tmp 29)], none⟩,
     ⟨(some 31), .call 81 [(.tmp 27), (.tmp 30)], none⟩,
     ⟨(some 24), .mv (.tmp 31), none⟩,
     ⟨(some 32), .xt 0 (.tmp 24), none⟩,
     ⟨(some 33), .xt 1 (.tmp 24), none⟩,
     ⟨(some 12), .mv (.tmp 32), none⟩,
     ⟨(some 13), .mv (.tmp 33), none⟩])
  (.seq (.reg [⟨(some 34), .mv (.tmp 10), none⟩,
     ⟨(some 35), .mv (.tmp 12), none⟩,
     ⟨(some 36), .bin .lss (.tmp 34) (.tmp 35), none⟩,
     ⟨(some 37), .mv (.tmp 36), none⟩,
     ⟨(some 38), .mv (.tmp 10), (some (37, false))⟩,
     ⟨(some 39), .mv (.tmp 12), (some (37, false))⟩,
     ⟨(some 40), .bin .eql (.tmp 38) (.tmp 39), (some (37, false))⟩,
     ⟨(some 41), .mv (.tmp 40), (some (37, false))⟩,
     ⟨(some 42), .mv (.tmp 11), (some (41, true))⟩,
     ⟨(some 43), .mv (.tmp 13), (some (41, true))⟩,
     ⟨(some 44), .bin .leq (.tmp 42) (.tmp 43), (some (41, true))⟩,
     ⟨(some 45), .pk (.tmp 41) (.tmp 44) (.const (.bool false)), (some (37, false))⟩,
     ⟨(some 46), .pk (.tmp 37) (.const (.bool true)) (.tmp 45), none⟩,
     ⟨(some 8), .mv (.tmp 46), none⟩])
  .ret)))))
def plane_within.f (a0 : Int) (b1 : Int) (c2 : Int) (d3 : Int) : Option (Bool) := (plane_within_1.f a0).bind fun t362 => ((plane_within_1.f b1).bind fun t364 => ((bits_Mul64.f t362 t364).bind fun (t366, t367) => ((plane_within_1.f c2).bind fun t369 => ((plane_within_1.f d3).bind fun t371 => ((bits_Mul64.f t369 t371).bind fun (t373, t374) => (if t366 < t373 then (some true) else (if t366 = t373 then (some (decide (t367 ≤ t374))) else (some false))))))))
theorem plane_within.ok {S : Seal} {a0 : Int} {b1 : Int} {c2 : Int} {d3 : Int} {r0_ : Bool}(e : plane_within.f a0 b1 c2 d3 = some r0_) :
    Cal Try.prog 105 [.int .i64 a0, .int .i64 b1, .int .i64 c2, .int .i64 d3] [] S fun v H' S' => v = .bool r0_ ∧ H' = [] ∧ S' = S := by
  unfold plane_within.f at e
  refine cal_of (c := c105) (N := 47) Try.func105 rfl rfl (by kernel_rfl) (rs := [.t 8]) (by kernel_rfl) (Nat.le_of_ble_eq_true rfl) ?_
  unfold c105
  refine w_seq ?_
  refine w_reg fun all => ?_
  refine t_qz 1 [0, 1, 2, 3] (σ' := [(0, .int .i64 a0), (1, .int .i64 b1), (2, .int .i64 c2), (3, .int .i64 d3)]) (by kernel_rfl) ?_
  refine t_end ?_
  show W _ _ _ _ _ _ _
  refine w_seq ?_
  refine w_reg fun all => ?_
  refine t_qz 1 [0, 1, 2, 3, 9] (σ' := [(0, .int .i64 a0), (1, .int .i64 b1), (2, .int .i64 c2), (3, .int .i64 d3), (9, .func (.func 117) #[] #[])]) (by kernel_rfl) ?_
  refine t_end ?_
  show W _ _ _ _ _ _ _
  refine w_seq ?_
  refine w_reg fun all => ?_
  obtain ⟨t362, h363, e⟩ := bind_of e
  refine t_qz 2 [1, 2, 3, 9, 15, 16] (σ' := [(1, .int .i64 b1), (2, .int .i64 c2), (3, .int .i64 d3), (9, .func (.func 117) #[] #[]), (15, .func (.func 117) #[] #[]), (16, .int .i64 a0)]) (by kernel_rfl) ?_
  refine t_v (.clor (vs := [.int .i64 a0]) (caps := #[]) (A := ([] : List Own)) (F0 := ([] : List Own)) rfl rfl rfl (by kernel_rfl) (by kernel_rfl) (sel_perm (is := []) (by kernel_rfl)) (plane_within_1.ok h363)) ?_
  obtain ⟨t364, h365, e⟩ := bind_of e
  refine t_qz 2 [2, 3, 9, 17, 18, 19] (σ' := [(2, .int .i64 c2), (3, .int .i64 d3), (9, .func (.func 117) #[] #[]), (17, .int .u64 t362), (18, .func (.func 117) #[] #[]), (19, .int .i64 b1)]) (by kernel_rfl) ?_
  refine t_v (.clor (vs := [.int .i64 b1]) (caps := #[]) (A := ([] : List Own)) (F0 := ([] : List Own)) rfl rfl rfl (by kernel_rfl) (by kernel_rfl) (sel_perm (is := []) (by kernel_rfl)) (plane_within_1.ok h365)) ?_
  obtain ⟨⟨t366, t367⟩, h368, e⟩ := bind_of e
  try dsimp only at e
  refine t_v (.call (vs := [.int .u64 t362, .int .u64 t364]) rfl rfl (by kernel_rfl) (bits_Mul64.ok h368)) ?_
  refine t_qz 5 [2, 3, 9, 10, 11] (σ' := [(2, .int .i64 c2), (3, .int .i64 d3), (9, .func (.func 117) #[] #[]), (10, .int .u64 t366), (11, .int .u64 t367)]) (by kernel_rfl) ?_
  refine t_end ?_
  show W _ _ _ _ _ _ _
  refine w_seq ?_
  refine w_reg fun all => ?_
  obtain ⟨t369, h370, e⟩ := bind_of e
  refine t_qz 2 [3, 9, 10, 11, 25, 26] (σ' := [(3, .int .i64 d3), (9, .func (.func 117) #[] #[]), (10, .int .u64 t366), (11, .int .u64 t367), (25, .func (.func 117) #[] #[]), (26, .int .i64 c2)]) (by kernel_rfl) ?_
  refine t_v (.clor (vs := [.int .i64 c2]) (caps := #[]) (A := ([] : List Own)) (F0 := ([] : List Own)) rfl rfl rfl (by kernel_rfl) (by kernel_rfl) (sel_perm (is := []) (by kernel_rfl)) (plane_within_1.ok h370)) ?_
  obtain ⟨t371, h372, e⟩ := bind_of e
  refine t_qz 2 [10, 11, 27, 28, 29] (σ' := [(10, .int .u64 t366), (11, .int .u64 t367), (27, .int .u64 t369), (28, .func (.func 117) #[] #[]), (29, .int .i64 d3)]) (by kernel_rfl) ?_
  refine t_v (.clor (vs := [.int .i64 d3]) (caps := #[]) (A := ([] : List Own)) (F0 := ([] : List Own)) rfl rfl rfl (by kernel_rfl) (by kernel_rfl) (sel_perm (is := []) (by kernel_rfl)) (plane_within_1.ok h372)) ?_
  obtain ⟨⟨t373, t374⟩, h375, e⟩ := bind_of e
  try dsimp only at e
  refine t_v (.call (vs := [.int .u64 t369, .int .u64 t371]) rfl rfl (by kernel_rfl) (bits_Mul64.ok h375)) ?_
  refine t_qz 5 [10, 11, 12, 13] (σ' := [(10, .int .u64 t366), (11, .int .u64 t367), (12, .int .u64 t373), (13, .int .u64 t374)]) (by kernel_rfl) ?_
  refine t_end ?_
  show W _ _ _ _ _ _ _
  refine w_seq ?_
  refine w_reg fun all => ?_
  by_cases c376 : t366 < t373
  · rw [if_pos c376] at e
    have c376b : (decide (t366 < t373)) = true := decide_eq_true c376
    refine t_qz 2 [10, 11, 12, 13, 34, 35] (σ' := [(10, .int .u64 t366), (11, .int .u64 t367), (12, .int .u64 t373), (13, .int .u64 t374), (34, .int .u64 t366), (35, .int .u64 t373)]) (by kernel_rfl) ?_
    refine t_v (dv_quiet rfl (congrArg (fun t => some (Value.bool t)) c376b)) ?_
    refine t_qz 11 [8] (σ' := [(8, .bool true)]) (by kernel_rfl) ?_
    refine t_end ?_
    show W _ _ _ _ _ _ _
    refine w_ret ?_
    obtain rfl := Option.some.inj e
    exact ⟨[.bool true], [], S, ⟨rfl, trivial⟩, VS.none, rfl, rfl, rfl⟩
  · rw [if_neg c376] at e
    have c376b : (decide (t366 < t373)) = false := decide_eq_false c376
    refine t_qz 2 [10, 11, 12, 13, 34, 35] (σ' := [(10, .int .u64 t366), (11, .int .u64 t367), (12, .int .u64 t373), (13, .int .u64 t374), (34, .int .u64 t366), (35, .int .u64 t373)]) (by kernel_rfl) ?_
    refine t_v (dv_quiet rfl (congrArg (fun t => some (Value.bool t)) c376b)) ?_
    by_cases c377 : t366 = t373
    · rw [if_pos c377] at e
      have c377b : (t366 == t373) = true := beq_iff_eq.mpr c377
      refine t_qz 3 [11, 13, 37, 38, 39] (σ' := [(11, .int .u64 t367), (13, .int .u64 t374), (37, .bool false), (38, .int .u64 t366), (39, .int .u64 t373)]) (by kernel_rfl) ?_
      refine t_v (dv_quiet rfl (congrArg (fun t => some (Value.bool t)) c377b)) ?_
      refine t_qz 7 [8] (σ' := [(8, .bool (decide (t367 ≤ t374)))]) (by kernel_rfl) ?_
      refine t_end ?_
      show W _ _ _ _ _ _ _
      refine w_ret ?_
      obtain rfl := Option.some.inj e
      exact ⟨[.bool (decide (t367 ≤ t374))], [], S, ⟨rfl, trivial⟩, VS.none, rfl, rfl, rfl⟩
    · rw [if_neg c377] at e
      have c377b : (t366 == t373) = false := beq_eq_false_iff_ne.mpr c377
      refine t_qz 3 [11, 13, 37, 38, 39] (σ' := [(11, .int .u64 t367), (13, .int .u64 t374), (37, .bool false), (38, .int .u64 t366), (39, .int .u64 t373)]) (by kernel_rfl) ?_
      refine t_v (dv_quiet rfl (congrArg (fun t => some (Value.bool t)) c377b)) ?_
      refine t_qz 7 [8] (σ' := [(8, .bool false)]) (by kernel_rfl) ?_
      refine t_end ?_
      show W _ _ _ _ _ _ _
      refine w_ret ?_
      obtain rfl := Option.some.inj e
      exact ⟨[.bool false], [], S, ⟨rfl, trivial⟩, VS.none, rfl, rfl, rfl⟩

/-- plane.Near -/
def c65 : C :=
  (.seq (.reg [⟨(some 4), .box (.tmp 0), none⟩,
     ⟨(some 5), .box (.tmp 1), none⟩,
     ⟨(some 6), .box (.tmp 2), none⟩,
     ⟨(some 8), .mv (.const (.bool false)), none⟩])
  (.seq (.drw [⟨(some 12), .ld (some 2) (.tmp 4), none⟩,
     ⟨(some 13), .ld (some 2) (.tmp 5), none⟩,
     ⟨(some 14), .ld (some 2) (.tmp 6), none⟩,
     ⟨(some 15), .call 104 [(.tmp 12), (.tmp 13), (.tmp 14)], none⟩,
     ⟨(some 16), .ld (some 2) (.tmp 4), none⟩,
     ⟨(some 17), .ld (some 2) (.tmp 5), none⟩,
     ⟨(some 18), .call 90 [(.tmp 16), (.tmp 17)], none⟩,
     ⟨(some 9), .mv (.tmp 15), none⟩,
     ⟨(some 10), .mv (.tmp 18), none⟩] [[], [], [], [0, 1, 2], [], [], [4, 5, 3], [3, 6, 0, 1, 2, 3], [6, 7, 0, 1, 2, 3, 4, 5, 6, 7]])
  (.seq (.block 0 (.seq (.reg [⟨(some 20), .mv (.tmp 9), none⟩,
       ⟨(some 21), .bin .leq (.tmp 20) (.const (.int .i64 0)), none⟩,
       ⟨(some 19), .mv (.tmp 21), none⟩])
    (.cond (.tmp 19)
     (.seq (.reg [⟨(some 22), .ld (some 2) (.tmp 4), none⟩,
         ⟨(some 23), .ld (some 2) (.tmp 6), none⟩,
         ⟨(some 24), .call 90 [(.tmp 22), (.tmp 23)], none⟩,
         ⟨(some 25), .mv (.tmp 3), none⟩,
         ⟨(some 26), .mv (.tmp 3), none⟩,
         ⟨(some 27), .call 105 [(.const (.int .i64 4)), (.tmp 24), (.tmp 25), (.tmp 26)], none⟩,
         ⟨(some 8), .mv (.tmp 27), none⟩])
      .ret)
     (.seq (.reg [⟨(some 29), .mv (.tmp 9), none⟩,
         ⟨(some 30), .mv (.tmp 10), none⟩,
         ⟨(some 31), .bin .geq (.tmp 29) (.tmp 30), none⟩,
         ⟨(some 28), .mv (.tmp 31), none⟩])
      (.cond (.tmp 28)
       (.seq (.reg [⟨(some 32), .ld (some 2) (.tmp 5), none⟩,
           ⟨(some 33), .ld (some 2) (.tmp 6), none⟩,
           ⟨(some 34), .call 90 [(.tmp 32), (.tmp 33)], none⟩,
           ⟨(some 35), .mv (.tmp 3), none⟩,
           ⟨(some 36), .mv (.tmp 3), none⟩,
           ⟨(some 37), .call 105 [(.const (.int .i64 4)), (.tmp 34), (.tmp 35), (.tmp 36)], none⟩,
           ⟨(some 8), .mv (.tmp 37), none⟩])
        .ret)
       .skip)))))
  (.seq (.reg [⟨(some 38), .ld (some 2) (.tmp 4), none⟩,
     ⟨(some 39), .ld (some 2) (.tmp 5), none⟩,
     ⟨(some 40), .ld (some 2) (.tmp 6), none⟩,
     ⟨(some 41), .call 106 [(.tmp 38), (.tmp 39), (.tmp 40)], none⟩,
     ⟨(some 42), .bin .mul (.const (.int .i64 2)) (.tmp 41), none⟩,
     ⟨(some 11), .mv (.tmp 42), none⟩])
  (.seq (.reg [⟨(some 43), .mv (.tmp 11), none⟩,
     ⟨(some 44), .mv (.tmp 11), none⟩,
     ⟨(some 45), .mv (.tmp 3), none⟩,
     ⟨(some 46), .mv (.tmp 3), none⟩,
     ⟨(some 47), .bin .mul (.tmp 45) (.tmp 46), none⟩,
     ⟨(some 48), .mv (.tmp 10), none⟩,
     ⟨(some 49), .call 105 [(.tmp 43), (.tmp 44), (.tmp 47), (.tmp 48)], none⟩,
     ⟨(some 8), .mv (.tmp 49), none⟩])
  .ret)))))
def plane_Near.f (a0_X : Int) (a0_Y : Int) (b1_X : Int) (b1_Y : Int) (p2_X : Int) (p2_Y : Int) (w3 : Int) : Option (Bool) := (plane_Dot.f a0_X a0_Y b1_X b1_Y p2_X p2_Y).bind fun t355 => ((plane_Len2.f a0_X a0_Y b1_X b1_Y).bind fun t357 => (if t355 ≤ 0 then ((plane_Len2.f a0_X a0_Y p2_X p2_Y).bind fun t360 => ((plane_within.f 4 t360 w3 w3).bind fun t362 => (some t362))) else (if t355 ≥ t357 then ((plane_Len2.f b1_X b1_Y p2_X p2_Y).bind fun t365 => ((plane_within.f 4 t365 w3 w3).bind fun t367 => (some t367))) else ((plane_Cross.f a0_X a0_Y b1_X b1_Y p2_X p2_Y).bind fun t369 => ((plane_within.f (wr64 (2 * t369)) (wr64 (2 * t369)) (wr64 (w3 * w3)) t357).bind fun t371 => (some t371))))))
theorem plane_Near.ok {S : Seal} {a0_X : Int} {a0_Y : Int} {b1_X : Int} {b1_Y : Int} {p2_X : Int} {p2_Y : Int} {w3 : Int} {r0_ : Bool}(e : plane_Near.f a0_X a0_Y b1_X b1_Y p2_X p2_Y w3 = some r0_) :
    Cal Try.prog 65 [.agg #[.int .i64 a0_X, .int .i64 a0_Y], .agg #[.int .i64 b1_X, .int .i64 b1_Y], .agg #[.int .i64 p2_X, .int .i64 p2_Y], .int .i64 w3] [] S fun v H' S' => v = .bool r0_ ∧ H' = [] ∧ S' = S := by
  unfold plane_Near.f at e
  refine cal_of (c := c65) (N := 50) Try.func65 rfl rfl (by kernel_rfl) (rs := [.t 8]) (by kernel_rfl) (Nat.le_of_ble_eq_true rfl) ?_
  unfold c65
  refine w_seq ?_
  refine w_reg fun all => ?_
  refine t_a (.box rfl rfl rfl) fun b352 fb352 sb352 => ?_
  refine t_a (.box rfl rfl rfl) fun b353 fb353 sb353 => ?_
  refine t_a (.box rfl rfl rfl) fun b354 fb354 sb354 => ?_
  refine t_qz 1 [3, 4, 5, 6] (σ' := [(3, .int .i64 w3), (4, .pointer (some ⟨b352, 0, none⟩)), (5, .pointer (some ⟨b353, 0, none⟩)), (6, .pointer (some ⟨b354, 0, none⟩))]) (by kernel_rfl) ?_
  refine t_end ?_
  show W _ _ _ _ _ _ _
  refine w_seq ?_
  obtain ⟨t355, h356, e⟩ := bind_of e
  obtain ⟨t357, h358, e⟩ := bind_of e
  refine w_drwE mixed 9 [.v (.agg #[.int .i64 a0_X, .int .i64 a0_Y]), .v (.agg #[.int .i64 b1_X, .int .i64 b1_Y]), .v (.agg #[.int .i64 p2_X, .int .i64 p2_Y]), .v (.int .i64 t355), .v (.agg #[.int .i64 a0_X, .int .i64 a0_Y]), .v (.agg #[.int .i64 b1_X, .int .i64 b1_Y]), .v (.int .i64 t357), .v (.int .i64 t355), .v (.int .i64 t357)] (by kernel_rfl) ?_ ?_
  · refine .cons (.ldn rfl rfl rfl (.at 2 rfl rfl)) ?_
    refine .cons (.ldn rfl rfl rfl (.at 1 rfl rfl)) ?_
    refine .cons (.ldn rfl rfl rfl (.at 0 rfl rfl)) ?_
    refine .cons (.call (vs := [.agg #[.int .i64 a0_X, .int .i64 a0_Y], .agg #[.int .i64 b1_X, .int .i64 b1_Y], .agg #[.int .i64 p2_X, .int .i64 p2_Y]]) rfl rfl (by kernel_rfl) (plane_Dot.ok h356)) ?_
    refine .cons (.ldn rfl rfl rfl (.at 2 rfl rfl)) ?_
    refine .cons (.ldn rfl rfl rfl (.at 1 rfl rfl)) ?_
    refine .cons (.call (vs := [.agg #[.int .i64 a0_X, .int .i64 a0_Y], .agg #[.int .i64 b1_X, .int .i64 b1_Y]]) rfl rfl (by kernel_rfl) (plane_Len2.ok h358)) ?_
    refine DI.sq 2 (by kernel_rfl) rfl ?_
    exact .nil
  refine fk_q 9 [3, 4, 5, 6, 9, 10] (σ' := [(3, .int .i64 w3), (4, .pointer (some ⟨b352, 0, none⟩)), (5, .pointer (some ⟨b353, 0, none⟩)), (6, .pointer (some ⟨b354, 0, none⟩)), (9, .int .i64 t355), (10, .int .i64 t357)]) t_more (by kernel_rfl) ?_
  refine fk_nil fun all => ?_
  refine t_keep [3, 4, 5, 6, 9, 10] (σ' := [(3, .int .i64 w3), (4, .pointer (some ⟨b352, 0, none⟩)), (5, .pointer (some ⟨b353, 0, none⟩)), (6, .pointer (some ⟨b354, 0, none⟩)), (9, .int .i64 t355), (10, .int .i64 t357)]) (by kernel_rfl) ?_
  refine t_end ?_
  show W _ _ _ _ _ _ _
  refine w_seq ?_
  refine w_block ?_
  refine w_seq ?_
  refine w_reg fun all => ?_
  by_cases c359 : t355 ≤ 0
  · rw [if_pos c359] at e
    have c359b : (decide (t355 ≤ 0)) = true := decide_eq_true c359
    refine t_qz 1 [3, 4, 5, 6, 9, 10, 20] (σ' := [(3, .int .i64 w3), (4, .pointer (some ⟨b352, 0, none⟩)), (5, .pointer (some ⟨b353, 0, none⟩)), (6, .pointer (some ⟨b354, 0, none⟩)), (9, .int .i64 t355), (10, .int .i64 t357), (20, .int .i64 t355)]) (by kernel_rfl) ?_
    refine t_v (dv_quiet rfl (congrArg (fun t => some (Value.bool t)) c359b)) ?_
    refine t_qz 1 [3, 4, 5, 6, 9, 10, 19] (σ' := [(3, .int .i64 w3), (4, .pointer (some ⟨b352, 0, none⟩)), (5, .pointer (some ⟨b353, 0, none⟩)), (6, .pointer (some ⟨b354, 0, none⟩)), (9, .int .i64 t355), (10, .int .i64 t357), (19, .bool true)]) (by kernel_rfl) ?_
    refine t_end ?_
    show W _ _ _ _ _ _ _
    refine w_cond rfl (fun _ => ?_) (fun c_ => by cases c_)
    show W _ _ _ _ _ _ _
    refine w_seq ?_
    refine w_reg fun all => ?_
    refine t_v (.ldn rfl rfl rfl (.at 2 rfl rfl)) ?_
    refine t_v (.ldn rfl rfl rfl (.at 0 rfl rfl)) ?_
    obtain ⟨t360, h361, e⟩ := bind_of e
    refine t_v (.call (vs := [.agg #[.int .i64 a0_X, .int .i64 a0_Y], .agg #[.int .i64 p2_X, .int .i64 p2_Y]]) rfl rfl (by kernel_rfl) (plane_Len2.ok h361)) ?_
    obtain ⟨t362, h363, e⟩ := bind_of e
    refine t_qz 2 [24, 25, 26] (σ' := [(24, .int .i64 t360), (25, .int .i64 w3), (26, .int .i64 w3)]) (by kernel_rfl) ?_
    refine t_v (.call (vs := [.int .i64 4, .int .i64 t360, .int .i64 w3, .int .i64 w3]) rfl rfl (by kernel_rfl) (plane_within.ok h363)) ?_
    refine t_qz 1 [8] (σ' := [(8, .bool t362)]) (by kernel_rfl) ?_
    refine t_end ?_
    show W _ _ _ _ _ _ _
    refine w_ret ?_
    obtain rfl := Option.some.inj e
    exact ⟨[.bool t362], [], S, ⟨rfl, trivial⟩, VS.none, rfl, rfl, rfl⟩
  · rw [if_neg c359] at e
    have c359b : (decide (t355 ≤ 0)) = false := decide_eq_false c359
    refine t_qz 1 [3, 4, 5, 6, 9, 10, 20] (σ' := [(3, .int .i64 w3), (4, .pointer (some ⟨b352, 0, none⟩)), (5, .pointer (some ⟨b353, 0, none⟩)), (6, .pointer (some ⟨b354, 0, none⟩)), (9, .int .i64 t355), (10, .int .i64 t357), (20, .int .i64 t355)]) (by kernel_rfl) ?_
    refine t_v (dv_quiet rfl (congrArg (fun t => some (Value.bool t)) c359b)) ?_
    refine t_qz 1 [3, 4, 5, 6, 9, 10, 19] (σ' := [(3, .int .i64 w3), (4, .pointer (some ⟨b352, 0, none⟩)), (5, .pointer (some ⟨b353, 0, none⟩)), (6, .pointer (some ⟨b354, 0, none⟩)), (9, .int .i64 t355), (10, .int .i64 t357), (19, .bool false)]) (by kernel_rfl) ?_
    refine t_end ?_
    show W _ _ _ _ _ _ _
    refine w_cond rfl (fun c_ => by cases c_) (fun _ => ?_)
    show W _ _ _ _ _ _ _
    refine w_seq ?_
    refine w_reg fun all => ?_
    by_cases c364 : t355 ≥ t357
    · rw [if_pos c364] at e
      have c364b : (decide (t355 ≥ t357)) = true := decide_eq_true c364
      refine t_qz 2 [3, 4, 5, 6, 10, 29, 30] (σ' := [(3, .int .i64 w3), (4, .pointer (some ⟨b352, 0, none⟩)), (5, .pointer (some ⟨b353, 0, none⟩)), (6, .pointer (some ⟨b354, 0, none⟩)), (10, .int .i64 t357), (29, .int .i64 t355), (30, .int .i64 t357)]) (by kernel_rfl) ?_
      refine t_v (dv_quiet rfl (congrArg (fun t => some (Value.bool t)) c364b)) ?_
      refine t_qz 1 [3, 4, 5, 6, 10, 28] (σ' := [(3, .int .i64 w3), (4, .pointer (some ⟨b352, 0, none⟩)), (5, .pointer (some ⟨b353, 0, none⟩)), (6, .pointer (some ⟨b354, 0, none⟩)), (10, .int .i64 t357), (28, .bool true)]) (by kernel_rfl) ?_
      refine t_end ?_
      show W _ _ _ _ _ _ _
      refine w_cond rfl (fun _ => ?_) (fun c_ => by cases c_)
      show W _ _ _ _ _ _ _
      refine w_seq ?_
      refine w_reg fun all => ?_
      refine t_v (.ldn rfl rfl rfl (.at 1 rfl rfl)) ?_
      refine t_v (.ldn rfl rfl rfl (.at 0 rfl rfl)) ?_
      obtain ⟨t365, h366, e⟩ := bind_of e
      refine t_v (.call (vs := [.agg #[.int .i64 b1_X, .int .i64 b1_Y], .agg #[.int .i64 p2_X, .int .i64 p2_Y]]) rfl rfl (by kernel_rfl) (plane_Len2.ok h366)) ?_
      obtain ⟨t367, h368, e⟩ := bind_of e
      refine t_qz 2 [34, 35, 36] (σ' := [(34, .int .i64 t365), (35, .int .i64 w3), (36, .int .i64 w3)]) (by kernel_rfl) ?_
      refine t_v (.call (vs := [.int .i64 4, .int .i64 t365, .int .i64 w3, .int .i64 w3]) rfl rfl (by kernel_rfl) (plane_within.ok h368)) ?_
      refine t_qz 1 [8] (σ' := [(8, .bool t367)]) (by kernel_rfl) ?_
      refine t_end ?_
      show W _ _ _ _ _ _ _
      refine w_ret ?_
      obtain rfl := Option.some.inj e
      exact ⟨[.bool t367], [], S, ⟨rfl, trivial⟩, VS.none, rfl, rfl, rfl⟩
    · rw [if_neg c364] at e
      have c364b : (decide (t355 ≥ t357)) = false := decide_eq_false c364
      refine t_qz 2 [3, 4, 5, 6, 10, 29, 30] (σ' := [(3, .int .i64 w3), (4, .pointer (some ⟨b352, 0, none⟩)), (5, .pointer (some ⟨b353, 0, none⟩)), (6, .pointer (some ⟨b354, 0, none⟩)), (10, .int .i64 t357), (29, .int .i64 t355), (30, .int .i64 t357)]) (by kernel_rfl) ?_
      refine t_v (dv_quiet rfl (congrArg (fun t => some (Value.bool t)) c364b)) ?_
      refine t_qz 1 [3, 4, 5, 6, 10, 28] (σ' := [(3, .int .i64 w3), (4, .pointer (some ⟨b352, 0, none⟩)), (5, .pointer (some ⟨b353, 0, none⟩)), (6, .pointer (some ⟨b354, 0, none⟩)), (10, .int .i64 t357), (28, .bool false)]) (by kernel_rfl) ?_
      refine t_end ?_
      show W _ _ _ _ _ _ _
      refine w_cond rfl (fun c_ => by cases c_) (fun _ => ?_)
      show W _ _ _ _ _ _ _
      refine w_skip ?_
      show W _ _ _ _ _ _ _
      refine w_seq ?_
      refine w_reg fun all => ?_
      refine t_v (.ldn rfl rfl rfl (.at 2 rfl rfl)) ?_
      refine t_v (.ldn rfl rfl rfl (.at 1 rfl rfl)) ?_
      refine t_v (.ldn rfl rfl rfl (.at 0 rfl rfl)) ?_
      obtain ⟨t369, h370, e⟩ := bind_of e
      refine t_v (.call (vs := [.agg #[.int .i64 a0_X, .int .i64 a0_Y], .agg #[.int .i64 b1_X, .int .i64 b1_Y], .agg #[.int .i64 p2_X, .int .i64 p2_Y]]) rfl rfl (by kernel_rfl) (plane_Cross.ok h370)) ?_
      refine t_qz 2 [3, 10, 11] (σ' := [(3, .int .i64 w3), (10, .int .i64 t357), (11, .int .i64 (wr64 (2 * t369)))]) (by kernel_rfl) ?_
      refine t_end ?_
      show W _ _ _ _ _ _ _
      refine w_seq ?_
      refine w_reg fun all => ?_
      obtain ⟨t371, h372, e⟩ := bind_of e
      refine t_qz 6 [43, 44, 47, 48] (σ' := [(43, .int .i64 (wr64 (2 * t369))), (44, .int .i64 (wr64 (2 * t369))), (47, .int .i64 (wr64 (w3 * w3))), (48, .int .i64 t357)]) (by kernel_rfl) ?_
      refine t_v (.call (vs := [.int .i64 (wr64 (2 * t369)), .int .i64 (wr64 (2 * t369)), .int .i64 (wr64 (w3 * w3)), .int .i64 t357]) rfl rfl (by kernel_rfl) (plane_within.ok h372)) ?_
      refine t_qz 1 [8] (σ' := [(8, .bool t371)]) (by kernel_rfl) ?_
      refine t_end ?_
      show W _ _ _ _ _ _ _
      refine w_ret ?_
      obtain rfl := Option.some.inj e
      exact ⟨[.bool t371], [], S, ⟨rfl, trivial⟩, VS.none, rfl, rfl, rfl⟩

/-- stroke.Near$1 -/
def c64 : C :=
  (.seq (.reg [⟨(some 3), .box (.tmp 0), none⟩,
     ⟨(some 4), .mv (.const (.bool false)), none⟩])
  (.seq (.reg [⟨(some 5), .pad 0 (.tmp 3), none⟩,
     ⟨(some 6), .ld (some 2) (.tmp 5), none⟩,
     ⟨(some 7), .pad 2 (.tmp 3), none⟩,
     ⟨(some 8), .ld (some 2) (.tmp 7), none⟩,
     ⟨(some 9), .ld (some 2) (.tmp 1), none⟩,
     ⟨(some 10), .ld none (.tmp 2), none⟩,
     ⟨(some 11), .call 65 [(.tmp 6), (.tmp 8), (.tmp 9), (.tmp 10)], none⟩,
     ⟨(some 4), .mv (.tmp 11), none⟩])
  .ret))
def stroke_Near_1_v1.f (e0_0 : Int) (e0_1 : Int) (e0_2 : Int) (e0_3 : Int) (m0_0 : Int) (m0_1 : Int) (m1_0 : Int) : Option (Bool) := (plane_Near.f e0_0 e0_1 e0_2 e0_3 m0_0 m0_1 m1_0).bind fun t373 => (some t373)
theorem stroke_Near_1_v1.ok {S : Seal} {B0 : Nat} {B1 : Nat} {e0_0 : Int} {e0_1 : Int} {e0_2 : Int} {e0_3 : Int} {m0_0 : Int} {m0_1 : Int} {m1_0 : Int} {r0_ : Bool}(e : stroke_Near_1_v1.f e0_0 e0_1 e0_2 e0_3 m0_0 m0_1 m1_0 = some r0_) :
    Cal Try.prog 64 [.agg #[.int .i64 e0_0, .int .i64 e0_1, .int .i64 e0_2, .int .i64 e0_3], .pointer (some ⟨B0, 0, none⟩), .pointer (some ⟨B1, 0, none⟩)] ([⟨B0, [.int .i64 m0_0, .int .i64 m0_1], 2⟩, ⟨B1, [.int .i64 m1_0], 1⟩] : List Own) S fun v H' S' => v = .bool r0_ ∧ H' = ([⟨B0, [.int .i64 m0_0, .int .i64 m0_1], 2⟩, ⟨B1, [.int .i64 m1_0], 1⟩] : List Own) ∧ S' = S := by
  unfold stroke_Near_1_v1.f at e
  refine cal_of (c := c64) (N := 12) Try.func64 rfl rfl (by kernel_rfl) (rs := [.t 4]) (by kernel_rfl) (Nat.le_of_ble_eq_true rfl) ?_
  unfold c64
  refine w_seq ?_
  refine w_reg fun all => ?_
  refine t_a (.box rfl rfl rfl) fun b351 fb351 sb351 => ?_
  refine t_qz 1 [1, 2, 3] (σ' := [(1, .pointer (some ⟨B0, 0, none⟩)), (2, .pointer (some ⟨B1, 0, none⟩)), (3, .pointer (some ⟨b351, 0, none⟩))]) (by kernel_rfl) ?_
  refine t_end ?_
  show W _ _ _ _ _ _ _
  refine w_seq ?_
  refine w_reg fun all => ?_
  refine t_qz 1 [1, 2, 3, 5] (σ' := [(1, .pointer (some ⟨B0, 0, none⟩)), (2, .pointer (some ⟨B1, 0, none⟩)), (3, .pointer (some ⟨b351, 0, none⟩)), (5, .pointer (some ⟨b351, 0, none⟩))]) (by kernel_rfl) ?_
  refine t_v (.ldn rfl rfl rfl (.at 0 rfl rfl)) ?_
  refine t_qz 1 [1, 2, 6, 7] (σ' := [(1, .pointer (some ⟨B0, 0, none⟩)), (2, .pointer (some ⟨B1, 0, none⟩)), (6, .agg #[.int .i64 e0_0, .int .i64 e0_1]), (7, .pointer (some ⟨b351, 2, none⟩))]) (by kernel_rfl) ?_
  refine t_v (.ldn rfl rfl rfl (.at 0 rfl rfl)) ?_
  refine t_v (.ldn rfl rfl rfl (.at 1 rfl rfl)) ?_
  refine t_v (.ld1 rfl rfl rfl (.at 2 rfl rfl)) ?_
  obtain ⟨t373, h374, e⟩ := bind_of e
  refine t_v (.call (vs := [.agg #[.int .i64 e0_0, .int .i64 e0_1], .agg #[.int .i64 e0_2, .int .i64 e0_3], .agg #[.int .i64 m0_0, .int .i64 m0_1], .int .i64 m1_0]) rfl rfl (by kernel_rfl) (plane_Near.ok h374)) ?_
  refine t_qz 1 [4] (σ' := [(4, .bool t373)]) (by kernel_rfl) ?_
  refine t_end ?_
  show W _ _ _ _ _ _ _
  refine w_ret ?_
  obtain rfl := Option.some.inj e
  exact ⟨[.bool t373], ([⟨B0, [.int .i64 m0_0, .int .i64 m0_1], 2⟩, ⟨B1, [.int .i64 m1_0], 1⟩] : List Own), S, ⟨rfl, trivial⟩, VS.sel [1, 1] (by kernel_rfl), rfl, rfl, rfl⟩

/-- slices.IndexFunc[[]api.Edge,api.Edge] -/
def c103 : C :=
  (.seq (.reg [⟨(some 4), .mv (.const (.int .i64 0)), none⟩])
  (.seq (.seq (.reg [⟨(some 6), .mv (.tmp 0), none⟩,
      ⟨(some 7), .lns (.tmp 6), none⟩,
      ⟨(some 8), .mv (.const (.int .i64 0)), none⟩])
   (.block 0 (.loop (.seq (.reg [⟨(some 9), .bin .lss (.tmp 8) (.tmp 7), none⟩])
     (.seq (.cond (.tmp 9)
       .skip
       (.exit 0))
     (.seq (.block 1 (.seq (.reg [⟨(some 10), .mv (.tmp 8), none⟩,
          ⟨(some 5), .mv (.tmp 10), none⟩])
       (.seq (.reg [⟨(some 11), .mv (.tmp 1), none⟩,
          ⟨(some 12), .mv (.tmp 0), none⟩,
          ⟨(some 13), .mv (.tmp 5), none⟩,
          ⟨(some 14), .ixs 4 (.tmp 12) (.tmp 13), none⟩,
          ⟨(some 15), .ld (some 4) (.tmp 14), none⟩,
          ⟨(some 16), .clo (.tmp 11) [(.tmp 15)], none⟩])
       (.cond (.tmp 16)
        (.seq (.reg [⟨(some 17), .mv (.tmp 5), none⟩,
            ⟨(some 4), .mv (.tmp 17), none⟩])
         .ret)
        .skip))))
     (.reg [⟨(some 18), .bin .add (.tmp 8) (.const (.int .i64 1)), none⟩,
       ⟨(some 8), .mv (.tmp 18), none⟩])))))))
  (.seq (.reg [⟨(some 4), .mv (.const (.int .i64 (-1))), none⟩])
  .ret)))
def api_Edge_v2.l0 : Nat → List (Int × Int × Int × Int) → Int → Int → Int → Int → Option ((Int) ⊕ (Unit))
  | 0, _, _, _, _, _ => none
  | k + 1, s0, m0_0, m0_1, m1_0, x336 => if x336 < (s0.length : Int) then ((lgt s0 x336).bind fun (x338, x339, x340, x341) => ((stroke_Near_1_v1.f x338 x339 x340 x341 m0_0 m0_1 m1_0).bind fun t375 => (if t375 = true then (some (.inl x336)) else (api_Edge_v2.l0 k s0 m0_0 m0_1 m1_0 (wr64 (x336 + 1)))))) else (some (.inr ()))
def api_Edge_v2.f (k : Nat) (s0 : List (Int × Int × Int × Int)) (m0_0 : Int) (m0_1 : Int) (m1_0 : Int) : Option (Int) := (api_Edge_v2.l0 k s0 m0_0 m0_1 m1_0 0 : Option ((Int) ⊕ (Unit))).bind fun s_ => match s_ with | .inl q379 => some q379 | .inr _ => (some (-1))
theorem api_Edge_v2.ok {S : Seal} {B0 : Nat} {B1 : Nat} {k : Nat} {s0 : List (Int × Int × Int × Int)} {m0_0 : Int} {m0_1 : Int} {m1_0 : Int} {r0_ : Int}{a_s0 : Option Addr} {c_s0 : Nat} (h_s0 : SlE S E_i644 s0 a_s0) (e : api_Edge_v2.f k s0 m0_0 m0_1 m1_0 = some r0_) :
    Cal Try.prog 103 [.slice a_s0 s0.length c_s0, .func (.func 64) #[] #[.pointer (some ⟨B0, 0, none⟩), .pointer (some ⟨B1, 0, none⟩)]] ([⟨B0, [.int .i64 m0_0, .int .i64 m0_1], 2⟩, ⟨B1, [.int .i64 m1_0], 1⟩] : List Own) S fun v H' S' => v = .int .i64 r0_ ∧ H' = ([⟨B0, [.int .i64 m0_0, .int .i64 m0_1], 2⟩, ⟨B1, [.int .i64 m1_0], 1⟩] : List Own) ∧ S' = S := by
  unfold api_Edge_v2.f at e
  refine cal_of (c := c103) (N := 19) Try.func103 rfl rfl (by kernel_rfl) (rs := [.t 4]) (by kernel_rfl) (Nat.le_of_ble_eq_true rfl) ?_
  unfold c103
  refine w_seq ?_
  refine w_reg fun all => ?_
  refine t_qz 1 [0, 1] (σ' := [(0, .slice a_s0 s0.length c_s0), (1, .func (.func 64) #[] #[.pointer (some ⟨B0, 0, none⟩), .pointer (some ⟨B1, 0, none⟩)])]) (by kernel_rfl) ?_
  refine t_end ?_
  show W _ _ _ _ _ _ _
  obtain ⟨s335, e334, e⟩ := bind_of e
  refine w_cut [] (fun σ_ H_ S_ => ∃ u_ : Unit, s335 = .inr u_ ∧ [] = σ_ ∧ ([⟨B0, [.int .i64 m0_0, .int .i64 m0_1], 2⟩, ⟨B1, [.int .i64 m1_0], 1⟩] : List Own) = H_ ∧ S = S_) ?_ ?_
  · show W _ _ _ _ _ _ _
    refine w_seq ?_
    refine w_reg fun all => ?_
    refine t_qz 3 [0, 1, 7, 8] (σ' := [(0, .slice a_s0 s0.length c_s0), (1, .func (.func 64) #[] #[.pointer (some ⟨B0, 0, none⟩), .pointer (some ⟨B1, 0, none⟩)]), (7, .int .i64 (s0.length : Int)), (8, .int .i64 0)]) (by kernel_rfl) ?_
    refine t_end ?_
    show W _ _ _ _ _ _ _
    refine w_block ?_
    refine w_kp [0, 1, 7, 8] (σ' := [(0, .slice a_s0 s0.length c_s0), (1, .func (.func 64) #[] #[.pointer (some ⟨B0, 0, none⟩), .pointer (some ⟨B1, 0, none⟩)]), (7, .int .i64 (s0.length : Int)), (8, .int .i64 0)]) (by kernel_rfl) ?_
    refine w_loop (fun n_ σ_ H_ S_ => ∃ (x336 : Int), [(0, .slice a_s0 s0.length c_s0), (1, .func (.func 64) #[] #[.pointer (some ⟨B0, 0, none⟩), .pointer (some ⟨B1, 0, none⟩)]), (7, .int .i64 (s0.length : Int)), (8, .int .i64 x336)] = σ_ ∧ ([⟨B0, [.int .i64 m0_0, .int .i64 m0_1], 2⟩, ⟨B1, [.int .i64 m1_0], 1⟩] : List Own) = H_ ∧ S = S_ ∧ api_Edge_v2.l0 n_ s0 m0_0 m0_1 m1_0 x336 = some s335) _ ⟨0, rfl, rfl, rfl, e334⟩ ?_
    rintro n378 σ_ H_ S_ ⟨x336, rfl, rfl, rfl, e334⟩
    cases n378 with
    | zero => rw [api_Edge_v2.l0.eq_1] at e334; cases e334
    | succ k_ =>
      rw [api_Edge_v2.l0.eq_2] at e334
      refine w_seq ?_
      refine w_reg fun all => ?_
      by_cases c337 : x336 < (s0.length : Int)
      · rw [if_pos c337] at e334
        have c337b : (decide (x336 < (s0.length : Int))) = true := decide_eq_true c337
        refine t_v (dv_quiet rfl (congrArg (fun t => some (Value.bool t)) c337b)) ?_
        refine t_keep [0, 1, 7, 8, 9] (σ' := [(0, .slice a_s0 s0.length c_s0), (1, .func (.func 64) #[] #[.pointer (some ⟨B0, 0, none⟩), .pointer (some ⟨B1, 0, none⟩)]), (7, .int .i64 (s0.length : Int)), (8, .int .i64 x336), (9, .bool true)]) (by kernel_rfl) ?_
        refine t_end ?_
        show W _ _ _ _ _ _ _
        refine w_seq ?_
        refine w_cond rfl (fun _ => ?_) (fun c_ => by cases c_)
        show W _ _ _ _ _ _ _
        refine w_skip ?_
        show W _ _ _ _ _ _ _
        refine w_seq ?_
        refine w_block ?_
        refine w_seq ?_
        refine w_reg fun all => ?_
        refine t_qz 2 [0, 1, 5, 7, 8] (σ' := [(0, .slice a_s0 s0.length c_s0), (1, .func (.func 64) #[] #[.pointer (some ⟨B0, 0, none⟩), .pointer (some ⟨B1, 0, none⟩)]), (5, .int .i64 x336), (7, .int .i64 (s0.length : Int)), (8, .int .i64 x336)]) (by kernel_rfl) ?_
        refine t_end ?_
        show W _ _ _ _ _ _ _
        refine w_seq ?_
        refine w_reg fun all => ?_
        obtain ⟨⟨x338, x339, x340, x341⟩, hx342, e334⟩ := bind_of e334
        try dsimp only at e334
        obtain ⟨lb343, lo344, ll345, la346, lS347, lv348, lz349, lu350⟩ := sle_get (E := E_i644) h_s0 hx342
        refine t_qz 3 [0, 1, 5, 7, 8, 11, 12, 13] (σ' := [(0, .slice a_s0 s0.length c_s0), (1, .func (.func 64) #[] #[.pointer (some ⟨B0, 0, none⟩), .pointer (some ⟨B1, 0, none⟩)]), (5, .int .i64 x336), (7, .int .i64 (s0.length : Int)), (8, .int .i64 x336), (11, .func (.func 64) #[] #[.pointer (some ⟨B0, 0, none⟩), .pointer (some ⟨B1, 0, none⟩)]), (12, .slice a_s0 s0.length c_s0), (13, .int .i64 x336)]) (by kernel_rfl) ?_
        refine t_v (.quiet rfl (ixs_sle rfl rfl la346 lz349 lu350)) ?_
        refine t_v (.ldn (vs := [.int .i64 x338, .int .i64 x339, .int .i64 x340, .int .i64 x341]) rfl rfl rfl (.sealed lS347 (subl_sub lv348 (by kernel_rfl)))) ?_
        obtain ⟨t375, h376, e334⟩ := bind_of e334
        cases t375 with
        | true =>
          rw [if_pos rfl] at e334
          refine t_v (.clor (vs := [.agg #[.int .i64 x338, .int .i64 x339, .int .i64 x340, .int .i64 x341]]) (caps := #[.pointer (some ⟨B0, 0, none⟩), .pointer (some ⟨B1, 0, none⟩)]) (A := ([⟨B0, [.int .i64 m0_0, .int .i64 m0_1], 2⟩, ⟨B1, [.int .i64 m1_0], 1⟩] : List Own)) (F0 := ([] : List Own)) rfl rfl rfl (by kernel_rfl) (by kernel_rfl) (sel_perm (is := [0, 0]) (by kernel_rfl)) (stroke_Near_1_v1.ok h376)) ?_
          refine t_keep [0, 1, 5, 7, 8, 16] (σ' := [(0, .slice a_s0 s0.length c_s0), (1, .func (.func 64) #[] #[.pointer (some ⟨B0, 0, none⟩), .pointer (some ⟨B1, 0, none⟩)]), (5, .int .i64 x336), (7, .int .i64 (s0.length : Int)), (8, .int .i64 x336), (16, .bool true)]) (by kernel_rfl) ?_
          refine t_end ?_
          show W _ _ _ _ _ _ _
          refine w_cond rfl (fun _ => ?_) (fun c_ => by cases c_)
          show W _ _ _ _ _ _ _
          refine w_seq ?_
          refine w_reg fun all => ?_
          refine t_qz 2 [4] (σ' := [(4, .int .i64 x336)]) (by kernel_rfl) ?_
          refine t_end ?_
          show W _ _ _ _ _ _ _
          refine w_ret ?_
          obtain rfl := Option.some.inj e334
          obtain rfl := Option.some.inj e
          exact ⟨[.int .i64 x336], ([⟨B0, [.int .i64 m0_0, .int .i64 m0_1], 2⟩, ⟨B1, [.int .i64 m1_0], 1⟩] : List Own), S, ⟨rfl, trivial⟩, VS.sel [0, 0] (by kernel_rfl), rfl, rfl, rfl⟩
        | false =>
          rw [if_neg (by decide)] at e334
          refine t_v (.clor (vs := [.agg #[.int .i64 x338, .int .i64 x339, .int .i64 x340, .int .i64 x341]]) (caps := #[.pointer (some ⟨B0, 0, none⟩), .pointer (some ⟨B1, 0, none⟩)]) (A := ([⟨B0, [.int .i64 m0_0, .int .i64 m0_1], 2⟩, ⟨B1, [.int .i64 m1_0], 1⟩] : List Own)) (F0 := ([] : List Own)) rfl rfl rfl (by kernel_rfl) (by kernel_rfl) (sel_perm (is := [0, 0]) (by kernel_rfl)) (stroke_Near_1_v1.ok h376)) ?_
          refine t_keep [0, 1, 5, 7, 8, 16] (σ' := [(0, .slice a_s0 s0.length c_s0), (1, .func (.func 64) #[] #[.pointer (some ⟨B0, 0, none⟩), .pointer (some ⟨B1, 0, none⟩)]), (5, .int .i64 x336), (7, .int .i64 (s0.length : Int)), (8, .int .i64 x336), (16, .bool false)]) (by kernel_rfl) ?_
          refine t_end ?_
          show W _ _ _ _ _ _ _
          refine w_cond rfl (fun c_ => by cases c_) (fun _ => ?_)
          show W _ _ _ _ _ _ _
          refine w_skip ?_
          show W _ _ _ _ _ _ _
          refine w_reg fun all => ?_
          refine t_qz 2 [0, 1, 7, 8] (σ' := [(0, .slice a_s0 s0.length c_s0), (1, .func (.func 64) #[] #[.pointer (some ⟨B0, 0, none⟩), .pointer (some ⟨B1, 0, none⟩)]), (7, .int .i64 (s0.length : Int)), (8, .int .i64 (wr64 (x336 + 1)))]) (by kernel_rfl) ?_
          refine t_end ?_
          exact ⟨k_, Nat.lt_succ_self _, [(0, .slice a_s0 s0.length c_s0), (1, .func (.func 64) #[] #[.pointer (some ⟨B0, 0, none⟩), .pointer (some ⟨B1, 0, none⟩)]), (7, .int .i64 (s0.length : Int)), (8, .int .i64 (wr64 (x336 + 1)))], ([⟨B0, [.int .i64 m0_0, .int .i64 m0_1], 2⟩, ⟨B1, [.int .i64 m1_0], 1⟩] : List Own), S, keep_sub [0, 1, 7, 8] (by kernel_rfl), VS.sel [0, 0] (by kernel_rfl), wr64 (x336 + 1), rfl, rfl, rfl, e334⟩
      · rw [if_neg c337] at e334
        have c337b : (decide (x336 < (s0.length : Int))) = false := decide_eq_false c337
        refine t_v (dv_quiet rfl (congrArg (fun t => some (Value.bool t)) c337b)) ?_
        refine t_keep [0, 1, 7, 8, 9] (σ' := [(0, .slice a_s0 s0.length c_s0), (1, .func (.func 64) #[] #[.pointer (some ⟨B0, 0, none⟩), .pointer (some ⟨B1, 0, none⟩)]), (7, .int .i64 (s0.length : Int)), (8, .int .i64 x336), (9, .bool false)]) (by kernel_rfl) ?_
        refine t_end ?_
        show W _ _ _ _ _ _ _
        refine w_seq ?_
        refine w_cond rfl (fun c_ => by cases c_) (fun _ => ?_)
        show W _ _ _ _ _ _ _
        refine w_exit ?_
        obtain rfl := Option.some.inj e334
        exact ⟨([⟨B0, [.int .i64 m0_0, .int .i64 m0_1], 2⟩, ⟨B1, [.int .i64 m1_0], 1⟩] : List Own), S, VS.sel [0, 0] (by kernel_rfl), (), rfl, by kernel_rfl, rfl, rfl⟩
  · rintro σ_ H_ S_ ⟨u_, rfl, rfl, rfl, rfl⟩
    dsimp only at e
    refine w_seq ?_
    refine w_reg fun all => ?_
    refine t_qz 1 [4] (σ' := [(4, .int .i64 (-1))]) (by kernel_rfl) ?_
    refine t_end ?_
    show W _ _ _ _ _ _ _
    refine w_ret ?_
    obtain rfl := Option.some.inj e
    exact ⟨[.int .i64 (-1)], ([⟨B0, [.int .i64 m0_0, .int .i64 m0_1], 2⟩, ⟨B1, [.int .i64 m1_0], 1⟩] : List Own), S, ⟨rfl, trivial⟩, VS.sel [0, 0] (by kernel_rfl), rfl, rfl, rfl⟩

/-- slices.ContainsFunc[[]api.Edge,api.Edge] -/
def c63 : C :=
  (.seq (.reg [⟨(some 4), .mv (.const (.bool false)), none⟩])
  (.seq (.reg [⟨(some 5), .mv (.tmp 0), none⟩,
     ⟨(some 6), .mv (.tmp 1), none⟩,
     ⟨(some 7), .call 103 [(.tmp 5), (.tmp 6)], none⟩,
     ⟨(some 8), .bin .geq (.tmp 7) (.const (.int .i64 0)), none⟩,
     ⟨(some 4), .mv (.tmp 8), none⟩])
  .ret))
def api_Edge_v1.f (k : Nat) (s0 : List (Int × Int × Int × Int)) (m0_0 : Int) (m0_1 : Int) (m1_0 : Int) : Option (Bool) := (api_Edge_v2.f k s0 m0_0 m0_1 m1_0).bind fun t380 => (some (decide (t380 ≥ 0)))
theorem api_Edge_v1.ok {S : Seal} {B0 : Nat} {B1 : Nat} {k : Nat} {s0 : List (Int × Int × Int × Int)} {m0_0 : Int} {m0_1 : Int} {m1_0 : Int} {r0_ : Bool}{a_s0 : Option Addr} {c_s0 : Nat} (h_s0 : SlE S E_i644 s0 a_s0) (e : api_Edge_v1.f k s0 m0_0 m0_1 m1_0 = some r0_) :
    Cal Try.prog 63 [.slice a_s0 s0.length c_s0, .func (.func 64) #[] #[.pointer (some ⟨B0, 0, none⟩), .pointer (some ⟨B1, 0, none⟩)]] ([⟨B0, [.int .i64 m0_0, .int .i64 m0_1], 2⟩, ⟨B1, [.int .i64 m1_0], 1⟩] : List Own) S fun v H' S' => v = .bool r0_ ∧ H' = ([⟨B0, [.int .i64 m0_0, .int .i64 m0_1], 2⟩, ⟨B1, [.int .i64 m1_0], 1⟩] : List Own) ∧ S' = S := by
  unfold api_Edge_v1.f at e
  refine cal_of (c := c63) (N := 9) Try.func63 rfl rfl (by kernel_rfl) (rs := [.t 4]) (by kernel_rfl) (Nat.le_of_ble_eq_true rfl) ?_
  unfold c63
  refine w_seq ?_
  refine w_reg fun all => ?_
  refine t_qz 1 [0, 1] (σ' := [(0, .slice a_s0 s0.length c_s0), (1, .func (.func 64) #[] #[.pointer (some ⟨B0, 0, none⟩), .pointer (some ⟨B1, 0, none⟩)])]) (by kernel_rfl) ?_
  refine t_end ?_
  show W _ _ _ _ _ _ _
  refine w_seq ?_
  refine w_reg fun all => ?_
  obtain ⟨t380, h381, e⟩ := bind_of e
  refine t_qz 2 [5, 6] (σ' := [(5, .slice a_s0 s0.length c_s0), (6, .func (.func 64) #[] #[.pointer (some ⟨B0, 0, none⟩), .pointer (some ⟨B1, 0, none⟩)])]) (by kernel_rfl) ?_
  refine t_v (.callr (vs := [.slice a_s0 s0.length c_s0, .func (.func 64) #[] #[.pointer (some ⟨B0, 0, none⟩), .pointer (some ⟨B1, 0, none⟩)]]) (A := ([⟨B0, [.int .i64 m0_0, .int .i64 m0_1], 2⟩, ⟨B1, [.int .i64 m1_0], 1⟩] : List Own)) (F0 := ([] : List Own)) rfl rfl (by kernel_rfl) (sel_perm (is := [0, 0]) (by kernel_rfl)) (api_Edge_v2.ok h_s0 h381)) ?_
  refine t_qz 2 [4] (σ' := [(4, .bool (decide (t380 ≥ 0)))]) (by kernel_rfl) ?_
  refine t_end ?_
  show W _ _ _ _ _ _ _
  refine w_ret ?_
  obtain rfl := Option.some.inj e
  exact ⟨[.bool (decide (t380 ≥ 0))], ([⟨B0, [.int .i64 m0_0, .int .i64 m0_1], 2⟩, ⟨B1, [.int .i64 m1_0], 1⟩] : List Own), S, ⟨rfl, trivial⟩, VS.sel [0, 0] (by kernel_rfl), rfl, rfl, rfl⟩

/-- stroke.Near -/
def c19 : C :=
  (.seq (.reg [⟨(some 4), .box (.tmp 1), none⟩,
     ⟨(some 5), .box (.tmp 2), none⟩,
     ⟨(some 6), .mv (.const (.bool false)), none⟩])
  (.seq (.reg [⟨(some 7), .mv (.tmp 0), none⟩,
     ⟨(some 8), .mkf 64 [(.tmp 5), (.tmp 4)], none⟩,
     ⟨(some 9), .call 63 [(.tmp 7), (.tmp 8)], none⟩,
     ⟨(some 6), .mv (.tmp 9), none⟩])
  .ret))
def stroke_Near_v1.f (k : Nat) (l0 : List (Int × Int × Int × Int)) (w1 : Int) (p2_0 : Int) (p2_1 : Int) : Option (Bool) := (api_Edge_v1.f k l0 p2_0 p2_1 w1).bind fun t382 => (some t382)
theorem stroke_Near_v1.ok {S : Seal} {k : Nat} {l0 : List (Int × Int × Int × Int)} {w1 : Int} {p2_0 : Int} {p2_1 : Int} {r0_ : Bool}{a_l0 : Option Addr} {c_l0 : Nat} (h_l0 : SlE S E_i644 l0 a_l0) (e : stroke_Near_v1.f k l0 w1 p2_0 p2_1 = some r0_) :
    Cal Try.prog 19 [.slice a_l0 l0.length c_l0, .int .i64 w1, .agg #[.int .i64 p2_0, .int .i64 p2_1]] [] S fun v H' S' => v = .bool r0_ ∧ H' = [] ∧ S' = S := by
  unfold stroke_Near_v1.f at e
  refine cal_of (c := c19) (N := 10) Try.func19 rfl rfl (by kernel_rfl) (rs := [.t 6]) (by kernel_rfl) (Nat.le_of_ble_eq_true rfl) ?_
  unfold c19
  refine w_seq ?_
  refine w_reg fun all => ?_
  refine t_a (.box rfl rfl rfl) fun b331 fb331 sb331 => ?_
  refine t_a (.box rfl rfl rfl) fun b332 fb332 sb332 => ?_
  refine t_qz 1 [0, 4, 5] (σ' := [(0, .slice a_l0 l0.length c_l0), (4, .pointer (some ⟨b331, 0, none⟩)), (5, .pointer (some ⟨b332, 0, none⟩))]) (by kernel_rfl) ?_
  refine t_end ?_
  show W _ _ _ _ _ _ _
  refine w_seq ?_
  refine w_reg fun all => ?_
  obtain ⟨t382, h383, e⟩ := bind_of e
  refine t_qz 2 [7, 8] (σ' := [(7, .slice a_l0 l0.length c_l0), (8, .func (.func 64) #[] #[.pointer (some ⟨b332, 0, none⟩), .pointer (some ⟨b331, 0, none⟩)])]) (by kernel_rfl) ?_
  refine t_v (.callr (vs := [.slice a_l0 l0.length c_l0, .func (.func 64) #[] #[.pointer (some ⟨b332, 0, none⟩), .pointer (some ⟨b331, 0, none⟩)]]) (A := ([⟨b332, [.int .i64 p2_0, .int .i64 p2_1], 2⟩, ⟨b331, [.int .i64 w1], 1⟩] : List Own)) (F0 := ([] : List Own)) rfl rfl (by kernel_rfl) (sel_perm (is := [0, 0]) (by kernel_rfl)) (api_Edge_v1.ok h_l0 h383)) ?_
  refine t_qz 1 [6] (σ' := [(6, .bool t382)]) (by kernel_rfl) ?_
  refine t_end ?_
  show W _ _ _ _ _ _ _
  refine w_ret ?_
  obtain rfl := Option.some.inj e
  exact ⟨[.bool t382], [], S, ⟨rfl, trivial⟩, VS.none, rfl, rfl, rfl⟩

/-- sweep.Line$1 -/
def c86 : C :=
  (.seq (.reg [⟨(some 4), .box (.tmp 1), none⟩,
     ⟨(some 5), .mv (.const (.bool false)), none⟩])
  (.seq (.reg [⟨(some 6), .mv (.tmp 0), none⟩,
     ⟨(some 7), .ld none (.tmp 2), none⟩,
     ⟨(some 8), .ld (some 2) (.tmp 4), none⟩,
     ⟨(some 9), .call 19 [(.tmp 6), (.tmp 7), (.tmp 8)], none⟩,
     ⟨(some 5), .mv (.tmp 9), none⟩])
  .ret))
def sweep_Line_1_v1.f (k : Nat) (l0 : List (Int × Int × Int × Int)) (p1_0 : Int) (p1_1 : Int) (m0_0 : Int) : Option (Bool) := (stroke_Near_v1.f k l0 m0_0 p1_0 p1_1).bind fun t384 => (some t384)
theorem sweep_Line_1_v1.ok {S : Seal} {B0 : Nat} {k : Nat} {l0 : List (Int × Int × Int × Int)} {p1_0 : Int} {p1_1 : Int} {m0_0 : Int} {r0_ : Bool}{a_l0 : Option Addr} {c_l0 : Nat} (h_l0 : SlE S E_i644 l0 a_l0) (e : sweep_Line_1_v1.f k l0 p1_0 p1_1 m0_0 = some r0_) :
    Cal Try.prog 86 [.slice a_l0 l0.length c_l0, .agg #[.int .i64 p1_0, .int .i64 p1_1], .pointer (some ⟨B0, 0, none⟩)] ([⟨B0, [.int .i64 m0_0], 1⟩] : List Own) S fun v H' S' => v = .bool r0_ ∧ H' = ([⟨B0, [.int .i64 m0_0], 1⟩] : List Own) ∧ S' = S := by
  unfold sweep_Line_1_v1.f at e
  refine cal_of (c := c86) (N := 10) Try.func86 rfl rfl (by kernel_rfl) (rs := [.t 5]) (by kernel_rfl) (Nat.le_of_ble_eq_true rfl) ?_
  unfold c86
  refine w_seq ?_
  refine w_reg fun all => ?_
  refine t_a (.box rfl rfl rfl) fun b330 fb330 sb330 => ?_
  refine t_qz 1 [0, 2, 4] (σ' := [(0, .slice a_l0 l0.length c_l0), (2, .pointer (some ⟨B0, 0, none⟩)), (4, .pointer (some ⟨b330, 0, none⟩))]) (by kernel_rfl) ?_
  refine t_end ?_
  show W _ _ _ _ _ _ _
  refine w_seq ?_
  refine w_reg fun all => ?_
  refine t_qz 1 [2, 4, 6] (σ' := [(2, .pointer (some ⟨B0, 0, none⟩)), (4, .pointer (some ⟨b330, 0, none⟩)), (6, .slice a_l0 l0.length c_l0)]) (by kernel_rfl) ?_
  refine t_v (.ld1 rfl rfl rfl (.at 1 rfl rfl)) ?_
  refine t_v (.ldn rfl rfl rfl (.at 0 rfl rfl)) ?_
  obtain ⟨t384, h385, e⟩ := bind_of e
  refine t_v (.call (vs := [.slice a_l0 l0.length c_l0, .int .i64 m0_0, .agg #[.int .i64 p1_0, .int .i64 p1_1]]) rfl rfl (by kernel_rfl) (stroke_Near_v1.ok h_l0 h385)) ?_
  refine t_qz 1 [5] (σ' := [(5, .bool t384)]) (by kernel_rfl) ?_
  refine t_end ?_
  show W _ _ _ _ _ _ _
  refine w_ret ?_
  obtain rfl := Option.some.inj e
  exact ⟨[.bool t384], ([⟨B0, [.int .i64 m0_0], 1⟩] : List Own), S, ⟨rfl, trivial⟩, VS.sel [1] (by kernel_rfl), rfl, rfl, rfl⟩

def sweep_masks_v2.l2 : Nat → Int → Int → Int → List (Int × Int × Int × Int) → Int → Int → List (Int) → Option (List (Int) × Bool)
  | 0, _, _, _, _, _, _, _ => none
  | k + 1, y2, m0_0, x361, t370, x373, x380, y381 => if x380 < (wr64 ((wr64 (x361 + 1)) * 8)) then ((sweep_Sample.f x373 y2 x380).bind fun (t383, t384) => ((sweep_Line_1_v1.f k t370 t383 t384 m0_0).bind fun t386 => (if t386 = true then ((lgt y381 x373).bind fun x388 => (if x380 < 0 then none else ((lgt y381 x373).bind fun x391 => ((lput y381 x373 (bits .or .u64 x388 (wru64 (1 * 2 ^ (min (Int.toNat x380) 64))))).bind fun y393 => (sweep_masks_v2.l2 k y2 m0_0 x361 t370 x373 (wr64 (x380 + 1)) y393))))) else (sweep_masks_v2.l2 k y2 m0_0 x361 t370 x373 (wr64 (x380 + 1)) y381)))) else (some (y381, true))
def sweep_masks_v2.l1 : Nat → Int → Int → Int → Int → List (Int × Int × Int × Int) → Int → List (Int) → Option (List (Int))
  | 0, _, _, _, _, _, _, _ => none
  | k + 1, y2, w3, m0_0, x361, t370, x373, y374 => if x373 < w3 then (if (t370.length : Int) > 0 then ((sweep_masks_v2.l2 k y2 m0_0 x361 t370 x373 (wr64 (x361 * 8)) y374 : Option (List (Int) × Bool)).bind fun (y399, x400) => (sweep_masks_v2.l1 k y2 w3 m0_0 x361 t370 (wr64 (x373 + 1)) y399)) else (some y374)) else (some y374)
def sweep_masks_v2.l0 : Nat → List (Int × Int × Int × Int) → Int → Int → Int → Int → Int → List (Int) → Option (List (Int))
  | 0, _, _, _, _, _, _, _ => none
  | k + 1, l0, wide1, y2, w3, m0_0, x361, y362 => if x361 < 8 then (((sweep_Sample.f 0 y2 (wr64 (x361 * 8))).bind fun (t367, t368) => ((sweep_crossing_v1.f k l0 wide1 t368).bind fun t370 => (sweep_masks_v2.l1 k y2 w3 m0_0 x361 t370 0 y362)) : Option (List (Int))).bind fun y403 => (sweep_masks_v2.l0 k l0 wide1 y2 w3 m0_0 (wr64 (x361 + 1)) y403)) else (some y362)
def sweep_masks_v2.f (k : Nat) (l0 : List (Int × Int × Int × Int)) (wide1 : Int) (y2 : Int) (w3 : Int) (m0_0 : Int) : Option (List (Int)) := if w3 < 1 then (some ([] : List (Int))) else ((lmk (0 : Int) w3 w3).bind fun y355 => ((sweep_masks_v2.l0 k l0 wide1 y2 w3 m0_0 0 y355 : Option (List (Int))).bind fun y406 => (some y406)))
theorem sweep_masks_v2.ok {S : Seal} {B0 : Nat} {k : Nat} {l0 : List (Int × Int × Int × Int)} {wide1 : Int} {y2 : Int} {w3 : Int} {m0_0 : Int} {r0_ : List (Int)}{a_l0 : Option Addr} {c_l0 : Nat} (h_l0 : SlE S E_i644 l0 a_l0) (e : sweep_masks_v2.f k l0 wide1 y2 w3 m0_0 = some r0_) :
    Cal Try.prog 82 [.slice a_l0 l0.length c_l0, .int .i64 wide1, .int .i64 y2, .int .i64 w3, .func (.func 86) #[] #[.pointer (some ⟨B0, 0, none⟩)]] ([⟨B0, [.int .i64 m0_0], 1⟩] : List Own) S fun v H' S' => ∃ (N0_ : Option Nat) (nN0_ : Nat) , v = .slice (ad N0_) r0_.length (nN0_ / 1) ∧ H' = ([⟨N0_, encL E_u64 r0_, nN0_⟩, ⟨B0, [.int .i64 m0_0], 1⟩] : List Own) ∧ S' = S := by
  unfold sweep_masks_v2.f at e
  refine cal_of (c := c82) (N := 67) Try.func82 rfl rfl (by kernel_rfl) (rs := [.t 10]) (by kernel_rfl) (Nat.le_of_ble_eq_true rfl) ?_
  unfold c82
  refine w_seq ?_
  refine w_reg fun all => ?_
  refine t_qz 1 [0, 1, 2, 3, 4] (σ' := [(0, .slice a_l0 l0.length c_l0), (1, .int .i64 wide1), (2, .int .i64 y2), (3, .int .i64 w3), (4, .func (.func 86) #[] #[.pointer (some ⟨B0, 0, none⟩)])]) (by kernel_rfl) ?_
  refine t_end ?_
  show W _ _ _ _ _ _ _
  refine w_seq ?_
  refine w_seq ?_
  refine w_reg fun all => ?_
  by_cases c354 : w3 < 1
  · rw [if_pos c354] at e
    have c354b : (decide (w3 < 1)) = true := decide_eq_true c354
    refine t_qz 1 [0, 1, 2, 3, 4, 16] (σ' := [(0, .slice a_l0 l0.length c_l0), (1, .int .i64 wide1), (2, .int .i64 y2), (3, .int .i64 w3), (4, .func (.func 86) #[] #[.pointer (some ⟨B0, 0, none⟩)]), (16, .int .i64 w3)]) (by kernel_rfl) ?_
    refine t_v (dv_quiet rfl (congrArg (fun t => some (Value.bool t)) c354b)) ?_
    refine t_keep [0, 1, 2, 3, 4, 17] (σ' := [(0, .slice a_l0 l0.length c_l0), (1, .int .i64 wide1), (2, .int .i64 y2), (3, .int .i64 w3), (4, .func (.func 86) #[] #[.pointer (some ⟨B0, 0, none⟩)]), (17, .bool true)]) (by kernel_rfl) ?_
    refine t_end ?_
    show W _ _ _ _ _ _ _
    refine w_cond rfl (fun _ => ?_) (fun c_ => by cases c_)
    show W _ _ _ _ _ _ _
    refine w_seq ?_
    refine w_reg fun all => ?_
    refine t_qz 1 [10] (σ' := [(10, .slice none 0 0)]) (by kernel_rfl) ?_
    refine t_end ?_
    show W _ _ _ _ _ _ _
    refine w_ret ?_
    obtain rfl := Option.some.inj e
    exact ⟨[.slice (ad none) ([] : List (Int)).length (0 / 1)], ([⟨none, encL E_u64 ([] : List (Int)), 0⟩, ⟨B0, [.int .i64 m0_0], 1⟩] : List Own), S, ⟨(show gt _ _ = some _ from (by kernel_rfl)), trivial⟩, VS.trans VS.vac (VS.sel [0, 0] (by kernel_rfl)), none, 0, rfl, rfl, rfl⟩
  · rw [if_neg c354] at e
    have c354b : (decide (w3 < 1)) = false := decide_eq_false c354
    refine t_qz 1 [0, 1, 2, 3, 4, 16] (σ' := [(0, .slice a_l0 l0.length c_l0), (1, .int .i64 wide1), (2, .int .i64 y2), (3, .int .i64 w3), (4, .func (.func 86) #[] #[.pointer (some ⟨B0, 0, none⟩)]), (16, .int .i64 w3)]) (by kernel_rfl) ?_
    refine t_v (dv_quiet rfl (congrArg (fun t => some (Value.bool t)) c354b)) ?_
    refine t_keep [0, 1, 2, 3, 4, 17] (σ' := [(0, .slice a_l0 l0.length c_l0), (1, .int .i64 wide1), (2, .int .i64 y2), (3, .int .i64 w3), (4, .func (.func 86) #[] #[.pointer (some ⟨B0, 0, none⟩)]), (17, .bool false)]) (by kernel_rfl) ?_
    refine t_end ?_
    show W _ _ _ _ _ _ _
    refine w_cond rfl (fun c_ => by cases c_) (fun _ => ?_)
    show W _ _ _ _ _ _ _
    refine w_skip ?_
    show W _ _ _ _ _ _ _
    refine w_seq ?_
    refine w_reg fun all => ?_
    obtain ⟨y355, hl356, e⟩ := bind_of e
    refine t_qz 1 [0, 1, 2, 3, 4, 18] (σ' := [(0, .slice a_l0 l0.length c_l0), (1, .int .i64 wide1), (2, .int .i64 y2), (3, .int .i64 w3), (4, .func (.func 86) #[] #[.pointer (some ⟨B0, 0, none⟩)]), (18, .int .i64 w3)]) (by kernel_rfl) ?_
    refine t_mkl (E := E_u64) (x0 := 0) rfl rfl rfl rfl rfl (by decide) (by decide) rfl hl356 fun a357 na357 => ?_
    refine t_qz 1 [0, 1, 2, 3, 4, 11] (σ' := [(0, .slice a_l0 l0.length c_l0), (1, .int .i64 wide1), (2, .int .i64 y2), (3, .int .i64 w3), (4, .func (.func 86) #[] #[.pointer (some ⟨B0, 0, none⟩)]), (11, .slice (ad (some a357)) y355.length (na357 / 1))]) (by kernel_rfl) ?_
    refine t_end ?_
    show W _ _ _ _ _ _ _
    obtain ⟨y406, e359, e⟩ := bind_of e
    refine w_cut [11] (fun σ_ H_ S_ => [(11, .slice (ad (some a357)) y406.length (na357 / 1))] = σ_ ∧ ([⟨B0, [.int .i64 m0_0], 1⟩, ⟨some a357, encL E_u64 y406, na357⟩] : List Own) = H_ ∧ S = S_) ?_ ?_
    · show W _ _ _ _ _ _ _
      refine w_seq ?_
      refine w_reg fun all => ?_
      refine t_qz 1 [0, 1, 2, 3, 4, 11, 20] (σ' := [(0, .slice a_l0 l0.length c_l0), (1, .int .i64 wide1), (2, .int .i64 y2), (3, .int .i64 w3), (4, .func (.func 86) #[] #[.pointer (some ⟨B0, 0, none⟩)]), (11, .slice (ad (some a357)) y355.length (na357 / 1)), (20, .int .i64 0)]) (by kernel_rfl) ?_
      refine t_end ?_
      show W _ _ _ _ _ _ _
      refine w_block ?_
      refine w_kp [0, 1, 2, 3, 4, 11, 20] (σ' := [(0, .slice a_l0 l0.length c_l0), (1, .int .i64 wide1), (2, .int .i64 y2), (3, .int .i64 w3), (4, .func (.func 86) #[] #[.pointer (some ⟨B0, 0, none⟩)]), (11, .slice (ad (some a357)) y355.length (na357 / 1)), (20, .int .i64 0)]) (by kernel_rfl) ?_
      refine w_loop (fun n_ σ_ H_ S_ => ∃ (x361 : Int) (y362 : List (Int)), [(0, .slice a_l0 l0.length c_l0), (1, .int .i64 wide1), (2, .int .i64 y2), (3, .int .i64 w3), (4, .func (.func 86) #[] #[.pointer (some ⟨B0, 0, none⟩)]), (11, .slice (ad (some a357)) y362.length (na357 / 1)), (20, .int .i64 x361)] = σ_ ∧ ([⟨some a357, encL E_u64 y362, na357⟩, ⟨B0, [.int .i64 m0_0], 1⟩] : List Own) = H_ ∧ S = S_ ∧ sweep_masks_v2.l0 n_ l0 wide1 y2 w3 m0_0 x361 y362 = some y406) _ ⟨0, y355, rfl, rfl, rfl, e359⟩ ?_
      rintro n405 σ_ H_ S_ ⟨x361, y362, rfl, rfl, rfl, e359⟩
      cases n405 with
      | zero => rw [sweep_masks_v2.l0.eq_1] at e359; cases e359
      | succ k_ =>
        rw [sweep_masks_v2.l0.eq_2] at e359
        refine w_seq ?_
        refine w_reg fun all => ?_
        by_cases c363 : x361 < 8
        · rw [if_pos c363] at e359
          have c363b : (decide (x361 < 8)) = true := decide_eq_true c363
          refine t_v (dv_quiet rfl (congrArg (fun t => some (Value.bool t)) c363b)) ?_
          refine t_keep [0, 1, 2, 3, 4, 11, 20, 21] (σ' := [(0, .slice a_l0 l0.length c_l0), (1, .int .i64 wide1), (2, .int .i64 y2), (3, .int .i64 w3), (4, .func (.func 86) #[] #[.pointer (some ⟨B0, 0, none⟩)]), (11, .slice (ad (some a357)) y362.length (na357 / 1)), (20, .int .i64 x361), (21, .bool true)]) (by kernel_rfl) ?_
          refine t_end ?_
          show W _ _ _ _ _ _ _
          refine w_seq ?_
          refine w_cond rfl (fun _ => ?_) (fun c_ => by cases c_)
          show W _ _ _ _ _ _ _
          refine w_skip ?_
          show W _ _ _ _ _ _ _
          obtain ⟨y403, e365, e359⟩ := bind_of e359
          refine w_cut [0, 1, 2, 3, 4, 11, 20] (fun σ_ H_ S_ => [(0, .slice a_l0 l0.length c_l0), (1, .int .i64 wide1), (2, .int .i64 y2), (3, .int .i64 w3), (4, .func (.func 86) #[] #[.pointer (some ⟨B0, 0, none⟩)]), (11, .slice (ad (some a357)) y403.length (na357 / 1)), (20, .int .i64 x361)] = σ_ ∧ ([⟨B0, [.int .i64 m0_0], 1⟩, ⟨some a357, encL E_u64 y403, na357⟩] : List Own) = H_ ∧ S = S_) ?_ ?_
          · show W _ _ _ _ _ _ _
            refine w_block ?_
            refine w_seq ?_
            refine w_reg fun all => ?_
            refine t_qz 2 [0, 1, 2, 3, 4, 11, 12, 20] (σ' := [(0, .slice a_l0 l0.length c_l0), (1, .int .i64 wide1), (2, .int .i64 y2), (3, .int .i64 w3), (4, .func (.func 86) #[] #[.pointer (some ⟨B0, 0, none⟩)]), (11, .slice (ad (some a357)) y362.length (na357 / 1)), (12, .int .i64 x361), (20, .int .i64 x361)]) (by kernel_rfl) ?_
            refine t_end ?_
            show W _ _ _ _ _ _ _
            refine w_seq ?_
            refine w_reg fun all => ?_
            obtain ⟨⟨t367, t368⟩, h369, e365⟩ := bind_of e365
            try dsimp only at e365
            refine t_qz 5 [0, 1, 2, 3, 4, 11, 12, 20, 23, 24, 25, 27] (σ' := [(0, .slice a_l0 l0.length c_l0), (1, .int .i64 wide1), (2, .int .i64 y2), (3, .int .i64 w3), (4, .func (.func 86) #[] #[.pointer (some ⟨B0, 0, none⟩)]), (11, .slice (ad (some a357)) y362.length (na357 / 1)), (12, .int .i64 x361), (20, .int .i64 x361), (23, .slice a_l0 l0.length c_l0), (24, .int .i64 wide1), (25, .int .i64 y2), (27, .int .i64 (wr64 (x361 * 8)))]) (by kernel_rfl) ?_
            refine t_v (.call (vs := [.int .i64 0, .int .i64 y2, .int .i64 (wr64 (x361 * 8))]) rfl rfl (by kernel_rfl) (sweep_Sample.ok h369)) ?_
            obtain ⟨t370, h371, e365⟩ := bind_of e365
            refine t_qz 1 [0, 1, 2, 3, 4, 11, 12, 20, 23, 24, 29] (σ' := [(0, .slice a_l0 l0.length c_l0), (1, .int .i64 wide1), (2, .int .i64 y2), (3, .int .i64 w3), (4, .func (.func 86) #[] #[.pointer (some ⟨B0, 0, none⟩)]), (11, .slice (ad (some a357)) y362.length (na357 / 1)), (12, .int .i64 x361), (20, .int .i64 x361), (23, .slice a_l0 l0.length c_l0), (24, .int .i64 wide1), (29, .int .i64 t368)]) (by kernel_rfl) ?_
            refine t_call (vs := [.slice a_l0 l0.length c_l0, .int .i64 wide1, .int .i64 t368]) (H1 := ([] : List Own)) (F := ([⟨some a357, encL E_u64 y362, na357⟩, ⟨B0, [.int .i64 m0_0], 1⟩] : List Own)) rfl rfl (by kernel_rfl) (sel_perm (is := []) (by kernel_rfl)) (sweep_crossing_v1.ok h_l0 h371) ?_
            rintro _ _ S_ ⟨N372, nN372, rfl, rfl, hS_⟩
            obtain rfl := hS_.symm
            refine t_qz 1 [0, 1, 2, 3, 4, 11, 12, 13, 20] (σ' := [(0, .slice a_l0 l0.length c_l0), (1, .int .i64 wide1), (2, .int .i64 y2), (3, .int .i64 w3), (4, .func (.func 86) #[] #[.pointer (some ⟨B0, 0, none⟩)]), (11, .slice (ad (some a357)) y362.length (na357 / 1)), (12, .int .i64 x361), (13, .slice (ad N372) t370.length (nN372 / 4)), (20, .int .i64 x361)]) (by kernel_rfl) ?_
            refine t_end ?_
            show W _ _ _ _ _ _ _
            refine w_seq ?_
            refine w_reg fun all => ?_
            refine t_qz 1 [0, 1, 2, 3, 4, 11, 12, 13, 14, 20] (σ' := [(0, .slice a_l0 l0.length c_l0), (1, .int .i64 wide1), (2, .int .i64 y2), (3, .int .i64 w3), (4, .func (.func 86) #[] #[.pointer (some ⟨B0, 0, none⟩)]), (11, .slice (ad (some a357)) y362.length (na357 / 1)), (12, .int .i64 x361), (13, .slice (ad N372) t370.length (nN372 / 4)), (14, .int .i64 0), (20, .int .i64 x361)]) (by kernel_rfl) ?_
            refine t_end ?_
            show W _ _ _ _ _ _ _
            refine w_block ?_
            refine w_kp [0, 1, 2, 3, 4, 11, 12, 13, 14, 20] (σ' := [(0, .slice a_l0 l0.length c_l0), (1, .int .i64 wide1), (2, .int .i64 y2), (3, .int .i64 w3), (4, .func (.func 86) #[] #[.pointer (some ⟨B0, 0, none⟩)]), (11, .slice (ad (some a357)) y362.length (na357 / 1)), (12, .int .i64 x361), (13, .slice (ad N372) t370.length (nN372 / 4)), (14, .int .i64 0), (20, .int .i64 x361)]) (by kernel_rfl) ?_
            refine w_loop (fun n_ σ_ H_ S_ => ∃ (x373 : Int) (y374 : List (Int)), [(0, .slice a_l0 l0.length c_l0), (1, .int .i64 wide1), (2, .int .i64 y2), (3, .int .i64 w3), (4, .func (.func 86) #[] #[.pointer (some ⟨B0, 0, none⟩)]), (11, .slice (ad (some a357)) y374.length (na357 / 1)), (12, .int .i64 x361), (13, .slice (ad N372) t370.length (nN372 / 4)), (14, .int .i64 x373), (20, .int .i64 x361)] = σ_ ∧ ([⟨N372, encL E_i644 t370, nN372⟩, ⟨some a357, encL E_u64 y374, na357⟩, ⟨B0, [.int .i64 m0_0], 1⟩] : List Own) = H_ ∧ S = S_ ∧ sweep_masks_v2.l1 n_ y2 w3 m0_0 x361 t370 x373 y374 = some y403) _ ⟨0, y362, rfl, rfl, rfl, e365⟩ ?_
            rintro n402 σ_ H_ S_ ⟨x373, y374, rfl, rfl, rfl, e365⟩
            cases n402 with
            | zero => rw [sweep_masks_v2.l1.eq_1] at e365; cases e365
            | succ k_ =>
              rw [sweep_masks_v2.l1.eq_2] at e365
              refine w_seq ?_
              refine w_seq ?_
              refine w_reg fun all => ?_
              by_cases c375 : x373 < w3
              · rw [if_pos c375] at e365
                have c375b : (decide (x373 < w3)) = true := decide_eq_true c375
                refine t_qz 2 [0, 1, 2, 3, 4, 11, 12, 13, 14, 20, 31, 32] (σ' := [(0, .slice a_l0 l0.length c_l0), (1, .int .i64 wide1), (2, .int .i64 y2), (3, .int .i64 w3), (4, .func (.func 86) #[] #[.pointer (some ⟨B0, 0, none⟩)]), (11, .slice (ad (some a357)) y374.length (na357 / 1)), (12, .int .i64 x361), (13, .slice (ad N372) t370.length (nN372 / 4)), (14, .int .i64 x373), (20, .int .i64 x361), (31, .int .i64 x373), (32, .int .i64 w3)]) (by kernel_rfl) ?_
                refine t_v (dv_quiet rfl (congrArg (fun t => some (Value.bool t)) c375b)) ?_
                by_cases c376 : (t370.length : Int) > 0
                · rw [if_pos c376] at e365
                  have c376b : (decide ((t370.length : Int) > 0)) = true := decide_eq_true c376
                  refine t_qz 3 [0, 1, 2, 3, 4, 11, 12, 13, 14, 20, 34, 35, 36] (σ' := [(0, .slice a_l0 l0.length c_l0), (1, .int .i64 wide1), (2, .int .i64 y2), (3, .int .i64 w3), (4, .func (.func 86) #[] #[.pointer (some ⟨B0, 0, none⟩)]), (11, .slice (ad (some a357)) y374.length (na357 / 1)), (12, .int .i64 x361), (13, .slice (ad N372) t370.length (nN372 / 4)), (14, .int .i64 x373), (20, .int .i64 x361), (34, .bool true), (35, .slice (ad N372) t370.length (nN372 / 4)), (36, .int .i64 (t370.length : Int))]) (by kernel_rfl) ?_
                  refine t_v (dv_quiet rfl (congrArg (fun t => some (Value.bool t)) c376b)) ?_
                  refine t_qz 1 [0, 1, 2, 3, 4, 11, 12, 13, 14, 20, 35, 36, 37, 38] (σ' := [(0, .slice a_l0 l0.length c_l0), (1, .int .i64 wide1), (2, .int .i64 y2), (3, .int .i64 w3), (4, .func (.func 86) #[] #[.pointer (some ⟨B0, 0, none⟩)]), (11, .slice (ad (some a357)) y374.length (na357 / 1)), (12, .int .i64 x361), (13, .slice (ad N372) t370.length (nN372 / 4)), (14, .int .i64 x373), (20, .int .i64 x361), (35, .slice (ad N372) t370.length (nN372 / 4)), (36, .int .i64 (t370.length : Int)), (37, .bool true), (38, .bool true)]) (by kernel_rfl) ?_
                  refine t_end ?_
                  show W _ _ _ _ _ _ _
                  refine w_cond rfl (fun _ => ?_) (fun c_ => by cases c_)
                  show W _ _ _ _ _ _ _
                  refine w_skip ?_
                  show W _ _ _ _ _ _ _
                  obtain ⟨⟨y399, x400⟩, e378, e365⟩ := bind_of e365
                  try dsimp only at e365
                  refine w_cut [0, 1, 2, 3, 4, 11, 12, 13, 14, 20, 35, 36, 37] (fun σ_ H_ S_ => [(0, .slice a_l0 l0.length c_l0), (1, .int .i64 wide1), (2, .int .i64 y2), (3, .int .i64 w3), (4, .func (.func 86) #[] #[.pointer (some ⟨B0, 0, none⟩)]), (11, .slice (ad (some a357)) y399.length (na357 / 1)), (12, .int .i64 x361), (13, .slice (ad N372) t370.length (nN372 / 4)), (14, .int .i64 x373), (20, .int .i64 x361), (35, .slice (ad N372) t370.length (nN372 / 4)), (36, .int .i64 (t370.length : Int)), (37, .bool x400)] = σ_ ∧ ([⟨B0, [.int .i64 m0_0], 1⟩, ⟨some a357, encL E_u64 y399, na357⟩, ⟨N372, encL E_i644 t370, nN372⟩] : List Own) = H_ ∧ S = S_) ?_ ?_
                  · show W _ _ _ _ _ _ _
                    refine w_block ?_
                    refine w_seq ?_
                    refine w_reg fun all => ?_
                    refine t_qz 3 [0, 1, 2, 3, 4, 11, 12, 13, 14, 15, 20, 35, 36, 37] (σ' := [(0, .slice a_l0 l0.length c_l0), (1, .int .i64 wide1), (2, .int .i64 y2), (3, .int .i64 w3), (4, .func (.func 86) #[] #[.pointer (some ⟨B0, 0, none⟩)]), (11, .slice (ad (some a357)) y374.length (na357 / 1)), (12, .int .i64 x361), (13, .slice (ad N372) t370.length (nN372 / 4)), (14, .int .i64 x373), (15, .int .i64 (wr64 (x361 * 8))), (20, .int .i64 x361), (35, .slice (ad N372) t370.length (nN372 / 4)), (36, .int .i64 (t370.length : Int)), (37, .bool true)]) (by kernel_rfl) ?_
                    refine t_end ?_
                    show W _ _ _ _ _ _ _
                    refine w_block ?_
                    refine w_kp [0, 1, 2, 3, 4, 11, 12, 13, 14, 15, 20, 35, 36, 37] (σ' := [(0, .slice a_l0 l0.length c_l0), (1, .int .i64 wide1), (2, .int .i64 y2), (3, .int .i64 w3), (4, .func (.func 86) #[] #[.pointer (some ⟨B0, 0, none⟩)]), (11, .slice (ad (some a357)) y374.length (na357 / 1)), (12, .int .i64 x361), (13, .slice (ad N372) t370.length (nN372 / 4)), (14, .int .i64 x373), (15, .int .i64 (wr64 (x361 * 8))), (20, .int .i64 x361), (35, .slice (ad N372) t370.length (nN372 / 4)), (36, .int .i64 (t370.length : Int)), (37, .bool true)]) (by kernel_rfl) ?_
                    refine w_loop (fun n_ σ_ H_ S_ => ∃ (x380 : Int) (y381 : List (Int)), [(0, .slice a_l0 l0.length c_l0), (1, .int .i64 wide1), (2, .int .i64 y2), (3, .int .i64 w3), (4, .func (.func 86) #[] #[.pointer (some ⟨B0, 0, none⟩)]), (11, .slice (ad (some a357)) y381.length (na357 / 1)), (12, .int .i64 x361), (13, .slice (ad N372) t370.length (nN372 / 4)), (14, .int .i64 x373), (15, .int .i64 x380), (20, .int .i64 x361), (35, .slice (ad N372) t370.length (nN372 / 4)), (36, .int .i64 (t370.length : Int)), (37, .bool true)] = σ_ ∧ ([⟨N372, encL E_i644 t370, nN372⟩, ⟨some a357, encL E_u64 y381, na357⟩, ⟨B0, [.int .i64 m0_0], 1⟩] : List Own) = H_ ∧ S = S_ ∧ sweep_masks_v2.l2 n_ y2 m0_0 x361 t370 x373 x380 y381 = some (y399, x400)) _ ⟨wr64 (x361 * 8), y374, rfl, rfl, rfl, e378⟩ ?_
                    rintro n398 σ_ H_ S_ ⟨x380, y381, rfl, rfl, rfl, e378⟩
                    cases n398 with
                    | zero => rw [sweep_masks_v2.l2.eq_1] at e378; cases e378
                    | succ k_ =>
                      rw [sweep_masks_v2.l2.eq_2] at e378
                      refine w_seq ?_
                      refine w_seq ?_
                      refine w_reg fun all => ?_
                      by_cases c382 : x380 < (wr64 ((wr64 (x361 + 1)) * 8))
                      · rw [if_pos c382] at e378
                        have c382b : (decide (x380 < (wr64 ((wr64 (x361 + 1)) * 8)))) = true := decide_eq_true c382
                        refine t_qz 4 [0, 1, 2, 3, 4, 11, 12, 13, 14, 15, 20, 35, 36, 37, 43, 46] (σ' := [(0, .slice a_l0 l0.length c_l0), (1, .int .i64 wide1), (2, .int .i64 y2), (3, .int .i64 w3), (4, .func (.func 86) #[] #[.pointer (some ⟨B0, 0, none⟩)]), (11, .slice (ad (some a357)) y381.length (na357 / 1)), (12, .int .i64 x361), (13, .slice (ad N372) t370.length (nN372 / 4)), (14, .int .i64 x373), (15, .int .i64 x380), (20, .int .i64 x361), (35, .slice (ad N372) t370.length (nN372 / 4)), (36, .int .i64 (t370.length : Int)), (37, .bool true), (43, .int .i64 x380), (46, .int .i64 (wr64 ((wr64 (x361 + 1)) * 8)))]) (by kernel_rfl) ?_
                        refine t_v (dv_quiet rfl (congrArg (fun t => some (Value.bool t)) c382b)) ?_
                        refine t_keep [0, 1, 2, 3, 4, 11, 12, 13, 14, 15, 20, 35, 36, 37, 47] (σ' := [(0, .slice a_l0 l0.length c_l0), (1, .int .i64 wide1), (2, .int .i64 y2), (3, .int .i64 w3), (4, .func (.func 86) #[] #[.pointer (some ⟨B0, 0, none⟩)]), (11, .slice (ad (some a357)) y381.length (na357 / 1)), (12, .int .i64 x361), (13, .slice (ad N372) t370.length (nN372 / 4)), (14, .int .i64 x373), (15, .int .i64 x380), (20, .int .i64 x361), (35, .slice (ad N372) t370.length (nN372 / 4)), (36, .int .i64 (t370.length : Int)), (37, .bool true), (47, .bool true)]) (by kernel_rfl) ?_
                        refine t_end ?_
                        show W _ _ _ _ _ _ _
                        refine w_cond rfl (fun _ => ?_) (fun c_ => by cases c_)
                        show W _ _ _ _ _ _ _
                        refine w_skip ?_
                        show W _ _ _ _ _ _ _
                        refine w_seq ?_
                        refine w_block ?_
                        refine w_seq ?_
                        refine w_reg fun all => ?_
                        obtain ⟨⟨t383, t384⟩, h385, e378⟩ := bind_of e378
                        try dsimp only at e378
                        refine t_qz 5 [0, 1, 2, 3, 4, 11, 12, 13, 14, 15, 20, 35, 36, 37, 50, 51, 52, 53, 54] (σ' := [(0, .slice a_l0 l0.length c_l0), (1, .int .i64 wide1), (2, .int .i64 y2), (3, .int .i64 w3), (4, .func (.func 86) #[] #[.pointer (some ⟨B0, 0, none⟩)]), (11, .slice (ad (some a357)) y381.length (na357 / 1)), (12, .int .i64 x361), (13, .slice (ad N372) t370.length (nN372 / 4)), (14, .int .i64 x373), (15, .int .i64 x380), (20, .int .i64 x361), (35, .slice (ad N372) t370.length (nN372 / 4)), (36, .int .i64 (t370.length : Int)), (37, .bool true), (50, .func (.func 86) #[] #[.pointer (some ⟨B0, 0, none⟩)]), (51, .slice (ad N372) t370.length (nN372 / 4)), (52, .int .i64 x373), (53, .int .i64 y2), (54, .int .i64 x380)]) (by kernel_rfl) ?_
                        refine t_v (.call (vs := [.int .i64 x373, .int .i64 y2, .int .i64 x380]) rfl rfl (by kernel_rfl) (sweep_Sample.ok h385)) ?_
                        obtain ⟨t386, h387, e378⟩ := bind_of e378
                        cases t386 with
                        | true =>
                          rw [if_pos rfl] at e378
                          refine t_v (.clor (vs := [.slice (ad N372) t370.length (nN372 / 4), .agg #[.int .i64 t383, .int .i64 t384]]) (caps := #[.pointer (some ⟨B0, 0, none⟩)]) (A := ([⟨N372, encL E_i644 t370, nN372⟩, ⟨B0, [.int .i64 m0_0], 1⟩] : List Own)) (F0 := ([⟨some a357, encL E_u64 y381, na357⟩] : List Own)) rfl rfl rfl (by kernel_rfl) (by kernel_rfl) (sel_perm (is := [0, 1]) (by kernel_rfl)) (cal_lendr fun S1_ le1_ hS1_ => (sweep_Line_1_v1.ok (SlE.ofAd (E := E_i644) (L := t370) hS1_ (by decide)) h387))) ?_
                          refine t_keep [0, 1, 2, 3, 4, 11, 12, 13, 14, 15, 20, 35, 36, 37, 56] (σ' := [(0, .slice a_l0 l0.length c_l0), (1, .int .i64 wide1), (2, .int .i64 y2), (3, .int .i64 w3), (4, .func (.func 86) #[] #[.pointer (some ⟨B0, 0, none⟩)]), (11, .slice (ad (some a357)) y381.length (na357 / 1)), (12, .int .i64 x361), (13, .slice (ad N372) t370.length (nN372 / 4)), (14, .int .i64 x373), (15, .int .i64 x380), (20, .int .i64 x361), (35, .slice (ad N372) t370.length (nN372 / 4)), (36, .int .i64 (t370.length : Int)), (37, .bool true), (56, .bool true)]) (by kernel_rfl) ?_
                          refine t_end ?_
                          show W _ _ _ _ _ _ _
                          refine w_cond rfl (fun _ => ?_) (fun c_ => by cases c_)
                          show W _ _ _ _ _ _ _
                          obtain ⟨x388, hx389, e378⟩ := bind_of e378
                          have c390 : ¬ x380 < 0 := by
                            intro h_; rw [if_pos h_] at e378; cases e378
                          rw [if_neg c390] at e378
                          obtain ⟨x391, hx392, e378⟩ := bind_of e378
                          refine w_drwE mixed 8 [.v (.slice (ad (some a357)) y381.length (na357 / 1)), .v (.int .i64 x373), .v (.pointer (some ⟨bk (some a357), (x373).toNat * 1 + 0, none⟩)), .v (.int .u64 x388), .v (.int .i64 x380), .v (.int .u64 (wru64 (1 * 2 ^ (min (Int.toNat x380) 64)))), .v (.int .u64 (bits .or .u64 x388 (wru64 (1 * 2 ^ (min (Int.toNat x380) 64))))), .v (.pointer (some ⟨bk (some a357), (x373).toNat * 1 + 0, none⟩))] (by kernel_rfl) ?_ ?_
                          · refine DI.sq 2 (by kernel_rfl) rfl ?_
                            refine .cons (.quietH rfl (by intro h_; cases h_) (ixl (E := E_u64) (j := 1) rfl rfl rfl (by decide) rfl hx389)) ?_
                            refine .cons (.ld1 rfl rfl rfl (.lst 1 rfl (encL_at (lgt_in hx389).1 rfl))) ?_
                            refine DI.sq 1 (by kernel_rfl) rfl ?_
                            refine .cons (.quiet rfl (qv_shl rfl rfl c390)) ?_
                            refine DI.sq 1 (by kernel_rfl) rfl ?_
                            refine .cons (.quietH rfl (by intro h_; cases h_) (ixl (E := E_u64) (j := 1) rfl rfl rfl (by decide) rfl hx392)) ?_
                            exact .nil
                          refine fk_q 8 [0, 1, 2, 3, 4, 11, 12, 13, 14, 15, 20, 35, 36, 37, 63, 64] (σ' := [(0, .slice a_l0 l0.length c_l0), (1, .int .i64 wide1), (2, .int .i64 y2), (3, .int .i64 w3), (4, .func (.func 86) #[] #[.pointer (some ⟨B0, 0, none⟩)]), (11, .slice (ad (some a357)) y381.length (na357 / 1)), (12, .int .i64 x361), (13, .slice (ad N372) t370.length (nN372 / 4)), (14, .int .i64 x373), (15, .int .i64 x380), (20, .int .i64 x361), (35, .slice (ad N372) t370.length (nN372 / 4)), (36, .int .i64 (t370.length : Int)), (37, .bool true), (63, .int .u64 (bits .or .u64 x388 (wru64 (1 * 2 ^ (min (Int.toNat x380) 64))))), (64, .pointer (some ⟨bk (some a357), (x373).toNat * 1 + 0, none⟩))]) t_more (by kernel_rfl) ?_
                          refine fk_nil fun all => ?_
                          obtain ⟨y393, hl394, e378⟩ := bind_of e378
                          refine t_stl 1 (E := E_u64) (L := y381) (L' := y393) (i := x373) (off := 0) (y0 := x391) (y1 := (bits .or .u64 x388 (wru64 (1 * 2 ^ (min (Int.toNat x380) 64))))) (H' := ([⟨N372, encL E_i644 t370, nN372⟩, ⟨some a357, encL E_u64 y393, na357⟩, ⟨B0, [.int .i64 m0_0], 1⟩] : List Own)) rfl rfl rfl rfl rfl rfl rfl (by decide) rfl hx392 (by kernel_rfl) hl394 rfl ?_
                          refine t_keep [0, 1, 2, 3, 4, 11, 12, 13, 14, 15, 20, 35, 36, 37, 63, 64] (σ' := [(0, .slice a_l0 l0.length c_l0), (1, .int .i64 wide1), (2, .int .i64 y2), (3, .int .i64 w3), (4, .func (.func 86) #[] #[.pointer (some ⟨B0, 0, none⟩)]), (11, .slice (ad (some a357)) y381.length (na357 / 1)), (12, .int .i64 x361), (13, .slice (ad N372) t370.length (nN372 / 4)), (14, .int .i64 x373), (15, .int .i64 x380), (20, .int .i64 x361), (35, .slice (ad N372) t370.length (nN372 / 4)), (36, .int .i64 (t370.length : Int)), (37, .bool true), (63, .int .u64 (bits .or .u64 x388 (wru64 (1 * 2 ^ (min (Int.toNat x380) 64))))), (64, .pointer (some ⟨bk (some a357), (x373).toNat * 1 + 0, none⟩))]) (by kernel_rfl) ?_
                          refine t_eq (σ' := [(0, .slice a_l0 l0.length c_l0), (1, .int .i64 wide1), (2, .int .i64 y2), (3, .int .i64 w3), (4, .func (.func 86) #[] #[.pointer (some ⟨B0, 0, none⟩)]), (11, .slice (ad (some a357)) y393.length (na357 / 1)), (12, .int .i64 x361), (13, .slice (ad N372) t370.length (nN372 / 4)), (14, .int .i64 x373), (15, .int .i64 x380), (20, .int .i64 x361), (35, .slice (ad N372) t370.length (nN372 / 4)), (36, .int .i64 (t370.length : Int)), (37, .bool true), (63, .int .u64 (bits .or .u64 x388 (wru64 (1 * 2 ^ (min (Int.toNat x380) 64))))), (64, .pointer (some ⟨bk (some a357), (x373).toNat * 1 + 0, none⟩))]) (H' := ([⟨N372, encL E_i644 t370, nN372⟩, ⟨some a357, encL E_u64 y393, na357⟩, ⟨B0, [.int .i64 m0_0], 1⟩] : List Own)) (by first | rfl | rw [(lput_is hl394).2]) (by first | rfl | rw [(lput_is hl394).2]) ?_
                          refine t_keep [0, 1, 2, 3, 4, 11, 12, 13, 14, 15, 20, 35, 36, 37] (σ' := [(0, .slice a_l0 l0.length c_l0), (1, .int .i64 wide1), (2, .int .i64 y2), (3, .int .i64 w3), (4, .func (.func 86) #[] #[.pointer (some ⟨B0, 0, none⟩)]), (11, .slice (ad (some a357)) y393.length (na357 / 1)), (12, .int .i64 x361), (13, .slice (ad N372) t370.length (nN372 / 4)), (14, .int .i64 x373), (15, .int .i64 x380), (20, .int .i64 x361), (35, .slice (ad N372) t370.length (nN372 / 4)), (36, .int .i64 (t370.length : Int)), (37, .bool true)]) (by kernel_rfl) ?_
                          refine t_end ?_
                          show W _ _ _ _ _ _ _
                          refine w_reg fun all => ?_
                          refine t_qz 3 [0, 1, 2, 3, 4, 11, 12, 13, 14, 15, 20, 35, 36, 37] (σ' := [(0, .slice a_l0 l0.length c_l0), (1, .int .i64 wide1), (2, .int .i64 y2), (3, .int .i64 w3), (4, .func (.func 86) #[] #[.pointer (some ⟨B0, 0, none⟩)]), (11, .slice (ad (some a357)) y393.length (na357 / 1)), (12, .int .i64 x361), (13, .slice (ad N372) t370.length (nN372 / 4)), (14, .int .i64 x373), (15, .int .i64 (wr64 (x380 + 1))), (20, .int .i64 x361), (35, .slice (ad N372) t370.length (nN372 / 4)), (36, .int .i64 (t370.length : Int)), (37, .bool true)]) (by kernel_rfl) ?_
                          refine t_end ?_
                          exact ⟨k_, Nat.lt_succ_self _, [(0, .slice a_l0 l0.length c_l0), (1, .int .i64 wide1), (2, .int .i64 y2), (3, .int .i64 w3), (4, .func (.func 86) #[] #[.pointer (some ⟨B0, 0, none⟩)]), (11, .slice (ad (some a357)) y393.length (na357 / 1)), (12, .int .i64 x361), (13, .slice (ad N372) t370.length (nN372 / 4)), (14, .int .i64 x373), (15, .int .i64 (wr64 (x380 + 1))), (20, .int .i64 x361), (35, .slice (ad N372) t370.length (nN372 / 4)), (36, .int .i64 (t370.length : Int)), (37, .bool true)], ([⟨N372, encL E_i644 t370, nN372⟩, ⟨some a357, encL E_u64 y393, na357⟩, ⟨B0, [.int .i64 m0_0], 1⟩] : List Own), S, keep_sub [0, 1, 2, 3, 4, 11, 12, 13, 14, 15, 20, 35, 36, 37] (by kernel_rfl), VS.sel [0, 0, 0] (by kernel_rfl), wr64 (x380 + 1), y393, rfl, rfl, rfl, e378⟩
                        | false =>
                          rw [if_neg (by decide)] at e378
                          refine t_v (.clor (vs := [.slice (ad N372) t370.length (nN372 / 4), .agg #[.int .i64 t383, .int .i64 t384]]) (caps := #[.pointer (some ⟨B0, 0, none⟩)]) (A := ([⟨N372, encL E_i644 t370, nN372⟩, ⟨B0, [.int .i64 m0_0], 1⟩] : List Own)) (F0 := ([⟨some a357, encL E_u64 y381, na357⟩] : List Own)) rfl rfl rfl (by kernel_rfl) (by kernel_rfl) (sel_perm (is := [0, 1]) (by kernel_rfl)) (cal_lendr fun S1_ le1_ hS1_ => (sweep_Line_1_v1.ok (SlE.ofAd (E := E_i644) (L := t370) hS1_ (by decide)) h387))) ?_
                          refine t_keep [0, 1, 2, 3, 4, 11, 12, 13, 14, 15, 20, 35, 36, 37, 56] (σ' := [(0, .slice a_l0 l0.length c_l0), (1, .int .i64 wide1), (2, .int .i64 y2), (3, .int .i64 w3), (4, .func (.func 86) #[] #[.pointer (some ⟨B0, 0, none⟩)]), (11, .slice (ad (some a357)) y381.length (na357 / 1)), (12, .int .i64 x361), (13, .slice (ad N372) t370.length (nN372 / 4)), (14, .int .i64 x373), (15, .int .i64 x380), (20, .int .i64 x361), (35, .slice (ad N372) t370.length (nN372 / 4)), (36, .int .i64 (t370.length : Int)), (37, .bool true), (56, .bool false)]) (by kernel_rfl) ?_
                          refine t_end ?_
                          show W _ _ _ _ _ _ _
                          refine w_cond rfl (fun c_ => by cases c_) (fun _ => ?_)
                          show W _ _ _ _ _ _ _
                          refine w_skip ?_
                          show W _ _ _ _ _ _ _
                          refine w_reg fun all => ?_
                          refine t_qz 3 [0, 1, 2, 3, 4, 11, 12, 13, 14, 15, 20, 35, 36, 37] (σ' := [(0, .slice a_l0 l0.length c_l0), (1, .int .i64 wide1), (2, .int .i64 y2), (3, .int .i64 w3), (4, .func (.func 86) #[] #[.pointer (some ⟨B0, 0, none⟩)]), (11, .slice (ad (some a357)) y381.length (na357 / 1)), (12, .int .i64 x361), (13, .slice (ad N372) t370.length (nN372 / 4)), (14, .int .i64 x373), (15, .int .i64 (wr64 (x380 + 1))), (20, .int .i64 x361), (35, .slice (ad N372) t370.length (nN372 / 4)), (36, .int .i64 (t370.length : Int)), (37, .bool true)]) (by kernel_rfl) ?_
                          refine t_end ?_
                          exact ⟨k_, Nat.lt_succ_self _, [(0, .slice a_l0 l0.length c_l0), (1, .int .i64 wide1), (2, .int .i64 y2), (3, .int .i64 w3), (4, .func (.func 86) #[] #[.pointer (some ⟨B0, 0, none⟩)]), (11, .slice (ad (some a357)) y381.length (na357 / 1)), (12, .int .i64 x361), (13, .slice (ad N372) t370.length (nN372 / 4)), (14, .int .i64 x373), (15, .int .i64 (wr64 (x380 + 1))), (20, .int .i64 x361), (35, .slice (ad N372) t370.length (nN372 / 4)), (36, .int .i64 (t370.length : Int)), (37, .bool true)], ([⟨N372, encL E_i644 t370, nN372⟩, ⟨some a357, encL E_u64 y381, na357⟩, ⟨B0, [.int .i64 m0_0], 1⟩] : List Own), S, keep_sub [0, 1, 2, 3, 4, 11, 12, 13, 14, 15, 20, 35, 36, 37] (by kernel_rfl), VS.sel [0, 0, 0] (by kernel_rfl), wr64 (x380 + 1), y381, rfl, rfl, rfl, e378⟩
                      · rw [if_neg c382] at e378
                        have c382b : (decide (x380 < (wr64 ((wr64 (x361 + 1)) * 8)))) = false := decide_eq_false c382
                        refine t_qz 4 [0, 1, 2, 3, 4, 11, 12, 13, 14, 15, 20, 35, 36, 37, 43, 46] (σ' := [(0, .slice a_l0 l0.length c_l0), (1, .int .i64 wide1), (2, .int .i64 y2), (3, .int .i64 w3), (4, .func (.func 86) #[] #[.pointer (some ⟨B0, 0, none⟩)]), (11, .slice (ad (some a357)) y381.length (na357 / 1)), (12, .int .i64 x361), (13, .slice (ad N372) t370.length (nN372 / 4)), (14, .int .i64 x373), (15, .int .i64 x380), (20, .int .i64 x361), (35, .slice (ad N372) t370.length (nN372 / 4)), (36, .int .i64 (t370.length : Int)), (37, .bool true), (43, .int .i64 x380), (46, .int .i64 (wr64 ((wr64 (x361 + 1)) * 8)))]) (by kernel_rfl) ?_
                        refine t_v (dv_quiet rfl (congrArg (fun t => some (Value.bool t)) c382b)) ?_
                        refine t_keep [0, 1, 2, 3, 4, 11, 12, 13, 14, 15, 20, 35, 36, 37, 47] (σ' := [(0, .slice a_l0 l0.length c_l0), (1, .int .i64 wide1), (2, .int .i64 y2), (3, .int .i64 w3), (4, .func (.func 86) #[] #[.pointer (some ⟨B0, 0, none⟩)]), (11, .slice (ad (some a357)) y381.length (na357 / 1)), (12, .int .i64 x361), (13, .slice (ad N372) t370.length (nN372 / 4)), (14, .int .i64 x373), (15, .int .i64 x380), (20, .int .i64 x361), (35, .slice (ad N372) t370.length (nN372 / 4)), (36, .int .i64 (t370.length : Int)), (37, .bool true), (47, .bool false)]) (by kernel_rfl) ?_
                        refine t_end ?_
                        show W _ _ _ _ _ _ _
                        refine w_cond rfl (fun c_ => by cases c_) (fun _ => ?_)
                        show W _ _ _ _ _ _ _
                        refine w_exit ?_
                        simp only [Option.some.injEq, Prod.mk.injEq] at e378
                        obtain ⟨rfl, rfl⟩ := e378
                        exact ⟨([⟨B0, [.int .i64 m0_0], 1⟩, ⟨some a357, encL E_u64 y381, na357⟩, ⟨N372, encL E_i644 t370, nN372⟩] : List Own), S, VS.sel [2, 1, 0] (by kernel_rfl), by kernel_rfl, rfl, rfl⟩
                  · rintro σ_ H_ S_ ⟨rfl, rfl, rfl⟩
                    refine w_reg fun all => ?_
                    refine t_qz 3 [0, 1, 2, 3, 4, 11, 12, 13, 14, 20, 35, 36, 37] (σ' := [(0, .slice a_l0 l0.length c_l0), (1, .int .i64 wide1), (2, .int .i64 y2), (3, .int .i64 w3), (4, .func (.func 86) #[] #[.pointer (some ⟨B0, 0, none⟩)]), (11, .slice (ad (some a357)) y399.length (na357 / 1)), (12, .int .i64 x361), (13, .slice (ad N372) t370.length (nN372 / 4)), (14, .int .i64 (wr64 (x373 + 1))), (20, .int .i64 x361), (35, .slice (ad N372) t370.length (nN372 / 4)), (36, .int .i64 (t370.length : Int)), (37, .bool x400)]) (by kernel_rfl) ?_
                    refine t_end ?_
                    exact ⟨k_, Nat.lt_succ_self _, [(0, .slice a_l0 l0.length c_l0), (1, .int .i64 wide1), (2, .int .i64 y2), (3, .int .i64 w3), (4, .func (.func 86) #[] #[.pointer (some ⟨B0, 0, none⟩)]), (11, .slice (ad (some a357)) y399.length (na357 / 1)), (12, .int .i64 x361), (13, .slice (ad N372) t370.length (nN372 / 4)), (14, .int .i64 (wr64 (x373 + 1))), (20, .int .i64 x361)], ([⟨N372, encL E_i644 t370, nN372⟩, ⟨some a357, encL E_u64 y399, na357⟩, ⟨B0, [.int .i64 m0_0], 1⟩] : List Own), S, keep_sub [0, 1, 2, 3, 4, 11, 12, 13, 14, 20] (by kernel_rfl), VS.sel [2, 1, 0] (by kernel_rfl), wr64 (x373 + 1), y399, rfl, rfl, rfl, e365⟩
                · rw [if_neg c376] at e365
                  have c376b : (decide ((t370.length : Int) > 0)) = false := decide_eq_false c376
                  refine t_qz 3 [0, 1, 2, 3, 4, 11, 12, 13, 14, 20, 34, 35, 36] (σ' := [(0, .slice a_l0 l0.length c_l0), (1, .int .i64 wide1), (2, .int .i64 y2), (3, .int .i64 w3), (4, .func (.func 86) #[] #[.pointer (some ⟨B0, 0, none⟩)]), (11, .slice (ad (some a357)) y374.length (na357 / 1)), (12, .int .i64 x361), (13, .slice (ad N372) t370.length (nN372 / 4)), (14, .int .i64 x373), (20, .int .i64 x361), (34, .bool true), (35, .slice (ad N372) t370.length (nN372 / 4)), (36, .int .i64 (t370.length : Int))]) (by kernel_rfl) ?_
                  refine t_v (dv_quiet rfl (congrArg (fun t => some (Value.bool t)) c376b)) ?_
                  refine t_qz 1 [0, 1, 2, 3, 4, 11, 12, 13, 14, 20, 35, 36, 37, 38] (σ' := [(0, .slice a_l0 l0.length c_l0), (1, .int .i64 wide1), (2, .int .i64 y2), (3, .int .i64 w3), (4, .func (.func 86) #[] #[.pointer (some ⟨B0, 0, none⟩)]), (11, .slice (ad (some a357)) y374.length (na357 / 1)), (12, .int .i64 x361), (13, .slice (ad N372) t370.length (nN372 / 4)), (14, .int .i64 x373), (20, .int .i64 x361), (35, .slice (ad N372) t370.length (nN372 / 4)), (36, .int .i64 (t370.length : Int)), (37, .bool false), (38, .bool false)]) (by kernel_rfl) ?_
                  refine t_end ?_
                  show W _ _ _ _ _ _ _
                  refine w_cond rfl (fun c_ => by cases c_) (fun _ => ?_)
                  show W _ _ _ _ _ _ _
                  refine w_exit ?_
                  obtain rfl := Option.some.inj e365
                  exact ⟨([⟨B0, [.int .i64 m0_0], 1⟩, ⟨some a357, encL E_u64 y374, na357⟩] : List Own), S, VS.sel [2, 1] (by kernel_rfl), by kernel_rfl, rfl, rfl⟩
              · rw [if_neg c375] at e365
                have c375b : (decide (x373 < w3)) = false := decide_eq_false c375
                refine t_qz 2 [0, 1, 2, 3, 4, 11, 12, 13, 14, 20, 31, 32] (σ' := [(0, .slice a_l0 l0.length c_l0), (1, .int .i64 wide1), (2, .int .i64 y2), (3, .int .i64 w3), (4, .func (.func 86) #[] #[.pointer (some ⟨B0, 0, none⟩)]), (11, .slice (ad (some a357)) y374.length (na357 / 1)), (12, .int .i64 x361), (13, .slice (ad N372) t370.length (nN372 / 4)), (14, .int .i64 x373), (20, .int .i64 x361), (31, .int .i64 x373), (32, .int .i64 w3)]) (by kernel_rfl) ?_
                refine t_v (dv_quiet rfl (congrArg (fun t => some (Value.bool t)) c375b)) ?_
                refine t_qz 5 [0, 1, 2, 3, 4, 11, 12, 13, 14, 20, 35, 36, 37, 38] (σ' := [(0, .slice a_l0 l0.length c_l0), (1, .int .i64 wide1), (2, .int .i64 y2), (3, .int .i64 w3), (4, .func (.func 86) #[] #[.pointer (some ⟨B0, 0, none⟩)]), (11, .slice (ad (some a357)) y374.length (na357 / 1)), (12, .int .i64 x361), (13, .slice (ad N372) t370.length (nN372 / 4)), (14, .int .i64 x373), (20, .int .i64 x361), (35, .tuple #[]), (36, .tuple #[]), (37, .tuple #[]), (38, .bool false)]) (by kernel_rfl) ?_
                refine t_end ?_
                show W _ _ _ _ _ _ _
                refine w_cond rfl (fun c_ => by cases c_) (fun _ => ?_)
                show W _ _ _ _ _ _ _
                refine w_exit ?_
                obtain rfl := Option.some.inj e365
                exact ⟨([⟨B0, [.int .i64 m0_0], 1⟩, ⟨some a357, encL E_u64 y374, na357⟩] : List Own), S, VS.sel [2, 1] (by kernel_rfl), by kernel_rfl, rfl, rfl⟩
          · rintro σ_ H_ S_ ⟨rfl, rfl, rfl⟩
            refine w_reg fun all => ?_
            refine t_qz 2 [0, 1, 2, 3, 4, 11, 20] (σ' := [(0, .slice a_l0 l0.length c_l0), (1, .int .i64 wide1), (2, .int .i64 y2), (3, .int .i64 w3), (4, .func (.func 86) #[] #[.pointer (some ⟨B0, 0, none⟩)]), (11, .slice (ad (some a357)) y403.length (na357 / 1)), (20, .int .i64 (wr64 (x361 + 1)))]) (by kernel_rfl) ?_
            refine t_end ?_
            exact ⟨k_, Nat.lt_succ_self _, [(0, .slice a_l0 l0.length c_l0), (1, .int .i64 wide1), (2, .int .i64 y2), (3, .int .i64 w3), (4, .func (.func 86) #[] #[.pointer (some ⟨B0, 0, none⟩)]), (11, .slice (ad (some a357)) y403.length (na357 / 1)), (20, .int .i64 (wr64 (x361 + 1)))], ([⟨some a357, encL E_u64 y403, na357⟩, ⟨B0, [.int .i64 m0_0], 1⟩] : List Own), S, keep_sub [0, 1, 2, 3, 4, 11, 20] (by kernel_rfl), VS.sel [1, 0] (by kernel_rfl), wr64 (x361 + 1), y403, rfl, rfl, rfl, e359⟩
        · rw [if_neg c363] at e359
          have c363b : (decide (x361 < 8)) = false := decide_eq_false c363
          refine t_v (dv_quiet rfl (congrArg (fun t => some (Value.bool t)) c363b)) ?_
          refine t_keep [0, 1, 2, 3, 4, 11, 20, 21] (σ' := [(0, .slice a_l0 l0.length c_l0), (1, .int .i64 wide1), (2, .int .i64 y2), (3, .int .i64 w3), (4, .func (.func 86) #[] #[.pointer (some ⟨B0, 0, none⟩)]), (11, .slice (ad (some a357)) y362.length (na357 / 1)), (20, .int .i64 x361), (21, .bool false)]) (by kernel_rfl) ?_
          refine t_end ?_
          show W _ _ _ _ _ _ _
          refine w_seq ?_
          refine w_cond rfl (fun c_ => by cases c_) (fun _ => ?_)
          show W _ _ _ _ _ _ _
          refine w_exit ?_
          obtain rfl := Option.some.inj e359
          exact ⟨([⟨B0, [.int .i64 m0_0], 1⟩, ⟨some a357, encL E_u64 y362, na357⟩] : List Own), S, VS.sel [1, 0] (by kernel_rfl), by kernel_rfl, rfl, rfl⟩
    · rintro σ_ H_ S_ ⟨rfl, rfl, rfl⟩
      refine w_seq ?_
      refine w_reg fun all => ?_
      refine t_qz 2 [10] (σ' := [(10, .slice (ad (some a357)) y406.length (na357 / 1))]) (by kernel_rfl) ?_
      refine t_end ?_
      show W _ _ _ _ _ _ _
      refine w_ret ?_
      obtain rfl := Option.some.inj e
      exact ⟨[.slice (ad (some a357)) y406.length (na357 / 1)], ([⟨some a357, encL E_u64 y406, na357⟩, ⟨B0, [.int .i64 m0_0], 1⟩] : List Own), S, ⟨(show gt _ _ = some _ from (by kernel_rfl)), trivial⟩, VS.sel [1, 0] (by kernel_rfl), some a357, na357, rfl, rfl, rfl⟩

/-- sweep.Line -/
def c45 : C :=
  (.seq (.reg [⟨(some 5), .box (.tmp 1), none⟩,
     ⟨(some 8), .mv (.const (.slice none 0 0)), none⟩])
  (.seq (.reg [⟨(some 9), .mv (.tmp 0), none⟩,
     ⟨(some 10), .ld none (.tmp 5), none⟩,
     ⟨(some 11), .mv (.tmp 2), none⟩,
     ⟨(some 12), .mv (.tmp 3), none⟩,
     ⟨(some 13), .mkf 86 [(.tmp 5)], none⟩,
     ⟨(some 14), .call 82 [(.tmp 9), (.tmp 10), (.tmp 11), (.tmp 12), (.tmp 13)], none⟩,
     ⟨(some 8), .mv (.tmp 14), none⟩])
  .ret))
def sweep_Line_v1.f (k : Nat) (l0 : List (Int × Int × Int × Int)) (wide1 : Int) (y2 : Int) (w3 : Int) : Option (List (Int)) := (sweep_masks_v2.f k l0 wide1 y2 w3 wide1).bind fun t407 => (some t407)
theorem sweep_Line_v1.ok {S : Seal} {k : Nat} {l0 : List (Int × Int × Int × Int)} {wide1 : Int} {y2 : Int} {w3 : Int} {r0_ : List (Int)}{a_l0 : Option Addr} {c_l0 : Nat} (h_l0 : SlE S E_i644 l0 a_l0) (e : sweep_Line_v1.f k l0 wide1 y2 w3 = some r0_) :
    Cal Try.prog 45 [.slice a_l0 l0.length c_l0, .int .i64 wide1, .int .i64 y2, .int .i64 w3] [] S fun v H' S' => ∃ (N0_ : Option Nat) (nN0_ : Nat) , v = .slice (ad N0_) r0_.length (nN0_ / 1) ∧ H' = ([⟨N0_, encL E_u64 r0_, nN0_⟩] : List Own) ∧ S' = S := by
  unfold sweep_Line_v1.f at e
  refine cal_of (c := c45) (N := 15) Try.func45 rfl rfl (by kernel_rfl) (rs := [.t 8]) (by kernel_rfl) (Nat.le_of_ble_eq_true rfl) ?_
  unfold c45
  refine w_seq ?_
  refine w_reg fun all => ?_
  refine t_a (.box rfl rfl rfl) fun b300 fb300 sb300 => ?_
  refine t_qz 1 [0, 2, 3, 5] (σ' := [(0, .slice a_l0 l0.length c_l0), (2, .int .i64 y2), (3, .int .i64 w3), (5, .pointer (some ⟨b300, 0, none⟩))]) (by kernel_rfl) ?_
  refine t_end ?_
  show W _ _ _ _ _ _ _
  refine w_seq ?_
  refine w_reg fun all => ?_
  refine t_qz 1 [2, 3, 5, 9] (σ' := [(2, .int .i64 y2), (3, .int .i64 w3), (5, .pointer (some ⟨b300, 0, none⟩)), (9, .slice a_l0 l0.length c_l0)]) (by kernel_rfl) ?_
  refine t_v (.ld1 rfl rfl rfl (.at 0 rfl rfl)) ?_
  obtain ⟨t407, h408, e⟩ := bind_of e
  refine t_qz 3 [9, 10, 11, 12, 13] (σ' := [(9, .slice a_l0 l0.length c_l0), (10, .int .i64 wide1), (11, .int .i64 y2), (12, .int .i64 w3), (13, .func (.func 86) #[] #[.pointer (some ⟨b300, 0, none⟩)])]) (by kernel_rfl) ?_
  refine t_call (vs := [.slice a_l0 l0.length c_l0, .int .i64 wide1, .int .i64 y2, .int .i64 w3, .func (.func 86) #[] #[.pointer (some ⟨b300, 0, none⟩)]]) (H1 := ([⟨b300, [.int .i64 wide1], 1⟩] : List Own)) (F := ([] : List Own)) rfl rfl (by kernel_rfl) (sel_perm (is := [0]) (by kernel_rfl)) (sweep_masks_v2.ok h_l0 h408) ?_
  rintro _ _ S_ ⟨N409, nN409, rfl, rfl, hS_⟩
  obtain rfl := hS_.symm
  refine t_qz 1 [8] (σ' := [(8, .slice (ad N409) t407.length (nN409 / 1))]) (by kernel_rfl) ?_
  refine t_end ?_
  show W _ _ _ _ _ _ _
  refine w_ret ?_
  obtain rfl := Option.some.inj e
  exact ⟨[.slice (ad N409) t407.length (nN409 / 1)], ([⟨N409, encL E_u64 t407, nN409⟩] : List Own), S, ⟨rfl, trivial⟩, VS.sel [0] (by kernel_rfl), N409, nN409, rfl, rfl, rfl⟩

/-- glyphicref.SameMasks -/
def c51 : C :=
  (.seq (.reg [⟨(some 4), .mv (.const (.bool false)), none⟩])
  (.seq (.seq (.reg [⟨(some 7), .mv (.tmp 0), none⟩,
      ⟨(some 8), .lns (.tmp 7), none⟩,
      ⟨(some 9), .mv (.tmp 1), none⟩,
      ⟨(some 10), .lns (.tmp 9), none⟩,
      ⟨(some 11), .bin .neq (.tmp 8) (.tmp 10), none⟩])
   (.cond (.tmp 11)
    (.seq (.reg [⟨(some 4), .mv (.const (.bool false)), none⟩])
     .ret)
    .skip))
  (.seq (.seq (.reg [⟨(some 5), .mv (.const (.int .i64 0)), none⟩])
   (.block 0 (.loop (.seq (.seq (.reg [⟨(some 12), .mv (.tmp 5), none⟩,
         ⟨(some 13), .mv (.tmp 0), none⟩,
         ⟨(some 14), .lns (.tmp 13), none⟩,
         ⟨(some 15), .bin .lss (.tmp 12) (.tmp 14), none⟩])
      (.cond (.tmp 15)
       .skip
       (.exit 0)))
     (.seq (.block 1 (.seq (.drw [⟨(some 18), .mv (.tmp 0), none⟩,
          ⟨(some 19), .mv (.tmp 5), none⟩,
          ⟨(some 20), .ixs 1 (.tmp 18) (.tmp 19), none⟩,
          ⟨(some 21), .ld none (.tmp 20), none⟩,
          ⟨(some 22), .mv (.tmp 1), none⟩,
          ⟨(some 23), .mv (.tmp 5), none⟩,
          ⟨(some 24), .ixs 1 (.tmp 22) (.tmp 23), none⟩,
          ⟨(some 25), .ld none (.tmp 24), none⟩,
          ⟨(some 26), .bin .eql (.tmp 21) (.tmp 25), none⟩,
          ⟨(some 6), .mv (.tmp 26), none⟩] [[], [], [0, 1], [2], [], [], [4, 5], [6], [3, 7], [8, 0, 1, 2, 3, 4, 5, 6, 7, 8]])
       (.seq (.reg [⟨(some 27), .mv (.tmp 6), none⟩,
          ⟨(some 28), .un .not (.tmp 27), none⟩])
       (.cond (.tmp 28)
        (.seq (.reg [⟨(some 4), .mv (.const (.bool false)), none⟩])
         .ret)
        .skip))))
     (.reg [⟨(some 16), .mv (.tmp 5), none⟩,
       ⟨(some 17), .bin .add (.tmp 16) (.const (.int .i64 1)), none⟩,
       ⟨(some 5), .mv (.tmp 17), none⟩]))))))
  (.seq (.reg [⟨(some 4), .mv (.const (.bool true)), none⟩])
  .ret))))
def glyphicref_SameMasks_v1.l0 : Nat → List (Int) → List (Int) → Int → Option ((Bool) ⊕ (Unit))
  | 0, _, _, _ => none
  | k + 1, a0, b1, x431 => if x431 < (a0.length : Int) then ((lgt a0 x431).bind fun x433 => ((lgt b1 x431).bind fun x443 => (if x433 = x443 then (glyphicref_SameMasks_v1.l0 k a0 b1 (wr64 (x431 + 1))) else (some (.inl false))))) else (some (.inr ()))
def glyphicref_SameMasks_v1.f (k : Nat) (a0 : List (Int)) (b1 : List (Int)) : Option (Bool) := if (a0.length : Int) = (b1.length : Int) then ((glyphicref_SameMasks_v1.l0 k a0 b1 0 : Option ((Bool) ⊕ (Unit))).bind fun s_ => match s_ with | .inl q456 => some q456 | .inr _ => (some true)) else (some false)
theorem glyphicref_SameMasks_v1.ok {S : Seal} {k : Nat} {a0 : List (Int)} {b1 : List (Int)} {r0_ : Bool}{a_a0 : Option Addr} {c_a0 : Nat} (h_a0 : SlE S E_u64 a0 a_a0) {a_b1 : Option Addr} {c_b1 : Nat} (h_b1 : SlE S E_u64 b1 a_b1) (e : glyphicref_SameMasks_v1.f k a0 b1 = some r0_) :
    Cal Try.prog 51 [.slice a_a0 a0.length c_a0, .slice a_b1 b1.length c_b1] [] S fun v H' S' => v = .bool r0_ ∧ H' = [] ∧ S' = S := by
  unfold glyphicref_SameMasks_v1.f at e
  refine cal_of (c := c51) (N := 29) Try.func51 rfl rfl (by kernel_rfl) (rs := [.t 4]) (by kernel_rfl) (Nat.le_of_ble_eq_true rfl) ?_
  unfold c51
  refine w_seq ?_
  refine w_reg fun all => ?_
  refine t_qz 1 [0, 1] (σ' := [(0, .slice a_a0 a0.length c_a0), (1, .slice a_b1 b1.length c_b1)]) (by kernel_rfl) ?_
  refine t_end ?_
  show W _ _ _ _ _ _ _
  refine w_seq ?_
  refine w_seq ?_
  refine w_reg fun all => ?_
  by_cases c427 : (a0.length : Int) = (b1.length : Int)
  · rw [if_pos c427] at e
    have c427b : ((a0.length : Int) == (b1.length : Int)) = true := beq_iff_eq.mpr c427
    refine t_qz 4 [0, 1, 8, 10] (σ' := [(0, .slice a_a0 a0.length c_a0), (1, .slice a_b1 b1.length c_b1), (8, .int .i64 (a0.length : Int)), (10, .int .i64 (b1.length : Int))]) (by kernel_rfl) ?_
    refine t_v (dv_quiet rfl (congrArg (fun t => some (Value.bool (!t))) c427b)) ?_
    refine t_keep [0, 1, 11] (σ' := [(0, .slice a_a0 a0.length c_a0), (1, .slice a_b1 b1.length c_b1), (11, .bool false)]) (by kernel_rfl) ?_
    refine t_end ?_
    show W _ _ _ _ _ _ _
    refine w_cond rfl (fun c_ => by cases c_) (fun _ => ?_)
    show W _ _ _ _ _ _ _
    refine w_skip ?_
    show W _ _ _ _ _ _ _
    obtain ⟨s430, e429, e⟩ := bind_of e
    refine w_cut [] (fun σ_ H_ S_ => ∃ u_ : Unit, s430 = .inr u_ ∧ [] = σ_ ∧ ([] : List Own) = H_ ∧ S = S_) ?_ ?_
    · show W _ _ _ _ _ _ _
      refine w_seq ?_
      refine w_reg fun all => ?_
      refine t_qz 1 [0, 1, 5] (σ' := [(0, .slice a_a0 a0.length c_a0), (1, .slice a_b1 b1.length c_b1), (5, .int .i64 0)]) (by kernel_rfl) ?_
      refine t_end ?_
      show W _ _ _ _ _ _ _
      refine w_block ?_
      refine w_kp [0, 1, 5] (σ' := [(0, .slice a_a0 a0.length c_a0), (1, .slice a_b1 b1.length c_b1), (5, .int .i64 0)]) (by kernel_rfl) ?_
      refine w_loop (fun n_ σ_ H_ S_ => ∃ (x431 : Int), [(0, .slice a_a0 a0.length c_a0), (1, .slice a_b1 b1.length c_b1), (5, .int .i64 x431)] = σ_ ∧ ([] : List Own) = H_ ∧ S = S_ ∧ glyphicref_SameMasks_v1.l0 n_ a0 b1 x431 = some s430) _ ⟨0, rfl, rfl, rfl, e429⟩ ?_
      rintro n455 σ_ H_ S_ ⟨x431, rfl, rfl, rfl, e429⟩
      cases n455 with
      | zero => rw [glyphicref_SameMasks_v1.l0.eq_1] at e429; cases e429
      | succ k_ =>
        rw [glyphicref_SameMasks_v1.l0.eq_2] at e429
        refine w_seq ?_
        refine w_seq ?_
        refine w_reg fun all => ?_
        by_cases c432 : x431 < (a0.length : Int)
        · rw [if_pos c432] at e429
          have c432b : (decide (x431 < (a0.length : Int))) = true := decide_eq_true c432
          refine t_qz 3 [0, 1, 5, 12, 14] (σ' := [(0, .slice a_a0 a0.length c_a0), (1, .slice a_b1 b1.length c_b1), (5, .int .i64 x431), (12, .int .i64 x431), (14, .int .i64 (a0.length : Int))]) (by kernel_rfl) ?_
          refine t_v (dv_quiet rfl (congrArg (fun t => some (Value.bool t)) c432b)) ?_
          refine t_keep [0, 1, 5, 15] (σ' := [(0, .slice a_a0 a0.length c_a0), (1, .slice a_b1 b1.length c_b1), (5, .int .i64 x431), (15, .bool true)]) (by kernel_rfl) ?_
          refine t_end ?_
          show W _ _ _ _ _ _ _
          refine w_cond rfl (fun _ => ?_) (fun c_ => by cases c_)
          show W _ _ _ _ _ _ _
          refine w_skip ?_
          show W _ _ _ _ _ _ _
          refine w_seq ?_
          refine w_block ?_
          refine w_seq ?_
          obtain ⟨x433, hx434, e429⟩ := bind_of e429
          obtain ⟨lb435, lo436, ll437, la438, lS439, lv440, lz441, lu442⟩ := sle_get (E := E_u64) h_a0 hx434
          obtain ⟨x443, hx444, e429⟩ := bind_of e429
          obtain ⟨lb445, lo446, ll447, la448, lS449, lv450, lz451, lu452⟩ := sle_get (E := E_u64) h_b1 hx444
          refine w_drwE mixed 10 [.v (.slice a_a0 a0.length c_a0), .v (.int .i64 x431), .v (.pointer (some ⟨lb435, lo436 + (x431).toNat * 1 + 0, none⟩)), .v (.int .u64 x433), .v (.slice a_b1 b1.length c_b1), .v (.int .i64 x431), .v (.pointer (some ⟨lb445, lo446 + (x431).toNat * 1 + 0, none⟩)), .v (.int .u64 x443), .v (.bool (x433 == x443)), .v (.bool (x433 == x443))] (by kernel_rfl) ?_ ?_
          · refine DI.sq 2 (by kernel_rfl) rfl ?_
            refine .cons (.quiet rfl (ixs_sle rfl rfl la438 lz441 lu442)) ?_
            refine .cons (.ld1 rfl rfl rfl (.sealed lS439 (subl_at lv440 rfl))) ?_
            refine DI.sq 2 (by kernel_rfl) rfl ?_
            refine .cons (.quiet rfl (ixs_sle rfl rfl la448 lz451 lu452)) ?_
            refine .cons (.ld1 rfl rfl rfl (.sealed lS449 (subl_at lv450 rfl))) ?_
            refine DI.sq 2 (by kernel_rfl) rfl ?_
            exact .nil
          refine fk_q 10 [0, 1, 5, 6] (σ' := [(0, .slice a_a0 a0.length c_a0), (1, .slice a_b1 b1.length c_b1), (5, .int .i64 x431), (6, .bool (x433 == x443))]) t_more (by kernel_rfl) ?_
          refine fk_nil fun all => ?_
          refine t_keep [0, 1, 5, 6] (σ' := [(0, .slice a_a0 a0.length c_a0), (1, .slice a_b1 b1.length c_b1), (5, .int .i64 x431), (6, .bool (x433 == x443))]) (by kernel_rfl) ?_
          refine t_end ?_
          show W _ _ _ _ _ _ _
          refine w_seq ?_
          refine w_reg fun all => ?_
          by_cases c453 : x433 = x443
          · rw [if_pos c453] at e429
            have c453b : (x433 == x443) = true := beq_iff_eq.mpr c453
            refine t_qz 1 [0, 1, 5, 27] (σ' := [(0, .slice a_a0 a0.length c_a0), (1, .slice a_b1 b1.length c_b1), (5, .int .i64 x431), (27, .bool (x433 == x443))]) (by kernel_rfl) ?_
            refine t_v (dv_quiet rfl (congrArg (fun t => some (Value.bool (!t))) c453b)) ?_
            refine t_keep [0, 1, 5, 28] (σ' := [(0, .slice a_a0 a0.length c_a0), (1, .slice a_b1 b1.length c_b1), (5, .int .i64 x431), (28, .bool false)]) (by kernel_rfl) ?_
            refine t_end ?_
            show W _ _ _ _ _ _ _
            refine w_cond rfl (fun c_ => by cases c_) (fun _ => ?_)
            show W _ _ _ _ _ _ _
            refine w_skip ?_
            show W _ _ _ _ _ _ _
            refine w_reg fun all => ?_
            refine t_qz 3 [0, 1, 5] (σ' := [(0, .slice a_a0 a0.length c_a0), (1, .slice a_b1 b1.length c_b1), (5, .int .i64 (wr64 (x431 + 1)))]) (by kernel_rfl) ?_
            refine t_end ?_
            exact ⟨k_, Nat.lt_succ_self _, [(0, .slice a_a0 a0.length c_a0), (1, .slice a_b1 b1.length c_b1), (5, .int .i64 (wr64 (x431 + 1)))], ([] : List Own), S, keep_sub [0, 1, 5] (by kernel_rfl), VS.sel [] (by kernel_rfl), wr64 (x431 + 1), rfl, rfl, rfl, e429⟩
          · rw [if_neg c453] at e429
            have c453b : (x433 == x443) = false := beq_eq_false_iff_ne.mpr c453
            refine t_qz 1 [0, 1, 5, 27] (σ' := [(0, .slice a_a0 a0.length c_a0), (1, .slice a_b1 b1.length c_b1), (5, .int .i64 x431), (27, .bool (x433 == x443))]) (by kernel_rfl) ?_
            refine t_v (dv_quiet rfl (congrArg (fun t => some (Value.bool (!t))) c453b)) ?_
            refine t_keep [0, 1, 5, 28] (σ' := [(0, .slice a_a0 a0.length c_a0), (1, .slice a_b1 b1.length c_b1), (5, .int .i64 x431), (28, .bool true)]) (by kernel_rfl) ?_
            refine t_end ?_
            show W _ _ _ _ _ _ _
            refine w_cond rfl (fun _ => ?_) (fun c_ => by cases c_)
            show W _ _ _ _ _ _ _
            refine w_seq ?_
            refine w_reg fun all => ?_
            refine t_qz 1 [4] (σ' := [(4, .bool false)]) (by kernel_rfl) ?_
            refine t_end ?_
            show W _ _ _ _ _ _ _
            refine w_ret ?_
            obtain rfl := Option.some.inj e429
            obtain rfl := Option.some.inj e
            exact ⟨[.bool false], [], S, ⟨rfl, trivial⟩, VS.none, rfl, rfl, rfl⟩
        · rw [if_neg c432] at e429
          have c432b : (decide (x431 < (a0.length : Int))) = false := decide_eq_false c432
          refine t_qz 3 [0, 1, 5, 12, 14] (σ' := [(0, .slice a_a0 a0.length c_a0), (1, .slice a_b1 b1.length c_b1), (5, .int .i64 x431), (12, .int .i64 x431), (14, .int .i64 (a0.length : Int))]) (by kernel_rfl) ?_
          refine t_v (dv_quiet rfl (congrArg (fun t => some (Value.bool t)) c432b)) ?_
          refine t_keep [0, 1, 5, 15] (σ' := [(0, .slice a_a0 a0.length c_a0), (1, .slice a_b1 b1.length c_b1), (5, .int .i64 x431), (15, .bool false)]) (by kernel_rfl) ?_
          refine t_end ?_
          show W _ _ _ _ _ _ _
          refine w_cond rfl (fun c_ => by cases c_) (fun _ => ?_)
          show W _ _ _ _ _ _ _
          refine w_exit ?_
          obtain rfl := Option.some.inj e429
          exact ⟨([] : List Own), S, VS.sel [] (by kernel_rfl), (), rfl, by kernel_rfl, rfl, rfl⟩
    · rintro σ_ H_ S_ ⟨u_, rfl, rfl, rfl, rfl⟩
      dsimp only at e
      refine w_seq ?_
      refine w_reg fun all => ?_
      refine t_qz 1 [4] (σ' := [(4, .bool true)]) (by kernel_rfl) ?_
      refine t_end ?_
      show W _ _ _ _ _ _ _
      refine w_ret ?_
      obtain rfl := Option.some.inj e
      exact ⟨[.bool true], [], S, ⟨rfl, trivial⟩, VS.none, rfl, rfl, rfl⟩
  · rw [if_neg c427] at e
    have c427b : ((a0.length : Int) == (b1.length : Int)) = false := beq_eq_false_iff_ne.mpr c427
    refine t_qz 4 [0, 1, 8, 10] (σ' := [(0, .slice a_a0 a0.length c_a0), (1, .slice a_b1 b1.length c_b1), (8, .int .i64 (a0.length : Int)), (10, .int .i64 (b1.length : Int))]) (by kernel_rfl) ?_
    refine t_v (dv_quiet rfl (congrArg (fun t => some (Value.bool (!t))) c427b)) ?_
    refine t_keep [0, 1, 11] (σ' := [(0, .slice a_a0 a0.length c_a0), (1, .slice a_b1 b1.length c_b1), (11, .bool true)]) (by kernel_rfl) ?_
    refine t_end ?_
    show W _ _ _ _ _ _ _
    refine w_cond rfl (fun _ => ?_) (fun c_ => by cases c_)
    show W _ _ _ _ _ _ _
    refine w_seq ?_
    refine w_reg fun all => ?_
    refine t_qz 1 [4] (σ' := [(4, .bool false)]) (by kernel_rfl) ?_
    refine t_end ?_
    show W _ _ _ _ _ _ _
    refine w_ret ?_
    obtain rfl := Option.some.inj e
    exact ⟨[.bool false], [], S, ⟨rfl, trivial⟩, VS.none, rfl, rfl, rfl⟩
end Go.Proofs.Ytpimfacaalkmdaa.QSweepRows
