/- Functions of the program as Lean functions, each with the proof of its walk. Written by gen.py, a program of these sessions. -/
import Derived.Test.YtpimfacaalkmdaaQSweepPartsx0
namespace Go.Proofs.Ytpimfacaalkmdaa.QSweepParts
open Go Go.RowKit Go.Proofs.YtpimfacaalkmdaaE Go.Proofs.YtpimfacaalkmdaaX
set_option linter.unusedVariables false
set_option maxRecDepth 100000
set_option maxHeartbeats 8000000
/-- sweep.Fill$1 -/
def c83 : C :=
  (.seq (.reg [⟨(some 4), .box (.tmp 1), none⟩,
     ⟨(some 5), .mv (.const (.bool false)), none⟩])
  (.seq (.reg [⟨(some 6), .mv (.tmp 0), none⟩,
     ⟨(some 7), .ld none (.tmp 2), none⟩,
     ⟨(some 8), .ld (some 2) (.tmp 4), none⟩,
     ⟨(some 9), .call 84 [(.tmp 6), (.tmp 7), (.tmp 8)], none⟩,
     ⟨(some 5), .mv (.tmp 9), none⟩])
  .ret))
def sweep_Fill_1_v1.f (k : Nat) (l0 : List (Int × Int × Int × Int)) (p1_0 : Int) (p1_1 : Int) (m0_0 : Int) : Option (Bool) := (wind_Inside_v1.f k l0 m0_0 p1_0 p1_1).bind fun t129 => (some t129)
theorem sweep_Fill_1_v1.ok {S : Seal} {B0 : Nat} {k : Nat} {l0 : List (Int × Int × Int × Int)} {p1_0 : Int} {p1_1 : Int} {m0_0 : Int} {r0_ : Bool}{a_l0 : Option Addr} {c_l0 : Nat} (h_l0 : SlE S E_i644 l0 a_l0) (e : sweep_Fill_1_v1.f k l0 p1_0 p1_1 m0_0 = some r0_) :
    Cal Try.prog 83 [.slice a_l0 l0.length c_l0, .agg #[.int .i64 p1_0, .int .i64 p1_1], .pointer (some ⟨B0, 0, none⟩)] ([⟨B0, [.int .i64 m0_0], 1⟩] : List Own) S fun v H' S' => v = .bool r0_ ∧ H' = ([⟨B0, [.int .i64 m0_0], 1⟩] : List Own) ∧ S' = S := by
  unfold sweep_Fill_1_v1.f at e
  refine cal_of (c := c83) (N := 10) Try.func83 rfl rfl (by kernel_rfl) (rs := [.t 5]) (by kernel_rfl) (Nat.le_of_ble_eq_true rfl) ?_
  unfold c83
  refine w_seq ?_
  refine w_reg fun all => ?_
  refine t_a (.box rfl rfl rfl) fun b81 fb81 sb81 => ?_
  refine t_qz 1 [0, 2, 4] (σ' := [(0, .slice a_l0 l0.length c_l0), (2, .pointer (some ⟨B0, 0, none⟩)), (4, .pointer (some ⟨b81, 0, none⟩))]) (by kernel_rfl) ?_
  refine t_end ?_
  show W _ _ _ _ _ _ _
  refine w_seq ?_
  refine w_reg fun all => ?_
  refine t_qz 1 [2, 4, 6] (σ' := [(2, .pointer (some ⟨B0, 0, none⟩)), (4, .pointer (some ⟨b81, 0, none⟩)), (6, .slice a_l0 l0.length c_l0)]) (by kernel_rfl) ?_
  refine t_v (.ld1 rfl rfl rfl (.at 1 rfl rfl)) ?_
  refine t_v (.ldn rfl rfl rfl (.at 0 rfl rfl)) ?_
  obtain ⟨t129, h130, e⟩ := bind_of e
  refine t_v (.call (vs := [.slice a_l0 l0.length c_l0, .int .i64 m0_0, .agg #[.int .i64 p1_0, .int .i64 p1_1]]) rfl rfl (by kernel_rfl) (wind_Inside_v1.ok h_l0 h130)) ?_
  refine t_qz 1 [5] (σ' := [(5, .bool t129)]) (by kernel_rfl) ?_
  refine t_end ?_
  show W _ _ _ _ _ _ _
  refine w_ret ?_
  obtain rfl := Option.some.inj e
  exact ⟨[.bool t129], ([⟨B0, [.int .i64 m0_0], 1⟩] : List Own), S, ⟨rfl, trivial⟩, VS.sel [1] (by kernel_rfl), rfl, rfl, rfl⟩

/-- sweep.masks -/
def c82 : C :=
  (.seq (.reg [⟨(some 10), .mv (.const (.slice none 0 0)), none⟩])
  (.seq (.seq (.reg [⟨(some 16), .mv (.tmp 3), none⟩,
      ⟨(some 17), .bin .lss (.tmp 16) (.const (.int .i64 1)), none⟩])
   (.cond (.tmp 17)
    (.seq (.reg [⟨(some 10), .mv (.const (.slice none 0 0)), none⟩])
     .ret)
    .skip))
  (.seq (.reg [⟨(some 18), .mv (.tmp 3), none⟩,
     ⟨(some 19), .mks 1 8 [(.int .u64 0)] (.tmp 18) (.tmp 18), none⟩,
     ⟨(some 11), .mv (.tmp 19), none⟩])
  (.seq (.seq (.reg [⟨(some 20), .mv (.const (.int .i64 0)), none⟩])
   (.block 0 (.loop (.seq (.reg [⟨(some 21), .bin .lss (.tmp 20) (.const (.int .i64 8)), none⟩])
     (.seq (.cond (.tmp 21)
       .skip
       (.exit 0))
     (.seq (.block 1 (.seq (.reg [⟨(some 22), .mv (.tmp 20), none⟩,
          ⟨(some 12), .mv (.tmp 22), none⟩])
       (.seq (.reg [⟨(some 23), .mv (.tmp 0), none⟩,
          ⟨(some 24), .mv (.tmp 1), none⟩,
          ⟨(some 25), .mv (.tmp 2), none⟩,
          ⟨(some 26), .mv (.tmp 12), none⟩,
          ⟨(some 27), .bin .mul (.tmp 26) (.const (.int .i64 8)), none⟩,
          ⟨(some 28), .call 48 [(.const (.int .i64 0)), (.tmp 25), (.tmp 27)], none⟩,
          ⟨(some 29), .fld none 1 (.tmp 28), none⟩,
          ⟨(some 30), .call 110 [(.tmp 23), (.tmp 24), (.tmp 29)], none⟩,
          ⟨(some 13), .mv (.tmp 30), none⟩])
       (.seq (.reg [⟨(some 14), .mv (.const (.int .i64 0)), none⟩])
       (.block 2 (.loop (.seq (.seq (.reg [⟨(some 31), .mv (.tmp 14), none⟩,
             ⟨(some 32), .mv (.tmp 3), none⟩,
             ⟨(some 33), .bin .lss (.tmp 31) (.tmp 32), none⟩,
             ⟨(some 34), .mv (.tmp 33), none⟩,
             ⟨(some 35), .mv (.tmp 13), (some (34, true))⟩,
             ⟨(some 36), .lns (.tmp 35), (some (34, true))⟩,
             ⟨(some 37), .bin .gtr (.tmp 36) (.const (.int .i64 0)), (some (34, true))⟩,
             ⟨(some 38), .pk (.tmp 34) (.tmp 37) (.const (.bool false)), none⟩])
          (.cond (.tmp 38)
           .skip
           (.exit 2)))
         (.seq (.block 3 (.seq (.reg [⟨(some 41), .mv (.tmp 12), none⟩,
              ⟨(some 42), .bin .mul (.tmp 41) (.const (.int .i64 8)), none⟩,
              ⟨(some 15), .mv (.tmp 42), none⟩])
           (.block 4 (.loop (.seq (.seq (.reg [⟨(some 43), .mv (.tmp 15), none⟩,
                 ⟨(some 44), .mv (.tmp 12), none⟩,
                 ⟨(some 45), .bin .add (.tmp 44) (.const (.int .i64 1)), none⟩,
                 ⟨(some 46), .bin .mul (.tmp 45) (.const (.int .i64 8)), none⟩,
                 ⟨(some 47), .bin .lss (.tmp 43) (.tmp 46), none⟩])
              (.cond (.tmp 47)
               .skip
               (.exit 4)))
             (.seq (.block 5 (.seq (.reg [⟨(some 50), .mv (.tmp 4), none⟩,
                  ⟨(some 51), .mv (.tmp 13), none⟩,
                  ⟨(some 52), .mv (.tmp 14), none⟩,
                  ⟨(some 53), .mv (.tmp 2), none⟩,
                  ⟨(some 54), .mv (.tmp 15), none⟩,
                  ⟨(some 55), .call 48 [(.tmp 52), (.tmp 53), (.tmp 54)], none⟩,
                  ⟨(some 56), .clo (.tmp 50) [(.tmp 51), (.tmp 55)], none⟩])
               (.cond (.tmp 56)
                (.drw [⟨(some 57), .mv (.tmp 11), none⟩,
                   ⟨(some 58), .mv (.tmp 14), none⟩,
                   ⟨(some 59), .ixs 1 (.tmp 57) (.tmp 58), none⟩,
                   ⟨(some 60), .ld none (.tmp 59), none⟩,
                   ⟨(some 61), .mv (.tmp 15), none⟩,
                   ⟨(some 62), .bin .shl (.const (.int .u64 1)) (.tmp 61), none⟩,
                   ⟨(some 63), .bin .or (.tmp 60) (.tmp 62), none⟩,
                   ⟨(some 64), .ixs 1 (.tmp 57) (.tmp 58), none⟩,
                   ⟨none, .st 1 (.tmp 64) (.tmp 63), none⟩] [[], [], [0, 1], [2], [], [4], [3, 5], [0, 1, 0, 1, 2, 3, 4, 5, 6], [7, 6, 0, 1, 2, 3, 4, 5, 6]])
                .skip)))
             (.reg [⟨(some 48), .mv (.tmp 15), none⟩,
               ⟨(some 49), .bin .add (.tmp 48) (.const (.int .i64 1)), none⟩,
               ⟨(some 15), .mv (.tmp 49), none⟩])))))))
         (.reg [⟨(some 39), .mv (.tmp 14), none⟩,
           ⟨(some 40), .bin .add (.tmp 39) (.const (.int .i64 1)), none⟩,
           ⟨(some 14), .mv (.tmp 40), none⟩])))))))))
     (.reg [⟨(some 65), .bin .add (.tmp 20) (.const (.int .i64 1)), none⟩,
       ⟨(some 20), .mv (.tmp 65), none⟩])))))))
  (.seq (.reg [⟨(some 66), .mv (.tmp 11), none⟩,
     ⟨(some 10), .mv (.tmp 66), none⟩])
  .ret)))))
def sweep_masks_v1.l2 : Nat → Int → Int → Int → List (Int × Int × Int × Int) → Int → Int → List (Int) → Option (List (Int) × Bool)
  | 0, _, _, _, _, _, _, _ => none
  | k + 1, y2, m0_0, x62, t71, x74, x81, y82 => if x81 < (wr64 ((wr64 (x62 + 1)) * 8)) then ((sweep_Sample.f x74 y2 x81).bind fun (t84, t85) => ((sweep_Fill_1_v1.f k t71 t84 t85 m0_0).bind fun t87 => (if t87 = true then ((lgt y82 x74).bind fun x89 => (if x81 < 0 then none else ((lgt y82 x74).bind fun x92 => ((lput y82 x74 (bits .or .u64 x89 (wru64 (1 * 2 ^ (min (Int.toNat x81) 64))))).bind fun y94 => (sweep_masks_v1.l2 k y2 m0_0 x62 t71 x74 (wr64 (x81 + 1)) y94))))) else (sweep_masks_v1.l2 k y2 m0_0 x62 t71 x74 (wr64 (x81 + 1)) y82)))) else (some (y82, true))
def sweep_masks_v1.l1 : Nat → Int → Int → Int → Int → List (Int × Int × Int × Int) → Int → List (Int) → Option (List (Int))
  | 0, _, _, _, _, _, _, _ => none
  | k + 1, y2, w3, m0_0, x62, t71, x74, y75 => if x74 < w3 then (if (t71.length : Int) > 0 then ((sweep_masks_v1.l2 k y2 m0_0 x62 t71 x74 (wr64 (x62 * 8)) y75 : Option (List (Int) × Bool)).bind fun (y100, x101) => (sweep_masks_v1.l1 k y2 w3 m0_0 x62 t71 (wr64 (x74 + 1)) y100)) else (some y75)) else (some y75)
def sweep_masks_v1.l0 : Nat → List (Int × Int × Int × Int) → Int → Int → Int → Int → Int → List (Int) → Option (List (Int))
  | 0, _, _, _, _, _, _, _ => none
  | k + 1, l0, wide1, y2, w3, m0_0, x62, y63 => if x62 < 8 then (((sweep_Sample.f 0 y2 (wr64 (x62 * 8))).bind fun (t68, t69) => ((sweep_crossing_v1.f k l0 wide1 t69).bind fun t71 => (sweep_masks_v1.l1 k y2 w3 m0_0 x62 t71 0 y63)) : Option (List (Int))).bind fun y104 => (sweep_masks_v1.l0 k l0 wide1 y2 w3 m0_0 (wr64 (x62 + 1)) y104)) else (some y63)
def sweep_masks_v1.f (k : Nat) (l0 : List (Int × Int × Int × Int)) (wide1 : Int) (y2 : Int) (w3 : Int) (m0_0 : Int) : Option (List (Int)) := if w3 < 1 then (some ([] : List (Int))) else ((lmk (0 : Int) w3 w3).bind fun y56 => ((sweep_masks_v1.l0 k l0 wide1 y2 w3 m0_0 0 y56 : Option (List (Int))).bind fun y107 => (some y107)))
theorem sweep_masks_v1.ok {S : Seal} {B0 : Nat} {k : Nat} {l0 : List (Int × Int × Int × Int)} {wide1 : Int} {y2 : Int} {w3 : Int} {m0_0 : Int} {r0_ : List (Int)}{a_l0 : Option Addr} {c_l0 : Nat} (h_l0 : SlE S E_i644 l0 a_l0) (e : sweep_masks_v1.f k l0 wide1 y2 w3 m0_0 = some r0_) :
    Cal Try.prog 82 [.slice a_l0 l0.length c_l0, .int .i64 wide1, .int .i64 y2, .int .i64 w3, .func (.func 83) #[] #[.pointer (some ⟨B0, 0, none⟩)]] ([⟨B0, [.int .i64 m0_0], 1⟩] : List Own) S fun v H' S' => ∃ (N0_ : Option Nat) (nN0_ : Nat) , v = .slice (ad N0_) r0_.length (nN0_ / 1) ∧ H' = ([⟨N0_, encL E_u64 r0_, nN0_⟩, ⟨B0, [.int .i64 m0_0], 1⟩] : List Own) ∧ S' = S := by
  unfold sweep_masks_v1.f at e
  refine cal_of (c := c82) (N := 67) Try.func82 rfl rfl (by kernel_rfl) (rs := [.t 10]) (by kernel_rfl) (Nat.le_of_ble_eq_true rfl) ?_
  unfold c82
  refine w_seq ?_
  refine w_reg fun all => ?_
  refine t_qz 1 [0, 1, 2, 3, 4] (σ' := [(0, .slice a_l0 l0.length c_l0), (1, .int .i64 wide1), (2, .int .i64 y2), (3, .int .i64 w3), (4, .func (.func 83) #[] #[.pointer (some ⟨B0, 0, none⟩)])]) (by kernel_rfl) ?_
  refine t_end ?_
  show W _ _ _ _ _ _ _
  refine w_seq ?_
  refine w_seq ?_
  refine w_reg fun all => ?_
  by_cases c55 : w3 < 1
  · rw [if_pos c55] at e
    have c55b : (decide (w3 < 1)) = true := decide_eq_true c55
    refine t_qz 1 [0, 1, 2, 3, 4, 16] (σ' := [(0, .slice a_l0 l0.length c_l0), (1, .int .i64 wide1), (2, .int .i64 y2), (3, .int .i64 w3), (4, .func (.func 83) #[] #[.pointer (some ⟨B0, 0, none⟩)]), (16, .int .i64 w3)]) (by kernel_rfl) ?_
    refine t_v (dv_quiet rfl (congrArg (fun t => some (Value.bool t)) c55b)) ?_
    refine t_keep [0, 1, 2, 3, 4, 17] (σ' := [(0, .slice a_l0 l0.length c_l0), (1, .int .i64 wide1), (2, .int .i64 y2), (3, .int .i64 w3), (4, .func (.func 83) #[] #[.pointer (some ⟨B0, 0, none⟩)]), (17, .bool true)]) (by kernel_rfl) ?_
    refine t_end ?_
    show W _ _ _ _ _ _ _
    refine w_cond rfl (fun _ => ?_) (fun c_ => by cases c_)
    show W _ _ _ _ _ _ _
    refine w_seq ?_
    refine w_reg fun all => ?_
    refine t_qz 1 [10] (σ' := [(10, .slice none 0 0)]) (by kernel_rfl) ?_
    refine t_end ?_
    show W _ _ _ _ _ _ _
    refine w_ret ?_
    obtain rfl := Option.some.inj e
    exact ⟨[.slice (ad none) ([] : List (Int)).length (0 / 1)], ([⟨none, encL E_u64 ([] : List (Int)), 0⟩, ⟨B0, [.int .i64 m0_0], 1⟩] : List Own), S, ⟨(show gt _ _ = some _ from (by kernel_rfl)), trivial⟩, VS.trans VS.vac (VS.sel [0, 0] (by kernel_rfl)), none, 0, rfl, rfl, rfl⟩
  · rw [if_neg c55] at e
    have c55b : (decide (w3 < 1)) = false := decide_eq_false c55
    refine t_qz 1 [0, 1, 2, 3, 4, 16] (σ' := [(0, .slice a_l0 l0.length c_l0), (1, .int .i64 wide1), (2, .int .i64 y2), (3, .int .i64 w3), (4, .func (.func 83) #[] #[.pointer (some ⟨B0, 0, none⟩)]), (16, .int .i64 w3)]) (by kernel_rfl) ?_
    refine t_v (dv_quiet rfl (congrArg (fun t => some (Value.bool t)) c55b)) ?_
    refine t_keep [0, 1, 2, 3, 4, 17] (σ' := [(0, .slice a_l0 l0.length c_l0), (1, .int .i64 wide1), (2, .int .i64 y2), (3, .int .i64 w3), (4, .func (.func 83) #[] #[.pointer (some ⟨B0, 0, none⟩)]), (17, .bool false)]) (by kernel_rfl) ?_
    refine t_end ?_
    show W _ _ _ _ _ _ _
    refine w_cond rfl (fun c_ => by cases c_) (fun _ => ?_)
    show W _ _ _ _ _ _ _
    refine w_skip ?_
    show W _ _ _ _ _ _ _
    refine w_seq ?_
    refine w_reg fun all => ?_
    obtain ⟨y56, hl57, e⟩ := bind_of e
    refine t_qz 1 [0, 1, 2, 3, 4, 18] (σ' := [(0, .slice a_l0 l0.length c_l0), (1, .int .i64 wide1), (2, .int .i64 y2), (3, .int .i64 w3), (4, .func (.func 83) #[] #[.pointer (some ⟨B0, 0, none⟩)]), (18, .int .i64 w3)]) (by kernel_rfl) ?_
    refine t_mkl (E := E_u64) (x0 := 0) rfl rfl rfl rfl rfl (by decide) (by decide) rfl hl57 fun a58 na58 => ?_
    refine t_qz 1 [0, 1, 2, 3, 4, 11] (σ' := [(0, .slice a_l0 l0.length c_l0), (1, .int .i64 wide1), (2, .int .i64 y2), (3, .int .i64 w3), (4, .func (.func 83) #[] #[.pointer (some ⟨B0, 0, none⟩)]), (11, .slice (ad (some a58)) y56.length (na58 / 1))]) (by kernel_rfl) ?_
    refine t_end ?_
    show W _ _ _ _ _ _ _
    obtain ⟨y107, e60, e⟩ := bind_of e
    refine w_cut [11] (fun σ_ H_ S_ => [(11, .slice (ad (some a58)) y107.length (na58 / 1))] = σ_ ∧ ([⟨B0, [.int .i64 m0_0], 1⟩, ⟨some a58, encL E_u64 y107, na58⟩] : List Own) = H_ ∧ S = S_) ?_ ?_
    · show W _ _ _ _ _ _ _
      refine w_seq ?_
      refine w_reg fun all => ?_
      refine t_qz 1 [0, 1, 2, 3, 4, 11, 20] (σ' := [(0, .slice a_l0 l0.length c_l0), (1, .int .i64 wide1), (2, .int .i64 y2), (3, .int .i64 w3), (4, .func (.func 83) #[] #[.pointer (some ⟨B0, 0, none⟩)]), (11, .slice (ad (some a58)) y56.length (na58 / 1)), (20, .int .i64 0)]) (by kernel_rfl) ?_
      refine t_end ?_
      show W _ _ _ _ _ _ _
      refine w_block ?_
      refine w_kp [0, 1, 2, 3, 4, 11, 20] (σ' := [(0, .slice a_l0 l0.length c_l0), (1, .int .i64 wide1), (2, .int .i64 y2), (3, .int .i64 w3), (4, .func (.func 83) #[] #[.pointer (some ⟨B0, 0, none⟩)]), (11, .slice (ad (some a58)) y56.length (na58 / 1)), (20, .int .i64 0)]) (by kernel_rfl) ?_
      refine w_loop (fun n_ σ_ H_ S_ => ∃ (x62 : Int) (y63 : List (Int)), [(0, .slice a_l0 l0.length c_l0), (1, .int .i64 wide1), (2, .int .i64 y2), (3, .int .i64 w3), (4, .func (.func 83) #[] #[.pointer (some ⟨B0, 0, none⟩)]), (11, .slice (ad (some a58)) y63.length (na58 / 1)), (20, .int .i64 x62)] = σ_ ∧ ([⟨some a58, encL E_u64 y63, na58⟩, ⟨B0, [.int .i64 m0_0], 1⟩] : List Own) = H_ ∧ S = S_ ∧ sweep_masks_v1.l0 n_ l0 wide1 y2 w3 m0_0 x62 y63 = some y107) _ ⟨0, y56, rfl, rfl, rfl, e60⟩ ?_
      rintro n106 σ_ H_ S_ ⟨x62, y63, rfl, rfl, rfl, e60⟩
      cases n106 with
      | zero => rw [sweep_masks_v1.l0.eq_1] at e60; cases e60
      | succ k_ =>
        rw [sweep_masks_v1.l0.eq_2] at e60
        refine w_seq ?_
        refine w_reg fun all => ?_
        by_cases c64 : x62 < 8
        · rw [if_pos c64] at e60
          have c64b : (decide (x62 < 8)) = true := decide_eq_true c64
          refine t_v (dv_quiet rfl (congrArg (fun t => some (Value.bool t)) c64b)) ?_
          refine t_keep [0, 1, 2, 3, 4, 11, 20, 21] (σ' := [(0, .slice a_l0 l0.length c_l0), (1, .int .i64 wide1), (2, .int .i64 y2), (3, .int .i64 w3), (4, .func (.func 83) #[] #[.pointer (some ⟨B0, 0, none⟩)]), (11, .slice (ad (some a58)) y63.length (na58 / 1)), (20, .int .i64 x62), (21, .bool true)]) (by kernel_rfl) ?_
          refine t_end ?_
          show W _ _ _ _ _ _ _
          refine w_seq ?_
          refine w_cond rfl (fun _ => ?_) (fun c_ => by cases c_)
          show W _ _ _ _ _ _ _
          refine w_skip ?_
          show W _ _ _ _ _ _ _
          obtain ⟨y104, e66, e60⟩ := bind_of e60
          refine w_cut [0, 1, 2, 3, 4, 11, 20] (fun σ_ H_ S_ => [(0, .slice a_l0 l0.length c_l0), (1, .int .i64 wide1), (2, .int .i64 y2), (3, .int .i64 w3), (4, .func (.func 83) #[] #[.pointer (some ⟨B0, 0, none⟩)]), (11, .slice (ad (some a58)) y104.length (na58 / 1)), (20, .int .i64 x62)] = σ_ ∧ ([⟨B0, [.int .i64 m0_0], 1⟩, ⟨some a58, encL E_u64 y104, na58⟩] : List Own) = H_ ∧ S = S_) ?_ ?_
          · show W _ _ _ _ _ _ _
            refine w_block ?_
            refine w_seq ?_
            refine w_reg fun all => ?_
            refine t_qz 2 [0, 1, 2, 3, 4, 11, 12, 20] (σ' := [(0, .slice a_l0 l0.length c_l0), (1, .int .i64 wide1), (2, .int .i64 y2), (3, .int .i64 w3), (4, .func (.func 83) #[] #[.pointer (some ⟨B0, 0, none⟩)]), (11, .slice (ad (some a58)) y63.length (na58 / 1)), (12, .int .i64 x62), (20, .int .i64 x62)]) (by kernel_rfl) ?_
            refine t_end ?_
            show W _ _ _ _ _ _ _
            refine w_seq ?_
            refine w_reg fun all => ?_
            obtain ⟨⟨t68, t69⟩, h70, e66⟩ := bind_of e66
            try dsimp only at e66
            refine t_qz 5 [0, 1, 2, 3, 4, 11, 12, 20, 23, 24, 25, 27] (σ' := [(0, .slice a_l0 l0.length c_l0), (1, .int .i64 wide1), (2, .int .i64 y2), (3, .int .i64 w3), (4, .func (.func 83) #[] #[.pointer (some ⟨B0, 0, none⟩)]), (11, .slice (ad (some a58)) y63.length (na58 / 1)), (12, .int .i64 x62), (20, .int .i64 x62), (23, .slice a_l0 l0.length c_l0), (24, .int .i64 wide1), (25, .int .i64 y2), (27, .int .i64 (wr64 (x62 * 8)))]) (by kernel_rfl) ?_
            refine t_v (.call (vs := [.int .i64 0, .int .i64 y2, .int .i64 (wr64 (x62 * 8))]) rfl rfl (by kernel_rfl) (sweep_Sample.ok h70)) ?_
            obtain ⟨t71, h72, e66⟩ := bind_of e66
            refine t_qz 1 [0, 1, 2, 3, 4, 11, 12, 20, 23, 24, 29] (σ' := [(0, .slice a_l0 l0.length c_l0), (1, .int .i64 wide1), (2, .int .i64 y2), (3, .int .i64 w3), (4, .func (.func 83) #[] #[.pointer (some ⟨B0, 0, none⟩)]), (11, .slice (ad (some a58)) y63.length (na58 / 1)), (12, .int .i64 x62), (20, .int .i64 x62), (23, .slice a_l0 l0.length c_l0), (24, .int .i64 wide1), (29, .int .i64 t69)]) (by kernel_rfl) ?_
            refine t_call (vs := [.slice a_l0 l0.length c_l0, .int .i64 wide1, .int .i64 t69]) (H1 := ([] : List Own)) (F := ([⟨some a58, encL E_u64 y63, na58⟩, ⟨B0, [.int .i64 m0_0], 1⟩] : List Own)) rfl rfl (by kernel_rfl) (sel_perm (is := []) (by kernel_rfl)) (sweep_crossing_v1.ok h_l0 h72) ?_
            rintro _ _ S_ ⟨N73, nN73, rfl, rfl, hS_⟩
            obtain rfl := hS_.symm
            refine t_qz 1 [0, 1, 2, 3, 4, 11, 12, 13, 20] (σ' := [(0, .slice a_l0 l0.length c_l0), (1, .int .i64 wide1), (2, .int .i64 y2), (3, .int .i64 w3), (4, .func (.func 83) #[] #[.pointer (some ⟨B0, 0, none⟩)]), (11, .slice (ad (some a58)) y63.length (na58 / 1)), (12, .int .i64 x62), (13, .slice (ad N73) t71.length (nN73 / 4)), (20, .int .i64 x62)]) (by kernel_rfl) ?_
            refine t_end ?_
            show W _ _ _ _ _ _ _
            refine w_seq ?_
            refine w_reg fun all => ?_
            refine t_qz 1 [0, 1, 2, 3, 4, 11, 12, 13, 14, 20] (σ' := [(0, .slice a_l0 l0.length c_l0), (1, .int .i64 wide1), (2, .int .i64 y2), (3, .int .i64 w3), (4, .func (.func 83) #[] #[.pointer (some ⟨B0, 0, none⟩)]), (11, .slice (ad (some a58)) y63.length (na58 / 1)), (12, .int .i64 x62), (13, .slice (ad N73) t71.length (nN73 / 4)), (14, .int .i64 0), (20, .int .i64 x62)]) (by kernel_rfl) ?_
            refine t_end ?_
            show W _ _ _ _ _ _ _
            refine w_block ?_
            refine w_kp [0, 1, 2, 3, 4, 11, 12, 13, 14, 20] (σ' := [(0, .slice a_l0 l0.length c_l0), (1, .int .i64 wide1), (2, .int .i64 y2), (3, .int .i64 w3), (4, .func (.func 83) #[] #[.pointer (some ⟨B0, 0, none⟩)]), (11, .slice (ad (some a58)) y63.length (na58 / 1)), (12, .int .i64 x62), (13, .slice (ad N73) t71.length (nN73 / 4)), (14, .int .i64 0), (20, .int .i64 x62)]) (by kernel_rfl) ?_
            refine w_loop (fun n_ σ_ H_ S_ => ∃ (x74 : Int) (y75 : List (Int)), [(0, .slice a_l0 l0.length c_l0), (1, .int .i64 wide1), (2, .int .i64 y2), (3, .int .i64 w3), (4, .func (.func 83) #[] #[.pointer (some ⟨B0, 0, none⟩)]), (11, .slice (ad (some a58)) y75.length (na58 / 1)), (12, .int .i64 x62), (13, .slice (ad N73) t71.length (nN73 / 4)), (14, .int .i64 x74), (20, .int .i64 x62)] = σ_ ∧ ([⟨N73, encL E_i644 t71, nN73⟩, ⟨some a58, encL E_u64 y75, na58⟩, ⟨B0, [.int .i64 m0_0], 1⟩] : List Own) = H_ ∧ S = S_ ∧ sweep_masks_v1.l1 n_ y2 w3 m0_0 x62 t71 x74 y75 = some y104) _ ⟨0, y63, rfl, rfl, rfl, e66⟩ ?_
            rintro n103 σ_ H_ S_ ⟨x74, y75, rfl, rfl, rfl, e66⟩
            cases n103 with
            | zero => rw [sweep_masks_v1.l1.eq_1] at e66; cases e66
            | succ k_ =>
              rw [sweep_masks_v1.l1.eq_2] at e66
              refine w_seq ?_
              refine w_seq ?_
              refine w_reg fun all => ?_
              by_cases c76 : x74 < w3
              · rw [if_pos c76] at e66
                have c76b : (decide (x74 < w3)) = true := decide_eq_true c76
                refine t_qz 2 [0, 1, 2, 3, 4, 11, 12, 13, 14, 20, 31, 32] (σ' := [(0, .slice a_l0 l0.length c_l0), (1, .int .i64 wide1), (2, .int .i64 y2), (3, .int .i64 w3), (4, .func (.func 83) #[] #[.pointer (some ⟨B0, 0, none⟩)]), (11, .slice (ad (some a58)) y75.length (na58 / 1)), (12, .int .i64 x62), (13, .slice (ad N73) t71.length (nN73 / 4)), (14, .int .i64 x74), (20, .int .i64 x62), (31, .int .i64 x74), (32, .int .i64 w3)]) (by kernel_rfl) ?_
                refine t_v (dv_quiet rfl (congrArg (fun t => some (Value.bool t)) c76b)) ?_
                by_cases c77 : (t71.length : Int) > 0
                · rw [if_pos c77] at e66
                  have c77b : (decide ((t71.length : Int) > 0)) = true := decide_eq_true c77
                  refine t_qz 3 [0, 1, 2, 3, 4, 11, 12, 13, 14, 20, 34, 35, 36] (σ' := [(0, .slice a_l0 l0.length c_l0), (1, .int .i64 wide1), (2, .int .i64 y2), (3, .int .i64 w3), (4, .func (.func 83) #[] #[.pointer (some ⟨B0, 0, none⟩)]), (11, .slice (ad (some a58)) y75.length (na58 / 1)), (12, .int .i64 x62), (13, .slice (ad N73) t71.length (nN73 / 4)), (14, .int .i64 x74), (20, .int .i64 x62), (34, .bool true), (35, .slice (ad N73) t71.length (nN73 / 4)), (36, .int .i64 (t71.length : Int))]) (by kernel_rfl) ?_
                  refine t_v (dv_quiet rfl (congrArg (fun t => some (Value.bool t)) c77b)) ?_
                  refine t_qz 1 [0, 1, 2, 3, 4, 11, 12, 13, 14, 20, 35, 36, 37, 38] (σ' := [(0, .slice a_l0 l0.length c_l0), (1, .int .i64 wide1), (2, .int .i64 y2), (3, .int .i64 w3), (4, .func (.func 83) #[] #[.pointer (some ⟨B0, 0, none⟩)]), (11, .slice (ad (some a58)) y75.length (na58 / 1)), (12, .int .i64 x62), (13, .slice (ad N73) t71.length (nN73 / 4)), (14, .int .i64 x74), (20, .int .i64 x62), (35, .slice (ad N73) t71.length (nN73 / 4)), (36, .int .i64 (t71.length : Int)), (37, .bool true), (38, .bool true)]) (by kernel_rfl) ?_
                  refine t_end ?_
                  show W _ _ _ _ _ _ _
                  refine w_cond rfl (fun _ => ?_) (fun c_ => by cases c_)
                  show W _ _ _ _ _ _ _
                  refine w_skip ?_
                  show W _ _ _ _ _ _ _
                  obtain ⟨⟨y100, x101⟩, e79, e66⟩ := bind_of e66
                  try dsimp only at e66
                  refine w_cut [0, 1, 2, 3, 4, 11, 12, 13, 14, 20, 35, 36, 37] (fun σ_ H_ S_ => [(0, .slice a_l0 l0.length c_l0), (1, .int .i64 wide1), (2, .int .i64 y2), (3, .int .i64 w3), (4, .func (.func 83) #[] #[.pointer (some ⟨B0, 0, none⟩)]), (11, .slice (ad (some a58)) y100.length (na58 / 1)), (12, .int .i64 x62), (13, .slice (ad N73) t71.length (nN73 / 4)), (14, .int .i64 x74), (20, .int .i64 x62), (35, .slice (ad N73) t71.length (nN73 / 4)), (36, .int .i64 (t71.length : Int)), (37, .bool x101)] = σ_ ∧ ([⟨B0, [.int .i64 m0_0], 1⟩, ⟨some a58, encL E_u64 y100, na58⟩, ⟨N73, encL E_i644 t71, nN73⟩] : List Own) = H_ ∧ S = S_) ?_ ?_
                  · show W _ _ _ _ _ _ _
                    refine w_block ?_
                    refine w_seq ?_
                    refine w_reg fun all => ?_
                    refine t_qz 3 [0, 1, 2, 3, 4, 11, 12, 13, 14, 15, 20, 35, 36, 37] (σ' := [(0, .slice a_l0 l0.length c_l0), (1, .int .i64 wide1), (2, .int .i64 y2), (3, .int .i64 w3), (4, .func (.func 83) #[] #[.pointer (some ⟨B0, 0, none⟩)]), (11, .slice (ad (some a58)) y75.length (na58 / 1)), (12, .int .i64 x62), (13, .slice (ad N73) t71.length (nN73 / 4)), (14, .int .i64 x74), (15, .int .i64 (wr64 (x62 * 8))), (20, .int .i64 x62), (35, .slice (ad N73) t71.length (nN73 / 4)), (36, .int .i64 (t71.length : Int)), (37, .bool true)]) (by kernel_rfl) ?_
                    refine t_end ?_
                    show W _ _ _ _ _ _ _
                    refine w_block ?_
                    refine w_kp [0, 1, 2, 3, 4, 11, 12, 13, 14, 15, 20, 35, 36, 37] (σ' := [(0, .slice a_l0 l0.length c_l0), (1, .int .i64 wide1), (2, .int .i64 y2), (3, .int .i64 w3), (4, .func (.func 83) #[] #[.pointer (some ⟨B0, 0, none⟩)]), (11, .slice (ad (some a58)) y75.length (na58 / 1)), (12, .int .i64 x62), (13, .slice (ad N73) t71.length (nN73 / 4)), (14, .int .i64 x74), (15, .int .i64 (wr64 (x62 * 8))), (20, .int .i64 x62), (35, .slice (ad N73) t71.length (nN73 / 4)), (36, .int .i64 (t71.length : Int)), (37, .bool true)]) (by kernel_rfl) ?_
                    refine w_loop (fun n_ σ_ H_ S_ => ∃ (x81 : Int) (y82 : List (Int)), [(0, .slice a_l0 l0.length c_l0), (1, .int .i64 wide1), (2, .int .i64 y2), (3, .int .i64 w3), (4, .func (.func 83) #[] #[.pointer (some ⟨B0, 0, none⟩)]), (11, .slice (ad (some a58)) y82.length (na58 / 1)), (12, .int .i64 x62), (13, .slice (ad N73) t71.length (nN73 / 4)), (14, .int .i64 x74), (15, .int .i64 x81), (20, .int .i64 x62), (35, .slice (ad N73) t71.length (nN73 / 4)), (36, .int .i64 (t71.length : Int)), (37, .bool true)] = σ_ ∧ ([⟨N73, encL E_i644 t71, nN73⟩, ⟨some a58, encL E_u64 y82, na58⟩, ⟨B0, [.int .i64 m0_0], 1⟩] : List Own) = H_ ∧ S = S_ ∧ sweep_masks_v1.l2 n_ y2 m0_0 x62 t71 x74 x81 y82 = some (y100, x101)) _ ⟨wr64 (x62 * 8), y75, rfl, rfl, rfl, e79⟩ ?_
                    rintro n99 σ_ H_ S_ ⟨x81, y82, rfl, rfl, rfl, e79⟩
                    cases n99 with
                    | zero => rw [sweep_masks_v1.l2.eq_1] at e79; cases e79
                    | succ k_ =>
                      rw [sweep_masks_v1.l2.eq_2] at e79
                      refine w_seq ?_
                      refine w_seq ?_
                      refine w_reg fun all => ?_
                      by_cases c83 : x81 < (wr64 ((wr64 (x62 + 1)) * 8))
                      · rw [if_pos c83] at e79
                        have c83b : (decide (x81 < (wr64 ((wr64 (x62 + 1)) * 8)))) = true := decide_eq_true c83
                        refine t_qz 4 [0, 1, 2, 3, 4, 11, 12, 13, 14, 15, 20, 35, 36, 37, 43, 46] (σ' := [(0, .slice a_l0 l0.length c_l0), (1, .int .i64 wide1), (2, .int .i64 y2), (3, .int .i64 w3), (4, .func (.func 83) #[] #[.pointer (some ⟨B0, 0, none⟩)]), (11, .slice (ad (some a58)) y82.length (na58 / 1)), (12, .int .i64 x62), (13, .slice (ad N73) t71.length (nN73 / 4)), (14, .int .i64 x74), (15, .int .i64 x81), (20, .int .i64 x62), (35, .slice (ad N73) t71.length (nN73 / 4)), (36, .int .i64 (t71.length : Int)), (37, .bool true), (43, .int .i64 x81), (46, .int .i64 (wr64 ((wr64 (x62 + 1)) * 8)))]) (by kernel_rfl) ?_
                        refine t_v (dv_quiet rfl (congrArg (fun t => some (Value.bool t)) c83b)) ?_
                        refine t_keep [0, 1, 2, 3, 4, 11, 12, 13, 14, 15, 20, 35, 36, 37, 47] (σ' := [(0, .slice a_l0 l0.length c_l0), (1, .int .i64 wide1), (2, .int .i64 y2), (3, .int .i64 w3), (4, .func (.func 83) #[] #[.pointer (some ⟨B0, 0, none⟩)]), (11, .slice (ad (some a58)) y82.length (na58 / 1)), (12, .int .i64 x62), (13, .slice (ad N73) t71.length (nN73 / 4)), (14, .int .i64 x74), (15, .int .i64 x81), (20, .int .i64 x62), (35, .slice (ad N73) t71.length (nN73 / 4)), (36, .int .i64 (t71.length : Int)), (37, .bool true), (47, .bool true)]) (by kernel_rfl) ?_
                        refine t_end ?_
                        show W _ _ _ _ _ _ _
                        refine w_cond rfl (fun _ => ?_) (fun c_ => by cases c_)
                        show W _ _ _ _ _ _ _
                        refine w_skip ?_
                        show W _ _ _ _ _ _ _
                        refine w_seq ?_
                        refine w_block ?_
                        refine w_seq ?_
                        refine w_reg fun all => ?_
                        obtain ⟨⟨t84, t85⟩, h86, e79⟩ := bind_of e79
                        try dsimp only at e79
                        refine t_qz 5 [0, 1, 2, 3, 4, 11, 12, 13, 14, 15, 20, 35, 36, 37, 50, 51, 52, 53, 54] (σ' := [(0, .slice a_l0 l0.length c_l0), (1, .int .i64 wide1), (2, .int .i64 y2), (3, .int .i64 w3), (4, .func (.func 83) #[] #[.pointer (some ⟨B0, 0, none⟩)]), (11, .slice (ad (some a58)) y82.length (na58 / 1)), (12, .int .i64 x62), (13, .slice (ad N73) t71.length (nN73 / 4)), (14, .int .i64 x74), (15, .int .i64 x81), (20, .int .i64 x62), (35, .slice (ad N73) t71.length (nN73 / 4)), (36, .int .i64 (t71.length : Int)), (37, .bool true), (50, .func (.func 83) #[] #[.pointer (some ⟨B0, 0, none⟩)]), (51, .slice (ad N73) t71.length (nN73 / 4)), (52, .int .i64 x74), (53, .int .i64 y2), (54, .int .i64 x81)]) (by kernel_rfl) ?_
                        refine t_v (.call (vs := [.int .i64 x74, .int .i64 y2, .int .i64 x81]) rfl rfl (by kernel_rfl) (sweep_Sample.ok h86)) ?_
                        obtain ⟨t87, h88, e79⟩ := bind_of e79
                        cases t87 with
                        | true =>
                          rw [if_pos rfl] at e79
                          refine t_v (.clor (vs := [.slice (ad N73) t71.length (nN73 / 4), .agg #[.int .i64 t84, .int .i64 t85]]) (caps := #[.pointer (some ⟨B0, 0, none⟩)]) (A := ([⟨N73, encL E_i644 t71, nN73⟩, ⟨B0, [.int .i64 m0_0], 1⟩] : List Own)) (F0 := ([⟨some a58, encL E_u64 y82, na58⟩] : List Own)) rfl rfl rfl (by kernel_rfl) (by kernel_rfl) (sel_perm (is := [0, 1]) (by kernel_rfl)) (cal_lendr fun S1_ le1_ hS1_ => (sweep_Fill_1_v1.ok (SlE.ofAd (E := E_i644) (L := t71) hS1_ (by decide)) h88))) ?_
                          refine t_keep [0, 1, 2, 3, 4, 11, 12, 13, 14, 15, 20, 35, 36, 37, 56] (σ' := [(0, .slice a_l0 l0.length c_l0), (1, .int .i64 wide1), (2, .int .i64 y2), (3, .int .i64 w3), (4, .func (.func 83) #[] #[.pointer (some ⟨B0, 0, none⟩)]), (11, .slice (ad (some a58)) y82.length (na58 / 1)), (12, .int .i64 x62), (13, .slice (ad N73) t71.length (nN73 / 4)), (14, .int .i64 x74), (15, .int .i64 x81), (20, .int .i64 x62), (35, .slice (ad N73) t71.length (nN73 / 4)), (36, .int .i64 (t71.length : Int)), (37, .bool true), (56, .bool true)]) (by kernel_rfl) ?_
                          refine t_end ?_
                          show W _ _ _ _ _ _ _
                          refine w_cond rfl (fun _ => ?_) (fun c_ => by cases c_)
                          show W _ _ _ _ _ _ _
                          obtain ⟨x89, hx90, e79⟩ := bind_of e79
                          have c91 : ¬ x81 < 0 := by
                            intro h_; rw [if_pos h_] at e79; cases e79
                          rw [if_neg c91] at e79
                          obtain ⟨x92, hx93, e79⟩ := bind_of e79
                          refine w_drwE mixed 8 [.v (.slice (ad (some a58)) y82.length (na58 / 1)), .v (.int .i64 x74), .v (.pointer (some ⟨bk (some a58), (x74).toNat * 1 + 0, none⟩)), .v (.int .u64 x89), .v (.int .i64 x81), .v (.int .u64 (wru64 (1 * 2 ^ (min (Int.toNat x81) 64)))), .v (.int .u64 (bits .or .u64 x89 (wru64 (1 * 2 ^ (min (Int.toNat x81) 64))))), .v (.pointer (some ⟨bk (some a58), (x74).toNat * 1 + 0, none⟩))] (by kernel_rfl) ?_ ?_
                          · refine DI.sq 2 (by kernel_rfl) rfl ?_
                            refine .cons (.quietH rfl (by intro h_; cases h_) (ixl (E := E_u64) (j := 1) rfl rfl rfl (by decide) rfl hx90)) ?_
                            refine .cons (.ld1 rfl rfl rfl (.lst 1 rfl (encL_at (lgt_in hx90).1 rfl))) ?_
                            refine DI.sq 1 (by kernel_rfl) rfl ?_
                            refine .cons (.quiet rfl (qv_shl rfl rfl c91)) ?_
                            refine DI.sq 1 (by kernel_rfl) rfl ?_
                            refine .cons (.quietH rfl (by intro h_; cases h_) (ixl (E := E_u64) (j := 1) rfl rfl rfl (by decide) rfl hx93)) ?_
                            exact .nil
                          refine fk_q 8 [0, 1, 2, 3, 4, 11, 12, 13, 14, 15, 20, 35, 36, 37, 63, 64] (σ' := [(0, .slice a_l0 l0.length c_l0), (1, .int .i64 wide1), (2, .int .i64 y2), (3, .int .i64 w3), (4, .func (.func 83) #[] #[.pointer (some ⟨B0, 0, none⟩)]), (11, .slice (ad (some a58)) y82.length (na58 / 1)), (12, .int .i64 x62), (13, .slice (ad N73) t71.length (nN73 / 4)), (14, .int .i64 x74), (15, .int .i64 x81), (20, .int .i64 x62), (35, .slice (ad N73) t71.length (nN73 / 4)), (36, .int .i64 (t71.length : Int)), (37, .bool true), (63, .int .u64 (bits .or .u64 x89 (wru64 (1 * 2 ^ (min (Int.toNat x81) 64))))), (64, .pointer (some ⟨bk (some a58), (x74).toNat * 1 + 0, none⟩))]) t_more (by kernel_rfl) ?_
                          refine fk_nil fun all => ?_
                          obtain ⟨y94, hl95, e79⟩ := bind_of e79
                          refine t_stl 1 (E := E_u64) (L := y82) (L' := y94) (i := x74) (off := 0) (y0 := x92) (y1 := (bits .or .u64 x89 (wru64 (1 * 2 ^ (min (Int.toNat x81) 64))))) (H' := ([⟨N73, encL E_i644 t71, nN73⟩, ⟨some a58, encL E_u64 y94, na58⟩, ⟨B0, [.int .i64 m0_0], 1⟩] : List Own)) rfl rfl rfl rfl rfl rfl rfl (by decide) rfl hx93 (by kernel_rfl) hl95 rfl ?_
                          refine t_keep [0, 1, 2, 3, 4, 11, 12, 13, 14, 15, 20, 35, 36, 37, 63, 64] (σ' := [(0, .slice a_l0 l0.length c_l0), (1, .int .i64 wide1), (2, .int .i64 y2), (3, .int .i64 w3), (4, .func (.func 83) #[] #[.pointer (some ⟨B0, 0, none⟩)]), (11, .slice (ad (some a58)) y82.length (na58 / 1)), (12, .int .i64 x62), (13, .slice (ad N73) t71.length (nN73 / 4)), (14, .int .i64 x74), (15, .int .i64 x81), (20, .int .i64 x62), (35, .slice (ad N73) t71.length (nN73 / 4)), (36, .int .i64 (t71.length : Int)), (37, .bool true), (63, .int .u64 (bits .or .u64 x89 (wru64 (1 * 2 ^ (min (Int.toNat x81) 64))))), (64, .pointer (some ⟨bk (some a58), (x74).toNat * 1 + 0, none⟩))]) (by kernel_rfl) ?_
                          refine t_eq (σ' := [(0, .slice a_l0 l0.length c_l0), (1, .int .i64 wide1), (2, .int .i64 y2), (3, .int .i64 w3), (4, .func (.func 83) #[] #[.pointer (some ⟨B0, 0, none⟩)]), (11, .slice (ad (some a58)) y94.length (na58 / 1)), (12, .int .i64 x62), (13, .slice (ad N73) t71.length (nN73 / 4)), (14, .int .i64 x74), (15, .int .i64 x81), (20, .int .i64 x62), (35, .slice (ad N73) t71.length (nN73 / 4)), (36, .int .i64 (t71.length : Int)), (37, .bool true), (63, .int .u64 (bits .or .u64 x89 (wru64 (1 * 2 ^ (min (Int.toNat x81) 64))))), (64, .pointer (some ⟨bk (some a58), (x74).toNat * 1 + 0, none⟩))]) (H' := ([⟨N73, encL E_i644 t71, nN73⟩, ⟨some a58, encL E_u64 y94, na58⟩, ⟨B0, [.int .i64 m0_0], 1⟩] : List Own)) (by first | rfl | rw [(lput_is hl95).2]) (by first | rfl | rw [(lput_is hl95).2]) ?_
                          refine t_keep [0, 1, 2, 3, 4, 11, 12, 13, 14, 15, 20, 35, 36, 37] (σ' := [(0, .slice a_l0 l0.length c_l0), (1, .int .i64 wide1), (2, .int .i64 y2), (3, .int .i64 w3), (4, .func (.func 83) #[] #[.pointer (some ⟨B0, 0, none⟩)]), (11, .slice (ad (some a58)) y94.length (na58 / 1)), (12, .int .i64 x62), (13, .slice (ad N73) t71.length (nN73 / 4)), (14, .int .i64 x74), (15, .int .i64 x81), (20, .int .i64 x62), (35, .slice (ad N73) t71.length (nN73 / 4)), (36, .int .i64 (t71.length : Int)), (37, .bool true)]) (by kernel_rfl) ?_
                          refine t_end ?_
                          show W _ _ _ _ _ _ _
                          refine w_reg fun all => ?_
                          refine t_qz 3 [0, 1, 2, 3, 4, 11, 12, 13, 14, 15, 20, 35, 36, 37] (σ' := [(0, .slice a_l0 l0.length c_l0), (1, .int .i64 wide1), (2, .int .i64 y2), (3, .int .i64 w3), (4, .func (.func 83) #[] #[.pointer (some ⟨B0, 0, none⟩)]), (11, .slice (ad (some a58)) y94.length (na58 / 1)), (12, .int .i64 x62), (13, .slice (ad N73) t71.length (nN73 / 4)), (14, .int .i64 x74), (15, .int .i64 (wr64 (x81 + 1))), (20, .int .i64 x62), (35, .slice (ad N73) t71.length (nN73 / 4)), (36, .int .i64 (t71.length : Int)), (37, .bool true)]) (by kernel_rfl) ?_
                          refine t_end ?_
                          exact ⟨k_, Nat.lt_succ_self _, [(0, .slice a_l0 l0.length c_l0), (1, .int .i64 wide1), (2, .int .i64 y2), (3, .int .i64 w3), (4, .func (.func 83) #[] #[.pointer (some ⟨B0, 0, none⟩)]), (11, .slice (ad (some a58)) y94.length (na58 / 1)), (12, .int .i64 x62), (13, .slice (ad N73) t71.length (nN73 / 4)), (14, .int .i64 x74), (15, .int .i64 (wr64 (x81 + 1))), (20, .int .i64 x62), (35, .slice (ad N73) t71.length (nN73 / 4)), (36, .int .i64 (t71.length : Int)), (37, .bool true)], ([⟨N73, encL E_i644 t71, nN73⟩, ⟨some a58, encL E_u64 y94, na58⟩, ⟨B0, [.int .i64 m0_0], 1⟩] : List Own), S, keep_sub [0, 1, 2, 3, 4, 11, 12, 13, 14, 15, 20, 35, 36, 37] (by kernel_rfl), VS.sel [0, 0, 0] (by kernel_rfl), wr64 (x81 + 1), y94, rfl, rfl, rfl, e79⟩
                        | false =>
                          rw [if_neg (by decide)] at e79
                          refine t_v (.clor (vs := [.slice (ad N73) t71.length (nN73 / 4), .agg #[.int .i64 t84, .int .i64 t85]]) (caps := #[.pointer (some ⟨B0, 0, none⟩)]) (A := ([⟨N73, encL E_i644 t71, nN73⟩, ⟨B0, [.int .i64 m0_0], 1⟩] : List Own)) (F0 := ([⟨some a58, encL E_u64 y82, na58⟩] : List Own)) rfl rfl rfl (by kernel_rfl) (by kernel_rfl) (sel_perm (is := [0, 1]) (by kernel_rfl)) (cal_lendr fun S1_ le1_ hS1_ => (sweep_Fill_1_v1.ok (SlE.ofAd (E := E_i644) (L := t71) hS1_ (by decide)) h88))) ?_
                          refine t_keep [0, 1, 2, 3, 4, 11, 12, 13, 14, 15, 20, 35, 36, 37, 56] (σ' := [(0, .slice a_l0 l0.length c_l0), (1, .int .i64 wide1), (2, .int .i64 y2), (3, .int .i64 w3), (4, .func (.func 83) #[] #[.pointer (some ⟨B0, 0, none⟩)]), (11, .slice (ad (some a58)) y82.length (na58 / 1)), (12, .int .i64 x62), (13, .slice (ad N73) t71.length (nN73 / 4)), (14, .int .i64 x74), (15, .int .i64 x81), (20, .int .i64 x62), (35, .slice (ad N73) t71.length (nN73 / 4)), (36, .int .i64 (t71.length : Int)), (37, .bool true), (56, .bool false)]) (by kernel_rfl) ?_
                          refine t_end ?_
                          show W _ _ _ _ _ _ _
                          refine w_cond rfl (fun c_ => by cases c_) (fun _ => ?_)
                          show W _ _ _ _ _ _ _
                          refine w_skip ?_
                          show W _ _ _ _ _ _ _
                          refine w_reg fun all => ?_
                          refine t_qz 3 [0, 1, 2, 3, 4, 11, 12, 13, 14, 15, 20, 35, 36, 37] (σ' := [(0, .slice a_l0 l0.length c_l0), (1, .int .i64 wide1), (2, .int .i64 y2), (3, .int .i64 w3), (4, .func (.func 83) #[] #[.pointer (some ⟨B0, 0, none⟩)]), (11, .slice (ad (some a58)) y82.length (na58 / 1)), (12, .int .i64 x62), (13, .slice (ad N73) t71.length (nN73 / 4)), (14, .int .i64 x74), (15, .int .i64 (wr64 (x81 + 1))), (20, .int .i64 x62), (35, .slice (ad N73) t71.length (nN73 / 4)), (36, .int .i64 (t71.length : Int)), (37, .bool true)]) (by kernel_rfl) ?_
                          refine t_end ?_
                          exact ⟨k_, Nat.lt_succ_self _, [(0, .slice a_l0 l0.length c_l0), (1, .int .i64 wide1), (2, .int .i64 y2), (3, .int .i64 w3), (4, .func (.func 83) #[] #[.pointer (some ⟨B0, 0, none⟩)]), (11, .slice (ad (some a58)) y82.length (na58 / 1)), (12, .int .i64 x62), (13, .slice (ad N73) t71.length (nN73 / 4)), (14, .int .i64 x74), (15, .int .i64 (wr64 (x81 + 1))), (20, .int .i64 x62), (35, .slice (ad N73) t71.length (nN73 / 4)), (36, .int .i64 (t71.length : Int)), (37, .bool true)], ([⟨N73, encL E_i644 t71, nN73⟩, ⟨some a58, encL E_u64 y82, na58⟩, ⟨B0, [.int .i64 m0_0], 1⟩] : List Own), S, keep_sub [0, 1, 2, 3, 4, 11, 12, 13, 14, 15, 20, 35, 36, 37] (by kernel_rfl), VS.sel [0, 0, 0] (by kernel_rfl), wr64 (x81 + 1), y82, rfl, rfl, rfl, e79⟩
                      · rw [if_neg c83] at e79
                        have c83b : (decide (x81 < (wr64 ((wr64 (x62 + 1)) * 8)))) = false := decide_eq_false c83
                        refine t_qz 4 [0, 1, 2, 3, 4, 11, 12, 13, 14, 15, 20, 35, 36, 37, 43, 46] (σ' := [(0, .slice a_l0 l0.length c_l0), (1, .int .i64 wide1), (2, .int .i64 y2), (3, .int .i64 w3), (4, .func (.func 83) #[] #[.pointer (some ⟨B0, 0, none⟩)]), (11, .slice (ad (some a58)) y82.length (na58 / 1)), (12, .int .i64 x62), (13, .slice (ad N73) t71.length (nN73 / 4)), (14, .int .i64 x74), (15, .int .i64 x81), (20, .int .i64 x62), (35, .slice (ad N73) t71.length (nN73 / 4)), (36, .int .i64 (t71.length : Int)), (37, .bool true), (43, .int .i64 x81), (46, .int .i64 (wr64 ((wr64 (x62 + 1)) * 8)))]) (by kernel_rfl) ?_
                        refine t_v (dv_quiet rfl (congrArg (fun t => some (Value.bool t)) c83b)) ?_
                        refine t_keep [0, 1, 2, 3, 4, 11, 12, 13, 14, 15, 20, 35, 36, 37, 47] (σ' := [(0, .slice a_l0 l0.length c_l0), (1, .int .i64 wide1), (2, .int .i64 y2), (3, .int .i64 w3), (4, .func (.func 83) #[] #[.pointer (some ⟨B0, 0, none⟩)]), (11, .slice (ad (some a58)) y82.length (na58 / 1)), (12, .int .i64 x62), (13, .slice (ad N73) t71.length (nN73 / 4)), (14, .int .i64 x74), (15, .int .i64 x81), (20, .int .i64 x62), (35, .slice (ad N73) t71.length (nN73 / 4)), (36, .int .i64 (t71.length : Int)), (37, .bool true), (47, .bool false)]) (by kernel_rfl) ?_
                        refine t_end ?_
                        show W _ _ _ _ _ _ _
                        refine w_cond rfl (fun c_ => by cases c_) (fun _ => ?_)
                        show W _ _ _ _ _ _ _
                        refine w_exit ?_
                        simp only [Option.some.injEq, Prod.mk.injEq] at e79
                        obtain ⟨rfl, rfl⟩ := e79
                        exact ⟨([⟨B0, [.int .i64 m0_0], 1⟩, ⟨some a58, encL E_u64 y82, na58⟩, ⟨N73, encL E_i644 t71, nN73⟩] : List Own), S, VS.sel [2, 1, 0] (by kernel_rfl), by kernel_rfl, rfl, rfl⟩
                  · rintro σ_ H_ S_ ⟨rfl, rfl, rfl⟩
                    refine w_reg fun all => ?_
                    refine t_qz 3 [0, 1, 2, 3, 4, 11, 12, 13, 14, 20, 35, 36, 37] (σ' := [(0, .slice a_l0 l0.length c_l0), (1, .int .i64 wide1), (2, .int .i64 y2), (3, .int .i64 w3), (4, .func (.func 83) #[] #[.pointer (some ⟨B0, 0, none⟩)]), (11, .slice (ad (some a58)) y100.length (na58 / 1)), (12, .int .i64 x62), (13, .slice (ad N73) t71.length (nN73 / 4)), (14, .int .i64 (wr64 (x74 + 1))), (20, .int .i64 x62), (35, .slice (ad N73) t71.length (nN73 / 4)), (36, .int .i64 (t71.length : Int)), (37, .bool x101)]) (by kernel_rfl) ?_
                    refine t_end ?_
                    exact ⟨k_, Nat.lt_succ_self _, [(0, .slice a_l0 l0.length c_l0), (1, .int .i64 wide1), (2, .int .i64 y2), (3, .int .i64 w3), (4, .func (.func 83) #[] #[.pointer (some ⟨B0, 0, none⟩)]), (11, .slice (ad (some a58)) y100.length (na58 / 1)), (12, .int .i64 x62), (13, .slice (ad N73) t71.length (nN73 / 4)), (14, .int .i64 (wr64 (x74 + 1))), (20, .int .i64 x62)], ([⟨N73, encL E_i644 t71, nN73⟩, ⟨some a58, encL E_u64 y100, na58⟩, ⟨B0, [.int .i64 m0_0], 1⟩] : List Own), S, keep_sub [0, 1, 2, 3, 4, 11, 12, 13, 14, 20] (by kernel_rfl), VS.sel [2, 1, 0] (by kernel_rfl), wr64 (x74 + 1), y100, rfl, rfl, rfl, e66⟩
                · rw [if_neg c77] at e66
                  have c77b : (decide ((t71.length : Int) > 0)) = false := decide_eq_false c77
                  refine t_qz 3 [0, 1, 2, 3, 4, 11, 12, 13, 14, 20, 34, 35, 36] (σ' := [(0, .slice a_l0 l0.length c_l0), (1, .int .i64 wide1), (2, .int .i64 y2), (3, .int .i64 w3), (4, .func (.func 83) #[] #[.pointer (some ⟨B0, 0, none⟩)]), (11, .slice (ad (some a58)) y75.length (na58 / 1)), (12, .int .i64 x62), (13, .slice (ad N73) t71.length (nN73 / 4)), (14, .int .i64 x74), (20, .int .i64 x62), (34, .bool true), (35, .slice (ad N73) t71.length (nN73 / 4)), (36, .int .i64 (t71.length : Int))]) (by kernel_rfl) ?_
                  refine t_v (dv_quiet rfl (congrArg (fun t => some (Value.bool t)) c77b)) ?_
                  refine t_qz 1 [0, 1, 2, 3, 4, 11, 12, 13, 14, 20, 35, 36, 37, 38] (σ' := [(0, .slice a_l0 l0.length c_l0), (1, .int .i64 wide1), (2, .int .i64 y2), (3, .int .i64 w3), (4, .func (.func 83) #[] #[.pointer (some ⟨B0, 0, none⟩)]), (11, .slice (ad (some a58)) y75.length (na58 / 1)), (12, .int .i64 x62), (13, .slice (ad N73) t71.length (nN73 / 4)), (14, .int .i64 x74), (20, .int .i64 x62), (35, .slice (ad N73) t71.length (nN73 / 4)), (36, .int .i64 (t71.length : Int)), (37, .bool false), (38, .bool false)]) (by kernel_rfl) ?_
                  refine t_end ?_
                  show W _ _ _ _ _ _ _
                  refine w_cond rfl (fun c_ => by cases c_) (fun _ => ?_)
                  show W _ _ _ _ _ _ _
                  refine w_exit ?_
                  obtain rfl := Option.some.inj e66
                  exact ⟨([⟨B0, [.int .i64 m0_0], 1⟩, ⟨some a58, encL E_u64 y75, na58⟩] : List Own), S, VS.sel [2, 1] (by kernel_rfl), by kernel_rfl, rfl, rfl⟩
              · rw [if_neg c76] at e66
                have c76b : (decide (x74 < w3)) = false := decide_eq_false c76
                refine t_qz 2 [0, 1, 2, 3, 4, 11, 12, 13, 14, 20, 31, 32] (σ' := [(0, .slice a_l0 l0.length c_l0), (1, .int .i64 wide1), (2, .int .i64 y2), (3, .int .i64 w3), (4, .func (.func 83) #[] #[.pointer (some ⟨B0, 0, none⟩)]), (11, .slice (ad (some a58)) y75.length (na58 / 1)), (12, .int .i64 x62), (13, .slice (ad N73) t71.length (nN73 / 4)), (14, .int .i64 x74), (20, .int .i64 x62), (31, .int .i64 x74), (32, .int .i64 w3)]) (by kernel_rfl) ?_
                refine t_v (dv_quiet rfl (congrArg (fun t => some (Value.bool t)) c76b)) ?_
                refine t_qz 5 [0, 1, 2, 3, 4, 11, 12, 13, 14, 20, 35, 36, 37, 38] (σ' := [(0, .slice a_l0 l0.length c_l0), (1, .int .i64 wide1), (2, .int .i64 y2), (3, .int .i64 w3), (4, .func (.func 83) #[] #[.pointer (some ⟨B0, 0, none⟩)]), (11, .slice (ad (some a58)) y75.length (na58 / 1)), (12, .int .i64 x62), (13, .slice (ad N73) t71.length (nN73 / 4)), (14, .int .i64 x74), (20, .int .i64 x62), (35, .tuple #[]), (36, .tuple #[]), (37, .tuple #[]), (38, .bool false)]) (by kernel_rfl) ?_
                refine t_end ?_
                show W _ _ _ _ _ _ _
                refine w_cond rfl (fun c_ => by cases c_) (fun _ => ?_)
                show W _ _ _ _ _ _ _
                refine w_exit ?_
                obtain rfl := Option.some.inj e66
                exact ⟨([⟨B0, [.int .i64 m0_0], 1⟩, ⟨some a58, encL E_u64 y75, na58⟩] : List Own), S, VS.sel [2, 1] (by kernel_rfl), by kernel_rfl, rfl, rfl⟩
          · rintro σ_ H_ S_ ⟨rfl, rfl, rfl⟩
            refine w_reg fun all => ?_
            refine t_qz 2 [0, 1, 2, 3, 4, 11, 20] (σ' := [(0, .slice a_l0 l0.length c_l0), (1, .int .i64 wide1), (2, .int .i64 y2), (3, .int .i64 w3), (4, .func (.func 83) #[] #[.pointer (some ⟨B0, 0, none⟩)]), (11, .slice (ad (some a58)) y104.length (na58 / 1)), (20, .int .i64 (wr64 (x62 + 1)))]) (by kernel_rfl) ?_
            refine t_end ?_
            exact ⟨k_, Nat.lt_succ_self _, [(0, .slice a_l0 l0.length c_l0), (1, .int .i64 wide1), (2, .int .i64 y2), (3, .int .i64 w3), (4, .func (.func 83) #[] #[.pointer (some ⟨B0, 0, none⟩)]), (11, .slice (ad (some a58)) y104.length (na58 / 1)), (20, .int .i64 (wr64 (x62 + 1)))], ([⟨some a58, encL E_u64 y104, na58⟩, ⟨B0, [.int .i64 m0_0], 1⟩] : List Own), S, keep_sub [0, 1, 2, 3, 4, 11, 20] (by kernel_rfl), VS.sel [1, 0] (by kernel_rfl), wr64 (x62 + 1), y104, rfl, rfl, rfl, e60⟩
        · rw [if_neg c64] at e60
          have c64b : (decide (x62 < 8)) = false := decide_eq_false c64
          refine t_v (dv_quiet rfl (congrArg (fun t => some (Value.bool t)) c64b)) ?_
          refine t_keep [0, 1, 2, 3, 4, 11, 20, 21] (σ' := [(0, .slice a_l0 l0.length c_l0), (1, .int .i64 wide1), (2, .int .i64 y2), (3, .int .i64 w3), (4, .func (.func 83) #[] #[.pointer (some ⟨B0, 0, none⟩)]), (11, .slice (ad (some a58)) y63.length (na58 / 1)), (20, .int .i64 x62), (21, .bool false)]) (by kernel_rfl) ?_
          refine t_end ?_
          show W _ _ _ _ _ _ _
          refine w_seq ?_
          refine w_cond rfl (fun c_ => by cases c_) (fun _ => ?_)
          show W _ _ _ _ _ _ _
          refine w_exit ?_
          obtain rfl := Option.some.inj e60
          exact ⟨([⟨B0, [.int .i64 m0_0], 1⟩, ⟨some a58, encL E_u64 y63, na58⟩] : List Own), S, VS.sel [1, 0] (by kernel_rfl), by kernel_rfl, rfl, rfl⟩
    · rintro σ_ H_ S_ ⟨rfl, rfl, rfl⟩
      refine w_seq ?_
      refine w_reg fun all => ?_
      refine t_qz 2 [10] (σ' := [(10, .slice (ad (some a58)) y107.length (na58 / 1))]) (by kernel_rfl) ?_
      refine t_end ?_
      show W _ _ _ _ _ _ _
      refine w_ret ?_
      obtain rfl := Option.some.inj e
      exact ⟨[.slice (ad (some a58)) y107.length (na58 / 1)], ([⟨some a58, encL E_u64 y107, na58⟩, ⟨B0, [.int .i64 m0_0], 1⟩] : List Own), S, ⟨(show gt _ _ = some _ from (by kernel_rfl)), trivial⟩, VS.sel [1, 0] (by kernel_rfl), some a58, na58, rfl, rfl, rfl⟩

/-- sweep.Fill -/
def c41 : C :=
  (.seq (.reg [⟨(some 5), .box (.tmp 1), none⟩,
     ⟨(some 8), .mv (.const (.slice none 0 0)), none⟩])
  (.seq (.reg [⟨(some 9), .mv (.tmp 0), none⟩,
     ⟨(some 10), .mv (.tmp 2), none⟩,
     ⟨(some 11), .mv (.tmp 3), none⟩,
     ⟨(some 12), .mkf 83 [(.tmp 5)], none⟩,
     ⟨(some 13), .call 82 [(.tmp 9), (.const (.int .i64 0)), (.tmp 10), (.tmp 11), (.tmp 12)], none⟩,
     ⟨(some 8), .mv (.tmp 13), none⟩])
  .ret))
def sweep_Fill_v1.f (k : Nat) (l0 : List (Int × Int × Int × Int)) (rule1 : Int) (y2 : Int) (w3 : Int) : Option (List (Int)) := (sweep_masks_v1.f k l0 0 y2 w3 rule1).bind fun t108 => (some t108)
theorem sweep_Fill_v1.ok {S : Seal} {k : Nat} {l0 : List (Int × Int × Int × Int)} {rule1 : Int} {y2 : Int} {w3 : Int} {r0_ : List (Int)}{a_l0 : Option Addr} {c_l0 : Nat} (h_l0 : SlE S E_i644 l0 a_l0) (e : sweep_Fill_v1.f k l0 rule1 y2 w3 = some r0_) :
    Cal Try.prog 41 [.slice a_l0 l0.length c_l0, .int .i64 rule1, .int .i64 y2, .int .i64 w3] [] S fun v H' S' => ∃ (N0_ : Option Nat) (nN0_ : Nat) , v = .slice (ad N0_) r0_.length (nN0_ / 1) ∧ H' = ([⟨N0_, encL E_u64 r0_, nN0_⟩] : List Own) ∧ S' = S := by
  unfold sweep_Fill_v1.f at e
  refine cal_of (c := c41) (N := 14) Try.func41 rfl rfl (by kernel_rfl) (rs := [.t 8]) (by kernel_rfl) (Nat.le_of_ble_eq_true rfl) ?_
  unfold c41
  refine w_seq ?_
  refine w_reg fun all => ?_
  refine t_a (.box rfl rfl rfl) fun b1 fb1 sb1 => ?_
  refine t_qz 1 [0, 2, 3, 5] (σ' := [(0, .slice a_l0 l0.length c_l0), (2, .int .i64 y2), (3, .int .i64 w3), (5, .pointer (some ⟨b1, 0, none⟩))]) (by kernel_rfl) ?_
  refine t_end ?_
  show W _ _ _ _ _ _ _
  refine w_seq ?_
  refine w_reg fun all => ?_
  obtain ⟨t108, h109, e⟩ := bind_of e
  refine t_qz 4 [9, 10, 11, 12] (σ' := [(9, .slice a_l0 l0.length c_l0), (10, .int .i64 y2), (11, .int .i64 w3), (12, .func (.func 83) #[] #[.pointer (some ⟨b1, 0, none⟩)])]) (by kernel_rfl) ?_
  refine t_call (vs := [.slice a_l0 l0.length c_l0, .int .i64 0, .int .i64 y2, .int .i64 w3, .func (.func 83) #[] #[.pointer (some ⟨b1, 0, none⟩)]]) (H1 := ([⟨b1, [.int .i64 rule1], 1⟩] : List Own)) (F := ([] : List Own)) rfl rfl (by kernel_rfl) (sel_perm (is := [0]) (by kernel_rfl)) (sweep_masks_v1.ok h_l0 h109) ?_
  rintro _ _ S_ ⟨N110, nN110, rfl, rfl, hS_⟩
  obtain rfl := hS_.symm
  refine t_qz 1 [8] (σ' := [(8, .slice (ad N110) t108.length (nN110 / 1))]) (by kernel_rfl) ?_
  refine t_end ?_
  show W _ _ _ _ _ _ _
  refine w_ret ?_
  obtain rfl := Option.some.inj e
  exact ⟨[.slice (ad N110) t108.length (nN110 / 1)], ([⟨N110, encL E_u64 t108, nN110⟩] : List Own), S, ⟨rfl, trivial⟩, VS.sel [0] (by kernel_rfl), N110, nN110, rfl, rfl, rfl⟩

/-- math/bits.OnesCount64 -/
def c85 : C :=
  (.seq (.reg [⟨(some 2), .mv (.const (.int .i64 0)), none⟩])
  (.seq (.reg [⟨(some 3), .mv (.tmp 0), none⟩,
     ⟨(some 4), .bin .shr (.tmp 3) (.const (.int .u64 1)), none⟩,
     ⟨(some 5), .bin .and (.tmp 4) (.const (.int .u64 6148914691236517205)), none⟩,
     ⟨(some 6), .mv (.tmp 0), none⟩,
     ⟨(some 7), .bin .and (.tmp 6) (.const (.int .u64 6148914691236517205)), none⟩,
     ⟨(some 8), .bin .add (.tmp 5) (.tmp 7), none⟩,
     ⟨(some 0), .mv (.tmp 8), none⟩])
  (.seq (.reg [⟨(some 9), .mv (.tmp 0), none⟩,
     ⟨(some 10), .bin .shr (.tmp 9) (.const (.int .u64 2)), none⟩,
     ⟨(some 11), .bin .and (.tmp 10) (.const (.int .u64 3689348814741910323)), none⟩,
     ⟨(some 12), .mv (.tmp 0), none⟩,
     ⟨(some 13), .bin .and (.tmp 12) (.const (.int .u64 3689348814741910323)), none⟩,
     ⟨(some 14), .bin .add (.tmp 11) (.tmp 13), none⟩,
     ⟨(some 0), .mv (.tmp 14), none⟩])
  (.seq (.reg [⟨(some 15), .mv (.tmp 0), none⟩,
     ⟨(some 16), .bin .shr (.tmp 15) (.const (.int .u64 4)), none⟩,
     ⟨(some 17), .mv (.tmp 0), none⟩,
     ⟨(some 18), .bin .add (.tmp 16) (.tmp 17), none⟩,
     ⟨(some 19), .bin .and (.tmp 18) (.const (.int .u64 1085102592571150095)), none⟩,
     ⟨(some 0), .mv (.tmp 19), none⟩])
  (.seq (.reg [⟨(some 20), .mv (.tmp 0), none⟩,
     ⟨(some 21), .mv (.tmp 0), none⟩,
     ⟨(some 22), .bin .shr (.tmp 21) (.const (.int .u64 8)), none⟩,
     ⟨(some 23), .bin .add (.tmp 20) (.tmp 22), none⟩,
     ⟨(some 0), .mv (.tmp 23), none⟩])
  (.seq (.reg [⟨(some 24), .mv (.tmp 0), none⟩,
     ⟨(some 25), .mv (.tmp 0), none⟩,
     ⟨(some 26), .bin .shr (.tmp 25) (.const (.int .u64 16)), none⟩,
     ⟨(some 27), .bin .add (.tmp 24) (.tmp 26), none⟩,
     ⟨(some 0), .mv (.tmp 27), none⟩])
  (.seq (.reg [⟨(some 28), .mv (.tmp 0), none⟩,
     ⟨(some 29), .mv (.tmp 0), none⟩,
     ⟨(some 30), .bin .shr (.tmp 29) (.const (.int .u64 32)), none⟩,
     ⟨(some 31), .bin .add (.tmp 28) (.tmp 30), none⟩,
     ⟨(some 0), .mv (.tmp 31), none⟩])
  (.seq (.reg [⟨(some 32), .mv (.tmp 0), none⟩,
     ⟨(some 33), .cnv .i64 (.tmp 32), none⟩,
     ⟨(some 34), .bin .and (.tmp 33) (.const (.int .i64 127)), none⟩,
     ⟨(some 2), .mv (.tmp 34), none⟩])
  .ret))))))))
def bits_OnesCount64_v1.f  : Option (Unit) := some ()
theorem bits_OnesCount64_v1.ok {S : Seal}  (e : bits_OnesCount64_v1.f  = some ()) :
    Cal Try.prog 85 [.int .u64 5] [] S fun v H' S' => v = .int .i64 2 ∧ H' = [] ∧ S' = S := by
  unfold bits_OnesCount64_v1.f at e
  refine cal_of (c := c85) (N := 35) Try.func85 rfl rfl (by kernel_rfl) (rs := [.t 2]) (by kernel_rfl) (Nat.le_of_ble_eq_true rfl) ?_
  unfold c85
  refine w_seq ?_
  refine w_reg fun all => ?_
  refine t_qz 1 [0] (σ' := [(0, .int .u64 5)]) (by kernel_rfl) ?_
  refine t_end ?_
  show W _ _ _ _ _ _ _
  refine w_seq ?_
  refine w_reg fun all => ?_
  refine t_qz 7 [0] (σ' := [(0, .int .u64 5)]) (by kernel_rfl) ?_
  refine t_end ?_
  show W _ _ _ _ _ _ _
  refine w_seq ?_
  refine w_reg fun all => ?_
  refine t_qz 7 [0] (σ' := [(0, .int .u64 2)]) (by kernel_rfl) ?_
  refine t_end ?_
  show W _ _ _ _ _ _ _
  refine w_seq ?_
  refine w_reg fun all => ?_
  refine t_qz 6 [0] (σ' := [(0, .int .u64 2)]) (by kernel_rfl) ?_
  refine t_end ?_
  show W _ _ _ _ _ _ _
  refine w_seq ?_
  refine w_reg fun all => ?_
  refine t_qz 5 [0] (σ' := [(0, .int .u64 2)]) (by kernel_rfl) ?_
  refine t_end ?_
  show W _ _ _ _ _ _ _
  refine w_seq ?_
  refine w_reg fun all => ?_
  refine t_qz 5 [0] (σ' := [(0, .int .u64 2)]) (by kernel_rfl) ?_
  refine t_end ?_
  show W _ _ _ _ _ _ _
  refine w_seq ?_
  refine w_reg fun all => ?_
  refine t_qz 5 [0] (σ' := [(0, .int .u64 2)]) (by kernel_rfl) ?_
  refine t_end ?_
  show W _ _ _ _ _ _ _
  refine w_seq ?_
  refine w_reg fun all => ?_
  refine t_qz 4 [2] (σ' := [(2, .int .i64 2)]) (by kernel_rfl) ?_
  refine t_end ?_
  show W _ _ _ _ _ _ _
  refine w_ret ?_
  exact ⟨[.int .i64 2], [], S, ⟨rfl, trivial⟩, VS.none, rfl, rfl, rfl⟩

/-- sweep.Count -/
def c42 : C :=
  (.seq (.reg [⟨(some 2), .mv (.const (.int .i64 0)), none⟩])
  (.seq (.reg [⟨(some 3), .mv (.tmp 0), none⟩,
     ⟨(some 4), .call 85 [(.tmp 3)], none⟩,
     ⟨(some 2), .mv (.tmp 4), none⟩])
  .ret))
def sweep_Count_v1.f  : Option (Unit) := (bits_OnesCount64_v1.f).bind fun _ => (some ())
theorem sweep_Count_v1.ok {S : Seal}  (e : sweep_Count_v1.f  = some ()) :
    Cal Try.prog 42 [.int .u64 5] [] S fun v H' S' => v = .int .i64 2 ∧ H' = [] ∧ S' = S := by
  unfold sweep_Count_v1.f at e
  refine cal_of (c := c42) (N := 5) Try.func42 rfl rfl (by kernel_rfl) (rs := [.t 2]) (by kernel_rfl) (Nat.le_of_ble_eq_true rfl) ?_
  unfold c42
  refine w_seq ?_
  refine w_reg fun all => ?_
  refine t_qz 1 [0] (σ' := [(0, .int .u64 5)]) (by kernel_rfl) ?_
  refine t_end ?_
  show W _ _ _ _ _ _ _
  refine w_seq ?_
  refine w_reg fun all => ?_
  obtain ⟨u_, h121, e⟩ := bind_of e
  refine t_qz 1 [3] (σ' := [(3, .int .u64 5)]) (by kernel_rfl) ?_
  refine t_v (.call (vs := [.int .u64 5]) rfl rfl (by kernel_rfl) (bits_OnesCount64_v1.ok h121)) ?_
  refine t_qz 1 [2] (σ' := [(2, .int .i64 2)]) (by kernel_rfl) ?_
  refine t_end ?_
  show W _ _ _ _ _ _ _
  refine w_ret ?_
  exact ⟨[.int .i64 2], [], S, ⟨rfl, trivial⟩, VS.none, rfl, rfl, rfl⟩

/-- glyphiclaw24.first -/
def c40 : C :=
  (.seq (.reg [⟨(some 0), .mv (.const (.bool false)), none⟩])
  (.seq (.reg [⟨(some 2), .call 41 [(.const (.slice none 0 0)), (.const (.int .i64 0)), (.const (.int .i64 0)), (.const (.int .i64 2))], none⟩,
     ⟨(some 1), .mv (.tmp 2), none⟩])
  (.seq (.reg [⟨(some 3), .mv (.tmp 1), none⟩,
     ⟨(some 4), .lns (.tmp 3), none⟩,
     ⟨(some 5), .bin .eql (.tmp 4) (.const (.int .i64 2)), none⟩,
     ⟨(some 6), .mv (.tmp 5), none⟩,
     ⟨(some 7), .mv (.tmp 1), (some (6, true))⟩,
     ⟨(some 8), .ixs 1 (.tmp 7) (.const (.int .i64 0)), (some (6, true))⟩,
     ⟨(some 9), .ld none (.tmp 8), (some (6, true))⟩,
     ⟨(some 10), .bin .eql (.tmp 9) (.const (.int .u64 0)), (some (6, true))⟩,
     ⟨(some 11), .pk (.tmp 6) (.tmp 10) (.const (.bool false)), none⟩,
     ⟨(some 12), .mv (.tmp 11), none⟩,
     ⟨(some 13), .mv (.tmp 1), (some (12, true))⟩,
     ⟨(some 14), .ixs 1 (.tmp 13) (.const (.int .i64 1)), (some (12, true))⟩,
     ⟨(some 15), .ld none (.tmp 14), (some (12, true))⟩,
     ⟨(some 16), .bin .eql (.tmp 15) (.const (.int .u64 0)), (some (12, true))⟩,
     ⟨(some 17), .pk (.tmp 12) (.tmp 16) (.const (.bool false)), none⟩,
     ⟨(some 18), .mv (.tmp 17), none⟩,
     ⟨(some 19), .call 42 [(.const (.int .u64 5))], (some (18, true))⟩,
     ⟨(some 20), .bin .eql (.tmp 19) (.const (.int .i64 2)), (some (18, true))⟩,
     ⟨(some 21), .pk (.tmp 18) (.tmp 20) (.const (.bool false)), none⟩,
     ⟨(some 0), .mv (.tmp 21), none⟩])
  .ret)))
def glyphiclaw24_first.f (k : Nat)  : Option (Bool) := (sweep_Fill_v1.f k ([] : List (Int × Int × Int × Int)) 0 0 2).bind fun t111 => (if (t111.length : Int) = 2 then ((lgt t111 0).bind fun x115 => (if x115 = 0 then ((lgt t111 1).bind fun x118 => (if x118 = 0 then ((sweep_Count_v1.f).bind fun _ => (some true)) else (some false))) else (some false))) else (some false))
theorem glyphiclaw24_first.ok {S : Seal} {k : Nat}  {r0_ : Bool}(e : glyphiclaw24_first.f k  = some r0_) :
    Cal Try.prog 40 [] [] S fun v H' S' => v = .bool r0_ ∧ H' = [] ∧ S' = S := by
  unfold glyphiclaw24_first.f at e
  refine cal_of (c := c40) (N := 22) Try.func40 rfl rfl (by kernel_rfl) (rs := [.t 0]) (by kernel_rfl) (Nat.le_of_ble_eq_true rfl) ?_
  unfold c40
  refine w_seq ?_
  refine w_reg fun all => ?_
  refine t_qz 1 [] (σ' := []) (by kernel_rfl) ?_
  refine t_end ?_
  show W _ _ _ _ _ _ _
  refine w_seq ?_
  refine w_reg fun all => ?_
  obtain ⟨t111, h112, e⟩ := bind_of e
  refine t_call (vs := [.slice none ([] : List (Int × Int × Int × Int)).length 0, .int .i64 0, .int .i64 0, .int .i64 2]) (H1 := ([] : List Own)) (F := ([] : List Own)) rfl rfl (by kernel_rfl) (sel_perm (is := []) (by kernel_rfl)) (sweep_Fill_v1.ok SlE.nil h112) ?_
  rintro _ _ S_ ⟨N113, nN113, rfl, rfl, hS_⟩
  obtain rfl := hS_.symm
  refine t_qz 1 [1] (σ' := [(1, .slice (ad N113) t111.length (nN113 / 1))]) (by kernel_rfl) ?_
  refine t_end ?_
  show W _ _ _ _ _ _ _
  refine w_seq ?_
  refine w_reg fun all => ?_
  by_cases c114 : (t111.length : Int) = 2
  · rw [if_pos c114] at e
    have c114b : ((t111.length : Int) == 2) = true := beq_iff_eq.mpr c114
    refine t_qz 2 [1, 4] (σ' := [(1, .slice (ad N113) t111.length (nN113 / 1)), (4, .int .i64 (t111.length : Int))]) (by kernel_rfl) ?_
    refine t_v (dv_quiet rfl (congrArg (fun t => some (Value.bool t)) c114b)) ?_
    obtain ⟨x115, hx116, e⟩ := bind_of e
    refine t_qz 2 [1, 6, 7] (σ' := [(1, .slice (ad N113) t111.length (nN113 / 1)), (6, .bool true), (7, .slice (ad N113) t111.length (nN113 / 1))]) (by kernel_rfl) ?_
    refine t_v (.quietH rfl (by intro h_; cases h_) (ixl (E := E_u64) (j := 0) rfl rfl rfl (by decide) rfl hx116)) ?_
    refine t_v (.ld1 rfl rfl rfl (.lst 0 rfl (encL_at (lgt_in hx116).1 rfl))) ?_
    by_cases c117 : x115 = 0
    · rw [if_pos c117] at e
      have c117b : (x115 == 0) = true := beq_iff_eq.mpr c117
      refine t_v (dv_quiet rfl (congrArg (fun t => some (Value.bool t)) c117b)) ?_
      obtain ⟨x118, hx119, e⟩ := bind_of e
      refine t_qz 3 [12, 13] (σ' := [(12, .bool true), (13, .slice (ad N113) t111.length (nN113 / 1))]) (by kernel_rfl) ?_
      refine t_v (.quietH rfl (by intro h_; cases h_) (ixl (E := E_u64) (j := 0) rfl rfl rfl (by decide) rfl hx119)) ?_
      refine t_v (.ld1 rfl rfl rfl (.lst 0 rfl (encL_at (lgt_in hx119).1 rfl))) ?_
      by_cases c120 : x118 = 0
      · rw [if_pos c120] at e
        have c120b : (x118 == 0) = true := beq_iff_eq.mpr c120
        refine t_v (dv_quiet rfl (congrArg (fun t => some (Value.bool t)) c120b)) ?_
        obtain ⟨u_, h122, e⟩ := bind_of e
        refine t_qz 2 [18] (σ' := [(18, .bool true)]) (by kernel_rfl) ?_
        refine t_v (.call (vs := [.int .u64 5]) rfl rfl (by kernel_rfl) (sweep_Count_v1.ok h122)) ?_
        refine t_qz 3 [0] (σ' := [(0, .bool true)]) (by kernel_rfl) ?_
        refine t_end ?_
        show W _ _ _ _ _ _ _
        refine w_ret ?_
        obtain rfl := Option.some.inj e
        exact ⟨[.bool true], [], S, ⟨rfl, trivial⟩, VS.none, rfl, rfl, rfl⟩
      · rw [if_neg c120] at e
        have c120b : (x118 == 0) = false := beq_eq_false_iff_ne.mpr c120
        refine t_v (dv_quiet rfl (congrArg (fun t => some (Value.bool t)) c120b)) ?_
        refine t_qz 6 [0] (σ' := [(0, .bool false)]) (by kernel_rfl) ?_
        refine t_end ?_
        show W _ _ _ _ _ _ _
        refine w_ret ?_
        obtain rfl := Option.some.inj e
        exact ⟨[.bool false], [], S, ⟨rfl, trivial⟩, VS.none, rfl, rfl, rfl⟩
    · rw [if_neg c117] at e
      have c117b : (x115 == 0) = false := beq_eq_false_iff_ne.mpr c117
      refine t_v (dv_quiet rfl (congrArg (fun t => some (Value.bool t)) c117b)) ?_
      refine t_qz 12 [0] (σ' := [(0, .bool false)]) (by kernel_rfl) ?_
      refine t_end ?_
      show W _ _ _ _ _ _ _
      refine w_ret ?_
      obtain rfl := Option.some.inj e
      exact ⟨[.bool false], [], S, ⟨rfl, trivial⟩, VS.none, rfl, rfl, rfl⟩
  · rw [if_neg c114] at e
    have c114b : ((t111.length : Int) == 2) = false := beq_eq_false_iff_ne.mpr c114
    refine t_qz 2 [1, 4] (σ' := [(1, .slice (ad N113) t111.length (nN113 / 1)), (4, .int .i64 (t111.length : Int))]) (by kernel_rfl) ?_
    refine t_v (dv_quiet rfl (congrArg (fun t => some (Value.bool t)) c114b)) ?_
    refine t_qz 17 [0] (σ' := [(0, .bool false)]) (by kernel_rfl) ?_
    refine t_end ?_
    show W _ _ _ _ _ _ _
    refine w_ret ?_
    obtain rfl := Option.some.inj e
    exact ⟨[.bool false], [], S, ⟨rfl, trivial⟩, VS.none, rfl, rfl, rfl⟩

/-- glyphicworld.Number -/
def c44 : C :=
  (.seq (.reg [⟨(some 4), .mv (.const (.int .i64 0)), none⟩])
  (.seq (.reg [⟨(some 6), .mv (.tmp 0), none⟩,
     ⟨(some 7), .mv (.tmp 1), none⟩,
     ⟨(some 8), .bin .rem (.tmp 6) (.tmp 7), none⟩,
     ⟨(some 5), .mv (.tmp 8), none⟩])
  (.seq (.seq (.reg [⟨(some 9), .mv (.tmp 5), none⟩,
      ⟨(some 10), .bin .lss (.tmp 9) (.const (.int .i64 0)), none⟩])
   (.cond (.tmp 10)
    (.reg [⟨(some 11), .mv (.tmp 5), none⟩,
       ⟨(some 12), .mv (.tmp 1), none⟩,
       ⟨(some 13), .bin .add (.tmp 11) (.tmp 12), none⟩,
       ⟨(some 5), .mv (.tmp 13), none⟩])
    .skip))
  (.seq (.reg [⟨(some 14), .mv (.tmp 5), none⟩,
     ⟨(some 4), .mv (.tmp 14), none⟩])
  .ret))))
def glyphicworld_Number.f (n0 : Int) (below1 : Int) : Option (Int) := if below1 = 0 then none else (if (Int.tmod n0 below1) < 0 then (some (wr64 ((Int.tmod n0 below1) + below1))) else (some (Int.tmod n0 below1)))
theorem glyphicworld_Number.ok {S : Seal} {n0 : Int} {below1 : Int} {r0_ : Int}(e : glyphicworld_Number.f n0 below1 = some r0_) :
    Cal Try.prog 44 [.int .i64 n0, .int .i64 below1] [] S fun v H' S' => v = .int .i64 r0_ ∧ H' = [] ∧ S' = S := by
  unfold glyphicworld_Number.f at e
  refine cal_of (c := c44) (N := 15) Try.func44 rfl rfl (by kernel_rfl) (rs := [.t 4]) (by kernel_rfl) (Nat.le_of_ble_eq_true rfl) ?_
  unfold c44
  refine w_seq ?_
  refine w_reg fun all => ?_
  refine t_qz 1 [0, 1] (σ' := [(0, .int .i64 n0), (1, .int .i64 below1)]) (by kernel_rfl) ?_
  refine t_end ?_
  show W _ _ _ _ _ _ _
  refine w_seq ?_
  refine w_reg fun all => ?_
  have c143 : ¬ below1 = 0 := by
    intro h_; rw [if_pos h_] at e; cases e
  rw [if_neg c143] at e
  refine t_qz 2 [1, 6, 7] (σ' := [(1, .int .i64 below1), (6, .int .i64 n0), (7, .int .i64 below1)]) (by kernel_rfl) ?_
  refine t_v (.quiet rfl (qv_rem rfl rfl c143)) ?_
  refine t_qz 1 [1, 5] (σ' := [(1, .int .i64 below1), (5, .int .i64 (Int.tmod n0 below1))]) (by kernel_rfl) ?_
  refine t_end ?_
  show W _ _ _ _ _ _ _
  refine w_seq ?_
  refine w_seq ?_
  refine w_reg fun all => ?_
  by_cases c144 : (Int.tmod n0 below1) < 0
  · rw [if_pos c144] at e
    have c144b : (decide ((Int.tmod n0 below1) < 0)) = true := decide_eq_true c144
    refine t_qz 1 [1, 5, 9] (σ' := [(1, .int .i64 below1), (5, .int .i64 (Int.tmod n0 below1)), (9, .int .i64 (Int.tmod n0 below1))]) (by kernel_rfl) ?_
    refine t_v (dv_quiet rfl (congrArg (fun t => some (Value.bool t)) c144b)) ?_
    refine t_keep [1, 5, 10] (σ' := [(1, .int .i64 below1), (5, .int .i64 (Int.tmod n0 below1)), (10, .bool true)]) (by kernel_rfl) ?_
    refine t_end ?_
    show W _ _ _ _ _ _ _
    refine w_cond rfl (fun _ => ?_) (fun c_ => by cases c_)
    show W _ _ _ _ _ _ _
    refine w_reg fun all => ?_
    refine t_qz 4 [5] (σ' := [(5, .int .i64 (wr64 ((Int.tmod n0 below1) + below1)))]) (by kernel_rfl) ?_
    refine t_end ?_
    show W _ _ _ _ _ _ _
    refine w_seq ?_
    refine w_reg fun all => ?_
    refine t_qz 2 [4] (σ' := [(4, .int .i64 (wr64 ((Int.tmod n0 below1) + below1)))]) (by kernel_rfl) ?_
    refine t_end ?_
    show W _ _ _ _ _ _ _
    refine w_ret ?_
    obtain rfl := Option.some.inj e
    exact ⟨[.int .i64 (wr64 ((Int.tmod n0 below1) + below1))], [], S, ⟨rfl, trivial⟩, VS.none, rfl, rfl, rfl⟩
  · rw [if_neg c144] at e
    have c144b : (decide ((Int.tmod n0 below1) < 0)) = false := decide_eq_false c144
    refine t_qz 1 [1, 5, 9] (σ' := [(1, .int .i64 below1), (5, .int .i64 (Int.tmod n0 below1)), (9, .int .i64 (Int.tmod n0 below1))]) (by kernel_rfl) ?_
    refine t_v (dv_quiet rfl (congrArg (fun t => some (Value.bool t)) c144b)) ?_
    refine t_keep [1, 5, 10] (σ' := [(1, .int .i64 below1), (5, .int .i64 (Int.tmod n0 below1)), (10, .bool false)]) (by kernel_rfl) ?_
    refine t_end ?_
    show W _ _ _ _ _ _ _
    refine w_cond rfl (fun c_ => by cases c_) (fun _ => ?_)
    show W _ _ _ _ _ _ _
    refine w_skip ?_
    show W _ _ _ _ _ _ _
    refine w_seq ?_
    refine w_reg fun all => ?_
    refine t_qz 2 [4] (σ' := [(4, .int .i64 (Int.tmod n0 below1))]) (by kernel_rfl) ?_
    refine t_end ?_
    show W _ _ _ _ _ _ _
    refine w_ret ?_
    obtain rfl := Option.some.inj e
    exact ⟨[.int .i64 (Int.tmod n0 below1)], [], S, ⟨rfl, trivial⟩, VS.none, rfl, rfl, rfl⟩

/-- (*glyphicmake.Seq).Next -/
def c37 : C :=
  (.seq (.reg [⟨(some 4), .mv (.const (.int .i64 0)), none⟩])
  (.seq (.reg [⟨(some 5), .mv (.const (.int .i64 0)), none⟩])
  (.seq (.seq (.drw [⟨(some 6), .mv (.tmp 0), none⟩,
      ⟨(some 7), .nck (.tmp 6), none⟩,
      ⟨(some 8), .pad 1 (.tmp 7), none⟩,
      ⟨(some 9), .ld none (.tmp 8), none⟩,
      ⟨(some 10), .mv (.tmp 0), none⟩,
      ⟨(some 11), .nck (.tmp 10), none⟩,
      ⟨(some 12), .pad 0 (.tmp 11), none⟩,
      ⟨(some 13), .ld none (.tmp 12), none⟩,
      ⟨(some 14), .lns (.tmp 13), none⟩,
      ⟨(some 15), .bin .lss (.tmp 9) (.tmp 14), none⟩] [[], [0], [1], [2], [], [4], [5], [6], [7], [3, 8]])
   (.cond (.tmp 15)
    (.drw [⟨(some 16), .mv (.tmp 0), none⟩,
       ⟨(some 17), .nck (.tmp 16), none⟩,
       ⟨(some 18), .pad 0 (.tmp 17), none⟩,
       ⟨(some 19), .ld none (.tmp 18), none⟩,
       ⟨(some 20), .mv (.tmp 0), none⟩,
       ⟨(some 21), .nck (.tmp 20), none⟩,
       ⟨(some 22), .pad 1 (.tmp 21), none⟩,
       ⟨(some 23), .ld none (.tmp 22), none⟩,
       ⟨(some 24), .ixs 1 (.tmp 19) (.tmp 23), none⟩,
       ⟨(some 25), .ld none (.tmp 24), none⟩,
       ⟨(some 5), .mv (.tmp 25), none⟩] [[], [0], [1], [2], [], [4], [5], [6], [3, 7], [8], [9, 0, 1, 2, 3, 4, 5, 6, 7, 8, 9]])
    .skip))
  (.seq (.reg [⟨(some 26), .mv (.tmp 0), none⟩,
     ⟨(some 27), .mv (.tmp 0), none⟩,
     ⟨(some 28), .nck (.tmp 27), none⟩,
     ⟨(some 29), .pad 1 (.tmp 28), none⟩,
     ⟨(some 30), .ld none (.tmp 29), none⟩,
     ⟨(some 31), .bin .add (.tmp 30) (.const (.int .i64 1)), none⟩,
     ⟨(some 32), .nck (.tmp 26), none⟩,
     ⟨(some 33), .pad 1 (.tmp 32), none⟩,
     ⟨none, .st 1 (.tmp 33) (.tmp 31), none⟩])
  (.seq (.reg [⟨(some 34), .mv (.tmp 5), none⟩,
     ⟨(some 35), .mv (.tmp 1), none⟩,
     ⟨(some 36), .call 44 [(.tmp 34), (.tmp 35)], none⟩,
     ⟨(some 4), .mv (.tmp 36), none⟩])
  .ret)))))
def glyphicmake_Seq_Next_v1.f (below1 : Int) (m0_0 : List (Int)) (m0_1 : Int) : Option (Int × Int) := (if m0_1 < (m0_0.length : Int) then ((lgt m0_0 m0_1).bind fun x151 => (some x151)) else (some 0) : Option (Int)).bind fun x161 => ((glyphicworld_Number.f x161 below1).bind fun t162 => (some (t162, wr64 (m0_1 + 1))))
theorem glyphicmake_Seq_Next_v1.ok {S : Seal} {B0 : Nat} {below1 : Int} {m0_0 : List (Int)} {m0_1 : Int} {r0_ : Int} {r1_ : Int}{a_m0_0 : Option Addr} {c_m0_0 : Nat} (h_m0_0 : SlE S E_i64 m0_0 a_m0_0) (e : glyphicmake_Seq_Next_v1.f below1 m0_0 m0_1 = some (r0_, r1_)) :
    Cal Try.prog 37 [.pointer (some ⟨B0, 0, none⟩), .int .i64 below1] ([⟨B0, [.slice a_m0_0 m0_0.length c_m0_0, .int .i64 m0_1], 2⟩] : List Own) S fun v H' S' => v = .int .i64 r0_ ∧ H' = ([⟨B0, [.slice a_m0_0 m0_0.length c_m0_0, .int .i64 r1_], 2⟩] : List Own) ∧ S' = S := by
  unfold glyphicmake_Seq_Next_v1.f at e
  refine cal_of (c := c37) (N := 37) Try.func37 rfl rfl (by kernel_rfl) (rs := [.t 4]) (by kernel_rfl) (Nat.le_of_ble_eq_true rfl) ?_
  unfold c37
  refine w_seq ?_
  refine w_reg fun all => ?_
  refine t_qz 1 [0, 1] (σ' := [(0, .pointer (some ⟨B0, 0, none⟩)), (1, .int .i64 below1)]) (by kernel_rfl) ?_
  refine t_end ?_
  show W _ _ _ _ _ _ _
  refine w_seq ?_
  refine w_reg fun all => ?_
  refine t_qz 1 [0, 1, 5] (σ' := [(0, .pointer (some ⟨B0, 0, none⟩)), (1, .int .i64 below1), (5, .int .i64 0)]) (by kernel_rfl) ?_
  refine t_end ?_
  show W _ _ _ _ _ _ _
  obtain ⟨x161, e148, e⟩ := bind_of e
  refine w_cut [0, 1, 5] (fun σ_ H_ S_ => [(0, .pointer (some ⟨B0, 0, none⟩)), (1, .int .i64 below1), (5, .int .i64 x161)] = σ_ ∧ ([⟨B0, [.slice a_m0_0 m0_0.length c_m0_0, .int .i64 m0_1], 2⟩] : List Own) = H_ ∧ S = S_) ?_ ?_
  · show W _ _ _ _ _ _ _
    refine w_seq ?_
    by_cases c150 : m0_1 < (m0_0.length : Int)
    · rw [if_pos c150] at e148
      have c150b : (decide (m0_1 < (m0_0.length : Int))) = true := decide_eq_true c150
      refine w_drwE mixed 10 [.v (.pointer (some ⟨B0, 0, none⟩)), .v (.pointer (some ⟨B0, 0, none⟩)), .v (.pointer (some ⟨B0, 1, none⟩)), .v (.int .i64 m0_1), .v (.pointer (some ⟨B0, 0, none⟩)), .v (.pointer (some ⟨B0, 0, none⟩)), .v (.pointer (some ⟨B0, 0, none⟩)), .v (.slice a_m0_0 m0_0.length c_m0_0), .v (.int .i64 (m0_0.length : Int)), .v (.bool true)] (by kernel_rfl) ?_ ?_
      · refine DI.sq 3 (by kernel_rfl) rfl ?_
        refine .cons (.ld1 rfl rfl rfl (.at 0 rfl rfl)) ?_
        refine DI.sq 3 (by kernel_rfl) rfl ?_
        refine .cons (.ld1 rfl rfl rfl (.at 0 rfl rfl)) ?_
        refine DI.sq 1 (by kernel_rfl) rfl ?_
        refine .cons (dv_quiet rfl (congrArg (fun t => some (Value.bool t)) c150b)) ?_
        exact .nil
      refine fk_q 10 [0, 1, 5, 15] (σ' := [(0, .pointer (some ⟨B0, 0, none⟩)), (1, .int .i64 below1), (5, .int .i64 0), (15, .bool true)]) t_more (by kernel_rfl) ?_
      refine fk_nil fun all => ?_
      refine t_keep [0, 1, 5, 15] (σ' := [(0, .pointer (some ⟨B0, 0, none⟩)), (1, .int .i64 below1), (5, .int .i64 0), (15, .bool true)]) (by kernel_rfl) ?_
      refine t_end ?_
      show W _ _ _ _ _ _ _
      refine w_cond rfl (fun _ => ?_) (fun c_ => by cases c_)
      show W _ _ _ _ _ _ _
      obtain ⟨x151, hx152, e148⟩ := bind_of e148
      obtain ⟨lb153, lo154, ll155, la156, lS157, lv158, lz159, lu160⟩ := sle_get (E := E_i64) h_m0_0 hx152
      refine w_drwE mixed 11 [.v (.pointer (some ⟨B0, 0, none⟩)), .v (.pointer (some ⟨B0, 0, none⟩)), .v (.pointer (some ⟨B0, 0, none⟩)), .v (.slice a_m0_0 m0_0.length c_m0_0), .v (.pointer (some ⟨B0, 0, none⟩)), .v (.pointer (some ⟨B0, 0, none⟩)), .v (.pointer (some ⟨B0, 1, none⟩)), .v (.int .i64 m0_1), .v (.pointer (some ⟨lb153, lo154 + (m0_1).toNat * 1 + 0, none⟩)), .v (.int .i64 x151), .v (.int .i64 x151)] (by kernel_rfl) ?_ ?_
      · refine DI.sq 3 (by kernel_rfl) rfl ?_
        refine .cons (.ld1 rfl rfl rfl (.at 0 rfl rfl)) ?_
        refine DI.sq 3 (by kernel_rfl) rfl ?_
        refine .cons (.ld1 rfl rfl rfl (.at 0 rfl rfl)) ?_
        refine .cons (.quiet rfl (ixs_sle rfl rfl la156 lz159 lu160)) ?_
        refine .cons (.ld1 rfl rfl rfl (.sealed lS157 (subl_at lv158 rfl))) ?_
        refine DI.sq 1 (by kernel_rfl) rfl ?_
        exact .nil
      refine fk_q 11 [0, 1, 5] (σ' := [(0, .pointer (some ⟨B0, 0, none⟩)), (1, .int .i64 below1), (5, .int .i64 x151)]) t_more (by kernel_rfl) ?_
      refine fk_nil fun all => ?_
      refine t_keep [0, 1, 5] (σ' := [(0, .pointer (some ⟨B0, 0, none⟩)), (1, .int .i64 below1), (5, .int .i64 x151)]) (by kernel_rfl) ?_
      refine t_end ?_
      obtain rfl := Option.some.inj e148
      exact ⟨([⟨B0, [.slice a_m0_0 m0_0.length c_m0_0, .int .i64 m0_1], 2⟩] : List Own), S, VS.sel [0] (by kernel_rfl), by kernel_rfl, rfl, rfl⟩
    · rw [if_neg c150] at e148
      have c150b : (decide (m0_1 < (m0_0.length : Int))) = false := decide_eq_false c150
      refine w_drwE mixed 10 [.v (.pointer (some ⟨B0, 0, none⟩)), .v (.pointer (some ⟨B0, 0, none⟩)), .v (.pointer (some ⟨B0, 1, none⟩)), .v (.int .i64 m0_1), .v (.pointer (some ⟨B0, 0, none⟩)), .v (.pointer (some ⟨B0, 0, none⟩)), .v (.pointer (some ⟨B0, 0, none⟩)), .v (.slice a_m0_0 m0_0.length c_m0_0), .v (.int .i64 (m0_0.length : Int)), .v (.bool false)] (by kernel_rfl) ?_ ?_
      · refine DI.sq 3 (by kernel_rfl) rfl ?_
        refine .cons (.ld1 rfl rfl rfl (.at 0 rfl rfl)) ?_
        refine DI.sq 3 (by kernel_rfl) rfl ?_
        refine .cons (.ld1 rfl rfl rfl (.at 0 rfl rfl)) ?_
        refine DI.sq 1 (by kernel_rfl) rfl ?_
        refine .cons (dv_quiet rfl (congrArg (fun t => some (Value.bool t)) c150b)) ?_
        exact .nil
      refine fk_q 10 [0, 1, 5, 15] (σ' := [(0, .pointer (some ⟨B0, 0, none⟩)), (1, .int .i64 below1), (5, .int .i64 0), (15, .bool false)]) t_more (by kernel_rfl) ?_
      refine fk_nil fun all => ?_
      refine t_keep [0, 1, 5, 15] (σ' := [(0, .pointer (some ⟨B0, 0, none⟩)), (1, .int .i64 below1), (5, .int .i64 0), (15, .bool false)]) (by kernel_rfl) ?_
      refine t_end ?_
      show W _ _ _ _ _ _ _
      refine w_cond rfl (fun c_ => by cases c_) (fun _ => ?_)
      show W _ _ _ _ _ _ _
      refine w_skip ?_
      obtain rfl := Option.some.inj e148
      exact ⟨([⟨B0, [.slice a_m0_0 m0_0.length c_m0_0, .int .i64 m0_1], 2⟩] : List Own), S, VS.sel [0] (by kernel_rfl), by kernel_rfl, rfl, rfl⟩
  · rintro σ_ H_ S_ ⟨rfl, rfl, rfl⟩
    refine w_seq ?_
    refine w_reg fun all => ?_
    refine t_qz 4 [1, 5, 26, 29] (σ' := [(1, .int .i64 below1), (5, .int .i64 x161), (26, .pointer (some ⟨B0, 0, none⟩)), (29, .pointer (some ⟨B0, 1, none⟩))]) (by kernel_rfl) ?_
    refine t_v (.ld1 rfl rfl rfl (.at 0 rfl rfl)) ?_
    refine t_qz 3 [1, 5, 31, 33] (σ' := [(1, .int .i64 below1), (5, .int .i64 x161), (31, .int .i64 (wr64 (m0_1 + 1))), (33, .pointer (some ⟨B0, 1, none⟩))]) (by kernel_rfl) ?_
    refine t_sti 0 (cs := [.slice a_m0_0 m0_0.length c_m0_0, .int .i64 (wr64 (m0_1 + 1))]) rfl rfl rfl rfl rfl rfl rfl rfl rfl ?_
    refine t_keep [1, 5] (σ' := [(1, .int .i64 below1), (5, .int .i64 x161)]) (by kernel_rfl) ?_
    refine t_end ?_
    show W _ _ _ _ _ _ _
    refine w_seq ?_
    refine w_reg fun all => ?_
    obtain ⟨t162, h163, e⟩ := bind_of e
    refine t_qz 2 [34, 35] (σ' := [(34, .int .i64 x161), (35, .int .i64 below1)]) (by kernel_rfl) ?_
    refine t_v (.call (vs := [.int .i64 x161, .int .i64 below1]) rfl rfl (by kernel_rfl) (glyphicworld_Number.ok h163)) ?_
    refine t_qz 1 [4] (σ' := [(4, .int .i64 t162)]) (by kernel_rfl) ?_
    refine t_end ?_
    show W _ _ _ _ _ _ _
    refine w_ret ?_
    simp only [Option.some.injEq, Prod.mk.injEq] at e
    obtain ⟨rfl, rfl⟩ := e
    exact ⟨[.int .i64 t162], ([⟨B0, [.slice a_m0_0 m0_0.length c_m0_0, .int .i64 (wr64 (m0_1 + 1))], 2⟩] : List Own), S, ⟨rfl, trivial⟩, VS.sel [0] (by kernel_rfl), rfl, rfl, rfl⟩

/-- glyphicmake.Point -/
def c18 : C :=
  (.seq (.reg [⟨(some 4), .new [(.int .i64 0), (.int .i64 0)], none⟩])
  (.seq (.reg [⟨(some 6), .mv (.tmp 0), none⟩,
     ⟨(some 7), .mv (.tmp 1), none⟩,
     ⟨(some 8), .bin .mul (.const (.int .i64 2)) (.tmp 7), none⟩,
     ⟨(some 9), .bin .add (.tmp 8) (.const (.int .i64 1)), none⟩,
     ⟨(some 10), .call 37 [(.tmp 6), (.tmp 9)], none⟩,
     ⟨(some 11), .mv (.tmp 1), none⟩,
     ⟨(some 12), .bin .sub (.tmp 10) (.tmp 11), none⟩,
     ⟨(some 5), .mv (.tmp 12), none⟩])
  (.seq (.reg [⟨(some 13), .mv (.tmp 5), none⟩,
     ⟨(some 14), .mv (.tmp 0), none⟩,
     ⟨(some 15), .mv (.tmp 1), none⟩,
     ⟨(some 16), .bin .mul (.const (.int .i64 2)) (.tmp 15), none⟩,
     ⟨(some 17), .bin .add (.tmp 16) (.const (.int .i64 1)), none⟩,
     ⟨(some 18), .call 37 [(.tmp 14), (.tmp 17)], none⟩,
     ⟨(some 19), .mv (.tmp 1), none⟩,
     ⟨(some 20), .bin .sub (.tmp 18) (.tmp 19), none⟩,
     ⟨(some 21), .bld [(.int .i64 0), (.int .i64 0)] [(0, 1, (.tmp 13)), (1, 1, (.tmp 20))], none⟩,
     ⟨none, .st 2 (.tmp 4) (.tmp 21), none⟩])
  .ret)))
def glyphicmake_Point_v1.f (far1 : Int) (m0_0 : List (Int)) (m0_1 : Int) : Option (Int × Int × Int) := (glyphicmake_Seq_Next_v1.f (wr64 ((wr64 (2 * far1)) + 1)) m0_0 m0_1).bind fun (t175, t176) => ((glyphicmake_Seq_Next_v1.f (wr64 ((wr64 (2 * far1)) + 1)) m0_0 t176).bind fun (t178, t179) => (some (wr64 (t175 - far1), wr64 (t178 - far1), t179)))
theorem glyphicmake_Point_v1.ok {S : Seal} {B0 : Nat} {far1 : Int} {m0_0 : List (Int)} {m0_1 : Int} {r0_ : Int} {r1_ : Int} {r2_ : Int}{a_m0_0 : Option Addr} {c_m0_0 : Nat} (h_m0_0 : SlE S E_i64 m0_0 a_m0_0) (e : glyphicmake_Point_v1.f far1 m0_0 m0_1 = some (r0_, r1_, r2_)) :
    Cal Try.prog 18 [.pointer (some ⟨B0, 0, none⟩), .int .i64 far1] ([⟨B0, [.slice a_m0_0 m0_0.length c_m0_0, .int .i64 m0_1], 2⟩] : List Own) S fun v H' S' => v = .agg #[.int .i64 r0_, .int .i64 r1_] ∧ H' = ([⟨B0, [.slice a_m0_0 m0_0.length c_m0_0, .int .i64 r2_], 2⟩] : List Own) ∧ S' = S := by
  unfold glyphicmake_Point_v1.f at e
  refine cal_of (c := c18) (N := 22) Try.func18 rfl rfl (by kernel_rfl) (rs := [.cn 2 4]) (by kernel_rfl) (Nat.le_of_ble_eq_true rfl) ?_
  unfold c18
  refine w_seq ?_
  refine w_reg fun all => ?_
  refine t_a (.new rfl rfl) fun b174 fb174 sb174 => ?_
  refine t_keep [0, 1, 4] (σ' := [(0, .pointer (some ⟨B0, 0, none⟩)), (1, .int .i64 far1), (4, .pointer (some ⟨b174, 0, none⟩))]) (by kernel_rfl) ?_
  refine t_end ?_
  show W _ _ _ _ _ _ _
  refine w_seq ?_
  refine w_reg fun all => ?_
  obtain ⟨⟨t175, t176⟩, h177, e⟩ := bind_of e
  try dsimp only at e
  refine t_qz 4 [0, 1, 4, 6, 9] (σ' := [(0, .pointer (some ⟨B0, 0, none⟩)), (1, .int .i64 far1), (4, .pointer (some ⟨b174, 0, none⟩)), (6, .pointer (some ⟨B0, 0, none⟩)), (9, .int .i64 (wr64 ((wr64 (2 * far1)) + 1)))]) (by kernel_rfl) ?_
  refine t_call (vs := [.pointer (some ⟨B0, 0, none⟩), .int .i64 (wr64 ((wr64 (2 * far1)) + 1))]) (H1 := ([⟨B0, [.slice a_m0_0 m0_0.length c_m0_0, .int .i64 m0_1], 2⟩] : List Own)) (F := ([⟨b174, [.int .i64 0, .int .i64 0], 2⟩] : List Own)) rfl rfl (by kernel_rfl) (sel_perm (is := [1]) (by kernel_rfl)) (glyphicmake_Seq_Next_v1.ok h_m0_0 h177) ?_
  rintro _ _ S_ ⟨rfl, rfl, hS_⟩
  obtain rfl := hS_.symm
  refine t_qz 3 [0, 1, 4, 5] (σ' := [(0, .pointer (some ⟨B0, 0, none⟩)), (1, .int .i64 far1), (4, .pointer (some ⟨b174, 0, none⟩)), (5, .int .i64 (wr64 (t175 - far1)))]) (by kernel_rfl) ?_
  refine t_end ?_
  show W _ _ _ _ _ _ _
  refine w_seq ?_
  refine w_reg fun all => ?_
  obtain ⟨⟨t178, t179⟩, h180, e⟩ := bind_of e
  try dsimp only at e
  refine t_qz 5 [1, 4, 13, 14, 17] (σ' := [(1, .int .i64 far1), (4, .pointer (some ⟨b174, 0, none⟩)), (13, .int .i64 (wr64 (t175 - far1))), (14, .pointer (some ⟨B0, 0, none⟩)), (17, .int .i64 (wr64 ((wr64 (2 * far1)) + 1)))]) (by kernel_rfl) ?_
  refine t_call (vs := [.pointer (some ⟨B0, 0, none⟩), .int .i64 (wr64 ((wr64 (2 * far1)) + 1))]) (H1 := ([⟨B0, [.slice a_m0_0 m0_0.length c_m0_0, .int .i64 t176], 2⟩] : List Own)) (F := ([⟨b174, [.int .i64 0, .int .i64 0], 2⟩] : List Own)) rfl rfl (by kernel_rfl) (sel_perm (is := [0]) (by kernel_rfl)) (glyphicmake_Seq_Next_v1.ok h_m0_0 h180) ?_
  rintro _ _ S_ ⟨rfl, rfl, hS_⟩
  obtain rfl := hS_.symm
  refine t_qz 3 [4, 21] (σ' := [(4, .pointer (some ⟨b174, 0, none⟩)), (21, .agg #[.int .i64 (wr64 (t175 - far1)), .int .i64 (wr64 (t178 - far1))])]) (by kernel_rfl) ?_
  refine t_sti 1 (cs := [.int .i64 (wr64 (t175 - far1)), .int .i64 (wr64 (t178 - far1))]) rfl rfl rfl rfl rfl rfl rfl rfl rfl ?_
  refine t_keep [4] (σ' := [(4, .pointer (some ⟨b174, 0, none⟩))]) (by kernel_rfl) ?_
  refine t_end ?_
  show W _ _ _ _ _ _ _
  refine w_ret ?_
  simp only [Option.some.injEq, Prod.mk.injEq] at e
  obtain ⟨rfl, rfl, rfl⟩ := e
  exact ⟨[.agg #[.int .i64 (wr64 (t175 - far1)), .int .i64 (wr64 (t178 - far1))]], ([⟨B0, [.slice a_m0_0 m0_0.length c_m0_0, .int .i64 t179], 2⟩] : List Own), S, ⟨⟨_, _, _, rfl, .at 1 rfl rfl, rfl⟩, trivial⟩, VS.sel [0] (by kernel_rfl), rfl, rfl, rfl⟩

/-- glyphicmake.Ring -/
def c43 : C :=
  (.seq (.reg [⟨(some 6), .mv (.const (.slice none 0 0)), none⟩])
  (.seq (.reg [⟨(some 13), .mv (.tmp 0), none⟩,
     ⟨(some 14), .mv (.tmp 1), none⟩,
     ⟨(some 15), .call 37 [(.tmp 13), (.tmp 14)], none⟩,
     ⟨(some 16), .bin .add (.const (.int .i64 3)) (.tmp 15), none⟩,
     ⟨(some 7), .mv (.tmp 16), none⟩])
  (.seq (.reg [⟨(some 17), .mv (.tmp 0), none⟩,
     ⟨(some 18), .mv (.tmp 2), none⟩,
     ⟨(some 19), .call 18 [(.tmp 17), (.tmp 18)], none⟩,
     ⟨(some 8), .new [(.int .i64 0), (.int .i64 0)], none⟩,
     ⟨none, .st 2 (.tmp 8) (.tmp 19), none⟩])
  (.seq (.reg [⟨(some 20), .ld (some 2) (.tmp 8), none⟩,
     ⟨(some 9), .new [(.int .i64 0), (.int .i64 0)], none⟩,
     ⟨none, .st 2 (.tmp 9) (.tmp 20), none⟩])
  (.seq (.reg [⟨(some 10), .mv (.const (.slice none 0 0)), none⟩])
  (.seq (.seq (.reg [⟨(some 11), .mv (.const (.int .i64 1)), none⟩])
   (.block 0 (.loop (.seq (.seq (.reg [⟨(some 21), .mv (.tmp 11), none⟩,
         ⟨(some 22), .mv (.tmp 7), none⟩,
         ⟨(some 23), .bin .lss (.tmp 21) (.tmp 22), none⟩])
      (.cond (.tmp 23)
       .skip
       (.exit 0)))
     (.seq (.block 1 (.seq (.reg [⟨(some 26), .mv (.tmp 0), none⟩,
          ⟨(some 27), .mv (.tmp 2), none⟩,
          ⟨(some 28), .call 18 [(.tmp 26), (.tmp 27)], none⟩,
          ⟨(some 12), .new [(.int .i64 0), (.int .i64 0)], none⟩,
          ⟨none, .st 2 (.tmp 12) (.tmp 28), none⟩])
       (.seq (.reg [⟨(some 29), .mv (.tmp 10), none⟩,
          ⟨(some 30), .ld (some 2) (.tmp 9), none⟩,
          ⟨(some 31), .ld (some 2) (.tmp 12), none⟩,
          ⟨(some 32), .bld [(.int .i64 0), (.int .i64 0), (.int .i64 0), (.int .i64 0)] [(0, 2, (.tmp 30)), (2, 2, (.tmp 31))], none⟩,
          ⟨(some 33), .bsl [(.int .i64 0), (.int .i64 0), (.int .i64 0), (.int .i64 0)] 1 [(0, 4, (.tmp 32))], none⟩,
          ⟨(some 34), .app 36 4 32 [(.int .i64 0), (.int .i64 0), (.int .i64 0), (.int .i64 0)] (.tmp 29) (.tmp 33), none⟩,
          ⟨(some 10), .mv (.tmp 34), none⟩])
       (.reg [⟨(some 35), .ld (some 2) (.tmp 12), none⟩,
         ⟨none, .st 2 (.tmp 9) (.tmp 35), none⟩]))))
     (.reg [⟨(some 24), .mv (.tmp 11), none⟩,
       ⟨(some 25), .bin .add (.tmp 24) (.const (.int .i64 1)), none⟩,
       ⟨(some 11), .mv (.tmp 25), none⟩]))))))
  (.seq (.reg [⟨(some 36), .mv (.tmp 10), none⟩,
     ⟨(some 37), .ld (some 2) (.tmp 9), none⟩,
     ⟨(some 38), .ld (some 2) (.tmp 8), none⟩,
     ⟨(some 39), .bld [(.int .i64 0), (.int .i64 0), (.int .i64 0), (.int .i64 0)] [(0, 2, (.tmp 37)), (2, 2, (.tmp 38))], none⟩,
     ⟨(some 40), .bsl [(.int .i64 0), (.int .i64 0), (.int .i64 0), (.int .i64 0)] 1 [(0, 4, (.tmp 39))], none⟩,
     ⟨(some 41), .app 36 4 32 [(.int .i64 0), (.int .i64 0), (.int .i64 0), (.int .i64 0)] (.tmp 36) (.tmp 40), none⟩,
     ⟨(some 6), .mv (.tmp 41), none⟩])
  .ret)))))))
def glyphicmake_Ring_v1.l0 : Nat → Int → List (Int) → Int → Int → List (Int × Int × Int × Int) → Int → Int → Int → Option (List (Int × Int × Int × Int) × Int × Int × Int)
  | 0, _, _, _, _, _, _, _, _ => none
  | k + 1, far2, m0_0, t217, x229, y231, x232, x233, x234 => if x229 < (wr64 (3 + t217)) then ((glyphicmake_Point_v1.f far2 m0_0 x234).bind fun (t236, t237, t238) => ((lapp y231 ([(x232, x233, t236, t237)] : List (Int × Int × Int × Int))).bind fun y242 => (glyphicmake_Ring_v1.l0 k far2 m0_0 t217 (wr64 (x229 + 1)) y242 t236 t237 t238))) else (some (y231, x232, x233, x234))
def glyphicmake_Ring_v1.f (k : Nat) (most1 : Int) (far2 : Int) (m0_0 : List (Int)) (m0_1 : Int) : Option (List (Int × Int × Int × Int) × Int) := (glyphicmake_Seq_Next_v1.f most1 m0_0 m0_1).bind fun (t217, t218) => ((glyphicmake_Point_v1.f far2 m0_0 t218).bind fun (t220, t221, t222) => ((glyphicmake_Ring_v1.l0 k far2 m0_0 t217 1 ([] : List (Int × Int × Int × Int)) t220 t221 t222 : Option (List (Int × Int × Int × Int) × Int × Int × Int)).bind fun (y248, x249, x250, x251) => ((lapp y248 ([(x249, x250, t220, t221)] : List (Int × Int × Int × Int))).bind fun y253 => (some (y253, x251)))))
theorem glyphicmake_Ring_v1.ok {S : Seal} {B0 : Nat} {k : Nat} {most1 : Int} {far2 : Int} {m0_0 : List (Int)} {m0_1 : Int} {r0_ : List (Int × Int × Int × Int)} {r1_ : Int}{a_m0_0 : Option Addr} {c_m0_0 : Nat} (h_m0_0 : SlE S E_i64 m0_0 a_m0_0) (e : glyphicmake_Ring_v1.f k most1 far2 m0_0 m0_1 = some (r0_, r1_)) :
    Cal Try.prog 43 [.pointer (some ⟨B0, 0, none⟩), .int .i64 most1, .int .i64 far2] ([⟨B0, [.slice a_m0_0 m0_0.length c_m0_0, .int .i64 m0_1], 2⟩] : List Own) S fun v H' S' => ∃ (N0_ : Option Nat) (nN0_ : Nat) , v = .slice (ad N0_) r0_.length (nN0_ / 4) ∧ H' = ([⟨N0_, encL E_i644 r0_, nN0_⟩, ⟨B0, [.slice a_m0_0 m0_0.length c_m0_0, .int .i64 r1_], 2⟩] : List Own) ∧ S' = S := by
  unfold glyphicmake_Ring_v1.f at e
  refine cal_of (c := c43) (N := 42) Try.func43 rfl rfl (by kernel_rfl) (rs := [.t 6]) (by kernel_rfl) (Nat.le_of_ble_eq_true rfl) ?_
  unfold c43
  refine w_seq ?_
  refine w_reg fun all => ?_
  refine t_qz 1 [0, 1, 2] (σ' := [(0, .pointer (some ⟨B0, 0, none⟩)), (1, .int .i64 most1), (2, .int .i64 far2)]) (by kernel_rfl) ?_
  refine t_end ?_
  show W _ _ _ _ _ _ _
  refine w_seq ?_
  refine w_reg fun all => ?_
  obtain ⟨⟨t217, t218⟩, h219, e⟩ := bind_of e
  try dsimp only at e
  refine t_qz 2 [0, 2, 13, 14] (σ' := [(0, .pointer (some ⟨B0, 0, none⟩)), (2, .int .i64 far2), (13, .pointer (some ⟨B0, 0, none⟩)), (14, .int .i64 most1)]) (by kernel_rfl) ?_
  refine t_call (vs := [.pointer (some ⟨B0, 0, none⟩), .int .i64 most1]) (H1 := ([⟨B0, [.slice a_m0_0 m0_0.length c_m0_0, .int .i64 m0_1], 2⟩] : List Own)) (F := ([] : List Own)) rfl rfl (by kernel_rfl) (sel_perm (is := [0]) (by kernel_rfl)) (glyphicmake_Seq_Next_v1.ok h_m0_0 h219) ?_
  rintro _ _ S_ ⟨rfl, rfl, hS_⟩
  obtain rfl := hS_.symm
  refine t_qz 2 [0, 2, 7] (σ' := [(0, .pointer (some ⟨B0, 0, none⟩)), (2, .int .i64 far2), (7, .int .i64 (wr64 (3 + t217)))]) (by kernel_rfl) ?_
  refine t_end ?_
  show W _ _ _ _ _ _ _
  refine w_seq ?_
  refine w_reg fun all => ?_
  obtain ⟨⟨t220, t221, t222⟩, h223, e⟩ := bind_of e
  try dsimp only at e
  refine t_qz 2 [0, 2, 7, 17, 18] (σ' := [(0, .pointer (some ⟨B0, 0, none⟩)), (2, .int .i64 far2), (7, .int .i64 (wr64 (3 + t217))), (17, .pointer (some ⟨B0, 0, none⟩)), (18, .int .i64 far2)]) (by kernel_rfl) ?_
  refine t_call (vs := [.pointer (some ⟨B0, 0, none⟩), .int .i64 far2]) (H1 := ([⟨B0, [.slice a_m0_0 m0_0.length c_m0_0, .int .i64 t218], 2⟩] : List Own)) (F := ([] : List Own)) rfl rfl (by kernel_rfl) (sel_perm (is := [0]) (by kernel_rfl)) (glyphicmake_Point_v1.ok h_m0_0 h223) ?_
  rintro _ _ S_ ⟨rfl, rfl, hS_⟩
  obtain rfl := hS_.symm
  refine t_a (.new rfl rfl) fun b224 fb224 sb224 => ?_
  refine t_sti 0 (cs := [.int .i64 t220, .int .i64 t221]) rfl rfl rfl rfl rfl rfl rfl rfl rfl ?_
  refine t_keep [0, 2, 7, 8] (σ' := [(0, .pointer (some ⟨B0, 0, none⟩)), (2, .int .i64 far2), (7, .int .i64 (wr64 (3 + t217))), (8, .pointer (some ⟨b224, 0, none⟩))]) (by kernel_rfl) ?_
  refine t_end ?_
  show W _ _ _ _ _ _ _
  refine w_seq ?_
  refine w_reg fun all => ?_
  refine t_v (.ldn rfl rfl rfl (.at 0 rfl rfl)) ?_
  refine t_a (.new rfl rfl) fun b225 fb225 sb225 => ?_
  refine t_sti 0 (cs := [.int .i64 t220, .int .i64 t221]) rfl rfl rfl rfl rfl rfl rfl rfl rfl ?_
  refine t_keep [0, 2, 7, 8, 9] (σ' := [(0, .pointer (some ⟨B0, 0, none⟩)), (2, .int .i64 far2), (7, .int .i64 (wr64 (3 + t217))), (8, .pointer (some ⟨b224, 0, none⟩)), (9, .pointer (some ⟨b225, 0, none⟩))]) (by kernel_rfl) ?_
  refine t_end ?_
  show W _ _ _ _ _ _ _
  refine w_seq ?_
  refine w_reg fun all => ?_
  refine t_qz 1 [0, 2, 7, 8, 9, 10] (σ' := [(0, .pointer (some ⟨B0, 0, none⟩)), (2, .int .i64 far2), (7, .int .i64 (wr64 (3 + t217))), (8, .pointer (some ⟨b224, 0, none⟩)), (9, .pointer (some ⟨b225, 0, none⟩)), (10, .slice none 0 0)]) (by kernel_rfl) ?_
  refine t_end ?_
  show W _ _ _ _ _ _ _
  obtain ⟨⟨y248, x249, x250, x251⟩, e227, e⟩ := bind_of e
  try dsimp only at e
  refine w_cut [8, 9, 10] (fun σ_ H_ S_ => ∃ (a247 : Option Nat) (na247 : Nat), [(8, .pointer (some ⟨b224, 0, none⟩)), (9, .pointer (some ⟨b225, 0, none⟩)), (10, .slice (ad a247) y248.length (na247 / 4))] = σ_ ∧ ([⟨b225, [.int .i64 x249, .int .i64 x250], 2⟩, ⟨b224, [.int .i64 t220, .int .i64 t221], 2⟩, ⟨B0, [.slice a_m0_0 m0_0.length c_m0_0, .int .i64 x251], 2⟩, ⟨a247, encL E_i644 y248, na247⟩] : List Own) = H_ ∧ S = S_) ?_ ?_
  · show W _ _ _ _ _ _ _
    refine w_seq ?_
    refine w_reg fun all => ?_
    refine t_qz 1 [0, 2, 7, 8, 9, 10, 11] (σ' := [(0, .pointer (some ⟨B0, 0, none⟩)), (2, .int .i64 far2), (7, .int .i64 (wr64 (3 + t217))), (8, .pointer (some ⟨b224, 0, none⟩)), (9, .pointer (some ⟨b225, 0, none⟩)), (10, .slice none 0 0), (11, .int .i64 1)]) (by kernel_rfl) ?_
    refine t_end ?_
    show W _ _ _ _ _ _ _
    refine w_block ?_
    refine w_vs VS.vac ?_
    refine w_kp [0, 2, 7, 8, 9, 10, 11] (σ' := [(0, .pointer (some ⟨B0, 0, none⟩)), (2, .int .i64 far2), (7, .int .i64 (wr64 (3 + t217))), (8, .pointer (some ⟨b224, 0, none⟩)), (9, .pointer (some ⟨b225, 0, none⟩)), (10, .slice (ad none) ([] : List (Int × Int × Int × Int)).length (0 / 4)), (11, .int .i64 1)]) (by kernel_rfl) ?_
    refine w_loop (fun n_ σ_ H_ S_ => ∃ (x229 : Int) (y231 : List (Int × Int × Int × Int)) (x232 : Int) (x233 : Int) (x234 : Int), ∃ (a230 : Option Nat) (na230 : Nat), [(0, .pointer (some ⟨B0, 0, none⟩)), (2, .int .i64 far2), (7, .int .i64 (wr64 (3 + t217))), (8, .pointer (some ⟨b224, 0, none⟩)), (9, .pointer (some ⟨b225, 0, none⟩)), (10, .slice (ad a230) y231.length (na230 / 4)), (11, .int .i64 x229)] = σ_ ∧ ([⟨a230, encL E_i644 y231, na230⟩, ⟨b225, [.int .i64 x232, .int .i64 x233], 2⟩, ⟨b224, [.int .i64 t220, .int .i64 t221], 2⟩, ⟨B0, [.slice a_m0_0 m0_0.length c_m0_0, .int .i64 x234], 2⟩] : List Own) = H_ ∧ S = S_ ∧ glyphicmake_Ring_v1.l0 n_ far2 m0_0 t217 x229 y231 x232 x233 x234 = some (y248, x249, x250, x251)) _ ⟨1, ([] : List (Int × Int × Int × Int)), t220, t221, t222, none, 0, rfl, rfl, rfl, e227⟩ ?_
    rintro n246 σ_ H_ S_ ⟨x229, y231, x232, x233, x234, a230, na230, rfl, rfl, rfl, e227⟩
    cases n246 with
    | zero => rw [glyphicmake_Ring_v1.l0.eq_1] at e227; cases e227
    | succ k_ =>
      rw [glyphicmake_Ring_v1.l0.eq_2] at e227
      refine w_seq ?_
      refine w_seq ?_
      refine w_reg fun all => ?_
      by_cases c235 : x229 < (wr64 (3 + t217))
      · rw [if_pos c235] at e227
        have c235b : (decide (x229 < (wr64 (3 + t217)))) = true := decide_eq_true c235
        refine t_qz 2 [0, 2, 7, 8, 9, 10, 11, 21, 22] (σ' := [(0, .pointer (some ⟨B0, 0, none⟩)), (2, .int .i64 far2), (7, .int .i64 (wr64 (3 + t217))), (8, .pointer (some ⟨b224, 0, none⟩)), (9, .pointer (some ⟨b225, 0, none⟩)), (10, .slice (ad a230) y231.length (na230 / 4)), (11, .int .i64 x229), (21, .int .i64 x229), (22, .int .i64 (wr64 (3 + t217)))]) (by kernel_rfl) ?_
        refine t_v (dv_quiet rfl (congrArg (fun t => some (Value.bool t)) c235b)) ?_
        refine t_keep [0, 2, 7, 8, 9, 10, 11, 23] (σ' := [(0, .pointer (some ⟨B0, 0, none⟩)), (2, .int .i64 far2), (7, .int .i64 (wr64 (3 + t217))), (8, .pointer (some ⟨b224, 0, none⟩)), (9, .pointer (some ⟨b225, 0, none⟩)), (10, .slice (ad a230) y231.length (na230 / 4)), (11, .int .i64 x229), (23, .bool true)]) (by kernel_rfl) ?_
        refine t_end ?_
        show W _ _ _ _ _ _ _
        refine w_cond rfl (fun _ => ?_) (fun c_ => by cases c_)
        show W _ _ _ _ _ _ _
        refine w_skip ?_
        show W _ _ _ _ _ _ _
        refine w_seq ?_
        refine w_block ?_
        refine w_seq ?_
        refine w_reg fun all => ?_
        obtain ⟨⟨t236, t237, t238⟩, h239, e227⟩ := bind_of e227
        try dsimp only at e227
        refine t_qz 2 [0, 2, 7, 8, 9, 10, 11, 26, 27] (σ' := [(0, .pointer (some ⟨B0, 0, none⟩)), (2, .int .i64 far2), (7, .int .i64 (wr64 (3 + t217))), (8, .pointer (some ⟨b224, 0, none⟩)), (9, .pointer (some ⟨b225, 0, none⟩)), (10, .slice (ad a230) y231.length (na230 / 4)), (11, .int .i64 x229), (26, .pointer (some ⟨B0, 0, none⟩)), (27, .int .i64 far2)]) (by kernel_rfl) ?_
        refine t_call (vs := [.pointer (some ⟨B0, 0, none⟩), .int .i64 far2]) (H1 := ([⟨B0, [.slice a_m0_0 m0_0.length c_m0_0, .int .i64 x234], 2⟩] : List Own)) (F := ([⟨a230, encL E_i644 y231, na230⟩, ⟨b225, [.int .i64 x232, .int .i64 x233], 2⟩, ⟨b224, [.int .i64 t220, .int .i64 t221], 2⟩] : List Own)) rfl rfl (by kernel_rfl) (sel_perm (is := [3]) (by kernel_rfl)) (glyphicmake_Point_v1.ok h_m0_0 h239) ?_
        rintro _ _ S_ ⟨rfl, rfl, hS_⟩
        obtain rfl := hS_.symm
        refine t_a (.new rfl rfl) fun b240 fb240 sb240 => ?_
        refine t_sti 0 (cs := [.int .i64 t236, .int .i64 t237]) rfl rfl rfl rfl rfl rfl rfl rfl rfl ?_
        refine t_keep [0, 2, 7, 8, 9, 10, 11, 12] (σ' := [(0, .pointer (some ⟨B0, 0, none⟩)), (2, .int .i64 far2), (7, .int .i64 (wr64 (3 + t217))), (8, .pointer (some ⟨b224, 0, none⟩)), (9, .pointer (some ⟨b225, 0, none⟩)), (10, .slice (ad a230) y231.length (na230 / 4)), (11, .int .i64 x229), (12, .pointer (some ⟨b240, 0, none⟩))]) (by kernel_rfl) ?_
        refine t_end ?_
        show W _ _ _ _ _ _ _
        refine w_seq ?_
        refine w_reg fun all => ?_
        refine t_qz 1 [0, 2, 7, 8, 9, 11, 12, 29] (σ' := [(0, .pointer (some ⟨B0, 0, none⟩)), (2, .int .i64 far2), (7, .int .i64 (wr64 (3 + t217))), (8, .pointer (some ⟨b224, 0, none⟩)), (9, .pointer (some ⟨b225, 0, none⟩)), (11, .int .i64 x229), (12, .pointer (some ⟨b240, 0, none⟩)), (29, .slice (ad a230) y231.length (na230 / 4))]) (by kernel_rfl) ?_
        refine t_v (.ldn rfl rfl rfl (.at 3 rfl rfl)) ?_
        refine t_v (.ldn rfl rfl rfl (.at 0 rfl rfl)) ?_
        refine t_qz 1 [0, 2, 7, 8, 9, 11, 12, 29, 32] (σ' := [(0, .pointer (some ⟨B0, 0, none⟩)), (2, .int .i64 far2), (7, .int .i64 (wr64 (3 + t217))), (8, .pointer (some ⟨b224, 0, none⟩)), (9, .pointer (some ⟨b225, 0, none⟩)), (11, .int .i64 x229), (12, .pointer (some ⟨b240, 0, none⟩)), (29, .slice (ad a230) y231.length (na230 / 4)), (32, .agg #[.int .i64 x232, .int .i64 x233, .int .i64 t236, .int .i64 t237])]) (by kernel_rfl) ?_
        refine t_a (.bsl rfl rfl rfl rfl) fun b241 fb241 sb241 => ?_
        obtain ⟨y242, hl243, e227⟩ := bind_of e227
        refine t_appX (E := E_i644) (L := y231) (X := ([(x232, x233, t236, t237)] : List (Int × Int × Int × Int))) (F := ([⟨b241, [.int .i64 x232, .int .i64 x233, .int .i64 t236, .int .i64 t237], 4⟩, ⟨b240, [.int .i64 t236, .int .i64 t237], 2⟩, ⟨B0, [.slice a_m0_0 m0_0.length c_m0_0, .int .i64 t238], 2⟩, ⟨b225, [.int .i64 x232, .int .i64 x233], 2⟩, ⟨b224, [.int .i64 t220, .int .i64 t221], 2⟩] : List Own)) rfl rfl rfl rfl (sel_perm (is := [3]) (by kernel_rfl)) rfl (Or.inr ⟨_, _, rfl, .at 0 rfl (by kernel_rfl)⟩) rfl (by decide) (by decide) rfl hl243 fun a244 na244 => ?_
        refine t_qz 1 [0, 2, 7, 8, 9, 10, 11, 12] (σ' := [(0, .pointer (some ⟨B0, 0, none⟩)), (2, .int .i64 far2), (7, .int .i64 (wr64 (3 + t217))), (8, .pointer (some ⟨b224, 0, none⟩)), (9, .pointer (some ⟨b225, 0, none⟩)), (10, .slice (ad a244) y242.length (na244 / 4)), (11, .int .i64 x229), (12, .pointer (some ⟨b240, 0, none⟩))]) (by kernel_rfl) ?_
        refine t_end ?_
        show W _ _ _ _ _ _ _
        refine w_reg fun all => ?_
        refine t_v (.ldn rfl rfl rfl (.at 2 rfl rfl)) ?_
        refine t_sti 4 (cs := [.int .i64 t236, .int .i64 t237]) rfl rfl rfl rfl rfl rfl rfl rfl rfl ?_
        refine t_keep [0, 2, 7, 8, 9, 10, 11] (σ' := [(0, .pointer (some ⟨B0, 0, none⟩)), (2, .int .i64 far2), (7, .int .i64 (wr64 (3 + t217))), (8, .pointer (some ⟨b224, 0, none⟩)), (9, .pointer (some ⟨b225, 0, none⟩)), (10, .slice (ad a244) y242.length (na244 / 4)), (11, .int .i64 x229)]) (by kernel_rfl) ?_
        refine t_end ?_
        show W _ _ _ _ _ _ _
        refine w_reg fun all => ?_
        refine t_qz 3 [0, 2, 7, 8, 9, 10, 11] (σ' := [(0, .pointer (some ⟨B0, 0, none⟩)), (2, .int .i64 far2), (7, .int .i64 (wr64 (3 + t217))), (8, .pointer (some ⟨b224, 0, none⟩)), (9, .pointer (some ⟨b225, 0, none⟩)), (10, .slice (ad a244) y242.length (na244 / 4)), (11, .int .i64 (wr64 (x229 + 1)))]) (by kernel_rfl) ?_
        refine t_end ?_
        exact ⟨k_, Nat.lt_succ_self _, [(0, .pointer (some ⟨B0, 0, none⟩)), (2, .int .i64 far2), (7, .int .i64 (wr64 (3 + t217))), (8, .pointer (some ⟨b224, 0, none⟩)), (9, .pointer (some ⟨b225, 0, none⟩)), (10, .slice (ad a244) y242.length (na244 / 4)), (11, .int .i64 (wr64 (x229 + 1)))], ([⟨a244, encL E_i644 y242, na244⟩, ⟨b225, [.int .i64 t236, .int .i64 t237], 2⟩, ⟨b224, [.int .i64 t220, .int .i64 t221], 2⟩, ⟨B0, [.slice a_m0_0 m0_0.length c_m0_0, .int .i64 t238], 2⟩] : List Own), S, keep_sub [0, 2, 7, 8, 9, 10, 11] (by kernel_rfl), VS.sel [0, 3, 3, 2] (by kernel_rfl), wr64 (x229 + 1), y242, t236, t237, t238, a244, na244, rfl, rfl, rfl, e227⟩
      · rw [if_neg c235] at e227
        have c235b : (decide (x229 < (wr64 (3 + t217)))) = false := decide_eq_false c235
        refine t_qz 2 [0, 2, 7, 8, 9, 10, 11, 21, 22] (σ' := [(0, .pointer (some ⟨B0, 0, none⟩)), (2, .int .i64 far2), (7, .int .i64 (wr64 (3 + t217))), (8, .pointer (some ⟨b224, 0, none⟩)), (9, .pointer (some ⟨b225, 0, none⟩)), (10, .slice (ad a230) y231.length (na230 / 4)), (11, .int .i64 x229), (21, .int .i64 x229), (22, .int .i64 (wr64 (3 + t217)))]) (by kernel_rfl) ?_
        refine t_v (dv_quiet rfl (congrArg (fun t => some (Value.bool t)) c235b)) ?_
        refine t_keep [0, 2, 7, 8, 9, 10, 11, 23] (σ' := [(0, .pointer (some ⟨B0, 0, none⟩)), (2, .int .i64 far2), (7, .int .i64 (wr64 (3 + t217))), (8, .pointer (some ⟨b224, 0, none⟩)), (9, .pointer (some ⟨b225, 0, none⟩)), (10, .slice (ad a230) y231.length (na230 / 4)), (11, .int .i64 x229), (23, .bool false)]) (by kernel_rfl) ?_
        refine t_end ?_
        show W _ _ _ _ _ _ _
        refine w_cond rfl (fun c_ => by cases c_) (fun _ => ?_)
        show W _ _ _ _ _ _ _
        refine w_exit ?_
        simp only [Option.some.injEq, Prod.mk.injEq] at e227
        obtain ⟨rfl, rfl, rfl, rfl⟩ := e227
        exact ⟨([⟨b225, [.int .i64 x232, .int .i64 x233], 2⟩, ⟨b224, [.int .i64 t220, .int .i64 t221], 2⟩, ⟨B0, [.slice a_m0_0 m0_0.length c_m0_0, .int .i64 x234], 2⟩, ⟨a230, encL E_i644 y231, na230⟩] : List Own), S, VS.sel [1, 1, 1, 0] (by kernel_rfl), a230, na230, by kernel_rfl, rfl, rfl⟩
  · rintro σ_ H_ S_ ⟨a247, na247, rfl, rfl, rfl⟩
    refine w_seq ?_
    refine w_reg fun all => ?_
    refine t_qz 1 [8, 9, 36] (σ' := [(8, .pointer (some ⟨b224, 0, none⟩)), (9, .pointer (some ⟨b225, 0, none⟩)), (36, .slice (ad a247) y248.length (na247 / 4))]) (by kernel_rfl) ?_
    refine t_v (.ldn rfl rfl rfl (.at 0 rfl rfl)) ?_
    refine t_v (.ldn rfl rfl rfl (.at 1 rfl rfl)) ?_
    refine t_qz 1 [36, 39] (σ' := [(36, .slice (ad a247) y248.length (na247 / 4)), (39, .agg #[.int .i64 x249, .int .i64 x250, .int .i64 t220, .int .i64 t221])]) (by kernel_rfl) ?_
    refine t_a (.bsl rfl rfl rfl rfl) fun b252 fb252 sb252 => ?_
    obtain ⟨y253, hl254, e⟩ := bind_of e
    refine t_appX (E := E_i644) (L := y248) (X := ([(x249, x250, t220, t221)] : List (Int × Int × Int × Int))) (F := ([⟨b252, [.int .i64 x249, .int .i64 x250, .int .i64 t220, .int .i64 t221], 4⟩, ⟨b225, [.int .i64 x249, .int .i64 x250], 2⟩, ⟨b224, [.int .i64 t220, .int .i64 t221], 2⟩, ⟨B0, [.slice a_m0_0 m0_0.length c_m0_0, .int .i64 x251], 2⟩] : List Own)) rfl rfl rfl rfl (sel_perm (is := [4]) (by kernel_rfl)) rfl (Or.inr ⟨_, _, rfl, .at 0 rfl (by kernel_rfl)⟩) rfl (by decide) (by decide) rfl hl254 fun a255 na255 => ?_
    refine t_qz 1 [6] (σ' := [(6, .slice (ad a255) y253.length (na255 / 4))]) (by kernel_rfl) ?_
    refine t_end ?_
    show W _ _ _ _ _ _ _
    refine w_ret ?_
    simp only [Option.some.injEq, Prod.mk.injEq] at e
    obtain ⟨rfl, rfl⟩ := e
    exact ⟨[.slice (ad a255) y253.length (na255 / 4)], ([⟨a255, encL E_i644 y253, na255⟩, ⟨B0, [.slice a_m0_0 m0_0.length c_m0_0, .int .i64 x251], 2⟩] : List Own), S, ⟨rfl, trivial⟩, VS.sel [0, 3] (by kernel_rfl), a255, na255, rfl, rfl, rfl⟩

/-- glyphicref.Edges -/
def c20 : C :=
  (.seq (.reg [⟨(some 2), .mv (.const (.slice none 0 0)), none⟩])
  (.seq (.reg [⟨(some 5), .mv (.tmp 0), none⟩,
     ⟨(some 6), .lns (.tmp 5), none⟩,
     ⟨(some 7), .mks 4 32 [(.int .i64 0), (.int .i64 0), (.int .i64 0), (.int .i64 0)] (.const (.int .i64 0)) (.tmp 6), none⟩,
     ⟨(some 3), .mv (.tmp 7), none⟩])
  (.seq (.seq (.reg [⟨(some 4), .mv (.const (.int .i64 0)), none⟩])
   (.block 0 (.loop (.seq (.seq (.reg [⟨(some 8), .mv (.tmp 4), none⟩,
         ⟨(some 9), .mv (.tmp 0), none⟩,
         ⟨(some 10), .lns (.tmp 9), none⟩,
         ⟨(some 11), .bin .lss (.tmp 8) (.tmp 10), none⟩])
      (.cond (.tmp 11)
       .skip
       (.exit 0)))
     (.seq (.block 1 (.reg [⟨(some 14), .mv (.tmp 3), none⟩,
         ⟨(some 15), .mv (.tmp 0), none⟩,
         ⟨(some 16), .mv (.tmp 4), none⟩,
         ⟨(some 17), .ixs 4 (.tmp 15) (.tmp 16), none⟩,
         ⟨(some 18), .ld (some 4) (.tmp 17), none⟩,
         ⟨(some 19), .bsl [(.int .i64 0), (.int .i64 0), (.int .i64 0), (.int .i64 0)] 1 [(0, 4, (.tmp 18))], none⟩,
         ⟨(some 20), .app 36 4 32 [(.int .i64 0), (.int .i64 0), (.int .i64 0), (.int .i64 0)] (.tmp 14) (.tmp 19), none⟩,
         ⟨(some 3), .mv (.tmp 20), none⟩]))
     (.reg [⟨(some 12), .mv (.tmp 4), none⟩,
       ⟨(some 13), .bin .add (.tmp 12) (.const (.int .i64 1)), none⟩,
       ⟨(some 4), .mv (.tmp 13), none⟩]))))))
  (.seq (.reg [⟨(some 21), .mv (.tmp 3), none⟩,
     ⟨(some 2), .mv (.tmp 21), none⟩])
  .ret))))
def glyphicref_Edges_v1.l0 : Nat → List (Int × Int × Int × Int) → Int → List (Int × Int × Int × Int) → Option (List (Int × Int × Int × Int))
  | 0, _, _, _ => none
  | k + 1, l0, x270, y272 => if x270 < (l0.length : Int) then ((lgt l0 x270).bind fun (x274, x275, x276, x277) => ((lapp y272 ([(x274, x275, x276, x277)] : List (Int × Int × Int × Int))).bind fun y288 => (glyphicref_Edges_v1.l0 k l0 (wr64 (x270 + 1)) y288))) else (some y272)
def glyphicref_Edges_v1.f (k : Nat) (l0 : List (Int × Int × Int × Int)) : Option (List (Int × Int × Int × Int)) := (lmk ((0, 0, 0, 0) : Int × Int × Int × Int) 0 (l0.length : Int)).bind fun y264 => ((glyphicref_Edges_v1.l0 k l0 0 y264 : Option (List (Int × Int × Int × Int))).bind fun y294 => (some y294))
theorem glyphicref_Edges_v1.ok {S : Seal} {k : Nat} {l0 : List (Int × Int × Int × Int)} {r0_ : List (Int × Int × Int × Int)}{a_l0 : Option Addr} {c_l0 : Nat} (h_l0 : SlE S E_i644 l0 a_l0) (e : glyphicref_Edges_v1.f k l0 = some r0_) :
    Cal Try.prog 20 [.slice a_l0 l0.length c_l0] [] S fun v H' S' => ∃ (N0_ : Option Nat) (nN0_ : Nat) , v = .slice (ad N0_) r0_.length (nN0_ / 4) ∧ H' = ([⟨N0_, encL E_i644 r0_, nN0_⟩] : List Own) ∧ S' = S := by
  unfold glyphicref_Edges_v1.f at e
  refine cal_of (c := c20) (N := 22) Try.func20 rfl rfl (by kernel_rfl) (rs := [.t 2]) (by kernel_rfl) (Nat.le_of_ble_eq_true rfl) ?_
  unfold c20
  refine w_seq ?_
  refine w_reg fun all => ?_
  refine t_qz 1 [0] (σ' := [(0, .slice a_l0 l0.length c_l0)]) (by kernel_rfl) ?_
  refine t_end ?_
  show W _ _ _ _ _ _ _
  refine w_seq ?_
  refine w_reg fun all => ?_
  obtain ⟨y264, hl265, e⟩ := bind_of e
  refine t_qz 2 [0, 6] (σ' := [(0, .slice a_l0 l0.length c_l0), (6, .int .i64 (l0.length : Int))]) (by kernel_rfl) ?_
  refine t_mkl (E := E_i644) (x0 := (0, 0, 0, 0)) rfl rfl rfl rfl rfl (by decide) (by decide) rfl hl265 fun a266 na266 => ?_
  refine t_qz 1 [0, 3] (σ' := [(0, .slice a_l0 l0.length c_l0), (3, .slice (ad (some a266)) y264.length (na266 / 4))]) (by kernel_rfl) ?_
  refine t_end ?_
  show W _ _ _ _ _ _ _
  obtain ⟨y294, e268, e⟩ := bind_of e
  refine w_cut [3] (fun σ_ H_ S_ => ∃ (a293 : Option Nat) (na293 : Nat), [(3, .slice (ad a293) y294.length (na293 / 4))] = σ_ ∧ ([⟨a293, encL E_i644 y294, na293⟩] : List Own) = H_ ∧ S = S_) ?_ ?_
  · show W _ _ _ _ _ _ _
    refine w_seq ?_
    refine w_reg fun all => ?_
    refine t_qz 1 [0, 3, 4] (σ' := [(0, .slice a_l0 l0.length c_l0), (3, .slice (ad (some a266)) y264.length (na266 / 4)), (4, .int .i64 0)]) (by kernel_rfl) ?_
    refine t_end ?_
    show W _ _ _ _ _ _ _
    refine w_block ?_
    refine w_kp [0, 3, 4] (σ' := [(0, .slice a_l0 l0.length c_l0), (3, .slice (ad (some a266)) y264.length (na266 / 4)), (4, .int .i64 0)]) (by kernel_rfl) ?_
    refine w_loop (fun n_ σ_ H_ S_ => ∃ (x270 : Int) (y272 : List (Int × Int × Int × Int)), ∃ (a271 : Option Nat) (na271 : Nat), [(0, .slice a_l0 l0.length c_l0), (3, .slice (ad a271) y272.length (na271 / 4)), (4, .int .i64 x270)] = σ_ ∧ ([⟨a271, encL E_i644 y272, na271⟩] : List Own) = H_ ∧ S = S_ ∧ glyphicref_Edges_v1.l0 n_ l0 x270 y272 = some y294) _ ⟨0, y264, some a266, na266, rfl, rfl, rfl, e268⟩ ?_
    rintro n292 σ_ H_ S_ ⟨x270, y272, a271, na271, rfl, rfl, rfl, e268⟩
    cases n292 with
    | zero => rw [glyphicref_Edges_v1.l0.eq_1] at e268; cases e268
    | succ k_ =>
      rw [glyphicref_Edges_v1.l0.eq_2] at e268
      refine w_seq ?_
      refine w_seq ?_
      refine w_reg fun all => ?_
      by_cases c273 : x270 < (l0.length : Int)
      · rw [if_pos c273] at e268
        have c273b : (decide (x270 < (l0.length : Int))) = true := decide_eq_true c273
        refine t_qz 3 [0, 3, 4, 8, 10] (σ' := [(0, .slice a_l0 l0.length c_l0), (3, .slice (ad a271) y272.length (na271 / 4)), (4, .int .i64 x270), (8, .int .i64 x270), (10, .int .i64 (l0.length : Int))]) (by kernel_rfl) ?_
        refine t_v (dv_quiet rfl (congrArg (fun t => some (Value.bool t)) c273b)) ?_
        refine t_keep [0, 3, 4, 11] (σ' := [(0, .slice a_l0 l0.length c_l0), (3, .slice (ad a271) y272.length (na271 / 4)), (4, .int .i64 x270), (11, .bool true)]) (by kernel_rfl) ?_
        refine t_end ?_
        show W _ _ _ _ _ _ _
        refine w_cond rfl (fun _ => ?_) (fun c_ => by cases c_)
        show W _ _ _ _ _ _ _
        refine w_skip ?_
        show W _ _ _ _ _ _ _
        refine w_seq ?_
        refine w_block ?_
        refine w_reg fun all => ?_
        obtain ⟨⟨x274, x275, x276, x277⟩, hx278, e268⟩ := bind_of e268
        try dsimp only at e268
        obtain ⟨lb279, lo280, ll281, la282, lS283, lv284, lz285, lu286⟩ := sle_get (E := E_i644) h_l0 hx278
        refine t_qz 3 [0, 4, 14, 15, 16] (σ' := [(0, .slice a_l0 l0.length c_l0), (4, .int .i64 x270), (14, .slice (ad a271) y272.length (na271 / 4)), (15, .slice a_l0 l0.length c_l0), (16, .int .i64 x270)]) (by kernel_rfl) ?_
        refine t_v (.quiet rfl (ixs_sle rfl rfl la282 lz285 lu286)) ?_
        refine t_v (.ldn (vs := [.int .i64 x274, .int .i64 x275, .int .i64 x276, .int .i64 x277]) rfl rfl rfl (.sealed lS283 (subl_sub lv284 (by kernel_rfl)))) ?_
        refine t_a (.bsl rfl rfl rfl rfl) fun b287 fb287 sb287 => ?_
        obtain ⟨y288, hl289, e268⟩ := bind_of e268
        refine t_appX (E := E_i644) (L := y272) (X := ([(x274, x275, x276, x277)] : List (Int × Int × Int × Int))) (F := ([⟨b287, [.int .i64 x274, .int .i64 x275, .int .i64 x276, .int .i64 x277], 4⟩] : List Own)) rfl rfl rfl rfl (sel_perm (is := [1]) (by kernel_rfl)) rfl (Or.inr ⟨_, _, rfl, .at 0 rfl (by kernel_rfl)⟩) rfl (by decide) (by decide) rfl hl289 fun a290 na290 => ?_
        refine t_qz 1 [0, 3, 4] (σ' := [(0, .slice a_l0 l0.length c_l0), (3, .slice (ad a290) y288.length (na290 / 4)), (4, .int .i64 x270)]) (by kernel_rfl) ?_
        refine t_end ?_
        show W _ _ _ _ _ _ _
        refine w_reg fun all => ?_
        refine t_qz 3 [0, 3, 4] (σ' := [(0, .slice a_l0 l0.length c_l0), (3, .slice (ad a290) y288.length (na290 / 4)), (4, .int .i64 (wr64 (x270 + 1)))]) (by kernel_rfl) ?_
        refine t_end ?_
        exact ⟨k_, Nat.lt_succ_self _, [(0, .slice a_l0 l0.length c_l0), (3, .slice (ad a290) y288.length (na290 / 4)), (4, .int .i64 (wr64 (x270 + 1)))], ([⟨a290, encL E_i644 y288, na290⟩] : List Own), S, keep_sub [0, 3, 4] (by kernel_rfl), VS.sel [0] (by kernel_rfl), wr64 (x270 + 1), y288, a290, na290, rfl, rfl, rfl, e268⟩
      · rw [if_neg c273] at e268
        have c273b : (decide (x270 < (l0.length : Int))) = false := decide_eq_false c273
        refine t_qz 3 [0, 3, 4, 8, 10] (σ' := [(0, .slice a_l0 l0.length c_l0), (3, .slice (ad a271) y272.length (na271 / 4)), (4, .int .i64 x270), (8, .int .i64 x270), (10, .int .i64 (l0.length : Int))]) (by kernel_rfl) ?_
        refine t_v (dv_quiet rfl (congrArg (fun t => some (Value.bool t)) c273b)) ?_
        refine t_keep [0, 3, 4, 11] (σ' := [(0, .slice a_l0 l0.length c_l0), (3, .slice (ad a271) y272.length (na271 / 4)), (4, .int .i64 x270), (11, .bool false)]) (by kernel_rfl) ?_
        refine t_end ?_
        show W _ _ _ _ _ _ _
        refine w_cond rfl (fun c_ => by cases c_) (fun _ => ?_)
        show W _ _ _ _ _ _ _
        refine w_exit ?_
        obtain rfl := Option.some.inj e268
        exact ⟨([⟨a271, encL E_i644 y272, na271⟩] : List Own), S, VS.sel [0] (by kernel_rfl), a271, na271, by kernel_rfl, rfl, rfl⟩
  · rintro σ_ H_ S_ ⟨a293, na293, rfl, rfl, rfl⟩
    refine w_seq ?_
    refine w_reg fun all => ?_
    refine t_qz 2 [2] (σ' := [(2, .slice (ad a293) y294.length (na293 / 4))]) (by kernel_rfl) ?_
    refine t_end ?_
    show W _ _ _ _ _ _ _
    refine w_ret ?_
    obtain rfl := Option.some.inj e
    exact ⟨[.slice (ad a293) y294.length (na293 / 4)], ([⟨a293, encL E_i644 y294, na293⟩] : List Own), S, ⟨rfl, trivial⟩, VS.sel [0] (by kernel_rfl), a293, na293, rfl, rfl, rfl⟩

/-- plane.Dot -/
def c104 : C :=
  (.seq (.reg [⟨(some 3), .box (.tmp 0), none⟩,
     ⟨(some 4), .box (.tmp 1), none⟩,
     ⟨(some 5), .box (.tmp 2), none⟩,
     ⟨(some 6), .mv (.const (.int .i64 0)), none⟩])
  (.seq (.drw [⟨(some 9), .ld (some 2) (.tmp 4), none⟩,
     ⟨(some 10), .ld (some 2) (.tmp 3), none⟩,
     ⟨(some 11), .call 116 [(.tmp 9), (.tmp 10)], none⟩,
     ⟨(some 12), .ld (some 2) (.tmp 5), none⟩,
     ⟨(some 13), .ld (some 2) (.tmp 3), none⟩,
     ⟨(some 14), .call 116 [(.tmp 12), (.tmp 13)], none⟩,
     ⟨(some 7), .new [(.int .i64 0), (.int .i64 0)], none⟩,
     ⟨(some 8), .new [(.int .i64 0), (.int .i64 0)], none⟩,
     ⟨none, .st 2 (.tmp 7) (.tmp 11), none⟩,
     ⟨none, .st 2 (.tmp 8) (.tmp 14), none⟩] [[], [], [0, 1], [], [], [3, 4, 2], [], [], [6, 2, 5, 0, 1, 2, 6, 7], [7, 5, 8, 0, 1, 2, 3, 4, 5, 6, 7, 8]])
  (.seq (.reg [⟨(some 15), .pad 0 (.tmp 7), none⟩,
     ⟨(some 16), .ld none (.tmp 15), none⟩,
     ⟨(some 17), .pad 0 (.tmp 8), none⟩,
     ⟨(some 18), .ld none (.tmp 17), none⟩,
     ⟨(some 19), .bin .mul (.tmp 16) (.tmp 18), none⟩,
     ⟨(some 20), .pad 1 (.tmp 7), none⟩,
     ⟨(some 21), .ld none (.tmp 20), none⟩,
     ⟨(some 22), .pad 1 (.tmp 8), none⟩,
     ⟨(some 23), .ld none (.tmp 22), none⟩,
     ⟨(some 24), .bin .mul (.tmp 21) (.tmp 23), none⟩,
     ⟨(some 25), .bin .add (.tmp 19) (.tmp 24), none⟩,
     ⟨(some 6), .mv (.tmp 25), none⟩])
  .ret)))
def plane_Dot.f (a0_X : Int) (a0_Y : Int) (b1_X : Int) (b1_Y : Int) (p2_X : Int) (p2_Y : Int) : Option (Int) := (plane_Sub.f b1_X b1_Y a0_X a0_Y).bind fun (t368, t369) => ((plane_Sub.f p2_X p2_Y a0_X a0_Y).bind fun (t371, t372) => (some (wr64 ((wr64 (t368 * t371)) + (wr64 (t369 * t372))))))
theorem plane_Dot.ok {S : Seal} {a0_X : Int} {a0_Y : Int} {b1_X : Int} {b1_Y : Int} {p2_X : Int} {p2_Y : Int} {r0_ : Int}(e : plane_Dot.f a0_X a0_Y b1_X b1_Y p2_X p2_Y = some r0_) :
    Cal Try.prog 104 [.agg #[.int .i64 a0_X, .int .i64 a0_Y], .agg #[.int .i64 b1_X, .int .i64 b1_Y], .agg #[.int .i64 p2_X, .int .i64 p2_Y]] [] S fun v H' S' => v = .int .i64 r0_ ∧ H' = [] ∧ S' = S := by
  unfold plane_Dot.f at e
  refine cal_of (c := c104) (N := 26) Try.func104 rfl rfl (by kernel_rfl) (rs := [.t 6]) (by kernel_rfl) (Nat.le_of_ble_eq_true rfl) ?_
  unfold c104
  refine w_seq ?_
  refine w_reg fun all => ?_
  refine t_a (.box rfl rfl rfl) fun b365 fb365 sb365 => ?_
  refine t_a (.box rfl rfl rfl) fun b366 fb366 sb366 => ?_
  refine t_a (.box rfl rfl rfl) fun b367 fb367 sb367 => ?_
  refine t_qz 1 [3, 4, 5] (σ' := [(3, .pointer (some ⟨b365, 0, none⟩)), (4, .pointer (some ⟨b366, 0, none⟩)), (5, .pointer (some ⟨b367, 0, none⟩))]) (by kernel_rfl) ?_
  refine t_end ?_
  show W _ _ _ _ _ _ _
  refine w_seq ?_
  obtain ⟨⟨t368, t369⟩, h370, e⟩ := bind_of e
  try dsimp only at e
  obtain ⟨⟨t371, t372⟩, h373, e⟩ := bind_of e
  try dsimp only at e
  refine w_drwE mixed 8 [.v (.agg #[.int .i64 b1_X, .int .i64 b1_Y]), .v (.agg #[.int .i64 a0_X, .int .i64 a0_Y]), .v (.agg #[.int .i64 t368, .int .i64 t369]), .v (.agg #[.int .i64 p2_X, .int .i64 p2_Y]), .v (.agg #[.int .i64 a0_X, .int .i64 a0_Y]), .v (.agg #[.int .i64 t371, .int .i64 t372]), .a [.int .i64 0, .int .i64 0] ptrTo, .a [.int .i64 0, .int .i64 0] ptrTo] (by kernel_rfl) ?_ ?_
  · refine .cons (.ldn rfl rfl rfl (.at 1 rfl rfl)) ?_
    refine .cons (.ldn rfl rfl rfl (.at 2 rfl rfl)) ?_
    refine .cons (.call (vs := [.agg #[.int .i64 b1_X, .int .i64 b1_Y], .agg #[.int .i64 a0_X, .int .i64 a0_Y]]) rfl rfl (by kernel_rfl) (plane_Sub.ok h370)) ?_
    refine .cons (.ldn rfl rfl rfl (.at 0 rfl rfl)) ?_
    refine .cons (.ldn rfl rfl rfl (.at 2 rfl rfl)) ?_
    refine .cons (.call (vs := [.agg #[.int .i64 p2_X, .int .i64 p2_Y], .agg #[.int .i64 a0_X, .int .i64 a0_Y]]) rfl rfl (by kernel_rfl) (plane_Sub.ok h373)) ?_
    refine .cons (.new rfl rfl) ?_
    refine .cons (.new rfl rfl) ?_
    exact .nil
  refine fk_q 6 [11, 14] (σ' := [(11, .agg #[.int .i64 t368, .int .i64 t369]), (14, .agg #[.int .i64 t371, .int .i64 t372])]) t_more (by kernel_rfl) ?_
  refine fk_a fun b374 fb374 sb374 => ?_
  refine fk_a fun b375 fb375 sb375 => ?_
  refine fk_nil fun all => ?_
  refine t_sti 1 (cs := [.int .i64 t368, .int .i64 t369]) rfl rfl rfl rfl rfl rfl rfl rfl rfl ?_
  refine t_sti 0 (cs := [.int .i64 t371, .int .i64 t372]) rfl rfl rfl rfl rfl rfl rfl rfl rfl ?_
  refine t_keep [7, 8] (σ' := [(7, .pointer (some ⟨b374, 0, none⟩)), (8, .pointer (some ⟨b375, 0, none⟩))]) (by kernel_rfl) ?_
  refine t_end ?_
  show W _ _ _ _ _ _ _
  refine w_seq ?_
  refine w_reg fun all => ?_
  refine t_qz 1 [7, 8, 15] (σ' := [(7, .pointer (some ⟨b374, 0, none⟩)), (8, .pointer (some ⟨b375, 0, none⟩)), (15, .pointer (some ⟨b374, 0, none⟩))]) (by kernel_rfl) ?_
  refine t_v (.ld1 rfl rfl rfl (.at 1 rfl rfl)) ?_
  refine t_qz 1 [7, 8, 16, 17] (σ' := [(7, .pointer (some ⟨b374, 0, none⟩)), (8, .pointer (some ⟨b375, 0, none⟩)), (16, .int .i64 t368), (17, .pointer (some ⟨b375, 0, none⟩))]) (by kernel_rfl) ?_
  refine t_v (.ld1 rfl rfl rfl (.at 0 rfl rfl)) ?_
  refine t_qz 2 [8, 19, 20] (σ' := [(8, .pointer (some ⟨b375, 0, none⟩)), (19, .int .i64 (wr64 (t368 * t371))), (20, .pointer (some ⟨b374, 1, none⟩))]) (by kernel_rfl) ?_
  refine t_v (.ld1 rfl rfl rfl (.at 1 rfl rfl)) ?_
  refine t_qz 1 [19, 21, 22] (σ' := [(19, .int .i64 (wr64 (t368 * t371))), (21, .int .i64 t369), (22, .pointer (some ⟨b375, 1, none⟩))]) (by kernel_rfl) ?_
  refine t_v (.ld1 rfl rfl rfl (.at 0 rfl rfl)) ?_
  refine t_qz 3 [6] (σ' := [(6, .int .i64 (wr64 ((wr64 (t368 * t371)) + (wr64 (t369 * t372)))))]) (by kernel_rfl) ?_
  refine t_end ?_
  show W _ _ _ _ _ _ _
  refine w_ret ?_
  obtain rfl := Option.some.inj e
  exact ⟨[.int .i64 (wr64 ((wr64 (t368 * t371)) + (wr64 (t369 * t372))))], [], S, ⟨rfl, trivial⟩, VS.none, rfl, rfl, rfl⟩

/-- plane.Len2 -/
def c90 : C :=
  (.seq (.reg [⟨(some 2), .box (.tmp 0), none⟩,
     ⟨(some 3), .box (.tmp 1), none⟩,
     ⟨(some 4), .mv (.const (.int .i64 0)), none⟩])
  (.seq (.reg [⟨(some 5), .ld (some 2) (.tmp 2), none⟩,
     ⟨(some 6), .ld (some 2) (.tmp 3), none⟩,
     ⟨(some 7), .ld (some 2) (.tmp 3), none⟩,
     ⟨(some 8), .call 104 [(.tmp 5), (.tmp 6), (.tmp 7)], none⟩,
     ⟨(some 4), .mv (.tmp 8), none⟩])
  .ret))
def plane_Len2.f (a0_X : Int) (a0_Y : Int) (b1_X : Int) (b1_Y : Int) : Option (Int) := (plane_Dot.f a0_X a0_Y b1_X b1_Y b1_X b1_Y).bind fun t380 => (some t380)
theorem plane_Len2.ok {S : Seal} {a0_X : Int} {a0_Y : Int} {b1_X : Int} {b1_Y : Int} {r0_ : Int}(e : plane_Len2.f a0_X a0_Y b1_X b1_Y = some r0_) :
    Cal Try.prog 90 [.agg #[.int .i64 a0_X, .int .i64 a0_Y], .agg #[.int .i64 b1_X, .int .i64 b1_Y]] [] S fun v H' S' => v = .int .i64 r0_ ∧ H' = [] ∧ S' = S := by
  unfold plane_Len2.f at e
  refine cal_of (c := c90) (N := 9) Try.func90 rfl rfl (by kernel_rfl) (rs := [.t 4]) (by kernel_rfl) (Nat.le_of_ble_eq_true rfl) ?_
  unfold c90
  refine w_seq ?_
  refine w_reg fun all => ?_
  refine t_a (.box rfl rfl rfl) fun b378 fb378 sb378 => ?_
  refine t_a (.box rfl rfl rfl) fun b379 fb379 sb379 => ?_
  refine t_qz 1 [2, 3] (σ' := [(2, .pointer (some ⟨b378, 0, none⟩)), (3, .pointer (some ⟨b379, 0, none⟩))]) (by kernel_rfl) ?_
  refine t_end ?_
  show W _ _ _ _ _ _ _
  refine w_seq ?_
  refine w_reg fun all => ?_
  refine t_v (.ldn rfl rfl rfl (.at 1 rfl rfl)) ?_
  refine t_v (.ldn rfl rfl rfl (.at 0 rfl rfl)) ?_
  refine t_v (.ldn rfl rfl rfl (.at 0 rfl rfl)) ?_
  obtain ⟨t380, h381, e⟩ := bind_of e
  refine t_v (.call (vs := [.agg #[.int .i64 a0_X, .int .i64 a0_Y], .agg #[.int .i64 b1_X, .int .i64 b1_Y], .agg #[.int .i64 b1_X, .int .i64 b1_Y]]) rfl rfl (by kernel_rfl) (plane_Dot.ok h381)) ?_
  refine t_qz 1 [4] (σ' := [(4, .int .i64 t380)]) (by kernel_rfl) ?_
  refine t_end ?_
  show W _ _ _ _ _ _ _
  refine w_ret ?_
  obtain rfl := Option.some.inj e
  exact ⟨[.int .i64 t380], [], S, ⟨rfl, trivial⟩, VS.none, rfl, rfl, rfl⟩

/-- plane.within$1 -/
def c117 : C :=
  (.seq (.reg [⟨(some 2), .mv (.const (.int .u64 0)), none⟩])
  (.seq (.reg [⟨(some 3), .mv (.tmp 0), none⟩,
     ⟨(some 4), .mv (.tmp 0), none⟩,
     ⟨(some 5), .un .neg (.tmp 4), none⟩,
     ⟨(some 6), .mm true [(.tmp 3), (.tmp 5)], none⟩,
     ⟨(some 7), .cnv .u64 (.tmp 6), none⟩,
     ⟨(some 2), .mv (.tmp 7), none⟩])
  .ret))
def plane_within_1.f (n0 : Int) : Option (Int) := some (wru64 (mx n0 (wr64 (0 - n0))))
theorem plane_within_1.ok {S : Seal} {n0 : Int} {r0_ : Int}(e : plane_within_1.f n0 = some r0_) :
    Cal Try.prog 117 [.int .i64 n0] [] S fun v H' S' => v = .int .u64 r0_ ∧ H' = [] ∧ S' = S := by
  unfold plane_within_1.f at e
  refine cal_of (c := c117) (N := 8) Try.func117 rfl rfl (by kernel_rfl) (rs := [.t 2]) (by kernel_rfl) (Nat.le_of_ble_eq_true rfl) ?_
  unfold c117
  refine w_seq ?_
  refine w_reg fun all => ?_
  refine t_qz 1 [0] (σ' := [(0, .int .i64 n0)]) (by kernel_rfl) ?_
  refine t_end ?_
  show W _ _ _ _ _ _ _
  refine w_seq ?_
  refine w_reg fun all => ?_
  refine t_qz 6 [2] (σ' := [(2, .int .u64 (wru64 (mx n0 (wr64 (0 - n0)))))]) (by kernel_rfl) ?_
  refine t_end ?_
  show W _ _ _ _ _ _ _
  refine w_ret ?_
  obtain rfl := Option.some.inj e
  exact ⟨[.int .u64 (wru64 (mx n0 (wr64 (0 - n0))))], [], S, ⟨rfl, trivial⟩, VS.none, rfl, rfl, rfl⟩

/-- plane.within -/
def c105 : C :=
  (.seq (.reg [⟨(some 8), .mv (.const (.bool false)), none⟩])
  (.seq (.reg [⟨(some 9), .mv (.func 117), none⟩])
  (.seq (.reg [⟨(some 15), .mv (.tmp 9), none⟩,
     ⟨(some 16), .mv (.tmp 0), none⟩,
     ⟨(some 17), .clo (.tmp 15) [(.tmp 16)], none⟩,
     ⟨(some 18), .mv (.tmp 9), none⟩,
     ⟨(some 19), .mv (.tmp 1), none⟩,
     ⟨(some 20), .clo (.tmp 18) [(.tmp 19)], none⟩,
     ⟨(some 21), .call 81 [(.tmp 17), (.tmp 20)], none⟩,
     ⟨(some 14), .mv (.tmp 21), none⟩,
     ⟨(some 22), .xt 0 (.tmp 14), none⟩,
     ⟨(some 23), .xt 1 (.tmp 14), none⟩,
     ⟨(some 10), .mv (.tmp 22), none⟩,
     ⟨(some 11), .mv (.tmp 23), none⟩])
  (.seq (.reg [⟨(some 25), .mv (.tmp 9), none⟩,
     ⟨(some 26), .mv (.tmp 2), none⟩,
     ⟨(some 27), .clo (.tmp 25) [(.tmp 26)], none⟩,
     ⟨(some 28), .mv (.tmp 9), none⟩,
     ⟨(some 29), .mv (.tmp 3), none⟩,
     ⟨(some 30), .clo (.tmp 28) [(.tmp 29)], none⟩,
     ⟨(some 31), .call 81 [(.tmp 27), (.tmp 30)], none⟩,
     ⟨(some 24), .mv (.tmp 31), none⟩,
     ⟨(some 32), .xt 0 (.tmp 24), none⟩,
     ⟨(some 33), .xt 1 (.tmp 24), none⟩,
     ⟨(some 12), .mv (.tmp 32), none⟩,
     ⟨(some 13), .mv (.tmp 33), none⟩])
  (.seq (.reg [⟨(some 34), .mv (.tmp 10), none⟩,
     ⟨(some 35), .mv (.tmp 12), none⟩,
     ⟨(some 36), .bin .lss (.tmp 34) (.tmp 35), none⟩,
     ⟨(some 37), .mv (.tmp 36), none⟩,
     ⟨(some 38), .mv (.tmp 10), (some (37, false))⟩,
     ⟨(some 39), .mv (.tmp 12), (some (37, false))⟩,
     ⟨(some 40), .bin .eql (.tmp 38) (.tmp 39), (some (37, false))⟩,
     ⟨(some 41), .mv (.tmp 40), (some (37, false))⟩,
     ⟨(some 42), .mv (.tmp 11), (some (41, true))⟩,
     ⟨(some 43), .mv (.tmp 13), (some (41, true))⟩,
     ⟨(some 44), .bin .leq (.tmp 42) (.tmp 43), (some (41, true))⟩,
     ⟨(some 45), .pk (.tmp 41) (.tmp 44) (.const (.bool false)), (some (37, false))⟩,
     ⟨(some 46), .pk (.tmp 37) (.const (.bool true)) (.tmp 45), none⟩,
     ⟨(some 8), .mv (.tmp 46), none⟩])
  .ret)))))
def plane_within.f (a0 : Int) (b1 : Int) (c2 : Int) (d3 : Int) : Option (Bool) := (plane_within_1.f a0).bind fun t372 => ((plane_within_1.f b1).bind fun t374 => ((bits_Mul64.f t372 t374).bind fun (t376, t377) => ((plane_within_1.f c2).bind fun t379 => ((plane_within_1.f d3).bind fun t381 => ((bits_Mul64.f t379 t381).bind fun (t383, t384) => (if t376 < t383 then (some true) else (if t376 = t383 then (some (decide (t377 ≤ t384))) else (some false))))))))
theorem plane_within.ok {S : Seal} {a0 : Int} {b1 : Int} {c2 : Int} {d3 : Int} {r0_ : Bool}(e : plane_within.f a0 b1 c2 d3 = some r0_) :
    Cal Try.prog 105 [.int .i64 a0, .int .i64 b1, .int .i64 c2, .int .i64 d3] [] S fun v H' S' => v = .bool r0_ ∧ H' = [] ∧ S' = S := by
  unfold plane_within.f at e
  refine cal_of (c := c105) (N := 47) Try.func105 rfl rfl (by kernel_rfl) (rs := [.t 8]) (by kernel_rfl) (Nat.le_of_ble_eq_true rfl) ?_
  unfold c105
  refine w_seq ?_
  refine w_reg fun all => ?_
  refine t_qz 1 [0, 1, 2, 3] (σ' := [(0, .int .i64 a0), (1, .int .i64 b1), (2, .int .i64 c2), (3, .int .i64 d3)]) (by kernel_rfl) ?_
  refine t_end ?_
  show W _ _ _ _ _ _ _
  refine w_seq ?_
  refine w_reg fun all => ?_
  refine t_qz 1 [0, 1, 2, 3, 9] (σ' := [(0, .int .i64 a0), (1, .int .i64 b1), (2, .int .i64 c2), (3, .int .i64 d3), (9, .func (.func 117) #[] #[])]) (by kernel_rfl) ?_
  refine t_end ?_
  show W _ _ _ _ _ _ _
  refine w_seq ?_
  refine w_reg fun all => ?_
  obtain ⟨t372, h373, e⟩ := bind_of e
  refine t_qz 2 [1, 2, 3, 9, 15, 16] (σ' := [(1, .int .i64 b1), (2, .int .i64 c2), (3, .int .i64 d3), (9, .func (.func 117) #[] #[]), (15, .func (.func 117) #[] #[]), (16, .int .i64 a0)]) (by kernel_rfl) ?_
  refine t_v (.clor (vs := [.int .i64 a0]) (caps := #[]) (A := ([] : List Own)) (F0 := ([] : List Own)) rfl rfl rfl (by kernel_rfl) (by kernel_rfl) (sel_perm (is := []) (by kernel_rfl)) (plane_within_1.ok h373)) ?_
  obtain ⟨t374, h375, e⟩ := bind_of e
  refine t_qz 2 [2, 3, 9, 17, 18, 19] (σ' := [(2, .int .i64 c2), (3, .int .i64 d3), (9, .func (.func 117) #[] #[]), (17, .int .u64 t372), (18, .func (.func 117) #[] #[]), (19, .int .i64 b1)]) (by kernel_rfl) ?_
  refine t_v (.clor (vs := [.int .i64 b1]) (caps := #[]) (A := ([] : List Own)) (F0 := ([] : List Own)) rfl rfl rfl (by kernel_rfl) (by kernel_rfl) (sel_perm (is := []) (by kernel_rfl)) (plane_within_1.ok h375)) ?_
  obtain ⟨⟨t376, t377⟩, h378, e⟩ := bind_of e
  try dsimp only at e
  refine t_v (.call (vs := [.int .u64 t372, .int .u64 t374]) rfl rfl (by kernel_rfl) (bits_Mul64.ok h378)) ?_
  refine t_qz 5 [2, 3, 9, 10, 11] (σ' := [(2, .int .i64 c2), (3, .int .i64 d3), (9, .func (.func 117) #[] #[]), (10, .int .u64 t376), (11, .int .u64 t377)]) (by kernel_rfl) ?_
  refine t_end ?_
  show W _ _ _ _ _ _ _
  refine w_seq ?_
  refine w_reg fun all => ?_
  obtain ⟨t379, h380, e⟩ := bind_of e
  refine t_qz 2 [3, 9, 10, 11, 25, 26] (σ' := [(3, .int .i64 d3), (9, .func (.func 117) #[] #[]), (10, .int .u64 t376), (11, .int .u64 t377), (25, .func (.func 117) #[] #[]), (26, .int .i64 c2)]) (by kernel_rfl) ?_
  refine t_v (.clor (vs := [.int .i64 c2]) (caps := #[]) (A := ([] : List Own)) (F0 := ([] : List Own)) rfl rfl rfl (by kernel_rfl) (by kernel_rfl) (sel_perm (is := []) (by kernel_rfl)) (plane_within_1.ok h380)) ?_
  obtain ⟨t381, h382, e⟩ := bind_of e
  refine t_qz 2 [10, 11, 27, 28, 29] (σ' := [(10, .int .u64 t376), (11, .int .u64 t377), (27, .int .u64 t379), (28, .func (.func 117) #[] #[]), (29, .int .i64 d3)]) (by kernel_rfl) ?_
  refine t_v (.clor (vs := [.int .i64 d3]) (caps := #[]) (A := ([] : List Own)) (F0 := ([] : List Own)) rfl rfl rfl (by kernel_rfl) (by kernel_rfl) (sel_perm (is := []) (by kernel_rfl)) (plane_within_1.ok h382)) ?_
  obtain ⟨⟨t383, t384⟩, h385, e⟩ := bind_of e
  try dsimp only at e
  refine t_v (.call (vs := [.int .u64 t379, .int .u64 t381]) rfl rfl (by kernel_rfl) (bits_Mul64.ok h385)) ?_
  refine t_qz 5 [10, 11, 12, 13] (σ' := [(10, .int .u64 t376), (11, .int .u64 t377), (12, .int .u64 t383), (13, .int .u64 t384)]) (by kernel_rfl) ?_
  refine t_end ?_
  show W _ _ _ _ _ _ _
  refine w_seq ?_
  refine w_reg fun all => ?_
  by_cases c386 : t376 < t383
  · rw [if_pos c386] at e
    have c386b : (decide (t376 < t383)) = true := decide_eq_true c386
    refine t_qz 2 [10, 11, 12, 13, 34, 35] (σ' := [(10, .int .u64 t376), (11, .int .u64 t377), (12, .int .u64 t383), (13, .int .u64 t384), (34, .int .u64 t376), (35, .int .u64 t383)]) (by kernel_rfl) ?_
    refine t_v (dv_quiet rfl (congrArg (fun t => some (Value.bool t)) c386b)) ?_
    refine t_qz 11 [8] (σ' := [(8, .bool true)]) (by kernel_rfl) ?_
    refine t_end ?_
    show W _ _ _ _ _ _ _
    refine w_ret ?_
    obtain rfl := Option.some.inj e
    exact ⟨[.bool true], [], S, ⟨rfl, trivial⟩, VS.none, rfl, rfl, rfl⟩
  · rw [if_neg c386] at e
    have c386b : (decide (t376 < t383)) = false := decide_eq_false c386
    refine t_qz 2 [10, 11, 12, 13, 34, 35] (σ' := [(10, .int .u64 t376), (11, .int .u64 t377), (12, .int .u64 t383), (13, .int .u64 t384), (34, .int .u64 t376), (35, .int .u64 t383)]) (by kernel_rfl) ?_
    refine t_v (dv_quiet rfl (congrArg (fun t => some (Value.bool t)) c386b)) ?_
    by_cases c387 : t376 = t383
    · rw [if_pos c387] at e
      have c387b : (t376 == t383) = true := beq_iff_eq.mpr c387
      refine t_qz 3 [11, 13, 37, 38, 39] (σ' := [(11, .int .u64 t377), (13, .int .u64 t384), (37, .bool false), (38, .int .u64 t376), (39, .int .u64 t383)]) (by kernel_rfl) ?_
      refine t_v (dv_quiet rfl (congrArg (fun t => some (Value.bool t)) c387b)) ?_
      refine t_qz 7 [8] (σ' := [(8, .bool (decide (t377 ≤ t384)))]) (by kernel_rfl) ?_
      refine t_end ?_
      show W _ _ _ _ _ _ _
      refine w_ret ?_
      obtain rfl := Option.some.inj e
      exact ⟨[.bool (decide (t377 ≤ t384))], [], S, ⟨rfl, trivial⟩, VS.none, rfl, rfl, rfl⟩
    · rw [if_neg c387] at e
      have c387b : (t376 == t383) = false := beq_eq_false_iff_ne.mpr c387
      refine t_qz 3 [11, 13, 37, 38, 39] (σ' := [(11, .int .u64 t377), (13, .int .u64 t384), (37, .bool false), (38, .int .u64 t376), (39, .int .u64 t383)]) (by kernel_rfl) ?_
      refine t_v (dv_quiet rfl (congrArg (fun t => some (Value.bool t)) c387b)) ?_
      refine t_qz 7 [8] (σ' := [(8, .bool false)]) (by kernel_rfl) ?_
      refine t_end ?_
      show W _ _ _ _ _ _ _
      refine w_ret ?_
      obtain rfl := Option.some.inj e
      exact ⟨[.bool false], [], S, ⟨rfl, trivial⟩, VS.none, rfl, rfl, rfl⟩

/-- plane.Near -/
def c65 : C :=
  (.seq (.reg [⟨(some 4), .box (.tmp 0), none⟩,
     ⟨(some 5), .box (.tmp 1), none⟩,
     ⟨(some 6), .box (.tmp 2), none⟩,
     ⟨(some 8), .mv (.const (.bool false)), none⟩])
  (.seq (.drw [⟨(some 12), .ld (some 2) (.tmp 4), none⟩,
     ⟨(some 13), .ld (some 2) (.tmp 5), none⟩,
     ⟨(some 14), .ld (some 2) (.tmp 6), none⟩,
     ⟨(some 15), .call 104 [(.tmp 12), (.tmp 13), (.tmp 14)], none⟩,
     ⟨(some 16), .ld (some 2) (.tmp 4), none⟩,
     ⟨(some 17), .ld (some 2) (.tmp 5), none⟩,
     ⟨(some 18), .call 90 [(.tmp 16), (.tmp 17)], none⟩,
     ⟨(some 9), .mv (.tmp 15), none⟩,
     ⟨(some 10), .mv (.tmp 18), none⟩] [[], [], [], [0, 1, 2], [], [], [4, 5, 3], [3, 6, 0, 1, 2, 3], [6, 7, 0, 1, 2, 3, 4, 5, 6, 7]])
  (.seq (.block 0 (.seq (.reg [⟨(some 20), .mv (.tmp 9), none⟩,
       ⟨(some 21), .bin .leq (.tmp 20) (.const (.int .i64 0)), none⟩,
       ⟨(some 19), .mv (.tmp 21), none⟩])
    (.cond (.tmp 19)
     (.seq (.reg [⟨(some 22), .ld (some 2) (.tmp 4), none⟩,
         ⟨(some 23), .ld (some 2) (.tmp 6), none⟩,
         ⟨(some 24), .call 90 [(.tmp 22), (.tmp 23)], none⟩,
         ⟨(some 25), .mv (.tmp 3), none⟩,
         ⟨(some 26), .mv (.tmp 3), none⟩,
         ⟨(some 27), .call 105 [(.const (.int .i64 4)), (.tmp 24), (.tmp 25), (.tmp 26)], none⟩,
         ⟨(some 8), .mv (.tmp 27), none⟩])
      .ret)
     (.seq (.reg [⟨(some 29), .mv (.tmp 9), none⟩,
         ⟨(some 30), .mv (.tmp 10), none⟩,
         ⟨(some 31), .bin .geq (.tmp 29) (.tmp 30), none⟩,
         ⟨(some 28), .mv (.tmp 31), none⟩])
      (.cond (.tmp 28)
       (.seq (.reg [⟨(some 32), .ld (some 2) (.tmp 5), none⟩,
           ⟨(some 33), .ld (some 2) (.tmp 6), none⟩,
           ⟨(some 34), .call 90 [(.tmp 32), (.tmp 33)], none⟩,
           ⟨(some 35), .mv (.tmp 3), none⟩,
           ⟨(some 36), .mv (.tmp 3), none⟩,
           ⟨(some 37), .call 105 [(.const (.int .i64 4)), (.tmp 34), (.tmp 35), (.tmp 36)], none⟩,
           ⟨(some 8), .mv (.tmp 37), none⟩])
        .ret)
       .skip)))))
  (.seq (.reg [⟨(some 38), .ld (some 2) (.tmp 4), none⟩,
     ⟨(some 39), .ld (some 2) (.tmp 5), none⟩,
     ⟨(some 40), .ld (some 2) (.tmp 6), none⟩,
     ⟨(some 41), .call 106 [(.tmp 38), (.tmp 39), (.tmp 40)], none⟩,
     ⟨(some 42), .bin .mul (.const (.int .i64 2)) (.tmp 41), none⟩,
     ⟨(some 11), .mv (.tmp 42), none⟩])
  (.seq (.reg [⟨(some 43), .mv (.tmp 11), none⟩,
     ⟨(some 44), .mv (.tmp 11), none⟩,
     ⟨(some 45), .mv (.tmp 3), none⟩,
     ⟨(some 46), .mv (.tmp 3), none⟩,
     ⟨(some 47), .bin .mul (.tmp 45) (.tmp 46), none⟩,
     ⟨(some 48), .mv (.tmp 10), none⟩,
     ⟨(some 49), .call 105 [(.tmp 43), (.tmp 44), (.tmp 47), (.tmp 48)], none⟩,
     ⟨(some 8), .mv (.tmp 49), none⟩])
  .ret)))))
def plane_Near.f (a0_X : Int) (a0_Y : Int) (b1_X : Int) (b1_Y : Int) (p2_X : Int) (p2_Y : Int) (w3 : Int) : Option (Bool) := (plane_Dot.f a0_X a0_Y b1_X b1_Y p2_X p2_Y).bind fun t365 => ((plane_Len2.f a0_X a0_Y b1_X b1_Y).bind fun t367 => (if t365 ≤ 0 then ((plane_Len2.f a0_X a0_Y p2_X p2_Y).bind fun t370 => ((plane_within.f 4 t370 w3 w3).bind fun t372 => (some t372))) else (if t365 ≥ t367 then ((plane_Len2.f b1_X b1_Y p2_X p2_Y).bind fun t375 => ((plane_within.f 4 t375 w3 w3).bind fun t377 => (some t377))) else ((plane_Cross.f a0_X a0_Y b1_X b1_Y p2_X p2_Y).bind fun t379 => ((plane_within.f (wr64 (2 * t379)) (wr64 (2 * t379)) (wr64 (w3 * w3)) t367).bind fun t381 => (some t381))))))
theorem plane_Near.ok {S : Seal} {a0_X : Int} {a0_Y : Int} {b1_X : Int} {b1_Y : Int} {p2_X : Int} {p2_Y : Int} {w3 : Int} {r0_ : Bool}(e : plane_Near.f a0_X a0_Y b1_X b1_Y p2_X p2_Y w3 = some r0_) :
    Cal Try.prog 65 [.agg #[.int .i64 a0_X, .int .i64 a0_Y], .agg #[.int .i64 b1_X, .int .i64 b1_Y], .agg #[.int .i64 p2_X, .int .i64 p2_Y], .int .i64 w3] [] S fun v H' S' => v = .bool r0_ ∧ H' = [] ∧ S' = S := by
  unfold plane_Near.f at e
  refine cal_of (c := c65) (N := 50) Try.func65 rfl rfl (by kernel_rfl) (rs := [.t 8]) (by kernel_rfl) (Nat.le_of_ble_eq_true rfl) ?_
  unfold c65
  refine w_seq ?_
  refine w_reg fun all => ?_
  refine t_a (.box rfl rfl rfl) fun b362 fb362 sb362 => ?_
  refine t_a (.box rfl rfl rfl) fun b363 fb363 sb363 => ?_
  refine t_a (.box rfl rfl rfl) fun b364 fb364 sb364 => ?_
  refine t_qz 1 [3, 4, 5, 6] (σ' := [(3, .int .i64 w3), (4, .pointer (some ⟨b362, 0, none⟩)), (5, .pointer (some ⟨b363, 0, none⟩)), (6, .pointer (some ⟨b364, 0, none⟩))]) (by kernel_rfl) ?_
  refine t_end ?_
  show W _ _ _ _ _ _ _
  refine w_seq ?_
  obtain ⟨t365, h366, e⟩ := bind_of e
  obtain ⟨t367, h368, e⟩ := bind_of e
  refine w_drwE mixed 9 [.v (.agg #[.int .i64 a0_X, .int .i64 a0_Y]), .v (.agg #[.int .i64 b1_X, .int .i64 b1_Y]), .v (.agg #[.int .i64 p2_X, .int .i64 p2_Y]), .v (.int .i64 t365), .v (.agg #[.int .i64 a0_X, .int .i64 a0_Y]), .v (.agg #[.int .i64 b1_X, .int .i64 b1_Y]), .v (.int .i64 t367), .v (.int .i64 t365), .v (.int .i64 t367)] (by kernel_rfl) ?_ ?_
  · refine .cons (.ldn rfl rfl rfl (.at 2 rfl rfl)) ?_
    refine .cons (.ldn rfl rfl rfl (.at 1 rfl rfl)) ?_
    refine .cons (.ldn rfl rfl rfl (.at 0 rfl rfl)) ?_
    refine .cons (.call (vs := [.agg #[.int .i64 a0_X, .int .i64 a0_Y], .agg #[.int .i64 b1_X, .int .i64 b1_Y], .agg #[.int .i64 p2_X, .int .i64 p2_Y]]) rfl rfl (by kernel_rfl) (plane_Dot.ok h366)) ?_
    refine .cons (.ldn rfl rfl rfl (.at 2 rfl rfl)) ?_
    refine .cons (.ldn rfl rfl rfl (.at 1 rfl rfl)) ?_
    refine .cons (.call (vs := [.agg #[.int .i64 a0_X, .int .i64 a0_Y], .agg #[.int .i64 b1_X, .int .i64 b1_Y]]) rfl rfl (by kernel_rfl) (plane_Len2.ok h368)) ?_
    refine DI.sq 2 (by kernel_rfl) rfl ?_
    exact .nil
  refine fk_q 9 [3, 4, 5, 6, 9, 10] (σ' := [(3, .int .i64 w3), (4, .pointer (some ⟨b362, 0, none⟩)), (5, .pointer (some ⟨b363, 0, none⟩)), (6, .pointer (some ⟨b364, 0, none⟩)), (9, .int .i64 t365), (10, .int .i64 t367)]) t_more (by kernel_rfl) ?_
  refine fk_nil fun all => ?_
  refine t_keep [3, 4, 5, 6, 9, 10] (σ' := [(3, .int .i64 w3), (4, .pointer (some ⟨b362, 0, none⟩)), (5, .pointer (some ⟨b363, 0, none⟩)), (6, .pointer (some ⟨b364, 0, none⟩)), (9, .int .i64 t365), (10, .int .i64 t367)]) (by kernel_rfl) ?_
  refine t_end ?_
  show W _ _ _ _ _ _ _
  refine w_seq ?_
  refine w_block ?_
  refine w_seq ?_
  refine w_reg fun all => ?_
  by_cases c369 : t365 ≤ 0
  · rw [if_pos c369] at e
    have c369b : (decide (t365 ≤ 0)) = true := decide_eq_true c369
    refine t_qz 1 [3, 4, 5, 6, 9, 10, 20] (σ' := [(3, .int .i64 w3), (4, .pointer (some ⟨b362, 0, none⟩)), (5, .pointer (some ⟨b363, 0, none⟩)), (6, .pointer (some ⟨b364, 0, none⟩)), (9, .int .i64 t365), (10, .int .i64 t367), (20, .int .i64 t365)]) (by kernel_rfl) ?_
    refine t_v (dv_quiet rfl (congrArg (fun t => some (Value.bool t)) c369b)) ?_
    refine t_qz 1 [3, 4, 5, 6, 9, 10, 19] (σ' := [(3, .int .i64 w3), (4, .pointer (some ⟨b362, 0, none⟩)), (5, .pointer (some ⟨b363, 0, none⟩)), (6, .pointer (some ⟨b364, 0, none⟩)), (9, .int .i64 t365), (10, .int .i64 t367), (19, .bool true)]) (by kernel_rfl) ?_
    refine t_end ?_
    show W _ _ _ _ _ _ _
    refine w_cond rfl (fun _ => ?_) (fun c_ => by cases c_)
    show W _ _ _ _ _ _ _
    refine w_seq ?_
    refine w_reg fun all => ?_
    refine t_v (.ldn rfl rfl rfl (.at 2 rfl rfl)) ?_
    refine t_v (.ldn rfl rfl rfl (.at 0 rfl rfl)) ?_
    obtain ⟨t370, h371, e⟩ := bind_of e
    refine t_v (.call (vs := [.agg #[.int .i64 a0_X, .int .i64 a0_Y], .agg #[.int .i64 p2_X, .int .i64 p2_Y]]) rfl rfl (by kernel_rfl) (plane_Len2.ok h371)) ?_
    obtain ⟨t372, h373, e⟩ := bind_of e
    refine t_qz 2 [24, 25, 26] (σ' := [(24, .int .i64 t370), (25, .int .i64 w3), (26, .int .i64 w3)]) (by kernel_rfl) ?_
    refine t_v (.call (vs := [.int .i64 4, .int .i64 t370, .int .i64 w3, .int .i64 w3]) rfl rfl (by kernel_rfl) (plane_within.ok h373)) ?_
    refine t_qz 1 [8] (σ' := [(8, .bool t372)]) (by kernel_rfl) ?_
    refine t_end ?_
    show W _ _ _ _ _ _ _
    refine w_ret ?_
    obtain rfl := Option.some.inj e
    exact ⟨[.bool t372], [], S, ⟨rfl, trivial⟩, VS.none, rfl, rfl, rfl⟩
  · rw [if_neg c369] at e
    have c369b : (decide (t365 ≤ 0)) = false := decide_eq_false c369
    refine t_qz 1 [3, 4, 5, 6, 9, 10, 20] (σ' := [(3, .int .i64 w3), (4, .pointer (some ⟨b362, 0, none⟩)), (5, .pointer (some ⟨b363, 0, none⟩)), (6, .pointer (some ⟨b364, 0, none⟩)), (9, .int .i64 t365), (10, .int .i64 t367), (20, .int .i64 t365)]) (by kernel_rfl) ?_
    refine t_v (dv_quiet rfl (congrArg (fun t => some (Value.bool t)) c369b)) ?_
    refine t_qz 1 [3, 4, 5, 6, 9, 10, 19] (σ' := [(3, .int .i64 w3), (4, .pointer (some ⟨b362, 0, none⟩)), (5, .pointer (some ⟨b363, 0, none⟩)), (6, .pointer (some ⟨b364, 0, none⟩)), (9, .int .i64 t365), (10, .int .i64 t367), (19, .bool false)]) (by kernel_rfl) ?_
    refine t_end ?_
    show W _ _ _ _ _ _ _
    refine w_cond rfl (fun c_ => by cases c_) (fun _ => ?_)
    show W _ _ _ _ _ _ _
    refine w_seq ?_
    refine w_reg fun all => ?_
    by_cases c374 : t365 ≥ t367
    · rw [if_pos c374] at e
      have c374b : (decide (t365 ≥ t367)) = true := decide_eq_true c374
      refine t_qz 2 [3, 4, 5, 6, 10, 29, 30] (σ' := [(3, .int .i64 w3), (4, .pointer (some ⟨b362, 0, none⟩)), (5, .pointer (some ⟨b363, 0, none⟩)), (6, .pointer (some ⟨b364, 0, none⟩)), (10, .int .i64 t367), (29, .int .i64 t365), (30, .int .i64 t367)]) (by kernel_rfl) ?_
      refine t_v (dv_quiet rfl (congrArg (fun t => some (Value.bool t)) c374b)) ?_
      refine t_qz 1 [3, 4, 5, 6, 10, 28] (σ' := [(3, .int .i64 w3), (4, .pointer (some ⟨b362, 0, none⟩)), (5, .pointer (some ⟨b363, 0, none⟩)), (6, .pointer (some ⟨b364, 0, none⟩)), (10, .int .i64 t367), (28, .bool true)]) (by kernel_rfl) ?_
      refine t_end ?_
      show W _ _ _ _ _ _ _
      refine w_cond rfl (fun _ => ?_) (fun c_ => by cases c_)
      show W _ _ _ _ _ _ _
      refine w_seq ?_
      refine w_reg fun all => ?_
      refine t_v (.ldn rfl rfl rfl (.at 1 rfl rfl)) ?_
      refine t_v (.ldn rfl rfl rfl (.at 0 rfl rfl)) ?_
      obtain ⟨t375, h376, e⟩ := bind_of e
      refine t_v (.call (vs := [.agg #[.int .i64 b1_X, .int .i64 b1_Y], .agg #[.int .i64 p2_X, .int .i64 p2_Y]]) rfl rfl (by kernel_rfl) (plane_Len2.ok h376)) ?_
      obtain ⟨t377, h378, e⟩ := bind_of e
      refine t_qz 2 [34, 35, 36] (σ' := [(34, .int .i64 t375), (35, .int .i64 w3), (36, .int .i64 w3)]) (by kernel_rfl) ?_
      refine t_v (.call (vs := [.int .i64 4, .int .i64 t375, .int .i64 w3, .int .i64 w3]) rfl rfl (by kernel_rfl) (plane_within.ok h378)) ?_
      refine t_qz 1 [8] (σ' := [(8, .bool t377)]) (by kernel_rfl) ?_
      refine t_end ?_
      show W _ _ _ _ _ _ _
      refine w_ret ?_
      obtain rfl := Option.some.inj e
      exact ⟨[.bool t377], [], S, ⟨rfl, trivial⟩, VS.none, rfl, rfl, rfl⟩
    · rw [if_neg c374] at e
      have c374b : (decide (t365 ≥ t367)) = false := decide_eq_false c374
      refine t_qz 2 [3, 4, 5, 6, 10, 29, 30] (σ' := [(3, .int .i64 w3), (4, .pointer (some ⟨b362, 0, none⟩)), (5, .pointer (some ⟨b363, 0, none⟩)), (6, .pointer (some ⟨b364, 0, none⟩)), (10, .int .i64 t367), (29, .int .i64 t365), (30, .int .i64 t367)]) (by kernel_rfl) ?_
      refine t_v (dv_quiet rfl (congrArg (fun t => some (Value.bool t)) c374b)) ?_
      refine t_qz 1 [3, 4, 5, 6, 10, 28] (σ' := [(3, .int .i64 w3), (4, .pointer (some ⟨b362, 0, none⟩)), (5, .pointer (some ⟨b363, 0, none⟩)), (6, .pointer (some ⟨b364, 0, none⟩)), (10, .int .i64 t367), (28, .bool false)]) (by kernel_rfl) ?_
      refine t_end ?_
      show W _ _ _ _ _ _ _
      refine w_cond rfl (fun c_ => by cases c_) (fun _ => ?_)
      show W _ _ _ _ _ _ _
      refine w_skip ?_
      show W _ _ _ _ _ _ _
      refine w_seq ?_
      refine w_reg fun all => ?_
      refine t_v (.ldn rfl rfl rfl (.at 2 rfl rfl)) ?_
      refine t_v (.ldn rfl rfl rfl (.at 1 rfl rfl)) ?_
      refine t_v (.ldn rfl rfl rfl (.at 0 rfl rfl)) ?_
      obtain ⟨t379, h380, e⟩ := bind_of e
      refine t_v (.call (vs := [.agg #[.int .i64 a0_X, .int .i64 a0_Y], .agg #[.int .i64 b1_X, .int .i64 b1_Y], .agg #[.int .i64 p2_X, .int .i64 p2_Y]]) rfl rfl (by kernel_rfl) (plane_Cross.ok h380)) ?_
      refine t_qz 2 [3, 10, 11] (σ' := [(3, .int .i64 w3), (10, .int .i64 t367), (11, .int .i64 (wr64 (2 * t379)))]) (by kernel_rfl) ?_
      refine t_end ?_
      show W _ _ _ _ _ _ _
      refine w_seq ?_
      refine w_reg fun all => ?_
      obtain ⟨t381, h382, e⟩ := bind_of e
      refine t_qz 6 [43, 44, 47, 48] (σ' := [(43, .int .i64 (wr64 (2 * t379))), (44, .int .i64 (wr64 (2 * t379))), (47, .int .i64 (wr64 (w3 * w3))), (48, .int .i64 t367)]) (by kernel_rfl) ?_
      refine t_v (.call (vs := [.int .i64 (wr64 (2 * t379)), .int .i64 (wr64 (2 * t379)), .int .i64 (wr64 (w3 * w3)), .int .i64 t367]) rfl rfl (by kernel_rfl) (plane_within.ok h382)) ?_
      refine t_qz 1 [8] (σ' := [(8, .bool t381)]) (by kernel_rfl) ?_
      refine t_end ?_
      show W _ _ _ _ _ _ _
      refine w_ret ?_
      obtain rfl := Option.some.inj e
      exact ⟨[.bool t381], [], S, ⟨rfl, trivial⟩, VS.none, rfl, rfl, rfl⟩

/-- stroke.Near$1 -/
def c64 : C :=
  (.seq (.reg [⟨(some 3), .box (.tmp 0), none⟩,
     ⟨(some 4), .mv (.const (.bool false)), none⟩])
  (.seq (.reg [⟨(some 5), .pad 0 (.tmp 3), none⟩,
     ⟨(some 6), .ld (some 2) (.tmp 5), none⟩,
     ⟨(some 7), .pad 2 (.tmp 3), none⟩,
     ⟨(some 8), .ld (some 2) (.tmp 7), none⟩,
     ⟨(some 9), .ld (some 2) (.tmp 1), none⟩,
     ⟨(some 10), .ld none (.tmp 2), none⟩,
     ⟨(some 11), .call 65 [(.tmp 6), (.tmp 8), (.tmp 9), (.tmp 10)], none⟩,
     ⟨(some 4), .mv (.tmp 11), none⟩])
  .ret))
def stroke_Near_1_v1.f (e0_0 : Int) (e0_1 : Int) (e0_2 : Int) (e0_3 : Int) (m0_0 : Int) (m0_1 : Int) (m1_0 : Int) : Option (Bool) := (plane_Near.f e0_0 e0_1 e0_2 e0_3 m0_0 m0_1 m1_0).bind fun t383 => (some t383)
theorem stroke_Near_1_v1.ok {S : Seal} {B0 : Nat} {B1 : Nat} {e0_0 : Int} {e0_1 : Int} {e0_2 : Int} {e0_3 : Int} {m0_0 : Int} {m0_1 : Int} {m1_0 : Int} {r0_ : Bool}(e : stroke_Near_1_v1.f e0_0 e0_1 e0_2 e0_3 m0_0 m0_1 m1_0 = some r0_) :
    Cal Try.prog 64 [.agg #[.int .i64 e0_0, .int .i64 e0_1, .int .i64 e0_2, .int .i64 e0_3], .pointer (some ⟨B0, 0, none⟩), .pointer (some ⟨B1, 0, none⟩)] ([⟨B0, [.int .i64 m0_0, .int .i64 m0_1], 2⟩, ⟨B1, [.int .i64 m1_0], 1⟩] : List Own) S fun v H' S' => v = .bool r0_ ∧ H' = ([⟨B0, [.int .i64 m0_0, .int .i64 m0_1], 2⟩, ⟨B1, [.int .i64 m1_0], 1⟩] : List Own) ∧ S' = S := by
  unfold stroke_Near_1_v1.f at e
  refine cal_of (c := c64) (N := 12) Try.func64 rfl rfl (by kernel_rfl) (rs := [.t 4]) (by kernel_rfl) (Nat.le_of_ble_eq_true rfl) ?_
  unfold c64
  refine w_seq ?_
  refine w_reg fun all => ?_
  refine t_a (.box rfl rfl rfl) fun b361 fb361 sb361 => ?_
  refine t_qz 1 [1, 2, 3] (σ' := [(1, .pointer (some ⟨B0, 0, none⟩)), (2, .pointer (some ⟨B1, 0, none⟩)), (3, .pointer (some ⟨b361, 0, none⟩))]) (by kernel_rfl) ?_
  refine t_end ?_
  show W _ _ _ _ _ _ _
  refine w_seq ?_
  refine w_reg fun all => ?_
  refine t_qz 1 [1, 2, 3, 5] (σ' := [(1, .pointer (some ⟨B0, 0, none⟩)), (2, .pointer (some ⟨B1, 0, none⟩)), (3, .pointer (some ⟨b361, 0, none⟩)), (5, .pointer (some ⟨b361, 0, none⟩))]) (by kernel_rfl) ?_
  refine t_v (.ldn rfl rfl rfl (.at 0 rfl rfl)) ?_
  refine t_qz 1 [1, 2, 6, 7] (σ' := [(1, .pointer (some ⟨B0, 0, none⟩)), (2, .pointer (some ⟨B1, 0, none⟩)), (6, .agg #[.int .i64 e0_0, .int .i64 e0_1]), (7, .pointer (some ⟨b361, 2, none⟩))]) (by kernel_rfl) ?_
  refine t_v (.ldn rfl rfl rfl (.at 0 rfl rfl)) ?_
  refine t_v (.ldn rfl rfl rfl (.at 1 rfl rfl)) ?_
  refine t_v (.ld1 rfl rfl rfl (.at 2 rfl rfl)) ?_
  obtain ⟨t383, h384, e⟩ := bind_of e
  refine t_v (.call (vs := [.agg #[.int .i64 e0_0, .int .i64 e0_1], .agg #[.int .i64 e0_2, .int .i64 e0_3], .agg #[.int .i64 m0_0, .int .i64 m0_1], .int .i64 m1_0]) rfl rfl (by kernel_rfl) (plane_Near.ok h384)) ?_
  refine t_qz 1 [4] (σ' := [(4, .bool t383)]) (by kernel_rfl) ?_
  refine t_end ?_
  show W _ _ _ _ _ _ _
  refine w_ret ?_
  obtain rfl := Option.some.inj e
  exact ⟨[.bool t383], ([⟨B0, [.int .i64 m0_0, .int .i64 m0_1], 2⟩, ⟨B1, [.int .i64 m1_0], 1⟩] : List Own), S, ⟨rfl, trivial⟩, VS.sel [1, 1] (by kernel_rfl), rfl, rfl, rfl⟩

/-- slices.IndexFunc[[]api.Edge,api.Edge] -/
def c103 : C :=
  (.seq (.reg [⟨(some 4), .mv (.const (.int .i64 0)), none⟩])
  (.seq (.seq (.reg [⟨(some 6), .mv (.tmp 0), none⟩,
      ⟨(some 7), .lns (.tmp 6), none⟩,
      ⟨(some 8), .mv (.const (.int .i64 0)), none⟩])
   (.block 0 (.loop (.seq (.reg [⟨(some 9), .bin .lss (.tmp 8) (.tmp 7), none⟩])
     (.seq (.cond (.tmp 9)
       .skip
       (.exit 0))
     (.seq (.block 1 (.seq (.reg [⟨(some 10), .mv (.tmp 8), none⟩,
          ⟨(some 5), .mv (.tmp 10), none⟩])
       (.seq (.reg [⟨(some 11), .mv (.tmp 1), none⟩,
          ⟨(some 12), .mv (.tmp 0), none⟩,
          ⟨(some 13), .mv (.tmp 5), none⟩,
          ⟨(some 14), .ixs 4 (.tmp 12) (.tmp 13), none⟩,
          ⟨(some 15), .ld (some 4) (.tmp 14), none⟩,
          ⟨(some 16), .clo (.tmp 11) [(.tmp 15)], none⟩])
       (.cond (.tmp 16)
        (.seq (.reg [⟨(some 17), .mv (.tmp 5), none⟩,
            ⟨(some 4), .mv (.tmp 17), none⟩])
         .ret)
        .skip))))
     (.reg [⟨(some 18), .bin .add (.tmp 8) (.const (.int .i64 1)), none⟩,
       ⟨(some 8), .mv (.tmp 18), none⟩])))))))
  (.seq (.reg [⟨(some 4), .mv (.const (.int .i64 (-1))), none⟩])
  .ret)))
def api_Edge_v2.l0 : Nat → List (Int × Int × Int × Int) → Int → Int → Int → Int → Option ((Int) ⊕ (Unit))
  | 0, _, _, _, _, _ => none
  | k + 1, s0, m0_0, m0_1, m1_0, x346 => if x346 < (s0.length : Int) then ((lgt s0 x346).bind fun (x348, x349, x350, x351) => ((stroke_Near_1_v1.f x348 x349 x350 x351 m0_0 m0_1 m1_0).bind fun t385 => (if t385 = true then (some (.inl x346)) else (api_Edge_v2.l0 k s0 m0_0 m0_1 m1_0 (wr64 (x346 + 1)))))) else (some (.inr ()))
def api_Edge_v2.f (k : Nat) (s0 : List (Int × Int × Int × Int)) (m0_0 : Int) (m0_1 : Int) (m1_0 : Int) : Option (Int) := (api_Edge_v2.l0 k s0 m0_0 m0_1 m1_0 0 : Option ((Int) ⊕ (Unit))).bind fun s_ => match s_ with | .inl q389 => some q389 | .inr _ => (some (-1))
theorem api_Edge_v2.ok {S : Seal} {B0 : Nat} {B1 : Nat} {k : Nat} {s0 : List (Int × Int × Int × Int)} {m0_0 : Int} {m0_1 : Int} {m1_0 : Int} {r0_ : Int}{a_s0 : Option Addr} {c_s0 : Nat} (h_s0 : SlE S E_i644 s0 a_s0) (e : api_Edge_v2.f k s0 m0_0 m0_1 m1_0 = some r0_) :
    Cal Try.prog 103 [.slice a_s0 s0.length c_s0, .func (.func 64) #[] #[.pointer (some ⟨B0, 0, none⟩), .pointer (some ⟨B1, 0, none⟩)]] ([⟨B0, [.int .i64 m0_0, .int .i64 m0_1], 2⟩, ⟨B1, [.int .i64 m1_0], 1⟩] : List Own) S fun v H' S' => v = .int .i64 r0_ ∧ H' = ([⟨B0, [.int .i64 m0_0, .int .i64 m0_1], 2⟩, ⟨B1, [.int .i64 m1_0], 1⟩] : List Own) ∧ S' = S := by
  unfold api_Edge_v2.f at e
  refine cal_of (c := c103) (N := 19) Try.func103 rfl rfl (by kernel_rfl) (rs := [.t 4]) (by kernel_rfl) (Nat.le_of_ble_eq_true rfl) ?_
  unfold c103
  refine w_seq ?_
  refine w_reg fun all => ?_
  refine t_qz 1 [0, 1] (σ' := [(0, .slice a_s0 s0.length c_s0), (1, .func (.func 64) #[] #[.pointer (some ⟨B0, 0, none⟩), .pointer (some ⟨B1, 0, none⟩)])]) (by kernel_rfl) ?_
  refine t_end ?_
  show W _ _ _ _ _ _ _
  obtain ⟨s345, e344, e⟩ := bind_of e
  refine w_cut [] (fun σ_ H_ S_ => ∃ u_ : Unit, s345 = .inr u_ ∧ [] = σ_ ∧ ([⟨B0, [.int .i64 m0_0, .int .i64 m0_1], 2⟩, ⟨B1, [.int .i64 m1_0], 1⟩] : List Own) = H_ ∧ S = S_) ?_ ?_
  · show W _ _ _ _ _ _ _
    refine w_seq ?_
    refine w_reg fun all => ?_
    refine t_qz 3 [0, 1, 7, 8] (σ' := [(0, .slice a_s0 s0.length c_s0), (1, .func (.func 64) #[] #[.pointer (some ⟨B0, 0, none⟩), .pointer (some ⟨B1, 0, none⟩)]), (7, .int .i64 (s0.length : Int)), (8, .int .i64 0)]) (by kernel_rfl) ?_
    refine t_end ?_
    show W _ _ _ _ _ _ _
    refine w_block ?_
    refine w_kp [0, 1, 7, 8] (σ' := [(0, .slice a_s0 s0.length c_s0), (1, .func (.func 64) #[] #[.pointer (some ⟨B0, 0, none⟩), .pointer (some ⟨B1, 0, none⟩)]), (7, .int .i64 (s0.length : Int)), (8, .int .i64 0)]) (by kernel_rfl) ?_
    refine w_loop (fun n_ σ_ H_ S_ => ∃ (x346 : Int), [(0, .slice a_s0 s0.length c_s0), (1, .func (.func 64) #[] #[.pointer (some ⟨B0, 0, none⟩), .pointer (some ⟨B1, 0, none⟩)]), (7, .int .i64 (s0.length : Int)), (8, .int .i64 x346)] = σ_ ∧ ([⟨B0, [.int .i64 m0_0, .int .i64 m0_1], 2⟩, ⟨B1, [.int .i64 m1_0], 1⟩] : List Own) = H_ ∧ S = S_ ∧ api_Edge_v2.l0 n_ s0 m0_0 m0_1 m1_0 x346 = some s345) _ ⟨0, rfl, rfl, rfl, e344⟩ ?_
    rintro n388 σ_ H_ S_ ⟨x346, rfl, rfl, rfl, e344⟩
    cases n388 with
    | zero => rw [api_Edge_v2.l0.eq_1] at e344; cases e344
    | succ k_ =>
      rw [api_Edge_v2.l0.eq_2] at e344
      refine w_seq ?_
      refine w_reg fun all => ?_
      by_cases c347 : x346 < (s0.length : Int)
      · rw [if_pos c347] at e344
        have c347b : (decide (x346 < (s0.length : Int))) = true := decide_eq_true c347
        refine t_v (dv_quiet rfl (congrArg (fun t => some (Value.bool t)) c347b)) ?_
        refine t_keep [0, 1, 7, 8, 9] (σ' := [(0, .slice a_s0 s0.length c_s0), (1, .func (.func 64) #[] #[.pointer (some ⟨B0, 0, none⟩), .pointer (some ⟨B1, 0, none⟩)]), (7, .int .i64 (s0.length : Int)), (8, .int .i64 x346), (9, .bool true)]) (by kernel_rfl) ?_
        refine t_end ?_
        show W _ _ _ _ _ _ _
        refine w_seq ?_
        refine w_cond rfl (fun _ => ?_) (fun c_ => by cases c_)
        show W _ _ _ _ _ _ _
        refine w_skip ?_
        show W _ _ _ _ _ _ _
        refine w_seq ?_
        refine w_block ?_
        refine w_seq ?_
        refine w_reg fun all => ?_
        refine t_qz 2 [0, 1, 5, 7, 8] (σ' := [(0, .slice a_s0 s0.length c_s0), (1, .func (.func 64) #[] #[.pointer (some ⟨B0, 0, none⟩), .pointer (some ⟨B1, 0, none⟩)]), (5, .int .i64 x346), (7, .int .i64 (s0.length : Int)), (8, .int .i64 x346)]) (by kernel_rfl) ?_
        refine t_end ?_
        show W _ _ _ _ _ _ _
        refine w_seq ?_
        refine w_reg fun all => ?_
        obtain ⟨⟨x348, x349, x350, x351⟩, hx352, e344⟩ := bind_of e344
        try dsimp only at e344
        obtain ⟨lb353, lo354, ll355, la356, lS357, lv358, lz359, lu360⟩ := sle_get (E := E_i644) h_s0 hx352
        refine t_qz 3 [0, 1, 5, 7, 8, 11, 12, 13] (σ' := [(0, .slice a_s0 s0.length c_s0), (1, .func (.func 64) #[] #[.pointer (some ⟨B0, 0, none⟩), .pointer (some ⟨B1, 0, none⟩)]), (5, .int .i64 x346), (7, .int .i64 (s0.length : Int)), (8, .int .i64 x346), (11, .func (.func 64) #[] #[.pointer (some ⟨B0, 0, none⟩), .pointer (some ⟨B1, 0, none⟩)]), (12, .slice a_s0 s0.length c_s0), (13, .int .i64 x346)]) (by kernel_rfl) ?_
        refine t_v (.quiet rfl (ixs_sle rfl rfl la356 lz359 lu360)) ?_
        refine t_v (.ldn (vs := [.int .i64 x348, .int .i64 x349, .int .i64 x350, .int .i64 x351]) rfl rfl rfl (.sealed lS357 (subl_sub lv358 (by kernel_rfl)))) ?_
        obtain ⟨t385, h386, e344⟩ := bind_of e344
        cases t385 with
        | true =>
          rw [if_pos rfl] at e344
          refine t_v (.clor (vs := [.agg #[.int .i64 x348, .int .i64 x349, .int .i64 x350, .int .i64 x351]]) (caps := #[.pointer (some ⟨B0, 0, none⟩), .pointer (some ⟨B1, 0, none⟩)]) (A := ([⟨B0, [.int .i64 m0_0, .int .i64 m0_1], 2⟩, ⟨B1, [.int .i64 m1_0], 1⟩] : List Own)) (F0 := ([] : List Own)) rfl rfl rfl (by kernel_rfl) (by kernel_rfl) (sel_perm (is := [0, 0]) (by kernel_rfl)) (stroke_Near_1_v1.ok h386)) ?_
          refine t_keep [0, 1, 5, 7, 8, 16] (σ' := [(0, .slice a_s0 s0.length c_s0), (1, .func (.func 64) #[] #[.pointer (some ⟨B0, 0, none⟩), .pointer (some ⟨B1, 0, none⟩)]), (5, .int .i64 x346), (7, .int .i64 (s0.length : Int)), (8, .int .i64 x346), (16, .bool true)]) (by kernel_rfl) ?_
          refine t_end ?_
          show W _ _ _ _ _ _ _
          refine w_cond rfl (fun _ => ?_) (fun c_ => by cases c_)
          show W _ _ _ _ _ _ _
          refine w_seq ?_
          refine w_reg fun all => ?_
          refine t_qz 2 [4] (σ' := [(4, .int .i64 x346)]) (by kernel_rfl) ?_
          refine t_end ?_
          show W _ _ _ _ _ _ _
          refine w_ret ?_
          obtain rfl := Option.some.inj e344
          obtain rfl := Option.some.inj e
          exact ⟨[.int .i64 x346], ([⟨B0, [.int .i64 m0_0, .int .i64 m0_1], 2⟩, ⟨B1, [.int .i64 m1_0], 1⟩] : List Own), S, ⟨rfl, trivial⟩, VS.sel [0, 0] (by kernel_rfl), rfl, rfl, rfl⟩
        | false =>
          rw [if_neg (by decide)] at e344
          refine t_v (.clor (vs := [.agg #[.int .i64 x348, .int .i64 x349, .int .i64 x350, .int .i64 x351]]) (caps := #[.pointer (some ⟨B0, 0, none⟩), .pointer (some ⟨B1, 0, none⟩)]) (A := ([⟨B0, [.int .i64 m0_0, .int .i64 m0_1], 2⟩, ⟨B1, [.int .i64 m1_0], 1⟩] : List Own)) (F0 := ([] : List Own)) rfl rfl rfl (by kernel_rfl) (by kernel_rfl) (sel_perm (is := [0, 0]) (by kernel_rfl)) (stroke_Near_1_v1.ok h386)) ?_
          refine t_keep [0, 1, 5, 7, 8, 16] (σ' := [(0, .slice a_s0 s0.length c_s0), (1, .func (.func 64) #[] #[.pointer (some ⟨B0, 0, none⟩), .pointer (some ⟨B1, 0, none⟩)]), (5, .int .i64 x346), (7, .int .i64 (s0.length : Int)), (8, .int .i64 x346), (16, .bool false)]) (by kernel_rfl) ?_
          refine t_end ?_
          show W _ _ _ _ _ _ _
          refine w_cond rfl (fun c_ => by cases c_) (fun _ => ?_)
          show W _ _ _ _ _ _ _
          refine w_skip ?_
          show W _ _ _ _ _ _ _
          refine w_reg fun all => ?_
          refine t_qz 2 [0, 1, 7, 8] (σ' := [(0, .slice a_s0 s0.length c_s0), (1, .func (.func 64) #[] #[.pointer (some ⟨B0, 0, none⟩), .pointer (some ⟨B1, 0, none⟩)]), (7, .int .i64 (s0.length : Int)), (8, .int .i64 (wr64 (x346 + 1)))]) (by kernel_rfl) ?_
          refine t_end ?_
          exact ⟨k_, Nat.lt_succ_self _, [(0, .slice a_s0 s0.length c_s0), (1, .func (.func 64) #[] #[.pointer (some ⟨B0, 0, none⟩), .pointer (some ⟨B1, 0, none⟩)]), (7, .int .i64 (s0.length : Int)), (8, .int .i64 (wr64 (x346 + 1)))], ([⟨B0, [.int .i64 m0_0, .int .i64 m0_1], 2⟩, ⟨B1, [.int .i64 m1_0], 1⟩] : List Own), S, keep_sub [0, 1, 7, 8] (by kernel_rfl), VS.sel [0, 0] (by kernel_rfl), wr64 (x346 + 1), rfl, rfl, rfl, e344⟩
      · rw [if_neg c347] at e344
        have c347b : (decide (x346 < (s0.length : Int))) = false := decide_eq_false c347
        refine t_v (dv_quiet rfl (congrArg (fun t => some (Value.bool t)) c347b)) ?_
        refine t_keep [0, 1, 7, 8, 9] (σ' := [(0, .slice a_s0 s0.length c_s0), (1, .func (.func 64) #[] #[.pointer (some ⟨B0, 0, none⟩), .pointer (some ⟨B1, 0, none⟩)]), (7, .int .i64 (s0.length : Int)), (8, .int .i64 x346), (9, .bool false)]) (by kernel_rfl) ?_
        refine t_end ?_
        show W _ _ _ _ _ _ _
        refine w_seq ?_
        refine w_cond rfl (fun c_ => by cases c_) (fun _ => ?_)
        show W _ _ _ _ _ _ _
        refine w_exit ?_
        obtain rfl := Option.some.inj e344
        exact ⟨([⟨B0, [.int .i64 m0_0, .int .i64 m0_1], 2⟩, ⟨B1, [.int .i64 m1_0], 1⟩] : List Own), S, VS.sel [0, 0] (by kernel_rfl), (), rfl, by kernel_rfl, rfl, rfl⟩
  · rintro σ_ H_ S_ ⟨u_, rfl, rfl, rfl, rfl⟩
    dsimp only at e
    refine w_seq ?_
    refine w_reg fun all => ?_
    refine t_qz 1 [4] (σ' := [(4, .int .i64 (-1))]) (by kernel_rfl) ?_
    refine t_end ?_
    show W _ _ _ _ _ _ _
    refine w_ret ?_
    obtain rfl := Option.some.inj e
    exact ⟨[.int .i64 (-1)], ([⟨B0, [.int .i64 m0_0, .int .i64 m0_1], 2⟩, ⟨B1, [.int .i64 m1_0], 1⟩] : List Own), S, ⟨rfl, trivial⟩, VS.sel [0, 0] (by kernel_rfl), rfl, rfl, rfl⟩

/-- slices.ContainsFunc[[]api.Edge,api.Edge] -/
def c63 : C :=
  (.seq (.reg [⟨(some 4), .mv (.const (.bool false)), none⟩])
  (.seq (.reg [⟨(some 5), .mv (.tmp 0), none⟩,
     ⟨(some 6), .mv (.tmp 1), none⟩,
     ⟨(some 7), .call 103 [(.tmp 5), (.tmp 6)], none⟩,
     ⟨(some 8), .bin .geq (.tmp 7) (.const (.int .i64 0)), none⟩,
     ⟨(some 4), .mv (.tmp 8), none⟩])
  .ret))
def api_Edge_v1.f (k : Nat) (s0 : List (Int × Int × Int × Int)) (m0_0 : Int) (m0_1 : Int) (m1_0 : Int) : Option (Bool) := (api_Edge_v2.f k s0 m0_0 m0_1 m1_0).bind fun t390 => (some (decide (t390 ≥ 0)))
theorem api_Edge_v1.ok {S : Seal} {B0 : Nat} {B1 : Nat} {k : Nat} {s0 : List (Int × Int × Int × Int)} {m0_0 : Int} {m0_1 : Int} {m1_0 : Int} {r0_ : Bool}{a_s0 : Option Addr} {c_s0 : Nat} (h_s0 : SlE S E_i644 s0 a_s0) (e : api_Edge_v1.f k s0 m0_0 m0_1 m1_0 = some r0_) :
    Cal Try.prog 63 [.slice a_s0 s0.length c_s0, .func (.func 64) #[] #[.pointer (some ⟨B0, 0, none⟩), .pointer (some ⟨B1, 0, none⟩)]] ([⟨B0, [.int .i64 m0_0, .int .i64 m0_1], 2⟩, ⟨B1, [.int .i64 m1_0], 1⟩] : List Own) S fun v H' S' => v = .bool r0_ ∧ H' = ([⟨B0, [.int .i64 m0_0, .int .i64 m0_1], 2⟩, ⟨B1, [.int .i64 m1_0], 1⟩] : List Own) ∧ S' = S := by
  unfold api_Edge_v1.f at e
  refine cal_of (c := c63) (N := 9) Try.func63 rfl rfl (by kernel_rfl) (rs := [.t 4]) (by kernel_rfl) (Nat.le_of_ble_eq_true rfl) ?_
  unfold c63
  refine w_seq ?_
  refine w_reg fun all => ?_
  refine t_qz 1 [0, 1] (σ' := [(0, .slice a_s0 s0.length c_s0), (1, .func (.func 64) #[] #[.pointer (some ⟨B0, 0, none⟩), .pointer (some ⟨B1, 0, none⟩)])]) (by kernel_rfl) ?_
  refine t_end ?_
  show W _ _ _ _ _ _ _
  refine w_seq ?_
  refine w_reg fun all => ?_
  obtain ⟨t390, h391, e⟩ := bind_of e
  refine t_qz 2 [5, 6] (σ' := [(5, .slice a_s0 s0.length c_s0), (6, .func (.func 64) #[] #[.pointer (some ⟨B0, 0, none⟩), .pointer (some ⟨B1, 0, none⟩)])]) (by kernel_rfl) ?_
  refine t_v (.callr (vs := [.slice a_s0 s0.length c_s0, .func (.func 64) #[] #[.pointer (some ⟨B0, 0, none⟩), .pointer (some ⟨B1, 0, none⟩)]]) (A := ([⟨B0, [.int .i64 m0_0, .int .i64 m0_1], 2⟩, ⟨B1, [.int .i64 m1_0], 1⟩] : List Own)) (F0 := ([] : List Own)) rfl rfl (by kernel_rfl) (sel_perm (is := [0, 0]) (by kernel_rfl)) (api_Edge_v2.ok h_s0 h391)) ?_
  refine t_qz 2 [4] (σ' := [(4, .bool (decide (t390 ≥ 0)))]) (by kernel_rfl) ?_
  refine t_end ?_
  show W _ _ _ _ _ _ _
  refine w_ret ?_
  obtain rfl := Option.some.inj e
  exact ⟨[.bool (decide (t390 ≥ 0))], ([⟨B0, [.int .i64 m0_0, .int .i64 m0_1], 2⟩, ⟨B1, [.int .i64 m1_0], 1⟩] : List Own), S, ⟨rfl, trivial⟩, VS.sel [0, 0] (by kernel_rfl), rfl, rfl, rfl⟩

/-- stroke.Near -/
def c19 : C :=
  (.seq (.reg [⟨(some 4), .box (.tmp 1), none⟩,
     ⟨(some 5), .box (.tmp 2), none⟩,
     ⟨(some 6), .mv (.const (.bool false)), none⟩])
  (.seq (.reg [⟨(some 7), .mv (.tmp 0), none⟩,
     ⟨(some 8), .mkf 64 [(.tmp 5), (.tmp 4)], none⟩,
     ⟨(some 9), .call 63 [(.tmp 7), (.tmp 8)], none⟩,
     ⟨(some 6), .mv (.tmp 9), none⟩])
  .ret))
def stroke_Near_v1.f (k : Nat) (l0 : List (Int × Int × Int × Int)) (w1 : Int) (p2_0 : Int) (p2_1 : Int) : Option (Bool) := (api_Edge_v1.f k l0 p2_0 p2_1 w1).bind fun t392 => (some t392)
theorem stroke_Near_v1.ok {S : Seal} {k : Nat} {l0 : List (Int × Int × Int × Int)} {w1 : Int} {p2_0 : Int} {p2_1 : Int} {r0_ : Bool}{a_l0 : Option Addr} {c_l0 : Nat} (h_l0 : SlE S E_i644 l0 a_l0) (e : stroke_Near_v1.f k l0 w1 p2_0 p2_1 = some r0_) :
    Cal Try.prog 19 [.slice a_l0 l0.length c_l0, .int .i64 w1, .agg #[.int .i64 p2_0, .int .i64 p2_1]] [] S fun v H' S' => v = .bool r0_ ∧ H' = [] ∧ S' = S := by
  unfold stroke_Near_v1.f at e
  refine cal_of (c := c19) (N := 10) Try.func19 rfl rfl (by kernel_rfl) (rs := [.t 6]) (by kernel_rfl) (Nat.le_of_ble_eq_true rfl) ?_
  unfold c19
  refine w_seq ?_
  refine w_reg fun all => ?_
  refine t_a (.box rfl rfl rfl) fun b341 fb341 sb341 => ?_
  refine t_a (.box rfl rfl rfl) fun b342 fb342 sb342 => ?_
  refine t_qz 1 [0, 4, 5] (σ' := [(0, .slice a_l0 l0.length c_l0), (4, .pointer (some ⟨b341, 0, none⟩)), (5, .pointer (some ⟨b342, 0, none⟩))]) (by kernel_rfl) ?_
  refine t_end ?_
  show W _ _ _ _ _ _ _
  refine w_seq ?_
  refine w_reg fun all => ?_
  obtain ⟨t392, h393, e⟩ := bind_of e
  refine t_qz 2 [7, 8] (σ' := [(7, .slice a_l0 l0.length c_l0), (8, .func (.func 64) #[] #[.pointer (some ⟨b342, 0, none⟩), .pointer (some ⟨b341, 0, none⟩)])]) (by kernel_rfl) ?_
  refine t_v (.callr (vs := [.slice a_l0 l0.length c_l0, .func (.func 64) #[] #[.pointer (some ⟨b342, 0, none⟩), .pointer (some ⟨b341, 0, none⟩)]]) (A := ([⟨b342, [.int .i64 p2_0, .int .i64 p2_1], 2⟩, ⟨b341, [.int .i64 w1], 1⟩] : List Own)) (F0 := ([] : List Own)) rfl rfl (by kernel_rfl) (sel_perm (is := [0, 0]) (by kernel_rfl)) (api_Edge_v1.ok h_l0 h393)) ?_
  refine t_qz 1 [6] (σ' := [(6, .bool t392)]) (by kernel_rfl) ?_
  refine t_end ?_
  show W _ _ _ _ _ _ _
  refine w_ret ?_
  obtain rfl := Option.some.inj e
  exact ⟨[.bool t392], [], S, ⟨rfl, trivial⟩, VS.none, rfl, rfl, rfl⟩

/-- sweep.Line$1 -/
def c86 : C :=
  (.seq (.reg [⟨(some 4), .box (.tmp 1), none⟩,
     ⟨(some 5), .mv (.const (.bool false)), none⟩])
  (.seq (.reg [⟨(some 6), .mv (.tmp 0), none⟩,
     ⟨(some 7), .ld none (.tmp 2), none⟩,
     ⟨(some 8), .ld (some 2) (.tmp 4), none⟩,
     ⟨(some 9), .call 19 [(.tmp 6), (.tmp 7), (.tmp 8)], none⟩,
     ⟨(some 5), .mv (.tmp 9), none⟩])
  .ret))
def sweep_Line_1_v1.f (k : Nat) (l0 : List (Int × Int × Int × Int)) (p1_0 : Int) (p1_1 : Int) (m0_0 : Int) : Option (Bool) := (stroke_Near_v1.f k l0 m0_0 p1_0 p1_1).bind fun t394 => (some t394)
theorem sweep_Line_1_v1.ok {S : Seal} {B0 : Nat} {k : Nat} {l0 : List (Int × Int × Int × Int)} {p1_0 : Int} {p1_1 : Int} {m0_0 : Int} {r0_ : Bool}{a_l0 : Option Addr} {c_l0 : Nat} (h_l0 : SlE S E_i644 l0 a_l0) (e : sweep_Line_1_v1.f k l0 p1_0 p1_1 m0_0 = some r0_) :
    Cal Try.prog 86 [.slice a_l0 l0.length c_l0, .agg #[.int .i64 p1_0, .int .i64 p1_1], .pointer (some ⟨B0, 0, none⟩)] ([⟨B0, [.int .i64 m0_0], 1⟩] : List Own) S fun v H' S' => v = .bool r0_ ∧ H' = ([⟨B0, [.int .i64 m0_0], 1⟩] : List Own) ∧ S' = S := by
  unfold sweep_Line_1_v1.f at e
  refine cal_of (c := c86) (N := 10) Try.func86 rfl rfl (by kernel_rfl) (rs := [.t 5]) (by kernel_rfl) (Nat.le_of_ble_eq_true rfl) ?_
  unfold c86
  refine w_seq ?_
  refine w_reg fun all => ?_
  refine t_a (.box rfl rfl rfl) fun b340 fb340 sb340 => ?_
  refine t_qz 1 [0, 2, 4] (σ' := [(0, .slice a_l0 l0.length c_l0), (2, .pointer (some ⟨B0, 0, none⟩)), (4, .pointer (some ⟨b340, 0, none⟩))]) (by kernel_rfl) ?_
  refine t_end ?_
  show W _ _ _ _ _ _ _
  refine w_seq ?_
  refine w_reg fun all => ?_
  refine t_qz 1 [2, 4, 6] (σ' := [(2, .pointer (some ⟨B0, 0, none⟩)), (4, .pointer (some ⟨b340, 0, none⟩)), (6, .slice a_l0 l0.length c_l0)]) (by kernel_rfl) ?_
  refine t_v (.ld1 rfl rfl rfl (.at 1 rfl rfl)) ?_
  refine t_v (.ldn rfl rfl rfl (.at 0 rfl rfl)) ?_
  obtain ⟨t394, h395, e⟩ := bind_of e
  refine t_v (.call (vs := [.slice a_l0 l0.length c_l0, .int .i64 m0_0, .agg #[.int .i64 p1_0, .int .i64 p1_1]]) rfl rfl (by kernel_rfl) (stroke_Near_v1.ok h_l0 h395)) ?_
  refine t_qz 1 [5] (σ' := [(5, .bool t394)]) (by kernel_rfl) ?_
  refine t_end ?_
  show W _ _ _ _ _ _ _
  refine w_ret ?_
  obtain rfl := Option.some.inj e
  exact ⟨[.bool t394], ([⟨B0, [.int .i64 m0_0], 1⟩] : List Own), S, ⟨rfl, trivial⟩, VS.sel [1] (by kernel_rfl), rfl, rfl, rfl⟩

def sweep_masks_v2.l2 : Nat → Int → Int → Int → List (Int × Int × Int × Int) → Int → Int → List (Int) → Option (List (Int) × Bool)
  | 0, _, _, _, _, _, _, _ => none
  | k + 1, y2, m0_0, x371, t380, x383, x390, y391 => if x390 < (wr64 ((wr64 (x371 + 1)) * 8)) then ((sweep_Sample.f x383 y2 x390).bind fun (t393, t394) => ((sweep_Line_1_v1.f k t380 t393 t394 m0_0).bind fun t396 => (if t396 = true then ((lgt y391 x383).bind fun x398 => (if x390 < 0 then none else ((lgt y391 x383).bind fun x401 => ((lput y391 x383 (bits .or .u64 x398 (wru64 (1 * 2 ^ (min (Int.toNat x390) 64))))).bind fun y403 => (sweep_masks_v2.l2 k y2 m0_0 x371 t380 x383 (wr64 (x390 + 1)) y403))))) else (sweep_masks_v2.l2 k y2 m0_0 x371 t380 x383 (wr64 (x390 + 1)) y391)))) else (some (y391, true))
def sweep_masks_v2.l1 : Nat → Int → Int → Int → Int → List (Int × Int × Int × Int) → Int → List (Int) → Option (List (Int))
  | 0, _, _, _, _, _, _, _ => none
  | k + 1, y2, w3, m0_0, x371, t380, x383, y384 => if x383 < w3 then (if (t380.length : Int) > 0 then ((sweep_masks_v2.l2 k y2 m0_0 x371 t380 x383 (wr64 (x371 * 8)) y384 : Option (List (Int) × Bool)).bind fun (y409, x410) => (sweep_masks_v2.l1 k y2 w3 m0_0 x371 t380 (wr64 (x383 + 1)) y409)) else (some y384)) else (some y384)
def sweep_masks_v2.l0 : Nat → List (Int × Int × Int × Int) → Int → Int → Int → Int → Int → List (Int) → Option (List (Int))
  | 0, _, _, _, _, _, _, _ => none
  | k + 1, l0, wide1, y2, w3, m0_0, x371, y372 => if x371 < 8 then (((sweep_Sample.f 0 y2 (wr64 (x371 * 8))).bind fun (t377, t378) => ((sweep_crossing_v1.f k l0 wide1 t378).bind fun t380 => (sweep_masks_v2.l1 k y2 w3 m0_0 x371 t380 0 y372)) : Option (List (Int))).bind fun y413 => (sweep_masks_v2.l0 k l0 wide1 y2 w3 m0_0 (wr64 (x371 + 1)) y413)) else (some y372)
def sweep_masks_v2.f (k : Nat) (l0 : List (Int × Int × Int × Int)) (wide1 : Int) (y2 : Int) (w3 : Int) (m0_0 : Int) : Option (List (Int)) := if w3 < 1 then (some ([] : List (Int))) else ((lmk (0 : Int) w3 w3).bind fun y365 => ((sweep_masks_v2.l0 k l0 wide1 y2 w3 m0_0 0 y365 : Option (List (Int))).bind fun y416 => (some y416)))
theorem sweep_masks_v2.ok {S : Seal} {B0 : Nat} {k : Nat} {l0 : List (Int × Int × Int × Int)} {wide1 : Int} {y2 : Int} {w3 : Int} {m0_0 : Int} {r0_ : List (Int)}{a_l0 : Option Addr} {c_l0 : Nat} (h_l0 : SlE S E_i644 l0 a_l0) (e : sweep_masks_v2.f k l0 wide1 y2 w3 m0_0 = some r0_) :
    Cal Try.prog 82 [.slice a_l0 l0.length c_l0, .int .i64 wide1, .int .i64 y2, .int .i64 w3, .func (.func 86) #[] #[.pointer (some ⟨B0, 0, none⟩)]] ([⟨B0, [.int .i64 m0_0], 1⟩] : List Own) S fun v H' S' => ∃ (N0_ : Option Nat) (nN0_ : Nat) , v = .slice (ad N0_) r0_.length (nN0_ / 1) ∧ H' = ([⟨N0_, encL E_u64 r0_, nN0_⟩, ⟨B0, [.int .i64 m0_0], 1⟩] : List Own) ∧ S' = S := by
  unfold sweep_masks_v2.f at e
  refine cal_of (c := c82) (N := 67) Try.func82 rfl rfl (by kernel_rfl) (rs := [.t 10]) (by kernel_rfl) (Nat.le_of_ble_eq_true rfl) ?_
  unfold c82
  refine w_seq ?_
  refine w_reg fun all => ?_
  refine t_qz 1 [0, 1, 2, 3, 4] (σ' := [(0, .slice a_l0 l0.length c_l0), (1, .int .i64 wide1), (2, .int .i64 y2), (3, .int .i64 w3), (4, .func (.func 86) #[] #[.pointer (some ⟨B0, 0, none⟩)])]) (by kernel_rfl) ?_
  refine t_end ?_
  show W _ _ _ _ _ _ _
  refine w_seq ?_
  refine w_seq ?_
  refine w_reg fun all => ?_
  by_cases c364 : w3 < 1
  · rw [if_pos c364] at e
    have c364b : (decide (w3 < 1)) = true := decide_eq_true c364
    refine t_qz 1 [0, 1, 2, 3, 4, 16] (σ' := [(0, .slice a_l0 l0.length c_l0), (1, .int .i64 wide1), (2, .int .i64 y2), (3, .int .i64 w3), (4, .func (.func 86) #[] #[.pointer (some ⟨B0, 0, none⟩)]), (16, .int .i64 w3)]) (by kernel_rfl) ?_
    refine t_v (dv_quiet rfl (congrArg (fun t => some (Value.bool t)) c364b)) ?_
    refine t_keep [0, 1, 2, 3, 4, 17] (σ' := [(0, .slice a_l0 l0.length c_l0), (1, .int .i64 wide1), (2, .int .i64 y2), (3, .int .i64 w3), (4, .func (.func 86) #[] #[.pointer (some ⟨B0, 0, none⟩)]), (17, .bool true)]) (by kernel_rfl) ?_
    refine t_end ?_
    show W _ _ _ _ _ _ _
    refine w_cond rfl (fun _ => ?_) (fun c_ => by cases c_)
    show W _ _ _ _ _ _ _
    refine w_seq ?_
    refine w_reg fun all => ?_
    refine t_qz 1 [10] (σ' := [(10, .slice none 0 0)]) (by kernel_rfl) ?_
    refine t_end ?_
    show W _ _ _ _ _ _ _
    refine w_ret ?_
    obtain rfl := Option.some.inj e
    exact ⟨[.slice (ad none) ([] : List (Int)).length (0 / 1)], ([⟨none, encL E_u64 ([] : List (Int)), 0⟩, ⟨B0, [.int .i64 m0_0], 1⟩] : List Own), S, ⟨(show gt _ _ = some _ from (by kernel_rfl)), trivial⟩, VS.trans VS.vac (VS.sel [0, 0] (by kernel_rfl)), none, 0, rfl, rfl, rfl⟩
  · rw [if_neg c364] at e
    have c364b : (decide (w3 < 1)) = false := decide_eq_false c364
    refine t_qz 1 [0, 1, 2, 3, 4, 16] (σ' := [(0, .slice a_l0 l0.length c_l0), (1, .int .i64 wide1), (2, .int .i64 y2), (3, .int .i64 w3), (4, .func (.func 86) #[] #[.pointer (some ⟨B0, 0, none⟩)]), (16, .int .i64 w3)]) (by kernel_rfl) ?_
    refine t_v (dv_quiet rfl (congrArg (fun t => some (Value.bool t)) c364b)) ?_
    refine t_keep [0, 1, 2, 3, 4, 17] (σ' := [(0, .slice a_l0 l0.length c_l0), (1, .int .i64 wide1), (2, .int .i64 y2), (3, .int .i64 w3), (4, .func (.func 86) #[] #[.pointer (some ⟨B0, 0, none⟩)]), (17, .bool false)]) (by kernel_rfl) ?_
    refine t_end ?_
    show W _ _ _ _ _ _ _
    refine w_cond rfl (fun c_ => by cases c_) (fun _ => ?_)
    show W _ _ _ _ _ _ _
    refine w_skip ?_
    show W _ _ _ _ _ _ _
    refine w_seq ?_
    refine w_reg fun all => ?_
    obtain ⟨y365, hl366, e⟩ := bind_of e
    refine t_qz 1 [0, 1, 2, 3, 4, 18] (σ' := [(0, .slice a_l0 l0.length c_l0), (1, .int .i64 wide1), (2, .int .i64 y2), (3, .int .i64 w3), (4, .func (.func 86) #[] #[.pointer (some ⟨B0, 0, none⟩)]), (18, .int .i64 w3)]) (by kernel_rfl) ?_
    refine t_mkl (E := E_u64) (x0 := 0) rfl rfl rfl rfl rfl (by decide) (by decide) rfl hl366 fun a367 na367 => ?_
    refine t_qz 1 [0, 1, 2, 3, 4, 11] (σ' := [(0, .slice a_l0 l0.length c_l0), (1, .int .i64 wide1), (2, .int .i64 y2), (3, .int .i64 w3), (4, .func (.func 86) #[] #[.pointer (some ⟨B0, 0, none⟩)]), (11, .slice (ad (some a367)) y365.length (na367 / 1))]) (by kernel_rfl) ?_
    refine t_end ?_
    show W _ _ _ _ _ _ _
    obtain ⟨y416, e369, e⟩ := bind_of e
    refine w_cut [11] (fun σ_ H_ S_ => [(11, .slice (ad (some a367)) y416.length (na367 / 1))] = σ_ ∧ ([⟨B0, [.int .i64 m0_0], 1⟩, ⟨some a367, encL E_u64 y416, na367⟩] : List Own) = H_ ∧ S = S_) ?_ ?_
    · show W _ _ _ _ _ _ _
      refine w_seq ?_
      refine w_reg fun all => ?_
      refine t_qz 1 [0, 1, 2, 3, 4, 11, 20] (σ' := [(0, .slice a_l0 l0.length c_l0), (1, .int .i64 wide1), (2, .int .i64 y2), (3, .int .i64 w3), (4, .func (.func 86) #[] #[.pointer (some ⟨B0, 0, none⟩)]), (11, .slice (ad (some a367)) y365.length (na367 / 1)), (20, .int .i64 0)]) (by kernel_rfl) ?_
      refine t_end ?_
      show W _ _ _ _ _ _ _
      refine w_block ?_
      refine w_kp [0, 1, 2, 3, 4, 11, 20] (σ' := [(0, .slice a_l0 l0.length c_l0), (1, .int .i64 wide1), (2, .int .i64 y2), (3, .int .i64 w3), (4, .func (.func 86) #[] #[.pointer (some ⟨B0, 0, none⟩)]), (11, .slice (ad (some a367)) y365.length (na367 / 1)), (20, .int .i64 0)]) (by kernel_rfl) ?_
      refine w_loop (fun n_ σ_ H_ S_ => ∃ (x371 : Int) (y372 : List (Int)), [(0, .slice a_l0 l0.length c_l0), (1, .int .i64 wide1), (2, .int .i64 y2), (3, .int .i64 w3), (4, .func (.func 86) #[] #[.pointer (some ⟨B0, 0, none⟩)]), (11, .slice (ad (some a367)) y372.length (na367 / 1)), (20, .int .i64 x371)] = σ_ ∧ ([⟨some a367, encL E_u64 y372, na367⟩, ⟨B0, [.int .i64 m0_0], 1⟩] : List Own) = H_ ∧ S = S_ ∧ sweep_masks_v2.l0 n_ l0 wide1 y2 w3 m0_0 x371 y372 = some y416) _ ⟨0, y365, rfl, rfl, rfl, e369⟩ ?_
      rintro n415 σ_ H_ S_ ⟨x371, y372, rfl, rfl, rfl, e369⟩
      cases n415 with
      | zero => rw [sweep_masks_v2.l0.eq_1] at e369; cases e369
      | succ k_ =>
        rw [sweep_masks_v2.l0.eq_2] at e369
        refine w_seq ?_
        refine w_reg fun all => ?_
        by_cases c373 : x371 < 8
        · rw [if_pos c373] at e369
          have c373b : (decide (x371 < 8)) = true := decide_eq_true c373
          refine t_v (dv_quiet rfl (congrArg (fun t => some (Value.bool t)) c373b)) ?_
          refine t_keep [0, 1, 2, 3, 4, 11, 20, 21] (σ' := [(0, .slice a_l0 l0.length c_l0), (1, .int .i64 wide1), (2, .int .i64 y2), (3, .int .i64 w3), (4, .func (.func 86) #[] #[.pointer (some ⟨B0, 0, none⟩)]), (11, .slice (ad (some a367)) y372.length (na367 / 1)), (20, .int .i64 x371), (21, .bool true)]) (by kernel_rfl) ?_
          refine t_end ?_
          show W _ _ _ _ _ _ _
          refine w_seq ?_
          refine w_cond rfl (fun _ => ?_) (fun c_ => by cases c_)
          show W _ _ _ _ _ _ _
          refine w_skip ?_
          show W _ _ _ _ _ _ _
          obtain ⟨y413, e375, e369⟩ := bind_of e369
          refine w_cut [0, 1, 2, 3, 4, 11, 20] (fun σ_ H_ S_ => [(0, .slice a_l0 l0.length c_l0), (1, .int .i64 wide1), (2, .int .i64 y2), (3, .int .i64 w3), (4, .func (.func 86) #[] #[.pointer (some ⟨B0, 0, none⟩)]), (11, .slice (ad (some a367)) y413.length (na367 / 1)), (20, .int .i64 x371)] = σ_ ∧ ([⟨B0, [.int .i64 m0_0], 1⟩, ⟨some a367, encL E_u64 y413, na367⟩] : List Own) = H_ ∧ S = S_) ?_ ?_
          · show W _ _ _ _ _ _ _
            refine w_block ?_
            refine w_seq ?_
            refine w_reg fun all => ?_
            refine t_qz 2 [0, 1, 2, 3, 4, 11, 12, 20] (σ' := [(0, .slice a_l0 l0.length c_l0), (1, .int .i64 wide1), (2, .int .i64 y2), (3, .int .i64 w3), (4, .func (.func 86) #[] #[.pointer (some ⟨B0, 0, none⟩)]), (11, .slice (ad (some a367)) y372.length (na367 / 1)), (12, .int .i64 x371), (20, .int .i64 x371)]) (by kernel_rfl) ?_
            refine t_end ?_
            show W _ _ _ _ _ _ _
            refine w_seq ?_
            refine w_reg fun all => ?_
            obtain ⟨⟨t377, t378⟩, h379, e375⟩ := bind_of e375
            try dsimp only at e375
            refine t_qz 5 [0, 1, 2, 3, 4, 11, 12, 20, 23, 24, 25, 27] (σ' := [(0, .slice a_l0 l0.length c_l0), (1, .int .i64 wide1), (2, .int .i64 y2), (3, .int .i64 w3), (4, .func (.func 86) #[] #[.pointer (some ⟨B0, 0, none⟩)]), (11, .slice (ad (some a367)) y372.length (na367 / 1)), (12, .int .i64 x371), (20, .int .i64 x371), (23, .slice a_l0 l0.length c_l0), (24, .int .i64 wide1), (25, .int .i64 y2), (27, .int .i64 (wr64 (x371 * 8)))]) (by kernel_rfl) ?_
            refine t_v (.call (vs := [.int .i64 0, .int .i64 y2, .int .i64 (wr64 (x371 * 8))]) rfl rfl (by kernel_rfl) (sweep_Sample.ok h379)) ?_
            obtain ⟨t380, h381, e375⟩ := bind_of e375
            refine t_qz 1 [0, 1, 2, 3, 4, 11, 12, 20, 23, 24, 29] (σ' := [(0, .slice a_l0 l0.length c_l0), (1, .int .i64 wide1), (2, .int .i64 y2), (3, .int .i64 w3), (4, .func (.func 86) #[] #[.pointer (some ⟨B0, 0, none⟩)]), (11, .slice (ad (some a367)) y372.length (na367 / 1)), (12, .int .i64 x371), (20, .int .i64 x371), (23, .slice a_l0 l0.length c_l0), (24, .int .i64 wide1), (29, .int .i64 t378)]) (by kernel_rfl) ?_
            refine t_call (vs := [.slice a_l0 l0.length c_l0, .int .i64 wide1, .int .i64 t378]) (H1 := ([] : List Own)) (F := ([⟨some a367, encL E_u64 y372, na367⟩, ⟨B0, [.int .i64 m0_0], 1⟩] : List Own)) rfl rfl (by kernel_rfl) (sel_perm (is := []) (by kernel_rfl)) (sweep_crossing_v1.ok h_l0 h381) ?_
            rintro _ _ S_ ⟨N382, nN382, rfl, rfl, hS_⟩
            obtain rfl := hS_.symm
            refine t_qz 1 [0, 1, 2, 3, 4, 11, 12, 13, 20] (σ' := [(0, .slice a_l0 l0.length c_l0), (1, .int .i64 wide1), (2, .int .i64 y2), (3, .int .i64 w3), (4, .func (.func 86) #[] #[.pointer (some ⟨B0, 0, none⟩)]), (11, .slice (ad (some a367)) y372.length (na367 / 1)), (12, .int .i64 x371), (13, .slice (ad N382) t380.length (nN382 / 4)), (20, .int .i64 x371)]) (by kernel_rfl) ?_
            refine t_end ?_
            show W _ _ _ _ _ _ _
            refine w_seq ?_
            refine w_reg fun all => ?_
            refine t_qz 1 [0, 1, 2, 3, 4, 11, 12, 13, 14, 20] (σ' := [(0, .slice a_l0 l0.length c_l0), (1, .int .i64 wide1), (2, .int .i64 y2), (3, .int .i64 w3), (4, .func (.func 86) #[] #[.pointer (some ⟨B0, 0, none⟩)]), (11, .slice (ad (some a367)) y372.length (na367 / 1)), (12, .int .i64 x371), (13, .slice (ad N382) t380.length (nN382 / 4)), (14, .int .i64 0), (20, .int .i64 x371)]) (by kernel_rfl) ?_
            refine t_end ?_
            show W _ _ _ _ _ _ _
            refine w_block ?_
            refine w_kp [0, 1, 2, 3, 4, 11, 12, 13, 14, 20] (σ' := [(0, .slice a_l0 l0.length c_l0), (1, .int .i64 wide1), (2, .int .i64 y2), (3, .int .i64 w3), (4, .func (.func 86) #[] #[.pointer (some ⟨B0, 0, none⟩)]), (11, .slice (ad (some a367)) y372.length (na367 / 1)), (12, .int .i64 x371), (13, .slice (ad N382) t380.length (nN382 / 4)), (14, .int .i64 0), (20, .int .i64 x371)]) (by kernel_rfl) ?_
            refine w_loop (fun n_ σ_ H_ S_ => ∃ (x383 : Int) (y384 : List (Int)), [(0, .slice a_l0 l0.length c_l0), (1, .int .i64 wide1), (2, .int .i64 y2), (3, .int .i64 w3), (4, .func (.func 86) #[] #[.pointer (some ⟨B0, 0, none⟩)]), (11, .slice (ad (some a367)) y384.length (na367 / 1)), (12, .int .i64 x371), (13, .slice (ad N382) t380.length (nN382 / 4)), (14, .int .i64 x383), (20, .int .i64 x371)] = σ_ ∧ ([⟨N382, encL E_i644 t380, nN382⟩, ⟨some a367, encL E_u64 y384, na367⟩, ⟨B0, [.int .i64 m0_0], 1⟩] : List Own) = H_ ∧ S = S_ ∧ sweep_masks_v2.l1 n_ y2 w3 m0_0 x371 t380 x383 y384 = some y413) _ ⟨0, y372, rfl, rfl, rfl, e375⟩ ?_
            rintro n412 σ_ H_ S_ ⟨x383, y384, rfl, rfl, rfl, e375⟩
            cases n412 with
            | zero => rw [sweep_masks_v2.l1.eq_1] at e375; cases e375
            | succ k_ =>
              rw [sweep_masks_v2.l1.eq_2] at e375
              refine w_seq ?_
              refine w_seq ?_
              refine w_reg fun all => ?_
              by_cases c385 : x383 < w3
              · rw [if_pos c385] at e375
                have c385b : (decide (x383 < w3)) = true := decide_eq_true c385
                refine t_qz 2 [0, 1, 2, 3, 4, 11, 12, 13, 14, 20, 31, 32] (σ' := [(0, .slice a_l0 l0.length c_l0), (1, .int .i64 wide1), (2, .int .i64 y2), (3, .int .i64 w3), (4, .func (.func 86) #[] #[.pointer (some ⟨B0, 0, none⟩)]), (11, .slice (ad (some a367)) y384.length (na367 / 1)), (12, .int .i64 x371), (13, .slice (ad N382) t380.length (nN382 / 4)), (14, .int .i64 x383), (20, .int .i64 x371), (31, .int .i64 x383), (32, .int .i64 w3)]) (by kernel_rfl) ?_
                refine t_v (dv_quiet rfl (congrArg (fun t => some (Value.bool t)) c385b)) ?_
                by_cases c386 : (t380.length : Int) > 0
                · rw [if_pos c386] at e375
                  have c386b : (decide ((t380.length : Int) > 0)) = true := decide_eq_true c386
                  refine t_qz 3 [0, 1, 2, 3, 4, 11, 12, 13, 14, 20, 34, 35, 36] (σ' := [(0, .slice a_l0 l0.length c_l0), (1, .int .i64 wide1), (2, .int .i64 y2), (3, .int .i64 w3), (4, .func (.func 86) #[] #[.pointer (some ⟨B0, 0, none⟩)]), (11, .slice (ad (some a367)) y384.length (na367 / 1)), (12, .int .i64 x371), (13, .slice (ad N382) t380.length (nN382 / 4)), (14, .int .i64 x383), (20, .int .i64 x371), (34, .bool true), (35, .slice (ad N382) t380.length (nN382 / 4)), (36, .int .i64 (t380.length : Int))]) (by kernel_rfl) ?_
                  refine t_v (dv_quiet rfl (congrArg (fun t => some (Value.bool t)) c386b)) ?_
                  refine t_qz 1 [0, 1, 2, 3, 4, 11, 12, 13, 14, 20, 35, 36, 37, 38] (σ' := [(0, .slice a_l0 l0.length c_l0), (1, .int .i64 wide1), (2, .int .i64 y2), (3, .int .i64 w3), (4, .func (.func 86) #[] #[.pointer (some ⟨B0, 0, none⟩)]), (11, .slice (ad (some a367)) y384.length (na367 / 1)), (12, .int .i64 x371), (13, .slice (ad N382) t380.length (nN382 / 4)), (14, .int .i64 x383), (20, .int .i64 x371), (35, .slice (ad N382) t380.length (nN382 / 4)), (36, .int .i64 (t380.length : Int)), (37, .bool true), (38, .bool true)]) (by kernel_rfl) ?_
                  refine t_end ?_
                  show W _ _ _ _ _ _ _
                  refine w_cond rfl (fun _ => ?_) (fun c_ => by cases c_)
                  show W _ _ _ _ _ _ _
                  refine w_skip ?_
                  show W _ _ _ _ _ _ _
                  obtain ⟨⟨y409, x410⟩, e388, e375⟩ := bind_of e375
                  try dsimp only at e375
                  refine w_cut [0, 1, 2, 3, 4, 11, 12, 13, 14, 20, 35, 36, 37] (fun σ_ H_ S_ => [(0, .slice a_l0 l0.length c_l0), (1, .int .i64 wide1), (2, .int .i64 y2), (3, .int .i64 w3), (4, .func (.func 86) #[] #[.pointer (some ⟨B0, 0, none⟩)]), (11, .slice (ad (some a367)) y409.length (na367 / 1)), (12, .int .i64 x371), (13, .slice (ad N382) t380.length (nN382 / 4)), (14, .int .i64 x383), (20, .int .i64 x371), (35, .slice (ad N382) t380.length (nN382 / 4)), (36, .int .i64 (t380.length : Int)), (37, .bool x410)] = σ_ ∧ ([⟨B0, [.int .i64 m0_0], 1⟩, ⟨some a367, encL E_u64 y409, na367⟩, ⟨N382, encL E_i644 t380, nN382⟩] : List Own) = H_ ∧ S = S_) ?_ ?_
                  · show W _ _ _ _ _ _ _
                    refine w_block ?_
                    refine w_seq ?_
                    refine w_reg fun all => ?_
                    refine t_qz 3 [0, 1, 2, 3, 4, 11, 12, 13, 14, 15, 20, 35, 36, 37] (σ' := [(0, .slice a_l0 l0.length c_l0), (1, .int .i64 wide1), (2, .int .i64 y2), (3, .int .i64 w3), (4, .func (.func 86) #[] #[.pointer (some ⟨B0, 0, none⟩)]), (11, .slice (ad (some a367)) y384.length (na367 / 1)), (12, .int .i64 x371), (13, .slice (ad N382) t380.length (nN382 / 4)), (14, .int .i64 x383), (15, .int .i64 (wr64 (x371 * 8))), (20, .int .i64 x371), (35, .slice (ad N382) t380.length (nN382 / 4)), (36, .int .i64 (t380.length : Int)), (37, .bool true)]) (by kernel_rfl) ?_
                    refine t_end ?_
                    show W _ _ _ _ _ _ _
                    refine w_block ?_
                    refine w_kp [0, 1, 2, 3, 4, 11, 12, 13, 14, 15, 20, 35, 36, 37] (σ' := [(0, .slice a_l0 l0.length c_l0), (1, .int .i64 wide1), (2, .int .i64 y2), (3, .int .i64 w3), (4, .func (.func 86) #[] #[.pointer (some ⟨B0, 0, none⟩)]), (11, .slice (ad (some a367)) y384.length (na367 / 1)), (12, .int .i64 x371), (13, .slice (ad N382) t380.length (nN382 / 4)), (14, .int .i64 x383), (15, .int .i64 (wr64 (x371 * 8))), (20, .int .i64 x371), (35, .slice (ad N382) t380.length (nN382 / 4)), (36, .int .i64 (t380.length : Int)), (37, .bool true)]) (by kernel_rfl) ?_
                    refine w_loop (fun n_ σ_ H_ S_ => ∃ (x390 : Int) (y391 : List (Int)), [(0, .slice a_l0 l0.length c_l0), (1, .int .i64 wide1), (2, .int .i64 y2), (3, .int .i64 w3), (4, .func (.func 86) #[] #[.pointer (some ⟨B0, 0, none⟩)]), (11, .slice (ad (some a367)) y391.length (na367 / 1)), (12, .int .i64 x371), (13, .slice (ad N382) t380.length (nN382 / 4)), (14, .int .i64 x383), (15, .int .i64 x390), (20, .int .i64 x371), (35, .slice (ad N382) t380.length (nN382 / 4)), (36, .int .i64 (t380.length : Int)), (37, .bool true)] = σ_ ∧ ([⟨N382, encL E_i644 t380, nN382⟩, ⟨some a367, encL E_u64 y391, na367⟩, ⟨B0, [.int .i64 m0_0], 1⟩] : List Own) = H_ ∧ S = S_ ∧ sweep_masks_v2.l2 n_ y2 m0_0 x371 t380 x383 x390 y391 = some (y409, x410)) _ ⟨wr64 (x371 * 8), y384, rfl, rfl, rfl, e388⟩ ?_
                    rintro n408 σ_ H_ S_ ⟨x390, y391, rfl, rfl, rfl, e388⟩
                    cases n408 with
                    | zero => rw [sweep_masks_v2.l2.eq_1] at e388; cases e388
                    | succ k_ =>
                      rw [sweep_masks_v2.l2.eq_2] at e388
                      refine w_seq ?_
                      refine w_seq ?_
                      refine w_reg fun all => ?_
                      by_cases c392 : x390 < (wr64 ((wr64 (x371 + 1)) * 8))
                      · rw [if_pos c392] at e388
                        have c392b : (decide (x390 < (wr64 ((wr64 (x371 + 1)) * 8)))) = true := decide_eq_true c392
                        refine t_qz 4 [0, 1, 2, 3, 4, 11, 12, 13, 14, 15, 20, 35, 36, 37, 43, 46] (σ' := [(0, .slice a_l0 l0.length c_l0), (1, .int .i64 wide1), (2, .int .i64 y2), (3, .int .i64 w3), (4, .func (.func 86) #[] #[.pointer (some ⟨B0, 0, none⟩)]), (11, .slice (ad (some a367)) y391.length (na367 / 1)), (12, .int .i64 x371), (13, .slice (ad N382) t380.length (nN382 / 4)), (14, .int .i64 x383), (15, .int .i64 x390), (20, .int .i64 x371), (35, .slice (ad N382) t380.length (nN382 / 4)), (36, .int .i64 (t380.length : Int)), (37, .bool true), (43, .int .i64 x390), (46, .int .i64 (wr64 ((wr64 (x371 + 1)) * 8)))]) (by kernel_rfl) ?_
                        refine t_v (dv_quiet rfl (congrArg (fun t => some (Value.bool t)) c392b)) ?_
                        refine t_keep [0, 1, 2, 3, 4, 11, 12, 13, 14, 15, 20, 35, 36, 37, 47] (σ' := [(0, .slice a_l0 l0.length c_l0), (1, .int .i64 wide1), (2, .int .i64 y2), (3, .int .i64 w3), (4, .func (.func 86) #[] #[.pointer (some ⟨B0, 0, none⟩)]), (11, .slice (ad (some a367)) y391.length (na367 / 1)), (12, .int .i64 x371), (13, .slice (ad N382) t380.length (nN382 / 4)), (14, .int .i64 x383), (15, .int .i64 x390), (20, .int .i64 x371), (35, .slice (ad N382) t380.length (nN382 / 4)), (36, .int .i64 (t380.length : Int)), (37, .bool true), (47, .bool true)]) (by kernel_rfl) ?_
                        refine t_end ?_
                        show W _ _ _ _ _ _ _
                        refine w_cond rfl (fun _ => ?_) (fun c_ => by cases c_)
                        show W _ _ _ _ _ _ _
                        refine w_skip ?_
                        show W _ _ _ _ _ _ _
                        refine w_seq ?_
                        refine w_block ?_
                        refine w_seq ?_
                        refine w_reg fun all => ?_
                        obtain ⟨⟨t393, t394⟩, h395, e388⟩ := bind_of e388
                        try dsimp only at e388
                        refine t_qz 5 [0, 1, 2, 3, 4, 11, 12, 13, 14, 15, 20, 35, 36, 37, 50, 51, 52, 53, 54] (σ' := [(0, .slice a_l0 l0.length c_l0), (1, .int .i64 wide1), (2, .int .i64 y2), (3, .int .i64 w3), (4, .func (.func 86) #[] #[.pointer (some ⟨B0, 0, none⟩)]), (11, .slice (ad (some a367)) y391.length (na367 / 1)), (12, .int .i64 x371), (13, .slice (ad N382) t380.length (nN382 / 4)), (14, .int .i64 x383), (15, .int .i64 x390), (20, .int .i64 x371), (35, .slice (ad N382) t380.length (nN382 / 4)), (36, .int .i64 (t380.length : Int)), (37, .bool true), (50, .func (.func 86) #[] #[.pointer (some ⟨B0, 0, none⟩)]), (51, .slice (ad N382) t380.length (nN382 / 4)), (52, .int .i64 x383), (53, .int .i64 y2), (54, .int .i64 x390)]) (by kernel_rfl) ?_
                        refine t_v (.call (vs := [.int .i64 x383, .int .i64 y2, .int .i64 x390]) rfl rfl (by kernel_rfl) (sweep_Sample.ok h395)) ?_
                        obtain ⟨t396, h397, e388⟩ := bind_of e388
                        cases t396 with
                        | true =>
                          rw [if_pos rfl] at e388
                          refine t_v (.clor (vs := [.slice (ad N382) t380.length (nN382 / 4), .agg #[.int .i64 t393, .int .i64 t394]]) (caps := #[.pointer (some ⟨B0, 0, none⟩)]) (A := ([⟨N382, encL E_i644 t380, nN382⟩, ⟨B0, [.int .i64 m0_0], 1⟩] : List Own)) (F0 := ([⟨some a367, encL E_u64 y391, na367⟩] : List Own)) rfl rfl rfl (by kernel_rfl) (by kernel_rfl) (sel_perm (is := [0, 1]) (by kernel_rfl)) (cal_lendr fun S1_ le1_ hS1_ => (sweep_Line_1_v1.ok (SlE.ofAd (E := E_i644) (L := t380) hS1_ (by decide)) h397))) ?_
                          refine t_keep [0, 1, 2, 3, 4, 11, 12, 13, 14, 15, 20, 35, 36, 37, 56] (σ' := [(0, .slice a_l0 l0.length c_l0), (1, .int .i64 wide1), (2, .int .i64 y2), (3, .int .i64 w3), (4, .func (.func 86) #[] #[.pointer (some ⟨B0, 0, none⟩)]), (11, .slice (ad (some a367)) y391.length (na367 / 1)), (12, .int .i64 x371), (13, .slice (ad N382) t380.length (nN382 / 4)), (14, .int .i64 x383), (15, .int .i64 x390), (20, .int .i64 x371), (35, .slice (ad N382) t380.length (nN382 / 4)), (36, .int .i64 (t380.length : Int)), (37, .bool true), (56, .bool true)]) (by kernel_rfl) ?_
                          refine t_end ?_
                          show W _ _ _ _ _ _ _
                          refine w_cond rfl (fun _ => ?_) (fun c_ => by cases c_)
                          show W _ _ _ _ _ _ _
                          obtain ⟨x398, hx399, e388⟩ := bind_of e388
                          have c400 : ¬ x390 < 0 := by
                            intro h_; rw [if_pos h_] at e388; cases e388
                          rw [if_neg c400] at e388
                          obtain ⟨x401, hx402, e388⟩ := bind_of e388
                          refine w_drwE mixed 8 [.v (.slice (ad (some a367)) y391.length (na367 / 1)), .v (.int .i64 x383), .v (.pointer (some ⟨bk (some a367), (x383).toNat * 1 + 0, none⟩)), .v (.int .u64 x398), .v (.int .i64 x390), .v (.int .u64 (wru64 (1 * 2 ^ (min (Int.toNat x390) 64)))), .v (.int .u64 (bits .or .u64 x398 (wru64 (1 * 2 ^ (min (Int.toNat x390) 64))))), .v (.pointer (some ⟨bk (some a367), (x383).toNat * 1 + 0, none⟩))] (by kernel_rfl) ?_ ?_
                          · refine DI.sq 2 (by kernel_rfl) rfl ?_
                            refine .cons (.quietH rfl (by intro h_; cases h_) (ixl (E := E_u64) (j := 1) rfl rfl rfl (by decide) rfl hx399)) ?_
                            refine .cons (.ld1 rfl rfl rfl (.lst 1 rfl (encL_at (lgt_in hx399).1 rfl))) ?_
                            refine DI.sq 1 (by kernel_rfl) rfl ?_
                            refine .cons (.quiet rfl (qv_shl rfl rfl c400)) ?_
                            refine DI.sq 1 (by kernel_rfl) rfl ?_
                            refine .cons (.quietH rfl (by intro h_; cases h_) (ixl (E := E_u64) (j := 1) rfl rfl rfl (by decide) rfl hx402)) ?_
                            exact .nil
                          refine fk_q 8 [0, 1, 2, 3, 4, 11, 12, 13, 14, 15, 20, 35, 36, 37, 63, 64] (σ' := [(0, .slice a_l0 l0.length c_l0), (1, .int .i64 wide1), (2, .int .i64 y2), (3, .int .i64 w3), (4, .func (.func 86) #[] #[.pointer (some ⟨B0, 0, none⟩)]), (11, .slice (ad (some a367)) y391.length (na367 / 1)), (12, .int .i64 x371), (13, .slice (ad N382) t380.length (nN382 / 4)), (14, .int .i64 x383), (15, .int .i64 x390), (20, .int .i64 x371), (35, .slice (ad N382) t380.length (nN382 / 4)), (36, .int .i64 (t380.length : Int)), (37, .bool true), (63, .int .u64 (bits .or .u64 x398 (wru64 (1 * 2 ^ (min (Int.toNat x390) 64))))), (64, .pointer (some ⟨bk (some a367), (x383).toNat * 1 + 0, none⟩))]) t_more (by kernel_rfl) ?_
                          refine fk_nil fun all => ?_
                          obtain ⟨y403, hl404, e388⟩ := bind_of e388
                          refine t_stl 1 (E := E_u64) (L := y391) (L' := y403) (i := x383) (off := 0) (y0 := x401) (y1 := (bits .or .u64 x398 (wru64 (1 * 2 ^ (min (Int.toNat x390) 64))))) (H' := ([⟨N382, encL E_i644 t380, nN382⟩, ⟨some a367, encL E_u64 y403, na367⟩, ⟨B0, [.int .i64 m0_0], 1⟩] : List Own)) rfl rfl rfl rfl rfl rfl rfl (by decide) rfl hx402 (by kernel_rfl) hl404 rfl ?_
                          refine t_keep [0, 1, 2, 3, 4, 11, 12, 13, 14, 15, 20, 35, 36, 37, 63, 64] (σ' := [(0, .slice a_l0 l0.length c_l0), (1, .int .i64 wide1), (2, .int .i64 y2), (3, .int .i64 w3), (4, .func (.func 86) #[] #[.pointer (some ⟨B0, 0, none⟩)]), (11, .slice (ad (some a367)) y391.length (na367 / 1)), (12, .int .i64 x371), (13, .slice (ad N382) t380.length (nN382 / 4)), (14, .int .i64 x383), (15, .int .i64 x390), (20, .int .i64 x371), (35, .slice (ad N382) t380.length (nN382 / 4)), (36, .int .i64 (t380.length : Int)), (37, .bool true), (63, .int .u64 (bits .or .u64 x398 (wru64 (1 * 2 ^ (min (Int.toNat x390) 64))))), (64, .pointer (some ⟨bk (some a367), (x383).toNat * 1 + 0, none⟩))]) (by kernel_rfl) ?_
                          refine t_eq (σ' := [(0, .slice a_l0 l0.length c_l0), (1, .int .i64 wide1), (2, .int .i64 y2), (3, .int .i64 w3), (4, .func (.func 86) #[] #[.pointer (some ⟨B0, 0, none⟩)]), (11, .slice (ad (some a367)) y403.length (na367 / 1)), (12, .int .i64 x371), (13, .slice (ad N382) t380.length (nN382 / 4)), (14, .int .i64 x383), (15, .int .i64 x390), (20, .int .i64 x371), (35, .slice (ad N382) t380.length (nN382 / 4)), (36, .int .i64 (t380.length : Int)), (37, .bool true), (63, .int .u64 (bits .or .u64 x398 (wru64 (1 * 2 ^ (min (Int.toNat x390) 64))))), (64, .pointer (some ⟨bk (some a367), (x383).toNat * 1 + 0, none⟩))]) (H' := ([⟨N382, encL E_i644 t380, nN382⟩, ⟨some a367, encL E_u64 y403, na367⟩, ⟨B0, [.int .i64 m0_0], 1⟩] : List Own)) (by first | rfl | rw [(lput_is hl404).2]) (by first | rfl | rw [(lput_is hl404).2]) ?_
                          refine t_keep [0, 1, 2, 3, 4, 11, 12, 13, 14, 15, 20, 35, 36, 37] (σ' := [(0, .slice a_l0 l0.length c_l0), (1, .int .i64 wide1), (2, .int .i64 y2), (3, .int .i64 w3), (4, .func (.func 86) #[] #[.pointer (some ⟨B0, 0, none⟩)]), (11, .slice (ad (some a367)) y403.length (na367 / 1)), (12, .int .i64 x371), (13, .slice (ad N382) t380.length (nN382 / 4)), (14, .int .i64 x383), (15, .int .i64 x390), (20, .int .i64 x371), (35, .slice (ad N382) t380.length (nN382 / 4)), (36, .int .i64 (t380.length : Int)), (37, .bool true)]) (by kernel_rfl) ?_
                          refine t_end ?_
                          show W _ _ _ _ _ _ _
                          refine w_reg fun all => ?_
                          refine t_qz 3 [0, 1, 2, 3, 4, 11, 12, 13, 14, 15, 20, 35, 36, 37] (σ' := [(0, .slice a_l0 l0.length c_l0), (1, .int .i64 wide1), (2, .int .i64 y2), (3, .int .i64 w3), (4, .func (.func 86) #[] #[.pointer (some ⟨B0, 0, none⟩)]), (11, .slice (ad (some a367)) y403.length (na367 / 1)), (12, .int .i64 x371), (13, .slice (ad N382) t380.length (nN382 / 4)), (14, .int .i64 x383), (15, .int .i64 (wr64 (x390 + 1))), (20, .int .i64 x371), (35, .slice (ad N382) t380.length (nN382 / 4)), (36, .int .i64 (t380.length : Int)), (37, .bool true)]) (by kernel_rfl) ?_
                          refine t_end ?_
                          exact ⟨k_, Nat.lt_succ_self _, [(0, .slice a_l0 l0.length c_l0), (1, .int .i64 wide1), (2, .int .i64 y2), (3, .int .i64 w3), (4, .func (.func 86) #[] #[.pointer (some ⟨B0, 0, none⟩)]), (11, .slice (ad (some a367)) y403.length (na367 / 1)), (12, .int .i64 x371), (13, .slice (ad N382) t380.length (nN382 / 4)), (14, .int .i64 x383), (15, .int .i64 (wr64 (x390 + 1))), (20, .int .i64 x371), (35, .slice (ad N382) t380.length (nN382 / 4)), (36, .int .i64 (t380.length : Int)), (37, .bool true)], ([⟨N382, encL E_i644 t380, nN382⟩, ⟨some a367, encL E_u64 y403, na367⟩, ⟨B0, [.int .i64 m0_0], 1⟩] : List Own), S, keep_sub [0, 1, 2, 3, 4, 11, 12, 13, 14, 15, 20, 35, 36, 37] (by kernel_rfl), VS.sel [0, 0, 0] (by kernel_rfl), wr64 (x390 + 1), y403, rfl, rfl, rfl, e388⟩
                        | false =>
                          rw [if_neg (by decide)] at e388
                          refine t_v (.clor (vs := [.slice (ad N382) t380.length (nN382 / 4), .agg #[.int .i64 t393, .int .i64 t394]]) (caps := #[.pointer (some ⟨B0, 0, none⟩)]) (A := ([⟨N382, encL E_i644 t380, nN382⟩, ⟨B0, [.int .i64 m0_0], 1⟩] : List Own)) (F0 := ([⟨some a367, encL E_u64 y391, na367⟩] : List Own)) rfl rfl rfl (by kernel_rfl) (by kernel_rfl) (sel_perm (is := [0, 1]) (by kernel_rfl)) (cal_lendr fun S1_ le1_ hS1_ => (sweep_Line_1_v1.ok (SlE.ofAd (E := E_i644) (L := t380) hS1_ (by decide)) h397))) ?_
                          refine t_keep [0, 1, 2, 3, 4, 11, 12, 13, 14, 15, 20, 35, 36, 37, 56] (σ' := [(0, .slice a_l0 l0.length c_l0), (1, .int .i64 wide1), (2, .int .i64 y2), (3, .int .i64 w3), (4, .func (.func 86) #[] #[.pointer (some ⟨B0, 0, none⟩)]), (11, .slice (ad (some a367)) y391.length (na367 / 1)), (12, .int .i64 x371), (13, .slice (ad N382) t380.length (nN382 / 4)), (14, .int .i64 x383), (15, .int .i64 x390), (20, .int .i64 x371), (35, .slice (ad N382) t380.length (nN382 / 4)), (36, .int .i64 (t380.length : Int)), (37, .bool true), (56, .bool false)]) (by kernel_rfl) ?_
                          refine t_end ?_
                          show W _ _ _ _ _ _ _
                          refine w_cond rfl (fun c_ => by cases c_) (fun _ => ?_)
                          show W _ _ _ _ _ _ _
                          refine w_skip ?_
                          show W _ _ _ _ _ _ _
                          refine w_reg fun all => ?_
                          refine t_qz 3 [0, 1, 2, 3, 4, 11, 12, 13, 14, 15, 20, 35, 36, 37] (σ' := [(0, .slice a_l0 l0.length c_l0), (1, .int .i64 wide1), (2, .int .i64 y2), (3, .int .i64 w3), (4, .func (.func 86) #[] #[.pointer (some ⟨B0, 0, none⟩)]), (11, .slice (ad (some a367)) y391.length (na367 / 1)), (12, .int .i64 x371), (13, .slice (ad N382) t380.length (nN382 / 4)), (14, .int .i64 x383), (15, .int .i64 (wr64 (x390 + 1))), (20, .int .i64 x371), (35, .slice (ad N382) t380.length (nN382 / 4)), (36, .int .i64 (t380.length : Int)), (37, .bool true)]) (by kernel_rfl) ?_
                          refine t_end ?_
                          exact ⟨k_, Nat.lt_succ_self _, [(0, .slice a_l0 l0.length c_l0), (1, .int .i64 wide1), (2, .int .i64 y2), (3, .int .i64 w3), (4, .func (.func 86) #[] #[.pointer (some ⟨B0, 0, none⟩)]), (11, .slice (ad (some a367)) y391.length (na367 / 1)), (12, .int .i64 x371), (13, .slice (ad N382) t380.length (nN382 / 4)), (14, .int .i64 x383), (15, .int .i64 (wr64 (x390 + 1))), (20, .int .i64 x371), (35, .slice (ad N382) t380.length (nN382 / 4)), (36, .int .i64 (t380.length : Int)), (37, .bool true)], ([⟨N382, encL E_i644 t380, nN382⟩, ⟨some a367, encL E_u64 y391, na367⟩, ⟨B0, [.int .i64 m0_0], 1⟩] : List Own), S, keep_sub [0, 1, 2, 3, 4, 11, 12, 13, 14, 15, 20, 35, 36, 37] (by kernel_rfl), VS.sel [0, 0, 0] (by kernel_rfl), wr64 (x390 + 1), y391, rfl, rfl, rfl, e388⟩
                      · rw [if_neg c392] at e388
                        have c392b : (decide (x390 < (wr64 ((wr64 (x371 + 1)) * 8)))) = false := decide_eq_false c392
                        refine t_qz 4 [0, 1, 2, 3, 4, 11, 12, 13, 14, 15, 20, 35, 36, 37, 43, 46] (σ' := [(0, .slice a_l0 l0.length c_l0), (1, .int .i64 wide1), (2, .int .i64 y2), (3, .int .i64 w3), (4, .func (.func 86) #[] #[.pointer (some ⟨B0, 0, none⟩)]), (11, .slice (ad (some a367)) y391.length (na367 / 1)), (12, .int .i64 x371), (13, .slice (ad N382) t380.length (nN382 / 4)), (14, .int .i64 x383), (15, .int .i64 x390), (20, .int .i64 x371), (35, .slice (ad N382) t380.length (nN382 / 4)), (36, .int .i64 (t380.length : Int)), (37, .bool true), (43, .int .i64 x390), (46, .int .i64 (wr64 ((wr64 (x371 + 1)) * 8)))]) (by kernel_rfl) ?_
                        refine t_v (dv_quiet rfl (congrArg (fun t => some (Value.bool t)) c392b)) ?_
                        refine t_keep [0, 1, 2, 3, 4, 11, 12, 13, 14, 15, 20, 35, 36, 37, 47] (σ' := [(0, .slice a_l0 l0.length c_l0), (1, .int .i64 wide1), (2, .int .i64 y2), (3, .int .i64 w3), (4, .func (.func 86) #[] #[.pointer (some ⟨B0, 0, none⟩)]), (11, .slice (ad (some a367)) y391.length (na367 / 1)), (12, .int .i64 x371), (13, .slice (ad N382) t380.length (nN382 / 4)), (14, .int .i64 x383), (15, .int .i64 x390), (20, .int .i64 x371), (35, .slice (ad N382) t380.length (nN382 / 4)), (36, .int .i64 (t380.length : Int)), (37, .bool true), (47, .bool false)]) (by kernel_rfl) ?_
                        refine t_end ?_
                        show W _ _ _ _ _ _ _
                        refine w_cond rfl (fun c_ => by cases c_) (fun _ => ?_)
                        show W _ _ _ _ _ _ _
                        refine w_exit ?_
                        simp only [Option.some.injEq, Prod.mk.injEq] at e388
                        obtain ⟨rfl, rfl⟩ := e388
                        exact ⟨([⟨B0, [.int .i64 m0_0], 1⟩, ⟨some a367, encL E_u64 y391, na367⟩, ⟨N382, encL E_i644 t380, nN382⟩] : List Own), S, VS.sel [2, 1, 0] (by kernel_rfl), by kernel_rfl, rfl, rfl⟩
                  · rintro σ_ H_ S_ ⟨rfl, rfl, rfl⟩
                    refine w_reg fun all => ?_
                    refine t_qz 3 [0, 1, 2, 3, 4, 11, 12, 13, 14, 20, 35, 36, 37] (σ' := [(0, .slice a_l0 l0.length c_l0), (1, .int .i64 wide1), (2, .int .i64 y2), (3, .int .i64 w3), (4, .func (.func 86) #[] #[.pointer (some ⟨B0, 0, none⟩)]), (11, .slice (ad (some a367)) y409.length (na367 / 1)), (12, .int .i64 x371), (13, .slice (ad N382) t380.length (nN382 / 4)), (14, .int .i64 (wr64 (x383 + 1))), (20, .int .i64 x371), (35, .slice (ad N382) t380.length (nN382 / 4)), (36, .int .i64 (t380.length : Int)), (37, .bool x410)]) (by kernel_rfl) ?_
                    refine t_end ?_
                    exact ⟨k_, Nat.lt_succ_self _, [(0, .slice a_l0 l0.length c_l0), (1, .int .i64 wide1), (2, .int .i64 y2), (3, .int .i64 w3), (4, .func (.func 86) #[] #[.pointer (some ⟨B0, 0, none⟩)]), (11, .slice (ad (some a367)) y409.length (na367 / 1)), (12, .int .i64 x371), (13, .slice (ad N382) t380.length (nN382 / 4)), (14, .int .i64 (wr64 (x383 + 1))), (20, .int .i64 x371)], ([⟨N382, encL E_i644 t380, nN382⟩, ⟨some a367, encL E_u64 y409, na367⟩, ⟨B0, [.int .i64 m0_0], 1⟩] : List Own), S, keep_sub [0, 1, 2, 3, 4, 11, 12, 13, 14, 20] (by kernel_rfl), VS.sel [2, 1, 0] (by kernel_rfl), wr64 (x383 + 1), y409, rfl, rfl, rfl, e375⟩
                · rw [if_neg c386] at e375
                  have c386b : (decide ((t380.length : Int) > 0)) = false := decide_eq_false c386
                  refine t_qz 3 [0, 1, 2, 3, 4, 11, 12, 13, 14, 20, 34, 35, 36] (σ' := [(0, .slice a_l0 l0.length c_l0), (1, .int .i64 wide1), (2, .int .i64 y2), (3, .int .i64 w3), (4, .func (.func 86) #[] #[.pointer (some ⟨B0, 0, none⟩)]), (11, .slice (ad (some a367)) y384.length (na367 / 1)), (12, .int .i64 x371), (13, .slice (ad N382) t380.length (nN382 / 4)), (14, .int .i64 x383), (20, .int .i64 x371), (34, .bool true), (35, .slice (ad N382) t380.length (nN382 / 4)), (36, .int .i64 (t380.length : Int))]) (by kernel_rfl) ?_
                  refine t_v (dv_quiet rfl (congrArg (fun t => some (Value.bool t)) c386b)) ?_
                  refine t_qz 1 [0, 1, 2, 3, 4, 11, 12, 13, 14, 20, 35, 36, 37, 38] (σ' := [(0, .slice a_l0 l0.length c_l0), (1, .int .i64 wide1), (2, .int .i64 y2), (3, .int .i64 w3), (4, .func (.func 86) #[] #[.pointer (some ⟨B0, 0, none⟩)]), (11, .slice (ad (some a367)) y384.length (na367 / 1)), (12, .int .i64 x371), (13, .slice (ad N382) t380.length (nN382 / 4)), (14, .int .i64 x383), (20, .int .i64 x371), (35, .slice (ad N382) t380.length (nN382 / 4)), (36, .int .i64 (t380.length : Int)), (37, .bool false), (38, .bool false)]) (by kernel_rfl) ?_
                  refine t_end ?_
                  show W _ _ _ _ _ _ _
                  refine w_cond rfl (fun c_ => by cases c_) (fun _ => ?_)
                  show W _ _ _ _ _ _ _
                  refine w_exit ?_
                  obtain rfl := Option.some.inj e375
                  exact ⟨([⟨B0, [.int .i64 m0_0], 1⟩, ⟨some a367, encL E_u64 y384, na367⟩] : List Own), S, VS.sel [2, 1] (by kernel_rfl), by kernel_rfl, rfl, rfl⟩
              · rw [if_neg c385] at e375
                have c385b : (decide (x383 < w3)) = false := decide_eq_false c385
                refine t_qz 2 [0, 1, 2, 3, 4, 11, 12, 13, 14, 20, 31, 32] (σ' := [(0, .slice a_l0 l0.length c_l0), (1, .int .i64 wide1), (2, .int .i64 y2), (3, .int .i64 w3), (4, .func (.func 86) #[] #[.pointer (some ⟨B0, 0, none⟩)]), (11, .slice (ad (some a367)) y384.length (na367 / 1)), (12, .int .i64 x371), (13, .slice (ad N382) t380.length (nN382 / 4)), (14, .int .i64 x383), (20, .int .i64 x371), (31, .int .i64 x383), (32, .int .i64 w3)]) (by kernel_rfl) ?_
                refine t_v (dv_quiet rfl (congrArg (fun t => some (Value.bool t)) c385b)) ?_
                refine t_qz 5 [0, 1, 2, 3, 4, 11, 12, 13, 14, 20, 35, 36, 37, 38] (σ' := [(0, .slice a_l0 l0.length c_l0), (1, .int .i64 wide1), (2, .int .i64 y2), (3, .int .i64 w3), (4, .func (.func 86) #[] #[.pointer (some ⟨B0, 0, none⟩)]), (11, .slice (ad (some a367)) y384.length (na367 / 1)), (12, .int .i64 x371), (13, .slice (ad N382) t380.length (nN382 / 4)), (14, .int .i64 x383), (20, .int .i64 x371), (35, .tuple #[]), (36, .tuple #[]), (37, .tuple #[]), (38, .bool false)]) (by kernel_rfl) ?_
                refine t_end ?_
                show W _ _ _ _ _ _ _
                refine w_cond rfl (fun c_ => by cases c_) (fun _ => ?_)
                show W _ _ _ _ _ _ _
                refine w_exit ?_
                obtain rfl := Option.some.inj e375
                exact ⟨([⟨B0, [.int .i64 m0_0], 1⟩, ⟨some a367, encL E_u64 y384, na367⟩] : List Own), S, VS.sel [2, 1] (by kernel_rfl), by kernel_rfl, rfl, rfl⟩
          · rintro σ_ H_ S_ ⟨rfl, rfl, rfl⟩
            refine w_reg fun all => ?_
            refine t_qz 2 [0, 1, 2, 3, 4, 11, 20] (σ' := [(0, .slice a_l0 l0.length c_l0), (1, .int .i64 wide1), (2, .int .i64 y2), (3, .int .i64 w3), (4, .func (.func 86) #[] #[.pointer (some ⟨B0, 0, none⟩)]), (11, .slice (ad (some a367)) y413.length (na367 / 1)), (20, .int .i64 (wr64 (x371 + 1)))]) (by kernel_rfl) ?_
            refine t_end ?_
            exact ⟨k_, Nat.lt_succ_self _, [(0, .slice a_l0 l0.length c_l0), (1, .int .i64 wide1), (2, .int .i64 y2), (3, .int .i64 w3), (4, .func (.func 86) #[] #[.pointer (some ⟨B0, 0, none⟩)]), (11, .slice (ad (some a367)) y413.length (na367 / 1)), (20, .int .i64 (wr64 (x371 + 1)))], ([⟨some a367, encL E_u64 y413, na367⟩, ⟨B0, [.int .i64 m0_0], 1⟩] : List Own), S, keep_sub [0, 1, 2, 3, 4, 11, 20] (by kernel_rfl), VS.sel [1, 0] (by kernel_rfl), wr64 (x371 + 1), y413, rfl, rfl, rfl, e369⟩
        · rw [if_neg c373] at e369
          have c373b : (decide (x371 < 8)) = false := decide_eq_false c373
          refine t_v (dv_quiet rfl (congrArg (fun t => some (Value.bool t)) c373b)) ?_
          refine t_keep [0, 1, 2, 3, 4, 11, 20, 21] (σ' := [(0, .slice a_l0 l0.length c_l0), (1, .int .i64 wide1), (2, .int .i64 y2), (3, .int .i64 w3), (4, .func (.func 86) #[] #[.pointer (some ⟨B0, 0, none⟩)]), (11, .slice (ad (some a367)) y372.length (na367 / 1)), (20, .int .i64 x371), (21, .bool false)]) (by kernel_rfl) ?_
          refine t_end ?_
          show W _ _ _ _ _ _ _
          refine w_seq ?_
          refine w_cond rfl (fun c_ => by cases c_) (fun _ => ?_)
          show W _ _ _ _ _ _ _
          refine w_exit ?_
          obtain rfl := Option.some.inj e369
          exact ⟨([⟨B0, [.int .i64 m0_0], 1⟩, ⟨some a367, encL E_u64 y372, na367⟩] : List Own), S, VS.sel [1, 0] (by kernel_rfl), by kernel_rfl, rfl, rfl⟩
    · rintro σ_ H_ S_ ⟨rfl, rfl, rfl⟩
      refine w_seq ?_
      refine w_reg fun all => ?_
      refine t_qz 2 [10] (σ' := [(10, .slice (ad (some a367)) y416.length (na367 / 1))]) (by kernel_rfl) ?_
      refine t_end ?_
      show W _ _ _ _ _ _ _
      refine w_ret ?_
      obtain rfl := Option.some.inj e
      exact ⟨[.slice (ad (some a367)) y416.length (na367 / 1)], ([⟨some a367, encL E_u64 y416, na367⟩, ⟨B0, [.int .i64 m0_0], 1⟩] : List Own), S, ⟨(show gt _ _ = some _ from (by kernel_rfl)), trivial⟩, VS.sel [1, 0] (by kernel_rfl), some a367, na367, rfl, rfl, rfl⟩

/-- sweep.Line -/
def c45 : C :=
  (.seq (.reg [⟨(some 5), .box (.tmp 1), none⟩,
     ⟨(some 8), .mv (.const (.slice none 0 0)), none⟩])
  (.seq (.reg [⟨(some 9), .mv (.tmp 0), none⟩,
     ⟨(some 10), .ld none (.tmp 5), none⟩,
     ⟨(some 11), .mv (.tmp 2), none⟩,
     ⟨(some 12), .mv (.tmp 3), none⟩,
     ⟨(some 13), .mkf 86 [(.tmp 5)], none⟩,
     ⟨(some 14), .call 82 [(.tmp 9), (.tmp 10), (.tmp 11), (.tmp 12), (.tmp 13)], none⟩,
     ⟨(some 8), .mv (.tmp 14), none⟩])
  .ret))
def sweep_Line_v1.f (k : Nat) (l0 : List (Int × Int × Int × Int)) (wide1 : Int) (y2 : Int) (w3 : Int) : Option (List (Int)) := (sweep_masks_v2.f k l0 wide1 y2 w3 wide1).bind fun t417 => (some t417)
theorem sweep_Line_v1.ok {S : Seal} {k : Nat} {l0 : List (Int × Int × Int × Int)} {wide1 : Int} {y2 : Int} {w3 : Int} {r0_ : List (Int)}{a_l0 : Option Addr} {c_l0 : Nat} (h_l0 : SlE S E_i644 l0 a_l0) (e : sweep_Line_v1.f k l0 wide1 y2 w3 = some r0_) :
    Cal Try.prog 45 [.slice a_l0 l0.length c_l0, .int .i64 wide1, .int .i64 y2, .int .i64 w3] [] S fun v H' S' => ∃ (N0_ : Option Nat) (nN0_ : Nat) , v = .slice (ad N0_) r0_.length (nN0_ / 1) ∧ H' = ([⟨N0_, encL E_u64 r0_, nN0_⟩] : List Own) ∧ S' = S := by
  unfold sweep_Line_v1.f at e
  refine cal_of (c := c45) (N := 15) Try.func45 rfl rfl (by kernel_rfl) (rs := [.t 8]) (by kernel_rfl) (Nat.le_of_ble_eq_true rfl) ?_
  unfold c45
  refine w_seq ?_
  refine w_reg fun all => ?_
  refine t_a (.box rfl rfl rfl) fun b310 fb310 sb310 => ?_
  refine t_qz 1 [0, 2, 3, 5] (σ' := [(0, .slice a_l0 l0.length c_l0), (2, .int .i64 y2), (3, .int .i64 w3), (5, .pointer (some ⟨b310, 0, none⟩))]) (by kernel_rfl) ?_
  refine t_end ?_
  show W _ _ _ _ _ _ _
  refine w_seq ?_
  refine w_reg fun all => ?_
  refine t_qz 1 [2, 3, 5, 9] (σ' := [(2, .int .i64 y2), (3, .int .i64 w3), (5, .pointer (some ⟨b310, 0, none⟩)), (9, .slice a_l0 l0.length c_l0)]) (by kernel_rfl) ?_
  refine t_v (.ld1 rfl rfl rfl (.at 0 rfl rfl)) ?_
  obtain ⟨t417, h418, e⟩ := bind_of e
  refine t_qz 3 [9, 10, 11, 12, 13] (σ' := [(9, .slice a_l0 l0.length c_l0), (10, .int .i64 wide1), (11, .int .i64 y2), (12, .int .i64 w3), (13, .func (.func 86) #[] #[.pointer (some ⟨b310, 0, none⟩)])]) (by kernel_rfl) ?_
  refine t_call (vs := [.slice a_l0 l0.length c_l0, .int .i64 wide1, .int .i64 y2, .int .i64 w3, .func (.func 86) #[] #[.pointer (some ⟨b310, 0, none⟩)]]) (H1 := ([⟨b310, [.int .i64 wide1], 1⟩] : List Own)) (F := ([] : List Own)) rfl rfl (by kernel_rfl) (sel_perm (is := [0]) (by kernel_rfl)) (sweep_masks_v2.ok h_l0 h418) ?_
  rintro _ _ S_ ⟨N419, nN419, rfl, rfl, hS_⟩
  obtain rfl := hS_.symm
  refine t_qz 1 [8] (σ' := [(8, .slice (ad N419) t417.length (nN419 / 1))]) (by kernel_rfl) ?_
  refine t_end ?_
  show W _ _ _ _ _ _ _
  refine w_ret ?_
  obtain rfl := Option.some.inj e
  exact ⟨[.slice (ad N419) t417.length (nN419 / 1)], ([⟨N419, encL E_u64 t417, nN419⟩] : List Own), S, ⟨rfl, trivial⟩, VS.sel [0] (by kernel_rfl), N419, nN419, rfl, rfl, rfl⟩

def bits_OnesCount64.f (x0 : Int) : Option (Int) := (some (wru64 ((bits .and .u64 (Int.fdiv x0 2) 6148914691236517205) + (bits .and .u64 x0 6148914691236517205)))).bind fun v454 => ((some (wru64 ((bits .and .u64 (Int.fdiv v454 4) 3689348814741910323) + (bits .and .u64 v454 3689348814741910323)))).bind fun v456 => ((some (bits .and .u64 (wru64 ((Int.fdiv v456 16) + v456)) 1085102592571150095)).bind fun v458 => ((some (wru64 ((wru64 (v458 + (Int.fdiv v458 256))) + (Int.fdiv (wru64 (v458 + (Int.fdiv v458 256))) 65536)))).bind fun v460 => ((some (bits .and .i64 (wr64 (wru64 (v460 + (Int.fdiv v460 4294967296)))) 127)).bind fun v462 => (some v462)))))
theorem bits_OnesCount64.ok {S : Seal} {x0 : Int} {r0_ : Int}(e : bits_OnesCount64.f x0 = some r0_) :
    Cal Try.prog 85 [.int .u64 x0] [] S fun v H' S' => v = .int .i64 r0_ ∧ H' = [] ∧ S' = S := by
  unfold bits_OnesCount64.f at e
  refine cal_of (c := c85) (N := 35) Try.func85 rfl rfl (by kernel_rfl) (rs := [.t 2]) (by kernel_rfl) (Nat.le_of_ble_eq_true rfl) ?_
  unfold c85
  refine w_seq ?_
  refine w_reg fun all => ?_
  refine t_qz 1 [0] (σ' := [(0, .int .u64 x0)]) (by kernel_rfl) ?_
  refine t_end ?_
  show W _ _ _ _ _ _ _
  refine w_seq ?_
  refine w_reg fun all => ?_
  obtain ⟨v454, hv455, e⟩ := bind_of e
  have hv455b := Option.some.inj hv455
  refine t_qz 5 [5, 7] (σ' := [(5, .int .u64 (bits .and .u64 (Int.fdiv x0 2) 6148914691236517205)), (7, .int .u64 (bits .and .u64 x0 6148914691236517205))]) (by kernel_rfl) ?_
  refine t_v (dv_quiet rfl (congrArg (fun t => some (Value.int .u64 t)) hv455b)) ?_
  refine t_qz 1 [0] (σ' := [(0, .int .u64 v454)]) (by kernel_rfl) ?_
  refine t_end ?_
  show W _ _ _ _ _ _ _
  refine w_seq ?_
  refine w_reg fun all => ?_
  obtain ⟨v456, hv457, e⟩ := bind_of e
  have hv457b := Option.some.inj hv457
  refine t_qz 5 [11, 13] (σ' := [(11, .int .u64 (bits .and .u64 (Int.fdiv v454 4) 3689348814741910323)), (13, .int .u64 (bits .and .u64 v454 3689348814741910323))]) (by kernel_rfl) ?_
  refine t_v (dv_quiet rfl (congrArg (fun t => some (Value.int .u64 t)) hv457b)) ?_
  refine t_qz 1 [0] (σ' := [(0, .int .u64 v456)]) (by kernel_rfl) ?_
  refine t_end ?_
  show W _ _ _ _ _ _ _
  refine w_seq ?_
  refine w_reg fun all => ?_
  obtain ⟨v458, hv459, e⟩ := bind_of e
  have hv459b := Option.some.inj hv459
  refine t_qz 4 [18] (σ' := [(18, .int .u64 (wru64 ((Int.fdiv v456 16) + v456)))]) (by kernel_rfl) ?_
  refine t_v (dv_quiet rfl (congrArg (fun t => some (Value.int .u64 t)) hv459b)) ?_
  refine t_qz 1 [0] (σ' := [(0, .int .u64 v458)]) (by kernel_rfl) ?_
  refine t_end ?_
  show W _ _ _ _ _ _ _
  refine w_seq ?_
  refine w_reg fun all => ?_
  refine t_qz 5 [0] (σ' := [(0, .int .u64 (wru64 (v458 + (Int.fdiv v458 256))))]) (by kernel_rfl) ?_
  refine t_end ?_
  show W _ _ _ _ _ _ _
  refine w_seq ?_
  refine w_reg fun all => ?_
  obtain ⟨v460, hv461, e⟩ := bind_of e
  have hv461b := Option.some.inj hv461
  refine t_qz 3 [24, 26] (σ' := [(24, .int .u64 (wru64 (v458 + (Int.fdiv v458 256)))), (26, .int .u64 (Int.fdiv (wru64 (v458 + (Int.fdiv v458 256))) 65536))]) (by kernel_rfl) ?_
  refine t_v (dv_quiet rfl (congrArg (fun t => some (Value.int .u64 t)) hv461b)) ?_
  refine t_qz 1 [0] (σ' := [(0, .int .u64 v460)]) (by kernel_rfl) ?_
  refine t_end ?_
  show W _ _ _ _ _ _ _
  refine w_seq ?_
  refine w_reg fun all => ?_
  refine t_qz 5 [0] (σ' := [(0, .int .u64 (wru64 (v460 + (Int.fdiv v460 4294967296))))]) (by kernel_rfl) ?_
  refine t_end ?_
  show W _ _ _ _ _ _ _
  refine w_seq ?_
  refine w_reg fun all => ?_
  obtain ⟨v462, hv463, e⟩ := bind_of e
  have hv463b := Option.some.inj hv463
  refine t_qz 2 [33] (σ' := [(33, .int .i64 (wr64 (wru64 (v460 + (Int.fdiv v460 4294967296)))))]) (by kernel_rfl) ?_
  refine t_v (dv_quiet rfl (congrArg (fun t => some (Value.int .i64 t)) hv463b)) ?_
  refine t_qz 1 [2] (σ' := [(2, .int .i64 v462)]) (by kernel_rfl) ?_
  refine t_end ?_
  show W _ _ _ _ _ _ _
  refine w_ret ?_
  obtain rfl := Option.some.inj e
  exact ⟨[.int .i64 v462], [], S, ⟨rfl, trivial⟩, VS.none, rfl, rfl, rfl⟩

def sweep_Count.f (mask0 : Int) : Option (Int) := (bits_OnesCount64.f mask0).bind fun t464 => (some t464)
theorem sweep_Count.ok {S : Seal} {mask0 : Int} {r0_ : Int}(e : sweep_Count.f mask0 = some r0_) :
    Cal Try.prog 42 [.int .u64 mask0] [] S fun v H' S' => v = .int .i64 r0_ ∧ H' = [] ∧ S' = S := by
  unfold sweep_Count.f at e
  refine cal_of (c := c42) (N := 5) Try.func42 rfl rfl (by kernel_rfl) (rs := [.t 2]) (by kernel_rfl) (Nat.le_of_ble_eq_true rfl) ?_
  unfold c42
  refine w_seq ?_
  refine w_reg fun all => ?_
  refine t_qz 1 [0] (σ' := [(0, .int .u64 mask0)]) (by kernel_rfl) ?_
  refine t_end ?_
  show W _ _ _ _ _ _ _
  refine w_seq ?_
  refine w_reg fun all => ?_
  obtain ⟨t464, h465, e⟩ := bind_of e
  refine t_qz 1 [3] (σ' := [(3, .int .u64 mask0)]) (by kernel_rfl) ?_
  refine t_v (.call (vs := [.int .u64 mask0]) rfl rfl (by kernel_rfl) (bits_OnesCount64.ok h465)) ?_
  refine t_qz 1 [2] (σ' := [(2, .int .i64 t464)]) (by kernel_rfl) ?_
  refine t_end ?_
  show W _ _ _ _ _ _ _
  refine w_ret ?_
  obtain rfl := Option.some.inj e
  exact ⟨[.int .i64 t464], [], S, ⟨rfl, trivial⟩, VS.none, rfl, rfl, rfl⟩

/-- glyphicref20.Bits -/
def c50 : C :=
  (.seq (.reg [⟨(some 2), .mv (.const (.int .i64 0)), none⟩])
  (.seq (.reg [⟨(some 3), .mv (.const (.int .i64 0)), none⟩])
  (.seq (.seq (.reg [⟨(some 4), .mv (.const (.int .i64 0)), none⟩])
   (.block 0 (.loop (.seq (.seq (.reg [⟨(some 5), .mv (.tmp 4), none⟩,
         ⟨(some 6), .bin .lss (.tmp 5) (.const (.int .i64 64)), none⟩])
      (.cond (.tmp 6)
       .skip
       (.exit 0)))
     (.seq (.block 1 (.reg [⟨(some 9), .mv (.tmp 3), none⟩,
         ⟨(some 10), .mv (.tmp 0), none⟩,
         ⟨(some 11), .mv (.tmp 4), none⟩,
         ⟨(some 12), .cnv .u64 (.tmp 11), none⟩,
         ⟨(some 13), .bin .shr (.tmp 10) (.tmp 12), none⟩,
         ⟨(some 14), .bin .and (.tmp 13) (.const (.int .u64 1)), none⟩,
         ⟨(some 15), .cnv .i64 (.tmp 14), none⟩,
         ⟨(some 16), .bin .add (.tmp 9) (.tmp 15), none⟩,
         ⟨(some 3), .mv (.tmp 16), none⟩]))
     (.reg [⟨(some 7), .mv (.tmp 4), none⟩,
       ⟨(some 8), .bin .add (.tmp 7) (.const (.int .i64 1)), none⟩,
       ⟨(some 4), .mv (.tmp 8), none⟩]))))))
  (.seq (.reg [⟨(some 17), .mv (.tmp 3), none⟩,
     ⟨(some 2), .mv (.tmp 17), none⟩])
  .ret))))
def glyphicref20_Bits.l0 : Nat → Int → Int → Int → Option (Int)
  | 0, _, _, _ => none
  | k + 1, m0, x475, x476 => if x476 < 64 then (if (wru64 x476) < 0 then none else (glyphicref20_Bits.l0 k m0 (wr64 (x475 + (wr64 (bits .and .u64 (Int.fdiv m0 (2 ^ (min (Int.toNat (wru64 x476)) 64))) 1)))) (wr64 (x476 + 1)))) else (some x475)
def glyphicref20_Bits.f (k : Nat) (m0 : Int) : Option (Int) := (glyphicref20_Bits.l0 k m0 0 0 : Option (Int)).bind fun x481 => (some x481)
theorem glyphicref20_Bits.ok {S : Seal} {k : Nat} {m0 : Int} {r0_ : Int}(e : glyphicref20_Bits.f k m0 = some r0_) :
    Cal Try.prog 50 [.int .u64 m0] [] S fun v H' S' => v = .int .i64 r0_ ∧ H' = [] ∧ S' = S := by
  unfold glyphicref20_Bits.f at e
  refine cal_of (c := c50) (N := 18) Try.func50 rfl rfl (by kernel_rfl) (rs := [.t 2]) (by kernel_rfl) (Nat.le_of_ble_eq_true rfl) ?_
  unfold c50
  refine w_seq ?_
  refine w_reg fun all => ?_
  refine t_qz 1 [0] (σ' := [(0, .int .u64 m0)]) (by kernel_rfl) ?_
  refine t_end ?_
  show W _ _ _ _ _ _ _
  refine w_seq ?_
  refine w_reg fun all => ?_
  refine t_qz 1 [0, 3] (σ' := [(0, .int .u64 m0), (3, .int .i64 0)]) (by kernel_rfl) ?_
  refine t_end ?_
  show W _ _ _ _ _ _ _
  obtain ⟨x481, e473, e⟩ := bind_of e
  refine w_cut [3] (fun σ_ H_ S_ => [(3, .int .i64 x481)] = σ_ ∧ ([] : List Own) = H_ ∧ S = S_) ?_ ?_
  · show W _ _ _ _ _ _ _
    refine w_seq ?_
    refine w_reg fun all => ?_
    refine t_qz 1 [0, 3, 4] (σ' := [(0, .int .u64 m0), (3, .int .i64 0), (4, .int .i64 0)]) (by kernel_rfl) ?_
    refine t_end ?_
    show W _ _ _ _ _ _ _
    refine w_block ?_
    refine w_kp [0, 3, 4] (σ' := [(0, .int .u64 m0), (3, .int .i64 0), (4, .int .i64 0)]) (by kernel_rfl) ?_
    refine w_loop (fun n_ σ_ H_ S_ => ∃ (x475 : Int) (x476 : Int), [(0, .int .u64 m0), (3, .int .i64 x475), (4, .int .i64 x476)] = σ_ ∧ ([] : List Own) = H_ ∧ S = S_ ∧ glyphicref20_Bits.l0 n_ m0 x475 x476 = some x481) _ ⟨0, 0, rfl, rfl, rfl, e473⟩ ?_
    rintro n480 σ_ H_ S_ ⟨x475, x476, rfl, rfl, rfl, e473⟩
    cases n480 with
    | zero => rw [glyphicref20_Bits.l0.eq_1] at e473; cases e473
    | succ k_ =>
      rw [glyphicref20_Bits.l0.eq_2] at e473
      refine w_seq ?_
      refine w_seq ?_
      refine w_reg fun all => ?_
      by_cases c477 : x476 < 64
      · rw [if_pos c477] at e473
        have c477b : (decide (x476 < 64)) = true := decide_eq_true c477
        refine t_qz 1 [0, 3, 4, 5] (σ' := [(0, .int .u64 m0), (3, .int .i64 x475), (4, .int .i64 x476), (5, .int .i64 x476)]) (by kernel_rfl) ?_
        refine t_v (dv_quiet rfl (congrArg (fun t => some (Value.bool t)) c477b)) ?_
        refine t_keep [0, 3, 4, 6] (σ' := [(0, .int .u64 m0), (3, .int .i64 x475), (4, .int .i64 x476), (6, .bool true)]) (by kernel_rfl) ?_
        refine t_end ?_
        show W _ _ _ _ _ _ _
        refine w_cond rfl (fun _ => ?_) (fun c_ => by cases c_)
        show W _ _ _ _ _ _ _
        refine w_skip ?_
        show W _ _ _ _ _ _ _
        refine w_seq ?_
        refine w_block ?_
        refine w_reg fun all => ?_
        have c478 : ¬ (wru64 x476) < 0 := by
          intro h_; rw [if_pos h_] at e473; cases e473
        rw [if_neg c478] at e473
        refine t_qz 4 [0, 4, 9, 10, 12] (σ' := [(0, .int .u64 m0), (4, .int .i64 x476), (9, .int .i64 x475), (10, .int .u64 m0), (12, .int .u64 (wru64 x476))]) (by kernel_rfl) ?_
        refine t_v (.quiet rfl (qv_shr rfl rfl c478)) ?_
        refine t_qz 4 [0, 3, 4] (σ' := [(0, .int .u64 m0), (3, .int .i64 (wr64 (x475 + (wr64 (bits .and .u64 (Int.fdiv m0 (2 ^ (min (Int.toNat (wru64 x476)) 64))) 1))))), (4, .int .i64 x476)]) (by kernel_rfl) ?_
        refine t_end ?_
        show W _ _ _ _ _ _ _
        refine w_reg fun all => ?_
        refine t_qz 3 [0, 3, 4] (σ' := [(0, .int .u64 m0), (3, .int .i64 (wr64 (x475 + (wr64 (bits .and .u64 (Int.fdiv m0 (2 ^ (min (Int.toNat (wru64 x476)) 64))) 1))))), (4, .int .i64 (wr64 (x476 + 1)))]) (by kernel_rfl) ?_
        refine t_end ?_
        exact ⟨k_, Nat.lt_succ_self _, [(0, .int .u64 m0), (3, .int .i64 (wr64 (x475 + (wr64 (bits .and .u64 (Int.fdiv m0 (2 ^ (min (Int.toNat (wru64 x476)) 64))) 1))))), (4, .int .i64 (wr64 (x476 + 1)))], ([] : List Own), S, keep_sub [0, 3, 4] (by kernel_rfl), VS.sel [] (by kernel_rfl), wr64 (x475 + (wr64 (bits .and .u64 (Int.fdiv m0 (2 ^ (min (Int.toNat (wru64 x476)) 64))) 1))), wr64 (x476 + 1), rfl, rfl, rfl, e473⟩
      · rw [if_neg c477] at e473
        have c477b : (decide (x476 < 64)) = false := decide_eq_false c477
        refine t_qz 1 [0, 3, 4, 5] (σ' := [(0, .int .u64 m0), (3, .int .i64 x475), (4, .int .i64 x476), (5, .int .i64 x476)]) (by kernel_rfl) ?_
        refine t_v (dv_quiet rfl (congrArg (fun t => some (Value.bool t)) c477b)) ?_
        refine t_keep [0, 3, 4, 6] (σ' := [(0, .int .u64 m0), (3, .int .i64 x475), (4, .int .i64 x476), (6, .bool false)]) (by kernel_rfl) ?_
        refine t_end ?_
        show W _ _ _ _ _ _ _
        refine w_cond rfl (fun c_ => by cases c_) (fun _ => ?_)
        show W _ _ _ _ _ _ _
        refine w_exit ?_
        obtain rfl := Option.some.inj e473
        exact ⟨([] : List Own), S, VS.sel [] (by kernel_rfl), by kernel_rfl, rfl, rfl⟩
  · rintro σ_ H_ S_ ⟨rfl, rfl, rfl⟩
    refine w_seq ?_
    refine w_reg fun all => ?_
    refine t_qz 2 [2] (σ' := [(2, .int .i64 x481)]) (by kernel_rfl) ?_
    refine t_end ?_
    show W _ _ _ _ _ _ _
    refine w_ret ?_
    obtain rfl := Option.some.inj e
    exact ⟨[.int .i64 x481], [], S, ⟨rfl, trivial⟩, VS.none, rfl, rfl, rfl⟩
end Go.Proofs.Ytpimfacaalkmdaa.QSweepParts
