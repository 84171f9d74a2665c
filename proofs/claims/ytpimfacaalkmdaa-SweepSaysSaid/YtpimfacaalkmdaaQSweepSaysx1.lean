/- Functions of the program as Lean functions, each with the proof of its walk. Written by gen.py, a program of these sessions. -/
import Derived.Test.YtpimfacaalkmdaaQSweepSaysx0
namespace Go.Proofs.Ytpimfacaalkmdaa.QSweepSays
open Go Go.RowKit Go.Proofs.YtpimfacaalkmdaaE Go.Proofs.YtpimfacaalkmdaaX
set_option linter.unusedVariables false
set_option maxRecDepth 100000
set_option maxHeartbeats 8000000
/-- sweep.Fill$1 -/
def c83 : C :=
  (.seq (.reg [⟨(some 4), .box (.tmp 1), none⟩,
     ⟨(some 5), .mv (.const (.bool false)), none⟩])
  (.seq (.reg [⟨(some 6), .mv (.tmp 0), none⟩,
     ⟨(some 7), .ld none (.tmp 2), none⟩,
     ⟨(some 8), .ld (some 2) (.tmp 4), none⟩,
     ⟨(some 9), .call 84 [(.tmp 6), (.tmp 7), (.tmp 8)], none⟩,
     ⟨(some 5), .mv (.tmp 9), none⟩])
  .ret))
def sweep_Fill_1_v1.f (k : Nat) (l0 : List (Int × Int × Int × Int)) (p1_0 : Int) (p1_1 : Int) (m0_0 : Int) : Option (Bool) := (wind_Inside_v1.f k l0 m0_0 p1_0 p1_1).bind fun t129 => (some t129)
theorem sweep_Fill_1_v1.ok {S : Seal} {B0 : Nat} {k : Nat} {l0 : List (Int × Int × Int × Int)} {p1_0 : Int} {p1_1 : Int} {m0_0 : Int} {r0_ : Bool}{a_l0 : Option Addr} {c_l0 : Nat} (h_l0 : SlE S E_i644 l0 a_l0) (e : sweep_Fill_1_v1.f k l0 p1_0 p1_1 m0_0 = some r0_) :
    Cal Try.prog 83 [.slice a_l0 l0.length c_l0, .agg #[.int .i64 p1_0, .int .i64 p1_1], .pointer (some ⟨B0, 0, none⟩)] ([⟨B0, [.int .i64 m0_0], 1⟩] : List Own) S fun v H' S' => v = .bool r0_ ∧ H' = ([⟨B0, [.int .i64 m0_0], 1⟩] : List Own) ∧ S' = S := by
  unfold sweep_Fill_1_v1.f at e
  refine cal_of (c := c83) (N := 10) Try.func83 rfl rfl (by kernel_rfl) (rs := [.t 5]) (by kernel_rfl) (Nat.le_of_ble_eq_true rfl) ?_
  unfold c83
  refine w_seq ?_
  refine w_reg fun all => ?_
  refine t_a (.box rfl rfl rfl) fun b81 fb81 sb81 => ?_
  refine t_qz 1 [0, 2, 4] (σ' := [(0, .slice a_l0 l0.length c_l0), (2, .pointer (some ⟨B0, 0, none⟩)), (4, .pointer (some ⟨b81, 0, none⟩))]) (by kernel_rfl) ?_
  refine t_end ?_
  show W _ _ _ _ _ _ _
  refine w_seq ?_
  refine w_reg fun all => ?_
  refine t_qz 1 [2, 4, 6] (σ' := [(2, .pointer (some ⟨B0, 0, none⟩)), (4, .pointer (some ⟨b81, 0, none⟩)), (6, .slice a_l0 l0.length c_l0)]) (by kernel_rfl) ?_
  refine t_v (.ld1 rfl rfl rfl (.at 1 rfl rfl)) ?_
  refine t_v (.ldn rfl rfl rfl (.at 0 rfl rfl)) ?_
  obtain ⟨t129, h130, e⟩ := bind_of e
  refine t_v (.call (vs := [.slice a_l0 l0.length c_l0, .int .i64 m0_0, .agg #[.int .i64 p1_0, .int .i64 p1_1]]) rfl rfl (by kernel_rfl) (wind_Inside_v1.ok h_l0 h130)) ?_
  refine t_qz 1 [5] (σ' := [(5, .bool t129)]) (by kernel_rfl) ?_
  refine t_end ?_
  show W _ _ _ _ _ _ _
  refine w_ret ?_
  obtain rfl := Option.some.inj e
  exact ⟨[.bool t129], ([⟨B0, [.int .i64 m0_0], 1⟩] : List Own), S, ⟨rfl, trivial⟩, VS.sel [1] (by kernel_rfl), rfl, rfl, rfl⟩

/-- sweep.masks -/
def c82 : C :=
  (.seq (.reg [⟨(some 10), .mv (.const (.slice none 0 0)), none⟩])
  (.seq (.seq (.reg [⟨(some 16), .mv (.tmp 3), none⟩,
      ⟨(some 17), .bin .lss (.tmp 16) (.const (.int .i64 1)), none⟩])
   (.cond (.tmp 17)
    (.seq (.reg [⟨(some 10), .mv (.const (.slice none 0 0)), none⟩])
     .ret)
    .skip))
  (.seq (.reg [⟨(some 18), .mv (.tmp 3), none⟩,
     ⟨(some 19), .mks 1 8 [(.int .u64 0)] (.tmp 18) (.tmp 18), none⟩,
     ⟨(some 11), .mv (.tmp 19), none⟩])
  (.seq (.seq (.reg [⟨(some 20), .mv (.const (.int .i64 0)), none⟩])
   (.block 0 (.loop (.seq (.reg [⟨(some 21), .bin .lss (.tmp 20) (.const (.int .i64 8)), none⟩])
     (.seq (.cond (.tmp 21)
       .skip
       (.exit 0))
     (.seq (.block 1 (.seq (.reg [⟨(some 22), .mv (.tmp 20), none⟩,
          ⟨(some 12), .mv (.tmp 22), none⟩])
       (.seq (.reg [⟨(some 23), .mv (.tmp 0), none⟩,
          ⟨(some 24), .mv (.tmp 1), none⟩,
          ⟨(some 25), .mv (.tmp 2), none⟩,
          ⟨(some 26), .mv (.tmp 12), none⟩,
          ⟨(some 27), .bin .mul (.tmp 26) (.const (.int .i64 8)), none⟩,
          ⟨(some 28), .call 48 [(.const (.int .i64 0)), (.tmp 25), (.tmp 27)], none⟩,
          ⟨(some 29), .fld none 1 (.tmp 28), none⟩,
          ⟨(some 30), .call 110 [(.tmp 23), (.tmp 24), (.tmp 29)], none⟩,
          ⟨(some 13), .mv (.tmp 30), none⟩])
       (.seq (.reg [⟨(some 14), .mv (.const (.int .i64 0)), none⟩])
       (.block 2 (.loop (.seq (.seq (.reg [⟨(some 31), .mv (.tmp 14), none⟩,
             ⟨(some 32), .mv (.tmp 3), none⟩,
             ⟨(some 33), .bin .lss (.tmp 31) (.tmp 32), none⟩,
             ⟨(some 34), .mv (.tmp 33), none⟩,
             ⟨(some 35), .mv (.tmp 13), (some (34, true))⟩,
             ⟨(some 36), .lns (.tmp 35), (some (34, true))⟩,
             ⟨(some 37), .bin .gtr (.tmp 36) (.const (.int .i64 0)), (some (34, true))⟩,
             ⟨(some 38), .pk (.tmp 34) (.tmp 37) (.const (.bool false)), none⟩])
          (.cond (.tmp 38)
           .skip
           (.exit 2)))
         (.seq (.block 3 (.seq (.reg [⟨(some 41), .mv (.tmp 12), none⟩,
              ⟨(some 42), .bin .mul (.tmp 41) (.const (.int .i64 8)), none⟩,
              ⟨(some 15), .mv (.tmp 42), none⟩])
           (.block 4 (.loop (.seq (.seq (.reg [⟨(some 43), .mv (.tmp 15), none⟩,
                 ⟨(some 44), .mv (.tmp 12), none⟩,
                 ⟨(some 45), .bin .add (.tmp 44) (.const (.int .i64 1)), none⟩,
                 ⟨(some 46), .bin .mul (.tmp 45) (.const (.int .i64 8)), none⟩,
                 ⟨(some 47), .bin .lss (.tmp 43) (.tmp 46), none⟩])
              (.cond (.tmp 47)
               .skip
               (.exit 4)))
             (.seq (.block 5 (.seq (.reg [⟨(some 50), .mv (.tmp 4), none⟩,
                  ⟨(some 51), .mv (.tmp 13), none⟩,
                  ⟨(some 52), .mv (.tmp 14), none⟩,
                  ⟨(some 53), .mv (.tmp 2), none⟩,
                  ⟨(some 54), .mv (.tmp 15), none⟩,
                  ⟨(some 55), .call 48 [(.tmp 52), (.tmp 53), (.tmp 54)], none⟩,
                  ⟨(some 56), .clo (.tmp 50) [(.tmp 51), (.tmp 55)], none⟩])
               (.cond (.tmp 56)
                (.drw [⟨(some 57), .mv (.tmp 11), none⟩,
                   ⟨(some 58), .mv (.tmp 14), none⟩,
                   ⟨(some 59), .ixs 1 (.tmp 57) (.tmp 58), none⟩,
                   ⟨(some 60), .ld none (.tmp 59), none⟩,
                   ⟨(some 61), .mv (.tmp 15), none⟩,
                   ⟨(some 62), .bin .shl (.const (.int .u64 1)) (.tmp 61), none⟩,
                   ⟨(some 63), .bin .or (.tmp 60) (.tmp 62), none⟩,
                   ⟨(some 64), .ixs 1 (.tmp 57) (.tmp 58), none⟩,
                   ⟨none, .st 1 (.tmp 64) (.tmp 63), none⟩] [[], [], [0, 1], [2], [], [4], [3, 5], [0, 1, 0, 1, 2, 3, 4, 5, 6], [7, 6, 0, 1, 2, 3, 4, 5, 6]])
                .skip)))
             (.reg [⟨(some 48), .mv (.tmp 15), none⟩,
               ⟨(some 49), .bin .add (.tmp 48) (.const (.int .i64 1)), none⟩,
               ⟨(some 15), .mv (.tmp 49), none⟩])))))))
         (.reg [⟨(some 39), .mv (.tmp 14), none⟩,
           ⟨(some 40), .bin .add (.tmp 39) (.const (.int .i64 1)), none⟩,
           ⟨(some 14), .mv (.tmp 40), none⟩])))))))))
     (.reg [⟨(some 65), .bin .add (.tmp 20) (.const (.int .i64 1)), none⟩,
       ⟨(some 20), .mv (.tmp 65), none⟩])))))))
  (.seq (.reg [⟨(some 66), .mv (.tmp 11), none⟩,
     ⟨(some 10), .mv (.tmp 66), none⟩])
  .ret)))))
def sweep_masks_v1.l2 : Nat → Int → Int → Int → List (Int × Int × Int × Int) → Int → Int → List (Int) → Option (List (Int) × Bool)
  | 0, _, _, _, _, _, _, _ => none
  | k + 1, y2, m0_0, x62, t71, x74, x81, y82 => if x81 < (wr64 ((wr64 (x62 + 1)) * 8)) then ((sweep_Sample.f x74 y2 x81).bind fun (t84, t85) => ((sweep_Fill_1_v1.f k t71 t84 t85 m0_0).bind fun t87 => (if t87 = true then ((lgt y82 x74).bind fun x89 => (if x81 < 0 then none else ((lgt y82 x74).bind fun x92 => ((lput y82 x74 (bits .or .u64 x89 (wru64 (1 * 2 ^ (min (Int.toNat x81) 64))))).bind fun y94 => (sweep_masks_v1.l2 k y2 m0_0 x62 t71 x74 (wr64 (x81 + 1)) y94))))) else (sweep_masks_v1.l2 k y2 m0_0 x62 t71 x74 (wr64 (x81 + 1)) y82)))) else (some (y82, true))
def sweep_masks_v1.l1 : Nat → Int → Int → Int → Int → List (Int × Int × Int × Int) → Int → List (Int) → Option (List (Int))
  | 0, _, _, _, _, _, _, _ => none
  | k + 1, y2, w3, m0_0, x62, t71, x74, y75 => if x74 < w3 then (if (t71.length : Int) > 0 then ((sweep_masks_v1.l2 k y2 m0_0 x62 t71 x74 (wr64 (x62 * 8)) y75 : Option (List (Int) × Bool)).bind fun (y100, x101) => (sweep_masks_v1.l1 k y2 w3 m0_0 x62 t71 (wr64 (x74 + 1)) y100)) else (some y75)) else (some y75)
def sweep_masks_v1.l0 : Nat → List (Int × Int × Int × Int) → Int → Int → Int → Int → Int → List (Int) → Option (List (Int))
  | 0, _, _, _, _, _, _, _ => none
  | k + 1, l0, wide1, y2, w3, m0_0, x62, y63 => if x62 < 8 then (((sweep_Sample.f 0 y2 (wr64 (x62 * 8))).bind fun (t68, t69) => ((sweep_crossing_v1.f k l0 wide1 t69).bind fun t71 => (sweep_masks_v1.l1 k y2 w3 m0_0 x62 t71 0 y63)) : Option (List (Int))).bind fun y104 => (sweep_masks_v1.l0 k l0 wide1 y2 w3 m0_0 (wr64 (x62 + 1)) y104)) else (some y63)
def sweep_masks_v1.f (k : Nat) (l0 : List (Int × Int × Int × Int)) (wide1 : Int) (y2 : Int) (w3 : Int) (m0_0 : Int) : Option (List (Int)) := if w3 < 1 then (some ([] : List (Int))) else ((lmk (0 : Int) w3 w3).bind fun y56 => ((sweep_masks_v1.l0 k l0 wide1 y2 w3 m0_0 0 y56 : Option (List (Int))).bind fun y107 => (some y107)))
theorem sweep_masks_v1.ok {S : Seal} {B0 : Nat} {k : Nat} {l0 : List (Int × Int × Int × Int)} {wide1 : Int} {y2 : Int} {w3 : Int} {m0_0 : Int} {r0_ : List (Int)}{a_l0 : Option Addr} {c_l0 : Nat} (h_l0 : SlE S E_i644 l0 a_l0) (e : sweep_masks_v1.f k l0 wide1 y2 w3 m0_0 = some r0_) :
    Cal Try.prog 82 [.slice a_l0 l0.length c_l0, .int .i64 wide1, .int .i64 y2, .int .i64 w3, .func (.func 83) #[] #[.pointer (some ⟨B0, 0, none⟩)]] ([⟨B0, [.int .i64 m0_0], 1⟩] : List Own) S fun v H' S' => ∃ (N0_ : Option Nat) (nN0_ : Nat) , v = .slice (ad N0_) r0_.length (nN0_ / 1) ∧ H' = ([⟨N0_, encL E_u64 r0_, nN0_⟩, ⟨B0, [.int .i64 m0_0], 1⟩] : List Own) ∧ S' = S := by
  unfold sweep_masks_v1.f at e
  refine cal_of (c := c82) (N := 67) Try.func82 rfl rfl (by kernel_rfl) (rs := [.t 10]) (by kernel_rfl) (Nat.le_of_ble_eq_true rfl) ?_
  unfold c82
  refine w_seq ?_
  refine w_reg fun all => ?_
  refine t_qz 1 [0, 1, 2, 3, 4] (σ' := [(0, .slice a_l0 l0.length c_l0), (1, .int .i64 wide1), (2, .int .i64 y2), (3, .int .i64 w3), (4, .func (.func 83) #[] #[.pointer (some ⟨B0, 0, none⟩)])]) (by kernel_rfl) ?_
  refine t_end ?_
  show W _ _ _ _ _ _ _
  refine w_seq ?_
  refine w_seq ?_
  refine w_reg fun all => ?_
  by_cases c55 : w3 < 1
  · rw [if_pos c55] at e
    have c55b : (decide (w3 < 1)) = true := decide_eq_true c55
    refine t_qz 1 [0, 1, 2, 3, 4, 16] (σ' := [(0, .slice a_l0 l0.length c_l0), (1, .int .i64 wide1), (2, .int .i64 y2), (3, .int .i64 w3), (4, .func (.func 83) #[] #[.pointer (some ⟨B0, 0, none⟩)]), (16, .int .i64 w3)]) (by kernel_rfl) ?_
    refine t_v (dv_quiet rfl (congrArg (fun t => some (Value.bool t)) c55b)) ?_
    refine t_keep [0, 1, 2, 3, 4, 17] (σ' := [(0, .slice a_l0 l0.length c_l0), (1, .int .i64 wide1), (2, .int .i64 y2), (3, .int .i64 w3), (4, .func (.func 83) #[] #[.pointer (some ⟨B0, 0, none⟩)]), (17, .bool true)]) (by kernel_rfl) ?_
    refine t_end ?_
    show W _ _ _ _ _ _ _
    refine w_cond rfl (fun _ => ?_) (fun c_ => by cases c_)
    show W _ _ _ _ _ _ _
    refine w_seq ?_
    refine w_reg fun all => ?_
    refine t_qz 1 [10] (σ' := [(10, .slice none 0 0)]) (by kernel_rfl) ?_
    refine t_end ?_
    show W _ _ _ _ _ _ _
    refine w_ret ?_
    obtain rfl := Option.some.inj e
    exact ⟨[.slice (ad none) ([] : List (Int)).length (0 / 1)], ([⟨none, encL E_u64 ([] : List (Int)), 0⟩, ⟨B0, [.int .i64 m0_0], 1⟩] : List Own), S, ⟨(show gt _ _ = some _ from (by kernel_rfl)), trivial⟩, VS.trans VS.vac (VS.sel [0, 0] (by kernel_rfl)), none, 0, rfl, rfl, rfl⟩
  · rw [if_neg c55] at e
    have c55b : (decide (w3 < 1)) = false := decide_eq_false c55
    refine t_qz 1 [0, 1, 2, 3, 4, 16] (σ' := [(0, .slice a_l0 l0.length c_l0), (1, .int .i64 wide1), (2, .int .i64 y2), (3, .int .i64 w3), (4, .func (.func 83) #[] #[.pointer (some ⟨B0, 0, none⟩)]), (16, .int .i64 w3)]) (by kernel_rfl) ?_
    refine t_v (dv_quiet rfl (congrArg (fun t => some (Value.bool t)) c55b)) ?_
    refine t_keep [0, 1, 2, 3, 4, 17] (σ' := [(0, .slice a_l0 l0.length c_l0), (1, .int .i64 wide1), (2, .int .i64 y2), (3, .int .i64 w3), (4, .func (.func 83) #[] #[.pointer (some ⟨B0, 0, none⟩)]), (17, .bool false)]) (by kernel_rfl) ?_
    refine t_end ?_
    show W _ _ _ _ _ _ _
    refine w_cond rfl (fun c_ => by cases c_) (fun _ => ?_)
    show W _ _ _ _ _ _ _
    refine w_skip ?_
    show W _ _ _ _ _ _ _
    refine w_seq ?_
    refine w_reg fun all => ?_
    obtain ⟨y56, hl57, e⟩ := bind_of e
    refine t_qz 1 [0, 1, 2, 3, 4, 18] (σ' := [(0, .slice a_l0 l0.length c_l0), (1, .int .i64 wide1), (2, .int .i64 y2), (3, .int .i64 w3), (4, .func (.func 83) #[] #[.pointer (some ⟨B0, 0, none⟩)]), (18, .int .i64 w3)]) (by kernel_rfl) ?_
    refine t_mkl (E := E_u64) (x0 := 0) rfl rfl rfl rfl rfl (by decide) (by decide) rfl hl57 fun a58 na58 => ?_
    refine t_qz 1 [0, 1, 2, 3, 4, 11] (σ' := [(0, .slice a_l0 l0.length c_l0), (1, .int .i64 wide1), (2, .int .i64 y2), (3, .int .i64 w3), (4, .func (.func 83) #[] #[.pointer (some ⟨B0, 0, none⟩)]), (11, .slice (ad (some a58)) y56.length (na58 / 1))]) (by kernel_rfl) ?_
    refine t_end ?_
    show W _ _ _ _ _ _ _
    obtain ⟨y107, e60, e⟩ := bind_of e
    refine w_cut [11] (fun σ_ H_ S_ => [(11, .slice (ad (some a58)) y107.length (na58 / 1))] = σ_ ∧ ([⟨B0, [.int .i64 m0_0], 1⟩, ⟨some a58, encL E_u64 y107, na58⟩] : List Own) = H_ ∧ S = S_) ?_ ?_
    · show W _ _ _ _ _ _ _
      refine w_seq ?_
      refine w_reg fun all => ?_
      refine t_qz 1 [0, 1, 2, 3, 4, 11, 20] (σ' := [(0, .slice a_l0 l0.length c_l0), (1, .int .i64 wide1), (2, .int .i64 y2), (3, .int .i64 w3), (4, .func (.func 83) #[] #[.pointer (some ⟨B0, 0, none⟩)]), (11, .slice (ad (some a58)) y56.length (na58 / 1)), (20, .int .i64 0)]) (by kernel_rfl) ?_
      refine t_end ?_
      show W _ _ _ _ _ _ _
      refine w_block ?_
      refine w_kp [0, 1, 2, 3, 4, 11, 20] (σ' := [(0, .slice a_l0 l0.length c_l0), (1, .int .i64 wide1), (2, .int .i64 y2), (3, .int .i64 w3), (4, .func (.func 83) #[] #[.pointer (some ⟨B0, 0, none⟩)]), (11, .slice (ad (some a58)) y56.length (na58 / 1)), (20, .int .i64 0)]) (by kernel_rfl) ?_
      refine w_loop (fun n_ σ_ H_ S_ => ∃ (x62 : Int) (y63 : List (Int)), [(0, .slice a_l0 l0.length c_l0), (1, .int .i64 wide1), (2, .int .i64 y2), (3, .int .i64 w3), (4, .func (.func 83) #[] #[.pointer (some ⟨B0, 0, none⟩)]), (11, .slice (ad (some a58)) y63.length (na58 / 1)), (20, .int .i64 x62)] = σ_ ∧ ([⟨some a58, encL E_u64 y63, na58⟩, ⟨B0, [.int .i64 m0_0], 1⟩] : List Own) = H_ ∧ S = S_ ∧ sweep_masks_v1.l0 n_ l0 wide1 y2 w3 m0_0 x62 y63 = some y107) _ ⟨0, y56, rfl, rfl, rfl, e60⟩ ?_
      rintro n106 σ_ H_ S_ ⟨x62, y63, rfl, rfl, rfl, e60⟩
      cases n106 with
      | zero => rw [sweep_masks_v1.l0.eq_1] at e60; cases e60
      | succ k_ =>
        rw [sweep_masks_v1.l0.eq_2] at e60
        refine w_seq ?_
        refine w_reg fun all => ?_
        by_cases c64 : x62 < 8
        · rw [if_pos c64] at e60
          have c64b : (decide (x62 < 8)) = true := decide_eq_true c64
          refine t_v (dv_quiet rfl (congrArg (fun t => some (Value.bool t)) c64b)) ?_
          refine t_keep [0, 1, 2, 3, 4, 11, 20, 21] (σ' := [(0, .slice a_l0 l0.length c_l0), (1, .int .i64 wide1), (2, .int .i64 y2), (3, .int .i64 w3), (4, .func (.func 83) #[] #[.pointer (some ⟨B0, 0, none⟩)]), (11, .slice (ad (some a58)) y63.length (na58 / 1)), (20, .int .i64 x62), (21, .bool true)]) (by kernel_rfl) ?_
          refine t_end ?_
          show W _ _ _ _ _ _ _
          refine w_seq ?_
          refine w_cond rfl (fun _ => ?_) (fun c_ => by cases c_)
          show W _ _ _ _ _ _ _
          refine w_skip ?_
          show W _ _ _ _ _ _ _
          obtain ⟨y104, e66, e60⟩ := bind_of e60
          refine w_cut [0, 1, 2, 3, 4, 11, 20] (fun σ_ H_ S_ => [(0, .slice a_l0 l0.length c_l0), (1, .int .i64 wide1), (2, .int .i64 y2), (3, .int .i64 w3), (4, .func (.func 83) #[] #[.pointer (some ⟨B0, 0, none⟩)]), (11, .slice (ad (some a58)) y104.length (na58 / 1)), (20, .int .i64 x62)] = σ_ ∧ ([⟨B0, [.int .i64 m0_0], 1⟩, ⟨some a58, encL E_u64 y104, na58⟩] : List Own) = H_ ∧ S = S_) ?_ ?_
          · show W _ _ _ _ _ _ _
            refine w_block ?_
            refine w_seq ?_
            refine w_reg fun all => ?_
            refine t_qz 2 [0, 1, 2, 3, 4, 11, 12, 20] (σ' := [(0, .slice a_l0 l0.length c_l0), (1, .int .i64 wide1), (2, .int .i64 y2), (3, .int .i64 w3), (4, .func (.func 83) #[] #[.pointer (some ⟨B0, 0, none⟩)]), (11, .slice (ad (some a58)) y63.length (na58 / 1)), (12, .int .i64 x62), (20, .int .i64 x62)]) (by kernel_rfl) ?_
            refine t_end ?_
            show W _ _ _ _ _ _ _
            refine w_seq ?_
            refine w_reg fun all => ?_
            obtain ⟨⟨t68, t69⟩, h70, e66⟩ := bind_of e66
            try dsimp only at e66
            refine t_qz 5 [0, 1, 2, 3, 4, 11, 12, 20, 23, 24, 25, 27] (σ' := [(0, .slice a_l0 l0.length c_l0), (1, .int .i64 wide1), (2, .int .i64 y2), (3, .int .i64 w3), (4, .func (.func 83) #[] #[.pointer (some ⟨B0, 0, none⟩)]), (11, .slice (ad (some a58)) y63.length (na58 / 1)), (12, .int .i64 x62), (20, .int .i64 x62), (23, .slice a_l0 l0.length c_l0), (24, .int .i64 wide1), (25, .int .i64 y2), (27, .int .i64 (wr64 (x62 * 8)))]) (by kernel_rfl) ?_
            refine t_v (.call (vs := [.int .i64 0, .int .i64 y2, .int .i64 (wr64 (x62 * 8))]) rfl rfl (by kernel_rfl) (sweep_Sample.ok h70)) ?_
            obtain ⟨t71, h72, e66⟩ := bind_of e66
            refine t_qz 1 [0, 1, 2, 3, 4, 11, 12, 20, 23, 24, 29] (σ' := [(0, .slice a_l0 l0.length c_l0), (1, .int .i64 wide1), (2, .int .i64 y2), (3, .int .i64 w3), (4, .func (.func 83) #[] #[.pointer (some ⟨B0, 0, none⟩)]), (11, .slice (ad (some a58)) y63.length (na58 / 1)), (12, .int .i64 x62), (20, .int .i64 x62), (23, .slice a_l0 l0.length c_l0), (24, .int .i64 wide1), (29, .int .i64 t69)]) (by kernel_rfl) ?_
            refine t_call (vs := [.slice a_l0 l0.length c_l0, .int .i64 wide1, .int .i64 t69]) (H1 := ([] : List Own)) (F := ([⟨some a58, encL E_u64 y63, na58⟩, ⟨B0, [.int .i64 m0_0], 1⟩] : List Own)) rfl rfl (by kernel_rfl) (sel_perm (is := []) (by kernel_rfl)) (sweep_crossing_v1.ok h_l0 h72) ?_
            rintro _ _ S_ ⟨N73, nN73, rfl, rfl, hS_⟩
            obtain rfl := hS_.symm
            refine t_qz 1 [0, 1, 2, 3, 4, 11, 12, 13, 20] (σ' := [(0, .slice a_l0 l0.length c_l0), (1, .int .i64 wide1), (2, .int .i64 y2), (3, .int .i64 w3), (4, .func (.func 83) #[] #[.pointer (some ⟨B0, 0, none⟩)]), (11, .slice (ad (some a58)) y63.length (na58 / 1)), (12, .int .i64 x62), (13, .slice (ad N73) t71.length (nN73 / 4)), (20, .int .i64 x62)]) (by kernel_rfl) ?_
            refine t_end ?_
            show W _ _ _ _ _ _ _
            refine w_seq ?_
            refine w_reg fun all => ?_
            refine t_qz 1 [0, 1, 2, 3, 4, 11, 12, 13, 14, 20] (σ' := [(0, .slice a_l0 l0.length c_l0), (1, .int .i64 wide1), (2, .int .i64 y2), (3, .int .i64 w3), (4, .func (.func 83) #[] #[.pointer (some ⟨B0, 0, none⟩)]), (11, .slice (ad (some a58)) y63.length (na58 / 1)), (12, .int .i64 x62), (13, .slice (ad N73) t71.length (nN73 / 4)), (14, .int .i64 0), (20, .int .i64 x62)]) (by kernel_rfl) ?_
            refine t_end ?_
            show W _ _ _ _ _ _ _
            refine w_block ?_
            refine w_kp [0, 1, 2, 3, 4, 11, 12, 13, 14, 20] (σ' := [(0, .slice a_l0 l0.length c_l0), (1, .int .i64 wide1), (2, .int .i64 y2), (3, .int .i64 w3), (4, .func (.func 83) #[] #[.pointer (some ⟨B0, 0, none⟩)]), (11, .slice (ad (some a58)) y63.length (na58 / 1)), (12, .int .i64 x62), (13, .slice (ad N73) t71.length (nN73 / 4)), (14, .int .i64 0), (20, .int .i64 x62)]) (by kernel_rfl) ?_
            refine w_loop (fun n_ σ_ H_ S_ => ∃ (x74 : Int) (y75 : List (Int)), [(0, .slice a_l0 l0.length c_l0), (1, .int .i64 wide1), (2, .int .i64 y2), (3, .int .i64 w3), (4, .func (.func 83) #[] #[.pointer (some ⟨B0, 0, none⟩)]), (11, .slice (ad (some a58)) y75.length (na58 / 1)), (12, .int .i64 x62), (13, .slice (ad N73) t71.length (nN73 / 4)), (14, .int .i64 x74), (20, .int .i64 x62)] = σ_ ∧ ([⟨N73, encL E_i644 t71, nN73⟩, ⟨some a58, encL E_u64 y75, na58⟩, ⟨B0, [.int .i64 m0_0], 1⟩] : List Own) = H_ ∧ S = S_ ∧ sweep_masks_v1.l1 n_ y2 w3 m0_0 x62 t71 x74 y75 = some y104) _ ⟨0, y63, rfl, rfl, rfl, e66⟩ ?_
            rintro n103 σ_ H_ S_ ⟨x74, y75, rfl, rfl, rfl, e66⟩
            cases n103 with
            | zero => rw [sweep_masks_v1.l1.eq_1] at e66; cases e66
            | succ k_ =>
              rw [sweep_masks_v1.l1.eq_2] at e66
              refine w_seq ?_
              refine w_seq ?_
              refine w_reg fun all => ?_
              by_cases c76 : x74 < w3
              · rw [if_pos c76] at e66
                have c76b : (decide (x74 < w3)) = true := decide_eq_true c76
                refine t_qz 2 [0, 1, 2, 3, 4, 11, 12, 13, 14, 20, 31, 32] (σ' := [(0, .slice a_l0 l0.length c_l0), (1, .int .i64 wide1), (2, .int .i64 y2), (3, .int .i64 w3), (4, .func (.func 83) #[] #[.pointer (some ⟨B0, 0, none⟩)]), (11, .slice (ad (some a58)) y75.length (na58 / 1)), (12, .int .i64 x62), (13, .slice (ad N73) t71.length (nN73 / 4)), (14, .int .i64 x74), (20, .int .i64 x62), (31, .int .i64 x74), (32, .int .i64 w3)]) (by kernel_rfl) ?_
                refine t_v (dv_quiet rfl (congrArg (fun t => some (Value.bool t)) c76b)) ?_
                by_cases c77 : (t71.length : Int) > 0
                · rw [if_pos c77] at e66
                  have c77b : (decide ((t71.length : Int) > 0)) = true := decide_eq_true c77
                  refine t_qz 3 [0, 1, 2, 3, 4, 11, 12, 13, 14, 20, 34, 35, 36] (σ' := [(0, .slice a_l0 l0.length c_l0), (1, .int .i64 wide1), (2, .int .i64 y2), (3, .int .i64 w3), (4, .func (.func 83) #[] #[.pointer (some ⟨B0, 0, none⟩)]), (11, .slice (ad (some a58)) y75.length (na58 / 1)), (12, .int .i64 x62), (13, .slice (ad N73) t71.length (nN73 / 4)), (14, .int .i64 x74), (20, .int .i64 x62), (34, .bool true), (35, .slice (ad N73) t71.length (nN73 / 4)), (36, .int .i64 (t71.length : Int))]) (by kernel_rfl) ?_
                  refine t_v (dv_quiet rfl (congrArg (fun t => some (Value.bool t)) c77b)) ?_
                  refine t_qz 1 [0, 1, 2, 3, 4, 11, 12, 13, 14, 20, 35, 36, 37, 38] (σ' := [(0, .slice a_l0 l0.length c_l0), (1, .int .i64 wide1), (2, .int .i64 y2), (3, .int .i64 w3), (4, .func (.func 83) #[] #[.pointer (some ⟨B0, 0, none⟩)]), (11, .slice (ad (some a58)) y75.length (na58 / 1)), (12, .int .i64 x62), (13, .slice (ad N73) t71.length (nN73 / 4)), (14, .int .i64 x74), (20, .int .i64 x62), (35, .slice (ad N73) t71.length (nN73 / 4)), (36, .int .i64 (t71.length : Int)), (37, .bool true), (38, .bool true)]) (by kernel_rfl) ?_
                  refine t_end ?_
                  show W _ _ _ _ _ _ _
                  refine w_cond rfl (fun _ => ?_) (fun c_ => by cases c_)
                  show W _ _ _ _ _ _ _
                  refine w_skip ?_
                  show W _ _ _ _ _ _ _
                  obtain ⟨⟨y100, x101⟩, e79, e66⟩ := bind_of e66
                  try dsimp only at e66
                  refine w_cut [0, 1, 2, 3, 4, 11, 12, 13, 14, 20, 35, 36, 37] (fun σ_ H_ S_ => [(0, .slice a_l0 l0.length c_l0), (1, .int .i64 wide1), (2, .int .i64 y2), (3, .int .i64 w3), (4, .func (.func 83) #[] #[.pointer (some ⟨B0, 0, none⟩)]), (11, .slice (ad (some a58)) y100.length (na58 / 1)), (12, .int .i64 x62), (13, .slice (ad N73) t71.length (nN73 / 4)), (14, .int .i64 x74), (20, .int .i64 x62), (35, .slice (ad N73) t71.length (nN73 / 4)), (36, .int .i64 (t71.length : Int)), (37, .bool x101)] = σ_ ∧ ([⟨B0, [.int .i64 m0_0], 1⟩, ⟨some a58, encL E_u64 y100, na58⟩, ⟨N73, encL E_i644 t71, nN73⟩] : List Own) = H_ ∧ S = S_) ?_ ?_
                  · show W _ _ _ _ _ _ _
                    refine w_block ?_
                    refine w_seq ?_
                    refine w_reg fun all => ?_
                    refine t_qz 3 [0, 1, 2, 3, 4, 11, 12, 13, 14, 15, 20, 35, 36, 37] (σ' := [(0, .slice a_l0 l0.length c_l0), (1, .int .i64 wide1), (2, .int .i64 y2), (3, .int .i64 w3), (4, .func (.func 83) #[] #[.pointer (some ⟨B0, 0, none⟩)]), (11, .slice (ad (some a58)) y75.length (na58 / 1)), (12, .int .i64 x62), (13, .slice (ad N73) t71.length (nN73 / 4)), (14, .int .i64 x74), (15, .int .i64 (wr64 (x62 * 8))), (20, .int .i64 x62), (35, .slice (ad N73) t71.length (nN73 / 4)), (36, .int .i64 (t71.length : Int)), (37, .bool true)]) (by kernel_rfl) ?_
                    refine t_end ?_
                    show W _ _ _ _ _ _ _
                    refine w_block ?_
                    refine w_kp [0, 1, 2, 3, 4, 11, 12, 13, 14, 15, 20, 35, 36, 37] (σ' := [(0, .slice a_l0 l0.length c_l0), (1, .int .i64 wide1), (2, .int .i64 y2), (3, .int .i64 w3), (4, .func (.func 83) #[] #[.pointer (some ⟨B0, 0, none⟩)]), (11, .slice (ad (some a58)) y75.length (na58 / 1)), (12, .int .i64 x62), (13, .slice (ad N73) t71.length (nN73 / 4)), (14, .int .i64 x74), (15, .int .i64 (wr64 (x62 * 8))), (20, .int .i64 x62), (35, .slice (ad N73) t71.length (nN73 / 4)), (36, .int .i64 (t71.length : Int)), (37, .bool true)]) (by kernel_rfl) ?_
                    refine w_loop (fun n_ σ_ H_ S_ => ∃ (x81 : Int) (y82 : List (Int)), [(0, .slice a_l0 l0.length c_l0), (1, .int .i64 wide1), (2, .int .i64 y2), (3, .int .i64 w3), (4, .func (.func 83) #[] #[.pointer (some ⟨B0, 0, none⟩)]), (11, .slice (ad (some a58)) y82.length (na58 / 1)), (12, .int .i64 x62), (13, .slice (ad N73) t71.length (nN73 / 4)), (14, .int .i64 x74), (15, .int .i64 x81), (20, .int .i64 x62), (35, .slice (ad N73) t71.length (nN73 / 4)), (36, .int .i64 (t71.length : Int)), (37, .bool true)] = σ_ ∧ ([⟨N73, encL E_i644 t71, nN73⟩, ⟨some a58, encL E_u64 y82, na58⟩, ⟨B0, [.int .i64 m0_0], 1⟩] : List Own) = H_ ∧ S = S_ ∧ sweep_masks_v1.l2 n_ y2 m0_0 x62 t71 x74 x81 y82 = some (y100, x101)) _ ⟨wr64 (x62 * 8), y75, rfl, rfl, rfl, e79⟩ ?_
                    rintro n99 σ_ H_ S_ ⟨x81, y82, rfl, rfl, rfl, e79⟩
                    cases n99 with
                    | zero => rw [sweep_masks_v1.l2.eq_1] at e79; cases e79
                    | succ k_ =>
                      rw [sweep_masks_v1.l2.eq_2] at e79
                      refine w_seq ?_
                      refine w_seq ?_
                      refine w_reg fun all => ?_
                      by_cases c83 : x81 < (wr64 ((wr64 (x62 + 1)) * 8))
                      · rw [if_pos c83] at e79
                        have c83b : (decide (x81 < (wr64 ((wr64 (x62 + 1)) * 8)))) = true := decide_eq_true c83
                        refine t_qz 4 [0, 1, 2, 3, 4, 11, 12, 13, 14, 15, 20, 35, 36, 37, 43, 46] (σ' := [(0, .slice a_l0 l0.length c_l0), (1, .int .i64 wide1), (2, .int .i64 y2), (3, .int .i64 w3), (4, .func (.func 83) #[] #[.pointer (some ⟨B0, 0, none⟩)]), (11, .slice (ad (some a58)) y82.length (na58 / 1)), (12, .int .i64 x62), (13, .slice (ad N73) t71.length (nN73 / 4)), (14, .int .i64 x74), (15, .int .i64 x81), (20, .int .i64 x62), (35, .slice (ad N73) t71.length (nN73 / 4)), (36, .int .i64 (t71.length : Int)), (37, .bool true), (43, .int .i64 x81), (46, .int .i64 (wr64 ((wr64 (x62 + 1)) * 8)))]) (by kernel_rfl) ?_
                        refine t_v (dv_quiet rfl (congrArg (fun t => some (Value.bool t)) c83b)) ?_
                        refine t_keep [0, 1, 2, 3, 4, 11, 12, 13, 14, 15, 20, 35, 36, 37, 47] (σ' := [(0, .slice a_l0 l0.length c_l0), (1, .int .i64 wide1), (2, .int .i64 y2), (3, .int .i64 w3), (4, .func (.func 83) #[] #[.pointer (some ⟨B0, 0, none⟩)]), (11, .slice (ad (some a58)) y82.length (na58 / 1)), (12, .int .i64 x62), (13, .slice (ad N73) t71.length (nN73 / 4)), (14, .int .i64 x74), (15, .int .i64 x81), (20, .int .i64 x62), (35, .slice (ad N73) t71.length (nN73 / 4)), (36, .int .i64 (t71.length : Int)), (37, .bool true), (47, .bool true)]) (by kernel_rfl) ?_
                        refine t_end ?_
                        show W _ _ _ _ _ _ _
                        refine w_cond rfl (fun _ => ?_) (fun c_ => by cases c_)
                        show W _ _ _ _ _ _ _
                        refine w_skip ?_
                        show W _ _ _ _ _ _ _
                        refine w_seq ?_
                        refine w_block ?_
                        refine w_seq ?_
                        refine w_reg fun all => ?_
                        obtain ⟨⟨t84, t85⟩, h86, e79⟩ := bind_of e79
                        try dsimp only at e79
                        refine t_qz 5 [0, 1, 2, 3, 4, 11, 12, 13, 14, 15, 20, 35, 36, 37, 50, 51, 52, 53, 54] (σ' := [(0, .slice a_l0 l0.length c_l0), (1, .int .i64 wide1), (2, .int .i64 y2), (3, .int .i64 w3), (4, .func (.func 83) #[] #[.pointer (some ⟨B0, 0, none⟩)]), (11, .slice (ad (some a58)) y82.length (na58 / 1)), (12, .int .i64 x62), (13, .slice (ad N73) t71.length (nN73 / 4)), (14, .int .i64 x74), (15, .int .i64 x81), (20, .int .i64 x62), (35, .slice (ad N73) t71.length (nN73 / 4)), (36, .int .i64 (t71.length : Int)), (37, .bool true), (50, .func (.func 83) #[] #[.pointer (some ⟨B0, 0, none⟩)]), (51, .slice (ad N73) t71.length (nN73 / 4)), (52, .int .i64 x74), (53, .int .i64 y2), (54, .int .i64 x81)]) (by kernel_rfl) ?_
                        refine t_v (.call (vs := [.int .i64 x74, .int .i64 y2, .int .i64 x81]) rfl rfl (by kernel_rfl) (sweep_Sample.ok h86)) ?_
                        obtain ⟨t87, h88, e79⟩ := bind_of e79
                        cases t87 with
                        | true =>
                          rw [if_pos rfl] at e79
                          refine t_v (.clor (vs := [.slice (ad N73) t71.length (nN73 / 4), .agg #[.int .i64 t84, .int .i64 t85]]) (caps := #[.pointer (some ⟨B0, 0, none⟩)]) (A := ([⟨N73, encL E_i644 t71, nN73⟩, ⟨B0, [.int .i64 m0_0], 1⟩] : List Own)) (F0 := ([⟨some a58, encL E_u64 y82, na58⟩] : List Own)) rfl rfl rfl (by kernel_rfl) (by kernel_rfl) (sel_perm (is := [0, 1]) (by kernel_rfl)) (cal_lendr fun S1_ le1_ hS1_ => (sweep_Fill_1_v1.ok (SlE.ofAd (E := E_i644) (L := t71) hS1_ (by decide)) h88))) ?_
                          refine t_keep [0, 1, 2, 3, 4, 11, 12, 13, 14, 15, 20, 35, 36, 37, 56] (σ' := [(0, .slice a_l0 l0.length c_l0), (1, .int .i64 wide1), (2, .int .i64 y2), (3, .int .i64 w3), (4, .func (.func 83) #[] #[.pointer (some ⟨B0, 0, none⟩)]), (11, .slice (ad (some a58)) y82.length (na58 / 1)), (12, .int .i64 x62), (13, .slice (ad N73) t71.length (nN73 / 4)), (14, .int .i64 x74), (15, .int .i64 x81), (20, .int .i64 x62), (35, .slice (ad N73) t71.length (nN73 / 4)), (36, .int .i64 (t71.length : Int)), (37, .bool true), (56, .bool true)]) (by kernel_rfl) ?_
                          refine t_end ?_
                          show W _ _ _ _ _ _ _
                          refine w_cond rfl (fun _ => ?_) (fun c_ => by cases c_)
                          show W _ _ _ _ _ _ _
                          obtain ⟨x89, hx90, e79⟩ := bind_of e79
                          have c91 : ¬ x81 < 0 := by
                            intro h_; rw [if_pos h_] at e79; cases e79
                          rw [if_neg c91] at e79
                          obtain ⟨x92, hx93, e79⟩ := bind_of e79
                          refine w_drwE mixed 8 [.v (.slice (ad (some a58)) y82.length (na58 / 1)), .v (.int .i64 x74), .v (.pointer (some ⟨bk (some a58), (x74).toNat * 1 + 0, none⟩)), .v (.int .u64 x89), .v (.int .i64 x81), .v (.int .u64 (wru64 (1 * 2 ^ (min (Int.toNat x81) 64)))), .v (.int .u64 (bits .or .u64 x89 (wru64 (1 * 2 ^ (min (Int.toNat x81) 64))))), .v (.pointer (some ⟨bk (some a58), (x74).toNat * 1 + 0, none⟩))] (by kernel_rfl) ?_ ?_
                          · refine DI.sq 2 (by kernel_rfl) rfl ?_
                            refine .cons (.quietH rfl (by intro h_; cases h_) (ixl (E := E_u64) (j := 1) rfl rfl rfl (by decide) rfl hx90)) ?_
                            refine .cons (.ld1 rfl rfl rfl (.lst 1 rfl (encL_at (lgt_in hx90).1 rfl))) ?_
                            refine DI.sq 1 (by kernel_rfl) rfl ?_
                            refine .cons (.quiet rfl (qv_shl rfl rfl c91)) ?_
                            refine DI.sq 1 (by kernel_rfl) rfl ?_
                            refine .cons (.quietH rfl (by intro h_; cases h_) (ixl (E := E_u64) (j := 1) rfl rfl rfl (by decide) rfl hx93)) ?_
                            exact .nil
                          refine fk_q 8 [0, 1, 2, 3, 4, 11, 12, 13, 14, 15, 20, 35, 36, 37, 63, 64] (σ' := [(0, .slice a_l0 l0.length c_l0), (1, .int .i64 wide1), (2, .int .i64 y2), (3, .int .i64 w3), (4, .func (.func 83) #[] #[.pointer (some ⟨B0, 0, none⟩)]), (11, .slice (ad (some a58)) y82.length (na58 / 1)), (12, .int .i64 x62), (13, .slice (ad N73) t71.length (nN73 / 4)), (14, .int .i64 x74), (15, .int .i64 x81), (20, .int .i64 x62), (35, .slice (ad N73) t71.length (nN73 / 4)), (36, .int .i64 (t71.length : Int)), (37, .bool true), (63, .int .u64 (bits .or .u64 x89 (wru64 (1 * 2 ^ (min (Int.toNat x81) 64))))), (64, .pointer (some ⟨bk (some a58), (x74).toNat * 1 + 0, none⟩))]) t_more (by kernel_rfl) ?_
                          refine fk_nil fun all => ?_
                          obtain ⟨y94, hl95, e79⟩ := bind_of e79
                          refine t_stl 1 (E := E_u64) (L := y82) (L' := y94) (i := x74) (off := 0) (y0 := x92) (y1 := (bits .or .u64 x89 (wru64 (1 * 2 ^ (min (Int.toNat x81) 64))))) (H' := ([⟨N73, encL E_i644 t71, nN73⟩, ⟨some a58, encL E_u64 y94, na58⟩, ⟨B0, [.int .i64 m0_0], 1⟩] : List Own)) rfl rfl rfl rfl rfl rfl rfl (by decide) rfl hx93 (by kernel_rfl) hl95 rfl ?_
                          refine t_keep [0, 1, 2, 3, 4, 11, 12, 13, 14, 15, 20, 35, 36, 37, 63, 64] (σ' := [(0, .slice a_l0 l0.length c_l0), (1, .int .i64 wide1), (2, .int .i64 y2), (3, .int .i64 w3), (4, .func (.func 83) #[] #[.pointer (some ⟨B0, 0, none⟩)]), (11, .slice (ad (some a58)) y82.length (na58 / 1)), (12, .int .i64 x62), (13, .slice (ad N73) t71.length (nN73 / 4)), (14, .int .i64 x74), (15, .int .i64 x81), (20, .int .i64 x62), (35, .slice (ad N73) t71.length (nN73 / 4)), (36, .int .i64 (t71.length : Int)), (37, .bool true), (63, .int .u64 (bits .or .u64 x89 (wru64 (1 * 2 ^ (min (Int.toNat x81) 64))))), (64, .pointer (some ⟨bk (some a58), (x74).toNat * 1 + 0, none⟩))]) (by kernel_rfl) ?_
                          refine t_eq (σ' := [(0, .slice a_l0 l0.length c_l0), (1, .int .i64 wide1), (2, .int .i64 y2), (3, .int .i64 w3), (4, .func (.func 83) #[] #[.pointer (some ⟨B0, 0, none⟩)]), (11, .slice (ad (some a58)) y94.length (na58 / 1)), (12, .int .i64 x62), (13, .slice (ad N73) t71.length (nN73 / 4)), (14, .int .i64 x74), (15, .int .i64 x81), (20, .int .i64 x62), (35, .slice (ad N73) t71.length (nN73 / 4)), (36, .int .i64 (t71.length : Int)), (37, .bool true), (63, .int .u64 (bits .or .u64 x89 (wru64 (1 * 2 ^ (min (Int.toNat x81) 64))))), (64, .pointer (some ⟨bk (some a58), (x74).toNat * 1 + 0, none⟩))]) (H' := ([⟨N73, encL E_i644 t71, nN73⟩, ⟨some a58, encL E_u64 y94, na58⟩, ⟨B0, [.int .i64 m0_0], 1⟩] : List Own)) (by first | rfl | rw [(lput_is hl95).2]) (by first | rfl | rw [(lput_is hl95).2]) ?_
                          refine t_keep [0, 1, 2, 3, 4, 11, 12, 13, 14, 15, 20, 35, 36, 37] (σ' := [(0, .slice a_l0 l0.length c_l0), (1, .int .i64 wide1), (2, .int .i64 y2), (3, .int .i64 w3), (4, .func (.func 83) #[] #[.pointer (some ⟨B0, 0, none⟩)]), (11, .slice (ad (some a58)) y94.length (na58 / 1)), (12, .int .i64 x62), (13, .slice (ad N73) t71.length (nN73 / 4)), (14, .int .i64 x74), (15, .int .i64 x81), (20, .int .i64 x62), (35, .slice (ad N73) t71.length (nN73 / 4)), (36, .int .i64 (t71.length : Int)), (37, .bool true)]) (by kernel_rfl) ?_
                          refine t_end ?_
                          show W _ _ _ _ _ _ _
                          refine w_reg fun all => ?_
                          refine t_qz 3 [0, 1, 2, 3, 4, 11, 12, 13, 14, 15, 20, 35, 36, 37] (σ' := [(0, .slice a_l0 l0.length c_l0), (1, .int .i64 wide1), (2, .int .i64 y2), (3, .int .i64 w3), (4, .func (.func 83) #[] #[.pointer (some ⟨B0, 0, none⟩)]), (11, .slice (ad (some a58)) y94.length (na58 / 1)), (12, .int .i64 x62), (13, .slice (ad N73) t71.length (nN73 / 4)), (14, .int .i64 x74), (15, .int .i64 (wr64 (x81 + 1))), (20, .int .i64 x62), (35, .slice (ad N73) t71.length (nN73 / 4)), (36, .int .i64 (t71.length : Int)), (37, .bool true)]) (by kernel_rfl) ?_
                          refine t_end ?_
                          exact ⟨k_, Nat.lt_succ_self _, [(0, .slice a_l0 l0.length c_l0), (1, .int .i64 wide1), (2, .int .i64 y2), (3, .int .i64 w3), (4, .func (.func 83) #[] #[.pointer (some ⟨B0, 0, none⟩)]), (11, .slice (ad (some a58)) y94.length (na58 / 1)), (12, .int .i64 x62), (13, .slice (ad N73) t71.length (nN73 / 4)), (14, .int .i64 x74), (15, .int .i64 (wr64 (x81 + 1))), (20, .int .i64 x62), (35, .slice (ad N73) t71.length (nN73 / 4)), (36, .int .i64 (t71.length : Int)), (37, .bool true)], ([⟨N73, encL E_i644 t71, nN73⟩, ⟨some a58, encL E_u64 y94, na58⟩, ⟨B0, [.int .i64 m0_0], 1⟩] : List Own), S, keep_sub [0, 1, 2, 3, 4, 11, 12, 13, 14, 15, 20, 35, 36, 37] (by kernel_rfl), VS.sel [0, 0, 0] (by kernel_rfl), wr64 (x81 + 1), y94, rfl, rfl, rfl, e79⟩
                        | false =>
                          rw [if_neg (by decide)] at e79
                          refine t_v (.clor (vs := [.slice (ad N73) t71.length (nN73 / 4), .agg #[.int .i64 t84, .int .i64 t85]]) (caps := #[.pointer (some ⟨B0, 0, none⟩)]) (A := ([⟨N73, encL E_i644 t71, nN73⟩, ⟨B0, [.int .i64 m0_0], 1⟩] : List Own)) (F0 := ([⟨some a58, encL E_u64 y82, na58⟩] : List Own)) rfl rfl rfl (by kernel_rfl) (by kernel_rfl) (sel_perm (is := [0, 1]) (by kernel_rfl)) (cal_lendr fun S1_ le1_ hS1_ => (sweep_Fill_1_v1.ok (SlE.ofAd (E := E_i644) (L := t71) hS1_ (by decide)) h88))) ?_
                          refine t_keep [0, 1, 2, 3, 4, 11, 12, 13, 14, 15, 20, 35, 36, 37, 56] (σ' := [(0, .slice a_l0 l0.length c_l0), (1, .int .i64 wide1), (2, .int .i64 y2), (3, .int .i64 w3), (4, .func (.func 83) #[] #[.pointer (some ⟨B0, 0, none⟩)]), (11, .slice (ad (some a58)) y82.length (na58 / 1)), (12, .int .i64 x62), (13, .slice (ad N73) t71.length (nN73 / 4)), (14, .int .i64 x74), (15, .int .i64 x81), (20, .int .i64 x62), (35, .slice (ad N73) t71.length (nN73 / 4)), (36, .int .i64 (t71.length : Int)), (37, .bool true), (56, .bool false)]) (by kernel_rfl) ?_
                          refine t_end ?_
                          show W _ _ _ _ _ _ _
                          refine w_cond rfl (fun c_ => by cases c_) (fun _ => ?_)
                          show W _ _ _ _ _ _ _
                          refine w_skip ?_
                          show W _ _ _ _ _ _ _
                          refine w_reg fun all => ?_
                          refine t_qz 3 [0, 1, 2, 3, 4, 11, 12, 13, 14, 15, 20, 35, 36, 37] (σ' := [(0, .slice a_l0 l0.length c_l0), (1, .int .i64 wide1), (2, .int .i64 y2), (3, .int .i64 w3), (4, .func (.func 83) #[] #[.pointer (some ⟨B0, 0, none⟩)]), (11, .slice (ad (some a58)) y82.length (na58 / 1)), (12, .int .i64 x62), (13, .slice (ad N73) t71.length (nN73 / 4)), (14, .int .i64 x74), (15, .int .i64 (wr64 (x81 + 1))), (20, .int .i64 x62), (35, .slice (ad N73) t71.length (nN73 / 4)), (36, .int .i64 (t71.length : Int)), (37, .bool true)]) (by kernel_rfl) ?_
                          refine t_end ?_
                          exact ⟨k_, Nat.lt_succ_self _, [(0, .slice a_l0 l0.length c_l0), (1, .int .i64 wide1), (2, .int .i64 y2), (3, .int .i64 w3), (4, .func (.func 83) #[] #[.pointer (some ⟨B0, 0, none⟩)]), (11, .slice (ad (some a58)) y82.length (na58 / 1)), (12, .int .i64 x62), (13, .slice (ad N73) t71.length (nN73 / 4)), (14, .int .i64 x74), (15, .int .i64 (wr64 (x81 + 1))), (20, .int .i64 x62), (35, .slice (ad N73) t71.length (nN73 / 4)), (36, .int .i64 (t71.length : Int)), (37, .bool true)], ([⟨N73, encL E_i644 t71, nN73⟩, ⟨some a58, encL E_u64 y82, na58⟩, ⟨B0, [.int .i64 m0_0], 1⟩] : List Own), S, keep_sub [0, 1, 2, 3, 4, 11, 12, 13, 14, 15, 20, 35, 36, 37] (by kernel_rfl), VS.sel [0, 0, 0] (by kernel_rfl), wr64 (x81 + 1), y82, rfl, rfl, rfl, e79⟩
                      · rw [if_neg c83] at e79
                        have c83b : (decide (x81 < (wr64 ((wr64 (x62 + 1)) * 8)))) = false := decide_eq_false c83
                        refine t_qz 4 [0, 1, 2, 3, 4, 11, 12, 13, 14, 15, 20, 35, 36, 37, 43, 46] (σ' := [(0, .slice a_l0 l0.length c_l0), (1, .int .i64 wide1), (2, .int .i64 y2), (3, .int .i64 w3), (4, .func (.func 83) #[] #[.pointer (some ⟨B0, 0, none⟩)]), (11, .slice (ad (some a58)) y82.length (na58 / 1)), (12, .int .i64 x62), (13, .slice (ad N73) t71.length (nN73 / 4)), (14, .int .i64 x74), (15, .int .i64 x81), (20, .int .i64 x62), (35, .slice (ad N73) t71.length (nN73 / 4)), (36, .int .i64 (t71.length : Int)), (37, .bool true), (43, .int .i64 x81), (46, .int .i64 (wr64 ((wr64 (x62 + 1)) * 8)))]) (by kernel_rfl) ?_
                        refine t_v (dv_quiet rfl (congrArg (fun t => some (Value.bool t)) c83b)) ?_
                        refine t_keep [0, 1, 2, 3, 4, 11, 12, 13, 14, 15, 20, 35, 36, 37, 47] (σ' := [(0, .slice a_l0 l0.length c_l0), (1, .int .i64 wide1), (2, .int .i64 y2), (3, .int .i64 w3), (4, .func (.func 83) #[] #[.pointer (some ⟨B0, 0, none⟩)]), (11, .slice (ad (some a58)) y82.length (na58 / 1)), (12, .int .i64 x62), (13, .slice (ad N73) t71.length (nN73 / 4)), (14, .int .i64 x74), (15, .int .i64 x81), (20, .int .i64 x62), (35, .slice (ad N73) t71.length (nN73 / 4)), (36, .int .i64 (t71.length : Int)), (37, .bool true), (47, .bool false)]) (by kernel_rfl) ?_
                        refine t_end ?_
                        show W _ _ _ _ _ _ _
                        refine w_cond rfl (fun c_ => by cases c_) (fun _ => ?_)
                        show W _ _ _ _ _ _ _
                        refine w_exit ?_
                        simp only [Option.some.injEq, Prod.mk.injEq] at e79
                        obtain ⟨rfl, rfl⟩ := e79
                        exact ⟨([⟨B0, [.int .i64 m0_0], 1⟩, ⟨some a58, encL E_u64 y82, na58⟩, ⟨N73, encL E_i644 t71, nN73⟩] : List Own), S, VS.sel [2, 1, 0] (by kernel_rfl), by kernel_rfl, rfl, rfl⟩
                  · rintro σ_ H_ S_ ⟨rfl, rfl, rfl⟩
                    refine w_reg fun all => ?_
                    refine t_qz 3 [0, 1, 2, 3, 4, 11, 12, 13, 14, 20, 35, 36, 37] (σ' := [(0, .slice a_l0 l0.length c_l0), (1, .int .i64 wide1), (2, .int .i64 y2), (3, .int .i64 w3), (4, .func (.func 83) #[] #[.pointer (some ⟨B0, 0, none⟩)]), (11, .slice (ad (some a58)) y100.length (na58 / 1)), (12, .int .i64 x62), (13, .slice (ad N73) t71.length (nN73 / 4)), (14, .int .i64 (wr64 (x74 + 1))), (20, .int .i64 x62), (35, .slice (ad N73) t71.length (nN73 / 4)), (36, .int .i64 (t71.length : Int)), (37, .bool x101)]) (by kernel_rfl) ?_
                    refine t_end ?_
                    exact ⟨k_, Nat.lt_succ_self _, [(0, .slice a_l0 l0.length c_l0), (1, .int .i64 wide1), (2, .int .i64 y2), (3, .int .i64 w3), (4, .func (.func 83) #[] #[.pointer (some ⟨B0, 0, none⟩)]), (11, .slice (ad (some a58)) y100.length (na58 / 1)), (12, .int .i64 x62), (13, .slice (ad N73) t71.length (nN73 / 4)), (14, .int .i64 (wr64 (x74 + 1))), (20, .int .i64 x62)], ([⟨N73, encL E_i644 t71, nN73⟩, ⟨some a58, encL E_u64 y100, na58⟩, ⟨B0, [.int .i64 m0_0], 1⟩] : List Own), S, keep_sub [0, 1, 2, 3, 4, 11, 12, 13, 14, 20] (by kernel_rfl), VS.sel [2, 1, 0] (by kernel_rfl), wr64 (x74 + 1), y100, rfl, rfl, rfl, e66⟩
                · rw [if_neg c77] at e66
                  have c77b : (decide ((t71.length : Int) > 0)) = false := decide_eq_false c77
                  refine t_qz 3 [0, 1, 2, 3, 4, 11, 12, 13, 14, 20, 34, 35, 36] (σ' := [(0, .slice a_l0 l0.length c_l0), (1, .int .i64 wide1), (2, .int .i64 y2), (3, .int .i64 w3), (4, .func (.func 83) #[] #[.pointer (some ⟨B0, 0, none⟩)]), (11, .slice (ad (some a58)) y75.length (na58 / 1)), (12, .int .i64 x62), (13, .slice (ad N73) t71.length (nN73 / 4)), (14, .int .i64 x74), (20, .int .i64 x62), (34, .bool true), (35, .slice (ad N73) t71.length (nN73 / 4)), (36, .int .i64 (t71.length : Int))]) (by kernel_rfl) ?_
                  refine t_v (dv_quiet rfl (congrArg (fun t => some (Value.bool t)) c77b)) ?_
                  refine t_qz 1 [0, 1, 2, 3, 4, 11, 12, 13, 14, 20, 35, 36, 37, 38] (σ' := [(0, .slice a_l0 l0.length c_l0), (1, .int .i64 wide1), (2, .int .i64 y2), (3, .int .i64 w3), (4, .func (.func 83) #[] #[.pointer (some ⟨B0, 0, none⟩)]), (11, .slice (ad (some a58)) y75.length (na58 / 1)), (12, .int .i64 x62), (13, .slice (ad N73) t71.length (nN73 / 4)), (14, .int .i64 x74), (20, .int .i64 x62), (35, .slice (ad N73) t71.length (nN73 / 4)), (36, .int .i64 (t71.length : Int)), (37, .bool false), (38, .bool false)]) (by kernel_rfl) ?_
                  refine t_end ?_
                  show W _ _ _ _ _ _ _
                  refine w_cond rfl (fun c_ => by cases c_) (fun _ => ?_)
                  show W _ _ _ _ _ _ _
                  refine w_exit ?_
                  obtain rfl := Option.some.inj e66
                  exact ⟨([⟨B0, [.int .i64 m0_0], 1⟩, ⟨some a58, encL E_u64 y75, na58⟩] : List Own), S, VS.sel [2, 1] (by kernel_rfl), by kernel_rfl, rfl, rfl⟩
              · rw [if_neg c76] at e66
                have c76b : (decide (x74 < w3)) = false := decide_eq_false c76
                refine t_qz 2 [0, 1, 2, 3, 4, 11, 12, 13, 14, 20, 31, 32] (σ' := [(0, .slice a_l0 l0.length c_l0), (1, .int .i64 wide1), (2, .int .i64 y2), (3, .int .i64 w3), (4, .func (.func 83) #[] #[.pointer (some ⟨B0, 0, none⟩)]), (11, .slice (ad (some a58)) y75.length (na58 / 1)), (12, .int .i64 x62), (13, .slice (ad N73) t71.length (nN73 / 4)), (14, .int .i64 x74), (20, .int .i64 x62), (31, .int .i64 x74), (32, .int .i64 w3)]) (by kernel_rfl) ?_
                refine t_v (dv_quiet rfl (congrArg (fun t => some (Value.bool t)) c76b)) ?_
                refine t_qz 5 [0, 1, 2, 3, 4, 11, 12, 13, 14, 20, 35, 36, 37, 38] (σ' := [(0, .slice a_l0 l0.length c_l0), (1, .int .i64 wide1), (2, .int .i64 y2), (3, .int .i64 w3), (4, .func (.func 83) #[] #[.pointer (some ⟨B0, 0, none⟩)]), (11, .slice (ad (some a58)) y75.length (na58 / 1)), (12, .int .i64 x62), (13, .slice (ad N73) t71.length (nN73 / 4)), (14, .int .i64 x74), (20, .int .i64 x62), (35, .tuple #[]), (36, .tuple #[]), (37, .tuple #[]), (38, .bool false)]) (by kernel_rfl) ?_
                refine t_end ?_
                show W _ _ _ _ _ _ _
                refine w_cond rfl (fun c_ => by cases c_) (fun _ => ?_)
                show W _ _ _ _ _ _ _
                refine w_exit ?_
                obtain rfl := Option.some.inj e66
                exact ⟨([⟨B0, [.int .i64 m0_0], 1⟩, ⟨some a58, encL E_u64 y75, na58⟩] : List Own), S, VS.sel [2, 1] (by kernel_rfl), by kernel_rfl, rfl, rfl⟩
          · rintro σ_ H_ S_ ⟨rfl, rfl, rfl⟩
            refine w_reg fun all => ?_
            refine t_qz 2 [0, 1, 2, 3, 4, 11, 20] (σ' := [(0, .slice a_l0 l0.length c_l0), (1, .int .i64 wide1), (2, .int .i64 y2), (3, .int .i64 w3), (4, .func (.func 83) #[] #[.pointer (some ⟨B0, 0, none⟩)]), (11, .slice (ad (some a58)) y104.length (na58 / 1)), (20, .int .i64 (wr64 (x62 + 1)))]) (by kernel_rfl) ?_
            refine t_end ?_
            exact ⟨k_, Nat.lt_succ_self _, [(0, .slice a_l0 l0.length c_l0), (1, .int .i64 wide1), (2, .int .i64 y2), (3, .int .i64 w3), (4, .func (.func 83) #[] #[.pointer (some ⟨B0, 0, none⟩)]), (11, .slice (ad (some a58)) y104.length (na58 / 1)), (20, .int .i64 (wr64 (x62 + 1)))], ([⟨some a58, encL E_u64 y104, na58⟩, ⟨B0, [.int .i64 m0_0], 1⟩] : List Own), S, keep_sub [0, 1, 2, 3, 4, 11, 20] (by kernel_rfl), VS.sel [1, 0] (by kernel_rfl), wr64 (x62 + 1), y104, rfl, rfl, rfl, e60⟩
        · rw [if_neg c64] at e60
          have c64b : (decide (x62 < 8)) = false := decide_eq_false c64
          refine t_v (dv_quiet rfl (congrArg (fun t => some (Value.bool t)) c64b)) ?_
          refine t_keep [0, 1, 2, 3, 4, 11, 20, 21] (σ' := [(0, .slice a_l0 l0.length c_l0), (1, .int .i64 wide1), (2, .int .i64 y2), (3, .int .i64 w3), (4, .func (.func 83) #[] #[.pointer (some ⟨B0, 0, none⟩)]), (11, .slice (ad (some a58)) y63.length (na58 / 1)), (20, .int .i64 x62), (21, .bool false)]) (by kernel_rfl) ?_
          refine t_end ?_
          show W _ _ _ _ _ _ _
          refine w_seq ?_
          refine w_cond rfl (fun c_ => by cases c_) (fun _ => ?_)
          show W _ _ _ _ _ _ _
          refine w_exit ?_
          obtain rfl := Option.some.inj e60
          exact ⟨([⟨B0, [.int .i64 m0_0], 1⟩, ⟨some a58, encL E_u64 y63, na58⟩] : List Own), S, VS.sel [1, 0] (by kernel_rfl), by kernel_rfl, rfl, rfl⟩
    · rintro σ_ H_ S_ ⟨rfl, rfl, rfl⟩
      refine w_seq ?_
      refine w_reg fun all => ?_
      refine t_qz 2 [10] (σ' := [(10, .slice (ad (some a58)) y107.length (na58 / 1))]) (by kernel_rfl) ?_
      refine t_end ?_
      show W _ _ _ _ _ _ _
      refine w_ret ?_
      obtain rfl := Option.some.inj e
      exact ⟨[.slice (ad (some a58)) y107.length (na58 / 1)], ([⟨some a58, encL E_u64 y107, na58⟩, ⟨B0, [.int .i64 m0_0], 1⟩] : List Own), S, ⟨(show gt _ _ = some _ from (by kernel_rfl)), trivial⟩, VS.sel [1, 0] (by kernel_rfl), some a58, na58, rfl, rfl, rfl⟩

/-- sweep.Fill -/
def c41 : C :=
  (.seq (.reg [⟨(some 5), .box (.tmp 1), none⟩,
     ⟨(some 8), .mv (.const (.slice none 0 0)), none⟩])
  (.seq (.reg [⟨(some 9), .mv (.tmp 0), none⟩,
     ⟨(some 10), .mv (.tmp 2), none⟩,
     ⟨(some 11), .mv (.tmp 3), none⟩,
     ⟨(some 12), .mkf 83 [(.tmp 5)], none⟩,
     ⟨(some 13), .call 82 [(.tmp 9), (.const (.int .i64 0)), (.tmp 10), (.tmp 11), (.tmp 12)], none⟩,
     ⟨(some 8), .mv (.tmp 13), none⟩])
  .ret))
def sweep_Fill_v1.f (k : Nat) (l0 : List (Int × Int × Int × Int)) (rule1 : Int) (y2 : Int) (w3 : Int) : Option (List (Int)) := (sweep_masks_v1.f k l0 0 y2 w3 rule1).bind fun t108 => (some t108)
theorem sweep_Fill_v1.ok {S : Seal} {k : Nat} {l0 : List (Int × Int × Int × Int)} {rule1 : Int} {y2 : Int} {w3 : Int} {r0_ : List (Int)}{a_l0 : Option Addr} {c_l0 : Nat} (h_l0 : SlE S E_i644 l0 a_l0) (e : sweep_Fill_v1.f k l0 rule1 y2 w3 = some r0_) :
    Cal Try.prog 41 [.slice a_l0 l0.length c_l0, .int .i64 rule1, .int .i64 y2, .int .i64 w3] [] S fun v H' S' => ∃ (N0_ : Option Nat) (nN0_ : Nat) , v = .slice (ad N0_) r0_.length (nN0_ / 1) ∧ H' = ([⟨N0_, encL E_u64 r0_, nN0_⟩] : List Own) ∧ S' = S := by
  unfold sweep_Fill_v1.f at e
  refine cal_of (c := c41) (N := 14) Try.func41 rfl rfl (by kernel_rfl) (rs := [.t 8]) (by kernel_rfl) (Nat.le_of_ble_eq_true rfl) ?_
  unfold c41
  refine w_seq ?_
  refine w_reg fun all => ?_
  refine t_a (.box rfl rfl rfl) fun b1 fb1 sb1 => ?_
  refine t_qz 1 [0, 2, 3, 5] (σ' := [(0, .slice a_l0 l0.length c_l0), (2, .int .i64 y2), (3, .int .i64 w3), (5, .pointer (some ⟨b1, 0, none⟩))]) (by kernel_rfl) ?_
  refine t_end ?_
  show W _ _ _ _ _ _ _
  refine w_seq ?_
  refine w_reg fun all => ?_
  obtain ⟨t108, h109, e⟩ := bind_of e
  refine t_qz 4 [9, 10, 11, 12] (σ' := [(9, .slice a_l0 l0.length c_l0), (10, .int .i64 y2), (11, .int .i64 w3), (12, .func (.func 83) #[] #[.pointer (some ⟨b1, 0, none⟩)])]) (by kernel_rfl) ?_
  refine t_call (vs := [.slice a_l0 l0.length c_l0, .int .i64 0, .int .i64 y2, .int .i64 w3, .func (.func 83) #[] #[.pointer (some ⟨b1, 0, none⟩)]]) (H1 := ([⟨b1, [.int .i64 rule1], 1⟩] : List Own)) (F := ([] : List Own)) rfl rfl (by kernel_rfl) (sel_perm (is := [0]) (by kernel_rfl)) (sweep_masks_v1.ok h_l0 h109) ?_
  rintro _ _ S_ ⟨N110, nN110, rfl, rfl, hS_⟩
  obtain rfl := hS_.symm
  refine t_qz 1 [8] (σ' := [(8, .slice (ad N110) t108.length (nN110 / 1))]) (by kernel_rfl) ?_
  refine t_end ?_
  show W _ _ _ _ _ _ _
  refine w_ret ?_
  obtain rfl := Option.some.inj e
  exact ⟨[.slice (ad N110) t108.length (nN110 / 1)], ([⟨N110, encL E_u64 t108, nN110⟩] : List Own), S, ⟨rfl, trivial⟩, VS.sel [0] (by kernel_rfl), N110, nN110, rfl, rfl, rfl⟩

/-- math/bits.OnesCount64 -/
def c85 : C :=
  (.seq (.reg [⟨(some 2), .mv (.const (.int .i64 0)), none⟩])
  (.seq (.reg [⟨(some 3), .mv (.tmp 0), none⟩,
     ⟨(some 4), .bin .shr (.tmp 3) (.const (.int .u64 1)), none⟩,
     ⟨(some 5), .bin .and (.tmp 4) (.const (.int .u64 6148914691236517205)), none⟩,
     ⟨(some 6), .mv (.tmp 0), none⟩,
     ⟨(some 7), .bin .and (.tmp 6) (.const (.int .u64 6148914691236517205)), none⟩,
     ⟨(some 8), .bin .add (.tmp 5) (.tmp 7), none⟩,
     ⟨(some 0), .mv (.tmp 8), none⟩])
  (.seq (.reg [⟨(some 9), .mv (.tmp 0), none⟩,
     ⟨(some 10), .bin .shr (.tmp 9) (.const (.int .u64 2)), none⟩,
     ⟨(some 11), .bin .and (.tmp 10) (.const (.int .u64 3689348814741910323)), none⟩,
     ⟨(some 12), .mv (.tmp 0), none⟩,
     ⟨(some 13), .bin .and (.tmp 12) (.const (.int .u64 3689348814741910323)), none⟩,
     ⟨(some 14), .bin .add (.tmp 11) (.tmp 13), none⟩,
     ⟨(some 0), .mv (.tmp 14), none⟩])
  (.seq (.reg [⟨(some 15), .mv (.tmp 0), none⟩,
     ⟨(some 16), .bin .shr (.tmp 15) (.const (.int .u64 4)), none⟩,
     ⟨(some 17), .mv (.tmp 0), none⟩,
     ⟨(some 18), .bin .add (.tmp 16) (.tmp 17), none⟩,
     ⟨(some 19), .bin .and (.tmp 18) (.const (.int .u64 1085102592571150095)), none⟩,
     ⟨(some 0), .mv (.tmp 19), none⟩])
  (.seq (.reg [⟨(some 20), .mv (.tmp 0), none⟩,
     ⟨(some 21), .mv (.tmp 0), none⟩,
     ⟨(some 22), .bin .shr (.tmp 21) (.const (.int .u64 8)), none⟩,
     ⟨(some 23), .bin .add (.tmp 20) (.tmp 22), none⟩,
     ⟨(some 0), .mv (.tmp 23), none⟩])
  (.seq (.reg [⟨(some 24), .mv (.tmp 0), none⟩,
     ⟨(some 25), .mv (.tmp 0), none⟩,
     ⟨(some 26), .bin .shr (.tmp 25) (.const (.int .u64 16)), none⟩,
     ⟨(some 27), .bin .add (.tmp 24) (.tmp 26), none⟩,
     ⟨(some 0), .mv (.tmp 27), none⟩])
  (.seq (.reg [⟨(some 28), .mv (.tmp 0), none⟩,
     ⟨(some 29), .mv (.tmp 0), none⟩,
     ⟨(some 30), .bin .shr (.tmp 29) (.const (.int .u64 32)), none⟩,
     ⟨(some 31), .bin .add (.tmp 28) (.tmp 30), none⟩,
     ⟨(some 0), .mv (.tmp 31), none⟩])
  (.seq (.reg [⟨(some 32), .mv (.tmp 0), none⟩,
     ⟨(some 33), .cnv .i64 (.tmp 32), none⟩,
     ⟨(some 34), .bin .and (.tmp 33) (.const (.int .i64 127)), none⟩,
     ⟨(some 2), .mv (.tmp 34), none⟩])
  .ret))))))))
def bits_OnesCount64_v1.f  : Option (Unit) := some ()
theorem bits_OnesCount64_v1.ok {S : Seal}  (e : bits_OnesCount64_v1.f  = some ()) :
    Cal Try.prog 85 [.int .u64 5] [] S fun v H' S' => v = .int .i64 2 ∧ H' = [] ∧ S' = S := by
  unfold bits_OnesCount64_v1.f at e
  refine cal_of (c := c85) (N := 35) Try.func85 rfl rfl (by kernel_rfl) (rs := [.t 2]) (by kernel_rfl) (Nat.le_of_ble_eq_true rfl) ?_
  unfold c85
  refine w_seq ?_
  refine w_reg fun all => ?_
  refine t_qz 1 [0] (σ' := [(0, .int .u64 5)]) (by kernel_rfl) ?_
  refine t_end ?_
  show W _ _ _ _ _ _ _
  refine w_seq ?_
  refine w_reg fun all => ?_
  refine t_qz 7 [0] (σ' := [(0, .int .u64 5)]) (by kernel_rfl) ?_
  refine t_end ?_
  show W _ _ _ _ _ _ _
  refine w_seq ?_
  refine w_reg fun all => ?_
  refine t_qz 7 [0] (σ' := [(0, .int .u64 2)]) (by kernel_rfl) ?_
  refine t_end ?_
  show W _ _ _ _ _ _ _
  refine w_seq ?_
  refine w_reg fun all => ?_
  refine t_qz 6 [0] (σ' := [(0, .int .u64 2)]) (by kernel_rfl) ?_
  refine t_end ?_
  show W _ _ _ _ _ _ _
  refine w_seq ?_
  refine w_reg fun all => ?_
  refine t_qz 5 [0] (σ' := [(0, .int .u64 2)]) (by kernel_rfl) ?_
  refine t_end ?_
  show W _ _ _ _ _ _ _
  refine w_seq ?_
  refine w_reg fun all => ?_
  refine t_qz 5 [0] (σ' := [(0, .int .u64 2)]) (by kernel_rfl) ?_
  refine t_end ?_
  show W _ _ _ _ _ _ _
  refine w_seq ?_
  refine w_reg fun all => ?_
  refine t_qz 5 [0] (σ' := [(0, .int .u64 2)]) (by kernel_rfl) ?_
  refine t_end ?_
  show W _ _ _ _ _ _ _
  refine w_seq ?_
  refine w_reg fun all => ?_
  refine t_qz 4 [2] (σ' := [(2, .int .i64 2)]) (by kernel_rfl) ?_
  refine t_end ?_
  show W _ _ _ _ _ _ _
  refine w_ret ?_
  exact ⟨[.int .i64 2], [], S, ⟨rfl, trivial⟩, VS.none, rfl, rfl, rfl⟩

/-- sweep.Count -/
def c42 : C :=
  (.seq (.reg [⟨(some 2), .mv (.const (.int .i64 0)), none⟩])
  (.seq (.reg [⟨(some 3), .mv (.tmp 0), none⟩,
     ⟨(some 4), .call 85 [(.tmp 3)], none⟩,
     ⟨(some 2), .mv (.tmp 4), none⟩])
  .ret))
def sweep_Count_v1.f  : Option (Unit) := (bits_OnesCount64_v1.f).bind fun _ => (some ())
theorem sweep_Count_v1.ok {S : Seal}  (e : sweep_Count_v1.f  = some ()) :
    Cal Try.prog 42 [.int .u64 5] [] S fun v H' S' => v = .int .i64 2 ∧ H' = [] ∧ S' = S := by
  unfold sweep_Count_v1.f at e
  refine cal_of (c := c42) (N := 5) Try.func42 rfl rfl (by kernel_rfl) (rs := [.t 2]) (by kernel_rfl) (Nat.le_of_ble_eq_true rfl) ?_
  unfold c42
  refine w_seq ?_
  refine w_reg fun all => ?_
  refine t_qz 1 [0] (σ' := [(0, .int .u64 5)]) (by kernel_rfl) ?_
  refine t_end ?_
  show W _ _ _ _ _ _ _
  refine w_seq ?_
  refine w_reg fun all => ?_
  obtain ⟨u_, h121, e⟩ := bind_of e
  refine t_qz 1 [3] (σ' := [(3, .int .u64 5)]) (by kernel_rfl) ?_
  refine t_v (.call (vs := [.int .u64 5]) rfl rfl (by kernel_rfl) (bits_OnesCount64_v1.ok h121)) ?_
  refine t_qz 1 [2] (σ' := [(2, .int .i64 2)]) (by kernel_rfl) ?_
  refine t_end ?_
  show W _ _ _ _ _ _ _
  refine w_ret ?_
  exact ⟨[.int .i64 2], [], S, ⟨rfl, trivial⟩, VS.none, rfl, rfl, rfl⟩

/-- glyphiclaw24.first -/
def c40 : C :=
  (.seq (.reg [⟨(some 0), .mv (.const (.bool false)), none⟩])
  (.seq (.reg [⟨(some 2), .call 41 [(.const (.slice none 0 0)), (.const (.int .i64 0)), (.const (.int .i64 0)), (.const (.int .i64 2))], none⟩,
     ⟨(some 1), .mv (.tmp 2), none⟩])
  (.seq (.reg [⟨(some 3), .mv (.tmp 1), none⟩,
     ⟨(some 4), .lns (.tmp 3), none⟩,
     ⟨(some 5), .bin .eql (.tmp 4) (.const (.int .i64 2)), none⟩,
     ⟨(some 6), .mv (.tmp 5), none⟩,
     ⟨(some 7), .mv (.tmp 1), (some (6, true))⟩,
     ⟨(some 8), .ixs 1 (.tmp 7) (.const (.int .i64 0)), (some (6, true))⟩,
     ⟨(some 9), .ld none (.tmp 8), (some (6, true))⟩,
     ⟨(some 10), .bin .eql (.tmp 9) (.const (.int .u64 0)), (some (6, true))⟩,
     ⟨(some 11), .pk (.tmp 6) (.tmp 10) (.const (.bool false)), none⟩,
     ⟨(some 12), .mv (.tmp 11), none⟩,
     ⟨(some 13), .mv (.tmp 1), (some (12, true))⟩,
     ⟨(some 14), .ixs 1 (.tmp 13) (.const (.int .i64 1)), (some (12, true))⟩,
     ⟨(some 15), .ld none (.tmp 14), (some (12, true))⟩,
     ⟨(some 16), .bin .eql (.tmp 15) (.const (.int .u64 0)), (some (12, true))⟩,
     ⟨(some 17), .pk (.tmp 12) (.tmp 16) (.const (.bool false)), none⟩,
     ⟨(some 18), .mv (.tmp 17), none⟩,
     ⟨(some 19), .call 42 [(.const (.int .u64 5))], (some (18, true))⟩,
     ⟨(some 20), .bin .eql (.tmp 19) (.const (.int .i64 2)), (some (18, true))⟩,
     ⟨(some 21), .pk (.tmp 18) (.tmp 20) (.const (.bool false)), none⟩,
     ⟨(some 0), .mv (.tmp 21), none⟩])
  .ret)))
def glyphiclaw24_first.f (k : Nat)  : Option (Bool) := (sweep_Fill_v1.f k ([] : List (Int × Int × Int × Int)) 0 0 2).bind fun t111 => (if (t111.length : Int) = 2 then ((lgt t111 0).bind fun x115 => (if x115 = 0 then ((lgt t111 1).bind fun x118 => (if x118 = 0 then ((sweep_Count_v1.f).bind fun _ => (some true)) else (some false))) else (some false))) else (some false))
theorem glyphiclaw24_first.ok {S : Seal} {k : Nat}  {r0_ : Bool}(e : glyphiclaw24_first.f k  = some r0_) :
    Cal Try.prog 40 [] [] S fun v H' S' => v = .bool r0_ ∧ H' = [] ∧ S' = S := by
  unfold glyphiclaw24_first.f at e
  refine cal_of (c := c40) (N := 22) Try.func40 rfl rfl (by kernel_rfl) (rs := [.t 0]) (by kernel_rfl) (Nat.le_of_ble_eq_true rfl) ?_
  unfold c40
  refine w_seq ?_
  refine w_reg fun all => ?_
  refine t_qz 1 [] (σ' := []) (by kernel_rfl) ?_
  refine t_end ?_
  show W _ _ _ _ _ _ _
  refine w_seq ?_
  refine w_reg fun all => ?_
  obtain ⟨t111, h112, e⟩ := bind_of e
  refine t_call (vs := [.slice none ([] : List (Int × Int × Int × Int)).length 0, .int .i64 0, .int .i64 0, .int .i64 2]) (H1 := ([] : List Own)) (F := ([] : List Own)) rfl rfl (by kernel_rfl) (sel_perm (is := []) (by kernel_rfl)) (sweep_Fill_v1.ok SlE.nil h112) ?_
  rintro _ _ S_ ⟨N113, nN113, rfl, rfl, hS_⟩
  obtain rfl := hS_.symm
  refine t_qz 1 [1] (σ' := [(1, .slice (ad N113) t111.length (nN113 / 1))]) (by kernel_rfl) ?_
  refine t_end ?_
  show W _ _ _ _ _ _ _
  refine w_seq ?_
  refine w_reg fun all => ?_
  by_cases c114 : (t111.length : Int) = 2
  · rw [if_pos c114] at e
    have c114b : ((t111.length : Int) == 2) = true := beq_iff_eq.mpr c114
    refine t_qz 2 [1, 4] (σ' := [(1, .slice (ad N113) t111.length (nN113 / 1)), (4, .int .i64 (t111.length : Int))]) (by kernel_rfl) ?_
    refine t_v (dv_quiet rfl (congrArg (fun t => some (Value.bool t)) c114b)) ?_
    obtain ⟨x115, hx116, e⟩ := bind_of e
    refine t_qz 2 [1, 6, 7] (σ' := [(1, .slice (ad N113) t111.length (nN113 / 1)), (6, .bool true), (7, .slice (ad N113) t111.length (nN113 / 1))]) (by kernel_rfl) ?_
    refine t_v (.quietH rfl (by intro h_; cases h_) (ixl (E := E_u64) (j := 0) rfl rfl rfl (by decide) rfl hx116)) ?_
    refine t_v (.ld1 rfl rfl rfl (.lst 0 rfl (encL_at (lgt_in hx116).1 rfl))) ?_
    by_cases c117 : x115 = 0
    · rw [if_pos c117] at e
      have c117b : (x115 == 0) = true := beq_iff_eq.mpr c117
      refine t_v (dv_quiet rfl (congrArg (fun t => some (Value.bool t)) c117b)) ?_
      obtain ⟨x118, hx119, e⟩ := bind_of e
      refine t_qz 3 [12, 13] (σ' := [(12, .bool true), (13, .slice (ad N113) t111.length (nN113 / 1))]) (by kernel_rfl) ?_
      refine t_v (.quietH rfl (by intro h_; cases h_) (ixl (E := E_u64) (j := 0) rfl rfl rfl (by decide) rfl hx119)) ?_
      refine t_v (.ld1 rfl rfl rfl (.lst 0 rfl (encL_at (lgt_in hx119).1 rfl))) ?_
      by_cases c120 : x118 = 0
      · rw [if_pos c120] at e
        have c120b : (x118 == 0) = true := beq_iff_eq.mpr c120
        refine t_v (dv_quiet rfl (congrArg (fun t => some (Value.bool t)) c120b)) ?_
        obtain ⟨u_, h122, e⟩ := bind_of e
        refine t_qz 2 [18] (σ' := [(18, .bool true)]) (by kernel_rfl) ?_
        refine t_v (.call (vs := [.int .u64 5]) rfl rfl (by kernel_rfl) (sweep_Count_v1.ok h122)) ?_
        refine t_qz 3 [0] (σ' := [(0, .bool true)]) (by kernel_rfl) ?_
        refine t_end ?_
        show W _ _ _ _ _ _ _
        refine w_ret ?_
        obtain rfl := Option.some.inj e
        exact ⟨[.bool true], [], S, ⟨rfl, trivial⟩, VS.none, rfl, rfl, rfl⟩
      · rw [if_neg c120] at e
        have c120b : (x118 == 0) = false := beq_eq_false_iff_ne.mpr c120
        refine t_v (dv_quiet rfl (congrArg (fun t => some (Value.bool t)) c120b)) ?_
        refine t_qz 6 [0] (σ' := [(0, .bool false)]) (by kernel_rfl) ?_
        refine t_end ?_
        show W _ _ _ _ _ _ _
        refine w_ret ?_
        obtain rfl := Option.some.inj e
        exact ⟨[.bool false], [], S, ⟨rfl, trivial⟩, VS.none, rfl, rfl, rfl⟩
    · rw [if_neg c117] at e
      have c117b : (x115 == 0) = false := beq_eq_false_iff_ne.mpr c117
      refine t_v (dv_quiet rfl (congrArg (fun t => some (Value.bool t)) c117b)) ?_
      refine t_qz 12 [0] (σ' := [(0, .bool false)]) (by kernel_rfl) ?_
      refine t_end ?_
      show W _ _ _ _ _ _ _
      refine w_ret ?_
      obtain rfl := Option.some.inj e
      exact ⟨[.bool false], [], S, ⟨rfl, trivial⟩, VS.none, rfl, rfl, rfl⟩
  · rw [if_neg c114] at e
    have c114b : ((t111.length : Int) == 2) = false := beq_eq_false_iff_ne.mpr c114
    refine t_qz 2 [1, 4] (σ' := [(1, .slice (ad N113) t111.length (nN113 / 1)), (4, .int .i64 (t111.length : Int))]) (by kernel_rfl) ?_
    refine t_v (dv_quiet rfl (congrArg (fun t => some (Value.bool t)) c114b)) ?_
    refine t_qz 17 [0] (σ' := [(0, .bool false)]) (by kernel_rfl) ?_
    refine t_end ?_
    show W _ _ _ _ _ _ _
    refine w_ret ?_
    obtain rfl := Option.some.inj e
    exact ⟨[.bool false], [], S, ⟨rfl, trivial⟩, VS.none, rfl, rfl, rfl⟩

/-- glyphicworld.Number -/
def c44 : C :=
  (.seq (.reg [⟨(some 4), .mv (.const (.int .i64 0)), none⟩])
  (.seq (.reg [⟨(some 6), .mv (.tmp 0), none⟩,
     ⟨(some 7), .mv (.tmp 1), none⟩,
     ⟨(some 8), .bin .rem (.tmp 6) (.tmp 7), none⟩,
     ⟨(some 5), .mv (.tmp 8), none⟩])
  (.seq (.seq (.reg [⟨(some 9), .mv (.tmp 5), none⟩,
      ⟨(some 10), .bin .lss (.tmp 9) (.const (.int .i64 0)), none⟩])
   (.cond (.tmp 10)
    (.reg [⟨(some 11), .mv (.tmp 5), none⟩,
       ⟨(some 12), .mv (.tmp 1), none⟩,
       ⟨(some 13), .bin .add (.tmp 11) (.tmp 12), none⟩,
       ⟨(some 5), .mv (.tmp 13), none⟩])
    .skip))
  (.seq (.reg [⟨(some 14), .mv (.tmp 5), none⟩,
     ⟨(some 4), .mv (.tmp 14), none⟩])
  .ret))))
def glyphicworld_Number.f (n0 : Int) (below1 : Int) : Option (Int) := if below1 = 0 then none else (if (Int.tmod n0 below1) < 0 then (some (wr64 ((Int.tmod n0 below1) + below1))) else (some (Int.tmod n0 below1)))
theorem glyphicworld_Number.ok {S : Seal} {n0 : Int} {below1 : Int} {r0_ : Int}(e : glyphicworld_Number.f n0 below1 = some r0_) :
    Cal Try.prog 44 [.int .i64 n0, .int .i64 below1] [] S fun v H' S' => v = .int .i64 r0_ ∧ H' = [] ∧ S' = S := by
  unfold glyphicworld_Number.f at e
  refine cal_of (c := c44) (N := 15) Try.func44 rfl rfl (by kernel_rfl) (rs := [.t 4]) (by kernel_rfl) (Nat.le_of_ble_eq_true rfl) ?_
  unfold c44
  refine w_seq ?_
  refine w_reg fun all => ?_
  refine t_qz 1 [0, 1] (σ' := [(0, .int .i64 n0), (1, .int .i64 below1)]) (by kernel_rfl) ?_
  refine t_end ?_
  show W _ _ _ _ _ _ _
  refine w_seq ?_
  refine w_reg fun all => ?_
  have c142 : ¬ below1 = 0 := by
    intro h_; rw [if_pos h_] at e; cases e
  rw [if_neg c142] at e
  refine t_qz 2 [1, 6, 7] (σ' := [(1, .int .i64 below1), (6, .int .i64 n0), (7, .int .i64 below1)]) (by kernel_rfl) ?_
  refine t_v (.quiet rfl (qv_rem rfl rfl c142)) ?_
  refine t_qz 1 [1, 5] (σ' := [(1, .int .i64 below1), (5, .int .i64 (Int.tmod n0 below1))]) (by kernel_rfl) ?_
  refine t_end ?_
  show W _ _ _ _ _ _ _
  refine w_seq ?_
  refine w_seq ?_
  refine w_reg fun all => ?_
  by_cases c143 : (Int.tmod n0 below1) < 0
  · rw [if_pos c143] at e
    have c143b : (decide ((Int.tmod n0 below1) < 0)) = true := decide_eq_true c143
    refine t_qz 1 [1, 5, 9] (σ' := [(1, .int .i64 below1), (5, .int .i64 (Int.tmod n0 below1)), (9, .int .i64 (Int.tmod n0 below1))]) (by kernel_rfl) ?_
    refine t_v (dv_quiet rfl (congrArg (fun t => some (Value.bool t)) c143b)) ?_
    refine t_keep [1, 5, 10] (σ' := [(1, .int .i64 below1), (5, .int .i64 (Int.tmod n0 below1)), (10, .bool true)]) (by kernel_rfl) ?_
    refine t_end ?_
    show W _ _ _ _ _ _ _
    refine w_cond rfl (fun _ => ?_) (fun c_ => by cases c_)
    show W _ _ _ _ _ _ _
    refine w_reg fun all => ?_
    refine t_qz 4 [5] (σ' := [(5, .int .i64 (wr64 ((Int.tmod n0 below1) + below1)))]) (by kernel_rfl) ?_
    refine t_end ?_
    show W _ _ _ _ _ _ _
    refine w_seq ?_
    refine w_reg fun all => ?_
    refine t_qz 2 [4] (σ' := [(4, .int .i64 (wr64 ((Int.tmod n0 below1) + below1)))]) (by kernel_rfl) ?_
    refine t_end ?_
    show W _ _ _ _ _ _ _
    refine w_ret ?_
    obtain rfl := Option.some.inj e
    exact ⟨[.int .i64 (wr64 ((Int.tmod n0 below1) + below1))], [], S, ⟨rfl, trivial⟩, VS.none, rfl, rfl, rfl⟩
  · rw [if_neg c143] at e
    have c143b : (decide ((Int.tmod n0 below1) < 0)) = false := decide_eq_false c143
    refine t_qz 1 [1, 5, 9] (σ' := [(1, .int .i64 below1), (5, .int .i64 (Int.tmod n0 below1)), (9, .int .i64 (Int.tmod n0 below1))]) (by kernel_rfl) ?_
    refine t_v (dv_quiet rfl (congrArg (fun t => some (Value.bool t)) c143b)) ?_
    refine t_keep [1, 5, 10] (σ' := [(1, .int .i64 below1), (5, .int .i64 (Int.tmod n0 below1)), (10, .bool false)]) (by kernel_rfl) ?_
    refine t_end ?_
    show W _ _ _ _ _ _ _
    refine w_cond rfl (fun c_ => by cases c_) (fun _ => ?_)
    show W _ _ _ _ _ _ _
    refine w_skip ?_
    show W _ _ _ _ _ _ _
    refine w_seq ?_
    refine w_reg fun all => ?_
    refine t_qz 2 [4] (σ' := [(4, .int .i64 (Int.tmod n0 below1))]) (by kernel_rfl) ?_
    refine t_end ?_
    show W _ _ _ _ _ _ _
    refine w_ret ?_
    obtain rfl := Option.some.inj e
    exact ⟨[.int .i64 (Int.tmod n0 below1)], [], S, ⟨rfl, trivial⟩, VS.none, rfl, rfl, rfl⟩

/-- (*glyphicmake.Seq).Next -/
def c37 : C :=
  (.seq (.reg [⟨(some 4), .mv (.const (.int .i64 0)), none⟩])
  (.seq (.reg [⟨(some 5), .mv (.const (.int .i64 0)), none⟩])
  (.seq (.seq (.drw [⟨(some 6), .mv (.tmp 0), none⟩,
      ⟨(some 7), .nck (.tmp 6), none⟩,
      ⟨(some 8), .pad 1 (.tmp 7), none⟩,
      ⟨(some 9), .ld none (.tmp 8), none⟩,
      ⟨(some 10), .mv (.tmp 0), none⟩,
      ⟨(some 11), .nck (.tmp 10), none⟩,
      ⟨(some 12), .pad 0 (.tmp 11), none⟩,
      ⟨(some 13), .ld none (.tmp 12), none⟩,
      ⟨(some 14), .lns (.tmp 13), none⟩,
      ⟨(some 15), .bin .lss (.tmp 9) (.tmp 14), none⟩] [[], [0], [1], [2], [], [4], [5], [6], [7], [3, 8]])
   (.cond (.tmp 15)
    (.drw [⟨(some 16), .mv (.tmp 0), none⟩,
       ⟨(some 17), .nck (.tmp 16), none⟩,
       ⟨(some 18), .pad 0 (.tmp 17), none⟩,
       ⟨(some 19), .ld none (.tmp 18), none⟩,
       ⟨(some 20), .mv (.tmp 0), none⟩,
       ⟨(some 21), .nck (.tmp 20), none⟩,
       ⟨(some 22), .pad 1 (.tmp 21), none⟩,
       ⟨(some 23), .ld none (.tmp 22), none⟩,
       ⟨(some 24), .ixs 1 (.tmp 19) (.tmp 23), none⟩,
       ⟨(some 25), .ld none (.tmp 24), none⟩,
       ⟨(some 5), .mv (.tmp 25), none⟩] [[], [0], [1], [2], [], [4], [5], [6], [3, 7], [8], [9, 0, 1, 2, 3, 4, 5, 6, 7, 8, 9]])
    .skip))
  (.seq (.reg [⟨(some 26), .mv (.tmp 0), none⟩,
     ⟨(some 27), .mv (.tmp 0), none⟩,
     ⟨(some 28), .nck (.tmp 27), none⟩,
     ⟨(some 29), .pad 1 (.tmp 28), none⟩,
     ⟨(some 30), .ld none (.tmp 29), none⟩,
     ⟨(some 31), .bin .add (.tmp 30) (.const (.int .i64 1)), none⟩,
     ⟨(some 32), .nck (.tmp 26), none⟩,
     ⟨(some 33), .pad 1 (.tmp 32), none⟩,
     ⟨none, .st 1 (.tmp 33) (.tmp 31), none⟩])
  (.seq (.reg [⟨(some 34), .mv (.tmp 5), none⟩,
     ⟨(some 35), .mv (.tmp 1), none⟩,
     ⟨(some 36), .call 44 [(.tmp 34), (.tmp 35)], none⟩,
     ⟨(some 4), .mv (.tmp 36), none⟩])
  .ret)))))
def glyphicmake_Seq_Next_v1.f (below1 : Int) (m0_0 : List (Int)) (m0_1 : Int) : Option (Int × Int) := (if m0_1 < (m0_0.length : Int) then ((lgt m0_0 m0_1).bind fun x150 => (some x150)) else (some 0) : Option (Int)).bind fun x160 => ((glyphicworld_Number.f x160 below1).bind fun t161 => (some (t161, wr64 (m0_1 + 1))))
theorem glyphicmake_Seq_Next_v1.ok {S : Seal} {B0 : Nat} {below1 : Int} {m0_0 : List (Int)} {m0_1 : Int} {r0_ : Int} {r1_ : Int}{a_m0_0 : Option Addr} {c_m0_0 : Nat} (h_m0_0 : SlE S E_i64 m0_0 a_m0_0) (e : glyphicmake_Seq_Next_v1.f below1 m0_0 m0_1 = some (r0_, r1_)) :
    Cal Try.prog 37 [.pointer (some ⟨B0, 0, none⟩), .int .i64 below1] ([⟨B0, [.slice a_m0_0 m0_0.length c_m0_0, .int .i64 m0_1], 2⟩] : List Own) S fun v H' S' => v = .int .i64 r0_ ∧ H' = ([⟨B0, [.slice a_m0_0 m0_0.length c_m0_0, .int .i64 r1_], 2⟩] : List Own) ∧ S' = S := by
  unfold glyphicmake_Seq_Next_v1.f at e
  refine cal_of (c := c37) (N := 37) Try.func37 rfl rfl (by kernel_rfl) (rs := [.t 4]) (by kernel_rfl) (Nat.le_of_ble_eq_true rfl) ?_
  unfold c37
  refine w_seq ?_
  refine w_reg fun all => ?_
  refine t_qz 1 [0, 1] (σ' := [(0, .pointer (some ⟨B0, 0, none⟩)), (1, .int .i64 below1)]) (by kernel_rfl) ?_
  refine t_end ?_
  show W _ _ _ _ _ _ _
  refine w_seq ?_
  refine w_reg fun all => ?_
  refine t_qz 1 [0, 1, 5] (σ' := [(0, .pointer (some ⟨B0, 0, none⟩)), (1, .int .i64 below1), (5, .int .i64 0)]) (by kernel_rfl) ?_
  refine t_end ?_
  show W _ _ _ _ _ _ _
  obtain ⟨x160, e147, e⟩ := bind_of e
  refine w_cut [0, 1, 5] (fun σ_ H_ S_ => [(0, .pointer (some ⟨B0, 0, none⟩)), (1, .int .i64 below1), (5, .int .i64 x160)] = σ_ ∧ ([⟨B0, [.slice a_m0_0 m0_0.length c_m0_0, .int .i64 m0_1], 2⟩] : List Own) = H_ ∧ S = S_) ?_ ?_
  · show W _ _ _ _ _ _ _
    refine w_seq ?_
    by_cases c149 : m0_1 < (m0_0.length : Int)
    · rw [if_pos c149] at e147
      have c149b : (decide (m0_1 < (m0_0.length : Int))) = true := decide_eq_true c149
      refine w_drwE mixed 10 [.v (.pointer (some ⟨B0, 0, none⟩)), .v (.pointer (some ⟨B0, 0, none⟩)), .v (.pointer (some ⟨B0, 1, none⟩)), .v (.int .i64 m0_1), .v (.pointer (some ⟨B0, 0, none⟩)), .v (.pointer (some ⟨B0, 0, none⟩)), .v (.pointer (some ⟨B0, 0, none⟩)), .v (.slice a_m0_0 m0_0.length c_m0_0), .v (.int .i64 (m0_0.length : Int)), .v (.bool true)] (by kernel_rfl) ?_ ?_
      · refine DI.sq 3 (by kernel_rfl) rfl ?_
        refine .cons (.ld1 rfl rfl rfl (.at 0 rfl rfl)) ?_
        refine DI.sq 3 (by kernel_rfl) rfl ?_
        refine .cons (.ld1 rfl rfl rfl (.at 0 rfl rfl)) ?_
        refine DI.sq 1 (by kernel_rfl) rfl ?_
        refine .cons (dv_quiet rfl (congrArg (fun t => some (Value.bool t)) c149b)) ?_
        exact .nil
      refine fk_q 10 [0, 1, 5, 15] (σ' := [(0, .pointer (some ⟨B0, 0, none⟩)), (1, .int .i64 below1), (5, .int .i64 0), (15, .bool true)]) t_more (by kernel_rfl) ?_
      refine fk_nil fun all => ?_
      refine t_keep [0, 1, 5, 15] (σ' := [(0, .pointer (some ⟨B0, 0, none⟩)), (1, .int .i64 below1), (5, .int .i64 0), (15, .bool true)]) (by kernel_rfl) ?_
      refine t_end ?_
      show W _ _ _ _ _ _ _
      refine w_cond rfl (fun _ => ?_) (fun c_ => by cases c_)
      show W _ _ _ _ _ _ _
      obtain ⟨x150, hx151, e147⟩ := bind_of e147
      obtain ⟨lb152, lo153, ll154, la155, lS156, lv157, lz158, lu159⟩ := sle_get (E := E_i64) h_m0_0 hx151
      refine w_drwE mixed 11 [.v (.pointer (some ⟨B0, 0, none⟩)), .v (.pointer (some ⟨B0, 0, none⟩)), .v (.pointer (some ⟨B0, 0, none⟩)), .v (.slice a_m0_0 m0_0.length c_m0_0), .v (.pointer (some ⟨B0, 0, none⟩)), .v (.pointer (some ⟨B0, 0, none⟩)), .v (.pointer (some ⟨B0, 1, none⟩)), .v (.int .i64 m0_1), .v (.pointer (some ⟨lb152, lo153 + (m0_1).toNat * 1 + 0, none⟩)), .v (.int .i64 x150), .v (.int .i64 x150)] (by kernel_rfl) ?_ ?_
      · refine DI.sq 3 (by kernel_rfl) rfl ?_
        refine .cons (.ld1 rfl rfl rfl (.at 0 rfl rfl)) ?_
        refine DI.sq 3 (by kernel_rfl) rfl ?_
        refine .cons (.ld1 rfl rfl rfl (.at 0 rfl rfl)) ?_
        refine .cons (.quiet rfl (ixs_sle rfl rfl la155 lz158 lu159)) ?_
        refine .cons (.ld1 rfl rfl rfl (.sealed lS156 (subl_at lv157 rfl))) ?_
        refine DI.sq 1 (by kernel_rfl) rfl ?_
        exact .nil
      refine fk_q 11 [0, 1, 5] (σ' := [(0, .pointer (some ⟨B0, 0, none⟩)), (1, .int .i64 below1), (5, .int .i64 x150)]) t_more (by kernel_rfl) ?_
      refine fk_nil fun all => ?_
      refine t_keep [0, 1, 5] (σ' := [(0, .pointer (some ⟨B0, 0, none⟩)), (1, .int .i64 below1), (5, .int .i64 x150)]) (by kernel_rfl) ?_
      refine t_end ?_
      obtain rfl := Option.some.inj e147
      exact ⟨([⟨B0, [.slice a_m0_0 m0_0.length c_m0_0, .int .i64 m0_1], 2⟩] : List Own), S, VS.sel [0] (by kernel_rfl), by kernel_rfl, rfl, rfl⟩
    · rw [if_neg c149] at e147
      have c149b : (decide (m0_1 < (m0_0.length : Int))) = false := decide_eq_false c149
      refine w_drwE mixed 10 [.v (.pointer (some ⟨B0, 0, none⟩)), .v (.pointer (some ⟨B0, 0, none⟩)), .v (.pointer (some ⟨B0, 1, none⟩)), .v (.int .i64 m0_1), .v (.pointer (some ⟨B0, 0, none⟩)), .v (.pointer (some ⟨B0, 0, none⟩)), .v (.pointer (some ⟨B0, 0, none⟩)), .v (.slice a_m0_0 m0_0.length c_m0_0), .v (.int .i64 (m0_0.length : Int)), .v (.bool false)] (by kernel_rfl) ?_ ?_
      · refine DI.sq 3 (by kernel_rfl) rfl ?_
        refine .cons (.ld1 rfl rfl rfl (.at 0 rfl rfl)) ?_
        refine DI.sq 3 (by kernel_rfl) rfl ?_
        refine .cons (.ld1 rfl rfl rfl (.at 0 rfl rfl)) ?_
        refine DI.sq 1 (by kernel_rfl) rfl ?_
        refine .cons (dv_quiet rfl (congrArg (fun t => some (Value.bool t)) c149b)) ?_
        exact .nil
      refine fk_q 10 [0, 1, 5, 15] (σ' := [(0, .pointer (some ⟨B0, 0, none⟩)), (1, .int .i64 below1), (5, .int .i64 0), (15, .bool false)]) t_more (by kernel_rfl) ?_
      refine fk_nil fun all => ?_
      refine t_keep [0, 1, 5, 15] (σ' := [(0, .pointer (some ⟨B0, 0, none⟩)), (1, .int .i64 below1), (5, .int .i64 0), (15, .bool false)]) (by kernel_rfl) ?_
      refine t_end ?_
      show W _ _ _ _ _ _ _
      refine w_cond rfl (fun c_ => by cases c_) (fun _ => ?_)
      show W _ _ _ _ _ _ _
      refine w_skip ?_
      obtain rfl := Option.some.inj e147
      exact ⟨([⟨B0, [.slice a_m0_0 m0_0.length c_m0_0, .int .i64 m0_1], 2⟩] : List Own), S, VS.sel [0] (by kernel_rfl), by kernel_rfl, rfl, rfl⟩
  · rintro σ_ H_ S_ ⟨rfl, rfl, rfl⟩
    refine w_seq ?_
    refine w_reg fun all => ?_
    refine t_qz 4 [1, 5, 26, 29] (σ' := [(1, .int .i64 below1), (5, .int .i64 x160), (26, .pointer (some ⟨B0, 0, none⟩)), (29, .pointer (some ⟨B0, 1, none⟩))]) (by kernel_rfl) ?_
    refine t_v (.ld1 rfl rfl rfl (.at 0 rfl rfl)) ?_
    refine t_qz 3 [1, 5, 31, 33] (σ' := [(1, .int .i64 below1), (5, .int .i64 x160), (31, .int .i64 (wr64 (m0_1 + 1))), (33, .pointer (some ⟨B0, 1, none⟩))]) (by kernel_rfl) ?_
    refine t_sti 0 (cs := [.slice a_m0_0 m0_0.length c_m0_0, .int .i64 (wr64 (m0_1 + 1))]) rfl rfl rfl rfl rfl rfl rfl rfl rfl ?_
    refine t_keep [1, 5] (σ' := [(1, .int .i64 below1), (5, .int .i64 x160)]) (by kernel_rfl) ?_
    refine t_end ?_
    show W _ _ _ _ _ _ _
    refine w_seq ?_
    refine w_reg fun all => ?_
    obtain ⟨t161, h162, e⟩ := bind_of e
    refine t_qz 2 [34, 35] (σ' := [(34, .int .i64 x160), (35, .int .i64 below1)]) (by kernel_rfl) ?_
    refine t_v (.call (vs := [.int .i64 x160, .int .i64 below1]) rfl rfl (by kernel_rfl) (glyphicworld_Number.ok h162)) ?_
    refine t_qz 1 [4] (σ' := [(4, .int .i64 t161)]) (by kernel_rfl) ?_
    refine t_end ?_
    show W _ _ _ _ _ _ _
    refine w_ret ?_
    simp only [Option.some.injEq, Prod.mk.injEq] at e
    obtain ⟨rfl, rfl⟩ := e
    exact ⟨[.int .i64 t161], ([⟨B0, [.slice a_m0_0 m0_0.length c_m0_0, .int .i64 (wr64 (m0_1 + 1))], 2⟩] : List Own), S, ⟨rfl, trivial⟩, VS.sel [0] (by kernel_rfl), rfl, rfl, rfl⟩

/-- glyphicmake.Point -/
def c18 : C :=
  (.seq (.reg [⟨(some 4), .new [(.int .i64 0), (.int .i64 0)], none⟩])
  (.seq (.reg [⟨(some 6), .mv (.tmp 0), none⟩,
     ⟨(some 7), .mv (.tmp 1), none⟩,
     ⟨(some 8), .bin .mul (.const (.int .i64 2)) (.tmp 7), none⟩,
     ⟨(some 9), .bin .add (.tmp 8) (.const (.int .i64 1)), none⟩,
     ⟨(some 10), .call 37 [(.tmp 6), (.tmp 9)], none⟩,
     ⟨(some 11), .mv (.tmp 1), none⟩,
     ⟨(some 12), .bin .sub (.tmp 10) (.tmp 11), none⟩,
     ⟨(some 5), .mv (.tmp 12), none⟩])
  (.seq (.reg [⟨(some 13), .mv (.tmp 5), none⟩,
     ⟨(some 14), .mv (.tmp 0), none⟩,
     ⟨(some 15), .mv (.tmp 1), none⟩,
     ⟨(some 16), .bin .mul (.const (.int .i64 2)) (.tmp 15), none⟩,
     ⟨(some 17), .bin .add (.tmp 16) (.const (.int .i64 1)), none⟩,
     ⟨(some 18), .call 37 [(.tmp 14), (.tmp 17)], none⟩,
     ⟨(some 19), .mv (.tmp 1), none⟩,
     ⟨(some 20), .bin .sub (.tmp 18) (.tmp 19), none⟩,
     ⟨(some 21), .bld [(.int .i64 0), (.int .i64 0)] [(0, 1, (.tmp 13)), (1, 1, (.tmp 20))], none⟩,
     ⟨none, .st 2 (.tmp 4) (.tmp 21), none⟩])
  .ret)))
def glyphicmake_Point_v1.f (far1 : Int) (m0_0 : List (Int)) (m0_1 : Int) : Option (Int × Int × Int) := (glyphicmake_Seq_Next_v1.f (wr64 ((wr64 (2 * far1)) + 1)) m0_0 m0_1).bind fun (t177, t178) => ((glyphicmake_Seq_Next_v1.f (wr64 ((wr64 (2 * far1)) + 1)) m0_0 t178).bind fun (t180, t181) => (some (wr64 (t177 - far1), wr64 (t180 - far1), t181)))
theorem glyphicmake_Point_v1.ok {S : Seal} {B0 : Nat} {far1 : Int} {m0_0 : List (Int)} {m0_1 : Int} {r0_ : Int} {r1_ : Int} {r2_ : Int}{a_m0_0 : Option Addr} {c_m0_0 : Nat} (h_m0_0 : SlE S E_i64 m0_0 a_m0_0) (e : glyphicmake_Point_v1.f far1 m0_0 m0_1 = some (r0_, r1_, r2_)) :
    Cal Try.prog 18 [.pointer (some ⟨B0, 0, none⟩), .int .i64 far1] ([⟨B0, [.slice a_m0_0 m0_0.length c_m0_0, .int .i64 m0_1], 2⟩] : List Own) S fun v H' S' => v = .agg #[.int .i64 r0_, .int .i64 r1_] ∧ H' = ([⟨B0, [.slice a_m0_0 m0_0.length c_m0_0, .int .i64 r2_], 2⟩] : List Own) ∧ S' = S := by
  unfold glyphicmake_Point_v1.f at e
  refine cal_of (c := c18) (N := 22) Try.func18 rfl rfl (by kernel_rfl) (rs := [.cn 2 4]) (by kernel_rfl) (Nat.le_of_ble_eq_true rfl) ?_
  unfold c18
  refine w_seq ?_
  refine w_reg fun all => ?_
  refine t_a (.new rfl rfl) fun b176 fb176 sb176 => ?_
  refine t_keep [0, 1, 4] (σ' := [(0, .pointer (some ⟨B0, 0, none⟩)), (1, .int .i64 far1), (4, .pointer (some ⟨b176, 0, none⟩))]) (by kernel_rfl) ?_
  refine t_end ?_
  show W _ _ _ _ _ _ _
  refine w_seq ?_
  refine w_reg fun all => ?_
  obtain ⟨⟨t177, t178⟩, h179, e⟩ := bind_of e
  try dsimp only at e
  refine t_qz 4 [0, 1, 4, 6, 9] (σ' := [(0, .pointer (some ⟨B0, 0, none⟩)), (1, .int .i64 far1), (4, .pointer (some ⟨b176, 0, none⟩)), (6, .pointer (some ⟨B0, 0, none⟩)), (9, .int .i64 (wr64 ((wr64 (2 * far1)) + 1)))]) (by kernel_rfl) ?_
  refine t_call (vs := [.pointer (some ⟨B0, 0, none⟩), .int .i64 (wr64 ((wr64 (2 * far1)) + 1))]) (H1 := ([⟨B0, [.slice a_m0_0 m0_0.length c_m0_0, .int .i64 m0_1], 2⟩] : List Own)) (F := ([⟨b176, [.int .i64 0, .int .i64 0], 2⟩] : List Own)) rfl rfl (by kernel_rfl) (sel_perm (is := [1]) (by kernel_rfl)) (glyphicmake_Seq_Next_v1.ok h_m0_0 h179) ?_
  rintro _ _ S_ ⟨rfl, rfl, hS_⟩
  obtain rfl := hS_.symm
  refine t_qz 3 [0, 1, 4, 5] (σ' := [(0, .pointer (some ⟨B0, 0, none⟩)), (1, .int .i64 far1), (4, .pointer (some ⟨b176, 0, none⟩)), (5, .int .i64 (wr64 (t177 - far1)))]) (by kernel_rfl) ?_
  refine t_end ?_
  show W _ _ _ _ _ _ _
  refine w_seq ?_
  refine w_reg fun all => ?_
  obtain ⟨⟨t180, t181⟩, h182, e⟩ := bind_of e
  try dsimp only at e
  refine t_qz 5 [1, 4, 13, 14, 17] (σ' := [(1, .int .i64 far1), (4, .pointer (some ⟨b176, 0, none⟩)), (13, .int .i64 (wr64 (t177 - far1))), (14, .pointer (some ⟨B0, 0, none⟩)), (17, .int .i64 (wr64 ((wr64 (2 * far1)) + 1)))]) (by kernel_rfl) ?_
  refine t_call (vs := [.pointer (some ⟨B0, 0, none⟩), .int .i64 (wr64 ((wr64 (2 * far1)) + 1))]) (H1 := ([⟨B0, [.slice a_m0_0 m0_0.length c_m0_0, .int .i64 t178], 2⟩] : List Own)) (F := ([⟨b176, [.int .i64 0, .int .i64 0], 2⟩] : List Own)) rfl rfl (by kernel_rfl) (sel_perm (is := [0]) (by kernel_rfl)) (glyphicmake_Seq_Next_v1.ok h_m0_0 h182) ?_
  rintro _ _ S_ ⟨rfl, rfl, hS_⟩
  obtain rfl := hS_.symm
  refine t_qz 3 [4, 21] (σ' := [(4, .pointer (some ⟨b176, 0, none⟩)), (21, .agg #[.int .i64 (wr64 (t177 - far1)), .int .i64 (wr64 (t180 - far1))])]) (by kernel_rfl) ?_
  refine t_sti 1 (cs := [.int .i64 (wr64 (t177 - far1)), .int .i64 (wr64 (t180 - far1))]) rfl rfl rfl rfl rfl rfl rfl rfl rfl ?_
  refine t_keep [4] (σ' := [(4, .pointer (some ⟨b176, 0, none⟩))]) (by kernel_rfl) ?_
  refine t_end ?_
  show W _ _ _ _ _ _ _
  refine w_ret ?_
  simp only [Option.some.injEq, Prod.mk.injEq] at e
  obtain ⟨rfl, rfl, rfl⟩ := e
  exact ⟨[.agg #[.int .i64 (wr64 (t177 - far1)), .int .i64 (wr64 (t180 - far1))]], ([⟨B0, [.slice a_m0_0 m0_0.length c_m0_0, .int .i64 t181], 2⟩] : List Own), S, ⟨⟨_, _, _, rfl, .at 1 rfl rfl, rfl⟩, trivial⟩, VS.sel [0] (by kernel_rfl), rfl, rfl, rfl⟩

/-- glyphicmake.Ring -/
def c43 : C :=
  (.seq (.reg [⟨(some 6), .mv (.const (.slice none 0 0)), none⟩])
  (.seq (.reg [⟨(some 13), .mv (.tmp 0), none⟩,
     ⟨(some 14), .mv (.tmp 1), none⟩,
     ⟨(some 15), .call 37 [(.tmp 13), (.tmp 14)], none⟩,
     ⟨(some 16), .bin .add (.const (.int .i64 3)) (.tmp 15), none⟩,
     ⟨(some 7), .mv (.tmp 16), none⟩])
  (.seq (.reg [⟨(some 17), .mv (.tmp 0), none⟩,
     ⟨(some 18), .mv (.tmp 2), none⟩,
     ⟨(some 19), .call 18 [(.tmp 17), (.tmp 18)], none⟩,
     ⟨(some 8), .new [(.int .i64 0), (.int .i64 0)], none⟩,
     ⟨none, .st 2 (.tmp 8) (.tmp 19), none⟩])
  (.seq (.reg [⟨(some 20), .ld (some 2) (.tmp 8), none⟩,
     ⟨(some 9), .new [(.int .i64 0), (.int .i64 0)], none⟩,
     ⟨none, .st 2 (.tmp 9) (.tmp 20), none⟩])
  (.seq (.reg [⟨(some 10), .mv (.const (.slice none 0 0)), none⟩])
  (.seq (.seq (.reg [⟨(some 11), .mv (.const (.int .i64 1)), none⟩])
   (.block 0 (.loop (.seq (.seq (.reg [⟨(some 21), .mv (.tmp 11), none⟩,
         ⟨(some 22), .mv (.tmp 7), none⟩,
         ⟨(some 23), .bin .lss (.tmp 21) (.tmp 22), none⟩])
      (.cond (.tmp 23)
       .skip
       (.exit 0)))
     (.seq (.block 1 (.seq (.reg [⟨(some 26), .mv (.tmp 0), none⟩,
          ⟨(some 27), .mv (.tmp 2), none⟩,
          ⟨(some 28), .call 18 [(.tmp 26), (.tmp 27)], none⟩,
          ⟨(some 12), .new [(.int .i64 0), (.int .i64 0)], none⟩,
          ⟨none, .st 2 (.tmp 12) (.tmp 28), none⟩])
       (.seq (.reg [⟨(some 29), .mv (.tmp 10), none⟩,
          ⟨(some 30), .ld (some 2) (.tmp 9), none⟩,
          ⟨(some 31), .ld (some 2) (.tmp 12), none⟩,
          ⟨(some 32), .bld [(.int .i64 0), (.int .i64 0), (.int .i64 0), (.int .i64 0)] [(0, 2, (.tmp 30)), (2, 2, (.tmp 31))], none⟩,
          ⟨(some 33), .bsl [(.int .i64 0), (.int .i64 0), (.int .i64 0), (.int .i64 0)] 1 [(0, 4, (.tmp 32))], none⟩,
          ⟨(some 34), .app 36 4 32 [(.int .i64 0), (.int .i64 0), (.int .i64 0), (.int .i64 0)] (.tmp 29) (.tmp 33), none⟩,
          ⟨(some 10), .mv (.tmp 34), none⟩])
       (.reg [⟨(some 35), .ld (some 2) (.tmp 12), none⟩,
         ⟨none, .st 2 (.tmp 9) (.tmp 35), none⟩]))))
     (.reg [⟨(some 24), .mv (.tmp 11), none⟩,
       ⟨(some 25), .bin .add (.tmp 24) (.const (.int .i64 1)), none⟩,
       ⟨(some 11), .mv (.tmp 25), none⟩]))))))
  (.seq (.reg [⟨(some 36), .mv (.tmp 10), none⟩,
     ⟨(some 37), .ld (some 2) (.tmp 9), none⟩,
     ⟨(some 38), .ld (some 2) (.tmp 8), none⟩,
     ⟨(some 39), .bld [(.int .i64 0), (.int .i64 0), (.int .i64 0), (.int .i64 0)] [(0, 2, (.tmp 37)), (2, 2, (.tmp 38))], none⟩,
     ⟨(some 40), .bsl [(.int .i64 0), (.int .i64 0), (.int .i64 0), (.int .i64 0)] 1 [(0, 4, (.tmp 39))], none⟩,
     ⟨(some 41), .app 36 4 32 [(.int .i64 0), (.int .i64 0), (.int .i64 0), (.int .i64 0)] (.tmp 36) (.tmp 40), none⟩,
     ⟨(some 6), .mv (.tmp 41), none⟩])
  .ret)))))))
def glyphicmake_Ring_v1.l0 : Nat → Int → List (Int) → Int → Int → List (Int × Int × Int × Int) → Int → Int → Int → Option (List (Int × Int × Int × Int) × Int × Int × Int)
  | 0, _, _, _, _, _, _, _, _ => none
  | k + 1, far2, m0_0, t219, x231, y233, x234, x235, x236 => if x231 < (wr64 (3 + t219)) then ((glyphicmake_Point_v1.f far2 m0_0 x236).bind fun (t238, t239, t240) => ((lapp y233 ([(x234, x235, t238, t239)] : List (Int × Int × Int × Int))).bind fun y244 => (glyphicmake_Ring_v1.l0 k far2 m0_0 t219 (wr64 (x231 + 1)) y244 t238 t239 t240))) else (some (y233, x234, x235, x236))
def glyphicmake_Ring_v1.f (k : Nat) (most1 : Int) (far2 : Int) (m0_0 : List (Int)) (m0_1 : Int) : Option (List (Int × Int × Int × Int) × Int) := (glyphicmake_Seq_Next_v1.f most1 m0_0 m0_1).bind fun (t219, t220) => ((glyphicmake_Point_v1.f far2 m0_0 t220).bind fun (t222, t223, t224) => ((glyphicmake_Ring_v1.l0 k far2 m0_0 t219 1 ([] : List (Int × Int × Int × Int)) t222 t223 t224 : Option (List (Int × Int × Int × Int) × Int × Int × Int)).bind fun (y250, x251, x252, x253) => ((lapp y250 ([(x251, x252, t222, t223)] : List (Int × Int × Int × Int))).bind fun y255 => (some (y255, x253)))))
theorem glyphicmake_Ring_v1.ok {S : Seal} {B0 : Nat} {k : Nat} {most1 : Int} {far2 : Int} {m0_0 : List (Int)} {m0_1 : Int} {r0_ : List (Int × Int × Int × Int)} {r1_ : Int}{a_m0_0 : Option Addr} {c_m0_0 : Nat} (h_m0_0 : SlE S E_i64 m0_0 a_m0_0) (e : glyphicmake_Ring_v1.f k most1 far2 m0_0 m0_1 = some (r0_, r1_)) :
    Cal Try.prog 43 [.pointer (some ⟨B0, 0, none⟩), .int .i64 most1, .int .i64 far2] ([⟨B0, [.slice a_m0_0 m0_0.length c_m0_0, .int .i64 m0_1], 2⟩] : List Own) S fun v H' S' => ∃ (N0_ : Option Nat) (nN0_ : Nat) , v = .slice (ad N0_) r0_.length (nN0_ / 4) ∧ H' = ([⟨N0_, encL E_i644 r0_, nN0_⟩, ⟨B0, [.slice a_m0_0 m0_0.length c_m0_0, .int .i64 r1_], 2⟩] : List Own) ∧ S' = S := by
  unfold glyphicmake_Ring_v1.f at e
  refine cal_of (c := c43) (N := 42) Try.func43 rfl rfl (by kernel_rfl) (rs := [.t 6]) (by kernel_rfl) (Nat.le_of_ble_eq_true rfl) ?_
  unfold c43
  refine w_seq ?_
  refine w_reg fun all => ?_
  refine t_qz 1 [0, 1, 2] (σ' := [(0, .pointer (some ⟨B0, 0, none⟩)), (1, .int .i64 most1), (2, .int .i64 far2)]) (by kernel_rfl) ?_
  refine t_end ?_
  show W _ _ _ _ _ _ _
  refine w_seq ?_
  refine w_reg fun all => ?_
  obtain ⟨⟨t219, t220⟩, h221, e⟩ := bind_of e
  try dsimp only at e
  refine t_qz 2 [0, 2, 13, 14] (σ' := [(0, .pointer (some ⟨B0, 0, none⟩)), (2, .int .i64 far2), (13, .pointer (some ⟨B0, 0, none⟩)), (14, .int .i64 most1)]) (by kernel_rfl) ?_
  refine t_call (vs := [.pointer (some ⟨B0, 0, none⟩), .int .i64 most1]) (H1 := ([⟨B0, [.slice a_m0_0 m0_0.length c_m0_0, .int .i64 m0_1], 2⟩] : List Own)) (F := ([] : List Own)) rfl rfl (by kernel_rfl) (sel_perm (is := [0]) (by kernel_rfl)) (glyphicmake_Seq_Next_v1.ok h_m0_0 h221) ?_
  rintro _ _ S_ ⟨rfl, rfl, hS_⟩
  obtain rfl := hS_.symm
  refine t_qz 2 [0, 2, 7] (σ' := [(0, .pointer (some ⟨B0, 0, none⟩)), (2, .int .i64 far2), (7, .int .i64 (wr64 (3 + t219)))]) (by kernel_rfl) ?_
  refine t_end ?_
  show W _ _ _ _ _ _ _
  refine w_seq ?_
  refine w_reg fun all => ?_
  obtain ⟨⟨t222, t223, t224⟩, h225, e⟩ := bind_of e
  try dsimp only at e
  refine t_qz 2 [0, 2, 7, 17, 18] (σ' := [(0, .pointer (some ⟨B0, 0, none⟩)), (2, .int .i64 far2), (7, .int .i64 (wr64 (3 + t219))), (17, .pointer (some ⟨B0, 0, none⟩)), (18, .int .i64 far2)]) (by kernel_rfl) ?_
  refine t_call (vs := [.pointer (some ⟨B0, 0, none⟩), .int .i64 far2]) (H1 := ([⟨B0, [.slice a_m0_0 m0_0.length c_m0_0, .int .i64 t220], 2⟩] : List Own)) (F := ([] : List Own)) rfl rfl (by kernel_rfl) (sel_perm (is := [0]) (by kernel_rfl)) (glyphicmake_Point_v1.ok h_m0_0 h225) ?_
  rintro _ _ S_ ⟨rfl, rfl, hS_⟩
  obtain rfl := hS_.symm
  refine t_a (.new rfl rfl) fun b226 fb226 sb226 => ?_
  refine t_sti 0 (cs := [.int .i64 t222, .int .i64 t223]) rfl rfl rfl rfl rfl rfl rfl rfl rfl ?_
  refine t_keep [0, 2, 7, 8] (σ' := [(0, .pointer (some ⟨B0, 0, none⟩)), (2, .int .i64 far2), (7, .int .i64 (wr64 (3 + t219))), (8, .pointer (some ⟨b226, 0, none⟩))]) (by kernel_rfl) ?_
  refine t_end ?_
  show W _ _ _ _ _ _ _
  refine w_seq ?_
  refine w_reg fun all => ?_
  refine t_v (.ldn rfl rfl rfl (.at 0 rfl rfl)) ?_
  refine t_a (.new rfl rfl) fun b227 fb227 sb227 => ?_
  refine t_sti 0 (cs := [.int .i64 t222, .int .i64 t223]) rfl rfl rfl rfl rfl rfl rfl rfl rfl ?_
  refine t_keep [0, 2, 7, 8, 9] (σ' := [(0, .pointer (some ⟨B0, 0, none⟩)), (2, .int .i64 far2), (7, .int .i64 (wr64 (3 + t219))), (8, .pointer (some ⟨b226, 0, none⟩)), (9, .pointer (some ⟨b227, 0, none⟩))]) (by kernel_rfl) ?_
  refine t_end ?_
  show W _ _ _ _ _ _ _
  refine w_seq ?_
  refine w_reg fun all => ?_
  refine t_qz 1 [0, 2, 7, 8, 9, 10] (σ' := [(0, .pointer (some ⟨B0, 0, none⟩)), (2, .int .i64 far2), (7, .int .i64 (wr64 (3 + t219))), (8, .pointer (some ⟨b226, 0, none⟩)), (9, .pointer (some ⟨b227, 0, none⟩)), (10, .slice none 0 0)]) (by kernel_rfl) ?_
  refine t_end ?_
  show W _ _ _ _ _ _ _
  obtain ⟨⟨y250, x251, x252, x253⟩, e229, e⟩ := bind_of e
  try dsimp only at e
  refine w_cut [8, 9, 10] (fun σ_ H_ S_ => ∃ (a249 : Option Nat) (na249 : Nat), [(8, .pointer (some ⟨b226, 0, none⟩)), (9, .pointer (some ⟨b227, 0, none⟩)), (10, .slice (ad a249) y250.length (na249 / 4))] = σ_ ∧ ([⟨b227, [.int .i64 x251, .int .i64 x252], 2⟩, ⟨b226, [.int .i64 t222, .int .i64 t223], 2⟩, ⟨B0, [.slice a_m0_0 m0_0.length c_m0_0, .int .i64 x253], 2⟩, ⟨a249, encL E_i644 y250, na249⟩] : List Own) = H_ ∧ S = S_) ?_ ?_
  · show W _ _ _ _ _ _ _
    refine w_seq ?_
    refine w_reg fun all => ?_
    refine t_qz 1 [0, 2, 7, 8, 9, 10, 11] (σ' := [(0, .pointer (some ⟨B0, 0, none⟩)), (2, .int .i64 far2), (7, .int .i64 (wr64 (3 + t219))), (8, .pointer (some ⟨b226, 0, none⟩)), (9, .pointer (some ⟨b227, 0, none⟩)), (10, .slice none 0 0), (11, .int .i64 1)]) (by kernel_rfl) ?_
    refine t_end ?_
    show W _ _ _ _ _ _ _
    refine w_block ?_
    refine w_vs VS.vac ?_
    refine w_kp [0, 2, 7, 8, 9, 10, 11] (σ' := [(0, .pointer (some ⟨B0, 0, none⟩)), (2, .int .i64 far2), (7, .int .i64 (wr64 (3 + t219))), (8, .pointer (some ⟨b226, 0, none⟩)), (9, .pointer (some ⟨b227, 0, none⟩)), (10, .slice (ad none) ([] : List (Int × Int × Int × Int)).length (0 / 4)), (11, .int .i64 1)]) (by kernel_rfl) ?_
    refine w_loop (fun n_ σ_ H_ S_ => ∃ (x231 : Int) (y233 : List (Int × Int × Int × Int)) (x234 : Int) (x235 : Int) (x236 : Int), ∃ (a232 : Option Nat) (na232 : Nat), [(0, .pointer (some ⟨B0, 0, none⟩)), (2, .int .i64 far2), (7, .int .i64 (wr64 (3 + t219))), (8, .pointer (some ⟨b226, 0, none⟩)), (9, .pointer (some ⟨b227, 0, none⟩)), (10, .slice (ad a232) y233.length (na232 / 4)), (11, .int .i64 x231)] = σ_ ∧ ([⟨a232, encL E_i644 y233, na232⟩, ⟨b227, [.int .i64 x234, .int .i64 x235], 2⟩, ⟨b226, [.int .i64 t222, .int .i64 t223], 2⟩, ⟨B0, [.slice a_m0_0 m0_0.length c_m0_0, .int .i64 x236], 2⟩] : List Own) = H_ ∧ S = S_ ∧ glyphicmake_Ring_v1.l0 n_ far2 m0_0 t219 x231 y233 x234 x235 x236 = some (y250, x251, x252, x253)) _ ⟨1, ([] : List (Int × Int × Int × Int)), t222, t223, t224, none, 0, rfl, rfl, rfl, e229⟩ ?_
    rintro n248 σ_ H_ S_ ⟨x231, y233, x234, x235, x236, a232, na232, rfl, rfl, rfl, e229⟩
    cases n248 with
    | zero => rw [glyphicmake_Ring_v1.l0.eq_1] at e229; cases e229
    | succ k_ =>
      rw [glyphicmake_Ring_v1.l0.eq_2] at e229
      refine w_seq ?_
      refine w_seq ?_
      refine w_reg fun all => ?_
      by_cases c237 : x231 < (wr64 (3 + t219))
      · rw [if_pos c237] at e229
        have c237b : (decide (x231 < (wr64 (3 + t219)))) = true := decide_eq_true c237
        refine t_qz 2 [0, 2, 7, 8, 9, 10, 11, 21, 22] (σ' := [(0, .pointer (some ⟨B0, 0, none⟩)), (2, .int .i64 far2), (7, .int .i64 (wr64 (3 + t219))), (8, .pointer (some ⟨b226, 0, none⟩)), (9, .pointer (some ⟨b227, 0, none⟩)), (10, .slice (ad a232) y233.length (na232 / 4)), (11, .int .i64 x231), (21, .int .i64 x231), (22, .int .i64 (wr64 (3 + t219)))]) (by kernel_rfl) ?_
        refine t_v (dv_quiet rfl (congrArg (fun t => some (Value.bool t)) c237b)) ?_
        refine t_keep [0, 2, 7, 8, 9, 10, 11, 23] (σ' := [(0, .pointer (some ⟨B0, 0, none⟩)), (2, .int .i64 far2), (7, .int .i64 (wr64 (3 + t219))), (8, .pointer (some ⟨b226, 0, none⟩)), (9, .pointer (some ⟨b227, 0, none⟩)), (10, .slice (ad a232) y233.length (na232 / 4)), (11, .int .i64 x231), (23, .bool true)]) (by kernel_rfl) ?_
        refine t_end ?_
        show W _ _ _ _ _ _ _
        refine w_cond rfl (fun _ => ?_) (fun c_ => by cases c_)
        show W _ _ _ _ _ _ _
        refine w_skip ?_
        show W _ _ _ _ _ _ _
        refine w_seq ?_
        refine w_block ?_
        refine w_seq ?_
        refine w_reg fun all => ?_
        obtain ⟨⟨t238, t239, t240⟩, h241, e229⟩ := bind_of e229
        try dsimp only at e229
        refine t_qz 2 [0, 2, 7, 8, 9, 10, 11, 26, 27] (σ' := [(0, .pointer (some ⟨B0, 0, none⟩)), (2, .int .i64 far2), (7, .int .i64 (wr64 (3 + t219))), (8, .pointer (some ⟨b226, 0, none⟩)), (9, .pointer (some ⟨b227, 0, none⟩)), (10, .slice (ad a232) y233.length (na232 / 4)), (11, .int .i64 x231), (26, .pointer (some ⟨B0, 0, none⟩)), (27, .int .i64 far2)]) (by kernel_rfl) ?_
        refine t_call (vs := [.pointer (some ⟨B0, 0, none⟩), .int .i64 far2]) (H1 := ([⟨B0, [.slice a_m0_0 m0_0.length c_m0_0, .int .i64 x236], 2⟩] : List Own)) (F := ([⟨a232, encL E_i644 y233, na232⟩, ⟨b227, [.int .i64 x234, .int .i64 x235], 2⟩, ⟨b226, [.int .i64 t222, .int .i64 t223], 2⟩] : List Own)) rfl rfl (by kernel_rfl) (sel_perm (is := [3]) (by kernel_rfl)) (glyphicmake_Point_v1.ok h_m0_0 h241) ?_
        rintro _ _ S_ ⟨rfl, rfl, hS_⟩
        obtain rfl := hS_.symm
        refine t_a (.new rfl rfl) fun b242 fb242 sb242 => ?_
        refine t_sti 0 (cs := [.int .i64 t238, .int .i64 t239]) rfl rfl rfl rfl rfl rfl rfl rfl rfl ?_
        refine t_keep [0, 2, 7, 8, 9, 10, 11, 12] (σ' := [(0, .pointer (some ⟨B0, 0, none⟩)), (2, .int .i64 far2), (7, .int .i64 (wr64 (3 + t219))), (8, .pointer (some ⟨b226, 0, none⟩)), (9, .pointer (some ⟨b227, 0, none⟩)), (10, .slice (ad a232) y233.length (na232 / 4)), (11, .int .i64 x231), (12, .pointer (some ⟨b242, 0, none⟩))]) (by kernel_rfl) ?_
        refine t_end ?_
        show W _ _ _ _ _ _ _
        refine w_seq ?_
        refine w_reg fun all => ?_
        refine t_qz 1 [0, 2, 7, 8, 9, 11, 12, 29] (σ' := [(0, .pointer (some ⟨B0, 0, none⟩)), (2, .int .i64 far2), (7, .int .i64 (wr64 (3 + t219))), (8, .pointer (some ⟨b226, 0, none⟩)), (9, .pointer (some ⟨b227, 0, none⟩)), (11, .int .i64 x231), (12, .pointer (some ⟨b242, 0, none⟩)), (29, .slice (ad a232) y233.length (na232 / 4))]) (by kernel_rfl) ?_
        refine t_v (.ldn rfl rfl rfl (.at 3 rfl rfl)) ?_
        refine t_v (.ldn rfl rfl rfl (.at 0 rfl rfl)) ?_
        refine t_qz 1 [0, 2, 7, 8, 9, 11, 12, 29, 32] (σ' := [(0, .pointer (some ⟨B0, 0, none⟩)), (2, .int .i64 far2), (7, .int .i64 (wr64 (3 + t219))), (8, .pointer (some ⟨b226, 0, none⟩)), (9, .pointer (some ⟨b227, 0, none⟩)), (11, .int .i64 x231), (12, .pointer (some ⟨b242, 0, none⟩)), (29, .slice (ad a232) y233.length (na232 / 4)), (32, .agg #[.int .i64 x234, .int .i64 x235, .int .i64 t238, .int .i64 t239])]) (by kernel_rfl) ?_
        refine t_a (.bsl rfl rfl rfl rfl) fun b243 fb243 sb243 => ?_
        obtain ⟨y244, hl245, e229⟩ := bind_of e229
        refine t_appX (E := E_i644) (L := y233) (X := ([(x234, x235, t238, t239)] : List (Int × Int × Int × Int))) (F := ([⟨b243, [.int .i64 x234, .int .i64 x235, .int .i64 t238, .int .i64 t239], 4⟩, ⟨b242, [.int .i64 t238, .int .i64 t239], 2⟩, ⟨B0, [.slice a_m0_0 m0_0.length c_m0_0, .int .i64 t240], 2⟩, ⟨b227, [.int .i64 x234, .int .i64 x235], 2⟩, ⟨b226, [.int .i64 t222, .int .i64 t223], 2⟩] : List Own)) rfl rfl rfl rfl (sel_perm (is := [3]) (by kernel_rfl)) rfl (Or.inr ⟨_, _, rfl, .at 0 rfl (by kernel_rfl)⟩) rfl (by decide) (by decide) rfl hl245 fun a246 na246 => ?_
        refine t_qz 1 [0, 2, 7, 8, 9, 10, 11, 12] (σ' := [(0, .pointer (some ⟨B0, 0, none⟩)), (2, .int .i64 far2), (7, .int .i64 (wr64 (3 + t219))), (8, .pointer (some ⟨b226, 0, none⟩)), (9, .pointer (some ⟨b227, 0, none⟩)), (10, .slice (ad a246) y244.length (na246 / 4)), (11, .int .i64 x231), (12, .pointer (some ⟨b242, 0, none⟩))]) (by kernel_rfl) ?_
        refine t_end ?_
        show W _ _ _ _ _ _ _
        refine w_reg fun all => ?_
        refine t_v (.ldn rfl rfl rfl (.at 2 rfl rfl)) ?_
        refine t_sti 4 (cs := [.int .i64 t238, .int .i64 t239]) rfl rfl rfl rfl rfl rfl rfl rfl rfl ?_
        refine t_keep [0, 2, 7, 8, 9, 10, 11] (σ' := [(0, .pointer (some ⟨B0, 0, none⟩)), (2, .int .i64 far2), (7, .int .i64 (wr64 (3 + t219))), (8, .pointer (some ⟨b226, 0, none⟩)), (9, .pointer (some ⟨b227, 0, none⟩)), (10, .slice (ad a246) y244.length (na246 / 4)), (11, .int .i64 x231)]) (by kernel_rfl) ?_
        refine t_end ?_
        show W _ _ _ _ _ _ _
        refine w_reg fun all => ?_
        refine t_qz 3 [0, 2, 7, 8, 9, 10, 11] (σ' := [(0, .pointer (some ⟨B0, 0, none⟩)), (2, .int .i64 far2), (7, .int .i64 (wr64 (3 + t219))), (8, .pointer (some ⟨b226, 0, none⟩)), (9, .pointer (some ⟨b227, 0, none⟩)), (10, .slice (ad a246) y244.length (na246 / 4)), (11, .int .i64 (wr64 (x231 + 1)))]) (by kernel_rfl) ?_
        refine t_end ?_
        exact ⟨k_, Nat.lt_succ_self _, [(0, .pointer (some ⟨B0, 0, none⟩)), (2, .int .i64 far2), (7, .int .i64 (wr64 (3 + t219))), (8, .pointer (some ⟨b226, 0, none⟩)), (9, .pointer (some ⟨b227, 0, none⟩)), (10, .slice (ad a246) y244.length (na246 / 4)), (11, .int .i64 (wr64 (x231 + 1)))], ([⟨a246, encL E_i644 y244, na246⟩, ⟨b227, [.int .i64 t238, .int .i64 t239], 2⟩, ⟨b226, [.int .i64 t222, .int .i64 t223], 2⟩, ⟨B0, [.slice a_m0_0 m0_0.length c_m0_0, .int .i64 t240], 2⟩] : List Own), S, keep_sub [0, 2, 7, 8, 9, 10, 11] (by kernel_rfl), VS.sel [0, 3, 3, 2] (by kernel_rfl), wr64 (x231 + 1), y244, t238, t239, t240, a246, na246, rfl, rfl, rfl, e229⟩
      · rw [if_neg c237] at e229
        have c237b : (decide (x231 < (wr64 (3 + t219)))) = false := decide_eq_false c237
        refine t_qz 2 [0, 2, 7, 8, 9, 10, 11, 21, 22] (σ' := [(0, .pointer (some ⟨B0, 0, none⟩)), (2, .int .i64 far2), (7, .int .i64 (wr64 (3 + t219))), (8, .pointer (some ⟨b226, 0, none⟩)), (9, .pointer (some ⟨b227, 0, none⟩)), (10, .slice (ad a232) y233.length (na232 / 4)), (11, .int .i64 x231), (21, .int .i64 x231), (22, .int .i64 (wr64 (3 + t219)))]) (by kernel_rfl) ?_
        refine t_v (dv_quiet rfl (congrArg (fun t => some (Value.bool t)) c237b)) ?_
        refine t_keep [0, 2, 7, 8, 9, 10, 11, 23] (σ' := [(0, .pointer (some ⟨B0, 0, none⟩)), (2, .int .i64 far2), (7, .int .i64 (wr64 (3 + t219))), (8, .pointer (some ⟨b226, 0, none⟩)), (9, .pointer (some ⟨b227, 0, none⟩)), (10, .slice (ad a232) y233.length (na232 / 4)), (11, .int .i64 x231), (23, .bool false)]) (by kernel_rfl) ?_
        refine t_end ?_
        show W _ _ _ _ _ _ _
        refine w_cond rfl (fun c_ => by cases c_) (fun _ => ?_)
        show W _ _ _ _ _ _ _
        refine w_exit ?_
        simp only [Option.some.injEq, Prod.mk.injEq] at e229
        obtain ⟨rfl, rfl, rfl, rfl⟩ := e229
        exact ⟨([⟨b227, [.int .i64 x234, .int .i64 x235], 2⟩, ⟨b226, [.int .i64 t222, .int .i64 t223], 2⟩, ⟨B0, [.slice a_m0_0 m0_0.length c_m0_0, .int .i64 x236], 2⟩, ⟨a232, encL E_i644 y233, na232⟩] : List Own), S, VS.sel [1, 1, 1, 0] (by kernel_rfl), a232, na232, by kernel_rfl, rfl, rfl⟩
  · rintro σ_ H_ S_ ⟨a249, na249, rfl, rfl, rfl⟩
    refine w_seq ?_
    refine w_reg fun all => ?_
    refine t_qz 1 [8, 9, 36] (σ' := [(8, .pointer (some ⟨b226, 0, none⟩)), (9, .pointer (some ⟨b227, 0, none⟩)), (36, .slice (ad a249) y250.length (na249 / 4))]) (by kernel_rfl) ?_
    refine t_v (.ldn rfl rfl rfl (.at 0 rfl rfl)) ?_
    refine t_v (.ldn rfl rfl rfl (.at 1 rfl rfl)) ?_
    refine t_qz 1 [36, 39] (σ' := [(36, .slice (ad a249) y250.length (na249 / 4)), (39, .agg #[.int .i64 x251, .int .i64 x252, .int .i64 t222, .int .i64 t223])]) (by kernel_rfl) ?_
    refine t_a (.bsl rfl rfl rfl rfl) fun b254 fb254 sb254 => ?_
    obtain ⟨y255, hl256, e⟩ := bind_of e
    refine t_appX (E := E_i644) (L := y250) (X := ([(x251, x252, t222, t223)] : List (Int × Int × Int × Int))) (F := ([⟨b254, [.int .i64 x251, .int .i64 x252, .int .i64 t222, .int .i64 t223], 4⟩, ⟨b227, [.int .i64 x251, .int .i64 x252], 2⟩, ⟨b226, [.int .i64 t222, .int .i64 t223], 2⟩, ⟨B0, [.slice a_m0_0 m0_0.length c_m0_0, .int .i64 x253], 2⟩] : List Own)) rfl rfl rfl rfl (sel_perm (is := [4]) (by kernel_rfl)) rfl (Or.inr ⟨_, _, rfl, .at 0 rfl (by kernel_rfl)⟩) rfl (by decide) (by decide) rfl hl256 fun a257 na257 => ?_
    refine t_qz 1 [6] (σ' := [(6, .slice (ad a257) y255.length (na257 / 4))]) (by kernel_rfl) ?_
    refine t_end ?_
    show W _ _ _ _ _ _ _
    refine w_ret ?_
    simp only [Option.some.injEq, Prod.mk.injEq] at e
    obtain ⟨rfl, rfl⟩ := e
    exact ⟨[.slice (ad a257) y255.length (na257 / 4)], ([⟨a257, encL E_i644 y255, na257⟩, ⟨B0, [.slice a_m0_0 m0_0.length c_m0_0, .int .i64 x253], 2⟩] : List Own), S, ⟨rfl, trivial⟩, VS.sel [0, 3] (by kernel_rfl), a257, na257, rfl, rfl, rfl⟩

/-- glyphicmake.Edges -/
def c17 : C :=
  (.seq (.reg [⟨(some 6), .mv (.const (.slice none 0 0)), none⟩])
  (.seq (.reg [⟨(some 7), .mv (.const (.slice none 0 0)), none⟩])
  (.seq (.seq (.reg [⟨(some 10), .mv (.tmp 0), none⟩,
      ⟨(some 11), .mv (.tmp 1), none⟩,
      ⟨(some 12), .bin .add (.tmp 11) (.const (.int .i64 1)), none⟩,
      ⟨(some 13), .call 37 [(.tmp 10), (.tmp 12)], none⟩,
      ⟨(some 8), .mv (.tmp 13), none⟩])
   (.block 0 (.loop (.seq (.seq (.reg [⟨(some 14), .mv (.tmp 8), none⟩,
         ⟨(some 15), .bin .gtr (.tmp 14) (.const (.int .i64 0)), none⟩])
      (.cond (.tmp 15)
       .skip
       (.exit 0)))
     (.seq (.block 1 (.seq (.reg [⟨(some 18), .mv (.tmp 0), none⟩,
          ⟨(some 19), .mv (.tmp 2), none⟩,
          ⟨(some 20), .call 18 [(.tmp 18), (.tmp 19)], none⟩,
          ⟨(some 9), .new [(.int .i64 0), (.int .i64 0)], none⟩,
          ⟨none, .st 2 (.tmp 9) (.tmp 20), none⟩])
       (.drw [⟨(some 21), .mv (.tmp 7), none⟩,
         ⟨(some 22), .ld (some 2) (.tmp 9), none⟩,
         ⟨(some 23), .mv (.tmp 0), none⟩,
         ⟨(some 24), .mv (.tmp 2), none⟩,
         ⟨(some 25), .call 18 [(.tmp 23), (.tmp 24)], none⟩,
         ⟨(some 26), .bld [(.int .i64 0), (.int .i64 0), (.int .i64 0), (.int .i64 0)] [(0, 2, (.tmp 22)), (2, 2, (.tmp 25))], none⟩,
         ⟨(some 27), .bsl [(.int .i64 0), (.int .i64 0), (.int .i64 0), (.int .i64 0)] 1 [(0, 4, (.tmp 26))], none⟩,
         ⟨(some 28), .app 36 4 32 [(.int .i64 0), (.int .i64 0), (.int .i64 0), (.int .i64 0)] (.tmp 21) (.tmp 27), none⟩,
         ⟨(some 7), .mv (.tmp 28), none⟩] [[], [], [], [], [2, 3], [1, 4], [5], [0, 6, 4], [7, 7, 0, 1, 2, 3, 4, 5, 6, 7]])))
     (.reg [⟨(some 16), .mv (.tmp 8), none⟩,
       ⟨(some 17), .bin .sub (.tmp 16) (.const (.int .i64 1)), none⟩,
       ⟨(some 8), .mv (.tmp 17), none⟩]))))))
  (.seq (.reg [⟨(some 29), .mv (.tmp 7), none⟩,
     ⟨(some 6), .mv (.tmp 29), none⟩])
  .ret))))
def glyphicmake_Edges_v1.l0 : Nat → Int → List (Int) → Int → List (Int × Int × Int × Int) → Int → Option (List (Int × Int × Int × Int) × Int)
  | 0, _, _, _, _, _ => none
  | k + 1, far2, m0_0, x301, y303, x304 => if x301 > 0 then ((glyphicmake_Point_v1.f far2 m0_0 x304).bind fun (t306, t307, t308) => ((glyphicmake_Point_v1.f far2 m0_0 t308).bind fun (t311, t312, t313) => ((lapp y303 ([(t306, t307, t311, t312)] : List (Int × Int × Int × Int))).bind fun y316 => (glyphicmake_Edges_v1.l0 k far2 m0_0 (wr64 (x301 - 1)) y316 t313)))) else (some (y303, x304))
def glyphicmake_Edges_v1.f (k : Nat) (most1 : Int) (far2 : Int) (m0_0 : List (Int)) (m0_1 : Int) : Option (List (Int × Int × Int × Int) × Int) := ((glyphicmake_Seq_Next_v1.f (wr64 (most1 + 1)) m0_0 m0_1).bind fun (t298, t299) => (glyphicmake_Edges_v1.l0 k far2 m0_0 t298 ([] : List (Int × Int × Int × Int)) t299) : Option (List (Int × Int × Int × Int) × Int)).bind fun (y322, x323) => (some (y322, x323))
theorem glyphicmake_Edges_v1.ok {S : Seal} {B0 : Nat} {k : Nat} {most1 : Int} {far2 : Int} {m0_0 : List (Int)} {m0_1 : Int} {r0_ : List (Int × Int × Int × Int)} {r1_ : Int}{a_m0_0 : Option Addr} {c_m0_0 : Nat} (h_m0_0 : SlE S E_i64 m0_0 a_m0_0) (e : glyphicmake_Edges_v1.f k most1 far2 m0_0 m0_1 = some (r0_, r1_)) :
    Cal Try.prog 17 [.pointer (some ⟨B0, 0, none⟩), .int .i64 most1, .int .i64 far2] ([⟨B0, [.slice a_m0_0 m0_0.length c_m0_0, .int .i64 m0_1], 2⟩] : List Own) S fun v H' S' => ∃ (N0_ : Option Nat) (nN0_ : Nat) , v = .slice (ad N0_) r0_.length (nN0_ / 4) ∧ H' = ([⟨N0_, encL E_i644 r0_, nN0_⟩, ⟨B0, [.slice a_m0_0 m0_0.length c_m0_0, .int .i64 r1_], 2⟩] : List Own) ∧ S' = S := by
  unfold glyphicmake_Edges_v1.f at e
  refine cal_of (c := c17) (N := 30) Try.func17 rfl rfl (by kernel_rfl) (rs := [.t 6]) (by kernel_rfl) (Nat.le_of_ble_eq_true rfl) ?_
  unfold c17
  refine w_seq ?_
  refine w_reg fun all => ?_
  refine t_qz 1 [0, 1, 2] (σ' := [(0, .pointer (some ⟨B0, 0, none⟩)), (1, .int .i64 most1), (2, .int .i64 far2)]) (by kernel_rfl) ?_
  refine t_end ?_
  show W _ _ _ _ _ _ _
  refine w_seq ?_
  refine w_reg fun all => ?_
  refine t_qz 1 [0, 1, 2, 7] (σ' := [(0, .pointer (some ⟨B0, 0, none⟩)), (1, .int .i64 most1), (2, .int .i64 far2), (7, .slice none 0 0)]) (by kernel_rfl) ?_
  refine t_end ?_
  show W _ _ _ _ _ _ _
  obtain ⟨⟨y322, x323⟩, e296, e⟩ := bind_of e
  try dsimp only at e
  refine w_cut [7] (fun σ_ H_ S_ => ∃ (a321 : Option Nat) (na321 : Nat), [(7, .slice (ad a321) y322.length (na321 / 4))] = σ_ ∧ ([⟨B0, [.slice a_m0_0 m0_0.length c_m0_0, .int .i64 x323], 2⟩, ⟨a321, encL E_i644 y322, na321⟩] : List Own) = H_ ∧ S = S_) ?_ ?_
  · show W _ _ _ _ _ _ _
    refine w_seq ?_
    refine w_reg fun all => ?_
    obtain ⟨⟨t298, t299⟩, h300, e296⟩ := bind_of e296
    try dsimp only at e296
    refine t_qz 3 [0, 2, 7, 10, 12] (σ' := [(0, .pointer (some ⟨B0, 0, none⟩)), (2, .int .i64 far2), (7, .slice none 0 0), (10, .pointer (some ⟨B0, 0, none⟩)), (12, .int .i64 (wr64 (most1 + 1)))]) (by kernel_rfl) ?_
    refine t_call (vs := [.pointer (some ⟨B0, 0, none⟩), .int .i64 (wr64 (most1 + 1))]) (H1 := ([⟨B0, [.slice a_m0_0 m0_0.length c_m0_0, .int .i64 m0_1], 2⟩] : List Own)) (F := ([] : List Own)) rfl rfl (by kernel_rfl) (sel_perm (is := [0]) (by kernel_rfl)) (glyphicmake_Seq_Next_v1.ok h_m0_0 h300) ?_
    rintro _ _ S_ ⟨rfl, rfl, hS_⟩
    obtain rfl := hS_.symm
    refine t_qz 1 [0, 2, 7, 8] (σ' := [(0, .pointer (some ⟨B0, 0, none⟩)), (2, .int .i64 far2), (7, .slice none 0 0), (8, .int .i64 t298)]) (by kernel_rfl) ?_
    refine t_end ?_
    show W _ _ _ _ _ _ _
    refine w_block ?_
    refine w_vs VS.vac ?_
    refine w_kp [0, 2, 7, 8] (σ' := [(0, .pointer (some ⟨B0, 0, none⟩)), (2, .int .i64 far2), (7, .slice (ad none) ([] : List (Int × Int × Int × Int)).length (0 / 4)), (8, .int .i64 t298)]) (by kernel_rfl) ?_
    refine w_loop (fun n_ σ_ H_ S_ => ∃ (x301 : Int) (y303 : List (Int × Int × Int × Int)) (x304 : Int), ∃ (a302 : Option Nat) (na302 : Nat), [(0, .pointer (some ⟨B0, 0, none⟩)), (2, .int .i64 far2), (7, .slice (ad a302) y303.length (na302 / 4)), (8, .int .i64 x301)] = σ_ ∧ ([⟨a302, encL E_i644 y303, na302⟩, ⟨B0, [.slice a_m0_0 m0_0.length c_m0_0, .int .i64 x304], 2⟩] : List Own) = H_ ∧ S = S_ ∧ glyphicmake_Edges_v1.l0 n_ far2 m0_0 x301 y303 x304 = some (y322, x323)) _ ⟨t298, ([] : List (Int × Int × Int × Int)), t299, none, 0, rfl, rfl, rfl, e296⟩ ?_
    rintro n320 σ_ H_ S_ ⟨x301, y303, x304, a302, na302, rfl, rfl, rfl, e296⟩
    cases n320 with
    | zero => rw [glyphicmake_Edges_v1.l0.eq_1] at e296; cases e296
    | succ k_ =>
      rw [glyphicmake_Edges_v1.l0.eq_2] at e296
      refine w_seq ?_
      refine w_seq ?_
      refine w_reg fun all => ?_
      by_cases c305 : x301 > 0
      · rw [if_pos c305] at e296
        have c305b : (decide (x301 > 0)) = true := decide_eq_true c305
        refine t_qz 1 [0, 2, 7, 8, 14] (σ' := [(0, .pointer (some ⟨B0, 0, none⟩)), (2, .int .i64 far2), (7, .slice (ad a302) y303.length (na302 / 4)), (8, .int .i64 x301), (14, .int .i64 x301)]) (by kernel_rfl) ?_
        refine t_v (dv_quiet rfl (congrArg (fun t => some (Value.bool t)) c305b)) ?_
        refine t_keep [0, 2, 7, 8, 15] (σ' := [(0, .pointer (some ⟨B0, 0, none⟩)), (2, .int .i64 far2), (7, .slice (ad a302) y303.length (na302 / 4)), (8, .int .i64 x301), (15, .bool true)]) (by kernel_rfl) ?_
        refine t_end ?_
        show W _ _ _ _ _ _ _
        refine w_cond rfl (fun _ => ?_) (fun c_ => by cases c_)
        show W _ _ _ _ _ _ _
        refine w_skip ?_
        show W _ _ _ _ _ _ _
        refine w_seq ?_
        refine w_block ?_
        refine w_seq ?_
        refine w_reg fun all => ?_
        obtain ⟨⟨t306, t307, t308⟩, h309, e296⟩ := bind_of e296
        try dsimp only at e296
        refine t_qz 2 [0, 2, 7, 8, 18, 19] (σ' := [(0, .pointer (some ⟨B0, 0, none⟩)), (2, .int .i64 far2), (7, .slice (ad a302) y303.length (na302 / 4)), (8, .int .i64 x301), (18, .pointer (some ⟨B0, 0, none⟩)), (19, .int .i64 far2)]) (by kernel_rfl) ?_
        refine t_call (vs := [.pointer (some ⟨B0, 0, none⟩), .int .i64 far2]) (H1 := ([⟨B0, [.slice a_m0_0 m0_0.length c_m0_0, .int .i64 x304], 2⟩] : List Own)) (F := ([⟨a302, encL E_i644 y303, na302⟩] : List Own)) rfl rfl (by kernel_rfl) (sel_perm (is := [1]) (by kernel_rfl)) (glyphicmake_Point_v1.ok h_m0_0 h309) ?_
        rintro _ _ S_ ⟨rfl, rfl, hS_⟩
        obtain rfl := hS_.symm
        refine t_a (.new rfl rfl) fun b310 fb310 sb310 => ?_
        refine t_sti 0 (cs := [.int .i64 t306, .int .i64 t307]) rfl rfl rfl rfl rfl rfl rfl rfl rfl ?_
        refine t_keep [0, 2, 7, 8, 9] (σ' := [(0, .pointer (some ⟨B0, 0, none⟩)), (2, .int .i64 far2), (7, .slice (ad a302) y303.length (na302 / 4)), (8, .int .i64 x301), (9, .pointer (some ⟨b310, 0, none⟩))]) (by kernel_rfl) ?_
        refine t_end ?_
        show W _ _ _ _ _ _ _
        obtain ⟨⟨t311, t312, t313⟩, h314, e296⟩ := bind_of e296
        try dsimp only at e296
        obtain ⟨y316, hl317, e296⟩ := bind_of e296
        refine w_kp [0, 2, 7, 8, 9] (σ' := [(0, .pointer (some ⟨B0, 0, none⟩)), (2, .int .i64 far2), (7, .slice (ad a302) y303.length (na302 / 4)), (8, .int .i64 x301), (9, .pointer (some ⟨b310, 0, none⟩))]) (by kernel_rfl) ?_
        refine w_gameQ mixed (by kernel_rfl) fun all G hend hstep hqf => ?_
        have hg_1ff : ∀ (g318 : Option Nat) (ng318 : Nat) (g315 : Nat), G [true, true, true, true, true, true, true, true, true] [(0, .pointer (some ⟨B0, 0, none⟩)), (2, .int .i64 far2), (7, .slice (ad g318) y316.length (ng318 / 4)), (8, .int .i64 x301)] ([⟨g318, encL E_i644 y316, ng318⟩, ⟨g315, [.int .i64 t306, .int .i64 t307, .int .i64 t311, .int .i64 t312], 4⟩, ⟨B0, [.slice a_m0_0 m0_0.length c_m0_0, .int .i64 t313], 2⟩, ⟨b310, [.int .i64 t306, .int .i64 t307], 2⟩] : List Own) := by
          intro g318 ng318 g315
          refine hend _ _ _ (by kernel_rfl) ?_
          show W _ _ _ _ _ _ _
          refine w_reg fun all => ?_
          refine t_qz 3 [0, 2, 7, 8] (σ' := [(0, .pointer (some ⟨B0, 0, none⟩)), (2, .int .i64 far2), (7, .slice (ad g318) y316.length (ng318 / 4)), (8, .int .i64 (wr64 (x301 - 1)))]) (by kernel_rfl) ?_
          refine t_end ?_
          exact ⟨k_, Nat.lt_succ_self _, [(0, .pointer (some ⟨B0, 0, none⟩)), (2, .int .i64 far2), (7, .slice (ad g318) y316.length (ng318 / 4)), (8, .int .i64 (wr64 (x301 - 1)))], ([⟨g318, encL E_i644 y316, ng318⟩, ⟨B0, [.slice a_m0_0 m0_0.length c_m0_0, .int .i64 t313], 2⟩] : List Own), S, keep_sub [0, 2, 7, 8] (by kernel_rfl), VS.sel [0, 1] (by kernel_rfl), wr64 (x301 - 1), y316, t313, g318, ng318, rfl, rfl, rfl, e296⟩
        have hg_ff : ∀ (g318 : Option Nat) (ng318 : Nat) (g315 : Nat), G [true, true, true, true, true, true, true, true, false] [(0, .pointer (some ⟨B0, 0, none⟩)), (2, .int .i64 far2), (7, .slice (ad a302) y303.length (na302 / 4)), (8, .int .i64 x301), (28, .slice (ad g318) y316.length (ng318 / 4))] ([⟨g318, encL E_i644 y316, ng318⟩, ⟨g315, [.int .i64 t306, .int .i64 t307, .int .i64 t311, .int .i64 t312], 4⟩, ⟨B0, [.slice a_m0_0 m0_0.length c_m0_0, .int .i64 t313], 2⟩, ⟨b310, [.int .i64 t306, .int .i64 t307], 2⟩] : List Own) := by
          intro g318 ng318 g315
          exact hqf 8 [0, 2, 7, 8] _ _ _ [(0, .pointer (some ⟨B0, 0, none⟩)), (2, .int .i64 far2), (7, .slice (ad g318) y316.length (ng318 / 4)), (8, .int .i64 x301)] (by kernel_rfl) (by kernel_rfl) (hg_1ff g318 ng318 g315)
        have hg_7f : ∀ (g315 : Nat), G [true, true, true, true, true, true, true, false, false] [(0, .pointer (some ⟨B0, 0, none⟩)), (2, .int .i64 far2), (7, .slice (ad a302) y303.length (na302 / 4)), (8, .int .i64 x301), (21, .slice (ad a302) y303.length (na302 / 4)), (27, .slice (some ⟨g315, 0, none⟩) 1 1)] ([⟨g315, [.int .i64 t306, .int .i64 t307, .int .i64 t311, .int .i64 t312], 4⟩, ⟨B0, [.slice a_m0_0 m0_0.length c_m0_0, .int .i64 t313], 2⟩, ⟨b310, [.int .i64 t306, .int .i64 t307], 2⟩, ⟨a302, encL E_i644 y303, na302⟩] : List Own) := by
          intro g315
          refine hstep [7] _ _ _ (by kernel_rfl) (List.cons_ne_nil _ _) ⟨?_, trivial⟩
          · show T _ _ _ _ _ _ _ _
            refine t_appX (E := E_i644) (L := y303) (X := ([(t306, t307, t311, t312)] : List (Int × Int × Int × Int))) (F := ([⟨g315, [.int .i64 t306, .int .i64 t307, .int .i64 t311, .int .i64 t312], 4⟩, ⟨B0, [.slice a_m0_0 m0_0.length c_m0_0, .int .i64 t313], 2⟩, ⟨b310, [.int .i64 t306, .int .i64 t307], 2⟩] : List Own)) rfl rfl rfl rfl (sel_perm (is := [3]) (by kernel_rfl)) rfl (Or.inr ⟨_, _, rfl, .at 0 rfl (by kernel_rfl)⟩) rfl (by decide) (by decide) rfl hl317 fun g318 ng318 => ?_
            refine t_keep [0, 2, 7, 8, 28] (σ' := [(0, .pointer (some ⟨B0, 0, none⟩)), (2, .int .i64 far2), (7, .slice (ad a302) y303.length (na302 / 4)), (8, .int .i64 x301), (28, .slice (ad g318) y316.length (ng318 / 4))]) (by kernel_rfl) ?_
            refine t_end ?_
            exact ⟨hg_ff g318 ng318 g315, rfl⟩
        have hg_3f : G [true, true, true, true, true, true, false, false, false] [(0, .pointer (some ⟨B0, 0, none⟩)), (2, .int .i64 far2), (7, .slice (ad a302) y303.length (na302 / 4)), (8, .int .i64 x301), (21, .slice (ad a302) y303.length (na302 / 4)), (26, .agg #[.int .i64 t306, .int .i64 t307, .int .i64 t311, .int .i64 t312])] ([⟨B0, [.slice a_m0_0 m0_0.length c_m0_0, .int .i64 t313], 2⟩, ⟨b310, [.int .i64 t306, .int .i64 t307], 2⟩, ⟨a302, encL E_i644 y303, na302⟩] : List Own) := by
          refine hstep [6] _ _ _ (by kernel_rfl) (List.cons_ne_nil _ _) ⟨?_, trivial⟩
          · show T _ _ _ _ _ _ _ _
            refine t_a (.bsl rfl rfl rfl rfl) fun g315 fg315 sg315 => ?_
            refine t_keep [0, 2, 7, 8, 21, 27] (σ' := [(0, .pointer (some ⟨B0, 0, none⟩)), (2, .int .i64 far2), (7, .slice (ad a302) y303.length (na302 / 4)), (8, .int .i64 x301), (21, .slice (ad a302) y303.length (na302 / 4)), (27, .slice (some ⟨g315, 0, none⟩) 1 1)]) (by kernel_rfl) ?_
            refine t_end ?_
            exact ⟨hg_7f g315, rfl⟩
        have hg_1f : G [true, true, true, true, true, false, false, false, false] [(0, .pointer (some ⟨B0, 0, none⟩)), (2, .int .i64 far2), (7, .slice (ad a302) y303.length (na302 / 4)), (8, .int .i64 x301), (21, .slice (ad a302) y303.length (na302 / 4)), (22, .agg #[.int .i64 t306, .int .i64 t307]), (25, .agg #[.int .i64 t311, .int .i64 t312])] ([⟨B0, [.slice a_m0_0 m0_0.length c_m0_0, .int .i64 t313], 2⟩, ⟨b310, [.int .i64 t306, .int .i64 t307], 2⟩, ⟨a302, encL E_i644 y303, na302⟩] : List Own) := by
          exact hqf 5 [0, 2, 7, 8, 21, 26] _ _ _ [(0, .pointer (some ⟨B0, 0, none⟩)), (2, .int .i64 far2), (7, .slice (ad a302) y303.length (na302 / 4)), (8, .int .i64 x301), (21, .slice (ad a302) y303.length (na302 / 4)), (26, .agg #[.int .i64 t306, .int .i64 t307, .int .i64 t311, .int .i64 t312])] (by kernel_rfl) (by kernel_rfl) hg_3f
        have hg_f : G [true, true, true, true, false, false, false, false, false] [(0, .pointer (some ⟨B0, 0, none⟩)), (2, .int .i64 far2), (7, .slice (ad a302) y303.length (na302 / 4)), (8, .int .i64 x301), (21, .slice (ad a302) y303.length (na302 / 4)), (22, .agg #[.int .i64 t306, .int .i64 t307]), (23, .pointer (some ⟨B0, 0, none⟩)), (24, .int .i64 far2)] ([⟨b310, [.int .i64 t306, .int .i64 t307], 2⟩, ⟨B0, [.slice a_m0_0 m0_0.length c_m0_0, .int .i64 t308], 2⟩, ⟨a302, encL E_i644 y303, na302⟩] : List Own) := by
          refine hstep [4] _ _ _ (by kernel_rfl) (List.cons_ne_nil _ _) ⟨?_, trivial⟩
          · show T _ _ _ _ _ _ _ _
            refine t_call (vs := [.pointer (some ⟨B0, 0, none⟩), .int .i64 far2]) (H1 := ([⟨B0, [.slice a_m0_0 m0_0.length c_m0_0, .int .i64 t308], 2⟩] : List Own)) (F := ([⟨b310, [.int .i64 t306, .int .i64 t307], 2⟩, ⟨a302, encL E_i644 y303, na302⟩] : List Own)) rfl rfl (by kernel_rfl) (sel_perm (is := [1]) (by kernel_rfl)) (glyphicmake_Point_v1.ok h_m0_0 h314) ?_
            rintro _ _ S_ ⟨rfl, rfl, hS_⟩
            obtain rfl := hS_.symm
            refine t_keep [0, 2, 7, 8, 21, 22, 25] (σ' := [(0, .pointer (some ⟨B0, 0, none⟩)), (2, .int .i64 far2), (7, .slice (ad a302) y303.length (na302 / 4)), (8, .int .i64 x301), (21, .slice (ad a302) y303.length (na302 / 4)), (22, .agg #[.int .i64 t306, .int .i64 t307]), (25, .agg #[.int .i64 t311, .int .i64 t312])]) (by kernel_rfl) ?_
            refine t_end ?_
            exact ⟨hg_1f, rfl⟩
        have hg_1d : G [true, false, true, true, true, false, false, false, false] [(0, .pointer (some ⟨B0, 0, none⟩)), (2, .int .i64 far2), (7, .slice (ad a302) y303.length (na302 / 4)), (8, .int .i64 x301), (9, .pointer (some ⟨b310, 0, none⟩)), (21, .slice (ad a302) y303.length (na302 / 4)), (25, .agg #[.int .i64 t311, .int .i64 t312])] ([⟨B0, [.slice a_m0_0 m0_0.length c_m0_0, .int .i64 t313], 2⟩, ⟨b310, [.int .i64 t306, .int .i64 t307], 2⟩, ⟨a302, encL E_i644 y303, na302⟩] : List Own) := by
          refine hstep [1] _ _ _ (by kernel_rfl) (List.cons_ne_nil _ _) ⟨?_, trivial⟩
          · show T _ _ _ _ _ _ _ _
            refine t_v (.ldn rfl rfl rfl (.at 1 rfl rfl)) ?_
            refine t_keep [0, 2, 7, 8, 21, 22, 25] (σ' := [(0, .pointer (some ⟨B0, 0, none⟩)), (2, .int .i64 far2), (7, .slice (ad a302) y303.length (na302 / 4)), (8, .int .i64 x301), (21, .slice (ad a302) y303.length (na302 / 4)), (22, .agg #[.int .i64 t306, .int .i64 t307]), (25, .agg #[.int .i64 t311, .int .i64 t312])]) (by kernel_rfl) ?_
            refine t_end ?_
            exact ⟨hg_1f, rfl⟩
        have hg_d : G [true, false, true, true, false, false, false, false, false] [(0, .pointer (some ⟨B0, 0, none⟩)), (2, .int .i64 far2), (7, .slice (ad a302) y303.length (na302 / 4)), (8, .int .i64 x301), (9, .pointer (some ⟨b310, 0, none⟩)), (21, .slice (ad a302) y303.length (na302 / 4)), (23, .pointer (some ⟨B0, 0, none⟩)), (24, .int .i64 far2)] ([⟨b310, [.int .i64 t306, .int .i64 t307], 2⟩, ⟨B0, [.slice a_m0_0 m0_0.length c_m0_0, .int .i64 t308], 2⟩, ⟨a302, encL E_i644 y303, na302⟩] : List Own) := by
          refine hstep [1, 4] _ _ _ (by kernel_rfl) (List.cons_ne_nil _ _) ⟨?_, ?_, trivial⟩
          · show T _ _ _ _ _ _ _ _
            refine t_v (.ldn rfl rfl rfl (.at 0 rfl rfl)) ?_
            refine t_keep [0, 2, 7, 8, 21, 22, 23, 24] (σ' := [(0, .pointer (some ⟨B0, 0, none⟩)), (2, .int .i64 far2), (7, .slice (ad a302) y303.length (na302 / 4)), (8, .int .i64 x301), (21, .slice (ad a302) y303.length (na302 / 4)), (22, .agg #[.int .i64 t306, .int .i64 t307]), (23, .pointer (some ⟨B0, 0, none⟩)), (24, .int .i64 far2)]) (by kernel_rfl) ?_
            refine t_end ?_
            exact ⟨hg_f, rfl⟩
          · show T _ _ _ _ _ _ _ _
            refine t_call (vs := [.pointer (some ⟨B0, 0, none⟩), .int .i64 far2]) (H1 := ([⟨B0, [.slice a_m0_0 m0_0.length c_m0_0, .int .i64 t308], 2⟩] : List Own)) (F := ([⟨b310, [.int .i64 t306, .int .i64 t307], 2⟩, ⟨a302, encL E_i644 y303, na302⟩] : List Own)) rfl rfl (by kernel_rfl) (sel_perm (is := [1]) (by kernel_rfl)) (glyphicmake_Point_v1.ok h_m0_0 h314) ?_
            rintro _ _ S_ ⟨rfl, rfl, hS_⟩
            obtain rfl := hS_.symm
            refine t_keep [0, 2, 7, 8, 9, 21, 25] (σ' := [(0, .pointer (some ⟨B0, 0, none⟩)), (2, .int .i64 far2), (7, .slice (ad a302) y303.length (na302 / 4)), (8, .int .i64 x301), (9, .pointer (some ⟨b310, 0, none⟩)), (21, .slice (ad a302) y303.length (na302 / 4)), (25, .agg #[.int .i64 t311, .int .i64 t312])]) (by kernel_rfl) ?_
            refine t_end ?_
            exact ⟨hg_1d, rfl⟩
        have hg_5 : G [true, false, true, false, false, false, false, false, false] [(0, .pointer (some ⟨B0, 0, none⟩)), (2, .int .i64 far2), (7, .slice (ad a302) y303.length (na302 / 4)), (8, .int .i64 x301), (9, .pointer (some ⟨b310, 0, none⟩)), (21, .slice (ad a302) y303.length (na302 / 4)), (23, .pointer (some ⟨B0, 0, none⟩))] ([⟨b310, [.int .i64 t306, .int .i64 t307], 2⟩, ⟨B0, [.slice a_m0_0 m0_0.length c_m0_0, .int .i64 t308], 2⟩, ⟨a302, encL E_i644 y303, na302⟩] : List Own) := by
          exact hqf 3 [0, 2, 7, 8, 9, 21, 23, 24] _ _ _ [(0, .pointer (some ⟨B0, 0, none⟩)), (2, .int .i64 far2), (7, .slice (ad a302) y303.length (na302 / 4)), (8, .int .i64 x301), (9, .pointer (some ⟨b310, 0, none⟩)), (21, .slice (ad a302) y303.length (na302 / 4)), (23, .pointer (some ⟨B0, 0, none⟩)), (24, .int .i64 far2)] (by kernel_rfl) (by kernel_rfl) hg_d
        have hg_1 : G [true, false, false, false, false, false, false, false, false] [(0, .pointer (some ⟨B0, 0, none⟩)), (2, .int .i64 far2), (7, .slice (ad a302) y303.length (na302 / 4)), (8, .int .i64 x301), (9, .pointer (some ⟨b310, 0, none⟩)), (21, .slice (ad a302) y303.length (na302 / 4))] ([⟨b310, [.int .i64 t306, .int .i64 t307], 2⟩, ⟨B0, [.slice a_m0_0 m0_0.length c_m0_0, .int .i64 t308], 2⟩, ⟨a302, encL E_i644 y303, na302⟩] : List Own) := by
          exact hqf 2 [0, 2, 7, 8, 9, 21, 23] _ _ _ [(0, .pointer (some ⟨B0, 0, none⟩)), (2, .int .i64 far2), (7, .slice (ad a302) y303.length (na302 / 4)), (8, .int .i64 x301), (9, .pointer (some ⟨b310, 0, none⟩)), (21, .slice (ad a302) y303.length (na302 / 4)), (23, .pointer (some ⟨B0, 0, none⟩))] (by kernel_rfl) (by kernel_rfl) hg_5
        have hg_0 : G [false, false, false, false, false, false, false, false, false] [(0, .pointer (some ⟨B0, 0, none⟩)), (2, .int .i64 far2), (7, .slice (ad a302) y303.length (na302 / 4)), (8, .int .i64 x301), (9, .pointer (some ⟨b310, 0, none⟩))] ([⟨b310, [.int .i64 t306, .int .i64 t307], 2⟩, ⟨B0, [.slice a_m0_0 m0_0.length c_m0_0, .int .i64 t308], 2⟩, ⟨a302, encL E_i644 y303, na302⟩] : List Own) := by
          exact hqf 0 [0, 2, 7, 8, 9, 21] _ _ _ [(0, .pointer (some ⟨B0, 0, none⟩)), (2, .int .i64 far2), (7, .slice (ad a302) y303.length (na302 / 4)), (8, .int .i64 x301), (9, .pointer (some ⟨b310, 0, none⟩)), (21, .slice (ad a302) y303.length (na302 / 4))] (by kernel_rfl) (by kernel_rfl) hg_1
        exact hg_0
      · rw [if_neg c305] at e296
        have c305b : (decide (x301 > 0)) = false := decide_eq_false c305
        refine t_qz 1 [0, 2, 7, 8, 14] (σ' := [(0, .pointer (some ⟨B0, 0, none⟩)), (2, .int .i64 far2), (7, .slice (ad a302) y303.length (na302 / 4)), (8, .int .i64 x301), (14, .int .i64 x301)]) (by kernel_rfl) ?_
        refine t_v (dv_quiet rfl (congrArg (fun t => some (Value.bool t)) c305b)) ?_
        refine t_keep [0, 2, 7, 8, 15] (σ' := [(0, .pointer (some ⟨B0, 0, none⟩)), (2, .int .i64 far2), (7, .slice (ad a302) y303.length (na302 / 4)), (8, .int .i64 x301), (15, .bool false)]) (by kernel_rfl) ?_
        refine t_end ?_
        show W _ _ _ _ _ _ _
        refine w_cond rfl (fun c_ => by cases c_) (fun _ => ?_)
        show W _ _ _ _ _ _ _
        refine w_exit ?_
        simp only [Option.some.injEq, Prod.mk.injEq] at e296
        obtain ⟨rfl, rfl⟩ := e296
        exact ⟨([⟨B0, [.slice a_m0_0 m0_0.length c_m0_0, .int .i64 x304], 2⟩, ⟨a302, encL E_i644 y303, na302⟩] : List Own), S, VS.sel [1, 0] (by kernel_rfl), a302, na302, by kernel_rfl, rfl, rfl⟩
  · rintro σ_ H_ S_ ⟨a321, na321, rfl, rfl, rfl⟩
    refine w_seq ?_
    refine w_reg fun all => ?_
    refine t_qz 2 [6] (σ' := [(6, .slice (ad a321) y322.length (na321 / 4))]) (by kernel_rfl) ?_
    refine t_end ?_
    show W _ _ _ _ _ _ _
    refine w_ret ?_
    simp only [Option.some.injEq, Prod.mk.injEq] at e
    obtain ⟨rfl, rfl⟩ := e
    exact ⟨[.slice (ad a321) y322.length (na321 / 4)], ([⟨a321, encL E_i644 y322, na321⟩, ⟨B0, [.slice a_m0_0 m0_0.length c_m0_0, .int .i64 x323], 2⟩] : List Own), S, ⟨rfl, trivial⟩, VS.sel [1, 0] (by kernel_rfl), a321, na321, rfl, rfl, rfl⟩

/-- plane.Dot -/
def c104 : C :=
  (.seq (.reg [⟨(some 3), .box (.tmp 0), none⟩,
     ⟨(some 4), .box (.tmp 1), none⟩,
     ⟨(some 5), .box (.tmp 2), none⟩,
     ⟨(some 6), .mv (.const (.int .i64 0)), none⟩])
  (.seq (.drw [⟨(some 9), .ld (some 2) (.tmp 4), none⟩,
     ⟨(some 10), .ld (some 2) (.tmp 3), none⟩,
     ⟨(some 11), .call 116 [(.tmp 9), (.tmp 10)], none⟩,
     ⟨(some 12), .ld (some 2) (.tmp 5), none⟩,
     ⟨(some 13), .ld (some 2) (.tmp 3), none⟩,
     ⟨(some 14), .call 116 [(.tmp 12), (.tmp 13)], none⟩,
     ⟨(some 7), .new [(.int .i64 0), (.int .i64 0)], none⟩,
     ⟨(some 8), .new [(.int .i64 0), (.int .i64 0)], none⟩,
     ⟨none, .st 2 (.tmp 7) (.tmp 11), none⟩,
     ⟨none, .st 2 (.tmp 8) (.tmp 14), none⟩] [[], [], [0, 1], [], [], [3, 4, 2], [], [], [6, 2, 5, 0, 1, 2, 6, 7], [7, 5, 8, 0, 1, 2, 3, 4, 5, 6, 7, 8]])
  (.seq (.reg [⟨(some 15), .pad 0 (.tmp 7), none⟩,
     ⟨(some 16), .ld none (.tmp 15), none⟩,
     ⟨(some 17), .pad 0 (.tmp 8), none⟩,
     ⟨(some 18), .ld none (.tmp 17), none⟩,
     ⟨(some 19), .bin .mul (.tmp 16) (.tmp 18), none⟩,
     ⟨(some 20), .pad 1 (.tmp 7), none⟩,
     ⟨(some 21), .ld none (.tmp 20), none⟩,
     ⟨(some 22), .pad 1 (.tmp 8), none⟩,
     ⟨(some 23), .ld none (.tmp 22), none⟩,
     ⟨(some 24), .bin .mul (.tmp 21) (.tmp 23), none⟩,
     ⟨(some 25), .bin .add (.tmp 19) (.tmp 24), none⟩,
     ⟨(some 6), .mv (.tmp 25), none⟩])
  .ret)))
def plane_Dot.f (a0_X : Int) (a0_Y : Int) (b1_X : Int) (b1_Y : Int) (p2_X : Int) (p2_Y : Int) : Option (Int) := (plane_Sub.f b1_X b1_Y a0_X a0_Y).bind fun (t347, t348) => ((plane_Sub.f p2_X p2_Y a0_X a0_Y).bind fun (t350, t351) => (some (wr64 ((wr64 (t347 * t350)) + (wr64 (t348 * t351))))))
theorem plane_Dot.ok {S : Seal} {a0_X : Int} {a0_Y : Int} {b1_X : Int} {b1_Y : Int} {p2_X : Int} {p2_Y : Int} {r0_ : Int}(e : plane_Dot.f a0_X a0_Y b1_X b1_Y p2_X p2_Y = some r0_) :
    Cal Try.prog 104 [.agg #[.int .i64 a0_X, .int .i64 a0_Y], .agg #[.int .i64 b1_X, .int .i64 b1_Y], .agg #[.int .i64 p2_X, .int .i64 p2_Y]] [] S fun v H' S' => v = .int .i64 r0_ ∧ H' = [] ∧ S' = S := by
  unfold plane_Dot.f at e
  refine cal_of (c := c104) (N := 26) Try.func104 rfl rfl (by kernel_rfl) (rs := [.t 6]) (by kernel_rfl) (Nat.le_of_ble_eq_true rfl) ?_
  unfold c104
  refine w_seq ?_
  refine w_reg fun all => ?_
  refine t_a (.box rfl rfl rfl) fun b344 fb344 sb344 => ?_
  refine t_a (.box rfl rfl rfl) fun b345 fb345 sb345 => ?_
  refine t_a (.box rfl rfl rfl) fun b346 fb346 sb346 => ?_
  refine t_qz 1 [3, 4, 5] (σ' := [(3, .pointer (some ⟨b344, 0, none⟩)), (4, .pointer (some ⟨b345, 0, none⟩)), (5, .pointer (some ⟨b346, 0, none⟩))]) (by kernel_rfl) ?_
  refine t_end ?_
  show W _ _ _ _ _ _ _
  refine w_seq ?_
  obtain ⟨⟨t347, t348⟩, h349, e⟩ := bind_of e
  try dsimp only at e
  obtain ⟨⟨t350, t351⟩, h352, e⟩ := bind_of e
  try dsimp only at e
  refine w_drwE mixed 8 [.v (.agg #[.int .i64 b1_X, .int .i64 b1_Y]), .v (.agg #[.int .i64 a0_X, .int .i64 a0_Y]), .v (.agg #[.int .i64 t347, .int .i64 t348]), .v (.agg #[.int .i64 p2_X, .int .i64 p2_Y]), .v (.agg #[.int .i64 a0_X, .int .i64 a0_Y]), .v (.agg #[.int .i64 t350, .int .i64 t351]), .a [.int .i64 0, .int .i64 0] ptrTo, .a [.int .i64 0, .int .i64 0] ptrTo] (by kernel_rfl) ?_ ?_
  · refine .cons (.ldn rfl rfl rfl (.at 1 rfl rfl)) ?_
    refine .cons (.ldn rfl rfl rfl (.at 2 rfl rfl)) ?_
    refine .cons (.call (vs := [.agg #[.int .i64 b1_X, .int .i64 b1_Y], .agg #[.int .i64 a0_X, .int .i64 a0_Y]]) rfl rfl (by kernel_rfl) (plane_Sub.ok h349)) ?_
    refine .cons (.ldn rfl rfl rfl (.at 0 rfl rfl)) ?_
    refine .cons (.ldn rfl rfl rfl (.at 2 rfl rfl)) ?_
    refine .cons (.call (vs := [.agg #[.int .i64 p2_X, .int .i64 p2_Y], .agg #[.int .i64 a0_X, .int .i64 a0_Y]]) rfl rfl (by kernel_rfl) (plane_Sub.ok h352)) ?_
    refine .cons (.new rfl rfl) ?_
    refine .cons (.new rfl rfl) ?_
    exact .nil
  refine fk_q 6 [11, 14] (σ' := [(11, .agg #[.int .i64 t347, .int .i64 t348]), (14, .agg #[.int .i64 t350, .int .i64 t351])]) t_more (by kernel_rfl) ?_
  refine fk_a fun b353 fb353 sb353 => ?_
  refine fk_a fun b354 fb354 sb354 => ?_
  refine fk_nil fun all => ?_
  refine t_sti 1 (cs := [.int .i64 t347, .int .i64 t348]) rfl rfl rfl rfl rfl rfl rfl rfl rfl ?_
  refine t_sti 0 (cs := [.int .i64 t350, .int .i64 t351]) rfl rfl rfl rfl rfl rfl rfl rfl rfl ?_
  refine t_keep [7, 8] (σ' := [(7, .pointer (some ⟨b353, 0, none⟩)), (8, .pointer (some ⟨b354, 0, none⟩))]) (by kernel_rfl) ?_
  refine t_end ?_
  show W _ _ _ _ _ _ _
  refine w_seq ?_
  refine w_reg fun all => ?_
  refine t_qz 1 [7, 8, 15] (σ' := [(7, .pointer (some ⟨b353, 0, none⟩)), (8, .pointer (some ⟨b354, 0, none⟩)), (15, .pointer (some ⟨b353, 0, none⟩))]) (by kernel_rfl) ?_
  refine t_v (.ld1 rfl rfl rfl (.at 1 rfl rfl)) ?_
  refine t_qz 1 [7, 8, 16, 17] (σ' := [(7, .pointer (some ⟨b353, 0, none⟩)), (8, .pointer (some ⟨b354, 0, none⟩)), (16, .int .i64 t347), (17, .pointer (some ⟨b354, 0, none⟩))]) (by kernel_rfl) ?_
  refine t_v (.ld1 rfl rfl rfl (.at 0 rfl rfl)) ?_
  refine t_qz 2 [8, 19, 20] (σ' := [(8, .pointer (some ⟨b354, 0, none⟩)), (19, .int .i64 (wr64 (t347 * t350))), (20, .pointer (some ⟨b353, 1, none⟩))]) (by kernel_rfl) ?_
  refine t_v (.ld1 rfl rfl rfl (.at 1 rfl rfl)) ?_
  refine t_qz 1 [19, 21, 22] (σ' := [(19, .int .i64 (wr64 (t347 * t350))), (21, .int .i64 t348), (22, .pointer (some ⟨b354, 1, none⟩))]) (by kernel_rfl) ?_
  refine t_v (.ld1 rfl rfl rfl (.at 0 rfl rfl)) ?_
  refine t_qz 3 [6] (σ' := [(6, .int .i64 (wr64 ((wr64 (t347 * t350)) + (wr64 (t348 * t351)))))]) (by kernel_rfl) ?_
  refine t_end ?_
  show W _ _ _ _ _ _ _
  refine w_ret ?_
  obtain rfl := Option.some.inj e
  exact ⟨[.int .i64 (wr64 ((wr64 (t347 * t350)) + (wr64 (t348 * t351))))], [], S, ⟨rfl, trivial⟩, VS.none, rfl, rfl, rfl⟩

/-- plane.Len2 -/
def c90 : C :=
  (.seq (.reg [⟨(some 2), .box (.tmp 0), none⟩,
     ⟨(some 3), .box (.tmp 1), none⟩,
     ⟨(some 4), .mv (.const (.int .i64 0)), none⟩])
  (.seq (.reg [⟨(some 5), .ld (some 2) (.tmp 2), none⟩,
     ⟨(some 6), .ld (some 2) (.tmp 3), none⟩,
     ⟨(some 7), .ld (some 2) (.tmp 3), none⟩,
     ⟨(some 8), .call 104 [(.tmp 5), (.tmp 6), (.tmp 7)], none⟩,
     ⟨(some 4), .mv (.tmp 8), none⟩])
  .ret))
def plane_Len2.f (a0_X : Int) (a0_Y : Int) (b1_X : Int) (b1_Y : Int) : Option (Int) := (plane_Dot.f a0_X a0_Y b1_X b1_Y b1_X b1_Y).bind fun t359 => (some t359)
theorem plane_Len2.ok {S : Seal} {a0_X : Int} {a0_Y : Int} {b1_X : Int} {b1_Y : Int} {r0_ : Int}(e : plane_Len2.f a0_X a0_Y b1_X b1_Y = some r0_) :
    Cal Try.prog 90 [.agg #[.int .i64 a0_X, .int .i64 a0_Y], .agg #[.int .i64 b1_X, .int .i64 b1_Y]] [] S fun v H' S' => v = .int .i64 r0_ ∧ H' = [] ∧ S' = S := by
  unfold plane_Len2.f at e
  refine cal_of (c := c90) (N := 9) Try.func90 rfl rfl (by kernel_rfl) (rs := [.t 4]) (by kernel_rfl) (Nat.le_of_ble_eq_true rfl) ?_
  unfold c90
  refine w_seq ?_
  refine w_reg fun all => ?_
  refine t_a (.box rfl rfl rfl) fun b357 fb357 sb357 => ?_
  refine t_a (.box rfl rfl rfl) fun b358 fb358 sb358 => ?_
  refine t_qz 1 [2, 3] (σ' := [(2, .pointer (some ⟨b357, 0, none⟩)), (3, .pointer (some ⟨b358, 0, none⟩))]) (by kernel_rfl) ?_
  refine t_end ?_
  show W _ _ _ _ _ _ _
  refine w_seq ?_
  refine w_reg fun all => ?_
  refine t_v (.ldn rfl rfl rfl (.at 1 rfl rfl)) ?_
  refine t_v (.ldn rfl rfl rfl (.at 0 rfl rfl)) ?_
  refine t_v (.ldn rfl rfl rfl (.at 0 rfl rfl)) ?_
  obtain ⟨t359, h360, e⟩ := bind_of e
  refine t_v (.call (vs := [.agg #[.int .i64 a0_X, .int .i64 a0_Y], .agg #[.int .i64 b1_X, .int .i64 b1_Y], .agg #[.int .i64 b1_X, .int .i64 b1_Y]]) rfl rfl (by kernel_rfl) (plane_Dot.ok h360)) ?_
  refine t_qz 1 [4] (σ' := [(4, .int .i64 t359)]) (by kernel_rfl) ?_
  refine t_end ?_
  show W _ _ _ _ _ _ _
  refine w_ret ?_
  obtain rfl := Option.some.inj e
  exact ⟨[.int .i64 t359], [], S, ⟨rfl, trivial⟩, VS.none, rfl, rfl, rfl⟩

/-- plane.within$1 -/
def c117 : C :=
  (.seq (.reg [⟨(some 2), .mv (.const (.int .u64 0)), none⟩])
  (.seq (.reg [⟨(some 3), .mv (.tmp 0), none⟩,
     ⟨(some 4), .mv (.tmp 0), none⟩,
     ⟨(some 5), .un .neg (.tmp 4), none⟩,
     ⟨(some 6), .mm true [(.tmp 3), (.tmp 5)], none⟩,
     ⟨(some 7), .cnv .u64 (.tmp 6), none⟩,
     ⟨(some 2), .mv (.tmp 7), none⟩])
  .ret))
def plane_within_1.f (n0 : Int) : Option (Int) := some (wru64 (mx n0 (wr64 (0 - n0))))
theorem plane_within_1.ok {S : Seal} {n0 : Int} {r0_ : Int}(e : plane_within_1.f n0 = some r0_) :
    Cal Try.prog 117 [.int .i64 n0] [] S fun v H' S' => v = .int .u64 r0_ ∧ H' = [] ∧ S' = S := by
  unfold plane_within_1.f at e
  refine cal_of (c := c117) (N := 8) Try.func117 rfl rfl (by kernel_rfl) (rs := [.t 2]) (by kernel_rfl) (Nat.le_of_ble_eq_true rfl) ?_
  unfold c117
  refine w_seq ?_
  refine w_reg fun all => ?_
  refine t_qz 1 [0] (σ' := [(0, .int .i64 n0)]) (by kernel_rfl) ?_
  refine t_end ?_
  show W _ _ _ _ _ _ _
  refine w_seq ?_
  refine w_reg fun all => ?_
  refine t_qz 6 [2] (σ' := [(2, .int .u64 (wru64 (mx n0 (wr64 (0 - n0)))))]) (by kernel_rfl) ?_
  refine t_end ?_
  show W _ _ _ _ _ _ _
  refine w_ret ?_
  obtain rfl := Option.some.inj e
  exact ⟨[.int .u64 (wru64 (mx n0 (wr64 (0 - n0))))], [], S, ⟨rfl, trivial⟩, VS.none, rfl, rfl, rfl⟩

/-- plane.within -/
def c105 : C :=
  (.seq (.reg [⟨(some 8), .mv (.const (.bool false)), none⟩])
  (.seq (.reg [⟨(some 9), .mv (.func 117), none⟩])
  (.seq (.reg [⟨(some 15), .mv (.tmp 9), none⟩,
     ⟨(some 16), .mv (.tmp 0), none⟩,
     ⟨(some 17), .clo (.tmp 15) [(.tmp 16)], none⟩,
     ⟨(some 18), .mv (.tmp 9), none⟩,
     ⟨(some 19), .mv (.tmp 1), none⟩,
     ⟨(some 20), .clo (.tmp 18) [(.tmp 19)], none⟩,
     ⟨(some 21), .call 81 [(.tmp 17), (.tmp 20)], none⟩,
     ⟨(some 14), .mv (.tmp 21), none⟩,
     ⟨(some 22), .xt 0 (.tmp 14), none⟩,
     ⟨(some 23), .xt 1 (.tmp 14), none⟩,
     ⟨(some 10), .mv (.tmp 22), none⟩,
     ⟨(some 11), .mv (.tmp 23), none⟩])
  (.seq (.reg [⟨(some 25), .mv (.tmp 9), none⟩,
     ⟨(some 26), .mv (.tmp 2), none⟩,
     ⟨(some 27), .clo (.tmp 25) [(.tmp 26)], none⟩,
     ⟨(some 28), .mv (.tmp 9), none⟩,
     ⟨(some 29), .mv (.tmp 3), none⟩,
     ⟨(some 30), .clo (.tmp 28) [(.tmp 29)], none⟩,
     ⟨(some 31), .call 81 [(.tmp 27), (.tmp 30)], none⟩,
     ⟨(some 24), .mv (.tmp 31), none⟩,
     ⟨(some 32), .xt 0 (.tmp 24), none⟩,
     ⟨(some 33), .xt 1 (.tmp 24), none⟩,
     ⟨(some 12), .mv (.tmp 32), none⟩,
     ⟨(some 13), .mv (.tmp 33), none⟩])
  (.seq (.reg [⟨(some 34), .mv (.tmp 10), none⟩,
     ⟨(some 35), .mv (.tmp 12), none⟩,
     ⟨(some 36), .bin .lss (.tmp 34) (.tmp 35), none⟩,
     ⟨(some 37), .mv (.tmp 36), none⟩,
     ⟨(some 38), .mv (.tmp 10), (some (37, false))⟩,
     ⟨(some 39), .mv (.tmp 12), (some (37, false))⟩,
     ⟨(some 40), .bin .eql (.tmp 38) (.tmp 39), (some (37, false))⟩,
     ⟨(some 41), .mv (.tmp 40), (some (37, false))⟩,
     ⟨(some 42), .mv (.tmp 11), (some (41, true))⟩,
     ⟨(some 43), .mv (.tmp 13), (some (41, true))⟩,
     ⟨(some 44), .bin .leq (.tmp 42) (.tmp 43), (some (41, true))⟩,
     ⟨(some 45), .pk (.tmp 41) (.tmp 44) (.const (.bool false)), (some (37, false))⟩,
     ⟨(some 46), .pk (.tmp 37) (.const (.bool true)) (.tmp 45), none⟩,
     ⟨(some 8), .mv (.tmp 46), none⟩])
  .ret)))))
def plane_within.f (a0 : Int) (b1 : Int) (c2 : Int) (d3 : Int) : Option (Bool) := (plane_within_1.f a0).bind fun t351 => ((plane_within_1.f b1).bind fun t353 => ((bits_Mul64.f t351 t353).bind fun (t355, t356) => ((plane_within_1.f c2).bind fun t358 => ((plane_within_1.f d3).bind fun t360 => ((bits_Mul64.f t358 t360).bind fun (t362, t363) => (if t355 < t362 then (some true) else (if t355 = t362 then (some (decide (t356 ≤ t363))) else (some false))))))))
theorem plane_within.ok {S : Seal} {a0 : Int} {b1 : Int} {c2 : Int} {d3 : Int} {r0_ : Bool}(e : plane_within.f a0 b1 c2 d3 = some r0_) :
    Cal Try.prog 105 [.int .i64 a0, .int .i64 b1, .int .i64 c2, .int .i64 d3] [] S fun v H' S' => v = .bool r0_ ∧ H' = [] ∧ S' = S := by
  unfold plane_within.f at e
  refine cal_of (c := c105) (N := 47) Try.func105 rfl rfl (by kernel_rfl) (rs := [.t 8]) (by kernel_rfl) (Nat.le_of_ble_eq_true rfl) ?_
  unfold c105
  refine w_seq ?_
  refine w_reg fun all => ?_
  refine t_qz 1 [0, 1, 2, 3] (σ' := [(0, .int .i64 a0), (1, .int .i64 b1), (2, .int .i64 c2), (3, .int .i64 d3)]) (by kernel_rfl) ?_
  refine t_end ?_
  show W _ _ _ _ _ _ _
  refine w_seq ?_
  refine w_reg fun all => ?_
  refine t_qz 1 [0, 1, 2, 3, 9] (σ' := [(0, .int .i64 a0), (1, .int .i64 b1), (2, .int .i64 c2), (3, .int .i64 d3), (9, .func (.func 117) #[] #[])]) (by kernel_rfl) ?_
  refine t_end ?_
  show W _ _ _ _ _ _ _
  refine w_seq ?_
  refine w_reg fun all => ?_
  obtain ⟨t351, h352, e⟩ := bind_of e
  refine t_qz 2 [1, 2, 3, 9, 15, 16] (σ' := [(1, .int .i64 b1), (2, .int .i64 c2), (3, .int .i64 d3), (9, .func (.func 117) #[] #[]), (15, .func (.func 117) #[] #[]), (16, .int .i64 a0)]) (by kernel_rfl) ?_
  refine t_v (.clor (vs := [.int .i64 a0]) (caps := #[]) (A := ([] : List Own)) (F0 := ([] : List Own)) rfl rfl rfl (by kernel_rfl) (by kernel_rfl) (sel_perm (is := []) (by kernel_rfl)) (plane_within_1.ok h352)) ?_
  obtain ⟨t353, h354, e⟩ := bind_of e
  refine t_qz 2 [2, 3, 9, 17, 18, 19] (σ' := [(2, .int .i64 c2), (3, .int .i64 d3), (9, .func (.func 117) #[] #[]), (17, .int .u64 t351), (18, .func (.func 117) #[] #[]), (19, .int .i64 b1)]) (by kernel_rfl) ?_
  refine t_v (.clor (vs := [.int .i64 b1]) (caps := #[]) (A := ([] : List Own)) (F0 := ([] : List Own)) rfl rfl rfl (by kernel_rfl) (by kernel_rfl) (sel_perm (is := []) (by kernel_rfl)) (plane_within_1.ok h354)) ?_
  obtain ⟨⟨t355, t356⟩, h357, e⟩ := bind_of e
  try dsimp only at e
  refine t_v (.call (vs := [.int .u64 t351, .int .u64 t353]) rfl rfl (by kernel_rfl) (bits_Mul64.ok h357)) ?_
  refine t_qz 5 [2, 3, 9, 10, 11] (σ' := [(2, .int .i64 c2), (3, .int .i64 d3), (9, .func (.func 117) #[] #[]), (10, .int .u64 t355), (11, .int .u64 t356)]) (by kernel_rfl) ?_
  refine t_end ?_
  show W _ _ _ _ _ _ _
  refine w_seq ?_
  refine w_reg fun all => ?_
  obtain ⟨t358, h359, e⟩ := bind_of e
  refine t_qz 2 [3, 9, 10, 11, 25, 26] (σ' := [(3, .int .i64 d3), (9, .func (.func 117) #[] #[]), (10, .int .u64 t355), (11, .int .u64 t356), (25, .func (.func 117) #[] #[]), (26, .int .i64 c2)]) (by kernel_rfl) ?_
  refine t_v (.clor (vs := [.int .i64 c2]) (caps := #[]) (A := ([] : List Own)) (F0 := ([] : List Own)) rfl rfl rfl (by kernel_rfl) (by kernel_rfl) (sel_perm (is := []) (by kernel_rfl)) (plane_within_1.ok h359)) ?_
  obtain ⟨t360, h361, e⟩ := bind_of e
  refine t_qz 2 [10, 11, 27, 28, 29] (σ' := [(10, .int .u64 t355), (11, .int .u64 t356), (27, .int .u64 t358), (28, .func (.func 117) #[] #[]), (29, .int .i64 d3)]) (by kernel_rfl) ?_
  refine t_v (.clor (vs := [.int .i64 d3]) (caps := #[]) (A := ([] : List Own)) (F0 := ([] : List Own)) rfl rfl rfl (by kernel_rfl) (by kernel_rfl) (sel_perm (is := []) (by kernel_rfl)) (plane_within_1.ok h361)) ?_
  obtain ⟨⟨t362, t363⟩, h364, e⟩ := bind_of e
  try dsimp only at e
  refine t_v (.call (vs := [.int .u64 t358, .int .u64 t360]) rfl rfl (by kernel_rfl) (bits_Mul64.ok h364)) ?_
  refine t_qz 5 [10, 11, 12, 13] (σ' := [(10, .int .u64 t355), (11, .int .u64 t356), (12, .int .u64 t362), (13, .int .u64 t363)]) (by kernel_rfl) ?_
  refine t_end ?_
  show W _ _ _ _ _ _ _
  refine w_seq ?_
  refine w_reg fun all => ?_
  by_cases c365 : t355 < t362
  · rw [if_pos c365] at e
    have c365b : (decide (t355 < t362)) = true := decide_eq_true c365
    refine t_qz 2 [10, 11, 12, 13, 34, 35] (σ' := [(10, .int .u64 t355), (11, .int .u64 t356), (12, .int .u64 t362), (13, .int .u64 t363), (34, .int .u64 t355), (35, .int .u64 t362)]) (by kernel_rfl) ?_
    refine t_v (dv_quiet rfl (congrArg (fun t => some (Value.bool t)) c365b)) ?_
    refine t_qz 11 [8] (σ' := [(8, .bool true)]) (by kernel_rfl) ?_
    refine t_end ?_
    show W _ _ _ _ _ _ _
    refine w_ret ?_
    obtain rfl := Option.some.inj e
    exact ⟨[.bool true], [], S, ⟨rfl, trivial⟩, VS.none, rfl, rfl, rfl⟩
  · rw [if_neg c365] at e
    have c365b : (decide (t355 < t362)) = false := decide_eq_false c365
    refine t_qz 2 [10, 11, 12, 13, 34, 35] (σ' := [(10, .int .u64 t355), (11, .int .u64 t356), (12, .int .u64 t362), (13, .int .u64 t363), (34, .int .u64 t355), (35, .int .u64 t362)]) (by kernel_rfl) ?_
    refine t_v (dv_quiet rfl (congrArg (fun t => some (Value.bool t)) c365b)) ?_
    by_cases c366 : t355 = t362
    · rw [if_pos c366] at e
      have c366b : (t355 == t362) = true := beq_iff_eq.mpr c366
      refine t_qz 3 [11, 13, 37, 38, 39] (σ' := [(11, .int .u64 t356), (13, .int .u64 t363), (37, .bool false), (38, .int .u64 t355), (39, .int .u64 t362)]) (by kernel_rfl) ?_
      refine t_v (dv_quiet rfl (congrArg (fun t => some (Value.bool t)) c366b)) ?_
      refine t_qz 7 [8] (σ' := [(8, .bool (decide (t356 ≤ t363)))]) (by kernel_rfl) ?_
      refine t_end ?_
      show W _ _ _ _ _ _ _
      refine w_ret ?_
      obtain rfl := Option.some.inj e
      exact ⟨[.bool (decide (t356 ≤ t363))], [], S, ⟨rfl, trivial⟩, VS.none, rfl, rfl, rfl⟩
    · rw [if_neg c366] at e
      have c366b : (t355 == t362) = false := beq_eq_false_iff_ne.mpr c366
      refine t_qz 3 [11, 13, 37, 38, 39] (σ' := [(11, .int .u64 t356), (13, .int .u64 t363), (37, .bool false), (38, .int .u64 t355), (39, .int .u64 t362)]) (by kernel_rfl) ?_
      refine t_v (dv_quiet rfl (congrArg (fun t => some (Value.bool t)) c366b)) ?_
      refine t_qz 7 [8] (σ' := [(8, .bool false)]) (by kernel_rfl) ?_
      refine t_end ?_
      show W _ _ _ _ _ _ _
      refine w_ret ?_
      obtain rfl := Option.some.inj e
      exact ⟨[.bool false], [], S, ⟨rfl, trivial⟩, VS.none, rfl, rfl, rfl⟩

/-- plane.Near -/
def c65 : C :=
  (.seq (.reg [⟨(some 4), .box (.tmp 0), none⟩,
     ⟨(some 5), .box (.tmp 1), none⟩,
     ⟨(some 6), .box (.tmp 2), none⟩,
     ⟨(some 8), .mv (.const (.bool false)), none⟩])
  (.seq (.drw [⟨(some 12), .ld (some 2) (.tmp 4), none⟩,
     ⟨(some 13), .ld (some 2) (.tmp 5), none⟩,
     ⟨(some 14), .ld (some 2) (.tmp 6), none⟩,
     ⟨(some 15), .call 104 [(.tmp 12), (.tmp 13), (.tmp 14)], none⟩,
     ⟨(some 16), .ld (some 2) (.tmp 4), none⟩,
     ⟨(some 17), .ld (some 2) (.tmp 5), none⟩,
     ⟨(some 18), .call 90 [(.tmp 16), (.tmp 17)], none⟩,
     ⟨(some 9), .mv (.tmp 15), none⟩,
     ⟨(some 10), .mv (.tmp 18), none⟩] [[], [], [], [0, 1, 2], [], [], [4, 5, 3], [3, 6, 0, 1, 2, 3], [6, 7, 0, 1, 2, 3, 4, 5, 6, 7]])
  (.seq (.block 0 (.seq (.reg [⟨(some 20), .mv (.tmp 9), none⟩,
       ⟨(some 21), .bin .leq (.tmp 20) (.const (.int .i64 0)), none⟩,
       ⟨(some 19), .mv (.tmp 21), none⟩])
    (.cond (.tmp 19)
     (.seq (.reg [⟨(some 22), .ld (some 2) (.tmp 4), none⟩,
         ⟨(some 23), .ld (some 2) (.tmp 6), none⟩,
         ⟨(some 24), .call 90 [(.tmp 22), (.tmp 23)], none⟩,
         ⟨(some 25), .mv (.tmp 3), none⟩,
         ⟨(some 26), .mv (.tmp 3), none⟩,
         ⟨(some 27), .call 105 [(.const (.int .i64 4)), (.tmp 24), (.tmp 25), (.tmp 26)], none⟩,
         ⟨(some 8), .mv (.tmp 27), none⟩])
      .ret)
     (.seq (.reg [⟨(some 29), .mv (.tmp 9), none⟩,
         ⟨(some 30), .mv (.tmp 10), none⟩,
         ⟨(some 31), .bin .geq (.tmp 29) (.tmp 30), none⟩,
         ⟨(some 28), .mv (.tmp 31), none⟩])
      (.cond (.tmp 28)
       (.seq (.reg [⟨(some 32), .ld (some 2) (.tmp 5), none⟩,
           ⟨(some 33), .ld (some 2) (.tmp 6), none⟩,
           ⟨(some 34), .call 90 [(.tmp 32), (.tmp 33)], none⟩,
           ⟨(some 35), .mv (.tmp 3), none⟩,
           ⟨(some 36), .mv (.tmp 3), none⟩,
           ⟨(some 37), .call 105 [(.const (.int .i64 4)), (.tmp 34), (.tmp 35), (.tmp 36)], none⟩,
           ⟨(some 8), .mv (.tmp 37), none⟩])
        .ret)
       .skip)))))
  (.seq (.reg [⟨(some 38), .ld (some 2) (.tmp 4), none⟩,
     ⟨(some 39), .ld (some 2) (.tmp 5), none⟩,
     ⟨(some 40), .ld (some 2) (.tmp 6), none⟩,
     ⟨(some 41), .call 106 [(.tmp 38), (.tmp 39), (.tmp 40)], none⟩,
     ⟨(some 42), .bin .mul (.const (.int .i64 2)) (.tmp 41), none⟩,
     ⟨(some 11), .mv (.tmp 42), none⟩])
  (.seq (.reg [⟨(some 43), .mv (.tmp 11), none⟩,
     ⟨(some 44), .mv (.tmp 11), none⟩,
     ⟨(some 45), .mv (.tmp 3), none⟩,
     ⟨(some 46), .mv (.tmp 3), none⟩,
     ⟨(some 47), .bin .mul (.tmp 45) (.tmp 46), none⟩,
     ⟨(some 48), .mv (.tmp 10), none⟩,
     ⟨(some 49), .call 105 [(.tmp 43), (.tmp 44), (.tmp 47), (.tmp 48)], none⟩,
     ⟨(some 8), .mv (.tmp 49), none⟩])
  .ret)))))
def plane_Near.f (a0_X : Int) (a0_Y : Int) (b1_X : Int) (b1_Y : Int) (p2_X : Int) (p2_Y : Int) (w3 : Int) : Option (Bool) := (plane_Dot.f a0_X a0_Y b1_X b1_Y p2_X p2_Y).bind fun t344 => ((plane_Len2.f a0_X a0_Y b1_X b1_Y).bind fun t346 => (if t344 ≤ 0 then ((plane_Len2.f a0_X a0_Y p2_X p2_Y).bind fun t349 => ((plane_within.f 4 t349 w3 w3).bind fun t351 => (some t351))) else (if t344 ≥ t346 then ((plane_Len2.f b1_X b1_Y p2_X p2_Y).bind fun t354 => ((plane_within.f 4 t354 w3 w3).bind fun t356 => (some t356))) else ((plane_Cross.f a0_X a0_Y b1_X b1_Y p2_X p2_Y).bind fun t358 => ((plane_within.f (wr64 (2 * t358)) (wr64 (2 * t358)) (wr64 (w3 * w3)) t346).bind fun t360 => (some t360))))))
theorem plane_Near.ok {S : Seal} {a0_X : Int} {a0_Y : Int} {b1_X : Int} {b1_Y : Int} {p2_X : Int} {p2_Y : Int} {w3 : Int} {r0_ : Bool}(e : plane_Near.f a0_X a0_Y b1_X b1_Y p2_X p2_Y w3 = some r0_) :
    Cal Try.prog 65 [.agg #[.int .i64 a0_X, .int .i64 a0_Y], .agg #[.int .i64 b1_X, .int .i64 b1_Y], .agg #[.int .i64 p2_X, .int .i64 p2_Y], .int .i64 w3] [] S fun v H' S' => v = .bool r0_ ∧ H' = [] ∧ S' = S := by
  unfold plane_Near.f at e
  refine cal_of (c := c65) (N := 50) Try.func65 rfl rfl (by kernel_rfl) (rs := [.t 8]) (by kernel_rfl) (Nat.le_of_ble_eq_true rfl) ?_
  unfold c65
  refine w_seq ?_
  refine w_reg fun all => ?_
  refine t_a (.box rfl rfl rfl) fun b341 fb341 sb341 => ?_
  refine t_a (.box rfl rfl rfl) fun b342 fb342 sb342 => ?_
  refine t_a (.box rfl rfl rfl) fun b343 fb343 sb343 => ?_
  refine t_qz 1 [3, 4, 5, 6] (σ' := [(3, .int .i64 w3), (4, .pointer (some ⟨b341, 0, none⟩)), (5, .pointer (some ⟨b342, 0, none⟩)), (6, .pointer (some ⟨b343, 0, none⟩))]) (by kernel_rfl) ?_
  refine t_end ?_
  show W _ _ _ _ _ _ _
  refine w_seq ?_
  obtain ⟨t344, h345, e⟩ := bind_of e
  obtain ⟨t346, h347, e⟩ := bind_of e
  refine w_drwE mixed 9 [.v (.agg #[.int .i64 a0_X, .int .i64 a0_Y]), .v (.agg #[.int .i64 b1_X, .int .i64 b1_Y]), .v (.agg #[.int .i64 p2_X, .int .i64 p2_Y]), .v (.int .i64 t344), .v (.agg #[.int .i64 a0_X, .int .i64 a0_Y]), .v (.agg #[.int .i64 b1_X, .int .i64 b1_Y]), .v (.int .i64 t346), .v (.int .i64 t344), .v (.int .i64 t346)] (by kernel_rfl) ?_ ?_
  · refine .cons (.ldn rfl rfl rfl (.at 2 rfl rfl)) ?_
    refine .cons (.ldn rfl rfl rfl (.at 1 rfl rfl)) ?_
    refine .cons (.ldn rfl rfl rfl (.at 0 rfl rfl)) ?_
    refine .cons (.call (vs := [.agg #[.int .i64 a0_X, .int .i64 a0_Y], .agg #[.int .i64 b1_X, .int .i64 b1_Y], .agg #[.int .i64 p2_X, .int .i64 p2_Y]]) rfl rfl (by kernel_rfl) (plane_Dot.ok h345)) ?_
    refine .cons (.ldn rfl rfl rfl (.at 2 rfl rfl)) ?_
    refine .cons (.ldn rfl rfl rfl (.at 1 rfl rfl)) ?_
    refine .cons (.call (vs := [.agg #[.int .i64 a0_X, .int .i64 a0_Y], .agg #[.int .i64 b1_X, .int .i64 b1_Y]]) rfl rfl (by kernel_rfl) (plane_Len2.ok h347)) ?_
    refine DI.sq 2 (by kernel_rfl) rfl ?_
    exact .nil
  refine fk_q 9 [3, 4, 5, 6, 9, 10] (σ' := [(3, .int .i64 w3), (4, .pointer (some ⟨b341, 0, none⟩)), (5, .pointer (some ⟨b342, 0, none⟩)), (6, .pointer (some ⟨b343, 0, none⟩)), (9, .int .i64 t344), (10, .int .i64 t346)]) t_more (by kernel_rfl) ?_
  refine fk_nil fun all => ?_
  refine t_keep [3, 4, 5, 6, 9, 10] (σ' := [(3, .int .i64 w3), (4, .pointer (some ⟨b341, 0, none⟩)), (5, .pointer (some ⟨b342, 0, none⟩)), (6, .pointer (some ⟨b343, 0, none⟩)), (9, .int .i64 t344), (10, .int .i64 t346)]) (by kernel_rfl) ?_
  refine t_end ?_
  show W _ _ _ _ _ _ _
  refine w_seq ?_
  refine w_block ?_
  refine w_seq ?_
  refine w_reg fun all => ?_
  by_cases c348 : t344 ≤ 0
  · rw [if_pos c348] at e
    have c348b : (decide (t344 ≤ 0)) = true := decide_eq_true c348
    refine t_qz 1 [3, 4, 5, 6, 9, 10, 20] (σ' := [(3, .int .i64 w3), (4, .pointer (some ⟨b341, 0, none⟩)), (5, .pointer (some ⟨b342, 0, none⟩)), (6, .pointer (some ⟨b343, 0, none⟩)), (9, .int .i64 t344), (10, .int .i64 t346), (20, .int .i64 t344)]) (by kernel_rfl) ?_
    refine t_v (dv_quiet rfl (congrArg (fun t => some (Value.bool t)) c348b)) ?_
    refine t_qz 1 [3, 4, 5, 6, 9, 10, 19] (σ' := [(3, .int .i64 w3), (4, .pointer (some ⟨b341, 0, none⟩)), (5, .pointer (some ⟨b342, 0, none⟩)), (6, .pointer (some ⟨b343, 0, none⟩)), (9, .int .i64 t344), (10, .int .i64 t346), (19, .bool true)]) (by kernel_rfl) ?_
    refine t_end ?_
    show W _ _ _ _ _ _ _
    refine w_cond rfl (fun _ => ?_) (fun c_ => by cases c_)
    show W _ _ _ _ _ _ _
    refine w_seq ?_
    refine w_reg fun all => ?_
    refine t_v (.ldn rfl rfl rfl (.at 2 rfl rfl)) ?_
    refine t_v (.ldn rfl rfl rfl (.at 0 rfl rfl)) ?_
    obtain ⟨t349, h350, e⟩ := bind_of e
    refine t_v (.call (vs := [.agg #[.int .i64 a0_X, .int .i64 a0_Y], .agg #[.int .i64 p2_X, .int .i64 p2_Y]]) rfl rfl (by kernel_rfl) (plane_Len2.ok h350)) ?_
    obtain ⟨t351, h352, e⟩ := bind_of e
    refine t_qz 2 [24, 25, 26] (σ' := [(24, .int .i64 t349), (25, .int .i64 w3), (26, .int .i64 w3)]) (by kernel_rfl) ?_
    refine t_v (.call (vs := [.int .i64 4, .int .i64 t349, .int .i64 w3, .int .i64 w3]) rfl rfl (by kernel_rfl) (plane_within.ok h352)) ?_
    refine t_qz 1 [8] (σ' := [(8, .bool t351)]) (by kernel_rfl) ?_
    refine t_end ?_
    show W _ _ _ _ _ _ _
    refine w_ret ?_
    obtain rfl := Option.some.inj e
    exact ⟨[.bool t351], [], S, ⟨rfl, trivial⟩, VS.none, rfl, rfl, rfl⟩
  · rw [if_neg c348] at e
    have c348b : (decide (t344 ≤ 0)) = false := decide_eq_false c348
    refine t_qz 1 [3, 4, 5, 6, 9, 10, 20] (σ' := [(3, .int .i64 w3), (4, .pointer (some ⟨b341, 0, none⟩)), (5, .pointer (some ⟨b342, 0, none⟩)), (6, .pointer (some ⟨b343, 0, none⟩)), (9, .int .i64 t344), (10, .int .i64 t346), (20, .int .i64 t344)]) (by kernel_rfl) ?_
    refine t_v (dv_quiet rfl (congrArg (fun t => some (Value.bool t)) c348b)) ?_
    refine t_qz 1 [3, 4, 5, 6, 9, 10, 19] (σ' := [(3, .int .i64 w3), (4, .pointer (some ⟨b341, 0, none⟩)), (5, .pointer (some ⟨b342, 0, none⟩)), (6, .pointer (some ⟨b343, 0, none⟩)), (9, .int .i64 t344), (10, .int .i64 t346), (19, .bool false)]) (by kernel_rfl) ?_
    refine t_end ?_
    show W _ _ _ _ _ _ _
    refine w_cond rfl (fun c_ => by cases c_) (fun _ => ?_)
    show W _ _ _ _ _ _ _
    refine w_seq ?_
    refine w_reg fun all => ?_
    by_cases c353 : t344 ≥ t346
    · rw [if_pos c353] at e
      have c353b : (decide (t344 ≥ t346)) = true := decide_eq_true c353
      refine t_qz 2 [3, 4, 5, 6, 10, 29, 30] (σ' := [(3, .int .i64 w3), (4, .pointer (some ⟨b341, 0, none⟩)), (5, .pointer (some ⟨b342, 0, none⟩)), (6, .pointer (some ⟨b343, 0, none⟩)), (10, .int .i64 t346), (29, .int .i64 t344), (30, .int .i64 t346)]) (by kernel_rfl) ?_
      refine t_v (dv_quiet rfl (congrArg (fun t => some (Value.bool t)) c353b)) ?_
      refine t_qz 1 [3, 4, 5, 6, 10, 28] (σ' := [(3, .int .i64 w3), (4, .pointer (some ⟨b341, 0, none⟩)), (5, .pointer (some ⟨b342, 0, none⟩)), (6, .pointer (some ⟨b343, 0, none⟩)), (10, .int .i64 t346), (28, .bool true)]) (by kernel_rfl) ?_
      refine t_end ?_
      show W _ _ _ _ _ _ _
      refine w_cond rfl (fun _ => ?_) (fun c_ => by cases c_)
      show W _ _ _ _ _ _ _
      refine w_seq ?_
      refine w_reg fun all => ?_
      refine t_v (.ldn rfl rfl rfl (.at 1 rfl rfl)) ?_
      refine t_v (.ldn rfl rfl rfl (.at 0 rfl rfl)) ?_
      obtain ⟨t354, h355, e⟩ := bind_of e
      refine t_v (.call (vs := [.agg #[.int .i64 b1_X, .int .i64 b1_Y], .agg #[.int .i64 p2_X, .int .i64 p2_Y]]) rfl rfl (by kernel_rfl) (plane_Len2.ok h355)) ?_
      obtain ⟨t356, h357, e⟩ := bind_of e
      refine t_qz 2 [34, 35, 36] (σ' := [(34, .int .i64 t354), (35, .int .i64 w3), (36, .int .i64 w3)]) (by kernel_rfl) ?_
      refine t_v (.call (vs := [.int .i64 4, .int .i64 t354, .int .i64 w3, .int .i64 w3]) rfl rfl (by kernel_rfl) (plane_within.ok h357)) ?_
      refine t_qz 1 [8] (σ' := [(8, .bool t356)]) (by kernel_rfl) ?_
      refine t_end ?_
      show W _ _ _ _ _ _ _
      refine w_ret ?_
      obtain rfl := Option.some.inj e
      exact ⟨[.bool t356], [], S, ⟨rfl, trivial⟩, VS.none, rfl, rfl, rfl⟩
    · rw [if_neg c353] at e
      have c353b : (decide (t344 ≥ t346)) = false := decide_eq_false c353
      refine t_qz 2 [3, 4, 5, 6, 10, 29, 30] (σ' := [(3, .int .i64 w3), (4, .pointer (some ⟨b341, 0, none⟩)), (5, .pointer (some ⟨b342, 0, none⟩)), (6, .pointer (some ⟨b343, 0, none⟩)), (10, .int .i64 t346), (29, .int .i64 t344), (30, .int .i64 t346)]) (by kernel_rfl) ?_
      refine t_v (dv_quiet rfl (congrArg (fun t => some (Value.bool t)) c353b)) ?_
      refine t_qz 1 [3, 4, 5, 6, 10, 28] (σ' := [(3, .int .i64 w3), (4, .pointer (some ⟨b341, 0, none⟩)), (5, .pointer (some ⟨b342, 0, none⟩)), (6, .pointer (some ⟨b343, 0, none⟩)), (10, .int .i64 t346), (28, .bool false)]) (by kernel_rfl) ?_
      refine t_end ?_
      show W _ _ _ _ _ _ _
      refine w_cond rfl (fun c_ => by cases c_) (fun _ => ?_)
      show W _ _ _ _ _ _ _
      refine w_skip ?_
      show W _ _ _ _ _ _ _
      refine w_seq ?_
      refine w_reg fun all => ?_
      refine t_v (.ldn rfl rfl rfl (.at 2 rfl rfl)) ?_
      refine t_v (.ldn rfl rfl rfl (.at 1 rfl rfl)) ?_
      refine t_v (.ldn rfl rfl rfl (.at 0 rfl rfl)) ?_
      obtain ⟨t358, h359, e⟩ := bind_of e
      refine t_v (.call (vs := [.agg #[.int .i64 a0_X, .int .i64 a0_Y], .agg #[.int .i64 b1_X, .int .i64 b1_Y], .agg #[.int .i64 p2_X, .int .i64 p2_Y]]) rfl rfl (by kernel_rfl) (plane_Cross.ok h359)) ?_
      refine t_qz 2 [3, 10, 11] (σ' := [(3, .int .i64 w3), (10, .int .i64 t346), (11, .int .i64 (wr64 (2 * t358)))]) (by kernel_rfl) ?_
      refine t_end ?_
      show W _ _ _ _ _ _ _
      refine w_seq ?_
      refine w_reg fun all => ?_
      obtain ⟨t360, h361, e⟩ := bind_of e
      refine t_qz 6 [43, 44, 47, 48] (σ' := [(43, .int .i64 (wr64 (2 * t358))), (44, .int .i64 (wr64 (2 * t358))), (47, .int .i64 (wr64 (w3 * w3))), (48, .int .i64 t346)]) (by kernel_rfl) ?_
      refine t_v (.call (vs := [.int .i64 (wr64 (2 * t358)), .int .i64 (wr64 (2 * t358)), .int .i64 (wr64 (w3 * w3)), .int .i64 t346]) rfl rfl (by kernel_rfl) (plane_within.ok h361)) ?_
      refine t_qz 1 [8] (σ' := [(8, .bool t360)]) (by kernel_rfl) ?_
      refine t_end ?_
      show W _ _ _ _ _ _ _
      refine w_ret ?_
      obtain rfl := Option.some.inj e
      exact ⟨[.bool t360], [], S, ⟨rfl, trivial⟩, VS.none, rfl, rfl, rfl⟩

/-- stroke.Near$1 -/
def c64 : C :=
  (.seq (.reg [⟨(some 3), .box (.tmp 0), none⟩,
     ⟨(some 4), .mv (.const (.bool false)), none⟩])
  (.seq (.reg [⟨(some 5), .pad 0 (.tmp 3), none⟩,
     ⟨(some 6), .ld (some 2) (.tmp 5), none⟩,
     ⟨(some 7), .pad 2 (.tmp 3), none⟩,
     ⟨(some 8), .ld (some 2) (.tmp 7), none⟩,
     ⟨(some 9), .ld (some 2) (.tmp 1), none⟩,
     ⟨(some 10), .ld none (.tmp 2), none⟩,
     ⟨(some 11), .call 65 [(.tmp 6), (.tmp 8), (.tmp 9), (.tmp 10)], none⟩,
     ⟨(some 4), .mv (.tmp 11), none⟩])
  .ret))
def stroke_Near_1_v1.f (e0_0 : Int) (e0_1 : Int) (e0_2 : Int) (e0_3 : Int) (m0_0 : Int) (m0_1 : Int) (m1_0 : Int) : Option (Bool) := (plane_Near.f e0_0 e0_1 e0_2 e0_3 m0_0 m0_1 m1_0).bind fun t362 => (some t362)
theorem stroke_Near_1_v1.ok {S : Seal} {B0 : Nat} {B1 : Nat} {e0_0 : Int} {e0_1 : Int} {e0_2 : Int} {e0_3 : Int} {m0_0 : Int} {m0_1 : Int} {m1_0 : Int} {r0_ : Bool}(e : stroke_Near_1_v1.f e0_0 e0_1 e0_2 e0_3 m0_0 m0_1 m1_0 = some r0_) :
    Cal Try.prog 64 [.agg #[.int .i64 e0_0, .int .i64 e0_1, .int .i64 e0_2, .int .i64 e0_3], .pointer (some ⟨B0, 0, none⟩), .pointer (some ⟨B1, 0, none⟩)] ([⟨B0, [.int .i64 m0_0, .int .i64 m0_1], 2⟩, ⟨B1, [.int .i64 m1_0], 1⟩] : List Own) S fun v H' S' => v = .bool r0_ ∧ H' = ([⟨B0, [.int .i64 m0_0, .int .i64 m0_1], 2⟩, ⟨B1, [.int .i64 m1_0], 1⟩] : List Own) ∧ S' = S := by
  unfold stroke_Near_1_v1.f at e
  refine cal_of (c := c64) (N := 12) Try.func64 rfl rfl (by kernel_rfl) (rs := [.t 4]) (by kernel_rfl) (Nat.le_of_ble_eq_true rfl) ?_
  unfold c64
  refine w_seq ?_
  refine w_reg fun all => ?_
  refine t_a (.box rfl rfl rfl) fun b340 fb340 sb340 => ?_
  refine t_qz 1 [1, 2, 3] (σ' := [(1, .pointer (some ⟨B0, 0, none⟩)), (2, .pointer (some ⟨B1, 0, none⟩)), (3, .pointer (some ⟨b340, 0, none⟩))]) (by kernel_rfl) ?_
  refine t_end ?_
  show W _ _ _ _ _ _ _
  refine w_seq ?_
  refine w_reg fun all => ?_
  refine t_qz 1 [1, 2, 3, 5] (σ' := [(1, .pointer (some ⟨B0, 0, none⟩)), (2, .pointer (some ⟨B1, 0, none⟩)), (3, .pointer (some ⟨b340, 0, none⟩)), (5, .pointer (some ⟨b340, 0, none⟩))]) (by kernel_rfl) ?_
  refine t_v (.ldn rfl rfl rfl (.at 0 rfl rfl)) ?_
  refine t_qz 1 [1, 2, 6, 7] (σ' := [(1, .pointer (some ⟨B0, 0, none⟩)), (2, .pointer (some ⟨B1, 0, none⟩)), (6, .agg #[.int .i64 e0_0, .int .i64 e0_1]), (7, .pointer (some ⟨b340, 2, none⟩))]) (by kernel_rfl) ?_
  refine t_v (.ldn rfl rfl rfl (.at 0 rfl rfl)) ?_
  refine t_v (.ldn rfl rfl rfl (.at 1 rfl rfl)) ?_
  refine t_v (.ld1 rfl rfl rfl (.at 2 rfl rfl)) ?_
  obtain ⟨t362, h363, e⟩ := bind_of e
  refine t_v (.call (vs := [.agg #[.int .i64 e0_0, .int .i64 e0_1], .agg #[.int .i64 e0_2, .int .i64 e0_3], .agg #[.int .i64 m0_0, .int .i64 m0_1], .int .i64 m1_0]) rfl rfl (by kernel_rfl) (plane_Near.ok h363)) ?_
  refine t_qz 1 [4] (σ' := [(4, .bool t362)]) (by kernel_rfl) ?_
  refine t_end ?_
  show W _ _ _ _ _ _ _
  refine w_ret ?_
  obtain rfl := Option.some.inj e
  exact ⟨[.bool t362], ([⟨B0, [.int .i64 m0_0, .int .i64 m0_1], 2⟩, ⟨B1, [.int .i64 m1_0], 1⟩] : List Own), S, ⟨rfl, trivial⟩, VS.sel [1, 1] (by kernel_rfl), rfl, rfl, rfl⟩

/-- slices.IndexFunc[[]api.Edge,api.Edge] -/
def c103 : C :=
  (.seq (.reg [⟨(some 4), .mv (.const (.int .i64 0)), none⟩])
  (.seq (.seq (.reg [⟨(some 6), .mv (.tmp 0), none⟩,
      ⟨(some 7), .lns (.tmp 6), none⟩,
      ⟨(some 8), .mv (.const (.int .i64 0)), none⟩])
   (.block 0 (.loop (.seq (.reg [⟨(some 9), .bin .lss (.tmp 8) (.tmp 7), none⟩])
     (.seq (.cond (.tmp 9)
       .skip
       (.exit 0))
     (.seq (.block 1 (.seq (.reg [⟨(some 10), .mv (.tmp 8), none⟩,
          ⟨(some 5), .mv (.tmp 10), none⟩])
       (.seq (.reg [⟨(some 11), .mv (.tmp 1), none⟩,
          ⟨(some 12), .mv (.tmp 0), none⟩,
          ⟨(some 13), .mv (.tmp 5), none⟩,
          ⟨(some 14), .ixs 4 (.tmp 12) (.tmp 13), none⟩,
          ⟨(some 15), .ld (some 4) (.tmp 14), none⟩,
          ⟨(some 16), .clo (.tmp 11) [(.tmp 15)], none⟩])
       (.cond (.tmp 16)
        (.seq (.reg [⟨(some 17), .mv (.tmp 5), none⟩,
            ⟨(some 4), .mv (.tmp 17), none⟩])
         .ret)
        .skip))))
     (.reg [⟨(some 18), .bin .add (.tmp 8) (.const (.int .i64 1)), none⟩,
       ⟨(some 8), .mv (.tmp 18), none⟩])))))))
  (.seq (.reg [⟨(some 4), .mv (.const (.int .i64 (-1))), none⟩])
  .ret)))
def api_Edge_v2.l0 : Nat → List (Int × Int × Int × Int) → Int → Int → Int → Int → Option ((Int) ⊕ (Unit))
  | 0, _, _, _, _, _ => none
  | k + 1, s0, m0_0, m0_1, m1_0, x325 => if x325 < (s0.length : Int) then ((lgt s0 x325).bind fun (x327, x328, x329, x330) => ((stroke_Near_1_v1.f x327 x328 x329 x330 m0_0 m0_1 m1_0).bind fun t364 => (if t364 = true then (some (.inl x325)) else (api_Edge_v2.l0 k s0 m0_0 m0_1 m1_0 (wr64 (x325 + 1)))))) else (some (.inr ()))
def api_Edge_v2.f (k : Nat) (s0 : List (Int × Int × Int × Int)) (m0_0 : Int) (m0_1 : Int) (m1_0 : Int) : Option (Int) := (api_Edge_v2.l0 k s0 m0_0 m0_1 m1_0 0 : Option ((Int) ⊕ (Unit))).bind fun s_ => match s_ with | .inl q368 => some q368 | .inr _ => (some (-1))
theorem api_Edge_v2.ok {S : Seal} {B0 : Nat} {B1 : Nat} {k : Nat} {s0 : List (Int × Int × Int × Int)} {m0_0 : Int} {m0_1 : Int} {m1_0 : Int} {r0_ : Int}{a_s0 : Option Addr} {c_s0 : Nat} (h_s0 : SlE S E_i644 s0 a_s0) (e : api_Edge_v2.f k s0 m0_0 m0_1 m1_0 = some r0_) :
    Cal Try.prog 103 [.slice a_s0 s0.length c_s0, .func (.func 64) #[] #[.pointer (some ⟨B0, 0, none⟩), .pointer (some ⟨B1, 0, none⟩)]] ([⟨B0, [.int .i64 m0_0, .int .i64 m0_1], 2⟩, ⟨B1, [.int .i64 m1_0], 1⟩] : List Own) S fun v H' S' => v = .int .i64 r0_ ∧ H' = ([⟨B0, [.int .i64 m0_0, .int .i64 m0_1], 2⟩, ⟨B1, [.int .i64 m1_0], 1⟩] : List Own) ∧ S' = S := by
  unfold api_Edge_v2.f at e
  refine cal_of (c := c103) (N := 19) Try.func103 rfl rfl (by kernel_rfl) (rs := [.t 4]) (by kernel_rfl) (Nat.le_of_ble_eq_true rfl) ?_
  unfold c103
  refine w_seq ?_
  refine w_reg fun all => ?_
  refine t_qz 1 [0, 1] (σ' := [(0, .slice a_s0 s0.length c_s0), (1, .func (.func 64) #[] #[.pointer (some ⟨B0, 0, none⟩), .pointer (some ⟨B1, 0, none⟩)])]) (by kernel_rfl) ?_
  refine t_end ?_
  show W _ _ _ _ _ _ _
  obtain ⟨s324, e323, e⟩ := bind_of e
  refine w_cut [] (fun σ_ H_ S_ => ∃ u_ : Unit, s324 = .inr u_ ∧ [] = σ_ ∧ ([⟨B0, [.int .i64 m0_0, .int .i64 m0_1], 2⟩, ⟨B1, [.int .i64 m1_0], 1⟩] : List Own) = H_ ∧ S = S_) ?_ ?_
  · show W _ _ _ _ _ _ _
    refine w_seq ?_
    refine w_reg fun all => ?_
    refine t_qz 3 [0, 1, 7, 8] (σ' := [(0, .slice a_s0 s0.length c_s0), (1, .func (.func 64) #[] #[.pointer (some ⟨B0, 0, none⟩), .pointer (some ⟨B1, 0, none⟩)]), (7, .int .i64 (s0.length : Int)), (8, .int .i64 0)]) (by kernel_rfl) ?_
    refine t_end ?_
    show W _ _ _ _ _ _ _
    refine w_block ?_
    refine w_kp [0, 1, 7, 8] (σ' := [(0, .slice a_s0 s0.length c_s0), (1, .func (.func 64) #[] #[.pointer (some ⟨B0, 0, none⟩), .pointer (some ⟨B1, 0, none⟩)]), (7, .int .i64 (s0.length : Int)), (8, .int .i64 0)]) (by kernel_rfl) ?_
    refine w_loop (fun n_ σ_ H_ S_ => ∃ (x325 : Int), [(0, .slice a_s0 s0.length c_s0), (1, .func (.func 64) #[] #[.pointer (some ⟨B0, 0, none⟩), .pointer (some ⟨B1, 0, none⟩)]), (7, .int .i64 (s0.length : Int)), (8, .int .i64 x325)] = σ_ ∧ ([⟨B0, [.int .i64 m0_0, .int .i64 m0_1], 2⟩, ⟨B1, [.int .i64 m1_0], 1⟩] : List Own) = H_ ∧ S = S_ ∧ api_Edge_v2.l0 n_ s0 m0_0 m0_1 m1_0 x325 = some s324) _ ⟨0, rfl, rfl, rfl, e323⟩ ?_
    rintro n367 σ_ H_ S_ ⟨x325, rfl, rfl, rfl, e323⟩
    cases n367 with
    | zero => rw [api_Edge_v2.l0.eq_1] at e323; cases e323
    | succ k_ =>
      rw [api_Edge_v2.l0.eq_2] at e323
      refine w_seq ?_
      refine w_reg fun all => ?_
      by_cases c326 : x325 < (s0.length : Int)
      · rw [if_pos c326] at e323
        have c326b : (decide (x325 < (s0.length : Int))) = true := decide_eq_true c326
        refine t_v (dv_quiet rfl (congrArg (fun t => some (Value.bool t)) c326b)) ?_
        refine t_keep [0, 1, 7, 8, 9] (σ' := [(0, .slice a_s0 s0.length c_s0), (1, .func (.func 64) #[] #[.pointer (some ⟨B0, 0, none⟩), .pointer (some ⟨B1, 0, none⟩)]), (7, .int .i64 (s0.length : Int)), (8, .int .i64 x325), (9, .bool true)]) (by kernel_rfl) ?_
        refine t_end ?_
        show W _ _ _ _ _ _ _
        refine w_seq ?_
        refine w_cond rfl (fun _ => ?_) (fun c_ => by cases c_)
        show W _ _ _ _ _ _ _
        refine w_skip ?_
        show W _ _ _ _ _ _ _
        refine w_seq ?_
        refine w_block ?_
        refine w_seq ?_
        refine w_reg fun all => ?_
        refine t_qz 2 [0, 1, 5, 7, 8] (σ' := [(0, .slice a_s0 s0.length c_s0), (1, .func (.func 64) #[] #[.pointer (some ⟨B0, 0, none⟩), .pointer (some ⟨B1, 0, none⟩)]), (5, .int .i64 x325), (7, .int .i64 (s0.length : Int)), (8, .int .i64 x325)]) (by kernel_rfl) ?_
        refine t_end ?_
        show W _ _ _ _ _ _ _
        refine w_seq ?_
        refine w_reg fun all => ?_
        obtain ⟨⟨x327, x328, x329, x330⟩, hx331, e323⟩ := bind_of e323
        try dsimp only at e323
        obtain ⟨lb332, lo333, ll334, la335, lS336, lv337, lz338, lu339⟩ := sle_get (E := E_i644) h_s0 hx331
        refine t_qz 3 [0, 1, 5, 7, 8, 11, 12, 13] (σ' := [(0, .slice a_s0 s0.length c_s0), (1, .func (.func 64) #[] #[.pointer (some ⟨B0, 0, none⟩), .pointer (some ⟨B1, 0, none⟩)]), (5, .int .i64 x325), (7, .int .i64 (s0.length : Int)), (8, .int .i64 x325), (11, .func (.func 64) #[] #[.pointer (some ⟨B0, 0, none⟩), .pointer (some ⟨B1, 0, none⟩)]), (12, .slice a_s0 s0.length c_s0), (13, .int .i64 x325)]) (by kernel_rfl) ?_
        refine t_v (.quiet rfl (ixs_sle rfl rfl la335 lz338 lu339)) ?_
        refine t_v (.ldn (vs := [.int .i64 x327, .int .i64 x328, .int .i64 x329, .int .i64 x330]) rfl rfl rfl (.sealed lS336 (subl_sub lv337 (by kernel_rfl)))) ?_
        obtain ⟨t364, h365, e323⟩ := bind_of e323
        cases t364 with
        | true =>
          rw [if_pos rfl] at e323
          refine t_v (.clor (vs := [.agg #[.int .i64 x327, .int .i64 x328, .int .i64 x329, .int .i64 x330]]) (caps := #[.pointer (some ⟨B0, 0, none⟩), .pointer (some ⟨B1, 0, none⟩)]) (A := ([⟨B0, [.int .i64 m0_0, .int .i64 m0_1], 2⟩, ⟨B1, [.int .i64 m1_0], 1⟩] : List Own)) (F0 := ([] : List Own)) rfl rfl rfl (by kernel_rfl) (by kernel_rfl) (sel_perm (is := [0, 0]) (by kernel_rfl)) (stroke_Near_1_v1.ok h365)) ?_
          refine t_keep [0, 1, 5, 7, 8, 16] (σ' := [(0, .slice a_s0 s0.length c_s0), (1, .func (.func 64) #[] #[.pointer (some ⟨B0, 0, none⟩), .pointer (some ⟨B1, 0, none⟩)]), (5, .int .i64 x325), (7, .int .i64 (s0.length : Int)), (8, .int .i64 x325), (16, .bool true)]) (by kernel_rfl) ?_
          refine t_end ?_
          show W _ _ _ _ _ _ _
          refine w_cond rfl (fun _ => ?_) (fun c_ => by cases c_)
          show W _ _ _ _ _ _ _
          refine w_seq ?_
          refine w_reg fun all => ?_
          refine t_qz 2 [4] (σ' := [(4, .int .i64 x325)]) (by kernel_rfl) ?_
          refine t_end ?_
          show W _ _ _ _ _ _ _
          refine w_ret ?_
          obtain rfl := Option.some.inj e323
          obtain rfl := Option.some.inj e
          exact ⟨[.int .i64 x325], ([⟨B0, [.int .i64 m0_0, .int .i64 m0_1], 2⟩, ⟨B1, [.int .i64 m1_0], 1⟩] : List Own), S, ⟨rfl, trivial⟩, VS.sel [0, 0] (by kernel_rfl), rfl, rfl, rfl⟩
        | false =>
          rw [if_neg (by decide)] at e323
          refine t_v (.clor (vs := [.agg #[.int .i64 x327, .int .i64 x328, .int .i64 x329, .int .i64 x330]]) (caps := #[.pointer (some ⟨B0, 0, none⟩), .pointer (some ⟨B1, 0, none⟩)]) (A := ([⟨B0, [.int .i64 m0_0, .int .i64 m0_1], 2⟩, ⟨B1, [.int .i64 m1_0], 1⟩] : List Own)) (F0 := ([] : List Own)) rfl rfl rfl (by kernel_rfl) (by kernel_rfl) (sel_perm (is := [0, 0]) (by kernel_rfl)) (stroke_Near_1_v1.ok h365)) ?_
          refine t_keep [0, 1, 5, 7, 8, 16] (σ' := [(0, .slice a_s0 s0.length c_s0), (1, .func (.func 64) #[] #[.pointer (some ⟨B0, 0, none⟩), .pointer (some ⟨B1, 0, none⟩)]), (5, .int .i64 x325), (7, .int .i64 (s0.length : Int)), (8, .int .i64 x325), (16, .bool false)]) (by kernel_rfl) ?_
          refine t_end ?_
          show W _ _ _ _ _ _ _
          refine w_cond rfl (fun c_ => by cases c_) (fun _ => ?_)
          show W _ _ _ _ _ _ _
          refine w_skip ?_
          show W _ _ _ _ _ _ _
          refine w_reg fun all => ?_
          refine t_qz 2 [0, 1, 7, 8] (σ' := [(0, .slice a_s0 s0.length c_s0), (1, .func (.func 64) #[] #[.pointer (some ⟨B0, 0, none⟩), .pointer (some ⟨B1, 0, none⟩)]), (7, .int .i64 (s0.length : Int)), (8, .int .i64 (wr64 (x325 + 1)))]) (by kernel_rfl) ?_
          refine t_end ?_
          exact ⟨k_, Nat.lt_succ_self _, [(0, .slice a_s0 s0.length c_s0), (1, .func (.func 64) #[] #[.pointer (some ⟨B0, 0, none⟩), .pointer (some ⟨B1, 0, none⟩)]), (7, .int .i64 (s0.length : Int)), (8, .int .i64 (wr64 (x325 + 1)))], ([⟨B0, [.int .i64 m0_0, .int .i64 m0_1], 2⟩, ⟨B1, [.int .i64 m1_0], 1⟩] : List Own), S, keep_sub [0, 1, 7, 8] (by kernel_rfl), VS.sel [0, 0] (by kernel_rfl), wr64 (x325 + 1), rfl, rfl, rfl, e323⟩
      · rw [if_neg c326] at e323
        have c326b : (decide (x325 < (s0.length : Int))) = false := decide_eq_false c326
        refine t_v (dv_quiet rfl (congrArg (fun t => some (Value.bool t)) c326b)) ?_
        refine t_keep [0, 1, 7, 8, 9] (σ' := [(0, .slice a_s0 s0.length c_s0), (1, .func (.func 64) #[] #[.pointer (some ⟨B0, 0, none⟩), .pointer (some ⟨B1, 0, none⟩)]), (7, .int .i64 (s0.length : Int)), (8, .int .i64 x325), (9, .bool false)]) (by kernel_rfl) ?_
        refine t_end ?_
        show W _ _ _ _ _ _ _
        refine w_seq ?_
        refine w_cond rfl (fun c_ => by cases c_) (fun _ => ?_)
        show W _ _ _ _ _ _ _
        refine w_exit ?_
        obtain rfl := Option.some.inj e323
        exact ⟨([⟨B0, [.int .i64 m0_0, .int .i64 m0_1], 2⟩, ⟨B1, [.int .i64 m1_0], 1⟩] : List Own), S, VS.sel [0, 0] (by kernel_rfl), (), rfl, by kernel_rfl, rfl, rfl⟩
  · rintro σ_ H_ S_ ⟨u_, rfl, rfl, rfl, rfl⟩
    dsimp only at e
    refine w_seq ?_
    refine w_reg fun all => ?_
    refine t_qz 1 [4] (σ' := [(4, .int .i64 (-1))]) (by kernel_rfl) ?_
    refine t_end ?_
    show W _ _ _ _ _ _ _
    refine w_ret ?_
    obtain rfl := Option.some.inj e
    exact ⟨[.int .i64 (-1)], ([⟨B0, [.int .i64 m0_0, .int .i64 m0_1], 2⟩, ⟨B1, [.int .i64 m1_0], 1⟩] : List Own), S, ⟨rfl, trivial⟩, VS.sel [0, 0] (by kernel_rfl), rfl, rfl, rfl⟩

/-- slices.ContainsFunc[[]api.Edge,api.Edge] -/
def c63 : C :=
  (.seq (.reg [⟨(some 4), .mv (.const (.bool false)), none⟩])
  (.seq (.reg [⟨(some 5), .mv (.tmp 0), none⟩,
     ⟨(some 6), .mv (.tmp 1), none⟩,
     ⟨(some 7), .call 103 [(.tmp 5), (.tmp 6)], none⟩,
     ⟨(some 8), .bin .geq (.tmp 7) (.const (.int .i64 0)), none⟩,
     ⟨(some 4), .mv (.tmp 8), none⟩])
  .ret))
def api_Edge_v1.f (k : Nat) (s0 : List (Int × Int × Int × Int)) (m0_0 : Int) (m0_1 : Int) (m1_0 : Int) : Option (Bool) := (api_Edge_v2.f k s0 m0_0 m0_1 m1_0).bind fun t369 => (some (decide (t369 ≥ 0)))
theorem api_Edge_v1.ok {S : Seal} {B0 : Nat} {B1 : Nat} {k : Nat} {s0 : List (Int × Int × Int × Int)} {m0_0 : Int} {m0_1 : Int} {m1_0 : Int} {r0_ : Bool}{a_s0 : Option Addr} {c_s0 : Nat} (h_s0 : SlE S E_i644 s0 a_s0) (e : api_Edge_v1.f k s0 m0_0 m0_1 m1_0 = some r0_) :
    Cal Try.prog 63 [.slice a_s0 s0.length c_s0, .func (.func 64) #[] #[.pointer (some ⟨B0, 0, none⟩), .pointer (some ⟨B1, 0, none⟩)]] ([⟨B0, [.int .i64 m0_0, .int .i64 m0_1], 2⟩, ⟨B1, [.int .i64 m1_0], 1⟩] : List Own) S fun v H' S' => v = .bool r0_ ∧ H' = ([⟨B0, [.int .i64 m0_0, .int .i64 m0_1], 2⟩, ⟨B1, [.int .i64 m1_0], 1⟩] : List Own) ∧ S' = S := by
  unfold api_Edge_v1.f at e
  refine cal_of (c := c63) (N := 9) Try.func63 rfl rfl (by kernel_rfl) (rs := [.t 4]) (by kernel_rfl) (Nat.le_of_ble_eq_true rfl) ?_
  unfold c63
  refine w_seq ?_
  refine w_reg fun all => ?_
  refine t_qz 1 [0, 1] (σ' := [(0, .slice a_s0 s0.length c_s0), (1, .func (.func 64) #[] #[.pointer (some ⟨B0, 0, none⟩), .pointer (some ⟨B1, 0, none⟩)])]) (by kernel_rfl) ?_
  refine t_end ?_
  show W _ _ _ _ _ _ _
  refine w_seq ?_
  refine w_reg fun all => ?_
  obtain ⟨t369, h370, e⟩ := bind_of e
  refine t_qz 2 [5, 6] (σ' := [(5, .slice a_s0 s0.length c_s0), (6, .func (.func 64) #[] #[.pointer (some ⟨B0, 0, none⟩), .pointer (some ⟨B1, 0, none⟩)])]) (by kernel_rfl) ?_
  refine t_v (.callr (vs := [.slice a_s0 s0.length c_s0, .func (.func 64) #[] #[.pointer (some ⟨B0, 0, none⟩), .pointer (some ⟨B1, 0, none⟩)]]) (A := ([⟨B0, [.int .i64 m0_0, .int .i64 m0_1], 2⟩, ⟨B1, [.int .i64 m1_0], 1⟩] : List Own)) (F0 := ([] : List Own)) rfl rfl (by kernel_rfl) (sel_perm (is := [0, 0]) (by kernel_rfl)) (api_Edge_v2.ok h_s0 h370)) ?_
  refine t_qz 2 [4] (σ' := [(4, .bool (decide (t369 ≥ 0)))]) (by kernel_rfl) ?_
  refine t_end ?_
  show W _ _ _ _ _ _ _
  refine w_ret ?_
  obtain rfl := Option.some.inj e
  exact ⟨[.bool (decide (t369 ≥ 0))], ([⟨B0, [.int .i64 m0_0, .int .i64 m0_1], 2⟩, ⟨B1, [.int .i64 m1_0], 1⟩] : List Own), S, ⟨rfl, trivial⟩, VS.sel [0, 0] (by kernel_rfl), rfl, rfl, rfl⟩

/-- stroke.Near -/
def c19 : C :=
  (.seq (.reg [⟨(some 4), .box (.tmp 1), none⟩,
     ⟨(some 5), .box (.tmp 2), none⟩,
     ⟨(some 6), .mv (.const (.bool false)), none⟩])
  (.seq (.reg [⟨(some 7), .mv (.tmp 0), none⟩,
     ⟨(some 8), .mkf 64 [(.tmp 5), (.tmp 4)], none⟩,
     ⟨(some 9), .call 63 [(.tmp 7), (.tmp 8)], none⟩,
     ⟨(some 6), .mv (.tmp 9), none⟩])
  .ret))
def stroke_Near_v1.f (k : Nat) (l0 : List (Int × Int × Int × Int)) (w1 : Int) (p2_0 : Int) (p2_1 : Int) : Option (Bool) := (api_Edge_v1.f k l0 p2_0 p2_1 w1).bind fun t371 => (some t371)
theorem stroke_Near_v1.ok {S : Seal} {k : Nat} {l0 : List (Int × Int × Int × Int)} {w1 : Int} {p2_0 : Int} {p2_1 : Int} {r0_ : Bool}{a_l0 : Option Addr} {c_l0 : Nat} (h_l0 : SlE S E_i644 l0 a_l0) (e : stroke_Near_v1.f k l0 w1 p2_0 p2_1 = some r0_) :
    Cal Try.prog 19 [.slice a_l0 l0.length c_l0, .int .i64 w1, .agg #[.int .i64 p2_0, .int .i64 p2_1]] [] S fun v H' S' => v = .bool r0_ ∧ H' = [] ∧ S' = S := by
  unfold stroke_Near_v1.f at e
  refine cal_of (c := c19) (N := 10) Try.func19 rfl rfl (by kernel_rfl) (rs := [.t 6]) (by kernel_rfl) (Nat.le_of_ble_eq_true rfl) ?_
  unfold c19
  refine w_seq ?_
  refine w_reg fun all => ?_
  refine t_a (.box rfl rfl rfl) fun b320 fb320 sb320 => ?_
  refine t_a (.box rfl rfl rfl) fun b321 fb321 sb321 => ?_
  refine t_qz 1 [0, 4, 5] (σ' := [(0, .slice a_l0 l0.length c_l0), (4, .pointer (some ⟨b320, 0, none⟩)), (5, .pointer (some ⟨b321, 0, none⟩))]) (by kernel_rfl) ?_
  refine t_end ?_
  show W _ _ _ _ _ _ _
  refine w_seq ?_
  refine w_reg fun all => ?_
  obtain ⟨t371, h372, e⟩ := bind_of e
  refine t_qz 2 [7, 8] (σ' := [(7, .slice a_l0 l0.length c_l0), (8, .func (.func 64) #[] #[.pointer (some ⟨b321, 0, none⟩), .pointer (some ⟨b320, 0, none⟩)])]) (by kernel_rfl) ?_
  refine t_v (.callr (vs := [.slice a_l0 l0.length c_l0, .func (.func 64) #[] #[.pointer (some ⟨b321, 0, none⟩), .pointer (some ⟨b320, 0, none⟩)]]) (A := ([⟨b321, [.int .i64 p2_0, .int .i64 p2_1], 2⟩, ⟨b320, [.int .i64 w1], 1⟩] : List Own)) (F0 := ([] : List Own)) rfl rfl (by kernel_rfl) (sel_perm (is := [0, 0]) (by kernel_rfl)) (api_Edge_v1.ok h_l0 h372)) ?_
  refine t_qz 1 [6] (σ' := [(6, .bool t371)]) (by kernel_rfl) ?_
  refine t_end ?_
  show W _ _ _ _ _ _ _
  refine w_ret ?_
  obtain rfl := Option.some.inj e
  exact ⟨[.bool t371], [], S, ⟨rfl, trivial⟩, VS.none, rfl, rfl, rfl⟩

/-- sweep.Line$1 -/
def c86 : C :=
  (.seq (.reg [⟨(some 4), .box (.tmp 1), none⟩,
     ⟨(some 5), .mv (.const (.bool false)), none⟩])
  (.seq (.reg [⟨(some 6), .mv (.tmp 0), none⟩,
     ⟨(some 7), .ld none (.tmp 2), none⟩,
     ⟨(some 8), .ld (some 2) (.tmp 4), none⟩,
     ⟨(some 9), .call 19 [(.tmp 6), (.tmp 7), (.tmp 8)], none⟩,
     ⟨(some 5), .mv (.tmp 9), none⟩])
  .ret))
def sweep_Line_1_v1.f (k : Nat) (l0 : List (Int × Int × Int × Int)) (p1_0 : Int) (p1_1 : Int) (m0_0 : Int) : Option (Bool) := (stroke_Near_v1.f k l0 m0_0 p1_0 p1_1).bind fun t373 => (some t373)
theorem sweep_Line_1_v1.ok {S : Seal} {B0 : Nat} {k : Nat} {l0 : List (Int × Int × Int × Int)} {p1_0 : Int} {p1_1 : Int} {m0_0 : Int} {r0_ : Bool}{a_l0 : Option Addr} {c_l0 : Nat} (h_l0 : SlE S E_i644 l0 a_l0) (e : sweep_Line_1_v1.f k l0 p1_0 p1_1 m0_0 = some r0_) :
    Cal Try.prog 86 [.slice a_l0 l0.length c_l0, .agg #[.int .i64 p1_0, .int .i64 p1_1], .pointer (some ⟨B0, 0, none⟩)] ([⟨B0, [.int .i64 m0_0], 1⟩] : List Own) S fun v H' S' => v = .bool r0_ ∧ H' = ([⟨B0, [.int .i64 m0_0], 1⟩] : List Own) ∧ S' = S := by
  unfold sweep_Line_1_v1.f at e
  refine cal_of (c := c86) (N := 10) Try.func86 rfl rfl (by kernel_rfl) (rs := [.t 5]) (by kernel_rfl) (Nat.le_of_ble_eq_true rfl) ?_
  unfold c86
  refine w_seq ?_
  refine w_reg fun all => ?_
  refine t_a (.box rfl rfl rfl) fun b319 fb319 sb319 => ?_
  refine t_qz 1 [0, 2, 4] (σ' := [(0, .slice a_l0 l0.length c_l0), (2, .pointer (some ⟨B0, 0, none⟩)), (4, .pointer (some ⟨b319, 0, none⟩))]) (by kernel_rfl) ?_
  refine t_end ?_
  show W _ _ _ _ _ _ _
  refine w_seq ?_
  refine w_reg fun all => ?_
  refine t_qz 1 [2, 4, 6] (σ' := [(2, .pointer (some ⟨B0, 0, none⟩)), (4, .pointer (some ⟨b319, 0, none⟩)), (6, .slice a_l0 l0.length c_l0)]) (by kernel_rfl) ?_
  refine t_v (.ld1 rfl rfl rfl (.at 1 rfl rfl)) ?_
  refine t_v (.ldn rfl rfl rfl (.at 0 rfl rfl)) ?_
  obtain ⟨t373, h374, e⟩ := bind_of e
  refine t_v (.call (vs := [.slice a_l0 l0.length c_l0, .int .i64 m0_0, .agg #[.int .i64 p1_0, .int .i64 p1_1]]) rfl rfl (by kernel_rfl) (stroke_Near_v1.ok h_l0 h374)) ?_
  refine t_qz 1 [5] (σ' := [(5, .bool t373)]) (by kernel_rfl) ?_
  refine t_end ?_
  show W _ _ _ _ _ _ _
  refine w_ret ?_
  obtain rfl := Option.some.inj e
  exact ⟨[.bool t373], ([⟨B0, [.int .i64 m0_0], 1⟩] : List Own), S, ⟨rfl, trivial⟩, VS.sel [1] (by kernel_rfl), rfl, rfl, rfl⟩

def sweep_masks_v2.l2 : Nat → Int → Int → Int → List (Int × Int × Int × Int) → Int → Int → List (Int) → Option (List (Int) × Bool)
  | 0, _, _, _, _, _, _, _ => none
  | k + 1, y2, m0_0, x350, t359, x362, x369, y370 => if x369 < (wr64 ((wr64 (x350 + 1)) * 8)) then ((sweep_Sample.f x362 y2 x369).bind fun (t372, t373) => ((sweep_Line_1_v1.f k t359 t372 t373 m0_0).bind fun t375 => (if t375 = true then ((lgt y370 x362).bind fun x377 => (if x369 < 0 then none else ((lgt y370 x362).bind fun x380 => ((lput y370 x362 (bits .or .u64 x377 (wru64 (1 * 2 ^ (min (Int.toNat x369) 64))))).bind fun y382 => (sweep_masks_v2.l2 k y2 m0_0 x350 t359 x362 (wr64 (x369 + 1)) y382))))) else (sweep_masks_v2.l2 k y2 m0_0 x350 t359 x362 (wr64 (x369 + 1)) y370)))) else (some (y370, true))
def sweep_masks_v2.l1 : Nat → Int → Int → Int → Int → List (Int × Int × Int × Int) → Int → List (Int) → Option (List (Int))
  | 0, _, _, _, _, _, _, _ => none
  | k + 1, y2, w3, m0_0, x350, t359, x362, y363 => if x362 < w3 then (if (t359.length : Int) > 0 then ((sweep_masks_v2.l2 k y2 m0_0 x350 t359 x362 (wr64 (x350 * 8)) y363 : Option (List (Int) × Bool)).bind fun (y388, x389) => (sweep_masks_v2.l1 k y2 w3 m0_0 x350 t359 (wr64 (x362 + 1)) y388)) else (some y363)) else (some y363)
def sweep_masks_v2.l0 : Nat → List (Int × Int × Int × Int) → Int → Int → Int → Int → Int → List (Int) → Option (List (Int))
  | 0, _, _, _, _, _, _, _ => none
  | k + 1, l0, wide1, y2, w3, m0_0, x350, y351 => if x350 < 8 then (((sweep_Sample.f 0 y2 (wr64 (x350 * 8))).bind fun (t356, t357) => ((sweep_crossing_v1.f k l0 wide1 t357).bind fun t359 => (sweep_masks_v2.l1 k y2 w3 m0_0 x350 t359 0 y351)) : Option (List (Int))).bind fun y392 => (sweep_masks_v2.l0 k l0 wide1 y2 w3 m0_0 (wr64 (x350 + 1)) y392)) else (some y351)
def sweep_masks_v2.f (k : Nat) (l0 : List (Int × Int × Int × Int)) (wide1 : Int) (y2 : Int) (w3 : Int) (m0_0 : Int) : Option (List (Int)) := if w3 < 1 then (some ([] : List (Int))) else ((lmk (0 : Int) w3 w3).bind fun y344 => ((sweep_masks_v2.l0 k l0 wide1 y2 w3 m0_0 0 y344 : Option (List (Int))).bind fun y395 => (some y395)))
theorem sweep_masks_v2.ok {S : Seal} {B0 : Nat} {k : Nat} {l0 : List (Int × Int × Int × Int)} {wide1 : Int} {y2 : Int} {w3 : Int} {m0_0 : Int} {r0_ : List (Int)}{a_l0 : Option Addr} {c_l0 : Nat} (h_l0 : SlE S E_i644 l0 a_l0) (e : sweep_masks_v2.f k l0 wide1 y2 w3 m0_0 = some r0_) :
    Cal Try.prog 82 [.slice a_l0 l0.length c_l0, .int .i64 wide1, .int .i64 y2, .int .i64 w3, .func (.func 86) #[] #[.pointer (some ⟨B0, 0, none⟩)]] ([⟨B0, [.int .i64 m0_0], 1⟩] : List Own) S fun v H' S' => ∃ (N0_ : Option Nat) (nN0_ : Nat) , v = .slice (ad N0_) r0_.length (nN0_ / 1) ∧ H' = ([⟨N0_, encL E_u64 r0_, nN0_⟩, ⟨B0, [.int .i64 m0_0], 1⟩] : List Own) ∧ S' = S := by
  unfold sweep_masks_v2.f at e
  refine cal_of (c := c82) (N := 67) Try.func82 rfl rfl (by kernel_rfl) (rs := [.t 10]) (by kernel_rfl) (Nat.le_of_ble_eq_true rfl) ?_
  unfold c82
  refine w_seq ?_
  refine w_reg fun all => ?_
  refine t_qz 1 [0, 1, 2, 3, 4] (σ' := [(0, .slice a_l0 l0.length c_l0), (1, .int .i64 wide1), (2, .int .i64 y2), (3, .int .i64 w3), (4, .func (.func 86) #[] #[.pointer (some ⟨B0, 0, none⟩)])]) (by kernel_rfl) ?_
  refine t_end ?_
  show W _ _ _ _ _ _ _
  refine w_seq ?_
  refine w_seq ?_
  refine w_reg fun all => ?_
  by_cases c343 : w3 < 1
  · rw [if_pos c343] at e
    have c343b : (decide (w3 < 1)) = true := decide_eq_true c343
    refine t_qz 1 [0, 1, 2, 3, 4, 16] (σ' := [(0, .slice a_l0 l0.length c_l0), (1, .int .i64 wide1), (2, .int .i64 y2), (3, .int .i64 w3), (4, .func (.func 86) #[] #[.pointer (some ⟨B0, 0, none⟩)]), (16, .int .i64 w3)]) (by kernel_rfl) ?_
    refine t_v (dv_quiet rfl (congrArg (fun t => some (Value.bool t)) c343b)) ?_
    refine t_keep [0, 1, 2, 3, 4, 17] (σ' := [(0, .slice a_l0 l0.length c_l0), (1, .int .i64 wide1), (2, .int .i64 y2), (3, .int .i64 w3), (4, .func (.func 86) #[] #[.pointer (some ⟨B0, 0, none⟩)]), (17, .bool true)]) (by kernel_rfl) ?_
    refine t_end ?_
    show W _ _ _ _ _ _ _
    refine w_cond rfl (fun _ => ?_) (fun c_ => by cases c_)
    show W _ _ _ _ _ _ _
    refine w_seq ?_
    refine w_reg fun all => ?_
    refine t_qz 1 [10] (σ' := [(10, .slice none 0 0)]) (by kernel_rfl) ?_
    refine t_end ?_
    show W _ _ _ _ _ _ _
    refine w_ret ?_
    obtain rfl := Option.some.inj e
    exact ⟨[.slice (ad none) ([] : List (Int)).length (0 / 1)], ([⟨none, encL E_u64 ([] : List (Int)), 0⟩, ⟨B0, [.int .i64 m0_0], 1⟩] : List Own), S, ⟨(show gt _ _ = some _ from (by kernel_rfl)), trivial⟩, VS.trans VS.vac (VS.sel [0, 0] (by kernel_rfl)), none, 0, rfl, rfl, rfl⟩
  · rw [if_neg c343] at e
    have c343b : (decide (w3 < 1)) = false := decide_eq_false c343
    refine t_qz 1 [0, 1, 2, 3, 4, 16] (σ' := [(0, .slice a_l0 l0.length c_l0), (1, .int .i64 wide1), (2, .int .i64 y2), (3, .int .i64 w3), (4, .func (.func 86) #[] #[.pointer (some ⟨B0, 0, none⟩)]), (16, .int .i64 w3)]) (by kernel_rfl) ?_
    refine t_v (dv_quiet rfl (congrArg (fun t => some (Value.bool t)) c343b)) ?_
    refine t_keep [0, 1, 2, 3, 4, 17] (σ' := [(0, .slice a_l0 l0.length c_l0), (1, .int .i64 wide1), (2, .int .i64 y2), (3, .int .i64 w3), (4, .func (.func 86) #[] #[.pointer (some ⟨B0, 0, none⟩)]), (17, .bool false)]) (by kernel_rfl) ?_
    refine t_end ?_
    show W _ _ _ _ _ _ _
    refine w_cond rfl (fun c_ => by cases c_) (fun _ => ?_)
    show W _ _ _ _ _ _ _
    refine w_skip ?_
    show W _ _ _ _ _ _ _
    refine w_seq ?_
    refine w_reg fun all => ?_
    obtain ⟨y344, hl345, e⟩ := bind_of e
    refine t_qz 1 [0, 1, 2, 3, 4, 18] (σ' := [(0, .slice a_l0 l0.length c_l0), (1, .int .i64 wide1), (2, .int .i64 y2), (3, .int .i64 w3), (4, .func (.func 86) #[] #[.pointer (some ⟨B0, 0, none⟩)]), (18, .int .i64 w3)]) (by kernel_rfl) ?_
    refine t_mkl (E := E_u64) (x0 := 0) rfl rfl rfl rfl rfl (by decide) (by decide) rfl hl345 fun a346 na346 => ?_
    refine t_qz 1 [0, 1, 2, 3, 4, 11] (σ' := [(0, .slice a_l0 l0.length c_l0), (1, .int .i64 wide1), (2, .int .i64 y2), (3, .int .i64 w3), (4, .func (.func 86) #[] #[.pointer (some ⟨B0, 0, none⟩)]), (11, .slice (ad (some a346)) y344.length (na346 / 1))]) (by kernel_rfl) ?_
    refine t_end ?_
    show W _ _ _ _ _ _ _
    obtain ⟨y395, e348, e⟩ := bind_of e
    refine w_cut [11] (fun σ_ H_ S_ => [(11, .slice (ad (some a346)) y395.length (na346 / 1))] = σ_ ∧ ([⟨B0, [.int .i64 m0_0], 1⟩, ⟨some a346, encL E_u64 y395, na346⟩] : List Own) = H_ ∧ S = S_) ?_ ?_
    · show W _ _ _ _ _ _ _
      refine w_seq ?_
      refine w_reg fun all => ?_
      refine t_qz 1 [0, 1, 2, 3, 4, 11, 20] (σ' := [(0, .slice a_l0 l0.length c_l0), (1, .int .i64 wide1), (2, .int .i64 y2), (3, .int .i64 w3), (4, .func (.func 86) #[] #[.pointer (some ⟨B0, 0, none⟩)]), (11, .slice (ad (some a346)) y344.length (na346 / 1)), (20, .int .i64 0)]) (by kernel_rfl) ?_
      refine t_end ?_
      show W _ _ _ _ _ _ _
      refine w_block ?_
      refine w_kp [0, 1, 2, 3, 4, 11, 20] (σ' := [(0, .slice a_l0 l0.length c_l0), (1, .int .i64 wide1), (2, .int .i64 y2), (3, .int .i64 w3), (4, .func (.func 86) #[] #[.pointer (some ⟨B0, 0, none⟩)]), (11, .slice (ad (some a346)) y344.length (na346 / 1)), (20, .int .i64 0)]) (by kernel_rfl) ?_
      refine w_loop (fun n_ σ_ H_ S_ => ∃ (x350 : Int) (y351 : List (Int)), [(0, .slice a_l0 l0.length c_l0), (1, .int .i64 wide1), (2, .int .i64 y2), (3, .int .i64 w3), (4, .func (.func 86) #[] #[.pointer (some ⟨B0, 0, none⟩)]), (11, .slice (ad (some a346)) y351.length (na346 / 1)), (20, .int .i64 x350)] = σ_ ∧ ([⟨some a346, encL E_u64 y351, na346⟩, ⟨B0, [.int .i64 m0_0], 1⟩] : List Own) = H_ ∧ S = S_ ∧ sweep_masks_v2.l0 n_ l0 wide1 y2 w3 m0_0 x350 y351 = some y395) _ ⟨0, y344, rfl, rfl, rfl, e348⟩ ?_
      rintro n394 σ_ H_ S_ ⟨x350, y351, rfl, rfl, rfl, e348⟩
      cases n394 with
      | zero => rw [sweep_masks_v2.l0.eq_1] at e348; cases e348
      | succ k_ =>
        rw [sweep_masks_v2.l0.eq_2] at e348
        refine w_seq ?_
        refine w_reg fun all => ?_
        by_cases c352 : x350 < 8
        · rw [if_pos c352] at e348
          have c352b : (decide (x350 < 8)) = true := decide_eq_true c352
          refine t_v (dv_quiet rfl (congrArg (fun t => some (Value.bool t)) c352b)) ?_
          refine t_keep [0, 1, 2, 3, 4, 11, 20, 21] (σ' := [(0, .slice a_l0 l0.length c_l0), (1, .int .i64 wide1), (2, .int .i64 y2), (3, .int .i64 w3), (4, .func (.func 86) #[] #[.pointer (some ⟨B0, 0, none⟩)]), (11, .slice (ad (some a346)) y351.length (na346 / 1)), (20, .int .i64 x350), (21, .bool true)]) (by kernel_rfl) ?_
          refine t_end ?_
          show W _ _ _ _ _ _ _
          refine w_seq ?_
          refine w_cond rfl (fun _ => ?_) (fun c_ => by cases c_)
          show W _ _ _ _ _ _ _
          refine w_skip ?_
          show W _ _ _ _ _ _ _
          obtain ⟨y392, e354, e348⟩ := bind_of e348
          refine w_cut [0, 1, 2, 3, 4, 11, 20] (fun σ_ H_ S_ => [(0, .slice a_l0 l0.length c_l0), (1, .int .i64 wide1), (2, .int .i64 y2), (3, .int .i64 w3), (4, .func (.func 86) #[] #[.pointer (some ⟨B0, 0, none⟩)]), (11, .slice (ad (some a346)) y392.length (na346 / 1)), (20, .int .i64 x350)] = σ_ ∧ ([⟨B0, [.int .i64 m0_0], 1⟩, ⟨some a346, encL E_u64 y392, na346⟩] : List Own) = H_ ∧ S = S_) ?_ ?_
          · show W _ _ _ _ _ _ _
            refine w_block ?_
            refine w_seq ?_
            refine w_reg fun all => ?_
            refine t_qz 2 [0, 1, 2, 3, 4, 11, 12, 20] (σ' := [(0, .slice a_l0 l0.length c_l0), (1, .int .i64 wide1), (2, .int .i64 y2), (3, .int .i64 w3), (4, .func (.func 86) #[] #[.pointer (some ⟨B0, 0, none⟩)]), (11, .slice (ad (some a346)) y351.length (na346 / 1)), (12, .int .i64 x350), (20, .int .i64 x350)]) (by kernel_rfl) ?_
            refine t_end ?_
            show W _ _ _ _ _ _ _
            refine w_seq ?_
            refine w_reg fun all => ?_
            obtain ⟨⟨t356, t357⟩, h358, e354⟩ := bind_of e354
            try dsimp only at e354
            refine t_qz 5 [0, 1, 2, 3, 4, 11, 12, 20, 23, 24, 25, 27] (σ' := [(0, .slice a_l0 l0.length c_l0), (1, .int .i64 wide1), (2, .int .i64 y2), (3, .int .i64 w3), (4, .func (.func 86) #[] #[.pointer (some ⟨B0, 0, none⟩)]), (11, .slice (ad (some a346)) y351.length (na346 / 1)), (12, .int .i64 x350), (20, .int .i64 x350), (23, .slice a_l0 l0.length c_l0), (24, .int .i64 wide1), (25, .int .i64 y2), (27, .int .i64 (wr64 (x350 * 8)))]) (by kernel_rfl) ?_
            refine t_v (.call (vs := [.int .i64 0, .int .i64 y2, .int .i64 (wr64 (x350 * 8))]) rfl rfl (by kernel_rfl) (sweep_Sample.ok h358)) ?_
            obtain ⟨t359, h360, e354⟩ := bind_of e354
            refine t_qz 1 [0, 1, 2, 3, 4, 11, 12, 20, 23, 24, 29] (σ' := [(0, .slice a_l0 l0.length c_l0), (1, .int .i64 wide1), (2, .int .i64 y2), (3, .int .i64 w3), (4, .func (.func 86) #[] #[.pointer (some ⟨B0, 0, none⟩)]), (11, .slice (ad (some a346)) y351.length (na346 / 1)), (12, .int .i64 x350), (20, .int .i64 x350), (23, .slice a_l0 l0.length c_l0), (24, .int .i64 wide1), (29, .int .i64 t357)]) (by kernel_rfl) ?_
            refine t_call (vs := [.slice a_l0 l0.length c_l0, .int .i64 wide1, .int .i64 t357]) (H1 := ([] : List Own)) (F := ([⟨some a346, encL E_u64 y351, na346⟩, ⟨B0, [.int .i64 m0_0], 1⟩] : List Own)) rfl rfl (by kernel_rfl) (sel_perm (is := []) (by kernel_rfl)) (sweep_crossing_v1.ok h_l0 h360) ?_
            rintro _ _ S_ ⟨N361, nN361, rfl, rfl, hS_⟩
            obtain rfl := hS_.symm
            refine t_qz 1 [0, 1, 2, 3, 4, 11, 12, 13, 20] (σ' := [(0, .slice a_l0 l0.length c_l0), (1, .int .i64 wide1), (2, .int .i64 y2), (3, .int .i64 w3), (4, .func (.func 86) #[] #[.pointer (some ⟨B0, 0, none⟩)]), (11, .slice (ad (some a346)) y351.length (na346 / 1)), (12, .int .i64 x350), (13, .slice (ad N361) t359.length (nN361 / 4)), (20, .int .i64 x350)]) (by kernel_rfl) ?_
            refine t_end ?_
            show W _ _ _ _ _ _ _
            refine w_seq ?_
            refine w_reg fun all => ?_
            refine t_qz 1 [0, 1, 2, 3, 4, 11, 12, 13, 14, 20] (σ' := [(0, .slice a_l0 l0.length c_l0), (1, .int .i64 wide1), (2, .int .i64 y2), (3, .int .i64 w3), (4, .func (.func 86) #[] #[.pointer (some ⟨B0, 0, none⟩)]), (11, .slice (ad (some a346)) y351.length (na346 / 1)), (12, .int .i64 x350), (13, .slice (ad N361) t359.length (nN361 / 4)), (14, .int .i64 0), (20, .int .i64 x350)]) (by kernel_rfl) ?_
            refine t_end ?_
            show W _ _ _ _ _ _ _
            refine w_block ?_
            refine w_kp [0, 1, 2, 3, 4, 11, 12, 13, 14, 20] (σ' := [(0, .slice a_l0 l0.length c_l0), (1, .int .i64 wide1), (2, .int .i64 y2), (3, .int .i64 w3), (4, .func (.func 86) #[] #[.pointer (some ⟨B0, 0, none⟩)]), (11, .slice (ad (some a346)) y351.length (na346 / 1)), (12, .int .i64 x350), (13, .slice (ad N361) t359.length (nN361 / 4)), (14, .int .i64 0), (20, .int .i64 x350)]) (by kernel_rfl) ?_
            refine w_loop (fun n_ σ_ H_ S_ => ∃ (x362 : Int) (y363 : List (Int)), [(0, .slice a_l0 l0.length c_l0), (1, .int .i64 wide1), (2, .int .i64 y2), (3, .int .i64 w3), (4, .func (.func 86) #[] #[.pointer (some ⟨B0, 0, none⟩)]), (11, .slice (ad (some a346)) y363.length (na346 / 1)), (12, .int .i64 x350), (13, .slice (ad N361) t359.length (nN361 / 4)), (14, .int .i64 x362), (20, .int .i64 x350)] = σ_ ∧ ([⟨N361, encL E_i644 t359, nN361⟩, ⟨some a346, encL E_u64 y363, na346⟩, ⟨B0, [.int .i64 m0_0], 1⟩] : List Own) = H_ ∧ S = S_ ∧ sweep_masks_v2.l1 n_ y2 w3 m0_0 x350 t359 x362 y363 = some y392) _ ⟨0, y351, rfl, rfl, rfl, e354⟩ ?_
            rintro n391 σ_ H_ S_ ⟨x362, y363, rfl, rfl, rfl, e354⟩
            cases n391 with
            | zero => rw [sweep_masks_v2.l1.eq_1] at e354; cases e354
            | succ k_ =>
              rw [sweep_masks_v2.l1.eq_2] at e354
              refine w_seq ?_
              refine w_seq ?_
              refine w_reg fun all => ?_
              by_cases c364 : x362 < w3
              · rw [if_pos c364] at e354
                have c364b : (decide (x362 < w3)) = true := decide_eq_true c364
                refine t_qz 2 [0, 1, 2, 3, 4, 11, 12, 13, 14, 20, 31, 32] (σ' := [(0, .slice a_l0 l0.length c_l0), (1, .int .i64 wide1), (2, .int .i64 y2), (3, .int .i64 w3), (4, .func (.func 86) #[] #[.pointer (some ⟨B0, 0, none⟩)]), (11, .slice (ad (some a346)) y363.length (na346 / 1)), (12, .int .i64 x350), (13, .slice (ad N361) t359.length (nN361 / 4)), (14, .int .i64 x362), (20, .int .i64 x350), (31, .int .i64 x362), (32, .int .i64 w3)]) (by kernel_rfl) ?_
                refine t_v (dv_quiet rfl (congrArg (fun t => some (Value.bool t)) c364b)) ?_
                by_cases c365 : (t359.length : Int) > 0
                · rw [if_pos c365] at e354
                  have c365b : (decide ((t359.length : Int) > 0)) = true := decide_eq_true c365
                  refine t_qz 3 [0, 1, 2, 3, 4, 11, 12, 13, 14, 20, 34, 35, 36] (σ' := [(0, .slice a_l0 l0.length c_l0), (1, .int .i64 wide1), (2, .int .i64 y2), (3, .int .i64 w3), (4, .func (.func 86) #[] #[.pointer (some ⟨B0, 0, none⟩)]), (11, .slice (ad (some a346)) y363.length (na346 / 1)), (12, .int .i64 x350), (13, .slice (ad N361) t359.length (nN361 / 4)), (14, .int .i64 x362), (20, .int .i64 x350), (34, .bool true), (35, .slice (ad N361) t359.length (nN361 / 4)), (36, .int .i64 (t359.length : Int))]) (by kernel_rfl) ?_
                  refine t_v (dv_quiet rfl (congrArg (fun t => some (Value.bool t)) c365b)) ?_
                  refine t_qz 1 [0, 1, 2, 3, 4, 11, 12, 13, 14, 20, 35, 36, 37, 38] (σ' := [(0, .slice a_l0 l0.length c_l0), (1, .int .i64 wide1), (2, .int .i64 y2), (3, .int .i64 w3), (4, .func (.func 86) #[] #[.pointer (some ⟨B0, 0, none⟩)]), (11, .slice (ad (some a346)) y363.length (na346 / 1)), (12, .int .i64 x350), (13, .slice (ad N361) t359.length (nN361 / 4)), (14, .int .i64 x362), (20, .int .i64 x350), (35, .slice (ad N361) t359.length (nN361 / 4)), (36, .int .i64 (t359.length : Int)), (37, .bool true), (38, .bool true)]) (by kernel_rfl) ?_
                  refine t_end ?_
                  show W _ _ _ _ _ _ _
                  refine w_cond rfl (fun _ => ?_) (fun c_ => by cases c_)
                  show W _ _ _ _ _ _ _
                  refine w_skip ?_
                  show W _ _ _ _ _ _ _
                  obtain ⟨⟨y388, x389⟩, e367, e354⟩ := bind_of e354
                  try dsimp only at e354
                  refine w_cut [0, 1, 2, 3, 4, 11, 12, 13, 14, 20, 35, 36, 37] (fun σ_ H_ S_ => [(0, .slice a_l0 l0.length c_l0), (1, .int .i64 wide1), (2, .int .i64 y2), (3, .int .i64 w3), (4, .func (.func 86) #[] #[.pointer (some ⟨B0, 0, none⟩)]), (11, .slice (ad (some a346)) y388.length (na346 / 1)), (12, .int .i64 x350), (13, .slice (ad N361) t359.length (nN361 / 4)), (14, .int .i64 x362), (20, .int .i64 x350), (35, .slice (ad N361) t359.length (nN361 / 4)), (36, .int .i64 (t359.length : Int)), (37, .bool x389)] = σ_ ∧ ([⟨B0, [.int .i64 m0_0], 1⟩, ⟨some a346, encL E_u64 y388, na346⟩, ⟨N361, encL E_i644 t359, nN361⟩] : List Own) = H_ ∧ S = S_) ?_ ?_
                  · show W _ _ _ _ _ _ _
                    refine w_block ?_
                    refine w_seq ?_
                    refine w_reg fun all => ?_
                    refine t_qz 3 [0, 1, 2, 3, 4, 11, 12, 13, 14, 15, 20, 35, 36, 37] (σ' := [(0, .slice a_l0 l0.length c_l0), (1, .int .i64 wide1), (2, .int .i64 y2), (3, .int .i64 w3), (4, .func (.func 86) #[] #[.pointer (some ⟨B0, 0, none⟩)]), (11, .slice (ad (some a346)) y363.length (na346 / 1)), (12, .int .i64 x350), (13, .slice (ad N361) t359.length (nN361 / 4)), (14, .int .i64 x362), (15, .int .i64 (wr64 (x350 * 8))), (20, .int .i64 x350), (35, .slice (ad N361) t359.length (nN361 / 4)), (36, .int .i64 (t359.length : Int)), (37, .bool true)]) (by kernel_rfl) ?_
                    refine t_end ?_
                    show W _ _ _ _ _ _ _
                    refine w_block ?_
                    refine w_kp [0, 1, 2, 3, 4, 11, 12, 13, 14, 15, 20, 35, 36, 37] (σ' := [(0, .slice a_l0 l0.length c_l0), (1, .int .i64 wide1), (2, .int .i64 y2), (3, .int .i64 w3), (4, .func (.func 86) #[] #[.pointer (some ⟨B0, 0, none⟩)]), (11, .slice (ad (some a346)) y363.length (na346 / 1)), (12, .int .i64 x350), (13, .slice (ad N361) t359.length (nN361 / 4)), (14, .int .i64 x362), (15, .int .i64 (wr64 (x350 * 8))), (20, .int .i64 x350), (35, .slice (ad N361) t359.length (nN361 / 4)), (36, .int .i64 (t359.length : Int)), (37, .bool true)]) (by kernel_rfl) ?_
                    refine w_loop (fun n_ σ_ H_ S_ => ∃ (x369 : Int) (y370 : List (Int)), [(0, .slice a_l0 l0.length c_l0), (1, .int .i64 wide1), (2, .int .i64 y2), (3, .int .i64 w3), (4, .func (.func 86) #[] #[.pointer (some ⟨B0, 0, none⟩)]), (11, .slice (ad (some a346)) y370.length (na346 / 1)), (12, .int .i64 x350), (13, .slice (ad N361) t359.length (nN361 / 4)), (14, .int .i64 x362), (15, .int .i64 x369), (20, .int .i64 x350), (35, .slice (ad N361) t359.length (nN361 / 4)), (36, .int .i64 (t359.length : Int)), (37, .bool true)] = σ_ ∧ ([⟨N361, encL E_i644 t359, nN361⟩, ⟨some a346, encL E_u64 y370, na346⟩, ⟨B0, [.int .i64 m0_0], 1⟩] : List Own) = H_ ∧ S = S_ ∧ sweep_masks_v2.l2 n_ y2 m0_0 x350 t359 x362 x369 y370 = some (y388, x389)) _ ⟨wr64 (x350 * 8), y363, rfl, rfl, rfl, e367⟩ ?_
                    rintro n387 σ_ H_ S_ ⟨x369, y370, rfl, rfl, rfl, e367⟩
                    cases n387 with
                    | zero => rw [sweep_masks_v2.l2.eq_1] at e367; cases e367
                    | succ k_ =>
                      rw [sweep_masks_v2.l2.eq_2] at e367
                      refine w_seq ?_
                      refine w_seq ?_
                      refine w_reg fun all => ?_
                      by_cases c371 : x369 < (wr64 ((wr64 (x350 + 1)) * 8))
                      · rw [if_pos c371] at e367
                        have c371b : (decide (x369 < (wr64 ((wr64 (x350 + 1)) * 8)))) = true := decide_eq_true c371
                        refine t_qz 4 [0, 1, 2, 3, 4, 11, 12, 13, 14, 15, 20, 35, 36, 37, 43, 46] (σ' := [(0, .slice a_l0 l0.length c_l0), (1, .int .i64 wide1), (2, .int .i64 y2), (3, .int .i64 w3), (4, .func (.func 86) #[] #[.pointer (some ⟨B0, 0, none⟩)]), (11, .slice (ad (some a346)) y370.length (na346 / 1)), (12, .int .i64 x350), (13, .slice (ad N361) t359.length (nN361 / 4)), (14, .int .i64 x362), (15, .int .i64 x369), (20, .int .i64 x350), (35, .slice (ad N361) t359.length (nN361 / 4)), (36, .int .i64 (t359.length : Int)), (37, .bool true), (43, .int .i64 x369), (46, .int .i64 (wr64 ((wr64 (x350 + 1)) * 8)))]) (by kernel_rfl) ?_
                        refine t_v (dv_quiet rfl (congrArg (fun t => some (Value.bool t)) c371b)) ?_
                        refine t_keep [0, 1, 2, 3, 4, 11, 12, 13, 14, 15, 20, 35, 36, 37, 47] (σ' := [(0, .slice a_l0 l0.length c_l0), (1, .int .i64 wide1), (2, .int .i64 y2), (3, .int .i64 w3), (4, .func (.func 86) #[] #[.pointer (some ⟨B0, 0, none⟩)]), (11, .slice (ad (some a346)) y370.length (na346 / 1)), (12, .int .i64 x350), (13, .slice (ad N361) t359.length (nN361 / 4)), (14, .int .i64 x362), (15, .int .i64 x369), (20, .int .i64 x350), (35, .slice (ad N361) t359.length (nN361 / 4)), (36, .int .i64 (t359.length : Int)), (37, .bool true), (47, .bool true)]) (by kernel_rfl) ?_
                        refine t_end ?_
                        show W _ _ _ _ _ _ _
                        refine w_cond rfl (fun _ => ?_) (fun c_ => by cases c_)
                        show W _ _ _ _ _ _ _
                        refine w_skip ?_
                        show W _ _ _ _ _ _ _
                        refine w_seq ?_
                        refine w_block ?_
                        refine w_seq ?_
                        refine w_reg fun all => ?_
                        obtain ⟨⟨t372, t373⟩, h374, e367⟩ := bind_of e367
                        try dsimp only at e367
                        refine t_qz 5 [0, 1, 2, 3, 4, 11, 12, 13, 14, 15, 20, 35, 36, 37, 50, 51, 52, 53, 54] (σ' := [(0, .slice a_l0 l0.length c_l0), (1, .int .i64 wide1), (2, .int .i64 y2), (3, .int .i64 w3), (4, .func (.func 86) #[] #[.pointer (some ⟨B0, 0, none⟩)]), (11, .slice (ad (some a346)) y370.length (na346 / 1)), (12, .int .i64 x350), (13, .slice (ad N361) t359.length (nN361 / 4)), (14, .int .i64 x362), (15, .int .i64 x369), (20, .int .i64 x350), (35, .slice (ad N361) t359.length (nN361 / 4)), (36, .int .i64 (t359.length : Int)), (37, .bool true), (50, .func (.func 86) #[] #[.pointer (some ⟨B0, 0, none⟩)]), (51, .slice (ad N361) t359.length (nN361 / 4)), (52, .int .i64 x362), (53, .int .i64 y2), (54, .int .i64 x369)]) (by kernel_rfl) ?_
                        refine t_v (.call (vs := [.int .i64 x362, .int .i64 y2, .int .i64 x369]) rfl rfl (by kernel_rfl) (sweep_Sample.ok h374)) ?_
                        obtain ⟨t375, h376, e367⟩ := bind_of e367
                        cases t375 with
                        | true =>
                          rw [if_pos rfl] at e367
                          refine t_v (.clor (vs := [.slice (ad N361) t359.length (nN361 / 4), .agg #[.int .i64 t372, .int .i64 t373]]) (caps := #[.pointer (some ⟨B0, 0, none⟩)]) (A := ([⟨N361, encL E_i644 t359, nN361⟩, ⟨B0, [.int .i64 m0_0], 1⟩] : List Own)) (F0 := ([⟨some a346, encL E_u64 y370, na346⟩] : List Own)) rfl rfl rfl (by kernel_rfl) (by kernel_rfl) (sel_perm (is := [0, 1]) (by kernel_rfl)) (cal_lendr fun S1_ le1_ hS1_ => (sweep_Line_1_v1.ok (SlE.ofAd (E := E_i644) (L := t359) hS1_ (by decide)) h376))) ?_
                          refine t_keep [0, 1, 2, 3, 4, 11, 12, 13, 14, 15, 20, 35, 36, 37, 56] (σ' := [(0, .slice a_l0 l0.length c_l0), (1, .int .i64 wide1), (2, .int .i64 y2), (3, .int .i64 w3), (4, .func (.func 86) #[] #[.pointer (some ⟨B0, 0, none⟩)]), (11, .slice (ad (some a346)) y370.length (na346 / 1)), (12, .int .i64 x350), (13, .slice (ad N361) t359.length (nN361 / 4)), (14, .int .i64 x362), (15, .int .i64 x369), (20, .int .i64 x350), (35, .slice (ad N361) t359.length (nN361 / 4)), (36, .int .i64 (t359.length : Int)), (37, .bool true), (56, .bool true)]) (by kernel_rfl) ?_
                          refine t_end ?_
                          show W _ _ _ _ _ _ _
                          refine w_cond rfl (fun _ => ?_) (fun c_ => by cases c_)
                          show W _ _ _ _ _ _ _
                          obtain ⟨x377, hx378, e367⟩ := bind_of e367
                          have c379 : ¬ x369 < 0 := by
                            intro h_; rw [if_pos h_] at e367; cases e367
                          rw [if_neg c379] at e367
                          obtain ⟨x380, hx381, e367⟩ := bind_of e367
                          refine w_drwE mixed 8 [.v (.slice (ad (some a346)) y370.length (na346 / 1)), .v (.int .i64 x362), .v (.pointer (some ⟨bk (some a346), (x362).toNat * 1 + 0, none⟩)), .v (.int .u64 x377), .v (.int .i64 x369), .v (.int .u64 (wru64 (1 * 2 ^ (min (Int.toNat x369) 64)))), .v (.int .u64 (bits .or .u64 x377 (wru64 (1 * 2 ^ (min (Int.toNat x369) 64))))), .v (.pointer (some ⟨bk (some a346), (x362).toNat * 1 + 0, none⟩))] (by kernel_rfl) ?_ ?_
                          · refine DI.sq 2 (by kernel_rfl) rfl ?_
                            refine .cons (.quietH rfl (by intro h_; cases h_) (ixl (E := E_u64) (j := 1) rfl rfl rfl (by decide) rfl hx378)) ?_
                            refine .cons (.ld1 rfl rfl rfl (.lst 1 rfl (encL_at (lgt_in hx378).1 rfl))) ?_
                            refine DI.sq 1 (by kernel_rfl) rfl ?_
                            refine .cons (.quiet rfl (qv_shl rfl rfl c379)) ?_
                            refine DI.sq 1 (by kernel_rfl) rfl ?_
                            refine .cons (.quietH rfl (by intro h_; cases h_) (ixl (E := E_u64) (j := 1) rfl rfl rfl (by decide) rfl hx381)) ?_
                            exact .nil
                          refine fk_q 8 [0, 1, 2, 3, 4, 11, 12, 13, 14, 15, 20, 35, 36, 37, 63, 64] (σ' := [(0, .slice a_l0 l0.length c_l0), (1, .int .i64 wide1), (2, .int .i64 y2), (3, .int .i64 w3), (4, .func (.func 86) #[] #[.pointer (some ⟨B0, 0, none⟩)]), (11, .slice (ad (some a346)) y370.length (na346 / 1)), (12, .int .i64 x350), (13, .slice (ad N361) t359.length (nN361 / 4)), (14, .int .i64 x362), (15, .int .i64 x369), (20, .int .i64 x350), (35, .slice (ad N361) t359.length (nN361 / 4)), (36, .int .i64 (t359.length : Int)), (37, .bool true), (63, .int .u64 (bits .or .u64 x377 (wru64 (1 * 2 ^ (min (Int.toNat x369) 64))))), (64, .pointer (some ⟨bk (some a346), (x362).toNat * 1 + 0, none⟩))]) t_more (by kernel_rfl) ?_
                          refine fk_nil fun all => ?_
                          obtain ⟨y382, hl383, e367⟩ := bind_of e367
                          refine t_stl 1 (E := E_u64) (L := y370) (L' := y382) (i := x362) (off := 0) (y0 := x380) (y1 := (bits .or .u64 x377 (wru64 (1 * 2 ^ (min (Int.toNat x369) 64))))) (H' := ([⟨N361, encL E_i644 t359, nN361⟩, ⟨some a346, encL E_u64 y382, na346⟩, ⟨B0, [.int .i64 m0_0], 1⟩] : List Own)) rfl rfl rfl rfl rfl rfl rfl (by decide) rfl hx381 (by kernel_rfl) hl383 rfl ?_
                          refine t_keep [0, 1, 2, 3, 4, 11, 12, 13, 14, 15, 20, 35, 36, 37, 63, 64] (σ' := [(0, .slice a_l0 l0.length c_l0), (1, .int .i64 wide1), (2, .int .i64 y2), (3, .int .i64 w3), (4, .func (.func 86) #[] #[.pointer (some ⟨B0, 0, none⟩)]), (11, .slice (ad (some a346)) y370.length (na346 / 1)), (12, .int .i64 x350), (13, .slice (ad N361) t359.length (nN361 / 4)), (14, .int .i64 x362), (15, .int .i64 x369), (20, .int .i64 x350), (35, .slice (ad N361) t359.length (nN361 / 4)), (36, .int .i64 (t359.length : Int)), (37, .bool true), (63, .int .u64 (bits .or .u64 x377 (wru64 (1 * 2 ^ (min (Int.toNat x369) 64))))), (64, .pointer (some ⟨bk (some a346), (x362).toNat * 1 + 0, none⟩))]) (by kernel_rfl) ?_
                          refine t_eq (σ' := [(0, .slice a_l0 l0.length c_l0), (1, .int .i64 wide1), (2, .int .i64 y2), (3, .int .i64 w3), (4, .func (.func 86) #[] #[.pointer (some ⟨B0, 0, none⟩)]), (11, .slice (ad (some a346)) y382.length (na346 / 1)), (12, .int .i64 x350), (13, .slice (ad N361) t359.length (nN361 / 4)), (14, .int .i64 x362), (15, .int .i64 x369), (20, .int .i64 x350), (35, .slice (ad N361) t359.length (nN361 / 4)), (36, .int .i64 (t359.length : Int)), (37, .bool true), (63, .int .u64 (bits .or .u64 x377 (wru64 (1 * 2 ^ (min (Int.toNat x369) 64))))), (64, .pointer (some ⟨bk (some a346), (x362).toNat * 1 + 0, none⟩))]) (H' := ([⟨N361, encL E_i644 t359, nN361⟩, ⟨some a346, encL E_u64 y382, na346⟩, ⟨B0, [.int .i64 m0_0], 1⟩] : List Own)) (by first | rfl | rw [(lput_is hl383).2]) (by first | rfl | rw [(lput_is hl383).2]) ?_
                          refine t_keep [0, 1, 2, 3, 4, 11, 12, 13, 14, 15, 20, 35, 36, 37] (σ' := [(0, .slice a_l0 l0.length c_l0), (1, .int .i64 wide1), (2, .int .i64 y2), (3, .int .i64 w3), (4, .func (.func 86) #[] #[.pointer (some ⟨B0, 0, none⟩)]), (11, .slice (ad (some a346)) y382.length (na346 / 1)), (12, .int .i64 x350), (13, .slice (ad N361) t359.length (nN361 / 4)), (14, .int .i64 x362), (15, .int .i64 x369), (20, .int .i64 x350), (35, .slice (ad N361) t359.length (nN361 / 4)), (36, .int .i64 (t359.length : Int)), (37, .bool true)]) (by kernel_rfl) ?_
                          refine t_end ?_
                          show W _ _ _ _ _ _ _
                          refine w_reg fun all => ?_
                          refine t_qz 3 [0, 1, 2, 3, 4, 11, 12, 13, 14, 15, 20, 35, 36, 37] (σ' := [(0, .slice a_l0 l0.length c_l0), (1, .int .i64 wide1), (2, .int .i64 y2), (3, .int .i64 w3), (4, .func (.func 86) #[] #[.pointer (some ⟨B0, 0, none⟩)]), (11, .slice (ad (some a346)) y382.length (na346 / 1)), (12, .int .i64 x350), (13, .slice (ad N361) t359.length (nN361 / 4)), (14, .int .i64 x362), (15, .int .i64 (wr64 (x369 + 1))), (20, .int .i64 x350), (35, .slice (ad N361) t359.length (nN361 / 4)), (36, .int .i64 (t359.length : Int)), (37, .bool true)]) (by kernel_rfl) ?_
                          refine t_end ?_
                          exact ⟨k_, Nat.lt_succ_self _, [(0, .slice a_l0 l0.length c_l0), (1, .int .i64 wide1), (2, .int .i64 y2), (3, .int .i64 w3), (4, .func (.func 86) #[] #[.pointer (some ⟨B0, 0, none⟩)]), (11, .slice (ad (some a346)) y382.length (na346 / 1)), (12, .int .i64 x350), (13, .slice (ad N361) t359.length (nN361 / 4)), (14, .int .i64 x362), (15, .int .i64 (wr64 (x369 + 1))), (20, .int .i64 x350), (35, .slice (ad N361) t359.length (nN361 / 4)), (36, .int .i64 (t359.length : Int)), (37, .bool true)], ([⟨N361, encL E_i644 t359, nN361⟩, ⟨some a346, encL E_u64 y382, na346⟩, ⟨B0, [.int .i64 m0_0], 1⟩] : List Own), S, keep_sub [0, 1, 2, 3, 4, 11, 12, 13, 14, 15, 20, 35, 36, 37] (by kernel_rfl), VS.sel [0, 0, 0] (by kernel_rfl), wr64 (x369 + 1), y382, rfl, rfl, rfl, e367⟩
                        | false =>
                          rw [if_neg (by decide)] at e367
                          refine t_v (.clor (vs := [.slice (ad N361) t359.length (nN361 / 4), .agg #[.int .i64 t372, .int .i64 t373]]) (caps := #[.pointer (some ⟨B0, 0, none⟩)]) (A := ([⟨N361, encL E_i644 t359, nN361⟩, ⟨B0, [.int .i64 m0_0], 1⟩] : List Own)) (F0 := ([⟨some a346, encL E_u64 y370, na346⟩] : List Own)) rfl rfl rfl (by kernel_rfl) (by kernel_rfl) (sel_perm (is := [0, 1]) (by kernel_rfl)) (cal_lendr fun S1_ le1_ hS1_ => (sweep_Line_1_v1.ok (SlE.ofAd (E := E_i644) (L := t359) hS1_ (by decide)) h376))) ?_
                          refine t_keep [0, 1, 2, 3, 4, 11, 12, 13, 14, 15, 20, 35, 36, 37, 56] (σ' := [(0, .slice a_l0 l0.length c_l0), (1, .int .i64 wide1), (2, .int .i64 y2), (3, .int .i64 w3), (4, .func (.func 86) #[] #[.pointer (some ⟨B0, 0, none⟩)]), (11, .slice (ad (some a346)) y370.length (na346 / 1)), (12, .int .i64 x350), (13, .slice (ad N361) t359.length (nN361 / 4)), (14, .int .i64 x362), (15, .int .i64 x369), (20, .int .i64 x350), (35, .slice (ad N361) t359.length (nN361 / 4)), (36, .int .i64 (t359.length : Int)), (37, .bool true), (56, .bool false)]) (by kernel_rfl) ?_
                          refine t_end ?_
                          show W _ _ _ _ _ _ _
                          refine w_cond rfl (fun c_ => by cases c_) (fun _ => ?_)
                          show W _ _ _ _ _ _ _
                          refine w_skip ?_
                          show W _ _ _ _ _ _ _
                          refine w_reg fun all => ?_
                          refine t_qz 3 [0, 1, 2, 3, 4, 11, 12, 13, 14, 15, 20, 35, 36, 37] (σ' := [(0, .slice a_l0 l0.length c_l0), (1, .int .i64 wide1), (2, .int .i64 y2), (3, .int .i64 w3), (4, .func (.func 86) #[] #[.pointer (some ⟨B0, 0, none⟩)]), (11, .slice (ad (some a346)) y370.length (na346 / 1)), (12, .int .i64 x350), (13, .slice (ad N361) t359.length (nN361 / 4)), (14, .int .i64 x362), (15, .int .i64 (wr64 (x369 + 1))), (20, .int .i64 x350), (35, .slice (ad N361) t359.length (nN361 / 4)), (36, .int .i64 (t359.length : Int)), (37, .bool true)]) (by kernel_rfl) ?_
                          refine t_end ?_
                          exact ⟨k_, Nat.lt_succ_self _, [(0, .slice a_l0 l0.length c_l0), (1, .int .i64 wide1), (2, .int .i64 y2), (3, .int .i64 w3), (4, .func (.func 86) #[] #[.pointer (some ⟨B0, 0, none⟩)]), (11, .slice (ad (some a346)) y370.length (na346 / 1)), (12, .int .i64 x350), (13, .slice (ad N361) t359.length (nN361 / 4)), (14, .int .i64 x362), (15, .int .i64 (wr64 (x369 + 1))), (20, .int .i64 x350), (35, .slice (ad N361) t359.length (nN361 / 4)), (36, .int .i64 (t359.length : Int)), (37, .bool true)], ([⟨N361, encL E_i644 t359, nN361⟩, ⟨some a346, encL E_u64 y370, na346⟩, ⟨B0, [.int .i64 m0_0], 1⟩] : List Own), S, keep_sub [0, 1, 2, 3, 4, 11, 12, 13, 14, 15, 20, 35, 36, 37] (by kernel_rfl), VS.sel [0, 0, 0] (by kernel_rfl), wr64 (x369 + 1), y370, rfl, rfl, rfl, e367⟩
                      · rw [if_neg c371] at e367
                        have c371b : (decide (x369 < (wr64 ((wr64 (x350 + 1)) * 8)))) = false := decide_eq_false c371
                        refine t_qz 4 [0, 1, 2, 3, 4, 11, 12, 13, 14, 15, 20, 35, 36, 37, 43, 46] (σ' := [(0, .slice a_l0 l0.length c_l0), (1, .int .i64 wide1), (2, .int .i64 y2), (3, .int .i64 w3), (4, .func (.func 86) #[] #[.pointer (some ⟨B0, 0, none⟩)]), (11, .slice (ad (some a346)) y370.length (na346 / 1)), (12, .int .i64 x350), (13, .slice (ad N361) t359.length (nN361 / 4)), (14, .int .i64 x362), (15, .int .i64 x369), (20, .int .i64 x350), (35, .slice (ad N361) t359.length (nN361 / 4)), (36, .int .i64 (t359.length : Int)), (37, .bool true), (43, .int .i64 x369), (46, .int .i64 (wr64 ((wr64 (x350 + 1)) * 8)))]) (by kernel_rfl) ?_
                        refine t_v (dv_quiet rfl (congrArg (fun t => some (Value.bool t)) c371b)) ?_
                        refine t_keep [0, 1, 2, 3, 4, 11, 12, 13, 14, 15, 20, 35, 36, 37, 47] (σ' := [(0, .slice a_l0 l0.length c_l0), (1, .int .i64 wide1), (2, .int .i64 y2), (3, .int .i64 w3), (4, .func (.func 86) #[] #[.pointer (some ⟨B0, 0, none⟩)]), (11, .slice (ad (some a346)) y370.length (na346 / 1)), (12, .int .i64 x350), (13, .slice (ad N361) t359.length (nN361 / 4)), (14, .int .i64 x362), (15, .int .i64 x369), (20, .int .i64 x350), (35, .slice (ad N361) t359.length (nN361 / 4)), (36, .int .i64 (t359.length : Int)), (37, .bool true), (47, .bool false)]) (by kernel_rfl) ?_
                        refine t_end ?_
                        show W _ _ _ _ _ _ _
                        refine w_cond rfl (fun c_ => by cases c_) (fun _ => ?_)
                        show W _ _ _ _ _ _ _
                        refine w_exit ?_
                        simp only [Option.some.injEq, Prod.mk.injEq] at e367
                        obtain ⟨rfl, rfl⟩ := e367
                        exact ⟨([⟨B0, [.int .i64 m0_0], 1⟩, ⟨some a346, encL E_u64 y370, na346⟩, ⟨N361, encL E_i644 t359, nN361⟩] : List Own), S, VS.sel [2, 1, 0] (by kernel_rfl), by kernel_rfl, rfl, rfl⟩
                  · rintro σ_ H_ S_ ⟨rfl, rfl, rfl⟩
                    refine w_reg fun all => ?_
                    refine t_qz 3 [0, 1, 2, 3, 4, 11, 12, 13, 14, 20, 35, 36, 37] (σ' := [(0, .slice a_l0 l0.length c_l0), (1, .int .i64 wide1), (2, .int .i64 y2), (3, .int .i64 w3), (4, .func (.func 86) #[] #[.pointer (some ⟨B0, 0, none⟩)]), (11, .slice (ad (some a346)) y388.length (na346 / 1)), (12, .int .i64 x350), (13, .slice (ad N361) t359.length (nN361 / 4)), (14, .int .i64 (wr64 (x362 + 1))), (20, .int .i64 x350), (35, .slice (ad N361) t359.length (nN361 / 4)), (36, .int .i64 (t359.length : Int)), (37, .bool x389)]) (by kernel_rfl) ?_
                    refine t_end ?_
                    exact ⟨k_, Nat.lt_succ_self _, [(0, .slice a_l0 l0.length c_l0), (1, .int .i64 wide1), (2, .int .i64 y2), (3, .int .i64 w3), (4, .func (.func 86) #[] #[.pointer (some ⟨B0, 0, none⟩)]), (11, .slice (ad (some a346)) y388.length (na346 / 1)), (12, .int .i64 x350), (13, .slice (ad N361) t359.length (nN361 / 4)), (14, .int .i64 (wr64 (x362 + 1))), (20, .int .i64 x350)], ([⟨N361, encL E_i644 t359, nN361⟩, ⟨some a346, encL E_u64 y388, na346⟩, ⟨B0, [.int .i64 m0_0], 1⟩] : List Own), S, keep_sub [0, 1, 2, 3, 4, 11, 12, 13, 14, 20] (by kernel_rfl), VS.sel [2, 1, 0] (by kernel_rfl), wr64 (x362 + 1), y388, rfl, rfl, rfl, e354⟩
                · rw [if_neg c365] at e354
                  have c365b : (decide ((t359.length : Int) > 0)) = false := decide_eq_false c365
                  refine t_qz 3 [0, 1, 2, 3, 4, 11, 12, 13, 14, 20, 34, 35, 36] (σ' := [(0, .slice a_l0 l0.length c_l0), (1, .int .i64 wide1), (2, .int .i64 y2), (3, .int .i64 w3), (4, .func (.func 86) #[] #[.pointer (some ⟨B0, 0, none⟩)]), (11, .slice (ad (some a346)) y363.length (na346 / 1)), (12, .int .i64 x350), (13, .slice (ad N361) t359.length (nN361 / 4)), (14, .int .i64 x362), (20, .int .i64 x350), (34, .bool true), (35, .slice (ad N361) t359.length (nN361 / 4)), (36, .int .i64 (t359.length : Int))]) (by kernel_rfl) ?_
                  refine t_v (dv_quiet rfl (congrArg (fun t => some (Value.bool t)) c365b)) ?_
                  refine t_qz 1 [0, 1, 2, 3, 4, 11, 12, 13, 14, 20, 35, 36, 37, 38] (σ' := [(0, .slice a_l0 l0.length c_l0), (1, .int .i64 wide1), (2, .int .i64 y2), (3, .int .i64 w3), (4, .func (.func 86) #[] #[.pointer (some ⟨B0, 0, none⟩)]), (11, .slice (ad (some a346)) y363.length (na346 / 1)), (12, .int .i64 x350), (13, .slice (ad N361) t359.length (nN361 / 4)), (14, .int .i64 x362), (20, .int .i64 x350), (35, .slice (ad N361) t359.length (nN361 / 4)), (36, .int .i64 (t359.length : Int)), (37, .bool false), (38, .bool false)]) (by kernel_rfl) ?_
                  refine t_end ?_
                  show W _ _ _ _ _ _ _
                  refine w_cond rfl (fun c_ => by cases c_) (fun _ => ?_)
                  show W _ _ _ _ _ _ _
                  refine w_exit ?_
                  obtain rfl := Option.some.inj e354
                  exact ⟨([⟨B0, [.int .i64 m0_0], 1⟩, ⟨some a346, encL E_u64 y363, na346⟩] : List Own), S, VS.sel [2, 1] (by kernel_rfl), by kernel_rfl, rfl, rfl⟩
              · rw [if_neg c364] at e354
                have c364b : (decide (x362 < w3)) = false := decide_eq_false c364
                refine t_qz 2 [0, 1, 2, 3, 4, 11, 12, 13, 14, 20, 31, 32] (σ' := [(0, .slice a_l0 l0.length c_l0), (1, .int .i64 wide1), (2, .int .i64 y2), (3, .int .i64 w3), (4, .func (.func 86) #[] #[.pointer (some ⟨B0, 0, none⟩)]), (11, .slice (ad (some a346)) y363.length (na346 / 1)), (12, .int .i64 x350), (13, .slice (ad N361) t359.length (nN361 / 4)), (14, .int .i64 x362), (20, .int .i64 x350), (31, .int .i64 x362), (32, .int .i64 w3)]) (by kernel_rfl) ?_
                refine t_v (dv_quiet rfl (congrArg (fun t => some (Value.bool t)) c364b)) ?_
                refine t_qz 5 [0, 1, 2, 3, 4, 11, 12, 13, 14, 20, 35, 36, 37, 38] (σ' := [(0, .slice a_l0 l0.length c_l0), (1, .int .i64 wide1), (2, .int .i64 y2), (3, .int .i64 w3), (4, .func (.func 86) #[] #[.pointer (some ⟨B0, 0, none⟩)]), (11, .slice (ad (some a346)) y363.length (na346 / 1)), (12, .int .i64 x350), (13, .slice (ad N361) t359.length (nN361 / 4)), (14, .int .i64 x362), (20, .int .i64 x350), (35, .tuple #[]), (36, .tuple #[]), (37, .tuple #[]), (38, .bool false)]) (by kernel_rfl) ?_
                refine t_end ?_
                show W _ _ _ _ _ _ _
                refine w_cond rfl (fun c_ => by cases c_) (fun _ => ?_)
                show W _ _ _ _ _ _ _
                refine w_exit ?_
                obtain rfl := Option.some.inj e354
                exact ⟨([⟨B0, [.int .i64 m0_0], 1⟩, ⟨some a346, encL E_u64 y363, na346⟩] : List Own), S, VS.sel [2, 1] (by kernel_rfl), by kernel_rfl, rfl, rfl⟩
          · rintro σ_ H_ S_ ⟨rfl, rfl, rfl⟩
            refine w_reg fun all => ?_
            refine t_qz 2 [0, 1, 2, 3, 4, 11, 20] (σ' := [(0, .slice a_l0 l0.length c_l0), (1, .int .i64 wide1), (2, .int .i64 y2), (3, .int .i64 w3), (4, .func (.func 86) #[] #[.pointer (some ⟨B0, 0, none⟩)]), (11, .slice (ad (some a346)) y392.length (na346 / 1)), (20, .int .i64 (wr64 (x350 + 1)))]) (by kernel_rfl) ?_
            refine t_end ?_
            exact ⟨k_, Nat.lt_succ_self _, [(0, .slice a_l0 l0.length c_l0), (1, .int .i64 wide1), (2, .int .i64 y2), (3, .int .i64 w3), (4, .func (.func 86) #[] #[.pointer (some ⟨B0, 0, none⟩)]), (11, .slice (ad (some a346)) y392.length (na346 / 1)), (20, .int .i64 (wr64 (x350 + 1)))], ([⟨some a346, encL E_u64 y392, na346⟩, ⟨B0, [.int .i64 m0_0], 1⟩] : List Own), S, keep_sub [0, 1, 2, 3, 4, 11, 20] (by kernel_rfl), VS.sel [1, 0] (by kernel_rfl), wr64 (x350 + 1), y392, rfl, rfl, rfl, e348⟩
        · rw [if_neg c352] at e348
          have c352b : (decide (x350 < 8)) = false := decide_eq_false c352
          refine t_v (dv_quiet rfl (congrArg (fun t => some (Value.bool t)) c352b)) ?_
          refine t_keep [0, 1, 2, 3, 4, 11, 20, 21] (σ' := [(0, .slice a_l0 l0.length c_l0), (1, .int .i64 wide1), (2, .int .i64 y2), (3, .int .i64 w3), (4, .func (.func 86) #[] #[.pointer (some ⟨B0, 0, none⟩)]), (11, .slice (ad (some a346)) y351.length (na346 / 1)), (20, .int .i64 x350), (21, .bool false)]) (by kernel_rfl) ?_
          refine t_end ?_
          show W _ _ _ _ _ _ _
          refine w_seq ?_
          refine w_cond rfl (fun c_ => by cases c_) (fun _ => ?_)
          show W _ _ _ _ _ _ _
          refine w_exit ?_
          obtain rfl := Option.some.inj e348
          exact ⟨([⟨B0, [.int .i64 m0_0], 1⟩, ⟨some a346, encL E_u64 y351, na346⟩] : List Own), S, VS.sel [1, 0] (by kernel_rfl), by kernel_rfl, rfl, rfl⟩
    · rintro σ_ H_ S_ ⟨rfl, rfl, rfl⟩
      refine w_seq ?_
      refine w_reg fun all => ?_
      refine t_qz 2 [10] (σ' := [(10, .slice (ad (some a346)) y395.length (na346 / 1))]) (by kernel_rfl) ?_
      refine t_end ?_
      show W _ _ _ _ _ _ _
      refine w_ret ?_
      obtain rfl := Option.some.inj e
      exact ⟨[.slice (ad (some a346)) y395.length (na346 / 1)], ([⟨some a346, encL E_u64 y395, na346⟩, ⟨B0, [.int .i64 m0_0], 1⟩] : List Own), S, ⟨(show gt _ _ = some _ from (by kernel_rfl)), trivial⟩, VS.sel [1, 0] (by kernel_rfl), some a346, na346, rfl, rfl, rfl⟩

/-- sweep.Line -/
def c45 : C :=
  (.seq (.reg [⟨(some 5), .box (.tmp 1), none⟩,
     ⟨(some 8), .mv (.const (.slice none 0 0)), none⟩])
  (.seq (.reg [⟨(some 9), .mv (.tmp 0), none⟩,
     ⟨(some 10), .ld none (.tmp 5), none⟩,
     ⟨(some 11), .mv (.tmp 2), none⟩,
     ⟨(some 12), .mv (.tmp 3), none⟩,
     ⟨(some 13), .mkf 86 [(.tmp 5)], none⟩,
     ⟨(some 14), .call 82 [(.tmp 9), (.tmp 10), (.tmp 11), (.tmp 12), (.tmp 13)], none⟩,
     ⟨(some 8), .mv (.tmp 14), none⟩])
  .ret))
def sweep_Line_v1.f (k : Nat) (l0 : List (Int × Int × Int × Int)) (wide1 : Int) (y2 : Int) (w3 : Int) : Option (List (Int)) := (sweep_masks_v2.f k l0 wide1 y2 w3 wide1).bind fun t396 => (some t396)
theorem sweep_Line_v1.ok {S : Seal} {k : Nat} {l0 : List (Int × Int × Int × Int)} {wide1 : Int} {y2 : Int} {w3 : Int} {r0_ : List (Int)}{a_l0 : Option Addr} {c_l0 : Nat} (h_l0 : SlE S E_i644 l0 a_l0) (e : sweep_Line_v1.f k l0 wide1 y2 w3 = some r0_) :
    Cal Try.prog 45 [.slice a_l0 l0.length c_l0, .int .i64 wide1, .int .i64 y2, .int .i64 w3] [] S fun v H' S' => ∃ (N0_ : Option Nat) (nN0_ : Nat) , v = .slice (ad N0_) r0_.length (nN0_ / 1) ∧ H' = ([⟨N0_, encL E_u64 r0_, nN0_⟩] : List Own) ∧ S' = S := by
  unfold sweep_Line_v1.f at e
  refine cal_of (c := c45) (N := 15) Try.func45 rfl rfl (by kernel_rfl) (rs := [.t 8]) (by kernel_rfl) (Nat.le_of_ble_eq_true rfl) ?_
  unfold c45
  refine w_seq ?_
  refine w_reg fun all => ?_
  refine t_a (.box rfl rfl rfl) fun b289 fb289 sb289 => ?_
  refine t_qz 1 [0, 2, 3, 5] (σ' := [(0, .slice a_l0 l0.length c_l0), (2, .int .i64 y2), (3, .int .i64 w3), (5, .pointer (some ⟨b289, 0, none⟩))]) (by kernel_rfl) ?_
  refine t_end ?_
  show W _ _ _ _ _ _ _
  refine w_seq ?_
  refine w_reg fun all => ?_
  refine t_qz 1 [2, 3, 5, 9] (σ' := [(2, .int .i64 y2), (3, .int .i64 w3), (5, .pointer (some ⟨b289, 0, none⟩)), (9, .slice a_l0 l0.length c_l0)]) (by kernel_rfl) ?_
  refine t_v (.ld1 rfl rfl rfl (.at 0 rfl rfl)) ?_
  obtain ⟨t396, h397, e⟩ := bind_of e
  refine t_qz 3 [9, 10, 11, 12, 13] (σ' := [(9, .slice a_l0 l0.length c_l0), (10, .int .i64 wide1), (11, .int .i64 y2), (12, .int .i64 w3), (13, .func (.func 86) #[] #[.pointer (some ⟨b289, 0, none⟩)])]) (by kernel_rfl) ?_
  refine t_call (vs := [.slice a_l0 l0.length c_l0, .int .i64 wide1, .int .i64 y2, .int .i64 w3, .func (.func 86) #[] #[.pointer (some ⟨b289, 0, none⟩)]]) (H1 := ([⟨b289, [.int .i64 wide1], 1⟩] : List Own)) (F := ([] : List Own)) rfl rfl (by kernel_rfl) (sel_perm (is := [0]) (by kernel_rfl)) (sweep_masks_v2.ok h_l0 h397) ?_
  rintro _ _ S_ ⟨N398, nN398, rfl, rfl, hS_⟩
  obtain rfl := hS_.symm
  refine t_qz 1 [8] (σ' := [(8, .slice (ad N398) t396.length (nN398 / 1))]) (by kernel_rfl) ?_
  refine t_end ?_
  show W _ _ _ _ _ _ _
  refine w_ret ?_
  obtain rfl := Option.some.inj e
  exact ⟨[.slice (ad N398) t396.length (nN398 / 1)], ([⟨N398, encL E_u64 t396, nN398⟩] : List Own), S, ⟨rfl, trivial⟩, VS.sel [0] (by kernel_rfl), N398, nN398, rfl, rfl, rfl⟩

/-- glyphicref20.Sample -/
def c49 : C :=
  (.seq (.reg [⟨(some 6), .new [(.int .i64 0), (.int .i64 0)], none⟩])
  (.seq (.reg [⟨(some 7), .mv (.tmp 0), none⟩,
     ⟨(some 8), .bin .mul (.tmp 7) (.const (.int .i64 256)), none⟩,
     ⟨(some 9), .mv (.tmp 2), none⟩,
     ⟨(some 10), .bin .rem (.tmp 9) (.const (.int .i64 8)), none⟩,
     ⟨(some 11), .bin .mul (.const (.int .i64 32)) (.tmp 10), none⟩,
     ⟨(some 12), .bin .add (.tmp 8) (.tmp 11), none⟩,
     ⟨(some 13), .bin .add (.tmp 12) (.const (.int .i64 16)), none⟩,
     ⟨(some 14), .mv (.tmp 1), none⟩,
     ⟨(some 15), .bin .mul (.tmp 14) (.const (.int .i64 256)), none⟩,
     ⟨(some 16), .mv (.tmp 2), none⟩,
     ⟨(some 17), .bin .quo (.tmp 16) (.const (.int .i64 8)), none⟩,
     ⟨(some 18), .bin .mul (.const (.int .i64 32)) (.tmp 17), none⟩,
     ⟨(some 19), .bin .add (.tmp 15) (.tmp 18), none⟩,
     ⟨(some 20), .bin .add (.tmp 19) (.const (.int .i64 16)), none⟩,
     ⟨(some 21), .bld [(.int .i64 0), (.int .i64 0)] [(0, 1, (.tmp 13)), (1, 1, (.tmp 20))], none⟩,
     ⟨none, .st 2 (.tmp 6) (.tmp 21), none⟩])
  .ret))
def glyphicref20_Sample.f (x0 : Int) (y1 : Int) (k2 : Int) : Option (Int × Int) := some (wr64 ((wr64 ((wr64 (x0 * 256)) + (wr64 (32 * (Int.tmod k2 8))))) + 16), wr64 ((wr64 ((wr64 (y1 * 256)) + (wr64 (32 * (wr64 (Int.tdiv k2 8)))))) + 16))
theorem glyphicref20_Sample.ok {S : Seal} {x0 : Int} {y1 : Int} {k2 : Int} {r0_ : Int} {r1_ : Int}(e : glyphicref20_Sample.f x0 y1 k2 = some (r0_, r1_)) :
    Cal Try.prog 49 [.int .i64 x0, .int .i64 y1, .int .i64 k2] [] S fun v H' S' => v = .agg #[.int .i64 r0_, .int .i64 r1_] ∧ H' = [] ∧ S' = S := by
  unfold glyphicref20_Sample.f at e
  refine cal_of (c := c49) (N := 22) Try.func49 rfl rfl (by kernel_rfl) (rs := [.cn 2 6]) (by kernel_rfl) (Nat.le_of_ble_eq_true rfl) ?_
  unfold c49
  refine w_seq ?_
  refine w_reg fun all => ?_
  refine t_a (.new rfl rfl) fun b414 fb414 sb414 => ?_
  refine t_keep [0, 1, 2, 6] (σ' := [(0, .int .i64 x0), (1, .int .i64 y1), (2, .int .i64 k2), (6, .pointer (some ⟨b414, 0, none⟩))]) (by kernel_rfl) ?_
  refine t_end ?_
  show W _ _ _ _ _ _ _
  refine w_seq ?_
  refine w_reg fun all => ?_
  refine t_qz 15 [6, 21] (σ' := [(6, .pointer (some ⟨b414, 0, none⟩)), (21, .agg #[.int .i64 (wr64 ((wr64 ((wr64 (x0 * 256)) + (wr64 (32 * (Int.tmod k2 8))))) + 16)), .int .i64 (wr64 ((wr64 ((wr64 (y1 * 256)) + (wr64 (32 * (wr64 (Int.tdiv k2 8)))))) + 16))])]) (by kernel_rfl) ?_
  refine t_sti 0 (cs := [.int .i64 (wr64 ((wr64 ((wr64 (x0 * 256)) + (wr64 (32 * (Int.tmod k2 8))))) + 16)), .int .i64 (wr64 ((wr64 ((wr64 (y1 * 256)) + (wr64 (32 * (wr64 (Int.tdiv k2 8)))))) + 16))]) rfl rfl rfl rfl rfl rfl rfl rfl rfl ?_
  refine t_keep [6] (σ' := [(6, .pointer (some ⟨b414, 0, none⟩))]) (by kernel_rfl) ?_
  refine t_end ?_
  show W _ _ _ _ _ _ _
  refine w_ret ?_
  simp only [Option.some.injEq, Prod.mk.injEq] at e
  obtain ⟨rfl, rfl⟩ := e
  exact ⟨[.agg #[.int .i64 (wr64 ((wr64 ((wr64 (x0 * 256)) + (wr64 (32 * (Int.tmod k2 8))))) + 16)), .int .i64 (wr64 ((wr64 ((wr64 (y1 * 256)) + (wr64 (32 * (wr64 (Int.tdiv k2 8)))))) + 16))]], [], S, ⟨⟨_, _, _, rfl, .at 0 rfl rfl, rfl⟩, trivial⟩, VS.none, rfl, rfl, rfl⟩

/-- glyphicref1.Cross -/
def c80 : C :=
  (.seq (.reg [⟨(some 3), .box (.tmp 0), none⟩,
     ⟨(some 4), .box (.tmp 1), none⟩,
     ⟨(some 5), .box (.tmp 2), none⟩,
     ⟨(some 6), .mv (.const (.int .i64 0)), none⟩])
  (.seq (.reg [⟨(some 7), .pad 0 (.tmp 4), none⟩,
     ⟨(some 8), .ld none (.tmp 7), none⟩,
     ⟨(some 9), .pad 0 (.tmp 3), none⟩,
     ⟨(some 10), .ld none (.tmp 9), none⟩,
     ⟨(some 11), .bin .sub (.tmp 8) (.tmp 10), none⟩,
     ⟨(some 12), .pad 1 (.tmp 5), none⟩,
     ⟨(some 13), .ld none (.tmp 12), none⟩,
     ⟨(some 14), .pad 1 (.tmp 3), none⟩,
     ⟨(some 15), .ld none (.tmp 14), none⟩,
     ⟨(some 16), .bin .sub (.tmp 13) (.tmp 15), none⟩,
     ⟨(some 17), .bin .mul (.tmp 11) (.tmp 16), none⟩,
     ⟨(some 18), .pad 1 (.tmp 4), none⟩,
     ⟨(some 19), .ld none (.tmp 18), none⟩,
     ⟨(some 20), .pad 1 (.tmp 3), none⟩,
     ⟨(some 21), .ld none (.tmp 20), none⟩,
     ⟨(some 22), .bin .sub (.tmp 19) (.tmp 21), none⟩,
     ⟨(some 23), .pad 0 (.tmp 5), none⟩,
     ⟨(some 24), .ld none (.tmp 23), none⟩,
     ⟨(some 25), .pad 0 (.tmp 3), none⟩,
     ⟨(some 26), .ld none (.tmp 25), none⟩,
     ⟨(some 27), .bin .sub (.tmp 24) (.tmp 26), none⟩,
     ⟨(some 28), .bin .mul (.tmp 22) (.tmp 27), none⟩,
     ⟨(some 29), .bin .sub (.tmp 17) (.tmp 28), none⟩,
     ⟨(some 6), .mv (.tmp 29), none⟩])
  .ret))
def glyphicref1_Cross.f (a0_X : Int) (a0_Y : Int) (b1_X : Int) (b1_Y : Int) (p2_X : Int) (p2_Y : Int) : Option (Int) := some (wr64 ((wr64 ((wr64 (b1_X - a0_X)) * (wr64 (p2_Y - a0_Y)))) - (wr64 ((wr64 (b1_Y - a0_Y)) * (wr64 (p2_X - a0_X))))))
theorem glyphicref1_Cross.ok {S : Seal} {a0_X : Int} {a0_Y : Int} {b1_X : Int} {b1_Y : Int} {p2_X : Int} {p2_Y : Int} {r0_ : Int}(e : glyphicref1_Cross.f a0_X a0_Y b1_X b1_Y p2_X p2_Y = some r0_) :
    Cal Try.prog 80 [.agg #[.int .i64 a0_X, .int .i64 a0_Y], .agg #[.int .i64 b1_X, .int .i64 b1_Y], .agg #[.int .i64 p2_X, .int .i64 p2_Y]] [] S fun v H' S' => v = .int .i64 r0_ ∧ H' = [] ∧ S' = S := by
  unfold glyphicref1_Cross.f at e
  refine cal_of (c := c80) (N := 30) Try.func80 rfl rfl (by kernel_rfl) (rs := [.t 6]) (by kernel_rfl) (Nat.le_of_ble_eq_true rfl) ?_
  unfold c80
  refine w_seq ?_
  refine w_reg fun all => ?_
  refine t_a (.box rfl rfl rfl) fun b441 fb441 sb441 => ?_
  refine t_a (.box rfl rfl rfl) fun b442 fb442 sb442 => ?_
  refine t_a (.box rfl rfl rfl) fun b443 fb443 sb443 => ?_
  refine t_qz 1 [3, 4, 5] (σ' := [(3, .pointer (some ⟨b441, 0, none⟩)), (4, .pointer (some ⟨b442, 0, none⟩)), (5, .pointer (some ⟨b443, 0, none⟩))]) (by kernel_rfl) ?_
  refine t_end ?_
  show W _ _ _ _ _ _ _
  refine w_seq ?_
  refine w_reg fun all => ?_
  refine t_qz 1 [3, 4, 5, 7] (σ' := [(3, .pointer (some ⟨b441, 0, none⟩)), (4, .pointer (some ⟨b442, 0, none⟩)), (5, .pointer (some ⟨b443, 0, none⟩)), (7, .pointer (some ⟨b442, 0, none⟩))]) (by kernel_rfl) ?_
  refine t_v (.ld1 rfl rfl rfl (.at 1 rfl rfl)) ?_
  refine t_qz 1 [3, 4, 5, 8, 9] (σ' := [(3, .pointer (some ⟨b441, 0, none⟩)), (4, .pointer (some ⟨b442, 0, none⟩)), (5, .pointer (some ⟨b443, 0, none⟩)), (8, .int .i64 b1_X), (9, .pointer (some ⟨b441, 0, none⟩))]) (by kernel_rfl) ?_
  refine t_v (.ld1 rfl rfl rfl (.at 2 rfl rfl)) ?_
  refine t_qz 2 [3, 4, 5, 11, 12] (σ' := [(3, .pointer (some ⟨b441, 0, none⟩)), (4, .pointer (some ⟨b442, 0, none⟩)), (5, .pointer (some ⟨b443, 0, none⟩)), (11, .int .i64 (wr64 (b1_X - a0_X))), (12, .pointer (some ⟨b443, 1, none⟩))]) (by kernel_rfl) ?_
  refine t_v (.ld1 rfl rfl rfl (.at 0 rfl rfl)) ?_
  refine t_qz 1 [3, 4, 5, 11, 13, 14] (σ' := [(3, .pointer (some ⟨b441, 0, none⟩)), (4, .pointer (some ⟨b442, 0, none⟩)), (5, .pointer (some ⟨b443, 0, none⟩)), (11, .int .i64 (wr64 (b1_X - a0_X))), (13, .int .i64 p2_Y), (14, .pointer (some ⟨b441, 1, none⟩))]) (by kernel_rfl) ?_
  refine t_v (.ld1 rfl rfl rfl (.at 2 rfl rfl)) ?_
  refine t_qz 3 [3, 5, 17, 18] (σ' := [(3, .pointer (some ⟨b441, 0, none⟩)), (5, .pointer (some ⟨b443, 0, none⟩)), (17, .int .i64 (wr64 ((wr64 (b1_X - a0_X)) * (wr64 (p2_Y - a0_Y))))), (18, .pointer (some ⟨b442, 1, none⟩))]) (by kernel_rfl) ?_
  refine t_v (.ld1 rfl rfl rfl (.at 1 rfl rfl)) ?_
  refine t_qz 1 [3, 5, 17, 19, 20] (σ' := [(3, .pointer (some ⟨b441, 0, none⟩)), (5, .pointer (some ⟨b443, 0, none⟩)), (17, .int .i64 (wr64 ((wr64 (b1_X - a0_X)) * (wr64 (p2_Y - a0_Y))))), (19, .int .i64 b1_Y), (20, .pointer (some ⟨b441, 1, none⟩))]) (by kernel_rfl) ?_
  refine t_v (.ld1 rfl rfl rfl (.at 2 rfl rfl)) ?_
  refine t_qz 2 [3, 17, 22, 23] (σ' := [(3, .pointer (some ⟨b441, 0, none⟩)), (17, .int .i64 (wr64 ((wr64 (b1_X - a0_X)) * (wr64 (p2_Y - a0_Y))))), (22, .int .i64 (wr64 (b1_Y - a0_Y))), (23, .pointer (some ⟨b443, 0, none⟩))]) (by kernel_rfl) ?_
  refine t_v (.ld1 rfl rfl rfl (.at 0 rfl rfl)) ?_
  refine t_qz 1 [17, 22, 24, 25] (σ' := [(17, .int .i64 (wr64 ((wr64 (b1_X - a0_X)) * (wr64 (p2_Y - a0_Y))))), (22, .int .i64 (wr64 (b1_Y - a0_Y))), (24, .int .i64 p2_X), (25, .pointer (some ⟨b441, 0, none⟩))]) (by kernel_rfl) ?_
  refine t_v (.ld1 rfl rfl rfl (.at 2 rfl rfl)) ?_
  refine t_qz 4 [6] (σ' := [(6, .int .i64 (wr64 ((wr64 ((wr64 (b1_X - a0_X)) * (wr64 (p2_Y - a0_Y)))) - (wr64 ((wr64 (b1_Y - a0_Y)) * (wr64 (p2_X - a0_X)))))))]) (by kernel_rfl) ?_
  refine t_end ?_
  show W _ _ _ _ _ _ _
  refine w_ret ?_
  obtain rfl := Option.some.inj e
  exact ⟨[.int .i64 (wr64 ((wr64 ((wr64 (b1_X - a0_X)) * (wr64 (p2_Y - a0_Y)))) - (wr64 ((wr64 (b1_Y - a0_Y)) * (wr64 (p2_X - a0_X))))))], [], S, ⟨rfl, trivial⟩, VS.none, rfl, rfl, rfl⟩

/-- glyphicref20.One -/
def c119 : C :=
  (.seq (.reg [⟨(some 2), .box (.tmp 0), none⟩,
     ⟨(some 3), .box (.tmp 1), none⟩,
     ⟨(some 4), .mv (.const (.int .i64 0)), none⟩])
  (.seq (.reg [⟨(some 6), .pad 0 (.tmp 2), none⟩,
     ⟨(some 7), .ld (some 2) (.tmp 6), none⟩,
     ⟨(some 8), .pad 2 (.tmp 2), none⟩,
     ⟨(some 9), .ld (some 2) (.tmp 8), none⟩,
     ⟨(some 10), .ld (some 2) (.tmp 3), none⟩,
     ⟨(some 11), .call 80 [(.tmp 7), (.tmp 9), (.tmp 10)], none⟩,
     ⟨(some 5), .mv (.tmp 11), none⟩])
  (.seq (.seq (.reg [⟨(some 12), .pad 0 (.tmp 2), none⟩,
      ⟨(some 13), .pad 1 (.tmp 12), none⟩,
      ⟨(some 14), .ld none (.tmp 13), none⟩,
      ⟨(some 15), .pad 1 (.tmp 3), none⟩,
      ⟨(some 16), .ld none (.tmp 15), none⟩,
      ⟨(some 17), .bin .leq (.tmp 14) (.tmp 16), none⟩,
      ⟨(some 18), .mv (.tmp 17), none⟩,
      ⟨(some 19), .pad 2 (.tmp 2), (some (18, true))⟩,
      ⟨(some 20), .pad 1 (.tmp 19), (some (18, true))⟩,
      ⟨(some 21), .ld none (.tmp 20), (some (18, true))⟩,
      ⟨(some 22), .pad 1 (.tmp 3), (some (18, true))⟩,
      ⟨(some 23), .ld none (.tmp 22), (some (18, true))⟩,
      ⟨(some 24), .bin .gtr (.tmp 21) (.tmp 23), (some (18, true))⟩,
      ⟨(some 25), .pk (.tmp 18) (.tmp 24) (.const (.bool false)), none⟩,
      ⟨(some 26), .mv (.tmp 25), none⟩,
      ⟨(some 27), .mv (.tmp 5), (some (26, true))⟩,
      ⟨(some 28), .bin .gtr (.tmp 27) (.const (.int .i64 0)), (some (26, true))⟩,
      ⟨(some 29), .pk (.tmp 26) (.tmp 28) (.const (.bool false)), none⟩])
   (.cond (.tmp 29)
    (.seq (.reg [⟨(some 4), .mv (.const (.int .i64 1)), none⟩])
     .ret)
    .skip))
  (.seq (.seq (.reg [⟨(some 30), .pad 2 (.tmp 2), none⟩,
      ⟨(some 31), .pad 1 (.tmp 30), none⟩,
      ⟨(some 32), .ld none (.tmp 31), none⟩,
      ⟨(some 33), .pad 1 (.tmp 3), none⟩,
      ⟨(some 34), .ld none (.tmp 33), none⟩,
      ⟨(some 35), .bin .leq (.tmp 32) (.tmp 34), none⟩,
      ⟨(some 36), .mv (.tmp 35), none⟩,
      ⟨(some 37), .pad 0 (.tmp 2), (some (36, true))⟩,
      ⟨(some 38), .pad 1 (.tmp 37), (some (36, true))⟩,
      ⟨(some 39), .ld none (.tmp 38), (some (36, true))⟩,
      ⟨(some 40), .pad 1 (.tmp 3), (some (36, true))⟩,
      ⟨(some 41), .ld none (.tmp 40), (some (36, true))⟩,
      ⟨(some 42), .bin .gtr (.tmp 39) (.tmp 41), (some (36, true))⟩,
      ⟨(some 43), .pk (.tmp 36) (.tmp 42) (.const (.bool false)), none⟩,
      ⟨(some 44), .mv (.tmp 43), none⟩,
      ⟨(some 45), .mv (.tmp 5), (some (44, true))⟩,
      ⟨(some 46), .bin .lss (.tmp 45) (.const (.int .i64 0)), (some (44, true))⟩,
      ⟨(some 47), .pk (.tmp 44) (.tmp 46) (.const (.bool false)), none⟩])
   (.cond (.tmp 47)
    (.seq (.reg [⟨(some 4), .mv (.const (.int .i64 (-1))), none⟩])
     .ret)
    .skip))
  (.seq (.reg [⟨(some 4), .mv (.const (.int .i64 0)), none⟩])
  .ret)))))
def glyphicref20_One.f (e0_A_X : Int) (e0_A_Y : Int) (e0_B_X : Int) (e0_B_Y : Int) (p1_X : Int) (p1_Y : Int) : Option (Int) := (glyphicref1_Cross.f e0_A_X e0_A_Y e0_B_X e0_B_Y p1_X p1_Y).bind fun t444 => ((if e0_A_Y ≤ p1_Y then (if e0_B_Y > p1_Y then (if t444 > 0 then (some (.inl 1)) else (some (.inr ()))) else (some (.inr ()))) else (some (.inr ())) : Option ((Int) ⊕ (Unit))).bind fun s_ => match s_ with | .inl q455 => some q455 | .inr _ => (if e0_B_Y ≤ p1_Y then (if e0_A_Y > p1_Y then (if t444 < 0 then (some (-1)) else (some 0)) else (some 0)) else (some 0)))
theorem glyphicref20_One.ok {S : Seal} {e0_A_X : Int} {e0_A_Y : Int} {e0_B_X : Int} {e0_B_Y : Int} {p1_X : Int} {p1_Y : Int} {r0_ : Int}(e : glyphicref20_One.f e0_A_X e0_A_Y e0_B_X e0_B_Y p1_X p1_Y = some r0_) :
    Cal Try.prog 119 [.agg #[.int .i64 e0_A_X, .int .i64 e0_A_Y, .int .i64 e0_B_X, .int .i64 e0_B_Y], .agg #[.int .i64 p1_X, .int .i64 p1_Y]] [] S fun v H' S' => v = .int .i64 r0_ ∧ H' = [] ∧ S' = S := by
  unfold glyphicref20_One.f at e
  refine cal_of (c := c119) (N := 48) Try.func119 rfl rfl (by kernel_rfl) (rs := [.t 4]) (by kernel_rfl) (Nat.le_of_ble_eq_true rfl) ?_
  unfold c119
  refine w_seq ?_
  refine w_reg fun all => ?_
  refine t_a (.box rfl rfl rfl) fun b439 fb439 sb439 => ?_
  refine t_a (.box rfl rfl rfl) fun b440 fb440 sb440 => ?_
  refine t_qz 1 [2, 3] (σ' := [(2, .pointer (some ⟨b439, 0, none⟩)), (3, .pointer (some ⟨b440, 0, none⟩))]) (by kernel_rfl) ?_
  refine t_end ?_
  show W _ _ _ _ _ _ _
  refine w_seq ?_
  refine w_reg fun all => ?_
  refine t_qz 1 [2, 3, 6] (σ' := [(2, .pointer (some ⟨b439, 0, none⟩)), (3, .pointer (some ⟨b440, 0, none⟩)), (6, .pointer (some ⟨b439, 0, none⟩))]) (by kernel_rfl) ?_
  refine t_v (.ldn rfl rfl rfl (.at 1 rfl rfl)) ?_
  refine t_qz 1 [2, 3, 7, 8] (σ' := [(2, .pointer (some ⟨b439, 0, none⟩)), (3, .pointer (some ⟨b440, 0, none⟩)), (7, .agg #[.int .i64 e0_A_X, .int .i64 e0_A_Y]), (8, .pointer (some ⟨b439, 2, none⟩))]) (by kernel_rfl) ?_
  refine t_v (.ldn rfl rfl rfl (.at 1 rfl rfl)) ?_
  refine t_v (.ldn rfl rfl rfl (.at 0 rfl rfl)) ?_
  obtain ⟨t444, h445, e⟩ := bind_of e
  refine t_v (.call (vs := [.agg #[.int .i64 e0_A_X, .int .i64 e0_A_Y], .agg #[.int .i64 e0_B_X, .int .i64 e0_B_Y], .agg #[.int .i64 p1_X, .int .i64 p1_Y]]) rfl rfl (by kernel_rfl) (glyphicref1_Cross.ok h445)) ?_
  refine t_qz 1 [2, 3, 5] (σ' := [(2, .pointer (some ⟨b439, 0, none⟩)), (3, .pointer (some ⟨b440, 0, none⟩)), (5, .int .i64 t444)]) (by kernel_rfl) ?_
  refine t_end ?_
  show W _ _ _ _ _ _ _
  obtain ⟨s448, e447, e⟩ := bind_of e
  refine w_cut [2, 3, 5] (fun σ_ H_ S_ => ∃ u_ : Unit, s448 = .inr u_ ∧ [(2, .pointer (some ⟨b439, 0, none⟩)), (3, .pointer (some ⟨b440, 0, none⟩)), (5, .int .i64 t444)] = σ_ ∧ ([⟨b440, [.int .i64 p1_X, .int .i64 p1_Y], 2⟩, ⟨b439, [.int .i64 e0_A_X, .int .i64 e0_A_Y, .int .i64 e0_B_X, .int .i64 e0_B_Y], 4⟩] : List Own) = H_ ∧ S = S_) ?_ ?_
  · show W _ _ _ _ _ _ _
    refine w_seq ?_
    refine w_reg fun all => ?_
    refine t_qz 2 [2, 3, 5, 13] (σ' := [(2, .pointer (some ⟨b439, 0, none⟩)), (3, .pointer (some ⟨b440, 0, none⟩)), (5, .int .i64 t444), (13, .pointer (some ⟨b439, 1, none⟩))]) (by kernel_rfl) ?_
    refine t_v (.ld1 rfl rfl rfl (.at 1 rfl rfl)) ?_
    refine t_qz 1 [2, 3, 5, 14, 15] (σ' := [(2, .pointer (some ⟨b439, 0, none⟩)), (3, .pointer (some ⟨b440, 0, none⟩)), (5, .int .i64 t444), (14, .int .i64 e0_A_Y), (15, .pointer (some ⟨b440, 1, none⟩))]) (by kernel_rfl) ?_
    refine t_v (.ld1 rfl rfl rfl (.at 0 rfl rfl)) ?_
    by_cases c449 : e0_A_Y ≤ p1_Y
    · rw [if_pos c449] at e447
      have c449b : (decide (e0_A_Y ≤ p1_Y)) = true := decide_eq_true c449
      refine t_v (dv_quiet rfl (congrArg (fun t => some (Value.bool t)) c449b)) ?_
      refine t_qz 3 [2, 3, 5, 18, 20] (σ' := [(2, .pointer (some ⟨b439, 0, none⟩)), (3, .pointer (some ⟨b440, 0, none⟩)), (5, .int .i64 t444), (18, .bool true), (20, .pointer (some ⟨b439, 3, none⟩))]) (by kernel_rfl) ?_
      refine t_v (.ld1 rfl rfl rfl (.at 1 rfl rfl)) ?_
      refine t_qz 1 [2, 3, 5, 18, 21, 22] (σ' := [(2, .pointer (some ⟨b439, 0, none⟩)), (3, .pointer (some ⟨b440, 0, none⟩)), (5, .int .i64 t444), (18, .bool true), (21, .int .i64 e0_B_Y), (22, .pointer (some ⟨b440, 1, none⟩))]) (by kernel_rfl) ?_
      refine t_v (.ld1 rfl rfl rfl (.at 0 rfl rfl)) ?_
      by_cases c450 : e0_B_Y > p1_Y
      · rw [if_pos c450] at e447
        have c450b : (decide (e0_B_Y > p1_Y)) = true := decide_eq_true c450
        refine t_v (dv_quiet rfl (congrArg (fun t => some (Value.bool t)) c450b)) ?_
        by_cases c451 : t444 > 0
        · rw [if_pos c451] at e447
          have c451b : (decide (t444 > 0)) = true := decide_eq_true c451
          refine t_qz 3 [2, 3, 5, 26, 27] (σ' := [(2, .pointer (some ⟨b439, 0, none⟩)), (3, .pointer (some ⟨b440, 0, none⟩)), (5, .int .i64 t444), (26, .bool true), (27, .int .i64 t444)]) (by kernel_rfl) ?_
          refine t_v (dv_quiet rfl (congrArg (fun t => some (Value.bool t)) c451b)) ?_
          refine t_qz 1 [2, 3, 5, 29] (σ' := [(2, .pointer (some ⟨b439, 0, none⟩)), (3, .pointer (some ⟨b440, 0, none⟩)), (5, .int .i64 t444), (29, .bool true)]) (by kernel_rfl) ?_
          refine t_end ?_
          show W _ _ _ _ _ _ _
          refine w_cond rfl (fun _ => ?_) (fun c_ => by cases c_)
          show W _ _ _ _ _ _ _
          refine w_seq ?_
          refine w_reg fun all => ?_
          refine t_qz 1 [4] (σ' := [(4, .int .i64 1)]) (by kernel_rfl) ?_
          refine t_end ?_
          show W _ _ _ _ _ _ _
          refine w_ret ?_
          obtain rfl := Option.some.inj e447
          obtain rfl := Option.some.inj e
          exact ⟨[.int .i64 1], [], S, ⟨rfl, trivial⟩, VS.none, rfl, rfl, rfl⟩
        · rw [if_neg c451] at e447
          have c451b : (decide (t444 > 0)) = false := decide_eq_false c451
          refine t_qz 3 [2, 3, 5, 26, 27] (σ' := [(2, .pointer (some ⟨b439, 0, none⟩)), (3, .pointer (some ⟨b440, 0, none⟩)), (5, .int .i64 t444), (26, .bool true), (27, .int .i64 t444)]) (by kernel_rfl) ?_
          refine t_v (dv_quiet rfl (congrArg (fun t => some (Value.bool t)) c451b)) ?_
          refine t_qz 1 [2, 3, 5, 29] (σ' := [(2, .pointer (some ⟨b439, 0, none⟩)), (3, .pointer (some ⟨b440, 0, none⟩)), (5, .int .i64 t444), (29, .bool false)]) (by kernel_rfl) ?_
          refine t_end ?_
          show W _ _ _ _ _ _ _
          refine w_cond rfl (fun c_ => by cases c_) (fun _ => ?_)
          show W _ _ _ _ _ _ _
          refine w_skip ?_
          obtain rfl := Option.some.inj e447
          exact ⟨([⟨b440, [.int .i64 p1_X, .int .i64 p1_Y], 2⟩, ⟨b439, [.int .i64 e0_A_X, .int .i64 e0_A_Y, .int .i64 e0_B_X, .int .i64 e0_B_Y], 4⟩] : List Own), S, VS.sel [0, 0] (by kernel_rfl), (), rfl, by kernel_rfl, rfl, rfl⟩
      · rw [if_neg c450] at e447
        have c450b : (decide (e0_B_Y > p1_Y)) = false := decide_eq_false c450
        refine t_v (dv_quiet rfl (congrArg (fun t => some (Value.bool t)) c450b)) ?_
        refine t_qz 5 [2, 3, 5, 29] (σ' := [(2, .pointer (some ⟨b439, 0, none⟩)), (3, .pointer (some ⟨b440, 0, none⟩)), (5, .int .i64 t444), (29, .bool false)]) (by kernel_rfl) ?_
        refine t_end ?_
        show W _ _ _ _ _ _ _
        refine w_cond rfl (fun c_ => by cases c_) (fun _ => ?_)
        show W _ _ _ _ _ _ _
        refine w_skip ?_
        obtain rfl := Option.some.inj e447
        exact ⟨([⟨b440, [.int .i64 p1_X, .int .i64 p1_Y], 2⟩, ⟨b439, [.int .i64 e0_A_X, .int .i64 e0_A_Y, .int .i64 e0_B_X, .int .i64 e0_B_Y], 4⟩] : List Own), S, VS.sel [0, 0] (by kernel_rfl), (), rfl, by kernel_rfl, rfl, rfl⟩
    · rw [if_neg c449] at e447
      have c449b : (decide (e0_A_Y ≤ p1_Y)) = false := decide_eq_false c449
      refine t_v (dv_quiet rfl (congrArg (fun t => some (Value.bool t)) c449b)) ?_
      refine t_qz 12 [2, 3, 5, 29] (σ' := [(2, .pointer (some ⟨b439, 0, none⟩)), (3, .pointer (some ⟨b440, 0, none⟩)), (5, .int .i64 t444), (29, .bool false)]) (by kernel_rfl) ?_
      refine t_end ?_
      show W _ _ _ _ _ _ _
      refine w_cond rfl (fun c_ => by cases c_) (fun _ => ?_)
      show W _ _ _ _ _ _ _
      refine w_skip ?_
      obtain rfl := Option.some.inj e447
      exact ⟨([⟨b440, [.int .i64 p1_X, .int .i64 p1_Y], 2⟩, ⟨b439, [.int .i64 e0_A_X, .int .i64 e0_A_Y, .int .i64 e0_B_X, .int .i64 e0_B_Y], 4⟩] : List Own), S, VS.sel [0, 0] (by kernel_rfl), (), rfl, by kernel_rfl, rfl, rfl⟩
  · rintro σ_ H_ S_ ⟨u_, rfl, rfl, rfl, rfl⟩
    dsimp only at e
    refine w_seq ?_
    refine w_seq ?_
    refine w_reg fun all => ?_
    refine t_qz 2 [2, 3, 5, 31] (σ' := [(2, .pointer (some ⟨b439, 0, none⟩)), (3, .pointer (some ⟨b440, 0, none⟩)), (5, .int .i64 t444), (31, .pointer (some ⟨b439, 3, none⟩))]) (by kernel_rfl) ?_
    refine t_v (.ld1 rfl rfl rfl (.at 1 rfl rfl)) ?_
    refine t_qz 1 [2, 3, 5, 32, 33] (σ' := [(2, .pointer (some ⟨b439, 0, none⟩)), (3, .pointer (some ⟨b440, 0, none⟩)), (5, .int .i64 t444), (32, .int .i64 e0_B_Y), (33, .pointer (some ⟨b440, 1, none⟩))]) (by kernel_rfl) ?_
    refine t_v (.ld1 rfl rfl rfl (.at 0 rfl rfl)) ?_
    by_cases c452 : e0_B_Y ≤ p1_Y
    · rw [if_pos c452] at e
      have c452b : (decide (e0_B_Y ≤ p1_Y)) = true := decide_eq_true c452
      refine t_v (dv_quiet rfl (congrArg (fun t => some (Value.bool t)) c452b)) ?_
      refine t_qz 3 [3, 5, 36, 38] (σ' := [(3, .pointer (some ⟨b440, 0, none⟩)), (5, .int .i64 t444), (36, .bool true), (38, .pointer (some ⟨b439, 1, none⟩))]) (by kernel_rfl) ?_
      refine t_v (.ld1 rfl rfl rfl (.at 1 rfl rfl)) ?_
      refine t_qz 1 [5, 36, 39, 40] (σ' := [(5, .int .i64 t444), (36, .bool true), (39, .int .i64 e0_A_Y), (40, .pointer (some ⟨b440, 1, none⟩))]) (by kernel_rfl) ?_
      refine t_v (.ld1 rfl rfl rfl (.at 0 rfl rfl)) ?_
      by_cases c453 : e0_A_Y > p1_Y
      · rw [if_pos c453] at e
        have c453b : (decide (e0_A_Y > p1_Y)) = true := decide_eq_true c453
        refine t_v (dv_quiet rfl (congrArg (fun t => some (Value.bool t)) c453b)) ?_
        by_cases c454 : t444 < 0
        · rw [if_pos c454] at e
          have c454b : (decide (t444 < 0)) = true := decide_eq_true c454
          refine t_qz 3 [44, 45] (σ' := [(44, .bool true), (45, .int .i64 t444)]) (by kernel_rfl) ?_
          refine t_v (dv_quiet rfl (congrArg (fun t => some (Value.bool t)) c454b)) ?_
          refine t_qz 1 [47] (σ' := [(47, .bool true)]) (by kernel_rfl) ?_
          refine t_end ?_
          show W _ _ _ _ _ _ _
          refine w_cond rfl (fun _ => ?_) (fun c_ => by cases c_)
          show W _ _ _ _ _ _ _
          refine w_seq ?_
          refine w_reg fun all => ?_
          refine t_qz 1 [4] (σ' := [(4, .int .i64 (-1))]) (by kernel_rfl) ?_
          refine t_end ?_
          show W _ _ _ _ _ _ _
          refine w_ret ?_
          obtain rfl := Option.some.inj e
          exact ⟨[.int .i64 (-1)], [], S, ⟨rfl, trivial⟩, VS.none, rfl, rfl, rfl⟩
        · rw [if_neg c454] at e
          have c454b : (decide (t444 < 0)) = false := decide_eq_false c454
          refine t_qz 3 [44, 45] (σ' := [(44, .bool true), (45, .int .i64 t444)]) (by kernel_rfl) ?_
          refine t_v (dv_quiet rfl (congrArg (fun t => some (Value.bool t)) c454b)) ?_
          refine t_qz 1 [47] (σ' := [(47, .bool false)]) (by kernel_rfl) ?_
          refine t_end ?_
          show W _ _ _ _ _ _ _
          refine w_cond rfl (fun c_ => by cases c_) (fun _ => ?_)
          show W _ _ _ _ _ _ _
          refine w_skip ?_
          show W _ _ _ _ _ _ _
          refine w_seq ?_
          refine w_reg fun all => ?_
          refine t_qz 1 [4] (σ' := [(4, .int .i64 0)]) (by kernel_rfl) ?_
          refine t_end ?_
          show W _ _ _ _ _ _ _
          refine w_ret ?_
          obtain rfl := Option.some.inj e
          exact ⟨[.int .i64 0], [], S, ⟨rfl, trivial⟩, VS.none, rfl, rfl, rfl⟩
      · rw [if_neg c453] at e
        have c453b : (decide (e0_A_Y > p1_Y)) = false := decide_eq_false c453
        refine t_v (dv_quiet rfl (congrArg (fun t => some (Value.bool t)) c453b)) ?_
        refine t_qz 5 [47] (σ' := [(47, .bool false)]) (by kernel_rfl) ?_
        refine t_end ?_
        show W _ _ _ _ _ _ _
        refine w_cond rfl (fun c_ => by cases c_) (fun _ => ?_)
        show W _ _ _ _ _ _ _
        refine w_skip ?_
        show W _ _ _ _ _ _ _
        refine w_seq ?_
        refine w_reg fun all => ?_
        refine t_qz 1 [4] (σ' := [(4, .int .i64 0)]) (by kernel_rfl) ?_
        refine t_end ?_
        show W _ _ _ _ _ _ _
        refine w_ret ?_
        obtain rfl := Option.some.inj e
        exact ⟨[.int .i64 0], [], S, ⟨rfl, trivial⟩, VS.none, rfl, rfl, rfl⟩
    · rw [if_neg c452] at e
      have c452b : (decide (e0_B_Y ≤ p1_Y)) = false := decide_eq_false c452
      refine t_v (dv_quiet rfl (congrArg (fun t => some (Value.bool t)) c452b)) ?_
      refine t_qz 12 [47] (σ' := [(47, .bool false)]) (by kernel_rfl) ?_
      refine t_end ?_
      show W _ _ _ _ _ _ _
      refine w_cond rfl (fun c_ => by cases c_) (fun _ => ?_)
      show W _ _ _ _ _ _ _
      refine w_skip ?_
      show W _ _ _ _ _ _ _
      refine w_seq ?_
      refine w_reg fun all => ?_
      refine t_qz 1 [4] (σ' := [(4, .int .i64 0)]) (by kernel_rfl) ?_
      refine t_end ?_
      show W _ _ _ _ _ _ _
      refine w_ret ?_
      obtain rfl := Option.some.inj e
      exact ⟨[.int .i64 0], [], S, ⟨rfl, trivial⟩, VS.none, rfl, rfl, rfl⟩

/-- glyphicref20.Number -/
def c112 : C :=
  (.seq (.reg [⟨(some 3), .box (.tmp 1), none⟩,
     ⟨(some 4), .mv (.const (.int .i64 0)), none⟩])
  (.seq (.reg [⟨(some 5), .mv (.const (.int .i64 0)), none⟩])
  (.seq (.seq (.reg [⟨(some 6), .mv (.const (.int .i64 0)), none⟩])
   (.block 0 (.loop (.seq (.seq (.reg [⟨(some 7), .mv (.tmp 6), none⟩,
         ⟨(some 8), .mv (.tmp 0), none⟩,
         ⟨(some 9), .lns (.tmp 8), none⟩,
         ⟨(some 10), .bin .lss (.tmp 7) (.tmp 9), none⟩])
      (.cond (.tmp 10)
       .skip
       (.exit 0)))
     (.seq (.block 1 (.drw [⟨(some 13), .mv (.tmp 5), none⟩,
         ⟨(some 14), .mv (.tmp 0), none⟩,
         ⟨(some 15), .mv (.tmp 6), none⟩,
         ⟨(some 16), .ixs 4 (.tmp 14) (.tmp 15), none⟩,
         ⟨(some 17), .ld (some 4) (.tmp 16), none⟩,
         ⟨(some 18), .ld (some 2) (.tmp 3), none⟩,
         ⟨(some 19), .call 119 [(.tmp 17), (.tmp 18)], none⟩,
         ⟨(some 20), .bin .add (.tmp 13) (.tmp 19), none⟩,
         ⟨(some 5), .mv (.tmp 20), none⟩] [[], [], [], [1, 2], [3], [], [4, 5], [0, 6], [7, 6, 0, 1, 2, 3, 4, 5, 6, 7]]))
     (.reg [⟨(some 11), .mv (.tmp 6), none⟩,
       ⟨(some 12), .bin .add (.tmp 11) (.const (.int .i64 1)), none⟩,
       ⟨(some 6), .mv (.tmp 12), none⟩]))))))
  (.seq (.reg [⟨(some 21), .mv (.tmp 5), none⟩,
     ⟨(some 4), .mv (.tmp 21), none⟩])
  .ret))))
def glyphicref20_Number_v1.l0 : Nat → List (Int × Int × Int × Int) → Int → Int → Int → Int → Option (Int)
  | 0, _, _, _, _, _ => none
  | k + 1, l0, p1_0, p1_1, x423, x424 => if x424 < (l0.length : Int) then ((lgt l0 x424).bind fun (x426, x427, x428, x429) => ((glyphicref20_One.f x426 x427 x428 x429 p1_0 p1_1).bind fun t439 => (glyphicref20_Number_v1.l0 k l0 p1_0 p1_1 (wr64 (x423 + t439)) (wr64 (x424 + 1))))) else (some x423)
def glyphicref20_Number_v1.f (k : Nat) (l0 : List (Int × Int × Int × Int)) (p1_0 : Int) (p1_1 : Int) : Option (Int) := (glyphicref20_Number_v1.l0 k l0 p1_0 p1_1 0 0 : Option (Int)).bind fun x443 => (some x443)
theorem glyphicref20_Number_v1.ok {S : Seal} {k : Nat} {l0 : List (Int × Int × Int × Int)} {p1_0 : Int} {p1_1 : Int} {r0_ : Int}{a_l0 : Option Addr} {c_l0 : Nat} (h_l0 : SlE S E_i644 l0 a_l0) (e : glyphicref20_Number_v1.f k l0 p1_0 p1_1 = some r0_) :
    Cal Try.prog 112 [.slice a_l0 l0.length c_l0, .agg #[.int .i64 p1_0, .int .i64 p1_1]] [] S fun v H' S' => v = .int .i64 r0_ ∧ H' = [] ∧ S' = S := by
  unfold glyphicref20_Number_v1.f at e
  refine cal_of (c := c112) (N := 22) Try.func112 rfl rfl (by kernel_rfl) (rs := [.t 4]) (by kernel_rfl) (Nat.le_of_ble_eq_true rfl) ?_
  unfold c112
  refine w_seq ?_
  refine w_reg fun all => ?_
  refine t_a (.box rfl rfl rfl) fun b419 fb419 sb419 => ?_
  refine t_qz 1 [0, 3] (σ' := [(0, .slice a_l0 l0.length c_l0), (3, .pointer (some ⟨b419, 0, none⟩))]) (by kernel_rfl) ?_
  refine t_end ?_
  show W _ _ _ _ _ _ _
  refine w_seq ?_
  refine w_reg fun all => ?_
  refine t_qz 1 [0, 3, 5] (σ' := [(0, .slice a_l0 l0.length c_l0), (3, .pointer (some ⟨b419, 0, none⟩)), (5, .int .i64 0)]) (by kernel_rfl) ?_
  refine t_end ?_
  show W _ _ _ _ _ _ _
  obtain ⟨x443, e421, e⟩ := bind_of e
  refine w_cut [5] (fun σ_ H_ S_ => [(5, .int .i64 x443)] = σ_ ∧ ([⟨b419, [.int .i64 p1_0, .int .i64 p1_1], 2⟩] : List Own) = H_ ∧ S = S_) ?_ ?_
  · show W _ _ _ _ _ _ _
    refine w_seq ?_
    refine w_reg fun all => ?_
    refine t_qz 1 [0, 3, 5, 6] (σ' := [(0, .slice a_l0 l0.length c_l0), (3, .pointer (some ⟨b419, 0, none⟩)), (5, .int .i64 0), (6, .int .i64 0)]) (by kernel_rfl) ?_
    refine t_end ?_
    show W _ _ _ _ _ _ _
    refine w_block ?_
    refine w_kp [0, 3, 5, 6] (σ' := [(0, .slice a_l0 l0.length c_l0), (3, .pointer (some ⟨b419, 0, none⟩)), (5, .int .i64 0), (6, .int .i64 0)]) (by kernel_rfl) ?_
    refine w_loop (fun n_ σ_ H_ S_ => ∃ (x423 : Int) (x424 : Int), [(0, .slice a_l0 l0.length c_l0), (3, .pointer (some ⟨b419, 0, none⟩)), (5, .int .i64 x423), (6, .int .i64 x424)] = σ_ ∧ ([⟨b419, [.int .i64 p1_0, .int .i64 p1_1], 2⟩] : List Own) = H_ ∧ S = S_ ∧ glyphicref20_Number_v1.l0 n_ l0 p1_0 p1_1 x423 x424 = some x443) _ ⟨0, 0, rfl, rfl, rfl, e421⟩ ?_
    rintro n442 σ_ H_ S_ ⟨x423, x424, rfl, rfl, rfl, e421⟩
    cases n442 with
    | zero => rw [glyphicref20_Number_v1.l0.eq_1] at e421; cases e421
    | succ k_ =>
      rw [glyphicref20_Number_v1.l0.eq_2] at e421
      refine w_seq ?_
      refine w_seq ?_
      refine w_reg fun all => ?_
      by_cases c425 : x424 < (l0.length : Int)
      · rw [if_pos c425] at e421
        have c425b : (decide (x424 < (l0.length : Int))) = true := decide_eq_true c425
        refine t_qz 3 [0, 3, 5, 6, 7, 9] (σ' := [(0, .slice a_l0 l0.length c_l0), (3, .pointer (some ⟨b419, 0, none⟩)), (5, .int .i64 x423), (6, .int .i64 x424), (7, .int .i64 x424), (9, .int .i64 (l0.length : Int))]) (by kernel_rfl) ?_
        refine t_v (dv_quiet rfl (congrArg (fun t => some (Value.bool t)) c425b)) ?_
        refine t_keep [0, 3, 5, 6, 10] (σ' := [(0, .slice a_l0 l0.length c_l0), (3, .pointer (some ⟨b419, 0, none⟩)), (5, .int .i64 x423), (6, .int .i64 x424), (10, .bool true)]) (by kernel_rfl) ?_
        refine t_end ?_
        show W _ _ _ _ _ _ _
        refine w_cond rfl (fun _ => ?_) (fun c_ => by cases c_)
        show W _ _ _ _ _ _ _
        refine w_skip ?_
        show W _ _ _ _ _ _ _
        refine w_seq ?_
        refine w_block ?_
        obtain ⟨⟨x426, x427, x428, x429⟩, hx430, e421⟩ := bind_of e421
        try dsimp only at e421
        obtain ⟨lb431, lo432, ll433, la434, lS435, lv436, lz437, lu438⟩ := sle_get (E := E_i644) h_l0 hx430
        obtain ⟨t439, h440, e421⟩ := bind_of e421
        refine w_drwE mixed 9 [.v (.int .i64 x423), .v (.slice a_l0 l0.length c_l0), .v (.int .i64 x424), .v (.pointer (some ⟨lb431, lo432 + (x424).toNat * 4 + 0, none⟩)), .v (.agg #[.int .i64 x426, .int .i64 x427, .int .i64 x428, .int .i64 x429]), .v (.agg #[.int .i64 p1_0, .int .i64 p1_1]), .v (.int .i64 t439), .v (.int .i64 (wr64 (x423 + t439))), .v (.int .i64 (wr64 (x423 + t439)))] (by kernel_rfl) ?_ ?_
        · refine DI.sq 3 (by kernel_rfl) rfl ?_
          refine .cons (.quiet rfl (ixs_sle rfl rfl la434 lz437 lu438)) ?_
          refine .cons (.ldn (vs := [.int .i64 x426, .int .i64 x427, .int .i64 x428, .int .i64 x429]) rfl rfl rfl (.sealed lS435 (subl_sub lv436 (by kernel_rfl)))) ?_
          refine .cons (.ldn rfl rfl rfl (.at 0 rfl rfl)) ?_
          refine .cons (.call (vs := [.agg #[.int .i64 x426, .int .i64 x427, .int .i64 x428, .int .i64 x429], .agg #[.int .i64 p1_0, .int .i64 p1_1]]) rfl rfl (by kernel_rfl) (glyphicref20_One.ok h440)) ?_
          refine DI.sq 2 (by kernel_rfl) rfl ?_
          exact .nil
        refine fk_q 9 [0, 3, 5, 6] (σ' := [(0, .slice a_l0 l0.length c_l0), (3, .pointer (some ⟨b419, 0, none⟩)), (5, .int .i64 (wr64 (x423 + t439))), (6, .int .i64 x424)]) t_more (by kernel_rfl) ?_
        refine fk_nil fun all => ?_
        refine t_keep [0, 3, 5, 6] (σ' := [(0, .slice a_l0 l0.length c_l0), (3, .pointer (some ⟨b419, 0, none⟩)), (5, .int .i64 (wr64 (x423 + t439))), (6, .int .i64 x424)]) (by kernel_rfl) ?_
        refine t_end ?_
        show W _ _ _ _ _ _ _
        refine w_reg fun all => ?_
        refine t_qz 3 [0, 3, 5, 6] (σ' := [(0, .slice a_l0 l0.length c_l0), (3, .pointer (some ⟨b419, 0, none⟩)), (5, .int .i64 (wr64 (x423 + t439))), (6, .int .i64 (wr64 (x424 + 1)))]) (by kernel_rfl) ?_
        refine t_end ?_
        exact ⟨k_, Nat.lt_succ_self _, [(0, .slice a_l0 l0.length c_l0), (3, .pointer (some ⟨b419, 0, none⟩)), (5, .int .i64 (wr64 (x423 + t439))), (6, .int .i64 (wr64 (x424 + 1)))], ([⟨b419, [.int .i64 p1_0, .int .i64 p1_1], 2⟩] : List Own), S, keep_sub [0, 3, 5, 6] (by kernel_rfl), VS.sel [0] (by kernel_rfl), wr64 (x423 + t439), wr64 (x424 + 1), rfl, rfl, rfl, e421⟩
      · rw [if_neg c425] at e421
        have c425b : (decide (x424 < (l0.length : Int))) = false := decide_eq_false c425
        refine t_qz 3 [0, 3, 5, 6, 7, 9] (σ' := [(0, .slice a_l0 l0.length c_l0), (3, .pointer (some ⟨b419, 0, none⟩)), (5, .int .i64 x423), (6, .int .i64 x424), (7, .int .i64 x424), (9, .int .i64 (l0.length : Int))]) (by kernel_rfl) ?_
        refine t_v (dv_quiet rfl (congrArg (fun t => some (Value.bool t)) c425b)) ?_
        refine t_keep [0, 3, 5, 6, 10] (σ' := [(0, .slice a_l0 l0.length c_l0), (3, .pointer (some ⟨b419, 0, none⟩)), (5, .int .i64 x423), (6, .int .i64 x424), (10, .bool false)]) (by kernel_rfl) ?_
        refine t_end ?_
        show W _ _ _ _ _ _ _
        refine w_cond rfl (fun c_ => by cases c_) (fun _ => ?_)
        show W _ _ _ _ _ _ _
        refine w_exit ?_
        obtain rfl := Option.some.inj e421
        exact ⟨([⟨b419, [.int .i64 p1_0, .int .i64 p1_1], 2⟩] : List Own), S, VS.sel [0] (by kernel_rfl), by kernel_rfl, rfl, rfl⟩
  · rintro σ_ H_ S_ ⟨rfl, rfl, rfl⟩
    refine w_seq ?_
    refine w_reg fun all => ?_
    refine t_qz 2 [4] (σ' := [(4, .int .i64 x443)]) (by kernel_rfl) ?_
    refine t_end ?_
    show W _ _ _ _ _ _ _
    refine w_ret ?_
    obtain rfl := Option.some.inj e
    exact ⟨[.int .i64 x443], [], S, ⟨rfl, trivial⟩, VS.none, rfl, rfl, rfl⟩

/-- glyphicref20.Inside -/
def c87 : C :=
  (.seq (.reg [⟨(some 5), .box (.tmp 2), none⟩,
     ⟨(some 6), .mv (.const (.bool false)), none⟩])
  (.seq (.reg [⟨(some 8), .mv (.tmp 0), none⟩,
     ⟨(some 9), .ld (some 2) (.tmp 5), none⟩,
     ⟨(some 10), .call 112 [(.tmp 8), (.tmp 9)], none⟩,
     ⟨(some 7), .mv (.tmp 10), none⟩])
  (.seq (.seq (.reg [⟨(some 11), .mv (.tmp 1), none⟩,
      ⟨(some 12), .bin .eql (.tmp 11) (.const (.int .i64 0)), none⟩])
   (.cond (.tmp 12)
    (.seq (.reg [⟨(some 13), .mv (.tmp 7), none⟩,
        ⟨(some 14), .bin .rem (.tmp 13) (.const (.int .i64 2)), none⟩,
        ⟨(some 15), .bin .neq (.tmp 14) (.const (.int .i64 0)), none⟩,
        ⟨(some 6), .mv (.tmp 15), none⟩])
     .ret)
    .skip))
  (.seq (.reg [⟨(some 16), .mv (.tmp 7), none⟩,
     ⟨(some 17), .bin .neq (.tmp 16) (.const (.int .i64 0)), none⟩,
     ⟨(some 6), .mv (.tmp 17), none⟩])
  .ret))))
def glyphicref20_Inside_v1.f (k : Nat) (l0 : List (Int × Int × Int × Int)) (rule1 : Int) (p2_0 : Int) (p2_1 : Int) : Option (Bool) := (glyphicref20_Number_v1.f k l0 p2_0 p2_1).bind fun t444 => (if rule1 = 0 then (some ((Int.tmod t444 2) != 0)) else (some (t444 != 0)))
theorem glyphicref20_Inside_v1.ok {S : Seal} {k : Nat} {l0 : List (Int × Int × Int × Int)} {rule1 : Int} {p2_0 : Int} {p2_1 : Int} {r0_ : Bool}{a_l0 : Option Addr} {c_l0 : Nat} (h_l0 : SlE S E_i644 l0 a_l0) (e : glyphicref20_Inside_v1.f k l0 rule1 p2_0 p2_1 = some r0_) :
    Cal Try.prog 87 [.slice a_l0 l0.length c_l0, .int .i64 rule1, .agg #[.int .i64 p2_0, .int .i64 p2_1]] [] S fun v H' S' => v = .bool r0_ ∧ H' = [] ∧ S' = S := by
  unfold glyphicref20_Inside_v1.f at e
  refine cal_of (c := c87) (N := 18) Try.func87 rfl rfl (by kernel_rfl) (rs := [.t 6]) (by kernel_rfl) (Nat.le_of_ble_eq_true rfl) ?_
  unfold c87
  refine w_seq ?_
  refine w_reg fun all => ?_
  refine t_a (.box rfl rfl rfl) fun b418 fb418 sb418 => ?_
  refine t_qz 1 [0, 1, 5] (σ' := [(0, .slice a_l0 l0.length c_l0), (1, .int .i64 rule1), (5, .pointer (some ⟨b418, 0, none⟩))]) (by kernel_rfl) ?_
  refine t_end ?_
  show W _ _ _ _ _ _ _
  refine w_seq ?_
  refine w_reg fun all => ?_
  refine t_qz 1 [1, 5, 8] (σ' := [(1, .int .i64 rule1), (5, .pointer (some ⟨b418, 0, none⟩)), (8, .slice a_l0 l0.length c_l0)]) (by kernel_rfl) ?_
  refine t_v (.ldn rfl rfl rfl (.at 0 rfl rfl)) ?_
  obtain ⟨t444, h445, e⟩ := bind_of e
  refine t_v (.call (vs := [.slice a_l0 l0.length c_l0, .agg #[.int .i64 p2_0, .int .i64 p2_1]]) rfl rfl (by kernel_rfl) (glyphicref20_Number_v1.ok h_l0 h445)) ?_
  refine t_qz 1 [1, 7] (σ' := [(1, .int .i64 rule1), (7, .int .i64 t444)]) (by kernel_rfl) ?_
  refine t_end ?_
  show W _ _ _ _ _ _ _
  refine w_seq ?_
  refine w_seq ?_
  refine w_reg fun all => ?_
  by_cases c446 : rule1 = 0
  · rw [if_pos c446] at e
    have c446b : (rule1 == 0) = true := beq_iff_eq.mpr c446
    refine t_qz 1 [7, 11] (σ' := [(7, .int .i64 t444), (11, .int .i64 rule1)]) (by kernel_rfl) ?_
    refine t_v (dv_quiet rfl (congrArg (fun t => some (Value.bool t)) c446b)) ?_
    refine t_keep [7, 12] (σ' := [(7, .int .i64 t444), (12, .bool true)]) (by kernel_rfl) ?_
    refine t_end ?_
    show W _ _ _ _ _ _ _
    refine w_cond rfl (fun _ => ?_) (fun c_ => by cases c_)
    show W _ _ _ _ _ _ _
    refine w_seq ?_
    refine w_reg fun all => ?_
    refine t_qz 4 [6] (σ' := [(6, .bool ((Int.tmod t444 2) != 0))]) (by kernel_rfl) ?_
    refine t_end ?_
    show W _ _ _ _ _ _ _
    refine w_ret ?_
    obtain rfl := Option.some.inj e
    exact ⟨[.bool ((Int.tmod t444 2) != 0)], [], S, ⟨rfl, trivial⟩, VS.none, rfl, rfl, rfl⟩
  · rw [if_neg c446] at e
    have c446b : (rule1 == 0) = false := beq_eq_false_iff_ne.mpr c446
    refine t_qz 1 [7, 11] (σ' := [(7, .int .i64 t444), (11, .int .i64 rule1)]) (by kernel_rfl) ?_
    refine t_v (dv_quiet rfl (congrArg (fun t => some (Value.bool t)) c446b)) ?_
    refine t_keep [7, 12] (σ' := [(7, .int .i64 t444), (12, .bool false)]) (by kernel_rfl) ?_
    refine t_end ?_
    show W _ _ _ _ _ _ _
    refine w_cond rfl (fun c_ => by cases c_) (fun _ => ?_)
    show W _ _ _ _ _ _ _
    refine w_skip ?_
    show W _ _ _ _ _ _ _
    refine w_seq ?_
    refine w_reg fun all => ?_
    refine t_qz 3 [6] (σ' := [(6, .bool (t444 != 0))]) (by kernel_rfl) ?_
    refine t_end ?_
    show W _ _ _ _ _ _ _
    refine w_ret ?_
    obtain rfl := Option.some.inj e
    exact ⟨[.bool (t444 != 0)], [], S, ⟨rfl, trivial⟩, VS.none, rfl, rfl, rfl⟩
end Go.Proofs.Ytpimfacaalkmdaa.QSweepSays
