/- Functions of the program as Lean functions, each with the proof of its walk. Written by gen.py, a program of these sessions. -/
import Derived.Test.YtpimfacaalkmdaaQStrokeBoxesx1
namespace Go.Proofs.Ytpimfacaalkmdaa.QStrokeBoxes
open Go Go.RowKit Go.Proofs.YtpimfacaalkmdaaE Go.Proofs.YtpimfacaalkmdaaX
set_option linter.unusedVariables false
set_option maxRecDepth 100000
set_option maxHeartbeats 8000000
/-- glyphiclaw23.StrokeBoxes -/
def c5 : C :=
  (.seq (.reg [⟨(some 10), .mv (.const (.bool false)), none⟩])
  (.seq (.reg [⟨(some 21), .call 16 [], none⟩,
     ⟨(some 11), .mv (.tmp 21), none⟩])
  (.seq (.seq (.reg [⟨(some 22), .mv (.tmp 11), none⟩,
      ⟨(some 23), .un .not (.tmp 22), none⟩])
   (.cond (.tmp 23)
    (.seq (.reg [⟨(some 10), .mv (.const (.bool false)), none⟩])
     .ret)
    .skip))
  (.seq (.seq (.reg [⟨(some 24), .mv (.tmp 0), none⟩,
      ⟨(some 25), .lns (.tmp 24), none⟩,
      ⟨(some 26), .bin .gtr (.tmp 25) (.const (.int .i64 100)), none⟩])
   (.cond (.tmp 26)
    (.seq (.reg [⟨(some 27), .mv (.tmp 11), none⟩,
        ⟨(some 10), .mv (.tmp 27), none⟩])
     .ret)
    .skip))
  (.seq (.reg [⟨(some 28), .mv (.tmp 1), none⟩,
     ⟨(some 29), .bin .rem (.tmp 28) (.const (.int .i64 100)), none⟩,
     ⟨(some 30), .bin .add (.tmp 29) (.const (.int .i64 100)), none⟩,
     ⟨(some 31), .bin .rem (.tmp 30) (.const (.int .i64 100)), none⟩,
     ⟨(some 1), .mv (.tmp 31), none⟩])
  (.seq (.reg [⟨(some 32), .mv (.tmp 2), none⟩,
     ⟨(some 33), .bin .rem (.tmp 32) (.const (.int .i64 50)), none⟩,
     ⟨(some 34), .bin .add (.tmp 33) (.const (.int .i64 50)), none⟩,
     ⟨(some 35), .bin .rem (.tmp 34) (.const (.int .i64 50)), none⟩,
     ⟨(some 2), .mv (.tmp 35), none⟩])
  (.seq (.reg [⟨(some 36), .mv (.tmp 0), none⟩,
     ⟨(some 37), .bld [(.slice none 0 0), (.int .i64 0)] [(0, 1, (.tmp 36))], none⟩,
     ⟨(some 38), .box (.tmp 37), none⟩,
     ⟨(some 12), .mv (.tmp 38), none⟩])
  (.seq (.reg [⟨(some 39), .mv (.tmp 12), none⟩,
     ⟨(some 40), .call 17 [(.tmp 39), (.const (.int .i64 6)), (.const (.int .i64 40))], none⟩,
     ⟨(some 13), .mv (.tmp 40), none⟩])
  (.seq (.reg [⟨(some 41), .mv (.tmp 13), none⟩,
     ⟨(some 42), .call 20 [(.tmp 41)], none⟩,
     ⟨(some 43), .mv (.tmp 12), none⟩,
     ⟨(some 44), .call 17 [(.tmp 43), (.const (.int .i64 4)), (.const (.int .i64 40))], none⟩,
     ⟨(some 45), .app 36 4 32 [(.int .i64 0), (.int .i64 0), (.int .i64 0), (.int .i64 0)] (.tmp 42) (.tmp 44), none⟩,
     ⟨(some 14), .mv (.tmp 45), none⟩])
  (.seq (.reg [⟨(some 46), .mv (.tmp 3), none⟩,
     ⟨(some 47), .bin .rem (.tmp 46) (.const (.int .i64 200)), none⟩,
     ⟨(some 48), .bin .add (.tmp 47) (.const (.int .i64 200)), none⟩,
     ⟨(some 49), .bin .rem (.tmp 48) (.const (.int .i64 200)), none⟩,
     ⟨(some 50), .bin .sub (.tmp 49) (.const (.int .i64 100)), none⟩,
     ⟨(some 51), .mv (.tmp 4), none⟩,
     ⟨(some 52), .bin .rem (.tmp 51) (.const (.int .i64 200)), none⟩,
     ⟨(some 53), .bin .add (.tmp 52) (.const (.int .i64 200)), none⟩,
     ⟨(some 54), .bin .rem (.tmp 53) (.const (.int .i64 200)), none⟩,
     ⟨(some 55), .bin .sub (.tmp 54) (.const (.int .i64 100)), none⟩,
     ⟨(some 56), .bld [(.int .i64 0), (.int .i64 0)] [(0, 1, (.tmp 50)), (1, 1, (.tmp 55))], none⟩,
     ⟨(some 15), .new [(.int .i64 0), (.int .i64 0)], none⟩,
     ⟨none, .st 2 (.tmp 15) (.tmp 56), none⟩])
  (.seq (.reg [⟨(some 57), .mv (.tmp 13), none⟩,
     ⟨(some 58), .mv (.tmp 1), none⟩,
     ⟨(some 59), .ld (some 2) (.tmp 15), none⟩,
     ⟨(some 60), .call 19 [(.tmp 57), (.tmp 58), (.tmp 59)], none⟩,
     ⟨(some 16), .mv (.tmp 60), none⟩])
  (.seq (.reg [⟨(some 62), .mv (.tmp 13), none⟩,
     ⟨(some 63), .mv (.tmp 1), none⟩,
     ⟨(some 64), .call 22 [(.tmp 62), (.tmp 63)], none⟩,
     ⟨(some 61), .mv (.tmp 64), none⟩,
     ⟨(some 65), .xt 0 (.tmp 61), none⟩,
     ⟨(some 66), .xt 1 (.tmp 61), none⟩,
     ⟨(some 67), .xt 2 (.tmp 61), none⟩,
     ⟨(some 17), .new [(.int .i64 0), (.int .i64 0)], none⟩,
     ⟨(some 18), .new [(.int .i64 0), (.int .i64 0)], none⟩,
     ⟨none, .st 2 (.tmp 17) (.tmp 65), none⟩,
     ⟨none, .st 2 (.tmp 18) (.tmp 66), none⟩,
     ⟨(some 19), .mv (.tmp 67), none⟩])
  (.seq (.seq (.reg [⟨(some 68), .mv (.tmp 19), none⟩,
      ⟨(some 69), .mv (.tmp 13), none⟩,
      ⟨(some 70), .lns (.tmp 69), none⟩,
      ⟨(some 71), .bin .gtr (.tmp 70) (.const (.int .i64 0)), none⟩,
      ⟨(some 72), .beq true (.tmp 68) (.tmp 71), none⟩,
      ⟨(some 73), .mv (.tmp 72), none⟩,
      ⟨(some 74), .mv (.tmp 16), (some (73, false))⟩,
      ⟨(some 75), .mv (.tmp 74), (some (73, false))⟩,
      ⟨(some 76), .pad 0 (.tmp 15), (some (75, true))⟩,
      ⟨(some 77), .ld none (.tmp 76), (some (75, true))⟩,
      ⟨(some 78), .pad 0 (.tmp 17), (some (75, true))⟩,
      ⟨(some 79), .ld none (.tmp 78), (some (75, true))⟩,
      ⟨(some 80), .bin .lss (.tmp 77) (.tmp 79), (some (75, true))⟩,
      ⟨(some 81), .mv (.tmp 80), (some (75, true))⟩,
      ⟨(some 82), .pad 0 (.tmp 15), (some (81, false))⟩,
      ⟨(some 83), .ld none (.tmp 82), (some (81, false))⟩,
      ⟨(some 84), .pad 0 (.tmp 18), (some (81, false))⟩,
      ⟨(some 85), .ld none (.tmp 84), (some (81, false))⟩,
      ⟨(some 86), .bin .gtr (.tmp 83) (.tmp 85), (some (81, false))⟩,
      ⟨(some 87), .pk (.tmp 81) (.const (.bool true)) (.tmp 86), (some (75, true))⟩,
      ⟨(some 88), .mv (.tmp 87), (some (75, true))⟩,
      ⟨(some 89), .pad 1 (.tmp 15), (some (88, false))⟩,
      ⟨(some 90), .ld none (.tmp 89), (some (88, false))⟩,
      ⟨(some 91), .pad 1 (.tmp 17), (some (88, false))⟩,
      ⟨(some 92), .ld none (.tmp 91), (some (88, false))⟩,
      ⟨(some 93), .bin .lss (.tmp 90) (.tmp 92), (some (88, false))⟩,
      ⟨(some 94), .pk (.tmp 88) (.const (.bool true)) (.tmp 93), (some (75, true))⟩,
      ⟨(some 95), .mv (.tmp 94), (some (75, true))⟩,
      ⟨(some 96), .pad 1 (.tmp 15), (some (95, false))⟩,
      ⟨(some 97), .ld none (.tmp 96), (some (95, false))⟩,
      ⟨(some 98), .pad 1 (.tmp 18), (some (95, false))⟩,
      ⟨(some 99), .ld none (.tmp 98), (some (95, false))⟩,
      ⟨(some 100), .bin .gtr (.tmp 97) (.tmp 99), (some (95, false))⟩,
      ⟨(some 101), .pk (.tmp 95) (.const (.bool true)) (.tmp 100), (some (75, true))⟩,
      ⟨(some 102), .pk (.tmp 75) (.tmp 101) (.const (.bool false)), (some (73, false))⟩,
      ⟨(some 103), .pk (.tmp 73) (.const (.bool true)) (.tmp 102), none⟩])
   (.cond (.tmp 103)
    (.seq (.reg [⟨(some 10), .mv (.const (.bool false)), none⟩])
     .ret)
    .skip))
  (.seq (.seq (.reg [⟨(some 20), .mv (.const (.int .i64 0)), none⟩])
   (.block 0 (.loop (.seq (.seq (.reg [⟨(some 104), .mv (.tmp 20), none⟩,
         ⟨(some 105), .mv (.tmp 13), none⟩,
         ⟨(some 106), .lns (.tmp 105), none⟩,
         ⟨(some 107), .bin .lss (.tmp 104) (.tmp 106), none⟩])
      (.cond (.tmp 107)
       .skip
       (.exit 0)))
     (.seq (.block 1 (.seq (.reg [⟨(some 110), .mv (.tmp 13), none⟩,
          ⟨(some 111), .mv (.tmp 13), none⟩,
          ⟨(some 112), .mv (.tmp 20), none⟩,
          ⟨(some 113), .ixs 4 (.tmp 111) (.tmp 112), none⟩,
          ⟨(some 114), .pad 0 (.tmp 113), none⟩,
          ⟨(some 115), .ld (some 2) (.tmp 114), none⟩,
          ⟨(some 116), .call 19 [(.tmp 110), (.const (.int .i64 0)), (.tmp 115)], none⟩,
          ⟨(some 117), .un .not (.tmp 116), none⟩,
          ⟨(some 118), .mv (.tmp 117), none⟩,
          ⟨(some 119), .mv (.tmp 13), (some (118, false))⟩,
          ⟨(some 120), .mv (.tmp 1), (some (118, false))⟩,
          ⟨(some 121), .mv (.tmp 13), (some (118, false))⟩,
          ⟨(some 122), .mv (.tmp 20), (some (118, false))⟩,
          ⟨(some 123), .ixs 4 (.tmp 121) (.tmp 122), (some (118, false))⟩,
          ⟨(some 124), .pad 2 (.tmp 123), (some (118, false))⟩,
          ⟨(some 125), .ld (some 2) (.tmp 124), (some (118, false))⟩,
          ⟨(some 126), .call 19 [(.tmp 119), (.tmp 120), (.tmp 125)], (some (118, false))⟩,
          ⟨(some 127), .un .not (.tmp 126), (some (118, false))⟩,
          ⟨(some 128), .pk (.tmp 118) (.const (.bool true)) (.tmp 127), none⟩])
       (.cond (.tmp 128)
        (.seq (.reg [⟨(some 10), .mv (.const (.bool false)), none⟩])
         .ret)
        .skip)))
     (.reg [⟨(some 108), .mv (.tmp 20), none⟩,
       ⟨(some 109), .bin .add (.tmp 108) (.const (.int .i64 1)), none⟩,
       ⟨(some 20), .mv (.tmp 109), none⟩]))))))
  (.seq (.reg [⟨(some 129), .mv (.tmp 11), none⟩,
     ⟨(some 130), .mv (.tmp 129), none⟩,
     ⟨(some 131), .mv (.tmp 16), (some (130, true))⟩,
     ⟨(some 132), .un .not (.tmp 131), (some (130, true))⟩,
     ⟨(some 133), .mv (.tmp 132), (some (130, true))⟩,
     ⟨(some 134), .mv (.tmp 13), (some (133, false))⟩,
     ⟨(some 135), .mv (.tmp 1), (some (133, false))⟩,
     ⟨(some 136), .mv (.tmp 2), (some (133, false))⟩,
     ⟨(some 137), .bin .add (.tmp 135) (.tmp 136), (some (133, false))⟩,
     ⟨(some 138), .ld (some 2) (.tmp 15), (some (133, false))⟩,
     ⟨(some 139), .call 19 [(.tmp 134), (.tmp 137), (.tmp 138)], (some (133, false))⟩,
     ⟨(some 140), .mv (.tmp 139), (some (133, false))⟩,
     ⟨(some 141), .mv (.tmp 14), (some (140, true))⟩,
     ⟨(some 142), .mv (.tmp 1), (some (140, true))⟩,
     ⟨(some 143), .ld (some 2) (.tmp 15), (some (140, true))⟩,
     ⟨(some 144), .call 19 [(.tmp 141), (.tmp 142), (.tmp 143)], (some (140, true))⟩,
     ⟨(some 145), .pk (.tmp 140) (.tmp 144) (.const (.bool false)), (some (133, false))⟩,
     ⟨(some 146), .pk (.tmp 133) (.const (.bool true)) (.tmp 145), (some (130, true))⟩,
     ⟨(some 147), .pk (.tmp 130) (.tmp 146) (.const (.bool false)), none⟩,
     ⟨(some 10), .mv (.tmp 147), none⟩])
  .ret)))))))))))))))
def glyphiclaw23_StrokeBoxes.l0 : Nat → Int → Int → Int → Int → List (Int × Int × Int × Int) → Int → Option ((Bool) ⊕ (Int × Int × Bool × Bool × Int × Int))
  | 0, _, _, _, _, _, _ => none
  | k + 1, o1, A2, r3, r4, t133, x330 => if x330 < (t133.length : Int) then ((lgt t133 x330).bind fun (x332, x333, x334, x335) => ((stroke_Near_v3.f k t133 0 x332 x333).bind fun t337 => (if t337 = true then ((lgt t133 x330).bind fun (x340, x341, x342, x343) => ((stroke_Near_v3.f k t133 (Int.tmod (wr64 ((Int.tmod o1 100) + 100)) 100) x342 x343).bind fun t345 => (if t345 = true then (glyphiclaw23_StrokeBoxes.l0 k o1 A2 r3 r4 t133 (wr64 (x330 + 1))) else (some (.inl false))))) else (some (.inl false))))) else (some (.inr (Int.tmod (wr64 ((Int.tmod o1 100) + 100)) 100, Int.tmod (wr64 ((Int.tmod A2 50) + 50)) 50, true, true, wr64 ((Int.tmod (wr64 ((Int.tmod r3 200) + 200)) 200) - 100), wr64 ((Int.tmod (wr64 ((Int.tmod r4 200) + 200)) 200) - 100))))
def glyphiclaw23_StrokeBoxes.l1 : Nat → Int → Int → Int → Int → List (Int × Int × Int × Int) → Int → Option ((Bool) ⊕ (Int × Int × Bool × Bool × Int × Int))
  | 0, _, _, _, _, _, _ => none
  | k + 1, o1, A2, r3, r4, t133, x375 => if x375 < (t133.length : Int) then ((lgt t133 x375).bind fun (x377, x378, x379, x380) => ((stroke_Near_v3.f k t133 0 x377 x378).bind fun t382 => (if t382 = true then ((lgt t133 x375).bind fun (x385, x386, x387, x388) => ((stroke_Near_v3.f k t133 (Int.tmod (wr64 ((Int.tmod o1 100) + 100)) 100) x387 x388).bind fun t390 => (if t390 = true then (glyphiclaw23_StrokeBoxes.l1 k o1 A2 r3 r4 t133 (wr64 (x375 + 1))) else (some (.inl false))))) else (some (.inl false))))) else (some (.inr (Int.tmod (wr64 ((Int.tmod o1 100) + 100)) 100, Int.tmod (wr64 ((Int.tmod A2 50) + 50)) 50, true, false, wr64 ((Int.tmod (wr64 ((Int.tmod r3 200) + 200)) 200) - 100), wr64 ((Int.tmod (wr64 ((Int.tmod r4 200) + 200)) 200) - 100))))
def glyphiclaw23_StrokeBoxes.f (k : Nat) (t0 : List (Int)) (o1 : Int) (A2 : Int) (r3 : Int) (r4 : Int) : Option (Bool) := (glyphiclaw23_first.f).bind fun t35 => (if t35 = true then (if (t0.length : Int) > 100 then (some true) else ((glyphicmake_Edges_v1.f k 6 40 t0 0).bind fun (t133, t134) => ((glyphicref_Edges_v1.f k t133).bind fun t168 => ((glyphicmake_Edges_v1.f k 4 40 t0 t134).bind fun (t171, t172) => ((lapp t168 t171).bind fun y175 => ((stroke_Near_v3.f k t133 (Int.tmod (wr64 ((Int.tmod o1 100) + 100)) 100) (wr64 ((Int.tmod (wr64 ((Int.tmod r3 200) + 200)) 200) - 100)) (wr64 ((Int.tmod (wr64 ((Int.tmod r4 200) + 200)) 200) - 100))).bind fun t243 => (if t243 = true then ((stroke_Box_v1.f k t133 (Int.tmod (wr64 ((Int.tmod o1 100) + 100)) 100)).bind fun (t314, t315, t316, t317, t318) => (if t318 = (decide ((t133.length : Int) > 0)) then (if (wr64 ((Int.tmod (wr64 ((Int.tmod r3 200) + 200)) 200) - 100)) < t314 then (some false) else (if (wr64 ((Int.tmod (wr64 ((Int.tmod r3 200) + 200)) 200) - 100)) > t316 then (some false) else (if (wr64 ((Int.tmod (wr64 ((Int.tmod r4 200) + 200)) 200) - 100)) < t315 then (some false) else (if (wr64 ((Int.tmod (wr64 ((Int.tmod r4 200) + 200)) 200) - 100)) > t317 then (some false) else ((glyphiclaw23_StrokeBoxes.l0 k o1 A2 r3 r4 t133 0 : Option ((Bool) ⊕ (Int × Int × Bool × Bool × Int × Int))).bind fun s_ => match s_ with | .inl q362 => some q362 | .inr (x350, x351, x352, x353, x354, x355) => (if x352 = true then (if x353 = true then ((stroke_Near_v3.f k t133 (wr64 (x350 + x351)) x354 x355).bind fun t358 => (if t358 = true then ((stroke_Near_v3.f k y175 x350 x354 x355).bind fun t360 => (some t360)) else (some false))) else (some true)) else (some false))))))) else (some false))) else ((stroke_Box_v1.f k t133 (Int.tmod (wr64 ((Int.tmod o1 100) + 100)) 100)).bind fun (t363, t364, t365, t366, t367) => (if t367 = (decide ((t133.length : Int) > 0)) then ((glyphiclaw23_StrokeBoxes.l1 k o1 A2 r3 r4 t133 0 : Option ((Bool) ⊕ (Int × Int × Bool × Bool × Int × Int))).bind fun s_ => match s_ with | .inl q407 => some q407 | .inr (x395, x396, x397, x398, x399, x400) => (if x397 = true then (if x398 = true then ((stroke_Near_v3.f k t133 (wr64 (x395 + x396)) x399 x400).bind fun t403 => (if t403 = true then ((stroke_Near_v3.f k y175 x395 x399 x400).bind fun t405 => (some t405)) else (some false))) else (some true)) else (some false))) else (some false)))))))))) else (some false))
theorem glyphiclaw23_StrokeBoxes.ok {S : Seal} {k : Nat} {t0 : List (Int)} {o1 : Int} {A2 : Int} {r3 : Int} {r4 : Int} {a_t0 : Option Addr} {c_t0 : Nat} (h_t0 : SlE S E_i64 t0 a_t0) (e : glyphiclaw23_StrokeBoxes.f k t0 o1 A2 r3 r4 = some true) :
    Cal Try.prog 5 [.slice a_t0 t0.length c_t0, .int .i64 o1, .int .i64 A2, .int .i64 r3, .int .i64 r4] [] S fun v H' S' => v = .bool true ∧ H' = [] ∧ S' = S := by
  unfold glyphiclaw23_StrokeBoxes.f at e
  refine cal_of (c := c5) (N := 148) Try.func5 rfl rfl (by kernel_rfl) (rs := [.t 10]) (by kernel_rfl) (Nat.le_of_ble_eq_true rfl) ?_
  unfold c5
  refine w_seq ?_
  refine w_reg fun all => ?_
  refine t_qz 1 [0, 1, 2, 3, 4] (σ' := [(0, .slice a_t0 t0.length c_t0), (1, .int .i64 o1), (2, .int .i64 A2), (3, .int .i64 r3), (4, .int .i64 r4)]) (by kernel_rfl) ?_
  refine t_end ?_
  show W _ _ _ _ _ _ _
  refine w_seq ?_
  refine w_reg fun all => ?_
  obtain ⟨t35, h36, e⟩ := bind_of e
  cases t35 with
  | true =>
    rw [if_pos rfl] at e
    refine t_v (.call (vs := []) rfl rfl (by kernel_rfl) (glyphiclaw23_first.ok h36)) ?_
    refine t_qz 1 [0, 1, 2, 3, 4, 11] (σ' := [(0, .slice a_t0 t0.length c_t0), (1, .int .i64 o1), (2, .int .i64 A2), (3, .int .i64 r3), (4, .int .i64 r4), (11, .bool true)]) (by kernel_rfl) ?_
    refine t_end ?_
    show W _ _ _ _ _ _ _
    refine w_seq ?_
    refine w_seq ?_
    refine w_reg fun all => ?_
    refine t_qz 2 [0, 1, 2, 3, 4, 11, 23] (σ' := [(0, .slice a_t0 t0.length c_t0), (1, .int .i64 o1), (2, .int .i64 A2), (3, .int .i64 r3), (4, .int .i64 r4), (11, .bool true), (23, .bool false)]) (by kernel_rfl) ?_
    refine t_end ?_
    show W _ _ _ _ _ _ _
    refine w_cond rfl (fun c_ => by cases c_) (fun _ => ?_)
    show W _ _ _ _ _ _ _
    refine w_skip ?_
    show W _ _ _ _ _ _ _
    refine w_seq ?_
    refine w_seq ?_
    refine w_reg fun all => ?_
    by_cases c37 : (t0.length : Int) > 100
    · rw [if_pos c37] at e
      have c37b : (decide ((t0.length : Int) > 100)) = true := decide_eq_true c37
      refine t_qz 2 [0, 1, 2, 3, 4, 11, 25] (σ' := [(0, .slice a_t0 t0.length c_t0), (1, .int .i64 o1), (2, .int .i64 A2), (3, .int .i64 r3), (4, .int .i64 r4), (11, .bool true), (25, .int .i64 (t0.length : Int))]) (by kernel_rfl) ?_
      refine t_v (dv_quiet rfl (congrArg (fun t => some (Value.bool t)) c37b)) ?_
      refine t_keep [0, 1, 2, 3, 4, 11, 26] (σ' := [(0, .slice a_t0 t0.length c_t0), (1, .int .i64 o1), (2, .int .i64 A2), (3, .int .i64 r3), (4, .int .i64 r4), (11, .bool true), (26, .bool true)]) (by kernel_rfl) ?_
      refine t_end ?_
      show W _ _ _ _ _ _ _
      refine w_cond rfl (fun _ => ?_) (fun c_ => by cases c_)
      show W _ _ _ _ _ _ _
      refine w_seq ?_
      refine w_reg fun all => ?_
      refine t_qz 2 [10] (σ' := [(10, .bool true)]) (by kernel_rfl) ?_
      refine t_end ?_
      show W _ _ _ _ _ _ _
      refine w_ret ?_
      have hr_ := Option.some.inj e
      exact ⟨[.bool true], [], S, ⟨rfl, trivial⟩, VS.none, congrArg Value.bool hr_, rfl, rfl⟩
    · rw [if_neg c37] at e
      have c37b : (decide ((t0.length : Int) > 100)) = false := decide_eq_false c37
      refine t_qz 2 [0, 1, 2, 3, 4, 11, 25] (σ' := [(0, .slice a_t0 t0.length c_t0), (1, .int .i64 o1), (2, .int .i64 A2), (3, .int .i64 r3), (4, .int .i64 r4), (11, .bool true), (25, .int .i64 (t0.length : Int))]) (by kernel_rfl) ?_
      refine t_v (dv_quiet rfl (congrArg (fun t => some (Value.bool t)) c37b)) ?_
      refine t_keep [0, 1, 2, 3, 4, 11, 26] (σ' := [(0, .slice a_t0 t0.length c_t0), (1, .int .i64 o1), (2, .int .i64 A2), (3, .int .i64 r3), (4, .int .i64 r4), (11, .bool true), (26, .bool false)]) (by kernel_rfl) ?_
      refine t_end ?_
      show W _ _ _ _ _ _ _
      refine w_cond rfl (fun c_ => by cases c_) (fun _ => ?_)
      show W _ _ _ _ _ _ _
      refine w_skip ?_
      show W _ _ _ _ _ _ _
      refine w_seq ?_
      refine w_reg fun all => ?_
      refine t_qz 5 [0, 1, 2, 3, 4, 11] (σ' := [(0, .slice a_t0 t0.length c_t0), (1, .int .i64 (Int.tmod (wr64 ((Int.tmod o1 100) + 100)) 100)), (2, .int .i64 A2), (3, .int .i64 r3), (4, .int .i64 r4), (11, .bool true)]) (by kernel_rfl) ?_
      refine t_end ?_
      show W _ _ _ _ _ _ _
      refine w_seq ?_
      refine w_reg fun all => ?_
      refine t_qz 5 [0, 1, 2, 3, 4, 11] (σ' := [(0, .slice a_t0 t0.length c_t0), (1, .int .i64 (Int.tmod (wr64 ((Int.tmod o1 100) + 100)) 100)), (2, .int .i64 (Int.tmod (wr64 ((Int.tmod A2 50) + 50)) 50)), (3, .int .i64 r3), (4, .int .i64 r4), (11, .bool true)]) (by kernel_rfl) ?_
      refine t_end ?_
      show W _ _ _ _ _ _ _
      refine w_seq ?_
      refine w_reg fun all => ?_
      refine t_qz 2 [1, 2, 3, 4, 11, 37] (σ' := [(1, .int .i64 (Int.tmod (wr64 ((Int.tmod o1 100) + 100)) 100)), (2, .int .i64 (Int.tmod (wr64 ((Int.tmod A2 50) + 50)) 50)), (3, .int .i64 r3), (4, .int .i64 r4), (11, .bool true), (37, .agg #[.slice a_t0 t0.length c_t0, .int .i64 0])]) (by kernel_rfl) ?_
      refine t_a (.box rfl rfl rfl) fun b38 fb38 sb38 => ?_
      refine t_qz 1 [1, 2, 3, 4, 11, 12] (σ' := [(1, .int .i64 (Int.tmod (wr64 ((Int.tmod o1 100) + 100)) 100)), (2, .int .i64 (Int.tmod (wr64 ((Int.tmod A2 50) + 50)) 50)), (3, .int .i64 r3), (4, .int .i64 r4), (11, .bool true), (12, .pointer (some ⟨b38, 0, none⟩))]) (by kernel_rfl) ?_
      refine t_end ?_
      show W _ _ _ _ _ _ _
      refine w_seq ?_
      refine w_reg fun all => ?_
      obtain ⟨⟨t133, t134⟩, h135, e⟩ := bind_of e
      try dsimp only at e
      refine t_qz 1 [1, 2, 3, 4, 11, 12, 39] (σ' := [(1, .int .i64 (Int.tmod (wr64 ((Int.tmod o1 100) + 100)) 100)), (2, .int .i64 (Int.tmod (wr64 ((Int.tmod A2 50) + 50)) 50)), (3, .int .i64 r3), (4, .int .i64 r4), (11, .bool true), (12, .pointer (some ⟨b38, 0, none⟩)), (39, .pointer (some ⟨b38, 0, none⟩))]) (by kernel_rfl) ?_
      refine t_call (vs := [.pointer (some ⟨b38, 0, none⟩), .int .i64 6, .int .i64 40]) (H1 := ([⟨b38, [.slice a_t0 t0.length c_t0, .int .i64 0], 2⟩] : List Own)) (F := ([] : List Own)) rfl rfl (by kernel_rfl) (sel_perm (is := [0]) (by kernel_rfl)) (glyphicmake_Edges_v1.ok h_t0 h135) ?_
      rintro _ _ S_ ⟨N136, nN136, rfl, rfl, hS_⟩
      obtain rfl := hS_.symm
      refine t_qz 1 [1, 2, 3, 4, 11, 12, 13] (σ' := [(1, .int .i64 (Int.tmod (wr64 ((Int.tmod o1 100) + 100)) 100)), (2, .int .i64 (Int.tmod (wr64 ((Int.tmod A2 50) + 50)) 50)), (3, .int .i64 r3), (4, .int .i64 r4), (11, .bool true), (12, .pointer (some ⟨b38, 0, none⟩)), (13, .slice (ad N136) t133.length (nN136 / 4))]) (by kernel_rfl) ?_
      refine t_end ?_
      show W _ _ _ _ _ _ _
      refine w_seq ?_
      refine w_reg fun all => ?_
      obtain ⟨t168, h169, e⟩ := bind_of e
      refine t_qz 1 [1, 2, 3, 4, 11, 12, 13, 41] (σ' := [(1, .int .i64 (Int.tmod (wr64 ((Int.tmod o1 100) + 100)) 100)), (2, .int .i64 (Int.tmod (wr64 ((Int.tmod A2 50) + 50)) 50)), (3, .int .i64 r3), (4, .int .i64 r4), (11, .bool true), (12, .pointer (some ⟨b38, 0, none⟩)), (13, .slice (ad N136) t133.length (nN136 / 4)), (41, .slice (ad N136) t133.length (nN136 / 4))]) (by kernel_rfl) ?_
      refine t_call (vs := [.slice (ad N136) t133.length (nN136 / 4)]) (H1 := ([⟨N136, encL E_i644 t133, nN136⟩] : List Own)) (F := ([⟨b38, [.slice a_t0 t0.length c_t0, .int .i64 t134], 2⟩] : List Own)) rfl rfl (by kernel_rfl) (sel_perm (is := [0]) (by kernel_rfl)) (cal_lend (Qc := fun v_ H_ => ∃ (N170 : Option Nat) (nN170 : Nat), v_ = (.slice (ad N170) t168.length (nN170 / 4)) ∧ H_ = ([⟨N170, encL E_i644 t168, nN170⟩] : List Own)) fun S1_ le1_ hS1_ => (glyphicref_Edges_v1.ok (SlE.ofAd (E := E_i644) (L := t133) hS1_ (by decide)) h169).mono fun _ _ _ ⟨N170, nN170, h1_, h2_, h3_⟩ => ⟨⟨N170, nN170, h1_, h2_⟩, h3_⟩) ?_
      rintro _ _ S_ ⟨⟨_, rfl, ⟨N170, nN170, rfl, rfl⟩⟩, hS_⟩
      obtain rfl := hS_.symm
      obtain ⟨⟨t171, t172⟩, h173, e⟩ := bind_of e
      try dsimp only at e
      refine t_qz 1 [1, 2, 3, 4, 11, 13, 42, 43] (σ' := [(1, .int .i64 (Int.tmod (wr64 ((Int.tmod o1 100) + 100)) 100)), (2, .int .i64 (Int.tmod (wr64 ((Int.tmod A2 50) + 50)) 50)), (3, .int .i64 r3), (4, .int .i64 r4), (11, .bool true), (13, .slice (ad N136) t133.length (nN136 / 4)), (42, .slice (ad N170) t168.length (nN170 / 4)), (43, .pointer (some ⟨b38, 0, none⟩))]) (by kernel_rfl) ?_
      refine t_call (vs := [.pointer (some ⟨b38, 0, none⟩), .int .i64 4, .int .i64 40]) (H1 := ([⟨b38, [.slice a_t0 t0.length c_t0, .int .i64 t134], 2⟩] : List Own)) (F := ([⟨N136, encL E_i644 t133, nN136⟩, ⟨N170, encL E_i644 t168, nN170⟩] : List Own)) rfl rfl (by kernel_rfl) (sel_perm (is := [2]) (by kernel_rfl)) (glyphicmake_Edges_v1.ok h_t0 h173) ?_
      rintro _ _ S_ ⟨N174, nN174, rfl, rfl, hS_⟩
      obtain rfl := hS_.symm
      obtain ⟨y175, hl176, e⟩ := bind_of e
      refine t_pure (fun w_ h_ => apO (E := E_i644) (z := 4) h_ (j := 0) rfl rfl (by decide)) fun hy_ => ?_
      refine t_appX (E := E_i644) (L := t168) (X := t171) (F := ([⟨N174, encL E_i644 t171, nN174⟩, ⟨b38, [.slice a_t0 t0.length c_t0, .int .i64 t172], 2⟩, ⟨N136, encL E_i644 t133, nN136⟩] : List Own)) rfl rfl rfl rfl (sel_perm (is := [3]) (by kernel_rfl)) rfl hy_ rfl (by decide) (by decide) rfl hl176 fun a177 na177 => ?_
      refine t_qz 1 [1, 2, 3, 4, 11, 13, 14] (σ' := [(1, .int .i64 (Int.tmod (wr64 ((Int.tmod o1 100) + 100)) 100)), (2, .int .i64 (Int.tmod (wr64 ((Int.tmod A2 50) + 50)) 50)), (3, .int .i64 r3), (4, .int .i64 r4), (11, .bool true), (13, .slice (ad N136) t133.length (nN136 / 4)), (14, .slice (ad a177) y175.length (na177 / 4))]) (by kernel_rfl) ?_
      refine t_end ?_
      show W _ _ _ _ _ _ _
      refine w_seq ?_
      refine w_reg fun all => ?_
      refine t_qz 11 [1, 2, 11, 13, 14, 56] (σ' := [(1, .int .i64 (Int.tmod (wr64 ((Int.tmod o1 100) + 100)) 100)), (2, .int .i64 (Int.tmod (wr64 ((Int.tmod A2 50) + 50)) 50)), (11, .bool true), (13, .slice (ad N136) t133.length (nN136 / 4)), (14, .slice (ad a177) y175.length (na177 / 4)), (56, .agg #[.int .i64 (wr64 ((Int.tmod (wr64 ((Int.tmod r3 200) + 200)) 200) - 100)), .int .i64 (wr64 ((Int.tmod (wr64 ((Int.tmod r4 200) + 200)) 200) - 100))])]) (by kernel_rfl) ?_
      refine t_a (.new rfl rfl) fun b178 fb178 sb178 => ?_
      refine t_sti 0 (cs := [.int .i64 (wr64 ((Int.tmod (wr64 ((Int.tmod r3 200) + 200)) 200) - 100)), .int .i64 (wr64 ((Int.tmod (wr64 ((Int.tmod r4 200) + 200)) 200) - 100))]) rfl rfl rfl rfl rfl rfl rfl rfl rfl ?_
      refine t_keep [1, 2, 11, 13, 14, 15] (σ' := [(1, .int .i64 (Int.tmod (wr64 ((Int.tmod o1 100) + 100)) 100)), (2, .int .i64 (Int.tmod (wr64 ((Int.tmod A2 50) + 50)) 50)), (11, .bool true), (13, .slice (ad N136) t133.length (nN136 / 4)), (14, .slice (ad a177) y175.length (na177 / 4)), (15, .pointer (some ⟨b178, 0, none⟩))]) (by kernel_rfl) ?_
      refine t_end ?_
      show W _ _ _ _ _ _ _
      refine w_seq ?_
      refine w_reg fun all => ?_
      refine t_qz 2 [1, 2, 11, 13, 14, 15, 57, 58] (σ' := [(1, .int .i64 (Int.tmod (wr64 ((Int.tmod o1 100) + 100)) 100)), (2, .int .i64 (Int.tmod (wr64 ((Int.tmod A2 50) + 50)) 50)), (11, .bool true), (13, .slice (ad N136) t133.length (nN136 / 4)), (14, .slice (ad a177) y175.length (na177 / 4)), (15, .pointer (some ⟨b178, 0, none⟩)), (57, .slice (ad N136) t133.length (nN136 / 4)), (58, .int .i64 (Int.tmod (wr64 ((Int.tmod o1 100) + 100)) 100))]) (by kernel_rfl) ?_
      refine t_v (.ldn rfl rfl rfl (.at 0 rfl rfl)) ?_
      obtain ⟨t243, h244, e⟩ := bind_of e
      cases t243 with
      | true =>
        rw [if_pos rfl] at e
        refine t_v (.callr (vs := [.slice (ad N136) t133.length (nN136 / 4), .int .i64 (Int.tmod (wr64 ((Int.tmod o1 100) + 100)) 100), .agg #[.int .i64 (wr64 ((Int.tmod (wr64 ((Int.tmod r3 200) + 200)) 200) - 100)), .int .i64 (wr64 ((Int.tmod (wr64 ((Int.tmod r4 200) + 200)) 200) - 100))]]) (A := ([⟨N136, encL E_i644 t133, nN136⟩] : List Own)) (F0 := ([⟨b178, [.int .i64 (wr64 ((Int.tmod (wr64 ((Int.tmod r3 200) + 200)) 200) - 100)), .int .i64 (wr64 ((Int.tmod (wr64 ((Int.tmod r4 200) + 200)) 200) - 100))], 2⟩, ⟨a177, encL E_i644 y175, na177⟩, ⟨N174, encL E_i644 t171, nN174⟩, ⟨b38, [.slice a_t0 t0.length c_t0, .int .i64 t172], 2⟩] : List Own)) rfl rfl (by kernel_rfl) (sel_perm (is := [4]) (by kernel_rfl)) (cal_lendr fun S1_ le1_ hS1_ => (stroke_Near_v3.ok (SlE.ofAd (E := E_i644) (L := t133) hS1_ (by decide)) h244))) ?_
        refine t_qz 1 [1, 2, 11, 13, 14, 15, 16] (σ' := [(1, .int .i64 (Int.tmod (wr64 ((Int.tmod o1 100) + 100)) 100)), (2, .int .i64 (Int.tmod (wr64 ((Int.tmod A2 50) + 50)) 50)), (11, .bool true), (13, .slice (ad N136) t133.length (nN136 / 4)), (14, .slice (ad a177) y175.length (na177 / 4)), (15, .pointer (some ⟨b178, 0, none⟩)), (16, .bool true)]) (by kernel_rfl) ?_
        refine t_end ?_
        show W _ _ _ _ _ _ _
        refine w_seq ?_
        refine w_reg fun all => ?_
        obtain ⟨⟨t314, t315, t316, t317, t318⟩, h319, e⟩ := bind_of e
        try dsimp only at e
        refine t_qz 2 [1, 2, 11, 13, 14, 15, 16, 62, 63] (σ' := [(1, .int .i64 (Int.tmod (wr64 ((Int.tmod o1 100) + 100)) 100)), (2, .int .i64 (Int.tmod (wr64 ((Int.tmod A2 50) + 50)) 50)), (11, .bool true), (13, .slice (ad N136) t133.length (nN136 / 4)), (14, .slice (ad a177) y175.length (na177 / 4)), (15, .pointer (some ⟨b178, 0, none⟩)), (16, .bool true), (62, .slice (ad N136) t133.length (nN136 / 4)), (63, .int .i64 (Int.tmod (wr64 ((Int.tmod o1 100) + 100)) 100))]) (by kernel_rfl) ?_
        refine t_v (.callr (vs := [.slice (ad N136) t133.length (nN136 / 4), .int .i64 (Int.tmod (wr64 ((Int.tmod o1 100) + 100)) 100)]) (A := ([⟨N136, encL E_i644 t133, nN136⟩] : List Own)) (F0 := ([⟨b178, [.int .i64 (wr64 ((Int.tmod (wr64 ((Int.tmod r3 200) + 200)) 200) - 100)), .int .i64 (wr64 ((Int.tmod (wr64 ((Int.tmod r4 200) + 200)) 200) - 100))], 2⟩, ⟨a177, encL E_i644 y175, na177⟩, ⟨N174, encL E_i644 t171, nN174⟩, ⟨b38, [.slice a_t0 t0.length c_t0, .int .i64 t172], 2⟩] : List Own)) rfl rfl (by kernel_rfl) (sel_perm (is := [4]) (by kernel_rfl)) (cal_lendr fun S1_ le1_ hS1_ => (stroke_Box_v1.ok (SlE.ofAd (E := E_i644) (L := t133) hS1_ (by decide)) h319))) ?_
        refine t_qz 4 [1, 2, 11, 13, 14, 15, 16, 65, 66, 67] (σ' := [(1, .int .i64 (Int.tmod (wr64 ((Int.tmod o1 100) + 100)) 100)), (2, .int .i64 (Int.tmod (wr64 ((Int.tmod A2 50) + 50)) 50)), (11, .bool true), (13, .slice (ad N136) t133.length (nN136 / 4)), (14, .slice (ad a177) y175.length (na177 / 4)), (15, .pointer (some ⟨b178, 0, none⟩)), (16, .bool true), (65, .agg #[.int .i64 t314, .int .i64 t315]), (66, .agg #[.int .i64 t316, .int .i64 t317]), (67, .bool t318)]) (by kernel_rfl) ?_
        refine t_a (.new rfl rfl) fun b320 fb320 sb320 => ?_
        refine t_a (.new rfl rfl) fun b321 fb321 sb321 => ?_
        refine t_sti 1 (cs := [.int .i64 t314, .int .i64 t315]) rfl rfl rfl rfl rfl rfl rfl rfl rfl ?_
        refine t_sti 0 (cs := [.int .i64 t316, .int .i64 t317]) rfl rfl rfl rfl rfl rfl rfl rfl rfl ?_
        refine t_qz 1 [1, 2, 11, 13, 14, 15, 16, 17, 18, 19] (σ' := [(1, .int .i64 (Int.tmod (wr64 ((Int.tmod o1 100) + 100)) 100)), (2, .int .i64 (Int.tmod (wr64 ((Int.tmod A2 50) + 50)) 50)), (11, .bool true), (13, .slice (ad N136) t133.length (nN136 / 4)), (14, .slice (ad a177) y175.length (na177 / 4)), (15, .pointer (some ⟨b178, 0, none⟩)), (16, .bool true), (17, .pointer (some ⟨b320, 0, none⟩)), (18, .pointer (some ⟨b321, 0, none⟩)), (19, .bool t318)]) (by kernel_rfl) ?_
        refine t_end ?_
        show W _ _ _ _ _ _ _
        refine w_seq ?_
        refine w_seq ?_
        refine w_reg fun all => ?_
        by_cases c322 : t318 = (decide ((t133.length : Int) > 0))
        · rw [if_pos c322] at e
          have c322b : (t318 == (decide ((t133.length : Int) > 0))) = true := beq_iff_eq.mpr c322
          refine t_qz 4 [1, 2, 11, 13, 14, 15, 16, 17, 18, 68, 71] (σ' := [(1, .int .i64 (Int.tmod (wr64 ((Int.tmod o1 100) + 100)) 100)), (2, .int .i64 (Int.tmod (wr64 ((Int.tmod A2 50) + 50)) 50)), (11, .bool true), (13, .slice (ad N136) t133.length (nN136 / 4)), (14, .slice (ad a177) y175.length (na177 / 4)), (15, .pointer (some ⟨b178, 0, none⟩)), (16, .bool true), (17, .pointer (some ⟨b320, 0, none⟩)), (18, .pointer (some ⟨b321, 0, none⟩)), (68, .bool t318), (71, .bool (decide ((t133.length : Int) > 0)))]) (by kernel_rfl) ?_
          refine t_v (dv_quiet rfl (congrArg (fun t => some (Value.bool (!t))) c322b)) ?_
          refine t_qz 4 [1, 2, 11, 13, 14, 15, 16, 17, 18, 73, 75, 76] (σ' := [(1, .int .i64 (Int.tmod (wr64 ((Int.tmod o1 100) + 100)) 100)), (2, .int .i64 (Int.tmod (wr64 ((Int.tmod A2 50) + 50)) 50)), (11, .bool true), (13, .slice (ad N136) t133.length (nN136 / 4)), (14, .slice (ad a177) y175.length (na177 / 4)), (15, .pointer (some ⟨b178, 0, none⟩)), (16, .bool true), (17, .pointer (some ⟨b320, 0, none⟩)), (18, .pointer (some ⟨b321, 0, none⟩)), (73, .bool false), (75, .bool true), (76, .pointer (some ⟨b178, 0, none⟩))]) (by kernel_rfl) ?_
          refine t_v (.ld1 rfl rfl rfl (.at 2 rfl rfl)) ?_
          refine t_qz 1 [1, 2, 11, 13, 14, 15, 16, 17, 18, 73, 75, 77, 78] (σ' := [(1, .int .i64 (Int.tmod (wr64 ((Int.tmod o1 100) + 100)) 100)), (2, .int .i64 (Int.tmod (wr64 ((Int.tmod A2 50) + 50)) 50)), (11, .bool true), (13, .slice (ad N136) t133.length (nN136 / 4)), (14, .slice (ad a177) y175.length (na177 / 4)), (15, .pointer (some ⟨b178, 0, none⟩)), (16, .bool true), (17, .pointer (some ⟨b320, 0, none⟩)), (18, .pointer (some ⟨b321, 0, none⟩)), (73, .bool false), (75, .bool true), (77, .int .i64 (wr64 ((Int.tmod (wr64 ((Int.tmod r3 200) + 200)) 200) - 100))), (78, .pointer (some ⟨b320, 0, none⟩))]) (by kernel_rfl) ?_
          refine t_v (.ld1 rfl rfl rfl (.at 1 rfl rfl)) ?_
          by_cases c323 : (wr64 ((Int.tmod (wr64 ((Int.tmod r3 200) + 200)) 200) - 100)) < t314
          · rw [if_pos c323] at e
            exact absurd (Option.some.inj e) (by decide)
          · rw [if_neg c323] at e
            have c323b : (decide ((wr64 ((Int.tmod (wr64 ((Int.tmod r3 200) + 200)) 200) - 100)) < t314)) = false := decide_eq_false c323
            refine t_v (dv_quiet rfl (congrArg (fun t => some (Value.bool t)) c323b)) ?_
            refine t_qz 2 [1, 2, 11, 13, 14, 15, 16, 17, 18, 73, 75, 81, 82] (σ' := [(1, .int .i64 (Int.tmod (wr64 ((Int.tmod o1 100) + 100)) 100)), (2, .int .i64 (Int.tmod (wr64 ((Int.tmod A2 50) + 50)) 50)), (11, .bool true), (13, .slice (ad N136) t133.length (nN136 / 4)), (14, .slice (ad a177) y175.length (na177 / 4)), (15, .pointer (some ⟨b178, 0, none⟩)), (16, .bool true), (17, .pointer (some ⟨b320, 0, none⟩)), (18, .pointer (some ⟨b321, 0, none⟩)), (73, .bool false), (75, .bool true), (81, .bool false), (82, .pointer (some ⟨b178, 0, none⟩))]) (by kernel_rfl) ?_
            refine t_v (.ld1 rfl rfl rfl (.at 2 rfl rfl)) ?_
            refine t_qz 1 [1, 2, 11, 13, 14, 15, 16, 17, 18, 73, 75, 81, 83, 84] (σ' := [(1, .int .i64 (Int.tmod (wr64 ((Int.tmod o1 100) + 100)) 100)), (2, .int .i64 (Int.tmod (wr64 ((Int.tmod A2 50) + 50)) 50)), (11, .bool true), (13, .slice (ad N136) t133.length (nN136 / 4)), (14, .slice (ad a177) y175.length (na177 / 4)), (15, .pointer (some ⟨b178, 0, none⟩)), (16, .bool true), (17, .pointer (some ⟨b320, 0, none⟩)), (18, .pointer (some ⟨b321, 0, none⟩)), (73, .bool false), (75, .bool true), (81, .bool false), (83, .int .i64 (wr64 ((Int.tmod (wr64 ((Int.tmod r3 200) + 200)) 200) - 100))), (84, .pointer (some ⟨b321, 0, none⟩))]) (by kernel_rfl) ?_
            refine t_v (.ld1 rfl rfl rfl (.at 0 rfl rfl)) ?_
            by_cases c324 : (wr64 ((Int.tmod (wr64 ((Int.tmod r3 200) + 200)) 200) - 100)) > t316
            · rw [if_pos c324] at e
              exact absurd (Option.some.inj e) (by decide)
            · rw [if_neg c324] at e
              have c324b : (decide ((wr64 ((Int.tmod (wr64 ((Int.tmod r3 200) + 200)) 200) - 100)) > t316)) = false := decide_eq_false c324
              refine t_v (dv_quiet rfl (congrArg (fun t => some (Value.bool t)) c324b)) ?_
              refine t_qz 3 [1, 2, 11, 13, 14, 15, 16, 17, 18, 73, 75, 88, 89] (σ' := [(1, .int .i64 (Int.tmod (wr64 ((Int.tmod o1 100) + 100)) 100)), (2, .int .i64 (Int.tmod (wr64 ((Int.tmod A2 50) + 50)) 50)), (11, .bool true), (13, .slice (ad N136) t133.length (nN136 / 4)), (14, .slice (ad a177) y175.length (na177 / 4)), (15, .pointer (some ⟨b178, 0, none⟩)), (16, .bool true), (17, .pointer (some ⟨b320, 0, none⟩)), (18, .pointer (some ⟨b321, 0, none⟩)), (73, .bool false), (75, .bool true), (88, .bool false), (89, .pointer (some ⟨b178, 1, none⟩))]) (by kernel_rfl) ?_
              refine t_v (.ld1 rfl rfl rfl (.at 2 rfl rfl)) ?_
              refine t_qz 1 [1, 2, 11, 13, 14, 15, 16, 18, 73, 75, 88, 90, 91] (σ' := [(1, .int .i64 (Int.tmod (wr64 ((Int.tmod o1 100) + 100)) 100)), (2, .int .i64 (Int.tmod (wr64 ((Int.tmod A2 50) + 50)) 50)), (11, .bool true), (13, .slice (ad N136) t133.length (nN136 / 4)), (14, .slice (ad a177) y175.length (na177 / 4)), (15, .pointer (some ⟨b178, 0, none⟩)), (16, .bool true), (18, .pointer (some ⟨b321, 0, none⟩)), (73, .bool false), (75, .bool true), (88, .bool false), (90, .int .i64 (wr64 ((Int.tmod (wr64 ((Int.tmod r4 200) + 200)) 200) - 100))), (91, .pointer (some ⟨b320, 1, none⟩))]) (by kernel_rfl) ?_
              refine t_v (.ld1 rfl rfl rfl (.at 1 rfl rfl)) ?_
              by_cases c325 : (wr64 ((Int.tmod (wr64 ((Int.tmod r4 200) + 200)) 200) - 100)) < t315
              · rw [if_pos c325] at e
                exact absurd (Option.some.inj e) (by decide)
              · rw [if_neg c325] at e
                have c325b : (decide ((wr64 ((Int.tmod (wr64 ((Int.tmod r4 200) + 200)) 200) - 100)) < t315)) = false := decide_eq_false c325
                refine t_v (dv_quiet rfl (congrArg (fun t => some (Value.bool t)) c325b)) ?_
                refine t_qz 3 [1, 2, 11, 13, 14, 15, 16, 18, 73, 75, 95, 96] (σ' := [(1, .int .i64 (Int.tmod (wr64 ((Int.tmod o1 100) + 100)) 100)), (2, .int .i64 (Int.tmod (wr64 ((Int.tmod A2 50) + 50)) 50)), (11, .bool true), (13, .slice (ad N136) t133.length (nN136 / 4)), (14, .slice (ad a177) y175.length (na177 / 4)), (15, .pointer (some ⟨b178, 0, none⟩)), (16, .bool true), (18, .pointer (some ⟨b321, 0, none⟩)), (73, .bool false), (75, .bool true), (95, .bool false), (96, .pointer (some ⟨b178, 1, none⟩))]) (by kernel_rfl) ?_
                refine t_v (.ld1 rfl rfl rfl (.at 2 rfl rfl)) ?_
                refine t_qz 1 [1, 2, 11, 13, 14, 15, 16, 73, 75, 95, 97, 98] (σ' := [(1, .int .i64 (Int.tmod (wr64 ((Int.tmod o1 100) + 100)) 100)), (2, .int .i64 (Int.tmod (wr64 ((Int.tmod A2 50) + 50)) 50)), (11, .bool true), (13, .slice (ad N136) t133.length (nN136 / 4)), (14, .slice (ad a177) y175.length (na177 / 4)), (15, .pointer (some ⟨b178, 0, none⟩)), (16, .bool true), (73, .bool false), (75, .bool true), (95, .bool false), (97, .int .i64 (wr64 ((Int.tmod (wr64 ((Int.tmod r4 200) + 200)) 200) - 100))), (98, .pointer (some ⟨b321, 1, none⟩))]) (by kernel_rfl) ?_
                refine t_v (.ld1 rfl rfl rfl (.at 0 rfl rfl)) ?_
                by_cases c326 : (wr64 ((Int.tmod (wr64 ((Int.tmod r4 200) + 200)) 200) - 100)) > t317
                · rw [if_pos c326] at e
                  exact absurd (Option.some.inj e) (by decide)
                · rw [if_neg c326] at e
                  have c326b : (decide ((wr64 ((Int.tmod (wr64 ((Int.tmod r4 200) + 200)) 200) - 100)) > t317)) = false := decide_eq_false c326
                  refine t_v (dv_quiet rfl (congrArg (fun t => some (Value.bool t)) c326b)) ?_
                  refine t_qz 3 [1, 2, 11, 13, 14, 15, 16, 103] (σ' := [(1, .int .i64 (Int.tmod (wr64 ((Int.tmod o1 100) + 100)) 100)), (2, .int .i64 (Int.tmod (wr64 ((Int.tmod A2 50) + 50)) 50)), (11, .bool true), (13, .slice (ad N136) t133.length (nN136 / 4)), (14, .slice (ad a177) y175.length (na177 / 4)), (15, .pointer (some ⟨b178, 0, none⟩)), (16, .bool true), (103, .bool false)]) (by kernel_rfl) ?_
                  refine t_end ?_
                  show W _ _ _ _ _ _ _
                  refine w_cond rfl (fun c_ => by cases c_) (fun _ => ?_)
                  show W _ _ _ _ _ _ _
                  refine w_skip ?_
                  show W _ _ _ _ _ _ _
                  obtain ⟨s329, e328, e⟩ := bind_of e
                  refine w_cut [1, 2, 11, 13, 14, 15, 16] (fun σ_ H_ S_ => ∃ (x350 : Int) (x351 : Int) (x352 : Bool) (x353 : Bool) (x354 : Int) (x355 : Int), s329 = .inr (x350, x351, x352, x353, x354, x355) ∧ [(1, .int .i64 x350), (2, .int .i64 x351), (11, .bool x352), (13, .slice (ad N136) t133.length (nN136 / 4)), (14, .slice (ad a177) y175.length (na177 / 4)), (15, .pointer (some ⟨b178, 0, none⟩)), (16, .bool x353)] = σ_ ∧ ([⟨b321, [.int .i64 t316, .int .i64 t317], 2⟩, ⟨b320, [.int .i64 t314, .int .i64 t315], 2⟩, ⟨b178, [.int .i64 x354, .int .i64 x355], 2⟩, ⟨b38, [.slice a_t0 t0.length c_t0, .int .i64 t172], 2⟩, ⟨N136, encL E_i644 t133, nN136⟩, ⟨a177, encL E_i644 y175, na177⟩, ⟨N174, encL E_i644 t171, nN174⟩] : List Own) = H_ ∧ S = S_) ?_ ?_
                  · show W _ _ _ _ _ _ _
                    refine w_seq ?_
                    refine w_reg fun all => ?_
                    refine t_qz 1 [1, 2, 11, 13, 14, 15, 16, 20] (σ' := [(1, .int .i64 (Int.tmod (wr64 ((Int.tmod o1 100) + 100)) 100)), (2, .int .i64 (Int.tmod (wr64 ((Int.tmod A2 50) + 50)) 50)), (11, .bool true), (13, .slice (ad N136) t133.length (nN136 / 4)), (14, .slice (ad a177) y175.length (na177 / 4)), (15, .pointer (some ⟨b178, 0, none⟩)), (16, .bool true), (20, .int .i64 0)]) (by kernel_rfl) ?_
                    refine t_end ?_
                    show W _ _ _ _ _ _ _
                    refine w_block ?_
                    refine w_kp [1, 2, 11, 13, 14, 15, 16, 20] (σ' := [(1, .int .i64 (Int.tmod (wr64 ((Int.tmod o1 100) + 100)) 100)), (2, .int .i64 (Int.tmod (wr64 ((Int.tmod A2 50) + 50)) 50)), (11, .bool true), (13, .slice (ad N136) t133.length (nN136 / 4)), (14, .slice (ad a177) y175.length (na177 / 4)), (15, .pointer (some ⟨b178, 0, none⟩)), (16, .bool true), (20, .int .i64 0)]) (by kernel_rfl) ?_
                    refine w_loop (fun n_ σ_ H_ S_ => ∃ (x330 : Int), [(1, .int .i64 (Int.tmod (wr64 ((Int.tmod o1 100) + 100)) 100)), (2, .int .i64 (Int.tmod (wr64 ((Int.tmod A2 50) + 50)) 50)), (11, .bool true), (13, .slice (ad N136) t133.length (nN136 / 4)), (14, .slice (ad a177) y175.length (na177 / 4)), (15, .pointer (some ⟨b178, 0, none⟩)), (16, .bool true), (20, .int .i64 x330)] = σ_ ∧ ([⟨b321, [.int .i64 t316, .int .i64 t317], 2⟩, ⟨b320, [.int .i64 t314, .int .i64 t315], 2⟩, ⟨b178, [.int .i64 (wr64 ((Int.tmod (wr64 ((Int.tmod r3 200) + 200)) 200) - 100)), .int .i64 (wr64 ((Int.tmod (wr64 ((Int.tmod r4 200) + 200)) 200) - 100))], 2⟩, ⟨a177, encL E_i644 y175, na177⟩, ⟨N174, encL E_i644 t171, nN174⟩, ⟨b38, [.slice a_t0 t0.length c_t0, .int .i64 t172], 2⟩, ⟨N136, encL E_i644 t133, nN136⟩] : List Own) = H_ ∧ S = S_ ∧ glyphiclaw23_StrokeBoxes.l0 n_ o1 A2 r3 r4 t133 x330 = some s329) _ ⟨0, rfl, rfl, rfl, e328⟩ ?_
                    rintro n349 σ_ H_ S_ ⟨x330, rfl, rfl, rfl, e328⟩
                    cases n349 with
                    | zero => rw [glyphiclaw23_StrokeBoxes.l0.eq_1] at e328; cases e328
                    | succ k_ =>
                      rw [glyphiclaw23_StrokeBoxes.l0.eq_2] at e328
                      refine w_seq ?_
                      refine w_seq ?_
                      refine w_reg fun all => ?_
                      by_cases c331 : x330 < (t133.length : Int)
                      · rw [if_pos c331] at e328
                        have c331b : (decide (x330 < (t133.length : Int))) = true := decide_eq_true c331
                        refine t_qz 3 [1, 2, 11, 13, 14, 15, 16, 20, 104, 106] (σ' := [(1, .int .i64 (Int.tmod (wr64 ((Int.tmod o1 100) + 100)) 100)), (2, .int .i64 (Int.tmod (wr64 ((Int.tmod A2 50) + 50)) 50)), (11, .bool true), (13, .slice (ad N136) t133.length (nN136 / 4)), (14, .slice (ad a177) y175.length (na177 / 4)), (15, .pointer (some ⟨b178, 0, none⟩)), (16, .bool true), (20, .int .i64 x330), (104, .int .i64 x330), (106, .int .i64 (t133.length : Int))]) (by kernel_rfl) ?_
                        refine t_v (dv_quiet rfl (congrArg (fun t => some (Value.bool t)) c331b)) ?_
                        refine t_keep [1, 2, 11, 13, 14, 15, 16, 20, 107] (σ' := [(1, .int .i64 (Int.tmod (wr64 ((Int.tmod o1 100) + 100)) 100)), (2, .int .i64 (Int.tmod (wr64 ((Int.tmod A2 50) + 50)) 50)), (11, .bool true), (13, .slice (ad N136) t133.length (nN136 / 4)), (14, .slice (ad a177) y175.length (na177 / 4)), (15, .pointer (some ⟨b178, 0, none⟩)), (16, .bool true), (20, .int .i64 x330), (107, .bool true)]) (by kernel_rfl) ?_
                        refine t_end ?_
                        show W _ _ _ _ _ _ _
                        refine w_cond rfl (fun _ => ?_) (fun c_ => by cases c_)
                        show W _ _ _ _ _ _ _
                        refine w_skip ?_
                        show W _ _ _ _ _ _ _
                        refine w_seq ?_
                        refine w_block ?_
                        refine w_seq ?_
                        refine w_reg fun all => ?_
                        obtain ⟨⟨x332, x333, x334, x335⟩, hx336, e328⟩ := bind_of e328
                        try dsimp only at e328
                        refine t_qz 3 [1, 2, 11, 13, 14, 15, 16, 20, 110, 111, 112] (σ' := [(1, .int .i64 (Int.tmod (wr64 ((Int.tmod o1 100) + 100)) 100)), (2, .int .i64 (Int.tmod (wr64 ((Int.tmod A2 50) + 50)) 50)), (11, .bool true), (13, .slice (ad N136) t133.length (nN136 / 4)), (14, .slice (ad a177) y175.length (na177 / 4)), (15, .pointer (some ⟨b178, 0, none⟩)), (16, .bool true), (20, .int .i64 x330), (110, .slice (ad N136) t133.length (nN136 / 4)), (111, .slice (ad N136) t133.length (nN136 / 4)), (112, .int .i64 x330)]) (by kernel_rfl) ?_
                        refine t_v (.quietH rfl (by intro h_; cases h_) (ixl (E := E_i644) (j := 6) rfl rfl rfl (by decide) rfl hx336)) ?_
                        refine t_qz 1 [1, 2, 11, 13, 14, 15, 16, 20, 110, 114] (σ' := [(1, .int .i64 (Int.tmod (wr64 ((Int.tmod o1 100) + 100)) 100)), (2, .int .i64 (Int.tmod (wr64 ((Int.tmod A2 50) + 50)) 50)), (11, .bool true), (13, .slice (ad N136) t133.length (nN136 / 4)), (14, .slice (ad a177) y175.length (na177 / 4)), (15, .pointer (some ⟨b178, 0, none⟩)), (16, .bool true), (20, .int .i64 x330), (110, .slice (ad N136) t133.length (nN136 / 4)), (114, .pointer (some ⟨bk N136, (x330).toNat * 4 + 0, none⟩))]) (by kernel_rfl) ?_
                        refine t_v (.ldn (vs := [.int .i64 x332, .int .i64 x333]) rfl rfl rfl (.lst 6 rfl (encL_sub (lgt_in hx336).1 (by kernel_rfl)))) ?_
                        obtain ⟨t337, h338, e328⟩ := bind_of e328
                        refine t_v (.callr (vs := [.slice (ad N136) t133.length (nN136 / 4), .int .i64 0, .agg #[.int .i64 x332, .int .i64 x333]]) (A := ([⟨N136, encL E_i644 t133, nN136⟩] : List Own)) (F0 := ([⟨b321, [.int .i64 t316, .int .i64 t317], 2⟩, ⟨b320, [.int .i64 t314, .int .i64 t315], 2⟩, ⟨b178, [.int .i64 (wr64 ((Int.tmod (wr64 ((Int.tmod r3 200) + 200)) 200) - 100)), .int .i64 (wr64 ((Int.tmod (wr64 ((Int.tmod r4 200) + 200)) 200) - 100))], 2⟩, ⟨a177, encL E_i644 y175, na177⟩, ⟨N174, encL E_i644 t171, nN174⟩, ⟨b38, [.slice a_t0 t0.length c_t0, .int .i64 t172], 2⟩] : List Own)) rfl rfl (by kernel_rfl) (sel_perm (is := [6]) (by kernel_rfl)) (cal_lendr fun S1_ le1_ hS1_ => (stroke_Near_v3.ok (SlE.ofAd (E := E_i644) (L := t133) hS1_ (by decide)) h338))) ?_
                        by_cases c339 : t337 = true
                        · rw [if_pos c339] at e328
                          have c339b : t337 = true := c339
                          refine t_v (dv_quiet rfl (congrArg (fun t => some (Value.bool (!t))) c339b)) ?_
                          obtain ⟨⟨x340, x341, x342, x343⟩, hx344, e328⟩ := bind_of e328
                          try dsimp only at e328
                          refine t_qz 5 [1, 2, 11, 13, 14, 15, 16, 20, 118, 119, 120, 121, 122] (σ' := [(1, .int .i64 (Int.tmod (wr64 ((Int.tmod o1 100) + 100)) 100)), (2, .int .i64 (Int.tmod (wr64 ((Int.tmod A2 50) + 50)) 50)), (11, .bool true), (13, .slice (ad N136) t133.length (nN136 / 4)), (14, .slice (ad a177) y175.length (na177 / 4)), (15, .pointer (some ⟨b178, 0, none⟩)), (16, .bool true), (20, .int .i64 x330), (118, .bool false), (119, .slice (ad N136) t133.length (nN136 / 4)), (120, .int .i64 (Int.tmod (wr64 ((Int.tmod o1 100) + 100)) 100)), (121, .slice (ad N136) t133.length (nN136 / 4)), (122, .int .i64 x330)]) (by kernel_rfl) ?_
                          refine t_v (.quietH rfl (by intro h_; cases h_) (ixl (E := E_i644) (j := 6) rfl rfl rfl (by decide) rfl hx344)) ?_
                          refine t_qz 1 [1, 2, 11, 13, 14, 15, 16, 20, 118, 119, 120, 121, 122, 123, 124] (σ' := [(1, .int .i64 (Int.tmod (wr64 ((Int.tmod o1 100) + 100)) 100)), (2, .int .i64 (Int.tmod (wr64 ((Int.tmod A2 50) + 50)) 50)), (11, .bool true), (13, .slice (ad N136) t133.length (nN136 / 4)), (14, .slice (ad a177) y175.length (na177 / 4)), (15, .pointer (some ⟨b178, 0, none⟩)), (16, .bool true), (20, .int .i64 x330), (118, .bool false), (119, .slice (ad N136) t133.length (nN136 / 4)), (120, .int .i64 (Int.tmod (wr64 ((Int.tmod o1 100) + 100)) 100)), (121, .slice (ad N136) t133.length (nN136 / 4)), (122, .int .i64 x330), (123, .pointer (some ⟨bk N136, (x330).toNat * 4 + 0, none⟩)), (124, .pointer (some ⟨bk N136, (x330).toNat * 4 + 2, none⟩))]) (by kernel_rfl) ?_
                          refine t_v (.ldn (vs := [.int .i64 x342, .int .i64 x343]) rfl rfl rfl (.lst 6 rfl (encL_sub (lgt_in hx344).1 (by kernel_rfl)))) ?_
                          obtain ⟨t345, h346, e328⟩ := bind_of e328
                          refine t_v (.callr (vs := [.slice (ad N136) t133.length (nN136 / 4), .int .i64 (Int.tmod (wr64 ((Int.tmod o1 100) + 100)) 100), .agg #[.int .i64 x342, .int .i64 x343]]) (A := ([⟨N136, encL E_i644 t133, nN136⟩] : List Own)) (F0 := ([⟨b321, [.int .i64 t316, .int .i64 t317], 2⟩, ⟨b320, [.int .i64 t314, .int .i64 t315], 2⟩, ⟨b178, [.int .i64 (wr64 ((Int.tmod (wr64 ((Int.tmod r3 200) + 200)) 200) - 100)), .int .i64 (wr64 ((Int.tmod (wr64 ((Int.tmod r4 200) + 200)) 200) - 100))], 2⟩, ⟨a177, encL E_i644 y175, na177⟩, ⟨N174, encL E_i644 t171, nN174⟩, ⟨b38, [.slice a_t0 t0.length c_t0, .int .i64 t172], 2⟩] : List Own)) rfl rfl (by kernel_rfl) (sel_perm (is := [6]) (by kernel_rfl)) (cal_lendr fun S1_ le1_ hS1_ => (stroke_Near_v3.ok (SlE.ofAd (E := E_i644) (L := t133) hS1_ (by decide)) h346))) ?_
                          by_cases c347 : t345 = true
                          · rw [if_pos c347] at e328
                            have c347b : t345 = true := c347
                            refine t_v (dv_quiet rfl (congrArg (fun t => some (Value.bool (!t))) c347b)) ?_
                            refine t_qz 1 [1, 2, 11, 13, 14, 15, 16, 20, 119, 120, 121, 122, 123, 124, 125, 126, 127, 128] (σ' := [(1, .int .i64 (Int.tmod (wr64 ((Int.tmod o1 100) + 100)) 100)), (2, .int .i64 (Int.tmod (wr64 ((Int.tmod A2 50) + 50)) 50)), (11, .bool true), (13, .slice (ad N136) t133.length (nN136 / 4)), (14, .slice (ad a177) y175.length (na177 / 4)), (15, .pointer (some ⟨b178, 0, none⟩)), (16, .bool true), (20, .int .i64 x330), (119, .slice (ad N136) t133.length (nN136 / 4)), (120, .int .i64 (Int.tmod (wr64 ((Int.tmod o1 100) + 100)) 100)), (121, .slice (ad N136) t133.length (nN136 / 4)), (122, .int .i64 x330), (123, .pointer (some ⟨bk N136, (x330).toNat * 4 + 0, none⟩)), (124, .pointer (some ⟨bk N136, (x330).toNat * 4 + 2, none⟩)), (125, .agg #[.int .i64 x342, .int .i64 x343]), (126, .bool t345), (127, .bool false), (128, .bool false)]) (by kernel_rfl) ?_
                            refine t_end ?_
                            show W _ _ _ _ _ _ _
                            refine w_cond rfl (fun c_ => by cases c_) (fun _ => ?_)
                            show W _ _ _ _ _ _ _
                            refine w_skip ?_
                            show W _ _ _ _ _ _ _
                            refine w_reg fun all => ?_
                            refine t_qz 3 [1, 2, 11, 13, 14, 15, 16, 20, 119, 120, 121, 122, 123, 124, 125, 126, 127] (σ' := [(1, .int .i64 (Int.tmod (wr64 ((Int.tmod o1 100) + 100)) 100)), (2, .int .i64 (Int.tmod (wr64 ((Int.tmod A2 50) + 50)) 50)), (11, .bool true), (13, .slice (ad N136) t133.length (nN136 / 4)), (14, .slice (ad a177) y175.length (na177 / 4)), (15, .pointer (some ⟨b178, 0, none⟩)), (16, .bool true), (20, .int .i64 (wr64 (x330 + 1))), (119, .slice (ad N136) t133.length (nN136 / 4)), (120, .int .i64 (Int.tmod (wr64 ((Int.tmod o1 100) + 100)) 100)), (121, .slice (ad N136) t133.length (nN136 / 4)), (122, .int .i64 x330), (123, .pointer (some ⟨bk N136, (x330).toNat * 4 + 0, none⟩)), (124, .pointer (some ⟨bk N136, (x330).toNat * 4 + 2, none⟩)), (125, .agg #[.int .i64 x342, .int .i64 x343]), (126, .bool t345), (127, .bool false)]) (by kernel_rfl) ?_
                            refine t_end ?_
                            exact ⟨k_, Nat.lt_succ_self _, [(1, .int .i64 (Int.tmod (wr64 ((Int.tmod o1 100) + 100)) 100)), (2, .int .i64 (Int.tmod (wr64 ((Int.tmod A2 50) + 50)) 50)), (11, .bool true), (13, .slice (ad N136) t133.length (nN136 / 4)), (14, .slice (ad a177) y175.length (na177 / 4)), (15, .pointer (some ⟨b178, 0, none⟩)), (16, .bool true), (20, .int .i64 (wr64 (x330 + 1)))], ([⟨b321, [.int .i64 t316, .int .i64 t317], 2⟩, ⟨b320, [.int .i64 t314, .int .i64 t315], 2⟩, ⟨b178, [.int .i64 (wr64 ((Int.tmod (wr64 ((Int.tmod r3 200) + 200)) 200) - 100)), .int .i64 (wr64 ((Int.tmod (wr64 ((Int.tmod r4 200) + 200)) 200) - 100))], 2⟩, ⟨a177, encL E_i644 y175, na177⟩, ⟨N174, encL E_i644 t171, nN174⟩, ⟨b38, [.slice a_t0 t0.length c_t0, .int .i64 t172], 2⟩, ⟨N136, encL E_i644 t133, nN136⟩] : List Own), S, keep_sub [1, 2, 11, 13, 14, 15, 16, 20] (by kernel_rfl), VS.sel [0, 0, 0, 0, 0, 0, 0] (by kernel_rfl), wr64 (x330 + 1), rfl, rfl, rfl, e328⟩
                          · rw [if_neg c347] at e328
                            have c347b : t345 = false := Bool.eq_false_iff.mpr c347
                            refine t_v (dv_quiet rfl (congrArg (fun t => some (Value.bool (!t))) c347b)) ?_
                            refine t_qz 1 [1, 2, 11, 13, 14, 15, 16, 20, 119, 120, 121, 122, 123, 124, 125, 126, 127, 128] (σ' := [(1, .int .i64 (Int.tmod (wr64 ((Int.tmod o1 100) + 100)) 100)), (2, .int .i64 (Int.tmod (wr64 ((Int.tmod A2 50) + 50)) 50)), (11, .bool true), (13, .slice (ad N136) t133.length (nN136 / 4)), (14, .slice (ad a177) y175.length (na177 / 4)), (15, .pointer (some ⟨b178, 0, none⟩)), (16, .bool true), (20, .int .i64 x330), (119, .slice (ad N136) t133.length (nN136 / 4)), (120, .int .i64 (Int.tmod (wr64 ((Int.tmod o1 100) + 100)) 100)), (121, .slice (ad N136) t133.length (nN136 / 4)), (122, .int .i64 x330), (123, .pointer (some ⟨bk N136, (x330).toNat * 4 + 0, none⟩)), (124, .pointer (some ⟨bk N136, (x330).toNat * 4 + 2, none⟩)), (125, .agg #[.int .i64 x342, .int .i64 x343]), (126, .bool t345), (127, .bool true), (128, .bool true)]) (by kernel_rfl) ?_
                            refine t_end ?_
                            show W _ _ _ _ _ _ _
                            refine w_cond rfl (fun _ => ?_) (fun c_ => by cases c_)
                            show W _ _ _ _ _ _ _
                            refine w_seq ?_
                            refine w_reg fun all => ?_
                            refine t_qz 1 [10] (σ' := [(10, .bool false)]) (by kernel_rfl) ?_
                            refine t_end ?_
                            show W _ _ _ _ _ _ _
                            refine w_ret ?_
                            obtain rfl := Option.some.inj e328
                            have hr_ := Option.some.inj e
                            exact ⟨[.bool false], [], S, ⟨rfl, trivial⟩, VS.none, congrArg Value.bool hr_, rfl, rfl⟩
                        · rw [if_neg c339] at e328
                          have c339b : t337 = false := Bool.eq_false_iff.mpr c339
                          refine t_v (dv_quiet rfl (congrArg (fun t => some (Value.bool (!t))) c339b)) ?_
                          refine t_qz 11 [1, 2, 11, 13, 14, 15, 16, 20, 119, 120, 121, 122, 123, 124, 125, 126, 127, 128] (σ' := [(1, .int .i64 (Int.tmod (wr64 ((Int.tmod o1 100) + 100)) 100)), (2, .int .i64 (Int.tmod (wr64 ((Int.tmod A2 50) + 50)) 50)), (11, .bool true), (13, .slice (ad N136) t133.length (nN136 / 4)), (14, .slice (ad a177) y175.length (na177 / 4)), (15, .pointer (some ⟨b178, 0, none⟩)), (16, .bool true), (20, .int .i64 x330), (119, .tuple #[]), (120, .tuple #[]), (121, .tuple #[]), (122, .tuple #[]), (123, .tuple #[]), (124, .tuple #[]), (125, .tuple #[]), (126, .tuple #[]), (127, .tuple #[]), (128, .bool true)]) (by kernel_rfl) ?_
                          refine t_end ?_
                          show W _ _ _ _ _ _ _
                          refine w_cond rfl (fun _ => ?_) (fun c_ => by cases c_)
                          show W _ _ _ _ _ _ _
                          refine w_seq ?_
                          refine w_reg fun all => ?_
                          refine t_qz 1 [10] (σ' := [(10, .bool false)]) (by kernel_rfl) ?_
                          refine t_end ?_
                          show W _ _ _ _ _ _ _
                          refine w_ret ?_
                          obtain rfl := Option.some.inj e328
                          have hr_ := Option.some.inj e
                          exact ⟨[.bool false], [], S, ⟨rfl, trivial⟩, VS.none, congrArg Value.bool hr_, rfl, rfl⟩
                      · rw [if_neg c331] at e328
                        have c331b : (decide (x330 < (t133.length : Int))) = false := decide_eq_false c331
                        refine t_qz 3 [1, 2, 11, 13, 14, 15, 16, 20, 104, 106] (σ' := [(1, .int .i64 (Int.tmod (wr64 ((Int.tmod o1 100) + 100)) 100)), (2, .int .i64 (Int.tmod (wr64 ((Int.tmod A2 50) + 50)) 50)), (11, .bool true), (13, .slice (ad N136) t133.length (nN136 / 4)), (14, .slice (ad a177) y175.length (na177 / 4)), (15, .pointer (some ⟨b178, 0, none⟩)), (16, .bool true), (20, .int .i64 x330), (104, .int .i64 x330), (106, .int .i64 (t133.length : Int))]) (by kernel_rfl) ?_
                        refine t_v (dv_quiet rfl (congrArg (fun t => some (Value.bool t)) c331b)) ?_
                        refine t_keep [1, 2, 11, 13, 14, 15, 16, 20, 107] (σ' := [(1, .int .i64 (Int.tmod (wr64 ((Int.tmod o1 100) + 100)) 100)), (2, .int .i64 (Int.tmod (wr64 ((Int.tmod A2 50) + 50)) 50)), (11, .bool true), (13, .slice (ad N136) t133.length (nN136 / 4)), (14, .slice (ad a177) y175.length (na177 / 4)), (15, .pointer (some ⟨b178, 0, none⟩)), (16, .bool true), (20, .int .i64 x330), (107, .bool false)]) (by kernel_rfl) ?_
                        refine t_end ?_
                        show W _ _ _ _ _ _ _
                        refine w_cond rfl (fun c_ => by cases c_) (fun _ => ?_)
                        show W _ _ _ _ _ _ _
                        refine w_exit ?_
                        obtain rfl := Option.some.inj e328
                        exact ⟨([⟨b321, [.int .i64 t316, .int .i64 t317], 2⟩, ⟨b320, [.int .i64 t314, .int .i64 t315], 2⟩, ⟨b178, [.int .i64 (wr64 ((Int.tmod (wr64 ((Int.tmod r3 200) + 200)) 200) - 100)), .int .i64 (wr64 ((Int.tmod (wr64 ((Int.tmod r4 200) + 200)) 200) - 100))], 2⟩, ⟨b38, [.slice a_t0 t0.length c_t0, .int .i64 t172], 2⟩, ⟨N136, encL E_i644 t133, nN136⟩, ⟨a177, encL E_i644 y175, na177⟩, ⟨N174, encL E_i644 t171, nN174⟩] : List Own), S, VS.sel [0, 0, 0, 2, 2, 0, 0] (by kernel_rfl), Int.tmod (wr64 ((Int.tmod o1 100) + 100)) 100, Int.tmod (wr64 ((Int.tmod A2 50) + 50)) 50, true, true, wr64 ((Int.tmod (wr64 ((Int.tmod r3 200) + 200)) 200) - 100), wr64 ((Int.tmod (wr64 ((Int.tmod r4 200) + 200)) 200) - 100), rfl, by kernel_rfl, rfl, rfl⟩
                  · rintro σ_ H_ S_ ⟨x350, x351, x352, x353, x354, x355, rfl, rfl, rfl, rfl⟩
                    dsimp only at e
                    refine w_seq ?_
                    refine w_reg fun all => ?_
                    by_cases c356 : x352 = true
                    · rw [if_pos c356] at e
                      have c356b : x352 = true := c356
                      refine t_v (dv_quiet rfl (congrArg (fun t => some (Value.bool t)) c356b)) ?_
                      by_cases c357 : x353 = true
                      · rw [if_pos c357] at e
                        have c357b : x353 = true := c357
                        refine t_qz 2 [1, 2, 13, 14, 15, 130, 131] (σ' := [(1, .int .i64 x350), (2, .int .i64 x351), (13, .slice (ad N136) t133.length (nN136 / 4)), (14, .slice (ad a177) y175.length (na177 / 4)), (15, .pointer (some ⟨b178, 0, none⟩)), (130, .bool true), (131, .bool x353)]) (by kernel_rfl) ?_
                        refine t_v (dv_quiet rfl (congrArg (fun t => some (Value.bool (!t))) c357b)) ?_
                        refine t_qz 5 [1, 14, 15, 130, 133, 134, 137] (σ' := [(1, .int .i64 x350), (14, .slice (ad a177) y175.length (na177 / 4)), (15, .pointer (some ⟨b178, 0, none⟩)), (130, .bool true), (133, .bool false), (134, .slice (ad N136) t133.length (nN136 / 4)), (137, .int .i64 (wr64 (x350 + x351)))]) (by kernel_rfl) ?_
                        refine t_v (.ldn rfl rfl rfl (.at 2 rfl rfl)) ?_
                        obtain ⟨t358, h359, e⟩ := bind_of e
                        cases t358 with
                        | true =>
                          rw [if_pos rfl] at e
                          refine t_v (.callr (vs := [.slice (ad N136) t133.length (nN136 / 4), .int .i64 (wr64 (x350 + x351)), .agg #[.int .i64 x354, .int .i64 x355]]) (A := ([⟨N136, encL E_i644 t133, nN136⟩] : List Own)) (F0 := ([⟨b321, [.int .i64 t316, .int .i64 t317], 2⟩, ⟨b320, [.int .i64 t314, .int .i64 t315], 2⟩, ⟨b178, [.int .i64 x354, .int .i64 x355], 2⟩, ⟨b38, [.slice a_t0 t0.length c_t0, .int .i64 t172], 2⟩, ⟨a177, encL E_i644 y175, na177⟩, ⟨N174, encL E_i644 t171, nN174⟩] : List Own)) rfl rfl (by kernel_rfl) (sel_perm (is := [4]) (by kernel_rfl)) (cal_lendr fun S1_ le1_ hS1_ => (stroke_Near_v3.ok (SlE.ofAd (E := E_i644) (L := t133) hS1_ (by decide)) h359))) ?_
                          refine t_qz 3 [15, 130, 133, 140, 141, 142] (σ' := [(15, .pointer (some ⟨b178, 0, none⟩)), (130, .bool true), (133, .bool false), (140, .bool true), (141, .slice (ad a177) y175.length (na177 / 4)), (142, .int .i64 x350)]) (by kernel_rfl) ?_
                          refine t_v (.ldn rfl rfl rfl (.at 2 rfl rfl)) ?_
                          obtain ⟨t360, h361, e⟩ := bind_of e
                          refine t_v (.callr (vs := [.slice (ad a177) y175.length (na177 / 4), .int .i64 x350, .agg #[.int .i64 x354, .int .i64 x355]]) (A := ([⟨a177, encL E_i644 y175, na177⟩] : List Own)) (F0 := ([⟨b321, [.int .i64 t316, .int .i64 t317], 2⟩, ⟨b320, [.int .i64 t314, .int .i64 t315], 2⟩, ⟨b178, [.int .i64 x354, .int .i64 x355], 2⟩, ⟨b38, [.slice a_t0 t0.length c_t0, .int .i64 t172], 2⟩, ⟨N136, encL E_i644 t133, nN136⟩, ⟨N174, encL E_i644 t171, nN174⟩] : List Own)) rfl rfl (by kernel_rfl) (sel_perm (is := [5]) (by kernel_rfl)) (cal_lendr fun S1_ le1_ hS1_ => (stroke_Near_v3.ok (SlE.ofAd (E := E_i644) (L := y175) hS1_ (by decide)) h361))) ?_
                          refine t_qz 4 [10] (σ' := [(10, .bool t360)]) (by kernel_rfl) ?_
                          refine t_end ?_
                          show W _ _ _ _ _ _ _
                          refine w_ret ?_
                          have hr_ := Option.some.inj e
                          exact ⟨[.bool t360], [], S, ⟨rfl, trivial⟩, VS.none, congrArg Value.bool hr_, rfl, rfl⟩
                        | false =>
                          rw [if_neg (by decide)] at e
                          exact absurd (Option.some.inj e) (by decide)
                      · rw [if_neg c357] at e
                        have c357b : x353 = false := Bool.eq_false_iff.mpr c357
                        refine t_qz 2 [1, 2, 13, 14, 15, 130, 131] (σ' := [(1, .int .i64 x350), (2, .int .i64 x351), (13, .slice (ad N136) t133.length (nN136 / 4)), (14, .slice (ad a177) y175.length (na177 / 4)), (15, .pointer (some ⟨b178, 0, none⟩)), (130, .bool true), (131, .bool x353)]) (by kernel_rfl) ?_
                        refine t_v (dv_quiet rfl (congrArg (fun t => some (Value.bool (!t))) c357b)) ?_
                        refine t_qz 16 [10] (σ' := [(10, .bool true)]) (by kernel_rfl) ?_
                        refine t_end ?_
                        show W _ _ _ _ _ _ _
                        refine w_ret ?_
                        have hr_ := Option.some.inj e
                        exact ⟨[.bool true], [], S, ⟨rfl, trivial⟩, VS.none, congrArg Value.bool hr_, rfl, rfl⟩
                    · rw [if_neg c356] at e
                      exact absurd (Option.some.inj e) (by decide)
        · rw [if_neg c322] at e
          exact absurd (Option.some.inj e) (by decide)
      | false =>
        rw [if_neg (by decide)] at e
        refine t_v (.callr (vs := [.slice (ad N136) t133.length (nN136 / 4), .int .i64 (Int.tmod (wr64 ((Int.tmod o1 100) + 100)) 100), .agg #[.int .i64 (wr64 ((Int.tmod (wr64 ((Int.tmod r3 200) + 200)) 200) - 100)), .int .i64 (wr64 ((Int.tmod (wr64 ((Int.tmod r4 200) + 200)) 200) - 100))]]) (A := ([⟨N136, encL E_i644 t133, nN136⟩] : List Own)) (F0 := ([⟨b178, [.int .i64 (wr64 ((Int.tmod (wr64 ((Int.tmod r3 200) + 200)) 200) - 100)), .int .i64 (wr64 ((Int.tmod (wr64 ((Int.tmod r4 200) + 200)) 200) - 100))], 2⟩, ⟨a177, encL E_i644 y175, na177⟩, ⟨N174, encL E_i644 t171, nN174⟩, ⟨b38, [.slice a_t0 t0.length c_t0, .int .i64 t172], 2⟩] : List Own)) rfl rfl (by kernel_rfl) (sel_perm (is := [4]) (by kernel_rfl)) (cal_lendr fun S1_ le1_ hS1_ => (stroke_Near_v3.ok (SlE.ofAd (E := E_i644) (L := t133) hS1_ (by decide)) h244))) ?_
        refine t_qz 1 [1, 2, 11, 13, 14, 15, 16] (σ' := [(1, .int .i64 (Int.tmod (wr64 ((Int.tmod o1 100) + 100)) 100)), (2, .int .i64 (Int.tmod (wr64 ((Int.tmod A2 50) + 50)) 50)), (11, .bool true), (13, .slice (ad N136) t133.length (nN136 / 4)), (14, .slice (ad a177) y175.length (na177 / 4)), (15, .pointer (some ⟨b178, 0, none⟩)), (16, .bool false)]) (by kernel_rfl) ?_
        refine t_end ?_
        show W _ _ _ _ _ _ _
        refine w_seq ?_
        refine w_reg fun all => ?_
        obtain ⟨⟨t363, t364, t365, t366, t367⟩, h368, e⟩ := bind_of e
        try dsimp only at e
        refine t_qz 2 [1, 2, 11, 13, 14, 15, 16, 62, 63] (σ' := [(1, .int .i64 (Int.tmod (wr64 ((Int.tmod o1 100) + 100)) 100)), (2, .int .i64 (Int.tmod (wr64 ((Int.tmod A2 50) + 50)) 50)), (11, .bool true), (13, .slice (ad N136) t133.length (nN136 / 4)), (14, .slice (ad a177) y175.length (na177 / 4)), (15, .pointer (some ⟨b178, 0, none⟩)), (16, .bool false), (62, .slice (ad N136) t133.length (nN136 / 4)), (63, .int .i64 (Int.tmod (wr64 ((Int.tmod o1 100) + 100)) 100))]) (by kernel_rfl) ?_
        refine t_v (.callr (vs := [.slice (ad N136) t133.length (nN136 / 4), .int .i64 (Int.tmod (wr64 ((Int.tmod o1 100) + 100)) 100)]) (A := ([⟨N136, encL E_i644 t133, nN136⟩] : List Own)) (F0 := ([⟨b178, [.int .i64 (wr64 ((Int.tmod (wr64 ((Int.tmod r3 200) + 200)) 200) - 100)), .int .i64 (wr64 ((Int.tmod (wr64 ((Int.tmod r4 200) + 200)) 200) - 100))], 2⟩, ⟨a177, encL E_i644 y175, na177⟩, ⟨N174, encL E_i644 t171, nN174⟩, ⟨b38, [.slice a_t0 t0.length c_t0, .int .i64 t172], 2⟩] : List Own)) rfl rfl (by kernel_rfl) (sel_perm (is := [4]) (by kernel_rfl)) (cal_lendr fun S1_ le1_ hS1_ => (stroke_Box_v1.ok (SlE.ofAd (E := E_i644) (L := t133) hS1_ (by decide)) h368))) ?_
        refine t_qz 4 [1, 2, 11, 13, 14, 15, 16, 65, 66, 67] (σ' := [(1, .int .i64 (Int.tmod (wr64 ((Int.tmod o1 100) + 100)) 100)), (2, .int .i64 (Int.tmod (wr64 ((Int.tmod A2 50) + 50)) 50)), (11, .bool true), (13, .slice (ad N136) t133.length (nN136 / 4)), (14, .slice (ad a177) y175.length (na177 / 4)), (15, .pointer (some ⟨b178, 0, none⟩)), (16, .bool false), (65, .agg #[.int .i64 t363, .int .i64 t364]), (66, .agg #[.int .i64 t365, .int .i64 t366]), (67, .bool t367)]) (by kernel_rfl) ?_
        refine t_a (.new rfl rfl) fun b369 fb369 sb369 => ?_
        refine t_a (.new rfl rfl) fun b370 fb370 sb370 => ?_
        refine t_sti 1 (cs := [.int .i64 t363, .int .i64 t364]) rfl rfl rfl rfl rfl rfl rfl rfl rfl ?_
        refine t_sti 0 (cs := [.int .i64 t365, .int .i64 t366]) rfl rfl rfl rfl rfl rfl rfl rfl rfl ?_
        refine t_qz 1 [1, 2, 11, 13, 14, 15, 16, 17, 18, 19] (σ' := [(1, .int .i64 (Int.tmod (wr64 ((Int.tmod o1 100) + 100)) 100)), (2, .int .i64 (Int.tmod (wr64 ((Int.tmod A2 50) + 50)) 50)), (11, .bool true), (13, .slice (ad N136) t133.length (nN136 / 4)), (14, .slice (ad a177) y175.length (na177 / 4)), (15, .pointer (some ⟨b178, 0, none⟩)), (16, .bool false), (17, .pointer (some ⟨b369, 0, none⟩)), (18, .pointer (some ⟨b370, 0, none⟩)), (19, .bool t367)]) (by kernel_rfl) ?_
        refine t_end ?_
        show W _ _ _ _ _ _ _
        refine w_seq ?_
        refine w_seq ?_
        refine w_reg fun all => ?_
        by_cases c371 : t367 = (decide ((t133.length : Int) > 0))
        · rw [if_pos c371] at e
          have c371b : (t367 == (decide ((t133.length : Int) > 0))) = true := beq_iff_eq.mpr c371
          refine t_qz 4 [1, 2, 11, 13, 14, 15, 16, 17, 18, 68, 71] (σ' := [(1, .int .i64 (Int.tmod (wr64 ((Int.tmod o1 100) + 100)) 100)), (2, .int .i64 (Int.tmod (wr64 ((Int.tmod A2 50) + 50)) 50)), (11, .bool true), (13, .slice (ad N136) t133.length (nN136 / 4)), (14, .slice (ad a177) y175.length (na177 / 4)), (15, .pointer (some ⟨b178, 0, none⟩)), (16, .bool false), (17, .pointer (some ⟨b369, 0, none⟩)), (18, .pointer (some ⟨b370, 0, none⟩)), (68, .bool t367), (71, .bool (decide ((t133.length : Int) > 0)))]) (by kernel_rfl) ?_
          refine t_v (dv_quiet rfl (congrArg (fun t => some (Value.bool (!t))) c371b)) ?_
          refine t_qz 31 [1, 2, 11, 13, 14, 15, 16, 103] (σ' := [(1, .int .i64 (Int.tmod (wr64 ((Int.tmod o1 100) + 100)) 100)), (2, .int .i64 (Int.tmod (wr64 ((Int.tmod A2 50) + 50)) 50)), (11, .bool true), (13, .slice (ad N136) t133.length (nN136 / 4)), (14, .slice (ad a177) y175.length (na177 / 4)), (15, .pointer (some ⟨b178, 0, none⟩)), (16, .bool false), (103, .bool false)]) (by kernel_rfl) ?_
          refine t_end ?_
          show W _ _ _ _ _ _ _
          refine w_cond rfl (fun c_ => by cases c_) (fun _ => ?_)
          show W _ _ _ _ _ _ _
          refine w_skip ?_
          show W _ _ _ _ _ _ _
          obtain ⟨s374, e373, e⟩ := bind_of e
          refine w_cut [1, 2, 11, 13, 14, 15, 16] (fun σ_ H_ S_ => ∃ (x395 : Int) (x396 : Int) (x397 : Bool) (x398 : Bool) (x399 : Int) (x400 : Int), s374 = .inr (x395, x396, x397, x398, x399, x400) ∧ [(1, .int .i64 x395), (2, .int .i64 x396), (11, .bool x397), (13, .slice (ad N136) t133.length (nN136 / 4)), (14, .slice (ad a177) y175.length (na177 / 4)), (15, .pointer (some ⟨b178, 0, none⟩)), (16, .bool x398)] = σ_ ∧ ([⟨b370, [.int .i64 t365, .int .i64 t366], 2⟩, ⟨b369, [.int .i64 t363, .int .i64 t364], 2⟩, ⟨b178, [.int .i64 x399, .int .i64 x400], 2⟩, ⟨b38, [.slice a_t0 t0.length c_t0, .int .i64 t172], 2⟩, ⟨N136, encL E_i644 t133, nN136⟩, ⟨a177, encL E_i644 y175, na177⟩, ⟨N174, encL E_i644 t171, nN174⟩] : List Own) = H_ ∧ S = S_) ?_ ?_
          · show W _ _ _ _ _ _ _
            refine w_seq ?_
            refine w_reg fun all => ?_
            refine t_qz 1 [1, 2, 11, 13, 14, 15, 16, 20] (σ' := [(1, .int .i64 (Int.tmod (wr64 ((Int.tmod o1 100) + 100)) 100)), (2, .int .i64 (Int.tmod (wr64 ((Int.tmod A2 50) + 50)) 50)), (11, .bool true), (13, .slice (ad N136) t133.length (nN136 / 4)), (14, .slice (ad a177) y175.length (na177 / 4)), (15, .pointer (some ⟨b178, 0, none⟩)), (16, .bool false), (20, .int .i64 0)]) (by kernel_rfl) ?_
            refine t_end ?_
            show W _ _ _ _ _ _ _
            refine w_block ?_
            refine w_kp [1, 2, 11, 13, 14, 15, 16, 20] (σ' := [(1, .int .i64 (Int.tmod (wr64 ((Int.tmod o1 100) + 100)) 100)), (2, .int .i64 (Int.tmod (wr64 ((Int.tmod A2 50) + 50)) 50)), (11, .bool true), (13, .slice (ad N136) t133.length (nN136 / 4)), (14, .slice (ad a177) y175.length (na177 / 4)), (15, .pointer (some ⟨b178, 0, none⟩)), (16, .bool false), (20, .int .i64 0)]) (by kernel_rfl) ?_
            refine w_loop (fun n_ σ_ H_ S_ => ∃ (x375 : Int), [(1, .int .i64 (Int.tmod (wr64 ((Int.tmod o1 100) + 100)) 100)), (2, .int .i64 (Int.tmod (wr64 ((Int.tmod A2 50) + 50)) 50)), (11, .bool true), (13, .slice (ad N136) t133.length (nN136 / 4)), (14, .slice (ad a177) y175.length (na177 / 4)), (15, .pointer (some ⟨b178, 0, none⟩)), (16, .bool false), (20, .int .i64 x375)] = σ_ ∧ ([⟨b370, [.int .i64 t365, .int .i64 t366], 2⟩, ⟨b369, [.int .i64 t363, .int .i64 t364], 2⟩, ⟨b178, [.int .i64 (wr64 ((Int.tmod (wr64 ((Int.tmod r3 200) + 200)) 200) - 100)), .int .i64 (wr64 ((Int.tmod (wr64 ((Int.tmod r4 200) + 200)) 200) - 100))], 2⟩, ⟨a177, encL E_i644 y175, na177⟩, ⟨N174, encL E_i644 t171, nN174⟩, ⟨b38, [.slice a_t0 t0.length c_t0, .int .i64 t172], 2⟩, ⟨N136, encL E_i644 t133, nN136⟩] : List Own) = H_ ∧ S = S_ ∧ glyphiclaw23_StrokeBoxes.l1 n_ o1 A2 r3 r4 t133 x375 = some s374) _ ⟨0, rfl, rfl, rfl, e373⟩ ?_
            rintro n394 σ_ H_ S_ ⟨x375, rfl, rfl, rfl, e373⟩
            cases n394 with
            | zero => rw [glyphiclaw23_StrokeBoxes.l1.eq_1] at e373; cases e373
            | succ k_ =>
              rw [glyphiclaw23_StrokeBoxes.l1.eq_2] at e373
              refine w_seq ?_
              refine w_seq ?_
              refine w_reg fun all => ?_
              by_cases c376 : x375 < (t133.length : Int)
              · rw [if_pos c376] at e373
                have c376b : (decide (x375 < (t133.length : Int))) = true := decide_eq_true c376
                refine t_qz 3 [1, 2, 11, 13, 14, 15, 16, 20, 104, 106] (σ' := [(1, .int .i64 (Int.tmod (wr64 ((Int.tmod o1 100) + 100)) 100)), (2, .int .i64 (Int.tmod (wr64 ((Int.tmod A2 50) + 50)) 50)), (11, .bool true), (13, .slice (ad N136) t133.length (nN136 / 4)), (14, .slice (ad a177) y175.length (na177 / 4)), (15, .pointer (some ⟨b178, 0, none⟩)), (16, .bool false), (20, .int .i64 x375), (104, .int .i64 x375), (106, .int .i64 (t133.length : Int))]) (by kernel_rfl) ?_
                refine t_v (dv_quiet rfl (congrArg (fun t => some (Value.bool t)) c376b)) ?_
                refine t_keep [1, 2, 11, 13, 14, 15, 16, 20, 107] (σ' := [(1, .int .i64 (Int.tmod (wr64 ((Int.tmod o1 100) + 100)) 100)), (2, .int .i64 (Int.tmod (wr64 ((Int.tmod A2 50) + 50)) 50)), (11, .bool true), (13, .slice (ad N136) t133.length (nN136 / 4)), (14, .slice (ad a177) y175.length (na177 / 4)), (15, .pointer (some ⟨b178, 0, none⟩)), (16, .bool false), (20, .int .i64 x375), (107, .bool true)]) (by kernel_rfl) ?_
                refine t_end ?_
                show W _ _ _ _ _ _ _
                refine w_cond rfl (fun _ => ?_) (fun c_ => by cases c_)
                show W _ _ _ _ _ _ _
                refine w_skip ?_
                show W _ _ _ _ _ _ _
                refine w_seq ?_
                refine w_block ?_
                refine w_seq ?_
                refine w_reg fun all => ?_
                obtain ⟨⟨x377, x378, x379, x380⟩, hx381, e373⟩ := bind_of e373
                try dsimp only at e373
                refine t_qz 3 [1, 2, 11, 13, 14, 15, 16, 20, 110, 111, 112] (σ' := [(1, .int .i64 (Int.tmod (wr64 ((Int.tmod o1 100) + 100)) 100)), (2, .int .i64 (Int.tmod (wr64 ((Int.tmod A2 50) + 50)) 50)), (11, .bool true), (13, .slice (ad N136) t133.length (nN136 / 4)), (14, .slice (ad a177) y175.length (na177 / 4)), (15, .pointer (some ⟨b178, 0, none⟩)), (16, .bool false), (20, .int .i64 x375), (110, .slice (ad N136) t133.length (nN136 / 4)), (111, .slice (ad N136) t133.length (nN136 / 4)), (112, .int .i64 x375)]) (by kernel_rfl) ?_
                refine t_v (.quietH rfl (by intro h_; cases h_) (ixl (E := E_i644) (j := 6) rfl rfl rfl (by decide) rfl hx381)) ?_
                refine t_qz 1 [1, 2, 11, 13, 14, 15, 16, 20, 110, 114] (σ' := [(1, .int .i64 (Int.tmod (wr64 ((Int.tmod o1 100) + 100)) 100)), (2, .int .i64 (Int.tmod (wr64 ((Int.tmod A2 50) + 50)) 50)), (11, .bool true), (13, .slice (ad N136) t133.length (nN136 / 4)), (14, .slice (ad a177) y175.length (na177 / 4)), (15, .pointer (some ⟨b178, 0, none⟩)), (16, .bool false), (20, .int .i64 x375), (110, .slice (ad N136) t133.length (nN136 / 4)), (114, .pointer (some ⟨bk N136, (x375).toNat * 4 + 0, none⟩))]) (by kernel_rfl) ?_
                refine t_v (.ldn (vs := [.int .i64 x377, .int .i64 x378]) rfl rfl rfl (.lst 6 rfl (encL_sub (lgt_in hx381).1 (by kernel_rfl)))) ?_
                obtain ⟨t382, h383, e373⟩ := bind_of e373
                refine t_v (.callr (vs := [.slice (ad N136) t133.length (nN136 / 4), .int .i64 0, .agg #[.int .i64 x377, .int .i64 x378]]) (A := ([⟨N136, encL E_i644 t133, nN136⟩] : List Own)) (F0 := ([⟨b370, [.int .i64 t365, .int .i64 t366], 2⟩, ⟨b369, [.int .i64 t363, .int .i64 t364], 2⟩, ⟨b178, [.int .i64 (wr64 ((Int.tmod (wr64 ((Int.tmod r3 200) + 200)) 200) - 100)), .int .i64 (wr64 ((Int.tmod (wr64 ((Int.tmod r4 200) + 200)) 200) - 100))], 2⟩, ⟨a177, encL E_i644 y175, na177⟩, ⟨N174, encL E_i644 t171, nN174⟩, ⟨b38, [.slice a_t0 t0.length c_t0, .int .i64 t172], 2⟩] : List Own)) rfl rfl (by kernel_rfl) (sel_perm (is := [6]) (by kernel_rfl)) (cal_lendr fun S1_ le1_ hS1_ => (stroke_Near_v3.ok (SlE.ofAd (E := E_i644) (L := t133) hS1_ (by decide)) h383))) ?_
                by_cases c384 : t382 = true
                · rw [if_pos c384] at e373
                  have c384b : t382 = true := c384
                  refine t_v (dv_quiet rfl (congrArg (fun t => some (Value.bool (!t))) c384b)) ?_
                  obtain ⟨⟨x385, x386, x387, x388⟩, hx389, e373⟩ := bind_of e373
                  try dsimp only at e373
                  refine t_qz 5 [1, 2, 11, 13, 14, 15, 16, 20, 118, 119, 120, 121, 122] (σ' := [(1, .int .i64 (Int.tmod (wr64 ((Int.tmod o1 100) + 100)) 100)), (2, .int .i64 (Int.tmod (wr64 ((Int.tmod A2 50) + 50)) 50)), (11, .bool true), (13, .slice (ad N136) t133.length (nN136 / 4)), (14, .slice (ad a177) y175.length (na177 / 4)), (15, .pointer (some ⟨b178, 0, none⟩)), (16, .bool false), (20, .int .i64 x375), (118, .bool false), (119, .slice (ad N136) t133.length (nN136 / 4)), (120, .int .i64 (Int.tmod (wr64 ((Int.tmod o1 100) + 100)) 100)), (121, .slice (ad N136) t133.length (nN136 / 4)), (122, .int .i64 x375)]) (by kernel_rfl) ?_
                  refine t_v (.quietH rfl (by intro h_; cases h_) (ixl (E := E_i644) (j := 6) rfl rfl rfl (by decide) rfl hx389)) ?_
                  refine t_qz 1 [1, 2, 11, 13, 14, 15, 16, 20, 118, 119, 120, 121, 122, 123, 124] (σ' := [(1, .int .i64 (Int.tmod (wr64 ((Int.tmod o1 100) + 100)) 100)), (2, .int .i64 (Int.tmod (wr64 ((Int.tmod A2 50) + 50)) 50)), (11, .bool true), (13, .slice (ad N136) t133.length (nN136 / 4)), (14, .slice (ad a177) y175.length (na177 / 4)), (15, .pointer (some ⟨b178, 0, none⟩)), (16, .bool false), (20, .int .i64 x375), (118, .bool false), (119, .slice (ad N136) t133.length (nN136 / 4)), (120, .int .i64 (Int.tmod (wr64 ((Int.tmod o1 100) + 100)) 100)), (121, .slice (ad N136) t133.length (nN136 / 4)), (122, .int .i64 x375), (123, .pointer (some ⟨bk N136, (x375).toNat * 4 + 0, none⟩)), (124, .pointer (some ⟨bk N136, (x375).toNat * 4 + 2, none⟩))]) (by kernel_rfl) ?_
                  refine t_v (.ldn (vs := [.int .i64 x387, .int .i64 x388]) rfl rfl rfl (.lst 6 rfl (encL_sub (lgt_in hx389).1 (by kernel_rfl)))) ?_
                  obtain ⟨t390, h391, e373⟩ := bind_of e373
                  refine t_v (.callr (vs := [.slice (ad N136) t133.length (nN136 / 4), .int .i64 (Int.tmod (wr64 ((Int.tmod o1 100) + 100)) 100), .agg #[.int .i64 x387, .int .i64 x388]]) (A := ([⟨N136, encL E_i644 t133, nN136⟩] : List Own)) (F0 := ([⟨b370, [.int .i64 t365, .int .i64 t366], 2⟩, ⟨b369, [.int .i64 t363, .int .i64 t364], 2⟩, ⟨b178, [.int .i64 (wr64 ((Int.tmod (wr64 ((Int.tmod r3 200) + 200)) 200) - 100)), .int .i64 (wr64 ((Int.tmod (wr64 ((Int.tmod r4 200) + 200)) 200) - 100))], 2⟩, ⟨a177, encL E_i644 y175, na177⟩, ⟨N174, encL E_i644 t171, nN174⟩, ⟨b38, [.slice a_t0 t0.length c_t0, .int .i64 t172], 2⟩] : List Own)) rfl rfl (by kernel_rfl) (sel_perm (is := [6]) (by kernel_rfl)) (cal_lendr fun S1_ le1_ hS1_ => (stroke_Near_v3.ok (SlE.ofAd (E := E_i644) (L := t133) hS1_ (by decide)) h391))) ?_
                  by_cases c392 : t390 = true
                  · rw [if_pos c392] at e373
                    have c392b : t390 = true := c392
                    refine t_v (dv_quiet rfl (congrArg (fun t => some (Value.bool (!t))) c392b)) ?_
                    refine t_qz 1 [1, 2, 11, 13, 14, 15, 16, 20, 119, 120, 121, 122, 123, 124, 125, 126, 127, 128] (σ' := [(1, .int .i64 (Int.tmod (wr64 ((Int.tmod o1 100) + 100)) 100)), (2, .int .i64 (Int.tmod (wr64 ((Int.tmod A2 50) + 50)) 50)), (11, .bool true), (13, .slice (ad N136) t133.length (nN136 / 4)), (14, .slice (ad a177) y175.length (na177 / 4)), (15, .pointer (some ⟨b178, 0, none⟩)), (16, .bool false), (20, .int .i64 x375), (119, .slice (ad N136) t133.length (nN136 / 4)), (120, .int .i64 (Int.tmod (wr64 ((Int.tmod o1 100) + 100)) 100)), (121, .slice (ad N136) t133.length (nN136 / 4)), (122, .int .i64 x375), (123, .pointer (some ⟨bk N136, (x375).toNat * 4 + 0, none⟩)), (124, .pointer (some ⟨bk N136, (x375).toNat * 4 + 2, none⟩)), (125, .agg #[.int .i64 x387, .int .i64 x388]), (126, .bool t390), (127, .bool false), (128, .bool false)]) (by kernel_rfl) ?_
                    refine t_end ?_
                    show W _ _ _ _ _ _ _
                    refine w_cond rfl (fun c_ => by cases c_) (fun _ => ?_)
                    show W _ _ _ _ _ _ _
                    refine w_skip ?_
                    show W _ _ _ _ _ _ _
                    refine w_reg fun all => ?_
                    refine t_qz 3 [1, 2, 11, 13, 14, 15, 16, 20, 119, 120, 121, 122, 123, 124, 125, 126, 127] (σ' := [(1, .int .i64 (Int.tmod (wr64 ((Int.tmod o1 100) + 100)) 100)), (2, .int .i64 (Int.tmod (wr64 ((Int.tmod A2 50) + 50)) 50)), (11, .bool true), (13, .slice (ad N136) t133.length (nN136 / 4)), (14, .slice (ad a177) y175.length (na177 / 4)), (15, .pointer (some ⟨b178, 0, none⟩)), (16, .bool false), (20, .int .i64 (wr64 (x375 + 1))), (119, .slice (ad N136) t133.length (nN136 / 4)), (120, .int .i64 (Int.tmod (wr64 ((Int.tmod o1 100) + 100)) 100)), (121, .slice (ad N136) t133.length (nN136 / 4)), (122, .int .i64 x375), (123, .pointer (some ⟨bk N136, (x375).toNat * 4 + 0, none⟩)), (124, .pointer (some ⟨bk N136, (x375).toNat * 4 + 2, none⟩)), (125, .agg #[.int .i64 x387, .int .i64 x388]), (126, .bool t390), (127, .bool false)]) (by kernel_rfl) ?_
                    refine t_end ?_
                    exact ⟨k_, Nat.lt_succ_self _, [(1, .int .i64 (Int.tmod (wr64 ((Int.tmod o1 100) + 100)) 100)), (2, .int .i64 (Int.tmod (wr64 ((Int.tmod A2 50) + 50)) 50)), (11, .bool true), (13, .slice (ad N136) t133.length (nN136 / 4)), (14, .slice (ad a177) y175.length (na177 / 4)), (15, .pointer (some ⟨b178, 0, none⟩)), (16, .bool false), (20, .int .i64 (wr64 (x375 + 1)))], ([⟨b370, [.int .i64 t365, .int .i64 t366], 2⟩, ⟨b369, [.int .i64 t363, .int .i64 t364], 2⟩, ⟨b178, [.int .i64 (wr64 ((Int.tmod (wr64 ((Int.tmod r3 200) + 200)) 200) - 100)), .int .i64 (wr64 ((Int.tmod (wr64 ((Int.tmod r4 200) + 200)) 200) - 100))], 2⟩, ⟨a177, encL E_i644 y175, na177⟩, ⟨N174, encL E_i644 t171, nN174⟩, ⟨b38, [.slice a_t0 t0.length c_t0, .int .i64 t172], 2⟩, ⟨N136, encL E_i644 t133, nN136⟩] : List Own), S, keep_sub [1, 2, 11, 13, 14, 15, 16, 20] (by kernel_rfl), VS.sel [0, 0, 0, 0, 0, 0, 0] (by kernel_rfl), wr64 (x375 + 1), rfl, rfl, rfl, e373⟩
                  · rw [if_neg c392] at e373
                    have c392b : t390 = false := Bool.eq_false_iff.mpr c392
                    refine t_v (dv_quiet rfl (congrArg (fun t => some (Value.bool (!t))) c392b)) ?_
                    refine t_qz 1 [1, 2, 11, 13, 14, 15, 16, 20, 119, 120, 121, 122, 123, 124, 125, 126, 127, 128] (σ' := [(1, .int .i64 (Int.tmod (wr64 ((Int.tmod o1 100) + 100)) 100)), (2, .int .i64 (Int.tmod (wr64 ((Int.tmod A2 50) + 50)) 50)), (11, .bool true), (13, .slice (ad N136) t133.length (nN136 / 4)), (14, .slice (ad a177) y175.length (na177 / 4)), (15, .pointer (some ⟨b178, 0, none⟩)), (16, .bool false), (20, .int .i64 x375), (119, .slice (ad N136) t133.length (nN136 / 4)), (120, .int .i64 (Int.tmod (wr64 ((Int.tmod o1 100) + 100)) 100)), (121, .slice (ad N136) t133.length (nN136 / 4)), (122, .int .i64 x375), (123, .pointer (some ⟨bk N136, (x375).toNat * 4 + 0, none⟩)), (124, .pointer (some ⟨bk N136, (x375).toNat * 4 + 2, none⟩)), (125, .agg #[.int .i64 x387, .int .i64 x388]), (126, .bool t390), (127, .bool true), (128, .bool true)]) (by kernel_rfl) ?_
                    refine t_end ?_
                    show W _ _ _ _ _ _ _
                    refine w_cond rfl (fun _ => ?_) (fun c_ => by cases c_)
                    show W _ _ _ _ _ _ _
                    refine w_seq ?_
                    refine w_reg fun all => ?_
                    refine t_qz 1 [10] (σ' := [(10, .bool false)]) (by kernel_rfl) ?_
                    refine t_end ?_
                    show W _ _ _ _ _ _ _
                    refine w_ret ?_
                    obtain rfl := Option.some.inj e373
                    have hr_ := Option.some.inj e
                    exact ⟨[.bool false], [], S, ⟨rfl, trivial⟩, VS.none, congrArg Value.bool hr_, rfl, rfl⟩
                · rw [if_neg c384] at e373
                  have c384b : t382 = false := Bool.eq_false_iff.mpr c384
                  refine t_v (dv_quiet rfl (congrArg (fun t => some (Value.bool (!t))) c384b)) ?_
                  refine t_qz 11 [1, 2, 11, 13, 14, 15, 16, 20, 119, 120, 121, 122, 123, 124, 125, 126, 127, 128] (σ' := [(1, .int .i64 (Int.tmod (wr64 ((Int.tmod o1 100) + 100)) 100)), (2, .int .i64 (Int.tmod (wr64 ((Int.tmod A2 50) + 50)) 50)), (11, .bool true), (13, .slice (ad N136) t133.length (nN136 / 4)), (14, .slice (ad a177) y175.length (na177 / 4)), (15, .pointer (some ⟨b178, 0, none⟩)), (16, .bool false), (20, .int .i64 x375), (119, .tuple #[]), (120, .tuple #[]), (121, .tuple #[]), (122, .tuple #[]), (123, .tuple #[]), (124, .tuple #[]), (125, .tuple #[]), (126, .tuple #[]), (127, .tuple #[]), (128, .bool true)]) (by kernel_rfl) ?_
                  refine t_end ?_
                  show W _ _ _ _ _ _ _
                  refine w_cond rfl (fun _ => ?_) (fun c_ => by cases c_)
                  show W _ _ _ _ _ _ _
                  refine w_seq ?_
                  refine w_reg fun all => ?_
                  refine t_qz 1 [10] (σ' := [(10, .bool false)]) (by kernel_rfl) ?_
                  refine t_end ?_
                  show W _ _ _ _ _ _ _
                  refine w_ret ?_
                  obtain rfl := Option.some.inj e373
                  have hr_ := Option.some.inj e
                  exact ⟨[.bool false], [], S, ⟨rfl, trivial⟩, VS.none, congrArg Value.bool hr_, rfl, rfl⟩
              · rw [if_neg c376] at e373
                have c376b : (decide (x375 < (t133.length : Int))) = false := decide_eq_false c376
                refine t_qz 3 [1, 2, 11, 13, 14, 15, 16, 20, 104, 106] (σ' := [(1, .int .i64 (Int.tmod (wr64 ((Int.tmod o1 100) + 100)) 100)), (2, .int .i64 (Int.tmod (wr64 ((Int.tmod A2 50) + 50)) 50)), (11, .bool true), (13, .slice (ad N136) t133.length (nN136 / 4)), (14, .slice (ad a177) y175.length (na177 / 4)), (15, .pointer (some ⟨b178, 0, none⟩)), (16, .bool false), (20, .int .i64 x375), (104, .int .i64 x375), (106, .int .i64 (t133.length : Int))]) (by kernel_rfl) ?_
                refine t_v (dv_quiet rfl (congrArg (fun t => some (Value.bool t)) c376b)) ?_
                refine t_keep [1, 2, 11, 13, 14, 15, 16, 20, 107] (σ' := [(1, .int .i64 (Int.tmod (wr64 ((Int.tmod o1 100) + 100)) 100)), (2, .int .i64 (Int.tmod (wr64 ((Int.tmod A2 50) + 50)) 50)), (11, .bool true), (13, .slice (ad N136) t133.length (nN136 / 4)), (14, .slice (ad a177) y175.length (na177 / 4)), (15, .pointer (some ⟨b178, 0, none⟩)), (16, .bool false), (20, .int .i64 x375), (107, .bool false)]) (by kernel_rfl) ?_
                refine t_end ?_
                show W _ _ _ _ _ _ _
                refine w_cond rfl (fun c_ => by cases c_) (fun _ => ?_)
                show W _ _ _ _ _ _ _
                refine w_exit ?_
                obtain rfl := Option.some.inj e373
                exact ⟨([⟨b370, [.int .i64 t365, .int .i64 t366], 2⟩, ⟨b369, [.int .i64 t363, .int .i64 t364], 2⟩, ⟨b178, [.int .i64 (wr64 ((Int.tmod (wr64 ((Int.tmod r3 200) + 200)) 200) - 100)), .int .i64 (wr64 ((Int.tmod (wr64 ((Int.tmod r4 200) + 200)) 200) - 100))], 2⟩, ⟨b38, [.slice a_t0 t0.length c_t0, .int .i64 t172], 2⟩, ⟨N136, encL E_i644 t133, nN136⟩, ⟨a177, encL E_i644 y175, na177⟩, ⟨N174, encL E_i644 t171, nN174⟩] : List Own), S, VS.sel [0, 0, 0, 2, 2, 0, 0] (by kernel_rfl), Int.tmod (wr64 ((Int.tmod o1 100) + 100)) 100, Int.tmod (wr64 ((Int.tmod A2 50) + 50)) 50, true, false, wr64 ((Int.tmod (wr64 ((Int.tmod r3 200) + 200)) 200) - 100), wr64 ((Int.tmod (wr64 ((Int.tmod r4 200) + 200)) 200) - 100), rfl, by kernel_rfl, rfl, rfl⟩
          · rintro σ_ H_ S_ ⟨x395, x396, x397, x398, x399, x400, rfl, rfl, rfl, rfl⟩
            dsimp only at e
            refine w_seq ?_
            refine w_reg fun all => ?_
            by_cases c401 : x397 = true
            · rw [if_pos c401] at e
              have c401b : x397 = true := c401
              refine t_v (dv_quiet rfl (congrArg (fun t => some (Value.bool t)) c401b)) ?_
              by_cases c402 : x398 = true
              · rw [if_pos c402] at e
                have c402b : x398 = true := c402
                refine t_qz 2 [1, 2, 13, 14, 15, 130, 131] (σ' := [(1, .int .i64 x395), (2, .int .i64 x396), (13, .slice (ad N136) t133.length (nN136 / 4)), (14, .slice (ad a177) y175.length (na177 / 4)), (15, .pointer (some ⟨b178, 0, none⟩)), (130, .bool true), (131, .bool x398)]) (by kernel_rfl) ?_
                refine t_v (dv_quiet rfl (congrArg (fun t => some (Value.bool (!t))) c402b)) ?_
                refine t_qz 5 [1, 14, 15, 130, 133, 134, 137] (σ' := [(1, .int .i64 x395), (14, .slice (ad a177) y175.length (na177 / 4)), (15, .pointer (some ⟨b178, 0, none⟩)), (130, .bool true), (133, .bool false), (134, .slice (ad N136) t133.length (nN136 / 4)), (137, .int .i64 (wr64 (x395 + x396)))]) (by kernel_rfl) ?_
                refine t_v (.ldn rfl rfl rfl (.at 2 rfl rfl)) ?_
                obtain ⟨t403, h404, e⟩ := bind_of e
                cases t403 with
                | true =>
                  rw [if_pos rfl] at e
                  refine t_v (.callr (vs := [.slice (ad N136) t133.length (nN136 / 4), .int .i64 (wr64 (x395 + x396)), .agg #[.int .i64 x399, .int .i64 x400]]) (A := ([⟨N136, encL E_i644 t133, nN136⟩] : List Own)) (F0 := ([⟨b370, [.int .i64 t365, .int .i64 t366], 2⟩, ⟨b369, [.int .i64 t363, .int .i64 t364], 2⟩, ⟨b178, [.int .i64 x399, .int .i64 x400], 2⟩, ⟨b38, [.slice a_t0 t0.length c_t0, .int .i64 t172], 2⟩, ⟨a177, encL E_i644 y175, na177⟩, ⟨N174, encL E_i644 t171, nN174⟩] : List Own)) rfl rfl (by kernel_rfl) (sel_perm (is := [4]) (by kernel_rfl)) (cal_lendr fun S1_ le1_ hS1_ => (stroke_Near_v3.ok (SlE.ofAd (E := E_i644) (L := t133) hS1_ (by decide)) h404))) ?_
                  refine t_qz 3 [15, 130, 133, 140, 141, 142] (σ' := [(15, .pointer (some ⟨b178, 0, none⟩)), (130, .bool true), (133, .bool false), (140, .bool true), (141, .slice (ad a177) y175.length (na177 / 4)), (142, .int .i64 x395)]) (by kernel_rfl) ?_
                  refine t_v (.ldn rfl rfl rfl (.at 2 rfl rfl)) ?_
                  obtain ⟨t405, h406, e⟩ := bind_of e
                  refine t_v (.callr (vs := [.slice (ad a177) y175.length (na177 / 4), .int .i64 x395, .agg #[.int .i64 x399, .int .i64 x400]]) (A := ([⟨a177, encL E_i644 y175, na177⟩] : List Own)) (F0 := ([⟨b370, [.int .i64 t365, .int .i64 t366], 2⟩, ⟨b369, [.int .i64 t363, .int .i64 t364], 2⟩, ⟨b178, [.int .i64 x399, .int .i64 x400], 2⟩, ⟨b38, [.slice a_t0 t0.length c_t0, .int .i64 t172], 2⟩, ⟨N136, encL E_i644 t133, nN136⟩, ⟨N174, encL E_i644 t171, nN174⟩] : List Own)) rfl rfl (by kernel_rfl) (sel_perm (is := [5]) (by kernel_rfl)) (cal_lendr fun S1_ le1_ hS1_ => (stroke_Near_v3.ok (SlE.ofAd (E := E_i644) (L := y175) hS1_ (by decide)) h406))) ?_
                  refine t_qz 4 [10] (σ' := [(10, .bool t405)]) (by kernel_rfl) ?_
                  refine t_end ?_
                  show W _ _ _ _ _ _ _
                  refine w_ret ?_
                  have hr_ := Option.some.inj e
                  exact ⟨[.bool t405], [], S, ⟨rfl, trivial⟩, VS.none, congrArg Value.bool hr_, rfl, rfl⟩
                | false =>
                  rw [if_neg (by decide)] at e
                  exact absurd (Option.some.inj e) (by decide)
              · rw [if_neg c402] at e
                have c402b : x398 = false := Bool.eq_false_iff.mpr c402
                refine t_qz 2 [1, 2, 13, 14, 15, 130, 131] (σ' := [(1, .int .i64 x395), (2, .int .i64 x396), (13, .slice (ad N136) t133.length (nN136 / 4)), (14, .slice (ad a177) y175.length (na177 / 4)), (15, .pointer (some ⟨b178, 0, none⟩)), (130, .bool true), (131, .bool x398)]) (by kernel_rfl) ?_
                refine t_v (dv_quiet rfl (congrArg (fun t => some (Value.bool (!t))) c402b)) ?_
                refine t_qz 16 [10] (σ' := [(10, .bool true)]) (by kernel_rfl) ?_
                refine t_end ?_
                show W _ _ _ _ _ _ _
                refine w_ret ?_
                have hr_ := Option.some.inj e
                exact ⟨[.bool true], [], S, ⟨rfl, trivial⟩, VS.none, congrArg Value.bool hr_, rfl, rfl⟩
            · rw [if_neg c401] at e
              exact absurd (Option.some.inj e) (by decide)
        · rw [if_neg c371] at e
          exact absurd (Option.some.inj e) (by decide)
  | false =>
    rw [if_neg (by decide)] at e
    exact absurd (Option.some.inj e) (by decide)

def glyphiclaw23_StrokeBoxes.Pure : Prop := ∀ (t0 : List (Int)) (o1 : Int) (A2 : Int) (r3 : Int) (r4 : Int), (Lit.int .i64 o1).wf = true → (Lit.int .i64 A2).wf = true → (Lit.int .i64 r3).wf = true → (Lit.int .i64 r4).wf = true → ∃ k, glyphiclaw23_StrokeBoxes.f k t0 o1 A2 r3 r4 = some true
theorem glyphiclaw23_StrokeBoxes.walk (P : glyphiclaw23_StrokeBoxes.Pure) (t0 : List (Int)) (o1 : Int) (A2 : Int) (r3 : Int) (r4 : Int) (w : World) {S : Seal} (hS : HOK [] S w) {a_t0 : Option Addr} {c_t0 : Nat} (h_t0 : SlI S .i64 t0 a_t0) (ho1 : (Lit.int .i64 o1).wf = true) (hA2 : (Lit.int .i64 A2).wf = true) (hr3 : (Lit.int .i64 r3).wf = true) (hr4 : (Lit.int .i64 r4).wf = true) :
    Calls Try.prog 5 #[.slice a_t0 t0.length c_t0, .int .i64 o1, .int .i64 A2, .int .i64 r3, .int .i64 r4] w fun e w' => e = .returned (.bool true) ∧ Below w.heap.size w w' := let ⟨k, h⟩ := P t0 o1 A2 r3 r4 ho1 hA2 hr3 hr4; law_w hS (glyphiclaw23_StrokeBoxes.ok (SlI.e h_t0) (k := k) h)
end Go.Proofs.Ytpimfacaalkmdaa.QStrokeBoxes
