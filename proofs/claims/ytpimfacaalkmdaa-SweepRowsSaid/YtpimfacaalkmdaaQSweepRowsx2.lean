/- Functions of the program as Lean functions, each with the proof of its walk. Written by gen.py, a program of these sessions. -/
import Derived.Test.YtpimfacaalkmdaaQSweepRowsx1
namespace Go.Proofs.Ytpimfacaalkmdaa.QSweepRows
open Go Go.RowKit Go.Proofs.YtpimfacaalkmdaaE Go.Proofs.YtpimfacaalkmdaaX
set_option linter.unusedVariables false
set_option maxRecDepth 100000
set_option maxHeartbeats 8000000
/-- glyphiclaw24.SweepRows -/
def c12 : C :=
  (.seq (.reg [⟨(some 10), .mv (.const (.bool false)), none⟩])
  (.seq (.reg [⟨(some 20), .call 40 [], none⟩,
     ⟨(some 11), .mv (.tmp 20), none⟩])
  (.seq (.seq (.reg [⟨(some 21), .mv (.tmp 11), none⟩,
      ⟨(some 22), .un .not (.tmp 21), none⟩])
   (.cond (.tmp 22)
    (.seq (.reg [⟨(some 10), .mv (.const (.bool false)), none⟩])
     .ret)
    .skip))
  (.seq (.seq (.reg [⟨(some 23), .mv (.tmp 0), none⟩,
      ⟨(some 24), .lns (.tmp 23), none⟩,
      ⟨(some 25), .bin .gtr (.tmp 24) (.const (.int .i64 100)), none⟩])
   (.cond (.tmp 25)
    (.seq (.reg [⟨(some 26), .mv (.tmp 11), none⟩,
        ⟨(some 10), .mv (.tmp 26), none⟩])
     .ret)
    .skip))
  (.seq (.reg [⟨(some 27), .mv (.tmp 2), none⟩,
     ⟨(some 28), .bin .rem (.tmp 27) (.const (.int .i64 1000)), none⟩,
     ⟨(some 2), .mv (.tmp 28), none⟩])
  (.seq (.reg [⟨(some 29), .mv (.tmp 3), none⟩,
     ⟨(some 30), .bin .rem (.tmp 29) (.const (.int .i64 1000)), none⟩,
     ⟨(some 3), .mv (.tmp 30), none⟩])
  (.seq (.reg [⟨(some 31), .mv (.tmp 4), none⟩,
     ⟨(some 32), .bin .rem (.tmp 31) (.const (.int .i64 6)), none⟩,
     ⟨(some 33), .bin .add (.tmp 32) (.const (.int .i64 6)), none⟩,
     ⟨(some 34), .bin .rem (.tmp 33) (.const (.int .i64 6)), none⟩,
     ⟨(some 4), .mv (.tmp 34), none⟩])
  (.seq (.seq (.reg [⟨(some 12), .mv (.const (.int .i64 0)), none⟩])
   (.block 0 (.loop (.seq (.seq (.reg [⟨(some 35), .mv (.tmp 12), none⟩,
         ⟨(some 36), .bin .lss (.tmp 35) (.const (.int .i64 64)), none⟩])
      (.cond (.tmp 36)
       .skip
       (.exit 0)))
     (.seq (.block 1 (.seq (.reg [⟨(some 39), .mv (.tmp 2), none⟩,
          ⟨(some 40), .mv (.tmp 3), none⟩,
          ⟨(some 41), .mv (.tmp 12), none⟩,
          ⟨(some 42), .call 48 [(.tmp 39), (.tmp 40), (.tmp 41)], none⟩,
          ⟨(some 13), .new [(.int .i64 0), (.int .i64 0)], none⟩,
          ⟨none, .st 2 (.tmp 13) (.tmp 42), none⟩])
       (.seq (.drw [⟨(some 43), .pad 0 (.tmp 13), none⟩,
          ⟨(some 44), .ld none (.tmp 43), none⟩,
          ⟨(some 45), .mv (.tmp 2), none⟩,
          ⟨(some 46), .bin .mul (.tmp 45) (.const (.int .i64 256)), none⟩,
          ⟨(some 47), .bin .leq (.tmp 44) (.tmp 46), none⟩,
          ⟨(some 48), .mv (.tmp 47), none⟩,
          ⟨(some 49), .pad 0 (.tmp 13), (some (48, false))⟩,
          ⟨(some 50), .ld none (.tmp 49), (some (48, false))⟩,
          ⟨(some 51), .mv (.tmp 2), (some (48, false))⟩,
          ⟨(some 52), .bin .mul (.tmp 51) (.const (.int .i64 256)), (some (48, false))⟩,
          ⟨(some 53), .bin .add (.tmp 52) (.const (.int .i64 256)), (some (48, false))⟩,
          ⟨(some 54), .bin .geq (.tmp 50) (.tmp 53), (some (48, false))⟩,
          ⟨(some 55), .pk (.tmp 48) (.const (.bool true)) (.tmp 54), none⟩,
          ⟨(some 56), .mv (.tmp 55), none⟩,
          ⟨(some 57), .pad 1 (.tmp 13), (some (56, false))⟩,
          ⟨(some 58), .ld none (.tmp 57), (some (56, false))⟩,
          ⟨(some 59), .mv (.tmp 3), (some (56, false))⟩,
          ⟨(some 60), .bin .mul (.tmp 59) (.const (.int .i64 256)), (some (56, false))⟩,
          ⟨(some 61), .bin .leq (.tmp 58) (.tmp 60), (some (56, false))⟩,
          ⟨(some 62), .pk (.tmp 56) (.const (.bool true)) (.tmp 61), none⟩,
          ⟨(some 63), .mv (.tmp 62), none⟩,
          ⟨(some 64), .pad 1 (.tmp 13), (some (63, false))⟩,
          ⟨(some 65), .ld none (.tmp 64), (some (63, false))⟩,
          ⟨(some 66), .mv (.tmp 3), (some (63, false))⟩,
          ⟨(some 67), .bin .mul (.tmp 66) (.const (.int .i64 256)), (some (63, false))⟩,
          ⟨(some 68), .bin .add (.tmp 67) (.const (.int .i64 256)), (some (63, false))⟩,
          ⟨(some 69), .bin .geq (.tmp 65) (.tmp 68), (some (63, false))⟩,
          ⟨(some 70), .pk (.tmp 63) (.const (.bool true)) (.tmp 69), none⟩,
          ⟨(some 71), .mv (.tmp 70), none⟩,
          ⟨(some 72), .mv (.tmp 12), (some (71, false))⟩,
          ⟨(some 73), .bin .rem (.tmp 72) (.const (.int .i64 8)), (some (71, false))⟩,
          ⟨(some 74), .bin .neq (.tmp 73) (.const (.int .i64 0)), (some (71, false))⟩,
          ⟨(some 75), .mv (.tmp 74), (some (71, false))⟩,
          ⟨(some 76), .pad 0 (.tmp 13), (some (75, true))⟩,
          ⟨(some 77), .ld none (.tmp 76), (some (75, true))⟩,
          ⟨(some 78), .mv (.tmp 2), (some (75, true))⟩,
          ⟨(some 79), .mv (.tmp 3), (some (75, true))⟩,
          ⟨(some 80), .mv (.tmp 12), (some (75, true))⟩,
          ⟨(some 81), .bin .sub (.tmp 80) (.const (.int .i64 1)), (some (75, true))⟩,
          ⟨(some 82), .call 48 [(.tmp 78), (.tmp 79), (.tmp 81)], (some (75, true))⟩,
          ⟨(some 83), .fld none 0 (.tmp 82), (some (75, true))⟩,
          ⟨(some 84), .bin .sub (.tmp 77) (.tmp 83), (some (75, true))⟩,
          ⟨(some 85), .bin .neq (.tmp 84) (.const (.int .i64 32)), (some (75, true))⟩,
          ⟨(some 86), .pk (.tmp 75) (.tmp 85) (.const (.bool false)), (some (71, false))⟩,
          ⟨(some 87), .pk (.tmp 71) (.const (.bool true)) (.tmp 86), none⟩,
          ⟨(some 88), .mv (.tmp 87), none⟩,
          ⟨(some 89), .mv (.tmp 12), (some (88, false))⟩,
          ⟨(some 90), .bin .gtr (.tmp 89) (.const (.int .i64 7)), (some (88, false))⟩,
          ⟨(some 91), .mv (.tmp 90), (some (88, false))⟩,
          ⟨(some 92), .pad 1 (.tmp 13), (some (91, true))⟩,
          ⟨(some 93), .ld none (.tmp 92), (some (91, true))⟩,
          ⟨(some 94), .mv (.tmp 2), (some (91, true))⟩,
          ⟨(some 95), .mv (.tmp 3), (some (91, true))⟩,
          ⟨(some 96), .mv (.tmp 12), (some (91, true))⟩,
          ⟨(some 97), .bin .sub (.tmp 96) (.const (.int .i64 8)), (some (91, true))⟩,
          ⟨(some 98), .call 48 [(.tmp 94), (.tmp 95), (.tmp 97)], (some (91, true))⟩,
          ⟨(some 99), .fld none 1 (.tmp 98), (some (91, true))⟩,
          ⟨(some 100), .bin .sub (.tmp 93) (.tmp 99), (some (91, true))⟩,
          ⟨(some 101), .bin .neq (.tmp 100) (.const (.int .i64 32)), (some (91, true))⟩,
          ⟨(some 102), .pk (.tmp 91) (.tmp 101) (.const (.bool false)), (some (88, false))⟩,
          ⟨(some 103), .pk (.tmp 88) (.const (.bool true)) (.tmp 102), none⟩] [[], [0], [], [2], [1, 3], [4], [5], [6, 5], [5], [8, 5], [9, 5], [7, 10, 5], [5, 11], [12, 5], [13], [14, 13], [13], [16, 13], [15, 17, 13], [13, 18], [19, 13], [20], [21, 20], [20], [23, 20], [24, 20], [22, 25, 20], [20, 26], [27, 20], [28], [29, 28], [30, 28], [31, 28, 28], [32], [33, 32], [32], [32], [32], [37, 32], [35, 36, 38, 32, 32], [39, 32], [34, 40, 32], [41, 32], [32, 42, 28], [28, 43], [44, 39], [45], [46, 45], [47, 45, 45], [48], [49, 48], [48], [48], [48], [53, 48], [51, 52, 54, 48, 48], [55, 48], [50, 56, 48], [57, 48], [48, 58, 45], [45, 59]])
       (.cond (.tmp 103)
        (.seq (.reg [⟨(some 10), .mv (.const (.bool false)), none⟩])
         .ret)
        .skip))))
     (.reg [⟨(some 37), .mv (.tmp 12), none⟩,
       ⟨(some 38), .bin .add (.tmp 37) (.const (.int .i64 1)), none⟩,
       ⟨(some 12), .mv (.tmp 38), none⟩]))))))
  (.seq (.reg [⟨(some 104), .mv (.tmp 0), none⟩,
     ⟨(some 105), .bld [(.slice none 0 0), (.int .i64 0)] [(0, 1, (.tmp 104))], none⟩,
     ⟨(some 106), .box (.tmp 105), none⟩,
     ⟨(some 14), .mv (.tmp 106), none⟩])
  (.seq (.reg [⟨(some 107), .mv (.tmp 14), none⟩,
     ⟨(some 108), .call 43 [(.tmp 107), (.const (.int .i64 9)), (.const (.int .i64 900))], none⟩,
     ⟨(some 15), .mv (.tmp 108), none⟩])
  (.seq (.reg [⟨(some 109), .mv (.tmp 15), none⟩,
     ⟨(some 110), .mv (.tmp 1), none⟩,
     ⟨(some 111), .bin .and (.tmp 110) (.const (.int .i64 1)), none⟩,
     ⟨(some 112), .mv (.tmp 4), none⟩,
     ⟨(some 113), .call 41 [(.tmp 109), (.tmp 111), (.const (.int .i64 1)), (.tmp 112)], none⟩,
     ⟨(some 16), .mv (.tmp 113), none⟩])
  (.seq (.reg [⟨(some 114), .mv (.tmp 15), none⟩,
     ⟨(some 115), .mv (.tmp 1), none⟩,
     ⟨(some 116), .bin .and (.tmp 115) (.const (.int .i64 1)), none⟩,
     ⟨(some 117), .mv (.tmp 4), none⟩,
     ⟨(some 118), .bin .add (.tmp 117) (.const (.int .i64 3)), none⟩,
     ⟨(some 119), .call 41 [(.tmp 114), (.tmp 116), (.const (.int .i64 1)), (.tmp 118)], none⟩,
     ⟨(some 17), .mv (.tmp 119), none⟩])
  (.seq (.reg [⟨(some 120), .mv (.tmp 15), none⟩,
     ⟨(some 121), .mv (.tmp 4), none⟩,
     ⟨(some 122), .call 45 [(.tmp 120), (.const (.int .i64 77)), (.const (.int .i64 0)), (.tmp 121)], none⟩,
     ⟨(some 18), .mv (.tmp 122), none⟩])
  (.seq (.reg [⟨(some 123), .mv (.tmp 15), none⟩,
     ⟨(some 124), .mv (.tmp 4), none⟩,
     ⟨(some 125), .bin .add (.tmp 124) (.const (.int .i64 3)), none⟩,
     ⟨(some 126), .call 45 [(.tmp 123), (.const (.int .i64 77)), (.const (.int .i64 0)), (.tmp 125)], none⟩,
     ⟨(some 19), .mv (.tmp 126), none⟩])
  (.seq (.reg [⟨(some 127), .mv (.tmp 11), none⟩,
     ⟨(some 128), .mv (.tmp 127), none⟩,
     ⟨(some 129), .mv (.tmp 16), (some (128, true))⟩,
     ⟨(some 130), .lns (.tmp 129), (some (128, true))⟩,
     ⟨(some 131), .mv (.tmp 4), (some (128, true))⟩,
     ⟨(some 132), .bin .eql (.tmp 130) (.tmp 131), (some (128, true))⟩,
     ⟨(some 133), .pk (.tmp 128) (.tmp 132) (.const (.bool false)), none⟩,
     ⟨(some 134), .mv (.tmp 133), none⟩,
     ⟨(some 135), .mv (.tmp 18), (some (134, true))⟩,
     ⟨(some 136), .lns (.tmp 135), (some (134, true))⟩,
     ⟨(some 137), .mv (.tmp 4), (some (134, true))⟩,
     ⟨(some 138), .bin .eql (.tmp 136) (.tmp 137), (some (134, true))⟩,
     ⟨(some 139), .pk (.tmp 134) (.tmp 138) (.const (.bool false)), none⟩,
     ⟨(some 140), .mv (.tmp 139), none⟩,
     ⟨(some 141), .mv (.tmp 17), (some (140, true))⟩,
     ⟨(some 142), .lns (.tmp 141), (some (140, true))⟩,
     ⟨(some 143), .mv (.tmp 4), (some (140, true))⟩,
     ⟨(some 144), .bin .add (.tmp 143) (.const (.int .i64 3)), (some (140, true))⟩,
     ⟨(some 145), .bin .eql (.tmp 142) (.tmp 144), (some (140, true))⟩,
     ⟨(some 146), .pk (.tmp 140) (.tmp 145) (.const (.bool false)), none⟩,
     ⟨(some 147), .mv (.tmp 146), none⟩,
     ⟨(some 148), .mv (.tmp 19), (some (147, true))⟩,
     ⟨(some 149), .lns (.tmp 148), (some (147, true))⟩,
     ⟨(some 150), .mv (.tmp 4), (some (147, true))⟩,
     ⟨(some 151), .bin .add (.tmp 150) (.const (.int .i64 3)), (some (147, true))⟩,
     ⟨(some 152), .bin .eql (.tmp 149) (.tmp 151), (some (147, true))⟩,
     ⟨(some 153), .pk (.tmp 147) (.tmp 152) (.const (.bool false)), none⟩,
     ⟨(some 154), .mv (.tmp 153), none⟩,
     ⟨(some 155), .mv (.tmp 16), (some (154, true))⟩,
     ⟨(some 156), .mv (.tmp 17), (some (154, true))⟩,
     ⟨(some 157), .mv (.tmp 4), (some (154, true))⟩,
     ⟨(some 158), .sls 1 (.tmp 156) none (some (.tmp 157)), (some (154, true))⟩,
     ⟨(some 159), .call 51 [(.tmp 155), (.tmp 158)], (some (154, true))⟩,
     ⟨(some 160), .pk (.tmp 154) (.tmp 159) (.const (.bool false)), none⟩,
     ⟨(some 161), .mv (.tmp 160), none⟩,
     ⟨(some 162), .mv (.tmp 18), (some (161, true))⟩,
     ⟨(some 163), .mv (.tmp 19), (some (161, true))⟩,
     ⟨(some 164), .mv (.tmp 4), (some (161, true))⟩,
     ⟨(some 165), .sls 1 (.tmp 163) none (some (.tmp 164)), (some (161, true))⟩,
     ⟨(some 166), .call 51 [(.tmp 162), (.tmp 165)], (some (161, true))⟩,
     ⟨(some 167), .pk (.tmp 161) (.tmp 166) (.const (.bool false)), none⟩,
     ⟨(some 168), .mv (.tmp 167), none⟩,
     ⟨(some 169), .mv (.tmp 15), (some (168, true))⟩,
     ⟨(some 170), .call 41 [(.tmp 169), (.const (.int .i64 0)), (.const (.int .i64 0)), (.const (.int .i64 (-1)))], (some (168, true))⟩,
     ⟨(some 171), .lns (.tmp 170), (some (168, true))⟩,
     ⟨(some 172), .bin .eql (.tmp 171) (.const (.int .i64 0)), (some (168, true))⟩,
     ⟨(some 173), .pk (.tmp 168) (.tmp 172) (.const (.bool false)), none⟩,
     ⟨(some 10), .mv (.tmp 173), none⟩])
  .ret)))))))))))))))
def glyphiclaw24_SweepRows.l0 : Nat → Int → Int → Int → Int → Option ((Bool) ⊕ (Int × Bool))
  | 0, _, _, _, _ => none
  | k + 1, A2, r3, r4, x129 => if x129 < 64 then ((sweep_Sample.f (Int.tmod A2 1000) (Int.tmod r3 1000) x129).bind fun (t131, t132) => (if t131 ≤ (wr64 ((Int.tmod A2 1000) * 256)) then (some (.inl false)) else (if t131 ≥ (wr64 ((wr64 ((Int.tmod A2 1000) * 256)) + 256)) then (some (.inl false)) else (if t132 ≤ (wr64 ((Int.tmod r3 1000) * 256)) then (some (.inl false)) else (if t132 ≥ (wr64 ((wr64 ((Int.tmod r3 1000) * 256)) + 256)) then (some (.inl false)) else (if (Int.tmod x129 8) = 0 then (if x129 > 7 then ((sweep_Sample.f (Int.tmod A2 1000) (Int.tmod r3 1000) (wr64 (x129 - 8))).bind fun (t141, t142) => (if (wr64 (t132 - t142)) = 32 then (glyphiclaw24_SweepRows.l0 k A2 r3 r4 (wr64 (x129 + 1))) else (some (.inl false)))) else (glyphiclaw24_SweepRows.l0 k A2 r3 r4 (wr64 (x129 + 1)))) else ((sweep_Sample.f (Int.tmod A2 1000) (Int.tmod r3 1000) (wr64 (x129 - 1))).bind fun (t147, t148) => (if (wr64 (t131 - t147)) = 32 then (if x129 > 7 then ((sweep_Sample.f (Int.tmod A2 1000) (Int.tmod r3 1000) (wr64 (x129 - 8))).bind fun (t152, t153) => (if (wr64 (t132 - t153)) = 32 then (glyphiclaw24_SweepRows.l0 k A2 r3 r4 (wr64 (x129 + 1))) else (some (.inl false)))) else (glyphiclaw24_SweepRows.l0 k A2 r3 r4 (wr64 (x129 + 1)))) else (some (.inl false)))))))))) else (some (.inr (Int.tmod (wr64 ((Int.tmod r4 6) + 6)) 6, true)))
def glyphiclaw24_SweepRows.f (k : Nat) (t0 : List (Int)) (o1 : Int) (A2 : Int) (r3 : Int) (r4 : Int) : Option (Bool) := (glyphiclaw24_first.f k).bind fun t123 => (if t123 = true then (if (t0.length : Int) > 100 then (some true) else ((glyphiclaw24_SweepRows.l0 k A2 r3 r4 0 : Option ((Bool) ⊕ (Int × Bool))).bind fun s_ => match s_ with | .inl q470 => some q470 | .inr (x159, x160) => ((glyphicmake_Ring_v1.f k 9 900 t0 0).bind fun (t290, t291) => ((sweep_Fill_v1.f k t290 (bits .and .i64 o1 1) 1 x159).bind fun t294 => ((sweep_Fill_v1.f k t290 (bits .and .i64 o1 1) 1 (wr64 (x159 + 3))).bind fun t297 => ((sweep_Line_v1.f k t290 77 0 x159).bind fun t410 => ((sweep_Line_v1.f k t290 77 0 (wr64 (x159 + 3))).bind fun t413 => (if x160 = true then (if (t294.length : Int) = x159 then (if (t410.length : Int) = x159 then (if (t297.length : Int) = (wr64 (x159 + 3)) then (if (t413.length : Int) = (wr64 (x159 + 3)) then ((lsub t297 0 x159).bind fun y421 => ((glyphicref_SameMasks_v1.f k t294 y421).bind fun t457 => (if t457 = true then ((lsub t413 0 x159).bind fun y459 => ((glyphicref_SameMasks_v1.f k t410 y459).bind fun t465 => (if t465 = true then ((sweep_Fill_v1.f k t290 0 0 (-1)).bind fun t467 => (some ((t467.length : Int) == 0))) else (some false)))) else (some false)))) else (some false)) else (some false)) else (some false)) else (some false)) else (some false))))))))) else (some false))
theorem glyphiclaw24_SweepRows.ok {S : Seal} {k : Nat} {t0 : List (Int)} {o1 : Int} {A2 : Int} {r3 : Int} {r4 : Int} {a_t0 : Option Addr} {c_t0 : Nat} (h_t0 : SlE S E_i64 t0 a_t0) (e : glyphiclaw24_SweepRows.f k t0 o1 A2 r3 r4 = some true) :
    Cal Try.prog 12 [.slice a_t0 t0.length c_t0, .int .i64 o1, .int .i64 A2, .int .i64 r3, .int .i64 r4] [] S fun v H' S' => v = .bool true ∧ H' = [] ∧ S' = S := by
  unfold glyphiclaw24_SweepRows.f at e
  refine cal_of (c := c12) (N := 174) Try.func12 rfl rfl (by kernel_rfl) (rs := [.t 10]) (by kernel_rfl) (Nat.le_of_ble_eq_true rfl) ?_
  unfold c12
  refine w_seq ?_
  refine w_reg fun all => ?_
  refine t_qz 1 [0, 1, 2, 3, 4] (σ' := [(0, .slice a_t0 t0.length c_t0), (1, .int .i64 o1), (2, .int .i64 A2), (3, .int .i64 r3), (4, .int .i64 r4)]) (by kernel_rfl) ?_
  refine t_end ?_
  show W _ _ _ _ _ _ _
  refine w_seq ?_
  refine w_reg fun all => ?_
  obtain ⟨t123, h124, e⟩ := bind_of e
  cases t123 with
  | true =>
    rw [if_pos rfl] at e
    refine t_v (.call (vs := []) rfl rfl (by kernel_rfl) (glyphiclaw24_first.ok h124)) ?_
    refine t_qz 1 [0, 1, 2, 3, 4, 11] (σ' := [(0, .slice a_t0 t0.length c_t0), (1, .int .i64 o1), (2, .int .i64 A2), (3, .int .i64 r3), (4, .int .i64 r4), (11, .bool true)]) (by kernel_rfl) ?_
    refine t_end ?_
    show W _ _ _ _ _ _ _
    refine w_seq ?_
    refine w_seq ?_
    refine w_reg fun all => ?_
    refine t_qz 2 [0, 1, 2, 3, 4, 11, 22] (σ' := [(0, .slice a_t0 t0.length c_t0), (1, .int .i64 o1), (2, .int .i64 A2), (3, .int .i64 r3), (4, .int .i64 r4), (11, .bool true), (22, .bool false)]) (by kernel_rfl) ?_
    refine t_end ?_
    show W _ _ _ _ _ _ _
    refine w_cond rfl (fun c_ => by cases c_) (fun _ => ?_)
    show W _ _ _ _ _ _ _
    refine w_skip ?_
    show W _ _ _ _ _ _ _
    refine w_seq ?_
    refine w_seq ?_
    refine w_reg fun all => ?_
    by_cases c125 : (t0.length : Int) > 100
    · rw [if_pos c125] at e
      have c125b : (decide ((t0.length : Int) > 100)) = true := decide_eq_true c125
      refine t_qz 2 [0, 1, 2, 3, 4, 11, 24] (σ' := [(0, .slice a_t0 t0.length c_t0), (1, .int .i64 o1), (2, .int .i64 A2), (3, .int .i64 r3), (4, .int .i64 r4), (11, .bool true), (24, .int .i64 (t0.length : Int))]) (by kernel_rfl) ?_
      refine t_v (dv_quiet rfl (congrArg (fun t => some (Value.bool t)) c125b)) ?_
      refine t_keep [0, 1, 2, 3, 4, 11, 25] (σ' := [(0, .slice a_t0 t0.length c_t0), (1, .int .i64 o1), (2, .int .i64 A2), (3, .int .i64 r3), (4, .int .i64 r4), (11, .bool true), (25, .bool true)]) (by kernel_rfl) ?_
      refine t_end ?_
      show W _ _ _ _ _ _ _
      refine w_cond rfl (fun _ => ?_) (fun c_ => by cases c_)
      show W _ _ _ _ _ _ _
      refine w_seq ?_
      refine w_reg fun all => ?_
      refine t_qz 2 [10] (σ' := [(10, .bool true)]) (by kernel_rfl) ?_
      refine t_end ?_
      show W _ _ _ _ _ _ _
      refine w_ret ?_
      have hr_ := Option.some.inj e
      exact ⟨[.bool true], [], S, ⟨rfl, trivial⟩, VS.none, congrArg Value.bool hr_, rfl, rfl⟩
    · rw [if_neg c125] at e
      have c125b : (decide ((t0.length : Int) > 100)) = false := decide_eq_false c125
      refine t_qz 2 [0, 1, 2, 3, 4, 11, 24] (σ' := [(0, .slice a_t0 t0.length c_t0), (1, .int .i64 o1), (2, .int .i64 A2), (3, .int .i64 r3), (4, .int .i64 r4), (11, .bool true), (24, .int .i64 (t0.length : Int))]) (by kernel_rfl) ?_
      refine t_v (dv_quiet rfl (congrArg (fun t => some (Value.bool t)) c125b)) ?_
      refine t_keep [0, 1, 2, 3, 4, 11, 25] (σ' := [(0, .slice a_t0 t0.length c_t0), (1, .int .i64 o1), (2, .int .i64 A2), (3, .int .i64 r3), (4, .int .i64 r4), (11, .bool true), (25, .bool false)]) (by kernel_rfl) ?_
      refine t_end ?_
      show W _ _ _ _ _ _ _
      refine w_cond rfl (fun c_ => by cases c_) (fun _ => ?_)
      show W _ _ _ _ _ _ _
      refine w_skip ?_
      show W _ _ _ _ _ _ _
      refine w_seq ?_
      refine w_reg fun all => ?_
      refine t_qz 3 [0, 1, 2, 3, 4, 11] (σ' := [(0, .slice a_t0 t0.length c_t0), (1, .int .i64 o1), (2, .int .i64 (Int.tmod A2 1000)), (3, .int .i64 r3), (4, .int .i64 r4), (11, .bool true)]) (by kernel_rfl) ?_
      refine t_end ?_
      show W _ _ _ _ _ _ _
      refine w_seq ?_
      refine w_reg fun all => ?_
      refine t_qz 3 [0, 1, 2, 3, 4, 11] (σ' := [(0, .slice a_t0 t0.length c_t0), (1, .int .i64 o1), (2, .int .i64 (Int.tmod A2 1000)), (3, .int .i64 (Int.tmod r3 1000)), (4, .int .i64 r4), (11, .bool true)]) (by kernel_rfl) ?_
      refine t_end ?_
      show W _ _ _ _ _ _ _
      refine w_seq ?_
      refine w_reg fun all => ?_
      refine t_qz 5 [0, 1, 2, 3, 4, 11] (σ' := [(0, .slice a_t0 t0.length c_t0), (1, .int .i64 o1), (2, .int .i64 (Int.tmod A2 1000)), (3, .int .i64 (Int.tmod r3 1000)), (4, .int .i64 (Int.tmod (wr64 ((Int.tmod r4 6) + 6)) 6)), (11, .bool true)]) (by kernel_rfl) ?_
      refine t_end ?_
      show W _ _ _ _ _ _ _
      obtain ⟨s128, e127, e⟩ := bind_of e
      refine w_cut [0, 1, 4, 11] (fun σ_ H_ S_ => ∃ (x159 : Int) (x160 : Bool), s128 = .inr (x159, x160) ∧ [(0, .slice a_t0 t0.length c_t0), (1, .int .i64 o1), (4, .int .i64 x159), (11, .bool x160)] = σ_ ∧ ([] : List Own) = H_ ∧ S = S_) ?_ ?_
      · show W _ _ _ _ _ _ _
        refine w_seq ?_
        refine w_reg fun all => ?_
        refine t_qz 1 [0, 1, 2, 3, 4, 11, 12] (σ' := [(0, .slice a_t0 t0.length c_t0), (1, .int .i64 o1), (2, .int .i64 (Int.tmod A2 1000)), (3, .int .i64 (Int.tmod r3 1000)), (4, .int .i64 (Int.tmod (wr64 ((Int.tmod r4 6) + 6)) 6)), (11, .bool true), (12, .int .i64 0)]) (by kernel_rfl) ?_
        refine t_end ?_
        show W _ _ _ _ _ _ _
        refine w_block ?_
        refine w_kp [0, 1, 2, 3, 4, 11, 12] (σ' := [(0, .slice a_t0 t0.length c_t0), (1, .int .i64 o1), (2, .int .i64 (Int.tmod A2 1000)), (3, .int .i64 (Int.tmod r3 1000)), (4, .int .i64 (Int.tmod (wr64 ((Int.tmod r4 6) + 6)) 6)), (11, .bool true), (12, .int .i64 0)]) (by kernel_rfl) ?_
        refine w_loop (fun n_ σ_ H_ S_ => ∃ (x129 : Int), [(0, .slice a_t0 t0.length c_t0), (1, .int .i64 o1), (2, .int .i64 (Int.tmod A2 1000)), (3, .int .i64 (Int.tmod r3 1000)), (4, .int .i64 (Int.tmod (wr64 ((Int.tmod r4 6) + 6)) 6)), (11, .bool true), (12, .int .i64 x129)] = σ_ ∧ ([] : List Own) = H_ ∧ S = S_ ∧ glyphiclaw24_SweepRows.l0 n_ A2 r3 r4 x129 = some s128) _ ⟨0, rfl, rfl, rfl, e127⟩ ?_
        rintro n158 σ_ H_ S_ ⟨x129, rfl, rfl, rfl, e127⟩
        cases n158 with
        | zero => rw [glyphiclaw24_SweepRows.l0.eq_1] at e127; cases e127
        | succ k_ =>
          rw [glyphiclaw24_SweepRows.l0.eq_2] at e127
          refine w_seq ?_
          refine w_seq ?_
          refine w_reg fun all => ?_
          by_cases c130 : x129 < 64
          · rw [if_pos c130] at e127
            have c130b : (decide (x129 < 64)) = true := decide_eq_true c130
            refine t_qz 1 [0, 1, 2, 3, 4, 11, 12, 35] (σ' := [(0, .slice a_t0 t0.length c_t0), (1, .int .i64 o1), (2, .int .i64 (Int.tmod A2 1000)), (3, .int .i64 (Int.tmod r3 1000)), (4, .int .i64 (Int.tmod (wr64 ((Int.tmod r4 6) + 6)) 6)), (11, .bool true), (12, .int .i64 x129), (35, .int .i64 x129)]) (by kernel_rfl) ?_
            refine t_v (dv_quiet rfl (congrArg (fun t => some (Value.bool t)) c130b)) ?_
            refine t_keep [0, 1, 2, 3, 4, 11, 12, 36] (σ' := [(0, .slice a_t0 t0.length c_t0), (1, .int .i64 o1), (2, .int .i64 (Int.tmod A2 1000)), (3, .int .i64 (Int.tmod r3 1000)), (4, .int .i64 (Int.tmod (wr64 ((Int.tmod r4 6) + 6)) 6)), (11, .bool true), (12, .int .i64 x129), (36, .bool true)]) (by kernel_rfl) ?_
            refine t_end ?_
            show W _ _ _ _ _ _ _
            refine w_cond rfl (fun _ => ?_) (fun c_ => by cases c_)
            show W _ _ _ _ _ _ _
            refine w_skip ?_
            show W _ _ _ _ _ _ _
            refine w_seq ?_
            refine w_block ?_
            refine w_seq ?_
            refine w_reg fun all => ?_
            obtain ⟨⟨t131, t132⟩, h133, e127⟩ := bind_of e127
            try dsimp only at e127
            refine t_qz 3 [0, 1, 2, 3, 4, 11, 12, 39, 40, 41] (σ' := [(0, .slice a_t0 t0.length c_t0), (1, .int .i64 o1), (2, .int .i64 (Int.tmod A2 1000)), (3, .int .i64 (Int.tmod r3 1000)), (4, .int .i64 (Int.tmod (wr64 ((Int.tmod r4 6) + 6)) 6)), (11, .bool true), (12, .int .i64 x129), (39, .int .i64 (Int.tmod A2 1000)), (40, .int .i64 (Int.tmod r3 1000)), (41, .int .i64 x129)]) (by kernel_rfl) ?_
            refine t_v (.call (vs := [.int .i64 (Int.tmod A2 1000), .int .i64 (Int.tmod r3 1000), .int .i64 x129]) rfl rfl (by kernel_rfl) (sweep_Sample.ok h133)) ?_
            refine t_a (.new rfl rfl) fun b134 fb134 sb134 => ?_
            refine t_sti 0 (cs := [.int .i64 t131, .int .i64 t132]) rfl rfl rfl rfl rfl rfl rfl rfl rfl ?_
            refine t_keep [0, 1, 2, 3, 4, 11, 12, 13] (σ' := [(0, .slice a_t0 t0.length c_t0), (1, .int .i64 o1), (2, .int .i64 (Int.tmod A2 1000)), (3, .int .i64 (Int.tmod r3 1000)), (4, .int .i64 (Int.tmod (wr64 ((Int.tmod r4 6) + 6)) 6)), (11, .bool true), (12, .int .i64 x129), (13, .pointer (some ⟨b134, 0, none⟩))]) (by kernel_rfl) ?_
            refine t_end ?_
            show W _ _ _ _ _ _ _
            refine w_seq ?_
            by_cases c135 : t131 ≤ (wr64 ((Int.tmod A2 1000) * 256))
            · rw [if_pos c135] at e127
              have c135b : (decide (t131 ≤ (wr64 ((Int.tmod A2 1000) * 256)))) = true := decide_eq_true c135
              refine w_drwE mixed 61 [.v (.pointer (some ⟨b134, 0, none⟩)), .v (.int .i64 t131), .v (.int .i64 (Int.tmod A2 1000)), .v (.int .i64 (wr64 ((Int.tmod A2 1000) * 256))), .v (.bool true), .v (.bool true), .v (.tuple #[]), .v (.tuple #[]), .v (.tuple #[]), .v (.tuple #[]), .v (.tuple #[]), .v (.tuple #[]), .v (.bool true), .v (.bool true), .v (.tuple #[]), .v (.tuple #[]), .v (.tuple #[]), .v (.tuple #[]), .v (.tuple #[]), .v (.bool true), .v (.bool true), .v (.tuple #[]), .v (.tuple #[]), .v (.tuple #[]), .v (.tuple #[]), .v (.tuple #[]), .v (.tuple #[]), .v (.bool true), .v (.bool true), .v (.tuple #[]), .v (.tuple #[]), .v (.tuple #[]), .v (.tuple #[]), .v (.tuple #[]), .v (.tuple #[]), .v (.tuple #[]), .v (.tuple #[]), .v (.tuple #[]), .v (.tuple #[]), .v (.tuple #[]), .v (.tuple #[]), .v (.tuple #[]), .v (.tuple #[]), .v (.tuple #[]), .v (.bool true), .v (.bool true), .v (.tuple #[]), .v (.tuple #[]), .v (.tuple #[]), .v (.tuple #[]), .v (.tuple #[]), .v (.tuple #[]), .v (.tuple #[]), .v (.tuple #[]), .v (.tuple #[]), .v (.tuple #[]), .v (.tuple #[]), .v (.tuple #[]), .v (.tuple #[]), .v (.tuple #[]), .v (.bool true)] (by kernel_rfl) ?_ ?_
              · refine DI.sq 1 (by kernel_rfl) rfl ?_
                refine .cons (.ld1 rfl rfl rfl (.at 0 rfl rfl)) ?_
                refine DI.sq 2 (by kernel_rfl) rfl ?_
                refine .cons (dv_quiet rfl (congrArg (fun t => some (Value.bool t)) c135b)) ?_
                refine DI.sq 56 (by kernel_rfl) rfl ?_
                exact .nil
              refine fk_q 61 [0, 1, 2, 3, 4, 11, 12, 49, 50, 51, 52, 53, 54, 57, 58, 59, 60, 61, 64, 65, 66, 67, 68, 69, 72, 73, 74, 75, 76, 77, 78, 79, 80, 81, 82, 83, 84, 85, 86, 89, 90, 91, 92, 93, 94, 95, 96, 97, 98, 99, 100, 101, 102, 103] (σ' := [(0, .slice a_t0 t0.length c_t0), (1, .int .i64 o1), (2, .int .i64 (Int.tmod A2 1000)), (3, .int .i64 (Int.tmod r3 1000)), (4, .int .i64 (Int.tmod (wr64 ((Int.tmod r4 6) + 6)) 6)), (11, .bool true), (12, .int .i64 x129), (49, .tuple #[]), (50, .tuple #[]), (51, .tuple #[]), (52, .tuple #[]), (53, .tuple #[]), (54, .tuple #[]), (57, .tuple #[]), (58, .tuple #[]), (59, .tuple #[]), (60, .tuple #[]), (61, .tuple #[]), (64, .tuple #[]), (65, .tuple #[]), (66, .tuple #[]), (67, .tuple #[]), (68, .tuple #[]), (69, .tuple #[]), (72, .tuple #[]), (73, .tuple #[]), (74, .tuple #[]), (75, .tuple #[]), (76, .tuple #[]), (77, .tuple #[]), (78, .tuple #[]), (79, .tuple #[]), (80, .tuple #[]), (81, .tuple #[]), (82, .tuple #[]), (83, .tuple #[]), (84, .tuple #[]), (85, .tuple #[]), (86, .tuple #[]), (89, .tuple #[]), (90, .tuple #[]), (91, .tuple #[]), (92, .tuple #[]), (93, .tuple #[]), (94, .tuple #[]), (95, .tuple #[]), (96, .tuple #[]), (97, .tuple #[]), (98, .tuple #[]), (99, .tuple #[]), (100, .tuple #[]), (101, .tuple #[]), (102, .tuple #[]), (103, .bool true)]) t_more (by kernel_rfl) ?_
              refine fk_nil fun all => ?_
              refine t_keep [0, 1, 2, 3, 4, 11, 12, 49, 50, 51, 52, 53, 54, 57, 58, 59, 60, 61, 64, 65, 66, 67, 68, 69, 72, 73, 74, 75, 76, 77, 78, 79, 80, 81, 82, 83, 84, 85, 86, 89, 90, 91, 92, 93, 94, 95, 96, 97, 98, 99, 100, 101, 102, 103] (σ' := [(0, .slice a_t0 t0.length c_t0), (1, .int .i64 o1), (2, .int .i64 (Int.tmod A2 1000)), (3, .int .i64 (Int.tmod r3 1000)), (4, .int .i64 (Int.tmod (wr64 ((Int.tmod r4 6) + 6)) 6)), (11, .bool true), (12, .int .i64 x129), (49, .tuple #[]), (50, .tuple #[]), (51, .tuple #[]), (52, .tuple #[]), (53, .tuple #[]), (54, .tuple #[]), (57, .tuple #[]), (58, .tuple #[]), (59, .tuple #[]), (60, .tuple #[]), (61, .tuple #[]), (64, .tuple #[]), (65, .tuple #[]), (66, .tuple #[]), (67, .tuple #[]), (68, .tuple #[]), (69, .tuple #[]), (72, .tuple #[]), (73, .tuple #[]), (74, .tuple #[]), (75, .tuple #[]), (76, .tuple #[]), (77, .tuple #[]), (78, .tuple #[]), (79, .tuple #[]), (80, .tuple #[]), (81, .tuple #[]), (82, .tuple #[]), (83, .tuple #[]), (84, .tuple #[]), (85, .tuple #[]), (86, .tuple #[]), (89, .tuple #[]), (90, .tuple #[]), (91, .tuple #[]), (92, .tuple #[]), (93, .tuple #[]), (94, .tuple #[]), (95, .tuple #[]), (96, .tuple #[]), (97, .tuple #[]), (98, .tuple #[]), (99, .tuple #[]), (100, .tuple #[]), (101, .tuple #[]), (102, .tuple #[]), (103, .bool true)]) (by kernel_rfl) ?_
              refine t_end ?_
              show W _ _ _ _ _ _ _
              refine w_cond rfl (fun _ => ?_) (fun c_ => by cases c_)
              show W _ _ _ _ _ _ _
              refine w_seq ?_
              refine w_reg fun all => ?_
              refine t_qz 1 [10] (σ' := [(10, .bool false)]) (by kernel_rfl) ?_
              refine t_end ?_
              show W _ _ _ _ _ _ _
              refine w_ret ?_
              obtain rfl := Option.some.inj e127
              have hr_ := Option.some.inj e
              exact ⟨[.bool false], [], S, ⟨rfl, trivial⟩, VS.none, congrArg Value.bool hr_, rfl, rfl⟩
            · rw [if_neg c135] at e127
              have c135b : (decide (t131 ≤ (wr64 ((Int.tmod A2 1000) * 256)))) = false := decide_eq_false c135
              by_cases c136 : t131 ≥ (wr64 ((wr64 ((Int.tmod A2 1000) * 256)) + 256))
              · rw [if_pos c136] at e127
                have c136b : (decide (t131 ≥ (wr64 ((wr64 ((Int.tmod A2 1000) * 256)) + 256)))) = true := decide_eq_true c136
                refine w_drwE mixed 61 [.v (.pointer (some ⟨b134, 0, none⟩)), .v (.int .i64 t131), .v (.int .i64 (Int.tmod A2 1000)), .v (.int .i64 (wr64 ((Int.tmod A2 1000) * 256))), .v (.bool false), .v (.bool false), .v (.pointer (some ⟨b134, 0, none⟩)), .v (.int .i64 t131), .v (.int .i64 (Int.tmod A2 1000)), .v (.int .i64 (wr64 ((Int.tmod A2 1000) * 256))), .v (.int .i64 (wr64 ((wr64 ((Int.tmod A2 1000) * 256)) + 256))), .v (.bool true), .v (.bool true), .v (.bool true), .v (.tuple #[]), .v (.tuple #[]), .v (.tuple #[]), .v (.tuple #[]), .v (.tuple #[]), .v (.bool true), .v (.bool true), .v (.tuple #[]), .v (.tuple #[]), .v (.tuple #[]), .v (.tuple #[]), .v (.tuple #[]), .v (.tuple #[]), .v (.bool true), .v (.bool true), .v (.tuple #[]), .v (.tuple #[]), .v (.tuple #[]), .v (.tuple #[]), .v (.tuple #[]), .v (.tuple #[]), .v (.tuple #[]), .v (.tuple #[]), .v (.tuple #[]), .v (.tuple #[]), .v (.tuple #[]), .v (.tuple #[]), .v (.tuple #[]), .v (.tuple #[]), .v (.tuple #[]), .v (.bool true), .v (.bool true), .v (.tuple #[]), .v (.tuple #[]), .v (.tuple #[]), .v (.tuple #[]), .v (.tuple #[]), .v (.tuple #[]), .v (.tuple #[]), .v (.tuple #[]), .v (.tuple #[]), .v (.tuple #[]), .v (.tuple #[]), .v (.tuple #[]), .v (.tuple #[]), .v (.tuple #[]), .v (.bool true)] (by kernel_rfl) ?_ ?_
                · refine DI.sq 1 (by kernel_rfl) rfl ?_
                  refine .cons (.ld1 rfl rfl rfl (.at 0 rfl rfl)) ?_
                  refine DI.sq 2 (by kernel_rfl) rfl ?_
                  refine .cons (dv_quiet rfl (congrArg (fun t => some (Value.bool t)) c135b)) ?_
                  refine DI.sq 2 (by kernel_rfl) rfl ?_
                  refine .cons (.ld1 rfl rfl rfl (.at 0 rfl rfl)) ?_
                  refine DI.sq 3 (by kernel_rfl) rfl ?_
                  refine .cons (dv_quiet rfl (congrArg (fun t => some (Value.bool t)) c136b)) ?_
                  refine DI.sq 49 (by kernel_rfl) rfl ?_
                  exact .nil
                refine fk_q 61 [0, 1, 2, 3, 4, 11, 12, 49, 50, 51, 52, 53, 54, 57, 58, 59, 60, 61, 64, 65, 66, 67, 68, 69, 72, 73, 74, 75, 76, 77, 78, 79, 80, 81, 82, 83, 84, 85, 86, 89, 90, 91, 92, 93, 94, 95, 96, 97, 98, 99, 100, 101, 102, 103] (σ' := [(0, .slice a_t0 t0.length c_t0), (1, .int .i64 o1), (2, .int .i64 (Int.tmod A2 1000)), (3, .int .i64 (Int.tmod r3 1000)), (4, .int .i64 (Int.tmod (wr64 ((Int.tmod r4 6) + 6)) 6)), (11, .bool true), (12, .int .i64 x129), (49, .pointer (some ⟨b134, 0, none⟩)), (50, .int .i64 t131), (51, .int .i64 (Int.tmod A2 1000)), (52, .int .i64 (wr64 ((Int.tmod A2 1000) * 256))), (53, .int .i64 (wr64 ((wr64 ((Int.tmod A2 1000) * 256)) + 256))), (54, .bool true), (57, .tuple #[]), (58, .tuple #[]), (59, .tuple #[]), (60, .tuple #[]), (61, .tuple #[]), (64, .tuple #[]), (65, .tuple #[]), (66, .tuple #[]), (67, .tuple #[]), (68, .tuple #[]), (69, .tuple #[]), (72, .tuple #[]), (73, .tuple #[]), (74, .tuple #[]), (75, .tuple #[]), (76, .tuple #[]), (77, .tuple #[]), (78, .tuple #[]), (79, .tuple #[]), (80, .tuple #[]), (81, .tuple #[]), (82, .tuple #[]), (83, .tuple #[]), (84, .tuple #[]), (85, .tuple #[]), (86, .tuple #[]), (89, .tuple #[]), (90, .tuple #[]), (91, .tuple #[]), (92, .tuple #[]), (93, .tuple #[]), (94, .tuple #[]), (95, .tuple #[]), (96, .tuple #[]), (97, .tuple #[]), (98, .tuple #[]), (99, .tuple #[]), (100, .tuple #[]), (101, .tuple #[]), (102, .tuple #[]), (103, .bool true)]) t_more (by kernel_rfl) ?_
                refine fk_nil fun all => ?_
                refine t_keep [0, 1, 2, 3, 4, 11, 12, 49, 50, 51, 52, 53, 54, 57, 58, 59, 60, 61, 64, 65, 66, 67, 68, 69, 72, 73, 74, 75, 76, 77, 78, 79, 80, 81, 82, 83, 84, 85, 86, 89, 90, 91, 92, 93, 94, 95, 96, 97, 98, 99, 100, 101, 102, 103] (σ' := [(0, .slice a_t0 t0.length c_t0), (1, .int .i64 o1), (2, .int .i64 (Int.tmod A2 1000)), (3, .int .i64 (Int.tmod r3 1000)), (4, .int .i64 (Int.tmod (wr64 ((Int.tmod r4 6) + 6)) 6)), (11, .bool true), (12, .int .i64 x129), (49, .pointer (some ⟨b134, 0, none⟩)), (50, .int .i64 t131), (51, .int .i64 (Int.tmod A2 1000)), (52, .int .i64 (wr64 ((Int.tmod A2 1000) * 256))), (53, .int .i64 (wr64 ((wr64 ((Int.tmod A2 1000) * 256)) + 256))), (54, .bool true), (57, .tuple #[]), (58, .tuple #[]), (59, .tuple #[]), (60, .tuple #[]), (61, .tuple #[]), (64, .tuple #[]), (65, .tuple #[]), (66, .tuple #[]), (67, .tuple #[]), (68, .tuple #[]), (69, .tuple #[]), (72, .tuple #[]), (73, .tuple #[]), (74, .tuple #[]), (75, .tuple #[]), (76, .tuple #[]), (77, .tuple #[]), (78, .tuple #[]), (79, .tuple #[]), (80, .tuple #[]), (81, .tuple #[]), (82, .tuple #[]), (83, .tuple #[]), (84, .tuple #[]), (85, .tuple #[]), (86, .tuple #[]), (89, .tuple #[]), (90, .tuple #[]), (91, .tuple #[]), (92, .tuple #[]), (93, .tuple #[]), (94, .tuple #[]), (95, .tuple #[]), (96, .tuple #[]), (97, .tuple #[]), (98, .tuple #[]), (99, .tuple #[]), (100, .tuple #[]), (101, .tuple #[]), (102, .tuple #[]), (103, .bool true)]) (by kernel_rfl) ?_
                refine t_end ?_
                show W _ _ _ _ _ _ _
                refine w_cond rfl (fun _ => ?_) (fun c_ => by cases c_)
                show W _ _ _ _ _ _ _
                refine w_seq ?_
                refine w_reg fun all => ?_
                refine t_qz 1 [10] (σ' := [(10, .bool false)]) (by kernel_rfl) ?_
                refine t_end ?_
                show W _ _ _ _ _ _ _
                refine w_ret ?_
                obtain rfl := Option.some.inj e127
                have hr_ := Option.some.inj e
                exact ⟨[.bool false], [], S, ⟨rfl, trivial⟩, VS.none, congrArg Value.bool hr_, rfl, rfl⟩
              · rw [if_neg c136] at e127
                have c136b : (decide (t131 ≥ (wr64 ((wr64 ((Int.tmod A2 1000) * 256)) + 256)))) = false := decide_eq_false c136
                by_cases c137 : t132 ≤ (wr64 ((Int.tmod r3 1000) * 256))
                · rw [if_pos c137] at e127
                  have c137b : (decide (t132 ≤ (wr64 ((Int.tmod r3 1000) * 256)))) = true := decide_eq_true c137
                  refine w_drwE mixed 61 [.v (.pointer (some ⟨b134, 0, none⟩)), .v (.int .i64 t131), .v (.int .i64 (Int.tmod A2 1000)), .v (.int .i64 (wr64 ((Int.tmod A2 1000) * 256))), .v (.bool false), .v (.bool false), .v (.pointer (some ⟨b134, 0, none⟩)), .v (.int .i64 t131), .v (.int .i64 (Int.tmod A2 1000)), .v (.int .i64 (wr64 ((Int.tmod A2 1000) * 256))), .v (.int .i64 (wr64 ((wr64 ((Int.tmod A2 1000) * 256)) + 256))), .v (.bool false), .v (.bool false), .v (.bool false), .v (.pointer (some ⟨b134, 1, none⟩)), .v (.int .i64 t132), .v (.int .i64 (Int.tmod r3 1000)), .v (.int .i64 (wr64 ((Int.tmod r3 1000) * 256))), .v (.bool true), .v (.bool true), .v (.bool true), .v (.tuple #[]), .v (.tuple #[]), .v (.tuple #[]), .v (.tuple #[]), .v (.tuple #[]), .v (.tuple #[]), .v (.bool true), .v (.bool true), .v (.tuple #[]), .v (.tuple #[]), .v (.tuple #[]), .v (.tuple #[]), .v (.tuple #[]), .v (.tuple #[]), .v (.tuple #[]), .v (.tuple #[]), .v (.tuple #[]), .v (.tuple #[]), .v (.tuple #[]), .v (.tuple #[]), .v (.tuple #[]), .v (.tuple #[]), .v (.tuple #[]), .v (.bool true), .v (.bool true), .v (.tuple #[]), .v (.tuple #[]), .v (.tuple #[]), .v (.tuple #[]), .v (.tuple #[]), .v (.tuple #[]), .v (.tuple #[]), .v (.tuple #[]), .v (.tuple #[]), .v (.tuple #[]), .v (.tuple #[]), .v (.tuple #[]), .v (.tuple #[]), .v (.tuple #[]), .v (.bool true)] (by kernel_rfl) ?_ ?_
                  · refine DI.sq 1 (by kernel_rfl) rfl ?_
                    refine .cons (.ld1 rfl rfl rfl (.at 0 rfl rfl)) ?_
                    refine DI.sq 2 (by kernel_rfl) rfl ?_
                    refine .cons (dv_quiet rfl (congrArg (fun t => some (Value.bool t)) c135b)) ?_
                    refine DI.sq 2 (by kernel_rfl) rfl ?_
                    refine .cons (.ld1 rfl rfl rfl (.at 0 rfl rfl)) ?_
                    refine DI.sq 3 (by kernel_rfl) rfl ?_
                    refine .cons (dv_quiet rfl (congrArg (fun t => some (Value.bool t)) c136b)) ?_
                    refine DI.sq 3 (by kernel_rfl) rfl ?_
                    refine .cons (.ld1 rfl rfl rfl (.at 0 rfl rfl)) ?_
                    refine DI.sq 2 (by kernel_rfl) rfl ?_
                    refine .cons (dv_quiet rfl (congrArg (fun t => some (Value.bool t)) c137b)) ?_
                    refine DI.sq 42 (by kernel_rfl) rfl ?_
                    exact .nil
                  refine fk_q 61 [0, 1, 2, 3, 4, 11, 12, 49, 50, 51, 52, 53, 54, 57, 58, 59, 60, 61, 64, 65, 66, 67, 68, 69, 72, 73, 74, 75, 76, 77, 78, 79, 80, 81, 82, 83, 84, 85, 86, 89, 90, 91, 92, 93, 94, 95, 96, 97, 98, 99, 100, 101, 102, 103] (σ' := [(0, .slice a_t0 t0.length c_t0), (1, .int .i64 o1), (2, .int .i64 (Int.tmod A2 1000)), (3, .int .i64 (Int.tmod r3 1000)), (4, .int .i64 (Int.tmod (wr64 ((Int.tmod r4 6) + 6)) 6)), (11, .bool true), (12, .int .i64 x129), (49, .pointer (some ⟨b134, 0, none⟩)), (50, .int .i64 t131), (51, .int .i64 (Int.tmod A2 1000)), (52, .int .i64 (wr64 ((Int.tmod A2 1000) * 256))), (53, .int .i64 (wr64 ((wr64 ((Int.tmod A2 1000) * 256)) + 256))), (54, .bool false), (57, .pointer (some ⟨b134, 1, none⟩)), (58, .int .i64 t132), (59, .int .i64 (Int.tmod r3 1000)), (60, .int .i64 (wr64 ((Int.tmod r3 1000) * 256))), (61, .bool true), (64, .tuple #[]), (65, .tuple #[]), (66, .tuple #[]), (67, .tuple #[]), (68, .tuple #[]), (69, .tuple #[]), (72, .tuple #[]), (73, .tuple #[]), (74, .tuple #[]), (75, .tuple #[]), (76, .tuple #[]), (77, .tuple #[]), (78, .tuple #[]), (79, .tuple #[]), (80, .tuple #[]), (81, .tuple #[]), (82, .tuple #[]), (83, .tuple #[]), (84, .tuple #[]), (85, .tuple #[]), (86, .tuple #[]), (89, .tuple #[]), (90, .tuple #[]), (91, .tuple #[]), (92, .tuple #[]), (93, .tuple #[]), (94, .tuple #[]), (95, .tuple #[]), (96, .tuple #[]), (97, .tuple #[]), (98, .tuple #[]), (99, .tuple #[]), (100, .tuple #[]), (101, .tuple #[]), (102, .tuple #[]), (103, .bool true)]) t_more (by kernel_rfl) ?_
                  refine fk_nil fun all => ?_
                  refine t_keep [0, 1, 2, 3, 4, 11, 12, 49, 50, 51, 52, 53, 54, 57, 58, 59, 60, 61, 64, 65, 66, 67, 68, 69, 72, 73, 74, 75, 76, 77, 78, 79, 80, 81, 82, 83, 84, 85, 86, 89, 90, 91, 92, 93, 94, 95, 96, 97, 98, 99, 100, 101, 102, 103] (σ' := [(0, .slice a_t0 t0.length c_t0), (1, .int .i64 o1), (2, .int .i64 (Int.tmod A2 1000)), (3, .int .i64 (Int.tmod r3 1000)), (4, .int .i64 (Int.tmod (wr64 ((Int.tmod r4 6) + 6)) 6)), (11, .bool true), (12, .int .i64 x129), (49, .pointer (some ⟨b134, 0, none⟩)), (50, .int .i64 t131), (51, .int .i64 (Int.tmod A2 1000)), (52, .int .i64 (wr64 ((Int.tmod A2 1000) * 256))), (53, .int .i64 (wr64 ((wr64 ((Int.tmod A2 1000) * 256)) + 256))), (54, .bool false), (57, .pointer (some ⟨b134, 1, none⟩)), (58, .int .i64 t132), (59, .int .i64 (Int.tmod r3 1000)), (60, .int .i64 (wr64 ((Int.tmod r3 1000) * 256))), (61, .bool true), (64, .tuple #[]), (65, .tuple #[]), (66, .tuple #[]), (67, .tuple #[]), (68, .tuple #[]), (69, .tuple #[]), (72, .tuple #[]), (73, .tuple #[]), (74, .tuple #[]), (75, .tuple #[]), (76, .tuple #[]), (77, .tuple #[]), (78, .tuple #[]), (79, .tuple #[]), (80, .tuple #[]), (81, .tuple #[]), (82, .tuple #[]), (83, .tuple #[]), (84, .tuple #[]), (85, .tuple #[]), (86, .tuple #[]), (89, .tuple #[]), (90, .tuple #[]), (91, .tuple #[]), (92, .tuple #[]), (93, .tuple #[]), (94, .tuple #[]), (95, .tuple #[]), (96, .tuple #[]), (97, .tuple #[]), (98, .tuple #[]), (99, .tuple #[]), (100, .tuple #[]), (101, .tuple #[]), (102, .tuple #[]), (103, .bool true)]) (by kernel_rfl) ?_
                  refine t_end ?_
                  show W _ _ _ _ _ _ _
                  refine w_cond rfl (fun _ => ?_) (fun c_ => by cases c_)
                  show W _ _ _ _ _ _ _
                  refine w_seq ?_
                  refine w_reg fun all => ?_
                  refine t_qz 1 [10] (σ' := [(10, .bool false)]) (by kernel_rfl) ?_
                  refine t_end ?_
                  show W _ _ _ _ _ _ _
                  refine w_ret ?_
                  obtain rfl := Option.some.inj e127
                  have hr_ := Option.some.inj e
                  exact ⟨[.bool false], [], S, ⟨rfl, trivial⟩, VS.none, congrArg Value.bool hr_, rfl, rfl⟩
                · rw [if_neg c137] at e127
                  have c137b : (decide (t132 ≤ (wr64 ((Int.tmod r3 1000) * 256)))) = false := decide_eq_false c137
                  by_cases c138 : t132 ≥ (wr64 ((wr64 ((Int.tmod r3 1000) * 256)) + 256))
                  · rw [if_pos c138] at e127
                    have c138b : (decide (t132 ≥ (wr64 ((wr64 ((Int.tmod r3 1000) * 256)) + 256)))) = true := decide_eq_true c138
                    refine w_drwE mixed 61 [.v (.pointer (some ⟨b134, 0, none⟩)), .v (.int .i64 t131), .v (.int .i64 (Int.tmod A2 1000)), .v (.int .i64 (wr64 ((Int.tmod A2 1000) * 256))), .v (.bool false), .v (.bool false), .v (.pointer (some ⟨b134, 0, none⟩)), .v (.int .i64 t131), .v (.int .i64 (Int.tmod A2 1000)), .v (.int .i64 (wr64 ((Int.tmod A2 1000) * 256))), .v (.int .i64 (wr64 ((wr64 ((Int.tmod A2 1000) * 256)) + 256))), .v (.bool false), .v (.bool false), .v (.bool false), .v (.pointer (some ⟨b134, 1, none⟩)), .v (.int .i64 t132), .v (.int .i64 (Int.tmod r3 1000)), .v (.int .i64 (wr64 ((Int.tmod r3 1000) * 256))), .v (.bool false), .v (.bool false), .v (.bool false), .v (.pointer (some ⟨b134, 1, none⟩)), .v (.int .i64 t132), .v (.int .i64 (Int.tmod r3 1000)), .v (.int .i64 (wr64 ((Int.tmod r3 1000) * 256))), .v (.int .i64 (wr64 ((wr64 ((Int.tmod r3 1000) * 256)) + 256))), .v (.bool true), .v (.bool true), .v (.bool true), .v (.tuple #[]), .v (.tuple #[]), .v (.tuple #[]), .v (.tuple #[]), .v (.tuple #[]), .v (.tuple #[]), .v (.tuple #[]), .v (.tuple #[]), .v (.tuple #[]), .v (.tuple #[]), .v (.tuple #[]), .v (.tuple #[]), .v (.tuple #[]), .v (.tuple #[]), .v (.tuple #[]), .v (.bool true), .v (.bool true), .v (.tuple #[]), .v (.tuple #[]), .v (.tuple #[]), .v (.tuple #[]), .v (.tuple #[]), .v (.tuple #[]), .v (.tuple #[]), .v (.tuple #[]), .v (.tuple #[]), .v (.tuple #[]), .v (.tuple #[]), .v (.tuple #[]), .v (.tuple #[]), .v (.tuple #[]), .v (.bool true)] (by kernel_rfl) ?_ ?_
                    · refine DI.sq 1 (by kernel_rfl) rfl ?_
                      refine .cons (.ld1 rfl rfl rfl (.at 0 rfl rfl)) ?_
                      refine DI.sq 2 (by kernel_rfl) rfl ?_
                      refine .cons (dv_quiet rfl (congrArg (fun t => some (Value.bool t)) c135b)) ?_
                      refine DI.sq 2 (by kernel_rfl) rfl ?_
                      refine .cons (.ld1 rfl rfl rfl (.at 0 rfl rfl)) ?_
                      refine DI.sq 3 (by kernel_rfl) rfl ?_
                      refine .cons (dv_quiet rfl (congrArg (fun t => some (Value.bool t)) c136b)) ?_
                      refine DI.sq 3 (by kernel_rfl) rfl ?_
                      refine .cons (.ld1 rfl rfl rfl (.at 0 rfl rfl)) ?_
                      refine DI.sq 2 (by kernel_rfl) rfl ?_
                      refine .cons (dv_quiet rfl (congrArg (fun t => some (Value.bool t)) c137b)) ?_
                      refine DI.sq 3 (by kernel_rfl) rfl ?_
                      refine .cons (.ld1 rfl rfl rfl (.at 0 rfl rfl)) ?_
                      refine DI.sq 3 (by kernel_rfl) rfl ?_
                      refine .cons (dv_quiet rfl (congrArg (fun t => some (Value.bool t)) c138b)) ?_
                      refine DI.sq 34 (by kernel_rfl) rfl ?_
                      exact .nil
                    refine fk_q 61 [0, 1, 2, 3, 4, 11, 12, 49, 50, 51, 52, 53, 54, 57, 58, 59, 60, 61, 64, 65, 66, 67, 68, 69, 72, 73, 74, 75, 76, 77, 78, 79, 80, 81, 82, 83, 84, 85, 86, 89, 90, 91, 92, 93, 94, 95, 96, 97, 98, 99, 100, 101, 102, 103] (σ' := [(0, .slice a_t0 t0.length c_t0), (1, .int .i64 o1), (2, .int .i64 (Int.tmod A2 1000)), (3, .int .i64 (Int.tmod r3 1000)), (4, .int .i64 (Int.tmod (wr64 ((Int.tmod r4 6) + 6)) 6)), (11, .bool true), (12, .int .i64 x129), (49, .pointer (some ⟨b134, 0, none⟩)), (50, .int .i64 t131), (51, .int .i64 (Int.tmod A2 1000)), (52, .int .i64 (wr64 ((Int.tmod A2 1000) * 256))), (53, .int .i64 (wr64 ((wr64 ((Int.tmod A2 1000) * 256)) + 256))), (54, .bool false), (57, .pointer (some ⟨b134, 1, none⟩)), (58, .int .i64 t132), (59, .int .i64 (Int.tmod r3 1000)), (60, .int .i64 (wr64 ((Int.tmod r3 1000) * 256))), (61, .bool false), (64, .pointer (some ⟨b134, 1, none⟩)), (65, .int .i64 t132), (66, .int .i64 (Int.tmod r3 1000)), (67, .int .i64 (wr64 ((Int.tmod r3 1000) * 256))), (68, .int .i64 (wr64 ((wr64 ((Int.tmod r3 1000) * 256)) + 256))), (69, .bool true), (72, .tuple #[]), (73, .tuple #[]), (74, .tuple #[]), (75, .tuple #[]), (76, .tuple #[]), (77, .tuple #[]), (78, .tuple #[]), (79, .tuple #[]), (80, .tuple #[]), (81, .tuple #[]), (82, .tuple #[]), (83, .tuple #[]), (84, .tuple #[]), (85, .tuple #[]), (86, .tuple #[]), (89, .tuple #[]), (90, .tuple #[]), (91, .tuple #[]), (92, .tuple #[]), (93, .tuple #[]), (94, .tuple #[]), (95, .tuple #[]), (96, .tuple #[]), (97, .tuple #[]), (98, .tuple #[]), (99, .tuple #[]), (100, .tuple #[]), (101, .tuple #[]), (102, .tuple #[]), (103, .bool true)]) t_more (by kernel_rfl) ?_
                    refine fk_nil fun all => ?_
                    refine t_keep [0, 1, 2, 3, 4, 11, 12, 49, 50, 51, 52, 53, 54, 57, 58, 59, 60, 61, 64, 65, 66, 67, 68, 69, 72, 73, 74, 75, 76, 77, 78, 79, 80, 81, 82, 83, 84, 85, 86, 89, 90, 91, 92, 93, 94, 95, 96, 97, 98, 99, 100, 101, 102, 103] (σ' := [(0, .slice a_t0 t0.length c_t0), (1, .int .i64 o1), (2, .int .i64 (Int.tmod A2 1000)), (3, .int .i64 (Int.tmod r3 1000)), (4, .int .i64 (Int.tmod (wr64 ((Int.tmod r4 6) + 6)) 6)), (11, .bool true), (12, .int .i64 x129), (49, .pointer (some ⟨b134, 0, none⟩)), (50, .int .i64 t131), (51, .int .i64 (Int.tmod A2 1000)), (52, .int .i64 (wr64 ((Int.tmod A2 1000) * 256))), (53, .int .i64 (wr64 ((wr64 ((Int.tmod A2 1000) * 256)) + 256))), (54, .bool false), (57, .pointer (some ⟨b134, 1, none⟩)), (58, .int .i64 t132), (59, .int .i64 (Int.tmod r3 1000)), (60, .int .i64 (wr64 ((Int.tmod r3 1000) * 256))), (61, .bool false), (64, .pointer (some ⟨b134, 1, none⟩)), (65, .int .i64 t132), (66, .int .i64 (Int.tmod r3 1000)), (67, .int .i64 (wr64 ((Int.tmod r3 1000) * 256))), (68, .int .i64 (wr64 ((wr64 ((Int.tmod r3 1000) * 256)) + 256))), (69, .bool true), (72, .tuple #[]), (73, .tuple #[]), (74, .tuple #[]), (75, .tuple #[]), (76, .tuple #[]), (77, .tuple #[]), (78, .tuple #[]), (79, .tuple #[]), (80, .tuple #[]), (81, .tuple #[]), (82, .tuple #[]), (83, .tuple #[]), (84, .tuple #[]), (85, .tuple #[]), (86, .tuple #[]), (89, .tuple #[]), (90, .tuple #[]), (91, .tuple #[]), (92, .tuple #[]), (93, .tuple #[]), (94, .tuple #[]), (95, .tuple #[]), (96, .tuple #[]), (97, .tuple #[]), (98, .tuple #[]), (99, .tuple #[]), (100, .tuple #[]), (101, .tuple #[]), (102, .tuple #[]), (103, .bool true)]) (by kernel_rfl) ?_
                    refine t_end ?_
                    show W _ _ _ _ _ _ _
                    refine w_cond rfl (fun _ => ?_) (fun c_ => by cases c_)
                    show W _ _ _ _ _ _ _
                    refine w_seq ?_
                    refine w_reg fun all => ?_
                    refine t_qz 1 [10] (σ' := [(10, .bool false)]) (by kernel_rfl) ?_
                    refine t_end ?_
                    show W _ _ _ _ _ _ _
                    refine w_ret ?_
                    obtain rfl := Option.some.inj e127
                    have hr_ := Option.some.inj e
                    exact ⟨[.bool false], [], S, ⟨rfl, trivial⟩, VS.none, congrArg Value.bool hr_, rfl, rfl⟩
                  · rw [if_neg c138] at e127
                    have c138b : (decide (t132 ≥ (wr64 ((wr64 ((Int.tmod r3 1000) * 256)) + 256)))) = false := decide_eq_false c138
                    by_cases c139 : (Int.tmod x129 8) = 0
                    · rw [if_pos c139] at e127
                      have c139b : ((Int.tmod x129 8) == 0) = true := beq_iff_eq.mpr c139
                      by_cases c140 : x129 > 7
                      · rw [if_pos c140] at e127
                        have c140b : (decide (x129 > 7)) = true := decide_eq_true c140
                        obtain ⟨⟨t141, t142⟩, h143, e127⟩ := bind_of e127
                        try dsimp only at e127
                        by_cases c144 : (wr64 (t132 - t142)) = 32
                        · rw [if_pos c144] at e127
                          have c144b : ((wr64 (t132 - t142)) == 32) = true := beq_iff_eq.mpr c144
                          refine w_drwE mixed 61 [.v (.pointer (some ⟨b134, 0, none⟩)), .v (.int .i64 t131), .v (.int .i64 (Int.tmod A2 1000)), .v (.int .i64 (wr64 ((Int.tmod A2 1000) * 256))), .v (.bool false), .v (.bool false), .v (.pointer (some ⟨b134, 0, none⟩)), .v (.int .i64 t131), .v (.int .i64 (Int.tmod A2 1000)), .v (.int .i64 (wr64 ((Int.tmod A2 1000) * 256))), .v (.int .i64 (wr64 ((wr64 ((Int.tmod A2 1000) * 256)) + 256))), .v (.bool false), .v (.bool false), .v (.bool false), .v (.pointer (some ⟨b134, 1, none⟩)), .v (.int .i64 t132), .v (.int .i64 (Int.tmod r3 1000)), .v (.int .i64 (wr64 ((Int.tmod r3 1000) * 256))), .v (.bool false), .v (.bool false), .v (.bool false), .v (.pointer (some ⟨b134, 1, none⟩)), .v (.int .i64 t132), .v (.int .i64 (Int.tmod r3 1000)), .v (.int .i64 (wr64 ((Int.tmod r3 1000) * 256))), .v (.int .i64 (wr64 ((wr64 ((Int.tmod r3 1000) * 256)) + 256))), .v (.bool false), .v (.bool false), .v (.bool false), .v (.int .i64 x129), .v (.int .i64 (Int.tmod x129 8)), .v (.bool false), .v (.bool false), .v (.tuple #[]), .v (.tuple #[]), .v (.tuple #[]), .v (.tuple #[]), .v (.tuple #[]), .v (.tuple #[]), .v (.tuple #[]), .v (.tuple #[]), .v (.tuple #[]), .v (.tuple #[]), .v (.bool false), .v (.bool false), .v (.bool false), .v (.int .i64 x129), .v (.bool true), .v (.bool true), .v (.pointer (some ⟨b134, 1, none⟩)), .v (.int .i64 t132), .v (.int .i64 (Int.tmod A2 1000)), .v (.int .i64 (Int.tmod r3 1000)), .v (.int .i64 x129), .v (.int .i64 (wr64 (x129 - 8))), .v (.agg #[.int .i64 t141, .int .i64 t142]), .v (.int .i64 t142), .v (.int .i64 (wr64 (t132 - t142))), .v (.bool false), .v (.bool false), .v (.bool false)] (by kernel_rfl) ?_ ?_
                          · refine DI.sq 1 (by kernel_rfl) rfl ?_
                            refine .cons (.ld1 rfl rfl rfl (.at 0 rfl rfl)) ?_
                            refine DI.sq 2 (by kernel_rfl) rfl ?_
                            refine .cons (dv_quiet rfl (congrArg (fun t => some (Value.bool t)) c135b)) ?_
                            refine DI.sq 2 (by kernel_rfl) rfl ?_
                            refine .cons (.ld1 rfl rfl rfl (.at 0 rfl rfl)) ?_
                            refine DI.sq 3 (by kernel_rfl) rfl ?_
                            refine .cons (dv_quiet rfl (congrArg (fun t => some (Value.bool t)) c136b)) ?_
                            refine DI.sq 3 (by kernel_rfl) rfl ?_
                            refine .cons (.ld1 rfl rfl rfl (.at 0 rfl rfl)) ?_
                            refine DI.sq 2 (by kernel_rfl) rfl ?_
                            refine .cons (dv_quiet rfl (congrArg (fun t => some (Value.bool t)) c137b)) ?_
                            refine DI.sq 3 (by kernel_rfl) rfl ?_
                            refine .cons (.ld1 rfl rfl rfl (.at 0 rfl rfl)) ?_
                            refine DI.sq 3 (by kernel_rfl) rfl ?_
                            refine .cons (dv_quiet rfl (congrArg (fun t => some (Value.bool t)) c138b)) ?_
                            refine DI.sq 4 (by kernel_rfl) rfl ?_
                            refine .cons (dv_quiet rfl (congrArg (fun t => some (Value.bool (!t))) c139b)) ?_
                            refine DI.sq 15 (by kernel_rfl) rfl ?_
                            refine .cons (dv_quiet rfl (congrArg (fun t => some (Value.bool t)) c140b)) ?_
                            refine DI.sq 2 (by kernel_rfl) rfl ?_
                            refine .cons (.ld1 rfl rfl rfl (.at 0 rfl rfl)) ?_
                            refine DI.sq 4 (by kernel_rfl) rfl ?_
                            refine .cons (.call (vs := [.int .i64 (Int.tmod A2 1000), .int .i64 (Int.tmod r3 1000), .int .i64 (wr64 (x129 - 8))]) rfl rfl (by kernel_rfl) (sweep_Sample.ok h143)) ?_
                            refine DI.sq 2 (by kernel_rfl) rfl ?_
                            refine .cons (dv_quiet rfl (congrArg (fun t => some (Value.bool (!t))) c144b)) ?_
                            refine DI.sq 2 (by kernel_rfl) rfl ?_
                            exact .nil
                          refine fk_q 61 [0, 1, 2, 3, 4, 11, 12, 49, 50, 51, 52, 53, 54, 57, 58, 59, 60, 61, 64, 65, 66, 67, 68, 69, 72, 73, 74, 75, 76, 77, 78, 79, 80, 81, 82, 83, 84, 85, 86, 89, 90, 91, 92, 93, 94, 95, 96, 97, 98, 99, 100, 101, 102, 103] (σ' := [(0, .slice a_t0 t0.length c_t0), (1, .int .i64 o1), (2, .int .i64 (Int.tmod A2 1000)), (3, .int .i64 (Int.tmod r3 1000)), (4, .int .i64 (Int.tmod (wr64 ((Int.tmod r4 6) + 6)) 6)), (11, .bool true), (12, .int .i64 x129), (49, .pointer (some ⟨b134, 0, none⟩)), (50, .int .i64 t131), (51, .int .i64 (Int.tmod A2 1000)), (52, .int .i64 (wr64 ((Int.tmod A2 1000) * 256))), (53, .int .i64 (wr64 ((wr64 ((Int.tmod A2 1000) * 256)) + 256))), (54, .bool false), (57, .pointer (some ⟨b134, 1, none⟩)), (58, .int .i64 t132), (59, .int .i64 (Int.tmod r3 1000)), (60, .int .i64 (wr64 ((Int.tmod r3 1000) * 256))), (61, .bool false), (64, .pointer (some ⟨b134, 1, none⟩)), (65, .int .i64 t132), (66, .int .i64 (Int.tmod r3 1000)), (67, .int .i64 (wr64 ((Int.tmod r3 1000) * 256))), (68, .int .i64 (wr64 ((wr64 ((Int.tmod r3 1000) * 256)) + 256))), (69, .bool false), (72, .int .i64 x129), (73, .int .i64 (Int.tmod x129 8)), (74, .bool false), (75, .bool false), (76, .tuple #[]), (77, .tuple #[]), (78, .tuple #[]), (79, .tuple #[]), (80, .tuple #[]), (81, .tuple #[]), (82, .tuple #[]), (83, .tuple #[]), (84, .tuple #[]), (85, .tuple #[]), (86, .bool false), (89, .int .i64 x129), (90, .bool true), (91, .bool true), (92, .pointer (some ⟨b134, 1, none⟩)), (93, .int .i64 t132), (94, .int .i64 (Int.tmod A2 1000)), (95, .int .i64 (Int.tmod r3 1000)), (96, .int .i64 x129), (97, .int .i64 (wr64 (x129 - 8))), (98, .agg #[.int .i64 t141, .int .i64 t142]), (99, .int .i64 t142), (100, .int .i64 (wr64 (t132 - t142))), (101, .bool false), (102, .bool false), (103, .bool false)]) t_more (by kernel_rfl) ?_
                          refine fk_nil fun all => ?_
                          refine t_keep [0, 1, 2, 3, 4, 11, 12, 49, 50, 51, 52, 53, 54, 57, 58, 59, 60, 61, 64, 65, 66, 67, 68, 69, 72, 73, 74, 75, 76, 77, 78, 79, 80, 81, 82, 83, 84, 85, 86, 89, 90, 91, 92, 93, 94, 95, 96, 97, 98, 99, 100, 101, 102, 103] (σ' := [(0, .slice a_t0 t0.length c_t0), (1, .int .i64 o1), (2, .int .i64 (Int.tmod A2 1000)), (3, .int .i64 (Int.tmod r3 1000)), (4, .int .i64 (Int.tmod (wr64 ((Int.tmod r4 6) + 6)) 6)), (11, .bool true), (12, .int .i64 x129), (49, .pointer (some ⟨b134, 0, none⟩)), (50, .int .i64 t131), (51, .int .i64 (Int.tmod A2 1000)), (52, .int .i64 (wr64 ((Int.tmod A2 1000) * 256))), (53, .int .i64 (wr64 ((wr64 ((Int.tmod A2 1000) * 256)) + 256))), (54, .bool false), (57, .pointer (some ⟨b134, 1, none⟩)), (58, .int .i64 t132), (59, .int .i64 (Int.tmod r3 1000)), (60, .int .i64 (wr64 ((Int.tmod r3 1000) * 256))), (61, .bool false), (64, .pointer (some ⟨b134, 1, none⟩)), (65, .int .i64 t132), (66, .int .i64 (Int.tmod r3 1000)), (67, .int .i64 (wr64 ((Int.tmod r3 1000) * 256))), (68, .int .i64 (wr64 ((wr64 ((Int.tmod r3 1000) * 256)) + 256))), (69, .bool false), (72, .int .i64 x129), (73, .int .i64 (Int.tmod x129 8)), (74, .bool false), (75, .bool false), (76, .tuple #[]), (77, .tuple #[]), (78, .tuple #[]), (79, .tuple #[]), (80, .tuple #[]), (81, .tuple #[]), (82, .tuple #[]), (83, .tuple #[]), (84, .tuple #[]), (85, .tuple #[]), (86, .bool false), (89, .int .i64 x129), (90, .bool true), (91, .bool true), (92, .pointer (some ⟨b134, 1, none⟩)), (93, .int .i64 t132), (94, .int .i64 (Int.tmod A2 1000)), (95, .int .i64 (Int.tmod r3 1000)), (96, .int .i64 x129), (97, .int .i64 (wr64 (x129 - 8))), (98, .agg #[.int .i64 t141, .int .i64 t142]), (99, .int .i64 t142), (100, .int .i64 (wr64 (t132 - t142))), (101, .bool false), (102, .bool false), (103, .bool false)]) (by kernel_rfl) ?_
                          refine t_end ?_
                          show W _ _ _ _ _ _ _
                          refine w_cond rfl (fun c_ => by cases c_) (fun _ => ?_)
                          show W _ _ _ _ _ _ _
                          refine w_skip ?_
                          show W _ _ _ _ _ _ _
                          refine w_reg fun all => ?_
                          refine t_qz 3 [0, 1, 2, 3, 4, 11, 12, 49, 50, 51, 52, 53, 54, 57, 58, 59, 60, 61, 64, 65, 66, 67, 68, 69, 72, 73, 74, 75, 76, 77, 78, 79, 80, 81, 82, 83, 84, 85, 86, 89, 90, 91, 92, 93, 94, 95, 96, 97, 98, 99, 100, 101, 102] (σ' := [(0, .slice a_t0 t0.length c_t0), (1, .int .i64 o1), (2, .int .i64 (Int.tmod A2 1000)), (3, .int .i64 (Int.tmod r3 1000)), (4, .int .i64 (Int.tmod (wr64 ((Int.tmod r4 6) + 6)) 6)), (11, .bool true), (12, .int .i64 (wr64 (x129 + 1))), (49, .pointer (some ⟨b134, 0, none⟩)), (50, .int .i64 t131), (51, .int .i64 (Int.tmod A2 1000)), (52, .int .i64 (wr64 ((Int.tmod A2 1000) * 256))), (53, .int .i64 (wr64 ((wr64 ((Int.tmod A2 1000) * 256)) + 256))), (54, .bool false), (57, .pointer (some ⟨b134, 1, none⟩)), (58, .int .i64 t132), (59, .int .i64 (Int.tmod r3 1000)), (60, .int .i64 (wr64 ((Int.tmod r3 1000) * 256))), (61, .bool false), (64, .pointer (some ⟨b134, 1, none⟩)), (65, .int .i64 t132), (66, .int .i64 (Int.tmod r3 1000)), (67, .int .i64 (wr64 ((Int.tmod r3 1000) * 256))), (68, .int .i64 (wr64 ((wr64 ((Int.tmod r3 1000) * 256)) + 256))), (69, .bool false), (72, .int .i64 x129), (73, .int .i64 (Int.tmod x129 8)), (74, .bool false), (75, .bool false), (76, .tuple #[]), (77, .tuple #[]), (78, .tuple #[]), (79, .tuple #[]), (80, .tuple #[]), (81, .tuple #[]), (82, .tuple #[]), (83, .tuple #[]), (84, .tuple #[]), (85, .tuple #[]), (86, .bool false), (89, .int .i64 x129), (90, .bool true), (91, .bool true), (92, .pointer (some ⟨b134, 1, none⟩)), (93, .int .i64 t132), (94, .int .i64 (Int.tmod A2 1000)), (95, .int .i64 (Int.tmod r3 1000)), (96, .int .i64 x129), (97, .int .i64 (wr64 (x129 - 8))), (98, .agg #[.int .i64 t141, .int .i64 t142]), (99, .int .i64 t142), (100, .int .i64 (wr64 (t132 - t142))), (101, .bool false), (102, .bool false)]) (by kernel_rfl) ?_
                          refine t_end ?_
                          exact ⟨k_, Nat.lt_succ_self _, [(0, .slice a_t0 t0.length c_t0), (1, .int .i64 o1), (2, .int .i64 (Int.tmod A2 1000)), (3, .int .i64 (Int.tmod r3 1000)), (4, .int .i64 (Int.tmod (wr64 ((Int.tmod r4 6) + 6)) 6)), (11, .bool true), (12, .int .i64 (wr64 (x129 + 1)))], ([] : List Own), S, keep_sub [0, 1, 2, 3, 4, 11, 12] (by kernel_rfl), VS.sel [] (by kernel_rfl), wr64 (x129 + 1), rfl, rfl, rfl, e127⟩
                        · rw [if_neg c144] at e127
                          have c144b : ((wr64 (t132 - t142)) == 32) = false := beq_eq_false_iff_ne.mpr c144
                          refine w_drwE mixed 61 [.v (.pointer (some ⟨b134, 0, none⟩)), .v (.int .i64 t131), .v (.int .i64 (Int.tmod A2 1000)), .v (.int .i64 (wr64 ((Int.tmod A2 1000) * 256))), .v (.bool false), .v (.bool false), .v (.pointer (some ⟨b134, 0, none⟩)), .v (.int .i64 t131), .v (.int .i64 (Int.tmod A2 1000)), .v (.int .i64 (wr64 ((Int.tmod A2 1000) * 256))), .v (.int .i64 (wr64 ((wr64 ((Int.tmod A2 1000) * 256)) + 256))), .v (.bool false), .v (.bool false), .v (.bool false), .v (.pointer (some ⟨b134, 1, none⟩)), .v (.int .i64 t132), .v (.int .i64 (Int.tmod r3 1000)), .v (.int .i64 (wr64 ((Int.tmod r3 1000) * 256))), .v (.bool false), .v (.bool false), .v (.bool false), .v (.pointer (some ⟨b134, 1, none⟩)), .v (.int .i64 t132), .v (.int .i64 (Int.tmod r3 1000)), .v (.int .i64 (wr64 ((Int.tmod r3 1000) * 256))), .v (.int .i64 (wr64 ((wr64 ((Int.tmod r3 1000) * 256)) + 256))), .v (.bool false), .v (.bool false), .v (.bool false), .v (.int .i64 x129), .v (.int .i64 (Int.tmod x129 8)), .v (.bool false), .v (.bool false), .v (.tuple #[]), .v (.tuple #[]), .v (.tuple #[]), .v (.tuple #[]), .v (.tuple #[]), .v (.tuple #[]), .v (.tuple #[]), .v (.tuple #[]), .v (.tuple #[]), .v (.tuple #[]), .v (.bool false), .v (.bool false), .v (.bool false), .v (.int .i64 x129), .v (.bool true), .v (.bool true), .v (.pointer (some ⟨b134, 1, none⟩)), .v (.int .i64 t132), .v (.int .i64 (Int.tmod A2 1000)), .v (.int .i64 (Int.tmod r3 1000)), .v (.int .i64 x129), .v (.int .i64 (wr64 (x129 - 8))), .v (.agg #[.int .i64 t141, .int .i64 t142]), .v (.int .i64 t142), .v (.int .i64 (wr64 (t132 - t142))), .v (.bool true), .v (.bool true), .v (.bool true)] (by kernel_rfl) ?_ ?_
                          · refine DI.sq 1 (by kernel_rfl) rfl ?_
                            refine .cons (.ld1 rfl rfl rfl (.at 0 rfl rfl)) ?_
                            refine DI.sq 2 (by kernel_rfl) rfl ?_
                            refine .cons (dv_quiet rfl (congrArg (fun t => some (Value.bool t)) c135b)) ?_
                            refine DI.sq 2 (by kernel_rfl) rfl ?_
                            refine .cons (.ld1 rfl rfl rfl (.at 0 rfl rfl)) ?_
                            refine DI.sq 3 (by kernel_rfl) rfl ?_
                            refine .cons (dv_quiet rfl (congrArg (fun t => some (Value.bool t)) c136b)) ?_
                            refine DI.sq 3 (by kernel_rfl) rfl ?_
                            refine .cons (.ld1 rfl rfl rfl (.at 0 rfl rfl)) ?_
                            refine DI.sq 2 (by kernel_rfl) rfl ?_
                            refine .cons (dv_quiet rfl (congrArg (fun t => some (Value.bool t)) c137b)) ?_
                            refine DI.sq 3 (by kernel_rfl) rfl ?_
                            refine .cons (.ld1 rfl rfl rfl (.at 0 rfl rfl)) ?_
                            refine DI.sq 3 (by kernel_rfl) rfl ?_
                            refine .cons (dv_quiet rfl (congrArg (fun t => some (Value.bool t)) c138b)) ?_
                            refine DI.sq 4 (by kernel_rfl) rfl ?_
                            refine .cons (dv_quiet rfl (congrArg (fun t => some (Value.bool (!t))) c139b)) ?_
                            refine DI.sq 15 (by kernel_rfl) rfl ?_
                            refine .cons (dv_quiet rfl (congrArg (fun t => some (Value.bool t)) c140b)) ?_
                            refine DI.sq 2 (by kernel_rfl) rfl ?_
                            refine .cons (.ld1 rfl rfl rfl (.at 0 rfl rfl)) ?_
                            refine DI.sq 4 (by kernel_rfl) rfl ?_
                            refine .cons (.call (vs := [.int .i64 (Int.tmod A2 1000), .int .i64 (Int.tmod r3 1000), .int .i64 (wr64 (x129 - 8))]) rfl rfl (by kernel_rfl) (sweep_Sample.ok h143)) ?_
                            refine DI.sq 2 (by kernel_rfl) rfl ?_
                            refine .cons (dv_quiet rfl (congrArg (fun t => some (Value.bool (!t))) c144b)) ?_
                            refine DI.sq 2 (by kernel_rfl) rfl ?_
                            exact .nil
                          refine fk_q 61 [0, 1, 2, 3, 4, 11, 12, 49, 50, 51, 52, 53, 54, 57, 58, 59, 60, 61, 64, 65, 66, 67, 68, 69, 72, 73, 74, 75, 76, 77, 78, 79, 80, 81, 82, 83, 84, 85, 86, 89, 90, 91, 92, 93, 94, 95, 96, 97, 98, 99, 100, 101, 102, 103] (σ' := [(0, .slice a_t0 t0.length c_t0), (1, .int .i64 o1), (2, .int .i64 (Int.tmod A2 1000)), (3, .int .i64 (Int.tmod r3 1000)), (4, .int .i64 (Int.tmod (wr64 ((Int.tmod r4 6) + 6)) 6)), (11, .bool true), (12, .int .i64 x129), (49, .pointer (some ⟨b134, 0, none⟩)), (50, .int .i64 t131), (51, .int .i64 (Int.tmod A2 1000)), (52, .int .i64 (wr64 ((Int.tmod A2 1000) * 256))), (53, .int .i64 (wr64 ((wr64 ((Int.tmod A2 1000) * 256)) + 256))), (54, .bool false), (57, .pointer (some ⟨b134, 1, none⟩)), (58, .int .i64 t132), (59, .int .i64 (Int.tmod r3 1000)), (60, .int .i64 (wr64 ((Int.tmod r3 1000) * 256))), (61, .bool false), (64, .pointer (some ⟨b134, 1, none⟩)), (65, .int .i64 t132), (66, .int .i64 (Int.tmod r3 1000)), (67, .int .i64 (wr64 ((Int.tmod r3 1000) * 256))), (68, .int .i64 (wr64 ((wr64 ((Int.tmod r3 1000) * 256)) + 256))), (69, .bool false), (72, .int .i64 x129), (73, .int .i64 (Int.tmod x129 8)), (74, .bool false), (75, .bool false), (76, .tuple #[]), (77, .tuple #[]), (78, .tuple #[]), (79, .tuple #[]), (80, .tuple #[]), (81, .tuple #[]), (82, .tuple #[]), (83, .tuple #[]), (84, .tuple #[]), (85, .tuple #[]), (86, .bool false), (89, .int .i64 x129), (90, .bool true), (91, .bool true), (92, .pointer (some ⟨b134, 1, none⟩)), (93, .int .i64 t132), (94, .int .i64 (Int.tmod A2 1000)), (95, .int .i64 (Int.tmod r3 1000)), (96, .int .i64 x129), (97, .int .i64 (wr64 (x129 - 8))), (98, .agg #[.int .i64 t141, .int .i64 t142]), (99, .int .i64 t142), (100, .int .i64 (wr64 (t132 - t142))), (101, .bool true), (102, .bool true), (103, .bool true)]) t_more (by kernel_rfl) ?_
                          refine fk_nil fun all => ?_
                          refine t_keep [0, 1, 2, 3, 4, 11, 12, 49, 50, 51, 52, 53, 54, 57, 58, 59, 60, 61, 64, 65, 66, 67, 68, 69, 72, 73, 74, 75, 76, 77, 78, 79, 80, 81, 82, 83, 84, 85, 86, 89, 90, 91, 92, 93, 94, 95, 96, 97, 98, 99, 100, 101, 102, 103] (σ' := [(0, .slice a_t0 t0.length c_t0), (1, .int .i64 o1), (2, .int .i64 (Int.tmod A2 1000)), (3, .int .i64 (Int.tmod r3 1000)), (4, .int .i64 (Int.tmod (wr64 ((Int.tmod r4 6) + 6)) 6)), (11, .bool true), (12, .int .i64 x129), (49, .pointer (some ⟨b134, 0, none⟩)), (50, .int .i64 t131), (51, .int .i64 (Int.tmod A2 1000)), (52, .int .i64 (wr64 ((Int.tmod A2 1000) * 256))), (53, .int .i64 (wr64 ((wr64 ((Int.tmod A2 1000) * 256)) + 256))), (54, .bool false), (57, .pointer (some ⟨b134, 1, none⟩)), (58, .int .i64 t132), (59, .int .i64 (Int.tmod r3 1000)), (60, .int .i64 (wr64 ((Int.tmod r3 1000) * 256))), (61, .bool false), (64, .pointer (some ⟨b134, 1, none⟩)), (65, .int .i64 t132), (66, .int .i64 (Int.tmod r3 1000)), (67, .int .i64 (wr64 ((Int.tmod r3 1000) * 256))), (68, .int .i64 (wr64 ((wr64 ((Int.tmod r3 1000) * 256)) + 256))), (69, .bool false), (72, .int .i64 x129), (73, .int .i64 (Int.tmod x129 8)), (74, .bool false), (75, .bool false), (76, .tuple #[]), (77, .tuple #[]), (78, .tuple #[]), (79, .tuple #[]), (80, .tuple #[]), (81, .tuple #[]), (82, .tuple #[]), (83, .tuple #[]), (84, .tuple #[]), (85, .tuple #[]), (86, .bool false), (89, .int .i64 x129), (90, .bool true), (91, .bool true), (92, .pointer (some ⟨b134, 1, none⟩)), (93, .int .i64 t132), (94, .int .i64 (Int.tmod A2 1000)), (95, .int .i64 (Int.tmod r3 1000)), (96, .int .i64 x129), (97, .int .i64 (wr64 (x129 - 8))), (98, .agg #[.int .i64 t141, .int .i64 t142]), (99, .int .i64 t142), (100, .int .i64 (wr64 (t132 - t142))), (101, .bool true), (102, .bool true), (103, .bool true)]) (by kernel_rfl) ?_
                          refine t_end ?_
                          show W _ _ _ _ _ _ _
                          refine w_cond rfl (fun _ => ?_) (fun c_ => by cases c_)
                          show W _ _ _ _ _ _ _
                          refine w_seq ?_
                          refine w_reg fun all => ?_
                          refine t_qz 1 [10] (σ' := [(10, .bool false)]) (by kernel_rfl) ?_
                          refine t_end ?_
                          show W _ _ _ _ _ _ _
                          refine w_ret ?_
                          obtain rfl := Option.some.inj e127
                          have hr_ := Option.some.inj e
                          exact ⟨[.bool false], [], S, ⟨rfl, trivial⟩, VS.none, congrArg Value.bool hr_, rfl, rfl⟩
                      · rw [if_neg c140] at e127
                        have c140b : (decide (x129 > 7)) = false := decide_eq_false c140
                        refine w_drwE mixed 61 [.v (.pointer (some ⟨b134, 0, none⟩)), .v (.int .i64 t131), .v (.int .i64 (Int.tmod A2 1000)), .v (.int .i64 (wr64 ((Int.tmod A2 1000) * 256))), .v (.bool false), .v (.bool false), .v (.pointer (some ⟨b134, 0, none⟩)), .v (.int .i64 t131), .v (.int .i64 (Int.tmod A2 1000)), .v (.int .i64 (wr64 ((Int.tmod A2 1000) * 256))), .v (.int .i64 (wr64 ((wr64 ((Int.tmod A2 1000) * 256)) + 256))), .v (.bool false), .v (.bool false), .v (.bool false), .v (.pointer (some ⟨b134, 1, none⟩)), .v (.int .i64 t132), .v (.int .i64 (Int.tmod r3 1000)), .v (.int .i64 (wr64 ((Int.tmod r3 1000) * 256))), .v (.bool false), .v (.bool false), .v (.bool false), .v (.pointer (some ⟨b134, 1, none⟩)), .v (.int .i64 t132), .v (.int .i64 (Int.tmod r3 1000)), .v (.int .i64 (wr64 ((Int.tmod r3 1000) * 256))), .v (.int .i64 (wr64 ((wr64 ((Int.tmod r3 1000) * 256)) + 256))), .v (.bool false), .v (.bool false), .v (.bool false), .v (.int .i64 x129), .v (.int .i64 (Int.tmod x129 8)), .v (.bool false), .v (.bool false), .v (.tuple #[]), .v (.tuple #[]), .v (.tuple #[]), .v (.tuple #[]), .v (.tuple #[]), .v (.tuple #[]), .v (.tuple #[]), .v (.tuple #[]), .v (.tuple #[]), .v (.tuple #[]), .v (.bool false), .v (.bool false), .v (.bool false), .v (.int .i64 x129), .v (.bool false), .v (.bool false), .v (.tuple #[]), .v (.tuple #[]), .v (.tuple #[]), .v (.tuple #[]), .v (.tuple #[]), .v (.tuple #[]), .v (.tuple #[]), .v (.tuple #[]), .v (.tuple #[]), .v (.tuple #[]), .v (.bool false), .v (.bool false)] (by kernel_rfl) ?_ ?_
                        · refine DI.sq 1 (by kernel_rfl) rfl ?_
                          refine .cons (.ld1 rfl rfl rfl (.at 0 rfl rfl)) ?_
                          refine DI.sq 2 (by kernel_rfl) rfl ?_
                          refine .cons (dv_quiet rfl (congrArg (fun t => some (Value.bool t)) c135b)) ?_
                          refine DI.sq 2 (by kernel_rfl) rfl ?_
                          refine .cons (.ld1 rfl rfl rfl (.at 0 rfl rfl)) ?_
                          refine DI.sq 3 (by kernel_rfl) rfl ?_
                          refine .cons (dv_quiet rfl (congrArg (fun t => some (Value.bool t)) c136b)) ?_
                          refine DI.sq 3 (by kernel_rfl) rfl ?_
                          refine .cons (.ld1 rfl rfl rfl (.at 0 rfl rfl)) ?_
                          refine DI.sq 2 (by kernel_rfl) rfl ?_
                          refine .cons (dv_quiet rfl (congrArg (fun t => some (Value.bool t)) c137b)) ?_
                          refine DI.sq 3 (by kernel_rfl) rfl ?_
                          refine .cons (.ld1 rfl rfl rfl (.at 0 rfl rfl)) ?_
                          refine DI.sq 3 (by kernel_rfl) rfl ?_
                          refine .cons (dv_quiet rfl (congrArg (fun t => some (Value.bool t)) c138b)) ?_
                          refine DI.sq 4 (by kernel_rfl) rfl ?_
                          refine .cons (dv_quiet rfl (congrArg (fun t => some (Value.bool (!t))) c139b)) ?_
                          refine DI.sq 15 (by kernel_rfl) rfl ?_
                          refine .cons (dv_quiet rfl (congrArg (fun t => some (Value.bool t)) c140b)) ?_
                          refine DI.sq 13 (by kernel_rfl) rfl ?_
                          exact .nil
                        refine fk_q 61 [0, 1, 2, 3, 4, 11, 12, 49, 50, 51, 52, 53, 54, 57, 58, 59, 60, 61, 64, 65, 66, 67, 68, 69, 72, 73, 74, 75, 76, 77, 78, 79, 80, 81, 82, 83, 84, 85, 86, 89, 90, 91, 92, 93, 94, 95, 96, 97, 98, 99, 100, 101, 102, 103] (σ' := [(0, .slice a_t0 t0.length c_t0), (1, .int .i64 o1), (2, .int .i64 (Int.tmod A2 1000)), (3, .int .i64 (Int.tmod r3 1000)), (4, .int .i64 (Int.tmod (wr64 ((Int.tmod r4 6) + 6)) 6)), (11, .bool true), (12, .int .i64 x129), (49, .pointer (some ⟨b134, 0, none⟩)), (50, .int .i64 t131), (51, .int .i64 (Int.tmod A2 1000)), (52, .int .i64 (wr64 ((Int.tmod A2 1000) * 256))), (53, .int .i64 (wr64 ((wr64 ((Int.tmod A2 1000) * 256)) + 256))), (54, .bool false), (57, .pointer (some ⟨b134, 1, none⟩)), (58, .int .i64 t132), (59, .int .i64 (Int.tmod r3 1000)), (60, .int .i64 (wr64 ((Int.tmod r3 1000) * 256))), (61, .bool false), (64, .pointer (some ⟨b134, 1, none⟩)), (65, .int .i64 t132), (66, .int .i64 (Int.tmod r3 1000)), (67, .int .i64 (wr64 ((Int.tmod r3 1000) * 256))), (68, .int .i64 (wr64 ((wr64 ((Int.tmod r3 1000) * 256)) + 256))), (69, .bool false), (72, .int .i64 x129), (73, .int .i64 (Int.tmod x129 8)), (74, .bool false), (75, .bool false), (76, .tuple #[]), (77, .tuple #[]), (78, .tuple #[]), (79, .tuple #[]), (80, .tuple #[]), (81, .tuple #[]), (82, .tuple #[]), (83, .tuple #[]), (84, .tuple #[]), (85, .tuple #[]), (86, .bool false), (89, .int .i64 x129), (90, .bool false), (91, .bool false), (92, .tuple #[]), (93, .tuple #[]), (94, .tuple #[]), (95, .tuple #[]), (96, .tuple #[]), (97, .tuple #[]), (98, .tuple #[]), (99, .tuple #[]), (100, .tuple #[]), (101, .tuple #[]), (102, .bool false), (103, .bool false)]) t_more (by kernel_rfl) ?_
                        refine fk_nil fun all => ?_
                        refine t_keep [0, 1, 2, 3, 4, 11, 12, 49, 50, 51, 52, 53, 54, 57, 58, 59, 60, 61, 64, 65, 66, 67, 68, 69, 72, 73, 74, 75, 76, 77, 78, 79, 80, 81, 82, 83, 84, 85, 86, 89, 90, 91, 92, 93, 94, 95, 96, 97, 98, 99, 100, 101, 102, 103] (σ' := [(0, .slice a_t0 t0.length c_t0), (1, .int .i64 o1), (2, .int .i64 (Int.tmod A2 1000)), (3, .int .i64 (Int.tmod r3 1000)), (4, .int .i64 (Int.tmod (wr64 ((Int.tmod r4 6) + 6)) 6)), (11, .bool true), (12, .int .i64 x129), (49, .pointer (some ⟨b134, 0, none⟩)), (50, .int .i64 t131), (51, .int .i64 (Int.tmod A2 1000)), (52, .int .i64 (wr64 ((Int.tmod A2 1000) * 256))), (53, .int .i64 (wr64 ((wr64 ((Int.tmod A2 1000) * 256)) + 256))), (54, .bool false), (57, .pointer (some ⟨b134, 1, none⟩)), (58, .int .i64 t132), (59, .int .i64 (Int.tmod r3 1000)), (60, .int .i64 (wr64 ((Int.tmod r3 1000) * 256))), (61, .bool false), (64, .pointer (some ⟨b134, 1, none⟩)), (65, .int .i64 t132), (66, .int .i64 (Int.tmod r3 1000)), (67, .int .i64 (wr64 ((Int.tmod r3 1000) * 256))), (68, .int .i64 (wr64 ((wr64 ((Int.tmod r3 1000) * 256)) + 256))), (69, .bool false), (72, .int .i64 x129), (73, .int .i64 (Int.tmod x129 8)), (74, .bool false), (75, .bool false), (76, .tuple #[]), (77, .tuple #[]), (78, .tuple #[]), (79, .tuple #[]), (80, .tuple #[]), (81, .tuple #[]), (82, .tuple #[]), (83, .tuple #[]), (84, .tuple #[]), (85, .tuple #[]), (86, .bool false), (89, .int .i64 x129), (90, .bool false), (91, .bool false), (92, .tuple #[]), (93, .tuple #[]), (94, .tuple #[]), (95, .tuple #[]), (96, .tuple #[]), (97, .tuple #[]), (98, .tuple #[]), (99, .tuple #[]), (100, .tuple #[]), (101, .tuple #[]), (102, .bool false), (103, .bool false)]) (by kernel_rfl) ?_
                        refine t_end ?_
                        show W _ _ _ _ _ _ _
                        refine w_cond rfl (fun c_ => by cases c_) (fun _ => ?_)
                        show W _ _ _ _ _ _ _
                        refine w_skip ?_
                        show W _ _ _ _ _ _ _
                        refine w_reg fun all => ?_
                        refine t_qz 3 [0, 1, 2, 3, 4, 11, 12, 49, 50, 51, 52, 53, 54, 57, 58, 59, 60, 61, 64, 65, 66, 67, 68, 69, 72, 73, 74, 75, 76, 77, 78, 79, 80, 81, 82, 83, 84, 85, 86, 89, 90, 91, 92, 93, 94, 95, 96, 97, 98, 99, 100, 101, 102] (σ' := [(0, .slice a_t0 t0.length c_t0), (1, .int .i64 o1), (2, .int .i64 (Int.tmod A2 1000)), (3, .int .i64 (Int.tmod r3 1000)), (4, .int .i64 (Int.tmod (wr64 ((Int.tmod r4 6) + 6)) 6)), (11, .bool true), (12, .int .i64 (wr64 (x129 + 1))), (49, .pointer (some ⟨b134, 0, none⟩)), (50, .int .i64 t131), (51, .int .i64 (Int.tmod A2 1000)), (52, .int .i64 (wr64 ((Int.tmod A2 1000) * 256))), (53, .int .i64 (wr64 ((wr64 ((Int.tmod A2 1000) * 256)) + 256))), (54, .bool false), (57, .pointer (some ⟨b134, 1, none⟩)), (58, .int .i64 t132), (59, .int .i64 (Int.tmod r3 1000)), (60, .int .i64 (wr64 ((Int.tmod r3 1000) * 256))), (61, .bool false), (64, .pointer (some ⟨b134, 1, none⟩)), (65, .int .i64 t132), (66, .int .i64 (Int.tmod r3 1000)), (67, .int .i64 (wr64 ((Int.tmod r3 1000) * 256))), (68, .int .i64 (wr64 ((wr64 ((Int.tmod r3 1000) * 256)) + 256))), (69, .bool false), (72, .int .i64 x129), (73, .int .i64 (Int.tmod x129 8)), (74, .bool false), (75, .bool false), (76, .tuple #[]), (77, .tuple #[]), (78, .tuple #[]), (79, .tuple #[]), (80, .tuple #[]), (81, .tuple #[]), (82, .tuple #[]), (83, .tuple #[]), (84, .tuple #[]), (85, .tuple #[]), (86, .bool false), (89, .int .i64 x129), (90, .bool false), (91, .bool false), (92, .tuple #[]), (93, .tuple #[]), (94, .tuple #[]), (95, .tuple #[]), (96, .tuple #[]), (97, .tuple #[]), (98, .tuple #[]), (99, .tuple #[]), (100, .tuple #[]), (101, .tuple #[]), (102, .bool false)]) (by kernel_rfl) ?_
                        refine t_end ?_
                        exact ⟨k_, Nat.lt_succ_self _, [(0, .slice a_t0 t0.length c_t0), (1, .int .i64 o1), (2, .int .i64 (Int.tmod A2 1000)), (3, .int .i64 (Int.tmod r3 1000)), (4, .int .i64 (Int.tmod (wr64 ((Int.tmod r4 6) + 6)) 6)), (11, .bool true), (12, .int .i64 (wr64 (x129 + 1)))], ([] : List Own), S, keep_sub [0, 1, 2, 3, 4, 11, 12] (by kernel_rfl), VS.sel [] (by kernel_rfl), wr64 (x129 + 1), rfl, rfl, rfl, e127⟩
                    · rw [if_neg c139] at e127
                      have c139b : ((Int.tmod x129 8) == 0) = false := beq_eq_false_iff_ne.mpr c139
                      obtain ⟨⟨t147, t148⟩, h149, e127⟩ := bind_of e127
                      try dsimp only at e127
                      by_cases c150 : (wr64 (t131 - t147)) = 32
                      · rw [if_pos c150] at e127
                        have c150b : ((wr64 (t131 - t147)) == 32) = true := beq_iff_eq.mpr c150
                        by_cases c151 : x129 > 7
                        · rw [if_pos c151] at e127
                          have c151b : (decide (x129 > 7)) = true := decide_eq_true c151
                          obtain ⟨⟨t152, t153⟩, h154, e127⟩ := bind_of e127
                          try dsimp only at e127
                          by_cases c155 : (wr64 (t132 - t153)) = 32
                          · rw [if_pos c155] at e127
                            have c155b : ((wr64 (t132 - t153)) == 32) = true := beq_iff_eq.mpr c155
                            refine w_drwE mixed 61 [.v (.pointer (some ⟨b134, 0, none⟩)), .v (.int .i64 t131), .v (.int .i64 (Int.tmod A2 1000)), .v (.int .i64 (wr64 ((Int.tmod A2 1000) * 256))), .v (.bool false), .v (.bool false), .v (.pointer (some ⟨b134, 0, none⟩)), .v (.int .i64 t131), .v (.int .i64 (Int.tmod A2 1000)), .v (.int .i64 (wr64 ((Int.tmod A2 1000) * 256))), .v (.int .i64 (wr64 ((wr64 ((Int.tmod A2 1000) * 256)) + 256))), .v (.bool false), .v (.bool false), .v (.bool false), .v (.pointer (some ⟨b134, 1, none⟩)), .v (.int .i64 t132), .v (.int .i64 (Int.tmod r3 1000)), .v (.int .i64 (wr64 ((Int.tmod r3 1000) * 256))), .v (.bool false), .v (.bool false), .v (.bool false), .v (.pointer (some ⟨b134, 1, none⟩)), .v (.int .i64 t132), .v (.int .i64 (Int.tmod r3 1000)), .v (.int .i64 (wr64 ((Int.tmod r3 1000) * 256))), .v (.int .i64 (wr64 ((wr64 ((Int.tmod r3 1000) * 256)) + 256))), .v (.bool false), .v (.bool false), .v (.bool false), .v (.int .i64 x129), .v (.int .i64 (Int.tmod x129 8)), .v (.bool true), .v (.bool true), .v (.pointer (some ⟨b134, 0, none⟩)), .v (.int .i64 t131), .v (.int .i64 (Int.tmod A2 1000)), .v (.int .i64 (Int.tmod r3 1000)), .v (.int .i64 x129), .v (.int .i64 (wr64 (x129 - 1))), .v (.agg #[.int .i64 t147, .int .i64 t148]), .v (.int .i64 t147), .v (.int .i64 (wr64 (t131 - t147))), .v (.bool false), .v (.bool false), .v (.bool false), .v (.bool false), .v (.int .i64 x129), .v (.bool true), .v (.bool true), .v (.pointer (some ⟨b134, 1, none⟩)), .v (.int .i64 t132), .v (.int .i64 (Int.tmod A2 1000)), .v (.int .i64 (Int.tmod r3 1000)), .v (.int .i64 x129), .v (.int .i64 (wr64 (x129 - 8))), .v (.agg #[.int .i64 t152, .int .i64 t153]), .v (.int .i64 t153), .v (.int .i64 (wr64 (t132 - t153))), .v (.bool false), .v (.bool false), .v (.bool false)] (by kernel_rfl) ?_ ?_
                            · refine DI.sq 1 (by kernel_rfl) rfl ?_
                              refine .cons (.ld1 rfl rfl rfl (.at 0 rfl rfl)) ?_
                              refine DI.sq 2 (by kernel_rfl) rfl ?_
                              refine .cons (dv_quiet rfl (congrArg (fun t => some (Value.bool t)) c135b)) ?_
                              refine DI.sq 2 (by kernel_rfl) rfl ?_
                              refine .cons (.ld1 rfl rfl rfl (.at 0 rfl rfl)) ?_
                              refine DI.sq 3 (by kernel_rfl) rfl ?_
                              refine .cons (dv_quiet rfl (congrArg (fun t => some (Value.bool t)) c136b)) ?_
                              refine DI.sq 3 (by kernel_rfl) rfl ?_
                              refine .cons (.ld1 rfl rfl rfl (.at 0 rfl rfl)) ?_
                              refine DI.sq 2 (by kernel_rfl) rfl ?_
                              refine .cons (dv_quiet rfl (congrArg (fun t => some (Value.bool t)) c137b)) ?_
                              refine DI.sq 3 (by kernel_rfl) rfl ?_
                              refine .cons (.ld1 rfl rfl rfl (.at 0 rfl rfl)) ?_
                              refine DI.sq 3 (by kernel_rfl) rfl ?_
                              refine .cons (dv_quiet rfl (congrArg (fun t => some (Value.bool t)) c138b)) ?_
                              refine DI.sq 4 (by kernel_rfl) rfl ?_
                              refine .cons (dv_quiet rfl (congrArg (fun t => some (Value.bool (!t))) c139b)) ?_
                              refine DI.sq 2 (by kernel_rfl) rfl ?_
                              refine .cons (.ld1 rfl rfl rfl (.at 0 rfl rfl)) ?_
                              refine DI.sq 4 (by kernel_rfl) rfl ?_
                              refine .cons (.call (vs := [.int .i64 (Int.tmod A2 1000), .int .i64 (Int.tmod r3 1000), .int .i64 (wr64 (x129 - 1))]) rfl rfl (by kernel_rfl) (sweep_Sample.ok h149)) ?_
                              refine DI.sq 2 (by kernel_rfl) rfl ?_
                              refine .cons (dv_quiet rfl (congrArg (fun t => some (Value.bool (!t))) c150b)) ?_
                              refine DI.sq 4 (by kernel_rfl) rfl ?_
                              refine .cons (dv_quiet rfl (congrArg (fun t => some (Value.bool t)) c151b)) ?_
                              refine DI.sq 2 (by kernel_rfl) rfl ?_
                              refine .cons (.ld1 rfl rfl rfl (.at 0 rfl rfl)) ?_
                              refine DI.sq 4 (by kernel_rfl) rfl ?_
                              refine .cons (.call (vs := [.int .i64 (Int.tmod A2 1000), .int .i64 (Int.tmod r3 1000), .int .i64 (wr64 (x129 - 8))]) rfl rfl (by kernel_rfl) (sweep_Sample.ok h154)) ?_
                              refine DI.sq 2 (by kernel_rfl) rfl ?_
                              refine .cons (dv_quiet rfl (congrArg (fun t => some (Value.bool (!t))) c155b)) ?_
                              refine DI.sq 2 (by kernel_rfl) rfl ?_
                              exact .nil
                            refine fk_q 61 [0, 1, 2, 3, 4, 11, 12, 49, 50, 51, 52, 53, 54, 57, 58, 59, 60, 61, 64, 65, 66, 67, 68, 69, 72, 73, 74, 75, 76, 77, 78, 79, 80, 81, 82, 83, 84, 85, 86, 89, 90, 91, 92, 93, 94, 95, 96, 97, 98, 99, 100, 101, 102, 103] (σ' := [(0, .slice a_t0 t0.length c_t0), (1, .int .i64 o1), (2, .int .i64 (Int.tmod A2 1000)), (3, .int .i64 (Int.tmod r3 1000)), (4, .int .i64 (Int.tmod (wr64 ((Int.tmod r4 6) + 6)) 6)), (11, .bool true), (12, .int .i64 x129), (49, .pointer (some ⟨b134, 0, none⟩)), (50, .int .i64 t131), (51, .int .i64 (Int.tmod A2 1000)), (52, .int .i64 (wr64 ((Int.tmod A2 1000) * 256))), (53, .int .i64 (wr64 ((wr64 ((Int.tmod A2 1000) * 256)) + 256))), (54, .bool false), (57, .pointer (some ⟨b134, 1, none⟩)), (58, .int .i64 t132), (59, .int .i64 (Int.tmod r3 1000)), (60, .int .i64 (wr64 ((Int.tmod r3 1000) * 256))), (61, .bool false), (64, .pointer (some ⟨b134, 1, none⟩)), (65, .int .i64 t132), (66, .int .i64 (Int.tmod r3 1000)), (67, .int .i64 (wr64 ((Int.tmod r3 1000) * 256))), (68, .int .i64 (wr64 ((wr64 ((Int.tmod r3 1000) * 256)) + 256))), (69, .bool false), (72, .int .i64 x129), (73, .int .i64 (Int.tmod x129 8)), (74, .bool true), (75, .bool true), (76, .pointer (some ⟨b134, 0, none⟩)), (77, .int .i64 t131), (78, .int .i64 (Int.tmod A2 1000)), (79, .int .i64 (Int.tmod r3 1000)), (80, .int .i64 x129), (81, .int .i64 (wr64 (x129 - 1))), (82, .agg #[.int .i64 t147, .int .i64 t148]), (83, .int .i64 t147), (84, .int .i64 (wr64 (t131 - t147))), (85, .bool false), (86, .bool false), (89, .int .i64 x129), (90, .bool true), (91, .bool true), (92, .pointer (some ⟨b134, 1, none⟩)), (93, .int .i64 t132), (94, .int .i64 (Int.tmod A2 1000)), (95, .int .i64 (Int.tmod r3 1000)), (96, .int .i64 x129), (97, .int .i64 (wr64 (x129 - 8))), (98, .agg #[.int .i64 t152, .int .i64 t153]), (99, .int .i64 t153), (100, .int .i64 (wr64 (t132 - t153))), (101, .bool false), (102, .bool false), (103, .bool false)]) t_more (by kernel_rfl) ?_
                            refine fk_nil fun all => ?_
                            refine t_keep [0, 1, 2, 3, 4, 11, 12, 49, 50, 51, 52, 53, 54, 57, 58, 59, 60, 61, 64, 65, 66, 67, 68, 69, 72, 73, 74, 75, 76, 77, 78, 79, 80, 81, 82, 83, 84, 85, 86, 89, 90, 91, 92, 93, 94, 95, 96, 97, 98, 99, 100, 101, 102, 103] (σ' := [(0, .slice a_t0 t0.length c_t0), (1, .int .i64 o1), (2, .int .i64 (Int.tmod A2 1000)), (3, .int .i64 (Int.tmod r3 1000)), (4, .int .i64 (Int.tmod (wr64 ((Int.tmod r4 6) + 6)) 6)), (11, .bool true), (12, .int .i64 x129), (49, .pointer (some ⟨b134, 0, none⟩)), (50, .int .i64 t131), (51, .int .i64 (Int.tmod A2 1000)), (52, .int .i64 (wr64 ((Int.tmod A2 1000) * 256))), (53, .int .i64 (wr64 ((wr64 ((Int.tmod A2 1000) * 256)) + 256))), (54, .bool false), (57, .pointer (some ⟨b134, 1, none⟩)), (58, .int .i64 t132), (59, .int .i64 (Int.tmod r3 1000)), (60, .int .i64 (wr64 ((Int.tmod r3 1000) * 256))), (61, .bool false), (64, .pointer (some ⟨b134, 1, none⟩)), (65, .int .i64 t132), (66, .int .i64 (Int.tmod r3 1000)), (67, .int .i64 (wr64 ((Int.tmod r3 1000) * 256))), (68, .int .i64 (wr64 ((wr64 ((Int.tmod r3 1000) * 256)) + 256))), (69, .bool false), (72, .int .i64 x129), (73, .int .i64 (Int.tmod x129 8)), (74, .bool true), (75, .bool true), (76, .pointer (some ⟨b134, 0, none⟩)), (77, .int .i64 t131), (78, .int .i64 (Int.tmod A2 1000)), (79, .int .i64 (Int.tmod r3 1000)), (80, .int .i64 x129), (81, .int .i64 (wr64 (x129 - 1))), (82, .agg #[.int .i64 t147, .int .i64 t148]), (83, .int .i64 t147), (84, .int .i64 (wr64 (t131 - t147))), (85, .bool false), (86, .bool false), (89, .int .i64 x129), (90, .bool true), (91, .bool true), (92, .pointer (some ⟨b134, 1, none⟩)), (93, .int .i64 t132), (94, .int .i64 (Int.tmod A2 1000)), (95, .int .i64 (Int.tmod r3 1000)), (96, .int .i64 x129), (97, .int .i64 (wr64 (x129 - 8))), (98, .agg #[.int .i64 t152, .int .i64 t153]), (99, .int .i64 t153), (100, .int .i64 (wr64 (t132 - t153))), (101, .bool false), (102, .bool false), (103, .bool false)]) (by kernel_rfl) ?_
                            refine t_end ?_
                            show W _ _ _ _ _ _ _
                            refine w_cond rfl (fun c_ => by cases c_) (fun _ => ?_)
                            show W _ _ _ _ _ _ _
                            refine w_skip ?_
                            show W _ _ _ _ _ _ _
                            refine w_reg fun all => ?_
                            refine t_qz 3 [0, 1, 2, 3, 4, 11, 12, 49, 50, 51, 52, 53, 54, 57, 58, 59, 60, 61, 64, 65, 66, 67, 68, 69, 72, 73, 74, 75, 76, 77, 78, 79, 80, 81, 82, 83, 84, 85, 86, 89, 90, 91, 92, 93, 94, 95, 96, 97, 98, 99, 100, 101, 102] (σ' := [(0, .slice a_t0 t0.length c_t0), (1, .int .i64 o1), (2, .int .i64 (Int.tmod A2 1000)), (3, .int .i64 (Int.tmod r3 1000)), (4, .int .i64 (Int.tmod (wr64 ((Int.tmod r4 6) + 6)) 6)), (11, .bool true), (12, .int .i64 (wr64 (x129 + 1))), (49, .pointer (some ⟨b134, 0, none⟩)), (50, .int .i64 t131), (51, .int .i64 (Int.tmod A2 1000)), (52, .int .i64 (wr64 ((Int.tmod A2 1000) * 256))), (53, .int .i64 (wr64 ((wr64 ((Int.tmod A2 1000) * 256)) + 256))), (54, .bool false), (57, .pointer (some ⟨b134, 1, none⟩)), (58, .int .i64 t132), (59, .int .i64 (Int.tmod r3 1000)), (60, .int .i64 (wr64 ((Int.tmod r3 1000) * 256))), (61, .bool false), (64, .pointer (some ⟨b134, 1, none⟩)), (65, .int .i64 t132), (66, .int .i64 (Int.tmod r3 1000)), (67, .int .i64 (wr64 ((Int.tmod r3 1000) * 256))), (68, .int .i64 (wr64 ((wr64 ((Int.tmod r3 1000) * 256)) + 256))), (69, .bool false), (72, .int .i64 x129), (73, .int .i64 (Int.tmod x129 8)), (74, .bool true), (75, .bool true), (76, .pointer (some ⟨b134, 0, none⟩)), (77, .int .i64 t131), (78, .int .i64 (Int.tmod A2 1000)), (79, .int .i64 (Int.tmod r3 1000)), (80, .int .i64 x129), (81, .int .i64 (wr64 (x129 - 1))), (82, .agg #[.int .i64 t147, .int .i64 t148]), (83, .int .i64 t147), (84, .int .i64 (wr64 (t131 - t147))), (85, .bool false), (86, .bool false), (89, .int .i64 x129), (90, .bool true), (91, .bool true), (92, .pointer (some ⟨b134, 1, none⟩)), (93, .int .i64 t132), (94, .int .i64 (Int.tmod A2 1000)), (95, .int .i64 (Int.tmod r3 1000)), (96, .int .i64 x129), (97, .int .i64 (wr64 (x129 - 8))), (98, .agg #[.int .i64 t152, .int .i64 t153]), (99, .int .i64 t153), (100, .int .i64 (wr64 (t132 - t153))), (101, .bool false), (102, .bool false)]) (by kernel_rfl) ?_
                            refine t_end ?_
                            exact ⟨k_, Nat.lt_succ_self _, [(0, .slice a_t0 t0.length c_t0), (1, .int .i64 o1), (2, .int .i64 (Int.tmod A2 1000)), (3, .int .i64 (Int.tmod r3 1000)), (4, .int .i64 (Int.tmod (wr64 ((Int.tmod r4 6) + 6)) 6)), (11, .bool true), (12, .int .i64 (wr64 (x129 + 1)))], ([] : List Own), S, keep_sub [0, 1, 2, 3, 4, 11, 12] (by kernel_rfl), VS.sel [] (by kernel_rfl), wr64 (x129 + 1), rfl, rfl, rfl, e127⟩
                          · rw [if_neg c155] at e127
                            have c155b : ((wr64 (t132 - t153)) == 32) = false := beq_eq_false_iff_ne.mpr c155
                            refine w_drwE mixed 61 [.v (.pointer (some ⟨b134, 0, none⟩)), .v (.int .i64 t131), .v (.int .i64 (Int.tmod A2 1000)), .v (.int .i64 (wr64 ((Int.tmod A2 1000) * 256))), .v (.bool false), .v (.bool false), .v (.pointer (some ⟨b134, 0, none⟩)), .v (.int .i64 t131), .v (.int .i64 (Int.tmod A2 1000)), .v (.int .i64 (wr64 ((Int.tmod A2 1000) * 256))), .v (.int .i64 (wr64 ((wr64 ((Int.tmod A2 1000) * 256)) + 256))), .v (.bool false), .v (.bool false), .v (.bool false), .v (.pointer (some ⟨b134, 1, none⟩)), .v (.int .i64 t132), .v (.int .i64 (Int.tmod r3 1000)), .v (.int .i64 (wr64 ((Int.tmod r3 1000) * 256))), .v (.bool false), .v (.bool false), .v (.bool false), .v (.pointer (some ⟨b134, 1, none⟩)), .v (.int .i64 t132), .v (.int .i64 (Int.tmod r3 1000)), .v (.int .i64 (wr64 ((Int.tmod r3 1000) * 256))), .v (.int .i64 (wr64 ((wr64 ((Int.tmod r3 1000) * 256)) + 256))), .v (.bool false), .v (.bool false), .v (.bool false), .v (.int .i64 x129), .v (.int .i64 (Int.tmod x129 8)), .v (.bool true), .v (.bool true), .v (.pointer (some ⟨b134, 0, none⟩)), .v (.int .i64 t131), .v (.int .i64 (Int.tmod A2 1000)), .v (.int .i64 (Int.tmod r3 1000)), .v (.int .i64 x129), .v (.int .i64 (wr64 (x129 - 1))), .v (.agg #[.int .i64 t147, .int .i64 t148]), .v (.int .i64 t147), .v (.int .i64 (wr64 (t131 - t147))), .v (.bool false), .v (.bool false), .v (.bool false), .v (.bool false), .v (.int .i64 x129), .v (.bool true), .v (.bool true), .v (.pointer (some ⟨b134, 1, none⟩)), .v (.int .i64 t132), .v (.int .i64 (Int.tmod A2 1000)), .v (.int .i64 (Int.tmod r3 1000)), .v (.int .i64 x129), .v (.int .i64 (wr64 (x129 - 8))), .v (.agg #[.int .i64 t152, .int .i64 t153]), .v (.int .i64 t153), .v (.int .i64 (wr64 (t132 - t153))), .v (.bool true), .v (.bool true), .v (.bool true)] (by kernel_rfl) ?_ ?_
                            · refine DI.sq 1 (by kernel_rfl) rfl ?_
                              refine .cons (.ld1 rfl rfl rfl (.at 0 rfl rfl)) ?_
                              refine DI.sq 2 (by kernel_rfl) rfl ?_
                              refine .cons (dv_quiet rfl (congrArg (fun t => some (Value.bool t)) c135b)) ?_
                              refine DI.sq 2 (by kernel_rfl) rfl ?_
                              refine .cons (.ld1 rfl rfl rfl (.at 0 rfl rfl)) ?_
                              refine DI.sq 3 (by kernel_rfl) rfl ?_
                              refine .cons (dv_quiet rfl (congrArg (fun t => some (Value.bool t)) c136b)) ?_
                              refine DI.sq 3 (by kernel_rfl) rfl ?_
                              refine .cons (.ld1 rfl rfl rfl (.at 0 rfl rfl)) ?_
                              refine DI.sq 2 (by kernel_rfl) rfl ?_
                              refine .cons (dv_quiet rfl (congrArg (fun t => some (Value.bool t)) c137b)) ?_
                              refine DI.sq 3 (by kernel_rfl) rfl ?_
                              refine .cons (.ld1 rfl rfl rfl (.at 0 rfl rfl)) ?_
                              refine DI.sq 3 (by kernel_rfl) rfl ?_
                              refine .cons (dv_quiet rfl (congrArg (fun t => some (Value.bool t)) c138b)) ?_
                              refine DI.sq 4 (by kernel_rfl) rfl ?_
                              refine .cons (dv_quiet rfl (congrArg (fun t => some (Value.bool (!t))) c139b)) ?_
                              refine DI.sq 2 (by kernel_rfl) rfl ?_
                              refine .cons (.ld1 rfl rfl rfl (.at 0 rfl rfl)) ?_
                              refine DI.sq 4 (by kernel_rfl) rfl ?_
                              refine .cons (.call (vs := [.int .i64 (Int.tmod A2 1000), .int .i64 (Int.tmod r3 1000), .int .i64 (wr64 (x129 - 1))]) rfl rfl (by kernel_rfl) (sweep_Sample.ok h149)) ?_
                              refine DI.sq 2 (by kernel_rfl) rfl ?_
                              refine .cons (dv_quiet rfl (congrArg (fun t => some (Value.bool (!t))) c150b)) ?_
                              refine DI.sq 4 (by kernel_rfl) rfl ?_
                              refine .cons (dv_quiet rfl (congrArg (fun t => some (Value.bool t)) c151b)) ?_
                              refine DI.sq 2 (by kernel_rfl) rfl ?_
                              refine .cons (.ld1 rfl rfl rfl (.at 0 rfl rfl)) ?_
                              refine DI.sq 4 (by kernel_rfl) rfl ?_
                              refine .cons (.call (vs := [.int .i64 (Int.tmod A2 1000), .int .i64 (Int.tmod r3 1000), .int .i64 (wr64 (x129 - 8))]) rfl rfl (by kernel_rfl) (sweep_Sample.ok h154)) ?_
                              refine DI.sq 2 (by kernel_rfl) rfl ?_
                              refine .cons (dv_quiet rfl (congrArg (fun t => some (Value.bool (!t))) c155b)) ?_
                              refine DI.sq 2 (by kernel_rfl) rfl ?_
                              exact .nil
                            refine fk_q 61 [0, 1, 2, 3, 4, 11, 12, 49, 50, 51, 52, 53, 54, 57, 58, 59, 60, 61, 64, 65, 66, 67, 68, 69, 72, 73, 74, 75, 76, 77, 78, 79, 80, 81, 82, 83, 84, 85, 86, 89, 90, 91, 92, 93, 94, 95, 96, 97, 98, 99, 100, 101, 102, 103] (σ' := [(0, .slice a_t0 t0.length c_t0), (1, .int .i64 o1), (2, .int .i64 (Int.tmod A2 1000)), (3, .int .i64 (Int.tmod r3 1000)), (4, .int .i64 (Int.tmod (wr64 ((Int.tmod r4 6) + 6)) 6)), (11, .bool true), (12, .int .i64 x129), (49, .pointer (some ⟨b134, 0, none⟩)), (50, .int .i64 t131), (51, .int .i64 (Int.tmod A2 1000)), (52, .int .i64 (wr64 ((Int.tmod A2 1000) * 256))), (53, .int .i64 (wr64 ((wr64 ((Int.tmod A2 1000) * 256)) + 256))), (54, .bool false), (57, .pointer (some ⟨b134, 1, none⟩)), (58, .int .i64 t132), (59, .int .i64 (Int.tmod r3 1000)), (60, .int .i64 (wr64 ((Int.tmod r3 1000) * 256))), (61, .bool false), (64, .pointer (some ⟨b134, 1, none⟩)), (65, .int .i64 t132), (66, .int .i64 (Int.tmod r3 1000)), (67, .int .i64 (wr64 ((Int.tmod r3 1000) * 256))), (68, .int .i64 (wr64 ((wr64 ((Int.tmod r3 1000) * 256)) + 256))), (69, .bool false), (72, .int .i64 x129), (73, .int .i64 (Int.tmod x129 8)), (74, .bool true), (75, .bool true), (76, .pointer (some ⟨b134, 0, none⟩)), (77, .int .i64 t131), (78, .int .i64 (Int.tmod A2 1000)), (79, .int .i64 (Int.tmod r3 1000)), (80, .int .i64 x129), (81, .int .i64 (wr64 (x129 - 1))), (82, .agg #[.int .i64 t147, .int .i64 t148]), (83, .int .i64 t147), (84, .int .i64 (wr64 (t131 - t147))), (85, .bool false), (86, .bool false), (89, .int .i64 x129), (90, .bool true), (91, .bool true), (92, .pointer (some ⟨b134, 1, none⟩)), (93, .int .i64 t132), (94, .int .i64 (Int.tmod A2 1000)), (95, .int .i64 (Int.tmod r3 1000)), (96, .int .i64 x129), (97, .int .i64 (wr64 (x129 - 8))), (98, .agg #[.int .i64 t152, .int .i64 t153]), (99, .int .i64 t153), (100, .int .i64 (wr64 (t132 - t153))), (101, .bool true), (102, .bool true), (103, .bool true)]) t_more (by kernel_rfl) ?_
                            refine fk_nil fun all => ?_
                            refine t_keep [0, 1, 2, 3, 4, 11, 12, 49, 50, 51, 52, 53, 54, 57, 58, 59, 60, 61, 64, 65, 66, 67, 68, 69, 72, 73, 74, 75, 76, 77, 78, 79, 80, 81, 82, 83, 84, 85, 86, 89, 90, 91, 92, 93, 94, 95, 96, 97, 98, 99, 100, 101, 102, 103] (σ' := [(0, .slice a_t0 t0.length c_t0), (1, .int .i64 o1), (2, .int .i64 (Int.tmod A2 1000)), (3, .int .i64 (Int.tmod r3 1000)), (4, .int .i64 (Int.tmod (wr64 ((Int.tmod r4 6) + 6)) 6)), (11, .bool true), (12, .int .i64 x129), (49, .pointer (some ⟨b134, 0, none⟩)), (50, .int .i64 t131), (51, .int .i64 (Int.tmod A2 1000)), (52, .int .i64 (wr64 ((Int.tmod A2 1000) * 256))), (53, .int .i64 (wr64 ((wr64 ((Int.tmod A2 1000) * 256)) + 256))), (54, .bool false), (57, .pointer (some ⟨b134, 1, none⟩)), (58, .int .i64 t132), (59, .int .i64 (Int.tmod r3 1000)), (60, .int .i64 (wr64 ((Int.tmod r3 1000) * 256))), (61, .bool false), (64, .pointer (some ⟨b134, 1, none⟩)), (65, .int .i64 t132), (66, .int .i64 (Int.tmod r3 1000)), (67, .int .i64 (wr64 ((Int.tmod r3 1000) * 256))), (68, .int .i64 (wr64 ((wr64 ((Int.tmod r3 1000) * 256)) + 256))), (69, .bool false), (72, .int .i64 x129), (73, .int .i64 (Int.tmod x129 8)), (74, .bool true), (75, .bool true), (76, .pointer (some ⟨b134, 0, none⟩)), (77, .int .i64 t131), (78, .int .i64 (Int.tmod A2 1000)), (79, .int .i64 (Int.tmod r3 1000)), (80, .int .i64 x129), (81, .int .i64 (wr64 (x129 - 1))), (82, .agg #[.int .i64 t147, .int .i64 t148]), (83, .int .i64 t147), (84, .int .i64 (wr64 (t131 - t147))), (85, .bool false), (86, .bool false), (89, .int .i64 x129), (90, .bool true), (91, .bool true), (92, .pointer (some ⟨b134, 1, none⟩)), (93, .int .i64 t132), (94, .int .i64 (Int.tmod A2 1000)), (95, .int .i64 (Int.tmod r3 1000)), (96, .int .i64 x129), (97, .int .i64 (wr64 (x129 - 8))), (98, .agg #[.int .i64 t152, .int .i64 t153]), (99, .int .i64 t153), (100, .int .i64 (wr64 (t132 - t153))), (101, .bool true), (102, .bool true), (103, .bool true)]) (by kernel_rfl) ?_
                            refine t_end ?_
                            show W _ _ _ _ _ _ _
                            refine w_cond rfl (fun _ => ?_) (fun c_ => by cases c_)
                            show W _ _ _ _ _ _ _
                            refine w_seq ?_
                            refine w_reg fun all => ?_
                            refine t_qz 1 [10] (σ' := [(10, .bool false)]) (by kernel_rfl) ?_
                            refine t_end ?_
                            show W _ _ _ _ _ _ _
                            refine w_ret ?_
                            obtain rfl := Option.some.inj e127
                            have hr_ := Option.some.inj e
                            exact ⟨[.bool false], [], S, ⟨rfl, trivial⟩, VS.none, congrArg Value.bool hr_, rfl, rfl⟩
                        · rw [if_neg c151] at e127
                          have c151b : (decide (x129 > 7)) = false := decide_eq_false c151
                          refine w_drwE mixed 61 [.v (.pointer (some ⟨b134, 0, none⟩)), .v (.int .i64 t131), .v (.int .i64 (Int.tmod A2 1000)), .v (.int .i64 (wr64 ((Int.tmod A2 1000) * 256))), .v (.bool false), .v (.bool false), .v (.pointer (some ⟨b134, 0, none⟩)), .v (.int .i64 t131), .v (.int .i64 (Int.tmod A2 1000)), .v (.int .i64 (wr64 ((Int.tmod A2 1000) * 256))), .v (.int .i64 (wr64 ((wr64 ((Int.tmod A2 1000) * 256)) + 256))), .v (.bool false), .v (.bool false), .v (.bool false), .v (.pointer (some ⟨b134, 1, none⟩)), .v (.int .i64 t132), .v (.int .i64 (Int.tmod r3 1000)), .v (.int .i64 (wr64 ((Int.tmod r3 1000) * 256))), .v (.bool false), .v (.bool false), .v (.bool false), .v (.pointer (some ⟨b134, 1, none⟩)), .v (.int .i64 t132), .v (.int .i64 (Int.tmod r3 1000)), .v (.int .i64 (wr64 ((Int.tmod r3 1000) * 256))), .v (.int .i64 (wr64 ((wr64 ((Int.tmod r3 1000) * 256)) + 256))), .v (.bool false), .v (.bool false), .v (.bool false), .v (.int .i64 x129), .v (.int .i64 (Int.tmod x129 8)), .v (.bool true), .v (.bool true), .v (.pointer (some ⟨b134, 0, none⟩)), .v (.int .i64 t131), .v (.int .i64 (Int.tmod A2 1000)), .v (.int .i64 (Int.tmod r3 1000)), .v (.int .i64 x129), .v (.int .i64 (wr64 (x129 - 1))), .v (.agg #[.int .i64 t147, .int .i64 t148]), .v (.int .i64 t147), .v (.int .i64 (wr64 (t131 - t147))), .v (.bool false), .v (.bool false), .v (.bool false), .v (.bool false), .v (.int .i64 x129), .v (.bool false), .v (.bool false), .v (.tuple #[]), .v (.tuple #[]), .v (.tuple #[]), .v (.tuple #[]), .v (.tuple #[]), .v (.tuple #[]), .v (.tuple #[]), .v (.tuple #[]), .v (.tuple #[]), .v (.tuple #[]), .v (.bool false), .v (.bool false)] (by kernel_rfl) ?_ ?_
                          · refine DI.sq 1 (by kernel_rfl) rfl ?_
                            refine .cons (.ld1 rfl rfl rfl (.at 0 rfl rfl)) ?_
                            refine DI.sq 2 (by kernel_rfl) rfl ?_
                            refine .cons (dv_quiet rfl (congrArg (fun t => some (Value.bool t)) c135b)) ?_
                            refine DI.sq 2 (by kernel_rfl) rfl ?_
                            refine .cons (.ld1 rfl rfl rfl (.at 0 rfl rfl)) ?_
                            refine DI.sq 3 (by kernel_rfl) rfl ?_
                            refine .cons (dv_quiet rfl (congrArg (fun t => some (Value.bool t)) c136b)) ?_
                            refine DI.sq 3 (by kernel_rfl) rfl ?_
                            refine .cons (.ld1 rfl rfl rfl (.at 0 rfl rfl)) ?_
                            refine DI.sq 2 (by kernel_rfl) rfl ?_
                            refine .cons (dv_quiet rfl (congrArg (fun t => some (Value.bool t)) c137b)) ?_
                            refine DI.sq 3 (by kernel_rfl) rfl ?_
                            refine .cons (.ld1 rfl rfl rfl (.at 0 rfl rfl)) ?_
                            refine DI.sq 3 (by kernel_rfl) rfl ?_
                            refine .cons (dv_quiet rfl (congrArg (fun t => some (Value.bool t)) c138b)) ?_
                            refine DI.sq 4 (by kernel_rfl) rfl ?_
                            refine .cons (dv_quiet rfl (congrArg (fun t => some (Value.bool (!t))) c139b)) ?_
                            refine DI.sq 2 (by kernel_rfl) rfl ?_
                            refine .cons (.ld1 rfl rfl rfl (.at 0 rfl rfl)) ?_
                            refine DI.sq 4 (by kernel_rfl) rfl ?_
                            refine .cons (.call (vs := [.int .i64 (Int.tmod A2 1000), .int .i64 (Int.tmod r3 1000), .int .i64 (wr64 (x129 - 1))]) rfl rfl (by kernel_rfl) (sweep_Sample.ok h149)) ?_
                            refine DI.sq 2 (by kernel_rfl) rfl ?_
                            refine .cons (dv_quiet rfl (congrArg (fun t => some (Value.bool (!t))) c150b)) ?_
                            refine DI.sq 4 (by kernel_rfl) rfl ?_
                            refine .cons (dv_quiet rfl (congrArg (fun t => some (Value.bool t)) c151b)) ?_
                            refine DI.sq 13 (by kernel_rfl) rfl ?_
                            exact .nil
                          refine fk_q 61 [0, 1, 2, 3, 4, 11, 12, 49, 50, 51, 52, 53, 54, 57, 58, 59, 60, 61, 64, 65, 66, 67, 68, 69, 72, 73, 74, 75, 76, 77, 78, 79, 80, 81, 82, 83, 84, 85, 86, 89, 90, 91, 92, 93, 94, 95, 96, 97, 98, 99, 100, 101, 102, 103] (σ' := [(0, .slice a_t0 t0.length c_t0), (1, .int .i64 o1), (2, .int .i64 (Int.tmod A2 1000)), (3, .int .i64 (Int.tmod r3 1000)), (4, .int .i64 (Int.tmod (wr64 ((Int.tmod r4 6) + 6)) 6)), (11, .bool true), (12, .int .i64 x129), (49, .pointer (some ⟨b134, 0, none⟩)), (50, .int .i64 t131), (51, .int .i64 (Int.tmod A2 1000)), (52, .int .i64 (wr64 ((Int.tmod A2 1000) * 256))), (53, .int .i64 (wr64 ((wr64 ((Int.tmod A2 1000) * 256)) + 256))), (54, .bool false), (57, .pointer (some ⟨b134, 1, none⟩)), (58, .int .i64 t132), (59, .int .i64 (Int.tmod r3 1000)), (60, .int .i64 (wr64 ((Int.tmod r3 1000) * 256))), (61, .bool false), (64, .pointer (some ⟨b134, 1, none⟩)), (65, .int .i64 t132), (66, .int .i64 (Int.tmod r3 1000)), (67, .int .i64 (wr64 ((Int.tmod r3 1000) * 256))), (68, .int .i64 (wr64 ((wr64 ((Int.tmod r3 1000) * 256)) + 256))), (69, .bool false), (72, .int .i64 x129), (73, .int .i64 (Int.tmod x129 8)), (74, .bool true), (75, .bool true), (76, .pointer (some ⟨b134, 0, none⟩)), (77, .int .i64 t131), (78, .int .i64 (Int.tmod A2 1000)), (79, .int .i64 (Int.tmod r3 1000)), (80, .int .i64 x129), (81, .int .i64 (wr64 (x129 - 1))), (82, .agg #[.int .i64 t147, .int .i64 t148]), (83, .int .i64 t147), (84, .int .i64 (wr64 (t131 - t147))), (85, .bool false), (86, .bool false), (89, .int .i64 x129), (90, .bool false), (91, .bool false), (92, .tuple #[]), (93, .tuple #[]), (94, .tuple #[]), (95, .tuple #[]), (96, .tuple #[]), (97, .tuple #[]), (98, .tuple #[]), (99, .tuple #[]), (100, .tuple #[]), (101, .tuple #[]), (102, .bool false), (103, .bool false)]) t_more (by kernel_rfl) ?_
                          refine fk_nil fun all => ?_
                          refine t_keep [0, 1, 2, 3, 4, 11, 12, 49, 50, 51, 52, 53, 54, 57, 58, 59, 60, 61, 64, 65, 66, 67, 68, 69, 72, 73, 74, 75, 76, 77, 78, 79, 80, 81, 82, 83, 84, 85, 86, 89, 90, 91, 92, 93, 94, 95, 96, 97, 98, 99, 100, 101, 102, 103] (σ' := [(0, .slice a_t0 t0.length c_t0), (1, .int .i64 o1), (2, .int .i64 (Int.tmod A2 1000)), (3, .int .i64 (Int.tmod r3 1000)), (4, .int .i64 (Int.tmod (wr64 ((Int.tmod r4 6) + 6)) 6)), (11, .bool true), (12, .int .i64 x129), (49, .pointer (some ⟨b134, 0, none⟩)), (50, .int .i64 t131), (51, .int .i64 (Int.tmod A2 1000)), (52, .int .i64 (wr64 ((Int.tmod A2 1000) * 256))), (53, .int .i64 (wr64 ((wr64 ((Int.tmod A2 1000) * 256)) + 256))), (54, .bool false), (57, .pointer (some ⟨b134, 1, none⟩)), (58, .int .i64 t132), (59, .int .i64 (Int.tmod r3 1000)), (60, .int .i64 (wr64 ((Int.tmod r3 1000) * 256))), (61, .bool false), (64, .pointer (some ⟨b134, 1, none⟩)), (65, .int .i64 t132), (66, .int .i64 (Int.tmod r3 1000)), (67, .int .i64 (wr64 ((Int.tmod r3 1000) * 256))), (68, .int .i64 (wr64 ((wr64 ((Int.tmod r3 1000) * 256)) + 256))), (69, .bool false), (72, .int .i64 x129), (73, .int .i64 (Int.tmod x129 8)), (74, .bool true), (75, .bool true), (76, .pointer (some ⟨b134, 0, none⟩)), (77, .int .i64 t131), (78, .int .i64 (Int.tmod A2 1000)), (79, .int .i64 (Int.tmod r3 1000)), (80, .int .i64 x129), (81, .int .i64 (wr64 (x129 - 1))), (82, .agg #[.int .i64 t147, .int .i64 t148]), (83, .int .i64 t147), (84, .int .i64 (wr64 (t131 - t147))), (85, .bool false), (86, .bool false), (89, .int .i64 x129), (90, .bool false), (91, .bool false), (92, .tuple #[]), (93, .tuple #[]), (94, .tuple #[]), (95, .tuple #[]), (96, .tuple #[]), (97, .tuple #[]), (98, .tuple #[]), (99, .tuple #[]), (100, .tuple #[]), (101, .tuple #[]), (102, .bool false), (103, .bool false)]) (by kernel_rfl) ?_
                          refine t_end ?_
                          show W _ _ _ _ _ _ _
                          refine w_cond rfl (fun c_ => by cases c_) (fun _ => ?_)
                          show W _ _ _ _ _ _ _
                          refine w_skip ?_
                          show W _ _ _ _ _ _ _
                          refine w_reg fun all => ?_
                          refine t_qz 3 [0, 1, 2, 3, 4, 11, 12, 49, 50, 51, 52, 53, 54, 57, 58, 59, 60, 61, 64, 65, 66, 67, 68, 69, 72, 73, 74, 75, 76, 77, 78, 79, 80, 81, 82, 83, 84, 85, 86, 89, 90, 91, 92, 93, 94, 95, 96, 97, 98, 99, 100, 101, 102] (σ' := [(0, .slice a_t0 t0.length c_t0), (1, .int .i64 o1), (2, .int .i64 (Int.tmod A2 1000)), (3, .int .i64 (Int.tmod r3 1000)), (4, .int .i64 (Int.tmod (wr64 ((Int.tmod r4 6) + 6)) 6)), (11, .bool true), (12, .int .i64 (wr64 (x129 + 1))), (49, .pointer (some ⟨b134, 0, none⟩)), (50, .int .i64 t131), (51, .int .i64 (Int.tmod A2 1000)), (52, .int .i64 (wr64 ((Int.tmod A2 1000) * 256))), (53, .int .i64 (wr64 ((wr64 ((Int.tmod A2 1000) * 256)) + 256))), (54, .bool false), (57, .pointer (some ⟨b134, 1, none⟩)), (58, .int .i64 t132), (59, .int .i64 (Int.tmod r3 1000)), (60, .int .i64 (wr64 ((Int.tmod r3 1000) * 256))), (61, .bool false), (64, .pointer (some ⟨b134, 1, none⟩)), (65, .int .i64 t132), (66, .int .i64 (Int.tmod r3 1000)), (67, .int .i64 (wr64 ((Int.tmod r3 1000) * 256))), (68, .int .i64 (wr64 ((wr64 ((Int.tmod r3 1000) * 256)) + 256))), (69, .bool false), (72, .int .i64 x129), (73, .int .i64 (Int.tmod x129 8)), (74, .bool true), (75, .bool true), (76, .pointer (some ⟨b134, 0, none⟩)), (77, .int .i64 t131), (78, .int .i64 (Int.tmod A2 1000)), (79, .int .i64 (Int.tmod r3 1000)), (80, .int .i64 x129), (81, .int .i64 (wr64 (x129 - 1))), (82, .agg #[.int .i64 t147, .int .i64 t148]), (83, .int .i64 t147), (84, .int .i64 (wr64 (t131 - t147))), (85, .bool false), (86, .bool false), (89, .int .i64 x129), (90, .bool false), (91, .bool false), (92, .tuple #[]), (93, .tuple #[]), (94, .tuple #[]), (95, .tuple #[]), (96, .tuple #[]), (97, .tuple #[]), (98, .tuple #[]), (99, .tuple #[]), (100, .tuple #[]), (101, .tuple #[]), (102, .bool false)]) (by kernel_rfl) ?_
                          refine t_end ?_
                          exact ⟨k_, Nat.lt_succ_self _, [(0, .slice a_t0 t0.length c_t0), (1, .int .i64 o1), (2, .int .i64 (Int.tmod A2 1000)), (3, .int .i64 (Int.tmod r3 1000)), (4, .int .i64 (Int.tmod (wr64 ((Int.tmod r4 6) + 6)) 6)), (11, .bool true), (12, .int .i64 (wr64 (x129 + 1)))], ([] : List Own), S, keep_sub [0, 1, 2, 3, 4, 11, 12] (by kernel_rfl), VS.sel [] (by kernel_rfl), wr64 (x129 + 1), rfl, rfl, rfl, e127⟩
                      · rw [if_neg c150] at e127
                        have c150b : ((wr64 (t131 - t147)) == 32) = false := beq_eq_false_iff_ne.mpr c150
                        refine w_drwE mixed 61 [.v (.pointer (some ⟨b134, 0, none⟩)), .v (.int .i64 t131), .v (.int .i64 (Int.tmod A2 1000)), .v (.int .i64 (wr64 ((Int.tmod A2 1000) * 256))), .v (.bool false), .v (.bool false), .v (.pointer (some ⟨b134, 0, none⟩)), .v (.int .i64 t131), .v (.int .i64 (Int.tmod A2 1000)), .v (.int .i64 (wr64 ((Int.tmod A2 1000) * 256))), .v (.int .i64 (wr64 ((wr64 ((Int.tmod A2 1000) * 256)) + 256))), .v (.bool false), .v (.bool false), .v (.bool false), .v (.pointer (some ⟨b134, 1, none⟩)), .v (.int .i64 t132), .v (.int .i64 (Int.tmod r3 1000)), .v (.int .i64 (wr64 ((Int.tmod r3 1000) * 256))), .v (.bool false), .v (.bool false), .v (.bool false), .v (.pointer (some ⟨b134, 1, none⟩)), .v (.int .i64 t132), .v (.int .i64 (Int.tmod r3 1000)), .v (.int .i64 (wr64 ((Int.tmod r3 1000) * 256))), .v (.int .i64 (wr64 ((wr64 ((Int.tmod r3 1000) * 256)) + 256))), .v (.bool false), .v (.bool false), .v (.bool false), .v (.int .i64 x129), .v (.int .i64 (Int.tmod x129 8)), .v (.bool true), .v (.bool true), .v (.pointer (some ⟨b134, 0, none⟩)), .v (.int .i64 t131), .v (.int .i64 (Int.tmod A2 1000)), .v (.int .i64 (Int.tmod r3 1000)), .v (.int .i64 x129), .v (.int .i64 (wr64 (x129 - 1))), .v (.agg #[.int .i64 t147, .int .i64 t148]), .v (.int .i64 t147), .v (.int .i64 (wr64 (t131 - t147))), .v (.bool true), .v (.bool true), .v (.bool true), .v (.bool true), .v (.tuple #[]), .v (.tuple #[]), .v (.tuple #[]), .v (.tuple #[]), .v (.tuple #[]), .v (.tuple #[]), .v (.tuple #[]), .v (.tuple #[]), .v (.tuple #[]), .v (.tuple #[]), .v (.tuple #[]), .v (.tuple #[]), .v (.tuple #[]), .v (.tuple #[]), .v (.bool true)] (by kernel_rfl) ?_ ?_
                        · refine DI.sq 1 (by kernel_rfl) rfl ?_
                          refine .cons (.ld1 rfl rfl rfl (.at 0 rfl rfl)) ?_
                          refine DI.sq 2 (by kernel_rfl) rfl ?_
                          refine .cons (dv_quiet rfl (congrArg (fun t => some (Value.bool t)) c135b)) ?_
                          refine DI.sq 2 (by kernel_rfl) rfl ?_
                          refine .cons (.ld1 rfl rfl rfl (.at 0 rfl rfl)) ?_
                          refine DI.sq 3 (by kernel_rfl) rfl ?_
                          refine .cons (dv_quiet rfl (congrArg (fun t => some (Value.bool t)) c136b)) ?_
                          refine DI.sq 3 (by kernel_rfl) rfl ?_
                          refine .cons (.ld1 rfl rfl rfl (.at 0 rfl rfl)) ?_
                          refine DI.sq 2 (by kernel_rfl) rfl ?_
                          refine .cons (dv_quiet rfl (congrArg (fun t => some (Value.bool t)) c137b)) ?_
                          refine DI.sq 3 (by kernel_rfl) rfl ?_
                          refine .cons (.ld1 rfl rfl rfl (.at 0 rfl rfl)) ?_
                          refine DI.sq 3 (by kernel_rfl) rfl ?_
                          refine .cons (dv_quiet rfl (congrArg (fun t => some (Value.bool t)) c138b)) ?_
                          refine DI.sq 4 (by kernel_rfl) rfl ?_
                          refine .cons (dv_quiet rfl (congrArg (fun t => some (Value.bool (!t))) c139b)) ?_
                          refine DI.sq 2 (by kernel_rfl) rfl ?_
                          refine .cons (.ld1 rfl rfl rfl (.at 0 rfl rfl)) ?_
                          refine DI.sq 4 (by kernel_rfl) rfl ?_
                          refine .cons (.call (vs := [.int .i64 (Int.tmod A2 1000), .int .i64 (Int.tmod r3 1000), .int .i64 (wr64 (x129 - 1))]) rfl rfl (by kernel_rfl) (sweep_Sample.ok h149)) ?_
                          refine DI.sq 2 (by kernel_rfl) rfl ?_
                          refine .cons (dv_quiet rfl (congrArg (fun t => some (Value.bool (!t))) c150b)) ?_
                          refine DI.sq 18 (by kernel_rfl) rfl ?_
                          exact .nil
                        refine fk_q 61 [0, 1, 2, 3, 4, 11, 12, 49, 50, 51, 52, 53, 54, 57, 58, 59, 60, 61, 64, 65, 66, 67, 68, 69, 72, 73, 74, 75, 76, 77, 78, 79, 80, 81, 82, 83, 84, 85, 86, 89, 90, 91, 92, 93, 94, 95, 96, 97, 98, 99, 100, 101, 102, 103] (σ' := [(0, .slice a_t0 t0.length c_t0), (1, .int .i64 o1), (2, .int .i64 (Int.tmod A2 1000)), (3, .int .i64 (Int.tmod r3 1000)), (4, .int .i64 (Int.tmod (wr64 ((Int.tmod r4 6) + 6)) 6)), (11, .bool true), (12, .int .i64 x129), (49, .pointer (some ⟨b134, 0, none⟩)), (50, .int .i64 t131), (51, .int .i64 (Int.tmod A2 1000)), (52, .int .i64 (wr64 ((Int.tmod A2 1000) * 256))), (53, .int .i64 (wr64 ((wr64 ((Int.tmod A2 1000) * 256)) + 256))), (54, .bool false), (57, .pointer (some ⟨b134, 1, none⟩)), (58, .int .i64 t132), (59, .int .i64 (Int.tmod r3 1000)), (60, .int .i64 (wr64 ((Int.tmod r3 1000) * 256))), (61, .bool false), (64, .pointer (some ⟨b134, 1, none⟩)), (65, .int .i64 t132), (66, .int .i64 (Int.tmod r3 1000)), (67, .int .i64 (wr64 ((Int.tmod r3 1000) * 256))), (68, .int .i64 (wr64 ((wr64 ((Int.tmod r3 1000) * 256)) + 256))), (69, .bool false), (72, .int .i64 x129), (73, .int .i64 (Int.tmod x129 8)), (74, .bool true), (75, .bool true), (76, .pointer (some ⟨b134, 0, none⟩)), (77, .int .i64 t131), (78, .int .i64 (Int.tmod A2 1000)), (79, .int .i64 (Int.tmod r3 1000)), (80, .int .i64 x129), (81, .int .i64 (wr64 (x129 - 1))), (82, .agg #[.int .i64 t147, .int .i64 t148]), (83, .int .i64 t147), (84, .int .i64 (wr64 (t131 - t147))), (85, .bool true), (86, .bool true), (89, .tuple #[]), (90, .tuple #[]), (91, .tuple #[]), (92, .tuple #[]), (93, .tuple #[]), (94, .tuple #[]), (95, .tuple #[]), (96, .tuple #[]), (97, .tuple #[]), (98, .tuple #[]), (99, .tuple #[]), (100, .tuple #[]), (101, .tuple #[]), (102, .tuple #[]), (103, .bool true)]) t_more (by kernel_rfl) ?_
                        refine fk_nil fun all => ?_
                        refine t_keep [0, 1, 2, 3, 4, 11, 12, 49, 50, 51, 52, 53, 54, 57, 58, 59, 60, 61, 64, 65, 66, 67, 68, 69, 72, 73, 74, 75, 76, 77, 78, 79, 80, 81, 82, 83, 84, 85, 86, 89, 90, 91, 92, 93, 94, 95, 96, 97, 98, 99, 100, 101, 102, 103] (σ' := [(0, .slice a_t0 t0.length c_t0), (1, .int .i64 o1), (2, .int .i64 (Int.tmod A2 1000)), (3, .int .i64 (Int.tmod r3 1000)), (4, .int .i64 (Int.tmod (wr64 ((Int.tmod r4 6) + 6)) 6)), (11, .bool true), (12, .int .i64 x129), (49, .pointer (some ⟨b134, 0, none⟩)), (50, .int .i64 t131), (51, .int .i64 (Int.tmod A2 1000)), (52, .int .i64 (wr64 ((Int.tmod A2 1000) * 256))), (53, .int .i64 (wr64 ((wr64 ((Int.tmod A2 1000) * 256)) + 256))), (54, .bool false), (57, .pointer (some ⟨b134, 1, none⟩)), (58, .int .i64 t132), (59, .int .i64 (Int.tmod r3 1000)), (60, .int .i64 (wr64 ((Int.tmod r3 1000) * 256))), (61, .bool false), (64, .pointer (some ⟨b134, 1, none⟩)), (65, .int .i64 t132), (66, .int .i64 (Int.tmod r3 1000)), (67, .int .i64 (wr64 ((Int.tmod r3 1000) * 256))), (68, .int .i64 (wr64 ((wr64 ((Int.tmod r3 1000) * 256)) + 256))), (69, .bool false), (72, .int .i64 x129), (73, .int .i64 (Int.tmod x129 8)), (74, .bool true), (75, .bool true), (76, .pointer (some ⟨b134, 0, none⟩)), (77, .int .i64 t131), (78, .int .i64 (Int.tmod A2 1000)), (79, .int .i64 (Int.tmod r3 1000)), (80, .int .i64 x129), (81, .int .i64 (wr64 (x129 - 1))), (82, .agg #[.int .i64 t147, .int .i64 t148]), (83, .int .i64 t147), (84, .int .i64 (wr64 (t131 - t147))), (85, .bool true), (86, .bool true), (89, .tuple #[]), (90, .tuple #[]), (91, .tuple #[]), (92, .tuple #[]), (93, .tuple #[]), (94, .tuple #[]), (95, .tuple #[]), (96, .tuple #[]), (97, .tuple #[]), (98, .tuple #[]), (99, .tuple #[]), (100, .tuple #[]), (101, .tuple #[]), (102, .tuple #[]), (103, .bool true)]) (by kernel_rfl) ?_
                        refine t_end ?_
                        show W _ _ _ _ _ _ _
                        refine w_cond rfl (fun _ => ?_) (fun c_ => by cases c_)
                        show W _ _ _ _ _ _ _
                        refine w_seq ?_
                        refine w_reg fun all => ?_
                        refine t_qz 1 [10] (σ' := [(10, .bool false)]) (by kernel_rfl) ?_
                        refine t_end ?_
                        show W _ _ _ _ _ _ _
                        refine w_ret ?_
                        obtain rfl := Option.some.inj e127
                        have hr_ := Option.some.inj e
                        exact ⟨[.bool false], [], S, ⟨rfl, trivial⟩, VS.none, congrArg Value.bool hr_, rfl, rfl⟩
          · rw [if_neg c130] at e127
            have c130b : (decide (x129 < 64)) = false := decide_eq_false c130
            refine t_qz 1 [0, 1, 2, 3, 4, 11, 12, 35] (σ' := [(0, .slice a_t0 t0.length c_t0), (1, .int .i64 o1), (2, .int .i64 (Int.tmod A2 1000)), (3, .int .i64 (Int.tmod r3 1000)), (4, .int .i64 (Int.tmod (wr64 ((Int.tmod r4 6) + 6)) 6)), (11, .bool true), (12, .int .i64 x129), (35, .int .i64 x129)]) (by kernel_rfl) ?_
            refine t_v (dv_quiet rfl (congrArg (fun t => some (Value.bool t)) c130b)) ?_
            refine t_keep [0, 1, 2, 3, 4, 11, 12, 36] (σ' := [(0, .slice a_t0 t0.length c_t0), (1, .int .i64 o1), (2, .int .i64 (Int.tmod A2 1000)), (3, .int .i64 (Int.tmod r3 1000)), (4, .int .i64 (Int.tmod (wr64 ((Int.tmod r4 6) + 6)) 6)), (11, .bool true), (12, .int .i64 x129), (36, .bool false)]) (by kernel_rfl) ?_
            refine t_end ?_
            show W _ _ _ _ _ _ _
            refine w_cond rfl (fun c_ => by cases c_) (fun _ => ?_)
            show W _ _ _ _ _ _ _
            refine w_exit ?_
            obtain rfl := Option.some.inj e127
            exact ⟨([] : List Own), S, VS.sel [] (by kernel_rfl), Int.tmod (wr64 ((Int.tmod r4 6) + 6)) 6, true, rfl, by kernel_rfl, rfl, rfl⟩
      · rintro σ_ H_ S_ ⟨x159, x160, rfl, rfl, rfl, rfl⟩
        dsimp only at e
        refine w_seq ?_
        refine w_reg fun all => ?_
        refine t_qz 2 [1, 4, 11, 105] (σ' := [(1, .int .i64 o1), (4, .int .i64 x159), (11, .bool x160), (105, .agg #[.slice a_t0 t0.length c_t0, .int .i64 0])]) (by kernel_rfl) ?_
        refine t_a (.box rfl rfl rfl) fun b161 fb161 sb161 => ?_
        refine t_qz 1 [1, 4, 11, 14] (σ' := [(1, .int .i64 o1), (4, .int .i64 x159), (11, .bool x160), (14, .pointer (some ⟨b161, 0, none⟩))]) (by kernel_rfl) ?_
        refine t_end ?_
        show W _ _ _ _ _ _ _
        refine w_seq ?_
        refine w_reg fun all => ?_
        obtain ⟨⟨t290, t291⟩, h292, e⟩ := bind_of e
        try dsimp only at e
        refine t_qz 1 [1, 4, 11, 107] (σ' := [(1, .int .i64 o1), (4, .int .i64 x159), (11, .bool x160), (107, .pointer (some ⟨b161, 0, none⟩))]) (by kernel_rfl) ?_
        refine t_call (vs := [.pointer (some ⟨b161, 0, none⟩), .int .i64 9, .int .i64 900]) (H1 := ([⟨b161, [.slice a_t0 t0.length c_t0, .int .i64 0], 2⟩] : List Own)) (F := ([] : List Own)) rfl rfl (by kernel_rfl) (sel_perm (is := [0]) (by kernel_rfl)) (glyphicmake_Ring_v1.ok h_t0 h292) ?_
        rintro _ _ S_ ⟨N293, nN293, rfl, rfl, hS_⟩
        obtain rfl := hS_.symm
        refine t_qz 1 [1, 4, 11, 15] (σ' := [(1, .int .i64 o1), (4, .int .i64 x159), (11, .bool x160), (15, .slice (ad N293) t290.length (nN293 / 4))]) (by kernel_rfl) ?_
        refine t_end ?_
        show W _ _ _ _ _ _ _
        refine w_seq ?_
        refine w_reg fun all => ?_
        obtain ⟨t294, h295, e⟩ := bind_of e
        refine t_qz 4 [1, 4, 11, 15, 109, 111, 112] (σ' := [(1, .int .i64 o1), (4, .int .i64 x159), (11, .bool x160), (15, .slice (ad N293) t290.length (nN293 / 4)), (109, .slice (ad N293) t290.length (nN293 / 4)), (111, .int .i64 (bits .and .i64 o1 1)), (112, .int .i64 x159)]) (by kernel_rfl) ?_
        refine t_call (vs := [.slice (ad N293) t290.length (nN293 / 4), .int .i64 (bits .and .i64 o1 1), .int .i64 1, .int .i64 x159]) (H1 := ([⟨N293, encL E_i644 t290, nN293⟩] : List Own)) (F := ([⟨b161, [.slice a_t0 t0.length c_t0, .int .i64 t291], 2⟩] : List Own)) rfl rfl (by kernel_rfl) (sel_perm (is := [0]) (by kernel_rfl)) (cal_lend (Qc := fun v_ H_ => ∃ (N296 : Option Nat) (nN296 : Nat), v_ = (.slice (ad N296) t294.length (nN296 / 1)) ∧ H_ = ([⟨N296, encL E_u64 t294, nN296⟩] : List Own)) fun S1_ le1_ hS1_ => (sweep_Fill_v1.ok (SlE.ofAd (E := E_i644) (L := t290) hS1_ (by decide)) h295).mono fun _ _ _ ⟨N296, nN296, h1_, h2_, h3_⟩ => ⟨⟨N296, nN296, h1_, h2_⟩, h3_⟩) ?_
        rintro _ _ S_ ⟨⟨_, rfl, ⟨N296, nN296, rfl, rfl⟩⟩, hS_⟩
        obtain rfl := hS_.symm
        refine t_qz 1 [1, 4, 11, 15, 16] (σ' := [(1, .int .i64 o1), (4, .int .i64 x159), (11, .bool x160), (15, .slice (ad N293) t290.length (nN293 / 4)), (16, .slice (ad N296) t294.length (nN296 / 1))]) (by kernel_rfl) ?_
        refine t_end ?_
        show W _ _ _ _ _ _ _
        refine w_seq ?_
        refine w_reg fun all => ?_
        obtain ⟨t297, h298, e⟩ := bind_of e
        refine t_qz 5 [4, 11, 15, 16, 114, 116, 118] (σ' := [(4, .int .i64 x159), (11, .bool x160), (15, .slice (ad N293) t290.length (nN293 / 4)), (16, .slice (ad N296) t294.length (nN296 / 1)), (114, .slice (ad N293) t290.length (nN293 / 4)), (116, .int .i64 (bits .and .i64 o1 1)), (118, .int .i64 (wr64 (x159 + 3)))]) (by kernel_rfl) ?_
        refine t_call (vs := [.slice (ad N293) t290.length (nN293 / 4), .int .i64 (bits .and .i64 o1 1), .int .i64 1, .int .i64 (wr64 (x159 + 3))]) (H1 := ([⟨N293, encL E_i644 t290, nN293⟩] : List Own)) (F := ([⟨N296, encL E_u64 t294, nN296⟩, ⟨b161, [.slice a_t0 t0.length c_t0, .int .i64 t291], 2⟩] : List Own)) rfl rfl (by kernel_rfl) (sel_perm (is := [0]) (by kernel_rfl)) (cal_lend (Qc := fun v_ H_ => ∃ (N299 : Option Nat) (nN299 : Nat), v_ = (.slice (ad N299) t297.length (nN299 / 1)) ∧ H_ = ([⟨N299, encL E_u64 t297, nN299⟩] : List Own)) fun S1_ le1_ hS1_ => (sweep_Fill_v1.ok (SlE.ofAd (E := E_i644) (L := t290) hS1_ (by decide)) h298).mono fun _ _ _ ⟨N299, nN299, h1_, h2_, h3_⟩ => ⟨⟨N299, nN299, h1_, h2_⟩, h3_⟩) ?_
        rintro _ _ S_ ⟨⟨_, rfl, ⟨N299, nN299, rfl, rfl⟩⟩, hS_⟩
        obtain rfl := hS_.symm
        refine t_qz 1 [4, 11, 15, 16, 17] (σ' := [(4, .int .i64 x159), (11, .bool x160), (15, .slice (ad N293) t290.length (nN293 / 4)), (16, .slice (ad N296) t294.length (nN296 / 1)), (17, .slice (ad N299) t297.length (nN299 / 1))]) (by kernel_rfl) ?_
        refine t_end ?_
        show W _ _ _ _ _ _ _
        refine w_seq ?_
        refine w_reg fun all => ?_
        obtain ⟨t410, h411, e⟩ := bind_of e
        refine t_qz 2 [4, 11, 15, 16, 17, 120, 121] (σ' := [(4, .int .i64 x159), (11, .bool x160), (15, .slice (ad N293) t290.length (nN293 / 4)), (16, .slice (ad N296) t294.length (nN296 / 1)), (17, .slice (ad N299) t297.length (nN299 / 1)), (120, .slice (ad N293) t290.length (nN293 / 4)), (121, .int .i64 x159)]) (by kernel_rfl) ?_
        refine t_call (vs := [.slice (ad N293) t290.length (nN293 / 4), .int .i64 77, .int .i64 0, .int .i64 x159]) (H1 := ([⟨N293, encL E_i644 t290, nN293⟩] : List Own)) (F := ([⟨N299, encL E_u64 t297, nN299⟩, ⟨N296, encL E_u64 t294, nN296⟩, ⟨b161, [.slice a_t0 t0.length c_t0, .int .i64 t291], 2⟩] : List Own)) rfl rfl (by kernel_rfl) (sel_perm (is := [0]) (by kernel_rfl)) (cal_lend (Qc := fun v_ H_ => ∃ (N412 : Option Nat) (nN412 : Nat), v_ = (.slice (ad N412) t410.length (nN412 / 1)) ∧ H_ = ([⟨N412, encL E_u64 t410, nN412⟩] : List Own)) fun S1_ le1_ hS1_ => (sweep_Line_v1.ok (SlE.ofAd (E := E_i644) (L := t290) hS1_ (by decide)) h411).mono fun _ _ _ ⟨N412, nN412, h1_, h2_, h3_⟩ => ⟨⟨N412, nN412, h1_, h2_⟩, h3_⟩) ?_
        rintro _ _ S_ ⟨⟨_, rfl, ⟨N412, nN412, rfl, rfl⟩⟩, hS_⟩
        obtain rfl := hS_.symm
        refine t_qz 1 [4, 11, 15, 16, 17, 18] (σ' := [(4, .int .i64 x159), (11, .bool x160), (15, .slice (ad N293) t290.length (nN293 / 4)), (16, .slice (ad N296) t294.length (nN296 / 1)), (17, .slice (ad N299) t297.length (nN299 / 1)), (18, .slice (ad N412) t410.length (nN412 / 1))]) (by kernel_rfl) ?_
        refine t_end ?_
        show W _ _ _ _ _ _ _
        refine w_seq ?_
        refine w_reg fun all => ?_
        obtain ⟨t413, h414, e⟩ := bind_of e
        refine t_qz 3 [4, 11, 15, 16, 17, 18, 123, 125] (σ' := [(4, .int .i64 x159), (11, .bool x160), (15, .slice (ad N293) t290.length (nN293 / 4)), (16, .slice (ad N296) t294.length (nN296 / 1)), (17, .slice (ad N299) t297.length (nN299 / 1)), (18, .slice (ad N412) t410.length (nN412 / 1)), (123, .slice (ad N293) t290.length (nN293 / 4)), (125, .int .i64 (wr64 (x159 + 3)))]) (by kernel_rfl) ?_
        refine t_call (vs := [.slice (ad N293) t290.length (nN293 / 4), .int .i64 77, .int .i64 0, .int .i64 (wr64 (x159 + 3))]) (H1 := ([⟨N293, encL E_i644 t290, nN293⟩] : List Own)) (F := ([⟨N412, encL E_u64 t410, nN412⟩, ⟨N299, encL E_u64 t297, nN299⟩, ⟨N296, encL E_u64 t294, nN296⟩, ⟨b161, [.slice a_t0 t0.length c_t0, .int .i64 t291], 2⟩] : List Own)) rfl rfl (by kernel_rfl) (sel_perm (is := [0]) (by kernel_rfl)) (cal_lend (Qc := fun v_ H_ => ∃ (N415 : Option Nat) (nN415 : Nat), v_ = (.slice (ad N415) t413.length (nN415 / 1)) ∧ H_ = ([⟨N415, encL E_u64 t413, nN415⟩] : List Own)) fun S1_ le1_ hS1_ => (sweep_Line_v1.ok (SlE.ofAd (E := E_i644) (L := t290) hS1_ (by decide)) h414).mono fun _ _ _ ⟨N415, nN415, h1_, h2_, h3_⟩ => ⟨⟨N415, nN415, h1_, h2_⟩, h3_⟩) ?_
        rintro _ _ S_ ⟨⟨_, rfl, ⟨N415, nN415, rfl, rfl⟩⟩, hS_⟩
        obtain rfl := hS_.symm
        refine t_qz 1 [4, 11, 15, 16, 17, 18, 19] (σ' := [(4, .int .i64 x159), (11, .bool x160), (15, .slice (ad N293) t290.length (nN293 / 4)), (16, .slice (ad N296) t294.length (nN296 / 1)), (17, .slice (ad N299) t297.length (nN299 / 1)), (18, .slice (ad N412) t410.length (nN412 / 1)), (19, .slice (ad N415) t413.length (nN415 / 1))]) (by kernel_rfl) ?_
        refine t_end ?_
        show W _ _ _ _ _ _ _
        refine w_seq ?_
        refine w_reg fun all => ?_
        by_cases c416 : x160 = true
        · rw [if_pos c416] at e
          have c416b : x160 = true := c416
          refine t_v (dv_quiet rfl (congrArg (fun t => some (Value.bool t)) c416b)) ?_
          by_cases c417 : (t294.length : Int) = x159
          · rw [if_pos c417] at e
            have c417b : ((t294.length : Int) == x159) = true := beq_iff_eq.mpr c417
            refine t_qz 4 [4, 15, 16, 17, 18, 19, 128, 130, 131] (σ' := [(4, .int .i64 x159), (15, .slice (ad N293) t290.length (nN293 / 4)), (16, .slice (ad N296) t294.length (nN296 / 1)), (17, .slice (ad N299) t297.length (nN299 / 1)), (18, .slice (ad N412) t410.length (nN412 / 1)), (19, .slice (ad N415) t413.length (nN415 / 1)), (128, .bool true), (130, .int .i64 (t294.length : Int)), (131, .int .i64 x159)]) (by kernel_rfl) ?_
            refine t_v (dv_quiet rfl (congrArg (fun t => some (Value.bool t)) c417b)) ?_
            by_cases c418 : (t410.length : Int) = x159
            · rw [if_pos c418] at e
              have c418b : ((t410.length : Int) == x159) = true := beq_iff_eq.mpr c418
              refine t_qz 5 [4, 15, 16, 17, 18, 19, 134, 136, 137] (σ' := [(4, .int .i64 x159), (15, .slice (ad N293) t290.length (nN293 / 4)), (16, .slice (ad N296) t294.length (nN296 / 1)), (17, .slice (ad N299) t297.length (nN299 / 1)), (18, .slice (ad N412) t410.length (nN412 / 1)), (19, .slice (ad N415) t413.length (nN415 / 1)), (134, .bool true), (136, .int .i64 (t410.length : Int)), (137, .int .i64 x159)]) (by kernel_rfl) ?_
              refine t_v (dv_quiet rfl (congrArg (fun t => some (Value.bool t)) c418b)) ?_
              by_cases c419 : (t297.length : Int) = (wr64 (x159 + 3))
              · rw [if_pos c419] at e
                have c419b : ((t297.length : Int) == (wr64 (x159 + 3))) = true := beq_iff_eq.mpr c419
                refine t_qz 6 [4, 15, 16, 17, 18, 19, 140, 142, 144] (σ' := [(4, .int .i64 x159), (15, .slice (ad N293) t290.length (nN293 / 4)), (16, .slice (ad N296) t294.length (nN296 / 1)), (17, .slice (ad N299) t297.length (nN299 / 1)), (18, .slice (ad N412) t410.length (nN412 / 1)), (19, .slice (ad N415) t413.length (nN415 / 1)), (140, .bool true), (142, .int .i64 (t297.length : Int)), (144, .int .i64 (wr64 (x159 + 3)))]) (by kernel_rfl) ?_
                refine t_v (dv_quiet rfl (congrArg (fun t => some (Value.bool t)) c419b)) ?_
                by_cases c420 : (t413.length : Int) = (wr64 (x159 + 3))
                · rw [if_pos c420] at e
                  have c420b : ((t413.length : Int) == (wr64 (x159 + 3))) = true := beq_iff_eq.mpr c420
                  refine t_qz 6 [4, 15, 16, 17, 18, 19, 147, 149, 151] (σ' := [(4, .int .i64 x159), (15, .slice (ad N293) t290.length (nN293 / 4)), (16, .slice (ad N296) t294.length (nN296 / 1)), (17, .slice (ad N299) t297.length (nN299 / 1)), (18, .slice (ad N412) t410.length (nN412 / 1)), (19, .slice (ad N415) t413.length (nN415 / 1)), (147, .bool true), (149, .int .i64 (t413.length : Int)), (151, .int .i64 (wr64 (x159 + 3)))]) (by kernel_rfl) ?_
                  refine t_v (dv_quiet rfl (congrArg (fun t => some (Value.bool t)) c420b)) ?_
                  obtain ⟨y421, hl422, e⟩ := bind_of e
                  first | refine t_pure (fun w_ h_ => HOK.le h_ (j := 3) rfl) fun hM_ => ?_ | refine w_pure (fun w_ h_ => HOK.le h_ (j := 3) rfl) fun hM_ => ?_
                  obtain ⟨q423, c424, hv426, hq425⟩ := cutN (E := E_u64) (z := 1) rfl (by decide) hM_ hl422
                  refine t_qz 5 [4, 15, 18, 19, 154, 155, 156, 157] (σ' := [(4, .int .i64 x159), (15, .slice (ad N293) t290.length (nN293 / 4)), (18, .slice (ad N412) t410.length (nN412 / 1)), (19, .slice (ad N415) t413.length (nN415 / 1)), (154, .bool true), (155, .slice (ad N296) t294.length (nN296 / 1)), (156, .slice (ad N299) t297.length (nN299 / 1)), (157, .int .i64 x159)]) (by kernel_rfl) ?_
                  refine t_v (.quietH rfl (by intro h_; cases h_) (hq425 (j := 3) rfl .no (.is rfl) rfl)) ?_
                  obtain ⟨t457, h458, e⟩ := bind_of e
                  cases t457 with
                  | true =>
                    rw [if_pos rfl] at e
                    refine t_v (.callr (vs := [.slice (ad N296) t294.length (nN296 / 1), .slice (some ⟨bk N299, q423, none⟩) y421.length c424]) (A := ([⟨N296, encL E_u64 t294, nN296⟩, ⟨N299, encL E_u64 t297, nN299⟩] : List Own)) (F0 := ([⟨N293, encL E_i644 t290, nN293⟩, ⟨N415, encL E_u64 t413, nN415⟩, ⟨N412, encL E_u64 t410, nN412⟩, ⟨b161, [.slice a_t0 t0.length c_t0, .int .i64 t291], 2⟩] : List Own)) rfl rfl (by kernel_rfl) (sel_perm (is := [4, 3]) (by kernel_rfl)) (cal_lendr fun S1_ le1_ hS1_ => (cal_lendr fun S2_ le2_ hS2_ => (glyphicref_SameMasks_v1.ok (SlE.mono (SlE.ofAd (E := E_u64) (L := t294) hS1_ (by decide)) le2_) (SlE.of hv426 (by decide) hS2_) h458)))) ?_
                    obtain ⟨y459, hl460, e⟩ := bind_of e
                    first | refine t_pure (fun w_ h_ => HOK.le h_ (j := 1) rfl) fun hM_ => ?_ | refine w_pure (fun w_ h_ => HOK.le h_ (j := 1) rfl) fun hM_ => ?_
                    obtain ⟨q461, c462, hv464, hq463⟩ := cutN (E := E_u64) (z := 1) rfl (by decide) hM_ hl460
                    refine t_qz 5 [15, 161, 162, 163, 164] (σ' := [(15, .slice (ad N293) t290.length (nN293 / 4)), (161, .bool true), (162, .slice (ad N412) t410.length (nN412 / 1)), (163, .slice (ad N415) t413.length (nN415 / 1)), (164, .int .i64 x159)]) (by kernel_rfl) ?_
                    refine t_v (.quietH rfl (by intro h_; cases h_) (hq463 (j := 1) rfl .no (.is rfl) rfl)) ?_
                    obtain ⟨t465, h466, e⟩ := bind_of e
                    cases t465 with
                    | true =>
                      rw [if_pos rfl] at e
                      refine t_v (.callr (vs := [.slice (ad N412) t410.length (nN412 / 1), .slice (some ⟨bk N415, q461, none⟩) y459.length c462]) (A := ([⟨N412, encL E_u64 t410, nN412⟩, ⟨N415, encL E_u64 t413, nN415⟩] : List Own)) (F0 := ([⟨N293, encL E_i644 t290, nN293⟩, ⟨N299, encL E_u64 t297, nN299⟩, ⟨N296, encL E_u64 t294, nN296⟩, ⟨b161, [.slice a_t0 t0.length c_t0, .int .i64 t291], 2⟩] : List Own)) rfl rfl (by kernel_rfl) (sel_perm (is := [2, 1]) (by kernel_rfl)) (cal_lendr fun S1_ le1_ hS1_ => (cal_lendr fun S2_ le2_ hS2_ => (glyphicref_SameMasks_v1.ok (SlE.mono (SlE.ofAd (E := E_u64) (L := t410) hS1_ (by decide)) le2_) (SlE.of hv464 (by decide) hS2_) h466)))) ?_
                      obtain ⟨t467, h468, e⟩ := bind_of e
                      refine t_qz 3 [168, 169] (σ' := [(168, .bool true), (169, .slice (ad N293) t290.length (nN293 / 4))]) (by kernel_rfl) ?_
                      refine t_call (vs := [.slice (ad N293) t290.length (nN293 / 4), .int .i64 0, .int .i64 0, .int .i64 (-1)]) (H1 := ([⟨N293, encL E_i644 t290, nN293⟩] : List Own)) (F := ([⟨N415, encL E_u64 t413, nN415⟩, ⟨N412, encL E_u64 t410, nN412⟩, ⟨N299, encL E_u64 t297, nN299⟩, ⟨N296, encL E_u64 t294, nN296⟩, ⟨b161, [.slice a_t0 t0.length c_t0, .int .i64 t291], 2⟩] : List Own)) rfl rfl (by kernel_rfl) (sel_perm (is := [0]) (by kernel_rfl)) (cal_lend (Qc := fun v_ H_ => ∃ (N469 : Option Nat) (nN469 : Nat), v_ = (.slice (ad N469) t467.length (nN469 / 1)) ∧ H_ = ([⟨N469, encL E_u64 t467, nN469⟩] : List Own)) fun S1_ le1_ hS1_ => (sweep_Fill_v1.ok (SlE.ofAd (E := E_i644) (L := t290) hS1_ (by decide)) h468).mono fun _ _ _ ⟨N469, nN469, h1_, h2_, h3_⟩ => ⟨⟨N469, nN469, h1_, h2_⟩, h3_⟩) ?_
                      rintro _ _ S_ ⟨⟨_, rfl, ⟨N469, nN469, rfl, rfl⟩⟩, hS_⟩
                      obtain rfl := hS_.symm
                      refine t_qz 4 [10] (σ' := [(10, .bool ((t467.length : Int) == 0))]) (by kernel_rfl) ?_
                      refine t_end ?_
                      show W _ _ _ _ _ _ _
                      refine w_ret ?_
                      have hr_ := Option.some.inj e
                      exact ⟨[.bool ((t467.length : Int) == 0)], [], S, ⟨rfl, trivial⟩, VS.none, congrArg Value.bool hr_, rfl, rfl⟩
                    | false =>
                      rw [if_neg (by decide)] at e
                      exact absurd (Option.some.inj e) (by decide)
                  | false =>
                    rw [if_neg (by decide)] at e
                    exact absurd (Option.some.inj e) (by decide)
                · rw [if_neg c420] at e
                  exact absurd (Option.some.inj e) (by decide)
              · rw [if_neg c419] at e
                exact absurd (Option.some.inj e) (by decide)
            · rw [if_neg c418] at e
              exact absurd (Option.some.inj e) (by decide)
          · rw [if_neg c417] at e
            exact absurd (Option.some.inj e) (by decide)
        · rw [if_neg c416] at e
          exact absurd (Option.some.inj e) (by decide)
  | false =>
    rw [if_neg (by decide)] at e
    exact absurd (Option.some.inj e) (by decide)

def glyphiclaw24_SweepRows.Pure : Prop := ∀ (t0 : List (Int)) (o1 : Int) (A2 : Int) (r3 : Int) (r4 : Int), (Lit.int .i64 o1).wf = true → (Lit.int .i64 A2).wf = true → (Lit.int .i64 r3).wf = true → (Lit.int .i64 r4).wf = true → ∃ k, glyphiclaw24_SweepRows.f k t0 o1 A2 r3 r4 = some true
theorem glyphiclaw24_SweepRows.walk (P : glyphiclaw24_SweepRows.Pure) (t0 : List (Int)) (o1 : Int) (A2 : Int) (r3 : Int) (r4 : Int) (w : World) {S : Seal} (hS : HOK [] S w) {a_t0 : Option Addr} {c_t0 : Nat} (h_t0 : SlI S .i64 t0 a_t0) (ho1 : (Lit.int .i64 o1).wf = true) (hA2 : (Lit.int .i64 A2).wf = true) (hr3 : (Lit.int .i64 r3).wf = true) (hr4 : (Lit.int .i64 r4).wf = true) :
    Calls Try.prog 12 #[.slice a_t0 t0.length c_t0, .int .i64 o1, .int .i64 A2, .int .i64 r3, .int .i64 r4] w fun e w' => e = .returned (.bool true) ∧ Below w.heap.size w w' := let ⟨k, h⟩ := P t0 o1 A2 r3 r4 ho1 hA2 hr3 hr4; law_w hS (glyphiclaw24_SweepRows.ok (SlI.e h_t0) (k := k) h)
end Go.Proofs.Ytpimfacaalkmdaa.QSweepRows
