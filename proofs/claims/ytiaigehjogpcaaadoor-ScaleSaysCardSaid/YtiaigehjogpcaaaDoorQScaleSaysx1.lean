/- Functions of the program as Lean functions, each with the proof of its walk. Written by gen.py, a program of these sessions. -/
import Derived.Test.YtiaigehjogpcaaaDoorQScaleSaysx0
namespace Go.Proofs.YtiaigehjogpcaaaDoor.QScaleSays
open Go Go.RowKit Go.Proofs.YtiaigehjogpcaaaDoorE
set_option linter.unusedVariables false
set_option maxRecDepth 100000
set_option maxHeartbeats 8000000
/-- glyphicmake.Icon -/
def c9 : C :=
  (.seq (.reg [⟨(some 2), .new [(.int .i64 0), (.int .i64 0), (.int .i64 0), (.slice none 0 0), (.slice none 0 0)], none⟩])
  (.seq (.reg [⟨(some 8), .mv (.tmp 0), none⟩,
     ⟨(some 9), .call 22 [(.tmp 8), (.const (.int .i64 24))], none⟩,
     ⟨(some 10), .bin .add (.const (.int .i64 1)) (.tmp 9), none⟩,
     ⟨(some 11), .mv (.tmp 0), none⟩,
     ⟨(some 12), .call 22 [(.tmp 11), (.const (.int .i64 24))], none⟩,
     ⟨(some 13), .bin .add (.const (.int .i64 1)) (.tmp 12), none⟩,
     ⟨(some 14), .mv (.tmp 0), none⟩,
     ⟨(some 15), .call 22 [(.tmp 14), (.const (.int .i64 7))], none⟩,
     ⟨(some 16), .bld [(.int .i64 0), (.int .i64 0), (.int .i64 0), (.slice none 0 0), (.slice none 0 0)] [(0, 1, (.tmp 10)), (1, 1, (.tmp 13)), (2, 1, (.tmp 15))], none⟩,
     ⟨(some 3), .new [(.int .i64 0), (.int .i64 0), (.int .i64 0), (.slice none 0 0), (.slice none 0 0)], none⟩,
     ⟨none, .st 5 (.tmp 3) (.tmp 16), none⟩])
  (.seq (.reg [⟨(some 17), .pad 0 (.tmp 3), none⟩,
     ⟨(some 18), .ld none (.tmp 17), none⟩,
     ⟨(some 19), .pad 1 (.tmp 3), none⟩,
     ⟨(some 20), .ld none (.tmp 19), none⟩,
     ⟨(some 21), .mm true [(.tmp 18), (.tmp 20)], none⟩,
     ⟨(some 22), .pad 2 (.tmp 3), none⟩,
     ⟨(some 23), .ld none (.tmp 22), none⟩,
     ⟨(some 24), .cnv .u64 (.tmp 23), none⟩,
     ⟨(some 25), .bin .shl (.tmp 21) (.tmp 24), none⟩,
     ⟨(some 4), .mv (.tmp 25), none⟩])
  (.seq (.seq (.reg [⟨(some 26), .mv (.tmp 0), none⟩,
      ⟨(some 27), .call 22 [(.tmp 26), (.const (.int .i64 4))], none⟩,
      ⟨(some 5), .mv (.tmp 27), none⟩])
   (.block 0 (.loop (.seq (.seq (.reg [⟨(some 28), .mv (.tmp 5), none⟩,
         ⟨(some 29), .bin .geq (.tmp 28) (.const (.int .i64 0)), none⟩,
         ⟨(some 30), .mv (.tmp 29), none⟩,
         ⟨(some 31), .mv (.tmp 0), (some (30, true))⟩,
         ⟨(some 32), .call 23 [(.tmp 31)], (some (30, true))⟩,
         ⟨(some 33), .pk (.tmp 30) (.tmp 32) (.const (.bool false)), none⟩])
      (.cond (.tmp 33)
       .skip
       (.exit 0)))
     (.seq (.block 1 (.seq (.reg [⟨(some 36), .mv (.tmp 0), none⟩,
          ⟨(some 37), .call 22 [(.tmp 36), (.const (.int .i64 2))], none⟩,
          ⟨(some 38), .bin .add (.const (.int .i64 1)) (.tmp 37), none⟩,
          ⟨(some 39), .bld [(.int .i64 0), (.int .i64 0), (.int .i64 0), (.int .i64 0), (.int .i64 0), (.int .i64 0), (.int .i64 0), (.int .i64 0), (.int .i64 0), (.int .i64 0), (.slice none 0 0)] [(0, 1, (.tmp 38))], none⟩,
          ⟨(some 6), .new [(.int .i64 0), (.int .i64 0), (.int .i64 0), (.int .i64 0), (.int .i64 0), (.int .i64 0), (.int .i64 0), (.int .i64 0), (.int .i64 0), (.int .i64 0), (.slice none 0 0)], none⟩,
          ⟨none, .st 11 (.tmp 6) (.tmp 39), none⟩])
       (.seq (.seq (.reg [⟨(some 40), .pad 0 (.tmp 6), none⟩,
           ⟨(some 41), .ld none (.tmp 40), none⟩,
           ⟨(some 42), .bin .eql (.tmp 41) (.const (.int .i64 1)), none⟩])
        (.cond (.tmp 42)
         (.reg [⟨(some 43), .mv (.tmp 0), none⟩,
            ⟨(some 44), .call 22 [(.tmp 43), (.const (.int .i64 2))], none⟩,
            ⟨(some 45), .pad 1 (.tmp 6), none⟩,
            ⟨none, .st 1 (.tmp 45) (.tmp 44), none⟩])
         (.reg [⟨(some 46), .mv (.tmp 0), none⟩,
            ⟨(some 47), .mv (.tmp 4), none⟩,
            ⟨(some 48), .bin .quo (.tmp 47) (.const (.int .i64 2)), none⟩,
            ⟨(some 49), .mm true [(.tmp 48), (.const (.int .i64 1))], none⟩,
            ⟨(some 50), .call 22 [(.tmp 46), (.tmp 49)], none⟩,
            ⟨(some 51), .bin .add (.const (.int .i64 1)) (.tmp 50), none⟩,
            ⟨(some 52), .pad 2 (.tmp 6), none⟩,
            ⟨none, .st 1 (.tmp 52) (.tmp 51), none⟩])))
       (.seq (.reg [⟨(some 53), .mv (.tmp 0), none⟩,
          ⟨(some 54), .call 22 [(.tmp 53), (.const (.int .i64 3))], none⟩,
          ⟨(some 55), .pad 3 (.tmp 6), none⟩,
          ⟨(some 56), .pad 0 (.tmp 55), none⟩,
          ⟨none, .st 1 (.tmp 56) (.tmp 54), none⟩])
       (.seq (.reg [⟨(some 57), .mv (.tmp 0), none⟩,
          ⟨(some 58), .call 25 [(.tmp 57)], none⟩,
          ⟨(some 59), .call 24 [(.tmp 3), (.tmp 58)], none⟩,
          ⟨(some 60), .pad 3 (.tmp 6), none⟩,
          ⟨(some 61), .pad 1 (.tmp 60), none⟩,
          ⟨none, .st 1 (.tmp 61) (.tmp 59), none⟩])
       (.seq (.seq (.reg [⟨(some 62), .pad 3 (.tmp 6), none⟩,
           ⟨(some 63), .pad 0 (.tmp 62), none⟩,
           ⟨(some 64), .ld none (.tmp 63), none⟩,
           ⟨(some 65), .bin .neq (.tmp 64) (.const (.int .i64 0)), none⟩])
        (.cond (.tmp 65)
         (.seq (.reg [⟨(some 66), .mv (.tmp 0), none⟩,
             ⟨(some 67), .call 25 [(.tmp 66)], none⟩,
             ⟨(some 68), .call 24 [(.tmp 3), (.tmp 67)], none⟩,
             ⟨(some 69), .pad 3 (.tmp 6), none⟩,
             ⟨(some 70), .pad 2 (.tmp 69), none⟩,
             ⟨none, .st 1 (.tmp 70) (.tmp 68), none⟩])
          (.reg [⟨(some 71), .mv (.tmp 0), none⟩,
            ⟨(some 72), .mv (.tmp 4), none⟩,
            ⟨(some 73), .call 26 [(.tmp 71), (.tmp 72)], none⟩,
            ⟨(some 74), .pad 3 (.tmp 6), none⟩,
            ⟨(some 75), .pad 3 (.tmp 74), none⟩,
            ⟨none, .st 2 (.tmp 75) (.tmp 73), none⟩]))
         .skip))
       (.seq (.seq (.reg [⟨(some 76), .pad 3 (.tmp 6), none⟩,
           ⟨(some 77), .pad 0 (.tmp 76), none⟩,
           ⟨(some 78), .ld none (.tmp 77), none⟩,
           ⟨(some 79), .bin .eql (.tmp 78) (.const (.int .i64 1)), none⟩])
        (.cond (.tmp 79)
         (.seq (.reg [⟨(some 80), .mv (.tmp 0), none⟩,
             ⟨(some 81), .mv (.tmp 4), none⟩,
             ⟨(some 82), .call 26 [(.tmp 80), (.tmp 81)], none⟩,
             ⟨(some 83), .pad 3 (.tmp 6), none⟩,
             ⟨(some 84), .pad 5 (.tmp 83), none⟩,
             ⟨none, .st 2 (.tmp 84) (.tmp 82), none⟩])
          (.seq (.reg [⟨(some 85), .pad 3 (.tmp 6), none⟩,
             ⟨(some 86), .pad 3 (.tmp 85), none⟩,
             ⟨(some 87), .ld (some 2) (.tmp 86), none⟩,
             ⟨(some 88), .pad 3 (.tmp 6), none⟩,
             ⟨(some 89), .pad 5 (.tmp 88), none⟩,
             ⟨(some 90), .ld (some 2) (.tmp 89), none⟩,
             ⟨(some 91), .call 27 [(.tmp 87), (.tmp 90)], none⟩])
          (.cond (.tmp 91)
           (.reg [⟨(some 92), .pad 3 (.tmp 6), none⟩,
              ⟨(some 93), .pad 5 (.tmp 92), none⟩,
              ⟨(some 94), .pad 0 (.tmp 93), none⟩,
              ⟨(some 95), .ld none (.tmp 94), none⟩,
              ⟨(some 96), .bin .add (.tmp 95) (.const (.int .i64 1)), none⟩,
              ⟨(some 97), .pad 3 (.tmp 6), none⟩,
              ⟨(some 98), .pad 5 (.tmp 97), none⟩,
              ⟨(some 99), .pad 0 (.tmp 98), none⟩,
              ⟨none, .st 1 (.tmp 99) (.tmp 96), none⟩])
           .skip)))
         .skip))
       (.seq (.seq (.reg [⟨(some 100), .pad 3 (.tmp 6), none⟩,
           ⟨(some 101), .pad 0 (.tmp 100), none⟩,
           ⟨(some 102), .ld none (.tmp 101), none⟩,
           ⟨(some 103), .bin .eql (.tmp 102) (.const (.int .i64 2)), none⟩])
        (.cond (.tmp 103)
         (.reg [⟨(some 104), .mv (.tmp 0), none⟩,
            ⟨(some 105), .mv (.tmp 4), none⟩,
            ⟨(some 106), .call 22 [(.tmp 104), (.tmp 105)], none⟩,
            ⟨(some 107), .bin .add (.const (.int .i64 1)) (.tmp 106), none⟩,
            ⟨(some 108), .pad 3 (.tmp 6), none⟩,
            ⟨(some 109), .pad 5 (.tmp 108), none⟩,
            ⟨(some 110), .pad 0 (.tmp 109), none⟩,
            ⟨none, .st 1 (.tmp 110) (.tmp 107), none⟩])
         .skip))
       (.seq (.seq (.reg [⟨(some 111), .mv (.tmp 0), none⟩,
           ⟨(some 112), .call 22 [(.tmp 111), (.const (.int .i64 3))], none⟩,
           ⟨(some 7), .mv (.tmp 112), none⟩])
        (.block 2 (.loop (.seq (.seq (.reg [⟨(some 113), .mv (.tmp 7), none⟩,
              ⟨(some 114), .bin .geq (.tmp 113) (.const (.int .i64 0)), none⟩])
           (.cond (.tmp 114)
            .skip
            (.exit 2)))
          (.seq (.block 3 (.drw [⟨(some 117), .pad 10 (.tmp 6), none⟩,
              ⟨(some 118), .ld none (.tmp 117), none⟩,
              ⟨(some 119), .mv (.tmp 0), none⟩,
              ⟨(some 120), .mv (.tmp 4), none⟩,
              ⟨(some 121), .pad 0 (.tmp 6), none⟩,
              ⟨(some 122), .ld none (.tmp 121), none⟩,
              ⟨(some 123), .bin .eql (.tmp 122) (.const (.int .i64 2)), none⟩,
              ⟨(some 124), .mv (.tmp 123), none⟩,
              ⟨(some 125), .mv (.tmp 0), (some (124, true))⟩,
              ⟨(some 126), .call 22 [(.tmp 125), (.const (.int .i64 2))], (some (124, true))⟩,
              ⟨(some 127), .bin .eql (.tmp 126) (.const (.int .i64 0)), (some (124, true))⟩,
              ⟨(some 128), .pk (.tmp 124) (.tmp 127) (.const (.bool false)), none⟩,
              ⟨(some 129), .call 28 [(.tmp 119), (.tmp 120), (.tmp 128)], none⟩,
              ⟨(some 130), .bsl [(.int .i64 0), (.int .i64 0), (.slice none 0 0), (.bool false)] 1 [(0, 4, (.tmp 129))], none⟩,
              ⟨(some 131), .app 53 4 48 [(.int .i64 0), (.int .i64 0), (.slice none 0 0), (.bool false)] (.tmp 118) (.tmp 130), none⟩,
              ⟨(some 132), .pad 10 (.tmp 6), none⟩,
              ⟨none, .st 1 (.tmp 132) (.tmp 131), none⟩] [[], [0], [], [], [], [4], [5], [6], [7], [8, 7, 7], [9, 7], [7, 10], [2, 3, 11, 9], [12], [1, 13, 12], [0, 1, 2, 3, 4, 5, 6, 7, 8, 9, 10, 11, 12, 13, 14], [15, 14, 14, 0, 1, 2, 3, 4, 5, 6, 7, 8, 9, 10, 11, 12, 13, 14]]))
          (.reg [⟨(some 115), .mv (.tmp 7), none⟩,
            ⟨(some 116), .bin .sub (.tmp 115) (.const (.int .i64 1)), none⟩,
            ⟨(some 7), .mv (.tmp 116), none⟩]))))))
       (.reg [⟨(some 133), .pad 4 (.tmp 3), none⟩,
         ⟨(some 134), .ld none (.tmp 133), none⟩,
         ⟨(some 135), .ld (some 11) (.tmp 6), none⟩,
         ⟨(some 136), .bsl [(.int .i64 0), (.int .i64 0), (.int .i64 0), (.int .i64 0), (.int .i64 0), (.int .i64 0), (.int .i64 0), (.int .i64 0), (.int .i64 0), (.int .i64 0), (.slice none 0 0)] 1 [(0, 11, (.tmp 135))], none⟩,
         ⟨(some 137), .app 48 11 104 [(.int .i64 0), (.int .i64 0), (.int .i64 0), (.int .i64 0), (.int .i64 0), (.int .i64 0), (.int .i64 0), (.int .i64 0), (.int .i64 0), (.int .i64 0), (.slice none 0 0)] (.tmp 134) (.tmp 136), none⟩,
         ⟨(some 138), .pad 4 (.tmp 3), none⟩,
         ⟨none, .st 1 (.tmp 138) (.tmp 137), none⟩]))))))))))
     (.reg [⟨(some 34), .mv (.tmp 5), none⟩,
       ⟨(some 35), .bin .sub (.tmp 34) (.const (.int .i64 1)), none⟩,
       ⟨(some 5), .mv (.tmp 35), none⟩]))))))
  (.seq (.reg [⟨(some 139), .ld (some 5) (.tmp 3), none⟩,
     ⟨none, .st 5 (.tmp 2) (.tmp 139), none⟩])
  .ret)))))
def glyphicmake_Icon_v1.l1 : Nat → List (Int) → Int → Int → Int → Int → Int → List (Int × Int × List (Int × Int × Int × Int × Int × Int × Int) × Bool) → Int → Option (Int × List (Int × Int × List (Int × Int × Int × Int × Int × Int × Int) × Bool))
  | 0, _, _, _, _, _, _, _, _ => none
  | k + 1, m0_0, t223, t226, t229, t256, x338, y340, x341 => if x338 ≥ 0 then (if (wr64 (1 + t256)) = 2 then ((glyphicmake_Seq_Next_v1.f 2 m0_0 x341).bind fun (t344, t345) => ((glyphicmake_Path_v1.f k (wr64 ((mx (wr64 (1 + t223)) (wr64 (1 + t226))) * 2 ^ (min (Int.toNat (wru64 t229)) 64))) (t344 == 0) m0_0 t345).bind fun (t347, t348, t349, t350, t351) => ((lapp y340 ([(t347, t348, t350, t349)] : List (Int × Int × List (Int × Int × Int × Int × Int × Int × Int) × Bool))).bind fun y355 => (glyphicmake_Icon_v1.l1 k m0_0 t223 t226 t229 t256 (wr64 (x338 - 1)) y355 t351)))) else ((glyphicmake_Path_v1.f k (wr64 ((mx (wr64 (1 + t223)) (wr64 (1 + t226))) * 2 ^ (min (Int.toNat (wru64 t229)) 64))) false m0_0 x341).bind fun (t359, t360, t361, t362, t363) => ((lapp y340 ([(t359, t360, t362, t361)] : List (Int × Int × List (Int × Int × Int × Int × Int × Int × Int) × Bool))).bind fun y366 => (glyphicmake_Icon_v1.l1 k m0_0 t223 t226 t229 t256 (wr64 (x338 - 1)) y366 t363)))) else (some (x341, y340))
def glyphicmake_Icon_v1.l0 : Nat → List (Int) → Int → Int → Int → Int → List (Int × Int × Int × Int × Int × Int × Int × Int × Int × Int × List (Int × Int × List (Int × Int × Int × Int × Int × Int × Int) × Bool)) → List (Int × Int × Int × Int) → List (Int × Int × Int × Int × Int × Int × Int × Int × Int × Int × List (Int × Int × List (Int × Int × Int × Int × Int × Int × Int) × Bool)) → List (Int × Int × Int × Int) → Int → Option (List (Int × Int × Int × Int) × List (Int × Int × Int × Int × Int × Int × Int × Int × Int × Int × List (Int × Int × List (Int × Int × Int × Int × Int × Int × Int) × Bool)) × Int × List (Int × Int × Int × Int) × List (Int × Int × Int × Int × Int × Int × Int × Int × Int × Int × List (Int × Int × List (Int × Int × Int × Int × Int × Int × Int) × Bool)))
  | 0, _, _, _, _, _, _, _, _, _, _ => none
  | k + 1, m0_0, t223, t226, t229, x240, y242, y244, y246, y248, x249 => if x240 ≥ 0 then ((glyphicmake_Seq_more_v1.f m0_0 x249).bind fun t251 => (if t251 = true then (((glyphicmake_Seq_Next_v1.f 2 m0_0 x249).bind fun (t256, t257) => ((if (wr64 (1 + t256)) = 1 then ((glyphicmake_Seq_Next_v1.f 2 m0_0 t257).bind fun (t264, t265) => (some (t264, 0, t265))) else ((glyphicmake_Seq_Next_v1.f (mx (wr64 (Int.tdiv (wr64 ((mx (wr64 (1 + t223)) (wr64 (1 + t226))) * 2 ^ (min (Int.toNat (wru64 t229)) 64))) 2)) 1) m0_0 t257).bind fun (t267, t268) => (some (0, wr64 (1 + t267), t268))) : Option (Int × Int × Int)).bind fun (x270, x271, x272) => ((glyphicmake_Seq_Next_v1.f 3 m0_0 x272).bind fun (t273, t274) => ((glyphicmake_Color_v1.f m0_0 t274).bind fun (t276, t277, t278, t279, t280) => ((glyphicmake_add_v1.f k t276 t277 t278 t279 (wr64 (1 + t223)) (wr64 (1 + t226)) t229 y244).bind fun (t282, t283) => ((if t273 = 0 then (some (t283, t280, 0, 0, 0)) else ((glyphicmake_Color_v1.f m0_0 t280).bind fun (t290, t291, t292, t293, t294) => ((glyphicmake_add_v1.f k t290 t291 t292 t293 (wr64 (1 + t223)) (wr64 (1 + t226)) t229 t283).bind fun (t296, t297) => ((glyphicmake_Point_v1.f (wr64 ((mx (wr64 (1 + t223)) (wr64 (1 + t226))) * 2 ^ (min (Int.toNat (wru64 t229)) 64))) m0_0 t294).bind fun (t300, t301, t302) => (some (t297, t302, t296, t300, t301))))) : Option (List (Int × Int × Int × Int) × Int × Int × Int × Int)).bind fun (y305, x306, x307, x308, x309) => ((if t273 = 1 then ((glyphicmake_Point_v1.f (wr64 ((mx (wr64 (1 + t223)) (wr64 (1 + t226))) * 2 ^ (min (Int.toNat (wru64 t229)) 64))) m0_0 x306).bind fun (t314, t315, t316) => ((glyphicref_SamePoint.f x308 x309 t314 t315).bind fun t318 => (if t318 = true then (some (t316, wr64 (t314 + 1), t315)) else (some (t316, t314, t315))))) else (some (x306, 0, 0)) : Option (Int × Int × Int)).bind fun (x320, x321, x322) => ((if t273 = 2 then ((glyphicmake_Seq_Next_v1.f (wr64 ((mx (wr64 (1 + t223)) (wr64 (1 + t226))) * 2 ^ (min (Int.toNat (wru64 t229)) 64))) m0_0 x320).bind fun (t327, t328) => (some (t328, wr64 (1 + t327)))) else (some (x320, x321)) : Option (Int × Int)).bind fun (x330, x331) => (((glyphicmake_Seq_Next_v1.f 3 m0_0 x330).bind fun (t335, t336) => (glyphicmake_Icon_v1.l1 k m0_0 t223 t226 t229 t256 t335 ([] : List (Int × Int × List (Int × Int × Int × Int × Int × Int × Int) × Bool)) t336) : Option (Int × List (Int × Int × List (Int × Int × Int × Int × Int × Int × Int) × Bool))).bind fun (x370, y372) => ((lapp y242 ([(wr64 (1 + t256), x270, x271, t273, t282, x307, x308, x309, x331, x322, y372)] : List (Int × Int × Int × Int × Int × Int × Int × Int × Int × Int × List (Int × Int × List (Int × Int × Int × Int × Int × Int × Int) × Bool)))).bind fun y374 => (some (x370, y305, y374))))))))))) : Option (Int × List (Int × Int × Int × Int) × List (Int × Int × Int × Int × Int × Int × Int × Int × Int × Int × List (Int × Int × List (Int × Int × Int × Int × Int × Int × Int) × Bool)))).bind fun (x377, y379, y381) => (glyphicmake_Icon_v1.l0 k m0_0 t223 t226 t229 (wr64 (x240 - 1)) y381 y379 y246 y248 x377)) else (some (y244, y242, x249, y248, y246)))) else (some (y244, y242, x249, y248, y246))
def glyphicmake_Icon_v1.f (k : Nat) (m0_0 : List (Int)) (m0_1 : Int) : Option (Int × Int × Int × List (Int × Int × Int × Int × Int × Int × Int × Int × Int × Int × List (Int × Int × List (Int × Int × Int × Int × Int × Int × Int) × Bool)) × List (Int × Int × Int × Int) × Int) := (glyphicmake_Seq_Next_v1.f 24 m0_0 m0_1).bind fun (t223, t224) => ((glyphicmake_Seq_Next_v1.f 24 m0_0 t224).bind fun (t226, t227) => ((glyphicmake_Seq_Next_v1.f 7 m0_0 t227).bind fun (t229, t230) => (if (wru64 t229) < 0 then none else (((glyphicmake_Seq_Next_v1.f 4 m0_0 t230).bind fun (t237, t238) => (glyphicmake_Icon_v1.l0 k m0_0 t223 t226 t229 t237 ([] : List (Int × Int × Int × Int × Int × Int × Int × Int × Int × Int × List (Int × Int × List (Int × Int × Int × Int × Int × Int × Int) × Bool))) ([] : List (Int × Int × Int × Int)) ([] : List (Int × Int × Int × Int × Int × Int × Int × Int × Int × Int × List (Int × Int × List (Int × Int × Int × Int × Int × Int × Int) × Bool))) ([] : List (Int × Int × Int × Int)) t238) : Option (List (Int × Int × Int × Int) × List (Int × Int × Int × Int × Int × Int × Int × Int × Int × Int × List (Int × Int × List (Int × Int × Int × Int × Int × Int × Int) × Bool)) × Int × List (Int × Int × Int × Int) × List (Int × Int × Int × Int × Int × Int × Int × Int × Int × Int × List (Int × Int × List (Int × Int × Int × Int × Int × Int × Int) × Bool)))).bind fun (y385, y387, x388, y390, y392) => (some (wr64 (1 + t223), wr64 (1 + t226), t229, y387, y385, x388))))))
theorem glyphicmake_Icon_v1.ok {S : Seal} {B0 : Nat} {k : Nat} {m0_0 : List (Int)} {m0_1 : Int} {r0_ : Int} {r1_ : Int} {r2_ : Int} {r3_ : List (Int × Int × Int × Int × Int × Int × Int × Int × Int × Int × List (Int × Int × List (Int × Int × Int × Int × Int × Int × Int) × Bool))} {r4_ : List (Int × Int × Int × Int)} {r5_ : Int}{A_ : Int → Addr} (hE_ : EO gsE S A_ 94) {a_m0_0 : Option Addr} {c_m0_0 : Nat} (h_m0_0 : SlE S E_i64 m0_0 a_m0_0) (e : glyphicmake_Icon_v1.f k m0_0 m0_1 = some (r0_, r1_, r2_, r3_, r4_, r5_)) :
    Cal Tryd.prog 9 [.pointer (some ⟨B0, 0, none⟩)] ([⟨B0, [.slice a_m0_0 m0_0.length c_m0_0, .int .i64 m0_1], 2⟩] : List Own) S fun v H' S' => ∃ (N0_ : Option Nat) (nN0_ : Nat) (a0_ : Option Addr) (c0_ : Nat) (NF_ : List Own), v = .agg #[.int .i64 r0_, .int .i64 r1_, .int .i64 r2_, .slice (ad N0_) r4_.length (nN0_ / 4), .slice a0_ r3_.length c0_] ∧ H' = (([⟨N0_, encL E_u84 r4_, nN0_⟩, ⟨B0, [.slice a_m0_0 m0_0.length c_m0_0, .int .i64 r5_], 2⟩] : List Own) ++ (NF_ ++ [])) ∧ S' = S ∧ SlN (rdOf (NF_ ++ []) S) N_1 r3_ a0_ := by
  unfold glyphicmake_Icon_v1.f at e
  refine cal_of (c := c9) (N := 140) Tryd.func9 rfl rfl (by kernel_rfl) (rs := [.cn 5 2]) (by kernel_rfl) (Nat.le_of_ble_eq_true rfl) ?_
  unfold c9
  refine w_seq ?_
  refine w_reg fun all => ?_
  refine t_a (.new rfl rfl) fun b222 fb222 sb222 => ?_
  refine t_keep [0, 2] (σ' := [(0, .pointer (some ⟨B0, 0, none⟩)), (2, .pointer (some ⟨b222, 0, none⟩))]) (by kernel_rfl) ?_
  refine t_end ?_
  show W _ _ _ _ _ _ _
  refine w_seq ?_
  refine w_reg fun all => ?_
  obtain ⟨⟨t223, t224⟩, h225, e⟩ := bind_of e
  try dsimp only at e
  refine t_qz 1 [0, 2, 8] (σ' := [(0, .pointer (some ⟨B0, 0, none⟩)), (2, .pointer (some ⟨b222, 0, none⟩)), (8, .pointer (some ⟨B0, 0, none⟩))]) (by kernel_rfl) ?_
  refine t_call (vs := [.pointer (some ⟨B0, 0, none⟩), .int .i64 24]) (H1 := ([⟨B0, [.slice a_m0_0 m0_0.length c_m0_0, .int .i64 m0_1], 2⟩] : List Own)) (F := ([⟨b222, [.int .i64 0, .int .i64 0, .int .i64 0, .slice none 0 0, .slice none 0 0], 5⟩] : List Own)) rfl rfl (by kernel_rfl) (sel_perm (is := [1]) (by kernel_rfl)) (glyphicmake_Seq_Next_v1.ok hE_ h_m0_0 h225) ?_
  rintro _ _ S_ ⟨rfl, rfl, hS_⟩
  obtain rfl := hS_.symm
  obtain ⟨⟨t226, t227⟩, h228, e⟩ := bind_of e
  try dsimp only at e
  refine t_qz 2 [0, 2, 10, 11] (σ' := [(0, .pointer (some ⟨B0, 0, none⟩)), (2, .pointer (some ⟨b222, 0, none⟩)), (10, .int .i64 (wr64 (1 + t223))), (11, .pointer (some ⟨B0, 0, none⟩))]) (by kernel_rfl) ?_
  refine t_call (vs := [.pointer (some ⟨B0, 0, none⟩), .int .i64 24]) (H1 := ([⟨B0, [.slice a_m0_0 m0_0.length c_m0_0, .int .i64 t224], 2⟩] : List Own)) (F := ([⟨b222, [.int .i64 0, .int .i64 0, .int .i64 0, .slice none 0 0, .slice none 0 0], 5⟩] : List Own)) rfl rfl (by kernel_rfl) (sel_perm (is := [0]) (by kernel_rfl)) (glyphicmake_Seq_Next_v1.ok hE_ h_m0_0 h228) ?_
  rintro _ _ S_ ⟨rfl, rfl, hS_⟩
  obtain rfl := hS_.symm
  obtain ⟨⟨t229, t230⟩, h231, e⟩ := bind_of e
  try dsimp only at e
  refine t_qz 2 [0, 2, 10, 13, 14] (σ' := [(0, .pointer (some ⟨B0, 0, none⟩)), (2, .pointer (some ⟨b222, 0, none⟩)), (10, .int .i64 (wr64 (1 + t223))), (13, .int .i64 (wr64 (1 + t226))), (14, .pointer (some ⟨B0, 0, none⟩))]) (by kernel_rfl) ?_
  refine t_call (vs := [.pointer (some ⟨B0, 0, none⟩), .int .i64 7]) (H1 := ([⟨B0, [.slice a_m0_0 m0_0.length c_m0_0, .int .i64 t227], 2⟩] : List Own)) (F := ([⟨b222, [.int .i64 0, .int .i64 0, .int .i64 0, .slice none 0 0, .slice none 0 0], 5⟩] : List Own)) rfl rfl (by kernel_rfl) (sel_perm (is := [0]) (by kernel_rfl)) (glyphicmake_Seq_Next_v1.ok hE_ h_m0_0 h231) ?_
  rintro _ _ S_ ⟨rfl, rfl, hS_⟩
  obtain rfl := hS_.symm
  refine t_qz 1 [0, 2, 16] (σ' := [(0, .pointer (some ⟨B0, 0, none⟩)), (2, .pointer (some ⟨b222, 0, none⟩)), (16, .agg #[.int .i64 (wr64 (1 + t223)), .int .i64 (wr64 (1 + t226)), .int .i64 t229, .slice none 0 0, .slice none 0 0])]) (by kernel_rfl) ?_
  refine t_a (.new rfl rfl) fun b232 fb232 sb232 => ?_
  refine t_sti 0 (cs := [.int .i64 (wr64 (1 + t223)), .int .i64 (wr64 (1 + t226)), .int .i64 t229, .slice none 0 0, .slice none 0 0]) rfl rfl rfl rfl rfl rfl rfl rfl rfl ?_
  refine t_keep [0, 2, 3] (σ' := [(0, .pointer (some ⟨B0, 0, none⟩)), (2, .pointer (some ⟨b222, 0, none⟩)), (3, .pointer (some ⟨b232, 0, none⟩))]) (by kernel_rfl) ?_
  refine t_end ?_
  show W _ _ _ _ _ _ _
  refine w_seq ?_
  refine w_reg fun all => ?_
  refine t_qz 1 [0, 2, 3, 17] (σ' := [(0, .pointer (some ⟨B0, 0, none⟩)), (2, .pointer (some ⟨b222, 0, none⟩)), (3, .pointer (some ⟨b232, 0, none⟩)), (17, .pointer (some ⟨b232, 0, none⟩))]) (by kernel_rfl) ?_
  refine t_v (.ld1 rfl rfl rfl (.at 0 rfl rfl)) ?_
  refine t_qz 1 [0, 2, 3, 18, 19] (σ' := [(0, .pointer (some ⟨B0, 0, none⟩)), (2, .pointer (some ⟨b222, 0, none⟩)), (3, .pointer (some ⟨b232, 0, none⟩)), (18, .int .i64 (wr64 (1 + t223))), (19, .pointer (some ⟨b232, 1, none⟩))]) (by kernel_rfl) ?_
  refine t_v (.ld1 rfl rfl rfl (.at 0 rfl rfl)) ?_
  refine t_qz 2 [0, 2, 3, 21, 22] (σ' := [(0, .pointer (some ⟨B0, 0, none⟩)), (2, .pointer (some ⟨b222, 0, none⟩)), (3, .pointer (some ⟨b232, 0, none⟩)), (21, .int .i64 (mx (wr64 (1 + t223)) (wr64 (1 + t226)))), (22, .pointer (some ⟨b232, 2, none⟩))]) (by kernel_rfl) ?_
  refine t_v (.ld1 rfl rfl rfl (.at 0 rfl rfl)) ?_
  have c233 : ¬ (wru64 t229) < 0 := by
    intro h_; rw [if_pos h_] at e; cases e
  rw [if_neg c233] at e
  refine t_qz 1 [0, 2, 3, 21, 24] (σ' := [(0, .pointer (some ⟨B0, 0, none⟩)), (2, .pointer (some ⟨b222, 0, none⟩)), (3, .pointer (some ⟨b232, 0, none⟩)), (21, .int .i64 (mx (wr64 (1 + t223)) (wr64 (1 + t226)))), (24, .int .u64 (wru64 t229))]) (by kernel_rfl) ?_
  refine t_v (.quiet rfl (qv_shl rfl rfl c233)) ?_
  refine t_qz 1 [0, 2, 3, 4] (σ' := [(0, .pointer (some ⟨B0, 0, none⟩)), (2, .pointer (some ⟨b222, 0, none⟩)), (3, .pointer (some ⟨b232, 0, none⟩)), (4, .int .i64 (wr64 ((mx (wr64 (1 + t223)) (wr64 (1 + t226))) * 2 ^ (min (Int.toNat (wru64 t229)) 64))))]) (by kernel_rfl) ?_
  refine t_end ?_
  show W _ _ _ _ _ _ _
  obtain ⟨⟨y385, y387, x388, y390, y392⟩, e235, e⟩ := bind_of e
  try dsimp only at e
  refine w_cut [2, 3] (fun σ_ H_ S_ => ∃ (a384 : Option Nat) (na384 : Nat) (a386 : Option Nat) (na386 : Nat) (csa386 : List Value) (Fa386 : List Own) (a389 : Option Nat) (na389 : Nat) (a391 : Option Nat) (na391 : Nat) (csa391 : List Value) (Fa391 : List Own), [(2, .pointer (some ⟨b222, 0, none⟩)), (3, .pointer (some ⟨b232, 0, none⟩))] = σ_ ∧ (([⟨b232, [.int .i64 (wr64 (1 + t223)), .int .i64 (wr64 (1 + t226)), .int .i64 t229, .slice (ad a384) y385.length (na384 / 4), .slice (ad a386) y387.length (na386 / 11)], 5⟩, ⟨B0, [.slice a_m0_0 m0_0.length c_m0_0, .int .i64 x388], 2⟩, ⟨b222, [.int .i64 0, .int .i64 0, .int .i64 0, .slice (ad a389) y390.length (na389 / 4), .slice (ad a391) y392.length (na391 / 11)], 5⟩, ⟨a384, encL E_u84 y385, na384⟩, ⟨a386, csa386, na386⟩, ⟨a389, encL E_u84 y390, na389⟩, ⟨a391, csa391, na391⟩] : List Own) ++ (Fa386 ++ (Fa391 ++ []))) = H_ ∧ S = S_ ∧ RL (rdOf (Fa386 ++ []) S) N_1 y387 csa386 ∧ RL (rdOf (Fa391 ++ []) S) N_1 y392 csa391) ?_ ?_
  · show W _ _ _ _ _ _ _
    refine w_seq ?_
    refine w_reg fun all => ?_
    obtain ⟨⟨t237, t238⟩, h239, e235⟩ := bind_of e235
    try dsimp only at e235
    refine t_qz 1 [0, 2, 3, 4, 26] (σ' := [(0, .pointer (some ⟨B0, 0, none⟩)), (2, .pointer (some ⟨b222, 0, none⟩)), (3, .pointer (some ⟨b232, 0, none⟩)), (4, .int .i64 (wr64 ((mx (wr64 (1 + t223)) (wr64 (1 + t226))) * 2 ^ (min (Int.toNat (wru64 t229)) 64)))), (26, .pointer (some ⟨B0, 0, none⟩))]) (by kernel_rfl) ?_
    refine t_call (vs := [.pointer (some ⟨B0, 0, none⟩), .int .i64 4]) (H1 := ([⟨B0, [.slice a_m0_0 m0_0.length c_m0_0, .int .i64 t230], 2⟩] : List Own)) (F := ([⟨b232, [.int .i64 (wr64 (1 + t223)), .int .i64 (wr64 (1 + t226)), .int .i64 t229, .slice none 0 0, .slice none 0 0], 5⟩, ⟨b222, [.int .i64 0, .int .i64 0, .int .i64 0, .slice none 0 0, .slice none 0 0], 5⟩] : List Own)) rfl rfl (by kernel_rfl) (sel_perm (is := [1]) (by kernel_rfl)) (glyphicmake_Seq_Next_v1.ok hE_ h_m0_0 h239) ?_
    rintro _ _ S_ ⟨rfl, rfl, hS_⟩
    obtain rfl := hS_.symm
    refine t_qz 1 [0, 2, 3, 4, 5] (σ' := [(0, .pointer (some ⟨B0, 0, none⟩)), (2, .pointer (some ⟨b222, 0, none⟩)), (3, .pointer (some ⟨b232, 0, none⟩)), (4, .int .i64 (wr64 ((mx (wr64 (1 + t223)) (wr64 (1 + t226))) * 2 ^ (min (Int.toNat (wru64 t229)) 64)))), (5, .int .i64 t237)]) (by kernel_rfl) ?_
    refine t_end ?_
    show W _ _ _ _ _ _ _
    refine w_block ?_
    refine w_vs VS.vac ?_
    refine w_vs VS.vac ?_
    refine w_vs VS.vac ?_
    refine w_vs VS.vac ?_
    refine w_kp [0, 2, 3, 4, 5] (σ' := [(0, .pointer (some ⟨B0, 0, none⟩)), (2, .pointer (some ⟨b222, 0, none⟩)), (3, .pointer (some ⟨b232, 0, none⟩)), (4, .int .i64 (wr64 ((mx (wr64 (1 + t223)) (wr64 (1 + t226))) * 2 ^ (min (Int.toNat (wru64 t229)) 64)))), (5, .int .i64 t237)]) (by kernel_rfl) ?_
    refine w_vs (H' := (([⟨none, [], 0⟩, ⟨none, encL E_u84 ([] : List (Int × Int × Int × Int)), 0⟩, ⟨none, [], 0⟩, ⟨none, encL E_u84 ([] : List (Int × Int × Int × Int)), 0⟩, ⟨B0, [.slice a_m0_0 m0_0.length c_m0_0, .int .i64 t238], 2⟩, ⟨b232, [.int .i64 (wr64 (1 + t223)), .int .i64 (wr64 (1 + t226)), .int .i64 t229, .slice (ad none) ([] : List (Int × Int × Int × Int)).length (0 / 4), .slice (ad none) ([] : List (Int × Int × Int × Int × Int × Int × Int × Int × Int × Int × List (Int × Int × List (Int × Int × Int × Int × Int × Int × Int) × Bool))).length (0 / 11)], 5⟩, ⟨b222, [.int .i64 0, .int .i64 0, .int .i64 0, .slice (ad none) ([] : List (Int × Int × Int × Int)).length (0 / 4), .slice (ad none) ([] : List (Int × Int × Int × Int × Int × Int × Int × Int × Int × Int × List (Int × Int × List (Int × Int × Int × Int × Int × Int × Int) × Bool))).length (0 / 11)], 5⟩] : List Own) ++ (([] : List Own) ++ (([] : List Own) ++ [])))) (S' := S) (VS.treeA (.l ([⟨none, [], 0⟩, ⟨none, encL E_u84 ([] : List (Int × Int × Int × Int)), 0⟩, ⟨none, [], 0⟩, ⟨none, encL E_u84 ([] : List (Int × Int × Int × Int)), 0⟩, ⟨B0, [.slice a_m0_0 m0_0.length c_m0_0, .int .i64 t238], 2⟩, ⟨b232, [.int .i64 (wr64 (1 + t223)), .int .i64 (wr64 (1 + t226)), .int .i64 t229, .slice (ad none) ([] : List (Int × Int × Int × Int)).length (0 / 4), .slice (ad none) ([] : List (Int × Int × Int × Int × Int × Int × Int × Int × Int × Int × List (Int × Int × List (Int × Int × Int × Int × Int × Int × Int) × Bool))).length (0 / 11)], 5⟩, ⟨b222, [.int .i64 0, .int .i64 0, .int .i64 0, .slice (ad none) ([] : List (Int × Int × Int × Int)).length (0 / 4), .slice (ad none) ([] : List (Int × Int × Int × Int × Int × Int × Int × Int × Int × Int × List (Int × Int × List (Int × Int × Int × Int × Int × Int × Int) × Bool))).length (0 / 11)], 5⟩] : List Own)) (.a (.l ([⟨none, [], 0⟩, ⟨none, encL E_u84 ([] : List (Int × Int × Int × Int)), 0⟩, ⟨none, [], 0⟩, ⟨none, encL E_u84 ([] : List (Int × Int × Int × Int)), 0⟩, ⟨B0, [.slice a_m0_0 m0_0.length c_m0_0, .int .i64 t238], 2⟩, ⟨b232, [.int .i64 (wr64 (1 + t223)), .int .i64 (wr64 (1 + t226)), .int .i64 t229, .slice (ad none) ([] : List (Int × Int × Int × Int)).length (0 / 4), .slice (ad none) ([] : List (Int × Int × Int × Int × Int × Int × Int × Int × Int × Int × List (Int × Int × List (Int × Int × Int × Int × Int × Int × Int) × Bool))).length (0 / 11)], 5⟩, ⟨b222, [.int .i64 0, .int .i64 0, .int .i64 0, .slice (ad none) ([] : List (Int × Int × Int × Int)).length (0 / 4), .slice (ad none) ([] : List (Int × Int × Int × Int × Int × Int × Int × Int × Int × Int × List (Int × Int × List (Int × Int × Int × Int × Int × Int × Int) × Bool))).length (0 / 11)], 5⟩] : List Own)) (.a (.l ([] : List Own)) (.a (.l ([] : List Own)) (.l [])))) [0, 0, 0, 0, 0, 0, 0] (by kernel_rfl)) ?_
    refine w_loop (fun n_ σ_ H_ S_ => ∃ (x240 : Int) (y242 : List (Int × Int × Int × Int × Int × Int × Int × Int × Int × Int × List (Int × Int × List (Int × Int × Int × Int × Int × Int × Int) × Bool))) (y244 : List (Int × Int × Int × Int)) (y246 : List (Int × Int × Int × Int × Int × Int × Int × Int × Int × Int × List (Int × Int × List (Int × Int × Int × Int × Int × Int × Int) × Bool))) (y248 : List (Int × Int × Int × Int)) (x249 : Int), ∃ (a241 : Option Nat) (na241 : Nat) (csa241 : List Value) (Fa241 : List Own) (a243 : Option Nat) (na243 : Nat) (a245 : Option Nat) (na245 : Nat) (csa245 : List Value) (Fa245 : List Own) (a247 : Option Nat) (na247 : Nat), [(0, .pointer (some ⟨B0, 0, none⟩)), (2, .pointer (some ⟨b222, 0, none⟩)), (3, .pointer (some ⟨b232, 0, none⟩)), (4, .int .i64 (wr64 ((mx (wr64 (1 + t223)) (wr64 (1 + t226))) * 2 ^ (min (Int.toNat (wru64 t229)) 64)))), (5, .int .i64 x240)] = σ_ ∧ (([⟨a241, csa241, na241⟩, ⟨a243, encL E_u84 y244, na243⟩, ⟨a245, csa245, na245⟩, ⟨a247, encL E_u84 y248, na247⟩, ⟨B0, [.slice a_m0_0 m0_0.length c_m0_0, .int .i64 x249], 2⟩, ⟨b232, [.int .i64 (wr64 (1 + t223)), .int .i64 (wr64 (1 + t226)), .int .i64 t229, .slice (ad a243) y244.length (na243 / 4), .slice (ad a241) y242.length (na241 / 11)], 5⟩, ⟨b222, [.int .i64 0, .int .i64 0, .int .i64 0, .slice (ad a247) y248.length (na247 / 4), .slice (ad a245) y246.length (na245 / 11)], 5⟩] : List Own) ++ (Fa241 ++ (Fa245 ++ []))) = H_ ∧ S = S_ ∧ glyphicmake_Icon_v1.l0 n_ m0_0 t223 t226 t229 x240 y242 y244 y246 y248 x249 = some (y385, y387, x388, y390, y392) ∧ RL (rdOf (Fa241 ++ []) S) N_1 y242 csa241 ∧ RL (rdOf (Fa245 ++ []) S) N_1 y246 csa245) _ ⟨t237, ([] : List (Int × Int × Int × Int × Int × Int × Int × Int × Int × Int × List (Int × Int × List (Int × Int × Int × Int × Int × Int × Int) × Bool))), ([] : List (Int × Int × Int × Int)), ([] : List (Int × Int × Int × Int × Int × Int × Int × Int × Int × Int × List (Int × Int × List (Int × Int × Int × Int × Int × Int × Int) × Bool))), ([] : List (Int × Int × Int × Int)), t238, none, 0, [], ([] : List Own), none, 0, none, 0, [], ([] : List Own), none, 0, rfl, rfl, rfl, e235, RL.mono (RL.nil (R := rdOf [] S) (E := N_1)) (rd_sub seg_hd), RL.mono (RL.nil (R := rdOf [] S) (E := N_1)) (rd_sub seg_hd)⟩ ?_
    rintro n383 σ_ H_ S_ ⟨x240, y242, y244, y246, y248, x249, a241, na241, csa241, Fa241, a243, na243, a245, na245, csa245, Fa245, a247, na247, rfl, rfl, rfl, e235, hra241, hra245⟩
    cases n383 with
    | zero => rw [glyphicmake_Icon_v1.l0.eq_1] at e235; cases e235
    | succ k_ =>
      rw [glyphicmake_Icon_v1.l0.eq_2] at e235
      refine w_seq ?_
      refine w_seq ?_
      refine w_reg fun all => ?_
      by_cases c250 : x240 ≥ 0
      · rw [if_pos c250] at e235
        have c250b : (decide (x240 ≥ 0)) = true := decide_eq_true c250
        refine t_qz 1 [0, 2, 3, 4, 5, 28] (σ' := [(0, .pointer (some ⟨B0, 0, none⟩)), (2, .pointer (some ⟨b222, 0, none⟩)), (3, .pointer (some ⟨b232, 0, none⟩)), (4, .int .i64 (wr64 ((mx (wr64 (1 + t223)) (wr64 (1 + t226))) * 2 ^ (min (Int.toNat (wru64 t229)) 64)))), (5, .int .i64 x240), (28, .int .i64 x240)]) (by kernel_rfl) ?_
        refine t_v (dv_quiet rfl (congrArg (fun t => some (Value.bool t)) c250b)) ?_
        obtain ⟨t251, h252, e235⟩ := bind_of e235
        cases t251 with
        | true =>
          rw [if_pos rfl] at e235
          refine t_qz 2 [0, 2, 3, 4, 5, 30, 31] (σ' := [(0, .pointer (some ⟨B0, 0, none⟩)), (2, .pointer (some ⟨b222, 0, none⟩)), (3, .pointer (some ⟨b232, 0, none⟩)), (4, .int .i64 (wr64 ((mx (wr64 (1 + t223)) (wr64 (1 + t226))) * 2 ^ (min (Int.toNat (wru64 t229)) 64)))), (5, .int .i64 x240), (30, .bool true), (31, .pointer (some ⟨B0, 0, none⟩))]) (by kernel_rfl) ?_
          refine t_v (.callr (vs := [.pointer (some ⟨B0, 0, none⟩)]) (A := ([⟨B0, [.slice a_m0_0 m0_0.length c_m0_0, .int .i64 x249], 2⟩] : List Own)) (F0 := (([⟨a241, csa241, na241⟩, ⟨a243, encL E_u84 y244, na243⟩, ⟨a245, csa245, na245⟩, ⟨a247, encL E_u84 y248, na247⟩, ⟨b232, [.int .i64 (wr64 (1 + t223)), .int .i64 (wr64 (1 + t226)), .int .i64 t229, .slice (ad a243) y244.length (na243 / 4), .slice (ad a241) y242.length (na241 / 11)], 5⟩, ⟨b222, [.int .i64 0, .int .i64 0, .int .i64 0, .slice (ad a247) y248.length (na247 / 4), .slice (ad a245) y246.length (na245 / 11)], 5⟩] : List Own) ++ (Fa241 ++ (Fa245 ++ [])))) rfl rfl (by kernel_rfl) (sel_perm (is := [4]) (by kernel_rfl)) (glyphicmake_Seq_more_v1.ok hE_ h_m0_0 h252)) ?_
          refine t_qz 1 [0, 2, 3, 4, 5, 33] (σ' := [(0, .pointer (some ⟨B0, 0, none⟩)), (2, .pointer (some ⟨b222, 0, none⟩)), (3, .pointer (some ⟨b232, 0, none⟩)), (4, .int .i64 (wr64 ((mx (wr64 (1 + t223)) (wr64 (1 + t226))) * 2 ^ (min (Int.toNat (wru64 t229)) 64)))), (5, .int .i64 x240), (33, .bool true)]) (by kernel_rfl) ?_
          refine t_end ?_
          show W _ _ _ _ _ _ _
          refine w_cond rfl (fun _ => ?_) (fun c_ => by cases c_)
          show W _ _ _ _ _ _ _
          refine w_skip ?_
          show W _ _ _ _ _ _ _
          obtain ⟨⟨x377, y379, y381⟩, e254, e235⟩ := bind_of e235
          try dsimp only at e235
          refine w_cut [0, 2, 3, 4, 5] (fun σ_ H_ S_ => ∃ (a378 : Option Nat) (na378 : Nat) (a380 : Option Nat) (na380 : Nat) (csa380 : List Value) (Fa380 : List Own), [(0, .pointer (some ⟨B0, 0, none⟩)), (2, .pointer (some ⟨b222, 0, none⟩)), (3, .pointer (some ⟨b232, 0, none⟩)), (4, .int .i64 (wr64 ((mx (wr64 (1 + t223)) (wr64 (1 + t226))) * 2 ^ (min (Int.toNat (wru64 t229)) 64)))), (5, .int .i64 x240)] = σ_ ∧ (([⟨B0, [.slice a_m0_0 m0_0.length c_m0_0, .int .i64 x377], 2⟩, ⟨b232, [.int .i64 (wr64 (1 + t223)), .int .i64 (wr64 (1 + t226)), .int .i64 t229, .slice (ad a378) y379.length (na378 / 4), .slice (ad a380) y381.length (na380 / 11)], 5⟩, ⟨b222, [.int .i64 0, .int .i64 0, .int .i64 0, .slice (ad a247) y248.length (na247 / 4), .slice (ad a245) y246.length (na245 / 11)], 5⟩, ⟨a245, csa245, na245⟩, ⟨a247, encL E_u84 y248, na247⟩, ⟨a378, encL E_u84 y379, na378⟩, ⟨a380, csa380, na380⟩] : List Own) ++ (Fa245 ++ (Fa380 ++ []))) = H_ ∧ S = S_ ∧ RL (rdOf (Fa380 ++ []) S) N_1 y381 csa380) ?_ ?_
          · show W _ _ _ _ _ _ _
            refine w_block ?_
            refine w_seq ?_
            refine w_reg fun all => ?_
            obtain ⟨⟨t256, t257⟩, h258, e254⟩ := bind_of e254
            try dsimp only at e254
            refine t_qz 1 [0, 2, 3, 4, 5, 36] (σ' := [(0, .pointer (some ⟨B0, 0, none⟩)), (2, .pointer (some ⟨b222, 0, none⟩)), (3, .pointer (some ⟨b232, 0, none⟩)), (4, .int .i64 (wr64 ((mx (wr64 (1 + t223)) (wr64 (1 + t226))) * 2 ^ (min (Int.toNat (wru64 t229)) 64)))), (5, .int .i64 x240), (36, .pointer (some ⟨B0, 0, none⟩))]) (by kernel_rfl) ?_
            refine t_call (vs := [.pointer (some ⟨B0, 0, none⟩), .int .i64 2]) (H1 := ([⟨B0, [.slice a_m0_0 m0_0.length c_m0_0, .int .i64 x249], 2⟩] : List Own)) (F := (([⟨a241, csa241, na241⟩, ⟨a243, encL E_u84 y244, na243⟩, ⟨a245, csa245, na245⟩, ⟨a247, encL E_u84 y248, na247⟩, ⟨b232, [.int .i64 (wr64 (1 + t223)), .int .i64 (wr64 (1 + t226)), .int .i64 t229, .slice (ad a243) y244.length (na243 / 4), .slice (ad a241) y242.length (na241 / 11)], 5⟩, ⟨b222, [.int .i64 0, .int .i64 0, .int .i64 0, .slice (ad a247) y248.length (na247 / 4), .slice (ad a245) y246.length (na245 / 11)], 5⟩] : List Own) ++ (Fa241 ++ (Fa245 ++ [])))) rfl rfl (by kernel_rfl) (sel_perm (is := [4]) (by kernel_rfl)) (glyphicmake_Seq_Next_v1.ok hE_ h_m0_0 h258) ?_
            rintro _ _ S_ ⟨rfl, rfl, hS_⟩
            obtain rfl := hS_.symm
            refine t_qz 2 [0, 2, 3, 4, 5, 39] (σ' := [(0, .pointer (some ⟨B0, 0, none⟩)), (2, .pointer (some ⟨b222, 0, none⟩)), (3, .pointer (some ⟨b232, 0, none⟩)), (4, .int .i64 (wr64 ((mx (wr64 (1 + t223)) (wr64 (1 + t226))) * 2 ^ (min (Int.toNat (wru64 t229)) 64)))), (5, .int .i64 x240), (39, .agg #[.int .i64 (wr64 (1 + t256)), .int .i64 0, .int .i64 0, .int .i64 0, .int .i64 0, .int .i64 0, .int .i64 0, .int .i64 0, .int .i64 0, .int .i64 0, .slice none 0 0])]) (by kernel_rfl) ?_
            refine t_a (.new rfl rfl) fun b259 fb259 sb259 => ?_
            refine t_sti 0 (cs := [.int .i64 (wr64 (1 + t256)), .int .i64 0, .int .i64 0, .int .i64 0, .int .i64 0, .int .i64 0, .int .i64 0, .int .i64 0, .int .i64 0, .int .i64 0, .slice none 0 0]) rfl rfl rfl rfl rfl rfl rfl rfl rfl ?_
            refine t_keep [0, 2, 3, 4, 5, 6] (σ' := [(0, .pointer (some ⟨B0, 0, none⟩)), (2, .pointer (some ⟨b222, 0, none⟩)), (3, .pointer (some ⟨b232, 0, none⟩)), (4, .int .i64 (wr64 ((mx (wr64 (1 + t223)) (wr64 (1 + t226))) * 2 ^ (min (Int.toNat (wru64 t229)) 64)))), (5, .int .i64 x240), (6, .pointer (some ⟨b259, 0, none⟩))]) (by kernel_rfl) ?_
            refine t_end ?_
            show W _ _ _ _ _ _ _
            obtain ⟨⟨x270, x271, x272⟩, e261, e254⟩ := bind_of e254
            try dsimp only at e254
            refine w_cut [0, 2, 3, 4, 5, 6] (fun σ_ H_ S_ => [(0, .pointer (some ⟨B0, 0, none⟩)), (2, .pointer (some ⟨b222, 0, none⟩)), (3, .pointer (some ⟨b232, 0, none⟩)), (4, .int .i64 (wr64 ((mx (wr64 (1 + t223)) (wr64 (1 + t226))) * 2 ^ (min (Int.toNat (wru64 t229)) 64)))), (5, .int .i64 x240), (6, .pointer (some ⟨b259, 0, none⟩))] = σ_ ∧ (([⟨b259, [.int .i64 (wr64 (1 + t256)), .int .i64 x270, .int .i64 x271, .int .i64 0, .int .i64 0, .int .i64 0, .int .i64 0, .int .i64 0, .int .i64 0, .int .i64 0, .slice none 0 0], 11⟩, ⟨B0, [.slice a_m0_0 m0_0.length c_m0_0, .int .i64 x272], 2⟩, ⟨b232, [.int .i64 (wr64 (1 + t223)), .int .i64 (wr64 (1 + t226)), .int .i64 t229, .slice (ad a243) y244.length (na243 / 4), .slice (ad a241) y242.length (na241 / 11)], 5⟩, ⟨b222, [.int .i64 0, .int .i64 0, .int .i64 0, .slice (ad a247) y248.length (na247 / 4), .slice (ad a245) y246.length (na245 / 11)], 5⟩, ⟨a241, csa241, na241⟩, ⟨a243, encL E_u84 y244, na243⟩, ⟨a245, csa245, na245⟩, ⟨a247, encL E_u84 y248, na247⟩] : List Own) ++ (Fa241 ++ (Fa245 ++ []))) = H_ ∧ S = S_) ?_ ?_
            · show W _ _ _ _ _ _ _
              refine w_seq ?_
              refine w_reg fun all => ?_
              refine t_qz 1 [0, 2, 3, 4, 5, 6, 40] (σ' := [(0, .pointer (some ⟨B0, 0, none⟩)), (2, .pointer (some ⟨b222, 0, none⟩)), (3, .pointer (some ⟨b232, 0, none⟩)), (4, .int .i64 (wr64 ((mx (wr64 (1 + t223)) (wr64 (1 + t226))) * 2 ^ (min (Int.toNat (wru64 t229)) 64)))), (5, .int .i64 x240), (6, .pointer (some ⟨b259, 0, none⟩)), (40, .pointer (some ⟨b259, 0, none⟩))]) (by kernel_rfl) ?_
              refine t_v (.ld1 rfl rfl rfl (.at 0 rfl rfl)) ?_
              by_cases c263 : (wr64 (1 + t256)) = 1
              · rw [if_pos c263] at e261
                have c263b : ((wr64 (1 + t256)) == 1) = true := beq_iff_eq.mpr c263
                refine t_v (dv_quiet rfl (congrArg (fun t => some (Value.bool t)) c263b)) ?_
                refine t_keep [0, 2, 3, 4, 5, 6, 42] (σ' := [(0, .pointer (some ⟨B0, 0, none⟩)), (2, .pointer (some ⟨b222, 0, none⟩)), (3, .pointer (some ⟨b232, 0, none⟩)), (4, .int .i64 (wr64 ((mx (wr64 (1 + t223)) (wr64 (1 + t226))) * 2 ^ (min (Int.toNat (wru64 t229)) 64)))), (5, .int .i64 x240), (6, .pointer (some ⟨b259, 0, none⟩)), (42, .bool true)]) (by kernel_rfl) ?_
                refine t_end ?_
                show W _ _ _ _ _ _ _
                refine w_cond rfl (fun _ => ?_) (fun c_ => by cases c_)
                show W _ _ _ _ _ _ _
                refine w_reg fun all => ?_
                obtain ⟨⟨t264, t265⟩, h266, e261⟩ := bind_of e261
                try dsimp only at e261
                refine t_qz 1 [0, 2, 3, 4, 5, 6, 43] (σ' := [(0, .pointer (some ⟨B0, 0, none⟩)), (2, .pointer (some ⟨b222, 0, none⟩)), (3, .pointer (some ⟨b232, 0, none⟩)), (4, .int .i64 (wr64 ((mx (wr64 (1 + t223)) (wr64 (1 + t226))) * 2 ^ (min (Int.toNat (wru64 t229)) 64)))), (5, .int .i64 x240), (6, .pointer (some ⟨b259, 0, none⟩)), (43, .pointer (some ⟨B0, 0, none⟩))]) (by kernel_rfl) ?_
                refine t_call (vs := [.pointer (some ⟨B0, 0, none⟩), .int .i64 2]) (H1 := ([⟨B0, [.slice a_m0_0 m0_0.length c_m0_0, .int .i64 t257], 2⟩] : List Own)) (F := (([⟨b259, [.int .i64 (wr64 (1 + t256)), .int .i64 0, .int .i64 0, .int .i64 0, .int .i64 0, .int .i64 0, .int .i64 0, .int .i64 0, .int .i64 0, .int .i64 0, .slice none 0 0], 11⟩, ⟨a241, csa241, na241⟩, ⟨a243, encL E_u84 y244, na243⟩, ⟨a245, csa245, na245⟩, ⟨a247, encL E_u84 y248, na247⟩, ⟨b232, [.int .i64 (wr64 (1 + t223)), .int .i64 (wr64 (1 + t226)), .int .i64 t229, .slice (ad a243) y244.length (na243 / 4), .slice (ad a241) y242.length (na241 / 11)], 5⟩, ⟨b222, [.int .i64 0, .int .i64 0, .int .i64 0, .slice (ad a247) y248.length (na247 / 4), .slice (ad a245) y246.length (na245 / 11)], 5⟩] : List Own) ++ (Fa241 ++ (Fa245 ++ [])))) rfl rfl (by kernel_rfl) (sel_perm (is := [1]) (by kernel_rfl)) (glyphicmake_Seq_Next_v1.ok hE_ h_m0_0 h266) ?_
                rintro _ _ S_ ⟨rfl, rfl, hS_⟩
                obtain rfl := hS_.symm
                refine t_qz 1 [0, 2, 3, 4, 5, 6, 44, 45] (σ' := [(0, .pointer (some ⟨B0, 0, none⟩)), (2, .pointer (some ⟨b222, 0, none⟩)), (3, .pointer (some ⟨b232, 0, none⟩)), (4, .int .i64 (wr64 ((mx (wr64 (1 + t223)) (wr64 (1 + t226))) * 2 ^ (min (Int.toNat (wru64 t229)) 64)))), (5, .int .i64 x240), (6, .pointer (some ⟨b259, 0, none⟩)), (44, .int .i64 t264), (45, .pointer (some ⟨b259, 1, none⟩))]) (by kernel_rfl) ?_
                refine t_sti 1 (cs := [.int .i64 (wr64 (1 + t256)), .int .i64 t264, .int .i64 0, .int .i64 0, .int .i64 0, .int .i64 0, .int .i64 0, .int .i64 0, .int .i64 0, .int .i64 0, .slice none 0 0]) rfl rfl rfl rfl rfl rfl rfl rfl rfl ?_
                refine t_keep [0, 2, 3, 4, 5, 6] (σ' := [(0, .pointer (some ⟨B0, 0, none⟩)), (2, .pointer (some ⟨b222, 0, none⟩)), (3, .pointer (some ⟨b232, 0, none⟩)), (4, .int .i64 (wr64 ((mx (wr64 (1 + t223)) (wr64 (1 + t226))) * 2 ^ (min (Int.toNat (wru64 t229)) 64)))), (5, .int .i64 x240), (6, .pointer (some ⟨b259, 0, none⟩))]) (by kernel_rfl) ?_
                refine t_end ?_
                simp only [Option.some.injEq, Prod.mk.injEq] at e261
                obtain ⟨rfl, rfl, rfl⟩ := e261
                exact ⟨(([⟨b259, [.int .i64 (wr64 (1 + t256)), .int .i64 t264, .int .i64 0, .int .i64 0, .int .i64 0, .int .i64 0, .int .i64 0, .int .i64 0, .int .i64 0, .int .i64 0, .slice none 0 0], 11⟩, ⟨B0, [.slice a_m0_0 m0_0.length c_m0_0, .int .i64 t265], 2⟩, ⟨b232, [.int .i64 (wr64 (1 + t223)), .int .i64 (wr64 (1 + t226)), .int .i64 t229, .slice (ad a243) y244.length (na243 / 4), .slice (ad a241) y242.length (na241 / 11)], 5⟩, ⟨b222, [.int .i64 0, .int .i64 0, .int .i64 0, .slice (ad a247) y248.length (na247 / 4), .slice (ad a245) y246.length (na245 / 11)], 5⟩, ⟨a241, csa241, na241⟩, ⟨a243, encL E_u84 y244, na243⟩, ⟨a245, csa245, na245⟩, ⟨a247, encL E_u84 y248, na247⟩] : List Own) ++ (Fa241 ++ (Fa245 ++ []))), S, VS.selT 8 [1, 0, 4, 4, 0, 0, 0, 0] (by kernel_rfl), by kernel_rfl, rfl, rfl⟩
              · rw [if_neg c263] at e261
                have c263b : ((wr64 (1 + t256)) == 1) = false := beq_eq_false_iff_ne.mpr c263
                refine t_v (dv_quiet rfl (congrArg (fun t => some (Value.bool t)) c263b)) ?_
                refine t_keep [0, 2, 3, 4, 5, 6, 42] (σ' := [(0, .pointer (some ⟨B0, 0, none⟩)), (2, .pointer (some ⟨b222, 0, none⟩)), (3, .pointer (some ⟨b232, 0, none⟩)), (4, .int .i64 (wr64 ((mx (wr64 (1 + t223)) (wr64 (1 + t226))) * 2 ^ (min (Int.toNat (wru64 t229)) 64)))), (5, .int .i64 x240), (6, .pointer (some ⟨b259, 0, none⟩)), (42, .bool false)]) (by kernel_rfl) ?_
                refine t_end ?_
                show W _ _ _ _ _ _ _
                refine w_cond rfl (fun c_ => by cases c_) (fun _ => ?_)
                show W _ _ _ _ _ _ _
                refine w_reg fun all => ?_
                obtain ⟨⟨t267, t268⟩, h269, e261⟩ := bind_of e261
                try dsimp only at e261
                refine t_qz 4 [0, 2, 3, 4, 5, 6, 46, 49] (σ' := [(0, .pointer (some ⟨B0, 0, none⟩)), (2, .pointer (some ⟨b222, 0, none⟩)), (3, .pointer (some ⟨b232, 0, none⟩)), (4, .int .i64 (wr64 ((mx (wr64 (1 + t223)) (wr64 (1 + t226))) * 2 ^ (min (Int.toNat (wru64 t229)) 64)))), (5, .int .i64 x240), (6, .pointer (some ⟨b259, 0, none⟩)), (46, .pointer (some ⟨B0, 0, none⟩)), (49, .int .i64 (mx (wr64 (Int.tdiv (wr64 ((mx (wr64 (1 + t223)) (wr64 (1 + t226))) * 2 ^ (min (Int.toNat (wru64 t229)) 64))) 2)) 1))]) (by kernel_rfl) ?_
                refine t_call (vs := [.pointer (some ⟨B0, 0, none⟩), .int .i64 (mx (wr64 (Int.tdiv (wr64 ((mx (wr64 (1 + t223)) (wr64 (1 + t226))) * 2 ^ (min (Int.toNat (wru64 t229)) 64))) 2)) 1)]) (H1 := ([⟨B0, [.slice a_m0_0 m0_0.length c_m0_0, .int .i64 t257], 2⟩] : List Own)) (F := (([⟨b259, [.int .i64 (wr64 (1 + t256)), .int .i64 0, .int .i64 0, .int .i64 0, .int .i64 0, .int .i64 0, .int .i64 0, .int .i64 0, .int .i64 0, .int .i64 0, .slice none 0 0], 11⟩, ⟨a241, csa241, na241⟩, ⟨a243, encL E_u84 y244, na243⟩, ⟨a245, csa245, na245⟩, ⟨a247, encL E_u84 y248, na247⟩, ⟨b232, [.int .i64 (wr64 (1 + t223)), .int .i64 (wr64 (1 + t226)), .int .i64 t229, .slice (ad a243) y244.length (na243 / 4), .slice (ad a241) y242.length (na241 / 11)], 5⟩, ⟨b222, [.int .i64 0, .int .i64 0, .int .i64 0, .slice (ad a247) y248.length (na247 / 4), .slice (ad a245) y246.length (na245 / 11)], 5⟩] : List Own) ++ (Fa241 ++ (Fa245 ++ [])))) rfl rfl (by kernel_rfl) (sel_perm (is := [1]) (by kernel_rfl)) (glyphicmake_Seq_Next_v1.ok hE_ h_m0_0 h269) ?_
                rintro _ _ S_ ⟨rfl, rfl, hS_⟩
                obtain rfl := hS_.symm
                refine t_qz 2 [0, 2, 3, 4, 5, 6, 51, 52] (σ' := [(0, .pointer (some ⟨B0, 0, none⟩)), (2, .pointer (some ⟨b222, 0, none⟩)), (3, .pointer (some ⟨b232, 0, none⟩)), (4, .int .i64 (wr64 ((mx (wr64 (1 + t223)) (wr64 (1 + t226))) * 2 ^ (min (Int.toNat (wru64 t229)) 64)))), (5, .int .i64 x240), (6, .pointer (some ⟨b259, 0, none⟩)), (51, .int .i64 (wr64 (1 + t267))), (52, .pointer (some ⟨b259, 2, none⟩))]) (by kernel_rfl) ?_
                refine t_sti 1 (cs := [.int .i64 (wr64 (1 + t256)), .int .i64 0, .int .i64 (wr64 (1 + t267)), .int .i64 0, .int .i64 0, .int .i64 0, .int .i64 0, .int .i64 0, .int .i64 0, .int .i64 0, .slice none 0 0]) rfl rfl rfl rfl rfl rfl rfl rfl rfl ?_
                refine t_keep [0, 2, 3, 4, 5, 6] (σ' := [(0, .pointer (some ⟨B0, 0, none⟩)), (2, .pointer (some ⟨b222, 0, none⟩)), (3, .pointer (some ⟨b232, 0, none⟩)), (4, .int .i64 (wr64 ((mx (wr64 (1 + t223)) (wr64 (1 + t226))) * 2 ^ (min (Int.toNat (wru64 t229)) 64)))), (5, .int .i64 x240), (6, .pointer (some ⟨b259, 0, none⟩))]) (by kernel_rfl) ?_
                refine t_end ?_
                simp only [Option.some.injEq, Prod.mk.injEq] at e261
                obtain ⟨rfl, rfl, rfl⟩ := e261
                exact ⟨(([⟨b259, [.int .i64 (wr64 (1 + t256)), .int .i64 0, .int .i64 (wr64 (1 + t267)), .int .i64 0, .int .i64 0, .int .i64 0, .int .i64 0, .int .i64 0, .int .i64 0, .int .i64 0, .slice none 0 0], 11⟩, ⟨B0, [.slice a_m0_0 m0_0.length c_m0_0, .int .i64 t268], 2⟩, ⟨b232, [.int .i64 (wr64 (1 + t223)), .int .i64 (wr64 (1 + t226)), .int .i64 t229, .slice (ad a243) y244.length (na243 / 4), .slice (ad a241) y242.length (na241 / 11)], 5⟩, ⟨b222, [.int .i64 0, .int .i64 0, .int .i64 0, .slice (ad a247) y248.length (na247 / 4), .slice (ad a245) y246.length (na245 / 11)], 5⟩, ⟨a241, csa241, na241⟩, ⟨a243, encL E_u84 y244, na243⟩, ⟨a245, csa245, na245⟩, ⟨a247, encL E_u84 y248, na247⟩] : List Own) ++ (Fa241 ++ (Fa245 ++ []))), S, VS.selT 8 [1, 0, 4, 4, 0, 0, 0, 0] (by kernel_rfl), by kernel_rfl, rfl, rfl⟩
            · rintro σ_ H_ S_ ⟨rfl, rfl, rfl⟩
              refine w_seq ?_
              refine w_reg fun all => ?_
              obtain ⟨⟨t273, t274⟩, h275, e254⟩ := bind_of e254
              try dsimp only at e254
              refine t_qz 1 [0, 2, 3, 4, 5, 6, 53] (σ' := [(0, .pointer (some ⟨B0, 0, none⟩)), (2, .pointer (some ⟨b222, 0, none⟩)), (3, .pointer (some ⟨b232, 0, none⟩)), (4, .int .i64 (wr64 ((mx (wr64 (1 + t223)) (wr64 (1 + t226))) * 2 ^ (min (Int.toNat (wru64 t229)) 64)))), (5, .int .i64 x240), (6, .pointer (some ⟨b259, 0, none⟩)), (53, .pointer (some ⟨B0, 0, none⟩))]) (by kernel_rfl) ?_
              refine t_call (vs := [.pointer (some ⟨B0, 0, none⟩), .int .i64 3]) (H1 := ([⟨B0, [.slice a_m0_0 m0_0.length c_m0_0, .int .i64 x272], 2⟩] : List Own)) (F := (([⟨b259, [.int .i64 (wr64 (1 + t256)), .int .i64 x270, .int .i64 x271, .int .i64 0, .int .i64 0, .int .i64 0, .int .i64 0, .int .i64 0, .int .i64 0, .int .i64 0, .slice none 0 0], 11⟩, ⟨b232, [.int .i64 (wr64 (1 + t223)), .int .i64 (wr64 (1 + t226)), .int .i64 t229, .slice (ad a243) y244.length (na243 / 4), .slice (ad a241) y242.length (na241 / 11)], 5⟩, ⟨b222, [.int .i64 0, .int .i64 0, .int .i64 0, .slice (ad a247) y248.length (na247 / 4), .slice (ad a245) y246.length (na245 / 11)], 5⟩, ⟨a241, csa241, na241⟩, ⟨a243, encL E_u84 y244, na243⟩, ⟨a245, csa245, na245⟩, ⟨a247, encL E_u84 y248, na247⟩] : List Own) ++ (Fa241 ++ (Fa245 ++ [])))) rfl rfl (by kernel_rfl) (sel_perm (is := [1]) (by kernel_rfl)) (glyphicmake_Seq_Next_v1.ok hE_ h_m0_0 h275) ?_
              rintro _ _ S_ ⟨rfl, rfl, hS_⟩
              obtain rfl := hS_.symm
              refine t_qz 2 [0, 2, 3, 4, 5, 6, 54, 56] (σ' := [(0, .pointer (some ⟨B0, 0, none⟩)), (2, .pointer (some ⟨b222, 0, none⟩)), (3, .pointer (some ⟨b232, 0, none⟩)), (4, .int .i64 (wr64 ((mx (wr64 (1 + t223)) (wr64 (1 + t226))) * 2 ^ (min (Int.toNat (wru64 t229)) 64)))), (5, .int .i64 x240), (6, .pointer (some ⟨b259, 0, none⟩)), (54, .int .i64 t273), (56, .pointer (some ⟨b259, 3, none⟩))]) (by kernel_rfl) ?_
              refine t_sti 1 (cs := [.int .i64 (wr64 (1 + t256)), .int .i64 x270, .int .i64 x271, .int .i64 t273, .int .i64 0, .int .i64 0, .int .i64 0, .int .i64 0, .int .i64 0, .int .i64 0, .slice none 0 0]) rfl rfl rfl rfl rfl rfl rfl rfl rfl ?_
              refine t_keep [0, 2, 3, 4, 5, 6] (σ' := [(0, .pointer (some ⟨B0, 0, none⟩)), (2, .pointer (some ⟨b222, 0, none⟩)), (3, .pointer (some ⟨b232, 0, none⟩)), (4, .int .i64 (wr64 ((mx (wr64 (1 + t223)) (wr64 (1 + t226))) * 2 ^ (min (Int.toNat (wru64 t229)) 64)))), (5, .int .i64 x240), (6, .pointer (some ⟨b259, 0, none⟩))]) (by kernel_rfl) ?_
              refine t_end ?_
              show W _ _ _ _ _ _ _
              refine w_seq ?_
              refine w_reg fun all => ?_
              obtain ⟨⟨t276, t277, t278, t279, t280⟩, h281, e254⟩ := bind_of e254
              try dsimp only at e254
              refine t_qz 1 [0, 2, 3, 4, 5, 6, 57] (σ' := [(0, .pointer (some ⟨B0, 0, none⟩)), (2, .pointer (some ⟨b222, 0, none⟩)), (3, .pointer (some ⟨b232, 0, none⟩)), (4, .int .i64 (wr64 ((mx (wr64 (1 + t223)) (wr64 (1 + t226))) * 2 ^ (min (Int.toNat (wru64 t229)) 64)))), (5, .int .i64 x240), (6, .pointer (some ⟨b259, 0, none⟩)), (57, .pointer (some ⟨B0, 0, none⟩))]) (by kernel_rfl) ?_
              refine t_call (vs := [.pointer (some ⟨B0, 0, none⟩)]) (H1 := ([⟨B0, [.slice a_m0_0 m0_0.length c_m0_0, .int .i64 t274], 2⟩] : List Own)) (F := (([⟨b259, [.int .i64 (wr64 (1 + t256)), .int .i64 x270, .int .i64 x271, .int .i64 t273, .int .i64 0, .int .i64 0, .int .i64 0, .int .i64 0, .int .i64 0, .int .i64 0, .slice none 0 0], 11⟩, ⟨b232, [.int .i64 (wr64 (1 + t223)), .int .i64 (wr64 (1 + t226)), .int .i64 t229, .slice (ad a243) y244.length (na243 / 4), .slice (ad a241) y242.length (na241 / 11)], 5⟩, ⟨b222, [.int .i64 0, .int .i64 0, .int .i64 0, .slice (ad a247) y248.length (na247 / 4), .slice (ad a245) y246.length (na245 / 11)], 5⟩, ⟨a241, csa241, na241⟩, ⟨a243, encL E_u84 y244, na243⟩, ⟨a245, csa245, na245⟩, ⟨a247, encL E_u84 y248, na247⟩] : List Own) ++ (Fa241 ++ (Fa245 ++ [])))) rfl rfl (by kernel_rfl) (sel_perm (is := [0]) (by kernel_rfl)) (glyphicmake_Color_v1.ok hE_ h_m0_0 h281) ?_
              rintro _ _ S_ ⟨rfl, rfl, hS_⟩
              obtain rfl := hS_.symm
              obtain ⟨⟨t282, t283⟩, h284, e254⟩ := bind_of e254
              try dsimp only at e254
              refine t_call (vs := [.pointer (some ⟨b232, 0, none⟩), .agg #[.int .u8 t276, .int .u8 t277, .int .u8 t278, .int .u8 t279]]) (H1 := ([⟨b232, [.int .i64 (wr64 (1 + t223)), .int .i64 (wr64 (1 + t226)), .int .i64 t229, .slice (ad a243) y244.length (na243 / 4), .slice (ad a241) y242.length (na241 / 11)], 5⟩, ⟨a243, encL E_u84 y244, na243⟩] : List Own)) (F := (([⟨B0, [.slice a_m0_0 m0_0.length c_m0_0, .int .i64 t280], 2⟩, ⟨b259, [.int .i64 (wr64 (1 + t256)), .int .i64 x270, .int .i64 x271, .int .i64 t273, .int .i64 0, .int .i64 0, .int .i64 0, .int .i64 0, .int .i64 0, .int .i64 0, .slice none 0 0], 11⟩, ⟨b222, [.int .i64 0, .int .i64 0, .int .i64 0, .slice (ad a247) y248.length (na247 / 4), .slice (ad a245) y246.length (na245 / 11)], 5⟩, ⟨a241, csa241, na241⟩, ⟨a245, csa245, na245⟩, ⟨a247, encL E_u84 y248, na247⟩] : List Own) ++ (Fa241 ++ (Fa245 ++ [])))) rfl rfl (by kernel_rfl) (sel_perm (is := [2, 4]) (by kernel_rfl)) (glyphicmake_add_v1.ok hE_ h284) ?_
              rintro _ _ S_ ⟨N285, nN285, rfl, rfl, hS_⟩
              obtain rfl := hS_.symm
              refine t_qz 2 [0, 2, 3, 4, 5, 6, 59, 61] (σ' := [(0, .pointer (some ⟨B0, 0, none⟩)), (2, .pointer (some ⟨b222, 0, none⟩)), (3, .pointer (some ⟨b232, 0, none⟩)), (4, .int .i64 (wr64 ((mx (wr64 (1 + t223)) (wr64 (1 + t226))) * 2 ^ (min (Int.toNat (wru64 t229)) 64)))), (5, .int .i64 x240), (6, .pointer (some ⟨b259, 0, none⟩)), (59, .int .i64 t282), (61, .pointer (some ⟨b259, 4, none⟩))]) (by kernel_rfl) ?_
              refine t_sti 3 (cs := [.int .i64 (wr64 (1 + t256)), .int .i64 x270, .int .i64 x271, .int .i64 t273, .int .i64 t282, .int .i64 0, .int .i64 0, .int .i64 0, .int .i64 0, .int .i64 0, .slice none 0 0]) rfl rfl rfl rfl rfl rfl rfl rfl rfl ?_
              refine t_keep [0, 2, 3, 4, 5, 6] (σ' := [(0, .pointer (some ⟨B0, 0, none⟩)), (2, .pointer (some ⟨b222, 0, none⟩)), (3, .pointer (some ⟨b232, 0, none⟩)), (4, .int .i64 (wr64 ((mx (wr64 (1 + t223)) (wr64 (1 + t226))) * 2 ^ (min (Int.toNat (wru64 t229)) 64)))), (5, .int .i64 x240), (6, .pointer (some ⟨b259, 0, none⟩))]) (by kernel_rfl) ?_
              refine t_end ?_
              show W _ _ _ _ _ _ _
              obtain ⟨⟨y305, x306, x307, x308, x309⟩, e287, e254⟩ := bind_of e254
              try dsimp only at e254
              refine w_cut [0, 2, 3, 4, 5, 6] (fun σ_ H_ S_ => ∃ (a304 : Option Nat) (na304 : Nat), [(0, .pointer (some ⟨B0, 0, none⟩)), (2, .pointer (some ⟨b222, 0, none⟩)), (3, .pointer (some ⟨b232, 0, none⟩)), (4, .int .i64 (wr64 ((mx (wr64 (1 + t223)) (wr64 (1 + t226))) * 2 ^ (min (Int.toNat (wru64 t229)) 64)))), (5, .int .i64 x240), (6, .pointer (some ⟨b259, 0, none⟩))] = σ_ ∧ (([⟨b232, [.int .i64 (wr64 (1 + t223)), .int .i64 (wr64 (1 + t226)), .int .i64 t229, .slice (ad a304) y305.length (na304 / 4), .slice (ad a241) y242.length (na241 / 11)], 5⟩, ⟨B0, [.slice a_m0_0 m0_0.length c_m0_0, .int .i64 x306], 2⟩, ⟨b259, [.int .i64 (wr64 (1 + t256)), .int .i64 x270, .int .i64 x271, .int .i64 t273, .int .i64 t282, .int .i64 x307, .int .i64 x308, .int .i64 x309, .int .i64 0, .int .i64 0, .slice none 0 0], 11⟩, ⟨b222, [.int .i64 0, .int .i64 0, .int .i64 0, .slice (ad a247) y248.length (na247 / 4), .slice (ad a245) y246.length (na245 / 11)], 5⟩, ⟨a304, encL E_u84 y305, na304⟩, ⟨a241, csa241, na241⟩, ⟨a247, encL E_u84 y248, na247⟩, ⟨a245, csa245, na245⟩] : List Own) ++ (Fa241 ++ (Fa245 ++ []))) = H_ ∧ S = S_) ?_ ?_
              · show W _ _ _ _ _ _ _
                refine w_seq ?_
                refine w_reg fun all => ?_
                refine t_qz 2 [0, 2, 3, 4, 5, 6, 63] (σ' := [(0, .pointer (some ⟨B0, 0, none⟩)), (2, .pointer (some ⟨b222, 0, none⟩)), (3, .pointer (some ⟨b232, 0, none⟩)), (4, .int .i64 (wr64 ((mx (wr64 (1 + t223)) (wr64 (1 + t226))) * 2 ^ (min (Int.toNat (wru64 t229)) 64)))), (5, .int .i64 x240), (6, .pointer (some ⟨b259, 0, none⟩)), (63, .pointer (some ⟨b259, 3, none⟩))]) (by kernel_rfl) ?_
                refine t_v (.ld1 rfl rfl rfl (.at 3 rfl rfl)) ?_
                by_cases c289 : t273 = 0
                · rw [if_pos c289] at e287
                  have c289b : (t273 == 0) = true := beq_iff_eq.mpr c289
                  refine t_v (dv_quiet rfl (congrArg (fun t => some (Value.bool (!t))) c289b)) ?_
                  refine t_keep [0, 2, 3, 4, 5, 6, 65] (σ' := [(0, .pointer (some ⟨B0, 0, none⟩)), (2, .pointer (some ⟨b222, 0, none⟩)), (3, .pointer (some ⟨b232, 0, none⟩)), (4, .int .i64 (wr64 ((mx (wr64 (1 + t223)) (wr64 (1 + t226))) * 2 ^ (min (Int.toNat (wru64 t229)) 64)))), (5, .int .i64 x240), (6, .pointer (some ⟨b259, 0, none⟩)), (65, .bool false)]) (by kernel_rfl) ?_
                  refine t_end ?_
                  show W _ _ _ _ _ _ _
                  refine w_cond rfl (fun c_ => by cases c_) (fun _ => ?_)
                  show W _ _ _ _ _ _ _
                  refine w_skip ?_
                  simp only [Option.some.injEq, Prod.mk.injEq] at e287
                  obtain ⟨rfl, rfl, rfl, rfl, rfl⟩ := e287
                  exact ⟨(([⟨b232, [.int .i64 (wr64 (1 + t223)), .int .i64 (wr64 (1 + t226)), .int .i64 t229, .slice (ad N285) t283.length (nN285 / 4), .slice (ad a241) y242.length (na241 / 11)], 5⟩, ⟨B0, [.slice a_m0_0 m0_0.length c_m0_0, .int .i64 t280], 2⟩, ⟨b259, [.int .i64 (wr64 (1 + t256)), .int .i64 x270, .int .i64 x271, .int .i64 t273, .int .i64 t282, .int .i64 0, .int .i64 0, .int .i64 0, .int .i64 0, .int .i64 0, .slice none 0 0], 11⟩, ⟨b222, [.int .i64 0, .int .i64 0, .int .i64 0, .slice (ad a247) y248.length (na247 / 4), .slice (ad a245) y246.length (na245 / 11)], 5⟩, ⟨N285, encL E_u84 t283, nN285⟩, ⟨a241, csa241, na241⟩, ⟨a247, encL E_u84 y248, na247⟩, ⟨a245, csa245, na245⟩] : List Own) ++ (Fa241 ++ (Fa245 ++ []))), S, VS.selT 8 [1, 1, 1, 1, 0, 0, 1, 0] (by kernel_rfl), N285, nN285, by kernel_rfl, rfl, rfl⟩
                · rw [if_neg c289] at e287
                  have c289b : (t273 == 0) = false := beq_eq_false_iff_ne.mpr c289
                  refine t_v (dv_quiet rfl (congrArg (fun t => some (Value.bool (!t))) c289b)) ?_
                  refine t_keep [0, 2, 3, 4, 5, 6, 65] (σ' := [(0, .pointer (some ⟨B0, 0, none⟩)), (2, .pointer (some ⟨b222, 0, none⟩)), (3, .pointer (some ⟨b232, 0, none⟩)), (4, .int .i64 (wr64 ((mx (wr64 (1 + t223)) (wr64 (1 + t226))) * 2 ^ (min (Int.toNat (wru64 t229)) 64)))), (5, .int .i64 x240), (6, .pointer (some ⟨b259, 0, none⟩)), (65, .bool true)]) (by kernel_rfl) ?_
                  refine t_end ?_
                  show W _ _ _ _ _ _ _
                  refine w_cond rfl (fun _ => ?_) (fun c_ => by cases c_)
                  show W _ _ _ _ _ _ _
                  refine w_seq ?_
                  refine w_reg fun all => ?_
                  obtain ⟨⟨t290, t291, t292, t293, t294⟩, h295, e287⟩ := bind_of e287
                  try dsimp only at e287
                  refine t_qz 1 [0, 2, 3, 4, 5, 6, 66] (σ' := [(0, .pointer (some ⟨B0, 0, none⟩)), (2, .pointer (some ⟨b222, 0, none⟩)), (3, .pointer (some ⟨b232, 0, none⟩)), (4, .int .i64 (wr64 ((mx (wr64 (1 + t223)) (wr64 (1 + t226))) * 2 ^ (min (Int.toNat (wru64 t229)) 64)))), (5, .int .i64 x240), (6, .pointer (some ⟨b259, 0, none⟩)), (66, .pointer (some ⟨B0, 0, none⟩))]) (by kernel_rfl) ?_
                  refine t_call (vs := [.pointer (some ⟨B0, 0, none⟩)]) (H1 := ([⟨B0, [.slice a_m0_0 m0_0.length c_m0_0, .int .i64 t280], 2⟩] : List Own)) (F := (([⟨N285, encL E_u84 t283, nN285⟩, ⟨b232, [.int .i64 (wr64 (1 + t223)), .int .i64 (wr64 (1 + t226)), .int .i64 t229, .slice (ad N285) t283.length (nN285 / 4), .slice (ad a241) y242.length (na241 / 11)], 5⟩, ⟨b259, [.int .i64 (wr64 (1 + t256)), .int .i64 x270, .int .i64 x271, .int .i64 t273, .int .i64 t282, .int .i64 0, .int .i64 0, .int .i64 0, .int .i64 0, .int .i64 0, .slice none 0 0], 11⟩, ⟨b222, [.int .i64 0, .int .i64 0, .int .i64 0, .slice (ad a247) y248.length (na247 / 4), .slice (ad a245) y246.length (na245 / 11)], 5⟩, ⟨a241, csa241, na241⟩, ⟨a245, csa245, na245⟩, ⟨a247, encL E_u84 y248, na247⟩] : List Own) ++ (Fa241 ++ (Fa245 ++ [])))) rfl rfl (by kernel_rfl) (sel_perm (is := [2]) (by kernel_rfl)) (glyphicmake_Color_v1.ok hE_ h_m0_0 h295) ?_
                  rintro _ _ S_ ⟨rfl, rfl, hS_⟩
                  obtain rfl := hS_.symm
                  obtain ⟨⟨t296, t297⟩, h298, e287⟩ := bind_of e287
                  try dsimp only at e287
                  refine t_call (vs := [.pointer (some ⟨b232, 0, none⟩), .agg #[.int .u8 t290, .int .u8 t291, .int .u8 t292, .int .u8 t293]]) (H1 := ([⟨b232, [.int .i64 (wr64 (1 + t223)), .int .i64 (wr64 (1 + t226)), .int .i64 t229, .slice (ad N285) t283.length (nN285 / 4), .slice (ad a241) y242.length (na241 / 11)], 5⟩, ⟨N285, encL E_u84 t283, nN285⟩] : List Own)) (F := (([⟨B0, [.slice a_m0_0 m0_0.length c_m0_0, .int .i64 t294], 2⟩, ⟨b259, [.int .i64 (wr64 (1 + t256)), .int .i64 x270, .int .i64 x271, .int .i64 t273, .int .i64 t282, .int .i64 0, .int .i64 0, .int .i64 0, .int .i64 0, .int .i64 0, .slice none 0 0], 11⟩, ⟨b222, [.int .i64 0, .int .i64 0, .int .i64 0, .slice (ad a247) y248.length (na247 / 4), .slice (ad a245) y246.length (na245 / 11)], 5⟩, ⟨a241, csa241, na241⟩, ⟨a245, csa245, na245⟩, ⟨a247, encL E_u84 y248, na247⟩] : List Own) ++ (Fa241 ++ (Fa245 ++ [])))) rfl rfl (by kernel_rfl) (sel_perm (is := [2, 1]) (by kernel_rfl)) (glyphicmake_add_v1.ok hE_ h298) ?_
                  rintro _ _ S_ ⟨N299, nN299, rfl, rfl, hS_⟩
                  obtain rfl := hS_.symm
                  refine t_qz 2 [0, 2, 3, 4, 5, 6, 68, 70] (σ' := [(0, .pointer (some ⟨B0, 0, none⟩)), (2, .pointer (some ⟨b222, 0, none⟩)), (3, .pointer (some ⟨b232, 0, none⟩)), (4, .int .i64 (wr64 ((mx (wr64 (1 + t223)) (wr64 (1 + t226))) * 2 ^ (min (Int.toNat (wru64 t229)) 64)))), (5, .int .i64 x240), (6, .pointer (some ⟨b259, 0, none⟩)), (68, .int .i64 t296), (70, .pointer (some ⟨b259, 5, none⟩))]) (by kernel_rfl) ?_
                  refine t_sti 3 (cs := [.int .i64 (wr64 (1 + t256)), .int .i64 x270, .int .i64 x271, .int .i64 t273, .int .i64 t282, .int .i64 t296, .int .i64 0, .int .i64 0, .int .i64 0, .int .i64 0, .slice none 0 0]) rfl rfl rfl rfl rfl rfl rfl rfl rfl ?_
                  refine t_keep [0, 2, 3, 4, 5, 6] (σ' := [(0, .pointer (some ⟨B0, 0, none⟩)), (2, .pointer (some ⟨b222, 0, none⟩)), (3, .pointer (some ⟨b232, 0, none⟩)), (4, .int .i64 (wr64 ((mx (wr64 (1 + t223)) (wr64 (1 + t226))) * 2 ^ (min (Int.toNat (wru64 t229)) 64)))), (5, .int .i64 x240), (6, .pointer (some ⟨b259, 0, none⟩))]) (by kernel_rfl) ?_
                  refine t_end ?_
                  show W _ _ _ _ _ _ _
                  refine w_reg fun all => ?_
                  obtain ⟨⟨t300, t301, t302⟩, h303, e287⟩ := bind_of e287
                  try dsimp only at e287
                  refine t_qz 2 [0, 2, 3, 4, 5, 6, 71, 72] (σ' := [(0, .pointer (some ⟨B0, 0, none⟩)), (2, .pointer (some ⟨b222, 0, none⟩)), (3, .pointer (some ⟨b232, 0, none⟩)), (4, .int .i64 (wr64 ((mx (wr64 (1 + t223)) (wr64 (1 + t226))) * 2 ^ (min (Int.toNat (wru64 t229)) 64)))), (5, .int .i64 x240), (6, .pointer (some ⟨b259, 0, none⟩)), (71, .pointer (some ⟨B0, 0, none⟩)), (72, .int .i64 (wr64 ((mx (wr64 (1 + t223)) (wr64 (1 + t226))) * 2 ^ (min (Int.toNat (wru64 t229)) 64))))]) (by kernel_rfl) ?_
                  refine t_call (vs := [.pointer (some ⟨B0, 0, none⟩), .int .i64 (wr64 ((mx (wr64 (1 + t223)) (wr64 (1 + t226))) * 2 ^ (min (Int.toNat (wru64 t229)) 64)))]) (H1 := ([⟨B0, [.slice a_m0_0 m0_0.length c_m0_0, .int .i64 t294], 2⟩] : List Own)) (F := (([⟨N299, encL E_u84 t297, nN299⟩, ⟨b232, [.int .i64 (wr64 (1 + t223)), .int .i64 (wr64 (1 + t226)), .int .i64 t229, .slice (ad N299) t297.length (nN299 / 4), .slice (ad a241) y242.length (na241 / 11)], 5⟩, ⟨b259, [.int .i64 (wr64 (1 + t256)), .int .i64 x270, .int .i64 x271, .int .i64 t273, .int .i64 t282, .int .i64 t296, .int .i64 0, .int .i64 0, .int .i64 0, .int .i64 0, .slice none 0 0], 11⟩, ⟨b222, [.int .i64 0, .int .i64 0, .int .i64 0, .slice (ad a247) y248.length (na247 / 4), .slice (ad a245) y246.length (na245 / 11)], 5⟩, ⟨a241, csa241, na241⟩, ⟨a245, csa245, na245⟩, ⟨a247, encL E_u84 y248, na247⟩] : List Own) ++ (Fa241 ++ (Fa245 ++ [])))) rfl rfl (by kernel_rfl) (sel_perm (is := [2]) (by kernel_rfl)) (glyphicmake_Point_v1.ok hE_ h_m0_0 h303) ?_
                  rintro _ _ S_ ⟨rfl, rfl, hS_⟩
                  obtain rfl := hS_.symm
                  refine t_qz 2 [0, 2, 3, 4, 5, 6, 73, 75] (σ' := [(0, .pointer (some ⟨B0, 0, none⟩)), (2, .pointer (some ⟨b222, 0, none⟩)), (3, .pointer (some ⟨b232, 0, none⟩)), (4, .int .i64 (wr64 ((mx (wr64 (1 + t223)) (wr64 (1 + t226))) * 2 ^ (min (Int.toNat (wru64 t229)) 64)))), (5, .int .i64 x240), (6, .pointer (some ⟨b259, 0, none⟩)), (73, .agg #[.int .i64 t300, .int .i64 t301]), (75, .pointer (some ⟨b259, 6, none⟩))]) (by kernel_rfl) ?_
                  refine t_sti 3 (cs := [.int .i64 (wr64 (1 + t256)), .int .i64 x270, .int .i64 x271, .int .i64 t273, .int .i64 t282, .int .i64 t296, .int .i64 t300, .int .i64 t301, .int .i64 0, .int .i64 0, .slice none 0 0]) rfl rfl rfl rfl rfl rfl rfl rfl rfl ?_
                  refine t_keep [0, 2, 3, 4, 5, 6] (σ' := [(0, .pointer (some ⟨B0, 0, none⟩)), (2, .pointer (some ⟨b222, 0, none⟩)), (3, .pointer (some ⟨b232, 0, none⟩)), (4, .int .i64 (wr64 ((mx (wr64 (1 + t223)) (wr64 (1 + t226))) * 2 ^ (min (Int.toNat (wru64 t229)) 64)))), (5, .int .i64 x240), (6, .pointer (some ⟨b259, 0, none⟩))]) (by kernel_rfl) ?_
                  refine t_end ?_
                  simp only [Option.some.injEq, Prod.mk.injEq] at e287
                  obtain ⟨rfl, rfl, rfl, rfl, rfl⟩ := e287
                  exact ⟨(([⟨b232, [.int .i64 (wr64 (1 + t223)), .int .i64 (wr64 (1 + t226)), .int .i64 t229, .slice (ad N299) t297.length (nN299 / 4), .slice (ad a241) y242.length (na241 / 11)], 5⟩, ⟨B0, [.slice a_m0_0 m0_0.length c_m0_0, .int .i64 t302], 2⟩, ⟨b259, [.int .i64 (wr64 (1 + t256)), .int .i64 x270, .int .i64 x271, .int .i64 t273, .int .i64 t282, .int .i64 t296, .int .i64 t300, .int .i64 t301, .int .i64 0, .int .i64 0, .slice none 0 0], 11⟩, ⟨b222, [.int .i64 0, .int .i64 0, .int .i64 0, .slice (ad a247) y248.length (na247 / 4), .slice (ad a245) y246.length (na245 / 11)], 5⟩, ⟨N299, encL E_u84 t297, nN299⟩, ⟨a241, csa241, na241⟩, ⟨a247, encL E_u84 y248, na247⟩, ⟨a245, csa245, na245⟩] : List Own) ++ (Fa241 ++ (Fa245 ++ []))), S, VS.selT 8 [2, 0, 1, 1, 0, 0, 1, 0] (by kernel_rfl), N299, nN299, by kernel_rfl, rfl, rfl⟩
              · rintro σ_ H_ S_ ⟨a304, na304, rfl, rfl, rfl⟩
                obtain ⟨⟨x320, x321, x322⟩, e311, e254⟩ := bind_of e254
                try dsimp only at e254
                refine w_cut [0, 2, 3, 4, 5, 6] (fun σ_ H_ S_ => [(0, .pointer (some ⟨B0, 0, none⟩)), (2, .pointer (some ⟨b222, 0, none⟩)), (3, .pointer (some ⟨b232, 0, none⟩)), (4, .int .i64 (wr64 ((mx (wr64 (1 + t223)) (wr64 (1 + t226))) * 2 ^ (min (Int.toNat (wru64 t229)) 64)))), (5, .int .i64 x240), (6, .pointer (some ⟨b259, 0, none⟩))] = σ_ ∧ (([⟨b232, [.int .i64 (wr64 (1 + t223)), .int .i64 (wr64 (1 + t226)), .int .i64 t229, .slice (ad a304) y305.length (na304 / 4), .slice (ad a241) y242.length (na241 / 11)], 5⟩, ⟨B0, [.slice a_m0_0 m0_0.length c_m0_0, .int .i64 x320], 2⟩, ⟨b259, [.int .i64 (wr64 (1 + t256)), .int .i64 x270, .int .i64 x271, .int .i64 t273, .int .i64 t282, .int .i64 x307, .int .i64 x308, .int .i64 x309, .int .i64 x321, .int .i64 x322, .slice none 0 0], 11⟩, ⟨b222, [.int .i64 0, .int .i64 0, .int .i64 0, .slice (ad a247) y248.length (na247 / 4), .slice (ad a245) y246.length (na245 / 11)], 5⟩, ⟨a304, encL E_u84 y305, na304⟩, ⟨a241, csa241, na241⟩, ⟨a247, encL E_u84 y248, na247⟩, ⟨a245, csa245, na245⟩] : List Own) ++ (Fa241 ++ (Fa245 ++ []))) = H_ ∧ S = S_) ?_ ?_
                · show W _ _ _ _ _ _ _
                  refine w_seq ?_
                  refine w_reg fun all => ?_
                  refine t_qz 2 [0, 2, 3, 4, 5, 6, 77] (σ' := [(0, .pointer (some ⟨B0, 0, none⟩)), (2, .pointer (some ⟨b222, 0, none⟩)), (3, .pointer (some ⟨b232, 0, none⟩)), (4, .int .i64 (wr64 ((mx (wr64 (1 + t223)) (wr64 (1 + t226))) * 2 ^ (min (Int.toNat (wru64 t229)) 64)))), (5, .int .i64 x240), (6, .pointer (some ⟨b259, 0, none⟩)), (77, .pointer (some ⟨b259, 3, none⟩))]) (by kernel_rfl) ?_
                  refine t_v (.ld1 rfl rfl rfl (.at 2 rfl rfl)) ?_
                  by_cases c313 : t273 = 1
                  · rw [if_pos c313] at e311
                    have c313b : (t273 == 1) = true := beq_iff_eq.mpr c313
                    refine t_v (dv_quiet rfl (congrArg (fun t => some (Value.bool t)) c313b)) ?_
                    refine t_keep [0, 2, 3, 4, 5, 6, 79] (σ' := [(0, .pointer (some ⟨B0, 0, none⟩)), (2, .pointer (some ⟨b222, 0, none⟩)), (3, .pointer (some ⟨b232, 0, none⟩)), (4, .int .i64 (wr64 ((mx (wr64 (1 + t223)) (wr64 (1 + t226))) * 2 ^ (min (Int.toNat (wru64 t229)) 64)))), (5, .int .i64 x240), (6, .pointer (some ⟨b259, 0, none⟩)), (79, .bool true)]) (by kernel_rfl) ?_
                    refine t_end ?_
                    show W _ _ _ _ _ _ _
                    refine w_cond rfl (fun _ => ?_) (fun c_ => by cases c_)
                    show W _ _ _ _ _ _ _
                    refine w_seq ?_
                    refine w_reg fun all => ?_
                    obtain ⟨⟨t314, t315, t316⟩, h317, e311⟩ := bind_of e311
                    try dsimp only at e311
                    refine t_qz 2 [0, 2, 3, 4, 5, 6, 80, 81] (σ' := [(0, .pointer (some ⟨B0, 0, none⟩)), (2, .pointer (some ⟨b222, 0, none⟩)), (3, .pointer (some ⟨b232, 0, none⟩)), (4, .int .i64 (wr64 ((mx (wr64 (1 + t223)) (wr64 (1 + t226))) * 2 ^ (min (Int.toNat (wru64 t229)) 64)))), (5, .int .i64 x240), (6, .pointer (some ⟨b259, 0, none⟩)), (80, .pointer (some ⟨B0, 0, none⟩)), (81, .int .i64 (wr64 ((mx (wr64 (1 + t223)) (wr64 (1 + t226))) * 2 ^ (min (Int.toNat (wru64 t229)) 64))))]) (by kernel_rfl) ?_
                    refine t_call (vs := [.pointer (some ⟨B0, 0, none⟩), .int .i64 (wr64 ((mx (wr64 (1 + t223)) (wr64 (1 + t226))) * 2 ^ (min (Int.toNat (wru64 t229)) 64)))]) (H1 := ([⟨B0, [.slice a_m0_0 m0_0.length c_m0_0, .int .i64 x306], 2⟩] : List Own)) (F := (([⟨b232, [.int .i64 (wr64 (1 + t223)), .int .i64 (wr64 (1 + t226)), .int .i64 t229, .slice (ad a304) y305.length (na304 / 4), .slice (ad a241) y242.length (na241 / 11)], 5⟩, ⟨b259, [.int .i64 (wr64 (1 + t256)), .int .i64 x270, .int .i64 x271, .int .i64 t273, .int .i64 t282, .int .i64 x307, .int .i64 x308, .int .i64 x309, .int .i64 0, .int .i64 0, .slice none 0 0], 11⟩, ⟨b222, [.int .i64 0, .int .i64 0, .int .i64 0, .slice (ad a247) y248.length (na247 / 4), .slice (ad a245) y246.length (na245 / 11)], 5⟩, ⟨a304, encL E_u84 y305, na304⟩, ⟨a241, csa241, na241⟩, ⟨a247, encL E_u84 y248, na247⟩, ⟨a245, csa245, na245⟩] : List Own) ++ (Fa241 ++ (Fa245 ++ [])))) rfl rfl (by kernel_rfl) (sel_perm (is := [1]) (by kernel_rfl)) (glyphicmake_Point_v1.ok hE_ h_m0_0 h317) ?_
                    rintro _ _ S_ ⟨rfl, rfl, hS_⟩
                    obtain rfl := hS_.symm
                    refine t_qz 2 [0, 2, 3, 4, 5, 6, 82, 84] (σ' := [(0, .pointer (some ⟨B0, 0, none⟩)), (2, .pointer (some ⟨b222, 0, none⟩)), (3, .pointer (some ⟨b232, 0, none⟩)), (4, .int .i64 (wr64 ((mx (wr64 (1 + t223)) (wr64 (1 + t226))) * 2 ^ (min (Int.toNat (wru64 t229)) 64)))), (5, .int .i64 x240), (6, .pointer (some ⟨b259, 0, none⟩)), (82, .agg #[.int .i64 t314, .int .i64 t315]), (84, .pointer (some ⟨b259, 8, none⟩))]) (by kernel_rfl) ?_
                    refine t_sti 2 (cs := [.int .i64 (wr64 (1 + t256)), .int .i64 x270, .int .i64 x271, .int .i64 t273, .int .i64 t282, .int .i64 x307, .int .i64 x308, .int .i64 x309, .int .i64 t314, .int .i64 t315, .slice none 0 0]) rfl rfl rfl rfl rfl rfl rfl rfl rfl ?_
                    refine t_keep [0, 2, 3, 4, 5, 6] (σ' := [(0, .pointer (some ⟨B0, 0, none⟩)), (2, .pointer (some ⟨b222, 0, none⟩)), (3, .pointer (some ⟨b232, 0, none⟩)), (4, .int .i64 (wr64 ((mx (wr64 (1 + t223)) (wr64 (1 + t226))) * 2 ^ (min (Int.toNat (wru64 t229)) 64)))), (5, .int .i64 x240), (6, .pointer (some ⟨b259, 0, none⟩))]) (by kernel_rfl) ?_
                    refine t_end ?_
                    show W _ _ _ _ _ _ _
                    refine w_seq ?_
                    refine w_reg fun all => ?_
                    refine t_qz 2 [0, 2, 3, 4, 5, 6, 86] (σ' := [(0, .pointer (some ⟨B0, 0, none⟩)), (2, .pointer (some ⟨b222, 0, none⟩)), (3, .pointer (some ⟨b232, 0, none⟩)), (4, .int .i64 (wr64 ((mx (wr64 (1 + t223)) (wr64 (1 + t226))) * 2 ^ (min (Int.toNat (wru64 t229)) 64)))), (5, .int .i64 x240), (6, .pointer (some ⟨b259, 0, none⟩)), (86, .pointer (some ⟨b259, 6, none⟩))]) (by kernel_rfl) ?_
                    refine t_v (.ldn rfl rfl rfl (.at 2 rfl rfl)) ?_
                    refine t_qz 2 [0, 2, 3, 4, 5, 6, 87, 89] (σ' := [(0, .pointer (some ⟨B0, 0, none⟩)), (2, .pointer (some ⟨b222, 0, none⟩)), (3, .pointer (some ⟨b232, 0, none⟩)), (4, .int .i64 (wr64 ((mx (wr64 (1 + t223)) (wr64 (1 + t226))) * 2 ^ (min (Int.toNat (wru64 t229)) 64)))), (5, .int .i64 x240), (6, .pointer (some ⟨b259, 0, none⟩)), (87, .agg #[.int .i64 x308, .int .i64 x309]), (89, .pointer (some ⟨b259, 8, none⟩))]) (by kernel_rfl) ?_
                    refine t_v (.ldn rfl rfl rfl (.at 2 rfl rfl)) ?_
                    obtain ⟨t318, h319, e311⟩ := bind_of e311
                    cases t318 with
                    | true =>
                      rw [if_pos rfl] at e311
                      refine t_v (.call (vs := [.agg #[.int .i64 x308, .int .i64 x309], .agg #[.int .i64 t314, .int .i64 t315]]) rfl rfl (by kernel_rfl) (glyphicref_SamePoint.ok hE_ h319)) ?_
                      refine t_keep [0, 2, 3, 4, 5, 6, 91] (σ' := [(0, .pointer (some ⟨B0, 0, none⟩)), (2, .pointer (some ⟨b222, 0, none⟩)), (3, .pointer (some ⟨b232, 0, none⟩)), (4, .int .i64 (wr64 ((mx (wr64 (1 + t223)) (wr64 (1 + t226))) * 2 ^ (min (Int.toNat (wru64 t229)) 64)))), (5, .int .i64 x240), (6, .pointer (some ⟨b259, 0, none⟩)), (91, .bool true)]) (by kernel_rfl) ?_
                      refine t_end ?_
                      show W _ _ _ _ _ _ _
                      refine w_cond rfl (fun _ => ?_) (fun c_ => by cases c_)
                      show W _ _ _ _ _ _ _
                      refine w_reg fun all => ?_
                      refine t_qz 3 [0, 2, 3, 4, 5, 6, 94] (σ' := [(0, .pointer (some ⟨B0, 0, none⟩)), (2, .pointer (some ⟨b222, 0, none⟩)), (3, .pointer (some ⟨b232, 0, none⟩)), (4, .int .i64 (wr64 ((mx (wr64 (1 + t223)) (wr64 (1 + t226))) * 2 ^ (min (Int.toNat (wru64 t229)) 64)))), (5, .int .i64 x240), (6, .pointer (some ⟨b259, 0, none⟩)), (94, .pointer (some ⟨b259, 8, none⟩))]) (by kernel_rfl) ?_
                      refine t_v (.ld1 rfl rfl rfl (.at 2 rfl rfl)) ?_
                      refine t_qz 4 [0, 2, 3, 4, 5, 6, 96, 99] (σ' := [(0, .pointer (some ⟨B0, 0, none⟩)), (2, .pointer (some ⟨b222, 0, none⟩)), (3, .pointer (some ⟨b232, 0, none⟩)), (4, .int .i64 (wr64 ((mx (wr64 (1 + t223)) (wr64 (1 + t226))) * 2 ^ (min (Int.toNat (wru64 t229)) 64)))), (5, .int .i64 x240), (6, .pointer (some ⟨b259, 0, none⟩)), (96, .int .i64 (wr64 (t314 + 1))), (99, .pointer (some ⟨b259, 8, none⟩))]) (by kernel_rfl) ?_
                      refine t_sti 2 (cs := [.int .i64 (wr64 (1 + t256)), .int .i64 x270, .int .i64 x271, .int .i64 t273, .int .i64 t282, .int .i64 x307, .int .i64 x308, .int .i64 x309, .int .i64 (wr64 (t314 + 1)), .int .i64 t315, .slice none 0 0]) rfl rfl rfl rfl rfl rfl rfl rfl rfl ?_
                      refine t_keep [0, 2, 3, 4, 5, 6] (σ' := [(0, .pointer (some ⟨B0, 0, none⟩)), (2, .pointer (some ⟨b222, 0, none⟩)), (3, .pointer (some ⟨b232, 0, none⟩)), (4, .int .i64 (wr64 ((mx (wr64 (1 + t223)) (wr64 (1 + t226))) * 2 ^ (min (Int.toNat (wru64 t229)) 64)))), (5, .int .i64 x240), (6, .pointer (some ⟨b259, 0, none⟩))]) (by kernel_rfl) ?_
                      refine t_end ?_
                      simp only [Option.some.injEq, Prod.mk.injEq] at e311
                      obtain ⟨rfl, rfl, rfl⟩ := e311
                      exact ⟨(([⟨b232, [.int .i64 (wr64 (1 + t223)), .int .i64 (wr64 (1 + t226)), .int .i64 t229, .slice (ad a304) y305.length (na304 / 4), .slice (ad a241) y242.length (na241 / 11)], 5⟩, ⟨B0, [.slice a_m0_0 m0_0.length c_m0_0, .int .i64 t316], 2⟩, ⟨b259, [.int .i64 (wr64 (1 + t256)), .int .i64 x270, .int .i64 x271, .int .i64 t273, .int .i64 t282, .int .i64 x307, .int .i64 x308, .int .i64 x309, .int .i64 (wr64 (t314 + 1)), .int .i64 t315, .slice none 0 0], 11⟩, ⟨b222, [.int .i64 0, .int .i64 0, .int .i64 0, .slice (ad a247) y248.length (na247 / 4), .slice (ad a245) y246.length (na245 / 11)], 5⟩, ⟨a304, encL E_u84 y305, na304⟩, ⟨a241, csa241, na241⟩, ⟨a247, encL E_u84 y248, na247⟩, ⟨a245, csa245, na245⟩] : List Own) ++ (Fa241 ++ (Fa245 ++ []))), S, VS.selT 8 [1, 0, 0, 0, 0, 0, 0, 0] (by kernel_rfl), by kernel_rfl, rfl, rfl⟩
                    | false =>
                      rw [if_neg (by decide)] at e311
                      refine t_v (.call (vs := [.agg #[.int .i64 x308, .int .i64 x309], .agg #[.int .i64 t314, .int .i64 t315]]) rfl rfl (by kernel_rfl) (glyphicref_SamePoint.ok hE_ h319)) ?_
                      refine t_keep [0, 2, 3, 4, 5, 6, 91] (σ' := [(0, .pointer (some ⟨B0, 0, none⟩)), (2, .pointer (some ⟨b222, 0, none⟩)), (3, .pointer (some ⟨b232, 0, none⟩)), (4, .int .i64 (wr64 ((mx (wr64 (1 + t223)) (wr64 (1 + t226))) * 2 ^ (min (Int.toNat (wru64 t229)) 64)))), (5, .int .i64 x240), (6, .pointer (some ⟨b259, 0, none⟩)), (91, .bool false)]) (by kernel_rfl) ?_
                      refine t_end ?_
                      show W _ _ _ _ _ _ _
                      refine w_cond rfl (fun c_ => by cases c_) (fun _ => ?_)
                      show W _ _ _ _ _ _ _
                      refine w_skip ?_
                      simp only [Option.some.injEq, Prod.mk.injEq] at e311
                      obtain ⟨rfl, rfl, rfl⟩ := e311
                      exact ⟨(([⟨b232, [.int .i64 (wr64 (1 + t223)), .int .i64 (wr64 (1 + t226)), .int .i64 t229, .slice (ad a304) y305.length (na304 / 4), .slice (ad a241) y242.length (na241 / 11)], 5⟩, ⟨B0, [.slice a_m0_0 m0_0.length c_m0_0, .int .i64 t316], 2⟩, ⟨b259, [.int .i64 (wr64 (1 + t256)), .int .i64 x270, .int .i64 x271, .int .i64 t273, .int .i64 t282, .int .i64 x307, .int .i64 x308, .int .i64 x309, .int .i64 t314, .int .i64 t315, .slice none 0 0], 11⟩, ⟨b222, [.int .i64 0, .int .i64 0, .int .i64 0, .slice (ad a247) y248.length (na247 / 4), .slice (ad a245) y246.length (na245 / 11)], 5⟩, ⟨a304, encL E_u84 y305, na304⟩, ⟨a241, csa241, na241⟩, ⟨a247, encL E_u84 y248, na247⟩, ⟨a245, csa245, na245⟩] : List Own) ++ (Fa241 ++ (Fa245 ++ []))), S, VS.selT 8 [1, 0, 0, 0, 0, 0, 0, 0] (by kernel_rfl), by kernel_rfl, rfl, rfl⟩
                  · rw [if_neg c313] at e311
                    have c313b : (t273 == 1) = false := beq_eq_false_iff_ne.mpr c313
                    refine t_v (dv_quiet rfl (congrArg (fun t => some (Value.bool t)) c313b)) ?_
                    refine t_keep [0, 2, 3, 4, 5, 6, 79] (σ' := [(0, .pointer (some ⟨B0, 0, none⟩)), (2, .pointer (some ⟨b222, 0, none⟩)), (3, .pointer (some ⟨b232, 0, none⟩)), (4, .int .i64 (wr64 ((mx (wr64 (1 + t223)) (wr64 (1 + t226))) * 2 ^ (min (Int.toNat (wru64 t229)) 64)))), (5, .int .i64 x240), (6, .pointer (some ⟨b259, 0, none⟩)), (79, .bool false)]) (by kernel_rfl) ?_
                    refine t_end ?_
                    show W _ _ _ _ _ _ _
                    refine w_cond rfl (fun c_ => by cases c_) (fun _ => ?_)
                    show W _ _ _ _ _ _ _
                    refine w_skip ?_
                    simp only [Option.some.injEq, Prod.mk.injEq] at e311
                    obtain ⟨rfl, rfl, rfl⟩ := e311
                    exact ⟨(([⟨b232, [.int .i64 (wr64 (1 + t223)), .int .i64 (wr64 (1 + t226)), .int .i64 t229, .slice (ad a304) y305.length (na304 / 4), .slice (ad a241) y242.length (na241 / 11)], 5⟩, ⟨B0, [.slice a_m0_0 m0_0.length c_m0_0, .int .i64 x306], 2⟩, ⟨b259, [.int .i64 (wr64 (1 + t256)), .int .i64 x270, .int .i64 x271, .int .i64 t273, .int .i64 t282, .int .i64 x307, .int .i64 x308, .int .i64 x309, .int .i64 0, .int .i64 0, .slice none 0 0], 11⟩, ⟨b222, [.int .i64 0, .int .i64 0, .int .i64 0, .slice (ad a247) y248.length (na247 / 4), .slice (ad a245) y246.length (na245 / 11)], 5⟩, ⟨a304, encL E_u84 y305, na304⟩, ⟨a241, csa241, na241⟩, ⟨a247, encL E_u84 y248, na247⟩, ⟨a245, csa245, na245⟩] : List Own) ++ (Fa241 ++ (Fa245 ++ []))), S, VS.selT 8 [0, 0, 0, 0, 0, 0, 0, 0] (by kernel_rfl), by kernel_rfl, rfl, rfl⟩
                · rintro σ_ H_ S_ ⟨rfl, rfl, rfl⟩
                  obtain ⟨⟨x330, x331⟩, e324, e254⟩ := bind_of e254
                  try dsimp only at e254
                  refine w_cut [0, 2, 3, 4, 5, 6] (fun σ_ H_ S_ => [(0, .pointer (some ⟨B0, 0, none⟩)), (2, .pointer (some ⟨b222, 0, none⟩)), (3, .pointer (some ⟨b232, 0, none⟩)), (4, .int .i64 (wr64 ((mx (wr64 (1 + t223)) (wr64 (1 + t226))) * 2 ^ (min (Int.toNat (wru64 t229)) 64)))), (5, .int .i64 x240), (6, .pointer (some ⟨b259, 0, none⟩))] = σ_ ∧ (([⟨b232, [.int .i64 (wr64 (1 + t223)), .int .i64 (wr64 (1 + t226)), .int .i64 t229, .slice (ad a304) y305.length (na304 / 4), .slice (ad a241) y242.length (na241 / 11)], 5⟩, ⟨B0, [.slice a_m0_0 m0_0.length c_m0_0, .int .i64 x330], 2⟩, ⟨b259, [.int .i64 (wr64 (1 + t256)), .int .i64 x270, .int .i64 x271, .int .i64 t273, .int .i64 t282, .int .i64 x307, .int .i64 x308, .int .i64 x309, .int .i64 x331, .int .i64 x322, .slice none 0 0], 11⟩, ⟨b222, [.int .i64 0, .int .i64 0, .int .i64 0, .slice (ad a247) y248.length (na247 / 4), .slice (ad a245) y246.length (na245 / 11)], 5⟩, ⟨a304, encL E_u84 y305, na304⟩, ⟨a241, csa241, na241⟩, ⟨a247, encL E_u84 y248, na247⟩, ⟨a245, csa245, na245⟩] : List Own) ++ (Fa241 ++ (Fa245 ++ []))) = H_ ∧ S = S_) ?_ ?_
                  · show W _ _ _ _ _ _ _
                    refine w_seq ?_
                    refine w_reg fun all => ?_
                    refine t_qz 2 [0, 2, 3, 4, 5, 6, 101] (σ' := [(0, .pointer (some ⟨B0, 0, none⟩)), (2, .pointer (some ⟨b222, 0, none⟩)), (3, .pointer (some ⟨b232, 0, none⟩)), (4, .int .i64 (wr64 ((mx (wr64 (1 + t223)) (wr64 (1 + t226))) * 2 ^ (min (Int.toNat (wru64 t229)) 64)))), (5, .int .i64 x240), (6, .pointer (some ⟨b259, 0, none⟩)), (101, .pointer (some ⟨b259, 3, none⟩))]) (by kernel_rfl) ?_
                    refine t_v (.ld1 rfl rfl rfl (.at 2 rfl rfl)) ?_
                    by_cases c326 : t273 = 2
                    · rw [if_pos c326] at e324
                      have c326b : (t273 == 2) = true := beq_iff_eq.mpr c326
                      refine t_v (dv_quiet rfl (congrArg (fun t => some (Value.bool t)) c326b)) ?_
                      refine t_keep [0, 2, 3, 4, 5, 6, 103] (σ' := [(0, .pointer (some ⟨B0, 0, none⟩)), (2, .pointer (some ⟨b222, 0, none⟩)), (3, .pointer (some ⟨b232, 0, none⟩)), (4, .int .i64 (wr64 ((mx (wr64 (1 + t223)) (wr64 (1 + t226))) * 2 ^ (min (Int.toNat (wru64 t229)) 64)))), (5, .int .i64 x240), (6, .pointer (some ⟨b259, 0, none⟩)), (103, .bool true)]) (by kernel_rfl) ?_
                      refine t_end ?_
                      show W _ _ _ _ _ _ _
                      refine w_cond rfl (fun _ => ?_) (fun c_ => by cases c_)
                      show W _ _ _ _ _ _ _
                      refine w_reg fun all => ?_
                      obtain ⟨⟨t327, t328⟩, h329, e324⟩ := bind_of e324
                      try dsimp only at e324
                      refine t_qz 2 [0, 2, 3, 4, 5, 6, 104, 105] (σ' := [(0, .pointer (some ⟨B0, 0, none⟩)), (2, .pointer (some ⟨b222, 0, none⟩)), (3, .pointer (some ⟨b232, 0, none⟩)), (4, .int .i64 (wr64 ((mx (wr64 (1 + t223)) (wr64 (1 + t226))) * 2 ^ (min (Int.toNat (wru64 t229)) 64)))), (5, .int .i64 x240), (6, .pointer (some ⟨b259, 0, none⟩)), (104, .pointer (some ⟨B0, 0, none⟩)), (105, .int .i64 (wr64 ((mx (wr64 (1 + t223)) (wr64 (1 + t226))) * 2 ^ (min (Int.toNat (wru64 t229)) 64))))]) (by kernel_rfl) ?_
                      refine t_call (vs := [.pointer (some ⟨B0, 0, none⟩), .int .i64 (wr64 ((mx (wr64 (1 + t223)) (wr64 (1 + t226))) * 2 ^ (min (Int.toNat (wru64 t229)) 64)))]) (H1 := ([⟨B0, [.slice a_m0_0 m0_0.length c_m0_0, .int .i64 x320], 2⟩] : List Own)) (F := (([⟨b232, [.int .i64 (wr64 (1 + t223)), .int .i64 (wr64 (1 + t226)), .int .i64 t229, .slice (ad a304) y305.length (na304 / 4), .slice (ad a241) y242.length (na241 / 11)], 5⟩, ⟨b259, [.int .i64 (wr64 (1 + t256)), .int .i64 x270, .int .i64 x271, .int .i64 t273, .int .i64 t282, .int .i64 x307, .int .i64 x308, .int .i64 x309, .int .i64 x321, .int .i64 x322, .slice none 0 0], 11⟩, ⟨b222, [.int .i64 0, .int .i64 0, .int .i64 0, .slice (ad a247) y248.length (na247 / 4), .slice (ad a245) y246.length (na245 / 11)], 5⟩, ⟨a304, encL E_u84 y305, na304⟩, ⟨a241, csa241, na241⟩, ⟨a247, encL E_u84 y248, na247⟩, ⟨a245, csa245, na245⟩] : List Own) ++ (Fa241 ++ (Fa245 ++ [])))) rfl rfl (by kernel_rfl) (sel_perm (is := [1]) (by kernel_rfl)) (glyphicmake_Seq_Next_v1.ok hE_ h_m0_0 h329) ?_
                      rintro _ _ S_ ⟨rfl, rfl, hS_⟩
                      obtain rfl := hS_.symm
                      refine t_qz 4 [0, 2, 3, 4, 5, 6, 107, 110] (σ' := [(0, .pointer (some ⟨B0, 0, none⟩)), (2, .pointer (some ⟨b222, 0, none⟩)), (3, .pointer (some ⟨b232, 0, none⟩)), (4, .int .i64 (wr64 ((mx (wr64 (1 + t223)) (wr64 (1 + t226))) * 2 ^ (min (Int.toNat (wru64 t229)) 64)))), (5, .int .i64 x240), (6, .pointer (some ⟨b259, 0, none⟩)), (107, .int .i64 (wr64 (1 + t327))), (110, .pointer (some ⟨b259, 8, none⟩))]) (by kernel_rfl) ?_
                      refine t_sti 2 (cs := [.int .i64 (wr64 (1 + t256)), .int .i64 x270, .int .i64 x271, .int .i64 t273, .int .i64 t282, .int .i64 x307, .int .i64 x308, .int .i64 x309, .int .i64 (wr64 (1 + t327)), .int .i64 x322, .slice none 0 0]) rfl rfl rfl rfl rfl rfl rfl rfl rfl ?_
                      refine t_keep [0, 2, 3, 4, 5, 6] (σ' := [(0, .pointer (some ⟨B0, 0, none⟩)), (2, .pointer (some ⟨b222, 0, none⟩)), (3, .pointer (some ⟨b232, 0, none⟩)), (4, .int .i64 (wr64 ((mx (wr64 (1 + t223)) (wr64 (1 + t226))) * 2 ^ (min (Int.toNat (wru64 t229)) 64)))), (5, .int .i64 x240), (6, .pointer (some ⟨b259, 0, none⟩))]) (by kernel_rfl) ?_
                      refine t_end ?_
                      simp only [Option.some.injEq, Prod.mk.injEq] at e324
                      obtain ⟨rfl, rfl⟩ := e324
                      exact ⟨(([⟨b232, [.int .i64 (wr64 (1 + t223)), .int .i64 (wr64 (1 + t226)), .int .i64 t229, .slice (ad a304) y305.length (na304 / 4), .slice (ad a241) y242.length (na241 / 11)], 5⟩, ⟨B0, [.slice a_m0_0 m0_0.length c_m0_0, .int .i64 t328], 2⟩, ⟨b259, [.int .i64 (wr64 (1 + t256)), .int .i64 x270, .int .i64 x271, .int .i64 t273, .int .i64 t282, .int .i64 x307, .int .i64 x308, .int .i64 x309, .int .i64 (wr64 (1 + t327)), .int .i64 x322, .slice none 0 0], 11⟩, ⟨b222, [.int .i64 0, .int .i64 0, .int .i64 0, .slice (ad a247) y248.length (na247 / 4), .slice (ad a245) y246.length (na245 / 11)], 5⟩, ⟨a304, encL E_u84 y305, na304⟩, ⟨a241, csa241, na241⟩, ⟨a247, encL E_u84 y248, na247⟩, ⟨a245, csa245, na245⟩] : List Own) ++ (Fa241 ++ (Fa245 ++ []))), S, VS.selT 8 [1, 0, 0, 0, 0, 0, 0, 0] (by kernel_rfl), by kernel_rfl, rfl, rfl⟩
                    · rw [if_neg c326] at e324
                      have c326b : (t273 == 2) = false := beq_eq_false_iff_ne.mpr c326
                      refine t_v (dv_quiet rfl (congrArg (fun t => some (Value.bool t)) c326b)) ?_
                      refine t_keep [0, 2, 3, 4, 5, 6, 103] (σ' := [(0, .pointer (some ⟨B0, 0, none⟩)), (2, .pointer (some ⟨b222, 0, none⟩)), (3, .pointer (some ⟨b232, 0, none⟩)), (4, .int .i64 (wr64 ((mx (wr64 (1 + t223)) (wr64 (1 + t226))) * 2 ^ (min (Int.toNat (wru64 t229)) 64)))), (5, .int .i64 x240), (6, .pointer (some ⟨b259, 0, none⟩)), (103, .bool false)]) (by kernel_rfl) ?_
                      refine t_end ?_
                      show W _ _ _ _ _ _ _
                      refine w_cond rfl (fun c_ => by cases c_) (fun _ => ?_)
                      show W _ _ _ _ _ _ _
                      refine w_skip ?_
                      simp only [Option.some.injEq, Prod.mk.injEq] at e324
                      obtain ⟨rfl, rfl⟩ := e324
                      exact ⟨(([⟨b232, [.int .i64 (wr64 (1 + t223)), .int .i64 (wr64 (1 + t226)), .int .i64 t229, .slice (ad a304) y305.length (na304 / 4), .slice (ad a241) y242.length (na241 / 11)], 5⟩, ⟨B0, [.slice a_m0_0 m0_0.length c_m0_0, .int .i64 x320], 2⟩, ⟨b259, [.int .i64 (wr64 (1 + t256)), .int .i64 x270, .int .i64 x271, .int .i64 t273, .int .i64 t282, .int .i64 x307, .int .i64 x308, .int .i64 x309, .int .i64 x321, .int .i64 x322, .slice none 0 0], 11⟩, ⟨b222, [.int .i64 0, .int .i64 0, .int .i64 0, .slice (ad a247) y248.length (na247 / 4), .slice (ad a245) y246.length (na245 / 11)], 5⟩, ⟨a304, encL E_u84 y305, na304⟩, ⟨a241, csa241, na241⟩, ⟨a247, encL E_u84 y248, na247⟩, ⟨a245, csa245, na245⟩] : List Own) ++ (Fa241 ++ (Fa245 ++ []))), S, VS.selT 8 [0, 0, 0, 0, 0, 0, 0, 0] (by kernel_rfl), by kernel_rfl, rfl, rfl⟩
                  · rintro σ_ H_ S_ ⟨rfl, rfl, rfl⟩
                    obtain ⟨⟨x370, y372⟩, e333, e254⟩ := bind_of e254
                    try dsimp only at e254
                    refine w_cut [0, 2, 3, 4, 5, 6] (fun σ_ H_ S_ => ∃ (a371 : Option Nat) (na371 : Nat) (csa371 : List Value) (Fa371 : List Own), [(0, .pointer (some ⟨B0, 0, none⟩)), (2, .pointer (some ⟨b222, 0, none⟩)), (3, .pointer (some ⟨b232, 0, none⟩)), (4, .int .i64 (wr64 ((mx (wr64 (1 + t223)) (wr64 (1 + t226))) * 2 ^ (min (Int.toNat (wru64 t229)) 64)))), (5, .int .i64 x240), (6, .pointer (some ⟨b259, 0, none⟩))] = σ_ ∧ (([⟨b232, [.int .i64 (wr64 (1 + t223)), .int .i64 (wr64 (1 + t226)), .int .i64 t229, .slice (ad a304) y305.length (na304 / 4), .slice (ad a241) y242.length (na241 / 11)], 5⟩, ⟨B0, [.slice a_m0_0 m0_0.length c_m0_0, .int .i64 x370], 2⟩, ⟨b259, [.int .i64 (wr64 (1 + t256)), .int .i64 x270, .int .i64 x271, .int .i64 t273, .int .i64 t282, .int .i64 x307, .int .i64 x308, .int .i64 x309, .int .i64 x331, .int .i64 x322, .slice (ad a371) y372.length (na371 / 4)], 11⟩, ⟨b222, [.int .i64 0, .int .i64 0, .int .i64 0, .slice (ad a247) y248.length (na247 / 4), .slice (ad a245) y246.length (na245 / 11)], 5⟩, ⟨a304, encL E_u84 y305, na304⟩, ⟨a241, csa241, na241⟩, ⟨a371, csa371, na371⟩, ⟨a247, encL E_u84 y248, na247⟩, ⟨a245, csa245, na245⟩] : List Own) ++ (Fa241 ++ (Fa245 ++ (Fa371 ++ [])))) = H_ ∧ S = S_ ∧ RL (rdOf (Fa371 ++ []) S) N_0 y372 csa371) ?_ ?_
                    · show W _ _ _ _ _ _ _
                      refine w_seq ?_
                      refine w_reg fun all => ?_
                      obtain ⟨⟨t335, t336⟩, h337, e333⟩ := bind_of e333
                      try dsimp only at e333
                      refine t_qz 1 [0, 2, 3, 4, 5, 6, 111] (σ' := [(0, .pointer (some ⟨B0, 0, none⟩)), (2, .pointer (some ⟨b222, 0, none⟩)), (3, .pointer (some ⟨b232, 0, none⟩)), (4, .int .i64 (wr64 ((mx (wr64 (1 + t223)) (wr64 (1 + t226))) * 2 ^ (min (Int.toNat (wru64 t229)) 64)))), (5, .int .i64 x240), (6, .pointer (some ⟨b259, 0, none⟩)), (111, .pointer (some ⟨B0, 0, none⟩))]) (by kernel_rfl) ?_
                      refine t_call (vs := [.pointer (some ⟨B0, 0, none⟩), .int .i64 3]) (H1 := ([⟨B0, [.slice a_m0_0 m0_0.length c_m0_0, .int .i64 x330], 2⟩] : List Own)) (F := (([⟨b232, [.int .i64 (wr64 (1 + t223)), .int .i64 (wr64 (1 + t226)), .int .i64 t229, .slice (ad a304) y305.length (na304 / 4), .slice (ad a241) y242.length (na241 / 11)], 5⟩, ⟨b259, [.int .i64 (wr64 (1 + t256)), .int .i64 x270, .int .i64 x271, .int .i64 t273, .int .i64 t282, .int .i64 x307, .int .i64 x308, .int .i64 x309, .int .i64 x331, .int .i64 x322, .slice none 0 0], 11⟩, ⟨b222, [.int .i64 0, .int .i64 0, .int .i64 0, .slice (ad a247) y248.length (na247 / 4), .slice (ad a245) y246.length (na245 / 11)], 5⟩, ⟨a304, encL E_u84 y305, na304⟩, ⟨a241, csa241, na241⟩, ⟨a247, encL E_u84 y248, na247⟩, ⟨a245, csa245, na245⟩] : List Own) ++ (Fa241 ++ (Fa245 ++ [])))) rfl rfl (by kernel_rfl) (sel_perm (is := [1]) (by kernel_rfl)) (glyphicmake_Seq_Next_v1.ok hE_ h_m0_0 h337) ?_
                      rintro _ _ S_ ⟨rfl, rfl, hS_⟩
                      obtain rfl := hS_.symm
                      refine t_qz 1 [0, 2, 3, 4, 5, 6, 7] (σ' := [(0, .pointer (some ⟨B0, 0, none⟩)), (2, .pointer (some ⟨b222, 0, none⟩)), (3, .pointer (some ⟨b232, 0, none⟩)), (4, .int .i64 (wr64 ((mx (wr64 (1 + t223)) (wr64 (1 + t226))) * 2 ^ (min (Int.toNat (wru64 t229)) 64)))), (5, .int .i64 x240), (6, .pointer (some ⟨b259, 0, none⟩)), (7, .int .i64 t335)]) (by kernel_rfl) ?_
                      refine t_end ?_
                      show W _ _ _ _ _ _ _
                      refine w_block ?_
                      refine w_vs VS.vac ?_
                      refine w_kp [0, 2, 3, 4, 5, 6, 7] (σ' := [(0, .pointer (some ⟨B0, 0, none⟩)), (2, .pointer (some ⟨b222, 0, none⟩)), (3, .pointer (some ⟨b232, 0, none⟩)), (4, .int .i64 (wr64 ((mx (wr64 (1 + t223)) (wr64 (1 + t226))) * 2 ^ (min (Int.toNat (wru64 t229)) 64)))), (5, .int .i64 x240), (6, .pointer (some ⟨b259, 0, none⟩)), (7, .int .i64 t335)]) (by kernel_rfl) ?_
                      refine w_vs (H' := (([⟨none, [], 0⟩, ⟨B0, [.slice a_m0_0 m0_0.length c_m0_0, .int .i64 t336], 2⟩, ⟨b232, [.int .i64 (wr64 (1 + t223)), .int .i64 (wr64 (1 + t226)), .int .i64 t229, .slice (ad a304) y305.length (na304 / 4), .slice (ad a241) y242.length (na241 / 11)], 5⟩, ⟨b259, [.int .i64 (wr64 (1 + t256)), .int .i64 x270, .int .i64 x271, .int .i64 t273, .int .i64 t282, .int .i64 x307, .int .i64 x308, .int .i64 x309, .int .i64 x331, .int .i64 x322, .slice (ad none) ([] : List (Int × Int × List (Int × Int × Int × Int × Int × Int × Int) × Bool)).length (0 / 4)], 11⟩, ⟨b222, [.int .i64 0, .int .i64 0, .int .i64 0, .slice (ad a247) y248.length (na247 / 4), .slice (ad a245) y246.length (na245 / 11)], 5⟩, ⟨a304, encL E_u84 y305, na304⟩, ⟨a241, csa241, na241⟩, ⟨a247, encL E_u84 y248, na247⟩, ⟨a245, csa245, na245⟩] : List Own) ++ (Fa241 ++ (Fa245 ++ (([] : List Own) ++ []))))) (S' := S) (VS.treeA (.a (.l ([⟨none, [], 0⟩, ⟨B0, [.slice a_m0_0 m0_0.length c_m0_0, .int .i64 t336], 2⟩, ⟨b232, [.int .i64 (wr64 (1 + t223)), .int .i64 (wr64 (1 + t226)), .int .i64 t229, .slice (ad a304) y305.length (na304 / 4), .slice (ad a241) y242.length (na241 / 11)], 5⟩, ⟨b259, [.int .i64 (wr64 (1 + t256)), .int .i64 x270, .int .i64 x271, .int .i64 t273, .int .i64 t282, .int .i64 x307, .int .i64 x308, .int .i64 x309, .int .i64 x331, .int .i64 x322, .slice (ad none) ([] : List (Int × Int × List (Int × Int × Int × Int × Int × Int × Int) × Bool)).length (0 / 4)], 11⟩, ⟨b222, [.int .i64 0, .int .i64 0, .int .i64 0, .slice (ad a247) y248.length (na247 / 4), .slice (ad a245) y246.length (na245 / 11)], 5⟩, ⟨a304, encL E_u84 y305, na304⟩, ⟨a241, csa241, na241⟩, ⟨a247, encL E_u84 y248, na247⟩, ⟨a245, csa245, na245⟩] : List Own)) (.a (.f Fa241) (.a (.f Fa245) (.l [])))) (.a (.l ([⟨none, [], 0⟩, ⟨B0, [.slice a_m0_0 m0_0.length c_m0_0, .int .i64 t336], 2⟩, ⟨b232, [.int .i64 (wr64 (1 + t223)), .int .i64 (wr64 (1 + t226)), .int .i64 t229, .slice (ad a304) y305.length (na304 / 4), .slice (ad a241) y242.length (na241 / 11)], 5⟩, ⟨b259, [.int .i64 (wr64 (1 + t256)), .int .i64 x270, .int .i64 x271, .int .i64 t273, .int .i64 t282, .int .i64 x307, .int .i64 x308, .int .i64 x309, .int .i64 x331, .int .i64 x322, .slice (ad none) ([] : List (Int × Int × List (Int × Int × Int × Int × Int × Int × Int) × Bool)).length (0 / 4)], 11⟩, ⟨b222, [.int .i64 0, .int .i64 0, .int .i64 0, .slice (ad a247) y248.length (na247 / 4), .slice (ad a245) y246.length (na245 / 11)], 5⟩, ⟨a304, encL E_u84 y305, na304⟩, ⟨a241, csa241, na241⟩, ⟨a247, encL E_u84 y248, na247⟩, ⟨a245, csa245, na245⟩] : List Own)) (.a (.f Fa241) (.a (.f Fa245) (.a (.l ([] : List Own)) (.l []))))) [0, 0, 0, 0, 0, 0, 0, 0, 0, 0, 0] (by kernel_rfl)) ?_
                      refine w_loop (fun n_ σ_ H_ S_ => ∃ (x338 : Int) (y340 : List (Int × Int × List (Int × Int × Int × Int × Int × Int × Int) × Bool)) (x341 : Int), ∃ (a339 : Option Nat) (na339 : Nat) (csa339 : List Value) (Fa339 : List Own), [(0, .pointer (some ⟨B0, 0, none⟩)), (2, .pointer (some ⟨b222, 0, none⟩)), (3, .pointer (some ⟨b232, 0, none⟩)), (4, .int .i64 (wr64 ((mx (wr64 (1 + t223)) (wr64 (1 + t226))) * 2 ^ (min (Int.toNat (wru64 t229)) 64)))), (5, .int .i64 x240), (6, .pointer (some ⟨b259, 0, none⟩)), (7, .int .i64 x338)] = σ_ ∧ (([⟨a339, csa339, na339⟩, ⟨B0, [.slice a_m0_0 m0_0.length c_m0_0, .int .i64 x341], 2⟩, ⟨b232, [.int .i64 (wr64 (1 + t223)), .int .i64 (wr64 (1 + t226)), .int .i64 t229, .slice (ad a304) y305.length (na304 / 4), .slice (ad a241) y242.length (na241 / 11)], 5⟩, ⟨b259, [.int .i64 (wr64 (1 + t256)), .int .i64 x270, .int .i64 x271, .int .i64 t273, .int .i64 t282, .int .i64 x307, .int .i64 x308, .int .i64 x309, .int .i64 x331, .int .i64 x322, .slice (ad a339) y340.length (na339 / 4)], 11⟩, ⟨b222, [.int .i64 0, .int .i64 0, .int .i64 0, .slice (ad a247) y248.length (na247 / 4), .slice (ad a245) y246.length (na245 / 11)], 5⟩, ⟨a304, encL E_u84 y305, na304⟩, ⟨a241, csa241, na241⟩, ⟨a247, encL E_u84 y248, na247⟩, ⟨a245, csa245, na245⟩] : List Own) ++ (Fa241 ++ (Fa245 ++ (Fa339 ++ [])))) = H_ ∧ S = S_ ∧ glyphicmake_Icon_v1.l1 n_ m0_0 t223 t226 t229 t256 x338 y340 x341 = some (x370, y372) ∧ RL (rdOf (Fa339 ++ []) S) N_0 y340 csa339) _ ⟨t335, ([] : List (Int × Int × List (Int × Int × Int × Int × Int × Int × Int) × Bool)), t336, none, 0, [], ([] : List Own), rfl, rfl, rfl, e333, RL.mono (RL.nil (R := rdOf [] S) (E := N_0)) (rd_sub seg_hd)⟩ ?_
                      rintro n369 σ_ H_ S_ ⟨x338, y340, x341, a339, na339, csa339, Fa339, rfl, rfl, rfl, e333, hra339⟩
                      cases n369 with
                      | zero => rw [glyphicmake_Icon_v1.l1.eq_1] at e333; cases e333
                      | succ k_ =>
                        rw [glyphicmake_Icon_v1.l1.eq_2] at e333
                        refine w_seq ?_
                        refine w_seq ?_
                        refine w_reg fun all => ?_
                        by_cases c342 : x338 ≥ 0
                        · rw [if_pos c342] at e333
                          have c342b : (decide (x338 ≥ 0)) = true := decide_eq_true c342
                          refine t_qz 1 [0, 2, 3, 4, 5, 6, 7, 113] (σ' := [(0, .pointer (some ⟨B0, 0, none⟩)), (2, .pointer (some ⟨b222, 0, none⟩)), (3, .pointer (some ⟨b232, 0, none⟩)), (4, .int .i64 (wr64 ((mx (wr64 (1 + t223)) (wr64 (1 + t226))) * 2 ^ (min (Int.toNat (wru64 t229)) 64)))), (5, .int .i64 x240), (6, .pointer (some ⟨b259, 0, none⟩)), (7, .int .i64 x338), (113, .int .i64 x338)]) (by kernel_rfl) ?_
                          refine t_v (dv_quiet rfl (congrArg (fun t => some (Value.bool t)) c342b)) ?_
                          refine t_keep [0, 2, 3, 4, 5, 6, 7, 114] (σ' := [(0, .pointer (some ⟨B0, 0, none⟩)), (2, .pointer (some ⟨b222, 0, none⟩)), (3, .pointer (some ⟨b232, 0, none⟩)), (4, .int .i64 (wr64 ((mx (wr64 (1 + t223)) (wr64 (1 + t226))) * 2 ^ (min (Int.toNat (wru64 t229)) 64)))), (5, .int .i64 x240), (6, .pointer (some ⟨b259, 0, none⟩)), (7, .int .i64 x338), (114, .bool true)]) (by kernel_rfl) ?_
                          refine t_end ?_
                          show W _ _ _ _ _ _ _
                          refine w_cond rfl (fun _ => ?_) (fun c_ => by cases c_)
                          show W _ _ _ _ _ _ _
                          refine w_skip ?_
                          show W _ _ _ _ _ _ _
                          refine w_seq ?_
                          refine w_block ?_
                          by_cases c343 : (wr64 (1 + t256)) = 2
                          · rw [if_pos c343] at e333
                            have c343b : ((wr64 (1 + t256)) == 2) = true := beq_iff_eq.mpr c343
                            obtain ⟨⟨t344, t345⟩, h346, e333⟩ := bind_of e333
                            try dsimp only at e333
                            obtain ⟨⟨t347, t348, t349, t350, t351⟩, h352, e333⟩ := bind_of e333
                            try dsimp only at e333
                            obtain ⟨y355, hl356, e333⟩ := bind_of e333
                            refine w_kp [0, 2, 3, 4, 5, 6, 7] (σ' := [(0, .pointer (some ⟨B0, 0, none⟩)), (2, .pointer (some ⟨b222, 0, none⟩)), (3, .pointer (some ⟨b232, 0, none⟩)), (4, .int .i64 (wr64 ((mx (wr64 (1 + t223)) (wr64 (1 + t226))) * 2 ^ (min (Int.toNat (wru64 t229)) 64)))), (5, .int .i64 x240), (6, .pointer (some ⟨b259, 0, none⟩)), (7, .int .i64 x338)]) (by kernel_rfl) ?_
                            refine w_gameQ mixed (by kernel_rfl) fun all G hend hstep hqf => ?_
                            have hg_1ffff : ∀ (g357 : Option Nat) (ng357 : Nat) (g354 : Nat) (N353 : Option Nat) (nN353 : Nat) (csg357 : List Value) (hrg357 : RL (rdOf (([⟨N353, encL E_i647 t350, nN353⟩] : List Own) ++ (Fa339 ++ [])) S) N_0 y355 csg357), G [true, true, true, true, true, true, true, true, true, true, true, true, true, true, true, true, true] [(0, .pointer (some ⟨B0, 0, none⟩)), (2, .pointer (some ⟨b222, 0, none⟩)), (3, .pointer (some ⟨b232, 0, none⟩)), (4, .int .i64 (wr64 ((mx (wr64 (1 + t223)) (wr64 (1 + t226))) * 2 ^ (min (Int.toNat (wru64 t229)) 64)))), (5, .int .i64 x240), (6, .pointer (some ⟨b259, 0, none⟩)), (7, .int .i64 x338)] (([⟨g357, csg357, ng357⟩, ⟨g354, [.int .i64 t347, .int .i64 t348, .slice (ad N353) t350.length (nN353 / 7), .bool t349], 4⟩, ⟨N353, encL E_i647 t350, nN353⟩, ⟨B0, [.slice a_m0_0 m0_0.length c_m0_0, .int .i64 t351], 2⟩, ⟨b232, [.int .i64 (wr64 (1 + t223)), .int .i64 (wr64 (1 + t226)), .int .i64 t229, .slice (ad a304) y305.length (na304 / 4), .slice (ad a241) y242.length (na241 / 11)], 5⟩, ⟨b259, [.int .i64 (wr64 (1 + t256)), .int .i64 x270, .int .i64 x271, .int .i64 t273, .int .i64 t282, .int .i64 x307, .int .i64 x308, .int .i64 x309, .int .i64 x331, .int .i64 x322, .slice (ad g357) y355.length (ng357 / 4)], 11⟩, ⟨b222, [.int .i64 0, .int .i64 0, .int .i64 0, .slice (ad a247) y248.length (na247 / 4), .slice (ad a245) y246.length (na245 / 11)], 5⟩, ⟨a304, encL E_u84 y305, na304⟩, ⟨a241, csa241, na241⟩, ⟨a247, encL E_u84 y248, na247⟩, ⟨a245, csa245, na245⟩] : List Own) ++ (Fa241 ++ (Fa245 ++ (Fa339 ++ [])))) := by
                              intro g357 ng357 g354 N353 nN353 csg357 hrg357
                              refine hend _ _ _ (by kernel_rfl) ?_
                              show W _ _ _ _ _ _ _
                              refine w_reg fun all => ?_
                              refine t_qz 3 [0, 2, 3, 4, 5, 6, 7] (σ' := [(0, .pointer (some ⟨B0, 0, none⟩)), (2, .pointer (some ⟨b222, 0, none⟩)), (3, .pointer (some ⟨b232, 0, none⟩)), (4, .int .i64 (wr64 ((mx (wr64 (1 + t223)) (wr64 (1 + t226))) * 2 ^ (min (Int.toNat (wru64 t229)) 64)))), (5, .int .i64 x240), (6, .pointer (some ⟨b259, 0, none⟩)), (7, .int .i64 (wr64 (x338 - 1)))]) (by kernel_rfl) ?_
                              refine t_end ?_
                              exact ⟨k_, Nat.lt_succ_self _, [(0, .pointer (some ⟨B0, 0, none⟩)), (2, .pointer (some ⟨b222, 0, none⟩)), (3, .pointer (some ⟨b232, 0, none⟩)), (4, .int .i64 (wr64 ((mx (wr64 (1 + t223)) (wr64 (1 + t226))) * 2 ^ (min (Int.toNat (wru64 t229)) 64)))), (5, .int .i64 x240), (6, .pointer (some ⟨b259, 0, none⟩)), (7, .int .i64 (wr64 (x338 - 1)))], (([⟨g357, csg357, ng357⟩, ⟨B0, [.slice a_m0_0 m0_0.length c_m0_0, .int .i64 t351], 2⟩, ⟨b232, [.int .i64 (wr64 (1 + t223)), .int .i64 (wr64 (1 + t226)), .int .i64 t229, .slice (ad a304) y305.length (na304 / 4), .slice (ad a241) y242.length (na241 / 11)], 5⟩, ⟨b259, [.int .i64 (wr64 (1 + t256)), .int .i64 x270, .int .i64 x271, .int .i64 t273, .int .i64 t282, .int .i64 x307, .int .i64 x308, .int .i64 x309, .int .i64 x331, .int .i64 x322, .slice (ad g357) y355.length (ng357 / 4)], 11⟩, ⟨b222, [.int .i64 0, .int .i64 0, .int .i64 0, .slice (ad a247) y248.length (na247 / 4), .slice (ad a245) y246.length (na245 / 11)], 5⟩, ⟨a304, encL E_u84 y305, na304⟩, ⟨a241, csa241, na241⟩, ⟨a247, encL E_u84 y248, na247⟩, ⟨a245, csa245, na245⟩] : List Own) ++ (Fa241 ++ (Fa245 ++ ((([⟨N353, encL E_i647 t350, nN353⟩] : List Own) ++ (Fa339 ++ [])) ++ [])))), S, keep_sub [0, 2, 3, 4, 5, 6, 7] (by kernel_rfl), VS.treeA (.a (.l ([⟨g357, csg357, ng357⟩, ⟨g354, [.int .i64 t347, .int .i64 t348, .slice (ad N353) t350.length (nN353 / 7), .bool t349], 4⟩, ⟨N353, encL E_i647 t350, nN353⟩, ⟨B0, [.slice a_m0_0 m0_0.length c_m0_0, .int .i64 t351], 2⟩, ⟨b232, [.int .i64 (wr64 (1 + t223)), .int .i64 (wr64 (1 + t226)), .int .i64 t229, .slice (ad a304) y305.length (na304 / 4), .slice (ad a241) y242.length (na241 / 11)], 5⟩, ⟨b259, [.int .i64 (wr64 (1 + t256)), .int .i64 x270, .int .i64 x271, .int .i64 t273, .int .i64 t282, .int .i64 x307, .int .i64 x308, .int .i64 x309, .int .i64 x331, .int .i64 x322, .slice (ad g357) y355.length (ng357 / 4)], 11⟩, ⟨b222, [.int .i64 0, .int .i64 0, .int .i64 0, .slice (ad a247) y248.length (na247 / 4), .slice (ad a245) y246.length (na245 / 11)], 5⟩, ⟨a304, encL E_u84 y305, na304⟩, ⟨a241, csa241, na241⟩, ⟨a247, encL E_u84 y248, na247⟩, ⟨a245, csa245, na245⟩] : List Own)) (.a (.f Fa241) (.a (.f Fa245) (.a (.f Fa339) (.l []))))) (.a (.l ([⟨g357, csg357, ng357⟩, ⟨B0, [.slice a_m0_0 m0_0.length c_m0_0, .int .i64 t351], 2⟩, ⟨b232, [.int .i64 (wr64 (1 + t223)), .int .i64 (wr64 (1 + t226)), .int .i64 t229, .slice (ad a304) y305.length (na304 / 4), .slice (ad a241) y242.length (na241 / 11)], 5⟩, ⟨b259, [.int .i64 (wr64 (1 + t256)), .int .i64 x270, .int .i64 x271, .int .i64 t273, .int .i64 t282, .int .i64 x307, .int .i64 x308, .int .i64 x309, .int .i64 x331, .int .i64 x322, .slice (ad g357) y355.length (ng357 / 4)], 11⟩, ⟨b222, [.int .i64 0, .int .i64 0, .int .i64 0, .slice (ad a247) y248.length (na247 / 4), .slice (ad a245) y246.length (na245 / 11)], 5⟩, ⟨a304, encL E_u84 y305, na304⟩, ⟨a241, csa241, na241⟩, ⟨a247, encL E_u84 y248, na247⟩, ⟨a245, csa245, na245⟩] : List Own)) (.a (.f Fa241) (.a (.f Fa245) (.a (.a (.l ([⟨N353, encL E_i647 t350, nN353⟩] : List Own)) (.a (.f Fa339) (.l []))) (.l []))))) [0, 2, 2, 2, 2, 2, 2, 2, 2, 2, 2, 1, 1] (by kernel_rfl), wr64 (x338 - 1), y355, t351, g357, ng357, csg357, (([⟨N353, encL E_i647 t350, nN353⟩] : List Own) ++ (Fa339 ++ [])), rfl, rfl, rfl, e333, RL.mono hrg357 (rd_sub seg_hd)⟩
                            have hg_ffff : ∀ (g357 : Option Nat) (ng357 : Nat) (g354 : Nat) (N353 : Option Nat) (nN353 : Nat) (csg357 : List Value) (hrg357 : RL (rdOf (([⟨N353, encL E_i647 t350, nN353⟩] : List Own) ++ (Fa339 ++ [])) S) N_0 y355 csg357), G [true, true, true, true, true, true, true, true, true, true, true, true, true, true, true, true, false] [(0, .pointer (some ⟨B0, 0, none⟩)), (2, .pointer (some ⟨b222, 0, none⟩)), (3, .pointer (some ⟨b232, 0, none⟩)), (4, .int .i64 (wr64 ((mx (wr64 (1 + t223)) (wr64 (1 + t226))) * 2 ^ (min (Int.toNat (wru64 t229)) 64)))), (5, .int .i64 x240), (6, .pointer (some ⟨b259, 0, none⟩)), (7, .int .i64 x338), (131, .slice (ad g357) y355.length (ng357 / 4)), (132, .pointer (some ⟨b259, 10, none⟩))] (([⟨g357, csg357, ng357⟩, ⟨g354, [.int .i64 t347, .int .i64 t348, .slice (ad N353) t350.length (nN353 / 7), .bool t349], 4⟩, ⟨N353, encL E_i647 t350, nN353⟩, ⟨B0, [.slice a_m0_0 m0_0.length c_m0_0, .int .i64 t351], 2⟩, ⟨b232, [.int .i64 (wr64 (1 + t223)), .int .i64 (wr64 (1 + t226)), .int .i64 t229, .slice (ad a304) y305.length (na304 / 4), .slice (ad a241) y242.length (na241 / 11)], 5⟩, ⟨b259, [.int .i64 (wr64 (1 + t256)), .int .i64 x270, .int .i64 x271, .int .i64 t273, .int .i64 t282, .int .i64 x307, .int .i64 x308, .int .i64 x309, .int .i64 x331, .int .i64 x322, .slice (ad a339) y340.length (na339 / 4)], 11⟩, ⟨b222, [.int .i64 0, .int .i64 0, .int .i64 0, .slice (ad a247) y248.length (na247 / 4), .slice (ad a245) y246.length (na245 / 11)], 5⟩, ⟨a304, encL E_u84 y305, na304⟩, ⟨a241, csa241, na241⟩, ⟨a247, encL E_u84 y248, na247⟩, ⟨a245, csa245, na245⟩] : List Own) ++ (Fa241 ++ (Fa245 ++ (Fa339 ++ [])))) := by
                              intro g357 ng357 g354 N353 nN353 csg357 hrg357
                              refine hstep [16] _ _ _ (by kernel_rfl) (List.cons_ne_nil _ _) ⟨?_, trivial⟩
                              · show T _ _ _ _ _ _ _ _
                                refine t_sti 5 (cs := [.int .i64 (wr64 (1 + t256)), .int .i64 x270, .int .i64 x271, .int .i64 t273, .int .i64 t282, .int .i64 x307, .int .i64 x308, .int .i64 x309, .int .i64 x331, .int .i64 x322, .slice (ad g357) y355.length (ng357 / 4)]) rfl rfl rfl rfl rfl rfl rfl rfl rfl ?_
                                exact t_fin [0, 2, 3, 4, 5, 6, 7] (hg_1ffff g357 ng357 g354 N353 nN353 csg357 hrg357) (by kernel_rfl)
                            have hg_7fff : ∀ (g357 : Option Nat) (ng357 : Nat) (g354 : Nat) (N353 : Option Nat) (nN353 : Nat) (csg357 : List Value) (hrg357 : RL (rdOf (([⟨N353, encL E_i647 t350, nN353⟩] : List Own) ++ (Fa339 ++ [])) S) N_0 y355 csg357), G [true, true, true, true, true, true, true, true, true, true, true, true, true, true, true, false, false] [(0, .pointer (some ⟨B0, 0, none⟩)), (2, .pointer (some ⟨b222, 0, none⟩)), (3, .pointer (some ⟨b232, 0, none⟩)), (4, .int .i64 (wr64 ((mx (wr64 (1 + t223)) (wr64 (1 + t226))) * 2 ^ (min (Int.toNat (wru64 t229)) 64)))), (5, .int .i64 x240), (6, .pointer (some ⟨b259, 0, none⟩)), (7, .int .i64 x338), (131, .slice (ad g357) y355.length (ng357 / 4))] (([⟨g357, csg357, ng357⟩, ⟨g354, [.int .i64 t347, .int .i64 t348, .slice (ad N353) t350.length (nN353 / 7), .bool t349], 4⟩, ⟨N353, encL E_i647 t350, nN353⟩, ⟨B0, [.slice a_m0_0 m0_0.length c_m0_0, .int .i64 t351], 2⟩, ⟨b232, [.int .i64 (wr64 (1 + t223)), .int .i64 (wr64 (1 + t226)), .int .i64 t229, .slice (ad a304) y305.length (na304 / 4), .slice (ad a241) y242.length (na241 / 11)], 5⟩, ⟨b259, [.int .i64 (wr64 (1 + t256)), .int .i64 x270, .int .i64 x271, .int .i64 t273, .int .i64 t282, .int .i64 x307, .int .i64 x308, .int .i64 x309, .int .i64 x331, .int .i64 x322, .slice (ad a339) y340.length (na339 / 4)], 11⟩, ⟨b222, [.int .i64 0, .int .i64 0, .int .i64 0, .slice (ad a247) y248.length (na247 / 4), .slice (ad a245) y246.length (na245 / 11)], 5⟩, ⟨a304, encL E_u84 y305, na304⟩, ⟨a241, csa241, na241⟩, ⟨a247, encL E_u84 y248, na247⟩, ⟨a245, csa245, na245⟩] : List Own) ++ (Fa241 ++ (Fa245 ++ (Fa339 ++ [])))) := by
                              intro g357 ng357 g354 N353 nN353 csg357 hrg357
                              exact hqf 15 [0, 2, 3, 4, 5, 6, 7, 131, 132] _ _ _ _ (by kernel_rfl) (by kernel_rfl) (hg_ffff g357 ng357 g354 N353 nN353 csg357 hrg357)
                            have hg_3fff : ∀ (g354 : Nat) (N353 : Option Nat) (nN353 : Nat), G [true, true, true, true, true, true, true, true, true, true, true, true, true, true, false, false, false] [(0, .pointer (some ⟨B0, 0, none⟩)), (2, .pointer (some ⟨b222, 0, none⟩)), (3, .pointer (some ⟨b232, 0, none⟩)), (4, .int .i64 (wr64 ((mx (wr64 (1 + t223)) (wr64 (1 + t226))) * 2 ^ (min (Int.toNat (wru64 t229)) 64)))), (5, .int .i64 x240), (6, .pointer (some ⟨b259, 0, none⟩)), (7, .int .i64 x338), (118, .slice (ad a339) y340.length (na339 / 4)), (130, .slice (some ⟨g354, 0, none⟩) 1 1)] (([⟨g354, [.int .i64 t347, .int .i64 t348, .slice (ad N353) t350.length (nN353 / 7), .bool t349], 4⟩, ⟨N353, encL E_i647 t350, nN353⟩, ⟨B0, [.slice a_m0_0 m0_0.length c_m0_0, .int .i64 t351], 2⟩, ⟨a339, csa339, na339⟩, ⟨b232, [.int .i64 (wr64 (1 + t223)), .int .i64 (wr64 (1 + t226)), .int .i64 t229, .slice (ad a304) y305.length (na304 / 4), .slice (ad a241) y242.length (na241 / 11)], 5⟩, ⟨b259, [.int .i64 (wr64 (1 + t256)), .int .i64 x270, .int .i64 x271, .int .i64 t273, .int .i64 t282, .int .i64 x307, .int .i64 x308, .int .i64 x309, .int .i64 x331, .int .i64 x322, .slice (ad a339) y340.length (na339 / 4)], 11⟩, ⟨b222, [.int .i64 0, .int .i64 0, .int .i64 0, .slice (ad a247) y248.length (na247 / 4), .slice (ad a245) y246.length (na245 / 11)], 5⟩, ⟨a304, encL E_u84 y305, na304⟩, ⟨a241, csa241, na241⟩, ⟨a247, encL E_u84 y248, na247⟩, ⟨a245, csa245, na245⟩] : List Own) ++ (Fa241 ++ (Fa245 ++ (Fa339 ++ [])))) := by
                              intro g354 N353 nN353
                              refine hstep [14] _ _ _ (by kernel_rfl) (List.cons_ne_nil _ _) ⟨?_, trivial⟩
                              · show T _ _ _ _ _ _ _ _
                                refine t_someB 1 rfl fun hbN353_ => ?_
                                refine t_appN (R := rdOf (([⟨N353, encL E_i647 t350, nN353⟩] : List Own) ++ (Fa339 ++ [])) S) (E := N_0) (L := y340) (X := ([(t347, t348, t350, t349)] : List (Int × Int × List (Int × Int × Int × Int × Int × Int × Int) × Bool))) (cs := csa339) (ds := [.int .i64 t347, .int .i64 t348, .slice (ad N353) t350.length (nN353 / 7), .bool t349]) (F := (([⟨g354, [.int .i64 t347, .int .i64 t348, .slice (ad N353) t350.length (nN353 / 7), .bool t349], 4⟩, ⟨N353, encL E_i647 t350, nN353⟩, ⟨B0, [.slice a_m0_0 m0_0.length c_m0_0, .int .i64 t351], 2⟩, ⟨b232, [.int .i64 (wr64 (1 + t223)), .int .i64 (wr64 (1 + t226)), .int .i64 t229, .slice (ad a304) y305.length (na304 / 4), .slice (ad a241) y242.length (na241 / 11)], 5⟩, ⟨b259, [.int .i64 (wr64 (1 + t256)), .int .i64 x270, .int .i64 x271, .int .i64 t273, .int .i64 t282, .int .i64 x307, .int .i64 x308, .int .i64 x309, .int .i64 x331, .int .i64 x322, .slice (ad a339) y340.length (na339 / 4)], 11⟩, ⟨b222, [.int .i64 0, .int .i64 0, .int .i64 0, .slice (ad a247) y248.length (na247 / 4), .slice (ad a245) y246.length (na245 / 11)], 5⟩, ⟨a304, encL E_u84 y305, na304⟩, ⟨a241, csa241, na241⟩, ⟨a247, encL E_u84 y248, na247⟩, ⟨a245, csa245, na245⟩] : List Own) ++ (Fa241 ++ (Fa245 ++ (Fa339 ++ []))))) rfl rfl rfl rfl (sel_perm (is := [3]) (by kernel_rfl)) (RL.mono hra339 (rd_sub (sub_app (seg_in 1 (X := (Fa339 ++ [])) rfl seg_hd) sub_nil))) (RL.one (E := N_0) ⟨_, _, rfl, SlN.own (RL.flat (E := E_i647)) hbN353_ (by decide) (fun _ hk_ => Or.inl ⟨_, mem_at 0 rfl, hk_, rfl⟩)⟩) rfl (by decide) (.at 0 rfl (by kernel_rfl)) rfl (by decide) (by decide) rfl hl356 fun g357 ng357 csg357 hrg357 => ?_
                                exact t_fin [0, 2, 3, 4, 5, 6, 7, 131] (hg_7fff g357 ng357 g354 N353 nN353 csg357 hrg357) (by kernel_rfl)
                            have hg_3ffd : ∀ (g354 : Nat) (N353 : Option Nat) (nN353 : Nat), G [true, false, true, true, true, true, true, true, true, true, true, true, true, true, false, false, false] [(0, .pointer (some ⟨B0, 0, none⟩)), (2, .pointer (some ⟨b222, 0, none⟩)), (3, .pointer (some ⟨b232, 0, none⟩)), (4, .int .i64 (wr64 ((mx (wr64 (1 + t223)) (wr64 (1 + t226))) * 2 ^ (min (Int.toNat (wru64 t229)) 64)))), (5, .int .i64 x240), (6, .pointer (some ⟨b259, 0, none⟩)), (7, .int .i64 x338), (117, .pointer (some ⟨b259, 10, none⟩)), (130, .slice (some ⟨g354, 0, none⟩) 1 1)] (([⟨g354, [.int .i64 t347, .int .i64 t348, .slice (ad N353) t350.length (nN353 / 7), .bool t349], 4⟩, ⟨N353, encL E_i647 t350, nN353⟩, ⟨B0, [.slice a_m0_0 m0_0.length c_m0_0, .int .i64 t351], 2⟩, ⟨a339, csa339, na339⟩, ⟨b232, [.int .i64 (wr64 (1 + t223)), .int .i64 (wr64 (1 + t226)), .int .i64 t229, .slice (ad a304) y305.length (na304 / 4), .slice (ad a241) y242.length (na241 / 11)], 5⟩, ⟨b259, [.int .i64 (wr64 (1 + t256)), .int .i64 x270, .int .i64 x271, .int .i64 t273, .int .i64 t282, .int .i64 x307, .int .i64 x308, .int .i64 x309, .int .i64 x331, .int .i64 x322, .slice (ad a339) y340.length (na339 / 4)], 11⟩, ⟨b222, [.int .i64 0, .int .i64 0, .int .i64 0, .slice (ad a247) y248.length (na247 / 4), .slice (ad a245) y246.length (na245 / 11)], 5⟩, ⟨a304, encL E_u84 y305, na304⟩, ⟨a241, csa241, na241⟩, ⟨a247, encL E_u84 y248, na247⟩, ⟨a245, csa245, na245⟩] : List Own) ++ (Fa241 ++ (Fa245 ++ (Fa339 ++ [])))) := by
                              intro g354 N353 nN353
                              refine hstep [1] _ _ _ (by kernel_rfl) (List.cons_ne_nil _ _) ⟨?_, trivial⟩
                              · show T _ _ _ _ _ _ _ _
                                refine t_v (.ld1 rfl rfl rfl (.at 5 rfl rfl)) ?_
                                exact t_fin [0, 2, 3, 4, 5, 6, 7, 118, 130] (hg_3fff g354 N353 nN353) (by kernel_rfl)
                            have hg_1fff : ∀ (N353 : Option Nat) (nN353 : Nat), G [true, true, true, true, true, true, true, true, true, true, true, true, true, false, false, false, false] [(0, .pointer (some ⟨B0, 0, none⟩)), (2, .pointer (some ⟨b222, 0, none⟩)), (3, .pointer (some ⟨b232, 0, none⟩)), (4, .int .i64 (wr64 ((mx (wr64 (1 + t223)) (wr64 (1 + t226))) * 2 ^ (min (Int.toNat (wru64 t229)) 64)))), (5, .int .i64 x240), (6, .pointer (some ⟨b259, 0, none⟩)), (7, .int .i64 x338), (118, .slice (ad a339) y340.length (na339 / 4)), (129, .agg #[.int .i64 t347, .int .i64 t348, .slice (ad N353) t350.length (nN353 / 7), .bool t349])] (([⟨N353, encL E_i647 t350, nN353⟩, ⟨B0, [.slice a_m0_0 m0_0.length c_m0_0, .int .i64 t351], 2⟩, ⟨a339, csa339, na339⟩, ⟨b232, [.int .i64 (wr64 (1 + t223)), .int .i64 (wr64 (1 + t226)), .int .i64 t229, .slice (ad a304) y305.length (na304 / 4), .slice (ad a241) y242.length (na241 / 11)], 5⟩, ⟨b259, [.int .i64 (wr64 (1 + t256)), .int .i64 x270, .int .i64 x271, .int .i64 t273, .int .i64 t282, .int .i64 x307, .int .i64 x308, .int .i64 x309, .int .i64 x331, .int .i64 x322, .slice (ad a339) y340.length (na339 / 4)], 11⟩, ⟨b222, [.int .i64 0, .int .i64 0, .int .i64 0, .slice (ad a247) y248.length (na247 / 4), .slice (ad a245) y246.length (na245 / 11)], 5⟩, ⟨a304, encL E_u84 y305, na304⟩, ⟨a241, csa241, na241⟩, ⟨a247, encL E_u84 y248, na247⟩, ⟨a245, csa245, na245⟩] : List Own) ++ (Fa241 ++ (Fa245 ++ (Fa339 ++ [])))) := by
                              intro N353 nN353
                              refine hstep [13] _ _ _ (by kernel_rfl) (List.cons_ne_nil _ _) ⟨?_, trivial⟩
                              · show T _ _ _ _ _ _ _ _
                                refine t_a (dv_bsl (cs := [.int .i64 t347, .int .i64 t348, .slice (ad N353) t350.length (nN353 / 7), .bool t349]) rfl rfl (by kernel_rfl)) fun g354 fg354 sg354 => ?_
                                exact t_fin [0, 2, 3, 4, 5, 6, 7, 118, 130] (hg_3fff g354 N353 nN353) (by kernel_rfl)
                            have hg_fff : G [true, true, true, true, true, true, true, true, true, true, true, true, false, false, false, false, false] [(0, .pointer (some ⟨B0, 0, none⟩)), (2, .pointer (some ⟨b222, 0, none⟩)), (3, .pointer (some ⟨b232, 0, none⟩)), (4, .int .i64 (wr64 ((mx (wr64 (1 + t223)) (wr64 (1 + t226))) * 2 ^ (min (Int.toNat (wru64 t229)) 64)))), (5, .int .i64 x240), (6, .pointer (some ⟨b259, 0, none⟩)), (7, .int .i64 x338), (118, .slice (ad a339) y340.length (na339 / 4)), (119, .pointer (some ⟨B0, 0, none⟩)), (120, .int .i64 (wr64 ((mx (wr64 (1 + t223)) (wr64 (1 + t226))) * 2 ^ (min (Int.toNat (wru64 t229)) 64)))), (128, .bool (t344 == 0))] (([⟨B0, [.slice a_m0_0 m0_0.length c_m0_0, .int .i64 t345], 2⟩, ⟨a339, csa339, na339⟩, ⟨b232, [.int .i64 (wr64 (1 + t223)), .int .i64 (wr64 (1 + t226)), .int .i64 t229, .slice (ad a304) y305.length (na304 / 4), .slice (ad a241) y242.length (na241 / 11)], 5⟩, ⟨b259, [.int .i64 (wr64 (1 + t256)), .int .i64 x270, .int .i64 x271, .int .i64 t273, .int .i64 t282, .int .i64 x307, .int .i64 x308, .int .i64 x309, .int .i64 x331, .int .i64 x322, .slice (ad a339) y340.length (na339 / 4)], 11⟩, ⟨b222, [.int .i64 0, .int .i64 0, .int .i64 0, .slice (ad a247) y248.length (na247 / 4), .slice (ad a245) y246.length (na245 / 11)], 5⟩, ⟨a304, encL E_u84 y305, na304⟩, ⟨a241, csa241, na241⟩, ⟨a247, encL E_u84 y248, na247⟩, ⟨a245, csa245, na245⟩] : List Own) ++ (Fa241 ++ (Fa245 ++ (Fa339 ++ [])))) := by
                              refine hstep [12] _ _ _ (by kernel_rfl) (List.cons_ne_nil _ _) ⟨?_, trivial⟩
                              · show T _ _ _ _ _ _ _ _
                                refine t_call (vs := [.pointer (some ⟨B0, 0, none⟩), .int .i64 (wr64 ((mx (wr64 (1 + t223)) (wr64 (1 + t226))) * 2 ^ (min (Int.toNat (wru64 t229)) 64))), .bool (t344 == 0)]) (H1 := ([⟨B0, [.slice a_m0_0 m0_0.length c_m0_0, .int .i64 t345], 2⟩] : List Own)) (F := (([⟨a339, csa339, na339⟩, ⟨b232, [.int .i64 (wr64 (1 + t223)), .int .i64 (wr64 (1 + t226)), .int .i64 t229, .slice (ad a304) y305.length (na304 / 4), .slice (ad a241) y242.length (na241 / 11)], 5⟩, ⟨b259, [.int .i64 (wr64 (1 + t256)), .int .i64 x270, .int .i64 x271, .int .i64 t273, .int .i64 t282, .int .i64 x307, .int .i64 x308, .int .i64 x309, .int .i64 x331, .int .i64 x322, .slice (ad a339) y340.length (na339 / 4)], 11⟩, ⟨b222, [.int .i64 0, .int .i64 0, .int .i64 0, .slice (ad a247) y248.length (na247 / 4), .slice (ad a245) y246.length (na245 / 11)], 5⟩, ⟨a304, encL E_u84 y305, na304⟩, ⟨a241, csa241, na241⟩, ⟨a247, encL E_u84 y248, na247⟩, ⟨a245, csa245, na245⟩] : List Own) ++ (Fa241 ++ (Fa245 ++ (Fa339 ++ []))))) rfl rfl (by kernel_rfl) (sel_perm (is := [0]) (by kernel_rfl)) (glyphicmake_Path_v1.ok hE_ h_m0_0 h352) ?_
                                rintro _ _ S_ ⟨N353, nN353, rfl, rfl, hS_⟩
                                obtain rfl := hS_.symm
                                exact t_fin [0, 2, 3, 4, 5, 6, 7, 118, 129] (hg_1fff N353 nN353) (by kernel_rfl)
                            have hg_1ffd : ∀ (N353 : Option Nat) (nN353 : Nat), G [true, false, true, true, true, true, true, true, true, true, true, true, true, false, false, false, false] [(0, .pointer (some ⟨B0, 0, none⟩)), (2, .pointer (some ⟨b222, 0, none⟩)), (3, .pointer (some ⟨b232, 0, none⟩)), (4, .int .i64 (wr64 ((mx (wr64 (1 + t223)) (wr64 (1 + t226))) * 2 ^ (min (Int.toNat (wru64 t229)) 64)))), (5, .int .i64 x240), (6, .pointer (some ⟨b259, 0, none⟩)), (7, .int .i64 x338), (117, .pointer (some ⟨b259, 10, none⟩)), (129, .agg #[.int .i64 t347, .int .i64 t348, .slice (ad N353) t350.length (nN353 / 7), .bool t349])] (([⟨N353, encL E_i647 t350, nN353⟩, ⟨B0, [.slice a_m0_0 m0_0.length c_m0_0, .int .i64 t351], 2⟩, ⟨a339, csa339, na339⟩, ⟨b232, [.int .i64 (wr64 (1 + t223)), .int .i64 (wr64 (1 + t226)), .int .i64 t229, .slice (ad a304) y305.length (na304 / 4), .slice (ad a241) y242.length (na241 / 11)], 5⟩, ⟨b259, [.int .i64 (wr64 (1 + t256)), .int .i64 x270, .int .i64 x271, .int .i64 t273, .int .i64 t282, .int .i64 x307, .int .i64 x308, .int .i64 x309, .int .i64 x331, .int .i64 x322, .slice (ad a339) y340.length (na339 / 4)], 11⟩, ⟨b222, [.int .i64 0, .int .i64 0, .int .i64 0, .slice (ad a247) y248.length (na247 / 4), .slice (ad a245) y246.length (na245 / 11)], 5⟩, ⟨a304, encL E_u84 y305, na304⟩, ⟨a241, csa241, na241⟩, ⟨a247, encL E_u84 y248, na247⟩, ⟨a245, csa245, na245⟩] : List Own) ++ (Fa241 ++ (Fa245 ++ (Fa339 ++ [])))) := by
                              intro N353 nN353
                              refine hstep [1, 13] _ _ _ (by kernel_rfl) (List.cons_ne_nil _ _) ⟨?_, ?_, trivial⟩
                              · show T _ _ _ _ _ _ _ _
                                refine t_v (.ld1 rfl rfl rfl (.at 4 rfl rfl)) ?_
                                exact t_fin [0, 2, 3, 4, 5, 6, 7, 118, 129] (hg_1fff N353 nN353) (by kernel_rfl)
                              · show T _ _ _ _ _ _ _ _
                                refine t_a (dv_bsl (cs := [.int .i64 t347, .int .i64 t348, .slice (ad N353) t350.length (nN353 / 7), .bool t349]) rfl rfl (by kernel_rfl)) fun g354 fg354 sg354 => ?_
                                exact t_fin [0, 2, 3, 4, 5, 6, 7, 117, 130] (hg_3ffd g354 N353 nN353) (by kernel_rfl)
                            have hg_7ff : G [true, true, true, true, true, true, true, true, true, true, true, false, false, false, false, false, false] [(0, .pointer (some ⟨B0, 0, none⟩)), (2, .pointer (some ⟨b222, 0, none⟩)), (3, .pointer (some ⟨b232, 0, none⟩)), (4, .int .i64 (wr64 ((mx (wr64 (1 + t223)) (wr64 (1 + t226))) * 2 ^ (min (Int.toNat (wru64 t229)) 64)))), (5, .int .i64 x240), (6, .pointer (some ⟨b259, 0, none⟩)), (7, .int .i64 x338), (118, .slice (ad a339) y340.length (na339 / 4)), (119, .pointer (some ⟨B0, 0, none⟩)), (120, .int .i64 (wr64 ((mx (wr64 (1 + t223)) (wr64 (1 + t226))) * 2 ^ (min (Int.toNat (wru64 t229)) 64)))), (124, .bool true), (127, .bool (t344 == 0))] (([⟨B0, [.slice a_m0_0 m0_0.length c_m0_0, .int .i64 t345], 2⟩, ⟨a339, csa339, na339⟩, ⟨b232, [.int .i64 (wr64 (1 + t223)), .int .i64 (wr64 (1 + t226)), .int .i64 t229, .slice (ad a304) y305.length (na304 / 4), .slice (ad a241) y242.length (na241 / 11)], 5⟩, ⟨b259, [.int .i64 (wr64 (1 + t256)), .int .i64 x270, .int .i64 x271, .int .i64 t273, .int .i64 t282, .int .i64 x307, .int .i64 x308, .int .i64 x309, .int .i64 x331, .int .i64 x322, .slice (ad a339) y340.length (na339 / 4)], 11⟩, ⟨b222, [.int .i64 0, .int .i64 0, .int .i64 0, .slice (ad a247) y248.length (na247 / 4), .slice (ad a245) y246.length (na245 / 11)], 5⟩, ⟨a304, encL E_u84 y305, na304⟩, ⟨a241, csa241, na241⟩, ⟨a247, encL E_u84 y248, na247⟩, ⟨a245, csa245, na245⟩] : List Own) ++ (Fa241 ++ (Fa245 ++ (Fa339 ++ [])))) := by
                              exact hqf 11 [0, 2, 3, 4, 5, 6, 7, 118, 119, 120, 128] _ _ _ _ (by kernel_rfl) (by kernel_rfl) hg_fff
                            have hg_ffd : G [true, false, true, true, true, true, true, true, true, true, true, true, false, false, false, false, false] [(0, .pointer (some ⟨B0, 0, none⟩)), (2, .pointer (some ⟨b222, 0, none⟩)), (3, .pointer (some ⟨b232, 0, none⟩)), (4, .int .i64 (wr64 ((mx (wr64 (1 + t223)) (wr64 (1 + t226))) * 2 ^ (min (Int.toNat (wru64 t229)) 64)))), (5, .int .i64 x240), (6, .pointer (some ⟨b259, 0, none⟩)), (7, .int .i64 x338), (117, .pointer (some ⟨b259, 10, none⟩)), (119, .pointer (some ⟨B0, 0, none⟩)), (120, .int .i64 (wr64 ((mx (wr64 (1 + t223)) (wr64 (1 + t226))) * 2 ^ (min (Int.toNat (wru64 t229)) 64)))), (128, .bool (t344 == 0))] (([⟨B0, [.slice a_m0_0 m0_0.length c_m0_0, .int .i64 t345], 2⟩, ⟨a339, csa339, na339⟩, ⟨b232, [.int .i64 (wr64 (1 + t223)), .int .i64 (wr64 (1 + t226)), .int .i64 t229, .slice (ad a304) y305.length (na304 / 4), .slice (ad a241) y242.length (na241 / 11)], 5⟩, ⟨b259, [.int .i64 (wr64 (1 + t256)), .int .i64 x270, .int .i64 x271, .int .i64 t273, .int .i64 t282, .int .i64 x307, .int .i64 x308, .int .i64 x309, .int .i64 x331, .int .i64 x322, .slice (ad a339) y340.length (na339 / 4)], 11⟩, ⟨b222, [.int .i64 0, .int .i64 0, .int .i64 0, .slice (ad a247) y248.length (na247 / 4), .slice (ad a245) y246.length (na245 / 11)], 5⟩, ⟨a304, encL E_u84 y305, na304⟩, ⟨a241, csa241, na241⟩, ⟨a247, encL E_u84 y248, na247⟩, ⟨a245, csa245, na245⟩] : List Own) ++ (Fa241 ++ (Fa245 ++ (Fa339 ++ [])))) := by
                              refine hstep [1, 12] _ _ _ (by kernel_rfl) (List.cons_ne_nil _ _) ⟨?_, ?_, trivial⟩
                              · show T _ _ _ _ _ _ _ _
                                refine t_v (.ld1 rfl rfl rfl (.at 3 rfl rfl)) ?_
                                exact t_fin [0, 2, 3, 4, 5, 6, 7, 118, 119, 120, 128] hg_fff (by kernel_rfl)
                              · show T _ _ _ _ _ _ _ _
                                refine t_call (vs := [.pointer (some ⟨B0, 0, none⟩), .int .i64 (wr64 ((mx (wr64 (1 + t223)) (wr64 (1 + t226))) * 2 ^ (min (Int.toNat (wru64 t229)) 64))), .bool (t344 == 0)]) (H1 := ([⟨B0, [.slice a_m0_0 m0_0.length c_m0_0, .int .i64 t345], 2⟩] : List Own)) (F := (([⟨a339, csa339, na339⟩, ⟨b232, [.int .i64 (wr64 (1 + t223)), .int .i64 (wr64 (1 + t226)), .int .i64 t229, .slice (ad a304) y305.length (na304 / 4), .slice (ad a241) y242.length (na241 / 11)], 5⟩, ⟨b259, [.int .i64 (wr64 (1 + t256)), .int .i64 x270, .int .i64 x271, .int .i64 t273, .int .i64 t282, .int .i64 x307, .int .i64 x308, .int .i64 x309, .int .i64 x331, .int .i64 x322, .slice (ad a339) y340.length (na339 / 4)], 11⟩, ⟨b222, [.int .i64 0, .int .i64 0, .int .i64 0, .slice (ad a247) y248.length (na247 / 4), .slice (ad a245) y246.length (na245 / 11)], 5⟩, ⟨a304, encL E_u84 y305, na304⟩, ⟨a241, csa241, na241⟩, ⟨a247, encL E_u84 y248, na247⟩, ⟨a245, csa245, na245⟩] : List Own) ++ (Fa241 ++ (Fa245 ++ (Fa339 ++ []))))) rfl rfl (by kernel_rfl) (sel_perm (is := [0]) (by kernel_rfl)) (glyphicmake_Path_v1.ok hE_ h_m0_0 h352) ?_
                                rintro _ _ S_ ⟨N353, nN353, rfl, rfl, hS_⟩
                                obtain rfl := hS_.symm
                                exact t_fin [0, 2, 3, 4, 5, 6, 7, 117, 129] (hg_1ffd N353 nN353) (by kernel_rfl)
                            have hg_3ff : G [true, true, true, true, true, true, true, true, true, true, false, false, false, false, false, false, false] [(0, .pointer (some ⟨B0, 0, none⟩)), (2, .pointer (some ⟨b222, 0, none⟩)), (3, .pointer (some ⟨b232, 0, none⟩)), (4, .int .i64 (wr64 ((mx (wr64 (1 + t223)) (wr64 (1 + t226))) * 2 ^ (min (Int.toNat (wru64 t229)) 64)))), (5, .int .i64 x240), (6, .pointer (some ⟨b259, 0, none⟩)), (7, .int .i64 x338), (118, .slice (ad a339) y340.length (na339 / 4)), (119, .pointer (some ⟨B0, 0, none⟩)), (120, .int .i64 (wr64 ((mx (wr64 (1 + t223)) (wr64 (1 + t226))) * 2 ^ (min (Int.toNat (wru64 t229)) 64)))), (124, .bool true), (126, .int .i64 t344)] (([⟨B0, [.slice a_m0_0 m0_0.length c_m0_0, .int .i64 t345], 2⟩, ⟨a339, csa339, na339⟩, ⟨b232, [.int .i64 (wr64 (1 + t223)), .int .i64 (wr64 (1 + t226)), .int .i64 t229, .slice (ad a304) y305.length (na304 / 4), .slice (ad a241) y242.length (na241 / 11)], 5⟩, ⟨b259, [.int .i64 (wr64 (1 + t256)), .int .i64 x270, .int .i64 x271, .int .i64 t273, .int .i64 t282, .int .i64 x307, .int .i64 x308, .int .i64 x309, .int .i64 x331, .int .i64 x322, .slice (ad a339) y340.length (na339 / 4)], 11⟩, ⟨b222, [.int .i64 0, .int .i64 0, .int .i64 0, .slice (ad a247) y248.length (na247 / 4), .slice (ad a245) y246.length (na245 / 11)], 5⟩, ⟨a304, encL E_u84 y305, na304⟩, ⟨a241, csa241, na241⟩, ⟨a247, encL E_u84 y248, na247⟩, ⟨a245, csa245, na245⟩] : List Own) ++ (Fa241 ++ (Fa245 ++ (Fa339 ++ [])))) := by
                              exact hqf 10 [0, 2, 3, 4, 5, 6, 7, 118, 119, 120, 124, 127] _ _ _ _ (by kernel_rfl) (by kernel_rfl) hg_7ff
                            have hg_7fd : G [true, false, true, true, true, true, true, true, true, true, true, false, false, false, false, false, false] [(0, .pointer (some ⟨B0, 0, none⟩)), (2, .pointer (some ⟨b222, 0, none⟩)), (3, .pointer (some ⟨b232, 0, none⟩)), (4, .int .i64 (wr64 ((mx (wr64 (1 + t223)) (wr64 (1 + t226))) * 2 ^ (min (Int.toNat (wru64 t229)) 64)))), (5, .int .i64 x240), (6, .pointer (some ⟨b259, 0, none⟩)), (7, .int .i64 x338), (117, .pointer (some ⟨b259, 10, none⟩)), (119, .pointer (some ⟨B0, 0, none⟩)), (120, .int .i64 (wr64 ((mx (wr64 (1 + t223)) (wr64 (1 + t226))) * 2 ^ (min (Int.toNat (wru64 t229)) 64)))), (124, .bool true), (127, .bool (t344 == 0))] (([⟨B0, [.slice a_m0_0 m0_0.length c_m0_0, .int .i64 t345], 2⟩, ⟨a339, csa339, na339⟩, ⟨b232, [.int .i64 (wr64 (1 + t223)), .int .i64 (wr64 (1 + t226)), .int .i64 t229, .slice (ad a304) y305.length (na304 / 4), .slice (ad a241) y242.length (na241 / 11)], 5⟩, ⟨b259, [.int .i64 (wr64 (1 + t256)), .int .i64 x270, .int .i64 x271, .int .i64 t273, .int .i64 t282, .int .i64 x307, .int .i64 x308, .int .i64 x309, .int .i64 x331, .int .i64 x322, .slice (ad a339) y340.length (na339 / 4)], 11⟩, ⟨b222, [.int .i64 0, .int .i64 0, .int .i64 0, .slice (ad a247) y248.length (na247 / 4), .slice (ad a245) y246.length (na245 / 11)], 5⟩, ⟨a304, encL E_u84 y305, na304⟩, ⟨a241, csa241, na241⟩, ⟨a247, encL E_u84 y248, na247⟩, ⟨a245, csa245, na245⟩] : List Own) ++ (Fa241 ++ (Fa245 ++ (Fa339 ++ [])))) := by
                              exact hqf 11 [0, 2, 3, 4, 5, 6, 7, 117, 119, 120, 128] _ _ _ _ (by kernel_rfl) (by kernel_rfl) hg_ffd
                            have hg_3fd : G [true, false, true, true, true, true, true, true, true, true, false, false, false, false, false, false, false] [(0, .pointer (some ⟨B0, 0, none⟩)), (2, .pointer (some ⟨b222, 0, none⟩)), (3, .pointer (some ⟨b232, 0, none⟩)), (4, .int .i64 (wr64 ((mx (wr64 (1 + t223)) (wr64 (1 + t226))) * 2 ^ (min (Int.toNat (wru64 t229)) 64)))), (5, .int .i64 x240), (6, .pointer (some ⟨b259, 0, none⟩)), (7, .int .i64 x338), (117, .pointer (some ⟨b259, 10, none⟩)), (119, .pointer (some ⟨B0, 0, none⟩)), (120, .int .i64 (wr64 ((mx (wr64 (1 + t223)) (wr64 (1 + t226))) * 2 ^ (min (Int.toNat (wru64 t229)) 64)))), (124, .bool true), (126, .int .i64 t344)] (([⟨B0, [.slice a_m0_0 m0_0.length c_m0_0, .int .i64 t345], 2⟩, ⟨a339, csa339, na339⟩, ⟨b232, [.int .i64 (wr64 (1 + t223)), .int .i64 (wr64 (1 + t226)), .int .i64 t229, .slice (ad a304) y305.length (na304 / 4), .slice (ad a241) y242.length (na241 / 11)], 5⟩, ⟨b259, [.int .i64 (wr64 (1 + t256)), .int .i64 x270, .int .i64 x271, .int .i64 t273, .int .i64 t282, .int .i64 x307, .int .i64 x308, .int .i64 x309, .int .i64 x331, .int .i64 x322, .slice (ad a339) y340.length (na339 / 4)], 11⟩, ⟨b222, [.int .i64 0, .int .i64 0, .int .i64 0, .slice (ad a247) y248.length (na247 / 4), .slice (ad a245) y246.length (na245 / 11)], 5⟩, ⟨a304, encL E_u84 y305, na304⟩, ⟨a241, csa241, na241⟩, ⟨a247, encL E_u84 y248, na247⟩, ⟨a245, csa245, na245⟩] : List Own) ++ (Fa241 ++ (Fa245 ++ (Fa339 ++ [])))) := by
                              exact hqf 10 [0, 2, 3, 4, 5, 6, 7, 117, 119, 120, 124, 127] _ _ _ _ (by kernel_rfl) (by kernel_rfl) hg_7fd
                            have hg_1ff : G [true, true, true, true, true, true, true, true, true, false, false, false, false, false, false, false, false] [(0, .pointer (some ⟨B0, 0, none⟩)), (2, .pointer (some ⟨b222, 0, none⟩)), (3, .pointer (some ⟨b232, 0, none⟩)), (4, .int .i64 (wr64 ((mx (wr64 (1 + t223)) (wr64 (1 + t226))) * 2 ^ (min (Int.toNat (wru64 t229)) 64)))), (5, .int .i64 x240), (6, .pointer (some ⟨b259, 0, none⟩)), (7, .int .i64 x338), (118, .slice (ad a339) y340.length (na339 / 4)), (119, .pointer (some ⟨B0, 0, none⟩)), (120, .int .i64 (wr64 ((mx (wr64 (1 + t223)) (wr64 (1 + t226))) * 2 ^ (min (Int.toNat (wru64 t229)) 64)))), (124, .bool true), (125, .pointer (some ⟨B0, 0, none⟩))] (([⟨a339, csa339, na339⟩, ⟨B0, [.slice a_m0_0 m0_0.length c_m0_0, .int .i64 x341], 2⟩, ⟨b232, [.int .i64 (wr64 (1 + t223)), .int .i64 (wr64 (1 + t226)), .int .i64 t229, .slice (ad a304) y305.length (na304 / 4), .slice (ad a241) y242.length (na241 / 11)], 5⟩, ⟨b259, [.int .i64 (wr64 (1 + t256)), .int .i64 x270, .int .i64 x271, .int .i64 t273, .int .i64 t282, .int .i64 x307, .int .i64 x308, .int .i64 x309, .int .i64 x331, .int .i64 x322, .slice (ad a339) y340.length (na339 / 4)], 11⟩, ⟨b222, [.int .i64 0, .int .i64 0, .int .i64 0, .slice (ad a247) y248.length (na247 / 4), .slice (ad a245) y246.length (na245 / 11)], 5⟩, ⟨a304, encL E_u84 y305, na304⟩, ⟨a241, csa241, na241⟩, ⟨a247, encL E_u84 y248, na247⟩, ⟨a245, csa245, na245⟩] : List Own) ++ (Fa241 ++ (Fa245 ++ (Fa339 ++ [])))) := by
                              refine hstep [9] _ _ _ (by kernel_rfl) (List.cons_ne_nil _ _) ⟨?_, trivial⟩
                              · show T _ _ _ _ _ _ _ _
                                refine t_call (vs := [.pointer (some ⟨B0, 0, none⟩), .int .i64 2]) (H1 := ([⟨B0, [.slice a_m0_0 m0_0.length c_m0_0, .int .i64 x341], 2⟩] : List Own)) (F := (([⟨a339, csa339, na339⟩, ⟨b232, [.int .i64 (wr64 (1 + t223)), .int .i64 (wr64 (1 + t226)), .int .i64 t229, .slice (ad a304) y305.length (na304 / 4), .slice (ad a241) y242.length (na241 / 11)], 5⟩, ⟨b259, [.int .i64 (wr64 (1 + t256)), .int .i64 x270, .int .i64 x271, .int .i64 t273, .int .i64 t282, .int .i64 x307, .int .i64 x308, .int .i64 x309, .int .i64 x331, .int .i64 x322, .slice (ad a339) y340.length (na339 / 4)], 11⟩, ⟨b222, [.int .i64 0, .int .i64 0, .int .i64 0, .slice (ad a247) y248.length (na247 / 4), .slice (ad a245) y246.length (na245 / 11)], 5⟩, ⟨a304, encL E_u84 y305, na304⟩, ⟨a241, csa241, na241⟩, ⟨a247, encL E_u84 y248, na247⟩, ⟨a245, csa245, na245⟩] : List Own) ++ (Fa241 ++ (Fa245 ++ (Fa339 ++ []))))) rfl rfl (by kernel_rfl) (sel_perm (is := [1]) (by kernel_rfl)) (glyphicmake_Seq_Next_v1.ok hE_ h_m0_0 h346) ?_
                                rintro _ _ S_ ⟨rfl, rfl, hS_⟩
                                obtain rfl := hS_.symm
                                exact t_fin [0, 2, 3, 4, 5, 6, 7, 118, 119, 120, 124, 126] hg_3ff (by kernel_rfl)
                            have hg_ff : G [true, true, true, true, true, true, true, true, false, false, false, false, false, false, false, false, false] [(0, .pointer (some ⟨B0, 0, none⟩)), (2, .pointer (some ⟨b222, 0, none⟩)), (3, .pointer (some ⟨b232, 0, none⟩)), (4, .int .i64 (wr64 ((mx (wr64 (1 + t223)) (wr64 (1 + t226))) * 2 ^ (min (Int.toNat (wru64 t229)) 64)))), (5, .int .i64 x240), (6, .pointer (some ⟨b259, 0, none⟩)), (7, .int .i64 x338), (118, .slice (ad a339) y340.length (na339 / 4)), (119, .pointer (some ⟨B0, 0, none⟩)), (120, .int .i64 (wr64 ((mx (wr64 (1 + t223)) (wr64 (1 + t226))) * 2 ^ (min (Int.toNat (wru64 t229)) 64)))), (124, .bool true)] (([⟨a339, csa339, na339⟩, ⟨B0, [.slice a_m0_0 m0_0.length c_m0_0, .int .i64 x341], 2⟩, ⟨b232, [.int .i64 (wr64 (1 + t223)), .int .i64 (wr64 (1 + t226)), .int .i64 t229, .slice (ad a304) y305.length (na304 / 4), .slice (ad a241) y242.length (na241 / 11)], 5⟩, ⟨b259, [.int .i64 (wr64 (1 + t256)), .int .i64 x270, .int .i64 x271, .int .i64 t273, .int .i64 t282, .int .i64 x307, .int .i64 x308, .int .i64 x309, .int .i64 x331, .int .i64 x322, .slice (ad a339) y340.length (na339 / 4)], 11⟩, ⟨b222, [.int .i64 0, .int .i64 0, .int .i64 0, .slice (ad a247) y248.length (na247 / 4), .slice (ad a245) y246.length (na245 / 11)], 5⟩, ⟨a304, encL E_u84 y305, na304⟩, ⟨a241, csa241, na241⟩, ⟨a247, encL E_u84 y248, na247⟩, ⟨a245, csa245, na245⟩] : List Own) ++ (Fa241 ++ (Fa245 ++ (Fa339 ++ [])))) := by
                              exact hqf 8 [0, 2, 3, 4, 5, 6, 7, 118, 119, 120, 124, 125] _ _ _ _ (by kernel_rfl) (by kernel_rfl) hg_1ff
                            have hg_1fd : G [true, false, true, true, true, true, true, true, true, false, false, false, false, false, false, false, false] [(0, .pointer (some ⟨B0, 0, none⟩)), (2, .pointer (some ⟨b222, 0, none⟩)), (3, .pointer (some ⟨b232, 0, none⟩)), (4, .int .i64 (wr64 ((mx (wr64 (1 + t223)) (wr64 (1 + t226))) * 2 ^ (min (Int.toNat (wru64 t229)) 64)))), (5, .int .i64 x240), (6, .pointer (some ⟨b259, 0, none⟩)), (7, .int .i64 x338), (117, .pointer (some ⟨b259, 10, none⟩)), (119, .pointer (some ⟨B0, 0, none⟩)), (120, .int .i64 (wr64 ((mx (wr64 (1 + t223)) (wr64 (1 + t226))) * 2 ^ (min (Int.toNat (wru64 t229)) 64)))), (124, .bool true), (125, .pointer (some ⟨B0, 0, none⟩))] (([⟨a339, csa339, na339⟩, ⟨B0, [.slice a_m0_0 m0_0.length c_m0_0, .int .i64 x341], 2⟩, ⟨b232, [.int .i64 (wr64 (1 + t223)), .int .i64 (wr64 (1 + t226)), .int .i64 t229, .slice (ad a304) y305.length (na304 / 4), .slice (ad a241) y242.length (na241 / 11)], 5⟩, ⟨b259, [.int .i64 (wr64 (1 + t256)), .int .i64 x270, .int .i64 x271, .int .i64 t273, .int .i64 t282, .int .i64 x307, .int .i64 x308, .int .i64 x309, .int .i64 x331, .int .i64 x322, .slice (ad a339) y340.length (na339 / 4)], 11⟩, ⟨b222, [.int .i64 0, .int .i64 0, .int .i64 0, .slice (ad a247) y248.length (na247 / 4), .slice (ad a245) y246.length (na245 / 11)], 5⟩, ⟨a304, encL E_u84 y305, na304⟩, ⟨a241, csa241, na241⟩, ⟨a247, encL E_u84 y248, na247⟩, ⟨a245, csa245, na245⟩] : List Own) ++ (Fa241 ++ (Fa245 ++ (Fa339 ++ [])))) := by
                              refine hstep [1, 9] _ _ _ (by kernel_rfl) (List.cons_ne_nil _ _) ⟨?_, ?_, trivial⟩
                              · show T _ _ _ _ _ _ _ _
                                refine t_v (.ld1 rfl rfl rfl (.at 3 rfl rfl)) ?_
                                exact t_fin [0, 2, 3, 4, 5, 6, 7, 118, 119, 120, 124, 125] hg_1ff (by kernel_rfl)
                              · show T _ _ _ _ _ _ _ _
                                refine t_call (vs := [.pointer (some ⟨B0, 0, none⟩), .int .i64 2]) (H1 := ([⟨B0, [.slice a_m0_0 m0_0.length c_m0_0, .int .i64 x341], 2⟩] : List Own)) (F := (([⟨a339, csa339, na339⟩, ⟨b232, [.int .i64 (wr64 (1 + t223)), .int .i64 (wr64 (1 + t226)), .int .i64 t229, .slice (ad a304) y305.length (na304 / 4), .slice (ad a241) y242.length (na241 / 11)], 5⟩, ⟨b259, [.int .i64 (wr64 (1 + t256)), .int .i64 x270, .int .i64 x271, .int .i64 t273, .int .i64 t282, .int .i64 x307, .int .i64 x308, .int .i64 x309, .int .i64 x331, .int .i64 x322, .slice (ad a339) y340.length (na339 / 4)], 11⟩, ⟨b222, [.int .i64 0, .int .i64 0, .int .i64 0, .slice (ad a247) y248.length (na247 / 4), .slice (ad a245) y246.length (na245 / 11)], 5⟩, ⟨a304, encL E_u84 y305, na304⟩, ⟨a241, csa241, na241⟩, ⟨a247, encL E_u84 y248, na247⟩, ⟨a245, csa245, na245⟩] : List Own) ++ (Fa241 ++ (Fa245 ++ (Fa339 ++ []))))) rfl rfl (by kernel_rfl) (sel_perm (is := [1]) (by kernel_rfl)) (glyphicmake_Seq_Next_v1.ok hE_ h_m0_0 h346) ?_
                                rintro _ _ S_ ⟨rfl, rfl, hS_⟩
                                obtain rfl := hS_.symm
                                exact t_fin [0, 2, 3, 4, 5, 6, 7, 117, 119, 120, 124, 126] hg_3fd (by kernel_rfl)
                            have hg_fd : G [true, false, true, true, true, true, true, true, false, false, false, false, false, false, false, false, false] [(0, .pointer (some ⟨B0, 0, none⟩)), (2, .pointer (some ⟨b222, 0, none⟩)), (3, .pointer (some ⟨b232, 0, none⟩)), (4, .int .i64 (wr64 ((mx (wr64 (1 + t223)) (wr64 (1 + t226))) * 2 ^ (min (Int.toNat (wru64 t229)) 64)))), (5, .int .i64 x240), (6, .pointer (some ⟨b259, 0, none⟩)), (7, .int .i64 x338), (117, .pointer (some ⟨b259, 10, none⟩)), (119, .pointer (some ⟨B0, 0, none⟩)), (120, .int .i64 (wr64 ((mx (wr64 (1 + t223)) (wr64 (1 + t226))) * 2 ^ (min (Int.toNat (wru64 t229)) 64)))), (124, .bool true)] (([⟨a339, csa339, na339⟩, ⟨B0, [.slice a_m0_0 m0_0.length c_m0_0, .int .i64 x341], 2⟩, ⟨b232, [.int .i64 (wr64 (1 + t223)), .int .i64 (wr64 (1 + t226)), .int .i64 t229, .slice (ad a304) y305.length (na304 / 4), .slice (ad a241) y242.length (na241 / 11)], 5⟩, ⟨b259, [.int .i64 (wr64 (1 + t256)), .int .i64 x270, .int .i64 x271, .int .i64 t273, .int .i64 t282, .int .i64 x307, .int .i64 x308, .int .i64 x309, .int .i64 x331, .int .i64 x322, .slice (ad a339) y340.length (na339 / 4)], 11⟩, ⟨b222, [.int .i64 0, .int .i64 0, .int .i64 0, .slice (ad a247) y248.length (na247 / 4), .slice (ad a245) y246.length (na245 / 11)], 5⟩, ⟨a304, encL E_u84 y305, na304⟩, ⟨a241, csa241, na241⟩, ⟨a247, encL E_u84 y248, na247⟩, ⟨a245, csa245, na245⟩] : List Own) ++ (Fa241 ++ (Fa245 ++ (Fa339 ++ [])))) := by
                              exact hqf 8 [0, 2, 3, 4, 5, 6, 7, 117, 119, 120, 124, 125] _ _ _ _ (by kernel_rfl) (by kernel_rfl) hg_1fd
                            have hg_7f : G [true, true, true, true, true, true, true, false, false, false, false, false, false, false, false, false, false] [(0, .pointer (some ⟨B0, 0, none⟩)), (2, .pointer (some ⟨b222, 0, none⟩)), (3, .pointer (some ⟨b232, 0, none⟩)), (4, .int .i64 (wr64 ((mx (wr64 (1 + t223)) (wr64 (1 + t226))) * 2 ^ (min (Int.toNat (wru64 t229)) 64)))), (5, .int .i64 x240), (6, .pointer (some ⟨b259, 0, none⟩)), (7, .int .i64 x338), (118, .slice (ad a339) y340.length (na339 / 4)), (119, .pointer (some ⟨B0, 0, none⟩)), (120, .int .i64 (wr64 ((mx (wr64 (1 + t223)) (wr64 (1 + t226))) * 2 ^ (min (Int.toNat (wru64 t229)) 64)))), (123, .bool true)] (([⟨a339, csa339, na339⟩, ⟨B0, [.slice a_m0_0 m0_0.length c_m0_0, .int .i64 x341], 2⟩, ⟨b232, [.int .i64 (wr64 (1 + t223)), .int .i64 (wr64 (1 + t226)), .int .i64 t229, .slice (ad a304) y305.length (na304 / 4), .slice (ad a241) y242.length (na241 / 11)], 5⟩, ⟨b259, [.int .i64 (wr64 (1 + t256)), .int .i64 x270, .int .i64 x271, .int .i64 t273, .int .i64 t282, .int .i64 x307, .int .i64 x308, .int .i64 x309, .int .i64 x331, .int .i64 x322, .slice (ad a339) y340.length (na339 / 4)], 11⟩, ⟨b222, [.int .i64 0, .int .i64 0, .int .i64 0, .slice (ad a247) y248.length (na247 / 4), .slice (ad a245) y246.length (na245 / 11)], 5⟩, ⟨a304, encL E_u84 y305, na304⟩, ⟨a241, csa241, na241⟩, ⟨a247, encL E_u84 y248, na247⟩, ⟨a245, csa245, na245⟩] : List Own) ++ (Fa241 ++ (Fa245 ++ (Fa339 ++ [])))) := by
                              exact hqf 7 [0, 2, 3, 4, 5, 6, 7, 118, 119, 120, 124] _ _ _ _ (by kernel_rfl) (by kernel_rfl) hg_ff
                            have hg_3f : G [true, true, true, true, true, true, false, false, false, false, false, false, false, false, false, false, false] [(0, .pointer (some ⟨B0, 0, none⟩)), (2, .pointer (some ⟨b222, 0, none⟩)), (3, .pointer (some ⟨b232, 0, none⟩)), (4, .int .i64 (wr64 ((mx (wr64 (1 + t223)) (wr64 (1 + t226))) * 2 ^ (min (Int.toNat (wru64 t229)) 64)))), (5, .int .i64 x240), (6, .pointer (some ⟨b259, 0, none⟩)), (7, .int .i64 x338), (118, .slice (ad a339) y340.length (na339 / 4)), (119, .pointer (some ⟨B0, 0, none⟩)), (120, .int .i64 (wr64 ((mx (wr64 (1 + t223)) (wr64 (1 + t226))) * 2 ^ (min (Int.toNat (wru64 t229)) 64)))), (122, .int .i64 (wr64 (1 + t256)))] (([⟨a339, csa339, na339⟩, ⟨B0, [.slice a_m0_0 m0_0.length c_m0_0, .int .i64 x341], 2⟩, ⟨b232, [.int .i64 (wr64 (1 + t223)), .int .i64 (wr64 (1 + t226)), .int .i64 t229, .slice (ad a304) y305.length (na304 / 4), .slice (ad a241) y242.length (na241 / 11)], 5⟩, ⟨b259, [.int .i64 (wr64 (1 + t256)), .int .i64 x270, .int .i64 x271, .int .i64 t273, .int .i64 t282, .int .i64 x307, .int .i64 x308, .int .i64 x309, .int .i64 x331, .int .i64 x322, .slice (ad a339) y340.length (na339 / 4)], 11⟩, ⟨b222, [.int .i64 0, .int .i64 0, .int .i64 0, .slice (ad a247) y248.length (na247 / 4), .slice (ad a245) y246.length (na245 / 11)], 5⟩, ⟨a304, encL E_u84 y305, na304⟩, ⟨a241, csa241, na241⟩, ⟨a247, encL E_u84 y248, na247⟩, ⟨a245, csa245, na245⟩] : List Own) ++ (Fa241 ++ (Fa245 ++ (Fa339 ++ [])))) := by
                              refine hstep [6] _ _ _ (by kernel_rfl) (List.cons_ne_nil _ _) ⟨?_, trivial⟩
                              · show T _ _ _ _ _ _ _ _
                                refine t_v (dv_quiet rfl (congrArg (fun t => some (Value.bool t)) c343b)) ?_
                                exact t_fin [0, 2, 3, 4, 5, 6, 7, 118, 119, 120, 123] hg_7f (by kernel_rfl)
                            have hg_7d : G [true, false, true, true, true, true, true, false, false, false, false, false, false, false, false, false, false] [(0, .pointer (some ⟨B0, 0, none⟩)), (2, .pointer (some ⟨b222, 0, none⟩)), (3, .pointer (some ⟨b232, 0, none⟩)), (4, .int .i64 (wr64 ((mx (wr64 (1 + t223)) (wr64 (1 + t226))) * 2 ^ (min (Int.toNat (wru64 t229)) 64)))), (5, .int .i64 x240), (6, .pointer (some ⟨b259, 0, none⟩)), (7, .int .i64 x338), (117, .pointer (some ⟨b259, 10, none⟩)), (119, .pointer (some ⟨B0, 0, none⟩)), (120, .int .i64 (wr64 ((mx (wr64 (1 + t223)) (wr64 (1 + t226))) * 2 ^ (min (Int.toNat (wru64 t229)) 64)))), (123, .bool true)] (([⟨a339, csa339, na339⟩, ⟨B0, [.slice a_m0_0 m0_0.length c_m0_0, .int .i64 x341], 2⟩, ⟨b232, [.int .i64 (wr64 (1 + t223)), .int .i64 (wr64 (1 + t226)), .int .i64 t229, .slice (ad a304) y305.length (na304 / 4), .slice (ad a241) y242.length (na241 / 11)], 5⟩, ⟨b259, [.int .i64 (wr64 (1 + t256)), .int .i64 x270, .int .i64 x271, .int .i64 t273, .int .i64 t282, .int .i64 x307, .int .i64 x308, .int .i64 x309, .int .i64 x331, .int .i64 x322, .slice (ad a339) y340.length (na339 / 4)], 11⟩, ⟨b222, [.int .i64 0, .int .i64 0, .int .i64 0, .slice (ad a247) y248.length (na247 / 4), .slice (ad a245) y246.length (na245 / 11)], 5⟩, ⟨a304, encL E_u84 y305, na304⟩, ⟨a241, csa241, na241⟩, ⟨a247, encL E_u84 y248, na247⟩, ⟨a245, csa245, na245⟩] : List Own) ++ (Fa241 ++ (Fa245 ++ (Fa339 ++ [])))) := by
                              exact hqf 7 [0, 2, 3, 4, 5, 6, 7, 117, 119, 120, 124] _ _ _ _ (by kernel_rfl) (by kernel_rfl) hg_fd
                            have hg_1f : G [true, true, true, true, true, false, false, false, false, false, false, false, false, false, false, false, false] [(0, .pointer (some ⟨B0, 0, none⟩)), (2, .pointer (some ⟨b222, 0, none⟩)), (3, .pointer (some ⟨b232, 0, none⟩)), (4, .int .i64 (wr64 ((mx (wr64 (1 + t223)) (wr64 (1 + t226))) * 2 ^ (min (Int.toNat (wru64 t229)) 64)))), (5, .int .i64 x240), (6, .pointer (some ⟨b259, 0, none⟩)), (7, .int .i64 x338), (118, .slice (ad a339) y340.length (na339 / 4)), (119, .pointer (some ⟨B0, 0, none⟩)), (120, .int .i64 (wr64 ((mx (wr64 (1 + t223)) (wr64 (1 + t226))) * 2 ^ (min (Int.toNat (wru64 t229)) 64)))), (121, .pointer (some ⟨b259, 0, none⟩))] (([⟨a339, csa339, na339⟩, ⟨B0, [.slice a_m0_0 m0_0.length c_m0_0, .int .i64 x341], 2⟩, ⟨b232, [.int .i64 (wr64 (1 + t223)), .int .i64 (wr64 (1 + t226)), .int .i64 t229, .slice (ad a304) y305.length (na304 / 4), .slice (ad a241) y242.length (na241 / 11)], 5⟩, ⟨b259, [.int .i64 (wr64 (1 + t256)), .int .i64 x270, .int .i64 x271, .int .i64 t273, .int .i64 t282, .int .i64 x307, .int .i64 x308, .int .i64 x309, .int .i64 x331, .int .i64 x322, .slice (ad a339) y340.length (na339 / 4)], 11⟩, ⟨b222, [.int .i64 0, .int .i64 0, .int .i64 0, .slice (ad a247) y248.length (na247 / 4), .slice (ad a245) y246.length (na245 / 11)], 5⟩, ⟨a304, encL E_u84 y305, na304⟩, ⟨a241, csa241, na241⟩, ⟨a247, encL E_u84 y248, na247⟩, ⟨a245, csa245, na245⟩] : List Own) ++ (Fa241 ++ (Fa245 ++ (Fa339 ++ [])))) := by
                              refine hstep [5] _ _ _ (by kernel_rfl) (List.cons_ne_nil _ _) ⟨?_, trivial⟩
                              · show T _ _ _ _ _ _ _ _
                                refine t_v (.ld1 rfl rfl rfl (.at 3 rfl rfl)) ?_
                                exact t_fin [0, 2, 3, 4, 5, 6, 7, 118, 119, 120, 122] hg_3f (by kernel_rfl)
                            have hg_3d : G [true, false, true, true, true, true, false, false, false, false, false, false, false, false, false, false, false] [(0, .pointer (some ⟨B0, 0, none⟩)), (2, .pointer (some ⟨b222, 0, none⟩)), (3, .pointer (some ⟨b232, 0, none⟩)), (4, .int .i64 (wr64 ((mx (wr64 (1 + t223)) (wr64 (1 + t226))) * 2 ^ (min (Int.toNat (wru64 t229)) 64)))), (5, .int .i64 x240), (6, .pointer (some ⟨b259, 0, none⟩)), (7, .int .i64 x338), (117, .pointer (some ⟨b259, 10, none⟩)), (119, .pointer (some ⟨B0, 0, none⟩)), (120, .int .i64 (wr64 ((mx (wr64 (1 + t223)) (wr64 (1 + t226))) * 2 ^ (min (Int.toNat (wru64 t229)) 64)))), (122, .int .i64 (wr64 (1 + t256)))] (([⟨a339, csa339, na339⟩, ⟨B0, [.slice a_m0_0 m0_0.length c_m0_0, .int .i64 x341], 2⟩, ⟨b232, [.int .i64 (wr64 (1 + t223)), .int .i64 (wr64 (1 + t226)), .int .i64 t229, .slice (ad a304) y305.length (na304 / 4), .slice (ad a241) y242.length (na241 / 11)], 5⟩, ⟨b259, [.int .i64 (wr64 (1 + t256)), .int .i64 x270, .int .i64 x271, .int .i64 t273, .int .i64 t282, .int .i64 x307, .int .i64 x308, .int .i64 x309, .int .i64 x331, .int .i64 x322, .slice (ad a339) y340.length (na339 / 4)], 11⟩, ⟨b222, [.int .i64 0, .int .i64 0, .int .i64 0, .slice (ad a247) y248.length (na247 / 4), .slice (ad a245) y246.length (na245 / 11)], 5⟩, ⟨a304, encL E_u84 y305, na304⟩, ⟨a241, csa241, na241⟩, ⟨a247, encL E_u84 y248, na247⟩, ⟨a245, csa245, na245⟩] : List Own) ++ (Fa241 ++ (Fa245 ++ (Fa339 ++ [])))) := by
                              refine hstep [1, 6] _ _ _ (by kernel_rfl) (List.cons_ne_nil _ _) ⟨?_, ?_, trivial⟩
                              · show T _ _ _ _ _ _ _ _
                                refine t_v (.ld1 rfl rfl rfl (.at 3 rfl rfl)) ?_
                                exact t_fin [0, 2, 3, 4, 5, 6, 7, 118, 119, 120, 122] hg_3f (by kernel_rfl)
                              · show T _ _ _ _ _ _ _ _
                                refine t_v (dv_quiet rfl (congrArg (fun t => some (Value.bool t)) c343b)) ?_
                                exact t_fin [0, 2, 3, 4, 5, 6, 7, 117, 119, 120, 123] hg_7d (by kernel_rfl)
                            have hg_1d : G [true, false, true, true, true, false, false, false, false, false, false, false, false, false, false, false, false] [(0, .pointer (some ⟨B0, 0, none⟩)), (2, .pointer (some ⟨b222, 0, none⟩)), (3, .pointer (some ⟨b232, 0, none⟩)), (4, .int .i64 (wr64 ((mx (wr64 (1 + t223)) (wr64 (1 + t226))) * 2 ^ (min (Int.toNat (wru64 t229)) 64)))), (5, .int .i64 x240), (6, .pointer (some ⟨b259, 0, none⟩)), (7, .int .i64 x338), (117, .pointer (some ⟨b259, 10, none⟩)), (119, .pointer (some ⟨B0, 0, none⟩)), (120, .int .i64 (wr64 ((mx (wr64 (1 + t223)) (wr64 (1 + t226))) * 2 ^ (min (Int.toNat (wru64 t229)) 64)))), (121, .pointer (some ⟨b259, 0, none⟩))] (([⟨a339, csa339, na339⟩, ⟨B0, [.slice a_m0_0 m0_0.length c_m0_0, .int .i64 x341], 2⟩, ⟨b232, [.int .i64 (wr64 (1 + t223)), .int .i64 (wr64 (1 + t226)), .int .i64 t229, .slice (ad a304) y305.length (na304 / 4), .slice (ad a241) y242.length (na241 / 11)], 5⟩, ⟨b259, [.int .i64 (wr64 (1 + t256)), .int .i64 x270, .int .i64 x271, .int .i64 t273, .int .i64 t282, .int .i64 x307, .int .i64 x308, .int .i64 x309, .int .i64 x331, .int .i64 x322, .slice (ad a339) y340.length (na339 / 4)], 11⟩, ⟨b222, [.int .i64 0, .int .i64 0, .int .i64 0, .slice (ad a247) y248.length (na247 / 4), .slice (ad a245) y246.length (na245 / 11)], 5⟩, ⟨a304, encL E_u84 y305, na304⟩, ⟨a241, csa241, na241⟩, ⟨a247, encL E_u84 y248, na247⟩, ⟨a245, csa245, na245⟩] : List Own) ++ (Fa241 ++ (Fa245 ++ (Fa339 ++ [])))) := by
                              refine hstep [1, 5] _ _ _ (by kernel_rfl) (List.cons_ne_nil _ _) ⟨?_, ?_, trivial⟩
                              · show T _ _ _ _ _ _ _ _
                                refine t_v (.ld1 rfl rfl rfl (.at 3 rfl rfl)) ?_
                                exact t_fin [0, 2, 3, 4, 5, 6, 7, 118, 119, 120, 121] hg_1f (by kernel_rfl)
                              · show T _ _ _ _ _ _ _ _
                                refine t_v (.ld1 rfl rfl rfl (.at 3 rfl rfl)) ?_
                                exact t_fin [0, 2, 3, 4, 5, 6, 7, 117, 119, 120, 122] hg_3d (by kernel_rfl)
                            have hg_d : G [true, false, true, true, false, false, false, false, false, false, false, false, false, false, false, false, false] [(0, .pointer (some ⟨B0, 0, none⟩)), (2, .pointer (some ⟨b222, 0, none⟩)), (3, .pointer (some ⟨b232, 0, none⟩)), (4, .int .i64 (wr64 ((mx (wr64 (1 + t223)) (wr64 (1 + t226))) * 2 ^ (min (Int.toNat (wru64 t229)) 64)))), (5, .int .i64 x240), (6, .pointer (some ⟨b259, 0, none⟩)), (7, .int .i64 x338), (117, .pointer (some ⟨b259, 10, none⟩)), (119, .pointer (some ⟨B0, 0, none⟩)), (120, .int .i64 (wr64 ((mx (wr64 (1 + t223)) (wr64 (1 + t226))) * 2 ^ (min (Int.toNat (wru64 t229)) 64))))] (([⟨a339, csa339, na339⟩, ⟨B0, [.slice a_m0_0 m0_0.length c_m0_0, .int .i64 x341], 2⟩, ⟨b232, [.int .i64 (wr64 (1 + t223)), .int .i64 (wr64 (1 + t226)), .int .i64 t229, .slice (ad a304) y305.length (na304 / 4), .slice (ad a241) y242.length (na241 / 11)], 5⟩, ⟨b259, [.int .i64 (wr64 (1 + t256)), .int .i64 x270, .int .i64 x271, .int .i64 t273, .int .i64 t282, .int .i64 x307, .int .i64 x308, .int .i64 x309, .int .i64 x331, .int .i64 x322, .slice (ad a339) y340.length (na339 / 4)], 11⟩, ⟨b222, [.int .i64 0, .int .i64 0, .int .i64 0, .slice (ad a247) y248.length (na247 / 4), .slice (ad a245) y246.length (na245 / 11)], 5⟩, ⟨a304, encL E_u84 y305, na304⟩, ⟨a241, csa241, na241⟩, ⟨a247, encL E_u84 y248, na247⟩, ⟨a245, csa245, na245⟩] : List Own) ++ (Fa241 ++ (Fa245 ++ (Fa339 ++ [])))) := by
                              exact hqf 4 [0, 2, 3, 4, 5, 6, 7, 117, 119, 120, 121] _ _ _ _ (by kernel_rfl) (by kernel_rfl) hg_1d
                            have hg_5 : G [true, false, true, false, false, false, false, false, false, false, false, false, false, false, false, false, false] [(0, .pointer (some ⟨B0, 0, none⟩)), (2, .pointer (some ⟨b222, 0, none⟩)), (3, .pointer (some ⟨b232, 0, none⟩)), (4, .int .i64 (wr64 ((mx (wr64 (1 + t223)) (wr64 (1 + t226))) * 2 ^ (min (Int.toNat (wru64 t229)) 64)))), (5, .int .i64 x240), (6, .pointer (some ⟨b259, 0, none⟩)), (7, .int .i64 x338), (117, .pointer (some ⟨b259, 10, none⟩)), (119, .pointer (some ⟨B0, 0, none⟩))] (([⟨a339, csa339, na339⟩, ⟨B0, [.slice a_m0_0 m0_0.length c_m0_0, .int .i64 x341], 2⟩, ⟨b232, [.int .i64 (wr64 (1 + t223)), .int .i64 (wr64 (1 + t226)), .int .i64 t229, .slice (ad a304) y305.length (na304 / 4), .slice (ad a241) y242.length (na241 / 11)], 5⟩, ⟨b259, [.int .i64 (wr64 (1 + t256)), .int .i64 x270, .int .i64 x271, .int .i64 t273, .int .i64 t282, .int .i64 x307, .int .i64 x308, .int .i64 x309, .int .i64 x331, .int .i64 x322, .slice (ad a339) y340.length (na339 / 4)], 11⟩, ⟨b222, [.int .i64 0, .int .i64 0, .int .i64 0, .slice (ad a247) y248.length (na247 / 4), .slice (ad a245) y246.length (na245 / 11)], 5⟩, ⟨a304, encL E_u84 y305, na304⟩, ⟨a241, csa241, na241⟩, ⟨a247, encL E_u84 y248, na247⟩, ⟨a245, csa245, na245⟩] : List Own) ++ (Fa241 ++ (Fa245 ++ (Fa339 ++ [])))) := by
                              exact hqf 3 [0, 2, 3, 4, 5, 6, 7, 117, 119, 120] _ _ _ _ (by kernel_rfl) (by kernel_rfl) hg_d
                            have hg_1 : G [true, false, false, false, false, false, false, false, false, false, false, false, false, false, false, false, false] [(0, .pointer (some ⟨B0, 0, none⟩)), (2, .pointer (some ⟨b222, 0, none⟩)), (3, .pointer (some ⟨b232, 0, none⟩)), (4, .int .i64 (wr64 ((mx (wr64 (1 + t223)) (wr64 (1 + t226))) * 2 ^ (min (Int.toNat (wru64 t229)) 64)))), (5, .int .i64 x240), (6, .pointer (some ⟨b259, 0, none⟩)), (7, .int .i64 x338), (117, .pointer (some ⟨b259, 10, none⟩))] (([⟨a339, csa339, na339⟩, ⟨B0, [.slice a_m0_0 m0_0.length c_m0_0, .int .i64 x341], 2⟩, ⟨b232, [.int .i64 (wr64 (1 + t223)), .int .i64 (wr64 (1 + t226)), .int .i64 t229, .slice (ad a304) y305.length (na304 / 4), .slice (ad a241) y242.length (na241 / 11)], 5⟩, ⟨b259, [.int .i64 (wr64 (1 + t256)), .int .i64 x270, .int .i64 x271, .int .i64 t273, .int .i64 t282, .int .i64 x307, .int .i64 x308, .int .i64 x309, .int .i64 x331, .int .i64 x322, .slice (ad a339) y340.length (na339 / 4)], 11⟩, ⟨b222, [.int .i64 0, .int .i64 0, .int .i64 0, .slice (ad a247) y248.length (na247 / 4), .slice (ad a245) y246.length (na245 / 11)], 5⟩, ⟨a304, encL E_u84 y305, na304⟩, ⟨a241, csa241, na241⟩, ⟨a247, encL E_u84 y248, na247⟩, ⟨a245, csa245, na245⟩] : List Own) ++ (Fa241 ++ (Fa245 ++ (Fa339 ++ [])))) := by
                              exact hqf 2 [0, 2, 3, 4, 5, 6, 7, 117, 119] _ _ _ _ (by kernel_rfl) (by kernel_rfl) hg_5
                            have hg_0 : G [false, false, false, false, false, false, false, false, false, false, false, false, false, false, false, false, false] [(0, .pointer (some ⟨B0, 0, none⟩)), (2, .pointer (some ⟨b222, 0, none⟩)), (3, .pointer (some ⟨b232, 0, none⟩)), (4, .int .i64 (wr64 ((mx (wr64 (1 + t223)) (wr64 (1 + t226))) * 2 ^ (min (Int.toNat (wru64 t229)) 64)))), (5, .int .i64 x240), (6, .pointer (some ⟨b259, 0, none⟩)), (7, .int .i64 x338)] (([⟨a339, csa339, na339⟩, ⟨B0, [.slice a_m0_0 m0_0.length c_m0_0, .int .i64 x341], 2⟩, ⟨b232, [.int .i64 (wr64 (1 + t223)), .int .i64 (wr64 (1 + t226)), .int .i64 t229, .slice (ad a304) y305.length (na304 / 4), .slice (ad a241) y242.length (na241 / 11)], 5⟩, ⟨b259, [.int .i64 (wr64 (1 + t256)), .int .i64 x270, .int .i64 x271, .int .i64 t273, .int .i64 t282, .int .i64 x307, .int .i64 x308, .int .i64 x309, .int .i64 x331, .int .i64 x322, .slice (ad a339) y340.length (na339 / 4)], 11⟩, ⟨b222, [.int .i64 0, .int .i64 0, .int .i64 0, .slice (ad a247) y248.length (na247 / 4), .slice (ad a245) y246.length (na245 / 11)], 5⟩, ⟨a304, encL E_u84 y305, na304⟩, ⟨a241, csa241, na241⟩, ⟨a247, encL E_u84 y248, na247⟩, ⟨a245, csa245, na245⟩] : List Own) ++ (Fa241 ++ (Fa245 ++ (Fa339 ++ [])))) := by
                              exact hqf 0 [0, 2, 3, 4, 5, 6, 7, 117] _ _ _ _ (by kernel_rfl) (by kernel_rfl) hg_1
                            exact hg_0
                          · rw [if_neg c343] at e333
                            have c343b : ((wr64 (1 + t256)) == 2) = false := beq_eq_false_iff_ne.mpr c343
                            obtain ⟨⟨t359, t360, t361, t362, t363⟩, h364, e333⟩ := bind_of e333
                            try dsimp only at e333
                            obtain ⟨y366, hl367, e333⟩ := bind_of e333
                            refine w_kp [0, 2, 3, 4, 5, 6, 7] (σ' := [(0, .pointer (some ⟨B0, 0, none⟩)), (2, .pointer (some ⟨b222, 0, none⟩)), (3, .pointer (some ⟨b232, 0, none⟩)), (4, .int .i64 (wr64 ((mx (wr64 (1 + t223)) (wr64 (1 + t226))) * 2 ^ (min (Int.toNat (wru64 t229)) 64)))), (5, .int .i64 x240), (6, .pointer (some ⟨b259, 0, none⟩)), (7, .int .i64 x338)]) (by kernel_rfl) ?_
                            refine w_gameQ mixed (by kernel_rfl) fun all G hend hstep hqf => ?_
                            have hg_1ffff : ∀ (g357 : Option Nat) (ng357 : Nat) (g354 : Nat) (N365 : Option Nat) (nN365 : Nat) (csg357 : List Value) (hrg357 : RL (rdOf (([⟨N365, encL E_i647 t362, nN365⟩] : List Own) ++ (Fa339 ++ [])) S) N_0 y366 csg357), G [true, true, true, true, true, true, true, true, true, true, true, true, true, true, true, true, true] [(0, .pointer (some ⟨B0, 0, none⟩)), (2, .pointer (some ⟨b222, 0, none⟩)), (3, .pointer (some ⟨b232, 0, none⟩)), (4, .int .i64 (wr64 ((mx (wr64 (1 + t223)) (wr64 (1 + t226))) * 2 ^ (min (Int.toNat (wru64 t229)) 64)))), (5, .int .i64 x240), (6, .pointer (some ⟨b259, 0, none⟩)), (7, .int .i64 x338)] (([⟨g357, csg357, ng357⟩, ⟨g354, [.int .i64 t359, .int .i64 t360, .slice (ad N365) t362.length (nN365 / 7), .bool t361], 4⟩, ⟨N365, encL E_i647 t362, nN365⟩, ⟨B0, [.slice a_m0_0 m0_0.length c_m0_0, .int .i64 t363], 2⟩, ⟨b232, [.int .i64 (wr64 (1 + t223)), .int .i64 (wr64 (1 + t226)), .int .i64 t229, .slice (ad a304) y305.length (na304 / 4), .slice (ad a241) y242.length (na241 / 11)], 5⟩, ⟨b259, [.int .i64 (wr64 (1 + t256)), .int .i64 x270, .int .i64 x271, .int .i64 t273, .int .i64 t282, .int .i64 x307, .int .i64 x308, .int .i64 x309, .int .i64 x331, .int .i64 x322, .slice (ad g357) y366.length (ng357 / 4)], 11⟩, ⟨b222, [.int .i64 0, .int .i64 0, .int .i64 0, .slice (ad a247) y248.length (na247 / 4), .slice (ad a245) y246.length (na245 / 11)], 5⟩, ⟨a304, encL E_u84 y305, na304⟩, ⟨a241, csa241, na241⟩, ⟨a247, encL E_u84 y248, na247⟩, ⟨a245, csa245, na245⟩] : List Own) ++ (Fa241 ++ (Fa245 ++ (Fa339 ++ [])))) := by
                              intro g357 ng357 g354 N365 nN365 csg357 hrg357
                              refine hend _ _ _ (by kernel_rfl) ?_
                              show W _ _ _ _ _ _ _
                              refine w_reg fun all => ?_
                              refine t_qz 3 [0, 2, 3, 4, 5, 6, 7] (σ' := [(0, .pointer (some ⟨B0, 0, none⟩)), (2, .pointer (some ⟨b222, 0, none⟩)), (3, .pointer (some ⟨b232, 0, none⟩)), (4, .int .i64 (wr64 ((mx (wr64 (1 + t223)) (wr64 (1 + t226))) * 2 ^ (min (Int.toNat (wru64 t229)) 64)))), (5, .int .i64 x240), (6, .pointer (some ⟨b259, 0, none⟩)), (7, .int .i64 (wr64 (x338 - 1)))]) (by kernel_rfl) ?_
                              refine t_end ?_
                              exact ⟨k_, Nat.lt_succ_self _, [(0, .pointer (some ⟨B0, 0, none⟩)), (2, .pointer (some ⟨b222, 0, none⟩)), (3, .pointer (some ⟨b232, 0, none⟩)), (4, .int .i64 (wr64 ((mx (wr64 (1 + t223)) (wr64 (1 + t226))) * 2 ^ (min (Int.toNat (wru64 t229)) 64)))), (5, .int .i64 x240), (6, .pointer (some ⟨b259, 0, none⟩)), (7, .int .i64 (wr64 (x338 - 1)))], (([⟨g357, csg357, ng357⟩, ⟨B0, [.slice a_m0_0 m0_0.length c_m0_0, .int .i64 t363], 2⟩, ⟨b232, [.int .i64 (wr64 (1 + t223)), .int .i64 (wr64 (1 + t226)), .int .i64 t229, .slice (ad a304) y305.length (na304 / 4), .slice (ad a241) y242.length (na241 / 11)], 5⟩, ⟨b259, [.int .i64 (wr64 (1 + t256)), .int .i64 x270, .int .i64 x271, .int .i64 t273, .int .i64 t282, .int .i64 x307, .int .i64 x308, .int .i64 x309, .int .i64 x331, .int .i64 x322, .slice (ad g357) y366.length (ng357 / 4)], 11⟩, ⟨b222, [.int .i64 0, .int .i64 0, .int .i64 0, .slice (ad a247) y248.length (na247 / 4), .slice (ad a245) y246.length (na245 / 11)], 5⟩, ⟨a304, encL E_u84 y305, na304⟩, ⟨a241, csa241, na241⟩, ⟨a247, encL E_u84 y248, na247⟩, ⟨a245, csa245, na245⟩] : List Own) ++ (Fa241 ++ (Fa245 ++ ((([⟨N365, encL E_i647 t362, nN365⟩] : List Own) ++ (Fa339 ++ [])) ++ [])))), S, keep_sub [0, 2, 3, 4, 5, 6, 7] (by kernel_rfl), VS.treeA (.a (.l ([⟨g357, csg357, ng357⟩, ⟨g354, [.int .i64 t359, .int .i64 t360, .slice (ad N365) t362.length (nN365 / 7), .bool t361], 4⟩, ⟨N365, encL E_i647 t362, nN365⟩, ⟨B0, [.slice a_m0_0 m0_0.length c_m0_0, .int .i64 t363], 2⟩, ⟨b232, [.int .i64 (wr64 (1 + t223)), .int .i64 (wr64 (1 + t226)), .int .i64 t229, .slice (ad a304) y305.length (na304 / 4), .slice (ad a241) y242.length (na241 / 11)], 5⟩, ⟨b259, [.int .i64 (wr64 (1 + t256)), .int .i64 x270, .int .i64 x271, .int .i64 t273, .int .i64 t282, .int .i64 x307, .int .i64 x308, .int .i64 x309, .int .i64 x331, .int .i64 x322, .slice (ad g357) y366.length (ng357 / 4)], 11⟩, ⟨b222, [.int .i64 0, .int .i64 0, .int .i64 0, .slice (ad a247) y248.length (na247 / 4), .slice (ad a245) y246.length (na245 / 11)], 5⟩, ⟨a304, encL E_u84 y305, na304⟩, ⟨a241, csa241, na241⟩, ⟨a247, encL E_u84 y248, na247⟩, ⟨a245, csa245, na245⟩] : List Own)) (.a (.f Fa241) (.a (.f Fa245) (.a (.f Fa339) (.l []))))) (.a (.l ([⟨g357, csg357, ng357⟩, ⟨B0, [.slice a_m0_0 m0_0.length c_m0_0, .int .i64 t363], 2⟩, ⟨b232, [.int .i64 (wr64 (1 + t223)), .int .i64 (wr64 (1 + t226)), .int .i64 t229, .slice (ad a304) y305.length (na304 / 4), .slice (ad a241) y242.length (na241 / 11)], 5⟩, ⟨b259, [.int .i64 (wr64 (1 + t256)), .int .i64 x270, .int .i64 x271, .int .i64 t273, .int .i64 t282, .int .i64 x307, .int .i64 x308, .int .i64 x309, .int .i64 x331, .int .i64 x322, .slice (ad g357) y366.length (ng357 / 4)], 11⟩, ⟨b222, [.int .i64 0, .int .i64 0, .int .i64 0, .slice (ad a247) y248.length (na247 / 4), .slice (ad a245) y246.length (na245 / 11)], 5⟩, ⟨a304, encL E_u84 y305, na304⟩, ⟨a241, csa241, na241⟩, ⟨a247, encL E_u84 y248, na247⟩, ⟨a245, csa245, na245⟩] : List Own)) (.a (.f Fa241) (.a (.f Fa245) (.a (.a (.l ([⟨N365, encL E_i647 t362, nN365⟩] : List Own)) (.a (.f Fa339) (.l []))) (.l []))))) [0, 2, 2, 2, 2, 2, 2, 2, 2, 2, 2, 1, 1] (by kernel_rfl), wr64 (x338 - 1), y366, t363, g357, ng357, csg357, (([⟨N365, encL E_i647 t362, nN365⟩] : List Own) ++ (Fa339 ++ [])), rfl, rfl, rfl, e333, RL.mono hrg357 (rd_sub seg_hd)⟩
                            have hg_ffff : ∀ (g357 : Option Nat) (ng357 : Nat) (g354 : Nat) (N365 : Option Nat) (nN365 : Nat) (csg357 : List Value) (hrg357 : RL (rdOf (([⟨N365, encL E_i647 t362, nN365⟩] : List Own) ++ (Fa339 ++ [])) S) N_0 y366 csg357), G [true, true, true, true, true, true, true, true, true, true, true, true, true, true, true, true, false] [(0, .pointer (some ⟨B0, 0, none⟩)), (2, .pointer (some ⟨b222, 0, none⟩)), (3, .pointer (some ⟨b232, 0, none⟩)), (4, .int .i64 (wr64 ((mx (wr64 (1 + t223)) (wr64 (1 + t226))) * 2 ^ (min (Int.toNat (wru64 t229)) 64)))), (5, .int .i64 x240), (6, .pointer (some ⟨b259, 0, none⟩)), (7, .int .i64 x338), (131, .slice (ad g357) y366.length (ng357 / 4)), (132, .pointer (some ⟨b259, 10, none⟩))] (([⟨g357, csg357, ng357⟩, ⟨g354, [.int .i64 t359, .int .i64 t360, .slice (ad N365) t362.length (nN365 / 7), .bool t361], 4⟩, ⟨N365, encL E_i647 t362, nN365⟩, ⟨B0, [.slice a_m0_0 m0_0.length c_m0_0, .int .i64 t363], 2⟩, ⟨b232, [.int .i64 (wr64 (1 + t223)), .int .i64 (wr64 (1 + t226)), .int .i64 t229, .slice (ad a304) y305.length (na304 / 4), .slice (ad a241) y242.length (na241 / 11)], 5⟩, ⟨b259, [.int .i64 (wr64 (1 + t256)), .int .i64 x270, .int .i64 x271, .int .i64 t273, .int .i64 t282, .int .i64 x307, .int .i64 x308, .int .i64 x309, .int .i64 x331, .int .i64 x322, .slice (ad a339) y340.length (na339 / 4)], 11⟩, ⟨b222, [.int .i64 0, .int .i64 0, .int .i64 0, .slice (ad a247) y248.length (na247 / 4), .slice (ad a245) y246.length (na245 / 11)], 5⟩, ⟨a304, encL E_u84 y305, na304⟩, ⟨a241, csa241, na241⟩, ⟨a247, encL E_u84 y248, na247⟩, ⟨a245, csa245, na245⟩] : List Own) ++ (Fa241 ++ (Fa245 ++ (Fa339 ++ [])))) := by
                              intro g357 ng357 g354 N365 nN365 csg357 hrg357
                              refine hstep [16] _ _ _ (by kernel_rfl) (List.cons_ne_nil _ _) ⟨?_, trivial⟩
                              · show T _ _ _ _ _ _ _ _
                                refine t_sti 5 (cs := [.int .i64 (wr64 (1 + t256)), .int .i64 x270, .int .i64 x271, .int .i64 t273, .int .i64 t282, .int .i64 x307, .int .i64 x308, .int .i64 x309, .int .i64 x331, .int .i64 x322, .slice (ad g357) y366.length (ng357 / 4)]) rfl rfl rfl rfl rfl rfl rfl rfl rfl ?_
                                exact t_fin [0, 2, 3, 4, 5, 6, 7] (hg_1ffff g357 ng357 g354 N365 nN365 csg357 hrg357) (by kernel_rfl)
                            have hg_7fff : ∀ (g357 : Option Nat) (ng357 : Nat) (g354 : Nat) (N365 : Option Nat) (nN365 : Nat) (csg357 : List Value) (hrg357 : RL (rdOf (([⟨N365, encL E_i647 t362, nN365⟩] : List Own) ++ (Fa339 ++ [])) S) N_0 y366 csg357), G [true, true, true, true, true, true, true, true, true, true, true, true, true, true, true, false, false] [(0, .pointer (some ⟨B0, 0, none⟩)), (2, .pointer (some ⟨b222, 0, none⟩)), (3, .pointer (some ⟨b232, 0, none⟩)), (4, .int .i64 (wr64 ((mx (wr64 (1 + t223)) (wr64 (1 + t226))) * 2 ^ (min (Int.toNat (wru64 t229)) 64)))), (5, .int .i64 x240), (6, .pointer (some ⟨b259, 0, none⟩)), (7, .int .i64 x338), (131, .slice (ad g357) y366.length (ng357 / 4))] (([⟨g357, csg357, ng357⟩, ⟨g354, [.int .i64 t359, .int .i64 t360, .slice (ad N365) t362.length (nN365 / 7), .bool t361], 4⟩, ⟨N365, encL E_i647 t362, nN365⟩, ⟨B0, [.slice a_m0_0 m0_0.length c_m0_0, .int .i64 t363], 2⟩, ⟨b232, [.int .i64 (wr64 (1 + t223)), .int .i64 (wr64 (1 + t226)), .int .i64 t229, .slice (ad a304) y305.length (na304 / 4), .slice (ad a241) y242.length (na241 / 11)], 5⟩, ⟨b259, [.int .i64 (wr64 (1 + t256)), .int .i64 x270, .int .i64 x271, .int .i64 t273, .int .i64 t282, .int .i64 x307, .int .i64 x308, .int .i64 x309, .int .i64 x331, .int .i64 x322, .slice (ad a339) y340.length (na339 / 4)], 11⟩, ⟨b222, [.int .i64 0, .int .i64 0, .int .i64 0, .slice (ad a247) y248.length (na247 / 4), .slice (ad a245) y246.length (na245 / 11)], 5⟩, ⟨a304, encL E_u84 y305, na304⟩, ⟨a241, csa241, na241⟩, ⟨a247, encL E_u84 y248, na247⟩, ⟨a245, csa245, na245⟩] : List Own) ++ (Fa241 ++ (Fa245 ++ (Fa339 ++ [])))) := by
                              intro g357 ng357 g354 N365 nN365 csg357 hrg357
                              exact hqf 15 [0, 2, 3, 4, 5, 6, 7, 131, 132] _ _ _ _ (by kernel_rfl) (by kernel_rfl) (hg_ffff g357 ng357 g354 N365 nN365 csg357 hrg357)
                            have hg_3fff : ∀ (g354 : Nat) (N365 : Option Nat) (nN365 : Nat), G [true, true, true, true, true, true, true, true, true, true, true, true, true, true, false, false, false] [(0, .pointer (some ⟨B0, 0, none⟩)), (2, .pointer (some ⟨b222, 0, none⟩)), (3, .pointer (some ⟨b232, 0, none⟩)), (4, .int .i64 (wr64 ((mx (wr64 (1 + t223)) (wr64 (1 + t226))) * 2 ^ (min (Int.toNat (wru64 t229)) 64)))), (5, .int .i64 x240), (6, .pointer (some ⟨b259, 0, none⟩)), (7, .int .i64 x338), (118, .slice (ad a339) y340.length (na339 / 4)), (130, .slice (some ⟨g354, 0, none⟩) 1 1)] (([⟨g354, [.int .i64 t359, .int .i64 t360, .slice (ad N365) t362.length (nN365 / 7), .bool t361], 4⟩, ⟨N365, encL E_i647 t362, nN365⟩, ⟨B0, [.slice a_m0_0 m0_0.length c_m0_0, .int .i64 t363], 2⟩, ⟨a339, csa339, na339⟩, ⟨b232, [.int .i64 (wr64 (1 + t223)), .int .i64 (wr64 (1 + t226)), .int .i64 t229, .slice (ad a304) y305.length (na304 / 4), .slice (ad a241) y242.length (na241 / 11)], 5⟩, ⟨b259, [.int .i64 (wr64 (1 + t256)), .int .i64 x270, .int .i64 x271, .int .i64 t273, .int .i64 t282, .int .i64 x307, .int .i64 x308, .int .i64 x309, .int .i64 x331, .int .i64 x322, .slice (ad a339) y340.length (na339 / 4)], 11⟩, ⟨b222, [.int .i64 0, .int .i64 0, .int .i64 0, .slice (ad a247) y248.length (na247 / 4), .slice (ad a245) y246.length (na245 / 11)], 5⟩, ⟨a304, encL E_u84 y305, na304⟩, ⟨a241, csa241, na241⟩, ⟨a247, encL E_u84 y248, na247⟩, ⟨a245, csa245, na245⟩] : List Own) ++ (Fa241 ++ (Fa245 ++ (Fa339 ++ [])))) := by
                              intro g354 N365 nN365
                              refine hstep [14] _ _ _ (by kernel_rfl) (List.cons_ne_nil _ _) ⟨?_, trivial⟩
                              · show T _ _ _ _ _ _ _ _
                                refine t_someB 1 rfl fun hbN365_ => ?_
                                refine t_appN (R := rdOf (([⟨N365, encL E_i647 t362, nN365⟩] : List Own) ++ (Fa339 ++ [])) S) (E := N_0) (L := y340) (X := ([(t359, t360, t362, t361)] : List (Int × Int × List (Int × Int × Int × Int × Int × Int × Int) × Bool))) (cs := csa339) (ds := [.int .i64 t359, .int .i64 t360, .slice (ad N365) t362.length (nN365 / 7), .bool t361]) (F := (([⟨g354, [.int .i64 t359, .int .i64 t360, .slice (ad N365) t362.length (nN365 / 7), .bool t361], 4⟩, ⟨N365, encL E_i647 t362, nN365⟩, ⟨B0, [.slice a_m0_0 m0_0.length c_m0_0, .int .i64 t363], 2⟩, ⟨b232, [.int .i64 (wr64 (1 + t223)), .int .i64 (wr64 (1 + t226)), .int .i64 t229, .slice (ad a304) y305.length (na304 / 4), .slice (ad a241) y242.length (na241 / 11)], 5⟩, ⟨b259, [.int .i64 (wr64 (1 + t256)), .int .i64 x270, .int .i64 x271, .int .i64 t273, .int .i64 t282, .int .i64 x307, .int .i64 x308, .int .i64 x309, .int .i64 x331, .int .i64 x322, .slice (ad a339) y340.length (na339 / 4)], 11⟩, ⟨b222, [.int .i64 0, .int .i64 0, .int .i64 0, .slice (ad a247) y248.length (na247 / 4), .slice (ad a245) y246.length (na245 / 11)], 5⟩, ⟨a304, encL E_u84 y305, na304⟩, ⟨a241, csa241, na241⟩, ⟨a247, encL E_u84 y248, na247⟩, ⟨a245, csa245, na245⟩] : List Own) ++ (Fa241 ++ (Fa245 ++ (Fa339 ++ []))))) rfl rfl rfl rfl (sel_perm (is := [3]) (by kernel_rfl)) (RL.mono hra339 (rd_sub (sub_app (seg_in 1 (X := (Fa339 ++ [])) rfl seg_hd) sub_nil))) (RL.one (E := N_0) ⟨_, _, rfl, SlN.own (RL.flat (E := E_i647)) hbN365_ (by decide) (fun _ hk_ => Or.inl ⟨_, mem_at 0 rfl, hk_, rfl⟩)⟩) rfl (by decide) (.at 0 rfl (by kernel_rfl)) rfl (by decide) (by decide) rfl hl367 fun g357 ng357 csg357 hrg357 => ?_
                                exact t_fin [0, 2, 3, 4, 5, 6, 7, 131] (hg_7fff g357 ng357 g354 N365 nN365 csg357 hrg357) (by kernel_rfl)
                            have hg_3ffd : ∀ (g354 : Nat) (N365 : Option Nat) (nN365 : Nat), G [true, false, true, true, true, true, true, true, true, true, true, true, true, true, false, false, false] [(0, .pointer (some ⟨B0, 0, none⟩)), (2, .pointer (some ⟨b222, 0, none⟩)), (3, .pointer (some ⟨b232, 0, none⟩)), (4, .int .i64 (wr64 ((mx (wr64 (1 + t223)) (wr64 (1 + t226))) * 2 ^ (min (Int.toNat (wru64 t229)) 64)))), (5, .int .i64 x240), (6, .pointer (some ⟨b259, 0, none⟩)), (7, .int .i64 x338), (117, .pointer (some ⟨b259, 10, none⟩)), (130, .slice (some ⟨g354, 0, none⟩) 1 1)] (([⟨g354, [.int .i64 t359, .int .i64 t360, .slice (ad N365) t362.length (nN365 / 7), .bool t361], 4⟩, ⟨N365, encL E_i647 t362, nN365⟩, ⟨B0, [.slice a_m0_0 m0_0.length c_m0_0, .int .i64 t363], 2⟩, ⟨a339, csa339, na339⟩, ⟨b232, [.int .i64 (wr64 (1 + t223)), .int .i64 (wr64 (1 + t226)), .int .i64 t229, .slice (ad a304) y305.length (na304 / 4), .slice (ad a241) y242.length (na241 / 11)], 5⟩, ⟨b259, [.int .i64 (wr64 (1 + t256)), .int .i64 x270, .int .i64 x271, .int .i64 t273, .int .i64 t282, .int .i64 x307, .int .i64 x308, .int .i64 x309, .int .i64 x331, .int .i64 x322, .slice (ad a339) y340.length (na339 / 4)], 11⟩, ⟨b222, [.int .i64 0, .int .i64 0, .int .i64 0, .slice (ad a247) y248.length (na247 / 4), .slice (ad a245) y246.length (na245 / 11)], 5⟩, ⟨a304, encL E_u84 y305, na304⟩, ⟨a241, csa241, na241⟩, ⟨a247, encL E_u84 y248, na247⟩, ⟨a245, csa245, na245⟩] : List Own) ++ (Fa241 ++ (Fa245 ++ (Fa339 ++ [])))) := by
                              intro g354 N365 nN365
                              refine hstep [1] _ _ _ (by kernel_rfl) (List.cons_ne_nil _ _) ⟨?_, trivial⟩
                              · show T _ _ _ _ _ _ _ _
                                refine t_v (.ld1 rfl rfl rfl (.at 5 rfl rfl)) ?_
                                exact t_fin [0, 2, 3, 4, 5, 6, 7, 118, 130] (hg_3fff g354 N365 nN365) (by kernel_rfl)
                            have hg_1fff : ∀ (N365 : Option Nat) (nN365 : Nat), G [true, true, true, true, true, true, true, true, true, true, true, true, true, false, false, false, false] [(0, .pointer (some ⟨B0, 0, none⟩)), (2, .pointer (some ⟨b222, 0, none⟩)), (3, .pointer (some ⟨b232, 0, none⟩)), (4, .int .i64 (wr64 ((mx (wr64 (1 + t223)) (wr64 (1 + t226))) * 2 ^ (min (Int.toNat (wru64 t229)) 64)))), (5, .int .i64 x240), (6, .pointer (some ⟨b259, 0, none⟩)), (7, .int .i64 x338), (118, .slice (ad a339) y340.length (na339 / 4)), (129, .agg #[.int .i64 t359, .int .i64 t360, .slice (ad N365) t362.length (nN365 / 7), .bool t361])] (([⟨N365, encL E_i647 t362, nN365⟩, ⟨B0, [.slice a_m0_0 m0_0.length c_m0_0, .int .i64 t363], 2⟩, ⟨a339, csa339, na339⟩, ⟨b232, [.int .i64 (wr64 (1 + t223)), .int .i64 (wr64 (1 + t226)), .int .i64 t229, .slice (ad a304) y305.length (na304 / 4), .slice (ad a241) y242.length (na241 / 11)], 5⟩, ⟨b259, [.int .i64 (wr64 (1 + t256)), .int .i64 x270, .int .i64 x271, .int .i64 t273, .int .i64 t282, .int .i64 x307, .int .i64 x308, .int .i64 x309, .int .i64 x331, .int .i64 x322, .slice (ad a339) y340.length (na339 / 4)], 11⟩, ⟨b222, [.int .i64 0, .int .i64 0, .int .i64 0, .slice (ad a247) y248.length (na247 / 4), .slice (ad a245) y246.length (na245 / 11)], 5⟩, ⟨a304, encL E_u84 y305, na304⟩, ⟨a241, csa241, na241⟩, ⟨a247, encL E_u84 y248, na247⟩, ⟨a245, csa245, na245⟩] : List Own) ++ (Fa241 ++ (Fa245 ++ (Fa339 ++ [])))) := by
                              intro N365 nN365
                              refine hstep [13] _ _ _ (by kernel_rfl) (List.cons_ne_nil _ _) ⟨?_, trivial⟩
                              · show T _ _ _ _ _ _ _ _
                                refine t_a (dv_bsl (cs := [.int .i64 t359, .int .i64 t360, .slice (ad N365) t362.length (nN365 / 7), .bool t361]) rfl rfl (by kernel_rfl)) fun g354 fg354 sg354 => ?_
                                exact t_fin [0, 2, 3, 4, 5, 6, 7, 118, 130] (hg_3fff g354 N365 nN365) (by kernel_rfl)
                            have hg_fff : G [true, true, true, true, true, true, true, true, true, true, true, true, false, false, false, false, false] [(0, .pointer (some ⟨B0, 0, none⟩)), (2, .pointer (some ⟨b222, 0, none⟩)), (3, .pointer (some ⟨b232, 0, none⟩)), (4, .int .i64 (wr64 ((mx (wr64 (1 + t223)) (wr64 (1 + t226))) * 2 ^ (min (Int.toNat (wru64 t229)) 64)))), (5, .int .i64 x240), (6, .pointer (some ⟨b259, 0, none⟩)), (7, .int .i64 x338), (118, .slice (ad a339) y340.length (na339 / 4)), (119, .pointer (some ⟨B0, 0, none⟩)), (120, .int .i64 (wr64 ((mx (wr64 (1 + t223)) (wr64 (1 + t226))) * 2 ^ (min (Int.toNat (wru64 t229)) 64)))), (128, .bool false)] (([⟨a339, csa339, na339⟩, ⟨B0, [.slice a_m0_0 m0_0.length c_m0_0, .int .i64 x341], 2⟩, ⟨b232, [.int .i64 (wr64 (1 + t223)), .int .i64 (wr64 (1 + t226)), .int .i64 t229, .slice (ad a304) y305.length (na304 / 4), .slice (ad a241) y242.length (na241 / 11)], 5⟩, ⟨b259, [.int .i64 (wr64 (1 + t256)), .int .i64 x270, .int .i64 x271, .int .i64 t273, .int .i64 t282, .int .i64 x307, .int .i64 x308, .int .i64 x309, .int .i64 x331, .int .i64 x322, .slice (ad a339) y340.length (na339 / 4)], 11⟩, ⟨b222, [.int .i64 0, .int .i64 0, .int .i64 0, .slice (ad a247) y248.length (na247 / 4), .slice (ad a245) y246.length (na245 / 11)], 5⟩, ⟨a304, encL E_u84 y305, na304⟩, ⟨a241, csa241, na241⟩, ⟨a247, encL E_u84 y248, na247⟩, ⟨a245, csa245, na245⟩] : List Own) ++ (Fa241 ++ (Fa245 ++ (Fa339 ++ [])))) := by
                              refine hstep [12] _ _ _ (by kernel_rfl) (List.cons_ne_nil _ _) ⟨?_, trivial⟩
                              · show T _ _ _ _ _ _ _ _
                                refine t_call (vs := [.pointer (some ⟨B0, 0, none⟩), .int .i64 (wr64 ((mx (wr64 (1 + t223)) (wr64 (1 + t226))) * 2 ^ (min (Int.toNat (wru64 t229)) 64))), .bool false]) (H1 := ([⟨B0, [.slice a_m0_0 m0_0.length c_m0_0, .int .i64 x341], 2⟩] : List Own)) (F := (([⟨a339, csa339, na339⟩, ⟨b232, [.int .i64 (wr64 (1 + t223)), .int .i64 (wr64 (1 + t226)), .int .i64 t229, .slice (ad a304) y305.length (na304 / 4), .slice (ad a241) y242.length (na241 / 11)], 5⟩, ⟨b259, [.int .i64 (wr64 (1 + t256)), .int .i64 x270, .int .i64 x271, .int .i64 t273, .int .i64 t282, .int .i64 x307, .int .i64 x308, .int .i64 x309, .int .i64 x331, .int .i64 x322, .slice (ad a339) y340.length (na339 / 4)], 11⟩, ⟨b222, [.int .i64 0, .int .i64 0, .int .i64 0, .slice (ad a247) y248.length (na247 / 4), .slice (ad a245) y246.length (na245 / 11)], 5⟩, ⟨a304, encL E_u84 y305, na304⟩, ⟨a241, csa241, na241⟩, ⟨a247, encL E_u84 y248, na247⟩, ⟨a245, csa245, na245⟩] : List Own) ++ (Fa241 ++ (Fa245 ++ (Fa339 ++ []))))) rfl rfl (by kernel_rfl) (sel_perm (is := [1]) (by kernel_rfl)) (glyphicmake_Path_v1.ok hE_ h_m0_0 h364) ?_
                                rintro _ _ S_ ⟨N365, nN365, rfl, rfl, hS_⟩
                                obtain rfl := hS_.symm
                                exact t_fin [0, 2, 3, 4, 5, 6, 7, 118, 129] (hg_1fff N365 nN365) (by kernel_rfl)
                            have hg_1ffd : ∀ (N365 : Option Nat) (nN365 : Nat), G [true, false, true, true, true, true, true, true, true, true, true, true, true, false, false, false, false] [(0, .pointer (some ⟨B0, 0, none⟩)), (2, .pointer (some ⟨b222, 0, none⟩)), (3, .pointer (some ⟨b232, 0, none⟩)), (4, .int .i64 (wr64 ((mx (wr64 (1 + t223)) (wr64 (1 + t226))) * 2 ^ (min (Int.toNat (wru64 t229)) 64)))), (5, .int .i64 x240), (6, .pointer (some ⟨b259, 0, none⟩)), (7, .int .i64 x338), (117, .pointer (some ⟨b259, 10, none⟩)), (129, .agg #[.int .i64 t359, .int .i64 t360, .slice (ad N365) t362.length (nN365 / 7), .bool t361])] (([⟨N365, encL E_i647 t362, nN365⟩, ⟨B0, [.slice a_m0_0 m0_0.length c_m0_0, .int .i64 t363], 2⟩, ⟨a339, csa339, na339⟩, ⟨b232, [.int .i64 (wr64 (1 + t223)), .int .i64 (wr64 (1 + t226)), .int .i64 t229, .slice (ad a304) y305.length (na304 / 4), .slice (ad a241) y242.length (na241 / 11)], 5⟩, ⟨b259, [.int .i64 (wr64 (1 + t256)), .int .i64 x270, .int .i64 x271, .int .i64 t273, .int .i64 t282, .int .i64 x307, .int .i64 x308, .int .i64 x309, .int .i64 x331, .int .i64 x322, .slice (ad a339) y340.length (na339 / 4)], 11⟩, ⟨b222, [.int .i64 0, .int .i64 0, .int .i64 0, .slice (ad a247) y248.length (na247 / 4), .slice (ad a245) y246.length (na245 / 11)], 5⟩, ⟨a304, encL E_u84 y305, na304⟩, ⟨a241, csa241, na241⟩, ⟨a247, encL E_u84 y248, na247⟩, ⟨a245, csa245, na245⟩] : List Own) ++ (Fa241 ++ (Fa245 ++ (Fa339 ++ [])))) := by
                              intro N365 nN365
                              refine hstep [1, 13] _ _ _ (by kernel_rfl) (List.cons_ne_nil _ _) ⟨?_, ?_, trivial⟩
                              · show T _ _ _ _ _ _ _ _
                                refine t_v (.ld1 rfl rfl rfl (.at 4 rfl rfl)) ?_
                                exact t_fin [0, 2, 3, 4, 5, 6, 7, 118, 129] (hg_1fff N365 nN365) (by kernel_rfl)
                              · show T _ _ _ _ _ _ _ _
                                refine t_a (dv_bsl (cs := [.int .i64 t359, .int .i64 t360, .slice (ad N365) t362.length (nN365 / 7), .bool t361]) rfl rfl (by kernel_rfl)) fun g354 fg354 sg354 => ?_
                                exact t_fin [0, 2, 3, 4, 5, 6, 7, 117, 130] (hg_3ffd g354 N365 nN365) (by kernel_rfl)
                            have hg_7ff : G [true, true, true, true, true, true, true, true, true, true, true, false, false, false, false, false, false] [(0, .pointer (some ⟨B0, 0, none⟩)), (2, .pointer (some ⟨b222, 0, none⟩)), (3, .pointer (some ⟨b232, 0, none⟩)), (4, .int .i64 (wr64 ((mx (wr64 (1 + t223)) (wr64 (1 + t226))) * 2 ^ (min (Int.toNat (wru64 t229)) 64)))), (5, .int .i64 x240), (6, .pointer (some ⟨b259, 0, none⟩)), (7, .int .i64 x338), (118, .slice (ad a339) y340.length (na339 / 4)), (119, .pointer (some ⟨B0, 0, none⟩)), (120, .int .i64 (wr64 ((mx (wr64 (1 + t223)) (wr64 (1 + t226))) * 2 ^ (min (Int.toNat (wru64 t229)) 64)))), (124, .bool false), (127, .tuple #[])] (([⟨a339, csa339, na339⟩, ⟨B0, [.slice a_m0_0 m0_0.length c_m0_0, .int .i64 x341], 2⟩, ⟨b232, [.int .i64 (wr64 (1 + t223)), .int .i64 (wr64 (1 + t226)), .int .i64 t229, .slice (ad a304) y305.length (na304 / 4), .slice (ad a241) y242.length (na241 / 11)], 5⟩, ⟨b259, [.int .i64 (wr64 (1 + t256)), .int .i64 x270, .int .i64 x271, .int .i64 t273, .int .i64 t282, .int .i64 x307, .int .i64 x308, .int .i64 x309, .int .i64 x331, .int .i64 x322, .slice (ad a339) y340.length (na339 / 4)], 11⟩, ⟨b222, [.int .i64 0, .int .i64 0, .int .i64 0, .slice (ad a247) y248.length (na247 / 4), .slice (ad a245) y246.length (na245 / 11)], 5⟩, ⟨a304, encL E_u84 y305, na304⟩, ⟨a241, csa241, na241⟩, ⟨a247, encL E_u84 y248, na247⟩, ⟨a245, csa245, na245⟩] : List Own) ++ (Fa241 ++ (Fa245 ++ (Fa339 ++ [])))) := by
                              exact hqf 11 [0, 2, 3, 4, 5, 6, 7, 118, 119, 120, 128] _ _ _ _ (by kernel_rfl) (by kernel_rfl) hg_fff
                            have hg_ffd : G [true, false, true, true, true, true, true, true, true, true, true, true, false, false, false, false, false] [(0, .pointer (some ⟨B0, 0, none⟩)), (2, .pointer (some ⟨b222, 0, none⟩)), (3, .pointer (some ⟨b232, 0, none⟩)), (4, .int .i64 (wr64 ((mx (wr64 (1 + t223)) (wr64 (1 + t226))) * 2 ^ (min (Int.toNat (wru64 t229)) 64)))), (5, .int .i64 x240), (6, .pointer (some ⟨b259, 0, none⟩)), (7, .int .i64 x338), (117, .pointer (some ⟨b259, 10, none⟩)), (119, .pointer (some ⟨B0, 0, none⟩)), (120, .int .i64 (wr64 ((mx (wr64 (1 + t223)) (wr64 (1 + t226))) * 2 ^ (min (Int.toNat (wru64 t229)) 64)))), (128, .bool false)] (([⟨a339, csa339, na339⟩, ⟨B0, [.slice a_m0_0 m0_0.length c_m0_0, .int .i64 x341], 2⟩, ⟨b232, [.int .i64 (wr64 (1 + t223)), .int .i64 (wr64 (1 + t226)), .int .i64 t229, .slice (ad a304) y305.length (na304 / 4), .slice (ad a241) y242.length (na241 / 11)], 5⟩, ⟨b259, [.int .i64 (wr64 (1 + t256)), .int .i64 x270, .int .i64 x271, .int .i64 t273, .int .i64 t282, .int .i64 x307, .int .i64 x308, .int .i64 x309, .int .i64 x331, .int .i64 x322, .slice (ad a339) y340.length (na339 / 4)], 11⟩, ⟨b222, [.int .i64 0, .int .i64 0, .int .i64 0, .slice (ad a247) y248.length (na247 / 4), .slice (ad a245) y246.length (na245 / 11)], 5⟩, ⟨a304, encL E_u84 y305, na304⟩, ⟨a241, csa241, na241⟩, ⟨a247, encL E_u84 y248, na247⟩, ⟨a245, csa245, na245⟩] : List Own) ++ (Fa241 ++ (Fa245 ++ (Fa339 ++ [])))) := by
                              refine hstep [1, 12] _ _ _ (by kernel_rfl) (List.cons_ne_nil _ _) ⟨?_, ?_, trivial⟩
                              · show T _ _ _ _ _ _ _ _
                                refine t_v (.ld1 rfl rfl rfl (.at 3 rfl rfl)) ?_
                                exact t_fin [0, 2, 3, 4, 5, 6, 7, 118, 119, 120, 128] hg_fff (by kernel_rfl)
                              · show T _ _ _ _ _ _ _ _
                                refine t_call (vs := [.pointer (some ⟨B0, 0, none⟩), .int .i64 (wr64 ((mx (wr64 (1 + t223)) (wr64 (1 + t226))) * 2 ^ (min (Int.toNat (wru64 t229)) 64))), .bool false]) (H1 := ([⟨B0, [.slice a_m0_0 m0_0.length c_m0_0, .int .i64 x341], 2⟩] : List Own)) (F := (([⟨a339, csa339, na339⟩, ⟨b232, [.int .i64 (wr64 (1 + t223)), .int .i64 (wr64 (1 + t226)), .int .i64 t229, .slice (ad a304) y305.length (na304 / 4), .slice (ad a241) y242.length (na241 / 11)], 5⟩, ⟨b259, [.int .i64 (wr64 (1 + t256)), .int .i64 x270, .int .i64 x271, .int .i64 t273, .int .i64 t282, .int .i64 x307, .int .i64 x308, .int .i64 x309, .int .i64 x331, .int .i64 x322, .slice (ad a339) y340.length (na339 / 4)], 11⟩, ⟨b222, [.int .i64 0, .int .i64 0, .int .i64 0, .slice (ad a247) y248.length (na247 / 4), .slice (ad a245) y246.length (na245 / 11)], 5⟩, ⟨a304, encL E_u84 y305, na304⟩, ⟨a241, csa241, na241⟩, ⟨a247, encL E_u84 y248, na247⟩, ⟨a245, csa245, na245⟩] : List Own) ++ (Fa241 ++ (Fa245 ++ (Fa339 ++ []))))) rfl rfl (by kernel_rfl) (sel_perm (is := [1]) (by kernel_rfl)) (glyphicmake_Path_v1.ok hE_ h_m0_0 h364) ?_
                                rintro _ _ S_ ⟨N365, nN365, rfl, rfl, hS_⟩
                                obtain rfl := hS_.symm
                                exact t_fin [0, 2, 3, 4, 5, 6, 7, 117, 129] (hg_1ffd N365 nN365) (by kernel_rfl)
                            have hg_3ff : G [true, true, true, true, true, true, true, true, true, true, false, false, false, false, false, false, false] [(0, .pointer (some ⟨B0, 0, none⟩)), (2, .pointer (some ⟨b222, 0, none⟩)), (3, .pointer (some ⟨b232, 0, none⟩)), (4, .int .i64 (wr64 ((mx (wr64 (1 + t223)) (wr64 (1 + t226))) * 2 ^ (min (Int.toNat (wru64 t229)) 64)))), (5, .int .i64 x240), (6, .pointer (some ⟨b259, 0, none⟩)), (7, .int .i64 x338), (118, .slice (ad a339) y340.length (na339 / 4)), (119, .pointer (some ⟨B0, 0, none⟩)), (120, .int .i64 (wr64 ((mx (wr64 (1 + t223)) (wr64 (1 + t226))) * 2 ^ (min (Int.toNat (wru64 t229)) 64)))), (124, .bool false), (126, .tuple #[])] (([⟨a339, csa339, na339⟩, ⟨B0, [.slice a_m0_0 m0_0.length c_m0_0, .int .i64 x341], 2⟩, ⟨b232, [.int .i64 (wr64 (1 + t223)), .int .i64 (wr64 (1 + t226)), .int .i64 t229, .slice (ad a304) y305.length (na304 / 4), .slice (ad a241) y242.length (na241 / 11)], 5⟩, ⟨b259, [.int .i64 (wr64 (1 + t256)), .int .i64 x270, .int .i64 x271, .int .i64 t273, .int .i64 t282, .int .i64 x307, .int .i64 x308, .int .i64 x309, .int .i64 x331, .int .i64 x322, .slice (ad a339) y340.length (na339 / 4)], 11⟩, ⟨b222, [.int .i64 0, .int .i64 0, .int .i64 0, .slice (ad a247) y248.length (na247 / 4), .slice (ad a245) y246.length (na245 / 11)], 5⟩, ⟨a304, encL E_u84 y305, na304⟩, ⟨a241, csa241, na241⟩, ⟨a247, encL E_u84 y248, na247⟩, ⟨a245, csa245, na245⟩] : List Own) ++ (Fa241 ++ (Fa245 ++ (Fa339 ++ [])))) := by
                              exact hqf 10 [0, 2, 3, 4, 5, 6, 7, 118, 119, 120, 124, 127] _ _ _ _ (by kernel_rfl) (by kernel_rfl) hg_7ff
                            have hg_7fd : G [true, false, true, true, true, true, true, true, true, true, true, false, false, false, false, false, false] [(0, .pointer (some ⟨B0, 0, none⟩)), (2, .pointer (some ⟨b222, 0, none⟩)), (3, .pointer (some ⟨b232, 0, none⟩)), (4, .int .i64 (wr64 ((mx (wr64 (1 + t223)) (wr64 (1 + t226))) * 2 ^ (min (Int.toNat (wru64 t229)) 64)))), (5, .int .i64 x240), (6, .pointer (some ⟨b259, 0, none⟩)), (7, .int .i64 x338), (117, .pointer (some ⟨b259, 10, none⟩)), (119, .pointer (some ⟨B0, 0, none⟩)), (120, .int .i64 (wr64 ((mx (wr64 (1 + t223)) (wr64 (1 + t226))) * 2 ^ (min (Int.toNat (wru64 t229)) 64)))), (124, .bool false), (127, .tuple #[])] (([⟨a339, csa339, na339⟩, ⟨B0, [.slice a_m0_0 m0_0.length c_m0_0, .int .i64 x341], 2⟩, ⟨b232, [.int .i64 (wr64 (1 + t223)), .int .i64 (wr64 (1 + t226)), .int .i64 t229, .slice (ad a304) y305.length (na304 / 4), .slice (ad a241) y242.length (na241 / 11)], 5⟩, ⟨b259, [.int .i64 (wr64 (1 + t256)), .int .i64 x270, .int .i64 x271, .int .i64 t273, .int .i64 t282, .int .i64 x307, .int .i64 x308, .int .i64 x309, .int .i64 x331, .int .i64 x322, .slice (ad a339) y340.length (na339 / 4)], 11⟩, ⟨b222, [.int .i64 0, .int .i64 0, .int .i64 0, .slice (ad a247) y248.length (na247 / 4), .slice (ad a245) y246.length (na245 / 11)], 5⟩, ⟨a304, encL E_u84 y305, na304⟩, ⟨a241, csa241, na241⟩, ⟨a247, encL E_u84 y248, na247⟩, ⟨a245, csa245, na245⟩] : List Own) ++ (Fa241 ++ (Fa245 ++ (Fa339 ++ [])))) := by
                              exact hqf 11 [0, 2, 3, 4, 5, 6, 7, 117, 119, 120, 128] _ _ _ _ (by kernel_rfl) (by kernel_rfl) hg_ffd
                            have hg_1ff : G [true, true, true, true, true, true, true, true, true, false, false, false, false, false, false, false, false] [(0, .pointer (some ⟨B0, 0, none⟩)), (2, .pointer (some ⟨b222, 0, none⟩)), (3, .pointer (some ⟨b232, 0, none⟩)), (4, .int .i64 (wr64 ((mx (wr64 (1 + t223)) (wr64 (1 + t226))) * 2 ^ (min (Int.toNat (wru64 t229)) 64)))), (5, .int .i64 x240), (6, .pointer (some ⟨b259, 0, none⟩)), (7, .int .i64 x338), (118, .slice (ad a339) y340.length (na339 / 4)), (119, .pointer (some ⟨B0, 0, none⟩)), (120, .int .i64 (wr64 ((mx (wr64 (1 + t223)) (wr64 (1 + t226))) * 2 ^ (min (Int.toNat (wru64 t229)) 64)))), (124, .bool false), (125, .tuple #[])] (([⟨a339, csa339, na339⟩, ⟨B0, [.slice a_m0_0 m0_0.length c_m0_0, .int .i64 x341], 2⟩, ⟨b232, [.int .i64 (wr64 (1 + t223)), .int .i64 (wr64 (1 + t226)), .int .i64 t229, .slice (ad a304) y305.length (na304 / 4), .slice (ad a241) y242.length (na241 / 11)], 5⟩, ⟨b259, [.int .i64 (wr64 (1 + t256)), .int .i64 x270, .int .i64 x271, .int .i64 t273, .int .i64 t282, .int .i64 x307, .int .i64 x308, .int .i64 x309, .int .i64 x331, .int .i64 x322, .slice (ad a339) y340.length (na339 / 4)], 11⟩, ⟨b222, [.int .i64 0, .int .i64 0, .int .i64 0, .slice (ad a247) y248.length (na247 / 4), .slice (ad a245) y246.length (na245 / 11)], 5⟩, ⟨a304, encL E_u84 y305, na304⟩, ⟨a241, csa241, na241⟩, ⟨a247, encL E_u84 y248, na247⟩, ⟨a245, csa245, na245⟩] : List Own) ++ (Fa241 ++ (Fa245 ++ (Fa339 ++ [])))) := by
                              exact hqf 9 [0, 2, 3, 4, 5, 6, 7, 118, 119, 120, 124, 126] _ _ _ _ (by kernel_rfl) (by kernel_rfl) hg_3ff
                            have hg_3fd : G [true, false, true, true, true, true, true, true, true, true, false, false, false, false, false, false, false] [(0, .pointer (some ⟨B0, 0, none⟩)), (2, .pointer (some ⟨b222, 0, none⟩)), (3, .pointer (some ⟨b232, 0, none⟩)), (4, .int .i64 (wr64 ((mx (wr64 (1 + t223)) (wr64 (1 + t226))) * 2 ^ (min (Int.toNat (wru64 t229)) 64)))), (5, .int .i64 x240), (6, .pointer (some ⟨b259, 0, none⟩)), (7, .int .i64 x338), (117, .pointer (some ⟨b259, 10, none⟩)), (119, .pointer (some ⟨B0, 0, none⟩)), (120, .int .i64 (wr64 ((mx (wr64 (1 + t223)) (wr64 (1 + t226))) * 2 ^ (min (Int.toNat (wru64 t229)) 64)))), (124, .bool false), (126, .tuple #[])] (([⟨a339, csa339, na339⟩, ⟨B0, [.slice a_m0_0 m0_0.length c_m0_0, .int .i64 x341], 2⟩, ⟨b232, [.int .i64 (wr64 (1 + t223)), .int .i64 (wr64 (1 + t226)), .int .i64 t229, .slice (ad a304) y305.length (na304 / 4), .slice (ad a241) y242.length (na241 / 11)], 5⟩, ⟨b259, [.int .i64 (wr64 (1 + t256)), .int .i64 x270, .int .i64 x271, .int .i64 t273, .int .i64 t282, .int .i64 x307, .int .i64 x308, .int .i64 x309, .int .i64 x331, .int .i64 x322, .slice (ad a339) y340.length (na339 / 4)], 11⟩, ⟨b222, [.int .i64 0, .int .i64 0, .int .i64 0, .slice (ad a247) y248.length (na247 / 4), .slice (ad a245) y246.length (na245 / 11)], 5⟩, ⟨a304, encL E_u84 y305, na304⟩, ⟨a241, csa241, na241⟩, ⟨a247, encL E_u84 y248, na247⟩, ⟨a245, csa245, na245⟩] : List Own) ++ (Fa241 ++ (Fa245 ++ (Fa339 ++ [])))) := by
                              exact hqf 10 [0, 2, 3, 4, 5, 6, 7, 117, 119, 120, 124, 127] _ _ _ _ (by kernel_rfl) (by kernel_rfl) hg_7fd
                            have hg_ff : G [true, true, true, true, true, true, true, true, false, false, false, false, false, false, false, false, false] [(0, .pointer (some ⟨B0, 0, none⟩)), (2, .pointer (some ⟨b222, 0, none⟩)), (3, .pointer (some ⟨b232, 0, none⟩)), (4, .int .i64 (wr64 ((mx (wr64 (1 + t223)) (wr64 (1 + t226))) * 2 ^ (min (Int.toNat (wru64 t229)) 64)))), (5, .int .i64 x240), (6, .pointer (some ⟨b259, 0, none⟩)), (7, .int .i64 x338), (118, .slice (ad a339) y340.length (na339 / 4)), (119, .pointer (some ⟨B0, 0, none⟩)), (120, .int .i64 (wr64 ((mx (wr64 (1 + t223)) (wr64 (1 + t226))) * 2 ^ (min (Int.toNat (wru64 t229)) 64)))), (124, .bool false)] (([⟨a339, csa339, na339⟩, ⟨B0, [.slice a_m0_0 m0_0.length c_m0_0, .int .i64 x341], 2⟩, ⟨b232, [.int .i64 (wr64 (1 + t223)), .int .i64 (wr64 (1 + t226)), .int .i64 t229, .slice (ad a304) y305.length (na304 / 4), .slice (ad a241) y242.length (na241 / 11)], 5⟩, ⟨b259, [.int .i64 (wr64 (1 + t256)), .int .i64 x270, .int .i64 x271, .int .i64 t273, .int .i64 t282, .int .i64 x307, .int .i64 x308, .int .i64 x309, .int .i64 x331, .int .i64 x322, .slice (ad a339) y340.length (na339 / 4)], 11⟩, ⟨b222, [.int .i64 0, .int .i64 0, .int .i64 0, .slice (ad a247) y248.length (na247 / 4), .slice (ad a245) y246.length (na245 / 11)], 5⟩, ⟨a304, encL E_u84 y305, na304⟩, ⟨a241, csa241, na241⟩, ⟨a247, encL E_u84 y248, na247⟩, ⟨a245, csa245, na245⟩] : List Own) ++ (Fa241 ++ (Fa245 ++ (Fa339 ++ [])))) := by
                              exact hqf 8 [0, 2, 3, 4, 5, 6, 7, 118, 119, 120, 124, 125] _ _ _ _ (by kernel_rfl) (by kernel_rfl) hg_1ff
                            have hg_1fd : G [true, false, true, true, true, true, true, true, true, false, false, false, false, false, false, false, false] [(0, .pointer (some ⟨B0, 0, none⟩)), (2, .pointer (some ⟨b222, 0, none⟩)), (3, .pointer (some ⟨b232, 0, none⟩)), (4, .int .i64 (wr64 ((mx (wr64 (1 + t223)) (wr64 (1 + t226))) * 2 ^ (min (Int.toNat (wru64 t229)) 64)))), (5, .int .i64 x240), (6, .pointer (some ⟨b259, 0, none⟩)), (7, .int .i64 x338), (117, .pointer (some ⟨b259, 10, none⟩)), (119, .pointer (some ⟨B0, 0, none⟩)), (120, .int .i64 (wr64 ((mx (wr64 (1 + t223)) (wr64 (1 + t226))) * 2 ^ (min (Int.toNat (wru64 t229)) 64)))), (124, .bool false), (125, .tuple #[])] (([⟨a339, csa339, na339⟩, ⟨B0, [.slice a_m0_0 m0_0.length c_m0_0, .int .i64 x341], 2⟩, ⟨b232, [.int .i64 (wr64 (1 + t223)), .int .i64 (wr64 (1 + t226)), .int .i64 t229, .slice (ad a304) y305.length (na304 / 4), .slice (ad a241) y242.length (na241 / 11)], 5⟩, ⟨b259, [.int .i64 (wr64 (1 + t256)), .int .i64 x270, .int .i64 x271, .int .i64 t273, .int .i64 t282, .int .i64 x307, .int .i64 x308, .int .i64 x309, .int .i64 x331, .int .i64 x322, .slice (ad a339) y340.length (na339 / 4)], 11⟩, ⟨b222, [.int .i64 0, .int .i64 0, .int .i64 0, .slice (ad a247) y248.length (na247 / 4), .slice (ad a245) y246.length (na245 / 11)], 5⟩, ⟨a304, encL E_u84 y305, na304⟩, ⟨a241, csa241, na241⟩, ⟨a247, encL E_u84 y248, na247⟩, ⟨a245, csa245, na245⟩] : List Own) ++ (Fa241 ++ (Fa245 ++ (Fa339 ++ [])))) := by
                              exact hqf 9 [0, 2, 3, 4, 5, 6, 7, 117, 119, 120, 124, 126] _ _ _ _ (by kernel_rfl) (by kernel_rfl) hg_3fd
                            have hg_fd : G [true, false, true, true, true, true, true, true, false, false, false, false, false, false, false, false, false] [(0, .pointer (some ⟨B0, 0, none⟩)), (2, .pointer (some ⟨b222, 0, none⟩)), (3, .pointer (some ⟨b232, 0, none⟩)), (4, .int .i64 (wr64 ((mx (wr64 (1 + t223)) (wr64 (1 + t226))) * 2 ^ (min (Int.toNat (wru64 t229)) 64)))), (5, .int .i64 x240), (6, .pointer (some ⟨b259, 0, none⟩)), (7, .int .i64 x338), (117, .pointer (some ⟨b259, 10, none⟩)), (119, .pointer (some ⟨B0, 0, none⟩)), (120, .int .i64 (wr64 ((mx (wr64 (1 + t223)) (wr64 (1 + t226))) * 2 ^ (min (Int.toNat (wru64 t229)) 64)))), (124, .bool false)] (([⟨a339, csa339, na339⟩, ⟨B0, [.slice a_m0_0 m0_0.length c_m0_0, .int .i64 x341], 2⟩, ⟨b232, [.int .i64 (wr64 (1 + t223)), .int .i64 (wr64 (1 + t226)), .int .i64 t229, .slice (ad a304) y305.length (na304 / 4), .slice (ad a241) y242.length (na241 / 11)], 5⟩, ⟨b259, [.int .i64 (wr64 (1 + t256)), .int .i64 x270, .int .i64 x271, .int .i64 t273, .int .i64 t282, .int .i64 x307, .int .i64 x308, .int .i64 x309, .int .i64 x331, .int .i64 x322, .slice (ad a339) y340.length (na339 / 4)], 11⟩, ⟨b222, [.int .i64 0, .int .i64 0, .int .i64 0, .slice (ad a247) y248.length (na247 / 4), .slice (ad a245) y246.length (na245 / 11)], 5⟩, ⟨a304, encL E_u84 y305, na304⟩, ⟨a241, csa241, na241⟩, ⟨a247, encL E_u84 y248, na247⟩, ⟨a245, csa245, na245⟩] : List Own) ++ (Fa241 ++ (Fa245 ++ (Fa339 ++ [])))) := by
                              exact hqf 8 [0, 2, 3, 4, 5, 6, 7, 117, 119, 120, 124, 125] _ _ _ _ (by kernel_rfl) (by kernel_rfl) hg_1fd
                            have hg_7f : G [true, true, true, true, true, true, true, false, false, false, false, false, false, false, false, false, false] [(0, .pointer (some ⟨B0, 0, none⟩)), (2, .pointer (some ⟨b222, 0, none⟩)), (3, .pointer (some ⟨b232, 0, none⟩)), (4, .int .i64 (wr64 ((mx (wr64 (1 + t223)) (wr64 (1 + t226))) * 2 ^ (min (Int.toNat (wru64 t229)) 64)))), (5, .int .i64 x240), (6, .pointer (some ⟨b259, 0, none⟩)), (7, .int .i64 x338), (118, .slice (ad a339) y340.length (na339 / 4)), (119, .pointer (some ⟨B0, 0, none⟩)), (120, .int .i64 (wr64 ((mx (wr64 (1 + t223)) (wr64 (1 + t226))) * 2 ^ (min (Int.toNat (wru64 t229)) 64)))), (123, .bool false)] (([⟨a339, csa339, na339⟩, ⟨B0, [.slice a_m0_0 m0_0.length c_m0_0, .int .i64 x341], 2⟩, ⟨b232, [.int .i64 (wr64 (1 + t223)), .int .i64 (wr64 (1 + t226)), .int .i64 t229, .slice (ad a304) y305.length (na304 / 4), .slice (ad a241) y242.length (na241 / 11)], 5⟩, ⟨b259, [.int .i64 (wr64 (1 + t256)), .int .i64 x270, .int .i64 x271, .int .i64 t273, .int .i64 t282, .int .i64 x307, .int .i64 x308, .int .i64 x309, .int .i64 x331, .int .i64 x322, .slice (ad a339) y340.length (na339 / 4)], 11⟩, ⟨b222, [.int .i64 0, .int .i64 0, .int .i64 0, .slice (ad a247) y248.length (na247 / 4), .slice (ad a245) y246.length (na245 / 11)], 5⟩, ⟨a304, encL E_u84 y305, na304⟩, ⟨a241, csa241, na241⟩, ⟨a247, encL E_u84 y248, na247⟩, ⟨a245, csa245, na245⟩] : List Own) ++ (Fa241 ++ (Fa245 ++ (Fa339 ++ [])))) := by
                              exact hqf 7 [0, 2, 3, 4, 5, 6, 7, 118, 119, 120, 124] _ _ _ _ (by kernel_rfl) (by kernel_rfl) hg_ff
                            have hg_3f : G [true, true, true, true, true, true, false, false, false, false, false, false, false, false, false, false, false] [(0, .pointer (some ⟨B0, 0, none⟩)), (2, .pointer (some ⟨b222, 0, none⟩)), (3, .pointer (some ⟨b232, 0, none⟩)), (4, .int .i64 (wr64 ((mx (wr64 (1 + t223)) (wr64 (1 + t226))) * 2 ^ (min (Int.toNat (wru64 t229)) 64)))), (5, .int .i64 x240), (6, .pointer (some ⟨b259, 0, none⟩)), (7, .int .i64 x338), (118, .slice (ad a339) y340.length (na339 / 4)), (119, .pointer (some ⟨B0, 0, none⟩)), (120, .int .i64 (wr64 ((mx (wr64 (1 + t223)) (wr64 (1 + t226))) * 2 ^ (min (Int.toNat (wru64 t229)) 64)))), (122, .int .i64 (wr64 (1 + t256)))] (([⟨a339, csa339, na339⟩, ⟨B0, [.slice a_m0_0 m0_0.length c_m0_0, .int .i64 x341], 2⟩, ⟨b232, [.int .i64 (wr64 (1 + t223)), .int .i64 (wr64 (1 + t226)), .int .i64 t229, .slice (ad a304) y305.length (na304 / 4), .slice (ad a241) y242.length (na241 / 11)], 5⟩, ⟨b259, [.int .i64 (wr64 (1 + t256)), .int .i64 x270, .int .i64 x271, .int .i64 t273, .int .i64 t282, .int .i64 x307, .int .i64 x308, .int .i64 x309, .int .i64 x331, .int .i64 x322, .slice (ad a339) y340.length (na339 / 4)], 11⟩, ⟨b222, [.int .i64 0, .int .i64 0, .int .i64 0, .slice (ad a247) y248.length (na247 / 4), .slice (ad a245) y246.length (na245 / 11)], 5⟩, ⟨a304, encL E_u84 y305, na304⟩, ⟨a241, csa241, na241⟩, ⟨a247, encL E_u84 y248, na247⟩, ⟨a245, csa245, na245⟩] : List Own) ++ (Fa241 ++ (Fa245 ++ (Fa339 ++ [])))) := by
                              refine hstep [6] _ _ _ (by kernel_rfl) (List.cons_ne_nil _ _) ⟨?_, trivial⟩
                              · show T _ _ _ _ _ _ _ _
                                refine t_v (dv_quiet rfl (congrArg (fun t => some (Value.bool t)) c343b)) ?_
                                exact t_fin [0, 2, 3, 4, 5, 6, 7, 118, 119, 120, 123] hg_7f (by kernel_rfl)
                            have hg_7d : G [true, false, true, true, true, true, true, false, false, false, false, false, false, false, false, false, false] [(0, .pointer (some ⟨B0, 0, none⟩)), (2, .pointer (some ⟨b222, 0, none⟩)), (3, .pointer (some ⟨b232, 0, none⟩)), (4, .int .i64 (wr64 ((mx (wr64 (1 + t223)) (wr64 (1 + t226))) * 2 ^ (min (Int.toNat (wru64 t229)) 64)))), (5, .int .i64 x240), (6, .pointer (some ⟨b259, 0, none⟩)), (7, .int .i64 x338), (117, .pointer (some ⟨b259, 10, none⟩)), (119, .pointer (some ⟨B0, 0, none⟩)), (120, .int .i64 (wr64 ((mx (wr64 (1 + t223)) (wr64 (1 + t226))) * 2 ^ (min (Int.toNat (wru64 t229)) 64)))), (123, .bool false)] (([⟨a339, csa339, na339⟩, ⟨B0, [.slice a_m0_0 m0_0.length c_m0_0, .int .i64 x341], 2⟩, ⟨b232, [.int .i64 (wr64 (1 + t223)), .int .i64 (wr64 (1 + t226)), .int .i64 t229, .slice (ad a304) y305.length (na304 / 4), .slice (ad a241) y242.length (na241 / 11)], 5⟩, ⟨b259, [.int .i64 (wr64 (1 + t256)), .int .i64 x270, .int .i64 x271, .int .i64 t273, .int .i64 t282, .int .i64 x307, .int .i64 x308, .int .i64 x309, .int .i64 x331, .int .i64 x322, .slice (ad a339) y340.length (na339 / 4)], 11⟩, ⟨b222, [.int .i64 0, .int .i64 0, .int .i64 0, .slice (ad a247) y248.length (na247 / 4), .slice (ad a245) y246.length (na245 / 11)], 5⟩, ⟨a304, encL E_u84 y305, na304⟩, ⟨a241, csa241, na241⟩, ⟨a247, encL E_u84 y248, na247⟩, ⟨a245, csa245, na245⟩] : List Own) ++ (Fa241 ++ (Fa245 ++ (Fa339 ++ [])))) := by
                              exact hqf 7 [0, 2, 3, 4, 5, 6, 7, 117, 119, 120, 124] _ _ _ _ (by kernel_rfl) (by kernel_rfl) hg_fd
                            have hg_1f : G [true, true, true, true, true, false, false, false, false, false, false, false, false, false, false, false, false] [(0, .pointer (some ⟨B0, 0, none⟩)), (2, .pointer (some ⟨b222, 0, none⟩)), (3, .pointer (some ⟨b232, 0, none⟩)), (4, .int .i64 (wr64 ((mx (wr64 (1 + t223)) (wr64 (1 + t226))) * 2 ^ (min (Int.toNat (wru64 t229)) 64)))), (5, .int .i64 x240), (6, .pointer (some ⟨b259, 0, none⟩)), (7, .int .i64 x338), (118, .slice (ad a339) y340.length (na339 / 4)), (119, .pointer (some ⟨B0, 0, none⟩)), (120, .int .i64 (wr64 ((mx (wr64 (1 + t223)) (wr64 (1 + t226))) * 2 ^ (min (Int.toNat (wru64 t229)) 64)))), (121, .pointer (some ⟨b259, 0, none⟩))] (([⟨a339, csa339, na339⟩, ⟨B0, [.slice a_m0_0 m0_0.length c_m0_0, .int .i64 x341], 2⟩, ⟨b232, [.int .i64 (wr64 (1 + t223)), .int .i64 (wr64 (1 + t226)), .int .i64 t229, .slice (ad a304) y305.length (na304 / 4), .slice (ad a241) y242.length (na241 / 11)], 5⟩, ⟨b259, [.int .i64 (wr64 (1 + t256)), .int .i64 x270, .int .i64 x271, .int .i64 t273, .int .i64 t282, .int .i64 x307, .int .i64 x308, .int .i64 x309, .int .i64 x331, .int .i64 x322, .slice (ad a339) y340.length (na339 / 4)], 11⟩, ⟨b222, [.int .i64 0, .int .i64 0, .int .i64 0, .slice (ad a247) y248.length (na247 / 4), .slice (ad a245) y246.length (na245 / 11)], 5⟩, ⟨a304, encL E_u84 y305, na304⟩, ⟨a241, csa241, na241⟩, ⟨a247, encL E_u84 y248, na247⟩, ⟨a245, csa245, na245⟩] : List Own) ++ (Fa241 ++ (Fa245 ++ (Fa339 ++ [])))) := by
                              refine hstep [5] _ _ _ (by kernel_rfl) (List.cons_ne_nil _ _) ⟨?_, trivial⟩
                              · show T _ _ _ _ _ _ _ _
                                refine t_v (.ld1 rfl rfl rfl (.at 3 rfl rfl)) ?_
                                exact t_fin [0, 2, 3, 4, 5, 6, 7, 118, 119, 120, 122] hg_3f (by kernel_rfl)
                            have hg_3d : G [true, false, true, true, true, true, false, false, false, false, false, false, false, false, false, false, false] [(0, .pointer (some ⟨B0, 0, none⟩)), (2, .pointer (some ⟨b222, 0, none⟩)), (3, .pointer (some ⟨b232, 0, none⟩)), (4, .int .i64 (wr64 ((mx (wr64 (1 + t223)) (wr64 (1 + t226))) * 2 ^ (min (Int.toNat (wru64 t229)) 64)))), (5, .int .i64 x240), (6, .pointer (some ⟨b259, 0, none⟩)), (7, .int .i64 x338), (117, .pointer (some ⟨b259, 10, none⟩)), (119, .pointer (some ⟨B0, 0, none⟩)), (120, .int .i64 (wr64 ((mx (wr64 (1 + t223)) (wr64 (1 + t226))) * 2 ^ (min (Int.toNat (wru64 t229)) 64)))), (122, .int .i64 (wr64 (1 + t256)))] (([⟨a339, csa339, na339⟩, ⟨B0, [.slice a_m0_0 m0_0.length c_m0_0, .int .i64 x341], 2⟩, ⟨b232, [.int .i64 (wr64 (1 + t223)), .int .i64 (wr64 (1 + t226)), .int .i64 t229, .slice (ad a304) y305.length (na304 / 4), .slice (ad a241) y242.length (na241 / 11)], 5⟩, ⟨b259, [.int .i64 (wr64 (1 + t256)), .int .i64 x270, .int .i64 x271, .int .i64 t273, .int .i64 t282, .int .i64 x307, .int .i64 x308, .int .i64 x309, .int .i64 x331, .int .i64 x322, .slice (ad a339) y340.length (na339 / 4)], 11⟩, ⟨b222, [.int .i64 0, .int .i64 0, .int .i64 0, .slice (ad a247) y248.length (na247 / 4), .slice (ad a245) y246.length (na245 / 11)], 5⟩, ⟨a304, encL E_u84 y305, na304⟩, ⟨a241, csa241, na241⟩, ⟨a247, encL E_u84 y248, na247⟩, ⟨a245, csa245, na245⟩] : List Own) ++ (Fa241 ++ (Fa245 ++ (Fa339 ++ [])))) := by
                              refine hstep [1, 6] _ _ _ (by kernel_rfl) (List.cons_ne_nil _ _) ⟨?_, ?_, trivial⟩
                              · show T _ _ _ _ _ _ _ _
                                refine t_v (.ld1 rfl rfl rfl (.at 3 rfl rfl)) ?_
                                exact t_fin [0, 2, 3, 4, 5, 6, 7, 118, 119, 120, 122] hg_3f (by kernel_rfl)
                              · show T _ _ _ _ _ _ _ _
                                refine t_v (dv_quiet rfl (congrArg (fun t => some (Value.bool t)) c343b)) ?_
                                exact t_fin [0, 2, 3, 4, 5, 6, 7, 117, 119, 120, 123] hg_7d (by kernel_rfl)
                            have hg_1d : G [true, false, true, true, true, false, false, false, false, false, false, false, false, false, false, false, false] [(0, .pointer (some ⟨B0, 0, none⟩)), (2, .pointer (some ⟨b222, 0, none⟩)), (3, .pointer (some ⟨b232, 0, none⟩)), (4, .int .i64 (wr64 ((mx (wr64 (1 + t223)) (wr64 (1 + t226))) * 2 ^ (min (Int.toNat (wru64 t229)) 64)))), (5, .int .i64 x240), (6, .pointer (some ⟨b259, 0, none⟩)), (7, .int .i64 x338), (117, .pointer (some ⟨b259, 10, none⟩)), (119, .pointer (some ⟨B0, 0, none⟩)), (120, .int .i64 (wr64 ((mx (wr64 (1 + t223)) (wr64 (1 + t226))) * 2 ^ (min (Int.toNat (wru64 t229)) 64)))), (121, .pointer (some ⟨b259, 0, none⟩))] (([⟨a339, csa339, na339⟩, ⟨B0, [.slice a_m0_0 m0_0.length c_m0_0, .int .i64 x341], 2⟩, ⟨b232, [.int .i64 (wr64 (1 + t223)), .int .i64 (wr64 (1 + t226)), .int .i64 t229, .slice (ad a304) y305.length (na304 / 4), .slice (ad a241) y242.length (na241 / 11)], 5⟩, ⟨b259, [.int .i64 (wr64 (1 + t256)), .int .i64 x270, .int .i64 x271, .int .i64 t273, .int .i64 t282, .int .i64 x307, .int .i64 x308, .int .i64 x309, .int .i64 x331, .int .i64 x322, .slice (ad a339) y340.length (na339 / 4)], 11⟩, ⟨b222, [.int .i64 0, .int .i64 0, .int .i64 0, .slice (ad a247) y248.length (na247 / 4), .slice (ad a245) y246.length (na245 / 11)], 5⟩, ⟨a304, encL E_u84 y305, na304⟩, ⟨a241, csa241, na241⟩, ⟨a247, encL E_u84 y248, na247⟩, ⟨a245, csa245, na245⟩] : List Own) ++ (Fa241 ++ (Fa245 ++ (Fa339 ++ [])))) := by
                              refine hstep [1, 5] _ _ _ (by kernel_rfl) (List.cons_ne_nil _ _) ⟨?_, ?_, trivial⟩
                              · show T _ _ _ _ _ _ _ _
                                refine t_v (.ld1 rfl rfl rfl (.at 3 rfl rfl)) ?_
                                exact t_fin [0, 2, 3, 4, 5, 6, 7, 118, 119, 120, 121] hg_1f (by kernel_rfl)
                              · show T _ _ _ _ _ _ _ _
                                refine t_v (.ld1 rfl rfl rfl (.at 3 rfl rfl)) ?_
                                exact t_fin [0, 2, 3, 4, 5, 6, 7, 117, 119, 120, 122] hg_3d (by kernel_rfl)
                            have hg_d : G [true, false, true, true, false, false, false, false, false, false, false, false, false, false, false, false, false] [(0, .pointer (some ⟨B0, 0, none⟩)), (2, .pointer (some ⟨b222, 0, none⟩)), (3, .pointer (some ⟨b232, 0, none⟩)), (4, .int .i64 (wr64 ((mx (wr64 (1 + t223)) (wr64 (1 + t226))) * 2 ^ (min (Int.toNat (wru64 t229)) 64)))), (5, .int .i64 x240), (6, .pointer (some ⟨b259, 0, none⟩)), (7, .int .i64 x338), (117, .pointer (some ⟨b259, 10, none⟩)), (119, .pointer (some ⟨B0, 0, none⟩)), (120, .int .i64 (wr64 ((mx (wr64 (1 + t223)) (wr64 (1 + t226))) * 2 ^ (min (Int.toNat (wru64 t229)) 64))))] (([⟨a339, csa339, na339⟩, ⟨B0, [.slice a_m0_0 m0_0.length c_m0_0, .int .i64 x341], 2⟩, ⟨b232, [.int .i64 (wr64 (1 + t223)), .int .i64 (wr64 (1 + t226)), .int .i64 t229, .slice (ad a304) y305.length (na304 / 4), .slice (ad a241) y242.length (na241 / 11)], 5⟩, ⟨b259, [.int .i64 (wr64 (1 + t256)), .int .i64 x270, .int .i64 x271, .int .i64 t273, .int .i64 t282, .int .i64 x307, .int .i64 x308, .int .i64 x309, .int .i64 x331, .int .i64 x322, .slice (ad a339) y340.length (na339 / 4)], 11⟩, ⟨b222, [.int .i64 0, .int .i64 0, .int .i64 0, .slice (ad a247) y248.length (na247 / 4), .slice (ad a245) y246.length (na245 / 11)], 5⟩, ⟨a304, encL E_u84 y305, na304⟩, ⟨a241, csa241, na241⟩, ⟨a247, encL E_u84 y248, na247⟩, ⟨a245, csa245, na245⟩] : List Own) ++ (Fa241 ++ (Fa245 ++ (Fa339 ++ [])))) := by
                              exact hqf 4 [0, 2, 3, 4, 5, 6, 7, 117, 119, 120, 121] _ _ _ _ (by kernel_rfl) (by kernel_rfl) hg_1d
                            have hg_5 : G [true, false, true, false, false, false, false, false, false, false, false, false, false, false, false, false, false] [(0, .pointer (some ⟨B0, 0, none⟩)), (2, .pointer (some ⟨b222, 0, none⟩)), (3, .pointer (some ⟨b232, 0, none⟩)), (4, .int .i64 (wr64 ((mx (wr64 (1 + t223)) (wr64 (1 + t226))) * 2 ^ (min (Int.toNat (wru64 t229)) 64)))), (5, .int .i64 x240), (6, .pointer (some ⟨b259, 0, none⟩)), (7, .int .i64 x338), (117, .pointer (some ⟨b259, 10, none⟩)), (119, .pointer (some ⟨B0, 0, none⟩))] (([⟨a339, csa339, na339⟩, ⟨B0, [.slice a_m0_0 m0_0.length c_m0_0, .int .i64 x341], 2⟩, ⟨b232, [.int .i64 (wr64 (1 + t223)), .int .i64 (wr64 (1 + t226)), .int .i64 t229, .slice (ad a304) y305.length (na304 / 4), .slice (ad a241) y242.length (na241 / 11)], 5⟩, ⟨b259, [.int .i64 (wr64 (1 + t256)), .int .i64 x270, .int .i64 x271, .int .i64 t273, .int .i64 t282, .int .i64 x307, .int .i64 x308, .int .i64 x309, .int .i64 x331, .int .i64 x322, .slice (ad a339) y340.length (na339 / 4)], 11⟩, ⟨b222, [.int .i64 0, .int .i64 0, .int .i64 0, .slice (ad a247) y248.length (na247 / 4), .slice (ad a245) y246.length (na245 / 11)], 5⟩, ⟨a304, encL E_u84 y305, na304⟩, ⟨a241, csa241, na241⟩, ⟨a247, encL E_u84 y248, na247⟩, ⟨a245, csa245, na245⟩] : List Own) ++ (Fa241 ++ (Fa245 ++ (Fa339 ++ [])))) := by
                              exact hqf 3 [0, 2, 3, 4, 5, 6, 7, 117, 119, 120] _ _ _ _ (by kernel_rfl) (by kernel_rfl) hg_d
                            have hg_1 : G [true, false, false, false, false, false, false, false, false, false, false, false, false, false, false, false, false] [(0, .pointer (some ⟨B0, 0, none⟩)), (2, .pointer (some ⟨b222, 0, none⟩)), (3, .pointer (some ⟨b232, 0, none⟩)), (4, .int .i64 (wr64 ((mx (wr64 (1 + t223)) (wr64 (1 + t226))) * 2 ^ (min (Int.toNat (wru64 t229)) 64)))), (5, .int .i64 x240), (6, .pointer (some ⟨b259, 0, none⟩)), (7, .int .i64 x338), (117, .pointer (some ⟨b259, 10, none⟩))] (([⟨a339, csa339, na339⟩, ⟨B0, [.slice a_m0_0 m0_0.length c_m0_0, .int .i64 x341], 2⟩, ⟨b232, [.int .i64 (wr64 (1 + t223)), .int .i64 (wr64 (1 + t226)), .int .i64 t229, .slice (ad a304) y305.length (na304 / 4), .slice (ad a241) y242.length (na241 / 11)], 5⟩, ⟨b259, [.int .i64 (wr64 (1 + t256)), .int .i64 x270, .int .i64 x271, .int .i64 t273, .int .i64 t282, .int .i64 x307, .int .i64 x308, .int .i64 x309, .int .i64 x331, .int .i64 x322, .slice (ad a339) y340.length (na339 / 4)], 11⟩, ⟨b222, [.int .i64 0, .int .i64 0, .int .i64 0, .slice (ad a247) y248.length (na247 / 4), .slice (ad a245) y246.length (na245 / 11)], 5⟩, ⟨a304, encL E_u84 y305, na304⟩, ⟨a241, csa241, na241⟩, ⟨a247, encL E_u84 y248, na247⟩, ⟨a245, csa245, na245⟩] : List Own) ++ (Fa241 ++ (Fa245 ++ (Fa339 ++ [])))) := by
                              exact hqf 2 [0, 2, 3, 4, 5, 6, 7, 117, 119] _ _ _ _ (by kernel_rfl) (by kernel_rfl) hg_5
                            have hg_0 : G [false, false, false, false, false, false, false, false, false, false, false, false, false, false, false, false, false] [(0, .pointer (some ⟨B0, 0, none⟩)), (2, .pointer (some ⟨b222, 0, none⟩)), (3, .pointer (some ⟨b232, 0, none⟩)), (4, .int .i64 (wr64 ((mx (wr64 (1 + t223)) (wr64 (1 + t226))) * 2 ^ (min (Int.toNat (wru64 t229)) 64)))), (5, .int .i64 x240), (6, .pointer (some ⟨b259, 0, none⟩)), (7, .int .i64 x338)] (([⟨a339, csa339, na339⟩, ⟨B0, [.slice a_m0_0 m0_0.length c_m0_0, .int .i64 x341], 2⟩, ⟨b232, [.int .i64 (wr64 (1 + t223)), .int .i64 (wr64 (1 + t226)), .int .i64 t229, .slice (ad a304) y305.length (na304 / 4), .slice (ad a241) y242.length (na241 / 11)], 5⟩, ⟨b259, [.int .i64 (wr64 (1 + t256)), .int .i64 x270, .int .i64 x271, .int .i64 t273, .int .i64 t282, .int .i64 x307, .int .i64 x308, .int .i64 x309, .int .i64 x331, .int .i64 x322, .slice (ad a339) y340.length (na339 / 4)], 11⟩, ⟨b222, [.int .i64 0, .int .i64 0, .int .i64 0, .slice (ad a247) y248.length (na247 / 4), .slice (ad a245) y246.length (na245 / 11)], 5⟩, ⟨a304, encL E_u84 y305, na304⟩, ⟨a241, csa241, na241⟩, ⟨a247, encL E_u84 y248, na247⟩, ⟨a245, csa245, na245⟩] : List Own) ++ (Fa241 ++ (Fa245 ++ (Fa339 ++ [])))) := by
                              exact hqf 0 [0, 2, 3, 4, 5, 6, 7, 117] _ _ _ _ (by kernel_rfl) (by kernel_rfl) hg_1
                            exact hg_0
                        · rw [if_neg c342] at e333
                          have c342b : (decide (x338 ≥ 0)) = false := decide_eq_false c342
                          refine t_qz 1 [0, 2, 3, 4, 5, 6, 7, 113] (σ' := [(0, .pointer (some ⟨B0, 0, none⟩)), (2, .pointer (some ⟨b222, 0, none⟩)), (3, .pointer (some ⟨b232, 0, none⟩)), (4, .int .i64 (wr64 ((mx (wr64 (1 + t223)) (wr64 (1 + t226))) * 2 ^ (min (Int.toNat (wru64 t229)) 64)))), (5, .int .i64 x240), (6, .pointer (some ⟨b259, 0, none⟩)), (7, .int .i64 x338), (113, .int .i64 x338)]) (by kernel_rfl) ?_
                          refine t_v (dv_quiet rfl (congrArg (fun t => some (Value.bool t)) c342b)) ?_
                          refine t_keep [0, 2, 3, 4, 5, 6, 7, 114] (σ' := [(0, .pointer (some ⟨B0, 0, none⟩)), (2, .pointer (some ⟨b222, 0, none⟩)), (3, .pointer (some ⟨b232, 0, none⟩)), (4, .int .i64 (wr64 ((mx (wr64 (1 + t223)) (wr64 (1 + t226))) * 2 ^ (min (Int.toNat (wru64 t229)) 64)))), (5, .int .i64 x240), (6, .pointer (some ⟨b259, 0, none⟩)), (7, .int .i64 x338), (114, .bool false)]) (by kernel_rfl) ?_
                          refine t_end ?_
                          show W _ _ _ _ _ _ _
                          refine w_cond rfl (fun c_ => by cases c_) (fun _ => ?_)
                          show W _ _ _ _ _ _ _
                          refine w_exit ?_
                          simp only [Option.some.injEq, Prod.mk.injEq] at e333
                          obtain ⟨rfl, rfl⟩ := e333
                          exact ⟨(([⟨b232, [.int .i64 (wr64 (1 + t223)), .int .i64 (wr64 (1 + t226)), .int .i64 t229, .slice (ad a304) y305.length (na304 / 4), .slice (ad a241) y242.length (na241 / 11)], 5⟩, ⟨B0, [.slice a_m0_0 m0_0.length c_m0_0, .int .i64 x341], 2⟩, ⟨b259, [.int .i64 (wr64 (1 + t256)), .int .i64 x270, .int .i64 x271, .int .i64 t273, .int .i64 t282, .int .i64 x307, .int .i64 x308, .int .i64 x309, .int .i64 x331, .int .i64 x322, .slice (ad a339) y340.length (na339 / 4)], 11⟩, ⟨b222, [.int .i64 0, .int .i64 0, .int .i64 0, .slice (ad a247) y248.length (na247 / 4), .slice (ad a245) y246.length (na245 / 11)], 5⟩, ⟨a304, encL E_u84 y305, na304⟩, ⟨a241, csa241, na241⟩, ⟨a339, csa339, na339⟩, ⟨a247, encL E_u84 y248, na247⟩, ⟨a245, csa245, na245⟩] : List Own) ++ (Fa241 ++ (Fa245 ++ ((Fa339 ++ []) ++ [])))), S, VS.treeA (.a (.l ([⟨a339, csa339, na339⟩, ⟨B0, [.slice a_m0_0 m0_0.length c_m0_0, .int .i64 x341], 2⟩, ⟨b232, [.int .i64 (wr64 (1 + t223)), .int .i64 (wr64 (1 + t226)), .int .i64 t229, .slice (ad a304) y305.length (na304 / 4), .slice (ad a241) y242.length (na241 / 11)], 5⟩, ⟨b259, [.int .i64 (wr64 (1 + t256)), .int .i64 x270, .int .i64 x271, .int .i64 t273, .int .i64 t282, .int .i64 x307, .int .i64 x308, .int .i64 x309, .int .i64 x331, .int .i64 x322, .slice (ad a339) y340.length (na339 / 4)], 11⟩, ⟨b222, [.int .i64 0, .int .i64 0, .int .i64 0, .slice (ad a247) y248.length (na247 / 4), .slice (ad a245) y246.length (na245 / 11)], 5⟩, ⟨a304, encL E_u84 y305, na304⟩, ⟨a241, csa241, na241⟩, ⟨a247, encL E_u84 y248, na247⟩, ⟨a245, csa245, na245⟩] : List Own)) (.a (.f Fa241) (.a (.f Fa245) (.a (.f Fa339) (.l []))))) (.a (.l ([⟨b232, [.int .i64 (wr64 (1 + t223)), .int .i64 (wr64 (1 + t226)), .int .i64 t229, .slice (ad a304) y305.length (na304 / 4), .slice (ad a241) y242.length (na241 / 11)], 5⟩, ⟨B0, [.slice a_m0_0 m0_0.length c_m0_0, .int .i64 x341], 2⟩, ⟨b259, [.int .i64 (wr64 (1 + t256)), .int .i64 x270, .int .i64 x271, .int .i64 t273, .int .i64 t282, .int .i64 x307, .int .i64 x308, .int .i64 x309, .int .i64 x331, .int .i64 x322, .slice (ad a339) y340.length (na339 / 4)], 11⟩, ⟨b222, [.int .i64 0, .int .i64 0, .int .i64 0, .slice (ad a247) y248.length (na247 / 4), .slice (ad a245) y246.length (na245 / 11)], 5⟩, ⟨a304, encL E_u84 y305, na304⟩, ⟨a241, csa241, na241⟩, ⟨a339, csa339, na339⟩, ⟨a247, encL E_u84 y248, na247⟩, ⟨a245, csa245, na245⟩] : List Own)) (.a (.f Fa241) (.a (.f Fa245) (.a (.a (.f Fa339) (.l [])) (.l []))))) [2, 1, 1, 1, 1, 1, 0, 0, 0, 0, 0, 0] (by kernel_rfl), a339, na339, csa339, (Fa339 ++ []), by kernel_rfl, rfl, rfl, RL.mono hra339 (rd_sub seg_hd)⟩
                    · rintro σ_ H_ S_ ⟨a371, na371, csa371, Fa371, rfl, rfl, rfl, hra371⟩
                      refine w_reg fun all => ?_
                      refine t_qz 1 [0, 2, 3, 4, 5, 6, 133] (σ' := [(0, .pointer (some ⟨B0, 0, none⟩)), (2, .pointer (some ⟨b222, 0, none⟩)), (3, .pointer (some ⟨b232, 0, none⟩)), (4, .int .i64 (wr64 ((mx (wr64 (1 + t223)) (wr64 (1 + t226))) * 2 ^ (min (Int.toNat (wru64 t229)) 64)))), (5, .int .i64 x240), (6, .pointer (some ⟨b259, 0, none⟩)), (133, .pointer (some ⟨b232, 4, none⟩))]) (by kernel_rfl) ?_
                      refine t_v (.ld1 rfl rfl rfl (.at 0 rfl rfl)) ?_
                      refine t_v (.ldn rfl rfl rfl (.at 2 rfl rfl)) ?_
                      refine t_a (dv_bsl (cs := [.int .i64 (wr64 (1 + t256)), .int .i64 x270, .int .i64 x271, .int .i64 t273, .int .i64 t282, .int .i64 x307, .int .i64 x308, .int .i64 x309, .int .i64 x331, .int .i64 x322, .slice (ad a371) y372.length (na371 / 4)]) rfl rfl (by kernel_rfl)) fun b373 fb373 sb373 => ?_
                      obtain ⟨y374, hl375, e254⟩ := bind_of e254
                      refine t_someB 7 rfl fun hba371_ => ?_
                      refine t_appN (R := rdOf (([⟨a371, csa371, na371⟩] : List Own) ++ (Fa241 ++ (Fa371 ++ []))) S) (E := N_1) (L := y242) (X := ([(wr64 (1 + t256), x270, x271, t273, t282, x307, x308, x309, x331, x322, y372)] : List (Int × Int × Int × Int × Int × Int × Int × Int × Int × Int × List (Int × Int × List (Int × Int × Int × Int × Int × Int × Int) × Bool)))) (cs := csa241) (ds := [.int .i64 (wr64 (1 + t256)), .int .i64 x270, .int .i64 x271, .int .i64 t273, .int .i64 t282, .int .i64 x307, .int .i64 x308, .int .i64 x309, .int .i64 x331, .int .i64 x322, .slice (ad a371) y372.length (na371 / 4)]) (F := (([⟨b373, [.int .i64 (wr64 (1 + t256)), .int .i64 x270, .int .i64 x271, .int .i64 t273, .int .i64 t282, .int .i64 x307, .int .i64 x308, .int .i64 x309, .int .i64 x331, .int .i64 x322, .slice (ad a371) y372.length (na371 / 4)], 11⟩, ⟨b232, [.int .i64 (wr64 (1 + t223)), .int .i64 (wr64 (1 + t226)), .int .i64 t229, .slice (ad a304) y305.length (na304 / 4), .slice (ad a241) y242.length (na241 / 11)], 5⟩, ⟨B0, [.slice a_m0_0 m0_0.length c_m0_0, .int .i64 x370], 2⟩, ⟨b259, [.int .i64 (wr64 (1 + t256)), .int .i64 x270, .int .i64 x271, .int .i64 t273, .int .i64 t282, .int .i64 x307, .int .i64 x308, .int .i64 x309, .int .i64 x331, .int .i64 x322, .slice (ad a371) y372.length (na371 / 4)], 11⟩, ⟨b222, [.int .i64 0, .int .i64 0, .int .i64 0, .slice (ad a247) y248.length (na247 / 4), .slice (ad a245) y246.length (na245 / 11)], 5⟩, ⟨a304, encL E_u84 y305, na304⟩, ⟨a371, csa371, na371⟩, ⟨a247, encL E_u84 y248, na247⟩, ⟨a245, csa245, na245⟩] : List Own) ++ (Fa241 ++ (Fa245 ++ (Fa371 ++ []))))) rfl rfl rfl rfl (sel_perm (is := [6]) (by kernel_rfl)) (RL.mono hra241 (rd_sub (sub_app (seg_in 1 (X := (Fa241 ++ (Fa371 ++ []))) rfl seg_hd) sub_nil))) (RL.one (E := N_1) ⟨_, _, rfl, SlN.own (RL.mono hra371 (rd_sub (sub_app (seg_in 1 (X := (Fa241 ++ (Fa371 ++ []))) rfl (seg_tl seg_hd)) sub_nil))) hba371_ (by decide) (fun _ hk_ => Or.inl ⟨_, mem_at 0 rfl, hk_, rfl⟩)⟩) rfl (by decide) (.at 0 rfl (by kernel_rfl)) rfl (by decide) (by decide) rfl hl375 fun a376 na376 csa376 hra376 => ?_
                      refine t_qz 1 [0, 2, 3, 4, 5, 137, 138] (σ' := [(0, .pointer (some ⟨B0, 0, none⟩)), (2, .pointer (some ⟨b222, 0, none⟩)), (3, .pointer (some ⟨b232, 0, none⟩)), (4, .int .i64 (wr64 ((mx (wr64 (1 + t223)) (wr64 (1 + t226))) * 2 ^ (min (Int.toNat (wru64 t229)) 64)))), (5, .int .i64 x240), (137, .slice (ad a376) y374.length (na376 / 11)), (138, .pointer (some ⟨b232, 4, none⟩))]) (by kernel_rfl) ?_
                      refine t_sti 2 (cs := [.int .i64 (wr64 (1 + t223)), .int .i64 (wr64 (1 + t226)), .int .i64 t229, .slice (ad a304) y305.length (na304 / 4), .slice (ad a376) y374.length (na376 / 11)]) rfl rfl rfl rfl rfl rfl rfl rfl rfl ?_
                      refine t_keep [0, 2, 3, 4, 5] (σ' := [(0, .pointer (some ⟨B0, 0, none⟩)), (2, .pointer (some ⟨b222, 0, none⟩)), (3, .pointer (some ⟨b232, 0, none⟩)), (4, .int .i64 (wr64 ((mx (wr64 (1 + t223)) (wr64 (1 + t226))) * 2 ^ (min (Int.toNat (wru64 t229)) 64)))), (5, .int .i64 x240)]) (by kernel_rfl) ?_
                      refine t_end ?_
                      simp only [Option.some.injEq, Prod.mk.injEq] at e254
                      obtain ⟨rfl, rfl, rfl⟩ := e254
                      exact ⟨(([⟨B0, [.slice a_m0_0 m0_0.length c_m0_0, .int .i64 x370], 2⟩, ⟨b232, [.int .i64 (wr64 (1 + t223)), .int .i64 (wr64 (1 + t226)), .int .i64 t229, .slice (ad a304) y305.length (na304 / 4), .slice (ad a376) y374.length (na376 / 11)], 5⟩, ⟨b222, [.int .i64 0, .int .i64 0, .int .i64 0, .slice (ad a247) y248.length (na247 / 4), .slice (ad a245) y246.length (na245 / 11)], 5⟩, ⟨a245, csa245, na245⟩, ⟨a247, encL E_u84 y248, na247⟩, ⟨a304, encL E_u84 y305, na304⟩, ⟨a376, csa376, na376⟩] : List Own) ++ (Fa245 ++ ((([⟨a371, csa371, na371⟩] : List Own) ++ (Fa241 ++ (Fa371 ++ []))) ++ []))), S, VS.treeA (.a (.l ([⟨a376, csa376, na376⟩, ⟨b373, [.int .i64 (wr64 (1 + t256)), .int .i64 x270, .int .i64 x271, .int .i64 t273, .int .i64 t282, .int .i64 x307, .int .i64 x308, .int .i64 x309, .int .i64 x331, .int .i64 x322, .slice (ad a371) y372.length (na371 / 4)], 11⟩, ⟨b232, [.int .i64 (wr64 (1 + t223)), .int .i64 (wr64 (1 + t226)), .int .i64 t229, .slice (ad a304) y305.length (na304 / 4), .slice (ad a376) y374.length (na376 / 11)], 5⟩, ⟨B0, [.slice a_m0_0 m0_0.length c_m0_0, .int .i64 x370], 2⟩, ⟨b259, [.int .i64 (wr64 (1 + t256)), .int .i64 x270, .int .i64 x271, .int .i64 t273, .int .i64 t282, .int .i64 x307, .int .i64 x308, .int .i64 x309, .int .i64 x331, .int .i64 x322, .slice (ad a371) y372.length (na371 / 4)], 11⟩, ⟨b222, [.int .i64 0, .int .i64 0, .int .i64 0, .slice (ad a247) y248.length (na247 / 4), .slice (ad a245) y246.length (na245 / 11)], 5⟩, ⟨a304, encL E_u84 y305, na304⟩, ⟨a371, csa371, na371⟩, ⟨a247, encL E_u84 y248, na247⟩, ⟨a245, csa245, na245⟩] : List Own)) (.a (.f Fa241) (.a (.f Fa245) (.a (.f Fa371) (.l []))))) (.a (.l ([⟨B0, [.slice a_m0_0 m0_0.length c_m0_0, .int .i64 x370], 2⟩, ⟨b232, [.int .i64 (wr64 (1 + t223)), .int .i64 (wr64 (1 + t226)), .int .i64 t229, .slice (ad a304) y305.length (na304 / 4), .slice (ad a376) y374.length (na376 / 11)], 5⟩, ⟨b222, [.int .i64 0, .int .i64 0, .int .i64 0, .slice (ad a247) y248.length (na247 / 4), .slice (ad a245) y246.length (na245 / 11)], 5⟩, ⟨a245, csa245, na245⟩, ⟨a247, encL E_u84 y248, na247⟩, ⟨a304, encL E_u84 y305, na304⟩, ⟨a376, csa376, na376⟩] : List Own)) (.a (.f Fa245) (.a (.a (.l ([⟨a371, csa371, na371⟩] : List Own)) (.a (.f Fa241) (.a (.f Fa371) (.l [])))) (.l [])))) [3, 2, 3, 6, 5, 3, 0, 4, 2, 2, 2] (by kernel_rfl), a304, na304, a376, na376, csa376, (([⟨a371, csa371, na371⟩] : List Own) ++ (Fa241 ++ (Fa371 ++ []))), by kernel_rfl, rfl, rfl, RL.mono hra376 (rd_sub seg_hd)⟩
          · rintro σ_ H_ S_ ⟨a378, na378, a380, na380, csa380, Fa380, rfl, rfl, rfl, hra380⟩
            refine w_reg fun all => ?_
            refine t_qz 3 [0, 2, 3, 4, 5] (σ' := [(0, .pointer (some ⟨B0, 0, none⟩)), (2, .pointer (some ⟨b222, 0, none⟩)), (3, .pointer (some ⟨b232, 0, none⟩)), (4, .int .i64 (wr64 ((mx (wr64 (1 + t223)) (wr64 (1 + t226))) * 2 ^ (min (Int.toNat (wru64 t229)) 64)))), (5, .int .i64 (wr64 (x240 - 1)))]) (by kernel_rfl) ?_
            refine t_end ?_
            exact ⟨k_, Nat.lt_succ_self _, [(0, .pointer (some ⟨B0, 0, none⟩)), (2, .pointer (some ⟨b222, 0, none⟩)), (3, .pointer (some ⟨b232, 0, none⟩)), (4, .int .i64 (wr64 ((mx (wr64 (1 + t223)) (wr64 (1 + t226))) * 2 ^ (min (Int.toNat (wru64 t229)) 64)))), (5, .int .i64 (wr64 (x240 - 1)))], (([⟨a380, csa380, na380⟩, ⟨a378, encL E_u84 y379, na378⟩, ⟨a245, csa245, na245⟩, ⟨a247, encL E_u84 y248, na247⟩, ⟨B0, [.slice a_m0_0 m0_0.length c_m0_0, .int .i64 x377], 2⟩, ⟨b232, [.int .i64 (wr64 (1 + t223)), .int .i64 (wr64 (1 + t226)), .int .i64 t229, .slice (ad a378) y379.length (na378 / 4), .slice (ad a380) y381.length (na380 / 11)], 5⟩, ⟨b222, [.int .i64 0, .int .i64 0, .int .i64 0, .slice (ad a247) y248.length (na247 / 4), .slice (ad a245) y246.length (na245 / 11)], 5⟩] : List Own) ++ ((Fa380 ++ []) ++ ((Fa245 ++ []) ++ []))), S, keep_sub [0, 2, 3, 4, 5] (by kernel_rfl), VS.treeA (.a (.l ([⟨B0, [.slice a_m0_0 m0_0.length c_m0_0, .int .i64 x377], 2⟩, ⟨b232, [.int .i64 (wr64 (1 + t223)), .int .i64 (wr64 (1 + t226)), .int .i64 t229, .slice (ad a378) y379.length (na378 / 4), .slice (ad a380) y381.length (na380 / 11)], 5⟩, ⟨b222, [.int .i64 0, .int .i64 0, .int .i64 0, .slice (ad a247) y248.length (na247 / 4), .slice (ad a245) y246.length (na245 / 11)], 5⟩, ⟨a245, csa245, na245⟩, ⟨a247, encL E_u84 y248, na247⟩, ⟨a378, encL E_u84 y379, na378⟩, ⟨a380, csa380, na380⟩] : List Own)) (.a (.f Fa245) (.a (.f Fa380) (.l [])))) (.a (.l ([⟨a380, csa380, na380⟩, ⟨a378, encL E_u84 y379, na378⟩, ⟨a245, csa245, na245⟩, ⟨a247, encL E_u84 y248, na247⟩, ⟨B0, [.slice a_m0_0 m0_0.length c_m0_0, .int .i64 x377], 2⟩, ⟨b232, [.int .i64 (wr64 (1 + t223)), .int .i64 (wr64 (1 + t226)), .int .i64 t229, .slice (ad a378) y379.length (na378 / 4), .slice (ad a380) y381.length (na380 / 11)], 5⟩, ⟨b222, [.int .i64 0, .int .i64 0, .int .i64 0, .slice (ad a247) y248.length (na247 / 4), .slice (ad a245) y246.length (na245 / 11)], 5⟩] : List Own)) (.a (.a (.f Fa380) (.l [])) (.a (.a (.f Fa245) (.l [])) (.l [])))) [6, 5, 3, 3, 0, 0, 0, 1, 0] (by kernel_rfl), wr64 (x240 - 1), y381, y379, y246, y248, x377, a380, na380, csa380, (Fa380 ++ []), a378, na378, a245, na245, csa245, (Fa245 ++ []), a247, na247, rfl, rfl, rfl, e235, RL.mono hra380 (rd_sub seg_hd), RL.mono hra245 (rd_sub seg_hd)⟩
        | false =>
          rw [if_neg (by decide)] at e235
          refine t_qz 2 [0, 2, 3, 4, 5, 30, 31] (σ' := [(0, .pointer (some ⟨B0, 0, none⟩)), (2, .pointer (some ⟨b222, 0, none⟩)), (3, .pointer (some ⟨b232, 0, none⟩)), (4, .int .i64 (wr64 ((mx (wr64 (1 + t223)) (wr64 (1 + t226))) * 2 ^ (min (Int.toNat (wru64 t229)) 64)))), (5, .int .i64 x240), (30, .bool true), (31, .pointer (some ⟨B0, 0, none⟩))]) (by kernel_rfl) ?_
          refine t_v (.callr (vs := [.pointer (some ⟨B0, 0, none⟩)]) (A := ([⟨B0, [.slice a_m0_0 m0_0.length c_m0_0, .int .i64 x249], 2⟩] : List Own)) (F0 := (([⟨a241, csa241, na241⟩, ⟨a243, encL E_u84 y244, na243⟩, ⟨a245, csa245, na245⟩, ⟨a247, encL E_u84 y248, na247⟩, ⟨b232, [.int .i64 (wr64 (1 + t223)), .int .i64 (wr64 (1 + t226)), .int .i64 t229, .slice (ad a243) y244.length (na243 / 4), .slice (ad a241) y242.length (na241 / 11)], 5⟩, ⟨b222, [.int .i64 0, .int .i64 0, .int .i64 0, .slice (ad a247) y248.length (na247 / 4), .slice (ad a245) y246.length (na245 / 11)], 5⟩] : List Own) ++ (Fa241 ++ (Fa245 ++ [])))) rfl rfl (by kernel_rfl) (sel_perm (is := [4]) (by kernel_rfl)) (glyphicmake_Seq_more_v1.ok hE_ h_m0_0 h252)) ?_
          refine t_qz 1 [0, 2, 3, 4, 5, 33] (σ' := [(0, .pointer (some ⟨B0, 0, none⟩)), (2, .pointer (some ⟨b222, 0, none⟩)), (3, .pointer (some ⟨b232, 0, none⟩)), (4, .int .i64 (wr64 ((mx (wr64 (1 + t223)) (wr64 (1 + t226))) * 2 ^ (min (Int.toNat (wru64 t229)) 64)))), (5, .int .i64 x240), (33, .bool false)]) (by kernel_rfl) ?_
          refine t_end ?_
          show W _ _ _ _ _ _ _
          refine w_cond rfl (fun c_ => by cases c_) (fun _ => ?_)
          show W _ _ _ _ _ _ _
          refine w_exit ?_
          simp only [Option.some.injEq, Prod.mk.injEq] at e235
          obtain ⟨rfl, rfl, rfl, rfl, rfl⟩ := e235
          exact ⟨(([⟨b232, [.int .i64 (wr64 (1 + t223)), .int .i64 (wr64 (1 + t226)), .int .i64 t229, .slice (ad a243) y244.length (na243 / 4), .slice (ad a241) y242.length (na241 / 11)], 5⟩, ⟨B0, [.slice a_m0_0 m0_0.length c_m0_0, .int .i64 x249], 2⟩, ⟨b222, [.int .i64 0, .int .i64 0, .int .i64 0, .slice (ad a247) y248.length (na247 / 4), .slice (ad a245) y246.length (na245 / 11)], 5⟩, ⟨a243, encL E_u84 y244, na243⟩, ⟨a241, csa241, na241⟩, ⟨a247, encL E_u84 y248, na247⟩, ⟨a245, csa245, na245⟩] : List Own) ++ ((Fa241 ++ []) ++ ((Fa245 ++ []) ++ []))), S, VS.treeA (.a (.l ([⟨a241, csa241, na241⟩, ⟨a243, encL E_u84 y244, na243⟩, ⟨a245, csa245, na245⟩, ⟨a247, encL E_u84 y248, na247⟩, ⟨B0, [.slice a_m0_0 m0_0.length c_m0_0, .int .i64 x249], 2⟩, ⟨b232, [.int .i64 (wr64 (1 + t223)), .int .i64 (wr64 (1 + t226)), .int .i64 t229, .slice (ad a243) y244.length (na243 / 4), .slice (ad a241) y242.length (na241 / 11)], 5⟩, ⟨b222, [.int .i64 0, .int .i64 0, .int .i64 0, .slice (ad a247) y248.length (na247 / 4), .slice (ad a245) y246.length (na245 / 11)], 5⟩] : List Own)) (.a (.f Fa241) (.a (.f Fa245) (.l [])))) (.a (.l ([⟨b232, [.int .i64 (wr64 (1 + t223)), .int .i64 (wr64 (1 + t226)), .int .i64 t229, .slice (ad a243) y244.length (na243 / 4), .slice (ad a241) y242.length (na241 / 11)], 5⟩, ⟨B0, [.slice a_m0_0 m0_0.length c_m0_0, .int .i64 x249], 2⟩, ⟨b222, [.int .i64 0, .int .i64 0, .int .i64 0, .slice (ad a247) y248.length (na247 / 4), .slice (ad a245) y246.length (na245 / 11)], 5⟩, ⟨a243, encL E_u84 y244, na243⟩, ⟨a241, csa241, na241⟩, ⟨a247, encL E_u84 y248, na247⟩, ⟨a245, csa245, na245⟩] : List Own)) (.a (.a (.f Fa241) (.l [])) (.a (.a (.f Fa245) (.l [])) (.l [])))) [5, 4, 4, 1, 0, 1, 0, 0, 0] (by kernel_rfl), a243, na243, a241, na241, csa241, (Fa241 ++ []), a247, na247, a245, na245, csa245, (Fa245 ++ []), by kernel_rfl, rfl, rfl, RL.mono hra241 (rd_sub seg_hd), RL.mono hra245 (rd_sub seg_hd)⟩
      · rw [if_neg c250] at e235
        have c250b : (decide (x240 ≥ 0)) = false := decide_eq_false c250
        refine t_qz 1 [0, 2, 3, 4, 5, 28] (σ' := [(0, .pointer (some ⟨B0, 0, none⟩)), (2, .pointer (some ⟨b222, 0, none⟩)), (3, .pointer (some ⟨b232, 0, none⟩)), (4, .int .i64 (wr64 ((mx (wr64 (1 + t223)) (wr64 (1 + t226))) * 2 ^ (min (Int.toNat (wru64 t229)) 64)))), (5, .int .i64 x240), (28, .int .i64 x240)]) (by kernel_rfl) ?_
        refine t_v (dv_quiet rfl (congrArg (fun t => some (Value.bool t)) c250b)) ?_
        refine t_qz 4 [0, 2, 3, 4, 5, 33] (σ' := [(0, .pointer (some ⟨B0, 0, none⟩)), (2, .pointer (some ⟨b222, 0, none⟩)), (3, .pointer (some ⟨b232, 0, none⟩)), (4, .int .i64 (wr64 ((mx (wr64 (1 + t223)) (wr64 (1 + t226))) * 2 ^ (min (Int.toNat (wru64 t229)) 64)))), (5, .int .i64 x240), (33, .bool false)]) (by kernel_rfl) ?_
        refine t_end ?_
        show W _ _ _ _ _ _ _
        refine w_cond rfl (fun c_ => by cases c_) (fun _ => ?_)
        show W _ _ _ _ _ _ _
        refine w_exit ?_
        simp only [Option.some.injEq, Prod.mk.injEq] at e235
        obtain ⟨rfl, rfl, rfl, rfl, rfl⟩ := e235
        exact ⟨(([⟨b232, [.int .i64 (wr64 (1 + t223)), .int .i64 (wr64 (1 + t226)), .int .i64 t229, .slice (ad a243) y244.length (na243 / 4), .slice (ad a241) y242.length (na241 / 11)], 5⟩, ⟨B0, [.slice a_m0_0 m0_0.length c_m0_0, .int .i64 x249], 2⟩, ⟨b222, [.int .i64 0, .int .i64 0, .int .i64 0, .slice (ad a247) y248.length (na247 / 4), .slice (ad a245) y246.length (na245 / 11)], 5⟩, ⟨a243, encL E_u84 y244, na243⟩, ⟨a241, csa241, na241⟩, ⟨a247, encL E_u84 y248, na247⟩, ⟨a245, csa245, na245⟩] : List Own) ++ ((Fa241 ++ []) ++ ((Fa245 ++ []) ++ []))), S, VS.treeA (.a (.l ([⟨a241, csa241, na241⟩, ⟨a243, encL E_u84 y244, na243⟩, ⟨a245, csa245, na245⟩, ⟨a247, encL E_u84 y248, na247⟩, ⟨B0, [.slice a_m0_0 m0_0.length c_m0_0, .int .i64 x249], 2⟩, ⟨b232, [.int .i64 (wr64 (1 + t223)), .int .i64 (wr64 (1 + t226)), .int .i64 t229, .slice (ad a243) y244.length (na243 / 4), .slice (ad a241) y242.length (na241 / 11)], 5⟩, ⟨b222, [.int .i64 0, .int .i64 0, .int .i64 0, .slice (ad a247) y248.length (na247 / 4), .slice (ad a245) y246.length (na245 / 11)], 5⟩] : List Own)) (.a (.f Fa241) (.a (.f Fa245) (.l [])))) (.a (.l ([⟨b232, [.int .i64 (wr64 (1 + t223)), .int .i64 (wr64 (1 + t226)), .int .i64 t229, .slice (ad a243) y244.length (na243 / 4), .slice (ad a241) y242.length (na241 / 11)], 5⟩, ⟨B0, [.slice a_m0_0 m0_0.length c_m0_0, .int .i64 x249], 2⟩, ⟨b222, [.int .i64 0, .int .i64 0, .int .i64 0, .slice (ad a247) y248.length (na247 / 4), .slice (ad a245) y246.length (na245 / 11)], 5⟩, ⟨a243, encL E_u84 y244, na243⟩, ⟨a241, csa241, na241⟩, ⟨a247, encL E_u84 y248, na247⟩, ⟨a245, csa245, na245⟩] : List Own)) (.a (.a (.f Fa241) (.l [])) (.a (.a (.f Fa245) (.l [])) (.l [])))) [5, 4, 4, 1, 0, 1, 0, 0, 0] (by kernel_rfl), a243, na243, a241, na241, csa241, (Fa241 ++ []), a247, na247, a245, na245, csa245, (Fa245 ++ []), by kernel_rfl, rfl, rfl, RL.mono hra241 (rd_sub seg_hd), RL.mono hra245 (rd_sub seg_hd)⟩
  · rintro σ_ H_ S_ ⟨a384, na384, a386, na386, csa386, Fa386, a389, na389, a391, na391, csa391, Fa391, rfl, rfl, rfl, hra386, hra391⟩
    refine w_seq ?_
    refine w_reg fun all => ?_
    refine t_v (.ldn rfl rfl rfl (.at 0 rfl rfl)) ?_
    refine t_sti 2 (cs := [.int .i64 (wr64 (1 + t223)), .int .i64 (wr64 (1 + t226)), .int .i64 t229, .slice (ad a384) y385.length (na384 / 4), .slice (ad a386) y387.length (na386 / 11)]) rfl rfl rfl rfl rfl rfl rfl rfl rfl ?_
    refine t_keep [2] (σ' := [(2, .pointer (some ⟨b222, 0, none⟩))]) (by kernel_rfl) ?_
    refine t_end ?_
    show W _ _ _ _ _ _ _
    refine w_someB 4 rfl fun hz4_ => ?_
    refine w_ret ?_
    simp only [Option.some.injEq, Prod.mk.injEq] at e
    obtain ⟨rfl, rfl, rfl, rfl, rfl, rfl⟩ := e
    exact ⟨[.agg #[.int .i64 (wr64 (1 + t223)), .int .i64 (wr64 (1 + t226)), .int .i64 t229, .slice (ad a384) y385.length (na384 / 4), .slice (ad a386) y387.length (na386 / 11)]], (([⟨a384, encL E_u84 y385, na384⟩, ⟨B0, [.slice a_m0_0 m0_0.length c_m0_0, .int .i64 x388], 2⟩] : List Own) ++ ((([⟨a386, csa386, na386⟩] : List Own) ++ (Fa386 ++ [])) ++ [])), S, ⟨⟨_, _, _, rfl, .at 2 rfl rfl, rfl⟩, trivial⟩, VS.treeA (.a (.l ([⟨b232, [.int .i64 (wr64 (1 + t223)), .int .i64 (wr64 (1 + t226)), .int .i64 t229, .slice (ad a384) y385.length (na384 / 4), .slice (ad a386) y387.length (na386 / 11)], 5⟩, ⟨B0, [.slice a_m0_0 m0_0.length c_m0_0, .int .i64 x388], 2⟩, ⟨b222, [.int .i64 (wr64 (1 + t223)), .int .i64 (wr64 (1 + t226)), .int .i64 t229, .slice (ad a384) y385.length (na384 / 4), .slice (ad a386) y387.length (na386 / 11)], 5⟩, ⟨a384, encL E_u84 y385, na384⟩, ⟨a386, csa386, na386⟩, ⟨a389, encL E_u84 y390, na389⟩, ⟨a391, csa391, na391⟩] : List Own)) (.a (.f Fa386) (.a (.f Fa391) (.l [])))) (.a (.l ([⟨a384, encL E_u84 y385, na384⟩, ⟨B0, [.slice a_m0_0 m0_0.length c_m0_0, .int .i64 x388], 2⟩] : List Own)) (.a (.a (.l ([⟨a386, csa386, na386⟩] : List Own)) (.a (.f Fa386) (.l []))) (.l []))) [3, 1, 2, 4] (by kernel_rfl), a384, na384, (ad a386), (na386 / 11), (([⟨a386, csa386, na386⟩] : List Own) ++ (Fa386 ++ [])), rfl, rfl, rfl, SlN.mono (SlN.own (E := N_1) (RL.mono hra386 (rd_sub (sub_app (seg_in 1 (X := (Fa386 ++ [])) rfl seg_hd) sub_nil))) hz4_ (by decide) (fun _ hk_ => Or.inl ⟨_, mem_at 0 rfl, hk_, rfl⟩)) (rd_sub fun e_ he_ => seg_hd e_ ((sub_app (sub_cons (mem_at 0 rfl) sub_nil) (sub_app (seg_in 1 (X := (Fa386 ++ [])) rfl seg_hd) sub_nil)) e_ he_))⟩

def fixed_Down.f (a0 : Int) (b1 : Int) : Option (Int) := if b1 < 1 then (some 0) else (if b1 = 0 then none else (if (Int.tmod a0 b1) < 0 then (some (wr64 ((wr64 (Int.tdiv a0 b1)) - 1))) else (some (wr64 (Int.tdiv a0 b1)))))
theorem fixed_Down.ok {S : Seal} {a0 : Int} {b1 : Int} {r0_ : Int}{A_ : Int → Addr} (hE_ : EO gsE S A_ 94) (e : fixed_Down.f a0 b1 = some r0_) :
    Cal Tryd.prog 21 [.int .i64 a0, .int .i64 b1] [] S fun v H' S' => v = .int .i64 r0_ ∧ H' = [] ∧ S' = S := by
  unfold fixed_Down.f at e
  refine cal_of (c := c21) (N := 18) Tryd.func21 rfl rfl (by kernel_rfl) (rs := [.t 4]) (by kernel_rfl) (Nat.le_of_ble_eq_true rfl) ?_
  unfold c21
  refine w_seq ?_
  refine w_reg fun all => ?_
  refine t_qz 1 [0, 1] (σ' := [(0, .int .i64 a0), (1, .int .i64 b1)]) (by kernel_rfl) ?_
  refine t_end ?_
  show W _ _ _ _ _ _ _
  refine w_seq ?_
  refine w_seq ?_
  refine w_reg fun all => ?_
  by_cases c407 : b1 < 1
  · rw [if_pos c407] at e
    have c407b : (decide (b1 < 1)) = true := decide_eq_true c407
    refine t_qz 1 [0, 1, 6] (σ' := [(0, .int .i64 a0), (1, .int .i64 b1), (6, .int .i64 b1)]) (by kernel_rfl) ?_
    refine t_v (dv_quiet rfl (congrArg (fun t => some (Value.bool t)) c407b)) ?_
    refine t_keep [0, 1, 7] (σ' := [(0, .int .i64 a0), (1, .int .i64 b1), (7, .bool true)]) (by kernel_rfl) ?_
    refine t_end ?_
    show W _ _ _ _ _ _ _
    refine w_cond rfl (fun _ => ?_) (fun c_ => by cases c_)
    show W _ _ _ _ _ _ _
    refine w_seq ?_
    refine w_reg fun all => ?_
    refine t_qz 1 [4] (σ' := [(4, .int .i64 0)]) (by kernel_rfl) ?_
    refine t_end ?_
    show W _ _ _ _ _ _ _
    refine w_ret ?_
    obtain rfl := Option.some.inj e
    exact ⟨[.int .i64 0], [], S, ⟨rfl, trivial⟩, VS.none, rfl, rfl, rfl⟩
  · rw [if_neg c407] at e
    have c407b : (decide (b1 < 1)) = false := decide_eq_false c407
    refine t_qz 1 [0, 1, 6] (σ' := [(0, .int .i64 a0), (1, .int .i64 b1), (6, .int .i64 b1)]) (by kernel_rfl) ?_
    refine t_v (dv_quiet rfl (congrArg (fun t => some (Value.bool t)) c407b)) ?_
    refine t_keep [0, 1, 7] (σ' := [(0, .int .i64 a0), (1, .int .i64 b1), (7, .bool false)]) (by kernel_rfl) ?_
    refine t_end ?_
    show W _ _ _ _ _ _ _
    refine w_cond rfl (fun c_ => by cases c_) (fun _ => ?_)
    show W _ _ _ _ _ _ _
    refine w_skip ?_
    show W _ _ _ _ _ _ _
    refine w_seq ?_
    refine w_reg fun all => ?_
    have c408 : ¬ b1 = 0 := by
      intro h_; rw [if_pos h_] at e; cases e
    rw [if_neg c408] at e
    refine t_qz 2 [0, 1, 8, 9] (σ' := [(0, .int .i64 a0), (1, .int .i64 b1), (8, .int .i64 a0), (9, .int .i64 b1)]) (by kernel_rfl) ?_
    refine t_v (.quiet rfl (qv_quo rfl rfl c408)) ?_
    refine t_qz 1 [0, 1, 5] (σ' := [(0, .int .i64 a0), (1, .int .i64 b1), (5, .int .i64 (wr64 (Int.tdiv a0 b1)))]) (by kernel_rfl) ?_
    refine t_end ?_
    show W _ _ _ _ _ _ _
    refine w_seq ?_
    refine w_seq ?_
    refine w_reg fun all => ?_
    refine t_qz 2 [5, 11, 12] (σ' := [(5, .int .i64 (wr64 (Int.tdiv a0 b1))), (11, .int .i64 a0), (12, .int .i64 b1)]) (by kernel_rfl) ?_
    refine t_v (.quiet rfl (qv_rem rfl rfl c408)) ?_
    by_cases c409 : (Int.tmod a0 b1) < 0
    · rw [if_pos c409] at e
      have c409b : (decide ((Int.tmod a0 b1) < 0)) = true := decide_eq_true c409
      refine t_v (dv_quiet rfl (congrArg (fun t => some (Value.bool t)) c409b)) ?_
      refine t_keep [5, 14] (σ' := [(5, .int .i64 (wr64 (Int.tdiv a0 b1))), (14, .bool true)]) (by kernel_rfl) ?_
      refine t_end ?_
      show W _ _ _ _ _ _ _
      refine w_cond rfl (fun _ => ?_) (fun c_ => by cases c_)
      show W _ _ _ _ _ _ _
      refine w_reg fun all => ?_
      refine t_qz 3 [5] (σ' := [(5, .int .i64 (wr64 ((wr64 (Int.tdiv a0 b1)) - 1)))]) (by kernel_rfl) ?_
      refine t_end ?_
      show W _ _ _ _ _ _ _
      refine w_seq ?_
      refine w_reg fun all => ?_
      refine t_qz 2 [4] (σ' := [(4, .int .i64 (wr64 ((wr64 (Int.tdiv a0 b1)) - 1)))]) (by kernel_rfl) ?_
      refine t_end ?_
      show W _ _ _ _ _ _ _
      refine w_ret ?_
      obtain rfl := Option.some.inj e
      exact ⟨[.int .i64 (wr64 ((wr64 (Int.tdiv a0 b1)) - 1))], [], S, ⟨rfl, trivial⟩, VS.none, rfl, rfl, rfl⟩
    · rw [if_neg c409] at e
      have c409b : (decide ((Int.tmod a0 b1) < 0)) = false := decide_eq_false c409
      refine t_v (dv_quiet rfl (congrArg (fun t => some (Value.bool t)) c409b)) ?_
      refine t_keep [5, 14] (σ' := [(5, .int .i64 (wr64 (Int.tdiv a0 b1))), (14, .bool false)]) (by kernel_rfl) ?_
      refine t_end ?_
      show W _ _ _ _ _ _ _
      refine w_cond rfl (fun c_ => by cases c_) (fun _ => ?_)
      show W _ _ _ _ _ _ _
      refine w_skip ?_
      show W _ _ _ _ _ _ _
      refine w_seq ?_
      refine w_reg fun all => ?_
      refine t_qz 2 [4] (σ' := [(4, .int .i64 (wr64 (Int.tdiv a0 b1)))]) (by kernel_rfl) ?_
      refine t_end ?_
      show W _ _ _ _ _ _ _
      refine w_ret ?_
      obtain rfl := Option.some.inj e
      exact ⟨[.int .i64 (wr64 (Int.tdiv a0 b1))], [], S, ⟨rfl, trivial⟩, VS.none, rfl, rfl, rfl⟩

def scale_Height_v2.f (i0_0 : Int) (i0_1 : Int) (i0_2 : Int) (w1 : Int) : Option (Int) := (fixed_Down.f (wr64 ((wr64 (0 - i0_1)) * w1)) i0_0).bind fun t410 => (some (wr64 (0 - t410)))
theorem scale_Height_v2.ok {S : Seal} {i0_0 : Int} {i0_1 : Int} {i0_2 : Int} {w1 : Int} {r0_ : Int}{A_ : Int → Addr} (hE_ : EO gsE S A_ 94) {a_i0_3 : Option Addr} {n_i0_3 c_i0_3 : Nat} {a_i0_4 : Option Addr} {n_i0_4 c_i0_4 : Nat} (e : scale_Height_v2.f i0_0 i0_1 i0_2 w1 = some r0_) :
    Cal Tryd.prog 8 [.agg #[.int .i64 i0_0, .int .i64 i0_1, .int .i64 i0_2, .slice a_i0_3 n_i0_3 c_i0_3, .slice a_i0_4 n_i0_4 c_i0_4], .int .i64 w1] [] S fun v H' S' => v = .int .i64 r0_ ∧ H' = [] ∧ S' = S := by
  unfold scale_Height_v2.f at e
  refine cal_of (c := c8) (N := 14) Tryd.func8 rfl rfl (by kernel_rfl) (rs := [.t 4]) (by kernel_rfl) (Nat.le_of_ble_eq_true rfl) ?_
  unfold c8
  refine w_seq ?_
  refine w_reg fun all => ?_
  refine t_a (.box rfl rfl rfl) fun b406 fb406 sb406 => ?_
  refine t_qz 1 [1, 2] (σ' := [(1, .int .i64 w1), (2, .pointer (some ⟨b406, 0, none⟩))]) (by kernel_rfl) ?_
  refine t_end ?_
  show W _ _ _ _ _ _ _
  refine w_seq ?_
  refine w_reg fun all => ?_
  refine t_qz 1 [1, 2, 5] (σ' := [(1, .int .i64 w1), (2, .pointer (some ⟨b406, 0, none⟩)), (5, .pointer (some ⟨b406, 1, none⟩))]) (by kernel_rfl) ?_
  refine t_v (.ld1 rfl rfl rfl (.at 0 rfl rfl)) ?_
  refine t_qz 4 [9, 10] (σ' := [(9, .int .i64 (wr64 ((wr64 (0 - i0_1)) * w1))), (10, .pointer (some ⟨b406, 0, none⟩))]) (by kernel_rfl) ?_
  refine t_v (.ld1 rfl rfl rfl (.at 0 rfl rfl)) ?_
  obtain ⟨t410, h411, e⟩ := bind_of e
  refine t_v (.call (vs := [.int .i64 (wr64 ((wr64 (0 - i0_1)) * w1)), .int .i64 i0_0]) rfl rfl (by kernel_rfl) (fixed_Down.ok hE_ h411)) ?_
  refine t_qz 2 [4] (σ' := [(4, .int .i64 (wr64 (0 - t410)))]) (by kernel_rfl) ?_
  refine t_end ?_
  show W _ _ _ _ _ _ _
  refine w_ret ?_
  obtain rfl := Option.some.inj e
  exact ⟨[.int .i64 (wr64 (0 - t410))], [], S, ⟨rfl, trivial⟩, VS.none, rfl, rfl, rfl⟩

def scale_Check_v2.f (i0_0 : Int) (i0_1 : Int) (i0_2 : Int) (w1 : Int) : Option (Int) := if w1 < 1 then (some 1) else (if w1 > 16384 then (some 1) else ((scale_Height_v2.f i0_0 i0_1 i0_2 w1).bind fun t412 => (if t412 > 16384 then (some 2) else (some 0))))
theorem scale_Check_v2.ok {S : Seal} {i0_0 : Int} {i0_1 : Int} {i0_2 : Int} {w1 : Int} {r0_ : Int}{A_ : Int → Addr} (hE_ : EO gsE S A_ 94) {a_i0_3 : Option Addr} {n_i0_3 c_i0_3 : Nat} {a_i0_4 : Option Addr} {n_i0_4 c_i0_4 : Nat} (e : scale_Check_v2.f i0_0 i0_1 i0_2 w1 = some r0_) :
    Cal Tryd.prog 11 [.agg #[.int .i64 i0_0, .int .i64 i0_1, .int .i64 i0_2, .slice a_i0_3 n_i0_3 c_i0_3, .slice a_i0_4 n_i0_4 c_i0_4], .int .i64 w1] [] S fun v H' S' => v = errV 94 A_ r0_ ∧ H' = [] ∧ S' = S := by
  unfold scale_Check_v2.f at e
  refine cal_of (c := c11) (N := 19) Tryd.func11 rfl rfl (by kernel_rfl) (rs := [.t 4]) (by kernel_rfl) (Nat.le_of_ble_eq_true rfl) ?_
  unfold c11
  refine w_seq ?_
  refine w_reg fun all => ?_
  refine t_a (.box rfl rfl rfl) fun b403 fb403 sb403 => ?_
  refine t_qz 1 [1, 2] (σ' := [(1, .int .i64 w1), (2, .pointer (some ⟨b403, 0, none⟩))]) (by kernel_rfl) ?_
  refine t_end ?_
  show W _ _ _ _ _ _ _
  refine w_seq ?_
  refine w_block ?_
  refine w_seq ?_
  refine w_reg fun all => ?_
  by_cases c404 : w1 < 1
  · rw [if_pos c404] at e
    have c404b : (decide (w1 < 1)) = true := decide_eq_true c404
    refine t_qz 1 [1, 2, 6] (σ' := [(1, .int .i64 w1), (2, .pointer (some ⟨b403, 0, none⟩)), (6, .int .i64 w1)]) (by kernel_rfl) ?_
    refine t_v (dv_quiet rfl (congrArg (fun t => some (Value.bool t)) c404b)) ?_
    refine t_qz 5 [1, 2, 5] (σ' := [(1, .int .i64 w1), (2, .pointer (some ⟨b403, 0, none⟩)), (5, .bool true)]) (by kernel_rfl) ?_
    refine t_end ?_
    show W _ _ _ _ _ _ _
    refine w_cond rfl (fun _ => ?_) (fun c_ => by cases c_)
    show W _ _ _ _ _ _ _
    refine w_seq ?_
    refine w_reg fun all => ?_
    refine t_v (.ld1 rfl rfl rfl (hE_.atc 0 1 (by decide) (by decide))) ?_
    refine t_qz 1 [4] (σ' := [(4, .iface 94 (.pointer (some (A_ 1))))]) (by kernel_rfl) ?_
    refine t_end ?_
    show W _ _ _ _ _ _ _
    refine w_ret ?_
    obtain rfl := Option.some.inj e
    exact ⟨[.iface 94 (.pointer (some (A_ 1)))], [], S, ⟨rfl, trivial⟩, VS.none, rfl, rfl, rfl⟩
  · rw [if_neg c404] at e
    have c404b : (decide (w1 < 1)) = false := decide_eq_false c404
    refine t_qz 1 [1, 2, 6] (σ' := [(1, .int .i64 w1), (2, .pointer (some ⟨b403, 0, none⟩)), (6, .int .i64 w1)]) (by kernel_rfl) ?_
    refine t_v (dv_quiet rfl (congrArg (fun t => some (Value.bool t)) c404b)) ?_
    by_cases c405 : w1 > 16384
    · rw [if_pos c405] at e
      have c405b : (decide (w1 > 16384)) = true := decide_eq_true c405
      refine t_qz 2 [1, 2, 8, 9] (σ' := [(1, .int .i64 w1), (2, .pointer (some ⟨b403, 0, none⟩)), (8, .bool false), (9, .int .i64 w1)]) (by kernel_rfl) ?_
      refine t_v (dv_quiet rfl (congrArg (fun t => some (Value.bool t)) c405b)) ?_
      refine t_qz 2 [1, 2, 5] (σ' := [(1, .int .i64 w1), (2, .pointer (some ⟨b403, 0, none⟩)), (5, .bool true)]) (by kernel_rfl) ?_
      refine t_end ?_
      show W _ _ _ _ _ _ _
      refine w_cond rfl (fun _ => ?_) (fun c_ => by cases c_)
      show W _ _ _ _ _ _ _
      refine w_seq ?_
      refine w_reg fun all => ?_
      refine t_v (.ld1 rfl rfl rfl (hE_.atc 0 1 (by decide) (by decide))) ?_
      refine t_qz 1 [4] (σ' := [(4, .iface 94 (.pointer (some (A_ 1))))]) (by kernel_rfl) ?_
      refine t_end ?_
      show W _ _ _ _ _ _ _
      refine w_ret ?_
      obtain rfl := Option.some.inj e
      exact ⟨[.iface 94 (.pointer (some (A_ 1)))], [], S, ⟨rfl, trivial⟩, VS.none, rfl, rfl, rfl⟩
    · rw [if_neg c405] at e
      have c405b : (decide (w1 > 16384)) = false := decide_eq_false c405
      refine t_qz 2 [1, 2, 8, 9] (σ' := [(1, .int .i64 w1), (2, .pointer (some ⟨b403, 0, none⟩)), (8, .bool false), (9, .int .i64 w1)]) (by kernel_rfl) ?_
      refine t_v (dv_quiet rfl (congrArg (fun t => some (Value.bool t)) c405b)) ?_
      refine t_qz 2 [1, 2, 5] (σ' := [(1, .int .i64 w1), (2, .pointer (some ⟨b403, 0, none⟩)), (5, .bool false)]) (by kernel_rfl) ?_
      refine t_end ?_
      show W _ _ _ _ _ _ _
      refine w_cond rfl (fun c_ => by cases c_) (fun _ => ?_)
      show W _ _ _ _ _ _ _
      refine w_seq ?_
      refine w_reg fun all => ?_
      refine t_v (.ldn rfl rfl rfl (.at 0 rfl rfl)) ?_
      obtain ⟨t412, h413, e⟩ := bind_of e
      refine t_qz 1 [14, 15] (σ' := [(14, .agg #[.int .i64 i0_0, .int .i64 i0_1, .int .i64 i0_2, .slice a_i0_3 n_i0_3 c_i0_3, .slice a_i0_4 n_i0_4 c_i0_4]), (15, .int .i64 w1)]) (by kernel_rfl) ?_
      refine t_v (.call (vs := [.agg #[.int .i64 i0_0, .int .i64 i0_1, .int .i64 i0_2, .slice a_i0_3 n_i0_3 c_i0_3, .slice a_i0_4 n_i0_4 c_i0_4], .int .i64 w1]) rfl rfl (by kernel_rfl) (scale_Height_v2.ok hE_ h413)) ?_
      by_cases c414 : t412 > 16384
      · rw [if_pos c414] at e
        have c414b : (decide (t412 > 16384)) = true := decide_eq_true c414
        refine t_v (dv_quiet rfl (congrArg (fun t => some (Value.bool t)) c414b)) ?_
        refine t_qz 1 [13] (σ' := [(13, .bool true)]) (by kernel_rfl) ?_
        refine t_end ?_
        show W _ _ _ _ _ _ _
        refine w_cond rfl (fun _ => ?_) (fun c_ => by cases c_)
        show W _ _ _ _ _ _ _
        refine w_seq ?_
        refine w_reg fun all => ?_
        refine t_v (.ld1 rfl rfl rfl (hE_.atc 1 2 (by decide) (by decide))) ?_
        refine t_qz 1 [4] (σ' := [(4, .iface 94 (.pointer (some (A_ 2))))]) (by kernel_rfl) ?_
        refine t_end ?_
        show W _ _ _ _ _ _ _
        refine w_ret ?_
        obtain rfl := Option.some.inj e
        exact ⟨[.iface 94 (.pointer (some (A_ 2)))], [], S, ⟨rfl, trivial⟩, VS.none, rfl, rfl, rfl⟩
      · rw [if_neg c414] at e
        have c414b : (decide (t412 > 16384)) = false := decide_eq_false c414
        refine t_v (dv_quiet rfl (congrArg (fun t => some (Value.bool t)) c414b)) ?_
        refine t_qz 1 [13] (σ' := [(13, .bool false)]) (by kernel_rfl) ?_
        refine t_end ?_
        show W _ _ _ _ _ _ _
        refine w_cond rfl (fun c_ => by cases c_) (fun _ => ?_)
        show W _ _ _ _ _ _ _
        refine w_skip ?_
        show W _ _ _ _ _ _ _
        refine w_seq ?_
        refine w_reg fun all => ?_
        refine t_qz 1 [4] (σ' := [(4, .nilIface)]) (by kernel_rfl) ?_
        refine t_end ?_
        show W _ _ _ _ _ _ _
        refine w_ret ?_
        obtain rfl := Option.some.inj e
        exact ⟨[.nilIface], [], S, ⟨rfl, trivial⟩, VS.none, rfl, rfl, rfl⟩

/-- glyphicref20.Height -/
def c17 : C :=
  (.seq (.reg [⟨(some 2), .box (.tmp 0), none⟩,
     ⟨(some 4), .mv (.const (.int .i64 0)), none⟩])
  (.seq (.reg [⟨(some 5), .pad 1 (.tmp 2), none⟩,
     ⟨(some 6), .ld none (.tmp 5), none⟩,
     ⟨(some 7), .mv (.tmp 1), none⟩,
     ⟨(some 8), .bin .mul (.tmp 6) (.tmp 7), none⟩,
     ⟨(some 9), .pad 0 (.tmp 2), none⟩,
     ⟨(some 10), .ld none (.tmp 9), none⟩,
     ⟨(some 11), .bin .add (.tmp 8) (.tmp 10), none⟩,
     ⟨(some 12), .bin .sub (.tmp 11) (.const (.int .i64 1)), none⟩,
     ⟨(some 13), .pad 0 (.tmp 2), none⟩,
     ⟨(some 14), .ld none (.tmp 13), none⟩,
     ⟨(some 15), .bin .quo (.tmp 12) (.tmp 14), none⟩,
     ⟨(some 4), .mv (.tmp 15), none⟩])
  .ret))
def glyphicref20_Height_v1.f (i0_0 : Int) (i0_1 : Int) (i0_2 : Int) (w1 : Int) : Option (Int) := if i0_0 = 0 then none else (some (wr64 (Int.tdiv (wr64 ((wr64 ((wr64 (i0_1 * w1)) + i0_0)) - 1)) i0_0)))
theorem glyphicref20_Height_v1.ok {S : Seal} {i0_0 : Int} {i0_1 : Int} {i0_2 : Int} {w1 : Int} {r0_ : Int}{A_ : Int → Addr} (hE_ : EO gsE S A_ 94) {a_i0_3 : Option Addr} {n_i0_3 c_i0_3 : Nat} {a_i0_4 : Option Addr} {n_i0_4 c_i0_4 : Nat} (e : glyphicref20_Height_v1.f i0_0 i0_1 i0_2 w1 = some r0_) :
    Cal Tryd.prog 17 [.agg #[.int .i64 i0_0, .int .i64 i0_1, .int .i64 i0_2, .slice a_i0_3 n_i0_3 c_i0_3, .slice a_i0_4 n_i0_4 c_i0_4], .int .i64 w1] [] S fun v H' S' => v = .int .i64 r0_ ∧ H' = [] ∧ S' = S := by
  unfold glyphicref20_Height_v1.f at e
  refine cal_of (c := c17) (N := 16) Tryd.func17 rfl rfl (by kernel_rfl) (rs := [.t 4]) (by kernel_rfl) (Nat.le_of_ble_eq_true rfl) ?_
  unfold c17
  refine w_seq ?_
  refine w_reg fun all => ?_
  refine t_a (.box rfl rfl rfl) fun b420 fb420 sb420 => ?_
  refine t_qz 1 [1, 2] (σ' := [(1, .int .i64 w1), (2, .pointer (some ⟨b420, 0, none⟩))]) (by kernel_rfl) ?_
  refine t_end ?_
  show W _ _ _ _ _ _ _
  refine w_seq ?_
  refine w_reg fun all => ?_
  refine t_qz 1 [1, 2, 5] (σ' := [(1, .int .i64 w1), (2, .pointer (some ⟨b420, 0, none⟩)), (5, .pointer (some ⟨b420, 1, none⟩))]) (by kernel_rfl) ?_
  refine t_v (.ld1 rfl rfl rfl (.at 0 rfl rfl)) ?_
  refine t_qz 3 [2, 8, 9] (σ' := [(2, .pointer (some ⟨b420, 0, none⟩)), (8, .int .i64 (wr64 (i0_1 * w1))), (9, .pointer (some ⟨b420, 0, none⟩))]) (by kernel_rfl) ?_
  refine t_v (.ld1 rfl rfl rfl (.at 0 rfl rfl)) ?_
  refine t_qz 3 [12, 13] (σ' := [(12, .int .i64 (wr64 ((wr64 ((wr64 (i0_1 * w1)) + i0_0)) - 1))), (13, .pointer (some ⟨b420, 0, none⟩))]) (by kernel_rfl) ?_
  refine t_v (.ld1 rfl rfl rfl (.at 0 rfl rfl)) ?_
  have c421 : ¬ i0_0 = 0 := by
    intro h_; rw [if_pos h_] at e; cases e
  rw [if_neg c421] at e
  refine t_v (.quiet rfl (qv_quo rfl rfl c421)) ?_
  refine t_qz 1 [4] (σ' := [(4, .int .i64 (wr64 (Int.tdiv (wr64 ((wr64 ((wr64 (i0_1 * w1)) + i0_0)) - 1)) i0_0)))]) (by kernel_rfl) ?_
  refine t_end ?_
  show W _ _ _ _ _ _ _
  refine w_ret ?_
  obtain rfl := Option.some.inj e
  exact ⟨[.int .i64 (wr64 (Int.tdiv (wr64 ((wr64 ((wr64 (i0_1 * w1)) + i0_0)) - 1)) i0_0))], [], S, ⟨rfl, trivial⟩, VS.none, rfl, rfl, rfl⟩

/-- glyphicref20.Check -/
def c12 : C :=
  (.seq (.reg [⟨(some 2), .box (.tmp 0), none⟩,
     ⟨(some 4), .mv (.const (.int .i64 0)), none⟩])
  (.seq (.seq (.reg [⟨(some 5), .mv (.tmp 1), none⟩,
      ⟨(some 6), .bin .lss (.tmp 5) (.const (.int .i64 1)), none⟩,
      ⟨(some 7), .mv (.tmp 6), none⟩,
      ⟨(some 8), .mv (.tmp 1), (some (7, false))⟩,
      ⟨(some 9), .bin .gtr (.tmp 8) (.const (.int .i64 16384)), (some (7, false))⟩,
      ⟨(some 10), .pk (.tmp 7) (.const (.bool true)) (.tmp 9), none⟩])
   (.cond (.tmp 10)
    (.seq (.reg [⟨(some 4), .mv (.const (.int .i64 112)), none⟩])
     .ret)
    .skip))
  (.seq (.seq (.reg [⟨(some 11), .ld (some 5) (.tmp 2), none⟩,
      ⟨(some 12), .mv (.tmp 1), none⟩,
      ⟨(some 13), .call 17 [(.tmp 11), (.tmp 12)], none⟩,
      ⟨(some 14), .bin .gtr (.tmp 13) (.const (.int .i64 16384)), none⟩])
   (.cond (.tmp 14)
    (.seq (.reg [⟨(some 4), .mv (.const (.int .i64 113)), none⟩])
     .ret)
    .skip))
  (.seq (.reg [⟨(some 4), .mv (.const (.int .i64 0)), none⟩])
  .ret))))
def glyphicref20_Check_v1.f (i0_0 : Int) (i0_1 : Int) (i0_2 : Int) (w1 : Int) : Option (Int) := if w1 < 1 then (some 112) else (if w1 > 16384 then (some 112) else ((glyphicref20_Height_v1.f i0_0 i0_1 i0_2 w1).bind fun t422 => (if t422 > 16384 then (some 113) else (some 0))))
theorem glyphicref20_Check_v1.ok {S : Seal} {i0_0 : Int} {i0_1 : Int} {i0_2 : Int} {w1 : Int} {r0_ : Int}{A_ : Int → Addr} (hE_ : EO gsE S A_ 94) {a_i0_3 : Option Addr} {n_i0_3 c_i0_3 : Nat} {a_i0_4 : Option Addr} {n_i0_4 c_i0_4 : Nat} (e : glyphicref20_Check_v1.f i0_0 i0_1 i0_2 w1 = some r0_) :
    Cal Tryd.prog 12 [.agg #[.int .i64 i0_0, .int .i64 i0_1, .int .i64 i0_2, .slice a_i0_3 n_i0_3 c_i0_3, .slice a_i0_4 n_i0_4 c_i0_4], .int .i64 w1] [] S fun v H' S' => v = .int .i64 r0_ ∧ H' = [] ∧ S' = S := by
  unfold glyphicref20_Check_v1.f at e
  refine cal_of (c := c12) (N := 15) Tryd.func12 rfl rfl (by kernel_rfl) (rs := [.t 4]) (by kernel_rfl) (Nat.le_of_ble_eq_true rfl) ?_
  unfold c12
  refine w_seq ?_
  refine w_reg fun all => ?_
  refine t_a (.box rfl rfl rfl) fun b417 fb417 sb417 => ?_
  refine t_qz 1 [1, 2] (σ' := [(1, .int .i64 w1), (2, .pointer (some ⟨b417, 0, none⟩))]) (by kernel_rfl) ?_
  refine t_end ?_
  show W _ _ _ _ _ _ _
  refine w_seq ?_
  refine w_seq ?_
  refine w_reg fun all => ?_
  by_cases c418 : w1 < 1
  · rw [if_pos c418] at e
    have c418b : (decide (w1 < 1)) = true := decide_eq_true c418
    refine t_qz 1 [1, 2, 5] (σ' := [(1, .int .i64 w1), (2, .pointer (some ⟨b417, 0, none⟩)), (5, .int .i64 w1)]) (by kernel_rfl) ?_
    refine t_v (dv_quiet rfl (congrArg (fun t => some (Value.bool t)) c418b)) ?_
    refine t_qz 4 [1, 2, 10] (σ' := [(1, .int .i64 w1), (2, .pointer (some ⟨b417, 0, none⟩)), (10, .bool true)]) (by kernel_rfl) ?_
    refine t_end ?_
    show W _ _ _ _ _ _ _
    refine w_cond rfl (fun _ => ?_) (fun c_ => by cases c_)
    show W _ _ _ _ _ _ _
    refine w_seq ?_
    refine w_reg fun all => ?_
    refine t_qz 1 [4] (σ' := [(4, .int .i64 112)]) (by kernel_rfl) ?_
    refine t_end ?_
    show W _ _ _ _ _ _ _
    refine w_ret ?_
    obtain rfl := Option.some.inj e
    exact ⟨[.int .i64 112], [], S, ⟨rfl, trivial⟩, VS.none, rfl, rfl, rfl⟩
  · rw [if_neg c418] at e
    have c418b : (decide (w1 < 1)) = false := decide_eq_false c418
    refine t_qz 1 [1, 2, 5] (σ' := [(1, .int .i64 w1), (2, .pointer (some ⟨b417, 0, none⟩)), (5, .int .i64 w1)]) (by kernel_rfl) ?_
    refine t_v (dv_quiet rfl (congrArg (fun t => some (Value.bool t)) c418b)) ?_
    by_cases c419 : w1 > 16384
    · rw [if_pos c419] at e
      have c419b : (decide (w1 > 16384)) = true := decide_eq_true c419
      refine t_qz 2 [1, 2, 7, 8] (σ' := [(1, .int .i64 w1), (2, .pointer (some ⟨b417, 0, none⟩)), (7, .bool false), (8, .int .i64 w1)]) (by kernel_rfl) ?_
      refine t_v (dv_quiet rfl (congrArg (fun t => some (Value.bool t)) c419b)) ?_
      refine t_qz 1 [1, 2, 10] (σ' := [(1, .int .i64 w1), (2, .pointer (some ⟨b417, 0, none⟩)), (10, .bool true)]) (by kernel_rfl) ?_
      refine t_end ?_
      show W _ _ _ _ _ _ _
      refine w_cond rfl (fun _ => ?_) (fun c_ => by cases c_)
      show W _ _ _ _ _ _ _
      refine w_seq ?_
      refine w_reg fun all => ?_
      refine t_qz 1 [4] (σ' := [(4, .int .i64 112)]) (by kernel_rfl) ?_
      refine t_end ?_
      show W _ _ _ _ _ _ _
      refine w_ret ?_
      obtain rfl := Option.some.inj e
      exact ⟨[.int .i64 112], [], S, ⟨rfl, trivial⟩, VS.none, rfl, rfl, rfl⟩
    · rw [if_neg c419] at e
      have c419b : (decide (w1 > 16384)) = false := decide_eq_false c419
      refine t_qz 2 [1, 2, 7, 8] (σ' := [(1, .int .i64 w1), (2, .pointer (some ⟨b417, 0, none⟩)), (7, .bool false), (8, .int .i64 w1)]) (by kernel_rfl) ?_
      refine t_v (dv_quiet rfl (congrArg (fun t => some (Value.bool t)) c419b)) ?_
      refine t_qz 1 [1, 2, 10] (σ' := [(1, .int .i64 w1), (2, .pointer (some ⟨b417, 0, none⟩)), (10, .bool false)]) (by kernel_rfl) ?_
      refine t_end ?_
      show W _ _ _ _ _ _ _
      refine w_cond rfl (fun c_ => by cases c_) (fun _ => ?_)
      show W _ _ _ _ _ _ _
      refine w_skip ?_
      show W _ _ _ _ _ _ _
      refine w_seq ?_
      refine w_seq ?_
      refine w_reg fun all => ?_
      refine t_v (.ldn rfl rfl rfl (.at 0 rfl rfl)) ?_
      obtain ⟨t422, h423, e⟩ := bind_of e
      refine t_qz 1 [11, 12] (σ' := [(11, .agg #[.int .i64 i0_0, .int .i64 i0_1, .int .i64 i0_2, .slice a_i0_3 n_i0_3 c_i0_3, .slice a_i0_4 n_i0_4 c_i0_4]), (12, .int .i64 w1)]) (by kernel_rfl) ?_
      refine t_v (.call (vs := [.agg #[.int .i64 i0_0, .int .i64 i0_1, .int .i64 i0_2, .slice a_i0_3 n_i0_3 c_i0_3, .slice a_i0_4 n_i0_4 c_i0_4], .int .i64 w1]) rfl rfl (by kernel_rfl) (glyphicref20_Height_v1.ok hE_ h423)) ?_
      by_cases c424 : t422 > 16384
      · rw [if_pos c424] at e
        have c424b : (decide (t422 > 16384)) = true := decide_eq_true c424
        refine t_v (dv_quiet rfl (congrArg (fun t => some (Value.bool t)) c424b)) ?_
        refine t_keep [14] (σ' := [(14, .bool true)]) (by kernel_rfl) ?_
        refine t_end ?_
        show W _ _ _ _ _ _ _
        refine w_cond rfl (fun _ => ?_) (fun c_ => by cases c_)
        show W _ _ _ _ _ _ _
        refine w_seq ?_
        refine w_reg fun all => ?_
        refine t_qz 1 [4] (σ' := [(4, .int .i64 113)]) (by kernel_rfl) ?_
        refine t_end ?_
        show W _ _ _ _ _ _ _
        refine w_ret ?_
        obtain rfl := Option.some.inj e
        exact ⟨[.int .i64 113], [], S, ⟨rfl, trivial⟩, VS.none, rfl, rfl, rfl⟩
      · rw [if_neg c424] at e
        have c424b : (decide (t422 > 16384)) = false := decide_eq_false c424
        refine t_v (dv_quiet rfl (congrArg (fun t => some (Value.bool t)) c424b)) ?_
        refine t_keep [14] (σ' := [(14, .bool false)]) (by kernel_rfl) ?_
        refine t_end ?_
        show W _ _ _ _ _ _ _
        refine w_cond rfl (fun c_ => by cases c_) (fun _ => ?_)
        show W _ _ _ _ _ _ _
        refine w_skip ?_
        show W _ _ _ _ _ _ _
        refine w_seq ?_
        refine w_reg fun all => ?_
        refine t_qz 1 [4] (σ' := [(4, .int .i64 0)]) (by kernel_rfl) ?_
        refine t_end ?_
        show W _ _ _ _ _ _ _
        refine w_ret ?_
        obtain rfl := Option.some.inj e
        exact ⟨[.int .i64 0], [], S, ⟨rfl, trivial⟩, VS.none, rfl, rfl, rfl⟩

/-- glyphicref.Bare -/
def c30 : C :=
  (.seq (.reg [⟨(some 2), .new [(.int .i64 0), (.bool false), (.int .i64 0)], none⟩])
  (.seq (.reg [⟨(some 3), .mv (.tmp 0), none⟩,
     ⟨(some 4), .bld [(.int .i64 0), (.bool false), (.int .i64 0)] [(0, 1, (.tmp 3))], none⟩,
     ⟨none, .st 3 (.tmp 2) (.tmp 4), none⟩])
  .ret))
def glyphicref_Bare.f (code0 : Int) : Option (Int × Bool × Int) := some (code0, false, 0)
theorem glyphicref_Bare.ok {S : Seal} {code0 : Int} {r0_ : Int} {r1_ : Bool} {r2_ : Int}{A_ : Int → Addr} (hE_ : EO gsE S A_ 94) (e : glyphicref_Bare.f code0 = some (r0_, r1_, r2_)) :
    Cal Tryd.prog 30 [.int .i64 code0] [] S fun v H' S' => v = .agg #[.int .i64 r0_, .bool r1_, .int .i64 r2_] ∧ H' = [] ∧ S' = S := by
  unfold glyphicref_Bare.f at e
  refine cal_of (c := c30) (N := 5) Tryd.func30 rfl rfl (by kernel_rfl) (rs := [.cn 3 2]) (by kernel_rfl) (Nat.le_of_ble_eq_true rfl) ?_
  unfold c30
  refine w_seq ?_
  refine w_reg fun all => ?_
  refine t_a (.new rfl rfl) fun b427 fb427 sb427 => ?_
  refine t_keep [0, 2] (σ' := [(0, .int .i64 code0), (2, .pointer (some ⟨b427, 0, none⟩))]) (by kernel_rfl) ?_
  refine t_end ?_
  show W _ _ _ _ _ _ _
  refine w_seq ?_
  refine w_reg fun all => ?_
  refine t_qz 2 [2, 4] (σ' := [(2, .pointer (some ⟨b427, 0, none⟩)), (4, .agg #[.int .i64 code0, .bool false, .int .i64 0])]) (by kernel_rfl) ?_
  refine t_sti 0 (cs := [.int .i64 code0, .bool false, .int .i64 0]) rfl rfl rfl rfl rfl rfl rfl rfl rfl ?_
  refine t_keep [2] (σ' := [(2, .pointer (some ⟨b427, 0, none⟩))]) (by kernel_rfl) ?_
  refine t_end ?_
  show W _ _ _ _ _ _ _
  refine w_ret ?_
  simp only [Option.some.injEq, Prod.mk.injEq] at e
  obtain ⟨rfl, rfl, rfl⟩ := e
  exact ⟨[.agg #[.int .i64 code0, .bool false, .int .i64 0]], [], S, ⟨⟨_, _, _, rfl, .at 0 rfl rfl, rfl⟩, trivial⟩, VS.none, rfl, rfl, rfl⟩

/-- glyphicref.None -/
def c43 : C :=
  (.seq (.reg [⟨(some 0), .new [(.int .i64 0), (.bool false), (.int .i64 0)], none⟩])
  (.seq (.reg [⟨(some 1), .bld [(.int .i64 0), (.bool false), (.int .i64 0)] [], none⟩,
     ⟨none, .st 3 (.tmp 0) (.tmp 1), none⟩])
  .ret))
def glyphicref_None.f  : Option (Int × Bool × Int) := some (0, false, 0)
theorem glyphicref_None.ok {S : Seal}  {r0_ : Int} {r1_ : Bool} {r2_ : Int}{A_ : Int → Addr} (hE_ : EO gsE S A_ 94) (e : glyphicref_None.f  = some (r0_, r1_, r2_)) :
    Cal Tryd.prog 43 [] [] S fun v H' S' => v = .agg #[.int .i64 r0_, .bool r1_, .int .i64 r2_] ∧ H' = [] ∧ S' = S := by
  unfold glyphicref_None.f at e
  refine cal_of (c := c43) (N := 2) Tryd.func43 rfl rfl (by kernel_rfl) (rs := [.cn 3 0]) (by kernel_rfl) (Nat.le_of_ble_eq_true rfl) ?_
  unfold c43
  refine w_seq ?_
  refine w_reg fun all => ?_
  refine t_a (.new rfl rfl) fun b435 fb435 sb435 => ?_
  refine t_keep [0] (σ' := [(0, .pointer (some ⟨b435, 0, none⟩))]) (by kernel_rfl) ?_
  refine t_end ?_
  show W _ _ _ _ _ _ _
  refine w_seq ?_
  refine w_reg fun all => ?_
  refine t_qz 1 [0, 1] (σ' := [(0, .pointer (some ⟨b435, 0, none⟩)), (1, .agg #[.int .i64 0, .bool false, .int .i64 0])]) (by kernel_rfl) ?_
  refine t_sti 0 (cs := [.int .i64 0, .bool false, .int .i64 0]) rfl rfl rfl rfl rfl rfl rfl rfl rfl ?_
  refine t_keep [0] (σ' := [(0, .pointer (some ⟨b435, 0, none⟩))]) (by kernel_rfl) ?_
  refine t_end ?_
  show W _ _ _ _ _ _ _
  refine w_ret ?_
  simp only [Option.some.injEq, Prod.mk.injEq] at e
  obtain ⟨rfl, rfl, rfl⟩ := e
  exact ⟨[.agg #[.int .i64 0, .bool false, .int .i64 0]], [], S, ⟨⟨_, _, _, rfl, .at 0 rfl rfl, rfl⟩, trivial⟩, VS.none, rfl, rfl, rfl⟩
end Go.Proofs.YtiaigehjogpcaaaDoor.QScaleSays
