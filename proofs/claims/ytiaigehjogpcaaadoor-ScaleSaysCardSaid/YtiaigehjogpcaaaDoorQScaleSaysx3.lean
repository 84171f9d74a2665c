/- Functions of the program as Lean functions, each with the proof of its walk. Written by gen.py, a program of these sessions. -/
import Derived.Test.YtiaigehjogpcaaaDoorQScaleSaysx2
namespace Go.Proofs.YtiaigehjogpcaaaDoor.QScaleSays
open Go Go.RowKit Go.Proofs.YtiaigehjogpcaaaDoorE
set_option linter.unusedVariables false
set_option maxRecDepth 100000
set_option maxHeartbeats 8000000
/-- glyphicref20.Cmd -/
def c16 : C :=
  (.seq (.reg [⟨(some 3), .box (.tmp 0), none⟩,
     ⟨(some 5), .box (.tmp 2), none⟩,
     ⟨(some 6), .new [(.int .i64 0), (.int .i64 0), (.int .i64 0), (.int .i64 0), (.int .i64 0), (.int .i64 0), (.int .i64 0), (.int .i64 0), (.int .i64 0), (.int .i64 0), (.slice none 0 0)], none⟩])
  (.seq (.reg [⟨(some 13), .pad 0 (.tmp 5), none⟩,
     ⟨(some 14), .ld none (.tmp 13), none⟩,
     ⟨(some 15), .pad 1 (.tmp 5), none⟩,
     ⟨(some 16), .ld none (.tmp 15), none⟩,
     ⟨(some 17), .pad 3 (.tmp 5), none⟩,
     ⟨(some 18), .pad 0 (.tmp 17), none⟩,
     ⟨(some 19), .ld none (.tmp 18), none⟩,
     ⟨(some 20), .pad 3 (.tmp 5), none⟩,
     ⟨(some 21), .pad 1 (.tmp 20), none⟩,
     ⟨(some 22), .ld none (.tmp 21), none⟩,
     ⟨(some 23), .pad 3 (.tmp 5), none⟩,
     ⟨(some 24), .pad 2 (.tmp 23), none⟩,
     ⟨(some 25), .ld none (.tmp 24), none⟩,
     ⟨(some 26), .bld [(.int .i64 0), (.int .i64 0), (.int .i64 0), (.int .i64 0), (.int .i64 0), (.int .i64 0), (.int .i64 0)] [(0, 1, (.tmp 19)), (1, 1, (.tmp 22)), (2, 1, (.tmp 25))], none⟩,
     ⟨(some 27), .bld [(.int .i64 0), (.int .i64 0), (.int .i64 0), (.int .i64 0), (.int .i64 0), (.int .i64 0), (.int .i64 0), (.int .i64 0), (.int .i64 0), (.int .i64 0), (.slice none 0 0)] [(0, 1, (.tmp 14)), (1, 1, (.tmp 16)), (3, 7, (.tmp 26))], none⟩,
     ⟨(some 7), .new [(.int .i64 0), (.int .i64 0), (.int .i64 0), (.int .i64 0), (.int .i64 0), (.int .i64 0), (.int .i64 0), (.int .i64 0), (.int .i64 0), (.int .i64 0), (.slice none 0 0)], none⟩,
     ⟨none, .st 11 (.tmp 7) (.tmp 27), none⟩])
  (.seq (.seq (.reg [⟨(some 28), .pad 0 (.tmp 5), none⟩,
      ⟨(some 29), .ld none (.tmp 28), none⟩,
      ⟨(some 30), .bin .eql (.tmp 29) (.const (.int .i64 2)), none⟩])
   (.cond (.tmp 30)
    (.reg [⟨(some 31), .ld (some 5) (.tmp 3), none⟩,
       ⟨(some 32), .mv (.tmp 1), none⟩,
       ⟨(some 33), .pad 2 (.tmp 5), none⟩,
       ⟨(some 34), .ld none (.tmp 33), none⟩,
       ⟨(some 35), .call 18 [(.tmp 31), (.tmp 32), (.tmp 34)], none⟩,
       ⟨(some 36), .mm true [(.tmp 35), (.const (.int .i64 1))], none⟩,
       ⟨(some 37), .pad 2 (.tmp 7), none⟩,
       ⟨none, .st 1 (.tmp 37) (.tmp 36), none⟩])
    .skip))
  (.seq (.seq (.reg [⟨(some 38), .pad 3 (.tmp 5), none⟩,
      ⟨(some 39), .pad 0 (.tmp 38), none⟩,
      ⟨(some 40), .ld none (.tmp 39), none⟩,
      ⟨(some 41), .bin .neq (.tmp 40) (.const (.int .i64 0)), none⟩])
   (.cond (.tmp 41)
    (.seq (.reg [⟨(some 42), .ld (some 5) (.tmp 3), none⟩,
        ⟨(some 43), .mv (.tmp 1), none⟩,
        ⟨(some 44), .pad 3 (.tmp 5), none⟩,
        ⟨(some 45), .pad 3 (.tmp 44), none⟩,
        ⟨(some 46), .ld (some 2) (.tmp 45), none⟩,
        ⟨(some 47), .call 34 [(.tmp 42), (.tmp 43), (.tmp 46)], none⟩,
        ⟨(some 48), .pad 3 (.tmp 7), none⟩,
        ⟨(some 49), .pad 3 (.tmp 48), none⟩,
        ⟨none, .st 2 (.tmp 49) (.tmp 47), none⟩])
     (.reg [⟨(some 50), .ld (some 5) (.tmp 3), none⟩,
       ⟨(some 51), .mv (.tmp 1), none⟩,
       ⟨(some 52), .pad 3 (.tmp 5), none⟩,
       ⟨(some 53), .pad 5 (.tmp 52), none⟩,
       ⟨(some 54), .ld (some 2) (.tmp 53), none⟩,
       ⟨(some 55), .call 34 [(.tmp 50), (.tmp 51), (.tmp 54)], none⟩,
       ⟨(some 56), .pad 3 (.tmp 7), none⟩,
       ⟨(some 57), .pad 5 (.tmp 56), none⟩,
       ⟨none, .st 2 (.tmp 57) (.tmp 55), none⟩]))
    .skip))
  (.seq (.seq (.reg [⟨(some 58), .pad 3 (.tmp 5), none⟩,
      ⟨(some 59), .pad 0 (.tmp 58), none⟩,
      ⟨(some 60), .ld none (.tmp 59), none⟩,
      ⟨(some 61), .bin .eql (.tmp 60) (.const (.int .i64 2)), none⟩])
   (.cond (.tmp 61)
    (.reg [⟨(some 62), .ld (some 5) (.tmp 3), none⟩,
       ⟨(some 63), .mv (.tmp 1), none⟩,
       ⟨(some 64), .pad 3 (.tmp 5), none⟩,
       ⟨(some 65), .pad 5 (.tmp 64), none⟩,
       ⟨(some 66), .pad 0 (.tmp 65), none⟩,
       ⟨(some 67), .ld none (.tmp 66), none⟩,
       ⟨(some 68), .call 18 [(.tmp 62), (.tmp 63), (.tmp 67)], none⟩,
       ⟨(some 69), .mm true [(.tmp 68), (.const (.int .i64 1))], none⟩,
       ⟨(some 70), .bld [(.int .i64 0), (.int .i64 0)] [(0, 1, (.tmp 69))], none⟩,
       ⟨(some 71), .pad 3 (.tmp 7), none⟩,
       ⟨(some 72), .pad 5 (.tmp 71), none⟩,
       ⟨none, .st 2 (.tmp 72) (.tmp 70), none⟩])
    .skip))
  (.seq (.seq (.reg [⟨(some 8), .mv (.const (.int .i64 0)), none⟩])
   (.block 0 (.loop (.seq (.seq (.reg [⟨(some 73), .mv (.tmp 8), none⟩,
         ⟨(some 74), .pad 10 (.tmp 5), none⟩,
         ⟨(some 75), .ld none (.tmp 74), none⟩,
         ⟨(some 76), .lns (.tmp 75), none⟩,
         ⟨(some 77), .bin .lss (.tmp 73) (.tmp 76), none⟩])
      (.cond (.tmp 77)
       .skip
       (.exit 0)))
     (.seq (.block 1 (.seq (.drw [⟨(some 80), .ld (some 5) (.tmp 3), none⟩,
          ⟨(some 81), .mv (.tmp 1), none⟩,
          ⟨(some 82), .pad 10 (.tmp 5), none⟩,
          ⟨(some 83), .ld none (.tmp 82), none⟩,
          ⟨(some 84), .mv (.tmp 8), none⟩,
          ⟨(some 85), .ixs 4 (.tmp 83) (.tmp 84), none⟩,
          ⟨(some 86), .pad 0 (.tmp 85), none⟩,
          ⟨(some 87), .ld (some 2) (.tmp 86), none⟩,
          ⟨(some 88), .call 34 [(.tmp 80), (.tmp 81), (.tmp 87)], none⟩,
          ⟨(some 89), .pad 10 (.tmp 5), none⟩,
          ⟨(some 90), .ld none (.tmp 89), none⟩,
          ⟨(some 91), .mv (.tmp 8), none⟩,
          ⟨(some 92), .ixs 4 (.tmp 90) (.tmp 91), none⟩,
          ⟨(some 93), .pad 3 (.tmp 92), none⟩,
          ⟨(some 94), .ld none (.tmp 93), none⟩,
          ⟨(some 95), .bld [(.int .i64 0), (.int .i64 0), (.slice none 0 0), (.bool false)] [(0, 2, (.tmp 88)), (3, 1, (.tmp 94))], none⟩,
          ⟨(some 9), .new [(.int .i64 0), (.int .i64 0), (.slice none 0 0), (.bool false)], none⟩,
          ⟨none, .st 4 (.tmp 9) (.tmp 95), none⟩] [[], [], [], [2], [], [3, 4], [5], [6], [0, 1, 7], [], [9], [], [10, 11], [12], [13], [8, 14], [], [16, 15, 8, 0, 1, 2, 3, 4, 5, 6, 7, 8, 9, 10, 11, 12, 13, 14, 15, 16]])
       (.seq (.seq (.reg [⟨(some 10), .mv (.const (.int .i64 0)), none⟩])
        (.block 2 (.loop (.seq (.seq (.reg [⟨(some 96), .mv (.tmp 10), none⟩,
              ⟨(some 97), .pad 10 (.tmp 5), none⟩,
              ⟨(some 98), .ld none (.tmp 97), none⟩,
              ⟨(some 99), .mv (.tmp 8), none⟩,
              ⟨(some 100), .ixs 4 (.tmp 98) (.tmp 99), none⟩,
              ⟨(some 101), .pad 2 (.tmp 100), none⟩,
              ⟨(some 102), .ld none (.tmp 101), none⟩,
              ⟨(some 103), .lns (.tmp 102), none⟩,
              ⟨(some 104), .bin .lss (.tmp 96) (.tmp 103), none⟩])
           (.cond (.tmp 104)
            .skip
            (.exit 2)))
          (.seq (.block 3 (.seq (.reg [⟨(some 107), .pad 10 (.tmp 5), none⟩,
               ⟨(some 108), .ld none (.tmp 107), none⟩,
               ⟨(some 109), .mv (.tmp 8), none⟩,
               ⟨(some 110), .ixs 4 (.tmp 108) (.tmp 109), none⟩,
               ⟨(some 111), .pad 2 (.tmp 110), none⟩,
               ⟨(some 112), .ld none (.tmp 111), none⟩,
               ⟨(some 113), .mv (.tmp 10), none⟩,
               ⟨(some 114), .ixs 7 (.tmp 112) (.tmp 113), none⟩,
               ⟨(some 115), .pad 0 (.tmp 114), none⟩,
               ⟨(some 116), .ld none (.tmp 115), none⟩,
               ⟨(some 117), .bld [(.int .i64 0), (.int .i64 0), (.int .i64 0), (.int .i64 0), (.int .i64 0), (.int .i64 0), (.int .i64 0)] [(0, 1, (.tmp 116))], none⟩,
               ⟨(some 11), .new [(.int .i64 0), (.int .i64 0), (.int .i64 0), (.int .i64 0), (.int .i64 0), (.int .i64 0), (.int .i64 0)], none⟩,
               ⟨none, .st 7 (.tmp 11) (.tmp 117), none⟩])
            (.seq (.seq (.reg [⟨(some 12), .mv (.const (.int .i64 0)), none⟩])
             (.block 4 (.loop (.seq (.seq (.reg [⟨(some 118), .mv (.tmp 12), none⟩,
                   ⟨(some 119), .pad 0 (.tmp 11), none⟩,
                   ⟨(some 120), .ld none (.tmp 119), none⟩,
                   ⟨(some 121), .bin .lss (.tmp 118) (.tmp 120), none⟩])
                (.cond (.tmp 121)
                 .skip
                 (.exit 4)))
               (.seq (.block 5 (.drw [⟨(some 124), .mv (.tmp 12), none⟩,
                   ⟨(some 125), .ld (some 5) (.tmp 3), none⟩,
                   ⟨(some 126), .mv (.tmp 1), none⟩,
                   ⟨(some 127), .pad 10 (.tmp 5), none⟩,
                   ⟨(some 128), .ld none (.tmp 127), none⟩,
                   ⟨(some 129), .mv (.tmp 8), none⟩,
                   ⟨(some 130), .ixs 4 (.tmp 128) (.tmp 129), none⟩,
                   ⟨(some 131), .pad 2 (.tmp 130), none⟩,
                   ⟨(some 132), .ld none (.tmp 131), none⟩,
                   ⟨(some 133), .mv (.tmp 10), none⟩,
                   ⟨(some 134), .mv (.tmp 12), none⟩,
                   ⟨(some 135), .ixs 7 (.tmp 132) (.tmp 133), none⟩,
                   ⟨(some 136), .pad 1 (.tmp 135), none⟩,
                   ⟨(some 137), .ixa 2 3 (.tmp 136) (.tmp 134), none⟩,
                   ⟨(some 138), .ld (some 2) (.tmp 137), none⟩,
                   ⟨(some 139), .call 34 [(.tmp 125), (.tmp 126), (.tmp 138)], none⟩,
                   ⟨(some 140), .pad 1 (.tmp 11), none⟩,
                   ⟨(some 141), .ixa 2 3 (.tmp 140) (.tmp 124), none⟩,
                   ⟨none, .st 2 (.tmp 141) (.tmp 139), none⟩] [[], [], [], [], [3], [], [4, 5], [6], [7], [], [], [8, 9], [11], [12, 10], [13], [1, 2, 14], [], [16, 0, 0, 1, 2, 3, 4, 5, 6, 7, 8, 9, 10, 11, 12, 13, 14, 15], [17, 15, 15, 0, 1, 2, 3, 4, 5, 6, 7, 8, 9, 10, 11, 12, 13, 14, 15]]))
               (.reg [⟨(some 122), .mv (.tmp 12), none⟩,
                 ⟨(some 123), .bin .add (.tmp 122) (.const (.int .i64 1)), none⟩,
                 ⟨(some 12), .mv (.tmp 123), none⟩]))))))
            (.reg [⟨(some 142), .pad 2 (.tmp 9), none⟩,
              ⟨(some 143), .ld none (.tmp 142), none⟩,
              ⟨(some 144), .ld (some 7) (.tmp 11), none⟩,
              ⟨(some 145), .bsl [(.int .i64 0), (.int .i64 0), (.int .i64 0), (.int .i64 0), (.int .i64 0), (.int .i64 0), (.int .i64 0)] 1 [(0, 7, (.tmp 144))], none⟩,
              ⟨(some 146), .app 56 7 56 [(.int .i64 0), (.int .i64 0), (.int .i64 0), (.int .i64 0), (.int .i64 0), (.int .i64 0), (.int .i64 0)] (.tmp 143) (.tmp 145), none⟩,
              ⟨(some 147), .pad 2 (.tmp 9), none⟩,
              ⟨none, .st 1 (.tmp 147) (.tmp 146), none⟩]))))
          (.reg [⟨(some 105), .mv (.tmp 10), none⟩,
            ⟨(some 106), .bin .add (.tmp 105) (.const (.int .i64 1)), none⟩,
            ⟨(some 10), .mv (.tmp 106), none⟩]))))))
       (.reg [⟨(some 148), .pad 10 (.tmp 7), none⟩,
         ⟨(some 149), .ld none (.tmp 148), none⟩,
         ⟨(some 150), .ld (some 4) (.tmp 9), none⟩,
         ⟨(some 151), .bsl [(.int .i64 0), (.int .i64 0), (.slice none 0 0), (.bool false)] 1 [(0, 4, (.tmp 150))], none⟩,
         ⟨(some 152), .app 53 4 48 [(.int .i64 0), (.int .i64 0), (.slice none 0 0), (.bool false)] (.tmp 149) (.tmp 151), none⟩,
         ⟨(some 153), .pad 10 (.tmp 7), none⟩,
         ⟨none, .st 1 (.tmp 153) (.tmp 152), none⟩]))))
     (.reg [⟨(some 78), .mv (.tmp 8), none⟩,
       ⟨(some 79), .bin .add (.tmp 78) (.const (.int .i64 1)), none⟩,
       ⟨(some 8), .mv (.tmp 79), none⟩]))))))
  (.seq (.reg [⟨(some 154), .ld (some 11) (.tmp 7), none⟩,
     ⟨none, .st 11 (.tmp 6) (.tmp 154), none⟩])
  .ret)))))))
def glyphicref20_Cmd_v1.l2 : Nat → Int → Int → Int → Int → List (Int × Int × List (Int × Int × Int × Int × Int × Int × Int) × Bool) → Int → Int → Int → Int → Int → Int → Int → Int → Int → Int → Option (Int × Int × Int × Int × Int × Int)
  | 0, _, _, _, _, _, _, _, _, _, _, _, _, _, _, _ => none
  | k + 1, t0_0, t0_1, t0_2, o1, A2_10, x630, x676, x715, x735, x736, x737, x738, x739, x740, x741 => if x735 < x715 then ((lgt A2_10 x630).bind fun (x743, x744, x745, x746) => ((lgt x745 x676).bind fun (x759, x760, x761, x762, x763, x764, x765) => (if x735 = 0 then ((glyphicref20_point_v1.f t0_0 t0_1 t0_2 o1 x760 x761).bind fun (t776, t777) => (glyphicref20_Cmd_v1.l2 k t0_0 t0_1 t0_2 o1 A2_10 x630 x676 x715 (wr64 (x735 + 1)) t776 t777 x738 x739 x740 x741)) else (if x735 = 1 then ((glyphicref20_point_v1.f t0_0 t0_1 t0_2 o1 x762 x763).bind fun (t781, t782) => (glyphicref20_Cmd_v1.l2 k t0_0 t0_1 t0_2 o1 A2_10 x630 x676 x715 (wr64 (x735 + 1)) x736 x737 t781 t782 x740 x741)) else (if x735 = 2 then ((glyphicref20_point_v1.f t0_0 t0_1 t0_2 o1 x764 x765).bind fun (t786, t787) => (glyphicref20_Cmd_v1.l2 k t0_0 t0_1 t0_2 o1 A2_10 x630 x676 x715 (wr64 (x735 + 1)) x736 x737 x738 x739 t786 t787)) else (none)))))) else (some (x736, x737, x738, x739, x740, x741))
def glyphicref20_Cmd_v1.l1 : Nat → Int → Int → Int → Int → List (Int × Int × List (Int × Int × Int × Int × Int × Int × Int) × Bool) → Int → Int → List (Int × Int × Int × Int × Int × Int × Int) → Option (List (Int × Int × Int × Int × Int × Int × Int))
  | 0, _, _, _, _, _, _, _, _ => none
  | k + 1, t0_0, t0_1, t0_2, o1, A2_10, x630, x676, y678 => (lgt A2_10 x630).bind fun (x679, x680, x681, x682) => (if x676 < (x681.length : Int) then (((lgt A2_10 x630).bind fun (x699, x700, x701, x702) => ((lgt x701 x676).bind fun (x715, x716, x717, x718, x719, x720, x721) => ((glyphicref20_Cmd_v1.l2 k t0_0 t0_1 t0_2 o1 A2_10 x630 x676 x715 0 0 0 0 0 0 0 : Option (Int × Int × Int × Int × Int × Int)).bind fun (x791, x792, x793, x794, x795, x796) => ((lapp y678 ([(x715, x791, x792, x793, x794, x795, x796)] : List (Int × Int × Int × Int × Int × Int × Int))).bind fun y798 => (some y798)))) : Option (List (Int × Int × Int × Int × Int × Int × Int))).bind fun y802 => (glyphicref20_Cmd_v1.l1 k t0_0 t0_1 t0_2 o1 A2_10 x630 (wr64 (x676 + 1)) y802)) else (some y678))
def glyphicref20_Cmd_v1.l0 : Nat → Int → Int → Int → Int → List (Int × Int × List (Int × Int × Int × Int × Int × Int × Int) × Bool) → Int → List (Int × Int × List (Int × Int × Int × Int × Int × Int × Int) × Bool) → Option (List (Int × Int × List (Int × Int × Int × Int × Int × Int × Int) × Bool))
  | 0, _, _, _, _, _, _, _ => none
  | k + 1, t0_0, t0_1, t0_2, o1, A2_10, x630, y632 => if x630 < (A2_10.length : Int) then (((lgt A2_10 x630).bind fun (x637, x638, x639, x640) => ((glyphicref20_point_v1.f t0_0 t0_1 t0_2 o1 x637 x638).bind fun (t653, t654) => ((lgt A2_10 x630).bind fun (x656, x657, x658, x659) => ((glyphicref20_Cmd_v1.l1 k t0_0 t0_1 t0_2 o1 A2_10 x630 0 ([] : List (Int × Int × Int × Int × Int × Int × Int)) : Option (List (Int × Int × Int × Int × Int × Int × Int))).bind fun y806 => ((lapp y632 ([(t653, t654, y806, x659)] : List (Int × Int × List (Int × Int × Int × Int × Int × Int × Int) × Bool))).bind fun y808 => (some y808))))) : Option (List (Int × Int × List (Int × Int × Int × Int × Int × Int × Int) × Bool))).bind fun y812 => (glyphicref20_Cmd_v1.l0 k t0_0 t0_1 t0_2 o1 A2_10 (wr64 (x630 + 1)) y812)) else (some y632)
def glyphicref20_Cmd_v1.f (k : Nat) (t0_0 : Int) (t0_1 : Int) (t0_2 : Int) (o1 : Int) (A2_0 : Int) (A2_1 : Int) (A2_2 : Int) (A2_3 : Int) (A2_4 : Int) (A2_5 : Int) (A2_6 : Int) (A2_7 : Int) (A2_8 : Int) (A2_9 : Int) (A2_10 : List (Int × Int × List (Int × Int × Int × Int × Int × Int × Int) × Bool)) : Option (Int × Int × Int × Int × Int × Int × Int × Int × Int × Int × List (Int × Int × List (Int × Int × Int × Int × Int × Int × Int) × Bool)) := (if A2_0 = 2 then ((glyphicref20_At_v1.f t0_0 t0_1 t0_2 o1 A2_2).bind fun t602 => (some (mx t602 1))) else (some 0) : Option (Int)).bind fun x604 => ((if A2_3 = 0 then (some (0, 0, 0, 0)) else ((glyphicref20_point_v1.f t0_0 t0_1 t0_2 o1 A2_6 A2_7).bind fun (t609, t610) => ((glyphicref20_point_v1.f t0_0 t0_1 t0_2 o1 A2_8 A2_9).bind fun (t612, t613) => (some (t609, t610, t612, t613)))) : Option (Int × Int × Int × Int)).bind fun (x615, x616, x617, x618) => ((if A2_3 = 2 then ((glyphicref20_At_v1.f t0_0 t0_1 t0_2 o1 A2_8).bind fun t623 => (some (mx t623 1, 0))) else (some (x617, x618)) : Option (Int × Int)).bind fun (x625, x626) => ((glyphicref20_Cmd_v1.l0 k t0_0 t0_1 t0_2 o1 A2_10 0 ([] : List (Int × Int × List (Int × Int × Int × Int × Int × Int × Int) × Bool)) : Option (List (Int × Int × List (Int × Int × Int × Int × Int × Int × Int) × Bool))).bind fun y816 => (some (A2_0, A2_1, x604, A2_3, A2_4, A2_5, x615, x616, x625, x626, y816)))))
theorem glyphicref20_Cmd_v1.ok {S : Seal} {k : Nat} {t0_0 : Int} {t0_1 : Int} {t0_2 : Int} {o1 : Int} {A2_0 : Int} {A2_1 : Int} {A2_2 : Int} {A2_3 : Int} {A2_4 : Int} {A2_5 : Int} {A2_6 : Int} {A2_7 : Int} {A2_8 : Int} {A2_9 : Int} {A2_10 : List (Int × Int × List (Int × Int × Int × Int × Int × Int × Int) × Bool)} {r0_ : Int} {r1_ : Int} {r2_ : Int} {r3_ : Int} {r4_ : Int} {r5_ : Int} {r6_ : Int} {r7_ : Int} {r8_ : Int} {r9_ : Int} {r10_ : List (Int × Int × List (Int × Int × Int × Int × Int × Int × Int) × Bool)}{A_ : Int → Addr} (hE_ : EO gsE S A_ 94) {a_t0_3 : Option Addr} {n_t0_3 c_t0_3 : Nat} {a_t0_4 : Option Addr} {n_t0_4 c_t0_4 : Nat} {a_A2_10 : Option Addr} {c_A2_10 : Nat} (h_A2_10 : SlN (rdOf [] S) N_0 A2_10 a_A2_10) (e : glyphicref20_Cmd_v1.f k t0_0 t0_1 t0_2 o1 A2_0 A2_1 A2_2 A2_3 A2_4 A2_5 A2_6 A2_7 A2_8 A2_9 A2_10 = some (r0_, r1_, r2_, r3_, r4_, r5_, r6_, r7_, r8_, r9_, r10_)) :
    Cal Tryd.prog 16 [.agg #[.int .i64 t0_0, .int .i64 t0_1, .int .i64 t0_2, .slice a_t0_3 n_t0_3 c_t0_3, .slice a_t0_4 n_t0_4 c_t0_4], .int .i64 o1, .agg #[.int .i64 A2_0, .int .i64 A2_1, .int .i64 A2_2, .int .i64 A2_3, .int .i64 A2_4, .int .i64 A2_5, .int .i64 A2_6, .int .i64 A2_7, .int .i64 A2_8, .int .i64 A2_9, .slice a_A2_10 A2_10.length c_A2_10]] [] S fun v H' S' => ∃ (a0_ : Option Addr) (c0_ : Nat) (NF_ : List Own), v = .agg #[.int .i64 r0_, .int .i64 r1_, .int .i64 r2_, .int .i64 r3_, .int .i64 r4_, .int .i64 r5_, .int .i64 r6_, .int .i64 r7_, .int .i64 r8_, .int .i64 r9_, .slice a0_ r10_.length c0_] ∧ H' = (NF_ ++ []) ∧ S' = S ∧ SlN (rdOf (NF_ ++ []) S) N_0 r10_ a0_ := by
  unfold glyphicref20_Cmd_v1.f at e
  refine cal_of (c := c16) (N := 155) Tryd.func16 rfl rfl (by kernel_rfl) (rs := [.cn 11 6]) (by kernel_rfl) (Nat.le_of_ble_eq_true rfl) ?_
  unfold c16
  refine w_seq ?_
  refine w_reg fun all => ?_
  refine t_a (.box rfl rfl rfl) fun b594 fb594 sb594 => ?_
  refine t_a (.box rfl rfl rfl) fun b595 fb595 sb595 => ?_
  refine t_a (.new rfl rfl) fun b596 fb596 sb596 => ?_
  refine t_keep [1, 3, 5, 6] (σ' := [(1, .int .i64 o1), (3, .pointer (some ⟨b594, 0, none⟩)), (5, .pointer (some ⟨b595, 0, none⟩)), (6, .pointer (some ⟨b596, 0, none⟩))]) (by kernel_rfl) ?_
  refine t_end ?_
  show W _ _ _ _ _ _ _
  refine w_seq ?_
  refine w_reg fun all => ?_
  refine t_qz 1 [1, 3, 5, 6, 13] (σ' := [(1, .int .i64 o1), (3, .pointer (some ⟨b594, 0, none⟩)), (5, .pointer (some ⟨b595, 0, none⟩)), (6, .pointer (some ⟨b596, 0, none⟩)), (13, .pointer (some ⟨b595, 0, none⟩))]) (by kernel_rfl) ?_
  refine t_v (.ld1 rfl rfl rfl (.at 1 rfl rfl)) ?_
  refine t_qz 1 [1, 3, 5, 6, 14, 15] (σ' := [(1, .int .i64 o1), (3, .pointer (some ⟨b594, 0, none⟩)), (5, .pointer (some ⟨b595, 0, none⟩)), (6, .pointer (some ⟨b596, 0, none⟩)), (14, .int .i64 A2_0), (15, .pointer (some ⟨b595, 1, none⟩))]) (by kernel_rfl) ?_
  refine t_v (.ld1 rfl rfl rfl (.at 1 rfl rfl)) ?_
  refine t_qz 2 [1, 3, 5, 6, 14, 16, 18] (σ' := [(1, .int .i64 o1), (3, .pointer (some ⟨b594, 0, none⟩)), (5, .pointer (some ⟨b595, 0, none⟩)), (6, .pointer (some ⟨b596, 0, none⟩)), (14, .int .i64 A2_0), (16, .int .i64 A2_1), (18, .pointer (some ⟨b595, 3, none⟩))]) (by kernel_rfl) ?_
  refine t_v (.ld1 rfl rfl rfl (.at 1 rfl rfl)) ?_
  refine t_qz 2 [1, 3, 5, 6, 14, 16, 19, 21] (σ' := [(1, .int .i64 o1), (3, .pointer (some ⟨b594, 0, none⟩)), (5, .pointer (some ⟨b595, 0, none⟩)), (6, .pointer (some ⟨b596, 0, none⟩)), (14, .int .i64 A2_0), (16, .int .i64 A2_1), (19, .int .i64 A2_3), (21, .pointer (some ⟨b595, 4, none⟩))]) (by kernel_rfl) ?_
  refine t_v (.ld1 rfl rfl rfl (.at 1 rfl rfl)) ?_
  refine t_qz 2 [1, 3, 5, 6, 14, 16, 19, 22, 24] (σ' := [(1, .int .i64 o1), (3, .pointer (some ⟨b594, 0, none⟩)), (5, .pointer (some ⟨b595, 0, none⟩)), (6, .pointer (some ⟨b596, 0, none⟩)), (14, .int .i64 A2_0), (16, .int .i64 A2_1), (19, .int .i64 A2_3), (22, .int .i64 A2_4), (24, .pointer (some ⟨b595, 5, none⟩))]) (by kernel_rfl) ?_
  refine t_v (.ld1 rfl rfl rfl (.at 1 rfl rfl)) ?_
  refine t_qz 2 [1, 3, 5, 6, 27] (σ' := [(1, .int .i64 o1), (3, .pointer (some ⟨b594, 0, none⟩)), (5, .pointer (some ⟨b595, 0, none⟩)), (6, .pointer (some ⟨b596, 0, none⟩)), (27, .agg #[.int .i64 A2_0, .int .i64 A2_1, .int .i64 0, .int .i64 A2_3, .int .i64 A2_4, .int .i64 A2_5, .int .i64 0, .int .i64 0, .int .i64 0, .int .i64 0, .slice none 0 0])]) (by kernel_rfl) ?_
  refine t_a (.new rfl rfl) fun b597 fb597 sb597 => ?_
  refine t_sti 0 (cs := [.int .i64 A2_0, .int .i64 A2_1, .int .i64 0, .int .i64 A2_3, .int .i64 A2_4, .int .i64 A2_5, .int .i64 0, .int .i64 0, .int .i64 0, .int .i64 0, .slice none 0 0]) rfl rfl rfl rfl rfl rfl rfl rfl rfl ?_
  refine t_keep [1, 3, 5, 6, 7] (σ' := [(1, .int .i64 o1), (3, .pointer (some ⟨b594, 0, none⟩)), (5, .pointer (some ⟨b595, 0, none⟩)), (6, .pointer (some ⟨b596, 0, none⟩)), (7, .pointer (some ⟨b597, 0, none⟩))]) (by kernel_rfl) ?_
  refine t_end ?_
  show W _ _ _ _ _ _ _
  obtain ⟨x604, e599, e⟩ := bind_of e
  refine w_cut [1, 3, 5, 6, 7] (fun σ_ H_ S_ => [(1, .int .i64 o1), (3, .pointer (some ⟨b594, 0, none⟩)), (5, .pointer (some ⟨b595, 0, none⟩)), (6, .pointer (some ⟨b596, 0, none⟩)), (7, .pointer (some ⟨b597, 0, none⟩))] = σ_ ∧ ([⟨b597, [.int .i64 A2_0, .int .i64 A2_1, .int .i64 x604, .int .i64 A2_3, .int .i64 A2_4, .int .i64 A2_5, .int .i64 0, .int .i64 0, .int .i64 0, .int .i64 0, .slice none 0 0], 11⟩, ⟨b596, [.int .i64 0, .int .i64 0, .int .i64 0, .int .i64 0, .int .i64 0, .int .i64 0, .int .i64 0, .int .i64 0, .int .i64 0, .int .i64 0, .slice none 0 0], 11⟩, ⟨b595, [.int .i64 A2_0, .int .i64 A2_1, .int .i64 A2_2, .int .i64 A2_3, .int .i64 A2_4, .int .i64 A2_5, .int .i64 A2_6, .int .i64 A2_7, .int .i64 A2_8, .int .i64 A2_9, .slice a_A2_10 A2_10.length c_A2_10], 11⟩, ⟨b594, [.int .i64 t0_0, .int .i64 t0_1, .int .i64 t0_2, .slice a_t0_3 n_t0_3 c_t0_3, .slice a_t0_4 n_t0_4 c_t0_4], 5⟩] : List Own) = H_ ∧ S = S_) ?_ ?_
  · show W _ _ _ _ _ _ _
    refine w_seq ?_
    refine w_reg fun all => ?_
    refine t_qz 1 [1, 3, 5, 6, 7, 28] (σ' := [(1, .int .i64 o1), (3, .pointer (some ⟨b594, 0, none⟩)), (5, .pointer (some ⟨b595, 0, none⟩)), (6, .pointer (some ⟨b596, 0, none⟩)), (7, .pointer (some ⟨b597, 0, none⟩)), (28, .pointer (some ⟨b595, 0, none⟩))]) (by kernel_rfl) ?_
    refine t_v (.ld1 rfl rfl rfl (.at 2 rfl rfl)) ?_
    by_cases c601 : A2_0 = 2
    · rw [if_pos c601] at e599
      have c601b : (A2_0 == 2) = true := beq_iff_eq.mpr c601
      refine t_v (dv_quiet rfl (congrArg (fun t => some (Value.bool t)) c601b)) ?_
      refine t_keep [1, 3, 5, 6, 7, 30] (σ' := [(1, .int .i64 o1), (3, .pointer (some ⟨b594, 0, none⟩)), (5, .pointer (some ⟨b595, 0, none⟩)), (6, .pointer (some ⟨b596, 0, none⟩)), (7, .pointer (some ⟨b597, 0, none⟩)), (30, .bool true)]) (by kernel_rfl) ?_
      refine t_end ?_
      show W _ _ _ _ _ _ _
      refine w_cond rfl (fun _ => ?_) (fun c_ => by cases c_)
      show W _ _ _ _ _ _ _
      refine w_reg fun all => ?_
      refine t_v (.ldn rfl rfl rfl (.at 3 rfl rfl)) ?_
      refine t_qz 2 [1, 3, 5, 6, 7, 31, 32, 33] (σ' := [(1, .int .i64 o1), (3, .pointer (some ⟨b594, 0, none⟩)), (5, .pointer (some ⟨b595, 0, none⟩)), (6, .pointer (some ⟨b596, 0, none⟩)), (7, .pointer (some ⟨b597, 0, none⟩)), (31, .agg #[.int .i64 t0_0, .int .i64 t0_1, .int .i64 t0_2, .slice a_t0_3 n_t0_3 c_t0_3, .slice a_t0_4 n_t0_4 c_t0_4]), (32, .int .i64 o1), (33, .pointer (some ⟨b595, 2, none⟩))]) (by kernel_rfl) ?_
      refine t_v (.ld1 rfl rfl rfl (.at 2 rfl rfl)) ?_
      obtain ⟨t602, h603, e599⟩ := bind_of e599
      refine t_v (.call (vs := [.agg #[.int .i64 t0_0, .int .i64 t0_1, .int .i64 t0_2, .slice a_t0_3 n_t0_3 c_t0_3, .slice a_t0_4 n_t0_4 c_t0_4], .int .i64 o1, .int .i64 A2_2]) rfl rfl (by kernel_rfl) (glyphicref20_At_v1.ok hE_ h603)) ?_
      refine t_qz 2 [1, 3, 5, 6, 7, 36, 37] (σ' := [(1, .int .i64 o1), (3, .pointer (some ⟨b594, 0, none⟩)), (5, .pointer (some ⟨b595, 0, none⟩)), (6, .pointer (some ⟨b596, 0, none⟩)), (7, .pointer (some ⟨b597, 0, none⟩)), (36, .int .i64 (mx t602 1)), (37, .pointer (some ⟨b597, 2, none⟩))]) (by kernel_rfl) ?_
      refine t_sti 0 (cs := [.int .i64 A2_0, .int .i64 A2_1, .int .i64 (mx t602 1), .int .i64 A2_3, .int .i64 A2_4, .int .i64 A2_5, .int .i64 0, .int .i64 0, .int .i64 0, .int .i64 0, .slice none 0 0]) rfl rfl rfl rfl rfl rfl rfl rfl rfl ?_
      refine t_keep [1, 3, 5, 6, 7] (σ' := [(1, .int .i64 o1), (3, .pointer (some ⟨b594, 0, none⟩)), (5, .pointer (some ⟨b595, 0, none⟩)), (6, .pointer (some ⟨b596, 0, none⟩)), (7, .pointer (some ⟨b597, 0, none⟩))]) (by kernel_rfl) ?_
      refine t_end ?_
      obtain rfl := Option.some.inj e599
      exact ⟨([⟨b597, [.int .i64 A2_0, .int .i64 A2_1, .int .i64 (mx t602 1), .int .i64 A2_3, .int .i64 A2_4, .int .i64 A2_5, .int .i64 0, .int .i64 0, .int .i64 0, .int .i64 0, .slice none 0 0], 11⟩, ⟨b596, [.int .i64 0, .int .i64 0, .int .i64 0, .int .i64 0, .int .i64 0, .int .i64 0, .int .i64 0, .int .i64 0, .int .i64 0, .int .i64 0, .slice none 0 0], 11⟩, ⟨b595, [.int .i64 A2_0, .int .i64 A2_1, .int .i64 A2_2, .int .i64 A2_3, .int .i64 A2_4, .int .i64 A2_5, .int .i64 A2_6, .int .i64 A2_7, .int .i64 A2_8, .int .i64 A2_9, .slice a_A2_10 A2_10.length c_A2_10], 11⟩, ⟨b594, [.int .i64 t0_0, .int .i64 t0_1, .int .i64 t0_2, .slice a_t0_3 n_t0_3 c_t0_3, .slice a_t0_4 n_t0_4 c_t0_4], 5⟩] : List Own), S, VS.sel [0, 0, 0, 0] (by kernel_rfl), by kernel_rfl, rfl, rfl⟩
    · rw [if_neg c601] at e599
      have c601b : (A2_0 == 2) = false := beq_eq_false_iff_ne.mpr c601
      refine t_v (dv_quiet rfl (congrArg (fun t => some (Value.bool t)) c601b)) ?_
      refine t_keep [1, 3, 5, 6, 7, 30] (σ' := [(1, .int .i64 o1), (3, .pointer (some ⟨b594, 0, none⟩)), (5, .pointer (some ⟨b595, 0, none⟩)), (6, .pointer (some ⟨b596, 0, none⟩)), (7, .pointer (some ⟨b597, 0, none⟩)), (30, .bool false)]) (by kernel_rfl) ?_
      refine t_end ?_
      show W _ _ _ _ _ _ _
      refine w_cond rfl (fun c_ => by cases c_) (fun _ => ?_)
      show W _ _ _ _ _ _ _
      refine w_skip ?_
      obtain rfl := Option.some.inj e599
      exact ⟨([⟨b597, [.int .i64 A2_0, .int .i64 A2_1, .int .i64 0, .int .i64 A2_3, .int .i64 A2_4, .int .i64 A2_5, .int .i64 0, .int .i64 0, .int .i64 0, .int .i64 0, .slice none 0 0], 11⟩, ⟨b596, [.int .i64 0, .int .i64 0, .int .i64 0, .int .i64 0, .int .i64 0, .int .i64 0, .int .i64 0, .int .i64 0, .int .i64 0, .int .i64 0, .slice none 0 0], 11⟩, ⟨b595, [.int .i64 A2_0, .int .i64 A2_1, .int .i64 A2_2, .int .i64 A2_3, .int .i64 A2_4, .int .i64 A2_5, .int .i64 A2_6, .int .i64 A2_7, .int .i64 A2_8, .int .i64 A2_9, .slice a_A2_10 A2_10.length c_A2_10], 11⟩, ⟨b594, [.int .i64 t0_0, .int .i64 t0_1, .int .i64 t0_2, .slice a_t0_3 n_t0_3 c_t0_3, .slice a_t0_4 n_t0_4 c_t0_4], 5⟩] : List Own), S, VS.sel [0, 0, 0, 0] (by kernel_rfl), by kernel_rfl, rfl, rfl⟩
  · rintro σ_ H_ S_ ⟨rfl, rfl, rfl⟩
    obtain ⟨⟨x615, x616, x617, x618⟩, e606, e⟩ := bind_of e
    try dsimp only at e
    refine w_cut [1, 3, 5, 6, 7] (fun σ_ H_ S_ => [(1, .int .i64 o1), (3, .pointer (some ⟨b594, 0, none⟩)), (5, .pointer (some ⟨b595, 0, none⟩)), (6, .pointer (some ⟨b596, 0, none⟩)), (7, .pointer (some ⟨b597, 0, none⟩))] = σ_ ∧ ([⟨b597, [.int .i64 A2_0, .int .i64 A2_1, .int .i64 x604, .int .i64 A2_3, .int .i64 A2_4, .int .i64 A2_5, .int .i64 x615, .int .i64 x616, .int .i64 x617, .int .i64 x618, .slice none 0 0], 11⟩, ⟨b596, [.int .i64 0, .int .i64 0, .int .i64 0, .int .i64 0, .int .i64 0, .int .i64 0, .int .i64 0, .int .i64 0, .int .i64 0, .int .i64 0, .slice none 0 0], 11⟩, ⟨b595, [.int .i64 A2_0, .int .i64 A2_1, .int .i64 A2_2, .int .i64 A2_3, .int .i64 A2_4, .int .i64 A2_5, .int .i64 A2_6, .int .i64 A2_7, .int .i64 A2_8, .int .i64 A2_9, .slice a_A2_10 A2_10.length c_A2_10], 11⟩, ⟨b594, [.int .i64 t0_0, .int .i64 t0_1, .int .i64 t0_2, .slice a_t0_3 n_t0_3 c_t0_3, .slice a_t0_4 n_t0_4 c_t0_4], 5⟩] : List Own) = H_ ∧ S = S_) ?_ ?_
    · show W _ _ _ _ _ _ _
      refine w_seq ?_
      refine w_reg fun all => ?_
      refine t_qz 2 [1, 3, 5, 6, 7, 39] (σ' := [(1, .int .i64 o1), (3, .pointer (some ⟨b594, 0, none⟩)), (5, .pointer (some ⟨b595, 0, none⟩)), (6, .pointer (some ⟨b596, 0, none⟩)), (7, .pointer (some ⟨b597, 0, none⟩)), (39, .pointer (some ⟨b595, 3, none⟩))]) (by kernel_rfl) ?_
      refine t_v (.ld1 rfl rfl rfl (.at 2 rfl rfl)) ?_
      by_cases c608 : A2_3 = 0
      · rw [if_pos c608] at e606
        have c608b : (A2_3 == 0) = true := beq_iff_eq.mpr c608
        refine t_v (dv_quiet rfl (congrArg (fun t => some (Value.bool (!t))) c608b)) ?_
        refine t_keep [1, 3, 5, 6, 7, 41] (σ' := [(1, .int .i64 o1), (3, .pointer (some ⟨b594, 0, none⟩)), (5, .pointer (some ⟨b595, 0, none⟩)), (6, .pointer (some ⟨b596, 0, none⟩)), (7, .pointer (some ⟨b597, 0, none⟩)), (41, .bool false)]) (by kernel_rfl) ?_
        refine t_end ?_
        show W _ _ _ _ _ _ _
        refine w_cond rfl (fun c_ => by cases c_) (fun _ => ?_)
        show W _ _ _ _ _ _ _
        refine w_skip ?_
        simp only [Option.some.injEq, Prod.mk.injEq] at e606
        obtain ⟨rfl, rfl, rfl, rfl⟩ := e606
        exact ⟨([⟨b597, [.int .i64 A2_0, .int .i64 A2_1, .int .i64 x604, .int .i64 A2_3, .int .i64 A2_4, .int .i64 A2_5, .int .i64 0, .int .i64 0, .int .i64 0, .int .i64 0, .slice none 0 0], 11⟩, ⟨b596, [.int .i64 0, .int .i64 0, .int .i64 0, .int .i64 0, .int .i64 0, .int .i64 0, .int .i64 0, .int .i64 0, .int .i64 0, .int .i64 0, .slice none 0 0], 11⟩, ⟨b595, [.int .i64 A2_0, .int .i64 A2_1, .int .i64 A2_2, .int .i64 A2_3, .int .i64 A2_4, .int .i64 A2_5, .int .i64 A2_6, .int .i64 A2_7, .int .i64 A2_8, .int .i64 A2_9, .slice a_A2_10 A2_10.length c_A2_10], 11⟩, ⟨b594, [.int .i64 t0_0, .int .i64 t0_1, .int .i64 t0_2, .slice a_t0_3 n_t0_3 c_t0_3, .slice a_t0_4 n_t0_4 c_t0_4], 5⟩] : List Own), S, VS.sel [0, 0, 0, 0] (by kernel_rfl), by kernel_rfl, rfl, rfl⟩
      · rw [if_neg c608] at e606
        have c608b : (A2_3 == 0) = false := beq_eq_false_iff_ne.mpr c608
        refine t_v (dv_quiet rfl (congrArg (fun t => some (Value.bool (!t))) c608b)) ?_
        refine t_keep [1, 3, 5, 6, 7, 41] (σ' := [(1, .int .i64 o1), (3, .pointer (some ⟨b594, 0, none⟩)), (5, .pointer (some ⟨b595, 0, none⟩)), (6, .pointer (some ⟨b596, 0, none⟩)), (7, .pointer (some ⟨b597, 0, none⟩)), (41, .bool true)]) (by kernel_rfl) ?_
        refine t_end ?_
        show W _ _ _ _ _ _ _
        refine w_cond rfl (fun _ => ?_) (fun c_ => by cases c_)
        show W _ _ _ _ _ _ _
        refine w_seq ?_
        refine w_reg fun all => ?_
        refine t_v (.ldn rfl rfl rfl (.at 3 rfl rfl)) ?_
        refine t_qz 3 [1, 3, 5, 6, 7, 42, 43, 45] (σ' := [(1, .int .i64 o1), (3, .pointer (some ⟨b594, 0, none⟩)), (5, .pointer (some ⟨b595, 0, none⟩)), (6, .pointer (some ⟨b596, 0, none⟩)), (7, .pointer (some ⟨b597, 0, none⟩)), (42, .agg #[.int .i64 t0_0, .int .i64 t0_1, .int .i64 t0_2, .slice a_t0_3 n_t0_3 c_t0_3, .slice a_t0_4 n_t0_4 c_t0_4]), (43, .int .i64 o1), (45, .pointer (some ⟨b595, 6, none⟩))]) (by kernel_rfl) ?_
        refine t_v (.ldn rfl rfl rfl (.at 2 rfl rfl)) ?_
        obtain ⟨⟨t609, t610⟩, h611, e606⟩ := bind_of e606
        try dsimp only at e606
        refine t_v (.call (vs := [.agg #[.int .i64 t0_0, .int .i64 t0_1, .int .i64 t0_2, .slice a_t0_3 n_t0_3 c_t0_3, .slice a_t0_4 n_t0_4 c_t0_4], .int .i64 o1, .agg #[.int .i64 A2_6, .int .i64 A2_7]]) rfl rfl (by kernel_rfl) (glyphicref20_point_v1.ok hE_ h611)) ?_
        refine t_qz 2 [1, 3, 5, 6, 7, 47, 49] (σ' := [(1, .int .i64 o1), (3, .pointer (some ⟨b594, 0, none⟩)), (5, .pointer (some ⟨b595, 0, none⟩)), (6, .pointer (some ⟨b596, 0, none⟩)), (7, .pointer (some ⟨b597, 0, none⟩)), (47, .agg #[.int .i64 t609, .int .i64 t610]), (49, .pointer (some ⟨b597, 6, none⟩))]) (by kernel_rfl) ?_
        refine t_sti 0 (cs := [.int .i64 A2_0, .int .i64 A2_1, .int .i64 x604, .int .i64 A2_3, .int .i64 A2_4, .int .i64 A2_5, .int .i64 t609, .int .i64 t610, .int .i64 0, .int .i64 0, .slice none 0 0]) rfl rfl rfl rfl rfl rfl rfl rfl rfl ?_
        refine t_keep [1, 3, 5, 6, 7] (σ' := [(1, .int .i64 o1), (3, .pointer (some ⟨b594, 0, none⟩)), (5, .pointer (some ⟨b595, 0, none⟩)), (6, .pointer (some ⟨b596, 0, none⟩)), (7, .pointer (some ⟨b597, 0, none⟩))]) (by kernel_rfl) ?_
        refine t_end ?_
        show W _ _ _ _ _ _ _
        refine w_reg fun all => ?_
        refine t_v (.ldn rfl rfl rfl (.at 3 rfl rfl)) ?_
        refine t_qz 3 [1, 3, 5, 6, 7, 50, 51, 53] (σ' := [(1, .int .i64 o1), (3, .pointer (some ⟨b594, 0, none⟩)), (5, .pointer (some ⟨b595, 0, none⟩)), (6, .pointer (some ⟨b596, 0, none⟩)), (7, .pointer (some ⟨b597, 0, none⟩)), (50, .agg #[.int .i64 t0_0, .int .i64 t0_1, .int .i64 t0_2, .slice a_t0_3 n_t0_3 c_t0_3, .slice a_t0_4 n_t0_4 c_t0_4]), (51, .int .i64 o1), (53, .pointer (some ⟨b595, 8, none⟩))]) (by kernel_rfl) ?_
        refine t_v (.ldn rfl rfl rfl (.at 2 rfl rfl)) ?_
        obtain ⟨⟨t612, t613⟩, h614, e606⟩ := bind_of e606
        try dsimp only at e606
        refine t_v (.call (vs := [.agg #[.int .i64 t0_0, .int .i64 t0_1, .int .i64 t0_2, .slice a_t0_3 n_t0_3 c_t0_3, .slice a_t0_4 n_t0_4 c_t0_4], .int .i64 o1, .agg #[.int .i64 A2_8, .int .i64 A2_9]]) rfl rfl (by kernel_rfl) (glyphicref20_point_v1.ok hE_ h614)) ?_
        refine t_qz 2 [1, 3, 5, 6, 7, 55, 57] (σ' := [(1, .int .i64 o1), (3, .pointer (some ⟨b594, 0, none⟩)), (5, .pointer (some ⟨b595, 0, none⟩)), (6, .pointer (some ⟨b596, 0, none⟩)), (7, .pointer (some ⟨b597, 0, none⟩)), (55, .agg #[.int .i64 t612, .int .i64 t613]), (57, .pointer (some ⟨b597, 8, none⟩))]) (by kernel_rfl) ?_
        refine t_sti 0 (cs := [.int .i64 A2_0, .int .i64 A2_1, .int .i64 x604, .int .i64 A2_3, .int .i64 A2_4, .int .i64 A2_5, .int .i64 t609, .int .i64 t610, .int .i64 t612, .int .i64 t613, .slice none 0 0]) rfl rfl rfl rfl rfl rfl rfl rfl rfl ?_
        refine t_keep [1, 3, 5, 6, 7] (σ' := [(1, .int .i64 o1), (3, .pointer (some ⟨b594, 0, none⟩)), (5, .pointer (some ⟨b595, 0, none⟩)), (6, .pointer (some ⟨b596, 0, none⟩)), (7, .pointer (some ⟨b597, 0, none⟩))]) (by kernel_rfl) ?_
        refine t_end ?_
        simp only [Option.some.injEq, Prod.mk.injEq] at e606
        obtain ⟨rfl, rfl, rfl, rfl⟩ := e606
        exact ⟨([⟨b597, [.int .i64 A2_0, .int .i64 A2_1, .int .i64 x604, .int .i64 A2_3, .int .i64 A2_4, .int .i64 A2_5, .int .i64 t609, .int .i64 t610, .int .i64 t612, .int .i64 t613, .slice none 0 0], 11⟩, ⟨b596, [.int .i64 0, .int .i64 0, .int .i64 0, .int .i64 0, .int .i64 0, .int .i64 0, .int .i64 0, .int .i64 0, .int .i64 0, .int .i64 0, .slice none 0 0], 11⟩, ⟨b595, [.int .i64 A2_0, .int .i64 A2_1, .int .i64 A2_2, .int .i64 A2_3, .int .i64 A2_4, .int .i64 A2_5, .int .i64 A2_6, .int .i64 A2_7, .int .i64 A2_8, .int .i64 A2_9, .slice a_A2_10 A2_10.length c_A2_10], 11⟩, ⟨b594, [.int .i64 t0_0, .int .i64 t0_1, .int .i64 t0_2, .slice a_t0_3 n_t0_3 c_t0_3, .slice a_t0_4 n_t0_4 c_t0_4], 5⟩] : List Own), S, VS.sel [0, 0, 0, 0] (by kernel_rfl), by kernel_rfl, rfl, rfl⟩
    · rintro σ_ H_ S_ ⟨rfl, rfl, rfl⟩
      obtain ⟨⟨x625, x626⟩, e620, e⟩ := bind_of e
      try dsimp only at e
      refine w_cut [1, 3, 5, 6, 7] (fun σ_ H_ S_ => [(1, .int .i64 o1), (3, .pointer (some ⟨b594, 0, none⟩)), (5, .pointer (some ⟨b595, 0, none⟩)), (6, .pointer (some ⟨b596, 0, none⟩)), (7, .pointer (some ⟨b597, 0, none⟩))] = σ_ ∧ ([⟨b597, [.int .i64 A2_0, .int .i64 A2_1, .int .i64 x604, .int .i64 A2_3, .int .i64 A2_4, .int .i64 A2_5, .int .i64 x615, .int .i64 x616, .int .i64 x625, .int .i64 x626, .slice none 0 0], 11⟩, ⟨b596, [.int .i64 0, .int .i64 0, .int .i64 0, .int .i64 0, .int .i64 0, .int .i64 0, .int .i64 0, .int .i64 0, .int .i64 0, .int .i64 0, .slice none 0 0], 11⟩, ⟨b595, [.int .i64 A2_0, .int .i64 A2_1, .int .i64 A2_2, .int .i64 A2_3, .int .i64 A2_4, .int .i64 A2_5, .int .i64 A2_6, .int .i64 A2_7, .int .i64 A2_8, .int .i64 A2_9, .slice a_A2_10 A2_10.length c_A2_10], 11⟩, ⟨b594, [.int .i64 t0_0, .int .i64 t0_1, .int .i64 t0_2, .slice a_t0_3 n_t0_3 c_t0_3, .slice a_t0_4 n_t0_4 c_t0_4], 5⟩] : List Own) = H_ ∧ S = S_) ?_ ?_
      · show W _ _ _ _ _ _ _
        refine w_seq ?_
        refine w_reg fun all => ?_
        refine t_qz 2 [1, 3, 5, 6, 7, 59] (σ' := [(1, .int .i64 o1), (3, .pointer (some ⟨b594, 0, none⟩)), (5, .pointer (some ⟨b595, 0, none⟩)), (6, .pointer (some ⟨b596, 0, none⟩)), (7, .pointer (some ⟨b597, 0, none⟩)), (59, .pointer (some ⟨b595, 3, none⟩))]) (by kernel_rfl) ?_
        refine t_v (.ld1 rfl rfl rfl (.at 2 rfl rfl)) ?_
        by_cases c622 : A2_3 = 2
        · rw [if_pos c622] at e620
          have c622b : (A2_3 == 2) = true := beq_iff_eq.mpr c622
          refine t_v (dv_quiet rfl (congrArg (fun t => some (Value.bool t)) c622b)) ?_
          refine t_keep [1, 3, 5, 6, 7, 61] (σ' := [(1, .int .i64 o1), (3, .pointer (some ⟨b594, 0, none⟩)), (5, .pointer (some ⟨b595, 0, none⟩)), (6, .pointer (some ⟨b596, 0, none⟩)), (7, .pointer (some ⟨b597, 0, none⟩)), (61, .bool true)]) (by kernel_rfl) ?_
          refine t_end ?_
          show W _ _ _ _ _ _ _
          refine w_cond rfl (fun _ => ?_) (fun c_ => by cases c_)
          show W _ _ _ _ _ _ _
          refine w_reg fun all => ?_
          refine t_v (.ldn rfl rfl rfl (.at 3 rfl rfl)) ?_
          refine t_qz 4 [1, 3, 5, 6, 7, 62, 63, 66] (σ' := [(1, .int .i64 o1), (3, .pointer (some ⟨b594, 0, none⟩)), (5, .pointer (some ⟨b595, 0, none⟩)), (6, .pointer (some ⟨b596, 0, none⟩)), (7, .pointer (some ⟨b597, 0, none⟩)), (62, .agg #[.int .i64 t0_0, .int .i64 t0_1, .int .i64 t0_2, .slice a_t0_3 n_t0_3 c_t0_3, .slice a_t0_4 n_t0_4 c_t0_4]), (63, .int .i64 o1), (66, .pointer (some ⟨b595, 8, none⟩))]) (by kernel_rfl) ?_
          refine t_v (.ld1 rfl rfl rfl (.at 2 rfl rfl)) ?_
          obtain ⟨t623, h624, e620⟩ := bind_of e620
          refine t_v (.call (vs := [.agg #[.int .i64 t0_0, .int .i64 t0_1, .int .i64 t0_2, .slice a_t0_3 n_t0_3 c_t0_3, .slice a_t0_4 n_t0_4 c_t0_4], .int .i64 o1, .int .i64 A2_8]) rfl rfl (by kernel_rfl) (glyphicref20_At_v1.ok hE_ h624)) ?_
          refine t_qz 4 [1, 3, 5, 6, 7, 70, 72] (σ' := [(1, .int .i64 o1), (3, .pointer (some ⟨b594, 0, none⟩)), (5, .pointer (some ⟨b595, 0, none⟩)), (6, .pointer (some ⟨b596, 0, none⟩)), (7, .pointer (some ⟨b597, 0, none⟩)), (70, .agg #[.int .i64 (mx t623 1), .int .i64 0]), (72, .pointer (some ⟨b597, 8, none⟩))]) (by kernel_rfl) ?_
          refine t_sti 0 (cs := [.int .i64 A2_0, .int .i64 A2_1, .int .i64 x604, .int .i64 A2_3, .int .i64 A2_4, .int .i64 A2_5, .int .i64 x615, .int .i64 x616, .int .i64 (mx t623 1), .int .i64 0, .slice none 0 0]) rfl rfl rfl rfl rfl rfl rfl rfl rfl ?_
          refine t_keep [1, 3, 5, 6, 7] (σ' := [(1, .int .i64 o1), (3, .pointer (some ⟨b594, 0, none⟩)), (5, .pointer (some ⟨b595, 0, none⟩)), (6, .pointer (some ⟨b596, 0, none⟩)), (7, .pointer (some ⟨b597, 0, none⟩))]) (by kernel_rfl) ?_
          refine t_end ?_
          simp only [Option.some.injEq, Prod.mk.injEq] at e620
          obtain ⟨rfl, rfl⟩ := e620
          exact ⟨([⟨b597, [.int .i64 A2_0, .int .i64 A2_1, .int .i64 x604, .int .i64 A2_3, .int .i64 A2_4, .int .i64 A2_5, .int .i64 x615, .int .i64 x616, .int .i64 (mx t623 1), .int .i64 0, .slice none 0 0], 11⟩, ⟨b596, [.int .i64 0, .int .i64 0, .int .i64 0, .int .i64 0, .int .i64 0, .int .i64 0, .int .i64 0, .int .i64 0, .int .i64 0, .int .i64 0, .slice none 0 0], 11⟩, ⟨b595, [.int .i64 A2_0, .int .i64 A2_1, .int .i64 A2_2, .int .i64 A2_3, .int .i64 A2_4, .int .i64 A2_5, .int .i64 A2_6, .int .i64 A2_7, .int .i64 A2_8, .int .i64 A2_9, .slice a_A2_10 A2_10.length c_A2_10], 11⟩, ⟨b594, [.int .i64 t0_0, .int .i64 t0_1, .int .i64 t0_2, .slice a_t0_3 n_t0_3 c_t0_3, .slice a_t0_4 n_t0_4 c_t0_4], 5⟩] : List Own), S, VS.sel [0, 0, 0, 0] (by kernel_rfl), by kernel_rfl, rfl, rfl⟩
        · rw [if_neg c622] at e620
          have c622b : (A2_3 == 2) = false := beq_eq_false_iff_ne.mpr c622
          refine t_v (dv_quiet rfl (congrArg (fun t => some (Value.bool t)) c622b)) ?_
          refine t_keep [1, 3, 5, 6, 7, 61] (σ' := [(1, .int .i64 o1), (3, .pointer (some ⟨b594, 0, none⟩)), (5, .pointer (some ⟨b595, 0, none⟩)), (6, .pointer (some ⟨b596, 0, none⟩)), (7, .pointer (some ⟨b597, 0, none⟩)), (61, .bool false)]) (by kernel_rfl) ?_
          refine t_end ?_
          show W _ _ _ _ _ _ _
          refine w_cond rfl (fun c_ => by cases c_) (fun _ => ?_)
          show W _ _ _ _ _ _ _
          refine w_skip ?_
          simp only [Option.some.injEq, Prod.mk.injEq] at e620
          obtain ⟨rfl, rfl⟩ := e620
          exact ⟨([⟨b597, [.int .i64 A2_0, .int .i64 A2_1, .int .i64 x604, .int .i64 A2_3, .int .i64 A2_4, .int .i64 A2_5, .int .i64 x615, .int .i64 x616, .int .i64 x617, .int .i64 x618, .slice none 0 0], 11⟩, ⟨b596, [.int .i64 0, .int .i64 0, .int .i64 0, .int .i64 0, .int .i64 0, .int .i64 0, .int .i64 0, .int .i64 0, .int .i64 0, .int .i64 0, .slice none 0 0], 11⟩, ⟨b595, [.int .i64 A2_0, .int .i64 A2_1, .int .i64 A2_2, .int .i64 A2_3, .int .i64 A2_4, .int .i64 A2_5, .int .i64 A2_6, .int .i64 A2_7, .int .i64 A2_8, .int .i64 A2_9, .slice a_A2_10 A2_10.length c_A2_10], 11⟩, ⟨b594, [.int .i64 t0_0, .int .i64 t0_1, .int .i64 t0_2, .slice a_t0_3 n_t0_3 c_t0_3, .slice a_t0_4 n_t0_4 c_t0_4], 5⟩] : List Own), S, VS.sel [0, 0, 0, 0] (by kernel_rfl), by kernel_rfl, rfl, rfl⟩
      · rintro σ_ H_ S_ ⟨rfl, rfl, rfl⟩
        obtain ⟨y816, e628, e⟩ := bind_of e
        refine w_cut [6, 7] (fun σ_ H_ S_ => ∃ (a815 : Option Nat) (na815 : Nat) (csa815 : List Value) (Fa815 : List Own), [(6, .pointer (some ⟨b596, 0, none⟩)), (7, .pointer (some ⟨b597, 0, none⟩))] = σ_ ∧ (([⟨b597, [.int .i64 A2_0, .int .i64 A2_1, .int .i64 x604, .int .i64 A2_3, .int .i64 A2_4, .int .i64 A2_5, .int .i64 x615, .int .i64 x616, .int .i64 x625, .int .i64 x626, .slice (ad a815) y816.length (na815 / 4)], 11⟩, ⟨b596, [.int .i64 0, .int .i64 0, .int .i64 0, .int .i64 0, .int .i64 0, .int .i64 0, .int .i64 0, .int .i64 0, .int .i64 0, .int .i64 0, .slice none 0 0], 11⟩, ⟨b595, [.int .i64 A2_0, .int .i64 A2_1, .int .i64 A2_2, .int .i64 A2_3, .int .i64 A2_4, .int .i64 A2_5, .int .i64 A2_6, .int .i64 A2_7, .int .i64 A2_8, .int .i64 A2_9, .slice a_A2_10 A2_10.length c_A2_10], 11⟩, ⟨b594, [.int .i64 t0_0, .int .i64 t0_1, .int .i64 t0_2, .slice a_t0_3 n_t0_3 c_t0_3, .slice a_t0_4 n_t0_4 c_t0_4], 5⟩, ⟨a815, csa815, na815⟩] : List Own) ++ (Fa815 ++ [])) = H_ ∧ S = S_ ∧ RL (rdOf (Fa815 ++ []) S) N_0 y816 csa815) ?_ ?_
        · show W _ _ _ _ _ _ _
          refine w_seq ?_
          refine w_reg fun all => ?_
          refine t_qz 1 [1, 3, 5, 6, 7, 8] (σ' := [(1, .int .i64 o1), (3, .pointer (some ⟨b594, 0, none⟩)), (5, .pointer (some ⟨b595, 0, none⟩)), (6, .pointer (some ⟨b596, 0, none⟩)), (7, .pointer (some ⟨b597, 0, none⟩)), (8, .int .i64 0)]) (by kernel_rfl) ?_
          refine t_end ?_
          show W _ _ _ _ _ _ _
          refine w_block ?_
          refine w_vs VS.vac ?_
          refine w_kp [1, 3, 5, 6, 7, 8] (σ' := [(1, .int .i64 o1), (3, .pointer (some ⟨b594, 0, none⟩)), (5, .pointer (some ⟨b595, 0, none⟩)), (6, .pointer (some ⟨b596, 0, none⟩)), (7, .pointer (some ⟨b597, 0, none⟩)), (8, .int .i64 0)]) (by kernel_rfl) ?_
          refine w_vs (H' := (([⟨none, [], 0⟩, ⟨b597, [.int .i64 A2_0, .int .i64 A2_1, .int .i64 x604, .int .i64 A2_3, .int .i64 A2_4, .int .i64 A2_5, .int .i64 x615, .int .i64 x616, .int .i64 x625, .int .i64 x626, .slice (ad none) ([] : List (Int × Int × List (Int × Int × Int × Int × Int × Int × Int) × Bool)).length (0 / 4)], 11⟩, ⟨b596, [.int .i64 0, .int .i64 0, .int .i64 0, .int .i64 0, .int .i64 0, .int .i64 0, .int .i64 0, .int .i64 0, .int .i64 0, .int .i64 0, .slice none 0 0], 11⟩, ⟨b595, [.int .i64 A2_0, .int .i64 A2_1, .int .i64 A2_2, .int .i64 A2_3, .int .i64 A2_4, .int .i64 A2_5, .int .i64 A2_6, .int .i64 A2_7, .int .i64 A2_8, .int .i64 A2_9, .slice a_A2_10 A2_10.length c_A2_10], 11⟩, ⟨b594, [.int .i64 t0_0, .int .i64 t0_1, .int .i64 t0_2, .slice a_t0_3 n_t0_3 c_t0_3, .slice a_t0_4 n_t0_4 c_t0_4], 5⟩] : List Own) ++ (([] : List Own) ++ []))) (S' := S) (VS.treeA (.l ([⟨none, [], 0⟩, ⟨b597, [.int .i64 A2_0, .int .i64 A2_1, .int .i64 x604, .int .i64 A2_3, .int .i64 A2_4, .int .i64 A2_5, .int .i64 x615, .int .i64 x616, .int .i64 x625, .int .i64 x626, .slice (ad none) ([] : List (Int × Int × List (Int × Int × Int × Int × Int × Int × Int) × Bool)).length (0 / 4)], 11⟩, ⟨b596, [.int .i64 0, .int .i64 0, .int .i64 0, .int .i64 0, .int .i64 0, .int .i64 0, .int .i64 0, .int .i64 0, .int .i64 0, .int .i64 0, .slice none 0 0], 11⟩, ⟨b595, [.int .i64 A2_0, .int .i64 A2_1, .int .i64 A2_2, .int .i64 A2_3, .int .i64 A2_4, .int .i64 A2_5, .int .i64 A2_6, .int .i64 A2_7, .int .i64 A2_8, .int .i64 A2_9, .slice a_A2_10 A2_10.length c_A2_10], 11⟩, ⟨b594, [.int .i64 t0_0, .int .i64 t0_1, .int .i64 t0_2, .slice a_t0_3 n_t0_3 c_t0_3, .slice a_t0_4 n_t0_4 c_t0_4], 5⟩] : List Own)) (.a (.l ([⟨none, [], 0⟩, ⟨b597, [.int .i64 A2_0, .int .i64 A2_1, .int .i64 x604, .int .i64 A2_3, .int .i64 A2_4, .int .i64 A2_5, .int .i64 x615, .int .i64 x616, .int .i64 x625, .int .i64 x626, .slice (ad none) ([] : List (Int × Int × List (Int × Int × Int × Int × Int × Int × Int) × Bool)).length (0 / 4)], 11⟩, ⟨b596, [.int .i64 0, .int .i64 0, .int .i64 0, .int .i64 0, .int .i64 0, .int .i64 0, .int .i64 0, .int .i64 0, .int .i64 0, .int .i64 0, .slice none 0 0], 11⟩, ⟨b595, [.int .i64 A2_0, .int .i64 A2_1, .int .i64 A2_2, .int .i64 A2_3, .int .i64 A2_4, .int .i64 A2_5, .int .i64 A2_6, .int .i64 A2_7, .int .i64 A2_8, .int .i64 A2_9, .slice a_A2_10 A2_10.length c_A2_10], 11⟩, ⟨b594, [.int .i64 t0_0, .int .i64 t0_1, .int .i64 t0_2, .slice a_t0_3 n_t0_3 c_t0_3, .slice a_t0_4 n_t0_4 c_t0_4], 5⟩] : List Own)) (.a (.l ([] : List Own)) (.l []))) [0, 0, 0, 0, 0] (by kernel_rfl)) ?_
          refine w_loop (fun n_ σ_ H_ S_ => ∃ (x630 : Int) (y632 : List (Int × Int × List (Int × Int × Int × Int × Int × Int × Int) × Bool)), ∃ (a631 : Option Nat) (na631 : Nat) (csa631 : List Value) (Fa631 : List Own), [(1, .int .i64 o1), (3, .pointer (some ⟨b594, 0, none⟩)), (5, .pointer (some ⟨b595, 0, none⟩)), (6, .pointer (some ⟨b596, 0, none⟩)), (7, .pointer (some ⟨b597, 0, none⟩)), (8, .int .i64 x630)] = σ_ ∧ (([⟨a631, csa631, na631⟩, ⟨b597, [.int .i64 A2_0, .int .i64 A2_1, .int .i64 x604, .int .i64 A2_3, .int .i64 A2_4, .int .i64 A2_5, .int .i64 x615, .int .i64 x616, .int .i64 x625, .int .i64 x626, .slice (ad a631) y632.length (na631 / 4)], 11⟩, ⟨b596, [.int .i64 0, .int .i64 0, .int .i64 0, .int .i64 0, .int .i64 0, .int .i64 0, .int .i64 0, .int .i64 0, .int .i64 0, .int .i64 0, .slice none 0 0], 11⟩, ⟨b595, [.int .i64 A2_0, .int .i64 A2_1, .int .i64 A2_2, .int .i64 A2_3, .int .i64 A2_4, .int .i64 A2_5, .int .i64 A2_6, .int .i64 A2_7, .int .i64 A2_8, .int .i64 A2_9, .slice a_A2_10 A2_10.length c_A2_10], 11⟩, ⟨b594, [.int .i64 t0_0, .int .i64 t0_1, .int .i64 t0_2, .slice a_t0_3 n_t0_3 c_t0_3, .slice a_t0_4 n_t0_4 c_t0_4], 5⟩] : List Own) ++ (Fa631 ++ [])) = H_ ∧ S = S_ ∧ glyphicref20_Cmd_v1.l0 n_ t0_0 t0_1 t0_2 o1 A2_10 x630 y632 = some y816 ∧ RL (rdOf (Fa631 ++ []) S) N_0 y632 csa631) _ ⟨0, ([] : List (Int × Int × List (Int × Int × Int × Int × Int × Int × Int) × Bool)), none, 0, [], ([] : List Own), rfl, rfl, rfl, e628, RL.mono (RL.nil (R := rdOf [] S) (E := N_0)) (rd_sub seg_hd)⟩ ?_
          rintro n814 σ_ H_ S_ ⟨x630, y632, a631, na631, csa631, Fa631, rfl, rfl, rfl, e628, hra631⟩
          cases n814 with
          | zero => rw [glyphicref20_Cmd_v1.l0.eq_1] at e628; cases e628
          | succ k_ =>
            rw [glyphicref20_Cmd_v1.l0.eq_2] at e628
            refine w_seq ?_
            refine w_seq ?_
            refine w_reg fun all => ?_
            refine t_qz 2 [1, 3, 5, 6, 7, 8, 73, 74] (σ' := [(1, .int .i64 o1), (3, .pointer (some ⟨b594, 0, none⟩)), (5, .pointer (some ⟨b595, 0, none⟩)), (6, .pointer (some ⟨b596, 0, none⟩)), (7, .pointer (some ⟨b597, 0, none⟩)), (8, .int .i64 x630), (73, .int .i64 x630), (74, .pointer (some ⟨b595, 10, none⟩))]) (by kernel_rfl) ?_
            refine t_v (.ld1 rfl rfl rfl (.at 3 rfl rfl)) ?_
            by_cases c633 : x630 < (A2_10.length : Int)
            · rw [if_pos c633] at e628
              have c633b : (decide (x630 < (A2_10.length : Int))) = true := decide_eq_true c633
              refine t_qz 1 [1, 3, 5, 6, 7, 8, 73, 76] (σ' := [(1, .int .i64 o1), (3, .pointer (some ⟨b594, 0, none⟩)), (5, .pointer (some ⟨b595, 0, none⟩)), (6, .pointer (some ⟨b596, 0, none⟩)), (7, .pointer (some ⟨b597, 0, none⟩)), (8, .int .i64 x630), (73, .int .i64 x630), (76, .int .i64 (A2_10.length : Int))]) (by kernel_rfl) ?_
              refine t_v (dv_quiet rfl (congrArg (fun t => some (Value.bool t)) c633b)) ?_
              refine t_keep [1, 3, 5, 6, 7, 8, 77] (σ' := [(1, .int .i64 o1), (3, .pointer (some ⟨b594, 0, none⟩)), (5, .pointer (some ⟨b595, 0, none⟩)), (6, .pointer (some ⟨b596, 0, none⟩)), (7, .pointer (some ⟨b597, 0, none⟩)), (8, .int .i64 x630), (77, .bool true)]) (by kernel_rfl) ?_
              refine t_end ?_
              show W _ _ _ _ _ _ _
              refine w_cond rfl (fun _ => ?_) (fun c_ => by cases c_)
              show W _ _ _ _ _ _ _
              refine w_skip ?_
              show W _ _ _ _ _ _ _
              obtain ⟨y812, e635, e628⟩ := bind_of e628
              refine w_cut [1, 3, 5, 6, 7, 8] (fun σ_ H_ S_ => ∃ (a811 : Option Nat) (na811 : Nat) (csa811 : List Value) (Fa811 : List Own), [(1, .int .i64 o1), (3, .pointer (some ⟨b594, 0, none⟩)), (5, .pointer (some ⟨b595, 0, none⟩)), (6, .pointer (some ⟨b596, 0, none⟩)), (7, .pointer (some ⟨b597, 0, none⟩)), (8, .int .i64 x630)] = σ_ ∧ (([⟨b597, [.int .i64 A2_0, .int .i64 A2_1, .int .i64 x604, .int .i64 A2_3, .int .i64 A2_4, .int .i64 A2_5, .int .i64 x615, .int .i64 x616, .int .i64 x625, .int .i64 x626, .slice (ad a811) y812.length (na811 / 4)], 11⟩, ⟨b596, [.int .i64 0, .int .i64 0, .int .i64 0, .int .i64 0, .int .i64 0, .int .i64 0, .int .i64 0, .int .i64 0, .int .i64 0, .int .i64 0, .slice none 0 0], 11⟩, ⟨b595, [.int .i64 A2_0, .int .i64 A2_1, .int .i64 A2_2, .int .i64 A2_3, .int .i64 A2_4, .int .i64 A2_5, .int .i64 A2_6, .int .i64 A2_7, .int .i64 A2_8, .int .i64 A2_9, .slice a_A2_10 A2_10.length c_A2_10], 11⟩, ⟨b594, [.int .i64 t0_0, .int .i64 t0_1, .int .i64 t0_2, .slice a_t0_3 n_t0_3 c_t0_3, .slice a_t0_4 n_t0_4 c_t0_4], 5⟩, ⟨a811, csa811, na811⟩] : List Own) ++ (Fa811 ++ [])) = H_ ∧ S = S_ ∧ RL (rdOf (Fa811 ++ []) S) N_0 y812 csa811) ?_ ?_
              · show W _ _ _ _ _ _ _
                refine w_block ?_
                refine w_seq ?_
                obtain ⟨⟨x637, x638, x639, x640⟩, hx641, e635⟩ := bind_of e635
                try dsimp only at e635
                obtain ⟨lb642, lo643, ll644, vs_, la645, lR646, lv647, hrep_, lz648, lu649⟩ := sln_get (E := N_0) h_A2_10 hx641
                obtain ⟨na650, nc651, rfl, nh652⟩ := hrep_
                obtain ⟨⟨t653, t654⟩, h655, e635⟩ := bind_of e635
                try dsimp only at e635
                obtain ⟨⟨x656, x657, x658, x659⟩, hx660, e635⟩ := bind_of e635
                try dsimp only at e635
                obtain ⟨lb661, lo662, ll663, vs_, la664, lR665, lv666, hrep_, lz667, lu668⟩ := sln_get (E := N_0) h_A2_10 hx660
                obtain ⟨na669, nc670, rfl, nh671⟩ := hrep_
                refine w_drwE mixed 17 [.v (.agg #[.int .i64 t0_0, .int .i64 t0_1, .int .i64 t0_2, .slice a_t0_3 n_t0_3 c_t0_3, .slice a_t0_4 n_t0_4 c_t0_4]), .v (.int .i64 o1), .v (.pointer (some ⟨b595, 10, none⟩)), .v (.slice a_A2_10 A2_10.length c_A2_10), .v (.int .i64 x630), .v (.pointer (some ⟨lb642, lo643 + (x630).toNat * 4 + 0, none⟩)), .v (.pointer (some ⟨lb642, lo643 + (x630).toNat * 4 + 0, none⟩)), .v (.agg #[.int .i64 x637, .int .i64 x638]), .v (.agg #[.int .i64 t653, .int .i64 t654]), .v (.pointer (some ⟨b595, 10, none⟩)), .v (.slice a_A2_10 A2_10.length c_A2_10), .v (.int .i64 x630), .v (.pointer (some ⟨lb661, lo662 + (x630).toNat * 4 + 0, none⟩)), .v (.pointer (some ⟨lb661, lo662 + (x630).toNat * 4 + 3, none⟩)), .v (.bool x659), .v (.agg #[.int .i64 t653, .int .i64 t654, .slice none 0 0, .bool x659]), .a [.int .i64 0, .int .i64 0, .slice none 0 0, .bool false] ptrTo] (by kernel_rfl) ?_ ?_
                · refine .cons (.ldn rfl rfl rfl (.at 4 rfl rfl)) ?_
                  refine DI.sq 2 (by kernel_rfl) rfl ?_
                  refine .cons (.ld1 rfl rfl rfl (.at 3 rfl rfl)) ?_
                  refine DI.sq 1 (by kernel_rfl) rfl ?_
                  refine .cons (.quiet rfl (ixs_sle rfl rfl la645 lz648 lu649)) ?_
                  refine DI.sq 1 (by kernel_rfl) rfl ?_
                  refine .cons (.ldn (vs := [.int .i64 x637, .int .i64 x638]) rfl rfl rfl (rd_n lR646 sub_nil (subl_sub lv647 (by kernel_rfl)))) ?_
                  refine .cons (.call (vs := [.agg #[.int .i64 t0_0, .int .i64 t0_1, .int .i64 t0_2, .slice a_t0_3 n_t0_3 c_t0_3, .slice a_t0_4 n_t0_4 c_t0_4], .int .i64 o1, .agg #[.int .i64 x637, .int .i64 x638]]) rfl rfl (by kernel_rfl) (glyphicref20_point_v1.ok hE_ h655)) ?_
                  refine DI.sq 1 (by kernel_rfl) rfl ?_
                  refine .cons (.ld1 rfl rfl rfl (.at 3 rfl rfl)) ?_
                  refine DI.sq 1 (by kernel_rfl) rfl ?_
                  refine .cons (.quiet rfl (ixs_sle rfl rfl la664 lz667 lu668)) ?_
                  refine DI.sq 1 (by kernel_rfl) rfl ?_
                  refine .cons (.ld1 rfl rfl rfl (rd_1 lR665 sub_nil (subl_at lv666 rfl))) ?_
                  refine DI.sq 1 (by kernel_rfl) rfl ?_
                  refine .cons (.new rfl rfl) ?_
                  exact .nil
                refine fk_q 16 [1, 3, 5, 6, 7, 8, 95] (σ' := [(1, .int .i64 o1), (3, .pointer (some ⟨b594, 0, none⟩)), (5, .pointer (some ⟨b595, 0, none⟩)), (6, .pointer (some ⟨b596, 0, none⟩)), (7, .pointer (some ⟨b597, 0, none⟩)), (8, .int .i64 x630), (95, .agg #[.int .i64 t653, .int .i64 t654, .slice none 0 0, .bool x659])]) t_more (by kernel_rfl) ?_
                refine fk_a fun b672 fb672 sb672 => ?_
                refine fk_nil fun all => ?_
                refine t_sti 0 (cs := [.int .i64 t653, .int .i64 t654, .slice none 0 0, .bool x659]) rfl rfl rfl rfl rfl rfl rfl rfl rfl ?_
                refine t_keep [1, 3, 5, 6, 7, 8, 9] (σ' := [(1, .int .i64 o1), (3, .pointer (some ⟨b594, 0, none⟩)), (5, .pointer (some ⟨b595, 0, none⟩)), (6, .pointer (some ⟨b596, 0, none⟩)), (7, .pointer (some ⟨b597, 0, none⟩)), (8, .int .i64 x630), (9, .pointer (some ⟨b672, 0, none⟩))]) (by kernel_rfl) ?_
                refine t_end ?_
                show W _ _ _ _ _ _ _
                obtain ⟨y806, e674, e635⟩ := bind_of e635
                refine w_cut [1, 3, 5, 6, 7, 8, 9] (fun σ_ H_ S_ => ∃ (a805 : Option Nat) (na805 : Nat), [(1, .int .i64 o1), (3, .pointer (some ⟨b594, 0, none⟩)), (5, .pointer (some ⟨b595, 0, none⟩)), (6, .pointer (some ⟨b596, 0, none⟩)), (7, .pointer (some ⟨b597, 0, none⟩)), (8, .int .i64 x630), (9, .pointer (some ⟨b672, 0, none⟩))] = σ_ ∧ (([⟨b672, [.int .i64 t653, .int .i64 t654, .slice (ad a805) y806.length (na805 / 7), .bool x659], 4⟩, ⟨b597, [.int .i64 A2_0, .int .i64 A2_1, .int .i64 x604, .int .i64 A2_3, .int .i64 A2_4, .int .i64 A2_5, .int .i64 x615, .int .i64 x616, .int .i64 x625, .int .i64 x626, .slice (ad a631) y632.length (na631 / 4)], 11⟩, ⟨b596, [.int .i64 0, .int .i64 0, .int .i64 0, .int .i64 0, .int .i64 0, .int .i64 0, .int .i64 0, .int .i64 0, .int .i64 0, .int .i64 0, .slice none 0 0], 11⟩, ⟨b595, [.int .i64 A2_0, .int .i64 A2_1, .int .i64 A2_2, .int .i64 A2_3, .int .i64 A2_4, .int .i64 A2_5, .int .i64 A2_6, .int .i64 A2_7, .int .i64 A2_8, .int .i64 A2_9, .slice a_A2_10 A2_10.length c_A2_10], 11⟩, ⟨b594, [.int .i64 t0_0, .int .i64 t0_1, .int .i64 t0_2, .slice a_t0_3 n_t0_3 c_t0_3, .slice a_t0_4 n_t0_4 c_t0_4], 5⟩, ⟨a805, encL E_i647 y806, na805⟩, ⟨a631, csa631, na631⟩] : List Own) ++ (Fa631 ++ [])) = H_ ∧ S = S_) ?_ ?_
                · show W _ _ _ _ _ _ _
                  refine w_seq ?_
                  refine w_reg fun all => ?_
                  refine t_qz 1 [1, 3, 5, 6, 7, 8, 9, 10] (σ' := [(1, .int .i64 o1), (3, .pointer (some ⟨b594, 0, none⟩)), (5, .pointer (some ⟨b595, 0, none⟩)), (6, .pointer (some ⟨b596, 0, none⟩)), (7, .pointer (some ⟨b597, 0, none⟩)), (8, .int .i64 x630), (9, .pointer (some ⟨b672, 0, none⟩)), (10, .int .i64 0)]) (by kernel_rfl) ?_
                  refine t_end ?_
                  show W _ _ _ _ _ _ _
                  refine w_block ?_
                  refine w_vs VS.vac ?_
                  refine w_kp [1, 3, 5, 6, 7, 8, 9, 10] (σ' := [(1, .int .i64 o1), (3, .pointer (some ⟨b594, 0, none⟩)), (5, .pointer (some ⟨b595, 0, none⟩)), (6, .pointer (some ⟨b596, 0, none⟩)), (7, .pointer (some ⟨b597, 0, none⟩)), (8, .int .i64 x630), (9, .pointer (some ⟨b672, 0, none⟩)), (10, .int .i64 0)]) (by kernel_rfl) ?_
                  refine w_loop (fun n_ σ_ H_ S_ => ∃ (x676 : Int) (y678 : List (Int × Int × Int × Int × Int × Int × Int)), ∃ (a677 : Option Nat) (na677 : Nat), [(1, .int .i64 o1), (3, .pointer (some ⟨b594, 0, none⟩)), (5, .pointer (some ⟨b595, 0, none⟩)), (6, .pointer (some ⟨b596, 0, none⟩)), (7, .pointer (some ⟨b597, 0, none⟩)), (8, .int .i64 x630), (9, .pointer (some ⟨b672, 0, none⟩)), (10, .int .i64 x676)] = σ_ ∧ (([⟨a677, encL E_i647 y678, na677⟩, ⟨b672, [.int .i64 t653, .int .i64 t654, .slice (ad a677) y678.length (na677 / 7), .bool x659], 4⟩, ⟨a631, csa631, na631⟩, ⟨b597, [.int .i64 A2_0, .int .i64 A2_1, .int .i64 x604, .int .i64 A2_3, .int .i64 A2_4, .int .i64 A2_5, .int .i64 x615, .int .i64 x616, .int .i64 x625, .int .i64 x626, .slice (ad a631) y632.length (na631 / 4)], 11⟩, ⟨b596, [.int .i64 0, .int .i64 0, .int .i64 0, .int .i64 0, .int .i64 0, .int .i64 0, .int .i64 0, .int .i64 0, .int .i64 0, .int .i64 0, .slice none 0 0], 11⟩, ⟨b595, [.int .i64 A2_0, .int .i64 A2_1, .int .i64 A2_2, .int .i64 A2_3, .int .i64 A2_4, .int .i64 A2_5, .int .i64 A2_6, .int .i64 A2_7, .int .i64 A2_8, .int .i64 A2_9, .slice a_A2_10 A2_10.length c_A2_10], 11⟩, ⟨b594, [.int .i64 t0_0, .int .i64 t0_1, .int .i64 t0_2, .slice a_t0_3 n_t0_3 c_t0_3, .slice a_t0_4 n_t0_4 c_t0_4], 5⟩] : List Own) ++ (Fa631 ++ [])) = H_ ∧ S = S_ ∧ glyphicref20_Cmd_v1.l1 n_ t0_0 t0_1 t0_2 o1 A2_10 x630 x676 y678 = some y806) _ ⟨0, ([] : List (Int × Int × Int × Int × Int × Int × Int)), none, 0, rfl, rfl, rfl, e674⟩ ?_
                  rintro n804 σ_ H_ S_ ⟨x676, y678, a677, na677, rfl, rfl, rfl, e674⟩
                  cases n804 with
                  | zero => rw [glyphicref20_Cmd_v1.l1.eq_1] at e674; cases e674
                  | succ k_ =>
                    rw [glyphicref20_Cmd_v1.l1.eq_2] at e674
                    refine w_seq ?_
                    refine w_seq ?_
                    refine w_reg fun all => ?_
                    refine t_qz 2 [1, 3, 5, 6, 7, 8, 9, 10, 96, 97] (σ' := [(1, .int .i64 o1), (3, .pointer (some ⟨b594, 0, none⟩)), (5, .pointer (some ⟨b595, 0, none⟩)), (6, .pointer (some ⟨b596, 0, none⟩)), (7, .pointer (some ⟨b597, 0, none⟩)), (8, .int .i64 x630), (9, .pointer (some ⟨b672, 0, none⟩)), (10, .int .i64 x676), (96, .int .i64 x676), (97, .pointer (some ⟨b595, 10, none⟩))]) (by kernel_rfl) ?_
                    refine t_v (.ld1 rfl rfl rfl (.at 5 rfl rfl)) ?_
                    obtain ⟨⟨x679, x680, x681, x682⟩, hx683, e674⟩ := bind_of e674
                    try dsimp only at e674
                    obtain ⟨lb684, lo685, ll686, vs_, la687, lR688, lv689, hrep_, lz690, lu691⟩ := sln_get (E := N_0) h_A2_10 hx683
                    obtain ⟨na692, nc693, rfl, nh694⟩ := hrep_
                    refine t_qz 1 [1, 3, 5, 6, 7, 8, 9, 10, 96, 98, 99] (σ' := [(1, .int .i64 o1), (3, .pointer (some ⟨b594, 0, none⟩)), (5, .pointer (some ⟨b595, 0, none⟩)), (6, .pointer (some ⟨b596, 0, none⟩)), (7, .pointer (some ⟨b597, 0, none⟩)), (8, .int .i64 x630), (9, .pointer (some ⟨b672, 0, none⟩)), (10, .int .i64 x676), (96, .int .i64 x676), (98, .slice a_A2_10 A2_10.length c_A2_10), (99, .int .i64 x630)]) (by kernel_rfl) ?_
                    refine t_v (.quiet rfl (ixs_sle rfl rfl la687 lz690 lu691)) ?_
                    refine t_qz 1 [1, 3, 5, 6, 7, 8, 9, 10, 96, 101] (σ' := [(1, .int .i64 o1), (3, .pointer (some ⟨b594, 0, none⟩)), (5, .pointer (some ⟨b595, 0, none⟩)), (6, .pointer (some ⟨b596, 0, none⟩)), (7, .pointer (some ⟨b597, 0, none⟩)), (8, .int .i64 x630), (9, .pointer (some ⟨b672, 0, none⟩)), (10, .int .i64 x676), (96, .int .i64 x676), (101, .pointer (some ⟨lb684, lo685 + (x630).toNat * 4 + 2, none⟩))]) (by kernel_rfl) ?_
                    refine t_v (.ld1 rfl rfl rfl (rd_1 lR688 sub_nil (subl_at lv689 rfl))) ?_
                    by_cases c695 : x676 < (x681.length : Int)
                    · rw [if_pos c695] at e674
                      have c695b : (decide (x676 < (x681.length : Int))) = true := decide_eq_true c695
                      refine t_qz 1 [1, 3, 5, 6, 7, 8, 9, 10, 96, 103] (σ' := [(1, .int .i64 o1), (3, .pointer (some ⟨b594, 0, none⟩)), (5, .pointer (some ⟨b595, 0, none⟩)), (6, .pointer (some ⟨b596, 0, none⟩)), (7, .pointer (some ⟨b597, 0, none⟩)), (8, .int .i64 x630), (9, .pointer (some ⟨b672, 0, none⟩)), (10, .int .i64 x676), (96, .int .i64 x676), (103, .int .i64 (x681.length : Int))]) (by kernel_rfl) ?_
                      refine t_v (dv_quiet rfl (congrArg (fun t => some (Value.bool t)) c695b)) ?_
                      refine t_keep [1, 3, 5, 6, 7, 8, 9, 10, 104] (σ' := [(1, .int .i64 o1), (3, .pointer (some ⟨b594, 0, none⟩)), (5, .pointer (some ⟨b595, 0, none⟩)), (6, .pointer (some ⟨b596, 0, none⟩)), (7, .pointer (some ⟨b597, 0, none⟩)), (8, .int .i64 x630), (9, .pointer (some ⟨b672, 0, none⟩)), (10, .int .i64 x676), (104, .bool true)]) (by kernel_rfl) ?_
                      refine t_end ?_
                      show W _ _ _ _ _ _ _
                      refine w_cond rfl (fun _ => ?_) (fun c_ => by cases c_)
                      show W _ _ _ _ _ _ _
                      refine w_skip ?_
                      show W _ _ _ _ _ _ _
                      obtain ⟨y802, e697, e674⟩ := bind_of e674
                      refine w_cut [1, 3, 5, 6, 7, 8, 9, 10] (fun σ_ H_ S_ => ∃ (a801 : Option Nat) (na801 : Nat), [(1, .int .i64 o1), (3, .pointer (some ⟨b594, 0, none⟩)), (5, .pointer (some ⟨b595, 0, none⟩)), (6, .pointer (some ⟨b596, 0, none⟩)), (7, .pointer (some ⟨b597, 0, none⟩)), (8, .int .i64 x630), (9, .pointer (some ⟨b672, 0, none⟩)), (10, .int .i64 x676)] = σ_ ∧ (([⟨b672, [.int .i64 t653, .int .i64 t654, .slice (ad a801) y802.length (na801 / 7), .bool x659], 4⟩, ⟨b597, [.int .i64 A2_0, .int .i64 A2_1, .int .i64 x604, .int .i64 A2_3, .int .i64 A2_4, .int .i64 A2_5, .int .i64 x615, .int .i64 x616, .int .i64 x625, .int .i64 x626, .slice (ad a631) y632.length (na631 / 4)], 11⟩, ⟨b596, [.int .i64 0, .int .i64 0, .int .i64 0, .int .i64 0, .int .i64 0, .int .i64 0, .int .i64 0, .int .i64 0, .int .i64 0, .int .i64 0, .slice none 0 0], 11⟩, ⟨b595, [.int .i64 A2_0, .int .i64 A2_1, .int .i64 A2_2, .int .i64 A2_3, .int .i64 A2_4, .int .i64 A2_5, .int .i64 A2_6, .int .i64 A2_7, .int .i64 A2_8, .int .i64 A2_9, .slice a_A2_10 A2_10.length c_A2_10], 11⟩, ⟨b594, [.int .i64 t0_0, .int .i64 t0_1, .int .i64 t0_2, .slice a_t0_3 n_t0_3 c_t0_3, .slice a_t0_4 n_t0_4 c_t0_4], 5⟩, ⟨a801, encL E_i647 y802, na801⟩, ⟨a631, csa631, na631⟩] : List Own) ++ (Fa631 ++ [])) = H_ ∧ S = S_) ?_ ?_
                      · show W _ _ _ _ _ _ _
                        refine w_block ?_
                        refine w_seq ?_
                        refine w_reg fun all => ?_
                        refine t_qz 1 [1, 3, 5, 6, 7, 8, 9, 10, 107] (σ' := [(1, .int .i64 o1), (3, .pointer (some ⟨b594, 0, none⟩)), (5, .pointer (some ⟨b595, 0, none⟩)), (6, .pointer (some ⟨b596, 0, none⟩)), (7, .pointer (some ⟨b597, 0, none⟩)), (8, .int .i64 x630), (9, .pointer (some ⟨b672, 0, none⟩)), (10, .int .i64 x676), (107, .pointer (some ⟨b595, 10, none⟩))]) (by kernel_rfl) ?_
                        refine t_v (.ld1 rfl rfl rfl (.at 5 rfl rfl)) ?_
                        obtain ⟨⟨x699, x700, x701, x702⟩, hx703, e697⟩ := bind_of e697
                        try dsimp only at e697
                        obtain ⟨lb704, lo705, ll706, vs_, la707, lR708, lv709, hrep_, lz710, lu711⟩ := sln_get (E := N_0) h_A2_10 hx703
                        obtain ⟨na712, nc713, rfl, nh714⟩ := hrep_
                        refine t_qz 1 [1, 3, 5, 6, 7, 8, 9, 10, 108, 109] (σ' := [(1, .int .i64 o1), (3, .pointer (some ⟨b594, 0, none⟩)), (5, .pointer (some ⟨b595, 0, none⟩)), (6, .pointer (some ⟨b596, 0, none⟩)), (7, .pointer (some ⟨b597, 0, none⟩)), (8, .int .i64 x630), (9, .pointer (some ⟨b672, 0, none⟩)), (10, .int .i64 x676), (108, .slice a_A2_10 A2_10.length c_A2_10), (109, .int .i64 x630)]) (by kernel_rfl) ?_
                        refine t_v (.quiet rfl (ixs_sle rfl rfl la707 lz710 lu711)) ?_
                        refine t_qz 1 [1, 3, 5, 6, 7, 8, 9, 10, 111] (σ' := [(1, .int .i64 o1), (3, .pointer (some ⟨b594, 0, none⟩)), (5, .pointer (some ⟨b595, 0, none⟩)), (6, .pointer (some ⟨b596, 0, none⟩)), (7, .pointer (some ⟨b597, 0, none⟩)), (8, .int .i64 x630), (9, .pointer (some ⟨b672, 0, none⟩)), (10, .int .i64 x676), (111, .pointer (some ⟨lb704, lo705 + (x630).toNat * 4 + 2, none⟩))]) (by kernel_rfl) ?_
                        refine t_v (.ld1 rfl rfl rfl (rd_1 lR708 sub_nil (subl_at lv709 rfl))) ?_
                        obtain ⟨⟨x715, x716, x717, x718, x719, x720, x721⟩, hx722, e697⟩ := bind_of e697
                        try dsimp only at e697
                        obtain ⟨lb723, lo724, ll725, vs_, la726, lR727, lv728, hrep_, lz729, lu730⟩ := sln_get (E := (flatN E_i647)) nh714 hx722
                        obtain rfl := (show vs_ = _ from hrep_)
                        refine t_qz 1 [1, 3, 5, 6, 7, 8, 9, 10, 112, 113] (σ' := [(1, .int .i64 o1), (3, .pointer (some ⟨b594, 0, none⟩)), (5, .pointer (some ⟨b595, 0, none⟩)), (6, .pointer (some ⟨b596, 0, none⟩)), (7, .pointer (some ⟨b597, 0, none⟩)), (8, .int .i64 x630), (9, .pointer (some ⟨b672, 0, none⟩)), (10, .int .i64 x676), (112, .slice na712 x701.length nc713), (113, .int .i64 x676)]) (by kernel_rfl) ?_
                        refine t_v (.quiet rfl (ixs_sle rfl rfl la726 lz729 lu730)) ?_
                        refine t_qz 1 [1, 3, 5, 6, 7, 8, 9, 10, 115] (σ' := [(1, .int .i64 o1), (3, .pointer (some ⟨b594, 0, none⟩)), (5, .pointer (some ⟨b595, 0, none⟩)), (6, .pointer (some ⟨b596, 0, none⟩)), (7, .pointer (some ⟨b597, 0, none⟩)), (8, .int .i64 x630), (9, .pointer (some ⟨b672, 0, none⟩)), (10, .int .i64 x676), (115, .pointer (some ⟨lb723, lo724 + (x676).toNat * 7 + 0, none⟩))]) (by kernel_rfl) ?_
                        refine t_v (.ld1 rfl rfl rfl (rd_1 lR727 sub_nil (subl_at lv728 rfl))) ?_
                        refine t_qz 1 [1, 3, 5, 6, 7, 8, 9, 10, 117] (σ' := [(1, .int .i64 o1), (3, .pointer (some ⟨b594, 0, none⟩)), (5, .pointer (some ⟨b595, 0, none⟩)), (6, .pointer (some ⟨b596, 0, none⟩)), (7, .pointer (some ⟨b597, 0, none⟩)), (8, .int .i64 x630), (9, .pointer (some ⟨b672, 0, none⟩)), (10, .int .i64 x676), (117, .agg #[.int .i64 x715, .int .i64 0, .int .i64 0, .int .i64 0, .int .i64 0, .int .i64 0, .int .i64 0])]) (by kernel_rfl) ?_
                        refine t_a (.new rfl rfl) fun b731 fb731 sb731 => ?_
                        refine t_sti 0 (cs := [.int .i64 x715, .int .i64 0, .int .i64 0, .int .i64 0, .int .i64 0, .int .i64 0, .int .i64 0]) rfl rfl rfl rfl rfl rfl rfl rfl rfl ?_
                        refine t_keep [1, 3, 5, 6, 7, 8, 9, 10, 11] (σ' := [(1, .int .i64 o1), (3, .pointer (some ⟨b594, 0, none⟩)), (5, .pointer (some ⟨b595, 0, none⟩)), (6, .pointer (some ⟨b596, 0, none⟩)), (7, .pointer (some ⟨b597, 0, none⟩)), (8, .int .i64 x630), (9, .pointer (some ⟨b672, 0, none⟩)), (10, .int .i64 x676), (11, .pointer (some ⟨b731, 0, none⟩))]) (by kernel_rfl) ?_
                        refine t_end ?_
                        show W _ _ _ _ _ _ _
                        obtain ⟨⟨x791, x792, x793, x794, x795, x796⟩, e733, e697⟩ := bind_of e697
                        try dsimp only at e697
                        refine w_cut [1, 3, 5, 6, 7, 8, 9, 10, 11] (fun σ_ H_ S_ => [(1, .int .i64 o1), (3, .pointer (some ⟨b594, 0, none⟩)), (5, .pointer (some ⟨b595, 0, none⟩)), (6, .pointer (some ⟨b596, 0, none⟩)), (7, .pointer (some ⟨b597, 0, none⟩)), (8, .int .i64 x630), (9, .pointer (some ⟨b672, 0, none⟩)), (10, .int .i64 x676), (11, .pointer (some ⟨b731, 0, none⟩))] = σ_ ∧ (([⟨b731, [.int .i64 x715, .int .i64 x791, .int .i64 x792, .int .i64 x793, .int .i64 x794, .int .i64 x795, .int .i64 x796], 7⟩, ⟨b672, [.int .i64 t653, .int .i64 t654, .slice (ad a677) y678.length (na677 / 7), .bool x659], 4⟩, ⟨b597, [.int .i64 A2_0, .int .i64 A2_1, .int .i64 x604, .int .i64 A2_3, .int .i64 A2_4, .int .i64 A2_5, .int .i64 x615, .int .i64 x616, .int .i64 x625, .int .i64 x626, .slice (ad a631) y632.length (na631 / 4)], 11⟩, ⟨b596, [.int .i64 0, .int .i64 0, .int .i64 0, .int .i64 0, .int .i64 0, .int .i64 0, .int .i64 0, .int .i64 0, .int .i64 0, .int .i64 0, .slice none 0 0], 11⟩, ⟨b595, [.int .i64 A2_0, .int .i64 A2_1, .int .i64 A2_2, .int .i64 A2_3, .int .i64 A2_4, .int .i64 A2_5, .int .i64 A2_6, .int .i64 A2_7, .int .i64 A2_8, .int .i64 A2_9, .slice a_A2_10 A2_10.length c_A2_10], 11⟩, ⟨b594, [.int .i64 t0_0, .int .i64 t0_1, .int .i64 t0_2, .slice a_t0_3 n_t0_3 c_t0_3, .slice a_t0_4 n_t0_4 c_t0_4], 5⟩, ⟨a677, encL E_i647 y678, na677⟩, ⟨a631, csa631, na631⟩] : List Own) ++ (Fa631 ++ [])) = H_ ∧ S = S_) ?_ ?_
                        · show W _ _ _ _ _ _ _
                          refine w_seq ?_
                          refine w_reg fun all => ?_
                          refine t_qz 1 [1, 3, 5, 6, 7, 8, 9, 10, 11, 12] (σ' := [(1, .int .i64 o1), (3, .pointer (some ⟨b594, 0, none⟩)), (5, .pointer (some ⟨b595, 0, none⟩)), (6, .pointer (some ⟨b596, 0, none⟩)), (7, .pointer (some ⟨b597, 0, none⟩)), (8, .int .i64 x630), (9, .pointer (some ⟨b672, 0, none⟩)), (10, .int .i64 x676), (11, .pointer (some ⟨b731, 0, none⟩)), (12, .int .i64 0)]) (by kernel_rfl) ?_
                          refine t_end ?_
                          show W _ _ _ _ _ _ _
                          refine w_block ?_
                          refine w_kp [1, 3, 5, 6, 7, 8, 9, 10, 11, 12] (σ' := [(1, .int .i64 o1), (3, .pointer (some ⟨b594, 0, none⟩)), (5, .pointer (some ⟨b595, 0, none⟩)), (6, .pointer (some ⟨b596, 0, none⟩)), (7, .pointer (some ⟨b597, 0, none⟩)), (8, .int .i64 x630), (9, .pointer (some ⟨b672, 0, none⟩)), (10, .int .i64 x676), (11, .pointer (some ⟨b731, 0, none⟩)), (12, .int .i64 0)]) (by kernel_rfl) ?_
                          refine w_loop (fun n_ σ_ H_ S_ => ∃ (x735 : Int) (x736 : Int) (x737 : Int) (x738 : Int) (x739 : Int) (x740 : Int) (x741 : Int), [(1, .int .i64 o1), (3, .pointer (some ⟨b594, 0, none⟩)), (5, .pointer (some ⟨b595, 0, none⟩)), (6, .pointer (some ⟨b596, 0, none⟩)), (7, .pointer (some ⟨b597, 0, none⟩)), (8, .int .i64 x630), (9, .pointer (some ⟨b672, 0, none⟩)), (10, .int .i64 x676), (11, .pointer (some ⟨b731, 0, none⟩)), (12, .int .i64 x735)] = σ_ ∧ (([⟨b731, [.int .i64 x715, .int .i64 x736, .int .i64 x737, .int .i64 x738, .int .i64 x739, .int .i64 x740, .int .i64 x741], 7⟩, ⟨a677, encL E_i647 y678, na677⟩, ⟨b672, [.int .i64 t653, .int .i64 t654, .slice (ad a677) y678.length (na677 / 7), .bool x659], 4⟩, ⟨a631, csa631, na631⟩, ⟨b597, [.int .i64 A2_0, .int .i64 A2_1, .int .i64 x604, .int .i64 A2_3, .int .i64 A2_4, .int .i64 A2_5, .int .i64 x615, .int .i64 x616, .int .i64 x625, .int .i64 x626, .slice (ad a631) y632.length (na631 / 4)], 11⟩, ⟨b596, [.int .i64 0, .int .i64 0, .int .i64 0, .int .i64 0, .int .i64 0, .int .i64 0, .int .i64 0, .int .i64 0, .int .i64 0, .int .i64 0, .slice none 0 0], 11⟩, ⟨b595, [.int .i64 A2_0, .int .i64 A2_1, .int .i64 A2_2, .int .i64 A2_3, .int .i64 A2_4, .int .i64 A2_5, .int .i64 A2_6, .int .i64 A2_7, .int .i64 A2_8, .int .i64 A2_9, .slice a_A2_10 A2_10.length c_A2_10], 11⟩, ⟨b594, [.int .i64 t0_0, .int .i64 t0_1, .int .i64 t0_2, .slice a_t0_3 n_t0_3 c_t0_3, .slice a_t0_4 n_t0_4 c_t0_4], 5⟩] : List Own) ++ (Fa631 ++ [])) = H_ ∧ S = S_ ∧ glyphicref20_Cmd_v1.l2 n_ t0_0 t0_1 t0_2 o1 A2_10 x630 x676 x715 x735 x736 x737 x738 x739 x740 x741 = some (x791, x792, x793, x794, x795, x796)) _ ⟨0, 0, 0, 0, 0, 0, 0, rfl, rfl, rfl, e733⟩ ?_
                          rintro n790 σ_ H_ S_ ⟨x735, x736, x737, x738, x739, x740, x741, rfl, rfl, rfl, e733⟩
                          cases n790 with
                          | zero => rw [glyphicref20_Cmd_v1.l2.eq_1] at e733; cases e733
                          | succ k_ =>
                            rw [glyphicref20_Cmd_v1.l2.eq_2] at e733
                            refine w_seq ?_
                            refine w_seq ?_
                            refine w_reg fun all => ?_
                            refine t_qz 2 [1, 3, 5, 6, 7, 8, 9, 10, 11, 12, 118, 119] (σ' := [(1, .int .i64 o1), (3, .pointer (some ⟨b594, 0, none⟩)), (5, .pointer (some ⟨b595, 0, none⟩)), (6, .pointer (some ⟨b596, 0, none⟩)), (7, .pointer (some ⟨b597, 0, none⟩)), (8, .int .i64 x630), (9, .pointer (some ⟨b672, 0, none⟩)), (10, .int .i64 x676), (11, .pointer (some ⟨b731, 0, none⟩)), (12, .int .i64 x735), (118, .int .i64 x735), (119, .pointer (some ⟨b731, 0, none⟩))]) (by kernel_rfl) ?_
                            refine t_v (.ld1 rfl rfl rfl (.at 0 rfl rfl)) ?_
                            by_cases c742 : x735 < x715
                            · rw [if_pos c742] at e733
                              have c742b : (decide (x735 < x715)) = true := decide_eq_true c742
                              refine t_v (dv_quiet rfl (congrArg (fun t => some (Value.bool t)) c742b)) ?_
                              refine t_keep [1, 3, 5, 6, 7, 8, 9, 10, 11, 12, 121] (σ' := [(1, .int .i64 o1), (3, .pointer (some ⟨b594, 0, none⟩)), (5, .pointer (some ⟨b595, 0, none⟩)), (6, .pointer (some ⟨b596, 0, none⟩)), (7, .pointer (some ⟨b597, 0, none⟩)), (8, .int .i64 x630), (9, .pointer (some ⟨b672, 0, none⟩)), (10, .int .i64 x676), (11, .pointer (some ⟨b731, 0, none⟩)), (12, .int .i64 x735), (121, .bool true)]) (by kernel_rfl) ?_
                              refine t_end ?_
                              show W _ _ _ _ _ _ _
                              refine w_cond rfl (fun _ => ?_) (fun c_ => by cases c_)
                              show W _ _ _ _ _ _ _
                              refine w_skip ?_
                              show W _ _ _ _ _ _ _
                              refine w_seq ?_
                              refine w_block ?_
                              obtain ⟨⟨x743, x744, x745, x746⟩, hx747, e733⟩ := bind_of e733
                              try dsimp only at e733
                              obtain ⟨lb748, lo749, ll750, vs_, la751, lR752, lv753, hrep_, lz754, lu755⟩ := sln_get (E := N_0) h_A2_10 hx747
                              obtain ⟨na756, nc757, rfl, nh758⟩ := hrep_
                              obtain ⟨⟨x759, x760, x761, x762, x763, x764, x765⟩, hx766, e733⟩ := bind_of e733
                              try dsimp only at e733
                              obtain ⟨lb767, lo768, ll769, vs_, la770, lR771, lv772, hrep_, lz773, lu774⟩ := sln_get (E := (flatN E_i647)) nh758 hx766
                              obtain rfl := (show vs_ = _ from hrep_)
                              by_cases c775 : x735 = 0
                              · rw [if_pos c775] at e733
                                have c775b : (x735 == 0) = true := beq_iff_eq.mpr c775
                                obtain ⟨⟨t776, t777⟩, h778, e733⟩ := bind_of e733
                                try dsimp only at e733
                                refine w_drwE mixed 18 [.v (.int .i64 x735), .v (.agg #[.int .i64 t0_0, .int .i64 t0_1, .int .i64 t0_2, .slice a_t0_3 n_t0_3 c_t0_3, .slice a_t0_4 n_t0_4 c_t0_4]), .v (.int .i64 o1), .v (.pointer (some ⟨b595, 10, none⟩)), .v (.slice a_A2_10 A2_10.length c_A2_10), .v (.int .i64 x630), .v (.pointer (some ⟨lb748, lo749 + (x630).toNat * 4 + 0, none⟩)), .v (.pointer (some ⟨lb748, lo749 + (x630).toNat * 4 + 2, none⟩)), .v (.slice na756 x745.length nc757), .v (.int .i64 x676), .v (.int .i64 x735), .v (.pointer (some ⟨lb767, lo768 + (x676).toNat * 7 + 0, none⟩)), .v (.pointer (some ⟨lb767, lo768 + (x676).toNat * 7 + 1, none⟩)), .v (.pointer (some ⟨lb767, lo768 + (x676).toNat * 7 + 1, none⟩)), .v (.agg #[.int .i64 x760, .int .i64 x761]), .v (.agg #[.int .i64 t776, .int .i64 t777]), .v (.pointer (some ⟨b731, 1, none⟩)), .v (.pointer (some ⟨b731, 1, none⟩))] (by kernel_rfl) ?_ ?_
                                · refine DI.sq 1 (by kernel_rfl) rfl ?_
                                  refine .cons (.ldn rfl rfl rfl (.at 7 rfl rfl)) ?_
                                  refine DI.sq 2 (by kernel_rfl) rfl ?_
                                  refine .cons (.ld1 rfl rfl rfl (.at 6 rfl rfl)) ?_
                                  refine DI.sq 1 (by kernel_rfl) rfl ?_
                                  refine .cons (.quiet rfl (ixs_sle rfl rfl la751 lz754 lu755)) ?_
                                  refine DI.sq 1 (by kernel_rfl) rfl ?_
                                  refine .cons (.ld1 rfl rfl rfl (rd_1 lR752 sub_nil (subl_at lv753 rfl))) ?_
                                  refine DI.sq 2 (by kernel_rfl) rfl ?_
                                  refine .cons (.quiet rfl (ixs_sle rfl rfl la770 lz773 lu774)) ?_
                                  refine DI.sq 1 (by kernel_rfl) rfl ?_
                                  refine .cons (.quiet rfl (ixa_at (j := 0) (u := .pointer (some ⟨lb767, lo768 + (x676).toNat * 7 + 1, none⟩)) rfl c775b (by kernel_rfl))) ?_
                                  refine .cons (.ldn (vs := [.int .i64 x760, .int .i64 x761]) rfl rfl rfl (rd_n lR771 sub_nil (subl_sub lv772 (by kernel_rfl)))) ?_
                                  refine .cons (.call (vs := [.agg #[.int .i64 t0_0, .int .i64 t0_1, .int .i64 t0_2, .slice a_t0_3 n_t0_3 c_t0_3, .slice a_t0_4 n_t0_4 c_t0_4], .int .i64 o1, .agg #[.int .i64 x760, .int .i64 x761]]) rfl rfl (by kernel_rfl) (glyphicref20_point_v1.ok hE_ h778)) ?_
                                  refine DI.sq 1 (by kernel_rfl) rfl ?_
                                  refine .cons (.quiet rfl (ixa_at (j := 0) (u := .pointer (some ⟨b731, 1, none⟩)) rfl c775b (by kernel_rfl))) ?_
                                  exact .nil
                                refine fk_q 18 [1, 3, 5, 6, 7, 8, 9, 10, 11, 12, 139, 141] (σ' := [(1, .int .i64 o1), (3, .pointer (some ⟨b594, 0, none⟩)), (5, .pointer (some ⟨b595, 0, none⟩)), (6, .pointer (some ⟨b596, 0, none⟩)), (7, .pointer (some ⟨b597, 0, none⟩)), (8, .int .i64 x630), (9, .pointer (some ⟨b672, 0, none⟩)), (10, .int .i64 x676), (11, .pointer (some ⟨b731, 0, none⟩)), (12, .int .i64 x735), (139, .agg #[.int .i64 t776, .int .i64 t777]), (141, .pointer (some ⟨b731, 1, none⟩))]) t_more (by kernel_rfl) ?_
                                refine fk_nil fun all => ?_
                                refine t_sti 0 (cs := [.int .i64 x715, .int .i64 t776, .int .i64 t777, .int .i64 x738, .int .i64 x739, .int .i64 x740, .int .i64 x741]) rfl rfl rfl rfl rfl rfl rfl rfl rfl ?_
                                refine t_keep [1, 3, 5, 6, 7, 8, 9, 10, 11, 12] (σ' := [(1, .int .i64 o1), (3, .pointer (some ⟨b594, 0, none⟩)), (5, .pointer (some ⟨b595, 0, none⟩)), (6, .pointer (some ⟨b596, 0, none⟩)), (7, .pointer (some ⟨b597, 0, none⟩)), (8, .int .i64 x630), (9, .pointer (some ⟨b672, 0, none⟩)), (10, .int .i64 x676), (11, .pointer (some ⟨b731, 0, none⟩)), (12, .int .i64 x735)]) (by kernel_rfl) ?_
                                refine t_end ?_
                                show W _ _ _ _ _ _ _
                                refine w_reg fun all => ?_
                                refine t_qz 3 [1, 3, 5, 6, 7, 8, 9, 10, 11, 12] (σ' := [(1, .int .i64 o1), (3, .pointer (some ⟨b594, 0, none⟩)), (5, .pointer (some ⟨b595, 0, none⟩)), (6, .pointer (some ⟨b596, 0, none⟩)), (7, .pointer (some ⟨b597, 0, none⟩)), (8, .int .i64 x630), (9, .pointer (some ⟨b672, 0, none⟩)), (10, .int .i64 x676), (11, .pointer (some ⟨b731, 0, none⟩)), (12, .int .i64 (wr64 (x735 + 1)))]) (by kernel_rfl) ?_
                                refine t_end ?_
                                exact ⟨k_, Nat.lt_succ_self _, [(1, .int .i64 o1), (3, .pointer (some ⟨b594, 0, none⟩)), (5, .pointer (some ⟨b595, 0, none⟩)), (6, .pointer (some ⟨b596, 0, none⟩)), (7, .pointer (some ⟨b597, 0, none⟩)), (8, .int .i64 x630), (9, .pointer (some ⟨b672, 0, none⟩)), (10, .int .i64 x676), (11, .pointer (some ⟨b731, 0, none⟩)), (12, .int .i64 (wr64 (x735 + 1)))], (([⟨b731, [.int .i64 x715, .int .i64 t776, .int .i64 t777, .int .i64 x738, .int .i64 x739, .int .i64 x740, .int .i64 x741], 7⟩, ⟨a677, encL E_i647 y678, na677⟩, ⟨b672, [.int .i64 t653, .int .i64 t654, .slice (ad a677) y678.length (na677 / 7), .bool x659], 4⟩, ⟨a631, csa631, na631⟩, ⟨b597, [.int .i64 A2_0, .int .i64 A2_1, .int .i64 x604, .int .i64 A2_3, .int .i64 A2_4, .int .i64 A2_5, .int .i64 x615, .int .i64 x616, .int .i64 x625, .int .i64 x626, .slice (ad a631) y632.length (na631 / 4)], 11⟩, ⟨b596, [.int .i64 0, .int .i64 0, .int .i64 0, .int .i64 0, .int .i64 0, .int .i64 0, .int .i64 0, .int .i64 0, .int .i64 0, .int .i64 0, .slice none 0 0], 11⟩, ⟨b595, [.int .i64 A2_0, .int .i64 A2_1, .int .i64 A2_2, .int .i64 A2_3, .int .i64 A2_4, .int .i64 A2_5, .int .i64 A2_6, .int .i64 A2_7, .int .i64 A2_8, .int .i64 A2_9, .slice a_A2_10 A2_10.length c_A2_10], 11⟩, ⟨b594, [.int .i64 t0_0, .int .i64 t0_1, .int .i64 t0_2, .slice a_t0_3 n_t0_3 c_t0_3, .slice a_t0_4 n_t0_4 c_t0_4], 5⟩] : List Own) ++ (Fa631 ++ [])), S, keep_sub [1, 3, 5, 6, 7, 8, 9, 10, 11, 12] (by kernel_rfl), VS.selT 8 [0, 0, 0, 0, 0, 0, 0, 0] (by kernel_rfl), wr64 (x735 + 1), t776, t777, x738, x739, x740, x741, rfl, rfl, rfl, e733⟩
                              · rw [if_neg c775] at e733
                                have c775b : (x735 == 0) = false := beq_eq_false_iff_ne.mpr c775
                                by_cases c780 : x735 = 1
                                · rw [if_pos c780] at e733
                                  have c780b : (x735 == 1) = true := beq_iff_eq.mpr c780
                                  obtain ⟨⟨t781, t782⟩, h783, e733⟩ := bind_of e733
                                  try dsimp only at e733
                                  refine w_drwE mixed 18 [.v (.int .i64 x735), .v (.agg #[.int .i64 t0_0, .int .i64 t0_1, .int .i64 t0_2, .slice a_t0_3 n_t0_3 c_t0_3, .slice a_t0_4 n_t0_4 c_t0_4]), .v (.int .i64 o1), .v (.pointer (some ⟨b595, 10, none⟩)), .v (.slice a_A2_10 A2_10.length c_A2_10), .v (.int .i64 x630), .v (.pointer (some ⟨lb748, lo749 + (x630).toNat * 4 + 0, none⟩)), .v (.pointer (some ⟨lb748, lo749 + (x630).toNat * 4 + 2, none⟩)), .v (.slice na756 x745.length nc757), .v (.int .i64 x676), .v (.int .i64 x735), .v (.pointer (some ⟨lb767, lo768 + (x676).toNat * 7 + 0, none⟩)), .v (.pointer (some ⟨lb767, lo768 + (x676).toNat * 7 + 1, none⟩)), .v (.pointer (some ⟨lb767, lo768 + (x676).toNat * 7 + 3, none⟩)), .v (.agg #[.int .i64 x762, .int .i64 x763]), .v (.agg #[.int .i64 t781, .int .i64 t782]), .v (.pointer (some ⟨b731, 1, none⟩)), .v (.pointer (some ⟨b731, 3, none⟩))] (by kernel_rfl) ?_ ?_
                                  · refine DI.sq 1 (by kernel_rfl) rfl ?_
                                    refine .cons (.ldn rfl rfl rfl (.at 7 rfl rfl)) ?_
                                    refine DI.sq 2 (by kernel_rfl) rfl ?_
                                    refine .cons (.ld1 rfl rfl rfl (.at 6 rfl rfl)) ?_
                                    refine DI.sq 1 (by kernel_rfl) rfl ?_
                                    refine .cons (.quiet rfl (ixs_sle rfl rfl la751 lz754 lu755)) ?_
                                    refine DI.sq 1 (by kernel_rfl) rfl ?_
                                    refine .cons (.ld1 rfl rfl rfl (rd_1 lR752 sub_nil (subl_at lv753 rfl))) ?_
                                    refine DI.sq 2 (by kernel_rfl) rfl ?_
                                    refine .cons (.quiet rfl (ixs_sle rfl rfl la770 lz773 lu774)) ?_
                                    refine DI.sq 1 (by kernel_rfl) rfl ?_
                                    refine .cons (.quiet rfl (ixa_at (j := 1) (u := .pointer (some ⟨lb767, lo768 + (x676).toNat * 7 + 3, none⟩)) rfl c780b (by kernel_rfl))) ?_
                                    refine .cons (.ldn (vs := [.int .i64 x762, .int .i64 x763]) rfl rfl rfl (rd_n lR771 sub_nil (subl_sub lv772 (by kernel_rfl)))) ?_
                                    refine .cons (.call (vs := [.agg #[.int .i64 t0_0, .int .i64 t0_1, .int .i64 t0_2, .slice a_t0_3 n_t0_3 c_t0_3, .slice a_t0_4 n_t0_4 c_t0_4], .int .i64 o1, .agg #[.int .i64 x762, .int .i64 x763]]) rfl rfl (by kernel_rfl) (glyphicref20_point_v1.ok hE_ h783)) ?_
                                    refine DI.sq 1 (by kernel_rfl) rfl ?_
                                    refine .cons (.quiet rfl (ixa_at (j := 1) (u := .pointer (some ⟨b731, 3, none⟩)) rfl c780b (by kernel_rfl))) ?_
                                    exact .nil
                                  refine fk_q 18 [1, 3, 5, 6, 7, 8, 9, 10, 11, 12, 139, 141] (σ' := [(1, .int .i64 o1), (3, .pointer (some ⟨b594, 0, none⟩)), (5, .pointer (some ⟨b595, 0, none⟩)), (6, .pointer (some ⟨b596, 0, none⟩)), (7, .pointer (some ⟨b597, 0, none⟩)), (8, .int .i64 x630), (9, .pointer (some ⟨b672, 0, none⟩)), (10, .int .i64 x676), (11, .pointer (some ⟨b731, 0, none⟩)), (12, .int .i64 x735), (139, .agg #[.int .i64 t781, .int .i64 t782]), (141, .pointer (some ⟨b731, 3, none⟩))]) t_more (by kernel_rfl) ?_
                                  refine fk_nil fun all => ?_
                                  refine t_sti 0 (cs := [.int .i64 x715, .int .i64 x736, .int .i64 x737, .int .i64 t781, .int .i64 t782, .int .i64 x740, .int .i64 x741]) rfl rfl rfl rfl rfl rfl rfl rfl rfl ?_
                                  refine t_keep [1, 3, 5, 6, 7, 8, 9, 10, 11, 12] (σ' := [(1, .int .i64 o1), (3, .pointer (some ⟨b594, 0, none⟩)), (5, .pointer (some ⟨b595, 0, none⟩)), (6, .pointer (some ⟨b596, 0, none⟩)), (7, .pointer (some ⟨b597, 0, none⟩)), (8, .int .i64 x630), (9, .pointer (some ⟨b672, 0, none⟩)), (10, .int .i64 x676), (11, .pointer (some ⟨b731, 0, none⟩)), (12, .int .i64 x735)]) (by kernel_rfl) ?_
                                  refine t_end ?_
                                  show W _ _ _ _ _ _ _
                                  refine w_reg fun all => ?_
                                  refine t_qz 3 [1, 3, 5, 6, 7, 8, 9, 10, 11, 12] (σ' := [(1, .int .i64 o1), (3, .pointer (some ⟨b594, 0, none⟩)), (5, .pointer (some ⟨b595, 0, none⟩)), (6, .pointer (some ⟨b596, 0, none⟩)), (7, .pointer (some ⟨b597, 0, none⟩)), (8, .int .i64 x630), (9, .pointer (some ⟨b672, 0, none⟩)), (10, .int .i64 x676), (11, .pointer (some ⟨b731, 0, none⟩)), (12, .int .i64 (wr64 (x735 + 1)))]) (by kernel_rfl) ?_
                                  refine t_end ?_
                                  exact ⟨k_, Nat.lt_succ_self _, [(1, .int .i64 o1), (3, .pointer (some ⟨b594, 0, none⟩)), (5, .pointer (some ⟨b595, 0, none⟩)), (6, .pointer (some ⟨b596, 0, none⟩)), (7, .pointer (some ⟨b597, 0, none⟩)), (8, .int .i64 x630), (9, .pointer (some ⟨b672, 0, none⟩)), (10, .int .i64 x676), (11, .pointer (some ⟨b731, 0, none⟩)), (12, .int .i64 (wr64 (x735 + 1)))], (([⟨b731, [.int .i64 x715, .int .i64 x736, .int .i64 x737, .int .i64 t781, .int .i64 t782, .int .i64 x740, .int .i64 x741], 7⟩, ⟨a677, encL E_i647 y678, na677⟩, ⟨b672, [.int .i64 t653, .int .i64 t654, .slice (ad a677) y678.length (na677 / 7), .bool x659], 4⟩, ⟨a631, csa631, na631⟩, ⟨b597, [.int .i64 A2_0, .int .i64 A2_1, .int .i64 x604, .int .i64 A2_3, .int .i64 A2_4, .int .i64 A2_5, .int .i64 x615, .int .i64 x616, .int .i64 x625, .int .i64 x626, .slice (ad a631) y632.length (na631 / 4)], 11⟩, ⟨b596, [.int .i64 0, .int .i64 0, .int .i64 0, .int .i64 0, .int .i64 0, .int .i64 0, .int .i64 0, .int .i64 0, .int .i64 0, .int .i64 0, .slice none 0 0], 11⟩, ⟨b595, [.int .i64 A2_0, .int .i64 A2_1, .int .i64 A2_2, .int .i64 A2_3, .int .i64 A2_4, .int .i64 A2_5, .int .i64 A2_6, .int .i64 A2_7, .int .i64 A2_8, .int .i64 A2_9, .slice a_A2_10 A2_10.length c_A2_10], 11⟩, ⟨b594, [.int .i64 t0_0, .int .i64 t0_1, .int .i64 t0_2, .slice a_t0_3 n_t0_3 c_t0_3, .slice a_t0_4 n_t0_4 c_t0_4], 5⟩] : List Own) ++ (Fa631 ++ [])), S, keep_sub [1, 3, 5, 6, 7, 8, 9, 10, 11, 12] (by kernel_rfl), VS.selT 8 [0, 0, 0, 0, 0, 0, 0, 0] (by kernel_rfl), wr64 (x735 + 1), x736, x737, t781, t782, x740, x741, rfl, rfl, rfl, e733⟩
                                · rw [if_neg c780] at e733
                                  have c780b : (x735 == 1) = false := beq_eq_false_iff_ne.mpr c780
                                  by_cases c785 : x735 = 2
                                  · rw [if_pos c785] at e733
                                    have c785b : (x735 == 2) = true := beq_iff_eq.mpr c785
                                    obtain ⟨⟨t786, t787⟩, h788, e733⟩ := bind_of e733
                                    try dsimp only at e733
                                    refine w_drwE mixed 18 [.v (.int .i64 x735), .v (.agg #[.int .i64 t0_0, .int .i64 t0_1, .int .i64 t0_2, .slice a_t0_3 n_t0_3 c_t0_3, .slice a_t0_4 n_t0_4 c_t0_4]), .v (.int .i64 o1), .v (.pointer (some ⟨b595, 10, none⟩)), .v (.slice a_A2_10 A2_10.length c_A2_10), .v (.int .i64 x630), .v (.pointer (some ⟨lb748, lo749 + (x630).toNat * 4 + 0, none⟩)), .v (.pointer (some ⟨lb748, lo749 + (x630).toNat * 4 + 2, none⟩)), .v (.slice na756 x745.length nc757), .v (.int .i64 x676), .v (.int .i64 x735), .v (.pointer (some ⟨lb767, lo768 + (x676).toNat * 7 + 0, none⟩)), .v (.pointer (some ⟨lb767, lo768 + (x676).toNat * 7 + 1, none⟩)), .v (.pointer (some ⟨lb767, lo768 + (x676).toNat * 7 + 5, none⟩)), .v (.agg #[.int .i64 x764, .int .i64 x765]), .v (.agg #[.int .i64 t786, .int .i64 t787]), .v (.pointer (some ⟨b731, 1, none⟩)), .v (.pointer (some ⟨b731, 5, none⟩))] (by kernel_rfl) ?_ ?_
                                    · refine DI.sq 1 (by kernel_rfl) rfl ?_
                                      refine .cons (.ldn rfl rfl rfl (.at 7 rfl rfl)) ?_
                                      refine DI.sq 2 (by kernel_rfl) rfl ?_
                                      refine .cons (.ld1 rfl rfl rfl (.at 6 rfl rfl)) ?_
                                      refine DI.sq 1 (by kernel_rfl) rfl ?_
                                      refine .cons (.quiet rfl (ixs_sle rfl rfl la751 lz754 lu755)) ?_
                                      refine DI.sq 1 (by kernel_rfl) rfl ?_
                                      refine .cons (.ld1 rfl rfl rfl (rd_1 lR752 sub_nil (subl_at lv753 rfl))) ?_
                                      refine DI.sq 2 (by kernel_rfl) rfl ?_
                                      refine .cons (.quiet rfl (ixs_sle rfl rfl la770 lz773 lu774)) ?_
                                      refine DI.sq 1 (by kernel_rfl) rfl ?_
                                      refine .cons (.quiet rfl (ixa_at (j := 2) (u := .pointer (some ⟨lb767, lo768 + (x676).toNat * 7 + 5, none⟩)) rfl c785b (by kernel_rfl))) ?_
                                      refine .cons (.ldn (vs := [.int .i64 x764, .int .i64 x765]) rfl rfl rfl (rd_n lR771 sub_nil (subl_sub lv772 (by kernel_rfl)))) ?_
                                      refine .cons (.call (vs := [.agg #[.int .i64 t0_0, .int .i64 t0_1, .int .i64 t0_2, .slice a_t0_3 n_t0_3 c_t0_3, .slice a_t0_4 n_t0_4 c_t0_4], .int .i64 o1, .agg #[.int .i64 x764, .int .i64 x765]]) rfl rfl (by kernel_rfl) (glyphicref20_point_v1.ok hE_ h788)) ?_
                                      refine DI.sq 1 (by kernel_rfl) rfl ?_
                                      refine .cons (.quiet rfl (ixa_at (j := 2) (u := .pointer (some ⟨b731, 5, none⟩)) rfl c785b (by kernel_rfl))) ?_
                                      exact .nil
                                    refine fk_q 18 [1, 3, 5, 6, 7, 8, 9, 10, 11, 12, 139, 141] (σ' := [(1, .int .i64 o1), (3, .pointer (some ⟨b594, 0, none⟩)), (5, .pointer (some ⟨b595, 0, none⟩)), (6, .pointer (some ⟨b596, 0, none⟩)), (7, .pointer (some ⟨b597, 0, none⟩)), (8, .int .i64 x630), (9, .pointer (some ⟨b672, 0, none⟩)), (10, .int .i64 x676), (11, .pointer (some ⟨b731, 0, none⟩)), (12, .int .i64 x735), (139, .agg #[.int .i64 t786, .int .i64 t787]), (141, .pointer (some ⟨b731, 5, none⟩))]) t_more (by kernel_rfl) ?_
                                    refine fk_nil fun all => ?_
                                    refine t_sti 0 (cs := [.int .i64 x715, .int .i64 x736, .int .i64 x737, .int .i64 x738, .int .i64 x739, .int .i64 t786, .int .i64 t787]) rfl rfl rfl rfl rfl rfl rfl rfl rfl ?_
                                    refine t_keep [1, 3, 5, 6, 7, 8, 9, 10, 11, 12] (σ' := [(1, .int .i64 o1), (3, .pointer (some ⟨b594, 0, none⟩)), (5, .pointer (some ⟨b595, 0, none⟩)), (6, .pointer (some ⟨b596, 0, none⟩)), (7, .pointer (some ⟨b597, 0, none⟩)), (8, .int .i64 x630), (9, .pointer (some ⟨b672, 0, none⟩)), (10, .int .i64 x676), (11, .pointer (some ⟨b731, 0, none⟩)), (12, .int .i64 x735)]) (by kernel_rfl) ?_
                                    refine t_end ?_
                                    show W _ _ _ _ _ _ _
                                    refine w_reg fun all => ?_
                                    refine t_qz 3 [1, 3, 5, 6, 7, 8, 9, 10, 11, 12] (σ' := [(1, .int .i64 o1), (3, .pointer (some ⟨b594, 0, none⟩)), (5, .pointer (some ⟨b595, 0, none⟩)), (6, .pointer (some ⟨b596, 0, none⟩)), (7, .pointer (some ⟨b597, 0, none⟩)), (8, .int .i64 x630), (9, .pointer (some ⟨b672, 0, none⟩)), (10, .int .i64 x676), (11, .pointer (some ⟨b731, 0, none⟩)), (12, .int .i64 (wr64 (x735 + 1)))]) (by kernel_rfl) ?_
                                    refine t_end ?_
                                    exact ⟨k_, Nat.lt_succ_self _, [(1, .int .i64 o1), (3, .pointer (some ⟨b594, 0, none⟩)), (5, .pointer (some ⟨b595, 0, none⟩)), (6, .pointer (some ⟨b596, 0, none⟩)), (7, .pointer (some ⟨b597, 0, none⟩)), (8, .int .i64 x630), (9, .pointer (some ⟨b672, 0, none⟩)), (10, .int .i64 x676), (11, .pointer (some ⟨b731, 0, none⟩)), (12, .int .i64 (wr64 (x735 + 1)))], (([⟨b731, [.int .i64 x715, .int .i64 x736, .int .i64 x737, .int .i64 x738, .int .i64 x739, .int .i64 t786, .int .i64 t787], 7⟩, ⟨a677, encL E_i647 y678, na677⟩, ⟨b672, [.int .i64 t653, .int .i64 t654, .slice (ad a677) y678.length (na677 / 7), .bool x659], 4⟩, ⟨a631, csa631, na631⟩, ⟨b597, [.int .i64 A2_0, .int .i64 A2_1, .int .i64 x604, .int .i64 A2_3, .int .i64 A2_4, .int .i64 A2_5, .int .i64 x615, .int .i64 x616, .int .i64 x625, .int .i64 x626, .slice (ad a631) y632.length (na631 / 4)], 11⟩, ⟨b596, [.int .i64 0, .int .i64 0, .int .i64 0, .int .i64 0, .int .i64 0, .int .i64 0, .int .i64 0, .int .i64 0, .int .i64 0, .int .i64 0, .slice none 0 0], 11⟩, ⟨b595, [.int .i64 A2_0, .int .i64 A2_1, .int .i64 A2_2, .int .i64 A2_3, .int .i64 A2_4, .int .i64 A2_5, .int .i64 A2_6, .int .i64 A2_7, .int .i64 A2_8, .int .i64 A2_9, .slice a_A2_10 A2_10.length c_A2_10], 11⟩, ⟨b594, [.int .i64 t0_0, .int .i64 t0_1, .int .i64 t0_2, .slice a_t0_3 n_t0_3 c_t0_3, .slice a_t0_4 n_t0_4 c_t0_4], 5⟩] : List Own) ++ (Fa631 ++ [])), S, keep_sub [1, 3, 5, 6, 7, 8, 9, 10, 11, 12] (by kernel_rfl), VS.selT 8 [0, 0, 0, 0, 0, 0, 0, 0] (by kernel_rfl), wr64 (x735 + 1), x736, x737, x738, x739, t786, t787, rfl, rfl, rfl, e733⟩
                                  · rw [if_neg c785] at e733
                                    have c785b : (x735 == 2) = false := beq_eq_false_iff_ne.mpr c785
                                    cases e733
                            · rw [if_neg c742] at e733
                              have c742b : (decide (x735 < x715)) = false := decide_eq_false c742
                              refine t_v (dv_quiet rfl (congrArg (fun t => some (Value.bool t)) c742b)) ?_
                              refine t_keep [1, 3, 5, 6, 7, 8, 9, 10, 11, 12, 121] (σ' := [(1, .int .i64 o1), (3, .pointer (some ⟨b594, 0, none⟩)), (5, .pointer (some ⟨b595, 0, none⟩)), (6, .pointer (some ⟨b596, 0, none⟩)), (7, .pointer (some ⟨b597, 0, none⟩)), (8, .int .i64 x630), (9, .pointer (some ⟨b672, 0, none⟩)), (10, .int .i64 x676), (11, .pointer (some ⟨b731, 0, none⟩)), (12, .int .i64 x735), (121, .bool false)]) (by kernel_rfl) ?_
                              refine t_end ?_
                              show W _ _ _ _ _ _ _
                              refine w_cond rfl (fun c_ => by cases c_) (fun _ => ?_)
                              show W _ _ _ _ _ _ _
                              refine w_exit ?_
                              simp only [Option.some.injEq, Prod.mk.injEq] at e733
                              obtain ⟨rfl, rfl, rfl, rfl, rfl, rfl⟩ := e733
                              exact ⟨(([⟨b731, [.int .i64 x715, .int .i64 x736, .int .i64 x737, .int .i64 x738, .int .i64 x739, .int .i64 x740, .int .i64 x741], 7⟩, ⟨b672, [.int .i64 t653, .int .i64 t654, .slice (ad a677) y678.length (na677 / 7), .bool x659], 4⟩, ⟨b597, [.int .i64 A2_0, .int .i64 A2_1, .int .i64 x604, .int .i64 A2_3, .int .i64 A2_4, .int .i64 A2_5, .int .i64 x615, .int .i64 x616, .int .i64 x625, .int .i64 x626, .slice (ad a631) y632.length (na631 / 4)], 11⟩, ⟨b596, [.int .i64 0, .int .i64 0, .int .i64 0, .int .i64 0, .int .i64 0, .int .i64 0, .int .i64 0, .int .i64 0, .int .i64 0, .int .i64 0, .slice none 0 0], 11⟩, ⟨b595, [.int .i64 A2_0, .int .i64 A2_1, .int .i64 A2_2, .int .i64 A2_3, .int .i64 A2_4, .int .i64 A2_5, .int .i64 A2_6, .int .i64 A2_7, .int .i64 A2_8, .int .i64 A2_9, .slice a_A2_10 A2_10.length c_A2_10], 11⟩, ⟨b594, [.int .i64 t0_0, .int .i64 t0_1, .int .i64 t0_2, .slice a_t0_3 n_t0_3 c_t0_3, .slice a_t0_4 n_t0_4 c_t0_4], 5⟩, ⟨a677, encL E_i647 y678, na677⟩, ⟨a631, csa631, na631⟩] : List Own) ++ (Fa631 ++ [])), S, VS.selT 8 [0, 1, 2, 2, 2, 2, 0, 0] (by kernel_rfl), by kernel_rfl, rfl, rfl⟩
                        · rintro σ_ H_ S_ ⟨rfl, rfl, rfl⟩
                          refine w_reg fun all => ?_
                          refine t_qz 1 [1, 3, 5, 6, 7, 8, 9, 10, 11, 142] (σ' := [(1, .int .i64 o1), (3, .pointer (some ⟨b594, 0, none⟩)), (5, .pointer (some ⟨b595, 0, none⟩)), (6, .pointer (some ⟨b596, 0, none⟩)), (7, .pointer (some ⟨b597, 0, none⟩)), (8, .int .i64 x630), (9, .pointer (some ⟨b672, 0, none⟩)), (10, .int .i64 x676), (11, .pointer (some ⟨b731, 0, none⟩)), (142, .pointer (some ⟨b672, 2, none⟩))]) (by kernel_rfl) ?_
                          refine t_v (.ld1 rfl rfl rfl (.at 1 rfl rfl)) ?_
                          refine t_v (.ldn rfl rfl rfl (.at 0 rfl rfl)) ?_
                          refine t_a (dv_bsl (cs := [.int .i64 x715, .int .i64 x791, .int .i64 x792, .int .i64 x793, .int .i64 x794, .int .i64 x795, .int .i64 x796]) rfl rfl (by kernel_rfl)) fun b797 fb797 sb797 => ?_
                          obtain ⟨y798, hl799, e697⟩ := bind_of e697
                          refine t_appX (E := E_i647) (L := y678) (X := ([(x715, x791, x792, x793, x794, x795, x796)] : List (Int × Int × Int × Int × Int × Int × Int))) (F := (([⟨b797, [.int .i64 x715, .int .i64 x791, .int .i64 x792, .int .i64 x793, .int .i64 x794, .int .i64 x795, .int .i64 x796], 7⟩, ⟨b731, [.int .i64 x715, .int .i64 x791, .int .i64 x792, .int .i64 x793, .int .i64 x794, .int .i64 x795, .int .i64 x796], 7⟩, ⟨b672, [.int .i64 t653, .int .i64 t654, .slice (ad a677) y678.length (na677 / 7), .bool x659], 4⟩, ⟨b597, [.int .i64 A2_0, .int .i64 A2_1, .int .i64 x604, .int .i64 A2_3, .int .i64 A2_4, .int .i64 A2_5, .int .i64 x615, .int .i64 x616, .int .i64 x625, .int .i64 x626, .slice (ad a631) y632.length (na631 / 4)], 11⟩, ⟨b596, [.int .i64 0, .int .i64 0, .int .i64 0, .int .i64 0, .int .i64 0, .int .i64 0, .int .i64 0, .int .i64 0, .int .i64 0, .int .i64 0, .slice none 0 0], 11⟩, ⟨b595, [.int .i64 A2_0, .int .i64 A2_1, .int .i64 A2_2, .int .i64 A2_3, .int .i64 A2_4, .int .i64 A2_5, .int .i64 A2_6, .int .i64 A2_7, .int .i64 A2_8, .int .i64 A2_9, .slice a_A2_10 A2_10.length c_A2_10], 11⟩, ⟨b594, [.int .i64 t0_0, .int .i64 t0_1, .int .i64 t0_2, .slice a_t0_3 n_t0_3 c_t0_3, .slice a_t0_4 n_t0_4 c_t0_4], 5⟩, ⟨a631, csa631, na631⟩] : List Own) ++ (Fa631 ++ []))) rfl rfl rfl rfl (sel_perm (is := [7]) (by kernel_rfl)) rfl (Or.inr ⟨_, _, rfl, .at 0 rfl (by kernel_rfl)⟩) rfl (by decide) (by decide) rfl hl799 fun a800 na800 => ?_
                          refine t_qz 1 [1, 3, 5, 6, 7, 8, 9, 10, 146, 147] (σ' := [(1, .int .i64 o1), (3, .pointer (some ⟨b594, 0, none⟩)), (5, .pointer (some ⟨b595, 0, none⟩)), (6, .pointer (some ⟨b596, 0, none⟩)), (7, .pointer (some ⟨b597, 0, none⟩)), (8, .int .i64 x630), (9, .pointer (some ⟨b672, 0, none⟩)), (10, .int .i64 x676), (146, .slice (ad a800) y798.length (na800 / 7)), (147, .pointer (some ⟨b672, 2, none⟩))]) (by kernel_rfl) ?_
                          refine t_sti 3 (cs := [.int .i64 t653, .int .i64 t654, .slice (ad a800) y798.length (na800 / 7), .bool x659]) rfl rfl rfl rfl rfl rfl rfl rfl rfl ?_
                          refine t_keep [1, 3, 5, 6, 7, 8, 9, 10] (σ' := [(1, .int .i64 o1), (3, .pointer (some ⟨b594, 0, none⟩)), (5, .pointer (some ⟨b595, 0, none⟩)), (6, .pointer (some ⟨b596, 0, none⟩)), (7, .pointer (some ⟨b597, 0, none⟩)), (8, .int .i64 x630), (9, .pointer (some ⟨b672, 0, none⟩)), (10, .int .i64 x676)]) (by kernel_rfl) ?_
                          refine t_end ?_
                          obtain rfl := Option.some.inj e697
                          exact ⟨(([⟨b672, [.int .i64 t653, .int .i64 t654, .slice (ad a800) y798.length (na800 / 7), .bool x659], 4⟩, ⟨b597, [.int .i64 A2_0, .int .i64 A2_1, .int .i64 x604, .int .i64 A2_3, .int .i64 A2_4, .int .i64 A2_5, .int .i64 x615, .int .i64 x616, .int .i64 x625, .int .i64 x626, .slice (ad a631) y632.length (na631 / 4)], 11⟩, ⟨b596, [.int .i64 0, .int .i64 0, .int .i64 0, .int .i64 0, .int .i64 0, .int .i64 0, .int .i64 0, .int .i64 0, .int .i64 0, .int .i64 0, .slice none 0 0], 11⟩, ⟨b595, [.int .i64 A2_0, .int .i64 A2_1, .int .i64 A2_2, .int .i64 A2_3, .int .i64 A2_4, .int .i64 A2_5, .int .i64 A2_6, .int .i64 A2_7, .int .i64 A2_8, .int .i64 A2_9, .slice a_A2_10 A2_10.length c_A2_10], 11⟩, ⟨b594, [.int .i64 t0_0, .int .i64 t0_1, .int .i64 t0_2, .slice a_t0_3 n_t0_3 c_t0_3, .slice a_t0_4 n_t0_4 c_t0_4], 5⟩, ⟨a800, encL E_i647 y798, na800⟩, ⟨a631, csa631, na631⟩] : List Own) ++ (Fa631 ++ [])), S, VS.selT 9 [3, 3, 3, 3, 3, 0, 2] (by kernel_rfl), a800, na800, by kernel_rfl, rfl, rfl⟩
                      · rintro σ_ H_ S_ ⟨a801, na801, rfl, rfl, rfl⟩
                        refine w_reg fun all => ?_
                        refine t_qz 3 [1, 3, 5, 6, 7, 8, 9, 10] (σ' := [(1, .int .i64 o1), (3, .pointer (some ⟨b594, 0, none⟩)), (5, .pointer (some ⟨b595, 0, none⟩)), (6, .pointer (some ⟨b596, 0, none⟩)), (7, .pointer (some ⟨b597, 0, none⟩)), (8, .int .i64 x630), (9, .pointer (some ⟨b672, 0, none⟩)), (10, .int .i64 (wr64 (x676 + 1)))]) (by kernel_rfl) ?_
                        refine t_end ?_
                        exact ⟨k_, Nat.lt_succ_self _, [(1, .int .i64 o1), (3, .pointer (some ⟨b594, 0, none⟩)), (5, .pointer (some ⟨b595, 0, none⟩)), (6, .pointer (some ⟨b596, 0, none⟩)), (7, .pointer (some ⟨b597, 0, none⟩)), (8, .int .i64 x630), (9, .pointer (some ⟨b672, 0, none⟩)), (10, .int .i64 (wr64 (x676 + 1)))], (([⟨a801, encL E_i647 y802, na801⟩, ⟨b672, [.int .i64 t653, .int .i64 t654, .slice (ad a801) y802.length (na801 / 7), .bool x659], 4⟩, ⟨a631, csa631, na631⟩, ⟨b597, [.int .i64 A2_0, .int .i64 A2_1, .int .i64 x604, .int .i64 A2_3, .int .i64 A2_4, .int .i64 A2_5, .int .i64 x615, .int .i64 x616, .int .i64 x625, .int .i64 x626, .slice (ad a631) y632.length (na631 / 4)], 11⟩, ⟨b596, [.int .i64 0, .int .i64 0, .int .i64 0, .int .i64 0, .int .i64 0, .int .i64 0, .int .i64 0, .int .i64 0, .int .i64 0, .int .i64 0, .slice none 0 0], 11⟩, ⟨b595, [.int .i64 A2_0, .int .i64 A2_1, .int .i64 A2_2, .int .i64 A2_3, .int .i64 A2_4, .int .i64 A2_5, .int .i64 A2_6, .int .i64 A2_7, .int .i64 A2_8, .int .i64 A2_9, .slice a_A2_10 A2_10.length c_A2_10], 11⟩, ⟨b594, [.int .i64 t0_0, .int .i64 t0_1, .int .i64 t0_2, .slice a_t0_3 n_t0_3 c_t0_3, .slice a_t0_4 n_t0_4 c_t0_4], 5⟩] : List Own) ++ (Fa631 ++ [])), S, keep_sub [1, 3, 5, 6, 7, 8, 9, 10] (by kernel_rfl), VS.selT 7 [5, 0, 4, 0, 0, 0, 0] (by kernel_rfl), wr64 (x676 + 1), y802, a801, na801, rfl, rfl, rfl, e674⟩
                    · rw [if_neg c695] at e674
                      have c695b : (decide (x676 < (x681.length : Int))) = false := decide_eq_false c695
                      refine t_qz 1 [1, 3, 5, 6, 7, 8, 9, 10, 96, 103] (σ' := [(1, .int .i64 o1), (3, .pointer (some ⟨b594, 0, none⟩)), (5, .pointer (some ⟨b595, 0, none⟩)), (6, .pointer (some ⟨b596, 0, none⟩)), (7, .pointer (some ⟨b597, 0, none⟩)), (8, .int .i64 x630), (9, .pointer (some ⟨b672, 0, none⟩)), (10, .int .i64 x676), (96, .int .i64 x676), (103, .int .i64 (x681.length : Int))]) (by kernel_rfl) ?_
                      refine t_v (dv_quiet rfl (congrArg (fun t => some (Value.bool t)) c695b)) ?_
                      refine t_keep [1, 3, 5, 6, 7, 8, 9, 10, 104] (σ' := [(1, .int .i64 o1), (3, .pointer (some ⟨b594, 0, none⟩)), (5, .pointer (some ⟨b595, 0, none⟩)), (6, .pointer (some ⟨b596, 0, none⟩)), (7, .pointer (some ⟨b597, 0, none⟩)), (8, .int .i64 x630), (9, .pointer (some ⟨b672, 0, none⟩)), (10, .int .i64 x676), (104, .bool false)]) (by kernel_rfl) ?_
                      refine t_end ?_
                      show W _ _ _ _ _ _ _
                      refine w_cond rfl (fun c_ => by cases c_) (fun _ => ?_)
                      show W _ _ _ _ _ _ _
                      refine w_exit ?_
                      obtain rfl := Option.some.inj e674
                      exact ⟨(([⟨b672, [.int .i64 t653, .int .i64 t654, .slice (ad a677) y678.length (na677 / 7), .bool x659], 4⟩, ⟨b597, [.int .i64 A2_0, .int .i64 A2_1, .int .i64 x604, .int .i64 A2_3, .int .i64 A2_4, .int .i64 A2_5, .int .i64 x615, .int .i64 x616, .int .i64 x625, .int .i64 x626, .slice (ad a631) y632.length (na631 / 4)], 11⟩, ⟨b596, [.int .i64 0, .int .i64 0, .int .i64 0, .int .i64 0, .int .i64 0, .int .i64 0, .int .i64 0, .int .i64 0, .int .i64 0, .int .i64 0, .slice none 0 0], 11⟩, ⟨b595, [.int .i64 A2_0, .int .i64 A2_1, .int .i64 A2_2, .int .i64 A2_3, .int .i64 A2_4, .int .i64 A2_5, .int .i64 A2_6, .int .i64 A2_7, .int .i64 A2_8, .int .i64 A2_9, .slice a_A2_10 A2_10.length c_A2_10], 11⟩, ⟨b594, [.int .i64 t0_0, .int .i64 t0_1, .int .i64 t0_2, .slice a_t0_3 n_t0_3 c_t0_3, .slice a_t0_4 n_t0_4 c_t0_4], 5⟩, ⟨a677, encL E_i647 y678, na677⟩, ⟨a631, csa631, na631⟩] : List Own) ++ (Fa631 ++ [])), S, VS.selT 7 [1, 2, 2, 2, 2, 0, 0] (by kernel_rfl), a677, na677, by kernel_rfl, rfl, rfl⟩
                · rintro σ_ H_ S_ ⟨a805, na805, rfl, rfl, rfl⟩
                  refine w_reg fun all => ?_
                  refine t_qz 1 [1, 3, 5, 6, 7, 8, 9, 148] (σ' := [(1, .int .i64 o1), (3, .pointer (some ⟨b594, 0, none⟩)), (5, .pointer (some ⟨b595, 0, none⟩)), (6, .pointer (some ⟨b596, 0, none⟩)), (7, .pointer (some ⟨b597, 0, none⟩)), (8, .int .i64 x630), (9, .pointer (some ⟨b672, 0, none⟩)), (148, .pointer (some ⟨b597, 10, none⟩))]) (by kernel_rfl) ?_
                  refine t_v (.ld1 rfl rfl rfl (.at 1 rfl rfl)) ?_
                  refine t_v (.ldn rfl rfl rfl (.at 0 rfl rfl)) ?_
                  refine t_a (dv_bsl (cs := [.int .i64 t653, .int .i64 t654, .slice (ad a805) y806.length (na805 / 7), .bool x659]) rfl rfl (by kernel_rfl)) fun b807 fb807 sb807 => ?_
                  obtain ⟨y808, hl809, e635⟩ := bind_of e635
                  refine t_someB 6 rfl fun hba805_ => ?_
                  refine t_appN (R := rdOf (([⟨a805, encL E_i647 y806, na805⟩] : List Own) ++ (Fa631 ++ [])) S) (E := N_0) (L := y632) (X := ([(t653, t654, y806, x659)] : List (Int × Int × List (Int × Int × Int × Int × Int × Int × Int) × Bool))) (cs := csa631) (ds := [.int .i64 t653, .int .i64 t654, .slice (ad a805) y806.length (na805 / 7), .bool x659]) (F := (([⟨b807, [.int .i64 t653, .int .i64 t654, .slice (ad a805) y806.length (na805 / 7), .bool x659], 4⟩, ⟨b672, [.int .i64 t653, .int .i64 t654, .slice (ad a805) y806.length (na805 / 7), .bool x659], 4⟩, ⟨b597, [.int .i64 A2_0, .int .i64 A2_1, .int .i64 x604, .int .i64 A2_3, .int .i64 A2_4, .int .i64 A2_5, .int .i64 x615, .int .i64 x616, .int .i64 x625, .int .i64 x626, .slice (ad a631) y632.length (na631 / 4)], 11⟩, ⟨b596, [.int .i64 0, .int .i64 0, .int .i64 0, .int .i64 0, .int .i64 0, .int .i64 0, .int .i64 0, .int .i64 0, .int .i64 0, .int .i64 0, .slice none 0 0], 11⟩, ⟨b595, [.int .i64 A2_0, .int .i64 A2_1, .int .i64 A2_2, .int .i64 A2_3, .int .i64 A2_4, .int .i64 A2_5, .int .i64 A2_6, .int .i64 A2_7, .int .i64 A2_8, .int .i64 A2_9, .slice a_A2_10 A2_10.length c_A2_10], 11⟩, ⟨b594, [.int .i64 t0_0, .int .i64 t0_1, .int .i64 t0_2, .slice a_t0_3 n_t0_3 c_t0_3, .slice a_t0_4 n_t0_4 c_t0_4], 5⟩, ⟨a805, encL E_i647 y806, na805⟩] : List Own) ++ (Fa631 ++ []))) rfl rfl rfl rfl (sel_perm (is := [7]) (by kernel_rfl)) (RL.mono hra631 (rd_sub (sub_app (seg_in 1 (X := (Fa631 ++ [])) rfl seg_hd) sub_nil))) (RL.one (E := N_0) ⟨_, _, rfl, SlN.own (RL.flat (E := E_i647)) hba805_ (by decide) (fun _ hk_ => Or.inl ⟨_, mem_at 0 rfl, hk_, rfl⟩)⟩) rfl (by decide) (.at 0 rfl (by kernel_rfl)) rfl (by decide) (by decide) rfl hl809 fun a810 na810 csa810 hra810 => ?_
                  refine t_qz 1 [1, 3, 5, 6, 7, 8, 152, 153] (σ' := [(1, .int .i64 o1), (3, .pointer (some ⟨b594, 0, none⟩)), (5, .pointer (some ⟨b595, 0, none⟩)), (6, .pointer (some ⟨b596, 0, none⟩)), (7, .pointer (some ⟨b597, 0, none⟩)), (8, .int .i64 x630), (152, .slice (ad a810) y808.length (na810 / 4)), (153, .pointer (some ⟨b597, 10, none⟩))]) (by kernel_rfl) ?_
                  refine t_sti 3 (cs := [.int .i64 A2_0, .int .i64 A2_1, .int .i64 x604, .int .i64 A2_3, .int .i64 A2_4, .int .i64 A2_5, .int .i64 x615, .int .i64 x616, .int .i64 x625, .int .i64 x626, .slice (ad a810) y808.length (na810 / 4)]) rfl rfl rfl rfl rfl rfl rfl rfl rfl ?_
                  refine t_keep [1, 3, 5, 6, 7, 8] (σ' := [(1, .int .i64 o1), (3, .pointer (some ⟨b594, 0, none⟩)), (5, .pointer (some ⟨b595, 0, none⟩)), (6, .pointer (some ⟨b596, 0, none⟩)), (7, .pointer (some ⟨b597, 0, none⟩)), (8, .int .i64 x630)]) (by kernel_rfl) ?_
                  refine t_end ?_
                  obtain rfl := Option.some.inj e635
                  exact ⟨(([⟨b597, [.int .i64 A2_0, .int .i64 A2_1, .int .i64 x604, .int .i64 A2_3, .int .i64 A2_4, .int .i64 A2_5, .int .i64 x615, .int .i64 x616, .int .i64 x625, .int .i64 x626, .slice (ad a810) y808.length (na810 / 4)], 11⟩, ⟨b596, [.int .i64 0, .int .i64 0, .int .i64 0, .int .i64 0, .int .i64 0, .int .i64 0, .int .i64 0, .int .i64 0, .int .i64 0, .int .i64 0, .slice none 0 0], 11⟩, ⟨b595, [.int .i64 A2_0, .int .i64 A2_1, .int .i64 A2_2, .int .i64 A2_3, .int .i64 A2_4, .int .i64 A2_5, .int .i64 A2_6, .int .i64 A2_7, .int .i64 A2_8, .int .i64 A2_9, .slice a_A2_10 A2_10.length c_A2_10], 11⟩, ⟨b594, [.int .i64 t0_0, .int .i64 t0_1, .int .i64 t0_2, .slice a_t0_3 n_t0_3 c_t0_3, .slice a_t0_4 n_t0_4 c_t0_4], 5⟩, ⟨a810, csa810, na810⟩] : List Own) ++ ((([⟨a805, encL E_i647 y806, na805⟩] : List Own) ++ (Fa631 ++ [])) ++ [])), S, VS.treeA (.a (.l ([⟨a810, csa810, na810⟩, ⟨b807, [.int .i64 t653, .int .i64 t654, .slice (ad a805) y806.length (na805 / 7), .bool x659], 4⟩, ⟨b672, [.int .i64 t653, .int .i64 t654, .slice (ad a805) y806.length (na805 / 7), .bool x659], 4⟩, ⟨b597, [.int .i64 A2_0, .int .i64 A2_1, .int .i64 x604, .int .i64 A2_3, .int .i64 A2_4, .int .i64 A2_5, .int .i64 x615, .int .i64 x616, .int .i64 x625, .int .i64 x626, .slice (ad a810) y808.length (na810 / 4)], 11⟩, ⟨b596, [.int .i64 0, .int .i64 0, .int .i64 0, .int .i64 0, .int .i64 0, .int .i64 0, .int .i64 0, .int .i64 0, .int .i64 0, .int .i64 0, .slice none 0 0], 11⟩, ⟨b595, [.int .i64 A2_0, .int .i64 A2_1, .int .i64 A2_2, .int .i64 A2_3, .int .i64 A2_4, .int .i64 A2_5, .int .i64 A2_6, .int .i64 A2_7, .int .i64 A2_8, .int .i64 A2_9, .slice a_A2_10 A2_10.length c_A2_10], 11⟩, ⟨b594, [.int .i64 t0_0, .int .i64 t0_1, .int .i64 t0_2, .slice a_t0_3 n_t0_3 c_t0_3, .slice a_t0_4 n_t0_4 c_t0_4], 5⟩, ⟨a805, encL E_i647 y806, na805⟩] : List Own)) (.a (.f Fa631) (.l []))) (.a (.l ([⟨b597, [.int .i64 A2_0, .int .i64 A2_1, .int .i64 x604, .int .i64 A2_3, .int .i64 A2_4, .int .i64 A2_5, .int .i64 x615, .int .i64 x616, .int .i64 x625, .int .i64 x626, .slice (ad a810) y808.length (na810 / 4)], 11⟩, ⟨b596, [.int .i64 0, .int .i64 0, .int .i64 0, .int .i64 0, .int .i64 0, .int .i64 0, .int .i64 0, .int .i64 0, .int .i64 0, .int .i64 0, .slice none 0 0], 11⟩, ⟨b595, [.int .i64 A2_0, .int .i64 A2_1, .int .i64 A2_2, .int .i64 A2_3, .int .i64 A2_4, .int .i64 A2_5, .int .i64 A2_6, .int .i64 A2_7, .int .i64 A2_8, .int .i64 A2_9, .slice a_A2_10 A2_10.length c_A2_10], 11⟩, ⟨b594, [.int .i64 t0_0, .int .i64 t0_1, .int .i64 t0_2, .slice a_t0_3 n_t0_3 c_t0_3, .slice a_t0_4 n_t0_4 c_t0_4], 5⟩, ⟨a810, csa810, na810⟩] : List Own)) (.a (.a (.l ([⟨a805, encL E_i647 y806, na805⟩] : List Own)) (.a (.f Fa631) (.l []))) (.l []))) [3, 3, 3, 3, 0, 2, 2] (by kernel_rfl), a810, na810, csa810, (([⟨a805, encL E_i647 y806, na805⟩] : List Own) ++ (Fa631 ++ [])), by kernel_rfl, rfl, rfl, RL.mono hra810 (rd_sub seg_hd)⟩
              · rintro σ_ H_ S_ ⟨a811, na811, csa811, Fa811, rfl, rfl, rfl, hra811⟩
                refine w_reg fun all => ?_
                refine t_qz 3 [1, 3, 5, 6, 7, 8] (σ' := [(1, .int .i64 o1), (3, .pointer (some ⟨b594, 0, none⟩)), (5, .pointer (some ⟨b595, 0, none⟩)), (6, .pointer (some ⟨b596, 0, none⟩)), (7, .pointer (some ⟨b597, 0, none⟩)), (8, .int .i64 (wr64 (x630 + 1)))]) (by kernel_rfl) ?_
                refine t_end ?_
                exact ⟨k_, Nat.lt_succ_self _, [(1, .int .i64 o1), (3, .pointer (some ⟨b594, 0, none⟩)), (5, .pointer (some ⟨b595, 0, none⟩)), (6, .pointer (some ⟨b596, 0, none⟩)), (7, .pointer (some ⟨b597, 0, none⟩)), (8, .int .i64 (wr64 (x630 + 1)))], (([⟨a811, csa811, na811⟩, ⟨b597, [.int .i64 A2_0, .int .i64 A2_1, .int .i64 x604, .int .i64 A2_3, .int .i64 A2_4, .int .i64 A2_5, .int .i64 x615, .int .i64 x616, .int .i64 x625, .int .i64 x626, .slice (ad a811) y812.length (na811 / 4)], 11⟩, ⟨b596, [.int .i64 0, .int .i64 0, .int .i64 0, .int .i64 0, .int .i64 0, .int .i64 0, .int .i64 0, .int .i64 0, .int .i64 0, .int .i64 0, .slice none 0 0], 11⟩, ⟨b595, [.int .i64 A2_0, .int .i64 A2_1, .int .i64 A2_2, .int .i64 A2_3, .int .i64 A2_4, .int .i64 A2_5, .int .i64 A2_6, .int .i64 A2_7, .int .i64 A2_8, .int .i64 A2_9, .slice a_A2_10 A2_10.length c_A2_10], 11⟩, ⟨b594, [.int .i64 t0_0, .int .i64 t0_1, .int .i64 t0_2, .slice a_t0_3 n_t0_3 c_t0_3, .slice a_t0_4 n_t0_4 c_t0_4], 5⟩] : List Own) ++ ((Fa811 ++ []) ++ [])), S, keep_sub [1, 3, 5, 6, 7, 8] (by kernel_rfl), VS.treeA (.a (.l ([⟨b597, [.int .i64 A2_0, .int .i64 A2_1, .int .i64 x604, .int .i64 A2_3, .int .i64 A2_4, .int .i64 A2_5, .int .i64 x615, .int .i64 x616, .int .i64 x625, .int .i64 x626, .slice (ad a811) y812.length (na811 / 4)], 11⟩, ⟨b596, [.int .i64 0, .int .i64 0, .int .i64 0, .int .i64 0, .int .i64 0, .int .i64 0, .int .i64 0, .int .i64 0, .int .i64 0, .int .i64 0, .slice none 0 0], 11⟩, ⟨b595, [.int .i64 A2_0, .int .i64 A2_1, .int .i64 A2_2, .int .i64 A2_3, .int .i64 A2_4, .int .i64 A2_5, .int .i64 A2_6, .int .i64 A2_7, .int .i64 A2_8, .int .i64 A2_9, .slice a_A2_10 A2_10.length c_A2_10], 11⟩, ⟨b594, [.int .i64 t0_0, .int .i64 t0_1, .int .i64 t0_2, .slice a_t0_3 n_t0_3 c_t0_3, .slice a_t0_4 n_t0_4 c_t0_4], 5⟩, ⟨a811, csa811, na811⟩] : List Own)) (.a (.f Fa811) (.l []))) (.a (.l ([⟨a811, csa811, na811⟩, ⟨b597, [.int .i64 A2_0, .int .i64 A2_1, .int .i64 x604, .int .i64 A2_3, .int .i64 A2_4, .int .i64 A2_5, .int .i64 x615, .int .i64 x616, .int .i64 x625, .int .i64 x626, .slice (ad a811) y812.length (na811 / 4)], 11⟩, ⟨b596, [.int .i64 0, .int .i64 0, .int .i64 0, .int .i64 0, .int .i64 0, .int .i64 0, .int .i64 0, .int .i64 0, .int .i64 0, .int .i64 0, .slice none 0 0], 11⟩, ⟨b595, [.int .i64 A2_0, .int .i64 A2_1, .int .i64 A2_2, .int .i64 A2_3, .int .i64 A2_4, .int .i64 A2_5, .int .i64 A2_6, .int .i64 A2_7, .int .i64 A2_8, .int .i64 A2_9, .slice a_A2_10 A2_10.length c_A2_10], 11⟩, ⟨b594, [.int .i64 t0_0, .int .i64 t0_1, .int .i64 t0_2, .slice a_t0_3 n_t0_3 c_t0_3, .slice a_t0_4 n_t0_4 c_t0_4], 5⟩] : List Own)) (.a (.a (.f Fa811) (.l [])) (.l []))) [4, 0, 0, 0, 0, 0] (by kernel_rfl), wr64 (x630 + 1), y812, a811, na811, csa811, (Fa811 ++ []), rfl, rfl, rfl, e628, RL.mono hra811 (rd_sub seg_hd)⟩
            · rw [if_neg c633] at e628
              have c633b : (decide (x630 < (A2_10.length : Int))) = false := decide_eq_false c633
              refine t_qz 1 [1, 3, 5, 6, 7, 8, 73, 76] (σ' := [(1, .int .i64 o1), (3, .pointer (some ⟨b594, 0, none⟩)), (5, .pointer (some ⟨b595, 0, none⟩)), (6, .pointer (some ⟨b596, 0, none⟩)), (7, .pointer (some ⟨b597, 0, none⟩)), (8, .int .i64 x630), (73, .int .i64 x630), (76, .int .i64 (A2_10.length : Int))]) (by kernel_rfl) ?_
              refine t_v (dv_quiet rfl (congrArg (fun t => some (Value.bool t)) c633b)) ?_
              refine t_keep [1, 3, 5, 6, 7, 8, 77] (σ' := [(1, .int .i64 o1), (3, .pointer (some ⟨b594, 0, none⟩)), (5, .pointer (some ⟨b595, 0, none⟩)), (6, .pointer (some ⟨b596, 0, none⟩)), (7, .pointer (some ⟨b597, 0, none⟩)), (8, .int .i64 x630), (77, .bool false)]) (by kernel_rfl) ?_
              refine t_end ?_
              show W _ _ _ _ _ _ _
              refine w_cond rfl (fun c_ => by cases c_) (fun _ => ?_)
              show W _ _ _ _ _ _ _
              refine w_exit ?_
              obtain rfl := Option.some.inj e628
              exact ⟨(([⟨b597, [.int .i64 A2_0, .int .i64 A2_1, .int .i64 x604, .int .i64 A2_3, .int .i64 A2_4, .int .i64 A2_5, .int .i64 x615, .int .i64 x616, .int .i64 x625, .int .i64 x626, .slice (ad a631) y632.length (na631 / 4)], 11⟩, ⟨b596, [.int .i64 0, .int .i64 0, .int .i64 0, .int .i64 0, .int .i64 0, .int .i64 0, .int .i64 0, .int .i64 0, .int .i64 0, .int .i64 0, .slice none 0 0], 11⟩, ⟨b595, [.int .i64 A2_0, .int .i64 A2_1, .int .i64 A2_2, .int .i64 A2_3, .int .i64 A2_4, .int .i64 A2_5, .int .i64 A2_6, .int .i64 A2_7, .int .i64 A2_8, .int .i64 A2_9, .slice a_A2_10 A2_10.length c_A2_10], 11⟩, ⟨b594, [.int .i64 t0_0, .int .i64 t0_1, .int .i64 t0_2, .slice a_t0_3 n_t0_3 c_t0_3, .slice a_t0_4 n_t0_4 c_t0_4], 5⟩, ⟨a631, csa631, na631⟩] : List Own) ++ ((Fa631 ++ []) ++ [])), S, VS.treeA (.a (.l ([⟨a631, csa631, na631⟩, ⟨b597, [.int .i64 A2_0, .int .i64 A2_1, .int .i64 x604, .int .i64 A2_3, .int .i64 A2_4, .int .i64 A2_5, .int .i64 x615, .int .i64 x616, .int .i64 x625, .int .i64 x626, .slice (ad a631) y632.length (na631 / 4)], 11⟩, ⟨b596, [.int .i64 0, .int .i64 0, .int .i64 0, .int .i64 0, .int .i64 0, .int .i64 0, .int .i64 0, .int .i64 0, .int .i64 0, .int .i64 0, .slice none 0 0], 11⟩, ⟨b595, [.int .i64 A2_0, .int .i64 A2_1, .int .i64 A2_2, .int .i64 A2_3, .int .i64 A2_4, .int .i64 A2_5, .int .i64 A2_6, .int .i64 A2_7, .int .i64 A2_8, .int .i64 A2_9, .slice a_A2_10 A2_10.length c_A2_10], 11⟩, ⟨b594, [.int .i64 t0_0, .int .i64 t0_1, .int .i64 t0_2, .slice a_t0_3 n_t0_3 c_t0_3, .slice a_t0_4 n_t0_4 c_t0_4], 5⟩] : List Own)) (.a (.f Fa631) (.l []))) (.a (.l ([⟨b597, [.int .i64 A2_0, .int .i64 A2_1, .int .i64 x604, .int .i64 A2_3, .int .i64 A2_4, .int .i64 A2_5, .int .i64 x615, .int .i64 x616, .int .i64 x625, .int .i64 x626, .slice (ad a631) y632.length (na631 / 4)], 11⟩, ⟨b596, [.int .i64 0, .int .i64 0, .int .i64 0, .int .i64 0, .int .i64 0, .int .i64 0, .int .i64 0, .int .i64 0, .int .i64 0, .int .i64 0, .slice none 0 0], 11⟩, ⟨b595, [.int .i64 A2_0, .int .i64 A2_1, .int .i64 A2_2, .int .i64 A2_3, .int .i64 A2_4, .int .i64 A2_5, .int .i64 A2_6, .int .i64 A2_7, .int .i64 A2_8, .int .i64 A2_9, .slice a_A2_10 A2_10.length c_A2_10], 11⟩, ⟨b594, [.int .i64 t0_0, .int .i64 t0_1, .int .i64 t0_2, .slice a_t0_3 n_t0_3 c_t0_3, .slice a_t0_4 n_t0_4 c_t0_4], 5⟩, ⟨a631, csa631, na631⟩] : List Own)) (.a (.a (.f Fa631) (.l [])) (.l []))) [1, 1, 1, 1, 0, 0] (by kernel_rfl), a631, na631, csa631, (Fa631 ++ []), by kernel_rfl, rfl, rfl, RL.mono hra631 (rd_sub seg_hd)⟩
        · rintro σ_ H_ S_ ⟨a815, na815, csa815, Fa815, rfl, rfl, rfl, hra815⟩
          refine w_seq ?_
          refine w_reg fun all => ?_
          refine t_v (.ldn rfl rfl rfl (.at 0 rfl rfl)) ?_
          refine t_sti 1 (cs := [.int .i64 A2_0, .int .i64 A2_1, .int .i64 x604, .int .i64 A2_3, .int .i64 A2_4, .int .i64 A2_5, .int .i64 x615, .int .i64 x616, .int .i64 x625, .int .i64 x626, .slice (ad a815) y816.length (na815 / 4)]) rfl rfl rfl rfl rfl rfl rfl rfl rfl ?_
          refine t_keep [6] (σ' := [(6, .pointer (some ⟨b596, 0, none⟩))]) (by kernel_rfl) ?_
          refine t_end ?_
          show W _ _ _ _ _ _ _
          refine w_someB 4 rfl fun hz4_ => ?_
          refine w_ret ?_
          simp only [Option.some.injEq, Prod.mk.injEq] at e
          obtain ⟨rfl, rfl, rfl, rfl, rfl, rfl, rfl, rfl, rfl, rfl, rfl⟩ := e
          exact ⟨[.agg #[.int .i64 A2_0, .int .i64 A2_1, .int .i64 x604, .int .i64 A2_3, .int .i64 A2_4, .int .i64 A2_5, .int .i64 x615, .int .i64 x616, .int .i64 x625, .int .i64 x626, .slice (ad a815) y816.length (na815 / 4)]], ((([⟨a815, csa815, na815⟩] : List Own) ++ (Fa815 ++ [])) ++ []), S, ⟨⟨_, _, _, rfl, .at 1 rfl rfl, rfl⟩, trivial⟩, VS.treeA (.a (.l ([⟨b597, [.int .i64 A2_0, .int .i64 A2_1, .int .i64 x604, .int .i64 A2_3, .int .i64 A2_4, .int .i64 A2_5, .int .i64 x615, .int .i64 x616, .int .i64 x625, .int .i64 x626, .slice (ad a815) y816.length (na815 / 4)], 11⟩, ⟨b596, [.int .i64 A2_0, .int .i64 A2_1, .int .i64 x604, .int .i64 A2_3, .int .i64 A2_4, .int .i64 A2_5, .int .i64 x615, .int .i64 x616, .int .i64 x625, .int .i64 x626, .slice (ad a815) y816.length (na815 / 4)], 11⟩, ⟨b595, [.int .i64 A2_0, .int .i64 A2_1, .int .i64 A2_2, .int .i64 A2_3, .int .i64 A2_4, .int .i64 A2_5, .int .i64 A2_6, .int .i64 A2_7, .int .i64 A2_8, .int .i64 A2_9, .slice a_A2_10 A2_10.length c_A2_10], 11⟩, ⟨b594, [.int .i64 t0_0, .int .i64 t0_1, .int .i64 t0_2, .slice a_t0_3 n_t0_3 c_t0_3, .slice a_t0_4 n_t0_4 c_t0_4], 5⟩, ⟨a815, csa815, na815⟩] : List Own)) (.a (.f Fa815) (.l []))) (.a (.a (.l ([⟨a815, csa815, na815⟩] : List Own)) (.a (.f Fa815) (.l []))) (.l [])) [4, 4] (by kernel_rfl), (ad a815), (na815 / 4), (([⟨a815, csa815, na815⟩] : List Own) ++ (Fa815 ++ [])), rfl, rfl, rfl, SlN.mono (SlN.own (E := N_0) (RL.mono hra815 (rd_sub (sub_app (seg_in 1 (X := (Fa815 ++ [])) rfl seg_hd) sub_nil))) hz4_ (by decide) (fun _ hk_ => Or.inl ⟨_, mem_at 0 rfl, hk_, rfl⟩)) (rd_sub fun e_ he_ => seg_hd e_ ((sub_app (sub_cons (mem_at 0 rfl) sub_nil) (sub_app (seg_in 1 (X := (Fa815 ++ [])) rfl seg_hd) sub_nil)) e_ he_))⟩

/-- glyphicref.SamePaint -/
def c31 : C :=
  (.seq (.reg [⟨(some 2), .box (.tmp 0), none⟩,
     ⟨(some 3), .box (.tmp 1), none⟩,
     ⟨(some 4), .mv (.const (.bool false)), none⟩])
  (.seq (.reg [⟨(some 5), .pad 0 (.tmp 2), none⟩,
     ⟨(some 6), .ld none (.tmp 5), none⟩,
     ⟨(some 7), .pad 0 (.tmp 3), none⟩,
     ⟨(some 8), .ld none (.tmp 7), none⟩,
     ⟨(some 9), .bin .eql (.tmp 6) (.tmp 8), none⟩,
     ⟨(some 10), .mv (.tmp 9), none⟩,
     ⟨(some 11), .pad 1 (.tmp 2), (some (10, true))⟩,
     ⟨(some 12), .ld none (.tmp 11), (some (10, true))⟩,
     ⟨(some 13), .pad 1 (.tmp 3), (some (10, true))⟩,
     ⟨(some 14), .ld none (.tmp 13), (some (10, true))⟩,
     ⟨(some 15), .bin .eql (.tmp 12) (.tmp 14), (some (10, true))⟩,
     ⟨(some 16), .pk (.tmp 10) (.tmp 15) (.const (.bool false)), none⟩,
     ⟨(some 17), .mv (.tmp 16), none⟩,
     ⟨(some 18), .pad 2 (.tmp 2), (some (17, true))⟩,
     ⟨(some 19), .ld none (.tmp 18), (some (17, true))⟩,
     ⟨(some 20), .pad 2 (.tmp 3), (some (17, true))⟩,
     ⟨(some 21), .ld none (.tmp 20), (some (17, true))⟩,
     ⟨(some 22), .bin .eql (.tmp 19) (.tmp 21), (some (17, true))⟩,
     ⟨(some 23), .pk (.tmp 17) (.tmp 22) (.const (.bool false)), none⟩,
     ⟨(some 24), .mv (.tmp 23), none⟩,
     ⟨(some 25), .pad 3 (.tmp 2), (some (24, true))⟩,
     ⟨(some 26), .ld (some 2) (.tmp 25), (some (24, true))⟩,
     ⟨(some 27), .pad 3 (.tmp 3), (some (24, true))⟩,
     ⟨(some 28), .ld (some 2) (.tmp 27), (some (24, true))⟩,
     ⟨(some 29), .call 27 [(.tmp 26), (.tmp 28)], (some (24, true))⟩,
     ⟨(some 30), .pk (.tmp 24) (.tmp 29) (.const (.bool false)), none⟩,
     ⟨(some 31), .mv (.tmp 30), none⟩,
     ⟨(some 32), .pad 5 (.tmp 2), (some (31, true))⟩,
     ⟨(some 33), .ld (some 2) (.tmp 32), (some (31, true))⟩,
     ⟨(some 34), .pad 5 (.tmp 3), (some (31, true))⟩,
     ⟨(some 35), .ld (some 2) (.tmp 34), (some (31, true))⟩,
     ⟨(some 36), .call 27 [(.tmp 33), (.tmp 35)], (some (31, true))⟩,
     ⟨(some 37), .pk (.tmp 31) (.tmp 36) (.const (.bool false)), none⟩,
     ⟨(some 4), .mv (.tmp 37), none⟩])
  .ret))
def glyphicref_SamePaint.f (a0_Kind : Int) (a0_A : Int) (a0_B : Int) (a0_P_X : Int) (a0_P_Y : Int) (a0_Q_X : Int) (a0_Q_Y : Int) (b1_Kind : Int) (b1_A : Int) (b1_B : Int) (b1_P_X : Int) (b1_P_Y : Int) (b1_Q_X : Int) (b1_Q_Y : Int) : Option (Bool) := if a0_Kind = b1_Kind then (if a0_A = b1_A then (if a0_B = b1_B then ((glyphicref_SamePoint.f a0_P_X a0_P_Y b1_P_X b1_P_Y).bind fun t840 => (if t840 = true then ((glyphicref_SamePoint.f a0_Q_X a0_Q_Y b1_Q_X b1_Q_Y).bind fun t842 => (some t842)) else (some false))) else (some false)) else (some false)) else (some false)
theorem glyphicref_SamePaint.ok {S : Seal} {a0_Kind : Int} {a0_A : Int} {a0_B : Int} {a0_P_X : Int} {a0_P_Y : Int} {a0_Q_X : Int} {a0_Q_Y : Int} {b1_Kind : Int} {b1_A : Int} {b1_B : Int} {b1_P_X : Int} {b1_P_Y : Int} {b1_Q_X : Int} {b1_Q_Y : Int} {r0_ : Bool}{A_ : Int → Addr} (hE_ : EO gsE S A_ 94) (e : glyphicref_SamePaint.f a0_Kind a0_A a0_B a0_P_X a0_P_Y a0_Q_X a0_Q_Y b1_Kind b1_A b1_B b1_P_X b1_P_Y b1_Q_X b1_Q_Y = some r0_) :
    Cal Tryd.prog 31 [.agg #[.int .i64 a0_Kind, .int .i64 a0_A, .int .i64 a0_B, .int .i64 a0_P_X, .int .i64 a0_P_Y, .int .i64 a0_Q_X, .int .i64 a0_Q_Y], .agg #[.int .i64 b1_Kind, .int .i64 b1_A, .int .i64 b1_B, .int .i64 b1_P_X, .int .i64 b1_P_Y, .int .i64 b1_Q_X, .int .i64 b1_Q_Y]] [] S fun v H' S' => v = .bool r0_ ∧ H' = [] ∧ S' = S := by
  unfold glyphicref_SamePaint.f at e
  refine cal_of (c := c31) (N := 38) Tryd.func31 rfl rfl (by kernel_rfl) (rs := [.t 4]) (by kernel_rfl) (Nat.le_of_ble_eq_true rfl) ?_
  unfold c31
  refine w_seq ?_
  refine w_reg fun all => ?_
  refine t_a (.box rfl rfl rfl) fun b835 fb835 sb835 => ?_
  refine t_a (.box rfl rfl rfl) fun b836 fb836 sb836 => ?_
  refine t_qz 1 [2, 3] (σ' := [(2, .pointer (some ⟨b835, 0, none⟩)), (3, .pointer (some ⟨b836, 0, none⟩))]) (by kernel_rfl) ?_
  refine t_end ?_
  show W _ _ _ _ _ _ _
  refine w_seq ?_
  refine w_reg fun all => ?_
  refine t_qz 1 [2, 3, 5] (σ' := [(2, .pointer (some ⟨b835, 0, none⟩)), (3, .pointer (some ⟨b836, 0, none⟩)), (5, .pointer (some ⟨b835, 0, none⟩))]) (by kernel_rfl) ?_
  refine t_v (.ld1 rfl rfl rfl (.at 1 rfl rfl)) ?_
  refine t_qz 1 [2, 3, 6, 7] (σ' := [(2, .pointer (some ⟨b835, 0, none⟩)), (3, .pointer (some ⟨b836, 0, none⟩)), (6, .int .i64 a0_Kind), (7, .pointer (some ⟨b836, 0, none⟩))]) (by kernel_rfl) ?_
  refine t_v (.ld1 rfl rfl rfl (.at 0 rfl rfl)) ?_
  by_cases c837 : a0_Kind = b1_Kind
  · rw [if_pos c837] at e
    have c837b : (a0_Kind == b1_Kind) = true := beq_iff_eq.mpr c837
    refine t_v (dv_quiet rfl (congrArg (fun t => some (Value.bool t)) c837b)) ?_
    refine t_qz 2 [2, 3, 10, 11] (σ' := [(2, .pointer (some ⟨b835, 0, none⟩)), (3, .pointer (some ⟨b836, 0, none⟩)), (10, .bool true), (11, .pointer (some ⟨b835, 1, none⟩))]) (by kernel_rfl) ?_
    refine t_v (.ld1 rfl rfl rfl (.at 1 rfl rfl)) ?_
    refine t_qz 1 [2, 3, 10, 12, 13] (σ' := [(2, .pointer (some ⟨b835, 0, none⟩)), (3, .pointer (some ⟨b836, 0, none⟩)), (10, .bool true), (12, .int .i64 a0_A), (13, .pointer (some ⟨b836, 1, none⟩))]) (by kernel_rfl) ?_
    refine t_v (.ld1 rfl rfl rfl (.at 0 rfl rfl)) ?_
    by_cases c838 : a0_A = b1_A
    · rw [if_pos c838] at e
      have c838b : (a0_A == b1_A) = true := beq_iff_eq.mpr c838
      refine t_v (dv_quiet rfl (congrArg (fun t => some (Value.bool t)) c838b)) ?_
      refine t_qz 3 [2, 3, 17, 18] (σ' := [(2, .pointer (some ⟨b835, 0, none⟩)), (3, .pointer (some ⟨b836, 0, none⟩)), (17, .bool true), (18, .pointer (some ⟨b835, 2, none⟩))]) (by kernel_rfl) ?_
      refine t_v (.ld1 rfl rfl rfl (.at 1 rfl rfl)) ?_
      refine t_qz 1 [2, 3, 17, 19, 20] (σ' := [(2, .pointer (some ⟨b835, 0, none⟩)), (3, .pointer (some ⟨b836, 0, none⟩)), (17, .bool true), (19, .int .i64 a0_B), (20, .pointer (some ⟨b836, 2, none⟩))]) (by kernel_rfl) ?_
      refine t_v (.ld1 rfl rfl rfl (.at 0 rfl rfl)) ?_
      by_cases c839 : a0_B = b1_B
      · rw [if_pos c839] at e
        have c839b : (a0_B == b1_B) = true := beq_iff_eq.mpr c839
        refine t_v (dv_quiet rfl (congrArg (fun t => some (Value.bool t)) c839b)) ?_
        refine t_qz 3 [2, 3, 24, 25] (σ' := [(2, .pointer (some ⟨b835, 0, none⟩)), (3, .pointer (some ⟨b836, 0, none⟩)), (24, .bool true), (25, .pointer (some ⟨b835, 3, none⟩))]) (by kernel_rfl) ?_
        refine t_v (.ldn rfl rfl rfl (.at 1 rfl rfl)) ?_
        refine t_qz 1 [2, 3, 24, 26, 27] (σ' := [(2, .pointer (some ⟨b835, 0, none⟩)), (3, .pointer (some ⟨b836, 0, none⟩)), (24, .bool true), (26, .agg #[.int .i64 a0_P_X, .int .i64 a0_P_Y]), (27, .pointer (some ⟨b836, 3, none⟩))]) (by kernel_rfl) ?_
        refine t_v (.ldn rfl rfl rfl (.at 0 rfl rfl)) ?_
        obtain ⟨t840, h841, e⟩ := bind_of e
        cases t840 with
        | true =>
          rw [if_pos rfl] at e
          refine t_v (.call (vs := [.agg #[.int .i64 a0_P_X, .int .i64 a0_P_Y], .agg #[.int .i64 b1_P_X, .int .i64 b1_P_Y]]) rfl rfl (by kernel_rfl) (glyphicref_SamePoint.ok hE_ h841)) ?_
          refine t_qz 3 [3, 31, 32] (σ' := [(3, .pointer (some ⟨b836, 0, none⟩)), (31, .bool true), (32, .pointer (some ⟨b835, 5, none⟩))]) (by kernel_rfl) ?_
          refine t_v (.ldn rfl rfl rfl (.at 1 rfl rfl)) ?_
          refine t_qz 1 [31, 33, 34] (σ' := [(31, .bool true), (33, .agg #[.int .i64 a0_Q_X, .int .i64 a0_Q_Y]), (34, .pointer (some ⟨b836, 5, none⟩))]) (by kernel_rfl) ?_
          refine t_v (.ldn rfl rfl rfl (.at 0 rfl rfl)) ?_
          obtain ⟨t842, h843, e⟩ := bind_of e
          refine t_v (.call (vs := [.agg #[.int .i64 a0_Q_X, .int .i64 a0_Q_Y], .agg #[.int .i64 b1_Q_X, .int .i64 b1_Q_Y]]) rfl rfl (by kernel_rfl) (glyphicref_SamePoint.ok hE_ h843)) ?_
          refine t_qz 2 [4] (σ' := [(4, .bool t842)]) (by kernel_rfl) ?_
          refine t_end ?_
          show W _ _ _ _ _ _ _
          refine w_ret ?_
          obtain rfl := Option.some.inj e
          exact ⟨[.bool t842], [], S, ⟨rfl, trivial⟩, VS.none, rfl, rfl, rfl⟩
        | false =>
          rw [if_neg (by decide)] at e
          refine t_v (.call (vs := [.agg #[.int .i64 a0_P_X, .int .i64 a0_P_Y], .agg #[.int .i64 b1_P_X, .int .i64 b1_P_Y]]) rfl rfl (by kernel_rfl) (glyphicref_SamePoint.ok hE_ h841)) ?_
          refine t_qz 9 [4] (σ' := [(4, .bool false)]) (by kernel_rfl) ?_
          refine t_end ?_
          show W _ _ _ _ _ _ _
          refine w_ret ?_
          obtain rfl := Option.some.inj e
          exact ⟨[.bool false], [], S, ⟨rfl, trivial⟩, VS.none, rfl, rfl, rfl⟩
      · rw [if_neg c839] at e
        have c839b : (a0_B == b1_B) = false := beq_eq_false_iff_ne.mpr c839
        refine t_v (dv_quiet rfl (congrArg (fun t => some (Value.bool t)) c839b)) ?_
        refine t_qz 16 [4] (σ' := [(4, .bool false)]) (by kernel_rfl) ?_
        refine t_end ?_
        show W _ _ _ _ _ _ _
        refine w_ret ?_
        obtain rfl := Option.some.inj e
        exact ⟨[.bool false], [], S, ⟨rfl, trivial⟩, VS.none, rfl, rfl, rfl⟩
    · rw [if_neg c838] at e
      have c838b : (a0_A == b1_A) = false := beq_eq_false_iff_ne.mpr c838
      refine t_v (dv_quiet rfl (congrArg (fun t => some (Value.bool t)) c838b)) ?_
      refine t_qz 23 [4] (σ' := [(4, .bool false)]) (by kernel_rfl) ?_
      refine t_end ?_
      show W _ _ _ _ _ _ _
      refine w_ret ?_
      obtain rfl := Option.some.inj e
      exact ⟨[.bool false], [], S, ⟨rfl, trivial⟩, VS.none, rfl, rfl, rfl⟩
  · rw [if_neg c837] at e
    have c837b : (a0_Kind == b1_Kind) = false := beq_eq_false_iff_ne.mpr c837
    refine t_v (dv_quiet rfl (congrArg (fun t => some (Value.bool t)) c837b)) ?_
    refine t_qz 29 [4] (σ' := [(4, .bool false)]) (by kernel_rfl) ?_
    refine t_end ?_
    show W _ _ _ _ _ _ _
    refine w_ret ?_
    obtain rfl := Option.some.inj e
    exact ⟨[.bool false], [], S, ⟨rfl, trivial⟩, VS.none, rfl, rfl, rfl⟩

/-- glyphicref.SameSeg -/
def c49 : C :=
  (.seq (.reg [⟨(some 2), .box (.tmp 0), none⟩,
     ⟨(some 3), .box (.tmp 1), none⟩,
     ⟨(some 4), .mv (.const (.bool false)), none⟩])
  (.seq (.reg [⟨(some 5), .pad 0 (.tmp 2), none⟩,
     ⟨(some 6), .ld none (.tmp 5), none⟩,
     ⟨(some 7), .pad 0 (.tmp 3), none⟩,
     ⟨(some 8), .ld none (.tmp 7), none⟩,
     ⟨(some 9), .bin .eql (.tmp 6) (.tmp 8), none⟩,
     ⟨(some 10), .mv (.tmp 9), none⟩,
     ⟨(some 11), .pad 1 (.tmp 2), (some (10, true))⟩,
     ⟨(some 12), .ixa 2 3 (.tmp 11) (.const (.int .i64 0)), (some (10, true))⟩,
     ⟨(some 13), .ld (some 2) (.tmp 12), (some (10, true))⟩,
     ⟨(some 14), .pad 1 (.tmp 3), (some (10, true))⟩,
     ⟨(some 15), .ixa 2 3 (.tmp 14) (.const (.int .i64 0)), (some (10, true))⟩,
     ⟨(some 16), .ld (some 2) (.tmp 15), (some (10, true))⟩,
     ⟨(some 17), .call 27 [(.tmp 13), (.tmp 16)], (some (10, true))⟩,
     ⟨(some 18), .pk (.tmp 10) (.tmp 17) (.const (.bool false)), none⟩,
     ⟨(some 19), .mv (.tmp 18), none⟩,
     ⟨(some 20), .pad 1 (.tmp 2), (some (19, true))⟩,
     ⟨(some 21), .ixa 2 3 (.tmp 20) (.const (.int .i64 1)), (some (19, true))⟩,
     ⟨(some 22), .ld (some 2) (.tmp 21), (some (19, true))⟩,
     ⟨(some 23), .pad 1 (.tmp 3), (some (19, true))⟩,
     ⟨(some 24), .ixa 2 3 (.tmp 23) (.const (.int .i64 1)), (some (19, true))⟩,
     ⟨(some 25), .ld (some 2) (.tmp 24), (some (19, true))⟩,
     ⟨(some 26), .call 27 [(.tmp 22), (.tmp 25)], (some (19, true))⟩,
     ⟨(some 27), .pk (.tmp 19) (.tmp 26) (.const (.bool false)), none⟩,
     ⟨(some 28), .mv (.tmp 27), none⟩,
     ⟨(some 29), .pad 1 (.tmp 2), (some (28, true))⟩,
     ⟨(some 30), .ixa 2 3 (.tmp 29) (.const (.int .i64 2)), (some (28, true))⟩,
     ⟨(some 31), .ld (some 2) (.tmp 30), (some (28, true))⟩,
     ⟨(some 32), .pad 1 (.tmp 3), (some (28, true))⟩,
     ⟨(some 33), .ixa 2 3 (.tmp 32) (.const (.int .i64 2)), (some (28, true))⟩,
     ⟨(some 34), .ld (some 2) (.tmp 33), (some (28, true))⟩,
     ⟨(some 35), .call 27 [(.tmp 31), (.tmp 34)], (some (28, true))⟩,
     ⟨(some 36), .pk (.tmp 28) (.tmp 35) (.const (.bool false)), none⟩,
     ⟨(some 4), .mv (.tmp 36), none⟩])
  .ret))
def glyphicref_SameSeg.f (a0_Kind : Int) (a0_P_0_X : Int) (a0_P_0_Y : Int) (a0_P_1_X : Int) (a0_P_1_Y : Int) (a0_P_2_X : Int) (a0_P_2_Y : Int) (b1_Kind : Int) (b1_P_0_X : Int) (b1_P_0_Y : Int) (b1_P_1_X : Int) (b1_P_1_Y : Int) (b1_P_2_X : Int) (b1_P_2_Y : Int) : Option (Bool) := if a0_Kind = b1_Kind then ((glyphicref_SamePoint.f a0_P_0_X a0_P_0_Y b1_P_0_X b1_P_0_Y).bind fun t930 => (if t930 = true then ((glyphicref_SamePoint.f a0_P_1_X a0_P_1_Y b1_P_1_X b1_P_1_Y).bind fun t932 => (if t932 = true then ((glyphicref_SamePoint.f a0_P_2_X a0_P_2_Y b1_P_2_X b1_P_2_Y).bind fun t934 => (some t934)) else (some false))) else (some false))) else (some false)
theorem glyphicref_SameSeg.ok {S : Seal} {a0_Kind : Int} {a0_P_0_X : Int} {a0_P_0_Y : Int} {a0_P_1_X : Int} {a0_P_1_Y : Int} {a0_P_2_X : Int} {a0_P_2_Y : Int} {b1_Kind : Int} {b1_P_0_X : Int} {b1_P_0_Y : Int} {b1_P_1_X : Int} {b1_P_1_Y : Int} {b1_P_2_X : Int} {b1_P_2_Y : Int} {r0_ : Bool}{A_ : Int → Addr} (hE_ : EO gsE S A_ 94) (e : glyphicref_SameSeg.f a0_Kind a0_P_0_X a0_P_0_Y a0_P_1_X a0_P_1_Y a0_P_2_X a0_P_2_Y b1_Kind b1_P_0_X b1_P_0_Y b1_P_1_X b1_P_1_Y b1_P_2_X b1_P_2_Y = some r0_) :
    Cal Tryd.prog 49 [.agg #[.int .i64 a0_Kind, .int .i64 a0_P_0_X, .int .i64 a0_P_0_Y, .int .i64 a0_P_1_X, .int .i64 a0_P_1_Y, .int .i64 a0_P_2_X, .int .i64 a0_P_2_Y], .agg #[.int .i64 b1_Kind, .int .i64 b1_P_0_X, .int .i64 b1_P_0_Y, .int .i64 b1_P_1_X, .int .i64 b1_P_1_Y, .int .i64 b1_P_2_X, .int .i64 b1_P_2_Y]] [] S fun v H' S' => v = .bool r0_ ∧ H' = [] ∧ S' = S := by
  unfold glyphicref_SameSeg.f at e
  refine cal_of (c := c49) (N := 37) Tryd.func49 rfl rfl (by kernel_rfl) (rs := [.t 4]) (by kernel_rfl) (Nat.le_of_ble_eq_true rfl) ?_
  unfold c49
  refine w_seq ?_
  refine w_reg fun all => ?_
  refine t_a (.box rfl rfl rfl) fun b927 fb927 sb927 => ?_
  refine t_a (.box rfl rfl rfl) fun b928 fb928 sb928 => ?_
  refine t_qz 1 [2, 3] (σ' := [(2, .pointer (some ⟨b927, 0, none⟩)), (3, .pointer (some ⟨b928, 0, none⟩))]) (by kernel_rfl) ?_
  refine t_end ?_
  show W _ _ _ _ _ _ _
  refine w_seq ?_
  refine w_reg fun all => ?_
  refine t_qz 1 [2, 3, 5] (σ' := [(2, .pointer (some ⟨b927, 0, none⟩)), (3, .pointer (some ⟨b928, 0, none⟩)), (5, .pointer (some ⟨b927, 0, none⟩))]) (by kernel_rfl) ?_
  refine t_v (.ld1 rfl rfl rfl (.at 1 rfl rfl)) ?_
  refine t_qz 1 [2, 3, 6, 7] (σ' := [(2, .pointer (some ⟨b927, 0, none⟩)), (3, .pointer (some ⟨b928, 0, none⟩)), (6, .int .i64 a0_Kind), (7, .pointer (some ⟨b928, 0, none⟩))]) (by kernel_rfl) ?_
  refine t_v (.ld1 rfl rfl rfl (.at 0 rfl rfl)) ?_
  by_cases c929 : a0_Kind = b1_Kind
  · rw [if_pos c929] at e
    have c929b : (a0_Kind == b1_Kind) = true := beq_iff_eq.mpr c929
    refine t_v (dv_quiet rfl (congrArg (fun t => some (Value.bool t)) c929b)) ?_
    refine t_qz 3 [2, 3, 10, 12] (σ' := [(2, .pointer (some ⟨b927, 0, none⟩)), (3, .pointer (some ⟨b928, 0, none⟩)), (10, .bool true), (12, .pointer (some ⟨b927, 1, none⟩))]) (by kernel_rfl) ?_
    refine t_v (.ldn rfl rfl rfl (.at 1 rfl rfl)) ?_
    refine t_qz 2 [2, 3, 10, 13, 15] (σ' := [(2, .pointer (some ⟨b927, 0, none⟩)), (3, .pointer (some ⟨b928, 0, none⟩)), (10, .bool true), (13, .agg #[.int .i64 a0_P_0_X, .int .i64 a0_P_0_Y]), (15, .pointer (some ⟨b928, 1, none⟩))]) (by kernel_rfl) ?_
    refine t_v (.ldn rfl rfl rfl (.at 0 rfl rfl)) ?_
    obtain ⟨t930, h931, e⟩ := bind_of e
    cases t930 with
    | true =>
      rw [if_pos rfl] at e
      refine t_v (.call (vs := [.agg #[.int .i64 a0_P_0_X, .int .i64 a0_P_0_Y], .agg #[.int .i64 b1_P_0_X, .int .i64 b1_P_0_Y]]) rfl rfl (by kernel_rfl) (glyphicref_SamePoint.ok hE_ h931)) ?_
      refine t_qz 4 [2, 3, 19, 21] (σ' := [(2, .pointer (some ⟨b927, 0, none⟩)), (3, .pointer (some ⟨b928, 0, none⟩)), (19, .bool true), (21, .pointer (some ⟨b927, 3, none⟩))]) (by kernel_rfl) ?_
      refine t_v (.ldn rfl rfl rfl (.at 1 rfl rfl)) ?_
      refine t_qz 2 [2, 3, 19, 22, 24] (σ' := [(2, .pointer (some ⟨b927, 0, none⟩)), (3, .pointer (some ⟨b928, 0, none⟩)), (19, .bool true), (22, .agg #[.int .i64 a0_P_1_X, .int .i64 a0_P_1_Y]), (24, .pointer (some ⟨b928, 3, none⟩))]) (by kernel_rfl) ?_
      refine t_v (.ldn rfl rfl rfl (.at 0 rfl rfl)) ?_
      obtain ⟨t932, h933, e⟩ := bind_of e
      cases t932 with
      | true =>
        rw [if_pos rfl] at e
        refine t_v (.call (vs := [.agg #[.int .i64 a0_P_1_X, .int .i64 a0_P_1_Y], .agg #[.int .i64 b1_P_1_X, .int .i64 b1_P_1_Y]]) rfl rfl (by kernel_rfl) (glyphicref_SamePoint.ok hE_ h933)) ?_
        refine t_qz 4 [3, 28, 30] (σ' := [(3, .pointer (some ⟨b928, 0, none⟩)), (28, .bool true), (30, .pointer (some ⟨b927, 5, none⟩))]) (by kernel_rfl) ?_
        refine t_v (.ldn rfl rfl rfl (.at 1 rfl rfl)) ?_
        refine t_qz 2 [28, 31, 33] (σ' := [(28, .bool true), (31, .agg #[.int .i64 a0_P_2_X, .int .i64 a0_P_2_Y]), (33, .pointer (some ⟨b928, 5, none⟩))]) (by kernel_rfl) ?_
        refine t_v (.ldn rfl rfl rfl (.at 0 rfl rfl)) ?_
        obtain ⟨t934, h935, e⟩ := bind_of e
        refine t_v (.call (vs := [.agg #[.int .i64 a0_P_2_X, .int .i64 a0_P_2_Y], .agg #[.int .i64 b1_P_2_X, .int .i64 b1_P_2_Y]]) rfl rfl (by kernel_rfl) (glyphicref_SamePoint.ok hE_ h935)) ?_
        refine t_qz 2 [4] (σ' := [(4, .bool t934)]) (by kernel_rfl) ?_
        refine t_end ?_
        show W _ _ _ _ _ _ _
        refine w_ret ?_
        obtain rfl := Option.some.inj e
        exact ⟨[.bool t934], [], S, ⟨rfl, trivial⟩, VS.none, rfl, rfl, rfl⟩
      | false =>
        rw [if_neg (by decide)] at e
        refine t_v (.call (vs := [.agg #[.int .i64 a0_P_1_X, .int .i64 a0_P_1_Y], .agg #[.int .i64 b1_P_1_X, .int .i64 b1_P_1_Y]]) rfl rfl (by kernel_rfl) (glyphicref_SamePoint.ok hE_ h933)) ?_
        refine t_qz 11 [4] (σ' := [(4, .bool false)]) (by kernel_rfl) ?_
        refine t_end ?_
        show W _ _ _ _ _ _ _
        refine w_ret ?_
        obtain rfl := Option.some.inj e
        exact ⟨[.bool false], [], S, ⟨rfl, trivial⟩, VS.none, rfl, rfl, rfl⟩
    | false =>
      rw [if_neg (by decide)] at e
      refine t_v (.call (vs := [.agg #[.int .i64 a0_P_0_X, .int .i64 a0_P_0_Y], .agg #[.int .i64 b1_P_0_X, .int .i64 b1_P_0_Y]]) rfl rfl (by kernel_rfl) (glyphicref_SamePoint.ok hE_ h931)) ?_
      refine t_qz 20 [4] (σ' := [(4, .bool false)]) (by kernel_rfl) ?_
      refine t_end ?_
      show W _ _ _ _ _ _ _
      refine w_ret ?_
      obtain rfl := Option.some.inj e
      exact ⟨[.bool false], [], S, ⟨rfl, trivial⟩, VS.none, rfl, rfl, rfl⟩
  · rw [if_neg c929] at e
    have c929b : (a0_Kind == b1_Kind) = false := beq_eq_false_iff_ne.mpr c929
    refine t_v (dv_quiet rfl (congrArg (fun t => some (Value.bool t)) c929b)) ?_
    refine t_qz 28 [4] (σ' := [(4, .bool false)]) (by kernel_rfl) ?_
    refine t_end ?_
    show W _ _ _ _ _ _ _
    refine w_ret ?_
    obtain rfl := Option.some.inj e
    exact ⟨[.bool false], [], S, ⟨rfl, trivial⟩, VS.none, rfl, rfl, rfl⟩

/-- glyphicref.SameSegs -/
def c46 : C :=
  (.seq (.reg [⟨(some 4), .mv (.const (.bool false)), none⟩])
  (.seq (.seq (.reg [⟨(some 7), .mv (.tmp 0), none⟩,
      ⟨(some 8), .lns (.tmp 7), none⟩,
      ⟨(some 9), .mv (.tmp 1), none⟩,
      ⟨(some 10), .lns (.tmp 9), none⟩,
      ⟨(some 11), .bin .neq (.tmp 8) (.tmp 10), none⟩])
   (.cond (.tmp 11)
    (.seq (.reg [⟨(some 4), .mv (.const (.bool false)), none⟩])
     .ret)
    .skip))
  (.seq (.seq (.reg [⟨(some 5), .mv (.const (.int .i64 0)), none⟩])
   (.block 0 (.loop (.seq (.seq (.reg [⟨(some 12), .mv (.tmp 5), none⟩,
         ⟨(some 13), .mv (.tmp 0), none⟩,
         ⟨(some 14), .lns (.tmp 13), none⟩,
         ⟨(some 15), .bin .lss (.tmp 12) (.tmp 14), none⟩])
      (.cond (.tmp 15)
       .skip
       (.exit 0)))
     (.seq (.block 1 (.seq (.drw [⟨(some 18), .mv (.tmp 0), none⟩,
          ⟨(some 19), .mv (.tmp 5), none⟩,
          ⟨(some 20), .ixs 7 (.tmp 18) (.tmp 19), none⟩,
          ⟨(some 21), .ld (some 7) (.tmp 20), none⟩,
          ⟨(some 22), .mv (.tmp 1), none⟩,
          ⟨(some 23), .mv (.tmp 5), none⟩,
          ⟨(some 24), .ixs 7 (.tmp 22) (.tmp 23), none⟩,
          ⟨(some 25), .ld (some 7) (.tmp 24), none⟩,
          ⟨(some 26), .call 49 [(.tmp 21), (.tmp 25)], none⟩,
          ⟨(some 6), .mv (.tmp 26), none⟩] [[], [], [0, 1], [2], [], [], [4, 5], [6], [3, 7], [8, 8, 0, 1, 2, 3, 4, 5, 6, 7, 8]])
       (.seq (.reg [⟨(some 27), .mv (.tmp 6), none⟩,
          ⟨(some 28), .un .not (.tmp 27), none⟩])
       (.cond (.tmp 28)
        (.seq (.reg [⟨(some 4), .mv (.const (.bool false)), none⟩])
         .ret)
        .skip))))
     (.reg [⟨(some 16), .mv (.tmp 5), none⟩,
       ⟨(some 17), .bin .add (.tmp 16) (.const (.int .i64 1)), none⟩,
       ⟨(some 5), .mv (.tmp 17), none⟩]))))))
  (.seq (.reg [⟨(some 4), .mv (.const (.bool true)), none⟩])
  .ret))))
def glyphicref_SameSegs_v1.l0 : Nat → List (Int × Int × Int × Int × Int × Int × Int) → List (Int × Int × Int × Int × Int × Int × Int) → Int → Option ((Bool) ⊕ (Unit))
  | 0, _, _, _ => none
  | k + 1, a0, b1, x893 => if x893 < (a0.length : Int) then ((lgt a0 x893).bind fun (x895, x896, x897, x898, x899, x900, x901) => ((lgt b1 x893).bind fun (x911, x912, x913, x914, x915, x916, x917) => ((glyphicref_SameSeg.f x895 x896 x897 x898 x899 x900 x901 x911 x912 x913 x914 x915 x916 x917).bind fun t927 => (if t927 = true then (glyphicref_SameSegs_v1.l0 k a0 b1 (wr64 (x893 + 1))) else (some (.inl false)))))) else (some (.inr ()))
def glyphicref_SameSegs_v1.f (k : Nat) (a0 : List (Int × Int × Int × Int × Int × Int × Int)) (b1 : List (Int × Int × Int × Int × Int × Int × Int)) : Option (Bool) := if (a0.length : Int) = (b1.length : Int) then ((glyphicref_SameSegs_v1.l0 k a0 b1 0 : Option ((Bool) ⊕ (Unit))).bind fun s_ => match s_ with | .inl q932 => some q932 | .inr _ => (some true)) else (some false)
theorem glyphicref_SameSegs_v1.ok {S : Seal} {k : Nat} {a0 : List (Int × Int × Int × Int × Int × Int × Int)} {b1 : List (Int × Int × Int × Int × Int × Int × Int)} {r0_ : Bool}{A_ : Int → Addr} (hE_ : EO gsE S A_ 94) {a_a0 : Option Addr} {c_a0 : Nat} (h_a0 : SlE S E_i647 a0 a_a0) {a_b1 : Option Addr} {c_b1 : Nat} (h_b1 : SlE S E_i647 b1 a_b1) (e : glyphicref_SameSegs_v1.f k a0 b1 = some r0_) :
    Cal Tryd.prog 46 [.slice a_a0 a0.length c_a0, .slice a_b1 b1.length c_b1] [] S fun v H' S' => v = .bool r0_ ∧ H' = [] ∧ S' = S := by
  unfold glyphicref_SameSegs_v1.f at e
  refine cal_of (c := c46) (N := 29) Tryd.func46 rfl rfl (by kernel_rfl) (rs := [.t 4]) (by kernel_rfl) (Nat.le_of_ble_eq_true rfl) ?_
  unfold c46
  refine w_seq ?_
  refine w_reg fun all => ?_
  refine t_qz 1 [0, 1] (σ' := [(0, .slice a_a0 a0.length c_a0), (1, .slice a_b1 b1.length c_b1)]) (by kernel_rfl) ?_
  refine t_end ?_
  show W _ _ _ _ _ _ _
  refine w_seq ?_
  refine w_seq ?_
  refine w_reg fun all => ?_
  by_cases c889 : (a0.length : Int) = (b1.length : Int)
  · rw [if_pos c889] at e
    have c889b : ((a0.length : Int) == (b1.length : Int)) = true := beq_iff_eq.mpr c889
    refine t_qz 4 [0, 1, 8, 10] (σ' := [(0, .slice a_a0 a0.length c_a0), (1, .slice a_b1 b1.length c_b1), (8, .int .i64 (a0.length : Int)), (10, .int .i64 (b1.length : Int))]) (by kernel_rfl) ?_
    refine t_v (dv_quiet rfl (congrArg (fun t => some (Value.bool (!t))) c889b)) ?_
    refine t_keep [0, 1, 11] (σ' := [(0, .slice a_a0 a0.length c_a0), (1, .slice a_b1 b1.length c_b1), (11, .bool false)]) (by kernel_rfl) ?_
    refine t_end ?_
    show W _ _ _ _ _ _ _
    refine w_cond rfl (fun c_ => by cases c_) (fun _ => ?_)
    show W _ _ _ _ _ _ _
    refine w_skip ?_
    show W _ _ _ _ _ _ _
    obtain ⟨s892, e891, e⟩ := bind_of e
    refine w_cut [] (fun σ_ H_ S_ => ∃ u_ : Unit, s892 = .inr u_ ∧ [] = σ_ ∧ ([] : List Own) = H_ ∧ S = S_) ?_ ?_
    · show W _ _ _ _ _ _ _
      refine w_seq ?_
      refine w_reg fun all => ?_
      refine t_qz 1 [0, 1, 5] (σ' := [(0, .slice a_a0 a0.length c_a0), (1, .slice a_b1 b1.length c_b1), (5, .int .i64 0)]) (by kernel_rfl) ?_
      refine t_end ?_
      show W _ _ _ _ _ _ _
      refine w_block ?_
      refine w_kp [0, 1, 5] (σ' := [(0, .slice a_a0 a0.length c_a0), (1, .slice a_b1 b1.length c_b1), (5, .int .i64 0)]) (by kernel_rfl) ?_
      refine w_loop (fun n_ σ_ H_ S_ => ∃ (x893 : Int), [(0, .slice a_a0 a0.length c_a0), (1, .slice a_b1 b1.length c_b1), (5, .int .i64 x893)] = σ_ ∧ ([] : List Own) = H_ ∧ S = S_ ∧ glyphicref_SameSegs_v1.l0 n_ a0 b1 x893 = some s892) _ ⟨0, rfl, rfl, rfl, e891⟩ ?_
      rintro n931 σ_ H_ S_ ⟨x893, rfl, rfl, rfl, e891⟩
      cases n931 with
      | zero => rw [glyphicref_SameSegs_v1.l0.eq_1] at e891; cases e891
      | succ k_ =>
        rw [glyphicref_SameSegs_v1.l0.eq_2] at e891
        refine w_seq ?_
        refine w_seq ?_
        refine w_reg fun all => ?_
        by_cases c894 : x893 < (a0.length : Int)
        · rw [if_pos c894] at e891
          have c894b : (decide (x893 < (a0.length : Int))) = true := decide_eq_true c894
          refine t_qz 3 [0, 1, 5, 12, 14] (σ' := [(0, .slice a_a0 a0.length c_a0), (1, .slice a_b1 b1.length c_b1), (5, .int .i64 x893), (12, .int .i64 x893), (14, .int .i64 (a0.length : Int))]) (by kernel_rfl) ?_
          refine t_v (dv_quiet rfl (congrArg (fun t => some (Value.bool t)) c894b)) ?_
          refine t_keep [0, 1, 5, 15] (σ' := [(0, .slice a_a0 a0.length c_a0), (1, .slice a_b1 b1.length c_b1), (5, .int .i64 x893), (15, .bool true)]) (by kernel_rfl) ?_
          refine t_end ?_
          show W _ _ _ _ _ _ _
          refine w_cond rfl (fun _ => ?_) (fun c_ => by cases c_)
          show W _ _ _ _ _ _ _
          refine w_skip ?_
          show W _ _ _ _ _ _ _
          refine w_seq ?_
          refine w_block ?_
          refine w_seq ?_
          obtain ⟨⟨x895, x896, x897, x898, x899, x900, x901⟩, hx902, e891⟩ := bind_of e891
          try dsimp only at e891
          obtain ⟨lb903, lo904, ll905, la906, lS907, lv908, lz909, lu910⟩ := sle_get (E := E_i647) h_a0 hx902
          obtain ⟨⟨x911, x912, x913, x914, x915, x916, x917⟩, hx918, e891⟩ := bind_of e891
          try dsimp only at e891
          obtain ⟨lb919, lo920, ll921, la922, lS923, lv924, lz925, lu926⟩ := sle_get (E := E_i647) h_b1 hx918
          obtain ⟨t927, h928, e891⟩ := bind_of e891
          refine w_drwE mixed 10 [.v (.slice a_a0 a0.length c_a0), .v (.int .i64 x893), .v (.pointer (some ⟨lb903, lo904 + (x893).toNat * 7 + 0, none⟩)), .v (.agg #[.int .i64 x895, .int .i64 x896, .int .i64 x897, .int .i64 x898, .int .i64 x899, .int .i64 x900, .int .i64 x901]), .v (.slice a_b1 b1.length c_b1), .v (.int .i64 x893), .v (.pointer (some ⟨lb919, lo920 + (x893).toNat * 7 + 0, none⟩)), .v (.agg #[.int .i64 x911, .int .i64 x912, .int .i64 x913, .int .i64 x914, .int .i64 x915, .int .i64 x916, .int .i64 x917]), .v (.bool t927), .v (.bool t927)] (by kernel_rfl) ?_ ?_
          · refine DI.sq 2 (by kernel_rfl) rfl ?_
            refine .cons (.quiet rfl (ixs_sle rfl rfl la906 lz909 lu910)) ?_
            refine .cons (.ldn (vs := [.int .i64 x895, .int .i64 x896, .int .i64 x897, .int .i64 x898, .int .i64 x899, .int .i64 x900, .int .i64 x901]) rfl rfl rfl (.sealed lS907 (subl_sub lv908 (by kernel_rfl)))) ?_
            refine DI.sq 2 (by kernel_rfl) rfl ?_
            refine .cons (.quiet rfl (ixs_sle rfl rfl la922 lz925 lu926)) ?_
            refine .cons (.ldn (vs := [.int .i64 x911, .int .i64 x912, .int .i64 x913, .int .i64 x914, .int .i64 x915, .int .i64 x916, .int .i64 x917]) rfl rfl rfl (.sealed lS923 (subl_sub lv924 (by kernel_rfl)))) ?_
            refine .cons (.call (vs := [.agg #[.int .i64 x895, .int .i64 x896, .int .i64 x897, .int .i64 x898, .int .i64 x899, .int .i64 x900, .int .i64 x901], .agg #[.int .i64 x911, .int .i64 x912, .int .i64 x913, .int .i64 x914, .int .i64 x915, .int .i64 x916, .int .i64 x917]]) rfl rfl (by kernel_rfl) (glyphicref_SameSeg.ok hE_ h928)) ?_
            refine DI.sq 1 (by kernel_rfl) rfl ?_
            exact .nil
          refine fk_q 10 [0, 1, 5, 6] (σ' := [(0, .slice a_a0 a0.length c_a0), (1, .slice a_b1 b1.length c_b1), (5, .int .i64 x893), (6, .bool t927)]) t_more (by kernel_rfl) ?_
          refine fk_nil fun all => ?_
          refine t_keep [0, 1, 5, 6] (σ' := [(0, .slice a_a0 a0.length c_a0), (1, .slice a_b1 b1.length c_b1), (5, .int .i64 x893), (6, .bool t927)]) (by kernel_rfl) ?_
          refine t_end ?_
          show W _ _ _ _ _ _ _
          refine w_seq ?_
          refine w_reg fun all => ?_
          by_cases c929 : t927 = true
          · rw [if_pos c929] at e891
            have c929b : t927 = true := c929
            refine t_qz 1 [0, 1, 5, 27] (σ' := [(0, .slice a_a0 a0.length c_a0), (1, .slice a_b1 b1.length c_b1), (5, .int .i64 x893), (27, .bool t927)]) (by kernel_rfl) ?_
            refine t_v (dv_quiet rfl (congrArg (fun t => some (Value.bool (!t))) c929b)) ?_
            refine t_keep [0, 1, 5, 28] (σ' := [(0, .slice a_a0 a0.length c_a0), (1, .slice a_b1 b1.length c_b1), (5, .int .i64 x893), (28, .bool false)]) (by kernel_rfl) ?_
            refine t_end ?_
            show W _ _ _ _ _ _ _
            refine w_cond rfl (fun c_ => by cases c_) (fun _ => ?_)
            show W _ _ _ _ _ _ _
            refine w_skip ?_
            show W _ _ _ _ _ _ _
            refine w_reg fun all => ?_
            refine t_qz 3 [0, 1, 5] (σ' := [(0, .slice a_a0 a0.length c_a0), (1, .slice a_b1 b1.length c_b1), (5, .int .i64 (wr64 (x893 + 1)))]) (by kernel_rfl) ?_
            refine t_end ?_
            exact ⟨k_, Nat.lt_succ_self _, [(0, .slice a_a0 a0.length c_a0), (1, .slice a_b1 b1.length c_b1), (5, .int .i64 (wr64 (x893 + 1)))], ([] : List Own), S, keep_sub [0, 1, 5] (by kernel_rfl), VS.sel [] (by kernel_rfl), wr64 (x893 + 1), rfl, rfl, rfl, e891⟩
          · rw [if_neg c929] at e891
            have c929b : t927 = false := Bool.eq_false_iff.mpr c929
            refine t_qz 1 [0, 1, 5, 27] (σ' := [(0, .slice a_a0 a0.length c_a0), (1, .slice a_b1 b1.length c_b1), (5, .int .i64 x893), (27, .bool t927)]) (by kernel_rfl) ?_
            refine t_v (dv_quiet rfl (congrArg (fun t => some (Value.bool (!t))) c929b)) ?_
            refine t_keep [0, 1, 5, 28] (σ' := [(0, .slice a_a0 a0.length c_a0), (1, .slice a_b1 b1.length c_b1), (5, .int .i64 x893), (28, .bool true)]) (by kernel_rfl) ?_
            refine t_end ?_
            show W _ _ _ _ _ _ _
            refine w_cond rfl (fun _ => ?_) (fun c_ => by cases c_)
            show W _ _ _ _ _ _ _
            refine w_seq ?_
            refine w_reg fun all => ?_
            refine t_qz 1 [4] (σ' := [(4, .bool false)]) (by kernel_rfl) ?_
            refine t_end ?_
            show W _ _ _ _ _ _ _
            refine w_ret ?_
            obtain rfl := Option.some.inj e891
            obtain rfl := Option.some.inj e
            exact ⟨[.bool false], [], S, ⟨rfl, trivial⟩, VS.none, rfl, rfl, rfl⟩
        · rw [if_neg c894] at e891
          have c894b : (decide (x893 < (a0.length : Int))) = false := decide_eq_false c894
          refine t_qz 3 [0, 1, 5, 12, 14] (σ' := [(0, .slice a_a0 a0.length c_a0), (1, .slice a_b1 b1.length c_b1), (5, .int .i64 x893), (12, .int .i64 x893), (14, .int .i64 (a0.length : Int))]) (by kernel_rfl) ?_
          refine t_v (dv_quiet rfl (congrArg (fun t => some (Value.bool t)) c894b)) ?_
          refine t_keep [0, 1, 5, 15] (σ' := [(0, .slice a_a0 a0.length c_a0), (1, .slice a_b1 b1.length c_b1), (5, .int .i64 x893), (15, .bool false)]) (by kernel_rfl) ?_
          refine t_end ?_
          show W _ _ _ _ _ _ _
          refine w_cond rfl (fun c_ => by cases c_) (fun _ => ?_)
          show W _ _ _ _ _ _ _
          refine w_exit ?_
          obtain rfl := Option.some.inj e891
          exact ⟨([] : List Own), S, VS.sel [] (by kernel_rfl), (), rfl, by kernel_rfl, rfl, rfl⟩
    · rintro σ_ H_ S_ ⟨u_, rfl, rfl, rfl, rfl⟩
      dsimp only at e
      refine w_seq ?_
      refine w_reg fun all => ?_
      refine t_qz 1 [4] (σ' := [(4, .bool true)]) (by kernel_rfl) ?_
      refine t_end ?_
      show W _ _ _ _ _ _ _
      refine w_ret ?_
      obtain rfl := Option.some.inj e
      exact ⟨[.bool true], [], S, ⟨rfl, trivial⟩, VS.none, rfl, rfl, rfl⟩
  · rw [if_neg c889] at e
    have c889b : ((a0.length : Int) == (b1.length : Int)) = false := beq_eq_false_iff_ne.mpr c889
    refine t_qz 4 [0, 1, 8, 10] (σ' := [(0, .slice a_a0 a0.length c_a0), (1, .slice a_b1 b1.length c_b1), (8, .int .i64 (a0.length : Int)), (10, .int .i64 (b1.length : Int))]) (by kernel_rfl) ?_
    refine t_v (dv_quiet rfl (congrArg (fun t => some (Value.bool (!t))) c889b)) ?_
    refine t_keep [0, 1, 11] (σ' := [(0, .slice a_a0 a0.length c_a0), (1, .slice a_b1 b1.length c_b1), (11, .bool true)]) (by kernel_rfl) ?_
    refine t_end ?_
    show W _ _ _ _ _ _ _
    refine w_cond rfl (fun _ => ?_) (fun c_ => by cases c_)
    show W _ _ _ _ _ _ _
    refine w_seq ?_
    refine w_reg fun all => ?_
    refine t_qz 1 [4] (σ' := [(4, .bool false)]) (by kernel_rfl) ?_
    refine t_end ?_
    show W _ _ _ _ _ _ _
    refine w_ret ?_
    obtain rfl := Option.some.inj e
    exact ⟨[.bool false], [], S, ⟨rfl, trivial⟩, VS.none, rfl, rfl, rfl⟩

/-- glyphicref.SamePath -/
def c40 : C :=
  (.seq (.reg [⟨(some 2), .box (.tmp 0), none⟩,
     ⟨(some 3), .box (.tmp 1), none⟩,
     ⟨(some 4), .mv (.const (.bool false)), none⟩])
  (.seq (.reg [⟨(some 5), .pad 0 (.tmp 2), none⟩,
     ⟨(some 6), .ld (some 2) (.tmp 5), none⟩,
     ⟨(some 7), .pad 0 (.tmp 3), none⟩,
     ⟨(some 8), .ld (some 2) (.tmp 7), none⟩,
     ⟨(some 9), .call 27 [(.tmp 6), (.tmp 8)], none⟩,
     ⟨(some 10), .mv (.tmp 9), none⟩,
     ⟨(some 11), .pad 3 (.tmp 2), (some (10, true))⟩,
     ⟨(some 12), .ld none (.tmp 11), (some (10, true))⟩,
     ⟨(some 13), .pad 3 (.tmp 3), (some (10, true))⟩,
     ⟨(some 14), .ld none (.tmp 13), (some (10, true))⟩,
     ⟨(some 15), .beq false (.tmp 12) (.tmp 14), (some (10, true))⟩,
     ⟨(some 16), .pk (.tmp 10) (.tmp 15) (.const (.bool false)), none⟩,
     ⟨(some 17), .mv (.tmp 16), none⟩,
     ⟨(some 18), .pad 2 (.tmp 2), (some (17, true))⟩,
     ⟨(some 19), .ld none (.tmp 18), (some (17, true))⟩,
     ⟨(some 20), .pad 2 (.tmp 3), (some (17, true))⟩,
     ⟨(some 21), .ld none (.tmp 20), (some (17, true))⟩,
     ⟨(some 22), .call 46 [(.tmp 19), (.tmp 21)], (some (17, true))⟩,
     ⟨(some 23), .pk (.tmp 17) (.tmp 22) (.const (.bool false)), none⟩,
     ⟨(some 4), .mv (.tmp 23), none⟩])
  .ret))
def glyphicref_SamePath_v1.f (k : Nat) (a0_0 : Int) (a0_1 : Int) (a0_2 : List (Int × Int × Int × Int × Int × Int × Int)) (a0_3 : Bool) (b1_0 : Int) (b1_1 : Int) (b1_2 : List (Int × Int × Int × Int × Int × Int × Int)) (b1_3 : Bool) : Option (Bool) := (glyphicref_SamePoint.f a0_0 a0_1 b1_0 b1_1).bind fun t886 => (if t886 = true then (if a0_3 = b1_3 then ((glyphicref_SameSegs_v1.f k a0_2 b1_2).bind fun t933 => (some t933)) else (some false)) else (some false))
theorem glyphicref_SamePath_v1.ok {S : Seal} {k : Nat} {a0_0 : Int} {a0_1 : Int} {a0_2 : List (Int × Int × Int × Int × Int × Int × Int)} {a0_3 : Bool} {b1_0 : Int} {b1_1 : Int} {b1_2 : List (Int × Int × Int × Int × Int × Int × Int)} {b1_3 : Bool} {r0_ : Bool}{A_ : Int → Addr} (hE_ : EO gsE S A_ 94) {a_a0_2 : Option Addr} {c_a0_2 : Nat} (h_a0_2 : SlE S E_i647 a0_2 a_a0_2) {a_b1_2 : Option Addr} {c_b1_2 : Nat} (h_b1_2 : SlE S E_i647 b1_2 a_b1_2) (e : glyphicref_SamePath_v1.f k a0_0 a0_1 a0_2 a0_3 b1_0 b1_1 b1_2 b1_3 = some r0_) :
    Cal Tryd.prog 40 [.agg #[.int .i64 a0_0, .int .i64 a0_1, .slice a_a0_2 a0_2.length c_a0_2, .bool a0_3], .agg #[.int .i64 b1_0, .int .i64 b1_1, .slice a_b1_2 b1_2.length c_b1_2, .bool b1_3]] [] S fun v H' S' => v = .bool r0_ ∧ H' = [] ∧ S' = S := by
  unfold glyphicref_SamePath_v1.f at e
  refine cal_of (c := c40) (N := 24) Tryd.func40 rfl rfl (by kernel_rfl) (rs := [.t 4]) (by kernel_rfl) (Nat.le_of_ble_eq_true rfl) ?_
  unfold c40
  refine w_seq ?_
  refine w_reg fun all => ?_
  refine t_a (.box rfl rfl rfl) fun b884 fb884 sb884 => ?_
  refine t_a (.box rfl rfl rfl) fun b885 fb885 sb885 => ?_
  refine t_qz 1 [2, 3] (σ' := [(2, .pointer (some ⟨b884, 0, none⟩)), (3, .pointer (some ⟨b885, 0, none⟩))]) (by kernel_rfl) ?_
  refine t_end ?_
  show W _ _ _ _ _ _ _
  refine w_seq ?_
  refine w_reg fun all => ?_
  refine t_qz 1 [2, 3, 5] (σ' := [(2, .pointer (some ⟨b884, 0, none⟩)), (3, .pointer (some ⟨b885, 0, none⟩)), (5, .pointer (some ⟨b884, 0, none⟩))]) (by kernel_rfl) ?_
  refine t_v (.ldn rfl rfl rfl (.at 1 rfl rfl)) ?_
  refine t_qz 1 [2, 3, 6, 7] (σ' := [(2, .pointer (some ⟨b884, 0, none⟩)), (3, .pointer (some ⟨b885, 0, none⟩)), (6, .agg #[.int .i64 a0_0, .int .i64 a0_1]), (7, .pointer (some ⟨b885, 0, none⟩))]) (by kernel_rfl) ?_
  refine t_v (.ldn rfl rfl rfl (.at 0 rfl rfl)) ?_
  obtain ⟨t886, h887, e⟩ := bind_of e
  cases t886 with
  | true =>
    rw [if_pos rfl] at e
    refine t_v (.call (vs := [.agg #[.int .i64 a0_0, .int .i64 a0_1], .agg #[.int .i64 b1_0, .int .i64 b1_1]]) rfl rfl (by kernel_rfl) (glyphicref_SamePoint.ok hE_ h887)) ?_
    refine t_qz 2 [2, 3, 10, 11] (σ' := [(2, .pointer (some ⟨b884, 0, none⟩)), (3, .pointer (some ⟨b885, 0, none⟩)), (10, .bool true), (11, .pointer (some ⟨b884, 3, none⟩))]) (by kernel_rfl) ?_
    refine t_v (.ld1 rfl rfl rfl (.at 1 rfl rfl)) ?_
    refine t_qz 1 [2, 3, 10, 12, 13] (σ' := [(2, .pointer (some ⟨b884, 0, none⟩)), (3, .pointer (some ⟨b885, 0, none⟩)), (10, .bool true), (12, .bool a0_3), (13, .pointer (some ⟨b885, 3, none⟩))]) (by kernel_rfl) ?_
    refine t_v (.ld1 rfl rfl rfl (.at 0 rfl rfl)) ?_
    by_cases c888 : a0_3 = b1_3
    · rw [if_pos c888] at e
      have c888b : (a0_3 == b1_3) = true := beq_iff_eq.mpr c888
      refine t_v (dv_quiet rfl (congrArg (fun t => some (Value.bool t)) c888b)) ?_
      refine t_qz 3 [3, 17, 18] (σ' := [(3, .pointer (some ⟨b885, 0, none⟩)), (17, .bool true), (18, .pointer (some ⟨b884, 2, none⟩))]) (by kernel_rfl) ?_
      refine t_v (.ld1 rfl rfl rfl (.at 1 rfl rfl)) ?_
      refine t_qz 1 [17, 19, 20] (σ' := [(17, .bool true), (19, .slice a_a0_2 a0_2.length c_a0_2), (20, .pointer (some ⟨b885, 2, none⟩))]) (by kernel_rfl) ?_
      refine t_v (.ld1 rfl rfl rfl (.at 0 rfl rfl)) ?_
      obtain ⟨t933, h934, e⟩ := bind_of e
      refine t_v (.call (vs := [.slice a_a0_2 a0_2.length c_a0_2, .slice a_b1_2 b1_2.length c_b1_2]) rfl rfl (by kernel_rfl) (glyphicref_SameSegs_v1.ok hE_ h_a0_2 h_b1_2 h934)) ?_
      refine t_qz 2 [4] (σ' := [(4, .bool t933)]) (by kernel_rfl) ?_
      refine t_end ?_
      show W _ _ _ _ _ _ _
      refine w_ret ?_
      obtain rfl := Option.some.inj e
      exact ⟨[.bool t933], [], S, ⟨rfl, trivial⟩, VS.none, rfl, rfl, rfl⟩
    · rw [if_neg c888] at e
      have c888b : (a0_3 == b1_3) = false := beq_eq_false_iff_ne.mpr c888
      refine t_v (dv_quiet rfl (congrArg (fun t => some (Value.bool t)) c888b)) ?_
      refine t_qz 9 [4] (σ' := [(4, .bool false)]) (by kernel_rfl) ?_
      refine t_end ?_
      show W _ _ _ _ _ _ _
      refine w_ret ?_
      obtain rfl := Option.some.inj e
      exact ⟨[.bool false], [], S, ⟨rfl, trivial⟩, VS.none, rfl, rfl, rfl⟩
  | false =>
    rw [if_neg (by decide)] at e
    refine t_v (.call (vs := [.agg #[.int .i64 a0_0, .int .i64 a0_1], .agg #[.int .i64 b1_0, .int .i64 b1_1]]) rfl rfl (by kernel_rfl) (glyphicref_SamePoint.ok hE_ h887)) ?_
    refine t_qz 15 [4] (σ' := [(4, .bool false)]) (by kernel_rfl) ?_
    refine t_end ?_
    show W _ _ _ _ _ _ _
    refine w_ret ?_
    obtain rfl := Option.some.inj e
    exact ⟨[.bool false], [], S, ⟨rfl, trivial⟩, VS.none, rfl, rfl, rfl⟩

/-- glyphicref.SamePaths -/
def c32 : C :=
  (.seq (.reg [⟨(some 4), .mv (.const (.bool false)), none⟩])
  (.seq (.seq (.reg [⟨(some 7), .mv (.tmp 0), none⟩,
      ⟨(some 8), .lns (.tmp 7), none⟩,
      ⟨(some 9), .mv (.tmp 1), none⟩,
      ⟨(some 10), .lns (.tmp 9), none⟩,
      ⟨(some 11), .bin .neq (.tmp 8) (.tmp 10), none⟩])
   (.cond (.tmp 11)
    (.seq (.reg [⟨(some 4), .mv (.const (.bool false)), none⟩])
     .ret)
    .skip))
  (.seq (.seq (.reg [⟨(some 5), .mv (.const (.int .i64 0)), none⟩])
   (.block 0 (.loop (.seq (.seq (.reg [⟨(some 12), .mv (.tmp 5), none⟩,
         ⟨(some 13), .mv (.tmp 0), none⟩,
         ⟨(some 14), .lns (.tmp 13), none⟩,
         ⟨(some 15), .bin .lss (.tmp 12) (.tmp 14), none⟩])
      (.cond (.tmp 15)
       .skip
       (.exit 0)))
     (.seq (.block 1 (.seq (.drw [⟨(some 18), .mv (.tmp 0), none⟩,
          ⟨(some 19), .mv (.tmp 5), none⟩,
          ⟨(some 20), .ixs 4 (.tmp 18) (.tmp 19), none⟩,
          ⟨(some 21), .ld (some 4) (.tmp 20), none⟩,
          ⟨(some 22), .mv (.tmp 1), none⟩,
          ⟨(some 23), .mv (.tmp 5), none⟩,
          ⟨(some 24), .ixs 4 (.tmp 22) (.tmp 23), none⟩,
          ⟨(some 25), .ld (some 4) (.tmp 24), none⟩,
          ⟨(some 26), .call 40 [(.tmp 21), (.tmp 25)], none⟩,
          ⟨(some 6), .mv (.tmp 26), none⟩] [[], [], [0, 1], [2], [], [], [4, 5], [6], [3, 7], [8, 8, 0, 1, 2, 3, 4, 5, 6, 7, 8]])
       (.seq (.reg [⟨(some 27), .mv (.tmp 6), none⟩,
          ⟨(some 28), .un .not (.tmp 27), none⟩])
       (.cond (.tmp 28)
        (.seq (.reg [⟨(some 4), .mv (.const (.bool false)), none⟩])
         .ret)
        .skip))))
     (.reg [⟨(some 16), .mv (.tmp 5), none⟩,
       ⟨(some 17), .bin .add (.tmp 16) (.const (.int .i64 1)), none⟩,
       ⟨(some 5), .mv (.tmp 17), none⟩]))))))
  (.seq (.reg [⟨(some 4), .mv (.const (.bool true)), none⟩])
  .ret))))
def glyphicref_SamePaths_v1.l0 : Nat → List (Int × Int × List (Int × Int × Int × Int × Int × Int × Int) × Bool) → List (Int × Int × List (Int × Int × Int × Int × Int × Int × Int) × Bool) → Int → Option ((Bool) ⊕ (Unit))
  | 0, _, _, _ => none
  | k + 1, a0, b1, x850 => if x850 < (a0.length : Int) then ((lgt a0 x850).bind fun (x852, x853, x854, x855) => ((lgt b1 x850).bind fun (x868, x869, x870, x871) => ((glyphicref_SamePath_v1.f k x852 x853 x854 x855 x868 x869 x870 x871).bind fun t884 => (if t884 = true then (glyphicref_SamePaths_v1.l0 k a0 b1 (wr64 (x850 + 1))) else (some (.inl false)))))) else (some (.inr ()))
def glyphicref_SamePaths_v1.f (k : Nat) (a0 : List (Int × Int × List (Int × Int × Int × Int × Int × Int × Int) × Bool)) (b1 : List (Int × Int × List (Int × Int × Int × Int × Int × Int × Int) × Bool)) : Option (Bool) := if (a0.length : Int) = (b1.length : Int) then ((glyphicref_SamePaths_v1.l0 k a0 b1 0 : Option ((Bool) ⊕ (Unit))).bind fun s_ => match s_ with | .inl q889 => some q889 | .inr _ => (some true)) else (some false)
theorem glyphicref_SamePaths_v1.ok {S : Seal} {k : Nat} {a0 : List (Int × Int × List (Int × Int × Int × Int × Int × Int × Int) × Bool)} {b1 : List (Int × Int × List (Int × Int × Int × Int × Int × Int × Int) × Bool)} {r0_ : Bool}{A_ : Int → Addr} (hE_ : EO gsE S A_ 94) {a_a0 : Option Addr} {c_a0 : Nat} (h_a0 : SlN (rdOf [] S) N_0 a0 a_a0) {a_b1 : Option Addr} {c_b1 : Nat} (h_b1 : SlN (rdOf [] S) N_0 b1 a_b1) (e : glyphicref_SamePaths_v1.f k a0 b1 = some r0_) :
    Cal Tryd.prog 32 [.slice a_a0 a0.length c_a0, .slice a_b1 b1.length c_b1] [] S fun v H' S' => v = .bool r0_ ∧ H' = [] ∧ S' = S := by
  unfold glyphicref_SamePaths_v1.f at e
  refine cal_of (c := c32) (N := 29) Tryd.func32 rfl rfl (by kernel_rfl) (rs := [.t 4]) (by kernel_rfl) (Nat.le_of_ble_eq_true rfl) ?_
  unfold c32
  refine w_seq ?_
  refine w_reg fun all => ?_
  refine t_qz 1 [0, 1] (σ' := [(0, .slice a_a0 a0.length c_a0), (1, .slice a_b1 b1.length c_b1)]) (by kernel_rfl) ?_
  refine t_end ?_
  show W _ _ _ _ _ _ _
  refine w_seq ?_
  refine w_seq ?_
  refine w_reg fun all => ?_
  by_cases c846 : (a0.length : Int) = (b1.length : Int)
  · rw [if_pos c846] at e
    have c846b : ((a0.length : Int) == (b1.length : Int)) = true := beq_iff_eq.mpr c846
    refine t_qz 4 [0, 1, 8, 10] (σ' := [(0, .slice a_a0 a0.length c_a0), (1, .slice a_b1 b1.length c_b1), (8, .int .i64 (a0.length : Int)), (10, .int .i64 (b1.length : Int))]) (by kernel_rfl) ?_
    refine t_v (dv_quiet rfl (congrArg (fun t => some (Value.bool (!t))) c846b)) ?_
    refine t_keep [0, 1, 11] (σ' := [(0, .slice a_a0 a0.length c_a0), (1, .slice a_b1 b1.length c_b1), (11, .bool false)]) (by kernel_rfl) ?_
    refine t_end ?_
    show W _ _ _ _ _ _ _
    refine w_cond rfl (fun c_ => by cases c_) (fun _ => ?_)
    show W _ _ _ _ _ _ _
    refine w_skip ?_
    show W _ _ _ _ _ _ _
    obtain ⟨s849, e848, e⟩ := bind_of e
    refine w_cut [] (fun σ_ H_ S_ => ∃ u_ : Unit, s849 = .inr u_ ∧ [] = σ_ ∧ ([] : List Own) = H_ ∧ S = S_) ?_ ?_
    · show W _ _ _ _ _ _ _
      refine w_seq ?_
      refine w_reg fun all => ?_
      refine t_qz 1 [0, 1, 5] (σ' := [(0, .slice a_a0 a0.length c_a0), (1, .slice a_b1 b1.length c_b1), (5, .int .i64 0)]) (by kernel_rfl) ?_
      refine t_end ?_
      show W _ _ _ _ _ _ _
      refine w_block ?_
      refine w_kp [0, 1, 5] (σ' := [(0, .slice a_a0 a0.length c_a0), (1, .slice a_b1 b1.length c_b1), (5, .int .i64 0)]) (by kernel_rfl) ?_
      refine w_loop (fun n_ σ_ H_ S_ => ∃ (x850 : Int), [(0, .slice a_a0 a0.length c_a0), (1, .slice a_b1 b1.length c_b1), (5, .int .i64 x850)] = σ_ ∧ ([] : List Own) = H_ ∧ S = S_ ∧ glyphicref_SamePaths_v1.l0 n_ a0 b1 x850 = some s849) _ ⟨0, rfl, rfl, rfl, e848⟩ ?_
      rintro n888 σ_ H_ S_ ⟨x850, rfl, rfl, rfl, e848⟩
      cases n888 with
      | zero => rw [glyphicref_SamePaths_v1.l0.eq_1] at e848; cases e848
      | succ k_ =>
        rw [glyphicref_SamePaths_v1.l0.eq_2] at e848
        refine w_seq ?_
        refine w_seq ?_
        refine w_reg fun all => ?_
        by_cases c851 : x850 < (a0.length : Int)
        · rw [if_pos c851] at e848
          have c851b : (decide (x850 < (a0.length : Int))) = true := decide_eq_true c851
          refine t_qz 3 [0, 1, 5, 12, 14] (σ' := [(0, .slice a_a0 a0.length c_a0), (1, .slice a_b1 b1.length c_b1), (5, .int .i64 x850), (12, .int .i64 x850), (14, .int .i64 (a0.length : Int))]) (by kernel_rfl) ?_
          refine t_v (dv_quiet rfl (congrArg (fun t => some (Value.bool t)) c851b)) ?_
          refine t_keep [0, 1, 5, 15] (σ' := [(0, .slice a_a0 a0.length c_a0), (1, .slice a_b1 b1.length c_b1), (5, .int .i64 x850), (15, .bool true)]) (by kernel_rfl) ?_
          refine t_end ?_
          show W _ _ _ _ _ _ _
          refine w_cond rfl (fun _ => ?_) (fun c_ => by cases c_)
          show W _ _ _ _ _ _ _
          refine w_skip ?_
          show W _ _ _ _ _ _ _
          refine w_seq ?_
          refine w_block ?_
          refine w_seq ?_
          obtain ⟨⟨x852, x853, x854, x855⟩, hx856, e848⟩ := bind_of e848
          try dsimp only at e848
          obtain ⟨lb857, lo858, ll859, vs_, la860, lR861, lv862, hrep_, lz863, lu864⟩ := sln_get (E := N_0) h_a0 hx856
          obtain ⟨na865, nc866, rfl, nh867⟩ := hrep_
          obtain ⟨⟨x868, x869, x870, x871⟩, hx872, e848⟩ := bind_of e848
          try dsimp only at e848
          obtain ⟨lb873, lo874, ll875, vs_, la876, lR877, lv878, hrep_, lz879, lu880⟩ := sln_get (E := N_0) h_b1 hx872
          obtain ⟨na881, nc882, rfl, nh883⟩ := hrep_
          obtain ⟨t884, h885, e848⟩ := bind_of e848
          refine w_drwE mixed 10 [.v (.slice a_a0 a0.length c_a0), .v (.int .i64 x850), .v (.pointer (some ⟨lb857, lo858 + (x850).toNat * 4 + 0, none⟩)), .v (.agg #[.int .i64 x852, .int .i64 x853, .slice na865 x854.length nc866, .bool x855]), .v (.slice a_b1 b1.length c_b1), .v (.int .i64 x850), .v (.pointer (some ⟨lb873, lo874 + (x850).toNat * 4 + 0, none⟩)), .v (.agg #[.int .i64 x868, .int .i64 x869, .slice na881 x870.length nc882, .bool x871]), .v (.bool t884), .v (.bool t884)] (by kernel_rfl) ?_ ?_
          · refine DI.sq 2 (by kernel_rfl) rfl ?_
            refine .cons (.quiet rfl (ixs_sle rfl rfl la860 lz863 lu864)) ?_
            refine .cons (.ldn (vs := [.int .i64 x852, .int .i64 x853, .slice na865 x854.length nc866, .bool x855]) rfl rfl rfl (rd_n lR861 sub_nil (subl_sub lv862 (by kernel_rfl)))) ?_
            refine DI.sq 2 (by kernel_rfl) rfl ?_
            refine .cons (.quiet rfl (ixs_sle rfl rfl la876 lz879 lu880)) ?_
            refine .cons (.ldn (vs := [.int .i64 x868, .int .i64 x869, .slice na881 x870.length nc882, .bool x871]) rfl rfl rfl (rd_n lR877 sub_nil (subl_sub lv878 (by kernel_rfl)))) ?_
            refine .cons (.call (vs := [.agg #[.int .i64 x852, .int .i64 x853, .slice na865 x854.length nc866, .bool x855], .agg #[.int .i64 x868, .int .i64 x869, .slice na881 x870.length nc882, .bool x871]]) rfl rfl (by kernel_rfl) (glyphicref_SamePath_v1.ok hE_ (SlE.ofN nh867) (SlE.ofN nh883) h885)) ?_
            refine DI.sq 1 (by kernel_rfl) rfl ?_
            exact .nil
          refine fk_q 10 [0, 1, 5, 6] (σ' := [(0, .slice a_a0 a0.length c_a0), (1, .slice a_b1 b1.length c_b1), (5, .int .i64 x850), (6, .bool t884)]) t_more (by kernel_rfl) ?_
          refine fk_nil fun all => ?_
          refine t_keep [0, 1, 5, 6] (σ' := [(0, .slice a_a0 a0.length c_a0), (1, .slice a_b1 b1.length c_b1), (5, .int .i64 x850), (6, .bool t884)]) (by kernel_rfl) ?_
          refine t_end ?_
          show W _ _ _ _ _ _ _
          refine w_seq ?_
          refine w_reg fun all => ?_
          by_cases c886 : t884 = true
          · rw [if_pos c886] at e848
            have c886b : t884 = true := c886
            refine t_qz 1 [0, 1, 5, 27] (σ' := [(0, .slice a_a0 a0.length c_a0), (1, .slice a_b1 b1.length c_b1), (5, .int .i64 x850), (27, .bool t884)]) (by kernel_rfl) ?_
            refine t_v (dv_quiet rfl (congrArg (fun t => some (Value.bool (!t))) c886b)) ?_
            refine t_keep [0, 1, 5, 28] (σ' := [(0, .slice a_a0 a0.length c_a0), (1, .slice a_b1 b1.length c_b1), (5, .int .i64 x850), (28, .bool false)]) (by kernel_rfl) ?_
            refine t_end ?_
            show W _ _ _ _ _ _ _
            refine w_cond rfl (fun c_ => by cases c_) (fun _ => ?_)
            show W _ _ _ _ _ _ _
            refine w_skip ?_
            show W _ _ _ _ _ _ _
            refine w_reg fun all => ?_
            refine t_qz 3 [0, 1, 5] (σ' := [(0, .slice a_a0 a0.length c_a0), (1, .slice a_b1 b1.length c_b1), (5, .int .i64 (wr64 (x850 + 1)))]) (by kernel_rfl) ?_
            refine t_end ?_
            exact ⟨k_, Nat.lt_succ_self _, [(0, .slice a_a0 a0.length c_a0), (1, .slice a_b1 b1.length c_b1), (5, .int .i64 (wr64 (x850 + 1)))], ([] : List Own), S, keep_sub [0, 1, 5] (by kernel_rfl), VS.sel [] (by kernel_rfl), wr64 (x850 + 1), rfl, rfl, rfl, e848⟩
          · rw [if_neg c886] at e848
            have c886b : t884 = false := Bool.eq_false_iff.mpr c886
            refine t_qz 1 [0, 1, 5, 27] (σ' := [(0, .slice a_a0 a0.length c_a0), (1, .slice a_b1 b1.length c_b1), (5, .int .i64 x850), (27, .bool t884)]) (by kernel_rfl) ?_
            refine t_v (dv_quiet rfl (congrArg (fun t => some (Value.bool (!t))) c886b)) ?_
            refine t_keep [0, 1, 5, 28] (σ' := [(0, .slice a_a0 a0.length c_a0), (1, .slice a_b1 b1.length c_b1), (5, .int .i64 x850), (28, .bool true)]) (by kernel_rfl) ?_
            refine t_end ?_
            show W _ _ _ _ _ _ _
            refine w_cond rfl (fun _ => ?_) (fun c_ => by cases c_)
            show W _ _ _ _ _ _ _
            refine w_seq ?_
            refine w_reg fun all => ?_
            refine t_qz 1 [4] (σ' := [(4, .bool false)]) (by kernel_rfl) ?_
            refine t_end ?_
            show W _ _ _ _ _ _ _
            refine w_ret ?_
            obtain rfl := Option.some.inj e848
            obtain rfl := Option.some.inj e
            exact ⟨[.bool false], [], S, ⟨rfl, trivial⟩, VS.none, rfl, rfl, rfl⟩
        · rw [if_neg c851] at e848
          have c851b : (decide (x850 < (a0.length : Int))) = false := decide_eq_false c851
          refine t_qz 3 [0, 1, 5, 12, 14] (σ' := [(0, .slice a_a0 a0.length c_a0), (1, .slice a_b1 b1.length c_b1), (5, .int .i64 x850), (12, .int .i64 x850), (14, .int .i64 (a0.length : Int))]) (by kernel_rfl) ?_
          refine t_v (dv_quiet rfl (congrArg (fun t => some (Value.bool t)) c851b)) ?_
          refine t_keep [0, 1, 5, 15] (σ' := [(0, .slice a_a0 a0.length c_a0), (1, .slice a_b1 b1.length c_b1), (5, .int .i64 x850), (15, .bool false)]) (by kernel_rfl) ?_
          refine t_end ?_
          show W _ _ _ _ _ _ _
          refine w_cond rfl (fun c_ => by cases c_) (fun _ => ?_)
          show W _ _ _ _ _ _ _
          refine w_exit ?_
          obtain rfl := Option.some.inj e848
          exact ⟨([] : List Own), S, VS.sel [] (by kernel_rfl), (), rfl, by kernel_rfl, rfl, rfl⟩
    · rintro σ_ H_ S_ ⟨u_, rfl, rfl, rfl, rfl⟩
      dsimp only at e
      refine w_seq ?_
      refine w_reg fun all => ?_
      refine t_qz 1 [4] (σ' := [(4, .bool true)]) (by kernel_rfl) ?_
      refine t_end ?_
      show W _ _ _ _ _ _ _
      refine w_ret ?_
      obtain rfl := Option.some.inj e
      exact ⟨[.bool true], [], S, ⟨rfl, trivial⟩, VS.none, rfl, rfl, rfl⟩
  · rw [if_neg c846] at e
    have c846b : ((a0.length : Int) == (b1.length : Int)) = false := beq_eq_false_iff_ne.mpr c846
    refine t_qz 4 [0, 1, 8, 10] (σ' := [(0, .slice a_a0 a0.length c_a0), (1, .slice a_b1 b1.length c_b1), (8, .int .i64 (a0.length : Int)), (10, .int .i64 (b1.length : Int))]) (by kernel_rfl) ?_
    refine t_v (dv_quiet rfl (congrArg (fun t => some (Value.bool (!t))) c846b)) ?_
    refine t_keep [0, 1, 11] (σ' := [(0, .slice a_a0 a0.length c_a0), (1, .slice a_b1 b1.length c_b1), (11, .bool true)]) (by kernel_rfl) ?_
    refine t_end ?_
    show W _ _ _ _ _ _ _
    refine w_cond rfl (fun _ => ?_) (fun c_ => by cases c_)
    show W _ _ _ _ _ _ _
    refine w_seq ?_
    refine w_reg fun all => ?_
    refine t_qz 1 [4] (σ' := [(4, .bool false)]) (by kernel_rfl) ?_
    refine t_end ?_
    show W _ _ _ _ _ _ _
    refine w_ret ?_
    obtain rfl := Option.some.inj e
    exact ⟨[.bool false], [], S, ⟨rfl, trivial⟩, VS.none, rfl, rfl, rfl⟩

/-- glyphicref.SameCmd -/
def c14 : C :=
  (.seq (.reg [⟨(some 2), .box (.tmp 0), none⟩,
     ⟨(some 3), .box (.tmp 1), none⟩,
     ⟨(some 4), .mv (.const (.bool false)), none⟩])
  (.seq (.reg [⟨(some 5), .pad 0 (.tmp 2), none⟩,
     ⟨(some 6), .ld none (.tmp 5), none⟩,
     ⟨(some 7), .pad 0 (.tmp 3), none⟩,
     ⟨(some 8), .ld none (.tmp 7), none⟩,
     ⟨(some 9), .bin .eql (.tmp 6) (.tmp 8), none⟩,
     ⟨(some 10), .mv (.tmp 9), none⟩,
     ⟨(some 11), .pad 1 (.tmp 2), (some (10, true))⟩,
     ⟨(some 12), .ld none (.tmp 11), (some (10, true))⟩,
     ⟨(some 13), .pad 1 (.tmp 3), (some (10, true))⟩,
     ⟨(some 14), .ld none (.tmp 13), (some (10, true))⟩,
     ⟨(some 15), .bin .eql (.tmp 12) (.tmp 14), (some (10, true))⟩,
     ⟨(some 16), .pk (.tmp 10) (.tmp 15) (.const (.bool false)), none⟩,
     ⟨(some 17), .mv (.tmp 16), none⟩,
     ⟨(some 18), .pad 2 (.tmp 2), (some (17, true))⟩,
     ⟨(some 19), .ld none (.tmp 18), (some (17, true))⟩,
     ⟨(some 20), .pad 2 (.tmp 3), (some (17, true))⟩,
     ⟨(some 21), .ld none (.tmp 20), (some (17, true))⟩,
     ⟨(some 22), .bin .eql (.tmp 19) (.tmp 21), (some (17, true))⟩,
     ⟨(some 23), .pk (.tmp 17) (.tmp 22) (.const (.bool false)), none⟩,
     ⟨(some 24), .mv (.tmp 23), none⟩,
     ⟨(some 25), .pad 3 (.tmp 2), (some (24, true))⟩,
     ⟨(some 26), .ld (some 7) (.tmp 25), (some (24, true))⟩,
     ⟨(some 27), .pad 3 (.tmp 3), (some (24, true))⟩,
     ⟨(some 28), .ld (some 7) (.tmp 27), (some (24, true))⟩,
     ⟨(some 29), .call 31 [(.tmp 26), (.tmp 28)], (some (24, true))⟩,
     ⟨(some 30), .pk (.tmp 24) (.tmp 29) (.const (.bool false)), none⟩,
     ⟨(some 31), .mv (.tmp 30), none⟩,
     ⟨(some 32), .pad 10 (.tmp 2), (some (31, true))⟩,
     ⟨(some 33), .ld none (.tmp 32), (some (31, true))⟩,
     ⟨(some 34), .pad 10 (.tmp 3), (some (31, true))⟩,
     ⟨(some 35), .ld none (.tmp 34), (some (31, true))⟩,
     ⟨(some 36), .call 32 [(.tmp 33), (.tmp 35)], (some (31, true))⟩,
     ⟨(some 37), .pk (.tmp 31) (.tmp 36) (.const (.bool false)), none⟩,
     ⟨(some 4), .mv (.tmp 37), none⟩])
  .ret))
def glyphicref_SameCmd_v1.f (k : Nat) (a0_0 : Int) (a0_1 : Int) (a0_2 : Int) (a0_3 : Int) (a0_4 : Int) (a0_5 : Int) (a0_6 : Int) (a0_7 : Int) (a0_8 : Int) (a0_9 : Int) (a0_10 : List (Int × Int × List (Int × Int × Int × Int × Int × Int × Int) × Bool)) (b1_0 : Int) (b1_1 : Int) (b1_2 : Int) (b1_3 : Int) (b1_4 : Int) (b1_5 : Int) (b1_6 : Int) (b1_7 : Int) (b1_8 : Int) (b1_9 : Int) (b1_10 : List (Int × Int × List (Int × Int × Int × Int × Int × Int × Int) × Bool)) : Option (Bool) := if a0_0 = b1_0 then (if a0_1 = b1_1 then (if a0_2 = b1_2 then ((glyphicref_SamePaint.f a0_3 a0_4 a0_5 a0_6 a0_7 a0_8 a0_9 b1_3 b1_4 b1_5 b1_6 b1_7 b1_8 b1_9).bind fun t844 => (if t844 = true then ((glyphicref_SamePaths_v1.f k a0_10 b1_10).bind fun t890 => (some t890)) else (some false))) else (some false)) else (some false)) else (some false)
theorem glyphicref_SameCmd_v1.ok {S : Seal} {k : Nat} {a0_0 : Int} {a0_1 : Int} {a0_2 : Int} {a0_3 : Int} {a0_4 : Int} {a0_5 : Int} {a0_6 : Int} {a0_7 : Int} {a0_8 : Int} {a0_9 : Int} {a0_10 : List (Int × Int × List (Int × Int × Int × Int × Int × Int × Int) × Bool)} {b1_0 : Int} {b1_1 : Int} {b1_2 : Int} {b1_3 : Int} {b1_4 : Int} {b1_5 : Int} {b1_6 : Int} {b1_7 : Int} {b1_8 : Int} {b1_9 : Int} {b1_10 : List (Int × Int × List (Int × Int × Int × Int × Int × Int × Int) × Bool)} {r0_ : Bool}{A_ : Int → Addr} (hE_ : EO gsE S A_ 94) {a_a0_10 : Option Addr} {c_a0_10 : Nat} (h_a0_10 : SlN (rdOf [] S) N_0 a0_10 a_a0_10) {a_b1_10 : Option Addr} {c_b1_10 : Nat} (h_b1_10 : SlN (rdOf [] S) N_0 b1_10 a_b1_10) (e : glyphicref_SameCmd_v1.f k a0_0 a0_1 a0_2 a0_3 a0_4 a0_5 a0_6 a0_7 a0_8 a0_9 a0_10 b1_0 b1_1 b1_2 b1_3 b1_4 b1_5 b1_6 b1_7 b1_8 b1_9 b1_10 = some r0_) :
    Cal Tryd.prog 14 [.agg #[.int .i64 a0_0, .int .i64 a0_1, .int .i64 a0_2, .int .i64 a0_3, .int .i64 a0_4, .int .i64 a0_5, .int .i64 a0_6, .int .i64 a0_7, .int .i64 a0_8, .int .i64 a0_9, .slice a_a0_10 a0_10.length c_a0_10], .agg #[.int .i64 b1_0, .int .i64 b1_1, .int .i64 b1_2, .int .i64 b1_3, .int .i64 b1_4, .int .i64 b1_5, .int .i64 b1_6, .int .i64 b1_7, .int .i64 b1_8, .int .i64 b1_9, .slice a_b1_10 b1_10.length c_b1_10]] [] S fun v H' S' => v = .bool r0_ ∧ H' = [] ∧ S' = S := by
  unfold glyphicref_SameCmd_v1.f at e
  refine cal_of (c := c14) (N := 38) Tryd.func14 rfl rfl (by kernel_rfl) (rs := [.t 4]) (by kernel_rfl) (Nat.le_of_ble_eq_true rfl) ?_
  unfold c14
  refine w_seq ?_
  refine w_reg fun all => ?_
  refine t_a (.box rfl rfl rfl) fun b830 fb830 sb830 => ?_
  refine t_a (.box rfl rfl rfl) fun b831 fb831 sb831 => ?_
  refine t_qz 1 [2, 3] (σ' := [(2, .pointer (some ⟨b830, 0, none⟩)), (3, .pointer (some ⟨b831, 0, none⟩))]) (by kernel_rfl) ?_
  refine t_end ?_
  show W _ _ _ _ _ _ _
  refine w_seq ?_
  refine w_reg fun all => ?_
  refine t_qz 1 [2, 3, 5] (σ' := [(2, .pointer (some ⟨b830, 0, none⟩)), (3, .pointer (some ⟨b831, 0, none⟩)), (5, .pointer (some ⟨b830, 0, none⟩))]) (by kernel_rfl) ?_
  refine t_v (.ld1 rfl rfl rfl (.at 1 rfl rfl)) ?_
  refine t_qz 1 [2, 3, 6, 7] (σ' := [(2, .pointer (some ⟨b830, 0, none⟩)), (3, .pointer (some ⟨b831, 0, none⟩)), (6, .int .i64 a0_0), (7, .pointer (some ⟨b831, 0, none⟩))]) (by kernel_rfl) ?_
  refine t_v (.ld1 rfl rfl rfl (.at 0 rfl rfl)) ?_
  by_cases c832 : a0_0 = b1_0
  · rw [if_pos c832] at e
    have c832b : (a0_0 == b1_0) = true := beq_iff_eq.mpr c832
    refine t_v (dv_quiet rfl (congrArg (fun t => some (Value.bool t)) c832b)) ?_
    refine t_qz 2 [2, 3, 10, 11] (σ' := [(2, .pointer (some ⟨b830, 0, none⟩)), (3, .pointer (some ⟨b831, 0, none⟩)), (10, .bool true), (11, .pointer (some ⟨b830, 1, none⟩))]) (by kernel_rfl) ?_
    refine t_v (.ld1 rfl rfl rfl (.at 1 rfl rfl)) ?_
    refine t_qz 1 [2, 3, 10, 12, 13] (σ' := [(2, .pointer (some ⟨b830, 0, none⟩)), (3, .pointer (some ⟨b831, 0, none⟩)), (10, .bool true), (12, .int .i64 a0_1), (13, .pointer (some ⟨b831, 1, none⟩))]) (by kernel_rfl) ?_
    refine t_v (.ld1 rfl rfl rfl (.at 0 rfl rfl)) ?_
    by_cases c833 : a0_1 = b1_1
    · rw [if_pos c833] at e
      have c833b : (a0_1 == b1_1) = true := beq_iff_eq.mpr c833
      refine t_v (dv_quiet rfl (congrArg (fun t => some (Value.bool t)) c833b)) ?_
      refine t_qz 3 [2, 3, 17, 18] (σ' := [(2, .pointer (some ⟨b830, 0, none⟩)), (3, .pointer (some ⟨b831, 0, none⟩)), (17, .bool true), (18, .pointer (some ⟨b830, 2, none⟩))]) (by kernel_rfl) ?_
      refine t_v (.ld1 rfl rfl rfl (.at 1 rfl rfl)) ?_
      refine t_qz 1 [2, 3, 17, 19, 20] (σ' := [(2, .pointer (some ⟨b830, 0, none⟩)), (3, .pointer (some ⟨b831, 0, none⟩)), (17, .bool true), (19, .int .i64 a0_2), (20, .pointer (some ⟨b831, 2, none⟩))]) (by kernel_rfl) ?_
      refine t_v (.ld1 rfl rfl rfl (.at 0 rfl rfl)) ?_
      by_cases c834 : a0_2 = b1_2
      · rw [if_pos c834] at e
        have c834b : (a0_2 == b1_2) = true := beq_iff_eq.mpr c834
        refine t_v (dv_quiet rfl (congrArg (fun t => some (Value.bool t)) c834b)) ?_
        refine t_qz 3 [2, 3, 24, 25] (σ' := [(2, .pointer (some ⟨b830, 0, none⟩)), (3, .pointer (some ⟨b831, 0, none⟩)), (24, .bool true), (25, .pointer (some ⟨b830, 3, none⟩))]) (by kernel_rfl) ?_
        refine t_v (.ldn rfl rfl rfl (.at 1 rfl rfl)) ?_
        refine t_qz 1 [2, 3, 24, 26, 27] (σ' := [(2, .pointer (some ⟨b830, 0, none⟩)), (3, .pointer (some ⟨b831, 0, none⟩)), (24, .bool true), (26, .agg #[.int .i64 a0_3, .int .i64 a0_4, .int .i64 a0_5, .int .i64 a0_6, .int .i64 a0_7, .int .i64 a0_8, .int .i64 a0_9]), (27, .pointer (some ⟨b831, 3, none⟩))]) (by kernel_rfl) ?_
        refine t_v (.ldn rfl rfl rfl (.at 0 rfl rfl)) ?_
        obtain ⟨t844, h845, e⟩ := bind_of e
        cases t844 with
        | true =>
          rw [if_pos rfl] at e
          refine t_v (.call (vs := [.agg #[.int .i64 a0_3, .int .i64 a0_4, .int .i64 a0_5, .int .i64 a0_6, .int .i64 a0_7, .int .i64 a0_8, .int .i64 a0_9], .agg #[.int .i64 b1_3, .int .i64 b1_4, .int .i64 b1_5, .int .i64 b1_6, .int .i64 b1_7, .int .i64 b1_8, .int .i64 b1_9]]) rfl rfl (by kernel_rfl) (glyphicref_SamePaint.ok hE_ h845)) ?_
          refine t_qz 3 [3, 31, 32] (σ' := [(3, .pointer (some ⟨b831, 0, none⟩)), (31, .bool true), (32, .pointer (some ⟨b830, 10, none⟩))]) (by kernel_rfl) ?_
          refine t_v (.ld1 rfl rfl rfl (.at 1 rfl rfl)) ?_
          refine t_qz 1 [31, 33, 34] (σ' := [(31, .bool true), (33, .slice a_a0_10 a0_10.length c_a0_10), (34, .pointer (some ⟨b831, 10, none⟩))]) (by kernel_rfl) ?_
          refine t_v (.ld1 rfl rfl rfl (.at 0 rfl rfl)) ?_
          obtain ⟨t890, h891, e⟩ := bind_of e
          refine t_v (.call (vs := [.slice a_a0_10 a0_10.length c_a0_10, .slice a_b1_10 b1_10.length c_b1_10]) rfl rfl (by kernel_rfl) (glyphicref_SamePaths_v1.ok hE_ h_a0_10 h_b1_10 h891)) ?_
          refine t_qz 2 [4] (σ' := [(4, .bool t890)]) (by kernel_rfl) ?_
          refine t_end ?_
          show W _ _ _ _ _ _ _
          refine w_ret ?_
          obtain rfl := Option.some.inj e
          exact ⟨[.bool t890], [], S, ⟨rfl, trivial⟩, VS.none, rfl, rfl, rfl⟩
        | false =>
          rw [if_neg (by decide)] at e
          refine t_v (.call (vs := [.agg #[.int .i64 a0_3, .int .i64 a0_4, .int .i64 a0_5, .int .i64 a0_6, .int .i64 a0_7, .int .i64 a0_8, .int .i64 a0_9], .agg #[.int .i64 b1_3, .int .i64 b1_4, .int .i64 b1_5, .int .i64 b1_6, .int .i64 b1_7, .int .i64 b1_8, .int .i64 b1_9]]) rfl rfl (by kernel_rfl) (glyphicref_SamePaint.ok hE_ h845)) ?_
          refine t_qz 9 [4] (σ' := [(4, .bool false)]) (by kernel_rfl) ?_
          refine t_end ?_
          show W _ _ _ _ _ _ _
          refine w_ret ?_
          obtain rfl := Option.some.inj e
          exact ⟨[.bool false], [], S, ⟨rfl, trivial⟩, VS.none, rfl, rfl, rfl⟩
      · rw [if_neg c834] at e
        have c834b : (a0_2 == b1_2) = false := beq_eq_false_iff_ne.mpr c834
        refine t_v (dv_quiet rfl (congrArg (fun t => some (Value.bool t)) c834b)) ?_
        refine t_qz 16 [4] (σ' := [(4, .bool false)]) (by kernel_rfl) ?_
        refine t_end ?_
        show W _ _ _ _ _ _ _
        refine w_ret ?_
        obtain rfl := Option.some.inj e
        exact ⟨[.bool false], [], S, ⟨rfl, trivial⟩, VS.none, rfl, rfl, rfl⟩
    · rw [if_neg c833] at e
      have c833b : (a0_1 == b1_1) = false := beq_eq_false_iff_ne.mpr c833
      refine t_v (dv_quiet rfl (congrArg (fun t => some (Value.bool t)) c833b)) ?_
      refine t_qz 23 [4] (σ' := [(4, .bool false)]) (by kernel_rfl) ?_
      refine t_end ?_
      show W _ _ _ _ _ _ _
      refine w_ret ?_
      obtain rfl := Option.some.inj e
      exact ⟨[.bool false], [], S, ⟨rfl, trivial⟩, VS.none, rfl, rfl, rfl⟩
  · rw [if_neg c832] at e
    have c832b : (a0_0 == b1_0) = false := beq_eq_false_iff_ne.mpr c832
    refine t_v (dv_quiet rfl (congrArg (fun t => some (Value.bool t)) c832b)) ?_
    refine t_qz 29 [4] (σ' := [(4, .bool false)]) (by kernel_rfl) ?_
    refine t_end ?_
    show W _ _ _ _ _ _ _
    refine w_ret ?_
    obtain rfl := Option.some.inj e
    exact ⟨[.bool false], [], S, ⟨rfl, trivial⟩, VS.none, rfl, rfl, rfl⟩
end Go.Proofs.YtiaigehjogpcaaaDoor.QScaleSays
