/- Functions of the program as Lean functions, each with the proof of its walk. Written by gen.py, a program of these sessions. -/
import Derived.Test.YtiaigehjogpcaaaDoorQScaleCmdsx2
namespace Go.Proofs.YtiaigehjogpcaaaDoor.QScaleCmds
open Go Go.RowKit Go.Proofs.YtiaigehjogpcaaaDoorE
set_option linter.unusedVariables false
set_option maxRecDepth 100000
set_option maxHeartbeats 8000000
/-- glyphiclaw20.ScaleCmds -/
def c5 : C :=
  (.seq (.reg [⟨(some 4), .mv (.const (.bool false)), none⟩])
  (.seq (.reg [⟨(some 15), .call 6 [], none⟩,
     ⟨(some 5), .mv (.tmp 15), none⟩])
  (.seq (.seq (.reg [⟨(some 16), .mv (.tmp 5), none⟩,
      ⟨(some 17), .un .not (.tmp 16), none⟩])
   (.cond (.tmp 17)
    (.seq (.reg [⟨(some 4), .mv (.const (.bool false)), none⟩])
     .ret)
    .skip))
  (.seq (.seq (.reg [⟨(some 18), .mv (.tmp 0), none⟩,
      ⟨(some 19), .lns (.tmp 18), none⟩,
      ⟨(some 20), .bin .gtr (.tmp 19) (.const (.int .i64 250)), none⟩])
   (.cond (.tmp 20)
    (.seq (.reg [⟨(some 21), .mv (.tmp 5), none⟩,
        ⟨(some 4), .mv (.tmp 21), none⟩])
     .ret)
    .skip))
  (.seq (.reg [⟨(some 22), .mv (.tmp 0), none⟩,
     ⟨(some 23), .bld [(.slice none 0 0), (.int .i64 0)] [(0, 1, (.tmp 22))], none⟩,
     ⟨(some 24), .box (.tmp 23), none⟩,
     ⟨(some 25), .call 9 [(.tmp 24)], none⟩,
     ⟨(some 6), .new [(.int .i64 0), (.int .i64 0), (.int .i64 0), (.slice none 0 0), (.slice none 0 0)], none⟩,
     ⟨none, .st 5 (.tmp 6) (.tmp 25), none⟩])
  (.seq (.reg [⟨(some 26), .mv (.tmp 1), none⟩,
     ⟨(some 27), .bin .rem (.tmp 26) (.const (.int .i64 50)), none⟩,
     ⟨(some 28), .bin .add (.tmp 27) (.const (.int .i64 50)), none⟩,
     ⟨(some 29), .bin .rem (.tmp 28) (.const (.int .i64 50)), none⟩,
     ⟨(some 30), .bin .add (.tmp 29) (.const (.int .i64 1)), none⟩,
     ⟨(some 1), .mv (.tmp 30), none⟩])
  (.seq (.seq (.reg [⟨(some 7), .mv (.const (.int .i64 0)), none⟩])
   (.block 0 (.loop (.seq (.seq (.reg [⟨(some 31), .mv (.tmp 7), none⟩,
         ⟨(some 32), .pad 4 (.tmp 6), none⟩,
         ⟨(some 33), .ld none (.tmp 32), none⟩,
         ⟨(some 34), .lns (.tmp 33), none⟩,
         ⟨(some 35), .bin .lss (.tmp 31) (.tmp 34), none⟩])
      (.cond (.tmp 35)
       .skip
       (.exit 0)))
     (.seq (.block 1 (.seq (.reg [⟨(some 38), .pad 4 (.tmp 6), none⟩,
          ⟨(some 39), .ld none (.tmp 38), none⟩,
          ⟨(some 40), .mv (.tmp 7), none⟩,
          ⟨(some 41), .ixs 11 (.tmp 39) (.tmp 40), none⟩,
          ⟨(some 42), .ld (some 11) (.tmp 41), none⟩,
          ⟨(some 8), .new [(.int .i64 0), (.int .i64 0), (.int .i64 0), (.int .i64 0), (.int .i64 0), (.int .i64 0), (.int .i64 0), (.int .i64 0), (.int .i64 0), (.int .i64 0), (.slice none 0 0)], none⟩,
          ⟨none, .st 11 (.tmp 8) (.tmp 42), none⟩])
       (.seq (.reg [⟨(some 43), .ld (some 5) (.tmp 6), none⟩,
          ⟨(some 44), .mv (.tmp 1), none⟩,
          ⟨(some 45), .ld (some 11) (.tmp 8), none⟩,
          ⟨(some 46), .call 15 [(.tmp 43), (.tmp 44), (.tmp 45)], none⟩,
          ⟨(some 9), .new [(.int .i64 0), (.int .i64 0), (.int .i64 0), (.int .i64 0), (.int .i64 0), (.int .i64 0), (.int .i64 0), (.int .i64 0), (.int .i64 0), (.int .i64 0), (.slice none 0 0)], none⟩,
          ⟨none, .st 11 (.tmp 9) (.tmp 46), none⟩])
       (.seq (.seq (.reg [⟨(some 47), .pad 0 (.tmp 9), none⟩,
           ⟨(some 48), .ld none (.tmp 47), none⟩,
           ⟨(some 49), .pad 0 (.tmp 8), none⟩,
           ⟨(some 50), .ld none (.tmp 49), none⟩,
           ⟨(some 51), .bin .neq (.tmp 48) (.tmp 50), none⟩,
           ⟨(some 52), .mv (.tmp 51), none⟩,
           ⟨(some 53), .pad 1 (.tmp 9), (some (52, false))⟩,
           ⟨(some 54), .ld none (.tmp 53), (some (52, false))⟩,
           ⟨(some 55), .pad 1 (.tmp 8), (some (52, false))⟩,
           ⟨(some 56), .ld none (.tmp 55), (some (52, false))⟩,
           ⟨(some 57), .bin .neq (.tmp 54) (.tmp 56), (some (52, false))⟩,
           ⟨(some 58), .pk (.tmp 52) (.const (.bool true)) (.tmp 57), none⟩,
           ⟨(some 59), .mv (.tmp 58), none⟩,
           ⟨(some 60), .pad 3 (.tmp 9), (some (59, false))⟩,
           ⟨(some 61), .pad 0 (.tmp 60), (some (59, false))⟩,
           ⟨(some 62), .ld none (.tmp 61), (some (59, false))⟩,
           ⟨(some 63), .pad 3 (.tmp 8), (some (59, false))⟩,
           ⟨(some 64), .pad 0 (.tmp 63), (some (59, false))⟩,
           ⟨(some 65), .ld none (.tmp 64), (some (59, false))⟩,
           ⟨(some 66), .bin .neq (.tmp 62) (.tmp 65), (some (59, false))⟩,
           ⟨(some 67), .pk (.tmp 59) (.const (.bool true)) (.tmp 66), none⟩,
           ⟨(some 68), .mv (.tmp 67), none⟩,
           ⟨(some 69), .pad 3 (.tmp 9), (some (68, false))⟩,
           ⟨(some 70), .pad 1 (.tmp 69), (some (68, false))⟩,
           ⟨(some 71), .ld none (.tmp 70), (some (68, false))⟩,
           ⟨(some 72), .pad 3 (.tmp 8), (some (68, false))⟩,
           ⟨(some 73), .pad 1 (.tmp 72), (some (68, false))⟩,
           ⟨(some 74), .ld none (.tmp 73), (some (68, false))⟩,
           ⟨(some 75), .bin .neq (.tmp 71) (.tmp 74), (some (68, false))⟩,
           ⟨(some 76), .pk (.tmp 68) (.const (.bool true)) (.tmp 75), none⟩,
           ⟨(some 77), .mv (.tmp 76), none⟩,
           ⟨(some 78), .pad 3 (.tmp 9), (some (77, false))⟩,
           ⟨(some 79), .pad 2 (.tmp 78), (some (77, false))⟩,
           ⟨(some 80), .ld none (.tmp 79), (some (77, false))⟩,
           ⟨(some 81), .pad 3 (.tmp 8), (some (77, false))⟩,
           ⟨(some 82), .pad 2 (.tmp 81), (some (77, false))⟩,
           ⟨(some 83), .ld none (.tmp 82), (some (77, false))⟩,
           ⟨(some 84), .bin .neq (.tmp 80) (.tmp 83), (some (77, false))⟩,
           ⟨(some 85), .pk (.tmp 77) (.const (.bool true)) (.tmp 84), none⟩,
           ⟨(some 86), .mv (.tmp 85), none⟩,
           ⟨(some 87), .pad 10 (.tmp 9), (some (86, false))⟩,
           ⟨(some 88), .ld none (.tmp 87), (some (86, false))⟩,
           ⟨(some 89), .lns (.tmp 88), (some (86, false))⟩,
           ⟨(some 90), .pad 10 (.tmp 8), (some (86, false))⟩,
           ⟨(some 91), .ld none (.tmp 90), (some (86, false))⟩,
           ⟨(some 92), .lns (.tmp 91), (some (86, false))⟩,
           ⟨(some 93), .bin .neq (.tmp 89) (.tmp 92), (some (86, false))⟩,
           ⟨(some 94), .pk (.tmp 86) (.const (.bool true)) (.tmp 93), none⟩,
           ⟨(some 95), .mv (.tmp 94), none⟩,
           ⟨(some 96), .pad 0 (.tmp 8), (some (95, false))⟩,
           ⟨(some 97), .ld none (.tmp 96), (some (95, false))⟩,
           ⟨(some 98), .bin .eql (.tmp 97) (.const (.int .i64 2)), (some (95, false))⟩,
           ⟨(some 99), .mv (.tmp 98), (some (95, false))⟩,
           ⟨(some 100), .pad 2 (.tmp 9), (some (99, true))⟩,
           ⟨(some 101), .ld none (.tmp 100), (some (99, true))⟩,
           ⟨(some 102), .bin .lss (.tmp 101) (.const (.int .i64 1)), (some (99, true))⟩,
           ⟨(some 103), .pk (.tmp 99) (.tmp 102) (.const (.bool false)), (some (95, false))⟩,
           ⟨(some 104), .pk (.tmp 95) (.const (.bool true)) (.tmp 103), none⟩,
           ⟨(some 105), .mv (.tmp 104), none⟩,
           ⟨(some 106), .pad 0 (.tmp 8), (some (105, false))⟩,
           ⟨(some 107), .ld none (.tmp 106), (some (105, false))⟩,
           ⟨(some 108), .bin .eql (.tmp 107) (.const (.int .i64 1)), (some (105, false))⟩,
           ⟨(some 109), .mv (.tmp 108), (some (105, false))⟩,
           ⟨(some 110), .pad 2 (.tmp 9), (some (109, true))⟩,
           ⟨(some 111), .ld none (.tmp 110), (some (109, true))⟩,
           ⟨(some 112), .bin .neq (.tmp 111) (.const (.int .i64 0)), (some (109, true))⟩,
           ⟨(some 113), .pk (.tmp 109) (.tmp 112) (.const (.bool false)), (some (105, false))⟩,
           ⟨(some 114), .pk (.tmp 105) (.const (.bool true)) (.tmp 113), none⟩,
           ⟨(some 115), .mv (.tmp 114), none⟩,
           ⟨(some 116), .pad 3 (.tmp 8), (some (115, false))⟩,
           ⟨(some 117), .pad 0 (.tmp 116), (some (115, false))⟩,
           ⟨(some 118), .ld none (.tmp 117), (some (115, false))⟩,
           ⟨(some 119), .bin .eql (.tmp 118) (.const (.int .i64 2)), (some (115, false))⟩,
           ⟨(some 120), .mv (.tmp 119), (some (115, false))⟩,
           ⟨(some 121), .pad 3 (.tmp 9), (some (120, true))⟩,
           ⟨(some 122), .pad 5 (.tmp 121), (some (120, true))⟩,
           ⟨(some 123), .pad 0 (.tmp 122), (some (120, true))⟩,
           ⟨(some 124), .ld none (.tmp 123), (some (120, true))⟩,
           ⟨(some 125), .bin .lss (.tmp 124) (.const (.int .i64 1)), (some (120, true))⟩,
           ⟨(some 126), .pk (.tmp 120) (.tmp 125) (.const (.bool false)), (some (115, false))⟩,
           ⟨(some 127), .pk (.tmp 115) (.const (.bool true)) (.tmp 126), none⟩])
        (.cond (.tmp 127)
         (.seq (.reg [⟨(some 4), .mv (.const (.bool false)), none⟩])
          .ret)
         .skip))
       (.seq (.reg [⟨(some 10), .mv (.const (.int .i64 0)), none⟩])
       (.block 2 (.loop (.seq (.seq (.reg [⟨(some 128), .mv (.tmp 10), none⟩,
             ⟨(some 129), .pad 10 (.tmp 9), none⟩,
             ⟨(some 130), .ld none (.tmp 129), none⟩,
             ⟨(some 131), .lns (.tmp 130), none⟩,
             ⟨(some 132), .bin .lss (.tmp 128) (.tmp 131), none⟩])
          (.cond (.tmp 132)
           .skip
           (.exit 2)))
         (.seq (.block 3 (.seq (.reg [⟨(some 135), .pad 10 (.tmp 9), none⟩,
              ⟨(some 136), .ld none (.tmp 135), none⟩,
              ⟨(some 137), .mv (.tmp 10), none⟩,
              ⟨(some 138), .ixs 4 (.tmp 136) (.tmp 137), none⟩,
              ⟨(some 139), .ld (some 4) (.tmp 138), none⟩,
              ⟨(some 11), .new [(.int .i64 0), (.int .i64 0), (.slice none 0 0), (.bool false)], none⟩,
              ⟨none, .st 4 (.tmp 11) (.tmp 139), none⟩])
           (.seq (.reg [⟨(some 140), .pad 10 (.tmp 8), none⟩,
              ⟨(some 141), .ld none (.tmp 140), none⟩,
              ⟨(some 142), .mv (.tmp 10), none⟩,
              ⟨(some 143), .ixs 4 (.tmp 141) (.tmp 142), none⟩,
              ⟨(some 144), .ld (some 4) (.tmp 143), none⟩,
              ⟨(some 12), .new [(.int .i64 0), (.int .i64 0), (.slice none 0 0), (.bool false)], none⟩,
              ⟨none, .st 4 (.tmp 12) (.tmp 144), none⟩])
           (.seq (.seq (.drw [⟨(some 145), .pad 3 (.tmp 11), none⟩,
               ⟨(some 146), .ld none (.tmp 145), none⟩,
               ⟨(some 147), .pad 3 (.tmp 12), none⟩,
               ⟨(some 148), .ld none (.tmp 147), none⟩,
               ⟨(some 149), .beq true (.tmp 146) (.tmp 148), none⟩,
               ⟨(some 150), .mv (.tmp 149), none⟩,
               ⟨(some 151), .pad 2 (.tmp 11), (some (150, false))⟩,
               ⟨(some 152), .ld none (.tmp 151), (some (150, false))⟩,
               ⟨(some 153), .lns (.tmp 152), (some (150, false))⟩,
               ⟨(some 154), .pad 2 (.tmp 12), (some (150, false))⟩,
               ⟨(some 155), .ld none (.tmp 154), (some (150, false))⟩,
               ⟨(some 156), .lns (.tmp 155), (some (150, false))⟩,
               ⟨(some 157), .bin .neq (.tmp 153) (.tmp 156), (some (150, false))⟩,
               ⟨(some 158), .pk (.tmp 150) (.const (.bool true)) (.tmp 157), none⟩,
               ⟨(some 159), .mv (.tmp 158), none⟩,
               ⟨(some 160), .pad 0 (.tmp 11), (some (159, false))⟩,
               ⟨(some 161), .pad 0 (.tmp 160), (some (159, false))⟩,
               ⟨(some 162), .ld none (.tmp 161), (some (159, false))⟩,
               ⟨(some 163), .ld (some 5) (.tmp 6), (some (159, false))⟩,
               ⟨(some 164), .mv (.tmp 1), (some (159, false))⟩,
               ⟨(some 165), .pad 0 (.tmp 12), (some (159, false))⟩,
               ⟨(some 166), .pad 0 (.tmp 165), (some (159, false))⟩,
               ⟨(some 167), .ld none (.tmp 166), (some (159, false))⟩,
               ⟨(some 168), .call 7 [(.tmp 163), (.tmp 164), (.tmp 167)], (some (159, false))⟩,
               ⟨(some 169), .bin .neq (.tmp 162) (.tmp 168), (some (159, false))⟩,
               ⟨(some 170), .pk (.tmp 159) (.const (.bool true)) (.tmp 169), none⟩,
               ⟨(some 171), .mv (.tmp 170), none⟩,
               ⟨(some 172), .pad 0 (.tmp 11), (some (171, false))⟩,
               ⟨(some 173), .pad 1 (.tmp 172), (some (171, false))⟩,
               ⟨(some 174), .ld none (.tmp 173), (some (171, false))⟩,
               ⟨(some 175), .ld (some 5) (.tmp 6), (some (171, false))⟩,
               ⟨(some 176), .mv (.tmp 1), (some (171, false))⟩,
               ⟨(some 177), .pad 0 (.tmp 12), (some (171, false))⟩,
               ⟨(some 178), .pad 1 (.tmp 177), (some (171, false))⟩,
               ⟨(some 179), .ld none (.tmp 178), (some (171, false))⟩,
               ⟨(some 180), .call 7 [(.tmp 175), (.tmp 176), (.tmp 179)], (some (171, false))⟩,
               ⟨(some 181), .bin .neq (.tmp 174) (.tmp 180), (some (171, false))⟩,
               ⟨(some 182), .pk (.tmp 171) (.const (.bool true)) (.tmp 181), none⟩] [[], [0], [], [2], [1, 3], [4], [5], [6, 5], [7, 5], [5], [9, 5], [10, 5], [8, 11, 5], [5, 12], [13, 5], [14], [15, 14], [16, 14], [14], [14], [14], [20, 14], [21, 14], [18, 19, 22, 14, 14], [17, 23, 14], [14, 24], [25, 23], [26], [27, 26], [28, 26], [26], [26], [26], [32, 26], [33, 26], [30, 31, 34, 26, 26], [29, 35, 26], [26, 36]])
            (.cond (.tmp 182)
             (.seq (.reg [⟨(some 4), .mv (.const (.bool false)), none⟩])
              .ret)
             .skip))
           (.seq (.reg [⟨(some 13), .mv (.const (.int .i64 0)), none⟩])
           (.block 4 (.loop (.seq (.seq (.reg [⟨(some 183), .mv (.tmp 13), none⟩,
                 ⟨(some 184), .pad 2 (.tmp 11), none⟩,
                 ⟨(some 185), .ld none (.tmp 184), none⟩,
                 ⟨(some 186), .lns (.tmp 185), none⟩,
                 ⟨(some 187), .bin .lss (.tmp 183) (.tmp 186), none⟩])
              (.cond (.tmp 187)
               .skip
               (.exit 4)))
             (.seq (.block 5 (.seq (.reg [⟨(some 190), .pad 2 (.tmp 12), none⟩,
                  ⟨(some 191), .ld none (.tmp 190), none⟩,
                  ⟨(some 192), .mv (.tmp 13), none⟩,
                  ⟨(some 193), .ixs 7 (.tmp 191) (.tmp 192), none⟩,
                  ⟨(some 194), .pad 0 (.tmp 193), none⟩,
                  ⟨(some 195), .ld none (.tmp 194), none⟩,
                  ⟨(some 196), .bin .sub (.tmp 195) (.const (.int .i64 1)), none⟩,
                  ⟨(some 14), .mv (.tmp 196), none⟩])
               (.seq (.drw [⟨(some 197), .pad 2 (.tmp 11), none⟩,
                  ⟨(some 198), .ld none (.tmp 197), none⟩,
                  ⟨(some 199), .mv (.tmp 13), none⟩,
                  ⟨(some 200), .ixs 7 (.tmp 198) (.tmp 199), none⟩,
                  ⟨(some 201), .pad 0 (.tmp 200), none⟩,
                  ⟨(some 202), .ld none (.tmp 201), none⟩,
                  ⟨(some 203), .pad 2 (.tmp 12), none⟩,
                  ⟨(some 204), .ld none (.tmp 203), none⟩,
                  ⟨(some 205), .mv (.tmp 13), none⟩,
                  ⟨(some 206), .ixs 7 (.tmp 204) (.tmp 205), none⟩,
                  ⟨(some 207), .pad 0 (.tmp 206), none⟩,
                  ⟨(some 208), .ld none (.tmp 207), none⟩,
                  ⟨(some 209), .bin .neq (.tmp 202) (.tmp 208), none⟩,
                  ⟨(some 210), .mv (.tmp 209), none⟩,
                  ⟨(some 211), .pad 2 (.tmp 11), (some (210, false))⟩,
                  ⟨(some 212), .ld none (.tmp 211), (some (210, false))⟩,
                  ⟨(some 213), .mv (.tmp 13), (some (210, false))⟩,
                  ⟨(some 214), .mv (.tmp 14), (some (210, false))⟩,
                  ⟨(some 215), .ixs 7 (.tmp 212) (.tmp 213), (some (210, false))⟩,
                  ⟨(some 216), .pad 1 (.tmp 215), (some (210, false))⟩,
                  ⟨(some 217), .ixa 2 3 (.tmp 216) (.tmp 214), (some (210, false))⟩,
                  ⟨(some 218), .pad 1 (.tmp 217), (some (210, false))⟩,
                  ⟨(some 219), .ld none (.tmp 218), (some (210, false))⟩,
                  ⟨(some 220), .ld (some 5) (.tmp 6), (some (210, false))⟩,
                  ⟨(some 221), .mv (.tmp 1), (some (210, false))⟩,
                  ⟨(some 222), .pad 2 (.tmp 12), (some (210, false))⟩,
                  ⟨(some 223), .ld none (.tmp 222), (some (210, false))⟩,
                  ⟨(some 224), .mv (.tmp 13), (some (210, false))⟩,
                  ⟨(some 225), .mv (.tmp 14), (some (210, false))⟩,
                  ⟨(some 226), .ixs 7 (.tmp 223) (.tmp 224), (some (210, false))⟩,
                  ⟨(some 227), .pad 1 (.tmp 226), (some (210, false))⟩,
                  ⟨(some 228), .ixa 2 3 (.tmp 227) (.tmp 225), (some (210, false))⟩,
                  ⟨(some 229), .pad 1 (.tmp 228), (some (210, false))⟩,
                  ⟨(some 230), .ld none (.tmp 229), (some (210, false))⟩,
                  ⟨(some 231), .call 7 [(.tmp 220), (.tmp 221), (.tmp 230)], (some (210, false))⟩,
                  ⟨(some 232), .bin .neq (.tmp 219) (.tmp 231), (some (210, false))⟩,
                  ⟨(some 233), .pk (.tmp 210) (.const (.bool true)) (.tmp 232), none⟩] [[], [0], [], [1, 2], [3], [4], [], [6], [], [7, 8], [9], [10], [5, 11], [12], [13], [14, 13], [13], [13], [15, 16, 13], [18, 13], [19, 17, 13], [20, 13], [21, 13], [13], [13], [13], [25, 13], [13], [13], [26, 27, 13], [29, 13], [30, 28, 13], [31, 13], [32, 13], [23, 24, 33, 13, 13], [22, 34, 13], [13, 35]])
               (.cond (.tmp 233)
                (.seq (.reg [⟨(some 4), .mv (.const (.bool false)), none⟩])
                 .ret)
                .skip))))
             (.reg [⟨(some 188), .mv (.tmp 13), none⟩,
               ⟨(some 189), .bin .add (.tmp 188) (.const (.int .i64 1)), none⟩,
               ⟨(some 13), .mv (.tmp 189), none⟩]))))))))))
         (.reg [⟨(some 133), .mv (.tmp 10), none⟩,
           ⟨(some 134), .bin .add (.tmp 133) (.const (.int .i64 1)), none⟩,
           ⟨(some 10), .mv (.tmp 134), none⟩]))))))))))
     (.reg [⟨(some 36), .mv (.tmp 7), none⟩,
       ⟨(some 37), .bin .add (.tmp 36) (.const (.int .i64 1)), none⟩,
       ⟨(some 7), .mv (.tmp 37), none⟩]))))))
  (.seq (.drw [⟨(some 234), .mv (.tmp 5), none⟩,
     ⟨(some 235), .mv (.tmp 234), none⟩,
     ⟨(some 236), .ld (some 5) (.tmp 6), (some (235, true))⟩,
     ⟨(some 237), .call 19 [(.tmp 236)], (some (235, true))⟩,
     ⟨(some 238), .pad 4 (.tmp 6), (some (235, true))⟩,
     ⟨(some 239), .ld none (.tmp 238), (some (235, true))⟩,
     ⟨(some 240), .lns (.tmp 239), (some (235, true))⟩,
     ⟨(some 241), .bin .geq (.tmp 237) (.tmp 240), (some (235, true))⟩,
     ⟨(some 242), .pk (.tmp 235) (.tmp 241) (.const (.bool false)), none⟩,
     ⟨(some 243), .mv (.tmp 242), none⟩,
     ⟨(some 244), .pk (.tmp 243) (.const (.bool true)) (.const (.bool false)), none⟩,
     ⟨(some 4), .mv (.tmp 244), none⟩] [[], [0], [1], [2, 1, 1], [1], [4, 1], [5, 1], [3, 6, 1], [1, 7], [8, 3], [9], [10, 9, 0, 1, 2, 3, 4, 5, 6, 7, 8, 9, 10]])
  .ret))))))))
def glyphiclaw20_ScaleCmds.l2 : Nat → Int → Int → Int → Int → List (Int × Int × Int × Int × Int × Int × Int) → List (Int × Int × Int × Int × Int × Int × Int) → Int → Option ((Bool) ⊕ (Unit))
  | 0, _, _, _, _, _, _, _ => none
  | k + 1, o1, t393, t394, t395, x597, x614, x637 => if x637 < (x597.length : Int) then ((lgt x614 x637).bind fun (x639, x640, x641, x642, x643, x644, x645) => ((lgt x597 x637).bind fun (x655, x656, x657, x658, x659, x660, x661) => ((lgt x614 x637).bind fun (x671, x672, x673, x674, x675, x676, x677) => (if x655 = x671 then ((lgt x597 x637).bind fun (x688, x689, x690, x691, x692, x693, x694) => (if (wr64 (x639 - 1)) = 0 then ((lgt x614 x637).bind fun (x705, x706, x707, x708, x709, x710, x711) => ((scale_At_v2.f t393 t394 t395 (wr64 ((Int.tmod (wr64 ((Int.tmod o1 50) + 50)) 50) + 1)) x707).bind fun t721 => (if x690 = t721 then (glyphiclaw20_ScaleCmds.l2 k o1 t393 t394 t395 x597 x614 (wr64 (x637 + 1))) else (some (.inl false))))) else (if (wr64 (x639 - 1)) = 1 then ((lgt x614 x637).bind fun (x726, x727, x728, x729, x730, x731, x732) => ((scale_At_v2.f t393 t394 t395 (wr64 ((Int.tmod (wr64 ((Int.tmod o1 50) + 50)) 50) + 1)) x730).bind fun t742 => (if x692 = t742 then (glyphiclaw20_ScaleCmds.l2 k o1 t393 t394 t395 x597 x614 (wr64 (x637 + 1))) else (some (.inl false))))) else (if (wr64 (x639 - 1)) = 2 then ((lgt x614 x637).bind fun (x747, x748, x749, x750, x751, x752, x753) => ((scale_At_v2.f t393 t394 t395 (wr64 ((Int.tmod (wr64 ((Int.tmod o1 50) + 50)) 50) + 1)) x753).bind fun t763 => (if x694 = t763 then (glyphiclaw20_ScaleCmds.l2 k o1 t393 t394 t395 x597 x614 (wr64 (x637 + 1))) else (some (.inl false))))) else (none))))) else (some (.inl false)))))) else (some (.inr ()))
def glyphiclaw20_ScaleCmds.l1 : Nat → Int → Int → Int → Int → List (Int × Int × List (Int × Int × Int × Int × Int × Int × Int) × Bool) → List (Int × Int × List (Int × Int × Int × Int × Int × Int × Int) × Bool) → Int → Option ((Bool) ⊕ (Unit))
  | 0, _, _, _, _, _, _, _ => none
  | k + 1, o1, t393, t394, t395, x421, t563, x590 => if x590 < (t563.length : Int) then (((lgt t563 x590).bind fun (x595, x596, x597, x598) => ((lgt x421 x590).bind fun (x612, x613, x614, x615) => (if x598 = x615 then (if (x597.length : Int) = (x614.length : Int) then ((scale_At_v2.f t393 t394 t395 (wr64 ((Int.tmod (wr64 ((Int.tmod o1 50) + 50)) 50) + 1)) x612).bind fun t631 => (if x595 = t631 then ((scale_At_v2.f t393 t394 t395 (wr64 ((Int.tmod (wr64 ((Int.tmod o1 50) + 50)) 50) + 1)) x613).bind fun t634 => (if x596 = t634 then (glyphiclaw20_ScaleCmds.l2 k o1 t393 t394 t395 x597 x614 0) else (some (.inl false)))) else (some (.inl false)))) else (some (.inl false))) else (some (.inl false)))) : Option ((Bool) ⊕ (Unit))).bind fun s_ => match s_ with | .inl q769 => some (.inl q769) | .inr _ => (glyphiclaw20_ScaleCmds.l1 k o1 t393 t394 t395 x421 t563 (wr64 (x590 + 1)))) else (some (.inr ()))
def glyphiclaw20_ScaleCmds.l0 : Nat → Int → Int → Int → Int → List (Int × Int × Int × Int × Int × Int × Int × Int × Int × Int × List (Int × Int × List (Int × Int × Int × Int × Int × Int × Int) × Bool)) → Int → Option ((Bool) ⊕ (Unit))
  | 0, _, _, _, _, _, _ => none
  | k + 1, o1, t393, t394, t395, t396, x406 => if x406 < (t396.length : Int) then (((lgt t396 x406).bind fun (x411, x412, x413, x414, x415, x416, x417, x418, x419, x420, x421) => ((scale_Cmd_v1.f k t393 t394 t395 (wr64 ((Int.tmod (wr64 ((Int.tmod o1 50) + 50)) 50) + 1)) x411 x412 x413 x414 x415 x416 x417 x418 x419 x420 x421).bind fun (t553, t554, t555, t556, t557, t558, t559, t560, t561, t562, t563) => ((if t553 = x411 then (if t554 = x412 then (if t556 = x414 then (if t557 = x415 then (if t558 = x416 then (if (t563.length : Int) = (x421.length : Int) then (if x411 = 2 then (if t555 < 1 then (some (.inl false)) else (if x411 = 1 then (if t555 = 0 then (if x414 = 2 then (if t561 < 1 then (some (.inl false)) else (some (.inr ()))) else (some (.inr ()))) else (some (.inl false))) else (if x414 = 2 then (if t561 < 1 then (some (.inl false)) else (some (.inr ()))) else (some (.inr ()))))) else (if x411 = 1 then (if t555 = 0 then (if x414 = 2 then (if t561 < 1 then (some (.inl false)) else (some (.inr ()))) else (some (.inr ()))) else (some (.inl false))) else (if x414 = 2 then (if t561 < 1 then (some (.inl false)) else (some (.inr ()))) else (some (.inr ()))))) else (some (.inl false))) else (some (.inl false))) else (some (.inl false))) else (some (.inl false))) else (some (.inl false))) else (some (.inl false)) : Option ((Bool) ⊕ (Unit))).bind fun s_ => match s_ with | .inl q771 => some (.inl q771) | .inr _ => (glyphiclaw20_ScaleCmds.l1 k o1 t393 t394 t395 x421 t563 0))) : Option ((Bool) ⊕ (Unit))).bind fun s_ => match s_ with | .inl q773 => some (.inl q773) | .inr _ => (glyphiclaw20_ScaleCmds.l0 k o1 t393 t394 t395 t396 (wr64 (x406 + 1)))) else (some (.inr ()))
def glyphiclaw20_ScaleCmds.f (k : Nat) (t0 : List (Int)) (o1 : Int) : Option (Bool) := (glyphiclaw20_first.f).bind fun t11 => (if t11 = true then (if (t0.length : Int) > 250 then (some true) else ((glyphicmake_Icon_v1.f k t0 0).bind fun (t393, t394, t395, t396, t397, t398) => ((glyphiclaw20_ScaleCmds.l0 k o1 t393 t394 t395 t396 0 : Option ((Bool) ⊕ (Unit))).bind fun s_ => match s_ with | .inl q778 => some q778 | .inr _ => ((glyphicref1_Points_v1.f k t393 t394 t395 t396).bind fun t775 => (if t775 ≥ (t396.length : Int) then (some true) else (some false)))))) else (some false))
theorem glyphiclaw20_ScaleCmds.ok {S : Seal} {k : Nat} {t0 : List (Int)} {o1 : Int} {A_ : Int → Addr} (hE_ : EO [0, 1] S A_ 94) {a_t0 : Option Addr} {c_t0 : Nat} (h_t0 : SlE S E_i64 t0 a_t0) (e : glyphiclaw20_ScaleCmds.f k t0 o1 = some true) :
    Cal Tryd.prog 5 [.slice a_t0 t0.length c_t0, .int .i64 o1] [] S fun v H' S' => v = .bool true ∧ H' = [] ∧ S' = S := by
  unfold glyphiclaw20_ScaleCmds.f at e
  refine cal_of (c := c5) (N := 245) Tryd.func5 rfl rfl (by kernel_rfl) (rs := [.t 4]) (by kernel_rfl) (Nat.le_of_ble_eq_true rfl) ?_
  unfold c5
  refine w_seq ?_
  refine w_reg fun all => ?_
  refine t_qz 1 [0, 1] (σ' := [(0, .slice a_t0 t0.length c_t0), (1, .int .i64 o1)]) (by kernel_rfl) ?_
  refine t_end ?_
  show W _ _ _ _ _ _ _
  refine w_seq ?_
  refine w_reg fun all => ?_
  obtain ⟨t11, h12, e⟩ := bind_of e
  cases t11 with
  | true =>
    rw [if_pos rfl] at e
    refine t_v (.call (vs := []) rfl rfl (by kernel_rfl) (glyphiclaw20_first.ok hE_ h12)) ?_
    refine t_qz 1 [0, 1, 5] (σ' := [(0, .slice a_t0 t0.length c_t0), (1, .int .i64 o1), (5, .bool true)]) (by kernel_rfl) ?_
    refine t_end ?_
    show W _ _ _ _ _ _ _
    refine w_seq ?_
    refine w_seq ?_
    refine w_reg fun all => ?_
    refine t_qz 2 [0, 1, 5, 17] (σ' := [(0, .slice a_t0 t0.length c_t0), (1, .int .i64 o1), (5, .bool true), (17, .bool false)]) (by kernel_rfl) ?_
    refine t_end ?_
    show W _ _ _ _ _ _ _
    refine w_cond rfl (fun c_ => by cases c_) (fun _ => ?_)
    show W _ _ _ _ _ _ _
    refine w_skip ?_
    show W _ _ _ _ _ _ _
    refine w_seq ?_
    refine w_seq ?_
    refine w_reg fun all => ?_
    by_cases c13 : (t0.length : Int) > 250
    · rw [if_pos c13] at e
      have c13b : (decide ((t0.length : Int) > 250)) = true := decide_eq_true c13
      refine t_qz 2 [0, 1, 5, 19] (σ' := [(0, .slice a_t0 t0.length c_t0), (1, .int .i64 o1), (5, .bool true), (19, .int .i64 (t0.length : Int))]) (by kernel_rfl) ?_
      refine t_v (dv_quiet rfl (congrArg (fun t => some (Value.bool t)) c13b)) ?_
      refine t_keep [0, 1, 5, 20] (σ' := [(0, .slice a_t0 t0.length c_t0), (1, .int .i64 o1), (5, .bool true), (20, .bool true)]) (by kernel_rfl) ?_
      refine t_end ?_
      show W _ _ _ _ _ _ _
      refine w_cond rfl (fun _ => ?_) (fun c_ => by cases c_)
      show W _ _ _ _ _ _ _
      refine w_seq ?_
      refine w_reg fun all => ?_
      refine t_qz 2 [4] (σ' := [(4, .bool true)]) (by kernel_rfl) ?_
      refine t_end ?_
      show W _ _ _ _ _ _ _
      refine w_ret ?_
      have hr_ := Option.some.inj e
      exact ⟨[.bool true], [], S, ⟨rfl, trivial⟩, VS.none, congrArg Value.bool hr_, rfl, rfl⟩
    · rw [if_neg c13] at e
      have c13b : (decide ((t0.length : Int) > 250)) = false := decide_eq_false c13
      refine t_qz 2 [0, 1, 5, 19] (σ' := [(0, .slice a_t0 t0.length c_t0), (1, .int .i64 o1), (5, .bool true), (19, .int .i64 (t0.length : Int))]) (by kernel_rfl) ?_
      refine t_v (dv_quiet rfl (congrArg (fun t => some (Value.bool t)) c13b)) ?_
      refine t_keep [0, 1, 5, 20] (σ' := [(0, .slice a_t0 t0.length c_t0), (1, .int .i64 o1), (5, .bool true), (20, .bool false)]) (by kernel_rfl) ?_
      refine t_end ?_
      show W _ _ _ _ _ _ _
      refine w_cond rfl (fun c_ => by cases c_) (fun _ => ?_)
      show W _ _ _ _ _ _ _
      refine w_skip ?_
      show W _ _ _ _ _ _ _
      refine w_seq ?_
      refine w_reg fun all => ?_
      refine t_qz 2 [1, 5, 23] (σ' := [(1, .int .i64 o1), (5, .bool true), (23, .agg #[.slice a_t0 t0.length c_t0, .int .i64 0])]) (by kernel_rfl) ?_
      refine t_a (.box rfl rfl rfl) fun b14 fb14 sb14 => ?_
      obtain ⟨⟨t393, t394, t395, t396, t397, t398⟩, h399, e⟩ := bind_of e
      try dsimp only at e
      refine t_call (vs := [.pointer (some ⟨b14, 0, none⟩)]) (H1 := ([⟨b14, [.slice a_t0 t0.length c_t0, .int .i64 0], 2⟩] : List Own)) (F := ([] : List Own)) rfl rfl (by kernel_rfl) (sel_perm (is := [0]) (by kernel_rfl)) (glyphicmake_Icon_v1.ok hE_ h_t0 h399) ?_
      rintro _ _ S_ ⟨N400, nN400, Q401a0, Q401c0, Q401F, rfl, rfl, hS_, Q401h0⟩
      obtain rfl := hS_.symm
      refine t_vs (H' := (([⟨N400, encL E_u84 t397, nN400⟩, ⟨b14, [.slice a_t0 t0.length c_t0, .int .i64 t398], 2⟩] : List Own) ++ (Q401F ++ []))) (S' := S) (VS.treeA (.a (.a (.l ([⟨N400, encL E_u84 t397, nN400⟩, ⟨b14, [.slice a_t0 t0.length c_t0, .int .i64 t398], 2⟩] : List Own)) (.a (.f Q401F) (.l []))) (.l ([] : List Own))) (.a (.l ([⟨N400, encL E_u84 t397, nN400⟩, ⟨b14, [.slice a_t0 t0.length c_t0, .int .i64 t398], 2⟩] : List Own)) (.a (.f Q401F) (.l []))) [0, 0, 0] (by kernel_rfl)) ?_
      refine t_a (.new rfl rfl) fun b402 fb402 sb402 => ?_
      refine t_sti 0 (cs := [.int .i64 t393, .int .i64 t394, .int .i64 t395, .slice (ad N400) t397.length (nN400 / 4), .slice Q401a0 t396.length Q401c0]) rfl rfl rfl rfl rfl rfl rfl rfl rfl ?_
      refine t_keep [1, 5, 6] (σ' := [(1, .int .i64 o1), (5, .bool true), (6, .pointer (some ⟨b402, 0, none⟩))]) (by kernel_rfl) ?_
      refine t_end ?_
      show W _ _ _ _ _ _ _
      refine w_seq ?_
      refine w_reg fun all => ?_
      refine t_qz 6 [1, 5, 6] (σ' := [(1, .int .i64 (wr64 ((Int.tmod (wr64 ((Int.tmod o1 50) + 50)) 50) + 1))), (5, .bool true), (6, .pointer (some ⟨b402, 0, none⟩))]) (by kernel_rfl) ?_
      refine t_end ?_
      show W _ _ _ _ _ _ _
      obtain ⟨s405, e404, e⟩ := bind_of e
      refine w_cut [5, 6] (fun σ_ H_ S_ => ∃ u_ : Unit, s405 = .inr u_ ∧ [(5, .bool true), (6, .pointer (some ⟨b402, 0, none⟩))] = σ_ ∧ (([⟨b402, [.int .i64 t393, .int .i64 t394, .int .i64 t395, .slice (ad N400) t397.length (nN400 / 4), .slice Q401a0 t396.length Q401c0], 5⟩, ⟨b14, [.slice a_t0 t0.length c_t0, .int .i64 t398], 2⟩, ⟨N400, encL E_u84 t397, nN400⟩] : List Own) ++ (Q401F ++ [])) = H_ ∧ S = S_) ?_ ?_
      · show W _ _ _ _ _ _ _
        refine w_seq ?_
        refine w_reg fun all => ?_
        refine t_qz 1 [1, 5, 6, 7] (σ' := [(1, .int .i64 (wr64 ((Int.tmod (wr64 ((Int.tmod o1 50) + 50)) 50) + 1))), (5, .bool true), (6, .pointer (some ⟨b402, 0, none⟩)), (7, .int .i64 0)]) (by kernel_rfl) ?_
        refine t_end ?_
        show W _ _ _ _ _ _ _
        refine w_block ?_
        refine w_kp [1, 5, 6, 7] (σ' := [(1, .int .i64 (wr64 ((Int.tmod (wr64 ((Int.tmod o1 50) + 50)) 50) + 1))), (5, .bool true), (6, .pointer (some ⟨b402, 0, none⟩)), (7, .int .i64 0)]) (by kernel_rfl) ?_
        refine w_loop (fun n_ σ_ H_ S_ => ∃ (x406 : Int), [(1, .int .i64 (wr64 ((Int.tmod (wr64 ((Int.tmod o1 50) + 50)) 50) + 1))), (5, .bool true), (6, .pointer (some ⟨b402, 0, none⟩)), (7, .int .i64 x406)] = σ_ ∧ (([⟨b402, [.int .i64 t393, .int .i64 t394, .int .i64 t395, .slice (ad N400) t397.length (nN400 / 4), .slice Q401a0 t396.length Q401c0], 5⟩, ⟨N400, encL E_u84 t397, nN400⟩, ⟨b14, [.slice a_t0 t0.length c_t0, .int .i64 t398], 2⟩] : List Own) ++ (Q401F ++ [])) = H_ ∧ S = S_ ∧ glyphiclaw20_ScaleCmds.l0 n_ o1 t393 t394 t395 t396 x406 = some s405) _ ⟨0, rfl, rfl, rfl, e404⟩ ?_
        rintro n774 σ_ H_ S_ ⟨x406, rfl, rfl, rfl, e404⟩
        cases n774 with
        | zero => rw [glyphiclaw20_ScaleCmds.l0.eq_1] at e404; cases e404
        | succ k_ =>
          rw [glyphiclaw20_ScaleCmds.l0.eq_2] at e404
          refine w_seq ?_
          refine w_seq ?_
          refine w_reg fun all => ?_
          refine t_qz 2 [1, 5, 6, 7, 31, 32] (σ' := [(1, .int .i64 (wr64 ((Int.tmod (wr64 ((Int.tmod o1 50) + 50)) 50) + 1))), (5, .bool true), (6, .pointer (some ⟨b402, 0, none⟩)), (7, .int .i64 x406), (31, .int .i64 x406), (32, .pointer (some ⟨b402, 4, none⟩))]) (by kernel_rfl) ?_
          refine t_v (.ld1 rfl rfl rfl (.at 0 rfl rfl)) ?_
          by_cases c407 : x406 < (t396.length : Int)
          · rw [if_pos c407] at e404
            have c407b : (decide (x406 < (t396.length : Int))) = true := decide_eq_true c407
            refine t_qz 1 [1, 5, 6, 7, 31, 34] (σ' := [(1, .int .i64 (wr64 ((Int.tmod (wr64 ((Int.tmod o1 50) + 50)) 50) + 1))), (5, .bool true), (6, .pointer (some ⟨b402, 0, none⟩)), (7, .int .i64 x406), (31, .int .i64 x406), (34, .int .i64 (t396.length : Int))]) (by kernel_rfl) ?_
            refine t_v (dv_quiet rfl (congrArg (fun t => some (Value.bool t)) c407b)) ?_
            refine t_keep [1, 5, 6, 7, 35] (σ' := [(1, .int .i64 (wr64 ((Int.tmod (wr64 ((Int.tmod o1 50) + 50)) 50) + 1))), (5, .bool true), (6, .pointer (some ⟨b402, 0, none⟩)), (7, .int .i64 x406), (35, .bool true)]) (by kernel_rfl) ?_
            refine t_end ?_
            show W _ _ _ _ _ _ _
            refine w_cond rfl (fun _ => ?_) (fun c_ => by cases c_)
            show W _ _ _ _ _ _ _
            refine w_skip ?_
            show W _ _ _ _ _ _ _
            obtain ⟨s410, e409, e404⟩ := bind_of e404
            refine w_cut [1, 5, 6, 7] (fun σ_ H_ S_ => ∃ u_ : Unit, s410 = .inr u_ ∧ [(1, .int .i64 (wr64 ((Int.tmod (wr64 ((Int.tmod o1 50) + 50)) 50) + 1))), (5, .bool true), (6, .pointer (some ⟨b402, 0, none⟩)), (7, .int .i64 x406)] = σ_ ∧ (([⟨b402, [.int .i64 t393, .int .i64 t394, .int .i64 t395, .slice (ad N400) t397.length (nN400 / 4), .slice Q401a0 t396.length Q401c0], 5⟩, ⟨b14, [.slice a_t0 t0.length c_t0, .int .i64 t398], 2⟩, ⟨N400, encL E_u84 t397, nN400⟩] : List Own) ++ (Q401F ++ [])) = H_ ∧ S = S_) ?_ ?_
            · show W _ _ _ _ _ _ _
              refine w_block ?_
              refine w_seq ?_
              refine w_reg fun all => ?_
              refine t_qz 1 [1, 5, 6, 7, 38] (σ' := [(1, .int .i64 (wr64 ((Int.tmod (wr64 ((Int.tmod o1 50) + 50)) 50) + 1))), (5, .bool true), (6, .pointer (some ⟨b402, 0, none⟩)), (7, .int .i64 x406), (38, .pointer (some ⟨b402, 4, none⟩))]) (by kernel_rfl) ?_
              refine t_v (.ld1 rfl rfl rfl (.at 0 rfl rfl)) ?_
              obtain ⟨⟨x411, x412, x413, x414, x415, x416, x417, x418, x419, x420, x421⟩, hx422, e409⟩ := bind_of e409
              try dsimp only at e409
              obtain ⟨lb423, lo424, ll425, vs_, la426, lR427, lv428, hrep_, lz429, lu430⟩ := sln_get (E := N_1) Q401h0 hx422
              obtain ⟨na431, nc432, rfl, nh433⟩ := hrep_
              refine t_qz 1 [1, 5, 6, 7, 39, 40] (σ' := [(1, .int .i64 (wr64 ((Int.tmod (wr64 ((Int.tmod o1 50) + 50)) 50) + 1))), (5, .bool true), (6, .pointer (some ⟨b402, 0, none⟩)), (7, .int .i64 x406), (39, .slice Q401a0 t396.length Q401c0), (40, .int .i64 x406)]) (by kernel_rfl) ?_
              refine t_v (.quiet rfl (ixs_sle rfl rfl la426 lz429 lu430)) ?_
              refine t_v (.ldn (vs := [.int .i64 x411, .int .i64 x412, .int .i64 x413, .int .i64 x414, .int .i64 x415, .int .i64 x416, .int .i64 x417, .int .i64 x418, .int .i64 x419, .int .i64 x420, .slice na431 x421.length nc432]) rfl rfl rfl (rd_n lR427 (sub_app (seg_in 3 (X := (Q401F ++ [])) rfl seg_hd) sub_nil) (subl_sub lv428 (by kernel_rfl)))) ?_
              refine t_a (.new rfl rfl) fun b434 fb434 sb434 => ?_
              refine t_sti 0 (cs := [.int .i64 x411, .int .i64 x412, .int .i64 x413, .int .i64 x414, .int .i64 x415, .int .i64 x416, .int .i64 x417, .int .i64 x418, .int .i64 x419, .int .i64 x420, .slice na431 x421.length nc432]) rfl rfl rfl rfl rfl rfl rfl rfl rfl ?_
              refine t_keep [1, 5, 6, 7, 8] (σ' := [(1, .int .i64 (wr64 ((Int.tmod (wr64 ((Int.tmod o1 50) + 50)) 50) + 1))), (5, .bool true), (6, .pointer (some ⟨b402, 0, none⟩)), (7, .int .i64 x406), (8, .pointer (some ⟨b434, 0, none⟩))]) (by kernel_rfl) ?_
              refine t_end ?_
              show W _ _ _ _ _ _ _
              refine w_seq ?_
              refine w_reg fun all => ?_
              refine t_v (.ldn rfl rfl rfl (.at 1 rfl rfl)) ?_
              refine t_qz 1 [1, 5, 6, 7, 8, 43, 44] (σ' := [(1, .int .i64 (wr64 ((Int.tmod (wr64 ((Int.tmod o1 50) + 50)) 50) + 1))), (5, .bool true), (6, .pointer (some ⟨b402, 0, none⟩)), (7, .int .i64 x406), (8, .pointer (some ⟨b434, 0, none⟩)), (43, .agg #[.int .i64 t393, .int .i64 t394, .int .i64 t395, .slice (ad N400) t397.length (nN400 / 4), .slice Q401a0 t396.length Q401c0]), (44, .int .i64 (wr64 ((Int.tmod (wr64 ((Int.tmod o1 50) + 50)) 50) + 1)))]) (by kernel_rfl) ?_
              refine t_v (.ldn rfl rfl rfl (.at 0 rfl rfl)) ?_
              obtain ⟨⟨t553, t554, t555, t556, t557, t558, t559, t560, t561, t562, t563⟩, h564, e409⟩ := bind_of e409
              try dsimp only at e409
              refine t_call (vs := [.agg #[.int .i64 t393, .int .i64 t394, .int .i64 t395, .slice (ad N400) t397.length (nN400 / 4), .slice Q401a0 t396.length Q401c0], .int .i64 (wr64 ((Int.tmod (wr64 ((Int.tmod o1 50) + 50)) 50) + 1)), .agg #[.int .i64 x411, .int .i64 x412, .int .i64 x413, .int .i64 x414, .int .i64 x415, .int .i64 x416, .int .i64 x417, .int .i64 x418, .int .i64 x419, .int .i64 x420, .slice na431 x421.length nc432]]) (H1 := ((Q401F ++ []) ++ [])) (F := ([⟨b434, [.int .i64 x411, .int .i64 x412, .int .i64 x413, .int .i64 x414, .int .i64 x415, .int .i64 x416, .int .i64 x417, .int .i64 x418, .int .i64 x419, .int .i64 x420, .slice na431 x421.length nc432], 11⟩, ⟨b402, [.int .i64 t393, .int .i64 t394, .int .i64 t395, .slice (ad N400) t397.length (nN400 / 4), .slice Q401a0 t396.length Q401c0], 5⟩, ⟨N400, encL E_u84 t397, nN400⟩, ⟨b14, [.slice a_t0 t0.length c_t0, .int .i64 t398], 2⟩] : List Own)) rfl rfl (by kernel_rfl) (tree_perm (.a (.l ([⟨b434, [.int .i64 x411, .int .i64 x412, .int .i64 x413, .int .i64 x414, .int .i64 x415, .int .i64 x416, .int .i64 x417, .int .i64 x418, .int .i64 x419, .int .i64 x420, .slice na431 x421.length nc432], 11⟩, ⟨b402, [.int .i64 t393, .int .i64 t394, .int .i64 t395, .slice (ad N400) t397.length (nN400 / 4), .slice Q401a0 t396.length Q401c0], 5⟩, ⟨N400, encL E_u84 t397, nN400⟩, ⟨b14, [.slice a_t0 t0.length c_t0, .int .i64 t398], 2⟩] : List Own)) (.a (.f Q401F) (.l []))) (.a (.a (.f Q401F) (.l [])) (.l ([] : List Own))) (.l ([⟨b434, [.int .i64 x411, .int .i64 x412, .int .i64 x413, .int .i64 x414, .int .i64 x415, .int .i64 x416, .int .i64 x417, .int .i64 x418, .int .i64 x419, .int .i64 x420, .slice na431 x421.length nc432], 11⟩, ⟨b402, [.int .i64 t393, .int .i64 t394, .int .i64 t395, .slice (ad N400) t397.length (nN400 / 4), .slice Q401a0 t396.length Q401c0], 5⟩, ⟨N400, encL E_u84 t397, nN400⟩, ⟨b14, [.slice a_t0 t0.length c_t0, .int .i64 t398], 2⟩] : List Own)) [4] (by kernel_rfl)) (cal_lendF (Qc := fun v_ H_ => ∃ (Q565a0 : Option Addr) (Q565c0 : Nat) (Q565F : List Own), v_ = (.agg #[.int .i64 t553, .int .i64 t554, .int .i64 t555, .int .i64 t556, .int .i64 t557, .int .i64 t558, .int .i64 t559, .int .i64 t560, .int .i64 t561, .int .i64 t562, .slice Q565a0 t563.length Q565c0]) ∧ H_ = (Q565F ++ []) ∧ SlN (rdOf (Q401F ++ (Q565F ++ [])) S) N_0 t563 Q565a0) (Q401F ++ []) fun S1_ le1_ hp1_ hs1_ hn1_ ex1_ => (scale_Cmd_v1.ok (EO.mono hE_ le1_ hp1_) (SlN.mono nh433 (rd_lend hs1_ le1_ (sub_app (seg_in 0 (X := (Q401F ++ [])) rfl seg_hd) sub_nil))) h564).mono fun _ _ _ ⟨Q565a0, Q565c0, Q565F, h1_, h2_, h3_, Q565h0⟩ => ⟨⟨Q565a0, Q565c0, Q565F, h1_, h2_, SlN.mono Q565h0 (rd_back ex1_ (sub_app (seg_in 0 (X := (Q401F ++ (Q565F ++ []))) rfl (seg_tl seg_hd)) sub_nil) (sub_app (seg_in 0 (X := (Q401F ++ (Q565F ++ []))) rfl seg_hd) sub_nil))⟩, h3_⟩) ?_
              rintro _ _ S_ ⟨⟨_, rfl, Q565a0, Q565c0, Q565F, rfl, rfl, Q565h0⟩, hS_⟩
              obtain rfl := hS_.symm
              refine t_vs (H' := (([⟨b434, [.int .i64 x411, .int .i64 x412, .int .i64 x413, .int .i64 x414, .int .i64 x415, .int .i64 x416, .int .i64 x417, .int .i64 x418, .int .i64 x419, .int .i64 x420, .slice na431 x421.length nc432], 11⟩, ⟨b402, [.int .i64 t393, .int .i64 t394, .int .i64 t395, .slice (ad N400) t397.length (nN400 / 4), .slice Q401a0 t396.length Q401c0], 5⟩, ⟨N400, encL E_u84 t397, nN400⟩, ⟨b14, [.slice a_t0 t0.length c_t0, .int .i64 t398], 2⟩] : List Own) ++ (Q401F ++ (Q565F ++ [])))) (S' := S) (VS.treeA (.a (.a (.a (.f Q401F) (.l [])) (.a (.f Q565F) (.l []))) (.l ([⟨b434, [.int .i64 x411, .int .i64 x412, .int .i64 x413, .int .i64 x414, .int .i64 x415, .int .i64 x416, .int .i64 x417, .int .i64 x418, .int .i64 x419, .int .i64 x420, .slice na431 x421.length nc432], 11⟩, ⟨b402, [.int .i64 t393, .int .i64 t394, .int .i64 t395, .slice (ad N400) t397.length (nN400 / 4), .slice Q401a0 t396.length Q401c0], 5⟩, ⟨N400, encL E_u84 t397, nN400⟩, ⟨b14, [.slice a_t0 t0.length c_t0, .int .i64 t398], 2⟩] : List Own))) (.a (.l ([⟨b434, [.int .i64 x411, .int .i64 x412, .int .i64 x413, .int .i64 x414, .int .i64 x415, .int .i64 x416, .int .i64 x417, .int .i64 x418, .int .i64 x419, .int .i64 x420, .slice na431 x421.length nc432], 11⟩, ⟨b402, [.int .i64 t393, .int .i64 t394, .int .i64 t395, .slice (ad N400) t397.length (nN400 / 4), .slice Q401a0 t396.length Q401c0], 5⟩, ⟨N400, encL E_u84 t397, nN400⟩, ⟨b14, [.slice a_t0 t0.length c_t0, .int .i64 t398], 2⟩] : List Own)) (.a (.f Q401F) (.a (.f Q565F) (.l [])))) [2, 2, 2, 2, 0, 0] (by kernel_rfl)) ?_
              refine t_a (.new rfl rfl) fun b566 fb566 sb566 => ?_
              refine t_sti 0 (cs := [.int .i64 t553, .int .i64 t554, .int .i64 t555, .int .i64 t556, .int .i64 t557, .int .i64 t558, .int .i64 t559, .int .i64 t560, .int .i64 t561, .int .i64 t562, .slice Q565a0 t563.length Q565c0]) rfl rfl rfl rfl rfl rfl rfl rfl rfl ?_
              refine t_keep [1, 5, 6, 7, 8, 9] (σ' := [(1, .int .i64 (wr64 ((Int.tmod (wr64 ((Int.tmod o1 50) + 50)) 50) + 1))), (5, .bool true), (6, .pointer (some ⟨b402, 0, none⟩)), (7, .int .i64 x406), (8, .pointer (some ⟨b434, 0, none⟩)), (9, .pointer (some ⟨b566, 0, none⟩))]) (by kernel_rfl) ?_
              refine t_end ?_
              show W _ _ _ _ _ _ _
              obtain ⟨s569, e568, e409⟩ := bind_of e409
              refine w_cut [1, 5, 6, 7, 8, 9] (fun σ_ H_ S_ => ∃ u_ : Unit, s569 = .inr u_ ∧ [(1, .int .i64 (wr64 ((Int.tmod (wr64 ((Int.tmod o1 50) + 50)) 50) + 1))), (5, .bool true), (6, .pointer (some ⟨b402, 0, none⟩)), (7, .int .i64 x406), (8, .pointer (some ⟨b434, 0, none⟩)), (9, .pointer (some ⟨b566, 0, none⟩))] = σ_ ∧ (([⟨b566, [.int .i64 t553, .int .i64 t554, .int .i64 t555, .int .i64 t556, .int .i64 t557, .int .i64 t558, .int .i64 t559, .int .i64 t560, .int .i64 t561, .int .i64 t562, .slice Q565a0 t563.length Q565c0], 11⟩, ⟨b434, [.int .i64 x411, .int .i64 x412, .int .i64 x413, .int .i64 x414, .int .i64 x415, .int .i64 x416, .int .i64 x417, .int .i64 x418, .int .i64 x419, .int .i64 x420, .slice na431 x421.length nc432], 11⟩, ⟨b402, [.int .i64 t393, .int .i64 t394, .int .i64 t395, .slice (ad N400) t397.length (nN400 / 4), .slice Q401a0 t396.length Q401c0], 5⟩, ⟨b14, [.slice a_t0 t0.length c_t0, .int .i64 t398], 2⟩, ⟨N400, encL E_u84 t397, nN400⟩] : List Own) ++ (Q401F ++ (Q565F ++ []))) = H_ ∧ S = S_) ?_ ?_
              · show W _ _ _ _ _ _ _
                refine w_seq ?_
                refine w_reg fun all => ?_
                refine t_qz 1 [1, 5, 6, 7, 8, 9, 47] (σ' := [(1, .int .i64 (wr64 ((Int.tmod (wr64 ((Int.tmod o1 50) + 50)) 50) + 1))), (5, .bool true), (6, .pointer (some ⟨b402, 0, none⟩)), (7, .int .i64 x406), (8, .pointer (some ⟨b434, 0, none⟩)), (9, .pointer (some ⟨b566, 0, none⟩)), (47, .pointer (some ⟨b566, 0, none⟩))]) (by kernel_rfl) ?_
                refine t_v (.ld1 rfl rfl rfl (.at 0 rfl rfl)) ?_
                refine t_qz 1 [1, 5, 6, 7, 8, 9, 48, 49] (σ' := [(1, .int .i64 (wr64 ((Int.tmod (wr64 ((Int.tmod o1 50) + 50)) 50) + 1))), (5, .bool true), (6, .pointer (some ⟨b402, 0, none⟩)), (7, .int .i64 x406), (8, .pointer (some ⟨b434, 0, none⟩)), (9, .pointer (some ⟨b566, 0, none⟩)), (48, .int .i64 t553), (49, .pointer (some ⟨b434, 0, none⟩))]) (by kernel_rfl) ?_
                refine t_v (.ld1 rfl rfl rfl (.at 1 rfl rfl)) ?_
                by_cases c570 : t553 = x411
                · rw [if_pos c570] at e568
                  have c570b : (t553 == x411) = true := beq_iff_eq.mpr c570
                  refine t_v (dv_quiet rfl (congrArg (fun t => some (Value.bool (!t))) c570b)) ?_
                  refine t_qz 2 [1, 5, 6, 7, 8, 9, 52, 53] (σ' := [(1, .int .i64 (wr64 ((Int.tmod (wr64 ((Int.tmod o1 50) + 50)) 50) + 1))), (5, .bool true), (6, .pointer (some ⟨b402, 0, none⟩)), (7, .int .i64 x406), (8, .pointer (some ⟨b434, 0, none⟩)), (9, .pointer (some ⟨b566, 0, none⟩)), (52, .bool false), (53, .pointer (some ⟨b566, 1, none⟩))]) (by kernel_rfl) ?_
                  refine t_v (.ld1 rfl rfl rfl (.at 0 rfl rfl)) ?_
                  refine t_qz 1 [1, 5, 6, 7, 8, 9, 52, 54, 55] (σ' := [(1, .int .i64 (wr64 ((Int.tmod (wr64 ((Int.tmod o1 50) + 50)) 50) + 1))), (5, .bool true), (6, .pointer (some ⟨b402, 0, none⟩)), (7, .int .i64 x406), (8, .pointer (some ⟨b434, 0, none⟩)), (9, .pointer (some ⟨b566, 0, none⟩)), (52, .bool false), (54, .int .i64 t554), (55, .pointer (some ⟨b434, 1, none⟩))]) (by kernel_rfl) ?_
                  refine t_v (.ld1 rfl rfl rfl (.at 1 rfl rfl)) ?_
                  by_cases c571 : t554 = x412
                  · rw [if_pos c571] at e568
                    have c571b : (t554 == x412) = true := beq_iff_eq.mpr c571
                    refine t_v (dv_quiet rfl (congrArg (fun t => some (Value.bool (!t))) c571b)) ?_
                    refine t_qz 4 [1, 5, 6, 7, 8, 9, 59, 61] (σ' := [(1, .int .i64 (wr64 ((Int.tmod (wr64 ((Int.tmod o1 50) + 50)) 50) + 1))), (5, .bool true), (6, .pointer (some ⟨b402, 0, none⟩)), (7, .int .i64 x406), (8, .pointer (some ⟨b434, 0, none⟩)), (9, .pointer (some ⟨b566, 0, none⟩)), (59, .bool false), (61, .pointer (some ⟨b566, 3, none⟩))]) (by kernel_rfl) ?_
                    refine t_v (.ld1 rfl rfl rfl (.at 0 rfl rfl)) ?_
                    refine t_qz 2 [1, 5, 6, 7, 8, 9, 59, 62, 64] (σ' := [(1, .int .i64 (wr64 ((Int.tmod (wr64 ((Int.tmod o1 50) + 50)) 50) + 1))), (5, .bool true), (6, .pointer (some ⟨b402, 0, none⟩)), (7, .int .i64 x406), (8, .pointer (some ⟨b434, 0, none⟩)), (9, .pointer (some ⟨b566, 0, none⟩)), (59, .bool false), (62, .int .i64 t556), (64, .pointer (some ⟨b434, 3, none⟩))]) (by kernel_rfl) ?_
                    refine t_v (.ld1 rfl rfl rfl (.at 1 rfl rfl)) ?_
                    by_cases c572 : t556 = x414
                    · rw [if_pos c572] at e568
                      have c572b : (t556 == x414) = true := beq_iff_eq.mpr c572
                      refine t_v (dv_quiet rfl (congrArg (fun t => some (Value.bool (!t))) c572b)) ?_
                      refine t_qz 4 [1, 5, 6, 7, 8, 9, 68, 70] (σ' := [(1, .int .i64 (wr64 ((Int.tmod (wr64 ((Int.tmod o1 50) + 50)) 50) + 1))), (5, .bool true), (6, .pointer (some ⟨b402, 0, none⟩)), (7, .int .i64 x406), (8, .pointer (some ⟨b434, 0, none⟩)), (9, .pointer (some ⟨b566, 0, none⟩)), (68, .bool false), (70, .pointer (some ⟨b566, 4, none⟩))]) (by kernel_rfl) ?_
                      refine t_v (.ld1 rfl rfl rfl (.at 0 rfl rfl)) ?_
                      refine t_qz 2 [1, 5, 6, 7, 8, 9, 68, 71, 73] (σ' := [(1, .int .i64 (wr64 ((Int.tmod (wr64 ((Int.tmod o1 50) + 50)) 50) + 1))), (5, .bool true), (6, .pointer (some ⟨b402, 0, none⟩)), (7, .int .i64 x406), (8, .pointer (some ⟨b434, 0, none⟩)), (9, .pointer (some ⟨b566, 0, none⟩)), (68, .bool false), (71, .int .i64 t557), (73, .pointer (some ⟨b434, 4, none⟩))]) (by kernel_rfl) ?_
                      refine t_v (.ld1 rfl rfl rfl (.at 1 rfl rfl)) ?_
                      by_cases c573 : t557 = x415
                      · rw [if_pos c573] at e568
                        have c573b : (t557 == x415) = true := beq_iff_eq.mpr c573
                        refine t_v (dv_quiet rfl (congrArg (fun t => some (Value.bool (!t))) c573b)) ?_
                        refine t_qz 4 [1, 5, 6, 7, 8, 9, 77, 79] (σ' := [(1, .int .i64 (wr64 ((Int.tmod (wr64 ((Int.tmod o1 50) + 50)) 50) + 1))), (5, .bool true), (6, .pointer (some ⟨b402, 0, none⟩)), (7, .int .i64 x406), (8, .pointer (some ⟨b434, 0, none⟩)), (9, .pointer (some ⟨b566, 0, none⟩)), (77, .bool false), (79, .pointer (some ⟨b566, 5, none⟩))]) (by kernel_rfl) ?_
                        refine t_v (.ld1 rfl rfl rfl (.at 0 rfl rfl)) ?_
                        refine t_qz 2 [1, 5, 6, 7, 8, 9, 77, 80, 82] (σ' := [(1, .int .i64 (wr64 ((Int.tmod (wr64 ((Int.tmod o1 50) + 50)) 50) + 1))), (5, .bool true), (6, .pointer (some ⟨b402, 0, none⟩)), (7, .int .i64 x406), (8, .pointer (some ⟨b434, 0, none⟩)), (9, .pointer (some ⟨b566, 0, none⟩)), (77, .bool false), (80, .int .i64 t558), (82, .pointer (some ⟨b434, 5, none⟩))]) (by kernel_rfl) ?_
                        refine t_v (.ld1 rfl rfl rfl (.at 1 rfl rfl)) ?_
                        by_cases c574 : t558 = x416
                        · rw [if_pos c574] at e568
                          have c574b : (t558 == x416) = true := beq_iff_eq.mpr c574
                          refine t_v (dv_quiet rfl (congrArg (fun t => some (Value.bool (!t))) c574b)) ?_
                          refine t_qz 3 [1, 5, 6, 7, 8, 9, 86, 87] (σ' := [(1, .int .i64 (wr64 ((Int.tmod (wr64 ((Int.tmod o1 50) + 50)) 50) + 1))), (5, .bool true), (6, .pointer (some ⟨b402, 0, none⟩)), (7, .int .i64 x406), (8, .pointer (some ⟨b434, 0, none⟩)), (9, .pointer (some ⟨b566, 0, none⟩)), (86, .bool false), (87, .pointer (some ⟨b566, 10, none⟩))]) (by kernel_rfl) ?_
                          refine t_v (.ld1 rfl rfl rfl (.at 0 rfl rfl)) ?_
                          refine t_qz 2 [1, 5, 6, 7, 8, 9, 86, 89, 90] (σ' := [(1, .int .i64 (wr64 ((Int.tmod (wr64 ((Int.tmod o1 50) + 50)) 50) + 1))), (5, .bool true), (6, .pointer (some ⟨b402, 0, none⟩)), (7, .int .i64 x406), (8, .pointer (some ⟨b434, 0, none⟩)), (9, .pointer (some ⟨b566, 0, none⟩)), (86, .bool false), (89, .int .i64 (t563.length : Int)), (90, .pointer (some ⟨b434, 10, none⟩))]) (by kernel_rfl) ?_
                          refine t_v (.ld1 rfl rfl rfl (.at 1 rfl rfl)) ?_
                          by_cases c575 : (t563.length : Int) = (x421.length : Int)
                          · rw [if_pos c575] at e568
                            have c575b : ((t563.length : Int) == (x421.length : Int)) = true := beq_iff_eq.mpr c575
                            refine t_qz 1 [1, 5, 6, 7, 8, 9, 86, 89, 92] (σ' := [(1, .int .i64 (wr64 ((Int.tmod (wr64 ((Int.tmod o1 50) + 50)) 50) + 1))), (5, .bool true), (6, .pointer (some ⟨b402, 0, none⟩)), (7, .int .i64 x406), (8, .pointer (some ⟨b434, 0, none⟩)), (9, .pointer (some ⟨b566, 0, none⟩)), (86, .bool false), (89, .int .i64 (t563.length : Int)), (92, .int .i64 (x421.length : Int))]) (by kernel_rfl) ?_
                            refine t_v (dv_quiet rfl (congrArg (fun t => some (Value.bool (!t))) c575b)) ?_
                            refine t_qz 3 [1, 5, 6, 7, 8, 9, 95, 96] (σ' := [(1, .int .i64 (wr64 ((Int.tmod (wr64 ((Int.tmod o1 50) + 50)) 50) + 1))), (5, .bool true), (6, .pointer (some ⟨b402, 0, none⟩)), (7, .int .i64 x406), (8, .pointer (some ⟨b434, 0, none⟩)), (9, .pointer (some ⟨b566, 0, none⟩)), (95, .bool false), (96, .pointer (some ⟨b434, 0, none⟩))]) (by kernel_rfl) ?_
                            refine t_v (.ld1 rfl rfl rfl (.at 1 rfl rfl)) ?_
                            by_cases c576 : x411 = 2
                            · rw [if_pos c576] at e568
                              have c576b : (x411 == 2) = true := beq_iff_eq.mpr c576
                              refine t_v (dv_quiet rfl (congrArg (fun t => some (Value.bool t)) c576b)) ?_
                              refine t_qz 2 [1, 5, 6, 7, 8, 9, 95, 99, 100] (σ' := [(1, .int .i64 (wr64 ((Int.tmod (wr64 ((Int.tmod o1 50) + 50)) 50) + 1))), (5, .bool true), (6, .pointer (some ⟨b402, 0, none⟩)), (7, .int .i64 x406), (8, .pointer (some ⟨b434, 0, none⟩)), (9, .pointer (some ⟨b566, 0, none⟩)), (95, .bool false), (99, .bool true), (100, .pointer (some ⟨b566, 2, none⟩))]) (by kernel_rfl) ?_
                              refine t_v (.ld1 rfl rfl rfl (.at 0 rfl rfl)) ?_
                              by_cases c577 : t555 < 1
                              · rw [if_pos c577] at e568
                                have c577b : (decide (t555 < 1)) = true := decide_eq_true c577
                                refine t_v (dv_quiet rfl (congrArg (fun t => some (Value.bool t)) c577b)) ?_
                                refine t_qz 25 [1, 5, 6, 7, 8, 9, 127] (σ' := [(1, .int .i64 (wr64 ((Int.tmod (wr64 ((Int.tmod o1 50) + 50)) 50) + 1))), (5, .bool true), (6, .pointer (some ⟨b402, 0, none⟩)), (7, .int .i64 x406), (8, .pointer (some ⟨b434, 0, none⟩)), (9, .pointer (some ⟨b566, 0, none⟩)), (127, .bool true)]) (by kernel_rfl) ?_
                                refine t_end ?_
                                show W _ _ _ _ _ _ _
                                refine w_cond rfl (fun _ => ?_) (fun c_ => by cases c_)
                                show W _ _ _ _ _ _ _
                                refine w_seq ?_
                                refine w_reg fun all => ?_
                                refine t_qz 1 [4] (σ' := [(4, .bool false)]) (by kernel_rfl) ?_
                                refine t_end ?_
                                show W _ _ _ _ _ _ _
                                refine w_ret ?_
                                obtain rfl := Option.some.inj e568
                                obtain rfl := Option.some.inj e409
                                obtain rfl := Option.some.inj e404
                                have hr_ := Option.some.inj e
                                exact ⟨[.bool false], [], S, ⟨rfl, trivial⟩, VS.none, congrArg Value.bool hr_, rfl, rfl⟩
                              · rw [if_neg c577] at e568
                                have c577b : (decide (t555 < 1)) = false := decide_eq_false c577
                                refine t_v (dv_quiet rfl (congrArg (fun t => some (Value.bool t)) c577b)) ?_
                                refine t_qz 4 [1, 5, 6, 7, 8, 9, 105, 106] (σ' := [(1, .int .i64 (wr64 ((Int.tmod (wr64 ((Int.tmod o1 50) + 50)) 50) + 1))), (5, .bool true), (6, .pointer (some ⟨b402, 0, none⟩)), (7, .int .i64 x406), (8, .pointer (some ⟨b434, 0, none⟩)), (9, .pointer (some ⟨b566, 0, none⟩)), (105, .bool false), (106, .pointer (some ⟨b434, 0, none⟩))]) (by kernel_rfl) ?_
                                refine t_v (.ld1 rfl rfl rfl (.at 1 rfl rfl)) ?_
                                by_cases c578 : x411 = 1
                                · rw [if_pos c578] at e568
                                  have c578b : (x411 == 1) = true := beq_iff_eq.mpr c578
                                  refine t_v (dv_quiet rfl (congrArg (fun t => some (Value.bool t)) c578b)) ?_
                                  refine t_qz 2 [1, 5, 6, 7, 8, 9, 105, 109, 110] (σ' := [(1, .int .i64 (wr64 ((Int.tmod (wr64 ((Int.tmod o1 50) + 50)) 50) + 1))), (5, .bool true), (6, .pointer (some ⟨b402, 0, none⟩)), (7, .int .i64 x406), (8, .pointer (some ⟨b434, 0, none⟩)), (9, .pointer (some ⟨b566, 0, none⟩)), (105, .bool false), (109, .bool true), (110, .pointer (some ⟨b566, 2, none⟩))]) (by kernel_rfl) ?_
                                  refine t_v (.ld1 rfl rfl rfl (.at 0 rfl rfl)) ?_
                                  by_cases c579 : t555 = 0
                                  · rw [if_pos c579] at e568
                                    have c579b : (t555 == 0) = true := beq_iff_eq.mpr c579
                                    refine t_v (dv_quiet rfl (congrArg (fun t => some (Value.bool (!t))) c579b)) ?_
                                    refine t_qz 5 [1, 5, 6, 7, 8, 9, 115, 117] (σ' := [(1, .int .i64 (wr64 ((Int.tmod (wr64 ((Int.tmod o1 50) + 50)) 50) + 1))), (5, .bool true), (6, .pointer (some ⟨b402, 0, none⟩)), (7, .int .i64 x406), (8, .pointer (some ⟨b434, 0, none⟩)), (9, .pointer (some ⟨b566, 0, none⟩)), (115, .bool false), (117, .pointer (some ⟨b434, 3, none⟩))]) (by kernel_rfl) ?_
                                    refine t_v (.ld1 rfl rfl rfl (.at 1 rfl rfl)) ?_
                                    by_cases c580 : x414 = 2
                                    · rw [if_pos c580] at e568
                                      have c580b : (x414 == 2) = true := beq_iff_eq.mpr c580
                                      refine t_v (dv_quiet rfl (congrArg (fun t => some (Value.bool t)) c580b)) ?_
                                      refine t_qz 4 [1, 5, 6, 7, 8, 9, 115, 120, 123] (σ' := [(1, .int .i64 (wr64 ((Int.tmod (wr64 ((Int.tmod o1 50) + 50)) 50) + 1))), (5, .bool true), (6, .pointer (some ⟨b402, 0, none⟩)), (7, .int .i64 x406), (8, .pointer (some ⟨b434, 0, none⟩)), (9, .pointer (some ⟨b566, 0, none⟩)), (115, .bool false), (120, .bool true), (123, .pointer (some ⟨b566, 8, none⟩))]) (by kernel_rfl) ?_
                                      refine t_v (.ld1 rfl rfl rfl (.at 0 rfl rfl)) ?_
                                      by_cases c581 : t561 < 1
                                      · rw [if_pos c581] at e568
                                        have c581b : (decide (t561 < 1)) = true := decide_eq_true c581
                                        refine t_v (dv_quiet rfl (congrArg (fun t => some (Value.bool t)) c581b)) ?_
                                        refine t_qz 2 [1, 5, 6, 7, 8, 9, 127] (σ' := [(1, .int .i64 (wr64 ((Int.tmod (wr64 ((Int.tmod o1 50) + 50)) 50) + 1))), (5, .bool true), (6, .pointer (some ⟨b402, 0, none⟩)), (7, .int .i64 x406), (8, .pointer (some ⟨b434, 0, none⟩)), (9, .pointer (some ⟨b566, 0, none⟩)), (127, .bool true)]) (by kernel_rfl) ?_
                                        refine t_end ?_
                                        show W _ _ _ _ _ _ _
                                        refine w_cond rfl (fun _ => ?_) (fun c_ => by cases c_)
                                        show W _ _ _ _ _ _ _
                                        refine w_seq ?_
                                        refine w_reg fun all => ?_
                                        refine t_qz 1 [4] (σ' := [(4, .bool false)]) (by kernel_rfl) ?_
                                        refine t_end ?_
                                        show W _ _ _ _ _ _ _
                                        refine w_ret ?_
                                        obtain rfl := Option.some.inj e568
                                        obtain rfl := Option.some.inj e409
                                        obtain rfl := Option.some.inj e404
                                        have hr_ := Option.some.inj e
                                        exact ⟨[.bool false], [], S, ⟨rfl, trivial⟩, VS.none, congrArg Value.bool hr_, rfl, rfl⟩
                                      · rw [if_neg c581] at e568
                                        have c581b : (decide (t561 < 1)) = false := decide_eq_false c581
                                        refine t_v (dv_quiet rfl (congrArg (fun t => some (Value.bool t)) c581b)) ?_
                                        refine t_qz 2 [1, 5, 6, 7, 8, 9, 127] (σ' := [(1, .int .i64 (wr64 ((Int.tmod (wr64 ((Int.tmod o1 50) + 50)) 50) + 1))), (5, .bool true), (6, .pointer (some ⟨b402, 0, none⟩)), (7, .int .i64 x406), (8, .pointer (some ⟨b434, 0, none⟩)), (9, .pointer (some ⟨b566, 0, none⟩)), (127, .bool false)]) (by kernel_rfl) ?_
                                        refine t_end ?_
                                        show W _ _ _ _ _ _ _
                                        refine w_cond rfl (fun c_ => by cases c_) (fun _ => ?_)
                                        show W _ _ _ _ _ _ _
                                        refine w_skip ?_
                                        obtain rfl := Option.some.inj e568
                                        exact ⟨(([⟨b566, [.int .i64 t553, .int .i64 t554, .int .i64 t555, .int .i64 t556, .int .i64 t557, .int .i64 t558, .int .i64 t559, .int .i64 t560, .int .i64 t561, .int .i64 t562, .slice Q565a0 t563.length Q565c0], 11⟩, ⟨b434, [.int .i64 x411, .int .i64 x412, .int .i64 x413, .int .i64 x414, .int .i64 x415, .int .i64 x416, .int .i64 x417, .int .i64 x418, .int .i64 x419, .int .i64 x420, .slice na431 x421.length nc432], 11⟩, ⟨b402, [.int .i64 t393, .int .i64 t394, .int .i64 t395, .slice (ad N400) t397.length (nN400 / 4), .slice Q401a0 t396.length Q401c0], 5⟩, ⟨b14, [.slice a_t0 t0.length c_t0, .int .i64 t398], 2⟩, ⟨N400, encL E_u84 t397, nN400⟩] : List Own) ++ (Q401F ++ (Q565F ++ []))), S, VS.selT 5 [0, 0, 0, 1, 0] (by kernel_rfl), (), rfl, by kernel_rfl, rfl, rfl⟩
                                    · rw [if_neg c580] at e568
                                      have c580b : (x414 == 2) = false := beq_eq_false_iff_ne.mpr c580
                                      refine t_v (dv_quiet rfl (congrArg (fun t => some (Value.bool t)) c580b)) ?_
                                      refine t_qz 8 [1, 5, 6, 7, 8, 9, 127] (σ' := [(1, .int .i64 (wr64 ((Int.tmod (wr64 ((Int.tmod o1 50) + 50)) 50) + 1))), (5, .bool true), (6, .pointer (some ⟨b402, 0, none⟩)), (7, .int .i64 x406), (8, .pointer (some ⟨b434, 0, none⟩)), (9, .pointer (some ⟨b566, 0, none⟩)), (127, .bool false)]) (by kernel_rfl) ?_
                                      refine t_end ?_
                                      show W _ _ _ _ _ _ _
                                      refine w_cond rfl (fun c_ => by cases c_) (fun _ => ?_)
                                      show W _ _ _ _ _ _ _
                                      refine w_skip ?_
                                      obtain rfl := Option.some.inj e568
                                      exact ⟨(([⟨b566, [.int .i64 t553, .int .i64 t554, .int .i64 t555, .int .i64 t556, .int .i64 t557, .int .i64 t558, .int .i64 t559, .int .i64 t560, .int .i64 t561, .int .i64 t562, .slice Q565a0 t563.length Q565c0], 11⟩, ⟨b434, [.int .i64 x411, .int .i64 x412, .int .i64 x413, .int .i64 x414, .int .i64 x415, .int .i64 x416, .int .i64 x417, .int .i64 x418, .int .i64 x419, .int .i64 x420, .slice na431 x421.length nc432], 11⟩, ⟨b402, [.int .i64 t393, .int .i64 t394, .int .i64 t395, .slice (ad N400) t397.length (nN400 / 4), .slice Q401a0 t396.length Q401c0], 5⟩, ⟨b14, [.slice a_t0 t0.length c_t0, .int .i64 t398], 2⟩, ⟨N400, encL E_u84 t397, nN400⟩] : List Own) ++ (Q401F ++ (Q565F ++ []))), S, VS.selT 5 [0, 0, 0, 1, 0] (by kernel_rfl), (), rfl, by kernel_rfl, rfl, rfl⟩
                                  · rw [if_neg c579] at e568
                                    have c579b : (t555 == 0) = false := beq_eq_false_iff_ne.mpr c579
                                    refine t_v (dv_quiet rfl (congrArg (fun t => some (Value.bool (!t))) c579b)) ?_
                                    refine t_qz 15 [1, 5, 6, 7, 8, 9, 127] (σ' := [(1, .int .i64 (wr64 ((Int.tmod (wr64 ((Int.tmod o1 50) + 50)) 50) + 1))), (5, .bool true), (6, .pointer (some ⟨b402, 0, none⟩)), (7, .int .i64 x406), (8, .pointer (some ⟨b434, 0, none⟩)), (9, .pointer (some ⟨b566, 0, none⟩)), (127, .bool true)]) (by kernel_rfl) ?_
                                    refine t_end ?_
                                    show W _ _ _ _ _ _ _
                                    refine w_cond rfl (fun _ => ?_) (fun c_ => by cases c_)
                                    show W _ _ _ _ _ _ _
                                    refine w_seq ?_
                                    refine w_reg fun all => ?_
                                    refine t_qz 1 [4] (σ' := [(4, .bool false)]) (by kernel_rfl) ?_
                                    refine t_end ?_
                                    show W _ _ _ _ _ _ _
                                    refine w_ret ?_
                                    obtain rfl := Option.some.inj e568
                                    obtain rfl := Option.some.inj e409
                                    obtain rfl := Option.some.inj e404
                                    have hr_ := Option.some.inj e
                                    exact ⟨[.bool false], [], S, ⟨rfl, trivial⟩, VS.none, congrArg Value.bool hr_, rfl, rfl⟩
                                · rw [if_neg c578] at e568
                                  have c578b : (x411 == 1) = false := beq_eq_false_iff_ne.mpr c578
                                  refine t_v (dv_quiet rfl (congrArg (fun t => some (Value.bool t)) c578b)) ?_
                                  refine t_qz 9 [1, 5, 6, 7, 8, 9, 115, 117] (σ' := [(1, .int .i64 (wr64 ((Int.tmod (wr64 ((Int.tmod o1 50) + 50)) 50) + 1))), (5, .bool true), (6, .pointer (some ⟨b402, 0, none⟩)), (7, .int .i64 x406), (8, .pointer (some ⟨b434, 0, none⟩)), (9, .pointer (some ⟨b566, 0, none⟩)), (115, .bool false), (117, .pointer (some ⟨b434, 3, none⟩))]) (by kernel_rfl) ?_
                                  refine t_v (.ld1 rfl rfl rfl (.at 1 rfl rfl)) ?_
                                  by_cases c582 : x414 = 2
                                  · rw [if_pos c582] at e568
                                    have c582b : (x414 == 2) = true := beq_iff_eq.mpr c582
                                    refine t_v (dv_quiet rfl (congrArg (fun t => some (Value.bool t)) c582b)) ?_
                                    refine t_qz 4 [1, 5, 6, 7, 8, 9, 115, 120, 123] (σ' := [(1, .int .i64 (wr64 ((Int.tmod (wr64 ((Int.tmod o1 50) + 50)) 50) + 1))), (5, .bool true), (6, .pointer (some ⟨b402, 0, none⟩)), (7, .int .i64 x406), (8, .pointer (some ⟨b434, 0, none⟩)), (9, .pointer (some ⟨b566, 0, none⟩)), (115, .bool false), (120, .bool true), (123, .pointer (some ⟨b566, 8, none⟩))]) (by kernel_rfl) ?_
                                    refine t_v (.ld1 rfl rfl rfl (.at 0 rfl rfl)) ?_
                                    by_cases c583 : t561 < 1
                                    · rw [if_pos c583] at e568
                                      have c583b : (decide (t561 < 1)) = true := decide_eq_true c583
                                      refine t_v (dv_quiet rfl (congrArg (fun t => some (Value.bool t)) c583b)) ?_
                                      refine t_qz 2 [1, 5, 6, 7, 8, 9, 127] (σ' := [(1, .int .i64 (wr64 ((Int.tmod (wr64 ((Int.tmod o1 50) + 50)) 50) + 1))), (5, .bool true), (6, .pointer (some ⟨b402, 0, none⟩)), (7, .int .i64 x406), (8, .pointer (some ⟨b434, 0, none⟩)), (9, .pointer (some ⟨b566, 0, none⟩)), (127, .bool true)]) (by kernel_rfl) ?_
                                      refine t_end ?_
                                      show W _ _ _ _ _ _ _
                                      refine w_cond rfl (fun _ => ?_) (fun c_ => by cases c_)
                                      show W _ _ _ _ _ _ _
                                      refine w_seq ?_
                                      refine w_reg fun all => ?_
                                      refine t_qz 1 [4] (σ' := [(4, .bool false)]) (by kernel_rfl) ?_
                                      refine t_end ?_
                                      show W _ _ _ _ _ _ _
                                      refine w_ret ?_
                                      obtain rfl := Option.some.inj e568
                                      obtain rfl := Option.some.inj e409
                                      obtain rfl := Option.some.inj e404
                                      have hr_ := Option.some.inj e
                                      exact ⟨[.bool false], [], S, ⟨rfl, trivial⟩, VS.none, congrArg Value.bool hr_, rfl, rfl⟩
                                    · rw [if_neg c583] at e568
                                      have c583b : (decide (t561 < 1)) = false := decide_eq_false c583
                                      refine t_v (dv_quiet rfl (congrArg (fun t => some (Value.bool t)) c583b)) ?_
                                      refine t_qz 2 [1, 5, 6, 7, 8, 9, 127] (σ' := [(1, .int .i64 (wr64 ((Int.tmod (wr64 ((Int.tmod o1 50) + 50)) 50) + 1))), (5, .bool true), (6, .pointer (some ⟨b402, 0, none⟩)), (7, .int .i64 x406), (8, .pointer (some ⟨b434, 0, none⟩)), (9, .pointer (some ⟨b566, 0, none⟩)), (127, .bool false)]) (by kernel_rfl) ?_
                                      refine t_end ?_
                                      show W _ _ _ _ _ _ _
                                      refine w_cond rfl (fun c_ => by cases c_) (fun _ => ?_)
                                      show W _ _ _ _ _ _ _
                                      refine w_skip ?_
                                      obtain rfl := Option.some.inj e568
                                      exact ⟨(([⟨b566, [.int .i64 t553, .int .i64 t554, .int .i64 t555, .int .i64 t556, .int .i64 t557, .int .i64 t558, .int .i64 t559, .int .i64 t560, .int .i64 t561, .int .i64 t562, .slice Q565a0 t563.length Q565c0], 11⟩, ⟨b434, [.int .i64 x411, .int .i64 x412, .int .i64 x413, .int .i64 x414, .int .i64 x415, .int .i64 x416, .int .i64 x417, .int .i64 x418, .int .i64 x419, .int .i64 x420, .slice na431 x421.length nc432], 11⟩, ⟨b402, [.int .i64 t393, .int .i64 t394, .int .i64 t395, .slice (ad N400) t397.length (nN400 / 4), .slice Q401a0 t396.length Q401c0], 5⟩, ⟨b14, [.slice a_t0 t0.length c_t0, .int .i64 t398], 2⟩, ⟨N400, encL E_u84 t397, nN400⟩] : List Own) ++ (Q401F ++ (Q565F ++ []))), S, VS.selT 5 [0, 0, 0, 1, 0] (by kernel_rfl), (), rfl, by kernel_rfl, rfl, rfl⟩
                                  · rw [if_neg c582] at e568
                                    have c582b : (x414 == 2) = false := beq_eq_false_iff_ne.mpr c582
                                    refine t_v (dv_quiet rfl (congrArg (fun t => some (Value.bool t)) c582b)) ?_
                                    refine t_qz 8 [1, 5, 6, 7, 8, 9, 127] (σ' := [(1, .int .i64 (wr64 ((Int.tmod (wr64 ((Int.tmod o1 50) + 50)) 50) + 1))), (5, .bool true), (6, .pointer (some ⟨b402, 0, none⟩)), (7, .int .i64 x406), (8, .pointer (some ⟨b434, 0, none⟩)), (9, .pointer (some ⟨b566, 0, none⟩)), (127, .bool false)]) (by kernel_rfl) ?_
                                    refine t_end ?_
                                    show W _ _ _ _ _ _ _
                                    refine w_cond rfl (fun c_ => by cases c_) (fun _ => ?_)
                                    show W _ _ _ _ _ _ _
                                    refine w_skip ?_
                                    obtain rfl := Option.some.inj e568
                                    exact ⟨(([⟨b566, [.int .i64 t553, .int .i64 t554, .int .i64 t555, .int .i64 t556, .int .i64 t557, .int .i64 t558, .int .i64 t559, .int .i64 t560, .int .i64 t561, .int .i64 t562, .slice Q565a0 t563.length Q565c0], 11⟩, ⟨b434, [.int .i64 x411, .int .i64 x412, .int .i64 x413, .int .i64 x414, .int .i64 x415, .int .i64 x416, .int .i64 x417, .int .i64 x418, .int .i64 x419, .int .i64 x420, .slice na431 x421.length nc432], 11⟩, ⟨b402, [.int .i64 t393, .int .i64 t394, .int .i64 t395, .slice (ad N400) t397.length (nN400 / 4), .slice Q401a0 t396.length Q401c0], 5⟩, ⟨b14, [.slice a_t0 t0.length c_t0, .int .i64 t398], 2⟩, ⟨N400, encL E_u84 t397, nN400⟩] : List Own) ++ (Q401F ++ (Q565F ++ []))), S, VS.selT 5 [0, 0, 0, 1, 0] (by kernel_rfl), (), rfl, by kernel_rfl, rfl, rfl⟩
                            · rw [if_neg c576] at e568
                              have c576b : (x411 == 2) = false := beq_eq_false_iff_ne.mpr c576
                              refine t_v (dv_quiet rfl (congrArg (fun t => some (Value.bool t)) c576b)) ?_
                              refine t_qz 8 [1, 5, 6, 7, 8, 9, 105, 106] (σ' := [(1, .int .i64 (wr64 ((Int.tmod (wr64 ((Int.tmod o1 50) + 50)) 50) + 1))), (5, .bool true), (6, .pointer (some ⟨b402, 0, none⟩)), (7, .int .i64 x406), (8, .pointer (some ⟨b434, 0, none⟩)), (9, .pointer (some ⟨b566, 0, none⟩)), (105, .bool false), (106, .pointer (some ⟨b434, 0, none⟩))]) (by kernel_rfl) ?_
                              refine t_v (.ld1 rfl rfl rfl (.at 1 rfl rfl)) ?_
                              by_cases c584 : x411 = 1
                              · rw [if_pos c584] at e568
                                have c584b : (x411 == 1) = true := beq_iff_eq.mpr c584
                                refine t_v (dv_quiet rfl (congrArg (fun t => some (Value.bool t)) c584b)) ?_
                                refine t_qz 2 [1, 5, 6, 7, 8, 9, 105, 109, 110] (σ' := [(1, .int .i64 (wr64 ((Int.tmod (wr64 ((Int.tmod o1 50) + 50)) 50) + 1))), (5, .bool true), (6, .pointer (some ⟨b402, 0, none⟩)), (7, .int .i64 x406), (8, .pointer (some ⟨b434, 0, none⟩)), (9, .pointer (some ⟨b566, 0, none⟩)), (105, .bool false), (109, .bool true), (110, .pointer (some ⟨b566, 2, none⟩))]) (by kernel_rfl) ?_
                                refine t_v (.ld1 rfl rfl rfl (.at 0 rfl rfl)) ?_
                                by_cases c585 : t555 = 0
                                · rw [if_pos c585] at e568
                                  have c585b : (t555 == 0) = true := beq_iff_eq.mpr c585
                                  refine t_v (dv_quiet rfl (congrArg (fun t => some (Value.bool (!t))) c585b)) ?_
                                  refine t_qz 5 [1, 5, 6, 7, 8, 9, 115, 117] (σ' := [(1, .int .i64 (wr64 ((Int.tmod (wr64 ((Int.tmod o1 50) + 50)) 50) + 1))), (5, .bool true), (6, .pointer (some ⟨b402, 0, none⟩)), (7, .int .i64 x406), (8, .pointer (some ⟨b434, 0, none⟩)), (9, .pointer (some ⟨b566, 0, none⟩)), (115, .bool false), (117, .pointer (some ⟨b434, 3, none⟩))]) (by kernel_rfl) ?_
                                  refine t_v (.ld1 rfl rfl rfl (.at 1 rfl rfl)) ?_
                                  by_cases c586 : x414 = 2
                                  · rw [if_pos c586] at e568
                                    have c586b : (x414 == 2) = true := beq_iff_eq.mpr c586
                                    refine t_v (dv_quiet rfl (congrArg (fun t => some (Value.bool t)) c586b)) ?_
                                    refine t_qz 4 [1, 5, 6, 7, 8, 9, 115, 120, 123] (σ' := [(1, .int .i64 (wr64 ((Int.tmod (wr64 ((Int.tmod o1 50) + 50)) 50) + 1))), (5, .bool true), (6, .pointer (some ⟨b402, 0, none⟩)), (7, .int .i64 x406), (8, .pointer (some ⟨b434, 0, none⟩)), (9, .pointer (some ⟨b566, 0, none⟩)), (115, .bool false), (120, .bool true), (123, .pointer (some ⟨b566, 8, none⟩))]) (by kernel_rfl) ?_
                                    refine t_v (.ld1 rfl rfl rfl (.at 0 rfl rfl)) ?_
                                    by_cases c587 : t561 < 1
                                    · rw [if_pos c587] at e568
                                      have c587b : (decide (t561 < 1)) = true := decide_eq_true c587
                                      refine t_v (dv_quiet rfl (congrArg (fun t => some (Value.bool t)) c587b)) ?_
                                      refine t_qz 2 [1, 5, 6, 7, 8, 9, 127] (σ' := [(1, .int .i64 (wr64 ((Int.tmod (wr64 ((Int.tmod o1 50) + 50)) 50) + 1))), (5, .bool true), (6, .pointer (some ⟨b402, 0, none⟩)), (7, .int .i64 x406), (8, .pointer (some ⟨b434, 0, none⟩)), (9, .pointer (some ⟨b566, 0, none⟩)), (127, .bool true)]) (by kernel_rfl) ?_
                                      refine t_end ?_
                                      show W _ _ _ _ _ _ _
                                      refine w_cond rfl (fun _ => ?_) (fun c_ => by cases c_)
                                      show W _ _ _ _ _ _ _
                                      refine w_seq ?_
                                      refine w_reg fun all => ?_
                                      refine t_qz 1 [4] (σ' := [(4, .bool false)]) (by kernel_rfl) ?_
                                      refine t_end ?_
                                      show W _ _ _ _ _ _ _
                                      refine w_ret ?_
                                      obtain rfl := Option.some.inj e568
                                      obtain rfl := Option.some.inj e409
                                      obtain rfl := Option.some.inj e404
                                      have hr_ := Option.some.inj e
                                      exact ⟨[.bool false], [], S, ⟨rfl, trivial⟩, VS.none, congrArg Value.bool hr_, rfl, rfl⟩
                                    · rw [if_neg c587] at e568
                                      have c587b : (decide (t561 < 1)) = false := decide_eq_false c587
                                      refine t_v (dv_quiet rfl (congrArg (fun t => some (Value.bool t)) c587b)) ?_
                                      refine t_qz 2 [1, 5, 6, 7, 8, 9, 127] (σ' := [(1, .int .i64 (wr64 ((Int.tmod (wr64 ((Int.tmod o1 50) + 50)) 50) + 1))), (5, .bool true), (6, .pointer (some ⟨b402, 0, none⟩)), (7, .int .i64 x406), (8, .pointer (some ⟨b434, 0, none⟩)), (9, .pointer (some ⟨b566, 0, none⟩)), (127, .bool false)]) (by kernel_rfl) ?_
                                      refine t_end ?_
                                      show W _ _ _ _ _ _ _
                                      refine w_cond rfl (fun c_ => by cases c_) (fun _ => ?_)
                                      show W _ _ _ _ _ _ _
                                      refine w_skip ?_
                                      obtain rfl := Option.some.inj e568
                                      exact ⟨(([⟨b566, [.int .i64 t553, .int .i64 t554, .int .i64 t555, .int .i64 t556, .int .i64 t557, .int .i64 t558, .int .i64 t559, .int .i64 t560, .int .i64 t561, .int .i64 t562, .slice Q565a0 t563.length Q565c0], 11⟩, ⟨b434, [.int .i64 x411, .int .i64 x412, .int .i64 x413, .int .i64 x414, .int .i64 x415, .int .i64 x416, .int .i64 x417, .int .i64 x418, .int .i64 x419, .int .i64 x420, .slice na431 x421.length nc432], 11⟩, ⟨b402, [.int .i64 t393, .int .i64 t394, .int .i64 t395, .slice (ad N400) t397.length (nN400 / 4), .slice Q401a0 t396.length Q401c0], 5⟩, ⟨b14, [.slice a_t0 t0.length c_t0, .int .i64 t398], 2⟩, ⟨N400, encL E_u84 t397, nN400⟩] : List Own) ++ (Q401F ++ (Q565F ++ []))), S, VS.selT 5 [0, 0, 0, 1, 0] (by kernel_rfl), (), rfl, by kernel_rfl, rfl, rfl⟩
                                  · rw [if_neg c586] at e568
                                    have c586b : (x414 == 2) = false := beq_eq_false_iff_ne.mpr c586
                                    refine t_v (dv_quiet rfl (congrArg (fun t => some (Value.bool t)) c586b)) ?_
                                    refine t_qz 8 [1, 5, 6, 7, 8, 9, 127] (σ' := [(1, .int .i64 (wr64 ((Int.tmod (wr64 ((Int.tmod o1 50) + 50)) 50) + 1))), (5, .bool true), (6, .pointer (some ⟨b402, 0, none⟩)), (7, .int .i64 x406), (8, .pointer (some ⟨b434, 0, none⟩)), (9, .pointer (some ⟨b566, 0, none⟩)), (127, .bool false)]) (by kernel_rfl) ?_
                                    refine t_end ?_
                                    show W _ _ _ _ _ _ _
                                    refine w_cond rfl (fun c_ => by cases c_) (fun _ => ?_)
                                    show W _ _ _ _ _ _ _
                                    refine w_skip ?_
                                    obtain rfl := Option.some.inj e568
                                    exact ⟨(([⟨b566, [.int .i64 t553, .int .i64 t554, .int .i64 t555, .int .i64 t556, .int .i64 t557, .int .i64 t558, .int .i64 t559, .int .i64 t560, .int .i64 t561, .int .i64 t562, .slice Q565a0 t563.length Q565c0], 11⟩, ⟨b434, [.int .i64 x411, .int .i64 x412, .int .i64 x413, .int .i64 x414, .int .i64 x415, .int .i64 x416, .int .i64 x417, .int .i64 x418, .int .i64 x419, .int .i64 x420, .slice na431 x421.length nc432], 11⟩, ⟨b402, [.int .i64 t393, .int .i64 t394, .int .i64 t395, .slice (ad N400) t397.length (nN400 / 4), .slice Q401a0 t396.length Q401c0], 5⟩, ⟨b14, [.slice a_t0 t0.length c_t0, .int .i64 t398], 2⟩, ⟨N400, encL E_u84 t397, nN400⟩] : List Own) ++ (Q401F ++ (Q565F ++ []))), S, VS.selT 5 [0, 0, 0, 1, 0] (by kernel_rfl), (), rfl, by kernel_rfl, rfl, rfl⟩
                                · rw [if_neg c585] at e568
                                  have c585b : (t555 == 0) = false := beq_eq_false_iff_ne.mpr c585
                                  refine t_v (dv_quiet rfl (congrArg (fun t => some (Value.bool (!t))) c585b)) ?_
                                  refine t_qz 15 [1, 5, 6, 7, 8, 9, 127] (σ' := [(1, .int .i64 (wr64 ((Int.tmod (wr64 ((Int.tmod o1 50) + 50)) 50) + 1))), (5, .bool true), (6, .pointer (some ⟨b402, 0, none⟩)), (7, .int .i64 x406), (8, .pointer (some ⟨b434, 0, none⟩)), (9, .pointer (some ⟨b566, 0, none⟩)), (127, .bool true)]) (by kernel_rfl) ?_
                                  refine t_end ?_
                                  show W _ _ _ _ _ _ _
                                  refine w_cond rfl (fun _ => ?_) (fun c_ => by cases c_)
                                  show W _ _ _ _ _ _ _
                                  refine w_seq ?_
                                  refine w_reg fun all => ?_
                                  refine t_qz 1 [4] (σ' := [(4, .bool false)]) (by kernel_rfl) ?_
                                  refine t_end ?_
                                  show W _ _ _ _ _ _ _
                                  refine w_ret ?_
                                  obtain rfl := Option.some.inj e568
                                  obtain rfl := Option.some.inj e409
                                  obtain rfl := Option.some.inj e404
                                  have hr_ := Option.some.inj e
                                  exact ⟨[.bool false], [], S, ⟨rfl, trivial⟩, VS.none, congrArg Value.bool hr_, rfl, rfl⟩
                              · rw [if_neg c584] at e568
                                have c584b : (x411 == 1) = false := beq_eq_false_iff_ne.mpr c584
                                refine t_v (dv_quiet rfl (congrArg (fun t => some (Value.bool t)) c584b)) ?_
                                refine t_qz 9 [1, 5, 6, 7, 8, 9, 115, 117] (σ' := [(1, .int .i64 (wr64 ((Int.tmod (wr64 ((Int.tmod o1 50) + 50)) 50) + 1))), (5, .bool true), (6, .pointer (some ⟨b402, 0, none⟩)), (7, .int .i64 x406), (8, .pointer (some ⟨b434, 0, none⟩)), (9, .pointer (some ⟨b566, 0, none⟩)), (115, .bool false), (117, .pointer (some ⟨b434, 3, none⟩))]) (by kernel_rfl) ?_
                                refine t_v (.ld1 rfl rfl rfl (.at 1 rfl rfl)) ?_
                                by_cases c588 : x414 = 2
                                · rw [if_pos c588] at e568
                                  have c588b : (x414 == 2) = true := beq_iff_eq.mpr c588
                                  refine t_v (dv_quiet rfl (congrArg (fun t => some (Value.bool t)) c588b)) ?_
                                  refine t_qz 4 [1, 5, 6, 7, 8, 9, 115, 120, 123] (σ' := [(1, .int .i64 (wr64 ((Int.tmod (wr64 ((Int.tmod o1 50) + 50)) 50) + 1))), (5, .bool true), (6, .pointer (some ⟨b402, 0, none⟩)), (7, .int .i64 x406), (8, .pointer (some ⟨b434, 0, none⟩)), (9, .pointer (some ⟨b566, 0, none⟩)), (115, .bool false), (120, .bool true), (123, .pointer (some ⟨b566, 8, none⟩))]) (by kernel_rfl) ?_
                                  refine t_v (.ld1 rfl rfl rfl (.at 0 rfl rfl)) ?_
                                  by_cases c589 : t561 < 1
                                  · rw [if_pos c589] at e568
                                    have c589b : (decide (t561 < 1)) = true := decide_eq_true c589
                                    refine t_v (dv_quiet rfl (congrArg (fun t => some (Value.bool t)) c589b)) ?_
                                    refine t_qz 2 [1, 5, 6, 7, 8, 9, 127] (σ' := [(1, .int .i64 (wr64 ((Int.tmod (wr64 ((Int.tmod o1 50) + 50)) 50) + 1))), (5, .bool true), (6, .pointer (some ⟨b402, 0, none⟩)), (7, .int .i64 x406), (8, .pointer (some ⟨b434, 0, none⟩)), (9, .pointer (some ⟨b566, 0, none⟩)), (127, .bool true)]) (by kernel_rfl) ?_
                                    refine t_end ?_
                                    show W _ _ _ _ _ _ _
                                    refine w_cond rfl (fun _ => ?_) (fun c_ => by cases c_)
                                    show W _ _ _ _ _ _ _
                                    refine w_seq ?_
                                    refine w_reg fun all => ?_
                                    refine t_qz 1 [4] (σ' := [(4, .bool false)]) (by kernel_rfl) ?_
                                    refine t_end ?_
                                    show W _ _ _ _ _ _ _
                                    refine w_ret ?_
                                    obtain rfl := Option.some.inj e568
                                    obtain rfl := Option.some.inj e409
                                    obtain rfl := Option.some.inj e404
                                    have hr_ := Option.some.inj e
                                    exact ⟨[.bool false], [], S, ⟨rfl, trivial⟩, VS.none, congrArg Value.bool hr_, rfl, rfl⟩
                                  · rw [if_neg c589] at e568
                                    have c589b : (decide (t561 < 1)) = false := decide_eq_false c589
                                    refine t_v (dv_quiet rfl (congrArg (fun t => some (Value.bool t)) c589b)) ?_
                                    refine t_qz 2 [1, 5, 6, 7, 8, 9, 127] (σ' := [(1, .int .i64 (wr64 ((Int.tmod (wr64 ((Int.tmod o1 50) + 50)) 50) + 1))), (5, .bool true), (6, .pointer (some ⟨b402, 0, none⟩)), (7, .int .i64 x406), (8, .pointer (some ⟨b434, 0, none⟩)), (9, .pointer (some ⟨b566, 0, none⟩)), (127, .bool false)]) (by kernel_rfl) ?_
                                    refine t_end ?_
                                    show W _ _ _ _ _ _ _
                                    refine w_cond rfl (fun c_ => by cases c_) (fun _ => ?_)
                                    show W _ _ _ _ _ _ _
                                    refine w_skip ?_
                                    obtain rfl := Option.some.inj e568
                                    exact ⟨(([⟨b566, [.int .i64 t553, .int .i64 t554, .int .i64 t555, .int .i64 t556, .int .i64 t557, .int .i64 t558, .int .i64 t559, .int .i64 t560, .int .i64 t561, .int .i64 t562, .slice Q565a0 t563.length Q565c0], 11⟩, ⟨b434, [.int .i64 x411, .int .i64 x412, .int .i64 x413, .int .i64 x414, .int .i64 x415, .int .i64 x416, .int .i64 x417, .int .i64 x418, .int .i64 x419, .int .i64 x420, .slice na431 x421.length nc432], 11⟩, ⟨b402, [.int .i64 t393, .int .i64 t394, .int .i64 t395, .slice (ad N400) t397.length (nN400 / 4), .slice Q401a0 t396.length Q401c0], 5⟩, ⟨b14, [.slice a_t0 t0.length c_t0, .int .i64 t398], 2⟩, ⟨N400, encL E_u84 t397, nN400⟩] : List Own) ++ (Q401F ++ (Q565F ++ []))), S, VS.selT 5 [0, 0, 0, 1, 0] (by kernel_rfl), (), rfl, by kernel_rfl, rfl, rfl⟩
                                · rw [if_neg c588] at e568
                                  have c588b : (x414 == 2) = false := beq_eq_false_iff_ne.mpr c588
                                  refine t_v (dv_quiet rfl (congrArg (fun t => some (Value.bool t)) c588b)) ?_
                                  refine t_qz 8 [1, 5, 6, 7, 8, 9, 127] (σ' := [(1, .int .i64 (wr64 ((Int.tmod (wr64 ((Int.tmod o1 50) + 50)) 50) + 1))), (5, .bool true), (6, .pointer (some ⟨b402, 0, none⟩)), (7, .int .i64 x406), (8, .pointer (some ⟨b434, 0, none⟩)), (9, .pointer (some ⟨b566, 0, none⟩)), (127, .bool false)]) (by kernel_rfl) ?_
                                  refine t_end ?_
                                  show W _ _ _ _ _ _ _
                                  refine w_cond rfl (fun c_ => by cases c_) (fun _ => ?_)
                                  show W _ _ _ _ _ _ _
                                  refine w_skip ?_
                                  obtain rfl := Option.some.inj e568
                                  exact ⟨(([⟨b566, [.int .i64 t553, .int .i64 t554, .int .i64 t555, .int .i64 t556, .int .i64 t557, .int .i64 t558, .int .i64 t559, .int .i64 t560, .int .i64 t561, .int .i64 t562, .slice Q565a0 t563.length Q565c0], 11⟩, ⟨b434, [.int .i64 x411, .int .i64 x412, .int .i64 x413, .int .i64 x414, .int .i64 x415, .int .i64 x416, .int .i64 x417, .int .i64 x418, .int .i64 x419, .int .i64 x420, .slice na431 x421.length nc432], 11⟩, ⟨b402, [.int .i64 t393, .int .i64 t394, .int .i64 t395, .slice (ad N400) t397.length (nN400 / 4), .slice Q401a0 t396.length Q401c0], 5⟩, ⟨b14, [.slice a_t0 t0.length c_t0, .int .i64 t398], 2⟩, ⟨N400, encL E_u84 t397, nN400⟩] : List Own) ++ (Q401F ++ (Q565F ++ []))), S, VS.selT 5 [0, 0, 0, 1, 0] (by kernel_rfl), (), rfl, by kernel_rfl, rfl, rfl⟩
                          · rw [if_neg c575] at e568
                            have c575b : ((t563.length : Int) == (x421.length : Int)) = false := beq_eq_false_iff_ne.mpr c575
                            refine t_qz 1 [1, 5, 6, 7, 8, 9, 86, 89, 92] (σ' := [(1, .int .i64 (wr64 ((Int.tmod (wr64 ((Int.tmod o1 50) + 50)) 50) + 1))), (5, .bool true), (6, .pointer (some ⟨b402, 0, none⟩)), (7, .int .i64 x406), (8, .pointer (some ⟨b434, 0, none⟩)), (9, .pointer (some ⟨b566, 0, none⟩)), (86, .bool false), (89, .int .i64 (t563.length : Int)), (92, .int .i64 (x421.length : Int))]) (by kernel_rfl) ?_
                            refine t_v (dv_quiet rfl (congrArg (fun t => some (Value.bool (!t))) c575b)) ?_
                            refine t_qz 34 [1, 5, 6, 7, 8, 9, 127] (σ' := [(1, .int .i64 (wr64 ((Int.tmod (wr64 ((Int.tmod o1 50) + 50)) 50) + 1))), (5, .bool true), (6, .pointer (some ⟨b402, 0, none⟩)), (7, .int .i64 x406), (8, .pointer (some ⟨b434, 0, none⟩)), (9, .pointer (some ⟨b566, 0, none⟩)), (127, .bool true)]) (by kernel_rfl) ?_
                            refine t_end ?_
                            show W _ _ _ _ _ _ _
                            refine w_cond rfl (fun _ => ?_) (fun c_ => by cases c_)
                            show W _ _ _ _ _ _ _
                            refine w_seq ?_
                            refine w_reg fun all => ?_
                            refine t_qz 1 [4] (σ' := [(4, .bool false)]) (by kernel_rfl) ?_
                            refine t_end ?_
                            show W _ _ _ _ _ _ _
                            refine w_ret ?_
                            obtain rfl := Option.some.inj e568
                            obtain rfl := Option.some.inj e409
                            obtain rfl := Option.some.inj e404
                            have hr_ := Option.some.inj e
                            exact ⟨[.bool false], [], S, ⟨rfl, trivial⟩, VS.none, congrArg Value.bool hr_, rfl, rfl⟩
                        · rw [if_neg c574] at e568
                          have c574b : (t558 == x416) = false := beq_eq_false_iff_ne.mpr c574
                          refine t_v (dv_quiet rfl (congrArg (fun t => some (Value.bool (!t))) c574b)) ?_
                          refine t_qz 43 [1, 5, 6, 7, 8, 9, 127] (σ' := [(1, .int .i64 (wr64 ((Int.tmod (wr64 ((Int.tmod o1 50) + 50)) 50) + 1))), (5, .bool true), (6, .pointer (some ⟨b402, 0, none⟩)), (7, .int .i64 x406), (8, .pointer (some ⟨b434, 0, none⟩)), (9, .pointer (some ⟨b566, 0, none⟩)), (127, .bool true)]) (by kernel_rfl) ?_
                          refine t_end ?_
                          show W _ _ _ _ _ _ _
                          refine w_cond rfl (fun _ => ?_) (fun c_ => by cases c_)
                          show W _ _ _ _ _ _ _
                          refine w_seq ?_
                          refine w_reg fun all => ?_
                          refine t_qz 1 [4] (σ' := [(4, .bool false)]) (by kernel_rfl) ?_
                          refine t_end ?_
                          show W _ _ _ _ _ _ _
                          refine w_ret ?_
                          obtain rfl := Option.some.inj e568
                          obtain rfl := Option.some.inj e409
                          obtain rfl := Option.some.inj e404
                          have hr_ := Option.some.inj e
                          exact ⟨[.bool false], [], S, ⟨rfl, trivial⟩, VS.none, congrArg Value.bool hr_, rfl, rfl⟩
                      · rw [if_neg c573] at e568
                        have c573b : (t557 == x415) = false := beq_eq_false_iff_ne.mpr c573
                        refine t_v (dv_quiet rfl (congrArg (fun t => some (Value.bool (!t))) c573b)) ?_
                        refine t_qz 52 [1, 5, 6, 7, 8, 9, 127] (σ' := [(1, .int .i64 (wr64 ((Int.tmod (wr64 ((Int.tmod o1 50) + 50)) 50) + 1))), (5, .bool true), (6, .pointer (some ⟨b402, 0, none⟩)), (7, .int .i64 x406), (8, .pointer (some ⟨b434, 0, none⟩)), (9, .pointer (some ⟨b566, 0, none⟩)), (127, .bool true)]) (by kernel_rfl) ?_
                        refine t_end ?_
                        show W _ _ _ _ _ _ _
                        refine w_cond rfl (fun _ => ?_) (fun c_ => by cases c_)
                        show W _ _ _ _ _ _ _
                        refine w_seq ?_
                        refine w_reg fun all => ?_
                        refine t_qz 1 [4] (σ' := [(4, .bool false)]) (by kernel_rfl) ?_
                        refine t_end ?_
                        show W _ _ _ _ _ _ _
                        refine w_ret ?_
                        obtain rfl := Option.some.inj e568
                        obtain rfl := Option.some.inj e409
                        obtain rfl := Option.some.inj e404
                        have hr_ := Option.some.inj e
                        exact ⟨[.bool false], [], S, ⟨rfl, trivial⟩, VS.none, congrArg Value.bool hr_, rfl, rfl⟩
                    · rw [if_neg c572] at e568
                      have c572b : (t556 == x414) = false := beq_eq_false_iff_ne.mpr c572
                      refine t_v (dv_quiet rfl (congrArg (fun t => some (Value.bool (!t))) c572b)) ?_
                      refine t_qz 61 [1, 5, 6, 7, 8, 9, 127] (σ' := [(1, .int .i64 (wr64 ((Int.tmod (wr64 ((Int.tmod o1 50) + 50)) 50) + 1))), (5, .bool true), (6, .pointer (some ⟨b402, 0, none⟩)), (7, .int .i64 x406), (8, .pointer (some ⟨b434, 0, none⟩)), (9, .pointer (some ⟨b566, 0, none⟩)), (127, .bool true)]) (by kernel_rfl) ?_
                      refine t_end ?_
                      show W _ _ _ _ _ _ _
                      refine w_cond rfl (fun _ => ?_) (fun c_ => by cases c_)
                      show W _ _ _ _ _ _ _
                      refine w_seq ?_
                      refine w_reg fun all => ?_
                      refine t_qz 1 [4] (σ' := [(4, .bool false)]) (by kernel_rfl) ?_
                      refine t_end ?_
                      show W _ _ _ _ _ _ _
                      refine w_ret ?_
                      obtain rfl := Option.some.inj e568
                      obtain rfl := Option.some.inj e409
                      obtain rfl := Option.some.inj e404
                      have hr_ := Option.some.inj e
                      exact ⟨[.bool false], [], S, ⟨rfl, trivial⟩, VS.none, congrArg Value.bool hr_, rfl, rfl⟩
                  · rw [if_neg c571] at e568
                    have c571b : (t554 == x412) = false := beq_eq_false_iff_ne.mpr c571
                    refine t_v (dv_quiet rfl (congrArg (fun t => some (Value.bool (!t))) c571b)) ?_
                    refine t_qz 70 [1, 5, 6, 7, 8, 9, 127] (σ' := [(1, .int .i64 (wr64 ((Int.tmod (wr64 ((Int.tmod o1 50) + 50)) 50) + 1))), (5, .bool true), (6, .pointer (some ⟨b402, 0, none⟩)), (7, .int .i64 x406), (8, .pointer (some ⟨b434, 0, none⟩)), (9, .pointer (some ⟨b566, 0, none⟩)), (127, .bool true)]) (by kernel_rfl) ?_
                    refine t_end ?_
                    show W _ _ _ _ _ _ _
                    refine w_cond rfl (fun _ => ?_) (fun c_ => by cases c_)
                    show W _ _ _ _ _ _ _
                    refine w_seq ?_
                    refine w_reg fun all => ?_
                    refine t_qz 1 [4] (σ' := [(4, .bool false)]) (by kernel_rfl) ?_
                    refine t_end ?_
                    show W _ _ _ _ _ _ _
                    refine w_ret ?_
                    obtain rfl := Option.some.inj e568
                    obtain rfl := Option.some.inj e409
                    obtain rfl := Option.some.inj e404
                    have hr_ := Option.some.inj e
                    exact ⟨[.bool false], [], S, ⟨rfl, trivial⟩, VS.none, congrArg Value.bool hr_, rfl, rfl⟩
                · rw [if_neg c570] at e568
                  have c570b : (t553 == x411) = false := beq_eq_false_iff_ne.mpr c570
                  refine t_v (dv_quiet rfl (congrArg (fun t => some (Value.bool (!t))) c570b)) ?_
                  refine t_qz 76 [1, 5, 6, 7, 8, 9, 127] (σ' := [(1, .int .i64 (wr64 ((Int.tmod (wr64 ((Int.tmod o1 50) + 50)) 50) + 1))), (5, .bool true), (6, .pointer (some ⟨b402, 0, none⟩)), (7, .int .i64 x406), (8, .pointer (some ⟨b434, 0, none⟩)), (9, .pointer (some ⟨b566, 0, none⟩)), (127, .bool true)]) (by kernel_rfl) ?_
                  refine t_end ?_
                  show W _ _ _ _ _ _ _
                  refine w_cond rfl (fun _ => ?_) (fun c_ => by cases c_)
                  show W _ _ _ _ _ _ _
                  refine w_seq ?_
                  refine w_reg fun all => ?_
                  refine t_qz 1 [4] (σ' := [(4, .bool false)]) (by kernel_rfl) ?_
                  refine t_end ?_
                  show W _ _ _ _ _ _ _
                  refine w_ret ?_
                  obtain rfl := Option.some.inj e568
                  obtain rfl := Option.some.inj e409
                  obtain rfl := Option.some.inj e404
                  have hr_ := Option.some.inj e
                  exact ⟨[.bool false], [], S, ⟨rfl, trivial⟩, VS.none, congrArg Value.bool hr_, rfl, rfl⟩
              · rintro σ_ H_ S_ ⟨u_, rfl, rfl, rfl, rfl⟩
                dsimp only at e409
                refine w_seq ?_
                refine w_reg fun all => ?_
                refine t_qz 1 [1, 5, 6, 7, 8, 9, 10] (σ' := [(1, .int .i64 (wr64 ((Int.tmod (wr64 ((Int.tmod o1 50) + 50)) 50) + 1))), (5, .bool true), (6, .pointer (some ⟨b402, 0, none⟩)), (7, .int .i64 x406), (8, .pointer (some ⟨b434, 0, none⟩)), (9, .pointer (some ⟨b566, 0, none⟩)), (10, .int .i64 0)]) (by kernel_rfl) ?_
                refine t_end ?_
                show W _ _ _ _ _ _ _
                refine w_block ?_
                refine w_kp [1, 5, 6, 7, 8, 9, 10] (σ' := [(1, .int .i64 (wr64 ((Int.tmod (wr64 ((Int.tmod o1 50) + 50)) 50) + 1))), (5, .bool true), (6, .pointer (some ⟨b402, 0, none⟩)), (7, .int .i64 x406), (8, .pointer (some ⟨b434, 0, none⟩)), (9, .pointer (some ⟨b566, 0, none⟩)), (10, .int .i64 0)]) (by kernel_rfl) ?_
                refine w_loop (fun n_ σ_ H_ S_ => ∃ (x590 : Int), [(1, .int .i64 (wr64 ((Int.tmod (wr64 ((Int.tmod o1 50) + 50)) 50) + 1))), (5, .bool true), (6, .pointer (some ⟨b402, 0, none⟩)), (7, .int .i64 x406), (8, .pointer (some ⟨b434, 0, none⟩)), (9, .pointer (some ⟨b566, 0, none⟩)), (10, .int .i64 x590)] = σ_ ∧ (([⟨b566, [.int .i64 t553, .int .i64 t554, .int .i64 t555, .int .i64 t556, .int .i64 t557, .int .i64 t558, .int .i64 t559, .int .i64 t560, .int .i64 t561, .int .i64 t562, .slice Q565a0 t563.length Q565c0], 11⟩, ⟨b434, [.int .i64 x411, .int .i64 x412, .int .i64 x413, .int .i64 x414, .int .i64 x415, .int .i64 x416, .int .i64 x417, .int .i64 x418, .int .i64 x419, .int .i64 x420, .slice na431 x421.length nc432], 11⟩, ⟨b402, [.int .i64 t393, .int .i64 t394, .int .i64 t395, .slice (ad N400) t397.length (nN400 / 4), .slice Q401a0 t396.length Q401c0], 5⟩, ⟨b14, [.slice a_t0 t0.length c_t0, .int .i64 t398], 2⟩, ⟨N400, encL E_u84 t397, nN400⟩] : List Own) ++ (Q401F ++ (Q565F ++ []))) = H_ ∧ S = S_ ∧ glyphiclaw20_ScaleCmds.l1 n_ o1 t393 t394 t395 x421 t563 x590 = some s410) _ ⟨0, rfl, rfl, rfl, e409⟩ ?_
                rintro n770 σ_ H_ S_ ⟨x590, rfl, rfl, rfl, e409⟩
                cases n770 with
                | zero => rw [glyphiclaw20_ScaleCmds.l1.eq_1] at e409; cases e409
                | succ k_ =>
                  rw [glyphiclaw20_ScaleCmds.l1.eq_2] at e409
                  refine w_seq ?_
                  refine w_seq ?_
                  refine w_reg fun all => ?_
                  refine t_qz 2 [1, 5, 6, 7, 8, 9, 10, 128, 129] (σ' := [(1, .int .i64 (wr64 ((Int.tmod (wr64 ((Int.tmod o1 50) + 50)) 50) + 1))), (5, .bool true), (6, .pointer (some ⟨b402, 0, none⟩)), (7, .int .i64 x406), (8, .pointer (some ⟨b434, 0, none⟩)), (9, .pointer (some ⟨b566, 0, none⟩)), (10, .int .i64 x590), (128, .int .i64 x590), (129, .pointer (some ⟨b566, 10, none⟩))]) (by kernel_rfl) ?_
                  refine t_v (.ld1 rfl rfl rfl (.at 0 rfl rfl)) ?_
                  by_cases c591 : x590 < (t563.length : Int)
                  · rw [if_pos c591] at e409
                    have c591b : (decide (x590 < (t563.length : Int))) = true := decide_eq_true c591
                    refine t_qz 1 [1, 5, 6, 7, 8, 9, 10, 128, 131] (σ' := [(1, .int .i64 (wr64 ((Int.tmod (wr64 ((Int.tmod o1 50) + 50)) 50) + 1))), (5, .bool true), (6, .pointer (some ⟨b402, 0, none⟩)), (7, .int .i64 x406), (8, .pointer (some ⟨b434, 0, none⟩)), (9, .pointer (some ⟨b566, 0, none⟩)), (10, .int .i64 x590), (128, .int .i64 x590), (131, .int .i64 (t563.length : Int))]) (by kernel_rfl) ?_
                    refine t_v (dv_quiet rfl (congrArg (fun t => some (Value.bool t)) c591b)) ?_
                    refine t_keep [1, 5, 6, 7, 8, 9, 10, 132] (σ' := [(1, .int .i64 (wr64 ((Int.tmod (wr64 ((Int.tmod o1 50) + 50)) 50) + 1))), (5, .bool true), (6, .pointer (some ⟨b402, 0, none⟩)), (7, .int .i64 x406), (8, .pointer (some ⟨b434, 0, none⟩)), (9, .pointer (some ⟨b566, 0, none⟩)), (10, .int .i64 x590), (132, .bool true)]) (by kernel_rfl) ?_
                    refine t_end ?_
                    show W _ _ _ _ _ _ _
                    refine w_cond rfl (fun _ => ?_) (fun c_ => by cases c_)
                    show W _ _ _ _ _ _ _
                    refine w_skip ?_
                    show W _ _ _ _ _ _ _
                    obtain ⟨s594, e593, e409⟩ := bind_of e409
                    refine w_cut [1, 5, 6, 7, 8, 9, 10] (fun σ_ H_ S_ => ∃ u_ : Unit, s594 = .inr u_ ∧ [(1, .int .i64 (wr64 ((Int.tmod (wr64 ((Int.tmod o1 50) + 50)) 50) + 1))), (5, .bool true), (6, .pointer (some ⟨b402, 0, none⟩)), (7, .int .i64 x406), (8, .pointer (some ⟨b434, 0, none⟩)), (9, .pointer (some ⟨b566, 0, none⟩)), (10, .int .i64 x590)] = σ_ ∧ (([⟨b566, [.int .i64 t553, .int .i64 t554, .int .i64 t555, .int .i64 t556, .int .i64 t557, .int .i64 t558, .int .i64 t559, .int .i64 t560, .int .i64 t561, .int .i64 t562, .slice Q565a0 t563.length Q565c0], 11⟩, ⟨b434, [.int .i64 x411, .int .i64 x412, .int .i64 x413, .int .i64 x414, .int .i64 x415, .int .i64 x416, .int .i64 x417, .int .i64 x418, .int .i64 x419, .int .i64 x420, .slice na431 x421.length nc432], 11⟩, ⟨b402, [.int .i64 t393, .int .i64 t394, .int .i64 t395, .slice (ad N400) t397.length (nN400 / 4), .slice Q401a0 t396.length Q401c0], 5⟩, ⟨b14, [.slice a_t0 t0.length c_t0, .int .i64 t398], 2⟩, ⟨N400, encL E_u84 t397, nN400⟩] : List Own) ++ (Q401F ++ (Q565F ++ []))) = H_ ∧ S = S_) ?_ ?_
                    · show W _ _ _ _ _ _ _
                      refine w_block ?_
                      refine w_seq ?_
                      refine w_reg fun all => ?_
                      refine t_qz 1 [1, 5, 6, 7, 8, 9, 10, 135] (σ' := [(1, .int .i64 (wr64 ((Int.tmod (wr64 ((Int.tmod o1 50) + 50)) 50) + 1))), (5, .bool true), (6, .pointer (some ⟨b402, 0, none⟩)), (7, .int .i64 x406), (8, .pointer (some ⟨b434, 0, none⟩)), (9, .pointer (some ⟨b566, 0, none⟩)), (10, .int .i64 x590), (135, .pointer (some ⟨b566, 10, none⟩))]) (by kernel_rfl) ?_
                      refine t_v (.ld1 rfl rfl rfl (.at 0 rfl rfl)) ?_
                      obtain ⟨⟨x595, x596, x597, x598⟩, hx599, e593⟩ := bind_of e593
                      try dsimp only at e593
                      obtain ⟨lb600, lo601, ll602, vs_, la603, lR604, lv605, hrep_, lz606, lu607⟩ := sln_get (E := N_0) Q565h0 hx599
                      obtain ⟨na608, nc609, rfl, nh610⟩ := hrep_
                      refine t_qz 1 [1, 5, 6, 7, 8, 9, 10, 136, 137] (σ' := [(1, .int .i64 (wr64 ((Int.tmod (wr64 ((Int.tmod o1 50) + 50)) 50) + 1))), (5, .bool true), (6, .pointer (some ⟨b402, 0, none⟩)), (7, .int .i64 x406), (8, .pointer (some ⟨b434, 0, none⟩)), (9, .pointer (some ⟨b566, 0, none⟩)), (10, .int .i64 x590), (136, .slice Q565a0 t563.length Q565c0), (137, .int .i64 x590)]) (by kernel_rfl) ?_
                      refine t_v (.quiet rfl (ixs_sle rfl rfl la603 lz606 lu607)) ?_
                      refine t_v (.ldn (vs := [.int .i64 x595, .int .i64 x596, .slice na608 x597.length nc609, .bool x598]) rfl rfl rfl (rd_n lR604 (sub_app (seg_in 5 (X := (Q401F ++ (Q565F ++ []))) rfl seg_hd) (sub_app (seg_in 5 (X := (Q401F ++ (Q565F ++ []))) rfl (seg_tl seg_hd)) sub_nil)) (subl_sub lv605 (by kernel_rfl)))) ?_
                      refine t_a (.new rfl rfl) fun b611 fb611 sb611 => ?_
                      refine t_sti 0 (cs := [.int .i64 x595, .int .i64 x596, .slice na608 x597.length nc609, .bool x598]) rfl rfl rfl rfl rfl rfl rfl rfl rfl ?_
                      refine t_keep [1, 5, 6, 7, 8, 9, 10, 11] (σ' := [(1, .int .i64 (wr64 ((Int.tmod (wr64 ((Int.tmod o1 50) + 50)) 50) + 1))), (5, .bool true), (6, .pointer (some ⟨b402, 0, none⟩)), (7, .int .i64 x406), (8, .pointer (some ⟨b434, 0, none⟩)), (9, .pointer (some ⟨b566, 0, none⟩)), (10, .int .i64 x590), (11, .pointer (some ⟨b611, 0, none⟩))]) (by kernel_rfl) ?_
                      refine t_end ?_
                      show W _ _ _ _ _ _ _
                      refine w_seq ?_
                      refine w_reg fun all => ?_
                      refine t_qz 1 [1, 5, 6, 7, 8, 9, 10, 11, 140] (σ' := [(1, .int .i64 (wr64 ((Int.tmod (wr64 ((Int.tmod o1 50) + 50)) 50) + 1))), (5, .bool true), (6, .pointer (some ⟨b402, 0, none⟩)), (7, .int .i64 x406), (8, .pointer (some ⟨b434, 0, none⟩)), (9, .pointer (some ⟨b566, 0, none⟩)), (10, .int .i64 x590), (11, .pointer (some ⟨b611, 0, none⟩)), (140, .pointer (some ⟨b434, 10, none⟩))]) (by kernel_rfl) ?_
                      refine t_v (.ld1 rfl rfl rfl (.at 2 rfl rfl)) ?_
                      obtain ⟨⟨x612, x613, x614, x615⟩, hx616, e593⟩ := bind_of e593
                      try dsimp only at e593
                      obtain ⟨lb617, lo618, ll619, vs_, la620, lR621, lv622, hrep_, lz623, lu624⟩ := sln_get (E := N_0) nh433 hx616
                      obtain ⟨na625, nc626, rfl, nh627⟩ := hrep_
                      refine t_qz 1 [1, 5, 6, 7, 8, 9, 10, 11, 141, 142] (σ' := [(1, .int .i64 (wr64 ((Int.tmod (wr64 ((Int.tmod o1 50) + 50)) 50) + 1))), (5, .bool true), (6, .pointer (some ⟨b402, 0, none⟩)), (7, .int .i64 x406), (8, .pointer (some ⟨b434, 0, none⟩)), (9, .pointer (some ⟨b566, 0, none⟩)), (10, .int .i64 x590), (11, .pointer (some ⟨b611, 0, none⟩)), (141, .slice na431 x421.length nc432), (142, .int .i64 x590)]) (by kernel_rfl) ?_
                      refine t_v (.quiet rfl (ixs_sle rfl rfl la620 lz623 lu624)) ?_
                      refine t_v (.ldn (vs := [.int .i64 x612, .int .i64 x613, .slice na625 x614.length nc626, .bool x615]) rfl rfl rfl (rd_n lR621 (sub_app (seg_in 6 (X := (Q401F ++ (Q565F ++ []))) rfl seg_hd) sub_nil) (subl_sub lv622 (by kernel_rfl)))) ?_
                      refine t_a (.new rfl rfl) fun b628 fb628 sb628 => ?_
                      refine t_sti 0 (cs := [.int .i64 x612, .int .i64 x613, .slice na625 x614.length nc626, .bool x615]) rfl rfl rfl rfl rfl rfl rfl rfl rfl ?_
                      refine t_keep [1, 5, 6, 7, 8, 9, 10, 11, 12] (σ' := [(1, .int .i64 (wr64 ((Int.tmod (wr64 ((Int.tmod o1 50) + 50)) 50) + 1))), (5, .bool true), (6, .pointer (some ⟨b402, 0, none⟩)), (7, .int .i64 x406), (8, .pointer (some ⟨b434, 0, none⟩)), (9, .pointer (some ⟨b566, 0, none⟩)), (10, .int .i64 x590), (11, .pointer (some ⟨b611, 0, none⟩)), (12, .pointer (some ⟨b628, 0, none⟩))]) (by kernel_rfl) ?_
                      refine t_end ?_
                      show W _ _ _ _ _ _ _
                      refine w_seq ?_
                      refine w_seq ?_
                      by_cases c629 : x598 = x615
                      · rw [if_pos c629] at e593
                        have c629b : (x598 == x615) = true := beq_iff_eq.mpr c629
                        by_cases c630 : (x597.length : Int) = (x614.length : Int)
                        · rw [if_pos c630] at e593
                          have c630b : ((x597.length : Int) == (x614.length : Int)) = true := beq_iff_eq.mpr c630
                          obtain ⟨t631, h632, e593⟩ := bind_of e593
                          by_cases c633 : x595 = t631
                          · rw [if_pos c633] at e593
                            have c633b : (x595 == t631) = true := beq_iff_eq.mpr c633
                            obtain ⟨t634, h635, e593⟩ := bind_of e593
                            by_cases c636 : x596 = t634
                            · rw [if_pos c636] at e593
                              have c636b : (x596 == t634) = true := beq_iff_eq.mpr c636
                              refine w_drwE mixed 38 [.v (.pointer (some ⟨b611, 3, none⟩)), .v (.bool x598), .v (.pointer (some ⟨b628, 3, none⟩)), .v (.bool x615), .v (.bool false), .v (.bool false), .v (.pointer (some ⟨b611, 2, none⟩)), .v (.slice na608 x597.length nc609), .v (.int .i64 (x597.length : Int)), .v (.pointer (some ⟨b628, 2, none⟩)), .v (.slice na625 x614.length nc626), .v (.int .i64 (x614.length : Int)), .v (.bool false), .v (.bool false), .v (.bool false), .v (.pointer (some ⟨b611, 0, none⟩)), .v (.pointer (some ⟨b611, 0, none⟩)), .v (.int .i64 x595), .v (.agg #[.int .i64 t393, .int .i64 t394, .int .i64 t395, .slice (ad N400) t397.length (nN400 / 4), .slice Q401a0 t396.length Q401c0]), .v (.int .i64 (wr64 ((Int.tmod (wr64 ((Int.tmod o1 50) + 50)) 50) + 1))), .v (.pointer (some ⟨b628, 0, none⟩)), .v (.pointer (some ⟨b628, 0, none⟩)), .v (.int .i64 x612), .v (.int .i64 t631), .v (.bool false), .v (.bool false), .v (.bool false), .v (.pointer (some ⟨b611, 0, none⟩)), .v (.pointer (some ⟨b611, 1, none⟩)), .v (.int .i64 x596), .v (.agg #[.int .i64 t393, .int .i64 t394, .int .i64 t395, .slice (ad N400) t397.length (nN400 / 4), .slice Q401a0 t396.length Q401c0]), .v (.int .i64 (wr64 ((Int.tmod (wr64 ((Int.tmod o1 50) + 50)) 50) + 1))), .v (.pointer (some ⟨b628, 0, none⟩)), .v (.pointer (some ⟨b628, 1, none⟩)), .v (.int .i64 x613), .v (.int .i64 t634), .v (.bool false), .v (.bool false)] (by kernel_rfl) ?_ ?_
                              · refine DI.sq 1 (by kernel_rfl) rfl ?_
                                refine .cons (.ld1 rfl rfl rfl (.at 1 rfl rfl)) ?_
                                refine DI.sq 1 (by kernel_rfl) rfl ?_
                                refine .cons (.ld1 rfl rfl rfl (.at 0 rfl rfl)) ?_
                                refine .cons (dv_quiet rfl (congrArg (fun t => some (Value.bool (!t))) c629b)) ?_
                                refine DI.sq 2 (by kernel_rfl) rfl ?_
                                refine .cons (.ld1 rfl rfl rfl (.at 1 rfl rfl)) ?_
                                refine DI.sq 2 (by kernel_rfl) rfl ?_
                                refine .cons (.ld1 rfl rfl rfl (.at 0 rfl rfl)) ?_
                                refine DI.sq 1 (by kernel_rfl) rfl ?_
                                refine .cons (dv_quiet rfl (congrArg (fun t => some (Value.bool (!t))) c630b)) ?_
                                refine DI.sq 4 (by kernel_rfl) rfl ?_
                                refine .cons (.ld1 rfl rfl rfl (.at 1 rfl rfl)) ?_
                                refine .cons (.ldn rfl rfl rfl (.at 4 rfl rfl)) ?_
                                refine DI.sq 3 (by kernel_rfl) rfl ?_
                                refine .cons (.ld1 rfl rfl rfl (.at 0 rfl rfl)) ?_
                                refine .cons (.call (vs := [.agg #[.int .i64 t393, .int .i64 t394, .int .i64 t395, .slice (ad N400) t397.length (nN400 / 4), .slice Q401a0 t396.length Q401c0], .int .i64 (wr64 ((Int.tmod (wr64 ((Int.tmod o1 50) + 50)) 50) + 1)), .int .i64 x612]) rfl rfl (by kernel_rfl) (scale_At_v2.ok hE_ h632)) ?_
                                refine .cons (dv_quiet rfl (congrArg (fun t => some (Value.bool (!t))) c633b)) ?_
                                refine DI.sq 4 (by kernel_rfl) rfl ?_
                                refine .cons (.ld1 rfl rfl rfl (.at 1 rfl rfl)) ?_
                                refine .cons (.ldn rfl rfl rfl (.at 4 rfl rfl)) ?_
                                refine DI.sq 3 (by kernel_rfl) rfl ?_
                                refine .cons (.ld1 rfl rfl rfl (.at 0 rfl rfl)) ?_
                                refine .cons (.call (vs := [.agg #[.int .i64 t393, .int .i64 t394, .int .i64 t395, .slice (ad N400) t397.length (nN400 / 4), .slice Q401a0 t396.length Q401c0], .int .i64 (wr64 ((Int.tmod (wr64 ((Int.tmod o1 50) + 50)) 50) + 1)), .int .i64 x613]) rfl rfl (by kernel_rfl) (scale_At_v2.ok hE_ h635)) ?_
                                refine .cons (dv_quiet rfl (congrArg (fun t => some (Value.bool (!t))) c636b)) ?_
                                refine DI.sq 1 (by kernel_rfl) rfl ?_
                                exact .nil
                              refine fk_q 38 [1, 5, 6, 7, 8, 9, 10, 11, 12, 182] (σ' := [(1, .int .i64 (wr64 ((Int.tmod (wr64 ((Int.tmod o1 50) + 50)) 50) + 1))), (5, .bool true), (6, .pointer (some ⟨b402, 0, none⟩)), (7, .int .i64 x406), (8, .pointer (some ⟨b434, 0, none⟩)), (9, .pointer (some ⟨b566, 0, none⟩)), (10, .int .i64 x590), (11, .pointer (some ⟨b611, 0, none⟩)), (12, .pointer (some ⟨b628, 0, none⟩)), (182, .bool false)]) t_more (by kernel_rfl) ?_
                              refine fk_nil fun all => ?_
                              refine t_keep [1, 5, 6, 7, 8, 9, 10, 11, 12, 182] (σ' := [(1, .int .i64 (wr64 ((Int.tmod (wr64 ((Int.tmod o1 50) + 50)) 50) + 1))), (5, .bool true), (6, .pointer (some ⟨b402, 0, none⟩)), (7, .int .i64 x406), (8, .pointer (some ⟨b434, 0, none⟩)), (9, .pointer (some ⟨b566, 0, none⟩)), (10, .int .i64 x590), (11, .pointer (some ⟨b611, 0, none⟩)), (12, .pointer (some ⟨b628, 0, none⟩)), (182, .bool false)]) (by kernel_rfl) ?_
                              refine t_end ?_
                              show W _ _ _ _ _ _ _
                              refine w_cond rfl (fun c_ => by cases c_) (fun _ => ?_)
                              show W _ _ _ _ _ _ _
                              refine w_skip ?_
                              show W _ _ _ _ _ _ _
                              refine w_seq ?_
                              refine w_reg fun all => ?_
                              refine t_qz 1 [1, 5, 6, 7, 8, 9, 10, 11, 12, 13] (σ' := [(1, .int .i64 (wr64 ((Int.tmod (wr64 ((Int.tmod o1 50) + 50)) 50) + 1))), (5, .bool true), (6, .pointer (some ⟨b402, 0, none⟩)), (7, .int .i64 x406), (8, .pointer (some ⟨b434, 0, none⟩)), (9, .pointer (some ⟨b566, 0, none⟩)), (10, .int .i64 x590), (11, .pointer (some ⟨b611, 0, none⟩)), (12, .pointer (some ⟨b628, 0, none⟩)), (13, .int .i64 0)]) (by kernel_rfl) ?_
                              refine t_end ?_
                              show W _ _ _ _ _ _ _
                              refine w_block ?_
                              refine w_kp [1, 5, 6, 7, 8, 9, 10, 11, 12, 13] (σ' := [(1, .int .i64 (wr64 ((Int.tmod (wr64 ((Int.tmod o1 50) + 50)) 50) + 1))), (5, .bool true), (6, .pointer (some ⟨b402, 0, none⟩)), (7, .int .i64 x406), (8, .pointer (some ⟨b434, 0, none⟩)), (9, .pointer (some ⟨b566, 0, none⟩)), (10, .int .i64 x590), (11, .pointer (some ⟨b611, 0, none⟩)), (12, .pointer (some ⟨b628, 0, none⟩)), (13, .int .i64 0)]) (by kernel_rfl) ?_
                              refine w_loop (fun n_ σ_ H_ S_ => ∃ (x637 : Int), [(1, .int .i64 (wr64 ((Int.tmod (wr64 ((Int.tmod o1 50) + 50)) 50) + 1))), (5, .bool true), (6, .pointer (some ⟨b402, 0, none⟩)), (7, .int .i64 x406), (8, .pointer (some ⟨b434, 0, none⟩)), (9, .pointer (some ⟨b566, 0, none⟩)), (10, .int .i64 x590), (11, .pointer (some ⟨b611, 0, none⟩)), (12, .pointer (some ⟨b628, 0, none⟩)), (13, .int .i64 x637)] = σ_ ∧ (([⟨b628, [.int .i64 x612, .int .i64 x613, .slice na625 x614.length nc626, .bool x615], 4⟩, ⟨b611, [.int .i64 x595, .int .i64 x596, .slice na608 x597.length nc609, .bool x598], 4⟩, ⟨b566, [.int .i64 t553, .int .i64 t554, .int .i64 t555, .int .i64 t556, .int .i64 t557, .int .i64 t558, .int .i64 t559, .int .i64 t560, .int .i64 t561, .int .i64 t562, .slice Q565a0 t563.length Q565c0], 11⟩, ⟨b434, [.int .i64 x411, .int .i64 x412, .int .i64 x413, .int .i64 x414, .int .i64 x415, .int .i64 x416, .int .i64 x417, .int .i64 x418, .int .i64 x419, .int .i64 x420, .slice na431 x421.length nc432], 11⟩, ⟨b402, [.int .i64 t393, .int .i64 t394, .int .i64 t395, .slice (ad N400) t397.length (nN400 / 4), .slice Q401a0 t396.length Q401c0], 5⟩, ⟨b14, [.slice a_t0 t0.length c_t0, .int .i64 t398], 2⟩, ⟨N400, encL E_u84 t397, nN400⟩] : List Own) ++ (Q401F ++ (Q565F ++ []))) = H_ ∧ S = S_ ∧ glyphiclaw20_ScaleCmds.l2 n_ o1 t393 t394 t395 x597 x614 x637 = some s594) _ ⟨0, rfl, rfl, rfl, e593⟩ ?_
                              rintro n767 σ_ H_ S_ ⟨x637, rfl, rfl, rfl, e593⟩
                              cases n767 with
                              | zero => rw [glyphiclaw20_ScaleCmds.l2.eq_1] at e593; cases e593
                              | succ k_ =>
                                rw [glyphiclaw20_ScaleCmds.l2.eq_2] at e593
                                refine w_seq ?_
                                refine w_seq ?_
                                refine w_reg fun all => ?_
                                refine t_qz 2 [1, 5, 6, 7, 8, 9, 10, 11, 12, 13, 183, 184] (σ' := [(1, .int .i64 (wr64 ((Int.tmod (wr64 ((Int.tmod o1 50) + 50)) 50) + 1))), (5, .bool true), (6, .pointer (some ⟨b402, 0, none⟩)), (7, .int .i64 x406), (8, .pointer (some ⟨b434, 0, none⟩)), (9, .pointer (some ⟨b566, 0, none⟩)), (10, .int .i64 x590), (11, .pointer (some ⟨b611, 0, none⟩)), (12, .pointer (some ⟨b628, 0, none⟩)), (13, .int .i64 x637), (183, .int .i64 x637), (184, .pointer (some ⟨b611, 2, none⟩))]) (by kernel_rfl) ?_
                                refine t_v (.ld1 rfl rfl rfl (.at 1 rfl rfl)) ?_
                                by_cases c638 : x637 < (x597.length : Int)
                                · rw [if_pos c638] at e593
                                  have c638b : (decide (x637 < (x597.length : Int))) = true := decide_eq_true c638
                                  refine t_qz 1 [1, 5, 6, 7, 8, 9, 10, 11, 12, 13, 183, 186] (σ' := [(1, .int .i64 (wr64 ((Int.tmod (wr64 ((Int.tmod o1 50) + 50)) 50) + 1))), (5, .bool true), (6, .pointer (some ⟨b402, 0, none⟩)), (7, .int .i64 x406), (8, .pointer (some ⟨b434, 0, none⟩)), (9, .pointer (some ⟨b566, 0, none⟩)), (10, .int .i64 x590), (11, .pointer (some ⟨b611, 0, none⟩)), (12, .pointer (some ⟨b628, 0, none⟩)), (13, .int .i64 x637), (183, .int .i64 x637), (186, .int .i64 (x597.length : Int))]) (by kernel_rfl) ?_
                                  refine t_v (dv_quiet rfl (congrArg (fun t => some (Value.bool t)) c638b)) ?_
                                  refine t_keep [1, 5, 6, 7, 8, 9, 10, 11, 12, 13, 187] (σ' := [(1, .int .i64 (wr64 ((Int.tmod (wr64 ((Int.tmod o1 50) + 50)) 50) + 1))), (5, .bool true), (6, .pointer (some ⟨b402, 0, none⟩)), (7, .int .i64 x406), (8, .pointer (some ⟨b434, 0, none⟩)), (9, .pointer (some ⟨b566, 0, none⟩)), (10, .int .i64 x590), (11, .pointer (some ⟨b611, 0, none⟩)), (12, .pointer (some ⟨b628, 0, none⟩)), (13, .int .i64 x637), (187, .bool true)]) (by kernel_rfl) ?_
                                  refine t_end ?_
                                  show W _ _ _ _ _ _ _
                                  refine w_cond rfl (fun _ => ?_) (fun c_ => by cases c_)
                                  show W _ _ _ _ _ _ _
                                  refine w_skip ?_
                                  show W _ _ _ _ _ _ _
                                  refine w_seq ?_
                                  refine w_block ?_
                                  refine w_seq ?_
                                  refine w_reg fun all => ?_
                                  refine t_qz 1 [1, 5, 6, 7, 8, 9, 10, 11, 12, 13, 190] (σ' := [(1, .int .i64 (wr64 ((Int.tmod (wr64 ((Int.tmod o1 50) + 50)) 50) + 1))), (5, .bool true), (6, .pointer (some ⟨b402, 0, none⟩)), (7, .int .i64 x406), (8, .pointer (some ⟨b434, 0, none⟩)), (9, .pointer (some ⟨b566, 0, none⟩)), (10, .int .i64 x590), (11, .pointer (some ⟨b611, 0, none⟩)), (12, .pointer (some ⟨b628, 0, none⟩)), (13, .int .i64 x637), (190, .pointer (some ⟨b628, 2, none⟩))]) (by kernel_rfl) ?_
                                  refine t_v (.ld1 rfl rfl rfl (.at 0 rfl rfl)) ?_
                                  obtain ⟨⟨x639, x640, x641, x642, x643, x644, x645⟩, hx646, e593⟩ := bind_of e593
                                  try dsimp only at e593
                                  obtain ⟨lb647, lo648, ll649, vs_, la650, lR651, lv652, hrep_, lz653, lu654⟩ := sln_get (E := (flatN E_i647)) nh627 hx646
                                  obtain rfl := (show vs_ = _ from hrep_)
                                  refine t_qz 1 [1, 5, 6, 7, 8, 9, 10, 11, 12, 13, 191, 192] (σ' := [(1, .int .i64 (wr64 ((Int.tmod (wr64 ((Int.tmod o1 50) + 50)) 50) + 1))), (5, .bool true), (6, .pointer (some ⟨b402, 0, none⟩)), (7, .int .i64 x406), (8, .pointer (some ⟨b434, 0, none⟩)), (9, .pointer (some ⟨b566, 0, none⟩)), (10, .int .i64 x590), (11, .pointer (some ⟨b611, 0, none⟩)), (12, .pointer (some ⟨b628, 0, none⟩)), (13, .int .i64 x637), (191, .slice na625 x614.length nc626), (192, .int .i64 x637)]) (by kernel_rfl) ?_
                                  refine t_v (.quiet rfl (ixs_sle rfl rfl la650 lz653 lu654)) ?_
                                  refine t_qz 1 [1, 5, 6, 7, 8, 9, 10, 11, 12, 13, 194] (σ' := [(1, .int .i64 (wr64 ((Int.tmod (wr64 ((Int.tmod o1 50) + 50)) 50) + 1))), (5, .bool true), (6, .pointer (some ⟨b402, 0, none⟩)), (7, .int .i64 x406), (8, .pointer (some ⟨b434, 0, none⟩)), (9, .pointer (some ⟨b566, 0, none⟩)), (10, .int .i64 x590), (11, .pointer (some ⟨b611, 0, none⟩)), (12, .pointer (some ⟨b628, 0, none⟩)), (13, .int .i64 x637), (194, .pointer (some ⟨lb647, lo648 + (x637).toNat * 7 + 0, none⟩))]) (by kernel_rfl) ?_
                                  refine t_v (.ld1 rfl rfl rfl (rd_1 lR651 (sub_app (seg_in 7 (X := (Q401F ++ (Q565F ++ []))) rfl seg_hd) sub_nil) (subl_at lv652 rfl))) ?_
                                  refine t_qz 2 [1, 5, 6, 7, 8, 9, 10, 11, 12, 13, 14] (σ' := [(1, .int .i64 (wr64 ((Int.tmod (wr64 ((Int.tmod o1 50) + 50)) 50) + 1))), (5, .bool true), (6, .pointer (some ⟨b402, 0, none⟩)), (7, .int .i64 x406), (8, .pointer (some ⟨b434, 0, none⟩)), (9, .pointer (some ⟨b566, 0, none⟩)), (10, .int .i64 x590), (11, .pointer (some ⟨b611, 0, none⟩)), (12, .pointer (some ⟨b628, 0, none⟩)), (13, .int .i64 x637), (14, .int .i64 (wr64 (x639 - 1)))]) (by kernel_rfl) ?_
                                  refine t_end ?_
                                  show W _ _ _ _ _ _ _
                                  refine w_seq ?_
                                  obtain ⟨⟨x655, x656, x657, x658, x659, x660, x661⟩, hx662, e593⟩ := bind_of e593
                                  try dsimp only at e593
                                  obtain ⟨lb663, lo664, ll665, vs_, la666, lR667, lv668, hrep_, lz669, lu670⟩ := sln_get (E := (flatN E_i647)) nh610 hx662
                                  obtain rfl := (show vs_ = _ from hrep_)
                                  obtain ⟨⟨x671, x672, x673, x674, x675, x676, x677⟩, hx678, e593⟩ := bind_of e593
                                  try dsimp only at e593
                                  obtain ⟨lb679, lo680, ll681, vs_, la682, lR683, lv684, hrep_, lz685, lu686⟩ := sln_get (E := (flatN E_i647)) nh627 hx678
                                  obtain rfl := (show vs_ = _ from hrep_)
                                  by_cases c687 : x655 = x671
                                  · rw [if_pos c687] at e593
                                    have c687b : (x655 == x671) = true := beq_iff_eq.mpr c687
                                    obtain ⟨⟨x688, x689, x690, x691, x692, x693, x694⟩, hx695, e593⟩ := bind_of e593
                                    try dsimp only at e593
                                    obtain ⟨lb696, lo697, ll698, vs_, la699, lR700, lv701, hrep_, lz702, lu703⟩ := sln_get (E := (flatN E_i647)) nh610 hx695
                                    obtain rfl := (show vs_ = _ from hrep_)
                                    by_cases c704 : (wr64 (x639 - 1)) = 0
                                    · rw [if_pos c704] at e593
                                      have c704b : ((wr64 (x639 - 1)) == 0) = true := beq_iff_eq.mpr c704
                                      obtain ⟨⟨x705, x706, x707, x708, x709, x710, x711⟩, hx712, e593⟩ := bind_of e593
                                      try dsimp only at e593
                                      obtain ⟨lb713, lo714, ll715, vs_, la716, lR717, lv718, hrep_, lz719, lu720⟩ := sln_get (E := (flatN E_i647)) nh627 hx712
                                      obtain rfl := (show vs_ = _ from hrep_)
                                      obtain ⟨t721, h722, e593⟩ := bind_of e593
                                      by_cases c723 : x690 = t721
                                      · rw [if_pos c723] at e593
                                        have c723b : (x690 == t721) = true := beq_iff_eq.mpr c723
                                        refine w_drwE mixed 37 [.v (.pointer (some ⟨b611, 2, none⟩)), .v (.slice na608 x597.length nc609), .v (.int .i64 x637), .v (.pointer (some ⟨lb663, lo664 + (x637).toNat * 7 + 0, none⟩)), .v (.pointer (some ⟨lb663, lo664 + (x637).toNat * 7 + 0, none⟩)), .v (.int .i64 x655), .v (.pointer (some ⟨b628, 2, none⟩)), .v (.slice na625 x614.length nc626), .v (.int .i64 x637), .v (.pointer (some ⟨lb679, lo680 + (x637).toNat * 7 + 0, none⟩)), .v (.pointer (some ⟨lb679, lo680 + (x637).toNat * 7 + 0, none⟩)), .v (.int .i64 x671), .v (.bool false), .v (.bool false), .v (.pointer (some ⟨b611, 2, none⟩)), .v (.slice na608 x597.length nc609), .v (.int .i64 x637), .v (.int .i64 (wr64 (x639 - 1))), .v (.pointer (some ⟨lb696, lo697 + (x637).toNat * 7 + 0, none⟩)), .v (.pointer (some ⟨lb696, lo697 + (x637).toNat * 7 + 1, none⟩)), .v (.pointer (some ⟨lb696, lo697 + (x637).toNat * 7 + 1, none⟩)), .v (.pointer (some ⟨lb696, lo697 + (x637).toNat * 7 + 2, none⟩)), .v (.int .i64 x690), .v (.agg #[.int .i64 t393, .int .i64 t394, .int .i64 t395, .slice (ad N400) t397.length (nN400 / 4), .slice Q401a0 t396.length Q401c0]), .v (.int .i64 (wr64 ((Int.tmod (wr64 ((Int.tmod o1 50) + 50)) 50) + 1))), .v (.pointer (some ⟨b628, 2, none⟩)), .v (.slice na625 x614.length nc626), .v (.int .i64 x637), .v (.int .i64 (wr64 (x639 - 1))), .v (.pointer (some ⟨lb713, lo714 + (x637).toNat * 7 + 0, none⟩)), .v (.pointer (some ⟨lb713, lo714 + (x637).toNat * 7 + 1, none⟩)), .v (.pointer (some ⟨lb713, lo714 + (x637).toNat * 7 + 1, none⟩)), .v (.pointer (some ⟨lb713, lo714 + (x637).toNat * 7 + 2, none⟩)), .v (.int .i64 x707), .v (.int .i64 t721), .v (.bool false), .v (.bool false)] (by kernel_rfl) ?_ ?_
                                        · refine DI.sq 1 (by kernel_rfl) rfl ?_
                                          refine .cons (.ld1 rfl rfl rfl (.at 1 rfl rfl)) ?_
                                          refine DI.sq 1 (by kernel_rfl) rfl ?_
                                          refine .cons (.quiet rfl (ixs_sle rfl rfl la666 lz669 lu670)) ?_
                                          refine DI.sq 1 (by kernel_rfl) rfl ?_
                                          refine .cons (.ld1 rfl rfl rfl (rd_1 lR667 (sub_app (seg_in 7 (X := (Q401F ++ (Q565F ++ []))) rfl seg_hd) (sub_app (seg_in 7 (X := (Q401F ++ (Q565F ++ []))) rfl (seg_tl seg_hd)) sub_nil)) (subl_at lv668 rfl))) ?_
                                          refine DI.sq 1 (by kernel_rfl) rfl ?_
                                          refine .cons (.ld1 rfl rfl rfl (.at 0 rfl rfl)) ?_
                                          refine DI.sq 1 (by kernel_rfl) rfl ?_
                                          refine .cons (.quiet rfl (ixs_sle rfl rfl la682 lz685 lu686)) ?_
                                          refine DI.sq 1 (by kernel_rfl) rfl ?_
                                          refine .cons (.ld1 rfl rfl rfl (rd_1 lR683 (sub_app (seg_in 7 (X := (Q401F ++ (Q565F ++ []))) rfl seg_hd) sub_nil) (subl_at lv684 rfl))) ?_
                                          refine .cons (dv_quiet rfl (congrArg (fun t => some (Value.bool (!t))) c687b)) ?_
                                          refine DI.sq 2 (by kernel_rfl) rfl ?_
                                          refine .cons (.ld1 rfl rfl rfl (.at 1 rfl rfl)) ?_
                                          refine DI.sq 2 (by kernel_rfl) rfl ?_
                                          refine .cons (.quiet rfl (ixs_sle rfl rfl la699 lz702 lu703)) ?_
                                          refine DI.sq 1 (by kernel_rfl) rfl ?_
                                          refine .cons (.quiet rfl (ixa_at (j := 0) (u := .pointer (some ⟨lb696, lo697 + (x637).toNat * 7 + 1, none⟩)) rfl c704b (by kernel_rfl))) ?_
                                          refine DI.sq 1 (by kernel_rfl) rfl ?_
                                          refine .cons (.ld1 rfl rfl rfl (rd_1 lR700 (sub_app (seg_in 7 (X := (Q401F ++ (Q565F ++ []))) rfl seg_hd) (sub_app (seg_in 7 (X := (Q401F ++ (Q565F ++ []))) rfl (seg_tl seg_hd)) sub_nil)) (subl_at lv701 rfl))) ?_
                                          refine .cons (.ldn rfl rfl rfl (.at 4 rfl rfl)) ?_
                                          refine DI.sq 2 (by kernel_rfl) rfl ?_
                                          refine .cons (.ld1 rfl rfl rfl (.at 0 rfl rfl)) ?_
                                          refine DI.sq 2 (by kernel_rfl) rfl ?_
                                          refine .cons (.quiet rfl (ixs_sle rfl rfl la716 lz719 lu720)) ?_
                                          refine DI.sq 1 (by kernel_rfl) rfl ?_
                                          refine .cons (.quiet rfl (ixa_at (j := 0) (u := .pointer (some ⟨lb713, lo714 + (x637).toNat * 7 + 1, none⟩)) rfl c704b (by kernel_rfl))) ?_
                                          refine DI.sq 1 (by kernel_rfl) rfl ?_
                                          refine .cons (.ld1 rfl rfl rfl (rd_1 lR717 (sub_app (seg_in 7 (X := (Q401F ++ (Q565F ++ []))) rfl seg_hd) sub_nil) (subl_at lv718 rfl))) ?_
                                          refine .cons (.call (vs := [.agg #[.int .i64 t393, .int .i64 t394, .int .i64 t395, .slice (ad N400) t397.length (nN400 / 4), .slice Q401a0 t396.length Q401c0], .int .i64 (wr64 ((Int.tmod (wr64 ((Int.tmod o1 50) + 50)) 50) + 1)), .int .i64 x707]) rfl rfl (by kernel_rfl) (scale_At_v2.ok hE_ h722)) ?_
                                          refine .cons (dv_quiet rfl (congrArg (fun t => some (Value.bool (!t))) c723b)) ?_
                                          refine DI.sq 1 (by kernel_rfl) rfl ?_
                                          exact .nil
                                        refine fk_q 37 [1, 5, 6, 7, 8, 9, 10, 11, 12, 13, 233] (σ' := [(1, .int .i64 (wr64 ((Int.tmod (wr64 ((Int.tmod o1 50) + 50)) 50) + 1))), (5, .bool true), (6, .pointer (some ⟨b402, 0, none⟩)), (7, .int .i64 x406), (8, .pointer (some ⟨b434, 0, none⟩)), (9, .pointer (some ⟨b566, 0, none⟩)), (10, .int .i64 x590), (11, .pointer (some ⟨b611, 0, none⟩)), (12, .pointer (some ⟨b628, 0, none⟩)), (13, .int .i64 x637), (233, .bool false)]) t_more (by kernel_rfl) ?_
                                        refine fk_nil fun all => ?_
                                        refine t_keep [1, 5, 6, 7, 8, 9, 10, 11, 12, 13, 233] (σ' := [(1, .int .i64 (wr64 ((Int.tmod (wr64 ((Int.tmod o1 50) + 50)) 50) + 1))), (5, .bool true), (6, .pointer (some ⟨b402, 0, none⟩)), (7, .int .i64 x406), (8, .pointer (some ⟨b434, 0, none⟩)), (9, .pointer (some ⟨b566, 0, none⟩)), (10, .int .i64 x590), (11, .pointer (some ⟨b611, 0, none⟩)), (12, .pointer (some ⟨b628, 0, none⟩)), (13, .int .i64 x637), (233, .bool false)]) (by kernel_rfl) ?_
                                        refine t_end ?_
                                        show W _ _ _ _ _ _ _
                                        refine w_cond rfl (fun c_ => by cases c_) (fun _ => ?_)
                                        show W _ _ _ _ _ _ _
                                        refine w_skip ?_
                                        show W _ _ _ _ _ _ _
                                        refine w_reg fun all => ?_
                                        refine t_qz 3 [1, 5, 6, 7, 8, 9, 10, 11, 12, 13] (σ' := [(1, .int .i64 (wr64 ((Int.tmod (wr64 ((Int.tmod o1 50) + 50)) 50) + 1))), (5, .bool true), (6, .pointer (some ⟨b402, 0, none⟩)), (7, .int .i64 x406), (8, .pointer (some ⟨b434, 0, none⟩)), (9, .pointer (some ⟨b566, 0, none⟩)), (10, .int .i64 x590), (11, .pointer (some ⟨b611, 0, none⟩)), (12, .pointer (some ⟨b628, 0, none⟩)), (13, .int .i64 (wr64 (x637 + 1)))]) (by kernel_rfl) ?_
                                        refine t_end ?_
                                        exact ⟨k_, Nat.lt_succ_self _, [(1, .int .i64 (wr64 ((Int.tmod (wr64 ((Int.tmod o1 50) + 50)) 50) + 1))), (5, .bool true), (6, .pointer (some ⟨b402, 0, none⟩)), (7, .int .i64 x406), (8, .pointer (some ⟨b434, 0, none⟩)), (9, .pointer (some ⟨b566, 0, none⟩)), (10, .int .i64 x590), (11, .pointer (some ⟨b611, 0, none⟩)), (12, .pointer (some ⟨b628, 0, none⟩)), (13, .int .i64 (wr64 (x637 + 1)))], (([⟨b628, [.int .i64 x612, .int .i64 x613, .slice na625 x614.length nc626, .bool x615], 4⟩, ⟨b611, [.int .i64 x595, .int .i64 x596, .slice na608 x597.length nc609, .bool x598], 4⟩, ⟨b566, [.int .i64 t553, .int .i64 t554, .int .i64 t555, .int .i64 t556, .int .i64 t557, .int .i64 t558, .int .i64 t559, .int .i64 t560, .int .i64 t561, .int .i64 t562, .slice Q565a0 t563.length Q565c0], 11⟩, ⟨b434, [.int .i64 x411, .int .i64 x412, .int .i64 x413, .int .i64 x414, .int .i64 x415, .int .i64 x416, .int .i64 x417, .int .i64 x418, .int .i64 x419, .int .i64 x420, .slice na431 x421.length nc432], 11⟩, ⟨b402, [.int .i64 t393, .int .i64 t394, .int .i64 t395, .slice (ad N400) t397.length (nN400 / 4), .slice Q401a0 t396.length Q401c0], 5⟩, ⟨b14, [.slice a_t0 t0.length c_t0, .int .i64 t398], 2⟩, ⟨N400, encL E_u84 t397, nN400⟩] : List Own) ++ (Q401F ++ (Q565F ++ []))), S, keep_sub [1, 5, 6, 7, 8, 9, 10, 11, 12, 13] (by kernel_rfl), VS.selT 7 [0, 0, 0, 0, 0, 0, 0] (by kernel_rfl), wr64 (x637 + 1), rfl, rfl, rfl, e593⟩
                                      · rw [if_neg c723] at e593
                                        have c723b : (x690 == t721) = false := beq_eq_false_iff_ne.mpr c723
                                        refine w_drwE mixed 37 [.v (.pointer (some ⟨b611, 2, none⟩)), .v (.slice na608 x597.length nc609), .v (.int .i64 x637), .v (.pointer (some ⟨lb663, lo664 + (x637).toNat * 7 + 0, none⟩)), .v (.pointer (some ⟨lb663, lo664 + (x637).toNat * 7 + 0, none⟩)), .v (.int .i64 x655), .v (.pointer (some ⟨b628, 2, none⟩)), .v (.slice na625 x614.length nc626), .v (.int .i64 x637), .v (.pointer (some ⟨lb679, lo680 + (x637).toNat * 7 + 0, none⟩)), .v (.pointer (some ⟨lb679, lo680 + (x637).toNat * 7 + 0, none⟩)), .v (.int .i64 x671), .v (.bool false), .v (.bool false), .v (.pointer (some ⟨b611, 2, none⟩)), .v (.slice na608 x597.length nc609), .v (.int .i64 x637), .v (.int .i64 (wr64 (x639 - 1))), .v (.pointer (some ⟨lb696, lo697 + (x637).toNat * 7 + 0, none⟩)), .v (.pointer (some ⟨lb696, lo697 + (x637).toNat * 7 + 1, none⟩)), .v (.pointer (some ⟨lb696, lo697 + (x637).toNat * 7 + 1, none⟩)), .v (.pointer (some ⟨lb696, lo697 + (x637).toNat * 7 + 2, none⟩)), .v (.int .i64 x690), .v (.agg #[.int .i64 t393, .int .i64 t394, .int .i64 t395, .slice (ad N400) t397.length (nN400 / 4), .slice Q401a0 t396.length Q401c0]), .v (.int .i64 (wr64 ((Int.tmod (wr64 ((Int.tmod o1 50) + 50)) 50) + 1))), .v (.pointer (some ⟨b628, 2, none⟩)), .v (.slice na625 x614.length nc626), .v (.int .i64 x637), .v (.int .i64 (wr64 (x639 - 1))), .v (.pointer (some ⟨lb713, lo714 + (x637).toNat * 7 + 0, none⟩)), .v (.pointer (some ⟨lb713, lo714 + (x637).toNat * 7 + 1, none⟩)), .v (.pointer (some ⟨lb713, lo714 + (x637).toNat * 7 + 1, none⟩)), .v (.pointer (some ⟨lb713, lo714 + (x637).toNat * 7 + 2, none⟩)), .v (.int .i64 x707), .v (.int .i64 t721), .v (.bool true), .v (.bool true)] (by kernel_rfl) ?_ ?_
                                        · refine DI.sq 1 (by kernel_rfl) rfl ?_
                                          refine .cons (.ld1 rfl rfl rfl (.at 1 rfl rfl)) ?_
                                          refine DI.sq 1 (by kernel_rfl) rfl ?_
                                          refine .cons (.quiet rfl (ixs_sle rfl rfl la666 lz669 lu670)) ?_
                                          refine DI.sq 1 (by kernel_rfl) rfl ?_
                                          refine .cons (.ld1 rfl rfl rfl (rd_1 lR667 (sub_app (seg_in 7 (X := (Q401F ++ (Q565F ++ []))) rfl seg_hd) (sub_app (seg_in 7 (X := (Q401F ++ (Q565F ++ []))) rfl (seg_tl seg_hd)) sub_nil)) (subl_at lv668 rfl))) ?_
                                          refine DI.sq 1 (by kernel_rfl) rfl ?_
                                          refine .cons (.ld1 rfl rfl rfl (.at 0 rfl rfl)) ?_
                                          refine DI.sq 1 (by kernel_rfl) rfl ?_
                                          refine .cons (.quiet rfl (ixs_sle rfl rfl la682 lz685 lu686)) ?_
                                          refine DI.sq 1 (by kernel_rfl) rfl ?_
                                          refine .cons (.ld1 rfl rfl rfl (rd_1 lR683 (sub_app (seg_in 7 (X := (Q401F ++ (Q565F ++ []))) rfl seg_hd) sub_nil) (subl_at lv684 rfl))) ?_
                                          refine .cons (dv_quiet rfl (congrArg (fun t => some (Value.bool (!t))) c687b)) ?_
                                          refine DI.sq 2 (by kernel_rfl) rfl ?_
                                          refine .cons (.ld1 rfl rfl rfl (.at 1 rfl rfl)) ?_
                                          refine DI.sq 2 (by kernel_rfl) rfl ?_
                                          refine .cons (.quiet rfl (ixs_sle rfl rfl la699 lz702 lu703)) ?_
                                          refine DI.sq 1 (by kernel_rfl) rfl ?_
                                          refine .cons (.quiet rfl (ixa_at (j := 0) (u := .pointer (some ⟨lb696, lo697 + (x637).toNat * 7 + 1, none⟩)) rfl c704b (by kernel_rfl))) ?_
                                          refine DI.sq 1 (by kernel_rfl) rfl ?_
                                          refine .cons (.ld1 rfl rfl rfl (rd_1 lR700 (sub_app (seg_in 7 (X := (Q401F ++ (Q565F ++ []))) rfl seg_hd) (sub_app (seg_in 7 (X := (Q401F ++ (Q565F ++ []))) rfl (seg_tl seg_hd)) sub_nil)) (subl_at lv701 rfl))) ?_
                                          refine .cons (.ldn rfl rfl rfl (.at 4 rfl rfl)) ?_
                                          refine DI.sq 2 (by kernel_rfl) rfl ?_
                                          refine .cons (.ld1 rfl rfl rfl (.at 0 rfl rfl)) ?_
                                          refine DI.sq 2 (by kernel_rfl) rfl ?_
                                          refine .cons (.quiet rfl (ixs_sle rfl rfl la716 lz719 lu720)) ?_
                                          refine DI.sq 1 (by kernel_rfl) rfl ?_
                                          refine .cons (.quiet rfl (ixa_at (j := 0) (u := .pointer (some ⟨lb713, lo714 + (x637).toNat * 7 + 1, none⟩)) rfl c704b (by kernel_rfl))) ?_
                                          refine DI.sq 1 (by kernel_rfl) rfl ?_
                                          refine .cons (.ld1 rfl rfl rfl (rd_1 lR717 (sub_app (seg_in 7 (X := (Q401F ++ (Q565F ++ []))) rfl seg_hd) sub_nil) (subl_at lv718 rfl))) ?_
                                          refine .cons (.call (vs := [.agg #[.int .i64 t393, .int .i64 t394, .int .i64 t395, .slice (ad N400) t397.length (nN400 / 4), .slice Q401a0 t396.length Q401c0], .int .i64 (wr64 ((Int.tmod (wr64 ((Int.tmod o1 50) + 50)) 50) + 1)), .int .i64 x707]) rfl rfl (by kernel_rfl) (scale_At_v2.ok hE_ h722)) ?_
                                          refine .cons (dv_quiet rfl (congrArg (fun t => some (Value.bool (!t))) c723b)) ?_
                                          refine DI.sq 1 (by kernel_rfl) rfl ?_
                                          exact .nil
                                        refine fk_q 37 [1, 5, 6, 7, 8, 9, 10, 11, 12, 13, 233] (σ' := [(1, .int .i64 (wr64 ((Int.tmod (wr64 ((Int.tmod o1 50) + 50)) 50) + 1))), (5, .bool true), (6, .pointer (some ⟨b402, 0, none⟩)), (7, .int .i64 x406), (8, .pointer (some ⟨b434, 0, none⟩)), (9, .pointer (some ⟨b566, 0, none⟩)), (10, .int .i64 x590), (11, .pointer (some ⟨b611, 0, none⟩)), (12, .pointer (some ⟨b628, 0, none⟩)), (13, .int .i64 x637), (233, .bool true)]) t_more (by kernel_rfl) ?_
                                        refine fk_nil fun all => ?_
                                        refine t_keep [1, 5, 6, 7, 8, 9, 10, 11, 12, 13, 233] (σ' := [(1, .int .i64 (wr64 ((Int.tmod (wr64 ((Int.tmod o1 50) + 50)) 50) + 1))), (5, .bool true), (6, .pointer (some ⟨b402, 0, none⟩)), (7, .int .i64 x406), (8, .pointer (some ⟨b434, 0, none⟩)), (9, .pointer (some ⟨b566, 0, none⟩)), (10, .int .i64 x590), (11, .pointer (some ⟨b611, 0, none⟩)), (12, .pointer (some ⟨b628, 0, none⟩)), (13, .int .i64 x637), (233, .bool true)]) (by kernel_rfl) ?_
                                        refine t_end ?_
                                        show W _ _ _ _ _ _ _
                                        refine w_cond rfl (fun _ => ?_) (fun c_ => by cases c_)
                                        show W _ _ _ _ _ _ _
                                        refine w_seq ?_
                                        refine w_reg fun all => ?_
                                        refine t_qz 1 [4] (σ' := [(4, .bool false)]) (by kernel_rfl) ?_
                                        refine t_end ?_
                                        show W _ _ _ _ _ _ _
                                        refine w_ret ?_
                                        obtain rfl := Option.some.inj e593
                                        obtain rfl := Option.some.inj e409
                                        obtain rfl := Option.some.inj e404
                                        have hr_ := Option.some.inj e
                                        exact ⟨[.bool false], [], S, ⟨rfl, trivial⟩, VS.none, congrArg Value.bool hr_, rfl, rfl⟩
                                    · rw [if_neg c704] at e593
                                      have c704b : ((wr64 (x639 - 1)) == 0) = false := beq_eq_false_iff_ne.mpr c704
                                      by_cases c725 : (wr64 (x639 - 1)) = 1
                                      · rw [if_pos c725] at e593
                                        have c725b : ((wr64 (x639 - 1)) == 1) = true := beq_iff_eq.mpr c725
                                        obtain ⟨⟨x726, x727, x728, x729, x730, x731, x732⟩, hx733, e593⟩ := bind_of e593
                                        try dsimp only at e593
                                        obtain ⟨lb734, lo735, ll736, vs_, la737, lR738, lv739, hrep_, lz740, lu741⟩ := sln_get (E := (flatN E_i647)) nh627 hx733
                                        obtain rfl := (show vs_ = _ from hrep_)
                                        obtain ⟨t742, h743, e593⟩ := bind_of e593
                                        by_cases c744 : x692 = t742
                                        · rw [if_pos c744] at e593
                                          have c744b : (x692 == t742) = true := beq_iff_eq.mpr c744
                                          refine w_drwE mixed 37 [.v (.pointer (some ⟨b611, 2, none⟩)), .v (.slice na608 x597.length nc609), .v (.int .i64 x637), .v (.pointer (some ⟨lb663, lo664 + (x637).toNat * 7 + 0, none⟩)), .v (.pointer (some ⟨lb663, lo664 + (x637).toNat * 7 + 0, none⟩)), .v (.int .i64 x655), .v (.pointer (some ⟨b628, 2, none⟩)), .v (.slice na625 x614.length nc626), .v (.int .i64 x637), .v (.pointer (some ⟨lb679, lo680 + (x637).toNat * 7 + 0, none⟩)), .v (.pointer (some ⟨lb679, lo680 + (x637).toNat * 7 + 0, none⟩)), .v (.int .i64 x671), .v (.bool false), .v (.bool false), .v (.pointer (some ⟨b611, 2, none⟩)), .v (.slice na608 x597.length nc609), .v (.int .i64 x637), .v (.int .i64 (wr64 (x639 - 1))), .v (.pointer (some ⟨lb696, lo697 + (x637).toNat * 7 + 0, none⟩)), .v (.pointer (some ⟨lb696, lo697 + (x637).toNat * 7 + 1, none⟩)), .v (.pointer (some ⟨lb696, lo697 + (x637).toNat * 7 + 3, none⟩)), .v (.pointer (some ⟨lb696, lo697 + (x637).toNat * 7 + 4, none⟩)), .v (.int .i64 x692), .v (.agg #[.int .i64 t393, .int .i64 t394, .int .i64 t395, .slice (ad N400) t397.length (nN400 / 4), .slice Q401a0 t396.length Q401c0]), .v (.int .i64 (wr64 ((Int.tmod (wr64 ((Int.tmod o1 50) + 50)) 50) + 1))), .v (.pointer (some ⟨b628, 2, none⟩)), .v (.slice na625 x614.length nc626), .v (.int .i64 x637), .v (.int .i64 (wr64 (x639 - 1))), .v (.pointer (some ⟨lb734, lo735 + (x637).toNat * 7 + 0, none⟩)), .v (.pointer (some ⟨lb734, lo735 + (x637).toNat * 7 + 1, none⟩)), .v (.pointer (some ⟨lb734, lo735 + (x637).toNat * 7 + 3, none⟩)), .v (.pointer (some ⟨lb734, lo735 + (x637).toNat * 7 + 4, none⟩)), .v (.int .i64 x730), .v (.int .i64 t742), .v (.bool false), .v (.bool false)] (by kernel_rfl) ?_ ?_
                                          · refine DI.sq 1 (by kernel_rfl) rfl ?_
                                            refine .cons (.ld1 rfl rfl rfl (.at 1 rfl rfl)) ?_
                                            refine DI.sq 1 (by kernel_rfl) rfl ?_
                                            refine .cons (.quiet rfl (ixs_sle rfl rfl la666 lz669 lu670)) ?_
                                            refine DI.sq 1 (by kernel_rfl) rfl ?_
                                            refine .cons (.ld1 rfl rfl rfl (rd_1 lR667 (sub_app (seg_in 7 (X := (Q401F ++ (Q565F ++ []))) rfl seg_hd) (sub_app (seg_in 7 (X := (Q401F ++ (Q565F ++ []))) rfl (seg_tl seg_hd)) sub_nil)) (subl_at lv668 rfl))) ?_
                                            refine DI.sq 1 (by kernel_rfl) rfl ?_
                                            refine .cons (.ld1 rfl rfl rfl (.at 0 rfl rfl)) ?_
                                            refine DI.sq 1 (by kernel_rfl) rfl ?_
                                            refine .cons (.quiet rfl (ixs_sle rfl rfl la682 lz685 lu686)) ?_
                                            refine DI.sq 1 (by kernel_rfl) rfl ?_
                                            refine .cons (.ld1 rfl rfl rfl (rd_1 lR683 (sub_app (seg_in 7 (X := (Q401F ++ (Q565F ++ []))) rfl seg_hd) sub_nil) (subl_at lv684 rfl))) ?_
                                            refine .cons (dv_quiet rfl (congrArg (fun t => some (Value.bool (!t))) c687b)) ?_
                                            refine DI.sq 2 (by kernel_rfl) rfl ?_
                                            refine .cons (.ld1 rfl rfl rfl (.at 1 rfl rfl)) ?_
                                            refine DI.sq 2 (by kernel_rfl) rfl ?_
                                            refine .cons (.quiet rfl (ixs_sle rfl rfl la699 lz702 lu703)) ?_
                                            refine DI.sq 1 (by kernel_rfl) rfl ?_
                                            refine .cons (.quiet rfl (ixa_at (j := 1) (u := .pointer (some ⟨lb696, lo697 + (x637).toNat * 7 + 3, none⟩)) rfl c725b (by kernel_rfl))) ?_
                                            refine DI.sq 1 (by kernel_rfl) rfl ?_
                                            refine .cons (.ld1 rfl rfl rfl (rd_1 lR700 (sub_app (seg_in 7 (X := (Q401F ++ (Q565F ++ []))) rfl seg_hd) (sub_app (seg_in 7 (X := (Q401F ++ (Q565F ++ []))) rfl (seg_tl seg_hd)) sub_nil)) (subl_at lv701 rfl))) ?_
                                            refine .cons (.ldn rfl rfl rfl (.at 4 rfl rfl)) ?_
                                            refine DI.sq 2 (by kernel_rfl) rfl ?_
                                            refine .cons (.ld1 rfl rfl rfl (.at 0 rfl rfl)) ?_
                                            refine DI.sq 2 (by kernel_rfl) rfl ?_
                                            refine .cons (.quiet rfl (ixs_sle rfl rfl la737 lz740 lu741)) ?_
                                            refine DI.sq 1 (by kernel_rfl) rfl ?_
                                            refine .cons (.quiet rfl (ixa_at (j := 1) (u := .pointer (some ⟨lb734, lo735 + (x637).toNat * 7 + 3, none⟩)) rfl c725b (by kernel_rfl))) ?_
                                            refine DI.sq 1 (by kernel_rfl) rfl ?_
                                            refine .cons (.ld1 rfl rfl rfl (rd_1 lR738 (sub_app (seg_in 7 (X := (Q401F ++ (Q565F ++ []))) rfl seg_hd) sub_nil) (subl_at lv739 rfl))) ?_
                                            refine .cons (.call (vs := [.agg #[.int .i64 t393, .int .i64 t394, .int .i64 t395, .slice (ad N400) t397.length (nN400 / 4), .slice Q401a0 t396.length Q401c0], .int .i64 (wr64 ((Int.tmod (wr64 ((Int.tmod o1 50) + 50)) 50) + 1)), .int .i64 x730]) rfl rfl (by kernel_rfl) (scale_At_v2.ok hE_ h743)) ?_
                                            refine .cons (dv_quiet rfl (congrArg (fun t => some (Value.bool (!t))) c744b)) ?_
                                            refine DI.sq 1 (by kernel_rfl) rfl ?_
                                            exact .nil
                                          refine fk_q 37 [1, 5, 6, 7, 8, 9, 10, 11, 12, 13, 233] (σ' := [(1, .int .i64 (wr64 ((Int.tmod (wr64 ((Int.tmod o1 50) + 50)) 50) + 1))), (5, .bool true), (6, .pointer (some ⟨b402, 0, none⟩)), (7, .int .i64 x406), (8, .pointer (some ⟨b434, 0, none⟩)), (9, .pointer (some ⟨b566, 0, none⟩)), (10, .int .i64 x590), (11, .pointer (some ⟨b611, 0, none⟩)), (12, .pointer (some ⟨b628, 0, none⟩)), (13, .int .i64 x637), (233, .bool false)]) t_more (by kernel_rfl) ?_
                                          refine fk_nil fun all => ?_
                                          refine t_keep [1, 5, 6, 7, 8, 9, 10, 11, 12, 13, 233] (σ' := [(1, .int .i64 (wr64 ((Int.tmod (wr64 ((Int.tmod o1 50) + 50)) 50) + 1))), (5, .bool true), (6, .pointer (some ⟨b402, 0, none⟩)), (7, .int .i64 x406), (8, .pointer (some ⟨b434, 0, none⟩)), (9, .pointer (some ⟨b566, 0, none⟩)), (10, .int .i64 x590), (11, .pointer (some ⟨b611, 0, none⟩)), (12, .pointer (some ⟨b628, 0, none⟩)), (13, .int .i64 x637), (233, .bool false)]) (by kernel_rfl) ?_
                                          refine t_end ?_
                                          show W _ _ _ _ _ _ _
                                          refine w_cond rfl (fun c_ => by cases c_) (fun _ => ?_)
                                          show W _ _ _ _ _ _ _
                                          refine w_skip ?_
                                          show W _ _ _ _ _ _ _
                                          refine w_reg fun all => ?_
                                          refine t_qz 3 [1, 5, 6, 7, 8, 9, 10, 11, 12, 13] (σ' := [(1, .int .i64 (wr64 ((Int.tmod (wr64 ((Int.tmod o1 50) + 50)) 50) + 1))), (5, .bool true), (6, .pointer (some ⟨b402, 0, none⟩)), (7, .int .i64 x406), (8, .pointer (some ⟨b434, 0, none⟩)), (9, .pointer (some ⟨b566, 0, none⟩)), (10, .int .i64 x590), (11, .pointer (some ⟨b611, 0, none⟩)), (12, .pointer (some ⟨b628, 0, none⟩)), (13, .int .i64 (wr64 (x637 + 1)))]) (by kernel_rfl) ?_
                                          refine t_end ?_
                                          exact ⟨k_, Nat.lt_succ_self _, [(1, .int .i64 (wr64 ((Int.tmod (wr64 ((Int.tmod o1 50) + 50)) 50) + 1))), (5, .bool true), (6, .pointer (some ⟨b402, 0, none⟩)), (7, .int .i64 x406), (8, .pointer (some ⟨b434, 0, none⟩)), (9, .pointer (some ⟨b566, 0, none⟩)), (10, .int .i64 x590), (11, .pointer (some ⟨b611, 0, none⟩)), (12, .pointer (some ⟨b628, 0, none⟩)), (13, .int .i64 (wr64 (x637 + 1)))], (([⟨b628, [.int .i64 x612, .int .i64 x613, .slice na625 x614.length nc626, .bool x615], 4⟩, ⟨b611, [.int .i64 x595, .int .i64 x596, .slice na608 x597.length nc609, .bool x598], 4⟩, ⟨b566, [.int .i64 t553, .int .i64 t554, .int .i64 t555, .int .i64 t556, .int .i64 t557, .int .i64 t558, .int .i64 t559, .int .i64 t560, .int .i64 t561, .int .i64 t562, .slice Q565a0 t563.length Q565c0], 11⟩, ⟨b434, [.int .i64 x411, .int .i64 x412, .int .i64 x413, .int .i64 x414, .int .i64 x415, .int .i64 x416, .int .i64 x417, .int .i64 x418, .int .i64 x419, .int .i64 x420, .slice na431 x421.length nc432], 11⟩, ⟨b402, [.int .i64 t393, .int .i64 t394, .int .i64 t395, .slice (ad N400) t397.length (nN400 / 4), .slice Q401a0 t396.length Q401c0], 5⟩, ⟨b14, [.slice a_t0 t0.length c_t0, .int .i64 t398], 2⟩, ⟨N400, encL E_u84 t397, nN400⟩] : List Own) ++ (Q401F ++ (Q565F ++ []))), S, keep_sub [1, 5, 6, 7, 8, 9, 10, 11, 12, 13] (by kernel_rfl), VS.selT 7 [0, 0, 0, 0, 0, 0, 0] (by kernel_rfl), wr64 (x637 + 1), rfl, rfl, rfl, e593⟩
                                        · rw [if_neg c744] at e593
                                          have c744b : (x692 == t742) = false := beq_eq_false_iff_ne.mpr c744
                                          refine w_drwE mixed 37 [.v (.pointer (some ⟨b611, 2, none⟩)), .v (.slice na608 x597.length nc609), .v (.int .i64 x637), .v (.pointer (some ⟨lb663, lo664 + (x637).toNat * 7 + 0, none⟩)), .v (.pointer (some ⟨lb663, lo664 + (x637).toNat * 7 + 0, none⟩)), .v (.int .i64 x655), .v (.pointer (some ⟨b628, 2, none⟩)), .v (.slice na625 x614.length nc626), .v (.int .i64 x637), .v (.pointer (some ⟨lb679, lo680 + (x637).toNat * 7 + 0, none⟩)), .v (.pointer (some ⟨lb679, lo680 + (x637).toNat * 7 + 0, none⟩)), .v (.int .i64 x671), .v (.bool false), .v (.bool false), .v (.pointer (some ⟨b611, 2, none⟩)), .v (.slice na608 x597.length nc609), .v (.int .i64 x637), .v (.int .i64 (wr64 (x639 - 1))), .v (.pointer (some ⟨lb696, lo697 + (x637).toNat * 7 + 0, none⟩)), .v (.pointer (some ⟨lb696, lo697 + (x637).toNat * 7 + 1, none⟩)), .v (.pointer (some ⟨lb696, lo697 + (x637).toNat * 7 + 3, none⟩)), .v (.pointer (some ⟨lb696, lo697 + (x637).toNat * 7 + 4, none⟩)), .v (.int .i64 x692), .v (.agg #[.int .i64 t393, .int .i64 t394, .int .i64 t395, .slice (ad N400) t397.length (nN400 / 4), .slice Q401a0 t396.length Q401c0]), .v (.int .i64 (wr64 ((Int.tmod (wr64 ((Int.tmod o1 50) + 50)) 50) + 1))), .v (.pointer (some ⟨b628, 2, none⟩)), .v (.slice na625 x614.length nc626), .v (.int .i64 x637), .v (.int .i64 (wr64 (x639 - 1))), .v (.pointer (some ⟨lb734, lo735 + (x637).toNat * 7 + 0, none⟩)), .v (.pointer (some ⟨lb734, lo735 + (x637).toNat * 7 + 1, none⟩)), .v (.pointer (some ⟨lb734, lo735 + (x637).toNat * 7 + 3, none⟩)), .v (.pointer (some ⟨lb734, lo735 + (x637).toNat * 7 + 4, none⟩)), .v (.int .i64 x730), .v (.int .i64 t742), .v (.bool true), .v (.bool true)] (by kernel_rfl) ?_ ?_
                                          · refine DI.sq 1 (by kernel_rfl) rfl ?_
                                            refine .cons (.ld1 rfl rfl rfl (.at 1 rfl rfl)) ?_
                                            refine DI.sq 1 (by kernel_rfl) rfl ?_
                                            refine .cons (.quiet rfl (ixs_sle rfl rfl la666 lz669 lu670)) ?_
                                            refine DI.sq 1 (by kernel_rfl) rfl ?_
                                            refine .cons (.ld1 rfl rfl rfl (rd_1 lR667 (sub_app (seg_in 7 (X := (Q401F ++ (Q565F ++ []))) rfl seg_hd) (sub_app (seg_in 7 (X := (Q401F ++ (Q565F ++ []))) rfl (seg_tl seg_hd)) sub_nil)) (subl_at lv668 rfl))) ?_
                                            refine DI.sq 1 (by kernel_rfl) rfl ?_
                                            refine .cons (.ld1 rfl rfl rfl (.at 0 rfl rfl)) ?_
                                            refine DI.sq 1 (by kernel_rfl) rfl ?_
                                            refine .cons (.quiet rfl (ixs_sle rfl rfl la682 lz685 lu686)) ?_
                                            refine DI.sq 1 (by kernel_rfl) rfl ?_
                                            refine .cons (.ld1 rfl rfl rfl (rd_1 lR683 (sub_app (seg_in 7 (X := (Q401F ++ (Q565F ++ []))) rfl seg_hd) sub_nil) (subl_at lv684 rfl))) ?_
                                            refine .cons (dv_quiet rfl (congrArg (fun t => some (Value.bool (!t))) c687b)) ?_
                                            refine DI.sq 2 (by kernel_rfl) rfl ?_
                                            refine .cons (.ld1 rfl rfl rfl (.at 1 rfl rfl)) ?_
                                            refine DI.sq 2 (by kernel_rfl) rfl ?_
                                            refine .cons (.quiet rfl (ixs_sle rfl rfl la699 lz702 lu703)) ?_
                                            refine DI.sq 1 (by kernel_rfl) rfl ?_
                                            refine .cons (.quiet rfl (ixa_at (j := 1) (u := .pointer (some ⟨lb696, lo697 + (x637).toNat * 7 + 3, none⟩)) rfl c725b (by kernel_rfl))) ?_
                                            refine DI.sq 1 (by kernel_rfl) rfl ?_
                                            refine .cons (.ld1 rfl rfl rfl (rd_1 lR700 (sub_app (seg_in 7 (X := (Q401F ++ (Q565F ++ []))) rfl seg_hd) (sub_app (seg_in 7 (X := (Q401F ++ (Q565F ++ []))) rfl (seg_tl seg_hd)) sub_nil)) (subl_at lv701 rfl))) ?_
                                            refine .cons (.ldn rfl rfl rfl (.at 4 rfl rfl)) ?_
                                            refine DI.sq 2 (by kernel_rfl) rfl ?_
                                            refine .cons (.ld1 rfl rfl rfl (.at 0 rfl rfl)) ?_
                                            refine DI.sq 2 (by kernel_rfl) rfl ?_
                                            refine .cons (.quiet rfl (ixs_sle rfl rfl la737 lz740 lu741)) ?_
                                            refine DI.sq 1 (by kernel_rfl) rfl ?_
                                            refine .cons (.quiet rfl (ixa_at (j := 1) (u := .pointer (some ⟨lb734, lo735 + (x637).toNat * 7 + 3, none⟩)) rfl c725b (by kernel_rfl))) ?_
                                            refine DI.sq 1 (by kernel_rfl) rfl ?_
                                            refine .cons (.ld1 rfl rfl rfl (rd_1 lR738 (sub_app (seg_in 7 (X := (Q401F ++ (Q565F ++ []))) rfl seg_hd) sub_nil) (subl_at lv739 rfl))) ?_
                                            refine .cons (.call (vs := [.agg #[.int .i64 t393, .int .i64 t394, .int .i64 t395, .slice (ad N400) t397.length (nN400 / 4), .slice Q401a0 t396.length Q401c0], .int .i64 (wr64 ((Int.tmod (wr64 ((Int.tmod o1 50) + 50)) 50) + 1)), .int .i64 x730]) rfl rfl (by kernel_rfl) (scale_At_v2.ok hE_ h743)) ?_
                                            refine .cons (dv_quiet rfl (congrArg (fun t => some (Value.bool (!t))) c744b)) ?_
                                            refine DI.sq 1 (by kernel_rfl) rfl ?_
                                            exact .nil
                                          refine fk_q 37 [1, 5, 6, 7, 8, 9, 10, 11, 12, 13, 233] (σ' := [(1, .int .i64 (wr64 ((Int.tmod (wr64 ((Int.tmod o1 50) + 50)) 50) + 1))), (5, .bool true), (6, .pointer (some ⟨b402, 0, none⟩)), (7, .int .i64 x406), (8, .pointer (some ⟨b434, 0, none⟩)), (9, .pointer (some ⟨b566, 0, none⟩)), (10, .int .i64 x590), (11, .pointer (some ⟨b611, 0, none⟩)), (12, .pointer (some ⟨b628, 0, none⟩)), (13, .int .i64 x637), (233, .bool true)]) t_more (by kernel_rfl) ?_
                                          refine fk_nil fun all => ?_
                                          refine t_keep [1, 5, 6, 7, 8, 9, 10, 11, 12, 13, 233] (σ' := [(1, .int .i64 (wr64 ((Int.tmod (wr64 ((Int.tmod o1 50) + 50)) 50) + 1))), (5, .bool true), (6, .pointer (some ⟨b402, 0, none⟩)), (7, .int .i64 x406), (8, .pointer (some ⟨b434, 0, none⟩)), (9, .pointer (some ⟨b566, 0, none⟩)), (10, .int .i64 x590), (11, .pointer (some ⟨b611, 0, none⟩)), (12, .pointer (some ⟨b628, 0, none⟩)), (13, .int .i64 x637), (233, .bool true)]) (by kernel_rfl) ?_
                                          refine t_end ?_
                                          show W _ _ _ _ _ _ _
                                          refine w_cond rfl (fun _ => ?_) (fun c_ => by cases c_)
                                          show W _ _ _ _ _ _ _
                                          refine w_seq ?_
                                          refine w_reg fun all => ?_
                                          refine t_qz 1 [4] (σ' := [(4, .bool false)]) (by kernel_rfl) ?_
                                          refine t_end ?_
                                          show W _ _ _ _ _ _ _
                                          refine w_ret ?_
                                          obtain rfl := Option.some.inj e593
                                          obtain rfl := Option.some.inj e409
                                          obtain rfl := Option.some.inj e404
                                          have hr_ := Option.some.inj e
                                          exact ⟨[.bool false], [], S, ⟨rfl, trivial⟩, VS.none, congrArg Value.bool hr_, rfl, rfl⟩
                                      · rw [if_neg c725] at e593
                                        have c725b : ((wr64 (x639 - 1)) == 1) = false := beq_eq_false_iff_ne.mpr c725
                                        by_cases c746 : (wr64 (x639 - 1)) = 2
                                        · rw [if_pos c746] at e593
                                          have c746b : ((wr64 (x639 - 1)) == 2) = true := beq_iff_eq.mpr c746
                                          obtain ⟨⟨x747, x748, x749, x750, x751, x752, x753⟩, hx754, e593⟩ := bind_of e593
                                          try dsimp only at e593
                                          obtain ⟨lb755, lo756, ll757, vs_, la758, lR759, lv760, hrep_, lz761, lu762⟩ := sln_get (E := (flatN E_i647)) nh627 hx754
                                          obtain rfl := (show vs_ = _ from hrep_)
                                          obtain ⟨t763, h764, e593⟩ := bind_of e593
                                          by_cases c765 : x694 = t763
                                          · rw [if_pos c765] at e593
                                            have c765b : (x694 == t763) = true := beq_iff_eq.mpr c765
                                            refine w_drwE mixed 37 [.v (.pointer (some ⟨b611, 2, none⟩)), .v (.slice na608 x597.length nc609), .v (.int .i64 x637), .v (.pointer (some ⟨lb663, lo664 + (x637).toNat * 7 + 0, none⟩)), .v (.pointer (some ⟨lb663, lo664 + (x637).toNat * 7 + 0, none⟩)), .v (.int .i64 x655), .v (.pointer (some ⟨b628, 2, none⟩)), .v (.slice na625 x614.length nc626), .v (.int .i64 x637), .v (.pointer (some ⟨lb679, lo680 + (x637).toNat * 7 + 0, none⟩)), .v (.pointer (some ⟨lb679, lo680 + (x637).toNat * 7 + 0, none⟩)), .v (.int .i64 x671), .v (.bool false), .v (.bool false), .v (.pointer (some ⟨b611, 2, none⟩)), .v (.slice na608 x597.length nc609), .v (.int .i64 x637), .v (.int .i64 (wr64 (x639 - 1))), .v (.pointer (some ⟨lb696, lo697 + (x637).toNat * 7 + 0, none⟩)), .v (.pointer (some ⟨lb696, lo697 + (x637).toNat * 7 + 1, none⟩)), .v (.pointer (some ⟨lb696, lo697 + (x637).toNat * 7 + 5, none⟩)), .v (.pointer (some ⟨lb696, lo697 + (x637).toNat * 7 + 6, none⟩)), .v (.int .i64 x694), .v (.agg #[.int .i64 t393, .int .i64 t394, .int .i64 t395, .slice (ad N400) t397.length (nN400 / 4), .slice Q401a0 t396.length Q401c0]), .v (.int .i64 (wr64 ((Int.tmod (wr64 ((Int.tmod o1 50) + 50)) 50) + 1))), .v (.pointer (some ⟨b628, 2, none⟩)), .v (.slice na625 x614.length nc626), .v (.int .i64 x637), .v (.int .i64 (wr64 (x639 - 1))), .v (.pointer (some ⟨lb755, lo756 + (x637).toNat * 7 + 0, none⟩)), .v (.pointer (some ⟨lb755, lo756 + (x637).toNat * 7 + 1, none⟩)), .v (.pointer (some ⟨lb755, lo756 + (x637).toNat * 7 + 5, none⟩)), .v (.pointer (some ⟨lb755, lo756 + (x637).toNat * 7 + 6, none⟩)), .v (.int .i64 x753), .v (.int .i64 t763), .v (.bool false), .v (.bool false)] (by kernel_rfl) ?_ ?_
                                            · refine DI.sq 1 (by kernel_rfl) rfl ?_
                                              refine .cons (.ld1 rfl rfl rfl (.at 1 rfl rfl)) ?_
                                              refine DI.sq 1 (by kernel_rfl) rfl ?_
                                              refine .cons (.quiet rfl (ixs_sle rfl rfl la666 lz669 lu670)) ?_
                                              refine DI.sq 1 (by kernel_rfl) rfl ?_
                                              refine .cons (.ld1 rfl rfl rfl (rd_1 lR667 (sub_app (seg_in 7 (X := (Q401F ++ (Q565F ++ []))) rfl seg_hd) (sub_app (seg_in 7 (X := (Q401F ++ (Q565F ++ []))) rfl (seg_tl seg_hd)) sub_nil)) (subl_at lv668 rfl))) ?_
                                              refine DI.sq 1 (by kernel_rfl) rfl ?_
                                              refine .cons (.ld1 rfl rfl rfl (.at 0 rfl rfl)) ?_
                                              refine DI.sq 1 (by kernel_rfl) rfl ?_
                                              refine .cons (.quiet rfl (ixs_sle rfl rfl la682 lz685 lu686)) ?_
                                              refine DI.sq 1 (by kernel_rfl) rfl ?_
                                              refine .cons (.ld1 rfl rfl rfl (rd_1 lR683 (sub_app (seg_in 7 (X := (Q401F ++ (Q565F ++ []))) rfl seg_hd) sub_nil) (subl_at lv684 rfl))) ?_
                                              refine .cons (dv_quiet rfl (congrArg (fun t => some (Value.bool (!t))) c687b)) ?_
                                              refine DI.sq 2 (by kernel_rfl) rfl ?_
                                              refine .cons (.ld1 rfl rfl rfl (.at 1 rfl rfl)) ?_
                                              refine DI.sq 2 (by kernel_rfl) rfl ?_
                                              refine .cons (.quiet rfl (ixs_sle rfl rfl la699 lz702 lu703)) ?_
                                              refine DI.sq 1 (by kernel_rfl) rfl ?_
                                              refine .cons (.quiet rfl (ixa_at (j := 2) (u := .pointer (some ⟨lb696, lo697 + (x637).toNat * 7 + 5, none⟩)) rfl c746b (by kernel_rfl))) ?_
                                              refine DI.sq 1 (by kernel_rfl) rfl ?_
                                              refine .cons (.ld1 rfl rfl rfl (rd_1 lR700 (sub_app (seg_in 7 (X := (Q401F ++ (Q565F ++ []))) rfl seg_hd) (sub_app (seg_in 7 (X := (Q401F ++ (Q565F ++ []))) rfl (seg_tl seg_hd)) sub_nil)) (subl_at lv701 rfl))) ?_
                                              refine .cons (.ldn rfl rfl rfl (.at 4 rfl rfl)) ?_
                                              refine DI.sq 2 (by kernel_rfl) rfl ?_
                                              refine .cons (.ld1 rfl rfl rfl (.at 0 rfl rfl)) ?_
                                              refine DI.sq 2 (by kernel_rfl) rfl ?_
                                              refine .cons (.quiet rfl (ixs_sle rfl rfl la758 lz761 lu762)) ?_
                                              refine DI.sq 1 (by kernel_rfl) rfl ?_
                                              refine .cons (.quiet rfl (ixa_at (j := 2) (u := .pointer (some ⟨lb755, lo756 + (x637).toNat * 7 + 5, none⟩)) rfl c746b (by kernel_rfl))) ?_
                                              refine DI.sq 1 (by kernel_rfl) rfl ?_
                                              refine .cons (.ld1 rfl rfl rfl (rd_1 lR759 (sub_app (seg_in 7 (X := (Q401F ++ (Q565F ++ []))) rfl seg_hd) sub_nil) (subl_at lv760 rfl))) ?_
                                              refine .cons (.call (vs := [.agg #[.int .i64 t393, .int .i64 t394, .int .i64 t395, .slice (ad N400) t397.length (nN400 / 4), .slice Q401a0 t396.length Q401c0], .int .i64 (wr64 ((Int.tmod (wr64 ((Int.tmod o1 50) + 50)) 50) + 1)), .int .i64 x753]) rfl rfl (by kernel_rfl) (scale_At_v2.ok hE_ h764)) ?_
                                              refine .cons (dv_quiet rfl (congrArg (fun t => some (Value.bool (!t))) c765b)) ?_
                                              refine DI.sq 1 (by kernel_rfl) rfl ?_
                                              exact .nil
                                            refine fk_q 37 [1, 5, 6, 7, 8, 9, 10, 11, 12, 13, 233] (σ' := [(1, .int .i64 (wr64 ((Int.tmod (wr64 ((Int.tmod o1 50) + 50)) 50) + 1))), (5, .bool true), (6, .pointer (some ⟨b402, 0, none⟩)), (7, .int .i64 x406), (8, .pointer (some ⟨b434, 0, none⟩)), (9, .pointer (some ⟨b566, 0, none⟩)), (10, .int .i64 x590), (11, .pointer (some ⟨b611, 0, none⟩)), (12, .pointer (some ⟨b628, 0, none⟩)), (13, .int .i64 x637), (233, .bool false)]) t_more (by kernel_rfl) ?_
                                            refine fk_nil fun all => ?_
                                            refine t_keep [1, 5, 6, 7, 8, 9, 10, 11, 12, 13, 233] (σ' := [(1, .int .i64 (wr64 ((Int.tmod (wr64 ((Int.tmod o1 50) + 50)) 50) + 1))), (5, .bool true), (6, .pointer (some ⟨b402, 0, none⟩)), (7, .int .i64 x406), (8, .pointer (some ⟨b434, 0, none⟩)), (9, .pointer (some ⟨b566, 0, none⟩)), (10, .int .i64 x590), (11, .pointer (some ⟨b611, 0, none⟩)), (12, .pointer (some ⟨b628, 0, none⟩)), (13, .int .i64 x637), (233, .bool false)]) (by kernel_rfl) ?_
                                            refine t_end ?_
                                            show W _ _ _ _ _ _ _
                                            refine w_cond rfl (fun c_ => by cases c_) (fun _ => ?_)
                                            show W _ _ _ _ _ _ _
                                            refine w_skip ?_
                                            show W _ _ _ _ _ _ _
                                            refine w_reg fun all => ?_
                                            refine t_qz 3 [1, 5, 6, 7, 8, 9, 10, 11, 12, 13] (σ' := [(1, .int .i64 (wr64 ((Int.tmod (wr64 ((Int.tmod o1 50) + 50)) 50) + 1))), (5, .bool true), (6, .pointer (some ⟨b402, 0, none⟩)), (7, .int .i64 x406), (8, .pointer (some ⟨b434, 0, none⟩)), (9, .pointer (some ⟨b566, 0, none⟩)), (10, .int .i64 x590), (11, .pointer (some ⟨b611, 0, none⟩)), (12, .pointer (some ⟨b628, 0, none⟩)), (13, .int .i64 (wr64 (x637 + 1)))]) (by kernel_rfl) ?_
                                            refine t_end ?_
                                            exact ⟨k_, Nat.lt_succ_self _, [(1, .int .i64 (wr64 ((Int.tmod (wr64 ((Int.tmod o1 50) + 50)) 50) + 1))), (5, .bool true), (6, .pointer (some ⟨b402, 0, none⟩)), (7, .int .i64 x406), (8, .pointer (some ⟨b434, 0, none⟩)), (9, .pointer (some ⟨b566, 0, none⟩)), (10, .int .i64 x590), (11, .pointer (some ⟨b611, 0, none⟩)), (12, .pointer (some ⟨b628, 0, none⟩)), (13, .int .i64 (wr64 (x637 + 1)))], (([⟨b628, [.int .i64 x612, .int .i64 x613, .slice na625 x614.length nc626, .bool x615], 4⟩, ⟨b611, [.int .i64 x595, .int .i64 x596, .slice na608 x597.length nc609, .bool x598], 4⟩, ⟨b566, [.int .i64 t553, .int .i64 t554, .int .i64 t555, .int .i64 t556, .int .i64 t557, .int .i64 t558, .int .i64 t559, .int .i64 t560, .int .i64 t561, .int .i64 t562, .slice Q565a0 t563.length Q565c0], 11⟩, ⟨b434, [.int .i64 x411, .int .i64 x412, .int .i64 x413, .int .i64 x414, .int .i64 x415, .int .i64 x416, .int .i64 x417, .int .i64 x418, .int .i64 x419, .int .i64 x420, .slice na431 x421.length nc432], 11⟩, ⟨b402, [.int .i64 t393, .int .i64 t394, .int .i64 t395, .slice (ad N400) t397.length (nN400 / 4), .slice Q401a0 t396.length Q401c0], 5⟩, ⟨b14, [.slice a_t0 t0.length c_t0, .int .i64 t398], 2⟩, ⟨N400, encL E_u84 t397, nN400⟩] : List Own) ++ (Q401F ++ (Q565F ++ []))), S, keep_sub [1, 5, 6, 7, 8, 9, 10, 11, 12, 13] (by kernel_rfl), VS.selT 7 [0, 0, 0, 0, 0, 0, 0] (by kernel_rfl), wr64 (x637 + 1), rfl, rfl, rfl, e593⟩
                                          · rw [if_neg c765] at e593
                                            have c765b : (x694 == t763) = false := beq_eq_false_iff_ne.mpr c765
                                            refine w_drwE mixed 37 [.v (.pointer (some ⟨b611, 2, none⟩)), .v (.slice na608 x597.length nc609), .v (.int .i64 x637), .v (.pointer (some ⟨lb663, lo664 + (x637).toNat * 7 + 0, none⟩)), .v (.pointer (some ⟨lb663, lo664 + (x637).toNat * 7 + 0, none⟩)), .v (.int .i64 x655), .v (.pointer (some ⟨b628, 2, none⟩)), .v (.slice na625 x614.length nc626), .v (.int .i64 x637), .v (.pointer (some ⟨lb679, lo680 + (x637).toNat * 7 + 0, none⟩)), .v (.pointer (some ⟨lb679, lo680 + (x637).toNat * 7 + 0, none⟩)), .v (.int .i64 x671), .v (.bool false), .v (.bool false), .v (.pointer (some ⟨b611, 2, none⟩)), .v (.slice na608 x597.length nc609), .v (.int .i64 x637), .v (.int .i64 (wr64 (x639 - 1))), .v (.pointer (some ⟨lb696, lo697 + (x637).toNat * 7 + 0, none⟩)), .v (.pointer (some ⟨lb696, lo697 + (x637).toNat * 7 + 1, none⟩)), .v (.pointer (some ⟨lb696, lo697 + (x637).toNat * 7 + 5, none⟩)), .v (.pointer (some ⟨lb696, lo697 + (x637).toNat * 7 + 6, none⟩)), .v (.int .i64 x694), .v (.agg #[.int .i64 t393, .int .i64 t394, .int .i64 t395, .slice (ad N400) t397.length (nN400 / 4), .slice Q401a0 t396.length Q401c0]), .v (.int .i64 (wr64 ((Int.tmod (wr64 ((Int.tmod o1 50) + 50)) 50) + 1))), .v (.pointer (some ⟨b628, 2, none⟩)), .v (.slice na625 x614.length nc626), .v (.int .i64 x637), .v (.int .i64 (wr64 (x639 - 1))), .v (.pointer (some ⟨lb755, lo756 + (x637).toNat * 7 + 0, none⟩)), .v (.pointer (some ⟨lb755, lo756 + (x637).toNat * 7 + 1, none⟩)), .v (.pointer (some ⟨lb755, lo756 + (x637).toNat * 7 + 5, none⟩)), .v (.pointer (some ⟨lb755, lo756 + (x637).toNat * 7 + 6, none⟩)), .v (.int .i64 x753), .v (.int .i64 t763), .v (.bool true), .v (.bool true)] (by kernel_rfl) ?_ ?_
                                            · refine DI.sq 1 (by kernel_rfl) rfl ?_
                                              refine .cons (.ld1 rfl rfl rfl (.at 1 rfl rfl)) ?_
                                              refine DI.sq 1 (by kernel_rfl) rfl ?_
                                              refine .cons (.quiet rfl (ixs_sle rfl rfl la666 lz669 lu670)) ?_
                                              refine DI.sq 1 (by kernel_rfl) rfl ?_
                                              refine .cons (.ld1 rfl rfl rfl (rd_1 lR667 (sub_app (seg_in 7 (X := (Q401F ++ (Q565F ++ []))) rfl seg_hd) (sub_app (seg_in 7 (X := (Q401F ++ (Q565F ++ []))) rfl (seg_tl seg_hd)) sub_nil)) (subl_at lv668 rfl))) ?_
                                              refine DI.sq 1 (by kernel_rfl) rfl ?_
                                              refine .cons (.ld1 rfl rfl rfl (.at 0 rfl rfl)) ?_
                                              refine DI.sq 1 (by kernel_rfl) rfl ?_
                                              refine .cons (.quiet rfl (ixs_sle rfl rfl la682 lz685 lu686)) ?_
                                              refine DI.sq 1 (by kernel_rfl) rfl ?_
                                              refine .cons (.ld1 rfl rfl rfl (rd_1 lR683 (sub_app (seg_in 7 (X := (Q401F ++ (Q565F ++ []))) rfl seg_hd) sub_nil) (subl_at lv684 rfl))) ?_
                                              refine .cons (dv_quiet rfl (congrArg (fun t => some (Value.bool (!t))) c687b)) ?_
                                              refine DI.sq 2 (by kernel_rfl) rfl ?_
                                              refine .cons (.ld1 rfl rfl rfl (.at 1 rfl rfl)) ?_
                                              refine DI.sq 2 (by kernel_rfl) rfl ?_
                                              refine .cons (.quiet rfl (ixs_sle rfl rfl la699 lz702 lu703)) ?_
                                              refine DI.sq 1 (by kernel_rfl) rfl ?_
                                              refine .cons (.quiet rfl (ixa_at (j := 2) (u := .pointer (some ⟨lb696, lo697 + (x637).toNat * 7 + 5, none⟩)) rfl c746b (by kernel_rfl))) ?_
                                              refine DI.sq 1 (by kernel_rfl) rfl ?_
                                              refine .cons (.ld1 rfl rfl rfl (rd_1 lR700 (sub_app (seg_in 7 (X := (Q401F ++ (Q565F ++ []))) rfl seg_hd) (sub_app (seg_in 7 (X := (Q401F ++ (Q565F ++ []))) rfl (seg_tl seg_hd)) sub_nil)) (subl_at lv701 rfl))) ?_
                                              refine .cons (.ldn rfl rfl rfl (.at 4 rfl rfl)) ?_
                                              refine DI.sq 2 (by kernel_rfl) rfl ?_
                                              refine .cons (.ld1 rfl rfl rfl (.at 0 rfl rfl)) ?_
                                              refine DI.sq 2 (by kernel_rfl) rfl ?_
                                              refine .cons (.quiet rfl (ixs_sle rfl rfl la758 lz761 lu762)) ?_
                                              refine DI.sq 1 (by kernel_rfl) rfl ?_
                                              refine .cons (.quiet rfl (ixa_at (j := 2) (u := .pointer (some ⟨lb755, lo756 + (x637).toNat * 7 + 5, none⟩)) rfl c746b (by kernel_rfl))) ?_
                                              refine DI.sq 1 (by kernel_rfl) rfl ?_
                                              refine .cons (.ld1 rfl rfl rfl (rd_1 lR759 (sub_app (seg_in 7 (X := (Q401F ++ (Q565F ++ []))) rfl seg_hd) sub_nil) (subl_at lv760 rfl))) ?_
                                              refine .cons (.call (vs := [.agg #[.int .i64 t393, .int .i64 t394, .int .i64 t395, .slice (ad N400) t397.length (nN400 / 4), .slice Q401a0 t396.length Q401c0], .int .i64 (wr64 ((Int.tmod (wr64 ((Int.tmod o1 50) + 50)) 50) + 1)), .int .i64 x753]) rfl rfl (by kernel_rfl) (scale_At_v2.ok hE_ h764)) ?_
                                              refine .cons (dv_quiet rfl (congrArg (fun t => some (Value.bool (!t))) c765b)) ?_
                                              refine DI.sq 1 (by kernel_rfl) rfl ?_
                                              exact .nil
                                            refine fk_q 37 [1, 5, 6, 7, 8, 9, 10, 11, 12, 13, 233] (σ' := [(1, .int .i64 (wr64 ((Int.tmod (wr64 ((Int.tmod o1 50) + 50)) 50) + 1))), (5, .bool true), (6, .pointer (some ⟨b402, 0, none⟩)), (7, .int .i64 x406), (8, .pointer (some ⟨b434, 0, none⟩)), (9, .pointer (some ⟨b566, 0, none⟩)), (10, .int .i64 x590), (11, .pointer (some ⟨b611, 0, none⟩)), (12, .pointer (some ⟨b628, 0, none⟩)), (13, .int .i64 x637), (233, .bool true)]) t_more (by kernel_rfl) ?_
                                            refine fk_nil fun all => ?_
                                            refine t_keep [1, 5, 6, 7, 8, 9, 10, 11, 12, 13, 233] (σ' := [(1, .int .i64 (wr64 ((Int.tmod (wr64 ((Int.tmod o1 50) + 50)) 50) + 1))), (5, .bool true), (6, .pointer (some ⟨b402, 0, none⟩)), (7, .int .i64 x406), (8, .pointer (some ⟨b434, 0, none⟩)), (9, .pointer (some ⟨b566, 0, none⟩)), (10, .int .i64 x590), (11, .pointer (some ⟨b611, 0, none⟩)), (12, .pointer (some ⟨b628, 0, none⟩)), (13, .int .i64 x637), (233, .bool true)]) (by kernel_rfl) ?_
                                            refine t_end ?_
                                            show W _ _ _ _ _ _ _
                                            refine w_cond rfl (fun _ => ?_) (fun c_ => by cases c_)
                                            show W _ _ _ _ _ _ _
                                            refine w_seq ?_
                                            refine w_reg fun all => ?_
                                            refine t_qz 1 [4] (σ' := [(4, .bool false)]) (by kernel_rfl) ?_
                                            refine t_end ?_
                                            show W _ _ _ _ _ _ _
                                            refine w_ret ?_
                                            obtain rfl := Option.some.inj e593
                                            obtain rfl := Option.some.inj e409
                                            obtain rfl := Option.some.inj e404
                                            have hr_ := Option.some.inj e
                                            exact ⟨[.bool false], [], S, ⟨rfl, trivial⟩, VS.none, congrArg Value.bool hr_, rfl, rfl⟩
                                        · rw [if_neg c746] at e593
                                          have c746b : ((wr64 (x639 - 1)) == 2) = false := beq_eq_false_iff_ne.mpr c746
                                          cases e593
                                  · rw [if_neg c687] at e593
                                    have c687b : (x655 == x671) = false := beq_eq_false_iff_ne.mpr c687
                                    refine w_drwE mixed 37 [.v (.pointer (some ⟨b611, 2, none⟩)), .v (.slice na608 x597.length nc609), .v (.int .i64 x637), .v (.pointer (some ⟨lb663, lo664 + (x637).toNat * 7 + 0, none⟩)), .v (.pointer (some ⟨lb663, lo664 + (x637).toNat * 7 + 0, none⟩)), .v (.int .i64 x655), .v (.pointer (some ⟨b628, 2, none⟩)), .v (.slice na625 x614.length nc626), .v (.int .i64 x637), .v (.pointer (some ⟨lb679, lo680 + (x637).toNat * 7 + 0, none⟩)), .v (.pointer (some ⟨lb679, lo680 + (x637).toNat * 7 + 0, none⟩)), .v (.int .i64 x671), .v (.bool true), .v (.bool true), .v (.tuple #[]), .v (.tuple #[]), .v (.tuple #[]), .v (.tuple #[]), .v (.tuple #[]), .v (.tuple #[]), .v (.tuple #[]), .v (.tuple #[]), .v (.tuple #[]), .v (.tuple #[]), .v (.tuple #[]), .v (.tuple #[]), .v (.tuple #[]), .v (.tuple #[]), .v (.tuple #[]), .v (.tuple #[]), .v (.tuple #[]), .v (.tuple #[]), .v (.tuple #[]), .v (.tuple #[]), .v (.tuple #[]), .v (.tuple #[]), .v (.bool true)] (by kernel_rfl) ?_ ?_
                                    · refine DI.sq 1 (by kernel_rfl) rfl ?_
                                      refine .cons (.ld1 rfl rfl rfl (.at 1 rfl rfl)) ?_
                                      refine DI.sq 1 (by kernel_rfl) rfl ?_
                                      refine .cons (.quiet rfl (ixs_sle rfl rfl la666 lz669 lu670)) ?_
                                      refine DI.sq 1 (by kernel_rfl) rfl ?_
                                      refine .cons (.ld1 rfl rfl rfl (rd_1 lR667 (sub_app (seg_in 7 (X := (Q401F ++ (Q565F ++ []))) rfl seg_hd) (sub_app (seg_in 7 (X := (Q401F ++ (Q565F ++ []))) rfl (seg_tl seg_hd)) sub_nil)) (subl_at lv668 rfl))) ?_
                                      refine DI.sq 1 (by kernel_rfl) rfl ?_
                                      refine .cons (.ld1 rfl rfl rfl (.at 0 rfl rfl)) ?_
                                      refine DI.sq 1 (by kernel_rfl) rfl ?_
                                      refine .cons (.quiet rfl (ixs_sle rfl rfl la682 lz685 lu686)) ?_
                                      refine DI.sq 1 (by kernel_rfl) rfl ?_
                                      refine .cons (.ld1 rfl rfl rfl (rd_1 lR683 (sub_app (seg_in 7 (X := (Q401F ++ (Q565F ++ []))) rfl seg_hd) sub_nil) (subl_at lv684 rfl))) ?_
                                      refine .cons (dv_quiet rfl (congrArg (fun t => some (Value.bool (!t))) c687b)) ?_
                                      refine DI.sq 24 (by kernel_rfl) rfl ?_
                                      exact .nil
                                    refine fk_q 37 [1, 5, 6, 7, 8, 9, 10, 11, 12, 13, 233] (σ' := [(1, .int .i64 (wr64 ((Int.tmod (wr64 ((Int.tmod o1 50) + 50)) 50) + 1))), (5, .bool true), (6, .pointer (some ⟨b402, 0, none⟩)), (7, .int .i64 x406), (8, .pointer (some ⟨b434, 0, none⟩)), (9, .pointer (some ⟨b566, 0, none⟩)), (10, .int .i64 x590), (11, .pointer (some ⟨b611, 0, none⟩)), (12, .pointer (some ⟨b628, 0, none⟩)), (13, .int .i64 x637), (233, .bool true)]) t_more (by kernel_rfl) ?_
                                    refine fk_nil fun all => ?_
                                    refine t_keep [1, 5, 6, 7, 8, 9, 10, 11, 12, 13, 233] (σ' := [(1, .int .i64 (wr64 ((Int.tmod (wr64 ((Int.tmod o1 50) + 50)) 50) + 1))), (5, .bool true), (6, .pointer (some ⟨b402, 0, none⟩)), (7, .int .i64 x406), (8, .pointer (some ⟨b434, 0, none⟩)), (9, .pointer (some ⟨b566, 0, none⟩)), (10, .int .i64 x590), (11, .pointer (some ⟨b611, 0, none⟩)), (12, .pointer (some ⟨b628, 0, none⟩)), (13, .int .i64 x637), (233, .bool true)]) (by kernel_rfl) ?_
                                    refine t_end ?_
                                    show W _ _ _ _ _ _ _
                                    refine w_cond rfl (fun _ => ?_) (fun c_ => by cases c_)
                                    show W _ _ _ _ _ _ _
                                    refine w_seq ?_
                                    refine w_reg fun all => ?_
                                    refine t_qz 1 [4] (σ' := [(4, .bool false)]) (by kernel_rfl) ?_
                                    refine t_end ?_
                                    show W _ _ _ _ _ _ _
                                    refine w_ret ?_
                                    obtain rfl := Option.some.inj e593
                                    obtain rfl := Option.some.inj e409
                                    obtain rfl := Option.some.inj e404
                                    have hr_ := Option.some.inj e
                                    exact ⟨[.bool false], [], S, ⟨rfl, trivial⟩, VS.none, congrArg Value.bool hr_, rfl, rfl⟩
                                · rw [if_neg c638] at e593
                                  have c638b : (decide (x637 < (x597.length : Int))) = false := decide_eq_false c638
                                  refine t_qz 1 [1, 5, 6, 7, 8, 9, 10, 11, 12, 13, 183, 186] (σ' := [(1, .int .i64 (wr64 ((Int.tmod (wr64 ((Int.tmod o1 50) + 50)) 50) + 1))), (5, .bool true), (6, .pointer (some ⟨b402, 0, none⟩)), (7, .int .i64 x406), (8, .pointer (some ⟨b434, 0, none⟩)), (9, .pointer (some ⟨b566, 0, none⟩)), (10, .int .i64 x590), (11, .pointer (some ⟨b611, 0, none⟩)), (12, .pointer (some ⟨b628, 0, none⟩)), (13, .int .i64 x637), (183, .int .i64 x637), (186, .int .i64 (x597.length : Int))]) (by kernel_rfl) ?_
                                  refine t_v (dv_quiet rfl (congrArg (fun t => some (Value.bool t)) c638b)) ?_
                                  refine t_keep [1, 5, 6, 7, 8, 9, 10, 11, 12, 13, 187] (σ' := [(1, .int .i64 (wr64 ((Int.tmod (wr64 ((Int.tmod o1 50) + 50)) 50) + 1))), (5, .bool true), (6, .pointer (some ⟨b402, 0, none⟩)), (7, .int .i64 x406), (8, .pointer (some ⟨b434, 0, none⟩)), (9, .pointer (some ⟨b566, 0, none⟩)), (10, .int .i64 x590), (11, .pointer (some ⟨b611, 0, none⟩)), (12, .pointer (some ⟨b628, 0, none⟩)), (13, .int .i64 x637), (187, .bool false)]) (by kernel_rfl) ?_
                                  refine t_end ?_
                                  show W _ _ _ _ _ _ _
                                  refine w_cond rfl (fun c_ => by cases c_) (fun _ => ?_)
                                  show W _ _ _ _ _ _ _
                                  refine w_exit ?_
                                  obtain rfl := Option.some.inj e593
                                  exact ⟨(([⟨b566, [.int .i64 t553, .int .i64 t554, .int .i64 t555, .int .i64 t556, .int .i64 t557, .int .i64 t558, .int .i64 t559, .int .i64 t560, .int .i64 t561, .int .i64 t562, .slice Q565a0 t563.length Q565c0], 11⟩, ⟨b434, [.int .i64 x411, .int .i64 x412, .int .i64 x413, .int .i64 x414, .int .i64 x415, .int .i64 x416, .int .i64 x417, .int .i64 x418, .int .i64 x419, .int .i64 x420, .slice na431 x421.length nc432], 11⟩, ⟨b402, [.int .i64 t393, .int .i64 t394, .int .i64 t395, .slice (ad N400) t397.length (nN400 / 4), .slice Q401a0 t396.length Q401c0], 5⟩, ⟨b14, [.slice a_t0 t0.length c_t0, .int .i64 t398], 2⟩, ⟨N400, encL E_u84 t397, nN400⟩] : List Own) ++ (Q401F ++ (Q565F ++ []))), S, VS.selT 7 [2, 2, 2, 2, 2] (by kernel_rfl), (), rfl, by kernel_rfl, rfl, rfl⟩
                            · rw [if_neg c636] at e593
                              have c636b : (x596 == t634) = false := beq_eq_false_iff_ne.mpr c636
                              refine w_drwE mixed 38 [.v (.pointer (some ⟨b611, 3, none⟩)), .v (.bool x598), .v (.pointer (some ⟨b628, 3, none⟩)), .v (.bool x615), .v (.bool false), .v (.bool false), .v (.pointer (some ⟨b611, 2, none⟩)), .v (.slice na608 x597.length nc609), .v (.int .i64 (x597.length : Int)), .v (.pointer (some ⟨b628, 2, none⟩)), .v (.slice na625 x614.length nc626), .v (.int .i64 (x614.length : Int)), .v (.bool false), .v (.bool false), .v (.bool false), .v (.pointer (some ⟨b611, 0, none⟩)), .v (.pointer (some ⟨b611, 0, none⟩)), .v (.int .i64 x595), .v (.agg #[.int .i64 t393, .int .i64 t394, .int .i64 t395, .slice (ad N400) t397.length (nN400 / 4), .slice Q401a0 t396.length Q401c0]), .v (.int .i64 (wr64 ((Int.tmod (wr64 ((Int.tmod o1 50) + 50)) 50) + 1))), .v (.pointer (some ⟨b628, 0, none⟩)), .v (.pointer (some ⟨b628, 0, none⟩)), .v (.int .i64 x612), .v (.int .i64 t631), .v (.bool false), .v (.bool false), .v (.bool false), .v (.pointer (some ⟨b611, 0, none⟩)), .v (.pointer (some ⟨b611, 1, none⟩)), .v (.int .i64 x596), .v (.agg #[.int .i64 t393, .int .i64 t394, .int .i64 t395, .slice (ad N400) t397.length (nN400 / 4), .slice Q401a0 t396.length Q401c0]), .v (.int .i64 (wr64 ((Int.tmod (wr64 ((Int.tmod o1 50) + 50)) 50) + 1))), .v (.pointer (some ⟨b628, 0, none⟩)), .v (.pointer (some ⟨b628, 1, none⟩)), .v (.int .i64 x613), .v (.int .i64 t634), .v (.bool true), .v (.bool true)] (by kernel_rfl) ?_ ?_
                              · refine DI.sq 1 (by kernel_rfl) rfl ?_
                                refine .cons (.ld1 rfl rfl rfl (.at 1 rfl rfl)) ?_
                                refine DI.sq 1 (by kernel_rfl) rfl ?_
                                refine .cons (.ld1 rfl rfl rfl (.at 0 rfl rfl)) ?_
                                refine .cons (dv_quiet rfl (congrArg (fun t => some (Value.bool (!t))) c629b)) ?_
                                refine DI.sq 2 (by kernel_rfl) rfl ?_
                                refine .cons (.ld1 rfl rfl rfl (.at 1 rfl rfl)) ?_
                                refine DI.sq 2 (by kernel_rfl) rfl ?_
                                refine .cons (.ld1 rfl rfl rfl (.at 0 rfl rfl)) ?_
                                refine DI.sq 1 (by kernel_rfl) rfl ?_
                                refine .cons (dv_quiet rfl (congrArg (fun t => some (Value.bool (!t))) c630b)) ?_
                                refine DI.sq 4 (by kernel_rfl) rfl ?_
                                refine .cons (.ld1 rfl rfl rfl (.at 1 rfl rfl)) ?_
                                refine .cons (.ldn rfl rfl rfl (.at 4 rfl rfl)) ?_
                                refine DI.sq 3 (by kernel_rfl) rfl ?_
                                refine .cons (.ld1 rfl rfl rfl (.at 0 rfl rfl)) ?_
                                refine .cons (.call (vs := [.agg #[.int .i64 t393, .int .i64 t394, .int .i64 t395, .slice (ad N400) t397.length (nN400 / 4), .slice Q401a0 t396.length Q401c0], .int .i64 (wr64 ((Int.tmod (wr64 ((Int.tmod o1 50) + 50)) 50) + 1)), .int .i64 x612]) rfl rfl (by kernel_rfl) (scale_At_v2.ok hE_ h632)) ?_
                                refine .cons (dv_quiet rfl (congrArg (fun t => some (Value.bool (!t))) c633b)) ?_
                                refine DI.sq 4 (by kernel_rfl) rfl ?_
                                refine .cons (.ld1 rfl rfl rfl (.at 1 rfl rfl)) ?_
                                refine .cons (.ldn rfl rfl rfl (.at 4 rfl rfl)) ?_
                                refine DI.sq 3 (by kernel_rfl) rfl ?_
                                refine .cons (.ld1 rfl rfl rfl (.at 0 rfl rfl)) ?_
                                refine .cons (.call (vs := [.agg #[.int .i64 t393, .int .i64 t394, .int .i64 t395, .slice (ad N400) t397.length (nN400 / 4), .slice Q401a0 t396.length Q401c0], .int .i64 (wr64 ((Int.tmod (wr64 ((Int.tmod o1 50) + 50)) 50) + 1)), .int .i64 x613]) rfl rfl (by kernel_rfl) (scale_At_v2.ok hE_ h635)) ?_
                                refine .cons (dv_quiet rfl (congrArg (fun t => some (Value.bool (!t))) c636b)) ?_
                                refine DI.sq 1 (by kernel_rfl) rfl ?_
                                exact .nil
                              refine fk_q 38 [1, 5, 6, 7, 8, 9, 10, 11, 12, 182] (σ' := [(1, .int .i64 (wr64 ((Int.tmod (wr64 ((Int.tmod o1 50) + 50)) 50) + 1))), (5, .bool true), (6, .pointer (some ⟨b402, 0, none⟩)), (7, .int .i64 x406), (8, .pointer (some ⟨b434, 0, none⟩)), (9, .pointer (some ⟨b566, 0, none⟩)), (10, .int .i64 x590), (11, .pointer (some ⟨b611, 0, none⟩)), (12, .pointer (some ⟨b628, 0, none⟩)), (182, .bool true)]) t_more (by kernel_rfl) ?_
                              refine fk_nil fun all => ?_
                              refine t_keep [1, 5, 6, 7, 8, 9, 10, 11, 12, 182] (σ' := [(1, .int .i64 (wr64 ((Int.tmod (wr64 ((Int.tmod o1 50) + 50)) 50) + 1))), (5, .bool true), (6, .pointer (some ⟨b402, 0, none⟩)), (7, .int .i64 x406), (8, .pointer (some ⟨b434, 0, none⟩)), (9, .pointer (some ⟨b566, 0, none⟩)), (10, .int .i64 x590), (11, .pointer (some ⟨b611, 0, none⟩)), (12, .pointer (some ⟨b628, 0, none⟩)), (182, .bool true)]) (by kernel_rfl) ?_
                              refine t_end ?_
                              show W _ _ _ _ _ _ _
                              refine w_cond rfl (fun _ => ?_) (fun c_ => by cases c_)
                              show W _ _ _ _ _ _ _
                              refine w_seq ?_
                              refine w_reg fun all => ?_
                              refine t_qz 1 [4] (σ' := [(4, .bool false)]) (by kernel_rfl) ?_
                              refine t_end ?_
                              show W _ _ _ _ _ _ _
                              refine w_ret ?_
                              obtain rfl := Option.some.inj e593
                              obtain rfl := Option.some.inj e409
                              obtain rfl := Option.some.inj e404
                              have hr_ := Option.some.inj e
                              exact ⟨[.bool false], [], S, ⟨rfl, trivial⟩, VS.none, congrArg Value.bool hr_, rfl, rfl⟩
                          · rw [if_neg c633] at e593
                            have c633b : (x595 == t631) = false := beq_eq_false_iff_ne.mpr c633
                            refine w_drwE mixed 38 [.v (.pointer (some ⟨b611, 3, none⟩)), .v (.bool x598), .v (.pointer (some ⟨b628, 3, none⟩)), .v (.bool x615), .v (.bool false), .v (.bool false), .v (.pointer (some ⟨b611, 2, none⟩)), .v (.slice na608 x597.length nc609), .v (.int .i64 (x597.length : Int)), .v (.pointer (some ⟨b628, 2, none⟩)), .v (.slice na625 x614.length nc626), .v (.int .i64 (x614.length : Int)), .v (.bool false), .v (.bool false), .v (.bool false), .v (.pointer (some ⟨b611, 0, none⟩)), .v (.pointer (some ⟨b611, 0, none⟩)), .v (.int .i64 x595), .v (.agg #[.int .i64 t393, .int .i64 t394, .int .i64 t395, .slice (ad N400) t397.length (nN400 / 4), .slice Q401a0 t396.length Q401c0]), .v (.int .i64 (wr64 ((Int.tmod (wr64 ((Int.tmod o1 50) + 50)) 50) + 1))), .v (.pointer (some ⟨b628, 0, none⟩)), .v (.pointer (some ⟨b628, 0, none⟩)), .v (.int .i64 x612), .v (.int .i64 t631), .v (.bool true), .v (.bool true), .v (.bool true), .v (.tuple #[]), .v (.tuple #[]), .v (.tuple #[]), .v (.tuple #[]), .v (.tuple #[]), .v (.tuple #[]), .v (.tuple #[]), .v (.tuple #[]), .v (.tuple #[]), .v (.tuple #[]), .v (.bool true)] (by kernel_rfl) ?_ ?_
                            · refine DI.sq 1 (by kernel_rfl) rfl ?_
                              refine .cons (.ld1 rfl rfl rfl (.at 1 rfl rfl)) ?_
                              refine DI.sq 1 (by kernel_rfl) rfl ?_
                              refine .cons (.ld1 rfl rfl rfl (.at 0 rfl rfl)) ?_
                              refine .cons (dv_quiet rfl (congrArg (fun t => some (Value.bool (!t))) c629b)) ?_
                              refine DI.sq 2 (by kernel_rfl) rfl ?_
                              refine .cons (.ld1 rfl rfl rfl (.at 1 rfl rfl)) ?_
                              refine DI.sq 2 (by kernel_rfl) rfl ?_
                              refine .cons (.ld1 rfl rfl rfl (.at 0 rfl rfl)) ?_
                              refine DI.sq 1 (by kernel_rfl) rfl ?_
                              refine .cons (dv_quiet rfl (congrArg (fun t => some (Value.bool (!t))) c630b)) ?_
                              refine DI.sq 4 (by kernel_rfl) rfl ?_
                              refine .cons (.ld1 rfl rfl rfl (.at 1 rfl rfl)) ?_
                              refine .cons (.ldn rfl rfl rfl (.at 4 rfl rfl)) ?_
                              refine DI.sq 3 (by kernel_rfl) rfl ?_
                              refine .cons (.ld1 rfl rfl rfl (.at 0 rfl rfl)) ?_
                              refine .cons (.call (vs := [.agg #[.int .i64 t393, .int .i64 t394, .int .i64 t395, .slice (ad N400) t397.length (nN400 / 4), .slice Q401a0 t396.length Q401c0], .int .i64 (wr64 ((Int.tmod (wr64 ((Int.tmod o1 50) + 50)) 50) + 1)), .int .i64 x612]) rfl rfl (by kernel_rfl) (scale_At_v2.ok hE_ h632)) ?_
                              refine .cons (dv_quiet rfl (congrArg (fun t => some (Value.bool (!t))) c633b)) ?_
                              refine DI.sq 13 (by kernel_rfl) rfl ?_
                              exact .nil
                            refine fk_q 38 [1, 5, 6, 7, 8, 9, 10, 11, 12, 182] (σ' := [(1, .int .i64 (wr64 ((Int.tmod (wr64 ((Int.tmod o1 50) + 50)) 50) + 1))), (5, .bool true), (6, .pointer (some ⟨b402, 0, none⟩)), (7, .int .i64 x406), (8, .pointer (some ⟨b434, 0, none⟩)), (9, .pointer (some ⟨b566, 0, none⟩)), (10, .int .i64 x590), (11, .pointer (some ⟨b611, 0, none⟩)), (12, .pointer (some ⟨b628, 0, none⟩)), (182, .bool true)]) t_more (by kernel_rfl) ?_
                            refine fk_nil fun all => ?_
                            refine t_keep [1, 5, 6, 7, 8, 9, 10, 11, 12, 182] (σ' := [(1, .int .i64 (wr64 ((Int.tmod (wr64 ((Int.tmod o1 50) + 50)) 50) + 1))), (5, .bool true), (6, .pointer (some ⟨b402, 0, none⟩)), (7, .int .i64 x406), (8, .pointer (some ⟨b434, 0, none⟩)), (9, .pointer (some ⟨b566, 0, none⟩)), (10, .int .i64 x590), (11, .pointer (some ⟨b611, 0, none⟩)), (12, .pointer (some ⟨b628, 0, none⟩)), (182, .bool true)]) (by kernel_rfl) ?_
                            refine t_end ?_
                            show W _ _ _ _ _ _ _
                            refine w_cond rfl (fun _ => ?_) (fun c_ => by cases c_)
                            show W _ _ _ _ _ _ _
                            refine w_seq ?_
                            refine w_reg fun all => ?_
                            refine t_qz 1 [4] (σ' := [(4, .bool false)]) (by kernel_rfl) ?_
                            refine t_end ?_
                            show W _ _ _ _ _ _ _
                            refine w_ret ?_
                            obtain rfl := Option.some.inj e593
                            obtain rfl := Option.some.inj e409
                            obtain rfl := Option.some.inj e404
                            have hr_ := Option.some.inj e
                            exact ⟨[.bool false], [], S, ⟨rfl, trivial⟩, VS.none, congrArg Value.bool hr_, rfl, rfl⟩
                        · rw [if_neg c630] at e593
                          have c630b : ((x597.length : Int) == (x614.length : Int)) = false := beq_eq_false_iff_ne.mpr c630
                          refine w_drwE mixed 38 [.v (.pointer (some ⟨b611, 3, none⟩)), .v (.bool x598), .v (.pointer (some ⟨b628, 3, none⟩)), .v (.bool x615), .v (.bool false), .v (.bool false), .v (.pointer (some ⟨b611, 2, none⟩)), .v (.slice na608 x597.length nc609), .v (.int .i64 (x597.length : Int)), .v (.pointer (some ⟨b628, 2, none⟩)), .v (.slice na625 x614.length nc626), .v (.int .i64 (x614.length : Int)), .v (.bool true), .v (.bool true), .v (.bool true), .v (.tuple #[]), .v (.tuple #[]), .v (.tuple #[]), .v (.tuple #[]), .v (.tuple #[]), .v (.tuple #[]), .v (.tuple #[]), .v (.tuple #[]), .v (.tuple #[]), .v (.tuple #[]), .v (.bool true), .v (.bool true), .v (.tuple #[]), .v (.tuple #[]), .v (.tuple #[]), .v (.tuple #[]), .v (.tuple #[]), .v (.tuple #[]), .v (.tuple #[]), .v (.tuple #[]), .v (.tuple #[]), .v (.tuple #[]), .v (.bool true)] (by kernel_rfl) ?_ ?_
                          · refine DI.sq 1 (by kernel_rfl) rfl ?_
                            refine .cons (.ld1 rfl rfl rfl (.at 1 rfl rfl)) ?_
                            refine DI.sq 1 (by kernel_rfl) rfl ?_
                            refine .cons (.ld1 rfl rfl rfl (.at 0 rfl rfl)) ?_
                            refine .cons (dv_quiet rfl (congrArg (fun t => some (Value.bool (!t))) c629b)) ?_
                            refine DI.sq 2 (by kernel_rfl) rfl ?_
                            refine .cons (.ld1 rfl rfl rfl (.at 1 rfl rfl)) ?_
                            refine DI.sq 2 (by kernel_rfl) rfl ?_
                            refine .cons (.ld1 rfl rfl rfl (.at 0 rfl rfl)) ?_
                            refine DI.sq 1 (by kernel_rfl) rfl ?_
                            refine .cons (dv_quiet rfl (congrArg (fun t => some (Value.bool (!t))) c630b)) ?_
                            refine DI.sq 25 (by kernel_rfl) rfl ?_
                            exact .nil
                          refine fk_q 38 [1, 5, 6, 7, 8, 9, 10, 11, 12, 182] (σ' := [(1, .int .i64 (wr64 ((Int.tmod (wr64 ((Int.tmod o1 50) + 50)) 50) + 1))), (5, .bool true), (6, .pointer (some ⟨b402, 0, none⟩)), (7, .int .i64 x406), (8, .pointer (some ⟨b434, 0, none⟩)), (9, .pointer (some ⟨b566, 0, none⟩)), (10, .int .i64 x590), (11, .pointer (some ⟨b611, 0, none⟩)), (12, .pointer (some ⟨b628, 0, none⟩)), (182, .bool true)]) t_more (by kernel_rfl) ?_
                          refine fk_nil fun all => ?_
                          refine t_keep [1, 5, 6, 7, 8, 9, 10, 11, 12, 182] (σ' := [(1, .int .i64 (wr64 ((Int.tmod (wr64 ((Int.tmod o1 50) + 50)) 50) + 1))), (5, .bool true), (6, .pointer (some ⟨b402, 0, none⟩)), (7, .int .i64 x406), (8, .pointer (some ⟨b434, 0, none⟩)), (9, .pointer (some ⟨b566, 0, none⟩)), (10, .int .i64 x590), (11, .pointer (some ⟨b611, 0, none⟩)), (12, .pointer (some ⟨b628, 0, none⟩)), (182, .bool true)]) (by kernel_rfl) ?_
                          refine t_end ?_
                          show W _ _ _ _ _ _ _
                          refine w_cond rfl (fun _ => ?_) (fun c_ => by cases c_)
                          show W _ _ _ _ _ _ _
                          refine w_seq ?_
                          refine w_reg fun all => ?_
                          refine t_qz 1 [4] (σ' := [(4, .bool false)]) (by kernel_rfl) ?_
                          refine t_end ?_
                          show W _ _ _ _ _ _ _
                          refine w_ret ?_
                          obtain rfl := Option.some.inj e593
                          obtain rfl := Option.some.inj e409
                          obtain rfl := Option.some.inj e404
                          have hr_ := Option.some.inj e
                          exact ⟨[.bool false], [], S, ⟨rfl, trivial⟩, VS.none, congrArg Value.bool hr_, rfl, rfl⟩
                      · rw [if_neg c629] at e593
                        have c629b : (x598 == x615) = false := beq_eq_false_iff_ne.mpr c629
                        refine w_drwE mixed 38 [.v (.pointer (some ⟨b611, 3, none⟩)), .v (.bool x598), .v (.pointer (some ⟨b628, 3, none⟩)), .v (.bool x615), .v (.bool true), .v (.bool true), .v (.tuple #[]), .v (.tuple #[]), .v (.tuple #[]), .v (.tuple #[]), .v (.tuple #[]), .v (.tuple #[]), .v (.tuple #[]), .v (.bool true), .v (.bool true), .v (.tuple #[]), .v (.tuple #[]), .v (.tuple #[]), .v (.tuple #[]), .v (.tuple #[]), .v (.tuple #[]), .v (.tuple #[]), .v (.tuple #[]), .v (.tuple #[]), .v (.tuple #[]), .v (.bool true), .v (.bool true), .v (.tuple #[]), .v (.tuple #[]), .v (.tuple #[]), .v (.tuple #[]), .v (.tuple #[]), .v (.tuple #[]), .v (.tuple #[]), .v (.tuple #[]), .v (.tuple #[]), .v (.tuple #[]), .v (.bool true)] (by kernel_rfl) ?_ ?_
                        · refine DI.sq 1 (by kernel_rfl) rfl ?_
                          refine .cons (.ld1 rfl rfl rfl (.at 1 rfl rfl)) ?_
                          refine DI.sq 1 (by kernel_rfl) rfl ?_
                          refine .cons (.ld1 rfl rfl rfl (.at 0 rfl rfl)) ?_
                          refine .cons (dv_quiet rfl (congrArg (fun t => some (Value.bool (!t))) c629b)) ?_
                          refine DI.sq 33 (by kernel_rfl) rfl ?_
                          exact .nil
                        refine fk_q 38 [1, 5, 6, 7, 8, 9, 10, 11, 12, 182] (σ' := [(1, .int .i64 (wr64 ((Int.tmod (wr64 ((Int.tmod o1 50) + 50)) 50) + 1))), (5, .bool true), (6, .pointer (some ⟨b402, 0, none⟩)), (7, .int .i64 x406), (8, .pointer (some ⟨b434, 0, none⟩)), (9, .pointer (some ⟨b566, 0, none⟩)), (10, .int .i64 x590), (11, .pointer (some ⟨b611, 0, none⟩)), (12, .pointer (some ⟨b628, 0, none⟩)), (182, .bool true)]) t_more (by kernel_rfl) ?_
                        refine fk_nil fun all => ?_
                        refine t_keep [1, 5, 6, 7, 8, 9, 10, 11, 12, 182] (σ' := [(1, .int .i64 (wr64 ((Int.tmod (wr64 ((Int.tmod o1 50) + 50)) 50) + 1))), (5, .bool true), (6, .pointer (some ⟨b402, 0, none⟩)), (7, .int .i64 x406), (8, .pointer (some ⟨b434, 0, none⟩)), (9, .pointer (some ⟨b566, 0, none⟩)), (10, .int .i64 x590), (11, .pointer (some ⟨b611, 0, none⟩)), (12, .pointer (some ⟨b628, 0, none⟩)), (182, .bool true)]) (by kernel_rfl) ?_
                        refine t_end ?_
                        show W _ _ _ _ _ _ _
                        refine w_cond rfl (fun _ => ?_) (fun c_ => by cases c_)
                        show W _ _ _ _ _ _ _
                        refine w_seq ?_
                        refine w_reg fun all => ?_
                        refine t_qz 1 [4] (σ' := [(4, .bool false)]) (by kernel_rfl) ?_
                        refine t_end ?_
                        show W _ _ _ _ _ _ _
                        refine w_ret ?_
                        obtain rfl := Option.some.inj e593
                        obtain rfl := Option.some.inj e409
                        obtain rfl := Option.some.inj e404
                        have hr_ := Option.some.inj e
                        exact ⟨[.bool false], [], S, ⟨rfl, trivial⟩, VS.none, congrArg Value.bool hr_, rfl, rfl⟩
                    · rintro σ_ H_ S_ ⟨u_, rfl, rfl, rfl, rfl⟩
                      dsimp only at e409
                      refine w_reg fun all => ?_
                      refine t_qz 3 [1, 5, 6, 7, 8, 9, 10] (σ' := [(1, .int .i64 (wr64 ((Int.tmod (wr64 ((Int.tmod o1 50) + 50)) 50) + 1))), (5, .bool true), (6, .pointer (some ⟨b402, 0, none⟩)), (7, .int .i64 x406), (8, .pointer (some ⟨b434, 0, none⟩)), (9, .pointer (some ⟨b566, 0, none⟩)), (10, .int .i64 (wr64 (x590 + 1)))]) (by kernel_rfl) ?_
                      refine t_end ?_
                      exact ⟨k_, Nat.lt_succ_self _, [(1, .int .i64 (wr64 ((Int.tmod (wr64 ((Int.tmod o1 50) + 50)) 50) + 1))), (5, .bool true), (6, .pointer (some ⟨b402, 0, none⟩)), (7, .int .i64 x406), (8, .pointer (some ⟨b434, 0, none⟩)), (9, .pointer (some ⟨b566, 0, none⟩)), (10, .int .i64 (wr64 (x590 + 1)))], (([⟨b566, [.int .i64 t553, .int .i64 t554, .int .i64 t555, .int .i64 t556, .int .i64 t557, .int .i64 t558, .int .i64 t559, .int .i64 t560, .int .i64 t561, .int .i64 t562, .slice Q565a0 t563.length Q565c0], 11⟩, ⟨b434, [.int .i64 x411, .int .i64 x412, .int .i64 x413, .int .i64 x414, .int .i64 x415, .int .i64 x416, .int .i64 x417, .int .i64 x418, .int .i64 x419, .int .i64 x420, .slice na431 x421.length nc432], 11⟩, ⟨b402, [.int .i64 t393, .int .i64 t394, .int .i64 t395, .slice (ad N400) t397.length (nN400 / 4), .slice Q401a0 t396.length Q401c0], 5⟩, ⟨b14, [.slice a_t0 t0.length c_t0, .int .i64 t398], 2⟩, ⟨N400, encL E_u84 t397, nN400⟩] : List Own) ++ (Q401F ++ (Q565F ++ []))), S, keep_sub [1, 5, 6, 7, 8, 9, 10] (by kernel_rfl), VS.selT 5 [0, 0, 0, 0, 0] (by kernel_rfl), wr64 (x590 + 1), rfl, rfl, rfl, e409⟩
                  · rw [if_neg c591] at e409
                    have c591b : (decide (x590 < (t563.length : Int))) = false := decide_eq_false c591
                    refine t_qz 1 [1, 5, 6, 7, 8, 9, 10, 128, 131] (σ' := [(1, .int .i64 (wr64 ((Int.tmod (wr64 ((Int.tmod o1 50) + 50)) 50) + 1))), (5, .bool true), (6, .pointer (some ⟨b402, 0, none⟩)), (7, .int .i64 x406), (8, .pointer (some ⟨b434, 0, none⟩)), (9, .pointer (some ⟨b566, 0, none⟩)), (10, .int .i64 x590), (128, .int .i64 x590), (131, .int .i64 (t563.length : Int))]) (by kernel_rfl) ?_
                    refine t_v (dv_quiet rfl (congrArg (fun t => some (Value.bool t)) c591b)) ?_
                    refine t_keep [1, 5, 6, 7, 8, 9, 10, 132] (σ' := [(1, .int .i64 (wr64 ((Int.tmod (wr64 ((Int.tmod o1 50) + 50)) 50) + 1))), (5, .bool true), (6, .pointer (some ⟨b402, 0, none⟩)), (7, .int .i64 x406), (8, .pointer (some ⟨b434, 0, none⟩)), (9, .pointer (some ⟨b566, 0, none⟩)), (10, .int .i64 x590), (132, .bool false)]) (by kernel_rfl) ?_
                    refine t_end ?_
                    show W _ _ _ _ _ _ _
                    refine w_cond rfl (fun c_ => by cases c_) (fun _ => ?_)
                    show W _ _ _ _ _ _ _
                    refine w_exit ?_
                    obtain rfl := Option.some.inj e409
                    exact ⟨(([⟨b402, [.int .i64 t393, .int .i64 t394, .int .i64 t395, .slice (ad N400) t397.length (nN400 / 4), .slice Q401a0 t396.length Q401c0], 5⟩, ⟨b14, [.slice a_t0 t0.length c_t0, .int .i64 t398], 2⟩, ⟨N400, encL E_u84 t397, nN400⟩] : List Own) ++ (Q401F ++ [])), S, VS.treeA (.a (.l ([⟨b566, [.int .i64 t553, .int .i64 t554, .int .i64 t555, .int .i64 t556, .int .i64 t557, .int .i64 t558, .int .i64 t559, .int .i64 t560, .int .i64 t561, .int .i64 t562, .slice Q565a0 t563.length Q565c0], 11⟩, ⟨b434, [.int .i64 x411, .int .i64 x412, .int .i64 x413, .int .i64 x414, .int .i64 x415, .int .i64 x416, .int .i64 x417, .int .i64 x418, .int .i64 x419, .int .i64 x420, .slice na431 x421.length nc432], 11⟩, ⟨b402, [.int .i64 t393, .int .i64 t394, .int .i64 t395, .slice (ad N400) t397.length (nN400 / 4), .slice Q401a0 t396.length Q401c0], 5⟩, ⟨b14, [.slice a_t0 t0.length c_t0, .int .i64 t398], 2⟩, ⟨N400, encL E_u84 t397, nN400⟩] : List Own)) (.a (.f Q401F) (.a (.f Q565F) (.l [])))) (.a (.l ([⟨b402, [.int .i64 t393, .int .i64 t394, .int .i64 t395, .slice (ad N400) t397.length (nN400 / 4), .slice Q401a0 t396.length Q401c0], 5⟩, ⟨b14, [.slice a_t0 t0.length c_t0, .int .i64 t398], 2⟩, ⟨N400, encL E_u84 t397, nN400⟩] : List Own)) (.a (.f Q401F) (.l []))) [2, 2, 2, 2] (by kernel_rfl), (), rfl, by kernel_rfl, rfl, rfl⟩
            · rintro σ_ H_ S_ ⟨u_, rfl, rfl, rfl, rfl⟩
              dsimp only at e404
              refine w_reg fun all => ?_
              refine t_qz 3 [1, 5, 6, 7] (σ' := [(1, .int .i64 (wr64 ((Int.tmod (wr64 ((Int.tmod o1 50) + 50)) 50) + 1))), (5, .bool true), (6, .pointer (some ⟨b402, 0, none⟩)), (7, .int .i64 (wr64 (x406 + 1)))]) (by kernel_rfl) ?_
              refine t_end ?_
              exact ⟨k_, Nat.lt_succ_self _, [(1, .int .i64 (wr64 ((Int.tmod (wr64 ((Int.tmod o1 50) + 50)) 50) + 1))), (5, .bool true), (6, .pointer (some ⟨b402, 0, none⟩)), (7, .int .i64 (wr64 (x406 + 1)))], (([⟨b402, [.int .i64 t393, .int .i64 t394, .int .i64 t395, .slice (ad N400) t397.length (nN400 / 4), .slice Q401a0 t396.length Q401c0], 5⟩, ⟨N400, encL E_u84 t397, nN400⟩, ⟨b14, [.slice a_t0 t0.length c_t0, .int .i64 t398], 2⟩] : List Own) ++ (Q401F ++ [])), S, keep_sub [1, 5, 6, 7] (by kernel_rfl), VS.selT 3 [0, 1, 0] (by kernel_rfl), wr64 (x406 + 1), rfl, rfl, rfl, e404⟩
          · rw [if_neg c407] at e404
            have c407b : (decide (x406 < (t396.length : Int))) = false := decide_eq_false c407
            refine t_qz 1 [1, 5, 6, 7, 31, 34] (σ' := [(1, .int .i64 (wr64 ((Int.tmod (wr64 ((Int.tmod o1 50) + 50)) 50) + 1))), (5, .bool true), (6, .pointer (some ⟨b402, 0, none⟩)), (7, .int .i64 x406), (31, .int .i64 x406), (34, .int .i64 (t396.length : Int))]) (by kernel_rfl) ?_
            refine t_v (dv_quiet rfl (congrArg (fun t => some (Value.bool t)) c407b)) ?_
            refine t_keep [1, 5, 6, 7, 35] (σ' := [(1, .int .i64 (wr64 ((Int.tmod (wr64 ((Int.tmod o1 50) + 50)) 50) + 1))), (5, .bool true), (6, .pointer (some ⟨b402, 0, none⟩)), (7, .int .i64 x406), (35, .bool false)]) (by kernel_rfl) ?_
            refine t_end ?_
            show W _ _ _ _ _ _ _
            refine w_cond rfl (fun c_ => by cases c_) (fun _ => ?_)
            show W _ _ _ _ _ _ _
            refine w_exit ?_
            obtain rfl := Option.some.inj e404
            exact ⟨(([⟨b402, [.int .i64 t393, .int .i64 t394, .int .i64 t395, .slice (ad N400) t397.length (nN400 / 4), .slice Q401a0 t396.length Q401c0], 5⟩, ⟨b14, [.slice a_t0 t0.length c_t0, .int .i64 t398], 2⟩, ⟨N400, encL E_u84 t397, nN400⟩] : List Own) ++ (Q401F ++ [])), S, VS.selT 3 [0, 1, 0] (by kernel_rfl), (), rfl, by kernel_rfl, rfl, rfl⟩
      · rintro σ_ H_ S_ ⟨u_, rfl, rfl, rfl, rfl⟩
        dsimp only at e
        refine w_seq ?_
        obtain ⟨t775, h776, e⟩ := bind_of e
        by_cases c777 : t775 ≥ (t396.length : Int)
        · rw [if_pos c777] at e
          have c777b : (decide (t775 ≥ (t396.length : Int))) = true := decide_eq_true c777
          refine w_drwE mixed 12 [.v (.bool true), .v (.bool true), .v (.agg #[.int .i64 t393, .int .i64 t394, .int .i64 t395, .slice (ad N400) t397.length (nN400 / 4), .slice Q401a0 t396.length Q401c0]), .v (.int .i64 t775), .v (.pointer (some ⟨b402, 4, none⟩)), .v (.slice Q401a0 t396.length Q401c0), .v (.int .i64 (t396.length : Int)), .v (.bool true), .v (.bool true), .v (.bool true), .v (.bool true), .v (.bool true)] (by kernel_rfl) ?_ ?_
          · refine DI.sq 2 (by kernel_rfl) rfl ?_
            refine .cons (.ldn rfl rfl rfl (.at 0 rfl rfl)) ?_
            refine .cons (.callr (vs := [.agg #[.int .i64 t393, .int .i64 t394, .int .i64 t395, .slice (ad N400) t397.length (nN400 / 4), .slice Q401a0 t396.length Q401c0]]) (A := ((Q401F ++ []) ++ [])) (F0 := ([⟨b402, [.int .i64 t393, .int .i64 t394, .int .i64 t395, .slice (ad N400) t397.length (nN400 / 4), .slice Q401a0 t396.length Q401c0], 5⟩, ⟨b14, [.slice a_t0 t0.length c_t0, .int .i64 t398], 2⟩, ⟨N400, encL E_u84 t397, nN400⟩] : List Own)) rfl rfl (by kernel_rfl) (tree_perm (.a (.l ([⟨b402, [.int .i64 t393, .int .i64 t394, .int .i64 t395, .slice (ad N400) t397.length (nN400 / 4), .slice Q401a0 t396.length Q401c0], 5⟩, ⟨b14, [.slice a_t0 t0.length c_t0, .int .i64 t398], 2⟩, ⟨N400, encL E_u84 t397, nN400⟩] : List Own)) (.a (.f Q401F) (.l []))) (.a (.a (.f Q401F) (.l [])) (.l ([] : List Own))) (.l ([⟨b402, [.int .i64 t393, .int .i64 t394, .int .i64 t395, .slice (ad N400) t397.length (nN400 / 4), .slice Q401a0 t396.length Q401c0], 5⟩, ⟨b14, [.slice a_t0 t0.length c_t0, .int .i64 t398], 2⟩, ⟨N400, encL E_u84 t397, nN400⟩] : List Own)) [3] (by kernel_rfl)) (cal_lendFr (Q401F ++ []) fun S1_ le1_ hp1_ hs1_ hn1_ ex1_ => glyphicref1_Points_v1.ok (EO.mono hE_ le1_ hp1_) (SlN.mono Q401h0 (rd_lend hs1_ le1_ (sub_app (seg_in 0 (X := (Q401F ++ [])) rfl seg_hd) sub_nil))) h776)) ?_
            refine DI.sq 1 (by kernel_rfl) rfl ?_
            refine .cons (.ld1 rfl rfl rfl (.at 0 rfl rfl)) ?_
            refine DI.sq 1 (by kernel_rfl) rfl ?_
            refine .cons (dv_quiet rfl (congrArg (fun t => some (Value.bool t)) c777b)) ?_
            refine DI.sq 4 (by kernel_rfl) rfl ?_
            exact .nil
          refine fk_q 12 [4] (σ' := [(4, .bool true)]) t_more (by kernel_rfl) ?_
          refine fk_nil fun all => ?_
          refine t_keep [4] (σ' := [(4, .bool true)]) (by kernel_rfl) ?_
          refine t_end ?_
          show W _ _ _ _ _ _ _
          refine w_ret ?_
          have hr_ := Option.some.inj e
          exact ⟨[.bool true], [], S, ⟨rfl, trivial⟩, VS.none, congrArg Value.bool hr_, rfl, rfl⟩
        · rw [if_neg c777] at e
          exact absurd (Option.some.inj e) (by decide)
  | false =>
    rw [if_neg (by decide)] at e
    exact absurd (Option.some.inj e) (by decide)

def glyphiclaw20_ScaleCmds.Pure : Prop := ∀ (t0 : List (Int)) (o1 : Int), (Lit.int .i64 o1).wf = true → ∃ k, glyphiclaw20_ScaleCmds.f k t0 o1 = some true
theorem glyphiclaw20_ScaleCmds.walk (P : glyphiclaw20_ScaleCmds.Pure) (t0 : List (Int)) (o1 : Int) (w : World) {S : Seal} (hS : HOK [] S w) {A_ : Int → Addr} (hE_ : EO [0, 1] S A_ 94) {a_t0 : Option Addr} {c_t0 : Nat} (h_t0 : SlI S .i64 t0 a_t0) (ho1 : (Lit.int .i64 o1).wf = true) :
    Calls Tryd.prog 5 #[.slice a_t0 t0.length c_t0, .int .i64 o1] w fun e w' => e = .returned (.bool true) ∧ Below w.heap.size w w' := let ⟨k, h⟩ := P t0 o1 ho1; law_w hS (glyphiclaw20_ScaleCmds.ok hE_ (SlI.e h_t0) (k := k) h)
end Go.Proofs.YtiaigehjogpcaaaDoor.QScaleCmds
