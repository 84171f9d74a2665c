/- Functions of the program as Lean functions, each with the proof of its walk. Written by gen.py, a program of these sessions. -/
import Derived.Test.YtpimfacaalkmdaaQStrokeSaysx1
namespace Go.Proofs.Ytpimfacaalkmdaa.QStrokeSays
open Go Go.RowKit Go.Proofs.YtpimfacaalkmdaaE Go.Proofs.YtpimfacaalkmdaaX
set_option linter.unusedVariables false
set_option maxRecDepth 100000
set_option maxHeartbeats 8000000
/-- glyphicref20.Box -/
def c23 : C :=
  (.seq (.reg [⟨(some 4), .new [(.int .i64 0), (.int .i64 0)], none⟩,
     ⟨(some 5), .new [(.int .i64 0), (.int .i64 0)], none⟩,
     ⟨(some 6), .mv (.const (.bool false)), none⟩])
  (.seq (.seq (.reg [⟨(some 11), .mv (.tmp 0), none⟩,
      ⟨(some 12), .lns (.tmp 11), none⟩,
      ⟨(some 13), .bin .eql (.tmp 12) (.const (.int .i64 0)), none⟩])
   (.cond (.tmp 13)
    (.seq (.reg [⟨(some 14), .bld [(.int .i64 0), (.int .i64 0)] [], none⟩,
        ⟨(some 15), .bld [(.int .i64 0), (.int .i64 0)] [], none⟩,
        ⟨none, .st 2 (.tmp 4) (.tmp 14), none⟩,
        ⟨none, .st 2 (.tmp 5) (.tmp 15), none⟩,
        ⟨(some 6), .mv (.const (.bool false)), none⟩])
     .ret)
    .skip))
  (.seq (.reg [⟨(some 16), .mv (.tmp 0), none⟩,
     ⟨(some 17), .ixs 4 (.tmp 16) (.const (.int .i64 0)), none⟩,
     ⟨(some 18), .pad 0 (.tmp 17), none⟩,
     ⟨(some 19), .ld (some 2) (.tmp 18), none⟩,
     ⟨(some 7), .new [(.int .i64 0), (.int .i64 0)], none⟩,
     ⟨none, .st 2 (.tmp 7) (.tmp 19), none⟩])
  (.seq (.reg [⟨(some 20), .mv (.tmp 0), none⟩,
     ⟨(some 21), .ixs 4 (.tmp 20) (.const (.int .i64 0)), none⟩,
     ⟨(some 22), .pad 0 (.tmp 21), none⟩,
     ⟨(some 23), .ld (some 2) (.tmp 22), none⟩,
     ⟨(some 8), .new [(.int .i64 0), (.int .i64 0)], none⟩,
     ⟨none, .st 2 (.tmp 8) (.tmp 23), none⟩])
  (.seq (.seq (.reg [⟨(some 9), .mv (.const (.int .i64 0)), none⟩])
   (.block 0 (.loop (.seq (.seq (.reg [⟨(some 24), .mv (.tmp 9), none⟩,
         ⟨(some 25), .mv (.tmp 0), none⟩,
         ⟨(some 26), .lns (.tmp 25), none⟩,
         ⟨(some 27), .bin .lss (.tmp 24) (.tmp 26), none⟩])
      (.cond (.tmp 27)
       .skip
       (.exit 0)))
     (.seq (.block 1 (.seq (.drw [⟨(some 30), .pad 0 (.tmp 7), none⟩,
          ⟨(some 31), .ld none (.tmp 30), none⟩,
          ⟨(some 32), .mv (.tmp 0), none⟩,
          ⟨(some 33), .mv (.tmp 9), none⟩,
          ⟨(some 34), .ixs 4 (.tmp 32) (.tmp 33), none⟩,
          ⟨(some 35), .pad 0 (.tmp 34), none⟩,
          ⟨(some 36), .pad 0 (.tmp 35), none⟩,
          ⟨(some 37), .ld none (.tmp 36), none⟩,
          ⟨(some 38), .mv (.tmp 0), none⟩,
          ⟨(some 39), .mv (.tmp 9), none⟩,
          ⟨(some 40), .ixs 4 (.tmp 38) (.tmp 39), none⟩,
          ⟨(some 41), .pad 2 (.tmp 40), none⟩,
          ⟨(some 42), .pad 0 (.tmp 41), none⟩,
          ⟨(some 43), .ld none (.tmp 42), none⟩,
          ⟨(some 44), .mm false [(.tmp 31), (.tmp 37), (.tmp 43)], none⟩,
          ⟨(some 45), .pad 1 (.tmp 7), none⟩,
          ⟨(some 46), .ld none (.tmp 45), none⟩,
          ⟨(some 47), .mv (.tmp 0), none⟩,
          ⟨(some 48), .mv (.tmp 9), none⟩,
          ⟨(some 49), .ixs 4 (.tmp 47) (.tmp 48), none⟩,
          ⟨(some 50), .pad 0 (.tmp 49), none⟩,
          ⟨(some 51), .pad 1 (.tmp 50), none⟩,
          ⟨(some 52), .ld none (.tmp 51), none⟩,
          ⟨(some 53), .mv (.tmp 0), none⟩,
          ⟨(some 54), .mv (.tmp 9), none⟩,
          ⟨(some 55), .ixs 4 (.tmp 53) (.tmp 54), none⟩,
          ⟨(some 56), .pad 2 (.tmp 55), none⟩,
          ⟨(some 57), .pad 1 (.tmp 56), none⟩,
          ⟨(some 58), .ld none (.tmp 57), none⟩,
          ⟨(some 59), .mm false [(.tmp 46), (.tmp 52), (.tmp 58)], none⟩,
          ⟨(some 60), .bld [(.int .i64 0), (.int .i64 0)] [(0, 1, (.tmp 44)), (1, 1, (.tmp 59))], none⟩,
          ⟨none, .st 2 (.tmp 7) (.tmp 60), none⟩] [[], [0], [], [], [2, 3], [4], [5], [6], [], [], [8, 9], [10], [11], [12], [1, 7, 13], [], [15], [], [], [17, 18], [19], [20], [21], [], [], [23, 24], [25], [26], [27], [16, 22, 28], [14, 29], [30, 0, 1, 2, 3, 4, 5, 6, 7, 8, 9, 10, 11, 12, 13, 14, 15, 16, 17, 18, 19, 20, 21, 22, 23, 24, 25, 26, 27, 28, 29, 30]])
       (.drw [⟨(some 61), .pad 0 (.tmp 8), none⟩,
         ⟨(some 62), .ld none (.tmp 61), none⟩,
         ⟨(some 63), .mv (.tmp 0), none⟩,
         ⟨(some 64), .mv (.tmp 9), none⟩,
         ⟨(some 65), .ixs 4 (.tmp 63) (.tmp 64), none⟩,
         ⟨(some 66), .pad 0 (.tmp 65), none⟩,
         ⟨(some 67), .pad 0 (.tmp 66), none⟩,
         ⟨(some 68), .ld none (.tmp 67), none⟩,
         ⟨(some 69), .mv (.tmp 0), none⟩,
         ⟨(some 70), .mv (.tmp 9), none⟩,
         ⟨(some 71), .ixs 4 (.tmp 69) (.tmp 70), none⟩,
         ⟨(some 72), .pad 2 (.tmp 71), none⟩,
         ⟨(some 73), .pad 0 (.tmp 72), none⟩,
         ⟨(some 74), .ld none (.tmp 73), none⟩,
         ⟨(some 75), .mm true [(.tmp 62), (.tmp 68), (.tmp 74)], none⟩,
         ⟨(some 76), .pad 1 (.tmp 8), none⟩,
         ⟨(some 77), .ld none (.tmp 76), none⟩,
         ⟨(some 78), .mv (.tmp 0), none⟩,
         ⟨(some 79), .mv (.tmp 9), none⟩,
         ⟨(some 80), .ixs 4 (.tmp 78) (.tmp 79), none⟩,
         ⟨(some 81), .pad 0 (.tmp 80), none⟩,
         ⟨(some 82), .pad 1 (.tmp 81), none⟩,
         ⟨(some 83), .ld none (.tmp 82), none⟩,
         ⟨(some 84), .mv (.tmp 0), none⟩,
         ⟨(some 85), .mv (.tmp 9), none⟩,
         ⟨(some 86), .ixs 4 (.tmp 84) (.tmp 85), none⟩,
         ⟨(some 87), .pad 2 (.tmp 86), none⟩,
         ⟨(some 88), .pad 1 (.tmp 87), none⟩,
         ⟨(some 89), .ld none (.tmp 88), none⟩,
         ⟨(some 90), .mm true [(.tmp 77), (.tmp 83), (.tmp 89)], none⟩,
         ⟨(some 91), .bld [(.int .i64 0), (.int .i64 0)] [(0, 1, (.tmp 75)), (1, 1, (.tmp 90))], none⟩,
         ⟨none, .st 2 (.tmp 8) (.tmp 91), none⟩] [[], [0], [], [], [2, 3], [4], [5], [6], [], [], [8, 9], [10], [11], [12], [1, 7, 13], [], [15], [], [], [17, 18], [19], [20], [21], [], [], [23, 24], [25], [26], [27], [16, 22, 28], [14, 29], [30, 0, 1, 2, 3, 4, 5, 6, 7, 8, 9, 10, 11, 12, 13, 14, 15, 16, 17, 18, 19, 20, 21, 22, 23, 24, 25, 26, 27, 28, 29, 30]])))
     (.reg [⟨(some 28), .mv (.tmp 9), none⟩,
       ⟨(some 29), .bin .add (.tmp 28) (.const (.int .i64 1)), none⟩,
       ⟨(some 9), .mv (.tmp 29), none⟩]))))))
  (.seq (.reg [⟨(some 92), .mv (.tmp 1), none⟩,
     ⟨(some 93), .bin .add (.tmp 92) (.const (.int .i64 1)), none⟩,
     ⟨(some 94), .bin .quo (.tmp 93) (.const (.int .i64 2)), none⟩,
     ⟨(some 10), .mv (.tmp 94), none⟩])
  (.seq (.drw [⟨(some 95), .pad 0 (.tmp 7), none⟩,
     ⟨(some 96), .ld none (.tmp 95), none⟩,
     ⟨(some 97), .mv (.tmp 10), none⟩,
     ⟨(some 98), .bin .sub (.tmp 96) (.tmp 97), none⟩,
     ⟨(some 99), .pad 1 (.tmp 7), none⟩,
     ⟨(some 100), .ld none (.tmp 99), none⟩,
     ⟨(some 101), .mv (.tmp 10), none⟩,
     ⟨(some 102), .bin .sub (.tmp 100) (.tmp 101), none⟩,
     ⟨(some 103), .bld [(.int .i64 0), (.int .i64 0)] [(0, 1, (.tmp 98)), (1, 1, (.tmp 102))], none⟩,
     ⟨(some 104), .pad 0 (.tmp 8), none⟩,
     ⟨(some 105), .ld none (.tmp 104), none⟩,
     ⟨(some 106), .mv (.tmp 10), none⟩,
     ⟨(some 107), .bin .add (.tmp 105) (.tmp 106), none⟩,
     ⟨(some 108), .pad 1 (.tmp 8), none⟩,
     ⟨(some 109), .ld none (.tmp 108), none⟩,
     ⟨(some 110), .mv (.tmp 10), none⟩,
     ⟨(some 111), .bin .add (.tmp 109) (.tmp 110), none⟩,
     ⟨(some 112), .bld [(.int .i64 0), (.int .i64 0)] [(0, 1, (.tmp 107)), (1, 1, (.tmp 111))], none⟩,
     ⟨none, .st 2 (.tmp 4) (.tmp 103), none⟩,
     ⟨none, .st 2 (.tmp 5) (.tmp 112), none⟩,
     ⟨(some 6), .mv (.const (.bool true)), none⟩] [[], [0], [], [1, 2], [], [4], [], [5, 6], [3, 7], [], [9], [], [10, 11], [], [13], [], [14, 15], [12, 16], [8, 0, 1, 2, 3, 4, 5, 6, 7, 8], [17, 18, 0, 1, 2, 3, 4, 5, 6, 7, 8, 9, 10, 11, 12, 13, 14, 15, 16, 17, 18], [19, 0, 1, 2, 3, 4, 5, 6, 7, 8, 9, 10, 11, 12, 13, 14, 15, 16, 17, 18, 19]])
  .ret)))))))
def glyphicref20_Box_v1.l0 : Nat → List (Int × Int × Int × Int) → Int → Int → Int → Int → Int → Option (Int × Int × Int × Int)
  | 0, _, _, _, _, _, _ => none
  | k + 1, l0, x254, x255, x256, x257, x258 => if x254 < (l0.length : Int) then ((lgt l0 x254).bind fun (x260, x261, x262, x263) => ((lgt l0 x254).bind fun (x273, x274, x275, x276) => ((lgt l0 x254).bind fun (x286, x287, x288, x289) => ((lgt l0 x254).bind fun (x299, x300, x301, x302) => ((lgt l0 x254).bind fun (x312, x313, x314, x315) => ((lgt l0 x254).bind fun (x325, x326, x327, x328) => ((lgt l0 x254).bind fun (x338, x339, x340, x341) => ((lgt l0 x254).bind fun (x351, x352, x353, x354) => (glyphicref20_Box_v1.l0 k l0 (wr64 (x254 + 1)) (mx (mx x255 x312) x327) (mx (mx x256 x339) x354) (mn (mn x257 x260) x275) (mn (mn x258 x287) x302)))))))))) else (some (x255, x256, x257, x258))
def glyphicref20_Box_v1.f (k : Nat) (l0 : List (Int × Int × Int × Int)) (w1 : Int) : Option (Int × Int × Int × Int × Bool) := if (l0.length : Int) = 0 then (some (0, 0, 0, 0, false)) else ((lgt l0 0).bind fun (x223, x224, x225, x226) => ((lgt l0 0).bind fun (x237, x238, x239, x240) => ((glyphicref20_Box_v1.l0 k l0 0 x237 x238 x223 x224 : Option (Int × Int × Int × Int)).bind fun (x366, x367, x368, x369) => (some (wr64 (x368 - (wr64 (Int.tdiv (wr64 (w1 + 1)) 2))), wr64 (x369 - (wr64 (Int.tdiv (wr64 (w1 + 1)) 2))), wr64 (x366 + (wr64 (Int.tdiv (wr64 (w1 + 1)) 2))), wr64 (x367 + (wr64 (Int.tdiv (wr64 (w1 + 1)) 2))), true)))))
theorem glyphicref20_Box_v1.ok {S : Seal} {k : Nat} {l0 : List (Int × Int × Int × Int)} {w1 : Int} {r0_ : Int} {r1_ : Int} {r2_ : Int} {r3_ : Int} {r4_ : Bool}{a_l0 : Option Addr} {c_l0 : Nat} (h_l0 : SlE S E_i644 l0 a_l0) (e : glyphicref20_Box_v1.f k l0 w1 = some (r0_, r1_, r2_, r3_, r4_)) :
    Cal Try.prog 23 [.slice a_l0 l0.length c_l0, .int .i64 w1] [] S fun v H' S' => v = .tuple #[.agg #[.int .i64 r0_, .int .i64 r1_], .agg #[.int .i64 r2_, .int .i64 r3_], .bool r4_] ∧ H' = [] ∧ S' = S := by
  unfold glyphicref20_Box_v1.f at e
  refine cal_of (c := c23) (N := 113) Try.func23 rfl rfl (by kernel_rfl) (rs := [.cn 2 4, .cn 2 5, .t 6]) (by kernel_rfl) (Nat.le_of_ble_eq_true rfl) ?_
  unfold c23
  refine w_seq ?_
  refine w_reg fun all => ?_
  refine t_a (.new rfl rfl) fun b220 fb220 sb220 => ?_
  refine t_a (.new rfl rfl) fun b221 fb221 sb221 => ?_
  refine t_qz 1 [0, 1, 4, 5] (σ' := [(0, .slice a_l0 l0.length c_l0), (1, .int .i64 w1), (4, .pointer (some ⟨b220, 0, none⟩)), (5, .pointer (some ⟨b221, 0, none⟩))]) (by kernel_rfl) ?_
  refine t_end ?_
  show W _ _ _ _ _ _ _
  refine w_seq ?_
  refine w_seq ?_
  refine w_reg fun all => ?_
  by_cases c222 : (l0.length : Int) = 0
  · rw [if_pos c222] at e
    have c222b : ((l0.length : Int) == 0) = true := beq_iff_eq.mpr c222
    refine t_qz 2 [0, 1, 4, 5, 12] (σ' := [(0, .slice a_l0 l0.length c_l0), (1, .int .i64 w1), (4, .pointer (some ⟨b220, 0, none⟩)), (5, .pointer (some ⟨b221, 0, none⟩)), (12, .int .i64 (l0.length : Int))]) (by kernel_rfl) ?_
    refine t_v (dv_quiet rfl (congrArg (fun t => some (Value.bool t)) c222b)) ?_
    refine t_keep [0, 1, 4, 5, 13] (σ' := [(0, .slice a_l0 l0.length c_l0), (1, .int .i64 w1), (4, .pointer (some ⟨b220, 0, none⟩)), (5, .pointer (some ⟨b221, 0, none⟩)), (13, .bool true)]) (by kernel_rfl) ?_
    refine t_end ?_
    show W _ _ _ _ _ _ _
    refine w_cond rfl (fun _ => ?_) (fun c_ => by cases c_)
    show W _ _ _ _ _ _ _
    refine w_seq ?_
    refine w_reg fun all => ?_
    refine t_qz 2 [4, 5, 14, 15] (σ' := [(4, .pointer (some ⟨b220, 0, none⟩)), (5, .pointer (some ⟨b221, 0, none⟩)), (14, .agg #[.int .i64 0, .int .i64 0]), (15, .agg #[.int .i64 0, .int .i64 0])]) (by kernel_rfl) ?_
    refine t_sti 1 (cs := [.int .i64 0, .int .i64 0]) rfl rfl rfl rfl rfl rfl rfl rfl rfl ?_
    refine t_sti 0 (cs := [.int .i64 0, .int .i64 0]) rfl rfl rfl rfl rfl rfl rfl rfl rfl ?_
    refine t_qz 1 [4, 5, 6] (σ' := [(4, .pointer (some ⟨b220, 0, none⟩)), (5, .pointer (some ⟨b221, 0, none⟩)), (6, .bool false)]) (by kernel_rfl) ?_
    refine t_end ?_
    show W _ _ _ _ _ _ _
    refine w_ret ?_
    simp only [Option.some.injEq, Prod.mk.injEq] at e
    obtain ⟨rfl, rfl, rfl, rfl, rfl⟩ := e
    exact ⟨[.agg #[.int .i64 0, .int .i64 0], .agg #[.int .i64 0, .int .i64 0], .bool false], [], S, ⟨⟨_, _, _, rfl, .at 1 rfl rfl, rfl⟩, ⟨_, _, _, rfl, .at 0 rfl rfl, rfl⟩, rfl, trivial⟩, VS.none, rfl, rfl, rfl⟩
  · rw [if_neg c222] at e
    have c222b : ((l0.length : Int) == 0) = false := beq_eq_false_iff_ne.mpr c222
    refine t_qz 2 [0, 1, 4, 5, 12] (σ' := [(0, .slice a_l0 l0.length c_l0), (1, .int .i64 w1), (4, .pointer (some ⟨b220, 0, none⟩)), (5, .pointer (some ⟨b221, 0, none⟩)), (12, .int .i64 (l0.length : Int))]) (by kernel_rfl) ?_
    refine t_v (dv_quiet rfl (congrArg (fun t => some (Value.bool t)) c222b)) ?_
    refine t_keep [0, 1, 4, 5, 13] (σ' := [(0, .slice a_l0 l0.length c_l0), (1, .int .i64 w1), (4, .pointer (some ⟨b220, 0, none⟩)), (5, .pointer (some ⟨b221, 0, none⟩)), (13, .bool false)]) (by kernel_rfl) ?_
    refine t_end ?_
    show W _ _ _ _ _ _ _
    refine w_cond rfl (fun c_ => by cases c_) (fun _ => ?_)
    show W _ _ _ _ _ _ _
    refine w_skip ?_
    show W _ _ _ _ _ _ _
    refine w_seq ?_
    refine w_reg fun all => ?_
    obtain ⟨⟨x223, x224, x225, x226⟩, hx227, e⟩ := bind_of e
    try dsimp only at e
    obtain ⟨lb228, lo229, ll230, la231, lS232, lv233, lz234, lu235⟩ := sle_get (E := E_i644) h_l0 hx227
    refine t_qz 1 [0, 1, 4, 5, 16] (σ' := [(0, .slice a_l0 l0.length c_l0), (1, .int .i64 w1), (4, .pointer (some ⟨b220, 0, none⟩)), (5, .pointer (some ⟨b221, 0, none⟩)), (16, .slice a_l0 l0.length c_l0)]) (by kernel_rfl) ?_
    refine t_v (.quiet rfl (ixs_sle rfl rfl la231 lz234 lu235)) ?_
    refine t_qz 1 [0, 1, 4, 5, 18] (σ' := [(0, .slice a_l0 l0.length c_l0), (1, .int .i64 w1), (4, .pointer (some ⟨b220, 0, none⟩)), (5, .pointer (some ⟨b221, 0, none⟩)), (18, .pointer (some ⟨lb228, lo229 + (0 : Int).toNat * 4 + 0, none⟩))]) (by kernel_rfl) ?_
    refine t_v (.ldn (vs := [.int .i64 x223, .int .i64 x224]) rfl rfl rfl (.sealed lS232 (subl_sub lv233 (by kernel_rfl)))) ?_
    refine t_a (.new rfl rfl) fun b236 fb236 sb236 => ?_
    refine t_sti 0 (cs := [.int .i64 x223, .int .i64 x224]) rfl rfl rfl rfl rfl rfl rfl rfl rfl ?_
    refine t_keep [0, 1, 4, 5, 7] (σ' := [(0, .slice a_l0 l0.length c_l0), (1, .int .i64 w1), (4, .pointer (some ⟨b220, 0, none⟩)), (5, .pointer (some ⟨b221, 0, none⟩)), (7, .pointer (some ⟨b236, 0, none⟩))]) (by kernel_rfl) ?_
    refine t_end ?_
    show W _ _ _ _ _ _ _
    refine w_seq ?_
    refine w_reg fun all => ?_
    obtain ⟨⟨x237, x238, x239, x240⟩, hx241, e⟩ := bind_of e
    try dsimp only at e
    obtain ⟨lb242, lo243, ll244, la245, lS246, lv247, lz248, lu249⟩ := sle_get (E := E_i644) h_l0 hx241
    refine t_qz 1 [0, 1, 4, 5, 7, 20] (σ' := [(0, .slice a_l0 l0.length c_l0), (1, .int .i64 w1), (4, .pointer (some ⟨b220, 0, none⟩)), (5, .pointer (some ⟨b221, 0, none⟩)), (7, .pointer (some ⟨b236, 0, none⟩)), (20, .slice a_l0 l0.length c_l0)]) (by kernel_rfl) ?_
    refine t_v (.quiet rfl (ixs_sle rfl rfl la245 lz248 lu249)) ?_
    refine t_qz 1 [0, 1, 4, 5, 7, 22] (σ' := [(0, .slice a_l0 l0.length c_l0), (1, .int .i64 w1), (4, .pointer (some ⟨b220, 0, none⟩)), (5, .pointer (some ⟨b221, 0, none⟩)), (7, .pointer (some ⟨b236, 0, none⟩)), (22, .pointer (some ⟨lb242, lo243 + (0 : Int).toNat * 4 + 0, none⟩))]) (by kernel_rfl) ?_
    refine t_v (.ldn (vs := [.int .i64 x237, .int .i64 x238]) rfl rfl rfl (.sealed lS246 (subl_sub lv247 (by kernel_rfl)))) ?_
    refine t_a (.new rfl rfl) fun b250 fb250 sb250 => ?_
    refine t_sti 0 (cs := [.int .i64 x237, .int .i64 x238]) rfl rfl rfl rfl rfl rfl rfl rfl rfl ?_
    refine t_keep [0, 1, 4, 5, 7, 8] (σ' := [(0, .slice a_l0 l0.length c_l0), (1, .int .i64 w1), (4, .pointer (some ⟨b220, 0, none⟩)), (5, .pointer (some ⟨b221, 0, none⟩)), (7, .pointer (some ⟨b236, 0, none⟩)), (8, .pointer (some ⟨b250, 0, none⟩))]) (by kernel_rfl) ?_
    refine t_end ?_
    show W _ _ _ _ _ _ _
    obtain ⟨⟨x366, x367, x368, x369⟩, e252, e⟩ := bind_of e
    try dsimp only at e
    refine w_cut [1, 4, 5, 7, 8] (fun σ_ H_ S_ => [(1, .int .i64 w1), (4, .pointer (some ⟨b220, 0, none⟩)), (5, .pointer (some ⟨b221, 0, none⟩)), (7, .pointer (some ⟨b236, 0, none⟩)), (8, .pointer (some ⟨b250, 0, none⟩))] = σ_ ∧ ([⟨b250, [.int .i64 x366, .int .i64 x367], 2⟩, ⟨b236, [.int .i64 x368, .int .i64 x369], 2⟩, ⟨b221, [.int .i64 0, .int .i64 0], 2⟩, ⟨b220, [.int .i64 0, .int .i64 0], 2⟩] : List Own) = H_ ∧ S = S_) ?_ ?_
    · show W _ _ _ _ _ _ _
      refine w_seq ?_
      refine w_reg fun all => ?_
      refine t_qz 1 [0, 1, 4, 5, 7, 8, 9] (σ' := [(0, .slice a_l0 l0.length c_l0), (1, .int .i64 w1), (4, .pointer (some ⟨b220, 0, none⟩)), (5, .pointer (some ⟨b221, 0, none⟩)), (7, .pointer (some ⟨b236, 0, none⟩)), (8, .pointer (some ⟨b250, 0, none⟩)), (9, .int .i64 0)]) (by kernel_rfl) ?_
      refine t_end ?_
      show W _ _ _ _ _ _ _
      refine w_block ?_
      refine w_kp [0, 1, 4, 5, 7, 8, 9] (σ' := [(0, .slice a_l0 l0.length c_l0), (1, .int .i64 w1), (4, .pointer (some ⟨b220, 0, none⟩)), (5, .pointer (some ⟨b221, 0, none⟩)), (7, .pointer (some ⟨b236, 0, none⟩)), (8, .pointer (some ⟨b250, 0, none⟩)), (9, .int .i64 0)]) (by kernel_rfl) ?_
      refine w_loop (fun n_ σ_ H_ S_ => ∃ (x254 : Int) (x255 : Int) (x256 : Int) (x257 : Int) (x258 : Int), [(0, .slice a_l0 l0.length c_l0), (1, .int .i64 w1), (4, .pointer (some ⟨b220, 0, none⟩)), (5, .pointer (some ⟨b221, 0, none⟩)), (7, .pointer (some ⟨b236, 0, none⟩)), (8, .pointer (some ⟨b250, 0, none⟩)), (9, .int .i64 x254)] = σ_ ∧ ([⟨b250, [.int .i64 x255, .int .i64 x256], 2⟩, ⟨b236, [.int .i64 x257, .int .i64 x258], 2⟩, ⟨b221, [.int .i64 0, .int .i64 0], 2⟩, ⟨b220, [.int .i64 0, .int .i64 0], 2⟩] : List Own) = H_ ∧ S = S_ ∧ glyphicref20_Box_v1.l0 n_ l0 x254 x255 x256 x257 x258 = some (x366, x367, x368, x369)) _ ⟨0, x237, x238, x223, x224, rfl, rfl, rfl, e252⟩ ?_
      rintro n365 σ_ H_ S_ ⟨x254, x255, x256, x257, x258, rfl, rfl, rfl, e252⟩
      cases n365 with
      | zero => rw [glyphicref20_Box_v1.l0.eq_1] at e252; cases e252
      | succ k_ =>
        rw [glyphicref20_Box_v1.l0.eq_2] at e252
        refine w_seq ?_
        refine w_seq ?_
        refine w_reg fun all => ?_
        by_cases c259 : x254 < (l0.length : Int)
        · rw [if_pos c259] at e252
          have c259b : (decide (x254 < (l0.length : Int))) = true := decide_eq_true c259
          refine t_qz 3 [0, 1, 4, 5, 7, 8, 9, 24, 26] (σ' := [(0, .slice a_l0 l0.length c_l0), (1, .int .i64 w1), (4, .pointer (some ⟨b220, 0, none⟩)), (5, .pointer (some ⟨b221, 0, none⟩)), (7, .pointer (some ⟨b236, 0, none⟩)), (8, .pointer (some ⟨b250, 0, none⟩)), (9, .int .i64 x254), (24, .int .i64 x254), (26, .int .i64 (l0.length : Int))]) (by kernel_rfl) ?_
          refine t_v (dv_quiet rfl (congrArg (fun t => some (Value.bool t)) c259b)) ?_
          refine t_keep [0, 1, 4, 5, 7, 8, 9, 27] (σ' := [(0, .slice a_l0 l0.length c_l0), (1, .int .i64 w1), (4, .pointer (some ⟨b220, 0, none⟩)), (5, .pointer (some ⟨b221, 0, none⟩)), (7, .pointer (some ⟨b236, 0, none⟩)), (8, .pointer (some ⟨b250, 0, none⟩)), (9, .int .i64 x254), (27, .bool true)]) (by kernel_rfl) ?_
          refine t_end ?_
          show W _ _ _ _ _ _ _
          refine w_cond rfl (fun _ => ?_) (fun c_ => by cases c_)
          show W _ _ _ _ _ _ _
          refine w_skip ?_
          show W _ _ _ _ _ _ _
          refine w_seq ?_
          refine w_block ?_
          refine w_seq ?_
          obtain ⟨⟨x260, x261, x262, x263⟩, hx264, e252⟩ := bind_of e252
          try dsimp only at e252
          obtain ⟨lb265, lo266, ll267, la268, lS269, lv270, lz271, lu272⟩ := sle_get (E := E_i644) h_l0 hx264
          obtain ⟨⟨x273, x274, x275, x276⟩, hx277, e252⟩ := bind_of e252
          try dsimp only at e252
          obtain ⟨lb278, lo279, ll280, la281, lS282, lv283, lz284, lu285⟩ := sle_get (E := E_i644) h_l0 hx277
          obtain ⟨⟨x286, x287, x288, x289⟩, hx290, e252⟩ := bind_of e252
          try dsimp only at e252
          obtain ⟨lb291, lo292, ll293, la294, lS295, lv296, lz297, lu298⟩ := sle_get (E := E_i644) h_l0 hx290
          obtain ⟨⟨x299, x300, x301, x302⟩, hx303, e252⟩ := bind_of e252
          try dsimp only at e252
          obtain ⟨lb304, lo305, ll306, la307, lS308, lv309, lz310, lu311⟩ := sle_get (E := E_i644) h_l0 hx303
          refine w_drwE mixed 31 [.v (.pointer (some ⟨b236, 0, none⟩)), .v (.int .i64 x257), .v (.slice a_l0 l0.length c_l0), .v (.int .i64 x254), .v (.pointer (some ⟨lb265, lo266 + (x254).toNat * 4 + 0, none⟩)), .v (.pointer (some ⟨lb265, lo266 + (x254).toNat * 4 + 0, none⟩)), .v (.pointer (some ⟨lb265, lo266 + (x254).toNat * 4 + 0, none⟩)), .v (.int .i64 x260), .v (.slice a_l0 l0.length c_l0), .v (.int .i64 x254), .v (.pointer (some ⟨lb278, lo279 + (x254).toNat * 4 + 0, none⟩)), .v (.pointer (some ⟨lb278, lo279 + (x254).toNat * 4 + 2, none⟩)), .v (.pointer (some ⟨lb278, lo279 + (x254).toNat * 4 + 2, none⟩)), .v (.int .i64 x275), .v (.int .i64 (mn (mn x257 x260) x275)), .v (.pointer (some ⟨b236, 1, none⟩)), .v (.int .i64 x258), .v (.slice a_l0 l0.length c_l0), .v (.int .i64 x254), .v (.pointer (some ⟨lb291, lo292 + (x254).toNat * 4 + 0, none⟩)), .v (.pointer (some ⟨lb291, lo292 + (x254).toNat * 4 + 0, none⟩)), .v (.pointer (some ⟨lb291, lo292 + (x254).toNat * 4 + 1, none⟩)), .v (.int .i64 x287), .v (.slice a_l0 l0.length c_l0), .v (.int .i64 x254), .v (.pointer (some ⟨lb304, lo305 + (x254).toNat * 4 + 0, none⟩)), .v (.pointer (some ⟨lb304, lo305 + (x254).toNat * 4 + 2, none⟩)), .v (.pointer (some ⟨lb304, lo305 + (x254).toNat * 4 + 3, none⟩)), .v (.int .i64 x302), .v (.int .i64 (mn (mn x258 x287) x302)), .v (.agg #[.int .i64 (mn (mn x257 x260) x275), .int .i64 (mn (mn x258 x287) x302)])] (by kernel_rfl) ?_ ?_
          · refine DI.sq 1 (by kernel_rfl) rfl ?_
            refine .cons (.ld1 rfl rfl rfl (.at 1 rfl rfl)) ?_
            refine DI.sq 2 (by kernel_rfl) rfl ?_
            refine .cons (.quiet rfl (ixs_sle rfl rfl la268 lz271 lu272)) ?_
            refine DI.sq 2 (by kernel_rfl) rfl ?_
            refine .cons (.ld1 rfl rfl rfl (.sealed lS269 (subl_at lv270 rfl))) ?_
            refine DI.sq 2 (by kernel_rfl) rfl ?_
            refine .cons (.quiet rfl (ixs_sle rfl rfl la281 lz284 lu285)) ?_
            refine DI.sq 2 (by kernel_rfl) rfl ?_
            refine .cons (.ld1 rfl rfl rfl (.sealed lS282 (subl_at lv283 rfl))) ?_
            refine DI.sq 2 (by kernel_rfl) rfl ?_
            refine .cons (.ld1 rfl rfl rfl (.at 1 rfl rfl)) ?_
            refine DI.sq 2 (by kernel_rfl) rfl ?_
            refine .cons (.quiet rfl (ixs_sle rfl rfl la294 lz297 lu298)) ?_
            refine DI.sq 2 (by kernel_rfl) rfl ?_
            refine .cons (.ld1 rfl rfl rfl (.sealed lS295 (subl_at lv296 rfl))) ?_
            refine DI.sq 2 (by kernel_rfl) rfl ?_
            refine .cons (.quiet rfl (ixs_sle rfl rfl la307 lz310 lu311)) ?_
            refine DI.sq 2 (by kernel_rfl) rfl ?_
            refine .cons (.ld1 rfl rfl rfl (.sealed lS308 (subl_at lv309 rfl))) ?_
            refine DI.sq 2 (by kernel_rfl) rfl ?_
            exact .nil
          refine fk_q 31 [0, 1, 4, 5, 7, 8, 9, 60] (σ' := [(0, .slice a_l0 l0.length c_l0), (1, .int .i64 w1), (4, .pointer (some ⟨b220, 0, none⟩)), (5, .pointer (some ⟨b221, 0, none⟩)), (7, .pointer (some ⟨b236, 0, none⟩)), (8, .pointer (some ⟨b250, 0, none⟩)), (9, .int .i64 x254), (60, .agg #[.int .i64 (mn (mn x257 x260) x275), .int .i64 (mn (mn x258 x287) x302)])]) t_more (by kernel_rfl) ?_
          refine fk_nil fun all => ?_
          refine t_sti 1 (cs := [.int .i64 (mn (mn x257 x260) x275), .int .i64 (mn (mn x258 x287) x302)]) rfl rfl rfl rfl rfl rfl rfl rfl rfl ?_
          refine t_keep [0, 1, 4, 5, 7, 8, 9] (σ' := [(0, .slice a_l0 l0.length c_l0), (1, .int .i64 w1), (4, .pointer (some ⟨b220, 0, none⟩)), (5, .pointer (some ⟨b221, 0, none⟩)), (7, .pointer (some ⟨b236, 0, none⟩)), (8, .pointer (some ⟨b250, 0, none⟩)), (9, .int .i64 x254)]) (by kernel_rfl) ?_
          refine t_end ?_
          show W _ _ _ _ _ _ _
          obtain ⟨⟨x312, x313, x314, x315⟩, hx316, e252⟩ := bind_of e252
          try dsimp only at e252
          obtain ⟨lb317, lo318, ll319, la320, lS321, lv322, lz323, lu324⟩ := sle_get (E := E_i644) h_l0 hx316
          obtain ⟨⟨x325, x326, x327, x328⟩, hx329, e252⟩ := bind_of e252
          try dsimp only at e252
          obtain ⟨lb330, lo331, ll332, la333, lS334, lv335, lz336, lu337⟩ := sle_get (E := E_i644) h_l0 hx329
          obtain ⟨⟨x338, x339, x340, x341⟩, hx342, e252⟩ := bind_of e252
          try dsimp only at e252
          obtain ⟨lb343, lo344, ll345, la346, lS347, lv348, lz349, lu350⟩ := sle_get (E := E_i644) h_l0 hx342
          obtain ⟨⟨x351, x352, x353, x354⟩, hx355, e252⟩ := bind_of e252
          try dsimp only at e252
          obtain ⟨lb356, lo357, ll358, la359, lS360, lv361, lz362, lu363⟩ := sle_get (E := E_i644) h_l0 hx355
          refine w_drwE mixed 31 [.v (.pointer (some ⟨b250, 0, none⟩)), .v (.int .i64 x255), .v (.slice a_l0 l0.length c_l0), .v (.int .i64 x254), .v (.pointer (some ⟨lb317, lo318 + (x254).toNat * 4 + 0, none⟩)), .v (.pointer (some ⟨lb317, lo318 + (x254).toNat * 4 + 0, none⟩)), .v (.pointer (some ⟨lb317, lo318 + (x254).toNat * 4 + 0, none⟩)), .v (.int .i64 x312), .v (.slice a_l0 l0.length c_l0), .v (.int .i64 x254), .v (.pointer (some ⟨lb330, lo331 + (x254).toNat * 4 + 0, none⟩)), .v (.pointer (some ⟨lb330, lo331 + (x254).toNat * 4 + 2, none⟩)), .v (.pointer (some ⟨lb330, lo331 + (x254).toNat * 4 + 2, none⟩)), .v (.int .i64 x327), .v (.int .i64 (mx (mx x255 x312) x327)), .v (.pointer (some ⟨b250, 1, none⟩)), .v (.int .i64 x256), .v (.slice a_l0 l0.length c_l0), .v (.int .i64 x254), .v (.pointer (some ⟨lb343, lo344 + (x254).toNat * 4 + 0, none⟩)), .v (.pointer (some ⟨lb343, lo344 + (x254).toNat * 4 + 0, none⟩)), .v (.pointer (some ⟨lb343, lo344 + (x254).toNat * 4 + 1, none⟩)), .v (.int .i64 x339), .v (.slice a_l0 l0.length c_l0), .v (.int .i64 x254), .v (.pointer (some ⟨lb356, lo357 + (x254).toNat * 4 + 0, none⟩)), .v (.pointer (some ⟨lb356, lo357 + (x254).toNat * 4 + 2, none⟩)), .v (.pointer (some ⟨lb356, lo357 + (x254).toNat * 4 + 3, none⟩)), .v (.int .i64 x354), .v (.int .i64 (mx (mx x256 x339) x354)), .v (.agg #[.int .i64 (mx (mx x255 x312) x327), .int .i64 (mx (mx x256 x339) x354)])] (by kernel_rfl) ?_ ?_
          · refine DI.sq 1 (by kernel_rfl) rfl ?_
            refine .cons (.ld1 rfl rfl rfl (.at 0 rfl rfl)) ?_
            refine DI.sq 2 (by kernel_rfl) rfl ?_
            refine .cons (.quiet rfl (ixs_sle rfl rfl la320 lz323 lu324)) ?_
            refine DI.sq 2 (by kernel_rfl) rfl ?_
            refine .cons (.ld1 rfl rfl rfl (.sealed lS321 (subl_at lv322 rfl))) ?_
            refine DI.sq 2 (by kernel_rfl) rfl ?_
            refine .cons (.quiet rfl (ixs_sle rfl rfl la333 lz336 lu337)) ?_
            refine DI.sq 2 (by kernel_rfl) rfl ?_
            refine .cons (.ld1 rfl rfl rfl (.sealed lS334 (subl_at lv335 rfl))) ?_
            refine DI.sq 2 (by kernel_rfl) rfl ?_
            refine .cons (.ld1 rfl rfl rfl (.at 0 rfl rfl)) ?_
            refine DI.sq 2 (by kernel_rfl) rfl ?_
            refine .cons (.quiet rfl (ixs_sle rfl rfl la346 lz349 lu350)) ?_
            refine DI.sq 2 (by kernel_rfl) rfl ?_
            refine .cons (.ld1 rfl rfl rfl (.sealed lS347 (subl_at lv348 rfl))) ?_
            refine DI.sq 2 (by kernel_rfl) rfl ?_
            refine .cons (.quiet rfl (ixs_sle rfl rfl la359 lz362 lu363)) ?_
            refine DI.sq 2 (by kernel_rfl) rfl ?_
            refine .cons (.ld1 rfl rfl rfl (.sealed lS360 (subl_at lv361 rfl))) ?_
            refine DI.sq 2 (by kernel_rfl) rfl ?_
            exact .nil
          refine fk_q 31 [0, 1, 4, 5, 7, 8, 9, 91] (σ' := [(0, .slice a_l0 l0.length c_l0), (1, .int .i64 w1), (4, .pointer (some ⟨b220, 0, none⟩)), (5, .pointer (some ⟨b221, 0, none⟩)), (7, .pointer (some ⟨b236, 0, none⟩)), (8, .pointer (some ⟨b250, 0, none⟩)), (9, .int .i64 x254), (91, .agg #[.int .i64 (mx (mx x255 x312) x327), .int .i64 (mx (mx x256 x339) x354)])]) t_more (by kernel_rfl) ?_
          refine fk_nil fun all => ?_
          refine t_sti 0 (cs := [.int .i64 (mx (mx x255 x312) x327), .int .i64 (mx (mx x256 x339) x354)]) rfl rfl rfl rfl rfl rfl rfl rfl rfl ?_
          refine t_keep [0, 1, 4, 5, 7, 8, 9] (σ' := [(0, .slice a_l0 l0.length c_l0), (1, .int .i64 w1), (4, .pointer (some ⟨b220, 0, none⟩)), (5, .pointer (some ⟨b221, 0, none⟩)), (7, .pointer (some ⟨b236, 0, none⟩)), (8, .pointer (some ⟨b250, 0, none⟩)), (9, .int .i64 x254)]) (by kernel_rfl) ?_
          refine t_end ?_
          show W _ _ _ _ _ _ _
          refine w_reg fun all => ?_
          refine t_qz 3 [0, 1, 4, 5, 7, 8, 9] (σ' := [(0, .slice a_l0 l0.length c_l0), (1, .int .i64 w1), (4, .pointer (some ⟨b220, 0, none⟩)), (5, .pointer (some ⟨b221, 0, none⟩)), (7, .pointer (some ⟨b236, 0, none⟩)), (8, .pointer (some ⟨b250, 0, none⟩)), (9, .int .i64 (wr64 (x254 + 1)))]) (by kernel_rfl) ?_
          refine t_end ?_
          exact ⟨k_, Nat.lt_succ_self _, [(0, .slice a_l0 l0.length c_l0), (1, .int .i64 w1), (4, .pointer (some ⟨b220, 0, none⟩)), (5, .pointer (some ⟨b221, 0, none⟩)), (7, .pointer (some ⟨b236, 0, none⟩)), (8, .pointer (some ⟨b250, 0, none⟩)), (9, .int .i64 (wr64 (x254 + 1)))], ([⟨b250, [.int .i64 (mx (mx x255 x312) x327), .int .i64 (mx (mx x256 x339) x354)], 2⟩, ⟨b236, [.int .i64 (mn (mn x257 x260) x275), .int .i64 (mn (mn x258 x287) x302)], 2⟩, ⟨b221, [.int .i64 0, .int .i64 0], 2⟩, ⟨b220, [.int .i64 0, .int .i64 0], 2⟩] : List Own), S, keep_sub [0, 1, 4, 5, 7, 8, 9] (by kernel_rfl), VS.sel [0, 0, 0, 0] (by kernel_rfl), wr64 (x254 + 1), mx (mx x255 x312) x327, mx (mx x256 x339) x354, mn (mn x257 x260) x275, mn (mn x258 x287) x302, rfl, rfl, rfl, e252⟩
        · rw [if_neg c259] at e252
          have c259b : (decide (x254 < (l0.length : Int))) = false := decide_eq_false c259
          refine t_qz 3 [0, 1, 4, 5, 7, 8, 9, 24, 26] (σ' := [(0, .slice a_l0 l0.length c_l0), (1, .int .i64 w1), (4, .pointer (some ⟨b220, 0, none⟩)), (5, .pointer (some ⟨b221, 0, none⟩)), (7, .pointer (some ⟨b236, 0, none⟩)), (8, .pointer (some ⟨b250, 0, none⟩)), (9, .int .i64 x254), (24, .int .i64 x254), (26, .int .i64 (l0.length : Int))]) (by kernel_rfl) ?_
          refine t_v (dv_quiet rfl (congrArg (fun t => some (Value.bool t)) c259b)) ?_
          refine t_keep [0, 1, 4, 5, 7, 8, 9, 27] (σ' := [(0, .slice a_l0 l0.length c_l0), (1, .int .i64 w1), (4, .pointer (some ⟨b220, 0, none⟩)), (5, .pointer (some ⟨b221, 0, none⟩)), (7, .pointer (some ⟨b236, 0, none⟩)), (8, .pointer (some ⟨b250, 0, none⟩)), (9, .int .i64 x254), (27, .bool false)]) (by kernel_rfl) ?_
          refine t_end ?_
          show W _ _ _ _ _ _ _
          refine w_cond rfl (fun c_ => by cases c_) (fun _ => ?_)
          show W _ _ _ _ _ _ _
          refine w_exit ?_
          simp only [Option.some.injEq, Prod.mk.injEq] at e252
          obtain ⟨rfl, rfl, rfl, rfl⟩ := e252
          exact ⟨([⟨b250, [.int .i64 x255, .int .i64 x256], 2⟩, ⟨b236, [.int .i64 x257, .int .i64 x258], 2⟩, ⟨b221, [.int .i64 0, .int .i64 0], 2⟩, ⟨b220, [.int .i64 0, .int .i64 0], 2⟩] : List Own), S, VS.sel [0, 0, 0, 0] (by kernel_rfl), by kernel_rfl, rfl, rfl⟩
    · rintro σ_ H_ S_ ⟨rfl, rfl, rfl⟩
      refine w_seq ?_
      refine w_reg fun all => ?_
      refine t_qz 4 [4, 5, 7, 8, 10] (σ' := [(4, .pointer (some ⟨b220, 0, none⟩)), (5, .pointer (some ⟨b221, 0, none⟩)), (7, .pointer (some ⟨b236, 0, none⟩)), (8, .pointer (some ⟨b250, 0, none⟩)), (10, .int .i64 (wr64 (Int.tdiv (wr64 (w1 + 1)) 2)))]) (by kernel_rfl) ?_
      refine t_end ?_
      show W _ _ _ _ _ _ _
      refine w_seq ?_
      refine w_kp [4, 5, 7, 8, 10] (σ' := [(4, .pointer (some ⟨b220, 0, none⟩)), (5, .pointer (some ⟨b221, 0, none⟩)), (7, .pointer (some ⟨b236, 0, none⟩)), (8, .pointer (some ⟨b250, 0, none⟩)), (10, .int .i64 (wr64 (Int.tdiv (wr64 (w1 + 1)) 2)))]) (by kernel_rfl) ?_
      refine w_gameQ mixed (by kernel_rfl) fun all G hend hstep hqf => ?_
      have hg_1fffff : G [true, true, true, true, true, true, true, true, true, true, true, true, true, true, true, true, true, true, true, true, true] [(4, .pointer (some ⟨b220, 0, none⟩)), (5, .pointer (some ⟨b221, 0, none⟩)), (6, .bool true)] ([⟨b250, [.int .i64 x366, .int .i64 x367], 2⟩, ⟨b236, [.int .i64 x368, .int .i64 x369], 2⟩, ⟨b221, [.int .i64 (wr64 (x366 + (wr64 (Int.tdiv (wr64 (w1 + 1)) 2)))), .int .i64 (wr64 (x367 + (wr64 (Int.tdiv (wr64 (w1 + 1)) 2))))], 2⟩, ⟨b220, [.int .i64 (wr64 (x368 - (wr64 (Int.tdiv (wr64 (w1 + 1)) 2)))), .int .i64 (wr64 (x369 - (wr64 (Int.tdiv (wr64 (w1 + 1)) 2))))], 2⟩] : List Own) := by
        refine hend _ _ _ (by kernel_rfl) ?_
        show W _ _ _ _ _ _ _
        refine w_ret ?_
        simp only [Option.some.injEq, Prod.mk.injEq] at e
        obtain ⟨rfl, rfl, rfl, rfl, rfl⟩ := e
        exact ⟨[.agg #[.int .i64 (wr64 (x368 - (wr64 (Int.tdiv (wr64 (w1 + 1)) 2)))), .int .i64 (wr64 (x369 - (wr64 (Int.tdiv (wr64 (w1 + 1)) 2))))], .agg #[.int .i64 (wr64 (x366 + (wr64 (Int.tdiv (wr64 (w1 + 1)) 2)))), .int .i64 (wr64 (x367 + (wr64 (Int.tdiv (wr64 (w1 + 1)) 2))))], .bool true], [], S, ⟨⟨_, _, _, rfl, .at 3 rfl rfl, rfl⟩, ⟨_, _, _, rfl, .at 2 rfl rfl, rfl⟩, rfl, trivial⟩, VS.none, rfl, rfl, rfl⟩
      have hg_fffff : G [true, true, true, true, true, true, true, true, true, true, true, true, true, true, true, true, true, true, true, true, false] [(4, .pointer (some ⟨b220, 0, none⟩)), (5, .pointer (some ⟨b221, 0, none⟩))] ([⟨b250, [.int .i64 x366, .int .i64 x367], 2⟩, ⟨b236, [.int .i64 x368, .int .i64 x369], 2⟩, ⟨b221, [.int .i64 (wr64 (x366 + (wr64 (Int.tdiv (wr64 (w1 + 1)) 2)))), .int .i64 (wr64 (x367 + (wr64 (Int.tdiv (wr64 (w1 + 1)) 2))))], 2⟩, ⟨b220, [.int .i64 (wr64 (x368 - (wr64 (Int.tdiv (wr64 (w1 + 1)) 2)))), .int .i64 (wr64 (x369 - (wr64 (Int.tdiv (wr64 (w1 + 1)) 2))))], 2⟩] : List Own) := by
        exact hqf 20 [4, 5, 6] _ _ _ [(4, .pointer (some ⟨b220, 0, none⟩)), (5, .pointer (some ⟨b221, 0, none⟩)), (6, .bool true)] (by kernel_rfl) (by kernel_rfl) hg_1fffff
      have hg_7ffff : G [true, true, true, true, true, true, true, true, true, true, true, true, true, true, true, true, true, true, true, false, false] [(4, .pointer (some ⟨b220, 0, none⟩)), (5, .pointer (some ⟨b221, 0, none⟩)), (112, .agg #[.int .i64 (wr64 (x366 + (wr64 (Int.tdiv (wr64 (w1 + 1)) 2)))), .int .i64 (wr64 (x367 + (wr64 (Int.tdiv (wr64 (w1 + 1)) 2))))])] ([⟨b250, [.int .i64 x366, .int .i64 x367], 2⟩, ⟨b236, [.int .i64 x368, .int .i64 x369], 2⟩, ⟨b221, [.int .i64 0, .int .i64 0], 2⟩, ⟨b220, [.int .i64 (wr64 (x368 - (wr64 (Int.tdiv (wr64 (w1 + 1)) 2)))), .int .i64 (wr64 (x369 - (wr64 (Int.tdiv (wr64 (w1 + 1)) 2))))], 2⟩] : List Own) := by
        refine hstep [19] _ _ _ (by kernel_rfl) (List.cons_ne_nil _ _) ⟨?_, trivial⟩
        · show T _ _ _ _ _ _ _ _
          refine t_sti 2 (cs := [.int .i64 (wr64 (x366 + (wr64 (Int.tdiv (wr64 (w1 + 1)) 2)))), .int .i64 (wr64 (x367 + (wr64 (Int.tdiv (wr64 (w1 + 1)) 2))))]) rfl rfl rfl rfl rfl rfl rfl rfl rfl ?_
          refine t_keep [4, 5] (σ' := [(4, .pointer (some ⟨b220, 0, none⟩)), (5, .pointer (some ⟨b221, 0, none⟩))]) (by kernel_rfl) ?_
          refine t_end ?_
          exact ⟨hg_fffff, rfl⟩
      have hg_5ffff : G [true, true, true, true, true, true, true, true, true, true, true, true, true, true, true, true, true, false, true, false, false] [(4, .pointer (some ⟨b220, 0, none⟩)), (5, .pointer (some ⟨b221, 0, none⟩)), (107, .int .i64 (wr64 (x366 + (wr64 (Int.tdiv (wr64 (w1 + 1)) 2))))), (111, .int .i64 (wr64 (x367 + (wr64 (Int.tdiv (wr64 (w1 + 1)) 2)))))] ([⟨b250, [.int .i64 x366, .int .i64 x367], 2⟩, ⟨b236, [.int .i64 x368, .int .i64 x369], 2⟩, ⟨b221, [.int .i64 0, .int .i64 0], 2⟩, ⟨b220, [.int .i64 (wr64 (x368 - (wr64 (Int.tdiv (wr64 (w1 + 1)) 2)))), .int .i64 (wr64 (x369 - (wr64 (Int.tdiv (wr64 (w1 + 1)) 2))))], 2⟩] : List Own) := by
        exact hqf 17 [4, 5, 112] _ _ _ [(4, .pointer (some ⟨b220, 0, none⟩)), (5, .pointer (some ⟨b221, 0, none⟩)), (112, .agg #[.int .i64 (wr64 (x366 + (wr64 (Int.tdiv (wr64 (w1 + 1)) 2)))), .int .i64 (wr64 (x367 + (wr64 (Int.tdiv (wr64 (w1 + 1)) 2))))])] (by kernel_rfl) (by kernel_rfl) hg_7ffff
      have hg_3ffff : G [true, true, true, true, true, true, true, true, true, true, true, true, true, true, true, true, true, true, false, false, false] [(4, .pointer (some ⟨b220, 0, none⟩)), (5, .pointer (some ⟨b221, 0, none⟩)), (103, .agg #[.int .i64 (wr64 (x368 - (wr64 (Int.tdiv (wr64 (w1 + 1)) 2)))), .int .i64 (wr64 (x369 - (wr64 (Int.tdiv (wr64 (w1 + 1)) 2))))]), (112, .agg #[.int .i64 (wr64 (x366 + (wr64 (Int.tdiv (wr64 (w1 + 1)) 2)))), .int .i64 (wr64 (x367 + (wr64 (Int.tdiv (wr64 (w1 + 1)) 2))))])] ([⟨b250, [.int .i64 x366, .int .i64 x367], 2⟩, ⟨b236, [.int .i64 x368, .int .i64 x369], 2⟩, ⟨b221, [.int .i64 0, .int .i64 0], 2⟩, ⟨b220, [.int .i64 0, .int .i64 0], 2⟩] : List Own) := by
        refine hstep [18] _ _ _ (by kernel_rfl) (List.cons_ne_nil _ _) ⟨?_, trivial⟩
        · show T _ _ _ _ _ _ _ _
          refine t_sti 3 (cs := [.int .i64 (wr64 (x368 - (wr64 (Int.tdiv (wr64 (w1 + 1)) 2)))), .int .i64 (wr64 (x369 - (wr64 (Int.tdiv (wr64 (w1 + 1)) 2))))]) rfl rfl rfl rfl rfl rfl rfl rfl rfl ?_
          refine t_keep [4, 5, 112] (σ' := [(4, .pointer (some ⟨b220, 0, none⟩)), (5, .pointer (some ⟨b221, 0, none⟩)), (112, .agg #[.int .i64 (wr64 (x366 + (wr64 (Int.tdiv (wr64 (w1 + 1)) 2)))), .int .i64 (wr64 (x367 + (wr64 (Int.tdiv (wr64 (w1 + 1)) 2))))])]) (by kernel_rfl) ?_
          refine t_end ?_
          exact ⟨hg_7ffff, rfl⟩
      have hg_4ffff : G [true, true, true, true, true, true, true, true, true, true, true, true, true, true, true, true, false, false, true, false, false] [(4, .pointer (some ⟨b220, 0, none⟩)), (5, .pointer (some ⟨b221, 0, none⟩)), (107, .int .i64 (wr64 (x366 + (wr64 (Int.tdiv (wr64 (w1 + 1)) 2))))), (109, .int .i64 x367), (110, .int .i64 (wr64 (Int.tdiv (wr64 (w1 + 1)) 2)))] ([⟨b250, [.int .i64 x366, .int .i64 x367], 2⟩, ⟨b236, [.int .i64 x368, .int .i64 x369], 2⟩, ⟨b221, [.int .i64 0, .int .i64 0], 2⟩, ⟨b220, [.int .i64 (wr64 (x368 - (wr64 (Int.tdiv (wr64 (w1 + 1)) 2)))), .int .i64 (wr64 (x369 - (wr64 (Int.tdiv (wr64 (w1 + 1)) 2))))], 2⟩] : List Own) := by
        exact hqf 16 [4, 5, 107, 111] _ _ _ [(4, .pointer (some ⟨b220, 0, none⟩)), (5, .pointer (some ⟨b221, 0, none⟩)), (107, .int .i64 (wr64 (x366 + (wr64 (Int.tdiv (wr64 (w1 + 1)) 2))))), (111, .int .i64 (wr64 (x367 + (wr64 (Int.tdiv (wr64 (w1 + 1)) 2)))))] (by kernel_rfl) (by kernel_rfl) hg_5ffff
      have hg_5efff : G [true, true, true, true, true, true, true, true, true, true, true, true, false, true, true, true, true, false, true, false, false] [(4, .pointer (some ⟨b220, 0, none⟩)), (5, .pointer (some ⟨b221, 0, none⟩)), (105, .int .i64 x366), (106, .int .i64 (wr64 (Int.tdiv (wr64 (w1 + 1)) 2))), (111, .int .i64 (wr64 (x367 + (wr64 (Int.tdiv (wr64 (w1 + 1)) 2)))))] ([⟨b250, [.int .i64 x366, .int .i64 x367], 2⟩, ⟨b236, [.int .i64 x368, .int .i64 x369], 2⟩, ⟨b221, [.int .i64 0, .int .i64 0], 2⟩, ⟨b220, [.int .i64 (wr64 (x368 - (wr64 (Int.tdiv (wr64 (w1 + 1)) 2)))), .int .i64 (wr64 (x369 - (wr64 (Int.tdiv (wr64 (w1 + 1)) 2))))], 2⟩] : List Own) := by
        exact hqf 12 [4, 5, 107, 111] _ _ _ [(4, .pointer (some ⟨b220, 0, none⟩)), (5, .pointer (some ⟨b221, 0, none⟩)), (107, .int .i64 (wr64 (x366 + (wr64 (Int.tdiv (wr64 (w1 + 1)) 2))))), (111, .int .i64 (wr64 (x367 + (wr64 (Int.tdiv (wr64 (w1 + 1)) 2)))))] (by kernel_rfl) (by kernel_rfl) hg_5ffff
      have hg_1ffff : G [true, true, true, true, true, true, true, true, true, true, true, true, true, true, true, true, true, false, false, false, false] [(4, .pointer (some ⟨b220, 0, none⟩)), (5, .pointer (some ⟨b221, 0, none⟩)), (103, .agg #[.int .i64 (wr64 (x368 - (wr64 (Int.tdiv (wr64 (w1 + 1)) 2)))), .int .i64 (wr64 (x369 - (wr64 (Int.tdiv (wr64 (w1 + 1)) 2))))]), (107, .int .i64 (wr64 (x366 + (wr64 (Int.tdiv (wr64 (w1 + 1)) 2))))), (111, .int .i64 (wr64 (x367 + (wr64 (Int.tdiv (wr64 (w1 + 1)) 2)))))] ([⟨b250, [.int .i64 x366, .int .i64 x367], 2⟩, ⟨b236, [.int .i64 x368, .int .i64 x369], 2⟩, ⟨b221, [.int .i64 0, .int .i64 0], 2⟩, ⟨b220, [.int .i64 0, .int .i64 0], 2⟩] : List Own) := by
        exact hqf 17 [4, 5, 103, 112] _ _ _ [(4, .pointer (some ⟨b220, 0, none⟩)), (5, .pointer (some ⟨b221, 0, none⟩)), (103, .agg #[.int .i64 (wr64 (x368 - (wr64 (Int.tdiv (wr64 (w1 + 1)) 2)))), .int .i64 (wr64 (x369 - (wr64 (Int.tdiv (wr64 (w1 + 1)) 2))))]), (112, .agg #[.int .i64 (wr64 (x366 + (wr64 (Int.tdiv (wr64 (w1 + 1)) 2)))), .int .i64 (wr64 (x367 + (wr64 (Int.tdiv (wr64 (w1 + 1)) 2))))])] (by kernel_rfl) (by kernel_rfl) hg_3ffff
      have hg_3feff : G [true, true, true, true, true, true, true, true, false, true, true, true, true, true, true, true, true, true, false, false, false] [(4, .pointer (some ⟨b220, 0, none⟩)), (5, .pointer (some ⟨b221, 0, none⟩)), (98, .int .i64 (wr64 (x368 - (wr64 (Int.tdiv (wr64 (w1 + 1)) 2))))), (102, .int .i64 (wr64 (x369 - (wr64 (Int.tdiv (wr64 (w1 + 1)) 2))))), (112, .agg #[.int .i64 (wr64 (x366 + (wr64 (Int.tdiv (wr64 (w1 + 1)) 2)))), .int .i64 (wr64 (x367 + (wr64 (Int.tdiv (wr64 (w1 + 1)) 2))))])] ([⟨b250, [.int .i64 x366, .int .i64 x367], 2⟩, ⟨b236, [.int .i64 x368, .int .i64 x369], 2⟩, ⟨b221, [.int .i64 0, .int .i64 0], 2⟩, ⟨b220, [.int .i64 0, .int .i64 0], 2⟩] : List Own) := by
        exact hqf 8 [4, 5, 103, 112] _ _ _ [(4, .pointer (some ⟨b220, 0, none⟩)), (5, .pointer (some ⟨b221, 0, none⟩)), (103, .agg #[.int .i64 (wr64 (x368 - (wr64 (Int.tdiv (wr64 (w1 + 1)) 2)))), .int .i64 (wr64 (x369 - (wr64 (Int.tdiv (wr64 (w1 + 1)) 2))))]), (112, .agg #[.int .i64 (wr64 (x366 + (wr64 (Int.tdiv (wr64 (w1 + 1)) 2)))), .int .i64 (wr64 (x367 + (wr64 (Int.tdiv (wr64 (w1 + 1)) 2))))])] (by kernel_rfl) (by kernel_rfl) hg_3ffff
      have hg_4bfff : G [true, true, true, true, true, true, true, true, true, true, true, true, true, true, false, true, false, false, true, false, false] [(4, .pointer (some ⟨b220, 0, none⟩)), (5, .pointer (some ⟨b221, 0, none⟩)), (107, .int .i64 (wr64 (x366 + (wr64 (Int.tdiv (wr64 (w1 + 1)) 2))))), (108, .pointer (some ⟨b250, 1, none⟩)), (110, .int .i64 (wr64 (Int.tdiv (wr64 (w1 + 1)) 2)))] ([⟨b250, [.int .i64 x366, .int .i64 x367], 2⟩, ⟨b236, [.int .i64 x368, .int .i64 x369], 2⟩, ⟨b221, [.int .i64 0, .int .i64 0], 2⟩, ⟨b220, [.int .i64 (wr64 (x368 - (wr64 (Int.tdiv (wr64 (w1 + 1)) 2)))), .int .i64 (wr64 (x369 - (wr64 (Int.tdiv (wr64 (w1 + 1)) 2))))], 2⟩] : List Own) := by
        refine hstep [14] _ _ _ (by kernel_rfl) (List.cons_ne_nil _ _) ⟨?_, trivial⟩
        · show T _ _ _ _ _ _ _ _
          refine t_v (.ld1 rfl rfl rfl (.at 0 rfl rfl)) ?_
          refine t_keep [4, 5, 107, 109, 110] (σ' := [(4, .pointer (some ⟨b220, 0, none⟩)), (5, .pointer (some ⟨b221, 0, none⟩)), (107, .int .i64 (wr64 (x366 + (wr64 (Int.tdiv (wr64 (w1 + 1)) 2))))), (109, .int .i64 x367), (110, .int .i64 (wr64 (Int.tdiv (wr64 (w1 + 1)) 2)))]) (by kernel_rfl) ?_
          refine t_end ?_
          exact ⟨hg_4ffff, rfl⟩
      have hg_ffff : G [true, true, true, true, true, true, true, true, true, true, true, true, true, true, true, true, false, false, false, false, false] [(4, .pointer (some ⟨b220, 0, none⟩)), (5, .pointer (some ⟨b221, 0, none⟩)), (103, .agg #[.int .i64 (wr64 (x368 - (wr64 (Int.tdiv (wr64 (w1 + 1)) 2)))), .int .i64 (wr64 (x369 - (wr64 (Int.tdiv (wr64 (w1 + 1)) 2))))]), (107, .int .i64 (wr64 (x366 + (wr64 (Int.tdiv (wr64 (w1 + 1)) 2))))), (109, .int .i64 x367), (110, .int .i64 (wr64 (Int.tdiv (wr64 (w1 + 1)) 2)))] ([⟨b250, [.int .i64 x366, .int .i64 x367], 2⟩, ⟨b236, [.int .i64 x368, .int .i64 x369], 2⟩, ⟨b221, [.int .i64 0, .int .i64 0], 2⟩, ⟨b220, [.int .i64 0, .int .i64 0], 2⟩] : List Own) := by
        exact hqf 16 [4, 5, 103, 107, 111] _ _ _ [(4, .pointer (some ⟨b220, 0, none⟩)), (5, .pointer (some ⟨b221, 0, none⟩)), (103, .agg #[.int .i64 (wr64 (x368 - (wr64 (Int.tdiv (wr64 (w1 + 1)) 2)))), .int .i64 (wr64 (x369 - (wr64 (Int.tdiv (wr64 (w1 + 1)) 2))))]), (107, .int .i64 (wr64 (x366 + (wr64 (Int.tdiv (wr64 (w1 + 1)) 2))))), (111, .int .i64 (wr64 (x367 + (wr64 (Int.tdiv (wr64 (w1 + 1)) 2)))))] (by kernel_rfl) (by kernel_rfl) hg_1ffff
      have hg_3fef7 : G [true, true, true, false, true, true, true, true, false, true, true, true, true, true, true, true, true, true, false, false, false] [(4, .pointer (some ⟨b220, 0, none⟩)), (5, .pointer (some ⟨b221, 0, none⟩)), (96, .int .i64 x368), (97, .int .i64 (wr64 (Int.tdiv (wr64 (w1 + 1)) 2))), (102, .int .i64 (wr64 (x369 - (wr64 (Int.tdiv (wr64 (w1 + 1)) 2))))), (112, .agg #[.int .i64 (wr64 (x366 + (wr64 (Int.tdiv (wr64 (w1 + 1)) 2)))), .int .i64 (wr64 (x367 + (wr64 (Int.tdiv (wr64 (w1 + 1)) 2))))])] ([⟨b250, [.int .i64 x366, .int .i64 x367], 2⟩, ⟨b236, [.int .i64 x368, .int .i64 x369], 2⟩, ⟨b221, [.int .i64 0, .int .i64 0], 2⟩, ⟨b220, [.int .i64 0, .int .i64 0], 2⟩] : List Own) := by
        exact hqf 3 [4, 5, 98, 102, 112] _ _ _ [(4, .pointer (some ⟨b220, 0, none⟩)), (5, .pointer (some ⟨b221, 0, none⟩)), (98, .int .i64 (wr64 (x368 - (wr64 (Int.tdiv (wr64 (w1 + 1)) 2))))), (102, .int .i64 (wr64 (x369 - (wr64 (Int.tdiv (wr64 (w1 + 1)) 2))))), (112, .agg #[.int .i64 (wr64 (x366 + (wr64 (Int.tdiv (wr64 (w1 + 1)) 2)))), .int .i64 (wr64 (x367 + (wr64 (Int.tdiv (wr64 (w1 + 1)) 2))))])] (by kernel_rfl) (by kernel_rfl) hg_3feff
      have hg_5ebff : G [true, true, true, true, true, true, true, true, true, true, false, true, false, true, true, true, true, false, true, false, false] [(4, .pointer (some ⟨b220, 0, none⟩)), (5, .pointer (some ⟨b221, 0, none⟩)), (104, .pointer (some ⟨b250, 0, none⟩)), (106, .int .i64 (wr64 (Int.tdiv (wr64 (w1 + 1)) 2))), (111, .int .i64 (wr64 (x367 + (wr64 (Int.tdiv (wr64 (w1 + 1)) 2)))))] ([⟨b250, [.int .i64 x366, .int .i64 x367], 2⟩, ⟨b236, [.int .i64 x368, .int .i64 x369], 2⟩, ⟨b221, [.int .i64 0, .int .i64 0], 2⟩, ⟨b220, [.int .i64 (wr64 (x368 - (wr64 (Int.tdiv (wr64 (w1 + 1)) 2)))), .int .i64 (wr64 (x369 - (wr64 (Int.tdiv (wr64 (w1 + 1)) 2))))], 2⟩] : List Own) := by
        refine hstep [10] _ _ _ (by kernel_rfl) (List.cons_ne_nil _ _) ⟨?_, trivial⟩
        · show T _ _ _ _ _ _ _ _
          refine t_v (.ld1 rfl rfl rfl (.at 0 rfl rfl)) ?_
          refine t_keep [4, 5, 105, 106, 111] (σ' := [(4, .pointer (some ⟨b220, 0, none⟩)), (5, .pointer (some ⟨b221, 0, none⟩)), (105, .int .i64 x366), (106, .int .i64 (wr64 (Int.tdiv (wr64 (w1 + 1)) 2))), (111, .int .i64 (wr64 (x367 + (wr64 (Int.tdiv (wr64 (w1 + 1)) 2)))))]) (by kernel_rfl) ?_
          refine t_end ?_
          exact ⟨hg_5efff, rfl⟩
      have hg_1efff : G [true, true, true, true, true, true, true, true, true, true, true, true, false, true, true, true, true, false, false, false, false] [(4, .pointer (some ⟨b220, 0, none⟩)), (5, .pointer (some ⟨b221, 0, none⟩)), (103, .agg #[.int .i64 (wr64 (x368 - (wr64 (Int.tdiv (wr64 (w1 + 1)) 2)))), .int .i64 (wr64 (x369 - (wr64 (Int.tdiv (wr64 (w1 + 1)) 2))))]), (105, .int .i64 x366), (106, .int .i64 (wr64 (Int.tdiv (wr64 (w1 + 1)) 2))), (111, .int .i64 (wr64 (x367 + (wr64 (Int.tdiv (wr64 (w1 + 1)) 2)))))] ([⟨b250, [.int .i64 x366, .int .i64 x367], 2⟩, ⟨b236, [.int .i64 x368, .int .i64 x369], 2⟩, ⟨b221, [.int .i64 0, .int .i64 0], 2⟩, ⟨b220, [.int .i64 0, .int .i64 0], 2⟩] : List Own) := by
        exact hqf 12 [4, 5, 103, 107, 111] _ _ _ [(4, .pointer (some ⟨b220, 0, none⟩)), (5, .pointer (some ⟨b221, 0, none⟩)), (103, .agg #[.int .i64 (wr64 (x368 - (wr64 (Int.tdiv (wr64 (w1 + 1)) 2)))), .int .i64 (wr64 (x369 - (wr64 (Int.tdiv (wr64 (w1 + 1)) 2))))]), (107, .int .i64 (wr64 (x366 + (wr64 (Int.tdiv (wr64 (w1 + 1)) 2))))), (111, .int .i64 (wr64 (x367 + (wr64 (Int.tdiv (wr64 (w1 + 1)) 2)))))] (by kernel_rfl) (by kernel_rfl) hg_1ffff
      have hg_3fe7f : G [true, true, true, true, true, true, true, false, false, true, true, true, true, true, true, true, true, true, false, false, false] [(4, .pointer (some ⟨b220, 0, none⟩)), (5, .pointer (some ⟨b221, 0, none⟩)), (98, .int .i64 (wr64 (x368 - (wr64 (Int.tdiv (wr64 (w1 + 1)) 2))))), (100, .int .i64 x369), (101, .int .i64 (wr64 (Int.tdiv (wr64 (w1 + 1)) 2))), (112, .agg #[.int .i64 (wr64 (x366 + (wr64 (Int.tdiv (wr64 (w1 + 1)) 2)))), .int .i64 (wr64 (x367 + (wr64 (Int.tdiv (wr64 (w1 + 1)) 2))))])] ([⟨b250, [.int .i64 x366, .int .i64 x367], 2⟩, ⟨b236, [.int .i64 x368, .int .i64 x369], 2⟩, ⟨b221, [.int .i64 0, .int .i64 0], 2⟩, ⟨b220, [.int .i64 0, .int .i64 0], 2⟩] : List Own) := by
        exact hqf 7 [4, 5, 98, 102, 112] _ _ _ [(4, .pointer (some ⟨b220, 0, none⟩)), (5, .pointer (some ⟨b221, 0, none⟩)), (98, .int .i64 (wr64 (x368 - (wr64 (Int.tdiv (wr64 (w1 + 1)) 2))))), (102, .int .i64 (wr64 (x369 - (wr64 (Int.tdiv (wr64 (w1 + 1)) 2))))), (112, .agg #[.int .i64 (wr64 (x366 + (wr64 (Int.tdiv (wr64 (w1 + 1)) 2)))), .int .i64 (wr64 (x367 + (wr64 (Int.tdiv (wr64 (w1 + 1)) 2))))])] (by kernel_rfl) (by kernel_rfl) hg_3feff
      have hg_4ebff : G [true, true, true, true, true, true, true, true, true, true, false, true, false, true, true, true, false, false, true, false, false] [(4, .pointer (some ⟨b220, 0, none⟩)), (5, .pointer (some ⟨b221, 0, none⟩)), (104, .pointer (some ⟨b250, 0, none⟩)), (106, .int .i64 (wr64 (Int.tdiv (wr64 (w1 + 1)) 2))), (109, .int .i64 x367), (110, .int .i64 (wr64 (Int.tdiv (wr64 (w1 + 1)) 2)))] ([⟨b250, [.int .i64 x366, .int .i64 x367], 2⟩, ⟨b236, [.int .i64 x368, .int .i64 x369], 2⟩, ⟨b221, [.int .i64 0, .int .i64 0], 2⟩, ⟨b220, [.int .i64 (wr64 (x368 - (wr64 (Int.tdiv (wr64 (w1 + 1)) 2)))), .int .i64 (wr64 (x369 - (wr64 (Int.tdiv (wr64 (w1 + 1)) 2))))], 2⟩] : List Own) := by
        exact hqf 16 [4, 5, 104, 106, 111] _ _ _ [(4, .pointer (some ⟨b220, 0, none⟩)), (5, .pointer (some ⟨b221, 0, none⟩)), (104, .pointer (some ⟨b250, 0, none⟩)), (106, .int .i64 (wr64 (Int.tdiv (wr64 (w1 + 1)) 2))), (111, .int .i64 (wr64 (x367 + (wr64 (Int.tdiv (wr64 (w1 + 1)) 2)))))] (by kernel_rfl) (by kernel_rfl) hg_5ebff
      have hg_4afff : G [true, true, true, true, true, true, true, true, true, true, true, true, false, true, false, true, false, false, true, false, false] [(4, .pointer (some ⟨b220, 0, none⟩)), (5, .pointer (some ⟨b221, 0, none⟩)), (105, .int .i64 x366), (106, .int .i64 (wr64 (Int.tdiv (wr64 (w1 + 1)) 2))), (108, .pointer (some ⟨b250, 1, none⟩)), (110, .int .i64 (wr64 (Int.tdiv (wr64 (w1 + 1)) 2)))] ([⟨b250, [.int .i64 x366, .int .i64 x367], 2⟩, ⟨b236, [.int .i64 x368, .int .i64 x369], 2⟩, ⟨b221, [.int .i64 0, .int .i64 0], 2⟩, ⟨b220, [.int .i64 (wr64 (x368 - (wr64 (Int.tdiv (wr64 (w1 + 1)) 2)))), .int .i64 (wr64 (x369 - (wr64 (Int.tdiv (wr64 (w1 + 1)) 2))))], 2⟩] : List Own) := by
        exact hqf 12 [4, 5, 107, 108, 110] _ _ _ [(4, .pointer (some ⟨b220, 0, none⟩)), (5, .pointer (some ⟨b221, 0, none⟩)), (107, .int .i64 (wr64 (x366 + (wr64 (Int.tdiv (wr64 (w1 + 1)) 2))))), (108, .pointer (some ⟨b250, 1, none⟩)), (110, .int .i64 (wr64 (Int.tdiv (wr64 (w1 + 1)) 2)))] (by kernel_rfl) (by kernel_rfl) hg_4bfff
      have hg_bfff : G [true, true, true, true, true, true, true, true, true, true, true, true, true, true, false, true, false, false, false, false, false] [(4, .pointer (some ⟨b220, 0, none⟩)), (5, .pointer (some ⟨b221, 0, none⟩)), (103, .agg #[.int .i64 (wr64 (x368 - (wr64 (Int.tdiv (wr64 (w1 + 1)) 2)))), .int .i64 (wr64 (x369 - (wr64 (Int.tdiv (wr64 (w1 + 1)) 2))))]), (107, .int .i64 (wr64 (x366 + (wr64 (Int.tdiv (wr64 (w1 + 1)) 2))))), (108, .pointer (some ⟨b250, 1, none⟩)), (110, .int .i64 (wr64 (Int.tdiv (wr64 (w1 + 1)) 2)))] ([⟨b250, [.int .i64 x366, .int .i64 x367], 2⟩, ⟨b236, [.int .i64 x368, .int .i64 x369], 2⟩, ⟨b221, [.int .i64 0, .int .i64 0], 2⟩, ⟨b220, [.int .i64 0, .int .i64 0], 2⟩] : List Own) := by
        refine hstep [14, 18] _ _ _ (by kernel_rfl) (List.cons_ne_nil _ _) ⟨?_, ?_, trivial⟩
        · show T _ _ _ _ _ _ _ _
          refine t_v (.ld1 rfl rfl rfl (.at 0 rfl rfl)) ?_
          refine t_keep [4, 5, 103, 107, 109, 110] (σ' := [(4, .pointer (some ⟨b220, 0, none⟩)), (5, .pointer (some ⟨b221, 0, none⟩)), (103, .agg #[.int .i64 (wr64 (x368 - (wr64 (Int.tdiv (wr64 (w1 + 1)) 2)))), .int .i64 (wr64 (x369 - (wr64 (Int.tdiv (wr64 (w1 + 1)) 2))))]), (107, .int .i64 (wr64 (x366 + (wr64 (Int.tdiv (wr64 (w1 + 1)) 2))))), (109, .int .i64 x367), (110, .int .i64 (wr64 (Int.tdiv (wr64 (w1 + 1)) 2)))]) (by kernel_rfl) ?_
          refine t_end ?_
          exact ⟨hg_ffff, rfl⟩
        · show T _ _ _ _ _ _ _ _
          refine t_sti 3 (cs := [.int .i64 (wr64 (x368 - (wr64 (Int.tdiv (wr64 (w1 + 1)) 2)))), .int .i64 (wr64 (x369 - (wr64 (Int.tdiv (wr64 (w1 + 1)) 2))))]) rfl rfl rfl rfl rfl rfl rfl rfl rfl ?_
          refine t_keep [4, 5, 107, 108, 110] (σ' := [(4, .pointer (some ⟨b220, 0, none⟩)), (5, .pointer (some ⟨b221, 0, none⟩)), (107, .int .i64 (wr64 (x366 + (wr64 (Int.tdiv (wr64 (w1 + 1)) 2))))), (108, .pointer (some ⟨b250, 1, none⟩)), (110, .int .i64 (wr64 (Int.tdiv (wr64 (w1 + 1)) 2)))]) (by kernel_rfl) ?_
          refine t_end ?_
          exact ⟨hg_4bfff, rfl⟩
      have hg_3fe5f : G [true, true, true, true, true, false, true, false, false, true, true, true, true, true, true, true, true, true, false, false, false] [(4, .pointer (some ⟨b220, 0, none⟩)), (5, .pointer (some ⟨b221, 0, none⟩)), (98, .int .i64 (wr64 (x368 - (wr64 (Int.tdiv (wr64 (w1 + 1)) 2))))), (99, .pointer (some ⟨b236, 1, none⟩)), (101, .int .i64 (wr64 (Int.tdiv (wr64 (w1 + 1)) 2))), (112, .agg #[.int .i64 (wr64 (x366 + (wr64 (Int.tdiv (wr64 (w1 + 1)) 2)))), .int .i64 (wr64 (x367 + (wr64 (Int.tdiv (wr64 (w1 + 1)) 2))))])] ([⟨b250, [.int .i64 x366, .int .i64 x367], 2⟩, ⟨b236, [.int .i64 x368, .int .i64 x369], 2⟩, ⟨b221, [.int .i64 0, .int .i64 0], 2⟩, ⟨b220, [.int .i64 0, .int .i64 0], 2⟩] : List Own) := by
        refine hstep [5] _ _ _ (by kernel_rfl) (List.cons_ne_nil _ _) ⟨?_, trivial⟩
        · show T _ _ _ _ _ _ _ _
          refine t_v (.ld1 rfl rfl rfl (.at 1 rfl rfl)) ?_
          refine t_keep [4, 5, 98, 100, 101, 112] (σ' := [(4, .pointer (some ⟨b220, 0, none⟩)), (5, .pointer (some ⟨b221, 0, none⟩)), (98, .int .i64 (wr64 (x368 - (wr64 (Int.tdiv (wr64 (w1 + 1)) 2))))), (100, .int .i64 x369), (101, .int .i64 (wr64 (Int.tdiv (wr64 (w1 + 1)) 2))), (112, .agg #[.int .i64 (wr64 (x366 + (wr64 (Int.tdiv (wr64 (w1 + 1)) 2)))), .int .i64 (wr64 (x367 + (wr64 (Int.tdiv (wr64 (w1 + 1)) 2))))])]) (by kernel_rfl) ?_
          refine t_end ?_
          exact ⟨hg_3fe7f, rfl⟩
      have hg_1ebff : G [true, true, true, true, true, true, true, true, true, true, false, true, false, true, true, true, true, false, false, false, false] [(4, .pointer (some ⟨b220, 0, none⟩)), (5, .pointer (some ⟨b221, 0, none⟩)), (103, .agg #[.int .i64 (wr64 (x368 - (wr64 (Int.tdiv (wr64 (w1 + 1)) 2)))), .int .i64 (wr64 (x369 - (wr64 (Int.tdiv (wr64 (w1 + 1)) 2))))]), (104, .pointer (some ⟨b250, 0, none⟩)), (106, .int .i64 (wr64 (Int.tdiv (wr64 (w1 + 1)) 2))), (111, .int .i64 (wr64 (x367 + (wr64 (Int.tdiv (wr64 (w1 + 1)) 2)))))] ([⟨b250, [.int .i64 x366, .int .i64 x367], 2⟩, ⟨b236, [.int .i64 x368, .int .i64 x369], 2⟩, ⟨b221, [.int .i64 0, .int .i64 0], 2⟩, ⟨b220, [.int .i64 0, .int .i64 0], 2⟩] : List Own) := by
        refine hstep [10, 18] _ _ _ (by kernel_rfl) (List.cons_ne_nil _ _) ⟨?_, ?_, trivial⟩
        · show T _ _ _ _ _ _ _ _
          refine t_v (.ld1 rfl rfl rfl (.at 0 rfl rfl)) ?_
          refine t_keep [4, 5, 103, 105, 106, 111] (σ' := [(4, .pointer (some ⟨b220, 0, none⟩)), (5, .pointer (some ⟨b221, 0, none⟩)), (103, .agg #[.int .i64 (wr64 (x368 - (wr64 (Int.tdiv (wr64 (w1 + 1)) 2)))), .int .i64 (wr64 (x369 - (wr64 (Int.tdiv (wr64 (w1 + 1)) 2))))]), (105, .int .i64 x366), (106, .int .i64 (wr64 (Int.tdiv (wr64 (w1 + 1)) 2))), (111, .int .i64 (wr64 (x367 + (wr64 (Int.tdiv (wr64 (w1 + 1)) 2)))))]) (by kernel_rfl) ?_
          refine t_end ?_
          exact ⟨hg_1efff, rfl⟩
        · show T _ _ _ _ _ _ _ _
          refine t_sti 3 (cs := [.int .i64 (wr64 (x368 - (wr64 (Int.tdiv (wr64 (w1 + 1)) 2)))), .int .i64 (wr64 (x369 - (wr64 (Int.tdiv (wr64 (w1 + 1)) 2))))]) rfl rfl rfl rfl rfl rfl rfl rfl rfl ?_
          refine t_keep [4, 5, 104, 106, 111] (σ' := [(4, .pointer (some ⟨b220, 0, none⟩)), (5, .pointer (some ⟨b221, 0, none⟩)), (104, .pointer (some ⟨b250, 0, none⟩)), (106, .int .i64 (wr64 (Int.tdiv (wr64 (w1 + 1)) 2))), (111, .int .i64 (wr64 (x367 + (wr64 (Int.tdiv (wr64 (w1 + 1)) 2)))))]) (by kernel_rfl) ?_
          refine t_end ?_
          exact ⟨hg_5ebff, rfl⟩
      have hg_3fef5 : G [true, false, true, false, true, true, true, true, false, true, true, true, true, true, true, true, true, true, false, false, false] [(4, .pointer (some ⟨b220, 0, none⟩)), (5, .pointer (some ⟨b221, 0, none⟩)), (95, .pointer (some ⟨b236, 0, none⟩)), (97, .int .i64 (wr64 (Int.tdiv (wr64 (w1 + 1)) 2))), (102, .int .i64 (wr64 (x369 - (wr64 (Int.tdiv (wr64 (w1 + 1)) 2))))), (112, .agg #[.int .i64 (wr64 (x366 + (wr64 (Int.tdiv (wr64 (w1 + 1)) 2)))), .int .i64 (wr64 (x367 + (wr64 (Int.tdiv (wr64 (w1 + 1)) 2))))])] ([⟨b250, [.int .i64 x366, .int .i64 x367], 2⟩, ⟨b236, [.int .i64 x368, .int .i64 x369], 2⟩, ⟨b221, [.int .i64 0, .int .i64 0], 2⟩, ⟨b220, [.int .i64 0, .int .i64 0], 2⟩] : List Own) := by
        refine hstep [1] _ _ _ (by kernel_rfl) (List.cons_ne_nil _ _) ⟨?_, trivial⟩
        · show T _ _ _ _ _ _ _ _
          refine t_v (.ld1 rfl rfl rfl (.at 1 rfl rfl)) ?_
          refine t_keep [4, 5, 96, 97, 102, 112] (σ' := [(4, .pointer (some ⟨b220, 0, none⟩)), (5, .pointer (some ⟨b221, 0, none⟩)), (96, .int .i64 x368), (97, .int .i64 (wr64 (Int.tdiv (wr64 (w1 + 1)) 2))), (102, .int .i64 (wr64 (x369 - (wr64 (Int.tdiv (wr64 (w1 + 1)) 2))))), (112, .agg #[.int .i64 (wr64 (x366 + (wr64 (Int.tdiv (wr64 (w1 + 1)) 2)))), .int .i64 (wr64 (x367 + (wr64 (Int.tdiv (wr64 (w1 + 1)) 2))))])]) (by kernel_rfl) ?_
          refine t_end ?_
          exact ⟨hg_3fef7, rfl⟩
      have hg_ebff : G [true, true, true, true, true, true, true, true, true, true, false, true, false, true, true, true, false, false, false, false, false] [(4, .pointer (some ⟨b220, 0, none⟩)), (5, .pointer (some ⟨b221, 0, none⟩)), (103, .agg #[.int .i64 (wr64 (x368 - (wr64 (Int.tdiv (wr64 (w1 + 1)) 2)))), .int .i64 (wr64 (x369 - (wr64 (Int.tdiv (wr64 (w1 + 1)) 2))))]), (104, .pointer (some ⟨b250, 0, none⟩)), (106, .int .i64 (wr64 (Int.tdiv (wr64 (w1 + 1)) 2))), (109, .int .i64 x367), (110, .int .i64 (wr64 (Int.tdiv (wr64 (w1 + 1)) 2)))] ([⟨b250, [.int .i64 x366, .int .i64 x367], 2⟩, ⟨b236, [.int .i64 x368, .int .i64 x369], 2⟩, ⟨b221, [.int .i64 0, .int .i64 0], 2⟩, ⟨b220, [.int .i64 0, .int .i64 0], 2⟩] : List Own) := by
        exact hqf 16 [4, 5, 103, 104, 106, 111] _ _ _ [(4, .pointer (some ⟨b220, 0, none⟩)), (5, .pointer (some ⟨b221, 0, none⟩)), (103, .agg #[.int .i64 (wr64 (x368 - (wr64 (Int.tdiv (wr64 (w1 + 1)) 2)))), .int .i64 (wr64 (x369 - (wr64 (Int.tdiv (wr64 (w1 + 1)) 2))))]), (104, .pointer (some ⟨b250, 0, none⟩)), (106, .int .i64 (wr64 (Int.tdiv (wr64 (w1 + 1)) 2))), (111, .int .i64 (wr64 (x367 + (wr64 (Int.tdiv (wr64 (w1 + 1)) 2)))))] (by kernel_rfl) (by kernel_rfl) hg_1ebff
      have hg_afff : G [true, true, true, true, true, true, true, true, true, true, true, true, false, true, false, true, false, false, false, false, false] [(4, .pointer (some ⟨b220, 0, none⟩)), (5, .pointer (some ⟨b221, 0, none⟩)), (103, .agg #[.int .i64 (wr64 (x368 - (wr64 (Int.tdiv (wr64 (w1 + 1)) 2)))), .int .i64 (wr64 (x369 - (wr64 (Int.tdiv (wr64 (w1 + 1)) 2))))]), (105, .int .i64 x366), (106, .int .i64 (wr64 (Int.tdiv (wr64 (w1 + 1)) 2))), (108, .pointer (some ⟨b250, 1, none⟩)), (110, .int .i64 (wr64 (Int.tdiv (wr64 (w1 + 1)) 2)))] ([⟨b250, [.int .i64 x366, .int .i64 x367], 2⟩, ⟨b236, [.int .i64 x368, .int .i64 x369], 2⟩, ⟨b221, [.int .i64 0, .int .i64 0], 2⟩, ⟨b220, [.int .i64 0, .int .i64 0], 2⟩] : List Own) := by
        exact hqf 12 [4, 5, 103, 107, 108, 110] _ _ _ [(4, .pointer (some ⟨b220, 0, none⟩)), (5, .pointer (some ⟨b221, 0, none⟩)), (103, .agg #[.int .i64 (wr64 (x368 - (wr64 (Int.tdiv (wr64 (w1 + 1)) 2)))), .int .i64 (wr64 (x369 - (wr64 (Int.tdiv (wr64 (w1 + 1)) 2))))]), (107, .int .i64 (wr64 (x366 + (wr64 (Int.tdiv (wr64 (w1 + 1)) 2))))), (108, .pointer (some ⟨b250, 1, none⟩)), (110, .int .i64 (wr64 (Int.tdiv (wr64 (w1 + 1)) 2)))] (by kernel_rfl) (by kernel_rfl) hg_bfff
      have hg_1fe5f : G [true, true, true, true, true, false, true, false, false, true, true, true, true, true, true, true, true, false, false, false, false] [(4, .pointer (some ⟨b220, 0, none⟩)), (5, .pointer (some ⟨b221, 0, none⟩)), (98, .int .i64 (wr64 (x368 - (wr64 (Int.tdiv (wr64 (w1 + 1)) 2))))), (99, .pointer (some ⟨b236, 1, none⟩)), (101, .int .i64 (wr64 (Int.tdiv (wr64 (w1 + 1)) 2))), (107, .int .i64 (wr64 (x366 + (wr64 (Int.tdiv (wr64 (w1 + 1)) 2))))), (111, .int .i64 (wr64 (x367 + (wr64 (Int.tdiv (wr64 (w1 + 1)) 2)))))] ([⟨b250, [.int .i64 x366, .int .i64 x367], 2⟩, ⟨b236, [.int .i64 x368, .int .i64 x369], 2⟩, ⟨b221, [.int .i64 0, .int .i64 0], 2⟩, ⟨b220, [.int .i64 0, .int .i64 0], 2⟩] : List Own) := by
        exact hqf 17 [4, 5, 98, 99, 101, 112] _ _ _ [(4, .pointer (some ⟨b220, 0, none⟩)), (5, .pointer (some ⟨b221, 0, none⟩)), (98, .int .i64 (wr64 (x368 - (wr64 (Int.tdiv (wr64 (w1 + 1)) 2))))), (99, .pointer (some ⟨b236, 1, none⟩)), (101, .int .i64 (wr64 (Int.tdiv (wr64 (w1 + 1)) 2))), (112, .agg #[.int .i64 (wr64 (x366 + (wr64 (Int.tdiv (wr64 (w1 + 1)) 2)))), .int .i64 (wr64 (x367 + (wr64 (Int.tdiv (wr64 (w1 + 1)) 2))))])] (by kernel_rfl) (by kernel_rfl) hg_3fe5f
      have hg_1eaff : G [true, true, true, true, true, true, true, true, false, true, false, true, false, true, true, true, true, false, false, false, false] [(4, .pointer (some ⟨b220, 0, none⟩)), (5, .pointer (some ⟨b221, 0, none⟩)), (98, .int .i64 (wr64 (x368 - (wr64 (Int.tdiv (wr64 (w1 + 1)) 2))))), (102, .int .i64 (wr64 (x369 - (wr64 (Int.tdiv (wr64 (w1 + 1)) 2))))), (104, .pointer (some ⟨b250, 0, none⟩)), (106, .int .i64 (wr64 (Int.tdiv (wr64 (w1 + 1)) 2))), (111, .int .i64 (wr64 (x367 + (wr64 (Int.tdiv (wr64 (w1 + 1)) 2)))))] ([⟨b250, [.int .i64 x366, .int .i64 x367], 2⟩, ⟨b236, [.int .i64 x368, .int .i64 x369], 2⟩, ⟨b221, [.int .i64 0, .int .i64 0], 2⟩, ⟨b220, [.int .i64 0, .int .i64 0], 2⟩] : List Own) := by
        exact hqf 8 [4, 5, 103, 104, 106, 111] _ _ _ [(4, .pointer (some ⟨b220, 0, none⟩)), (5, .pointer (some ⟨b221, 0, none⟩)), (103, .agg #[.int .i64 (wr64 (x368 - (wr64 (Int.tdiv (wr64 (w1 + 1)) 2)))), .int .i64 (wr64 (x369 - (wr64 (Int.tdiv (wr64 (w1 + 1)) 2))))]), (104, .pointer (some ⟨b250, 0, none⟩)), (106, .int .i64 (wr64 (Int.tdiv (wr64 (w1 + 1)) 2))), (111, .int .i64 (wr64 (x367 + (wr64 (Int.tdiv (wr64 (w1 + 1)) 2)))))] (by kernel_rfl) (by kernel_rfl) hg_1ebff
      have hg_3fe57 : G [true, true, true, false, true, false, true, false, false, true, true, true, true, true, true, true, true, true, false, false, false] [(4, .pointer (some ⟨b220, 0, none⟩)), (5, .pointer (some ⟨b221, 0, none⟩)), (96, .int .i64 x368), (97, .int .i64 (wr64 (Int.tdiv (wr64 (w1 + 1)) 2))), (99, .pointer (some ⟨b236, 1, none⟩)), (101, .int .i64 (wr64 (Int.tdiv (wr64 (w1 + 1)) 2))), (112, .agg #[.int .i64 (wr64 (x366 + (wr64 (Int.tdiv (wr64 (w1 + 1)) 2)))), .int .i64 (wr64 (x367 + (wr64 (Int.tdiv (wr64 (w1 + 1)) 2))))])] ([⟨b250, [.int .i64 x366, .int .i64 x367], 2⟩, ⟨b236, [.int .i64 x368, .int .i64 x369], 2⟩, ⟨b221, [.int .i64 0, .int .i64 0], 2⟩, ⟨b220, [.int .i64 0, .int .i64 0], 2⟩] : List Own) := by
        exact hqf 3 [4, 5, 98, 99, 101, 112] _ _ _ [(4, .pointer (some ⟨b220, 0, none⟩)), (5, .pointer (some ⟨b221, 0, none⟩)), (98, .int .i64 (wr64 (x368 - (wr64 (Int.tdiv (wr64 (w1 + 1)) 2))))), (99, .pointer (some ⟨b236, 1, none⟩)), (101, .int .i64 (wr64 (Int.tdiv (wr64 (w1 + 1)) 2))), (112, .agg #[.int .i64 (wr64 (x366 + (wr64 (Int.tdiv (wr64 (w1 + 1)) 2)))), .int .i64 (wr64 (x367 + (wr64 (Int.tdiv (wr64 (w1 + 1)) 2))))])] (by kernel_rfl) (by kernel_rfl) hg_3fe5f
      have hg_beff : G [true, true, true, true, true, true, true, true, false, true, true, true, true, true, false, true, false, false, false, false, false] [(4, .pointer (some ⟨b220, 0, none⟩)), (5, .pointer (some ⟨b221, 0, none⟩)), (98, .int .i64 (wr64 (x368 - (wr64 (Int.tdiv (wr64 (w1 + 1)) 2))))), (102, .int .i64 (wr64 (x369 - (wr64 (Int.tdiv (wr64 (w1 + 1)) 2))))), (107, .int .i64 (wr64 (x366 + (wr64 (Int.tdiv (wr64 (w1 + 1)) 2))))), (108, .pointer (some ⟨b250, 1, none⟩)), (110, .int .i64 (wr64 (Int.tdiv (wr64 (w1 + 1)) 2)))] ([⟨b250, [.int .i64 x366, .int .i64 x367], 2⟩, ⟨b236, [.int .i64 x368, .int .i64 x369], 2⟩, ⟨b221, [.int .i64 0, .int .i64 0], 2⟩, ⟨b220, [.int .i64 0, .int .i64 0], 2⟩] : List Own) := by
        exact hqf 8 [4, 5, 103, 107, 108, 110] _ _ _ [(4, .pointer (some ⟨b220, 0, none⟩)), (5, .pointer (some ⟨b221, 0, none⟩)), (103, .agg #[.int .i64 (wr64 (x368 - (wr64 (Int.tdiv (wr64 (w1 + 1)) 2)))), .int .i64 (wr64 (x369 - (wr64 (Int.tdiv (wr64 (w1 + 1)) 2))))]), (107, .int .i64 (wr64 (x366 + (wr64 (Int.tdiv (wr64 (w1 + 1)) 2))))), (108, .pointer (some ⟨b250, 1, none⟩)), (110, .int .i64 (wr64 (Int.tdiv (wr64 (w1 + 1)) 2)))] (by kernel_rfl) (by kernel_rfl) hg_bfff
      have hg_4abff : G [true, true, true, true, true, true, true, true, true, true, false, true, false, true, false, true, false, false, true, false, false] [(4, .pointer (some ⟨b220, 0, none⟩)), (5, .pointer (some ⟨b221, 0, none⟩)), (104, .pointer (some ⟨b250, 0, none⟩)), (106, .int .i64 (wr64 (Int.tdiv (wr64 (w1 + 1)) 2))), (108, .pointer (some ⟨b250, 1, none⟩)), (110, .int .i64 (wr64 (Int.tdiv (wr64 (w1 + 1)) 2)))] ([⟨b250, [.int .i64 x366, .int .i64 x367], 2⟩, ⟨b236, [.int .i64 x368, .int .i64 x369], 2⟩, ⟨b221, [.int .i64 0, .int .i64 0], 2⟩, ⟨b220, [.int .i64 (wr64 (x368 - (wr64 (Int.tdiv (wr64 (w1 + 1)) 2)))), .int .i64 (wr64 (x369 - (wr64 (Int.tdiv (wr64 (w1 + 1)) 2))))], 2⟩] : List Own) := by
        refine hstep [10, 14] _ _ _ (by kernel_rfl) (List.cons_ne_nil _ _) ⟨?_, ?_, trivial⟩
        · show T _ _ _ _ _ _ _ _
          refine t_v (.ld1 rfl rfl rfl (.at 0 rfl rfl)) ?_
          refine t_keep [4, 5, 105, 106, 108, 110] (σ' := [(4, .pointer (some ⟨b220, 0, none⟩)), (5, .pointer (some ⟨b221, 0, none⟩)), (105, .int .i64 x366), (106, .int .i64 (wr64 (Int.tdiv (wr64 (w1 + 1)) 2))), (108, .pointer (some ⟨b250, 1, none⟩)), (110, .int .i64 (wr64 (Int.tdiv (wr64 (w1 + 1)) 2)))]) (by kernel_rfl) ?_
          refine t_end ?_
          exact ⟨hg_4afff, rfl⟩
        · show T _ _ _ _ _ _ _ _
          refine t_v (.ld1 rfl rfl rfl (.at 0 rfl rfl)) ?_
          refine t_keep [4, 5, 104, 106, 109, 110] (σ' := [(4, .pointer (some ⟨b220, 0, none⟩)), (5, .pointer (some ⟨b221, 0, none⟩)), (104, .pointer (some ⟨b250, 0, none⟩)), (106, .int .i64 (wr64 (Int.tdiv (wr64 (w1 + 1)) 2))), (109, .int .i64 x367), (110, .int .i64 (wr64 (Int.tdiv (wr64 (w1 + 1)) 2)))]) (by kernel_rfl) ?_
          refine t_end ?_
          exact ⟨hg_4ebff, rfl⟩
      have hg_3fe75 : G [true, false, true, false, true, true, true, false, false, true, true, true, true, true, true, true, true, true, false, false, false] [(4, .pointer (some ⟨b220, 0, none⟩)), (5, .pointer (some ⟨b221, 0, none⟩)), (95, .pointer (some ⟨b236, 0, none⟩)), (97, .int .i64 (wr64 (Int.tdiv (wr64 (w1 + 1)) 2))), (100, .int .i64 x369), (101, .int .i64 (wr64 (Int.tdiv (wr64 (w1 + 1)) 2))), (112, .agg #[.int .i64 (wr64 (x366 + (wr64 (Int.tdiv (wr64 (w1 + 1)) 2)))), .int .i64 (wr64 (x367 + (wr64 (Int.tdiv (wr64 (w1 + 1)) 2))))])] ([⟨b250, [.int .i64 x366, .int .i64 x367], 2⟩, ⟨b236, [.int .i64 x368, .int .i64 x369], 2⟩, ⟨b221, [.int .i64 0, .int .i64 0], 2⟩, ⟨b220, [.int .i64 0, .int .i64 0], 2⟩] : List Own) := by
        exact hqf 7 [4, 5, 95, 97, 102, 112] _ _ _ [(4, .pointer (some ⟨b220, 0, none⟩)), (5, .pointer (some ⟨b221, 0, none⟩)), (95, .pointer (some ⟨b236, 0, none⟩)), (97, .int .i64 (wr64 (Int.tdiv (wr64 (w1 + 1)) 2))), (102, .int .i64 (wr64 (x369 - (wr64 (Int.tdiv (wr64 (w1 + 1)) 2))))), (112, .agg #[.int .i64 (wr64 (x366 + (wr64 (Int.tdiv (wr64 (w1 + 1)) 2)))), .int .i64 (wr64 (x367 + (wr64 (Int.tdiv (wr64 (w1 + 1)) 2))))])] (by kernel_rfl) (by kernel_rfl) hg_3fef5
      have hg_1fef5 : G [true, false, true, false, true, true, true, true, false, true, true, true, true, true, true, true, true, false, false, false, false] [(4, .pointer (some ⟨b220, 0, none⟩)), (5, .pointer (some ⟨b221, 0, none⟩)), (95, .pointer (some ⟨b236, 0, none⟩)), (97, .int .i64 (wr64 (Int.tdiv (wr64 (w1 + 1)) 2))), (102, .int .i64 (wr64 (x369 - (wr64 (Int.tdiv (wr64 (w1 + 1)) 2))))), (107, .int .i64 (wr64 (x366 + (wr64 (Int.tdiv (wr64 (w1 + 1)) 2))))), (111, .int .i64 (wr64 (x367 + (wr64 (Int.tdiv (wr64 (w1 + 1)) 2)))))] ([⟨b250, [.int .i64 x366, .int .i64 x367], 2⟩, ⟨b236, [.int .i64 x368, .int .i64 x369], 2⟩, ⟨b221, [.int .i64 0, .int .i64 0], 2⟩, ⟨b220, [.int .i64 0, .int .i64 0], 2⟩] : List Own) := by
        exact hqf 17 [4, 5, 95, 97, 102, 112] _ _ _ [(4, .pointer (some ⟨b220, 0, none⟩)), (5, .pointer (some ⟨b221, 0, none⟩)), (95, .pointer (some ⟨b236, 0, none⟩)), (97, .int .i64 (wr64 (Int.tdiv (wr64 (w1 + 1)) 2))), (102, .int .i64 (wr64 (x369 - (wr64 (Int.tdiv (wr64 (w1 + 1)) 2))))), (112, .agg #[.int .i64 (wr64 (x366 + (wr64 (Int.tdiv (wr64 (w1 + 1)) 2)))), .int .i64 (wr64 (x367 + (wr64 (Int.tdiv (wr64 (w1 + 1)) 2))))])] (by kernel_rfl) (by kernel_rfl) hg_3fef5
      have hg_1eaf7 : G [true, true, true, false, true, true, true, true, false, true, false, true, false, true, true, true, true, false, false, false, false] [(4, .pointer (some ⟨b220, 0, none⟩)), (5, .pointer (some ⟨b221, 0, none⟩)), (96, .int .i64 x368), (97, .int .i64 (wr64 (Int.tdiv (wr64 (w1 + 1)) 2))), (102, .int .i64 (wr64 (x369 - (wr64 (Int.tdiv (wr64 (w1 + 1)) 2))))), (104, .pointer (some ⟨b250, 0, none⟩)), (106, .int .i64 (wr64 (Int.tdiv (wr64 (w1 + 1)) 2))), (111, .int .i64 (wr64 (x367 + (wr64 (Int.tdiv (wr64 (w1 + 1)) 2)))))] ([⟨b250, [.int .i64 x366, .int .i64 x367], 2⟩, ⟨b236, [.int .i64 x368, .int .i64 x369], 2⟩, ⟨b221, [.int .i64 0, .int .i64 0], 2⟩, ⟨b220, [.int .i64 0, .int .i64 0], 2⟩] : List Own) := by
        exact hqf 3 [4, 5, 98, 102, 104, 106, 111] _ _ _ [(4, .pointer (some ⟨b220, 0, none⟩)), (5, .pointer (some ⟨b221, 0, none⟩)), (98, .int .i64 (wr64 (x368 - (wr64 (Int.tdiv (wr64 (w1 + 1)) 2))))), (102, .int .i64 (wr64 (x369 - (wr64 (Int.tdiv (wr64 (w1 + 1)) 2))))), (104, .pointer (some ⟨b250, 0, none⟩)), (106, .int .i64 (wr64 (Int.tdiv (wr64 (w1 + 1)) 2))), (111, .int .i64 (wr64 (x367 + (wr64 (Int.tdiv (wr64 (w1 + 1)) 2)))))] (by kernel_rfl) (by kernel_rfl) hg_1eaff
      have hg_fef5 : G [true, false, true, false, true, true, true, true, false, true, true, true, true, true, true, true, false, false, false, false, false] [(4, .pointer (some ⟨b220, 0, none⟩)), (5, .pointer (some ⟨b221, 0, none⟩)), (95, .pointer (some ⟨b236, 0, none⟩)), (97, .int .i64 (wr64 (Int.tdiv (wr64 (w1 + 1)) 2))), (102, .int .i64 (wr64 (x369 - (wr64 (Int.tdiv (wr64 (w1 + 1)) 2))))), (107, .int .i64 (wr64 (x366 + (wr64 (Int.tdiv (wr64 (w1 + 1)) 2))))), (109, .int .i64 x367), (110, .int .i64 (wr64 (Int.tdiv (wr64 (w1 + 1)) 2)))] ([⟨b250, [.int .i64 x366, .int .i64 x367], 2⟩, ⟨b236, [.int .i64 x368, .int .i64 x369], 2⟩, ⟨b221, [.int .i64 0, .int .i64 0], 2⟩, ⟨b220, [.int .i64 0, .int .i64 0], 2⟩] : List Own) := by
        exact hqf 16 [4, 5, 95, 97, 102, 107, 111] _ _ _ [(4, .pointer (some ⟨b220, 0, none⟩)), (5, .pointer (some ⟨b221, 0, none⟩)), (95, .pointer (some ⟨b236, 0, none⟩)), (97, .int .i64 (wr64 (Int.tdiv (wr64 (w1 + 1)) 2))), (102, .int .i64 (wr64 (x369 - (wr64 (Int.tdiv (wr64 (w1 + 1)) 2))))), (107, .int .i64 (wr64 (x366 + (wr64 (Int.tdiv (wr64 (w1 + 1)) 2))))), (111, .int .i64 (wr64 (x367 + (wr64 (Int.tdiv (wr64 (w1 + 1)) 2)))))] (by kernel_rfl) (by kernel_rfl) hg_1fef5
      have hg_bef7 : G [true, true, true, false, true, true, true, true, false, true, true, true, true, true, false, true, false, false, false, false, false] [(4, .pointer (some ⟨b220, 0, none⟩)), (5, .pointer (some ⟨b221, 0, none⟩)), (96, .int .i64 x368), (97, .int .i64 (wr64 (Int.tdiv (wr64 (w1 + 1)) 2))), (102, .int .i64 (wr64 (x369 - (wr64 (Int.tdiv (wr64 (w1 + 1)) 2))))), (107, .int .i64 (wr64 (x366 + (wr64 (Int.tdiv (wr64 (w1 + 1)) 2))))), (108, .pointer (some ⟨b250, 1, none⟩)), (110, .int .i64 (wr64 (Int.tdiv (wr64 (w1 + 1)) 2)))] ([⟨b250, [.int .i64 x366, .int .i64 x367], 2⟩, ⟨b236, [.int .i64 x368, .int .i64 x369], 2⟩, ⟨b221, [.int .i64 0, .int .i64 0], 2⟩, ⟨b220, [.int .i64 0, .int .i64 0], 2⟩] : List Own) := by
        exact hqf 3 [4, 5, 98, 102, 107, 108, 110] _ _ _ [(4, .pointer (some ⟨b220, 0, none⟩)), (5, .pointer (some ⟨b221, 0, none⟩)), (98, .int .i64 (wr64 (x368 - (wr64 (Int.tdiv (wr64 (w1 + 1)) 2))))), (102, .int .i64 (wr64 (x369 - (wr64 (Int.tdiv (wr64 (w1 + 1)) 2))))), (107, .int .i64 (wr64 (x366 + (wr64 (Int.tdiv (wr64 (w1 + 1)) 2))))), (108, .pointer (some ⟨b250, 1, none⟩)), (110, .int .i64 (wr64 (Int.tdiv (wr64 (w1 + 1)) 2)))] (by kernel_rfl) (by kernel_rfl) hg_beff
      have hg_1ea7f : G [true, true, true, true, true, true, true, false, false, true, false, true, false, true, true, true, true, false, false, false, false] [(4, .pointer (some ⟨b220, 0, none⟩)), (5, .pointer (some ⟨b221, 0, none⟩)), (98, .int .i64 (wr64 (x368 - (wr64 (Int.tdiv (wr64 (w1 + 1)) 2))))), (100, .int .i64 x369), (101, .int .i64 (wr64 (Int.tdiv (wr64 (w1 + 1)) 2))), (104, .pointer (some ⟨b250, 0, none⟩)), (106, .int .i64 (wr64 (Int.tdiv (wr64 (w1 + 1)) 2))), (111, .int .i64 (wr64 (x367 + (wr64 (Int.tdiv (wr64 (w1 + 1)) 2)))))] ([⟨b250, [.int .i64 x366, .int .i64 x367], 2⟩, ⟨b236, [.int .i64 x368, .int .i64 x369], 2⟩, ⟨b221, [.int .i64 0, .int .i64 0], 2⟩, ⟨b220, [.int .i64 0, .int .i64 0], 2⟩] : List Own) := by
        exact hqf 7 [4, 5, 98, 102, 104, 106, 111] _ _ _ [(4, .pointer (some ⟨b220, 0, none⟩)), (5, .pointer (some ⟨b221, 0, none⟩)), (98, .int .i64 (wr64 (x368 - (wr64 (Int.tdiv (wr64 (w1 + 1)) 2))))), (102, .int .i64 (wr64 (x369 - (wr64 (Int.tdiv (wr64 (w1 + 1)) 2))))), (104, .pointer (some ⟨b250, 0, none⟩)), (106, .int .i64 (wr64 (Int.tdiv (wr64 (w1 + 1)) 2))), (111, .int .i64 (wr64 (x367 + (wr64 (Int.tdiv (wr64 (w1 + 1)) 2)))))] (by kernel_rfl) (by kernel_rfl) hg_1eaff
      have hg_fe5f : G [true, true, true, true, true, false, true, false, false, true, true, true, true, true, true, true, false, false, false, false, false] [(4, .pointer (some ⟨b220, 0, none⟩)), (5, .pointer (some ⟨b221, 0, none⟩)), (98, .int .i64 (wr64 (x368 - (wr64 (Int.tdiv (wr64 (w1 + 1)) 2))))), (99, .pointer (some ⟨b236, 1, none⟩)), (101, .int .i64 (wr64 (Int.tdiv (wr64 (w1 + 1)) 2))), (107, .int .i64 (wr64 (x366 + (wr64 (Int.tdiv (wr64 (w1 + 1)) 2))))), (109, .int .i64 x367), (110, .int .i64 (wr64 (Int.tdiv (wr64 (w1 + 1)) 2)))] ([⟨b250, [.int .i64 x366, .int .i64 x367], 2⟩, ⟨b236, [.int .i64 x368, .int .i64 x369], 2⟩, ⟨b221, [.int .i64 0, .int .i64 0], 2⟩, ⟨b220, [.int .i64 0, .int .i64 0], 2⟩] : List Own) := by
        exact hqf 16 [4, 5, 98, 99, 101, 107, 111] _ _ _ [(4, .pointer (some ⟨b220, 0, none⟩)), (5, .pointer (some ⟨b221, 0, none⟩)), (98, .int .i64 (wr64 (x368 - (wr64 (Int.tdiv (wr64 (w1 + 1)) 2))))), (99, .pointer (some ⟨b236, 1, none⟩)), (101, .int .i64 (wr64 (Int.tdiv (wr64 (w1 + 1)) 2))), (107, .int .i64 (wr64 (x366 + (wr64 (Int.tdiv (wr64 (w1 + 1)) 2))))), (111, .int .i64 (wr64 (x367 + (wr64 (Int.tdiv (wr64 (w1 + 1)) 2)))))] (by kernel_rfl) (by kernel_rfl) hg_1fe5f
      have hg_3fe55 : G [true, false, true, false, true, false, true, false, false, true, true, true, true, true, true, true, true, true, false, false, false] [(4, .pointer (some ⟨b220, 0, none⟩)), (5, .pointer (some ⟨b221, 0, none⟩)), (95, .pointer (some ⟨b236, 0, none⟩)), (97, .int .i64 (wr64 (Int.tdiv (wr64 (w1 + 1)) 2))), (99, .pointer (some ⟨b236, 1, none⟩)), (101, .int .i64 (wr64 (Int.tdiv (wr64 (w1 + 1)) 2))), (112, .agg #[.int .i64 (wr64 (x366 + (wr64 (Int.tdiv (wr64 (w1 + 1)) 2)))), .int .i64 (wr64 (x367 + (wr64 (Int.tdiv (wr64 (w1 + 1)) 2))))])] ([⟨b250, [.int .i64 x366, .int .i64 x367], 2⟩, ⟨b236, [.int .i64 x368, .int .i64 x369], 2⟩, ⟨b221, [.int .i64 0, .int .i64 0], 2⟩, ⟨b220, [.int .i64 0, .int .i64 0], 2⟩] : List Own) := by
        refine hstep [1, 5] _ _ _ (by kernel_rfl) (List.cons_ne_nil _ _) ⟨?_, ?_, trivial⟩
        · show T _ _ _ _ _ _ _ _
          refine t_v (.ld1 rfl rfl rfl (.at 1 rfl rfl)) ?_
          refine t_keep [4, 5, 96, 97, 99, 101, 112] (σ' := [(4, .pointer (some ⟨b220, 0, none⟩)), (5, .pointer (some ⟨b221, 0, none⟩)), (96, .int .i64 x368), (97, .int .i64 (wr64 (Int.tdiv (wr64 (w1 + 1)) 2))), (99, .pointer (some ⟨b236, 1, none⟩)), (101, .int .i64 (wr64 (Int.tdiv (wr64 (w1 + 1)) 2))), (112, .agg #[.int .i64 (wr64 (x366 + (wr64 (Int.tdiv (wr64 (w1 + 1)) 2)))), .int .i64 (wr64 (x367 + (wr64 (Int.tdiv (wr64 (w1 + 1)) 2))))])]) (by kernel_rfl) ?_
          refine t_end ?_
          exact ⟨hg_3fe57, rfl⟩
        · show T _ _ _ _ _ _ _ _
          refine t_v (.ld1 rfl rfl rfl (.at 1 rfl rfl)) ?_
          refine t_keep [4, 5, 95, 97, 100, 101, 112] (σ' := [(4, .pointer (some ⟨b220, 0, none⟩)), (5, .pointer (some ⟨b221, 0, none⟩)), (95, .pointer (some ⟨b236, 0, none⟩)), (97, .int .i64 (wr64 (Int.tdiv (wr64 (w1 + 1)) 2))), (100, .int .i64 x369), (101, .int .i64 (wr64 (Int.tdiv (wr64 (w1 + 1)) 2))), (112, .agg #[.int .i64 (wr64 (x366 + (wr64 (Int.tdiv (wr64 (w1 + 1)) 2)))), .int .i64 (wr64 (x367 + (wr64 (Int.tdiv (wr64 (w1 + 1)) 2))))])]) (by kernel_rfl) ?_
          refine t_end ?_
          exact ⟨hg_3fe75, rfl⟩
      have hg_1ee5f : G [true, true, true, true, true, false, true, false, false, true, true, true, false, true, true, true, true, false, false, false, false] [(4, .pointer (some ⟨b220, 0, none⟩)), (5, .pointer (some ⟨b221, 0, none⟩)), (98, .int .i64 (wr64 (x368 - (wr64 (Int.tdiv (wr64 (w1 + 1)) 2))))), (99, .pointer (some ⟨b236, 1, none⟩)), (101, .int .i64 (wr64 (Int.tdiv (wr64 (w1 + 1)) 2))), (105, .int .i64 x366), (106, .int .i64 (wr64 (Int.tdiv (wr64 (w1 + 1)) 2))), (111, .int .i64 (wr64 (x367 + (wr64 (Int.tdiv (wr64 (w1 + 1)) 2)))))] ([⟨b250, [.int .i64 x366, .int .i64 x367], 2⟩, ⟨b236, [.int .i64 x368, .int .i64 x369], 2⟩, ⟨b221, [.int .i64 0, .int .i64 0], 2⟩, ⟨b220, [.int .i64 0, .int .i64 0], 2⟩] : List Own) := by
        exact hqf 12 [4, 5, 98, 99, 101, 107, 111] _ _ _ [(4, .pointer (some ⟨b220, 0, none⟩)), (5, .pointer (some ⟨b221, 0, none⟩)), (98, .int .i64 (wr64 (x368 - (wr64 (Int.tdiv (wr64 (w1 + 1)) 2))))), (99, .pointer (some ⟨b236, 1, none⟩)), (101, .int .i64 (wr64 (Int.tdiv (wr64 (w1 + 1)) 2))), (107, .int .i64 (wr64 (x366 + (wr64 (Int.tdiv (wr64 (w1 + 1)) 2))))), (111, .int .i64 (wr64 (x367 + (wr64 (Int.tdiv (wr64 (w1 + 1)) 2)))))] (by kernel_rfl) (by kernel_rfl) hg_1fe5f
      have hg_be7f : G [true, true, true, true, true, true, true, false, false, true, true, true, true, true, false, true, false, false, false, false, false] [(4, .pointer (some ⟨b220, 0, none⟩)), (5, .pointer (some ⟨b221, 0, none⟩)), (98, .int .i64 (wr64 (x368 - (wr64 (Int.tdiv (wr64 (w1 + 1)) 2))))), (100, .int .i64 x369), (101, .int .i64 (wr64 (Int.tdiv (wr64 (w1 + 1)) 2))), (107, .int .i64 (wr64 (x366 + (wr64 (Int.tdiv (wr64 (w1 + 1)) 2))))), (108, .pointer (some ⟨b250, 1, none⟩)), (110, .int .i64 (wr64 (Int.tdiv (wr64 (w1 + 1)) 2)))] ([⟨b250, [.int .i64 x366, .int .i64 x367], 2⟩, ⟨b236, [.int .i64 x368, .int .i64 x369], 2⟩, ⟨b221, [.int .i64 0, .int .i64 0], 2⟩, ⟨b220, [.int .i64 0, .int .i64 0], 2⟩] : List Own) := by
        exact hqf 7 [4, 5, 98, 102, 107, 108, 110] _ _ _ [(4, .pointer (some ⟨b220, 0, none⟩)), (5, .pointer (some ⟨b221, 0, none⟩)), (98, .int .i64 (wr64 (x368 - (wr64 (Int.tdiv (wr64 (w1 + 1)) 2))))), (102, .int .i64 (wr64 (x369 - (wr64 (Int.tdiv (wr64 (w1 + 1)) 2))))), (107, .int .i64 (wr64 (x366 + (wr64 (Int.tdiv (wr64 (w1 + 1)) 2))))), (108, .pointer (some ⟨b250, 1, none⟩)), (110, .int .i64 (wr64 (Int.tdiv (wr64 (w1 + 1)) 2)))] (by kernel_rfl) (by kernel_rfl) hg_beff
      have hg_abff : G [true, true, true, true, true, true, true, true, true, true, false, true, false, true, false, true, false, false, false, false, false] [(4, .pointer (some ⟨b220, 0, none⟩)), (5, .pointer (some ⟨b221, 0, none⟩)), (103, .agg #[.int .i64 (wr64 (x368 - (wr64 (Int.tdiv (wr64 (w1 + 1)) 2)))), .int .i64 (wr64 (x369 - (wr64 (Int.tdiv (wr64 (w1 + 1)) 2))))]), (104, .pointer (some ⟨b250, 0, none⟩)), (106, .int .i64 (wr64 (Int.tdiv (wr64 (w1 + 1)) 2))), (108, .pointer (some ⟨b250, 1, none⟩)), (110, .int .i64 (wr64 (Int.tdiv (wr64 (w1 + 1)) 2)))] ([⟨b250, [.int .i64 x366, .int .i64 x367], 2⟩, ⟨b236, [.int .i64 x368, .int .i64 x369], 2⟩, ⟨b221, [.int .i64 0, .int .i64 0], 2⟩, ⟨b220, [.int .i64 0, .int .i64 0], 2⟩] : List Own) := by
        refine hstep [10, 14, 18] _ _ _ (by kernel_rfl) (List.cons_ne_nil _ _) ⟨?_, ?_, ?_, trivial⟩
        · show T _ _ _ _ _ _ _ _
          refine t_v (.ld1 rfl rfl rfl (.at 0 rfl rfl)) ?_
          refine t_keep [4, 5, 103, 105, 106, 108, 110] (σ' := [(4, .pointer (some ⟨b220, 0, none⟩)), (5, .pointer (some ⟨b221, 0, none⟩)), (103, .agg #[.int .i64 (wr64 (x368 - (wr64 (Int.tdiv (wr64 (w1 + 1)) 2)))), .int .i64 (wr64 (x369 - (wr64 (Int.tdiv (wr64 (w1 + 1)) 2))))]), (105, .int .i64 x366), (106, .int .i64 (wr64 (Int.tdiv (wr64 (w1 + 1)) 2))), (108, .pointer (some ⟨b250, 1, none⟩)), (110, .int .i64 (wr64 (Int.tdiv (wr64 (w1 + 1)) 2)))]) (by kernel_rfl) ?_
          refine t_end ?_
          exact ⟨hg_afff, rfl⟩
        · show T _ _ _ _ _ _ _ _
          refine t_v (.ld1 rfl rfl rfl (.at 0 rfl rfl)) ?_
          refine t_keep [4, 5, 103, 104, 106, 109, 110] (σ' := [(4, .pointer (some ⟨b220, 0, none⟩)), (5, .pointer (some ⟨b221, 0, none⟩)), (103, .agg #[.int .i64 (wr64 (x368 - (wr64 (Int.tdiv (wr64 (w1 + 1)) 2)))), .int .i64 (wr64 (x369 - (wr64 (Int.tdiv (wr64 (w1 + 1)) 2))))]), (104, .pointer (some ⟨b250, 0, none⟩)), (106, .int .i64 (wr64 (Int.tdiv (wr64 (w1 + 1)) 2))), (109, .int .i64 x367), (110, .int .i64 (wr64 (Int.tdiv (wr64 (w1 + 1)) 2)))]) (by kernel_rfl) ?_
          refine t_end ?_
          exact ⟨hg_ebff, rfl⟩
        · show T _ _ _ _ _ _ _ _
          refine t_sti 3 (cs := [.int .i64 (wr64 (x368 - (wr64 (Int.tdiv (wr64 (w1 + 1)) 2)))), .int .i64 (wr64 (x369 - (wr64 (Int.tdiv (wr64 (w1 + 1)) 2))))]) rfl rfl rfl rfl rfl rfl rfl rfl rfl ?_
          refine t_keep [4, 5, 104, 106, 108, 110] (σ' := [(4, .pointer (some ⟨b220, 0, none⟩)), (5, .pointer (some ⟨b221, 0, none⟩)), (104, .pointer (some ⟨b250, 0, none⟩)), (106, .int .i64 (wr64 (Int.tdiv (wr64 (w1 + 1)) 2))), (108, .pointer (some ⟨b250, 1, none⟩)), (110, .int .i64 (wr64 (Int.tdiv (wr64 (w1 + 1)) 2)))]) (by kernel_rfl) ?_
          refine t_end ?_
          exact ⟨hg_4abff, rfl⟩
      have hg_1eef5 : G [true, false, true, false, true, true, true, true, false, true, true, true, false, true, true, true, true, false, false, false, false] [(4, .pointer (some ⟨b220, 0, none⟩)), (5, .pointer (some ⟨b221, 0, none⟩)), (95, .pointer (some ⟨b236, 0, none⟩)), (97, .int .i64 (wr64 (Int.tdiv (wr64 (w1 + 1)) 2))), (102, .int .i64 (wr64 (x369 - (wr64 (Int.tdiv (wr64 (w1 + 1)) 2))))), (105, .int .i64 x366), (106, .int .i64 (wr64 (Int.tdiv (wr64 (w1 + 1)) 2))), (111, .int .i64 (wr64 (x367 + (wr64 (Int.tdiv (wr64 (w1 + 1)) 2)))))] ([⟨b250, [.int .i64 x366, .int .i64 x367], 2⟩, ⟨b236, [.int .i64 x368, .int .i64 x369], 2⟩, ⟨b221, [.int .i64 0, .int .i64 0], 2⟩, ⟨b220, [.int .i64 0, .int .i64 0], 2⟩] : List Own) := by
        exact hqf 12 [4, 5, 95, 97, 102, 107, 111] _ _ _ [(4, .pointer (some ⟨b220, 0, none⟩)), (5, .pointer (some ⟨b221, 0, none⟩)), (95, .pointer (some ⟨b236, 0, none⟩)), (97, .int .i64 (wr64 (Int.tdiv (wr64 (w1 + 1)) 2))), (102, .int .i64 (wr64 (x369 - (wr64 (Int.tdiv (wr64 (w1 + 1)) 2))))), (107, .int .i64 (wr64 (x366 + (wr64 (Int.tdiv (wr64 (w1 + 1)) 2))))), (111, .int .i64 (wr64 (x367 + (wr64 (Int.tdiv (wr64 (w1 + 1)) 2)))))] (by kernel_rfl) (by kernel_rfl) hg_1fef5
      have hg_bef5 : G [true, false, true, false, true, true, true, true, false, true, true, true, true, true, false, true, false, false, false, false, false] [(4, .pointer (some ⟨b220, 0, none⟩)), (5, .pointer (some ⟨b221, 0, none⟩)), (95, .pointer (some ⟨b236, 0, none⟩)), (97, .int .i64 (wr64 (Int.tdiv (wr64 (w1 + 1)) 2))), (102, .int .i64 (wr64 (x369 - (wr64 (Int.tdiv (wr64 (w1 + 1)) 2))))), (107, .int .i64 (wr64 (x366 + (wr64 (Int.tdiv (wr64 (w1 + 1)) 2))))), (108, .pointer (some ⟨b250, 1, none⟩)), (110, .int .i64 (wr64 (Int.tdiv (wr64 (w1 + 1)) 2)))] ([⟨b250, [.int .i64 x366, .int .i64 x367], 2⟩, ⟨b236, [.int .i64 x368, .int .i64 x369], 2⟩, ⟨b221, [.int .i64 0, .int .i64 0], 2⟩, ⟨b220, [.int .i64 0, .int .i64 0], 2⟩] : List Own) := by
        refine hstep [1, 14] _ _ _ (by kernel_rfl) (List.cons_ne_nil _ _) ⟨?_, ?_, trivial⟩
        · show T _ _ _ _ _ _ _ _
          refine t_v (.ld1 rfl rfl rfl (.at 1 rfl rfl)) ?_
          refine t_keep [4, 5, 96, 97, 102, 107, 108, 110] (σ' := [(4, .pointer (some ⟨b220, 0, none⟩)), (5, .pointer (some ⟨b221, 0, none⟩)), (96, .int .i64 x368), (97, .int .i64 (wr64 (Int.tdiv (wr64 (w1 + 1)) 2))), (102, .int .i64 (wr64 (x369 - (wr64 (Int.tdiv (wr64 (w1 + 1)) 2))))), (107, .int .i64 (wr64 (x366 + (wr64 (Int.tdiv (wr64 (w1 + 1)) 2))))), (108, .pointer (some ⟨b250, 1, none⟩)), (110, .int .i64 (wr64 (Int.tdiv (wr64 (w1 + 1)) 2)))]) (by kernel_rfl) ?_
          refine t_end ?_
          exact ⟨hg_bef7, rfl⟩
        · show T _ _ _ _ _ _ _ _
          refine t_v (.ld1 rfl rfl rfl (.at 0 rfl rfl)) ?_
          refine t_keep [4, 5, 95, 97, 102, 107, 109, 110] (σ' := [(4, .pointer (some ⟨b220, 0, none⟩)), (5, .pointer (some ⟨b221, 0, none⟩)), (95, .pointer (some ⟨b236, 0, none⟩)), (97, .int .i64 (wr64 (Int.tdiv (wr64 (w1 + 1)) 2))), (102, .int .i64 (wr64 (x369 - (wr64 (Int.tdiv (wr64 (w1 + 1)) 2))))), (107, .int .i64 (wr64 (x366 + (wr64 (Int.tdiv (wr64 (w1 + 1)) 2))))), (109, .int .i64 x367), (110, .int .i64 (wr64 (Int.tdiv (wr64 (w1 + 1)) 2)))]) (by kernel_rfl) ?_
          refine t_end ?_
          exact ⟨hg_fef5, rfl⟩
      have hg_be5f : G [true, true, true, true, true, false, true, false, false, true, true, true, true, true, false, true, false, false, false, false, false] [(4, .pointer (some ⟨b220, 0, none⟩)), (5, .pointer (some ⟨b221, 0, none⟩)), (98, .int .i64 (wr64 (x368 - (wr64 (Int.tdiv (wr64 (w1 + 1)) 2))))), (99, .pointer (some ⟨b236, 1, none⟩)), (101, .int .i64 (wr64 (Int.tdiv (wr64 (w1 + 1)) 2))), (107, .int .i64 (wr64 (x366 + (wr64 (Int.tdiv (wr64 (w1 + 1)) 2))))), (108, .pointer (some ⟨b250, 1, none⟩)), (110, .int .i64 (wr64 (Int.tdiv (wr64 (w1 + 1)) 2)))] ([⟨b250, [.int .i64 x366, .int .i64 x367], 2⟩, ⟨b236, [.int .i64 x368, .int .i64 x369], 2⟩, ⟨b221, [.int .i64 0, .int .i64 0], 2⟩, ⟨b220, [.int .i64 0, .int .i64 0], 2⟩] : List Own) := by
        refine hstep [5, 14] _ _ _ (by kernel_rfl) (List.cons_ne_nil _ _) ⟨?_, ?_, trivial⟩
        · show T _ _ _ _ _ _ _ _
          refine t_v (.ld1 rfl rfl rfl (.at 1 rfl rfl)) ?_
          refine t_keep [4, 5, 98, 100, 101, 107, 108, 110] (σ' := [(4, .pointer (some ⟨b220, 0, none⟩)), (5, .pointer (some ⟨b221, 0, none⟩)), (98, .int .i64 (wr64 (x368 - (wr64 (Int.tdiv (wr64 (w1 + 1)) 2))))), (100, .int .i64 x369), (101, .int .i64 (wr64 (Int.tdiv (wr64 (w1 + 1)) 2))), (107, .int .i64 (wr64 (x366 + (wr64 (Int.tdiv (wr64 (w1 + 1)) 2))))), (108, .pointer (some ⟨b250, 1, none⟩)), (110, .int .i64 (wr64 (Int.tdiv (wr64 (w1 + 1)) 2)))]) (by kernel_rfl) ?_
          refine t_end ?_
          exact ⟨hg_be7f, rfl⟩
        · show T _ _ _ _ _ _ _ _
          refine t_v (.ld1 rfl rfl rfl (.at 0 rfl rfl)) ?_
          refine t_keep [4, 5, 98, 99, 101, 107, 109, 110] (σ' := [(4, .pointer (some ⟨b220, 0, none⟩)), (5, .pointer (some ⟨b221, 0, none⟩)), (98, .int .i64 (wr64 (x368 - (wr64 (Int.tdiv (wr64 (w1 + 1)) 2))))), (99, .pointer (some ⟨b236, 1, none⟩)), (101, .int .i64 (wr64 (Int.tdiv (wr64 (w1 + 1)) 2))), (107, .int .i64 (wr64 (x366 + (wr64 (Int.tdiv (wr64 (w1 + 1)) 2))))), (109, .int .i64 x367), (110, .int .i64 (wr64 (Int.tdiv (wr64 (w1 + 1)) 2)))]) (by kernel_rfl) ?_
          refine t_end ?_
          exact ⟨hg_fe5f, rfl⟩
      have hg_aaff : G [true, true, true, true, true, true, true, true, false, true, false, true, false, true, false, true, false, false, false, false, false] [(4, .pointer (some ⟨b220, 0, none⟩)), (5, .pointer (some ⟨b221, 0, none⟩)), (98, .int .i64 (wr64 (x368 - (wr64 (Int.tdiv (wr64 (w1 + 1)) 2))))), (102, .int .i64 (wr64 (x369 - (wr64 (Int.tdiv (wr64 (w1 + 1)) 2))))), (104, .pointer (some ⟨b250, 0, none⟩)), (106, .int .i64 (wr64 (Int.tdiv (wr64 (w1 + 1)) 2))), (108, .pointer (some ⟨b250, 1, none⟩)), (110, .int .i64 (wr64 (Int.tdiv (wr64 (w1 + 1)) 2)))] ([⟨b250, [.int .i64 x366, .int .i64 x367], 2⟩, ⟨b236, [.int .i64 x368, .int .i64 x369], 2⟩, ⟨b221, [.int .i64 0, .int .i64 0], 2⟩, ⟨b220, [.int .i64 0, .int .i64 0], 2⟩] : List Own) := by
        exact hqf 8 [4, 5, 103, 104, 106, 108, 110] _ _ _ [(4, .pointer (some ⟨b220, 0, none⟩)), (5, .pointer (some ⟨b221, 0, none⟩)), (103, .agg #[.int .i64 (wr64 (x368 - (wr64 (Int.tdiv (wr64 (w1 + 1)) 2)))), .int .i64 (wr64 (x369 - (wr64 (Int.tdiv (wr64 (w1 + 1)) 2))))]), (104, .pointer (some ⟨b250, 0, none⟩)), (106, .int .i64 (wr64 (Int.tdiv (wr64 (w1 + 1)) 2))), (108, .pointer (some ⟨b250, 1, none⟩)), (110, .int .i64 (wr64 (Int.tdiv (wr64 (w1 + 1)) 2)))] (by kernel_rfl) (by kernel_rfl) hg_abff
      have hg_1fe55 : G [true, false, true, false, true, false, true, false, false, true, true, true, true, true, true, true, true, false, false, false, false] [(4, .pointer (some ⟨b220, 0, none⟩)), (5, .pointer (some ⟨b221, 0, none⟩)), (95, .pointer (some ⟨b236, 0, none⟩)), (97, .int .i64 (wr64 (Int.tdiv (wr64 (w1 + 1)) 2))), (99, .pointer (some ⟨b236, 1, none⟩)), (101, .int .i64 (wr64 (Int.tdiv (wr64 (w1 + 1)) 2))), (107, .int .i64 (wr64 (x366 + (wr64 (Int.tdiv (wr64 (w1 + 1)) 2))))), (111, .int .i64 (wr64 (x367 + (wr64 (Int.tdiv (wr64 (w1 + 1)) 2)))))] ([⟨b250, [.int .i64 x366, .int .i64 x367], 2⟩, ⟨b236, [.int .i64 x368, .int .i64 x369], 2⟩, ⟨b221, [.int .i64 0, .int .i64 0], 2⟩, ⟨b220, [.int .i64 0, .int .i64 0], 2⟩] : List Own) := by
        exact hqf 17 [4, 5, 95, 97, 99, 101, 112] _ _ _ [(4, .pointer (some ⟨b220, 0, none⟩)), (5, .pointer (some ⟨b221, 0, none⟩)), (95, .pointer (some ⟨b236, 0, none⟩)), (97, .int .i64 (wr64 (Int.tdiv (wr64 (w1 + 1)) 2))), (99, .pointer (some ⟨b236, 1, none⟩)), (101, .int .i64 (wr64 (Int.tdiv (wr64 (w1 + 1)) 2))), (112, .agg #[.int .i64 (wr64 (x366 + (wr64 (Int.tdiv (wr64 (w1 + 1)) 2)))), .int .i64 (wr64 (x367 + (wr64 (Int.tdiv (wr64 (w1 + 1)) 2))))])] (by kernel_rfl) (by kernel_rfl) hg_3fe55
      have hg_1ea5f : G [true, true, true, true, true, false, true, false, false, true, false, true, false, true, true, true, true, false, false, false, false] [(4, .pointer (some ⟨b220, 0, none⟩)), (5, .pointer (some ⟨b221, 0, none⟩)), (98, .int .i64 (wr64 (x368 - (wr64 (Int.tdiv (wr64 (w1 + 1)) 2))))), (99, .pointer (some ⟨b236, 1, none⟩)), (101, .int .i64 (wr64 (Int.tdiv (wr64 (w1 + 1)) 2))), (104, .pointer (some ⟨b250, 0, none⟩)), (106, .int .i64 (wr64 (Int.tdiv (wr64 (w1 + 1)) 2))), (111, .int .i64 (wr64 (x367 + (wr64 (Int.tdiv (wr64 (w1 + 1)) 2)))))] ([⟨b250, [.int .i64 x366, .int .i64 x367], 2⟩, ⟨b236, [.int .i64 x368, .int .i64 x369], 2⟩, ⟨b221, [.int .i64 0, .int .i64 0], 2⟩, ⟨b220, [.int .i64 0, .int .i64 0], 2⟩] : List Own) := by
        refine hstep [5, 10] _ _ _ (by kernel_rfl) (List.cons_ne_nil _ _) ⟨?_, ?_, trivial⟩
        · show T _ _ _ _ _ _ _ _
          refine t_v (.ld1 rfl rfl rfl (.at 1 rfl rfl)) ?_
          refine t_keep [4, 5, 98, 100, 101, 104, 106, 111] (σ' := [(4, .pointer (some ⟨b220, 0, none⟩)), (5, .pointer (some ⟨b221, 0, none⟩)), (98, .int .i64 (wr64 (x368 - (wr64 (Int.tdiv (wr64 (w1 + 1)) 2))))), (100, .int .i64 x369), (101, .int .i64 (wr64 (Int.tdiv (wr64 (w1 + 1)) 2))), (104, .pointer (some ⟨b250, 0, none⟩)), (106, .int .i64 (wr64 (Int.tdiv (wr64 (w1 + 1)) 2))), (111, .int .i64 (wr64 (x367 + (wr64 (Int.tdiv (wr64 (w1 + 1)) 2)))))]) (by kernel_rfl) ?_
          refine t_end ?_
          exact ⟨hg_1ea7f, rfl⟩
        · show T _ _ _ _ _ _ _ _
          refine t_v (.ld1 rfl rfl rfl (.at 0 rfl rfl)) ?_
          refine t_keep [4, 5, 98, 99, 101, 105, 106, 111] (σ' := [(4, .pointer (some ⟨b220, 0, none⟩)), (5, .pointer (some ⟨b221, 0, none⟩)), (98, .int .i64 (wr64 (x368 - (wr64 (Int.tdiv (wr64 (w1 + 1)) 2))))), (99, .pointer (some ⟨b236, 1, none⟩)), (101, .int .i64 (wr64 (Int.tdiv (wr64 (w1 + 1)) 2))), (105, .int .i64 x366), (106, .int .i64 (wr64 (Int.tdiv (wr64 (w1 + 1)) 2))), (111, .int .i64 (wr64 (x367 + (wr64 (Int.tdiv (wr64 (w1 + 1)) 2)))))]) (by kernel_rfl) ?_
          refine t_end ?_
          exact ⟨hg_1ee5f, rfl⟩
      have hg_1eaf5 : G [true, false, true, false, true, true, true, true, false, true, false, true, false, true, true, true, true, false, false, false, false] [(4, .pointer (some ⟨b220, 0, none⟩)), (5, .pointer (some ⟨b221, 0, none⟩)), (95, .pointer (some ⟨b236, 0, none⟩)), (97, .int .i64 (wr64 (Int.tdiv (wr64 (w1 + 1)) 2))), (102, .int .i64 (wr64 (x369 - (wr64 (Int.tdiv (wr64 (w1 + 1)) 2))))), (104, .pointer (some ⟨b250, 0, none⟩)), (106, .int .i64 (wr64 (Int.tdiv (wr64 (w1 + 1)) 2))), (111, .int .i64 (wr64 (x367 + (wr64 (Int.tdiv (wr64 (w1 + 1)) 2)))))] ([⟨b250, [.int .i64 x366, .int .i64 x367], 2⟩, ⟨b236, [.int .i64 x368, .int .i64 x369], 2⟩, ⟨b221, [.int .i64 0, .int .i64 0], 2⟩, ⟨b220, [.int .i64 0, .int .i64 0], 2⟩] : List Own) := by
        refine hstep [1, 10] _ _ _ (by kernel_rfl) (List.cons_ne_nil _ _) ⟨?_, ?_, trivial⟩
        · show T _ _ _ _ _ _ _ _
          refine t_v (.ld1 rfl rfl rfl (.at 1 rfl rfl)) ?_
          refine t_keep [4, 5, 96, 97, 102, 104, 106, 111] (σ' := [(4, .pointer (some ⟨b220, 0, none⟩)), (5, .pointer (some ⟨b221, 0, none⟩)), (96, .int .i64 x368), (97, .int .i64 (wr64 (Int.tdiv (wr64 (w1 + 1)) 2))), (102, .int .i64 (wr64 (x369 - (wr64 (Int.tdiv (wr64 (w1 + 1)) 2))))), (104, .pointer (some ⟨b250, 0, none⟩)), (106, .int .i64 (wr64 (Int.tdiv (wr64 (w1 + 1)) 2))), (111, .int .i64 (wr64 (x367 + (wr64 (Int.tdiv (wr64 (w1 + 1)) 2)))))]) (by kernel_rfl) ?_
          refine t_end ?_
          exact ⟨hg_1eaf7, rfl⟩
        · show T _ _ _ _ _ _ _ _
          refine t_v (.ld1 rfl rfl rfl (.at 0 rfl rfl)) ?_
          refine t_keep [4, 5, 95, 97, 102, 105, 106, 111] (σ' := [(4, .pointer (some ⟨b220, 0, none⟩)), (5, .pointer (some ⟨b221, 0, none⟩)), (95, .pointer (some ⟨b236, 0, none⟩)), (97, .int .i64 (wr64 (Int.tdiv (wr64 (w1 + 1)) 2))), (102, .int .i64 (wr64 (x369 - (wr64 (Int.tdiv (wr64 (w1 + 1)) 2))))), (105, .int .i64 x366), (106, .int .i64 (wr64 (Int.tdiv (wr64 (w1 + 1)) 2))), (111, .int .i64 (wr64 (x367 + (wr64 (Int.tdiv (wr64 (w1 + 1)) 2)))))]) (by kernel_rfl) ?_
          refine t_end ?_
          exact ⟨hg_1eef5, rfl⟩
      have hg_fe55 : G [true, false, true, false, true, false, true, false, false, true, true, true, true, true, true, true, false, false, false, false, false] [(4, .pointer (some ⟨b220, 0, none⟩)), (5, .pointer (some ⟨b221, 0, none⟩)), (95, .pointer (some ⟨b236, 0, none⟩)), (97, .int .i64 (wr64 (Int.tdiv (wr64 (w1 + 1)) 2))), (99, .pointer (some ⟨b236, 1, none⟩)), (101, .int .i64 (wr64 (Int.tdiv (wr64 (w1 + 1)) 2))), (107, .int .i64 (wr64 (x366 + (wr64 (Int.tdiv (wr64 (w1 + 1)) 2))))), (109, .int .i64 x367), (110, .int .i64 (wr64 (Int.tdiv (wr64 (w1 + 1)) 2)))] ([⟨b250, [.int .i64 x366, .int .i64 x367], 2⟩, ⟨b236, [.int .i64 x368, .int .i64 x369], 2⟩, ⟨b221, [.int .i64 0, .int .i64 0], 2⟩, ⟨b220, [.int .i64 0, .int .i64 0], 2⟩] : List Own) := by
        exact hqf 16 [4, 5, 95, 97, 99, 101, 107, 111] _ _ _ [(4, .pointer (some ⟨b220, 0, none⟩)), (5, .pointer (some ⟨b221, 0, none⟩)), (95, .pointer (some ⟨b236, 0, none⟩)), (97, .int .i64 (wr64 (Int.tdiv (wr64 (w1 + 1)) 2))), (99, .pointer (some ⟨b236, 1, none⟩)), (101, .int .i64 (wr64 (Int.tdiv (wr64 (w1 + 1)) 2))), (107, .int .i64 (wr64 (x366 + (wr64 (Int.tdiv (wr64 (w1 + 1)) 2))))), (111, .int .i64 (wr64 (x367 + (wr64 (Int.tdiv (wr64 (w1 + 1)) 2)))))] (by kernel_rfl) (by kernel_rfl) hg_1fe55
      have hg_eaf5 : G [true, false, true, false, true, true, true, true, false, true, false, true, false, true, true, true, false, false, false, false, false] [(4, .pointer (some ⟨b220, 0, none⟩)), (5, .pointer (some ⟨b221, 0, none⟩)), (95, .pointer (some ⟨b236, 0, none⟩)), (97, .int .i64 (wr64 (Int.tdiv (wr64 (w1 + 1)) 2))), (102, .int .i64 (wr64 (x369 - (wr64 (Int.tdiv (wr64 (w1 + 1)) 2))))), (104, .pointer (some ⟨b250, 0, none⟩)), (106, .int .i64 (wr64 (Int.tdiv (wr64 (w1 + 1)) 2))), (109, .int .i64 x367), (110, .int .i64 (wr64 (Int.tdiv (wr64 (w1 + 1)) 2)))] ([⟨b250, [.int .i64 x366, .int .i64 x367], 2⟩, ⟨b236, [.int .i64 x368, .int .i64 x369], 2⟩, ⟨b221, [.int .i64 0, .int .i64 0], 2⟩, ⟨b220, [.int .i64 0, .int .i64 0], 2⟩] : List Own) := by
        exact hqf 16 [4, 5, 95, 97, 102, 104, 106, 111] _ _ _ [(4, .pointer (some ⟨b220, 0, none⟩)), (5, .pointer (some ⟨b221, 0, none⟩)), (95, .pointer (some ⟨b236, 0, none⟩)), (97, .int .i64 (wr64 (Int.tdiv (wr64 (w1 + 1)) 2))), (102, .int .i64 (wr64 (x369 - (wr64 (Int.tdiv (wr64 (w1 + 1)) 2))))), (104, .pointer (some ⟨b250, 0, none⟩)), (106, .int .i64 (wr64 (Int.tdiv (wr64 (w1 + 1)) 2))), (111, .int .i64 (wr64 (x367 + (wr64 (Int.tdiv (wr64 (w1 + 1)) 2)))))] (by kernel_rfl) (by kernel_rfl) hg_1eaf5
      have hg_be57 : G [true, true, true, false, true, false, true, false, false, true, true, true, true, true, false, true, false, false, false, false, false] [(4, .pointer (some ⟨b220, 0, none⟩)), (5, .pointer (some ⟨b221, 0, none⟩)), (96, .int .i64 x368), (97, .int .i64 (wr64 (Int.tdiv (wr64 (w1 + 1)) 2))), (99, .pointer (some ⟨b236, 1, none⟩)), (101, .int .i64 (wr64 (Int.tdiv (wr64 (w1 + 1)) 2))), (107, .int .i64 (wr64 (x366 + (wr64 (Int.tdiv (wr64 (w1 + 1)) 2))))), (108, .pointer (some ⟨b250, 1, none⟩)), (110, .int .i64 (wr64 (Int.tdiv (wr64 (w1 + 1)) 2)))] ([⟨b250, [.int .i64 x366, .int .i64 x367], 2⟩, ⟨b236, [.int .i64 x368, .int .i64 x369], 2⟩, ⟨b221, [.int .i64 0, .int .i64 0], 2⟩, ⟨b220, [.int .i64 0, .int .i64 0], 2⟩] : List Own) := by
        exact hqf 3 [4, 5, 98, 99, 101, 107, 108, 110] _ _ _ [(4, .pointer (some ⟨b220, 0, none⟩)), (5, .pointer (some ⟨b221, 0, none⟩)), (98, .int .i64 (wr64 (x368 - (wr64 (Int.tdiv (wr64 (w1 + 1)) 2))))), (99, .pointer (some ⟨b236, 1, none⟩)), (101, .int .i64 (wr64 (Int.tdiv (wr64 (w1 + 1)) 2))), (107, .int .i64 (wr64 (x366 + (wr64 (Int.tdiv (wr64 (w1 + 1)) 2))))), (108, .pointer (some ⟨b250, 1, none⟩)), (110, .int .i64 (wr64 (Int.tdiv (wr64 (w1 + 1)) 2)))] (by kernel_rfl) (by kernel_rfl) hg_be5f
      have hg_aaf7 : G [true, true, true, false, true, true, true, true, false, true, false, true, false, true, false, true, false, false, false, false, false] [(4, .pointer (some ⟨b220, 0, none⟩)), (5, .pointer (some ⟨b221, 0, none⟩)), (96, .int .i64 x368), (97, .int .i64 (wr64 (Int.tdiv (wr64 (w1 + 1)) 2))), (102, .int .i64 (wr64 (x369 - (wr64 (Int.tdiv (wr64 (w1 + 1)) 2))))), (104, .pointer (some ⟨b250, 0, none⟩)), (106, .int .i64 (wr64 (Int.tdiv (wr64 (w1 + 1)) 2))), (108, .pointer (some ⟨b250, 1, none⟩)), (110, .int .i64 (wr64 (Int.tdiv (wr64 (w1 + 1)) 2)))] ([⟨b250, [.int .i64 x366, .int .i64 x367], 2⟩, ⟨b236, [.int .i64 x368, .int .i64 x369], 2⟩, ⟨b221, [.int .i64 0, .int .i64 0], 2⟩, ⟨b220, [.int .i64 0, .int .i64 0], 2⟩] : List Own) := by
        exact hqf 3 [4, 5, 98, 102, 104, 106, 108, 110] _ _ _ [(4, .pointer (some ⟨b220, 0, none⟩)), (5, .pointer (some ⟨b221, 0, none⟩)), (98, .int .i64 (wr64 (x368 - (wr64 (Int.tdiv (wr64 (w1 + 1)) 2))))), (102, .int .i64 (wr64 (x369 - (wr64 (Int.tdiv (wr64 (w1 + 1)) 2))))), (104, .pointer (some ⟨b250, 0, none⟩)), (106, .int .i64 (wr64 (Int.tdiv (wr64 (w1 + 1)) 2))), (108, .pointer (some ⟨b250, 1, none⟩)), (110, .int .i64 (wr64 (Int.tdiv (wr64 (w1 + 1)) 2)))] (by kernel_rfl) (by kernel_rfl) hg_aaff
      have hg_ea5f : G [true, true, true, true, true, false, true, false, false, true, false, true, false, true, true, true, false, false, false, false, false] [(4, .pointer (some ⟨b220, 0, none⟩)), (5, .pointer (some ⟨b221, 0, none⟩)), (98, .int .i64 (wr64 (x368 - (wr64 (Int.tdiv (wr64 (w1 + 1)) 2))))), (99, .pointer (some ⟨b236, 1, none⟩)), (101, .int .i64 (wr64 (Int.tdiv (wr64 (w1 + 1)) 2))), (104, .pointer (some ⟨b250, 0, none⟩)), (106, .int .i64 (wr64 (Int.tdiv (wr64 (w1 + 1)) 2))), (109, .int .i64 x367), (110, .int .i64 (wr64 (Int.tdiv (wr64 (w1 + 1)) 2)))] ([⟨b250, [.int .i64 x366, .int .i64 x367], 2⟩, ⟨b236, [.int .i64 x368, .int .i64 x369], 2⟩, ⟨b221, [.int .i64 0, .int .i64 0], 2⟩, ⟨b220, [.int .i64 0, .int .i64 0], 2⟩] : List Own) := by
        exact hqf 16 [4, 5, 98, 99, 101, 104, 106, 111] _ _ _ [(4, .pointer (some ⟨b220, 0, none⟩)), (5, .pointer (some ⟨b221, 0, none⟩)), (98, .int .i64 (wr64 (x368 - (wr64 (Int.tdiv (wr64 (w1 + 1)) 2))))), (99, .pointer (some ⟨b236, 1, none⟩)), (101, .int .i64 (wr64 (Int.tdiv (wr64 (w1 + 1)) 2))), (104, .pointer (some ⟨b250, 0, none⟩)), (106, .int .i64 (wr64 (Int.tdiv (wr64 (w1 + 1)) 2))), (111, .int .i64 (wr64 (x367 + (wr64 (Int.tdiv (wr64 (w1 + 1)) 2)))))] (by kernel_rfl) (by kernel_rfl) hg_1ea5f
      have hg_ae5f : G [true, true, true, true, true, false, true, false, false, true, true, true, false, true, false, true, false, false, false, false, false] [(4, .pointer (some ⟨b220, 0, none⟩)), (5, .pointer (some ⟨b221, 0, none⟩)), (98, .int .i64 (wr64 (x368 - (wr64 (Int.tdiv (wr64 (w1 + 1)) 2))))), (99, .pointer (some ⟨b236, 1, none⟩)), (101, .int .i64 (wr64 (Int.tdiv (wr64 (w1 + 1)) 2))), (105, .int .i64 x366), (106, .int .i64 (wr64 (Int.tdiv (wr64 (w1 + 1)) 2))), (108, .pointer (some ⟨b250, 1, none⟩)), (110, .int .i64 (wr64 (Int.tdiv (wr64 (w1 + 1)) 2)))] ([⟨b250, [.int .i64 x366, .int .i64 x367], 2⟩, ⟨b236, [.int .i64 x368, .int .i64 x369], 2⟩, ⟨b221, [.int .i64 0, .int .i64 0], 2⟩, ⟨b220, [.int .i64 0, .int .i64 0], 2⟩] : List Own) := by
        exact hqf 12 [4, 5, 98, 99, 101, 107, 108, 110] _ _ _ [(4, .pointer (some ⟨b220, 0, none⟩)), (5, .pointer (some ⟨b221, 0, none⟩)), (98, .int .i64 (wr64 (x368 - (wr64 (Int.tdiv (wr64 (w1 + 1)) 2))))), (99, .pointer (some ⟨b236, 1, none⟩)), (101, .int .i64 (wr64 (Int.tdiv (wr64 (w1 + 1)) 2))), (107, .int .i64 (wr64 (x366 + (wr64 (Int.tdiv (wr64 (w1 + 1)) 2))))), (108, .pointer (some ⟨b250, 1, none⟩)), (110, .int .i64 (wr64 (Int.tdiv (wr64 (w1 + 1)) 2)))] (by kernel_rfl) (by kernel_rfl) hg_be5f
      have hg_aef5 : G [true, false, true, false, true, true, true, true, false, true, true, true, false, true, false, true, false, false, false, false, false] [(4, .pointer (some ⟨b220, 0, none⟩)), (5, .pointer (some ⟨b221, 0, none⟩)), (95, .pointer (some ⟨b236, 0, none⟩)), (97, .int .i64 (wr64 (Int.tdiv (wr64 (w1 + 1)) 2))), (102, .int .i64 (wr64 (x369 - (wr64 (Int.tdiv (wr64 (w1 + 1)) 2))))), (105, .int .i64 x366), (106, .int .i64 (wr64 (Int.tdiv (wr64 (w1 + 1)) 2))), (108, .pointer (some ⟨b250, 1, none⟩)), (110, .int .i64 (wr64 (Int.tdiv (wr64 (w1 + 1)) 2)))] ([⟨b250, [.int .i64 x366, .int .i64 x367], 2⟩, ⟨b236, [.int .i64 x368, .int .i64 x369], 2⟩, ⟨b221, [.int .i64 0, .int .i64 0], 2⟩, ⟨b220, [.int .i64 0, .int .i64 0], 2⟩] : List Own) := by
        exact hqf 12 [4, 5, 95, 97, 102, 107, 108, 110] _ _ _ [(4, .pointer (some ⟨b220, 0, none⟩)), (5, .pointer (some ⟨b221, 0, none⟩)), (95, .pointer (some ⟨b236, 0, none⟩)), (97, .int .i64 (wr64 (Int.tdiv (wr64 (w1 + 1)) 2))), (102, .int .i64 (wr64 (x369 - (wr64 (Int.tdiv (wr64 (w1 + 1)) 2))))), (107, .int .i64 (wr64 (x366 + (wr64 (Int.tdiv (wr64 (w1 + 1)) 2))))), (108, .pointer (some ⟨b250, 1, none⟩)), (110, .int .i64 (wr64 (Int.tdiv (wr64 (w1 + 1)) 2)))] (by kernel_rfl) (by kernel_rfl) hg_bef5
      have hg_aa7f : G [true, true, true, true, true, true, true, false, false, true, false, true, false, true, false, true, false, false, false, false, false] [(4, .pointer (some ⟨b220, 0, none⟩)), (5, .pointer (some ⟨b221, 0, none⟩)), (98, .int .i64 (wr64 (x368 - (wr64 (Int.tdiv (wr64 (w1 + 1)) 2))))), (100, .int .i64 x369), (101, .int .i64 (wr64 (Int.tdiv (wr64 (w1 + 1)) 2))), (104, .pointer (some ⟨b250, 0, none⟩)), (106, .int .i64 (wr64 (Int.tdiv (wr64 (w1 + 1)) 2))), (108, .pointer (some ⟨b250, 1, none⟩)), (110, .int .i64 (wr64 (Int.tdiv (wr64 (w1 + 1)) 2)))] ([⟨b250, [.int .i64 x366, .int .i64 x367], 2⟩, ⟨b236, [.int .i64 x368, .int .i64 x369], 2⟩, ⟨b221, [.int .i64 0, .int .i64 0], 2⟩, ⟨b220, [.int .i64 0, .int .i64 0], 2⟩] : List Own) := by
        exact hqf 7 [4, 5, 98, 102, 104, 106, 108, 110] _ _ _ [(4, .pointer (some ⟨b220, 0, none⟩)), (5, .pointer (some ⟨b221, 0, none⟩)), (98, .int .i64 (wr64 (x368 - (wr64 (Int.tdiv (wr64 (w1 + 1)) 2))))), (102, .int .i64 (wr64 (x369 - (wr64 (Int.tdiv (wr64 (w1 + 1)) 2))))), (104, .pointer (some ⟨b250, 0, none⟩)), (106, .int .i64 (wr64 (Int.tdiv (wr64 (w1 + 1)) 2))), (108, .pointer (some ⟨b250, 1, none⟩)), (110, .int .i64 (wr64 (Int.tdiv (wr64 (w1 + 1)) 2)))] (by kernel_rfl) (by kernel_rfl) hg_aaff
      have hg_1ee55 : G [true, false, true, false, true, false, true, false, false, true, true, true, false, true, true, true, true, false, false, false, false] [(4, .pointer (some ⟨b220, 0, none⟩)), (5, .pointer (some ⟨b221, 0, none⟩)), (95, .pointer (some ⟨b236, 0, none⟩)), (97, .int .i64 (wr64 (Int.tdiv (wr64 (w1 + 1)) 2))), (99, .pointer (some ⟨b236, 1, none⟩)), (101, .int .i64 (wr64 (Int.tdiv (wr64 (w1 + 1)) 2))), (105, .int .i64 x366), (106, .int .i64 (wr64 (Int.tdiv (wr64 (w1 + 1)) 2))), (111, .int .i64 (wr64 (x367 + (wr64 (Int.tdiv (wr64 (w1 + 1)) 2)))))] ([⟨b250, [.int .i64 x366, .int .i64 x367], 2⟩, ⟨b236, [.int .i64 x368, .int .i64 x369], 2⟩, ⟨b221, [.int .i64 0, .int .i64 0], 2⟩, ⟨b220, [.int .i64 0, .int .i64 0], 2⟩] : List Own) := by
        exact hqf 12 [4, 5, 95, 97, 99, 101, 107, 111] _ _ _ [(4, .pointer (some ⟨b220, 0, none⟩)), (5, .pointer (some ⟨b221, 0, none⟩)), (95, .pointer (some ⟨b236, 0, none⟩)), (97, .int .i64 (wr64 (Int.tdiv (wr64 (w1 + 1)) 2))), (99, .pointer (some ⟨b236, 1, none⟩)), (101, .int .i64 (wr64 (Int.tdiv (wr64 (w1 + 1)) 2))), (107, .int .i64 (wr64 (x366 + (wr64 (Int.tdiv (wr64 (w1 + 1)) 2))))), (111, .int .i64 (wr64 (x367 + (wr64 (Int.tdiv (wr64 (w1 + 1)) 2)))))] (by kernel_rfl) (by kernel_rfl) hg_1fe55
      have hg_1ea57 : G [true, true, true, false, true, false, true, false, false, true, false, true, false, true, true, true, true, false, false, false, false] [(4, .pointer (some ⟨b220, 0, none⟩)), (5, .pointer (some ⟨b221, 0, none⟩)), (96, .int .i64 x368), (97, .int .i64 (wr64 (Int.tdiv (wr64 (w1 + 1)) 2))), (99, .pointer (some ⟨b236, 1, none⟩)), (101, .int .i64 (wr64 (Int.tdiv (wr64 (w1 + 1)) 2))), (104, .pointer (some ⟨b250, 0, none⟩)), (106, .int .i64 (wr64 (Int.tdiv (wr64 (w1 + 1)) 2))), (111, .int .i64 (wr64 (x367 + (wr64 (Int.tdiv (wr64 (w1 + 1)) 2)))))] ([⟨b250, [.int .i64 x366, .int .i64 x367], 2⟩, ⟨b236, [.int .i64 x368, .int .i64 x369], 2⟩, ⟨b221, [.int .i64 0, .int .i64 0], 2⟩, ⟨b220, [.int .i64 0, .int .i64 0], 2⟩] : List Own) := by
        exact hqf 3 [4, 5, 98, 99, 101, 104, 106, 111] _ _ _ [(4, .pointer (some ⟨b220, 0, none⟩)), (5, .pointer (some ⟨b221, 0, none⟩)), (98, .int .i64 (wr64 (x368 - (wr64 (Int.tdiv (wr64 (w1 + 1)) 2))))), (99, .pointer (some ⟨b236, 1, none⟩)), (101, .int .i64 (wr64 (Int.tdiv (wr64 (w1 + 1)) 2))), (104, .pointer (some ⟨b250, 0, none⟩)), (106, .int .i64 (wr64 (Int.tdiv (wr64 (w1 + 1)) 2))), (111, .int .i64 (wr64 (x367 + (wr64 (Int.tdiv (wr64 (w1 + 1)) 2)))))] (by kernel_rfl) (by kernel_rfl) hg_1ea5f
      have hg_1ea75 : G [true, false, true, false, true, true, true, false, false, true, false, true, false, true, true, true, true, false, false, false, false] [(4, .pointer (some ⟨b220, 0, none⟩)), (5, .pointer (some ⟨b221, 0, none⟩)), (95, .pointer (some ⟨b236, 0, none⟩)), (97, .int .i64 (wr64 (Int.tdiv (wr64 (w1 + 1)) 2))), (100, .int .i64 x369), (101, .int .i64 (wr64 (Int.tdiv (wr64 (w1 + 1)) 2))), (104, .pointer (some ⟨b250, 0, none⟩)), (106, .int .i64 (wr64 (Int.tdiv (wr64 (w1 + 1)) 2))), (111, .int .i64 (wr64 (x367 + (wr64 (Int.tdiv (wr64 (w1 + 1)) 2)))))] ([⟨b250, [.int .i64 x366, .int .i64 x367], 2⟩, ⟨b236, [.int .i64 x368, .int .i64 x369], 2⟩, ⟨b221, [.int .i64 0, .int .i64 0], 2⟩, ⟨b220, [.int .i64 0, .int .i64 0], 2⟩] : List Own) := by
        exact hqf 7 [4, 5, 95, 97, 102, 104, 106, 111] _ _ _ [(4, .pointer (some ⟨b220, 0, none⟩)), (5, .pointer (some ⟨b221, 0, none⟩)), (95, .pointer (some ⟨b236, 0, none⟩)), (97, .int .i64 (wr64 (Int.tdiv (wr64 (w1 + 1)) 2))), (102, .int .i64 (wr64 (x369 - (wr64 (Int.tdiv (wr64 (w1 + 1)) 2))))), (104, .pointer (some ⟨b250, 0, none⟩)), (106, .int .i64 (wr64 (Int.tdiv (wr64 (w1 + 1)) 2))), (111, .int .i64 (wr64 (x367 + (wr64 (Int.tdiv (wr64 (w1 + 1)) 2)))))] (by kernel_rfl) (by kernel_rfl) hg_1eaf5
      have hg_be75 : G [true, false, true, false, true, true, true, false, false, true, true, true, true, true, false, true, false, false, false, false, false] [(4, .pointer (some ⟨b220, 0, none⟩)), (5, .pointer (some ⟨b221, 0, none⟩)), (95, .pointer (some ⟨b236, 0, none⟩)), (97, .int .i64 (wr64 (Int.tdiv (wr64 (w1 + 1)) 2))), (100, .int .i64 x369), (101, .int .i64 (wr64 (Int.tdiv (wr64 (w1 + 1)) 2))), (107, .int .i64 (wr64 (x366 + (wr64 (Int.tdiv (wr64 (w1 + 1)) 2))))), (108, .pointer (some ⟨b250, 1, none⟩)), (110, .int .i64 (wr64 (Int.tdiv (wr64 (w1 + 1)) 2)))] ([⟨b250, [.int .i64 x366, .int .i64 x367], 2⟩, ⟨b236, [.int .i64 x368, .int .i64 x369], 2⟩, ⟨b221, [.int .i64 0, .int .i64 0], 2⟩, ⟨b220, [.int .i64 0, .int .i64 0], 2⟩] : List Own) := by
        exact hqf 7 [4, 5, 95, 97, 102, 107, 108, 110] _ _ _ [(4, .pointer (some ⟨b220, 0, none⟩)), (5, .pointer (some ⟨b221, 0, none⟩)), (95, .pointer (some ⟨b236, 0, none⟩)), (97, .int .i64 (wr64 (Int.tdiv (wr64 (w1 + 1)) 2))), (102, .int .i64 (wr64 (x369 - (wr64 (Int.tdiv (wr64 (w1 + 1)) 2))))), (107, .int .i64 (wr64 (x366 + (wr64 (Int.tdiv (wr64 (w1 + 1)) 2))))), (108, .pointer (some ⟨b250, 1, none⟩)), (110, .int .i64 (wr64 (Int.tdiv (wr64 (w1 + 1)) 2)))] (by kernel_rfl) (by kernel_rfl) hg_bef5
      have hg_be55 : G [true, false, true, false, true, false, true, false, false, true, true, true, true, true, false, true, false, false, false, false, false] [(4, .pointer (some ⟨b220, 0, none⟩)), (5, .pointer (some ⟨b221, 0, none⟩)), (95, .pointer (some ⟨b236, 0, none⟩)), (97, .int .i64 (wr64 (Int.tdiv (wr64 (w1 + 1)) 2))), (99, .pointer (some ⟨b236, 1, none⟩)), (101, .int .i64 (wr64 (Int.tdiv (wr64 (w1 + 1)) 2))), (107, .int .i64 (wr64 (x366 + (wr64 (Int.tdiv (wr64 (w1 + 1)) 2))))), (108, .pointer (some ⟨b250, 1, none⟩)), (110, .int .i64 (wr64 (Int.tdiv (wr64 (w1 + 1)) 2)))] ([⟨b250, [.int .i64 x366, .int .i64 x367], 2⟩, ⟨b236, [.int .i64 x368, .int .i64 x369], 2⟩, ⟨b221, [.int .i64 0, .int .i64 0], 2⟩, ⟨b220, [.int .i64 0, .int .i64 0], 2⟩] : List Own) := by
        refine hstep [1, 5, 14] _ _ _ (by kernel_rfl) (List.cons_ne_nil _ _) ⟨?_, ?_, ?_, trivial⟩
        · show T _ _ _ _ _ _ _ _
          refine t_v (.ld1 rfl rfl rfl (.at 1 rfl rfl)) ?_
          refine t_keep [4, 5, 96, 97, 99, 101, 107, 108, 110] (σ' := [(4, .pointer (some ⟨b220, 0, none⟩)), (5, .pointer (some ⟨b221, 0, none⟩)), (96, .int .i64 x368), (97, .int .i64 (wr64 (Int.tdiv (wr64 (w1 + 1)) 2))), (99, .pointer (some ⟨b236, 1, none⟩)), (101, .int .i64 (wr64 (Int.tdiv (wr64 (w1 + 1)) 2))), (107, .int .i64 (wr64 (x366 + (wr64 (Int.tdiv (wr64 (w1 + 1)) 2))))), (108, .pointer (some ⟨b250, 1, none⟩)), (110, .int .i64 (wr64 (Int.tdiv (wr64 (w1 + 1)) 2)))]) (by kernel_rfl) ?_
          refine t_end ?_
          exact ⟨hg_be57, rfl⟩
        · show T _ _ _ _ _ _ _ _
          refine t_v (.ld1 rfl rfl rfl (.at 1 rfl rfl)) ?_
          refine t_keep [4, 5, 95, 97, 100, 101, 107, 108, 110] (σ' := [(4, .pointer (some ⟨b220, 0, none⟩)), (5, .pointer (some ⟨b221, 0, none⟩)), (95, .pointer (some ⟨b236, 0, none⟩)), (97, .int .i64 (wr64 (Int.tdiv (wr64 (w1 + 1)) 2))), (100, .int .i64 x369), (101, .int .i64 (wr64 (Int.tdiv (wr64 (w1 + 1)) 2))), (107, .int .i64 (wr64 (x366 + (wr64 (Int.tdiv (wr64 (w1 + 1)) 2))))), (108, .pointer (some ⟨b250, 1, none⟩)), (110, .int .i64 (wr64 (Int.tdiv (wr64 (w1 + 1)) 2)))]) (by kernel_rfl) ?_
          refine t_end ?_
          exact ⟨hg_be75, rfl⟩
        · show T _ _ _ _ _ _ _ _
          refine t_v (.ld1 rfl rfl rfl (.at 0 rfl rfl)) ?_
          refine t_keep [4, 5, 95, 97, 99, 101, 107, 109, 110] (σ' := [(4, .pointer (some ⟨b220, 0, none⟩)), (5, .pointer (some ⟨b221, 0, none⟩)), (95, .pointer (some ⟨b236, 0, none⟩)), (97, .int .i64 (wr64 (Int.tdiv (wr64 (w1 + 1)) 2))), (99, .pointer (some ⟨b236, 1, none⟩)), (101, .int .i64 (wr64 (Int.tdiv (wr64 (w1 + 1)) 2))), (107, .int .i64 (wr64 (x366 + (wr64 (Int.tdiv (wr64 (w1 + 1)) 2))))), (109, .int .i64 x367), (110, .int .i64 (wr64 (Int.tdiv (wr64 (w1 + 1)) 2)))]) (by kernel_rfl) ?_
          refine t_end ?_
          exact ⟨hg_fe55, rfl⟩
      have hg_aaf5 : G [true, false, true, false, true, true, true, true, false, true, false, true, false, true, false, true, false, false, false, false, false] [(4, .pointer (some ⟨b220, 0, none⟩)), (5, .pointer (some ⟨b221, 0, none⟩)), (95, .pointer (some ⟨b236, 0, none⟩)), (97, .int .i64 (wr64 (Int.tdiv (wr64 (w1 + 1)) 2))), (102, .int .i64 (wr64 (x369 - (wr64 (Int.tdiv (wr64 (w1 + 1)) 2))))), (104, .pointer (some ⟨b250, 0, none⟩)), (106, .int .i64 (wr64 (Int.tdiv (wr64 (w1 + 1)) 2))), (108, .pointer (some ⟨b250, 1, none⟩)), (110, .int .i64 (wr64 (Int.tdiv (wr64 (w1 + 1)) 2)))] ([⟨b250, [.int .i64 x366, .int .i64 x367], 2⟩, ⟨b236, [.int .i64 x368, .int .i64 x369], 2⟩, ⟨b221, [.int .i64 0, .int .i64 0], 2⟩, ⟨b220, [.int .i64 0, .int .i64 0], 2⟩] : List Own) := by
        refine hstep [1, 10, 14] _ _ _ (by kernel_rfl) (List.cons_ne_nil _ _) ⟨?_, ?_, ?_, trivial⟩
        · show T _ _ _ _ _ _ _ _
          refine t_v (.ld1 rfl rfl rfl (.at 1 rfl rfl)) ?_
          refine t_keep [4, 5, 96, 97, 102, 104, 106, 108, 110] (σ' := [(4, .pointer (some ⟨b220, 0, none⟩)), (5, .pointer (some ⟨b221, 0, none⟩)), (96, .int .i64 x368), (97, .int .i64 (wr64 (Int.tdiv (wr64 (w1 + 1)) 2))), (102, .int .i64 (wr64 (x369 - (wr64 (Int.tdiv (wr64 (w1 + 1)) 2))))), (104, .pointer (some ⟨b250, 0, none⟩)), (106, .int .i64 (wr64 (Int.tdiv (wr64 (w1 + 1)) 2))), (108, .pointer (some ⟨b250, 1, none⟩)), (110, .int .i64 (wr64 (Int.tdiv (wr64 (w1 + 1)) 2)))]) (by kernel_rfl) ?_
          refine t_end ?_
          exact ⟨hg_aaf7, rfl⟩
        · show T _ _ _ _ _ _ _ _
          refine t_v (.ld1 rfl rfl rfl (.at 0 rfl rfl)) ?_
          refine t_keep [4, 5, 95, 97, 102, 105, 106, 108, 110] (σ' := [(4, .pointer (some ⟨b220, 0, none⟩)), (5, .pointer (some ⟨b221, 0, none⟩)), (95, .pointer (some ⟨b236, 0, none⟩)), (97, .int .i64 (wr64 (Int.tdiv (wr64 (w1 + 1)) 2))), (102, .int .i64 (wr64 (x369 - (wr64 (Int.tdiv (wr64 (w1 + 1)) 2))))), (105, .int .i64 x366), (106, .int .i64 (wr64 (Int.tdiv (wr64 (w1 + 1)) 2))), (108, .pointer (some ⟨b250, 1, none⟩)), (110, .int .i64 (wr64 (Int.tdiv (wr64 (w1 + 1)) 2)))]) (by kernel_rfl) ?_
          refine t_end ?_
          exact ⟨hg_aef5, rfl⟩
        · show T _ _ _ _ _ _ _ _
          refine t_v (.ld1 rfl rfl rfl (.at 0 rfl rfl)) ?_
          refine t_keep [4, 5, 95, 97, 102, 104, 106, 109, 110] (σ' := [(4, .pointer (some ⟨b220, 0, none⟩)), (5, .pointer (some ⟨b221, 0, none⟩)), (95, .pointer (some ⟨b236, 0, none⟩)), (97, .int .i64 (wr64 (Int.tdiv (wr64 (w1 + 1)) 2))), (102, .int .i64 (wr64 (x369 - (wr64 (Int.tdiv (wr64 (w1 + 1)) 2))))), (104, .pointer (some ⟨b250, 0, none⟩)), (106, .int .i64 (wr64 (Int.tdiv (wr64 (w1 + 1)) 2))), (109, .int .i64 x367), (110, .int .i64 (wr64 (Int.tdiv (wr64 (w1 + 1)) 2)))]) (by kernel_rfl) ?_
          refine t_end ?_
          exact ⟨hg_eaf5, rfl⟩
      have hg_aa5f : G [true, true, true, true, true, false, true, false, false, true, false, true, false, true, false, true, false, false, false, false, false] [(4, .pointer (some ⟨b220, 0, none⟩)), (5, .pointer (some ⟨b221, 0, none⟩)), (98, .int .i64 (wr64 (x368 - (wr64 (Int.tdiv (wr64 (w1 + 1)) 2))))), (99, .pointer (some ⟨b236, 1, none⟩)), (101, .int .i64 (wr64 (Int.tdiv (wr64 (w1 + 1)) 2))), (104, .pointer (some ⟨b250, 0, none⟩)), (106, .int .i64 (wr64 (Int.tdiv (wr64 (w1 + 1)) 2))), (108, .pointer (some ⟨b250, 1, none⟩)), (110, .int .i64 (wr64 (Int.tdiv (wr64 (w1 + 1)) 2)))] ([⟨b250, [.int .i64 x366, .int .i64 x367], 2⟩, ⟨b236, [.int .i64 x368, .int .i64 x369], 2⟩, ⟨b221, [.int .i64 0, .int .i64 0], 2⟩, ⟨b220, [.int .i64 0, .int .i64 0], 2⟩] : List Own) := by
        refine hstep [5, 10, 14] _ _ _ (by kernel_rfl) (List.cons_ne_nil _ _) ⟨?_, ?_, ?_, trivial⟩
        · show T _ _ _ _ _ _ _ _
          refine t_v (.ld1 rfl rfl rfl (.at 1 rfl rfl)) ?_
          refine t_keep [4, 5, 98, 100, 101, 104, 106, 108, 110] (σ' := [(4, .pointer (some ⟨b220, 0, none⟩)), (5, .pointer (some ⟨b221, 0, none⟩)), (98, .int .i64 (wr64 (x368 - (wr64 (Int.tdiv (wr64 (w1 + 1)) 2))))), (100, .int .i64 x369), (101, .int .i64 (wr64 (Int.tdiv (wr64 (w1 + 1)) 2))), (104, .pointer (some ⟨b250, 0, none⟩)), (106, .int .i64 (wr64 (Int.tdiv (wr64 (w1 + 1)) 2))), (108, .pointer (some ⟨b250, 1, none⟩)), (110, .int .i64 (wr64 (Int.tdiv (wr64 (w1 + 1)) 2)))]) (by kernel_rfl) ?_
          refine t_end ?_
          exact ⟨hg_aa7f, rfl⟩
        · show T _ _ _ _ _ _ _ _
          refine t_v (.ld1 rfl rfl rfl (.at 0 rfl rfl)) ?_
          refine t_keep [4, 5, 98, 99, 101, 105, 106, 108, 110] (σ' := [(4, .pointer (some ⟨b220, 0, none⟩)), (5, .pointer (some ⟨b221, 0, none⟩)), (98, .int .i64 (wr64 (x368 - (wr64 (Int.tdiv (wr64 (w1 + 1)) 2))))), (99, .pointer (some ⟨b236, 1, none⟩)), (101, .int .i64 (wr64 (Int.tdiv (wr64 (w1 + 1)) 2))), (105, .int .i64 x366), (106, .int .i64 (wr64 (Int.tdiv (wr64 (w1 + 1)) 2))), (108, .pointer (some ⟨b250, 1, none⟩)), (110, .int .i64 (wr64 (Int.tdiv (wr64 (w1 + 1)) 2)))]) (by kernel_rfl) ?_
          refine t_end ?_
          exact ⟨hg_ae5f, rfl⟩
        · show T _ _ _ _ _ _ _ _
          refine t_v (.ld1 rfl rfl rfl (.at 0 rfl rfl)) ?_
          refine t_keep [4, 5, 98, 99, 101, 104, 106, 109, 110] (σ' := [(4, .pointer (some ⟨b220, 0, none⟩)), (5, .pointer (some ⟨b221, 0, none⟩)), (98, .int .i64 (wr64 (x368 - (wr64 (Int.tdiv (wr64 (w1 + 1)) 2))))), (99, .pointer (some ⟨b236, 1, none⟩)), (101, .int .i64 (wr64 (Int.tdiv (wr64 (w1 + 1)) 2))), (104, .pointer (some ⟨b250, 0, none⟩)), (106, .int .i64 (wr64 (Int.tdiv (wr64 (w1 + 1)) 2))), (109, .int .i64 x367), (110, .int .i64 (wr64 (Int.tdiv (wr64 (w1 + 1)) 2)))]) (by kernel_rfl) ?_
          refine t_end ?_
          exact ⟨hg_ea5f, rfl⟩
      have hg_1ea55 : G [true, false, true, false, true, false, true, false, false, true, false, true, false, true, true, true, true, false, false, false, false] [(4, .pointer (some ⟨b220, 0, none⟩)), (5, .pointer (some ⟨b221, 0, none⟩)), (95, .pointer (some ⟨b236, 0, none⟩)), (97, .int .i64 (wr64 (Int.tdiv (wr64 (w1 + 1)) 2))), (99, .pointer (some ⟨b236, 1, none⟩)), (101, .int .i64 (wr64 (Int.tdiv (wr64 (w1 + 1)) 2))), (104, .pointer (some ⟨b250, 0, none⟩)), (106, .int .i64 (wr64 (Int.tdiv (wr64 (w1 + 1)) 2))), (111, .int .i64 (wr64 (x367 + (wr64 (Int.tdiv (wr64 (w1 + 1)) 2)))))] ([⟨b250, [.int .i64 x366, .int .i64 x367], 2⟩, ⟨b236, [.int .i64 x368, .int .i64 x369], 2⟩, ⟨b221, [.int .i64 0, .int .i64 0], 2⟩, ⟨b220, [.int .i64 0, .int .i64 0], 2⟩] : List Own) := by
        refine hstep [1, 5, 10] _ _ _ (by kernel_rfl) (List.cons_ne_nil _ _) ⟨?_, ?_, ?_, trivial⟩
        · show T _ _ _ _ _ _ _ _
          refine t_v (.ld1 rfl rfl rfl (.at 1 rfl rfl)) ?_
          refine t_keep [4, 5, 96, 97, 99, 101, 104, 106, 111] (σ' := [(4, .pointer (some ⟨b220, 0, none⟩)), (5, .pointer (some ⟨b221, 0, none⟩)), (96, .int .i64 x368), (97, .int .i64 (wr64 (Int.tdiv (wr64 (w1 + 1)) 2))), (99, .pointer (some ⟨b236, 1, none⟩)), (101, .int .i64 (wr64 (Int.tdiv (wr64 (w1 + 1)) 2))), (104, .pointer (some ⟨b250, 0, none⟩)), (106, .int .i64 (wr64 (Int.tdiv (wr64 (w1 + 1)) 2))), (111, .int .i64 (wr64 (x367 + (wr64 (Int.tdiv (wr64 (w1 + 1)) 2)))))]) (by kernel_rfl) ?_
          refine t_end ?_
          exact ⟨hg_1ea57, rfl⟩
        · show T _ _ _ _ _ _ _ _
          refine t_v (.ld1 rfl rfl rfl (.at 1 rfl rfl)) ?_
          refine t_keep [4, 5, 95, 97, 100, 101, 104, 106, 111] (σ' := [(4, .pointer (some ⟨b220, 0, none⟩)), (5, .pointer (some ⟨b221, 0, none⟩)), (95, .pointer (some ⟨b236, 0, none⟩)), (97, .int .i64 (wr64 (Int.tdiv (wr64 (w1 + 1)) 2))), (100, .int .i64 x369), (101, .int .i64 (wr64 (Int.tdiv (wr64 (w1 + 1)) 2))), (104, .pointer (some ⟨b250, 0, none⟩)), (106, .int .i64 (wr64 (Int.tdiv (wr64 (w1 + 1)) 2))), (111, .int .i64 (wr64 (x367 + (wr64 (Int.tdiv (wr64 (w1 + 1)) 2)))))]) (by kernel_rfl) ?_
          refine t_end ?_
          exact ⟨hg_1ea75, rfl⟩
        · show T _ _ _ _ _ _ _ _
          refine t_v (.ld1 rfl rfl rfl (.at 0 rfl rfl)) ?_
          refine t_keep [4, 5, 95, 97, 99, 101, 105, 106, 111] (σ' := [(4, .pointer (some ⟨b220, 0, none⟩)), (5, .pointer (some ⟨b221, 0, none⟩)), (95, .pointer (some ⟨b236, 0, none⟩)), (97, .int .i64 (wr64 (Int.tdiv (wr64 (w1 + 1)) 2))), (99, .pointer (some ⟨b236, 1, none⟩)), (101, .int .i64 (wr64 (Int.tdiv (wr64 (w1 + 1)) 2))), (105, .int .i64 x366), (106, .int .i64 (wr64 (Int.tdiv (wr64 (w1 + 1)) 2))), (111, .int .i64 (wr64 (x367 + (wr64 (Int.tdiv (wr64 (w1 + 1)) 2)))))]) (by kernel_rfl) ?_
          refine t_end ?_
          exact ⟨hg_1ee55, rfl⟩
      have hg_ae55 : G [true, false, true, false, true, false, true, false, false, true, true, true, false, true, false, true, false, false, false, false, false] [(4, .pointer (some ⟨b220, 0, none⟩)), (5, .pointer (some ⟨b221, 0, none⟩)), (95, .pointer (some ⟨b236, 0, none⟩)), (97, .int .i64 (wr64 (Int.tdiv (wr64 (w1 + 1)) 2))), (99, .pointer (some ⟨b236, 1, none⟩)), (101, .int .i64 (wr64 (Int.tdiv (wr64 (w1 + 1)) 2))), (105, .int .i64 x366), (106, .int .i64 (wr64 (Int.tdiv (wr64 (w1 + 1)) 2))), (108, .pointer (some ⟨b250, 1, none⟩)), (110, .int .i64 (wr64 (Int.tdiv (wr64 (w1 + 1)) 2)))] ([⟨b250, [.int .i64 x366, .int .i64 x367], 2⟩, ⟨b236, [.int .i64 x368, .int .i64 x369], 2⟩, ⟨b221, [.int .i64 0, .int .i64 0], 2⟩, ⟨b220, [.int .i64 0, .int .i64 0], 2⟩] : List Own) := by
        exact hqf 12 [4, 5, 95, 97, 99, 101, 107, 108, 110] _ _ _ [(4, .pointer (some ⟨b220, 0, none⟩)), (5, .pointer (some ⟨b221, 0, none⟩)), (95, .pointer (some ⟨b236, 0, none⟩)), (97, .int .i64 (wr64 (Int.tdiv (wr64 (w1 + 1)) 2))), (99, .pointer (some ⟨b236, 1, none⟩)), (101, .int .i64 (wr64 (Int.tdiv (wr64 (w1 + 1)) 2))), (107, .int .i64 (wr64 (x366 + (wr64 (Int.tdiv (wr64 (w1 + 1)) 2))))), (108, .pointer (some ⟨b250, 1, none⟩)), (110, .int .i64 (wr64 (Int.tdiv (wr64 (w1 + 1)) 2)))] (by kernel_rfl) (by kernel_rfl) hg_be55
      have hg_aa57 : G [true, true, true, false, true, false, true, false, false, true, false, true, false, true, false, true, false, false, false, false, false] [(4, .pointer (some ⟨b220, 0, none⟩)), (5, .pointer (some ⟨b221, 0, none⟩)), (96, .int .i64 x368), (97, .int .i64 (wr64 (Int.tdiv (wr64 (w1 + 1)) 2))), (99, .pointer (some ⟨b236, 1, none⟩)), (101, .int .i64 (wr64 (Int.tdiv (wr64 (w1 + 1)) 2))), (104, .pointer (some ⟨b250, 0, none⟩)), (106, .int .i64 (wr64 (Int.tdiv (wr64 (w1 + 1)) 2))), (108, .pointer (some ⟨b250, 1, none⟩)), (110, .int .i64 (wr64 (Int.tdiv (wr64 (w1 + 1)) 2)))] ([⟨b250, [.int .i64 x366, .int .i64 x367], 2⟩, ⟨b236, [.int .i64 x368, .int .i64 x369], 2⟩, ⟨b221, [.int .i64 0, .int .i64 0], 2⟩, ⟨b220, [.int .i64 0, .int .i64 0], 2⟩] : List Own) := by
        exact hqf 3 [4, 5, 98, 99, 101, 104, 106, 108, 110] _ _ _ [(4, .pointer (some ⟨b220, 0, none⟩)), (5, .pointer (some ⟨b221, 0, none⟩)), (98, .int .i64 (wr64 (x368 - (wr64 (Int.tdiv (wr64 (w1 + 1)) 2))))), (99, .pointer (some ⟨b236, 1, none⟩)), (101, .int .i64 (wr64 (Int.tdiv (wr64 (w1 + 1)) 2))), (104, .pointer (some ⟨b250, 0, none⟩)), (106, .int .i64 (wr64 (Int.tdiv (wr64 (w1 + 1)) 2))), (108, .pointer (some ⟨b250, 1, none⟩)), (110, .int .i64 (wr64 (Int.tdiv (wr64 (w1 + 1)) 2)))] (by kernel_rfl) (by kernel_rfl) hg_aa5f
      have hg_aa75 : G [true, false, true, false, true, true, true, false, false, true, false, true, false, true, false, true, false, false, false, false, false] [(4, .pointer (some ⟨b220, 0, none⟩)), (5, .pointer (some ⟨b221, 0, none⟩)), (95, .pointer (some ⟨b236, 0, none⟩)), (97, .int .i64 (wr64 (Int.tdiv (wr64 (w1 + 1)) 2))), (100, .int .i64 x369), (101, .int .i64 (wr64 (Int.tdiv (wr64 (w1 + 1)) 2))), (104, .pointer (some ⟨b250, 0, none⟩)), (106, .int .i64 (wr64 (Int.tdiv (wr64 (w1 + 1)) 2))), (108, .pointer (some ⟨b250, 1, none⟩)), (110, .int .i64 (wr64 (Int.tdiv (wr64 (w1 + 1)) 2)))] ([⟨b250, [.int .i64 x366, .int .i64 x367], 2⟩, ⟨b236, [.int .i64 x368, .int .i64 x369], 2⟩, ⟨b221, [.int .i64 0, .int .i64 0], 2⟩, ⟨b220, [.int .i64 0, .int .i64 0], 2⟩] : List Own) := by
        exact hqf 7 [4, 5, 95, 97, 102, 104, 106, 108, 110] _ _ _ [(4, .pointer (some ⟨b220, 0, none⟩)), (5, .pointer (some ⟨b221, 0, none⟩)), (95, .pointer (some ⟨b236, 0, none⟩)), (97, .int .i64 (wr64 (Int.tdiv (wr64 (w1 + 1)) 2))), (102, .int .i64 (wr64 (x369 - (wr64 (Int.tdiv (wr64 (w1 + 1)) 2))))), (104, .pointer (some ⟨b250, 0, none⟩)), (106, .int .i64 (wr64 (Int.tdiv (wr64 (w1 + 1)) 2))), (108, .pointer (some ⟨b250, 1, none⟩)), (110, .int .i64 (wr64 (Int.tdiv (wr64 (w1 + 1)) 2)))] (by kernel_rfl) (by kernel_rfl) hg_aaf5
      have hg_ea55 : G [true, false, true, false, true, false, true, false, false, true, false, true, false, true, true, true, false, false, false, false, false] [(4, .pointer (some ⟨b220, 0, none⟩)), (5, .pointer (some ⟨b221, 0, none⟩)), (95, .pointer (some ⟨b236, 0, none⟩)), (97, .int .i64 (wr64 (Int.tdiv (wr64 (w1 + 1)) 2))), (99, .pointer (some ⟨b236, 1, none⟩)), (101, .int .i64 (wr64 (Int.tdiv (wr64 (w1 + 1)) 2))), (104, .pointer (some ⟨b250, 0, none⟩)), (106, .int .i64 (wr64 (Int.tdiv (wr64 (w1 + 1)) 2))), (109, .int .i64 x367), (110, .int .i64 (wr64 (Int.tdiv (wr64 (w1 + 1)) 2)))] ([⟨b250, [.int .i64 x366, .int .i64 x367], 2⟩, ⟨b236, [.int .i64 x368, .int .i64 x369], 2⟩, ⟨b221, [.int .i64 0, .int .i64 0], 2⟩, ⟨b220, [.int .i64 0, .int .i64 0], 2⟩] : List Own) := by
        exact hqf 16 [4, 5, 95, 97, 99, 101, 104, 106, 111] _ _ _ [(4, .pointer (some ⟨b220, 0, none⟩)), (5, .pointer (some ⟨b221, 0, none⟩)), (95, .pointer (some ⟨b236, 0, none⟩)), (97, .int .i64 (wr64 (Int.tdiv (wr64 (w1 + 1)) 2))), (99, .pointer (some ⟨b236, 1, none⟩)), (101, .int .i64 (wr64 (Int.tdiv (wr64 (w1 + 1)) 2))), (104, .pointer (some ⟨b250, 0, none⟩)), (106, .int .i64 (wr64 (Int.tdiv (wr64 (w1 + 1)) 2))), (111, .int .i64 (wr64 (x367 + (wr64 (Int.tdiv (wr64 (w1 + 1)) 2)))))] (by kernel_rfl) (by kernel_rfl) hg_1ea55
      have hg_aa55 : G [true, false, true, false, true, false, true, false, false, true, false, true, false, true, false, true, false, false, false, false, false] [(4, .pointer (some ⟨b220, 0, none⟩)), (5, .pointer (some ⟨b221, 0, none⟩)), (95, .pointer (some ⟨b236, 0, none⟩)), (97, .int .i64 (wr64 (Int.tdiv (wr64 (w1 + 1)) 2))), (99, .pointer (some ⟨b236, 1, none⟩)), (101, .int .i64 (wr64 (Int.tdiv (wr64 (w1 + 1)) 2))), (104, .pointer (some ⟨b250, 0, none⟩)), (106, .int .i64 (wr64 (Int.tdiv (wr64 (w1 + 1)) 2))), (108, .pointer (some ⟨b250, 1, none⟩)), (110, .int .i64 (wr64 (Int.tdiv (wr64 (w1 + 1)) 2)))] ([⟨b250, [.int .i64 x366, .int .i64 x367], 2⟩, ⟨b236, [.int .i64 x368, .int .i64 x369], 2⟩, ⟨b221, [.int .i64 0, .int .i64 0], 2⟩, ⟨b220, [.int .i64 0, .int .i64 0], 2⟩] : List Own) := by
        refine hstep [1, 5, 10, 14] _ _ _ (by kernel_rfl) (List.cons_ne_nil _ _) ⟨?_, ?_, ?_, ?_, trivial⟩
        · show T _ _ _ _ _ _ _ _
          refine t_v (.ld1 rfl rfl rfl (.at 1 rfl rfl)) ?_
          refine t_keep [4, 5, 96, 97, 99, 101, 104, 106, 108, 110] (σ' := [(4, .pointer (some ⟨b220, 0, none⟩)), (5, .pointer (some ⟨b221, 0, none⟩)), (96, .int .i64 x368), (97, .int .i64 (wr64 (Int.tdiv (wr64 (w1 + 1)) 2))), (99, .pointer (some ⟨b236, 1, none⟩)), (101, .int .i64 (wr64 (Int.tdiv (wr64 (w1 + 1)) 2))), (104, .pointer (some ⟨b250, 0, none⟩)), (106, .int .i64 (wr64 (Int.tdiv (wr64 (w1 + 1)) 2))), (108, .pointer (some ⟨b250, 1, none⟩)), (110, .int .i64 (wr64 (Int.tdiv (wr64 (w1 + 1)) 2)))]) (by kernel_rfl) ?_
          refine t_end ?_
          exact ⟨hg_aa57, rfl⟩
        · show T _ _ _ _ _ _ _ _
          refine t_v (.ld1 rfl rfl rfl (.at 1 rfl rfl)) ?_
          refine t_keep [4, 5, 95, 97, 100, 101, 104, 106, 108, 110] (σ' := [(4, .pointer (some ⟨b220, 0, none⟩)), (5, .pointer (some ⟨b221, 0, none⟩)), (95, .pointer (some ⟨b236, 0, none⟩)), (97, .int .i64 (wr64 (Int.tdiv (wr64 (w1 + 1)) 2))), (100, .int .i64 x369), (101, .int .i64 (wr64 (Int.tdiv (wr64 (w1 + 1)) 2))), (104, .pointer (some ⟨b250, 0, none⟩)), (106, .int .i64 (wr64 (Int.tdiv (wr64 (w1 + 1)) 2))), (108, .pointer (some ⟨b250, 1, none⟩)), (110, .int .i64 (wr64 (Int.tdiv (wr64 (w1 + 1)) 2)))]) (by kernel_rfl) ?_
          refine t_end ?_
          exact ⟨hg_aa75, rfl⟩
        · show T _ _ _ _ _ _ _ _
          refine t_v (.ld1 rfl rfl rfl (.at 0 rfl rfl)) ?_
          refine t_keep [4, 5, 95, 97, 99, 101, 105, 106, 108, 110] (σ' := [(4, .pointer (some ⟨b220, 0, none⟩)), (5, .pointer (some ⟨b221, 0, none⟩)), (95, .pointer (some ⟨b236, 0, none⟩)), (97, .int .i64 (wr64 (Int.tdiv (wr64 (w1 + 1)) 2))), (99, .pointer (some ⟨b236, 1, none⟩)), (101, .int .i64 (wr64 (Int.tdiv (wr64 (w1 + 1)) 2))), (105, .int .i64 x366), (106, .int .i64 (wr64 (Int.tdiv (wr64 (w1 + 1)) 2))), (108, .pointer (some ⟨b250, 1, none⟩)), (110, .int .i64 (wr64 (Int.tdiv (wr64 (w1 + 1)) 2)))]) (by kernel_rfl) ?_
          refine t_end ?_
          exact ⟨hg_ae55, rfl⟩
        · show T _ _ _ _ _ _ _ _
          refine t_v (.ld1 rfl rfl rfl (.at 0 rfl rfl)) ?_
          refine t_keep [4, 5, 95, 97, 99, 101, 104, 106, 109, 110] (σ' := [(4, .pointer (some ⟨b220, 0, none⟩)), (5, .pointer (some ⟨b221, 0, none⟩)), (95, .pointer (some ⟨b236, 0, none⟩)), (97, .int .i64 (wr64 (Int.tdiv (wr64 (w1 + 1)) 2))), (99, .pointer (some ⟨b236, 1, none⟩)), (101, .int .i64 (wr64 (Int.tdiv (wr64 (w1 + 1)) 2))), (104, .pointer (some ⟨b250, 0, none⟩)), (106, .int .i64 (wr64 (Int.tdiv (wr64 (w1 + 1)) 2))), (109, .int .i64 x367), (110, .int .i64 (wr64 (Int.tdiv (wr64 (w1 + 1)) 2)))]) (by kernel_rfl) ?_
          refine t_end ?_
          exact ⟨hg_ea55, rfl⟩
      have hg_2a55 : G [true, false, true, false, true, false, true, false, false, true, false, true, false, true, false, false, false, false, false, false, false] [(4, .pointer (some ⟨b220, 0, none⟩)), (5, .pointer (some ⟨b221, 0, none⟩)), (10, .int .i64 (wr64 (Int.tdiv (wr64 (w1 + 1)) 2))), (95, .pointer (some ⟨b236, 0, none⟩)), (97, .int .i64 (wr64 (Int.tdiv (wr64 (w1 + 1)) 2))), (99, .pointer (some ⟨b236, 1, none⟩)), (101, .int .i64 (wr64 (Int.tdiv (wr64 (w1 + 1)) 2))), (104, .pointer (some ⟨b250, 0, none⟩)), (106, .int .i64 (wr64 (Int.tdiv (wr64 (w1 + 1)) 2))), (108, .pointer (some ⟨b250, 1, none⟩))] ([⟨b250, [.int .i64 x366, .int .i64 x367], 2⟩, ⟨b236, [.int .i64 x368, .int .i64 x369], 2⟩, ⟨b221, [.int .i64 0, .int .i64 0], 2⟩, ⟨b220, [.int .i64 0, .int .i64 0], 2⟩] : List Own) := by
        exact hqf 15 [4, 5, 95, 97, 99, 101, 104, 106, 108, 110] _ _ _ [(4, .pointer (some ⟨b220, 0, none⟩)), (5, .pointer (some ⟨b221, 0, none⟩)), (95, .pointer (some ⟨b236, 0, none⟩)), (97, .int .i64 (wr64 (Int.tdiv (wr64 (w1 + 1)) 2))), (99, .pointer (some ⟨b236, 1, none⟩)), (101, .int .i64 (wr64 (Int.tdiv (wr64 (w1 + 1)) 2))), (104, .pointer (some ⟨b250, 0, none⟩)), (106, .int .i64 (wr64 (Int.tdiv (wr64 (w1 + 1)) 2))), (108, .pointer (some ⟨b250, 1, none⟩)), (110, .int .i64 (wr64 (Int.tdiv (wr64 (w1 + 1)) 2)))] (by kernel_rfl) (by kernel_rfl) hg_aa55
      have hg_a55 : G [true, false, true, false, true, false, true, false, false, true, false, true, false, false, false, false, false, false, false, false, false] [(4, .pointer (some ⟨b220, 0, none⟩)), (5, .pointer (some ⟨b221, 0, none⟩)), (8, .pointer (some ⟨b250, 0, none⟩)), (10, .int .i64 (wr64 (Int.tdiv (wr64 (w1 + 1)) 2))), (95, .pointer (some ⟨b236, 0, none⟩)), (97, .int .i64 (wr64 (Int.tdiv (wr64 (w1 + 1)) 2))), (99, .pointer (some ⟨b236, 1, none⟩)), (101, .int .i64 (wr64 (Int.tdiv (wr64 (w1 + 1)) 2))), (104, .pointer (some ⟨b250, 0, none⟩)), (106, .int .i64 (wr64 (Int.tdiv (wr64 (w1 + 1)) 2)))] ([⟨b250, [.int .i64 x366, .int .i64 x367], 2⟩, ⟨b236, [.int .i64 x368, .int .i64 x369], 2⟩, ⟨b221, [.int .i64 0, .int .i64 0], 2⟩, ⟨b220, [.int .i64 0, .int .i64 0], 2⟩] : List Own) := by
        exact hqf 13 [4, 5, 10, 95, 97, 99, 101, 104, 106, 108] _ _ _ [(4, .pointer (some ⟨b220, 0, none⟩)), (5, .pointer (some ⟨b221, 0, none⟩)), (10, .int .i64 (wr64 (Int.tdiv (wr64 (w1 + 1)) 2))), (95, .pointer (some ⟨b236, 0, none⟩)), (97, .int .i64 (wr64 (Int.tdiv (wr64 (w1 + 1)) 2))), (99, .pointer (some ⟨b236, 1, none⟩)), (101, .int .i64 (wr64 (Int.tdiv (wr64 (w1 + 1)) 2))), (104, .pointer (some ⟨b250, 0, none⟩)), (106, .int .i64 (wr64 (Int.tdiv (wr64 (w1 + 1)) 2))), (108, .pointer (some ⟨b250, 1, none⟩))] (by kernel_rfl) (by kernel_rfl) hg_2a55
      have hg_255 : G [true, false, true, false, true, false, true, false, false, true, false, false, false, false, false, false, false, false, false, false, false] [(4, .pointer (some ⟨b220, 0, none⟩)), (5, .pointer (some ⟨b221, 0, none⟩)), (8, .pointer (some ⟨b250, 0, none⟩)), (10, .int .i64 (wr64 (Int.tdiv (wr64 (w1 + 1)) 2))), (95, .pointer (some ⟨b236, 0, none⟩)), (97, .int .i64 (wr64 (Int.tdiv (wr64 (w1 + 1)) 2))), (99, .pointer (some ⟨b236, 1, none⟩)), (101, .int .i64 (wr64 (Int.tdiv (wr64 (w1 + 1)) 2))), (104, .pointer (some ⟨b250, 0, none⟩))] ([⟨b250, [.int .i64 x366, .int .i64 x367], 2⟩, ⟨b236, [.int .i64 x368, .int .i64 x369], 2⟩, ⟨b221, [.int .i64 0, .int .i64 0], 2⟩, ⟨b220, [.int .i64 0, .int .i64 0], 2⟩] : List Own) := by
        exact hqf 11 [4, 5, 8, 10, 95, 97, 99, 101, 104, 106] _ _ _ [(4, .pointer (some ⟨b220, 0, none⟩)), (5, .pointer (some ⟨b221, 0, none⟩)), (8, .pointer (some ⟨b250, 0, none⟩)), (10, .int .i64 (wr64 (Int.tdiv (wr64 (w1 + 1)) 2))), (95, .pointer (some ⟨b236, 0, none⟩)), (97, .int .i64 (wr64 (Int.tdiv (wr64 (w1 + 1)) 2))), (99, .pointer (some ⟨b236, 1, none⟩)), (101, .int .i64 (wr64 (Int.tdiv (wr64 (w1 + 1)) 2))), (104, .pointer (some ⟨b250, 0, none⟩)), (106, .int .i64 (wr64 (Int.tdiv (wr64 (w1 + 1)) 2)))] (by kernel_rfl) (by kernel_rfl) hg_a55
      have hg_55 : G [true, false, true, false, true, false, true, false, false, false, false, false, false, false, false, false, false, false, false, false, false] [(4, .pointer (some ⟨b220, 0, none⟩)), (5, .pointer (some ⟨b221, 0, none⟩)), (8, .pointer (some ⟨b250, 0, none⟩)), (10, .int .i64 (wr64 (Int.tdiv (wr64 (w1 + 1)) 2))), (95, .pointer (some ⟨b236, 0, none⟩)), (97, .int .i64 (wr64 (Int.tdiv (wr64 (w1 + 1)) 2))), (99, .pointer (some ⟨b236, 1, none⟩)), (101, .int .i64 (wr64 (Int.tdiv (wr64 (w1 + 1)) 2)))] ([⟨b250, [.int .i64 x366, .int .i64 x367], 2⟩, ⟨b236, [.int .i64 x368, .int .i64 x369], 2⟩, ⟨b221, [.int .i64 0, .int .i64 0], 2⟩, ⟨b220, [.int .i64 0, .int .i64 0], 2⟩] : List Own) := by
        exact hqf 9 [4, 5, 8, 10, 95, 97, 99, 101, 104] _ _ _ [(4, .pointer (some ⟨b220, 0, none⟩)), (5, .pointer (some ⟨b221, 0, none⟩)), (8, .pointer (some ⟨b250, 0, none⟩)), (10, .int .i64 (wr64 (Int.tdiv (wr64 (w1 + 1)) 2))), (95, .pointer (some ⟨b236, 0, none⟩)), (97, .int .i64 (wr64 (Int.tdiv (wr64 (w1 + 1)) 2))), (99, .pointer (some ⟨b236, 1, none⟩)), (101, .int .i64 (wr64 (Int.tdiv (wr64 (w1 + 1)) 2))), (104, .pointer (some ⟨b250, 0, none⟩))] (by kernel_rfl) (by kernel_rfl) hg_255
      have hg_15 : G [true, false, true, false, true, false, false, false, false, false, false, false, false, false, false, false, false, false, false, false, false] [(4, .pointer (some ⟨b220, 0, none⟩)), (5, .pointer (some ⟨b221, 0, none⟩)), (8, .pointer (some ⟨b250, 0, none⟩)), (10, .int .i64 (wr64 (Int.tdiv (wr64 (w1 + 1)) 2))), (95, .pointer (some ⟨b236, 0, none⟩)), (97, .int .i64 (wr64 (Int.tdiv (wr64 (w1 + 1)) 2))), (99, .pointer (some ⟨b236, 1, none⟩))] ([⟨b250, [.int .i64 x366, .int .i64 x367], 2⟩, ⟨b236, [.int .i64 x368, .int .i64 x369], 2⟩, ⟨b221, [.int .i64 0, .int .i64 0], 2⟩, ⟨b220, [.int .i64 0, .int .i64 0], 2⟩] : List Own) := by
        exact hqf 6 [4, 5, 8, 10, 95, 97, 99, 101] _ _ _ [(4, .pointer (some ⟨b220, 0, none⟩)), (5, .pointer (some ⟨b221, 0, none⟩)), (8, .pointer (some ⟨b250, 0, none⟩)), (10, .int .i64 (wr64 (Int.tdiv (wr64 (w1 + 1)) 2))), (95, .pointer (some ⟨b236, 0, none⟩)), (97, .int .i64 (wr64 (Int.tdiv (wr64 (w1 + 1)) 2))), (99, .pointer (some ⟨b236, 1, none⟩)), (101, .int .i64 (wr64 (Int.tdiv (wr64 (w1 + 1)) 2)))] (by kernel_rfl) (by kernel_rfl) hg_55
      have hg_5 : G [true, false, true, false, false, false, false, false, false, false, false, false, false, false, false, false, false, false, false, false, false] [(4, .pointer (some ⟨b220, 0, none⟩)), (5, .pointer (some ⟨b221, 0, none⟩)), (7, .pointer (some ⟨b236, 0, none⟩)), (8, .pointer (some ⟨b250, 0, none⟩)), (10, .int .i64 (wr64 (Int.tdiv (wr64 (w1 + 1)) 2))), (95, .pointer (some ⟨b236, 0, none⟩)), (97, .int .i64 (wr64 (Int.tdiv (wr64 (w1 + 1)) 2)))] ([⟨b250, [.int .i64 x366, .int .i64 x367], 2⟩, ⟨b236, [.int .i64 x368, .int .i64 x369], 2⟩, ⟨b221, [.int .i64 0, .int .i64 0], 2⟩, ⟨b220, [.int .i64 0, .int .i64 0], 2⟩] : List Own) := by
        exact hqf 4 [4, 5, 8, 10, 95, 97, 99] _ _ _ [(4, .pointer (some ⟨b220, 0, none⟩)), (5, .pointer (some ⟨b221, 0, none⟩)), (8, .pointer (some ⟨b250, 0, none⟩)), (10, .int .i64 (wr64 (Int.tdiv (wr64 (w1 + 1)) 2))), (95, .pointer (some ⟨b236, 0, none⟩)), (97, .int .i64 (wr64 (Int.tdiv (wr64 (w1 + 1)) 2))), (99, .pointer (some ⟨b236, 1, none⟩))] (by kernel_rfl) (by kernel_rfl) hg_15
      have hg_1 : G [true, false, false, false, false, false, false, false, false, false, false, false, false, false, false, false, false, false, false, false, false] [(4, .pointer (some ⟨b220, 0, none⟩)), (5, .pointer (some ⟨b221, 0, none⟩)), (7, .pointer (some ⟨b236, 0, none⟩)), (8, .pointer (some ⟨b250, 0, none⟩)), (10, .int .i64 (wr64 (Int.tdiv (wr64 (w1 + 1)) 2))), (95, .pointer (some ⟨b236, 0, none⟩))] ([⟨b250, [.int .i64 x366, .int .i64 x367], 2⟩, ⟨b236, [.int .i64 x368, .int .i64 x369], 2⟩, ⟨b221, [.int .i64 0, .int .i64 0], 2⟩, ⟨b220, [.int .i64 0, .int .i64 0], 2⟩] : List Own) := by
        exact hqf 2 [4, 5, 7, 8, 10, 95, 97] _ _ _ [(4, .pointer (some ⟨b220, 0, none⟩)), (5, .pointer (some ⟨b221, 0, none⟩)), (7, .pointer (some ⟨b236, 0, none⟩)), (8, .pointer (some ⟨b250, 0, none⟩)), (10, .int .i64 (wr64 (Int.tdiv (wr64 (w1 + 1)) 2))), (95, .pointer (some ⟨b236, 0, none⟩)), (97, .int .i64 (wr64 (Int.tdiv (wr64 (w1 + 1)) 2)))] (by kernel_rfl) (by kernel_rfl) hg_5
      have hg_0 : G [false, false, false, false, false, false, false, false, false, false, false, false, false, false, false, false, false, false, false, false, false] [(4, .pointer (some ⟨b220, 0, none⟩)), (5, .pointer (some ⟨b221, 0, none⟩)), (7, .pointer (some ⟨b236, 0, none⟩)), (8, .pointer (some ⟨b250, 0, none⟩)), (10, .int .i64 (wr64 (Int.tdiv (wr64 (w1 + 1)) 2)))] ([⟨b250, [.int .i64 x366, .int .i64 x367], 2⟩, ⟨b236, [.int .i64 x368, .int .i64 x369], 2⟩, ⟨b221, [.int .i64 0, .int .i64 0], 2⟩, ⟨b220, [.int .i64 0, .int .i64 0], 2⟩] : List Own) := by
        exact hqf 0 [4, 5, 7, 8, 10, 95] _ _ _ [(4, .pointer (some ⟨b220, 0, none⟩)), (5, .pointer (some ⟨b221, 0, none⟩)), (7, .pointer (some ⟨b236, 0, none⟩)), (8, .pointer (some ⟨b250, 0, none⟩)), (10, .int .i64 (wr64 (Int.tdiv (wr64 (w1 + 1)) 2))), (95, .pointer (some ⟨b236, 0, none⟩))] (by kernel_rfl) (by kernel_rfl) hg_1
      exact hg_0

def plane_Sub.f (a0_X : Int) (a0_Y : Int) (b1_X : Int) (b1_Y : Int) : Option (Int × Int) := some (wr64 (a0_X - b1_X), wr64 (a0_Y - b1_Y))
theorem plane_Sub.ok {S : Seal} {a0_X : Int} {a0_Y : Int} {b1_X : Int} {b1_Y : Int} {r0_ : Int} {r1_ : Int}(e : plane_Sub.f a0_X a0_Y b1_X b1_Y = some (r0_, r1_)) :
    Cal Try.prog 116 [.agg #[.int .i64 a0_X, .int .i64 a0_Y], .agg #[.int .i64 b1_X, .int .i64 b1_Y]] [] S fun v H' S' => v = .agg #[.int .i64 r0_, .int .i64 r1_] ∧ H' = [] ∧ S' = S := by
  unfold plane_Sub.f at e
  refine cal_of (c := c116) (N := 16) Try.func116 rfl rfl (by kernel_rfl) (rs := [.cn 2 4]) (by kernel_rfl) (Nat.le_of_ble_eq_true rfl) ?_
  unfold c116
  refine w_seq ?_
  refine w_reg fun all => ?_
  refine t_a (.box rfl rfl rfl) fun b413 fb413 sb413 => ?_
  refine t_a (.box rfl rfl rfl) fun b414 fb414 sb414 => ?_
  refine t_a (.new rfl rfl) fun b415 fb415 sb415 => ?_
  refine t_keep [2, 3, 4] (σ' := [(2, .pointer (some ⟨b413, 0, none⟩)), (3, .pointer (some ⟨b414, 0, none⟩)), (4, .pointer (some ⟨b415, 0, none⟩))]) (by kernel_rfl) ?_
  refine t_end ?_
  show W _ _ _ _ _ _ _
  refine w_seq ?_
  refine w_reg fun all => ?_
  refine t_qz 1 [2, 3, 4, 5] (σ' := [(2, .pointer (some ⟨b413, 0, none⟩)), (3, .pointer (some ⟨b414, 0, none⟩)), (4, .pointer (some ⟨b415, 0, none⟩)), (5, .pointer (some ⟨b413, 0, none⟩))]) (by kernel_rfl) ?_
  refine t_v (.ld1 rfl rfl rfl (.at 2 rfl rfl)) ?_
  refine t_qz 1 [2, 3, 4, 6, 7] (σ' := [(2, .pointer (some ⟨b413, 0, none⟩)), (3, .pointer (some ⟨b414, 0, none⟩)), (4, .pointer (some ⟨b415, 0, none⟩)), (6, .int .i64 a0_X), (7, .pointer (some ⟨b414, 0, none⟩))]) (by kernel_rfl) ?_
  refine t_v (.ld1 rfl rfl rfl (.at 1 rfl rfl)) ?_
  refine t_qz 2 [3, 4, 9, 10] (σ' := [(3, .pointer (some ⟨b414, 0, none⟩)), (4, .pointer (some ⟨b415, 0, none⟩)), (9, .int .i64 (wr64 (a0_X - b1_X))), (10, .pointer (some ⟨b413, 1, none⟩))]) (by kernel_rfl) ?_
  refine t_v (.ld1 rfl rfl rfl (.at 2 rfl rfl)) ?_
  refine t_qz 1 [4, 9, 11, 12] (σ' := [(4, .pointer (some ⟨b415, 0, none⟩)), (9, .int .i64 (wr64 (a0_X - b1_X))), (11, .int .i64 a0_Y), (12, .pointer (some ⟨b414, 1, none⟩))]) (by kernel_rfl) ?_
  refine t_v (.ld1 rfl rfl rfl (.at 1 rfl rfl)) ?_
  refine t_qz 2 [4, 15] (σ' := [(4, .pointer (some ⟨b415, 0, none⟩)), (15, .agg #[.int .i64 (wr64 (a0_X - b1_X)), .int .i64 (wr64 (a0_Y - b1_Y))])]) (by kernel_rfl) ?_
  refine t_sti 0 (cs := [.int .i64 (wr64 (a0_X - b1_X)), .int .i64 (wr64 (a0_Y - b1_Y))]) rfl rfl rfl rfl rfl rfl rfl rfl rfl ?_
  refine t_keep [4] (σ' := [(4, .pointer (some ⟨b415, 0, none⟩))]) (by kernel_rfl) ?_
  refine t_end ?_
  show W _ _ _ _ _ _ _
  refine w_ret ?_
  simp only [Option.some.injEq, Prod.mk.injEq] at e
  obtain ⟨rfl, rfl⟩ := e
  exact ⟨[.agg #[.int .i64 (wr64 (a0_X - b1_X)), .int .i64 (wr64 (a0_Y - b1_Y))]], [], S, ⟨⟨_, _, _, rfl, .at 0 rfl rfl, rfl⟩, trivial⟩, VS.none, rfl, rfl, rfl⟩

def plane_Dot.f (a0_X : Int) (a0_Y : Int) (b1_X : Int) (b1_Y : Int) (p2_X : Int) (p2_Y : Int) : Option (Int) := (plane_Sub.f b1_X b1_Y a0_X a0_Y).bind fun (t413, t414) => ((plane_Sub.f p2_X p2_Y a0_X a0_Y).bind fun (t416, t417) => (some (wr64 ((wr64 (t413 * t416)) + (wr64 (t414 * t417))))))
theorem plane_Dot.ok {S : Seal} {a0_X : Int} {a0_Y : Int} {b1_X : Int} {b1_Y : Int} {p2_X : Int} {p2_Y : Int} {r0_ : Int}(e : plane_Dot.f a0_X a0_Y b1_X b1_Y p2_X p2_Y = some r0_) :
    Cal Try.prog 104 [.agg #[.int .i64 a0_X, .int .i64 a0_Y], .agg #[.int .i64 b1_X, .int .i64 b1_Y], .agg #[.int .i64 p2_X, .int .i64 p2_Y]] [] S fun v H' S' => v = .int .i64 r0_ ∧ H' = [] ∧ S' = S := by
  unfold plane_Dot.f at e
  refine cal_of (c := c104) (N := 26) Try.func104 rfl rfl (by kernel_rfl) (rs := [.t 6]) (by kernel_rfl) (Nat.le_of_ble_eq_true rfl) ?_
  unfold c104
  refine w_seq ?_
  refine w_reg fun all => ?_
  refine t_a (.box rfl rfl rfl) fun b410 fb410 sb410 => ?_
  refine t_a (.box rfl rfl rfl) fun b411 fb411 sb411 => ?_
  refine t_a (.box rfl rfl rfl) fun b412 fb412 sb412 => ?_
  refine t_qz 1 [3, 4, 5] (σ' := [(3, .pointer (some ⟨b410, 0, none⟩)), (4, .pointer (some ⟨b411, 0, none⟩)), (5, .pointer (some ⟨b412, 0, none⟩))]) (by kernel_rfl) ?_
  refine t_end ?_
  show W _ _ _ _ _ _ _
  refine w_seq ?_
  obtain ⟨⟨t413, t414⟩, h415, e⟩ := bind_of e
  try dsimp only at e
  obtain ⟨⟨t416, t417⟩, h418, e⟩ := bind_of e
  try dsimp only at e
  refine w_drwE mixed 8 [.v (.agg #[.int .i64 b1_X, .int .i64 b1_Y]), .v (.agg #[.int .i64 a0_X, .int .i64 a0_Y]), .v (.agg #[.int .i64 t413, .int .i64 t414]), .v (.agg #[.int .i64 p2_X, .int .i64 p2_Y]), .v (.agg #[.int .i64 a0_X, .int .i64 a0_Y]), .v (.agg #[.int .i64 t416, .int .i64 t417]), .a [.int .i64 0, .int .i64 0] ptrTo, .a [.int .i64 0, .int .i64 0] ptrTo] (by kernel_rfl) ?_ ?_
  · refine .cons (.ldn rfl rfl rfl (.at 1 rfl rfl)) ?_
    refine .cons (.ldn rfl rfl rfl (.at 2 rfl rfl)) ?_
    refine .cons (.call (vs := [.agg #[.int .i64 b1_X, .int .i64 b1_Y], .agg #[.int .i64 a0_X, .int .i64 a0_Y]]) rfl rfl (by kernel_rfl) (plane_Sub.ok h415)) ?_
    refine .cons (.ldn rfl rfl rfl (.at 0 rfl rfl)) ?_
    refine .cons (.ldn rfl rfl rfl (.at 2 rfl rfl)) ?_
    refine .cons (.call (vs := [.agg #[.int .i64 p2_X, .int .i64 p2_Y], .agg #[.int .i64 a0_X, .int .i64 a0_Y]]) rfl rfl (by kernel_rfl) (plane_Sub.ok h418)) ?_
    refine .cons (.new rfl rfl) ?_
    refine .cons (.new rfl rfl) ?_
    exact .nil
  refine fk_q 6 [11, 14] (σ' := [(11, .agg #[.int .i64 t413, .int .i64 t414]), (14, .agg #[.int .i64 t416, .int .i64 t417])]) t_more (by kernel_rfl) ?_
  refine fk_a fun b419 fb419 sb419 => ?_
  refine fk_a fun b420 fb420 sb420 => ?_
  refine fk_nil fun all => ?_
  refine t_sti 1 (cs := [.int .i64 t413, .int .i64 t414]) rfl rfl rfl rfl rfl rfl rfl rfl rfl ?_
  refine t_sti 0 (cs := [.int .i64 t416, .int .i64 t417]) rfl rfl rfl rfl rfl rfl rfl rfl rfl ?_
  refine t_keep [7, 8] (σ' := [(7, .pointer (some ⟨b419, 0, none⟩)), (8, .pointer (some ⟨b420, 0, none⟩))]) (by kernel_rfl) ?_
  refine t_end ?_
  show W _ _ _ _ _ _ _
  refine w_seq ?_
  refine w_reg fun all => ?_
  refine t_qz 1 [7, 8, 15] (σ' := [(7, .pointer (some ⟨b419, 0, none⟩)), (8, .pointer (some ⟨b420, 0, none⟩)), (15, .pointer (some ⟨b419, 0, none⟩))]) (by kernel_rfl) ?_
  refine t_v (.ld1 rfl rfl rfl (.at 1 rfl rfl)) ?_
  refine t_qz 1 [7, 8, 16, 17] (σ' := [(7, .pointer (some ⟨b419, 0, none⟩)), (8, .pointer (some ⟨b420, 0, none⟩)), (16, .int .i64 t413), (17, .pointer (some ⟨b420, 0, none⟩))]) (by kernel_rfl) ?_
  refine t_v (.ld1 rfl rfl rfl (.at 0 rfl rfl)) ?_
  refine t_qz 2 [8, 19, 20] (σ' := [(8, .pointer (some ⟨b420, 0, none⟩)), (19, .int .i64 (wr64 (t413 * t416))), (20, .pointer (some ⟨b419, 1, none⟩))]) (by kernel_rfl) ?_
  refine t_v (.ld1 rfl rfl rfl (.at 1 rfl rfl)) ?_
  refine t_qz 1 [19, 21, 22] (σ' := [(19, .int .i64 (wr64 (t413 * t416))), (21, .int .i64 t414), (22, .pointer (some ⟨b420, 1, none⟩))]) (by kernel_rfl) ?_
  refine t_v (.ld1 rfl rfl rfl (.at 0 rfl rfl)) ?_
  refine t_qz 3 [6] (σ' := [(6, .int .i64 (wr64 ((wr64 (t413 * t416)) + (wr64 (t414 * t417)))))]) (by kernel_rfl) ?_
  refine t_end ?_
  show W _ _ _ _ _ _ _
  refine w_ret ?_
  obtain rfl := Option.some.inj e
  exact ⟨[.int .i64 (wr64 ((wr64 (t413 * t416)) + (wr64 (t414 * t417))))], [], S, ⟨rfl, trivial⟩, VS.none, rfl, rfl, rfl⟩

def plane_Len2.f (a0_X : Int) (a0_Y : Int) (b1_X : Int) (b1_Y : Int) : Option (Int) := (plane_Dot.f a0_X a0_Y b1_X b1_Y b1_X b1_Y).bind fun t425 => (some t425)
theorem plane_Len2.ok {S : Seal} {a0_X : Int} {a0_Y : Int} {b1_X : Int} {b1_Y : Int} {r0_ : Int}(e : plane_Len2.f a0_X a0_Y b1_X b1_Y = some r0_) :
    Cal Try.prog 90 [.agg #[.int .i64 a0_X, .int .i64 a0_Y], .agg #[.int .i64 b1_X, .int .i64 b1_Y]] [] S fun v H' S' => v = .int .i64 r0_ ∧ H' = [] ∧ S' = S := by
  unfold plane_Len2.f at e
  refine cal_of (c := c90) (N := 9) Try.func90 rfl rfl (by kernel_rfl) (rs := [.t 4]) (by kernel_rfl) (Nat.le_of_ble_eq_true rfl) ?_
  unfold c90
  refine w_seq ?_
  refine w_reg fun all => ?_
  refine t_a (.box rfl rfl rfl) fun b423 fb423 sb423 => ?_
  refine t_a (.box rfl rfl rfl) fun b424 fb424 sb424 => ?_
  refine t_qz 1 [2, 3] (σ' := [(2, .pointer (some ⟨b423, 0, none⟩)), (3, .pointer (some ⟨b424, 0, none⟩))]) (by kernel_rfl) ?_
  refine t_end ?_
  show W _ _ _ _ _ _ _
  refine w_seq ?_
  refine w_reg fun all => ?_
  refine t_v (.ldn rfl rfl rfl (.at 1 rfl rfl)) ?_
  refine t_v (.ldn rfl rfl rfl (.at 0 rfl rfl)) ?_
  refine t_v (.ldn rfl rfl rfl (.at 0 rfl rfl)) ?_
  obtain ⟨t425, h426, e⟩ := bind_of e
  refine t_v (.call (vs := [.agg #[.int .i64 a0_X, .int .i64 a0_Y], .agg #[.int .i64 b1_X, .int .i64 b1_Y], .agg #[.int .i64 b1_X, .int .i64 b1_Y]]) rfl rfl (by kernel_rfl) (plane_Dot.ok h426)) ?_
  refine t_qz 1 [4] (σ' := [(4, .int .i64 t425)]) (by kernel_rfl) ?_
  refine t_end ?_
  show W _ _ _ _ _ _ _
  refine w_ret ?_
  obtain rfl := Option.some.inj e
  exact ⟨[.int .i64 t425], [], S, ⟨rfl, trivial⟩, VS.none, rfl, rfl, rfl⟩

def plane_within_1.f (n0 : Int) : Option (Int) := some (wru64 (mx n0 (wr64 (0 - n0))))
theorem plane_within_1.ok {S : Seal} {n0 : Int} {r0_ : Int}(e : plane_within_1.f n0 = some r0_) :
    Cal Try.prog 117 [.int .i64 n0] [] S fun v H' S' => v = .int .u64 r0_ ∧ H' = [] ∧ S' = S := by
  unfold plane_within_1.f at e
  refine cal_of (c := c117) (N := 8) Try.func117 rfl rfl (by kernel_rfl) (rs := [.t 2]) (by kernel_rfl) (Nat.le_of_ble_eq_true rfl) ?_
  unfold c117
  refine w_seq ?_
  refine w_reg fun all => ?_
  refine t_qz 1 [0] (σ' := [(0, .int .i64 n0)]) (by kernel_rfl) ?_
  refine t_end ?_
  show W _ _ _ _ _ _ _
  refine w_seq ?_
  refine w_reg fun all => ?_
  refine t_qz 6 [2] (σ' := [(2, .int .u64 (wru64 (mx n0 (wr64 (0 - n0)))))]) (by kernel_rfl) ?_
  refine t_end ?_
  show W _ _ _ _ _ _ _
  refine w_ret ?_
  obtain rfl := Option.some.inj e
  exact ⟨[.int .u64 (wru64 (mx n0 (wr64 (0 - n0))))], [], S, ⟨rfl, trivial⟩, VS.none, rfl, rfl, rfl⟩

def plane_within.f (a0 : Int) (b1 : Int) (c2 : Int) (d3 : Int) : Option (Bool) := (plane_within_1.f a0).bind fun t417 => ((plane_within_1.f b1).bind fun t419 => ((bits_Mul64.f t417 t419).bind fun (t421, t422) => ((plane_within_1.f c2).bind fun t424 => ((plane_within_1.f d3).bind fun t426 => ((bits_Mul64.f t424 t426).bind fun (t428, t429) => (if t421 < t428 then (some true) else (if t421 = t428 then (some (decide (t422 ≤ t429))) else (some false))))))))
theorem plane_within.ok {S : Seal} {a0 : Int} {b1 : Int} {c2 : Int} {d3 : Int} {r0_ : Bool}(e : plane_within.f a0 b1 c2 d3 = some r0_) :
    Cal Try.prog 105 [.int .i64 a0, .int .i64 b1, .int .i64 c2, .int .i64 d3] [] S fun v H' S' => v = .bool r0_ ∧ H' = [] ∧ S' = S := by
  unfold plane_within.f at e
  refine cal_of (c := c105) (N := 47) Try.func105 rfl rfl (by kernel_rfl) (rs := [.t 8]) (by kernel_rfl) (Nat.le_of_ble_eq_true rfl) ?_
  unfold c105
  refine w_seq ?_
  refine w_reg fun all => ?_
  refine t_qz 1 [0, 1, 2, 3] (σ' := [(0, .int .i64 a0), (1, .int .i64 b1), (2, .int .i64 c2), (3, .int .i64 d3)]) (by kernel_rfl) ?_
  refine t_end ?_
  show W _ _ _ _ _ _ _
  refine w_seq ?_
  refine w_reg fun all => ?_
  refine t_qz 1 [0, 1, 2, 3, 9] (σ' := [(0, .int .i64 a0), (1, .int .i64 b1), (2, .int .i64 c2), (3, .int .i64 d3), (9, .func (.func 117) #[] #[])]) (by kernel_rfl) ?_
  refine t_end ?_
  show W _ _ _ _ _ _ _
  refine w_seq ?_
  refine w_reg fun all => ?_
  obtain ⟨t417, h418, e⟩ := bind_of e
  refine t_qz 2 [1, 2, 3, 9, 15, 16] (σ' := [(1, .int .i64 b1), (2, .int .i64 c2), (3, .int .i64 d3), (9, .func (.func 117) #[] #[]), (15, .func (.func 117) #[] #[]), (16, .int .i64 a0)]) (by kernel_rfl) ?_
  refine t_v (.clor (vs := [.int .i64 a0]) (caps := #[]) (A := ([] : List Own)) (F0 := ([] : List Own)) rfl rfl rfl (by kernel_rfl) (by kernel_rfl) (sel_perm (is := []) (by kernel_rfl)) (plane_within_1.ok h418)) ?_
  obtain ⟨t419, h420, e⟩ := bind_of e
  refine t_qz 2 [2, 3, 9, 17, 18, 19] (σ' := [(2, .int .i64 c2), (3, .int .i64 d3), (9, .func (.func 117) #[] #[]), (17, .int .u64 t417), (18, .func (.func 117) #[] #[]), (19, .int .i64 b1)]) (by kernel_rfl) ?_
  refine t_v (.clor (vs := [.int .i64 b1]) (caps := #[]) (A := ([] : List Own)) (F0 := ([] : List Own)) rfl rfl rfl (by kernel_rfl) (by kernel_rfl) (sel_perm (is := []) (by kernel_rfl)) (plane_within_1.ok h420)) ?_
  obtain ⟨⟨t421, t422⟩, h423, e⟩ := bind_of e
  try dsimp only at e
  refine t_v (.call (vs := [.int .u64 t417, .int .u64 t419]) rfl rfl (by kernel_rfl) (bits_Mul64.ok h423)) ?_
  refine t_qz 5 [2, 3, 9, 10, 11] (σ' := [(2, .int .i64 c2), (3, .int .i64 d3), (9, .func (.func 117) #[] #[]), (10, .int .u64 t421), (11, .int .u64 t422)]) (by kernel_rfl) ?_
  refine t_end ?_
  show W _ _ _ _ _ _ _
  refine w_seq ?_
  refine w_reg fun all => ?_
  obtain ⟨t424, h425, e⟩ := bind_of e
  refine t_qz 2 [3, 9, 10, 11, 25, 26] (σ' := [(3, .int .i64 d3), (9, .func (.func 117) #[] #[]), (10, .int .u64 t421), (11, .int .u64 t422), (25, .func (.func 117) #[] #[]), (26, .int .i64 c2)]) (by kernel_rfl) ?_
  refine t_v (.clor (vs := [.int .i64 c2]) (caps := #[]) (A := ([] : List Own)) (F0 := ([] : List Own)) rfl rfl rfl (by kernel_rfl) (by kernel_rfl) (sel_perm (is := []) (by kernel_rfl)) (plane_within_1.ok h425)) ?_
  obtain ⟨t426, h427, e⟩ := bind_of e
  refine t_qz 2 [10, 11, 27, 28, 29] (σ' := [(10, .int .u64 t421), (11, .int .u64 t422), (27, .int .u64 t424), (28, .func (.func 117) #[] #[]), (29, .int .i64 d3)]) (by kernel_rfl) ?_
  refine t_v (.clor (vs := [.int .i64 d3]) (caps := #[]) (A := ([] : List Own)) (F0 := ([] : List Own)) rfl rfl rfl (by kernel_rfl) (by kernel_rfl) (sel_perm (is := []) (by kernel_rfl)) (plane_within_1.ok h427)) ?_
  obtain ⟨⟨t428, t429⟩, h430, e⟩ := bind_of e
  try dsimp only at e
  refine t_v (.call (vs := [.int .u64 t424, .int .u64 t426]) rfl rfl (by kernel_rfl) (bits_Mul64.ok h430)) ?_
  refine t_qz 5 [10, 11, 12, 13] (σ' := [(10, .int .u64 t421), (11, .int .u64 t422), (12, .int .u64 t428), (13, .int .u64 t429)]) (by kernel_rfl) ?_
  refine t_end ?_
  show W _ _ _ _ _ _ _
  refine w_seq ?_
  refine w_reg fun all => ?_
  by_cases c431 : t421 < t428
  · rw [if_pos c431] at e
    have c431b : (decide (t421 < t428)) = true := decide_eq_true c431
    refine t_qz 2 [10, 11, 12, 13, 34, 35] (σ' := [(10, .int .u64 t421), (11, .int .u64 t422), (12, .int .u64 t428), (13, .int .u64 t429), (34, .int .u64 t421), (35, .int .u64 t428)]) (by kernel_rfl) ?_
    refine t_v (dv_quiet rfl (congrArg (fun t => some (Value.bool t)) c431b)) ?_
    refine t_qz 11 [8] (σ' := [(8, .bool true)]) (by kernel_rfl) ?_
    refine t_end ?_
    show W _ _ _ _ _ _ _
    refine w_ret ?_
    obtain rfl := Option.some.inj e
    exact ⟨[.bool true], [], S, ⟨rfl, trivial⟩, VS.none, rfl, rfl, rfl⟩
  · rw [if_neg c431] at e
    have c431b : (decide (t421 < t428)) = false := decide_eq_false c431
    refine t_qz 2 [10, 11, 12, 13, 34, 35] (σ' := [(10, .int .u64 t421), (11, .int .u64 t422), (12, .int .u64 t428), (13, .int .u64 t429), (34, .int .u64 t421), (35, .int .u64 t428)]) (by kernel_rfl) ?_
    refine t_v (dv_quiet rfl (congrArg (fun t => some (Value.bool t)) c431b)) ?_
    by_cases c432 : t421 = t428
    · rw [if_pos c432] at e
      have c432b : (t421 == t428) = true := beq_iff_eq.mpr c432
      refine t_qz 3 [11, 13, 37, 38, 39] (σ' := [(11, .int .u64 t422), (13, .int .u64 t429), (37, .bool false), (38, .int .u64 t421), (39, .int .u64 t428)]) (by kernel_rfl) ?_
      refine t_v (dv_quiet rfl (congrArg (fun t => some (Value.bool t)) c432b)) ?_
      refine t_qz 7 [8] (σ' := [(8, .bool (decide (t422 ≤ t429)))]) (by kernel_rfl) ?_
      refine t_end ?_
      show W _ _ _ _ _ _ _
      refine w_ret ?_
      obtain rfl := Option.some.inj e
      exact ⟨[.bool (decide (t422 ≤ t429))], [], S, ⟨rfl, trivial⟩, VS.none, rfl, rfl, rfl⟩
    · rw [if_neg c432] at e
      have c432b : (t421 == t428) = false := beq_eq_false_iff_ne.mpr c432
      refine t_qz 3 [11, 13, 37, 38, 39] (σ' := [(11, .int .u64 t422), (13, .int .u64 t429), (37, .bool false), (38, .int .u64 t421), (39, .int .u64 t428)]) (by kernel_rfl) ?_
      refine t_v (dv_quiet rfl (congrArg (fun t => some (Value.bool t)) c432b)) ?_
      refine t_qz 7 [8] (σ' := [(8, .bool false)]) (by kernel_rfl) ?_
      refine t_end ?_
      show W _ _ _ _ _ _ _
      refine w_ret ?_
      obtain rfl := Option.some.inj e
      exact ⟨[.bool false], [], S, ⟨rfl, trivial⟩, VS.none, rfl, rfl, rfl⟩

def plane_Cross.f (a0_X : Int) (a0_Y : Int) (b1_X : Int) (b1_Y : Int) (p2_X : Int) (p2_Y : Int) : Option (Int) := (plane_Sub.f b1_X b1_Y a0_X a0_Y).bind fun (t427, t428) => ((plane_Sub.f p2_X p2_Y a0_X a0_Y).bind fun (t430, t431) => (some (wr64 ((wr64 (t427 * t431)) - (wr64 (t428 * t430))))))
theorem plane_Cross.ok {S : Seal} {a0_X : Int} {a0_Y : Int} {b1_X : Int} {b1_Y : Int} {p2_X : Int} {p2_Y : Int} {r0_ : Int}(e : plane_Cross.f a0_X a0_Y b1_X b1_Y p2_X p2_Y = some r0_) :
    Cal Try.prog 106 [.agg #[.int .i64 a0_X, .int .i64 a0_Y], .agg #[.int .i64 b1_X, .int .i64 b1_Y], .agg #[.int .i64 p2_X, .int .i64 p2_Y]] [] S fun v H' S' => v = .int .i64 r0_ ∧ H' = [] ∧ S' = S := by
  unfold plane_Cross.f at e
  refine cal_of (c := c106) (N := 26) Try.func106 rfl rfl (by kernel_rfl) (rs := [.t 6]) (by kernel_rfl) (Nat.le_of_ble_eq_true rfl) ?_
  unfold c106
  refine w_seq ?_
  refine w_reg fun all => ?_
  refine t_a (.box rfl rfl rfl) fun b424 fb424 sb424 => ?_
  refine t_a (.box rfl rfl rfl) fun b425 fb425 sb425 => ?_
  refine t_a (.box rfl rfl rfl) fun b426 fb426 sb426 => ?_
  refine t_qz 1 [3, 4, 5] (σ' := [(3, .pointer (some ⟨b424, 0, none⟩)), (4, .pointer (some ⟨b425, 0, none⟩)), (5, .pointer (some ⟨b426, 0, none⟩))]) (by kernel_rfl) ?_
  refine t_end ?_
  show W _ _ _ _ _ _ _
  refine w_seq ?_
  obtain ⟨⟨t427, t428⟩, h429, e⟩ := bind_of e
  try dsimp only at e
  obtain ⟨⟨t430, t431⟩, h432, e⟩ := bind_of e
  try dsimp only at e
  refine w_drwE mixed 8 [.v (.agg #[.int .i64 b1_X, .int .i64 b1_Y]), .v (.agg #[.int .i64 a0_X, .int .i64 a0_Y]), .v (.agg #[.int .i64 t427, .int .i64 t428]), .v (.agg #[.int .i64 p2_X, .int .i64 p2_Y]), .v (.agg #[.int .i64 a0_X, .int .i64 a0_Y]), .v (.agg #[.int .i64 t430, .int .i64 t431]), .a [.int .i64 0, .int .i64 0] ptrTo, .a [.int .i64 0, .int .i64 0] ptrTo] (by kernel_rfl) ?_ ?_
  · refine .cons (.ldn rfl rfl rfl (.at 1 rfl rfl)) ?_
    refine .cons (.ldn rfl rfl rfl (.at 2 rfl rfl)) ?_
    refine .cons (.call (vs := [.agg #[.int .i64 b1_X, .int .i64 b1_Y], .agg #[.int .i64 a0_X, .int .i64 a0_Y]]) rfl rfl (by kernel_rfl) (plane_Sub.ok h429)) ?_
    refine .cons (.ldn rfl rfl rfl (.at 0 rfl rfl)) ?_
    refine .cons (.ldn rfl rfl rfl (.at 2 rfl rfl)) ?_
    refine .cons (.call (vs := [.agg #[.int .i64 p2_X, .int .i64 p2_Y], .agg #[.int .i64 a0_X, .int .i64 a0_Y]]) rfl rfl (by kernel_rfl) (plane_Sub.ok h432)) ?_
    refine .cons (.new rfl rfl) ?_
    refine .cons (.new rfl rfl) ?_
    exact .nil
  refine fk_q 6 [11, 14] (σ' := [(11, .agg #[.int .i64 t427, .int .i64 t428]), (14, .agg #[.int .i64 t430, .int .i64 t431])]) t_more (by kernel_rfl) ?_
  refine fk_a fun b433 fb433 sb433 => ?_
  refine fk_a fun b434 fb434 sb434 => ?_
  refine fk_nil fun all => ?_
  refine t_sti 1 (cs := [.int .i64 t427, .int .i64 t428]) rfl rfl rfl rfl rfl rfl rfl rfl rfl ?_
  refine t_sti 0 (cs := [.int .i64 t430, .int .i64 t431]) rfl rfl rfl rfl rfl rfl rfl rfl rfl ?_
  refine t_keep [7, 8] (σ' := [(7, .pointer (some ⟨b433, 0, none⟩)), (8, .pointer (some ⟨b434, 0, none⟩))]) (by kernel_rfl) ?_
  refine t_end ?_
  show W _ _ _ _ _ _ _
  refine w_seq ?_
  refine w_reg fun all => ?_
  refine t_qz 1 [7, 8, 15] (σ' := [(7, .pointer (some ⟨b433, 0, none⟩)), (8, .pointer (some ⟨b434, 0, none⟩)), (15, .pointer (some ⟨b433, 0, none⟩))]) (by kernel_rfl) ?_
  refine t_v (.ld1 rfl rfl rfl (.at 1 rfl rfl)) ?_
  refine t_qz 1 [7, 8, 16, 17] (σ' := [(7, .pointer (some ⟨b433, 0, none⟩)), (8, .pointer (some ⟨b434, 0, none⟩)), (16, .int .i64 t427), (17, .pointer (some ⟨b434, 1, none⟩))]) (by kernel_rfl) ?_
  refine t_v (.ld1 rfl rfl rfl (.at 0 rfl rfl)) ?_
  refine t_qz 2 [8, 19, 20] (σ' := [(8, .pointer (some ⟨b434, 0, none⟩)), (19, .int .i64 (wr64 (t427 * t431))), (20, .pointer (some ⟨b433, 1, none⟩))]) (by kernel_rfl) ?_
  refine t_v (.ld1 rfl rfl rfl (.at 1 rfl rfl)) ?_
  refine t_qz 1 [19, 21, 22] (σ' := [(19, .int .i64 (wr64 (t427 * t431))), (21, .int .i64 t428), (22, .pointer (some ⟨b434, 0, none⟩))]) (by kernel_rfl) ?_
  refine t_v (.ld1 rfl rfl rfl (.at 0 rfl rfl)) ?_
  refine t_qz 3 [6] (σ' := [(6, .int .i64 (wr64 ((wr64 (t427 * t431)) - (wr64 (t428 * t430)))))]) (by kernel_rfl) ?_
  refine t_end ?_
  show W _ _ _ _ _ _ _
  refine w_ret ?_
  obtain rfl := Option.some.inj e
  exact ⟨[.int .i64 (wr64 ((wr64 (t427 * t431)) - (wr64 (t428 * t430))))], [], S, ⟨rfl, trivial⟩, VS.none, rfl, rfl, rfl⟩

def plane_Near.f (a0_X : Int) (a0_Y : Int) (b1_X : Int) (b1_Y : Int) (p2_X : Int) (p2_Y : Int) (w3 : Int) : Option (Bool) := (plane_Dot.f a0_X a0_Y b1_X b1_Y p2_X p2_Y).bind fun t410 => ((plane_Len2.f a0_X a0_Y b1_X b1_Y).bind fun t412 => (if t410 ≤ 0 then ((plane_Len2.f a0_X a0_Y p2_X p2_Y).bind fun t415 => ((plane_within.f 4 t415 w3 w3).bind fun t417 => (some t417))) else (if t410 ≥ t412 then ((plane_Len2.f b1_X b1_Y p2_X p2_Y).bind fun t420 => ((plane_within.f 4 t420 w3 w3).bind fun t422 => (some t422))) else ((plane_Cross.f a0_X a0_Y b1_X b1_Y p2_X p2_Y).bind fun t435 => ((plane_within.f (wr64 (2 * t435)) (wr64 (2 * t435)) (wr64 (w3 * w3)) t412).bind fun t437 => (some t437))))))
theorem plane_Near.ok {S : Seal} {a0_X : Int} {a0_Y : Int} {b1_X : Int} {b1_Y : Int} {p2_X : Int} {p2_Y : Int} {w3 : Int} {r0_ : Bool}(e : plane_Near.f a0_X a0_Y b1_X b1_Y p2_X p2_Y w3 = some r0_) :
    Cal Try.prog 65 [.agg #[.int .i64 a0_X, .int .i64 a0_Y], .agg #[.int .i64 b1_X, .int .i64 b1_Y], .agg #[.int .i64 p2_X, .int .i64 p2_Y], .int .i64 w3] [] S fun v H' S' => v = .bool r0_ ∧ H' = [] ∧ S' = S := by
  unfold plane_Near.f at e
  refine cal_of (c := c65) (N := 50) Try.func65 rfl rfl (by kernel_rfl) (rs := [.t 8]) (by kernel_rfl) (Nat.le_of_ble_eq_true rfl) ?_
  unfold c65
  refine w_seq ?_
  refine w_reg fun all => ?_
  refine t_a (.box rfl rfl rfl) fun b407 fb407 sb407 => ?_
  refine t_a (.box rfl rfl rfl) fun b408 fb408 sb408 => ?_
  refine t_a (.box rfl rfl rfl) fun b409 fb409 sb409 => ?_
  refine t_qz 1 [3, 4, 5, 6] (σ' := [(3, .int .i64 w3), (4, .pointer (some ⟨b407, 0, none⟩)), (5, .pointer (some ⟨b408, 0, none⟩)), (6, .pointer (some ⟨b409, 0, none⟩))]) (by kernel_rfl) ?_
  refine t_end ?_
  show W _ _ _ _ _ _ _
  refine w_seq ?_
  obtain ⟨t410, h411, e⟩ := bind_of e
  obtain ⟨t412, h413, e⟩ := bind_of e
  refine w_drwE mixed 9 [.v (.agg #[.int .i64 a0_X, .int .i64 a0_Y]), .v (.agg #[.int .i64 b1_X, .int .i64 b1_Y]), .v (.agg #[.int .i64 p2_X, .int .i64 p2_Y]), .v (.int .i64 t410), .v (.agg #[.int .i64 a0_X, .int .i64 a0_Y]), .v (.agg #[.int .i64 b1_X, .int .i64 b1_Y]), .v (.int .i64 t412), .v (.int .i64 t410), .v (.int .i64 t412)] (by kernel_rfl) ?_ ?_
  · refine .cons (.ldn rfl rfl rfl (.at 2 rfl rfl)) ?_
    refine .cons (.ldn rfl rfl rfl (.at 1 rfl rfl)) ?_
    refine .cons (.ldn rfl rfl rfl (.at 0 rfl rfl)) ?_
    refine .cons (.call (vs := [.agg #[.int .i64 a0_X, .int .i64 a0_Y], .agg #[.int .i64 b1_X, .int .i64 b1_Y], .agg #[.int .i64 p2_X, .int .i64 p2_Y]]) rfl rfl (by kernel_rfl) (plane_Dot.ok h411)) ?_
    refine .cons (.ldn rfl rfl rfl (.at 2 rfl rfl)) ?_
    refine .cons (.ldn rfl rfl rfl (.at 1 rfl rfl)) ?_
    refine .cons (.call (vs := [.agg #[.int .i64 a0_X, .int .i64 a0_Y], .agg #[.int .i64 b1_X, .int .i64 b1_Y]]) rfl rfl (by kernel_rfl) (plane_Len2.ok h413)) ?_
    refine DI.sq 2 (by kernel_rfl) rfl ?_
    exact .nil
  refine fk_q 9 [3, 4, 5, 6, 9, 10] (σ' := [(3, .int .i64 w3), (4, .pointer (some ⟨b407, 0, none⟩)), (5, .pointer (some ⟨b408, 0, none⟩)), (6, .pointer (some ⟨b409, 0, none⟩)), (9, .int .i64 t410), (10, .int .i64 t412)]) t_more (by kernel_rfl) ?_
  refine fk_nil fun all => ?_
  refine t_keep [3, 4, 5, 6, 9, 10] (σ' := [(3, .int .i64 w3), (4, .pointer (some ⟨b407, 0, none⟩)), (5, .pointer (some ⟨b408, 0, none⟩)), (6, .pointer (some ⟨b409, 0, none⟩)), (9, .int .i64 t410), (10, .int .i64 t412)]) (by kernel_rfl) ?_
  refine t_end ?_
  show W _ _ _ _ _ _ _
  refine w_seq ?_
  refine w_block ?_
  refine w_seq ?_
  refine w_reg fun all => ?_
  by_cases c414 : t410 ≤ 0
  · rw [if_pos c414] at e
    have c414b : (decide (t410 ≤ 0)) = true := decide_eq_true c414
    refine t_qz 1 [3, 4, 5, 6, 9, 10, 20] (σ' := [(3, .int .i64 w3), (4, .pointer (some ⟨b407, 0, none⟩)), (5, .pointer (some ⟨b408, 0, none⟩)), (6, .pointer (some ⟨b409, 0, none⟩)), (9, .int .i64 t410), (10, .int .i64 t412), (20, .int .i64 t410)]) (by kernel_rfl) ?_
    refine t_v (dv_quiet rfl (congrArg (fun t => some (Value.bool t)) c414b)) ?_
    refine t_qz 1 [3, 4, 5, 6, 9, 10, 19] (σ' := [(3, .int .i64 w3), (4, .pointer (some ⟨b407, 0, none⟩)), (5, .pointer (some ⟨b408, 0, none⟩)), (6, .pointer (some ⟨b409, 0, none⟩)), (9, .int .i64 t410), (10, .int .i64 t412), (19, .bool true)]) (by kernel_rfl) ?_
    refine t_end ?_
    show W _ _ _ _ _ _ _
    refine w_cond rfl (fun _ => ?_) (fun c_ => by cases c_)
    show W _ _ _ _ _ _ _
    refine w_seq ?_
    refine w_reg fun all => ?_
    refine t_v (.ldn rfl rfl rfl (.at 2 rfl rfl)) ?_
    refine t_v (.ldn rfl rfl rfl (.at 0 rfl rfl)) ?_
    obtain ⟨t415, h416, e⟩ := bind_of e
    refine t_v (.call (vs := [.agg #[.int .i64 a0_X, .int .i64 a0_Y], .agg #[.int .i64 p2_X, .int .i64 p2_Y]]) rfl rfl (by kernel_rfl) (plane_Len2.ok h416)) ?_
    obtain ⟨t417, h418, e⟩ := bind_of e
    refine t_qz 2 [24, 25, 26] (σ' := [(24, .int .i64 t415), (25, .int .i64 w3), (26, .int .i64 w3)]) (by kernel_rfl) ?_
    refine t_v (.call (vs := [.int .i64 4, .int .i64 t415, .int .i64 w3, .int .i64 w3]) rfl rfl (by kernel_rfl) (plane_within.ok h418)) ?_
    refine t_qz 1 [8] (σ' := [(8, .bool t417)]) (by kernel_rfl) ?_
    refine t_end ?_
    show W _ _ _ _ _ _ _
    refine w_ret ?_
    obtain rfl := Option.some.inj e
    exact ⟨[.bool t417], [], S, ⟨rfl, trivial⟩, VS.none, rfl, rfl, rfl⟩
  · rw [if_neg c414] at e
    have c414b : (decide (t410 ≤ 0)) = false := decide_eq_false c414
    refine t_qz 1 [3, 4, 5, 6, 9, 10, 20] (σ' := [(3, .int .i64 w3), (4, .pointer (some ⟨b407, 0, none⟩)), (5, .pointer (some ⟨b408, 0, none⟩)), (6, .pointer (some ⟨b409, 0, none⟩)), (9, .int .i64 t410), (10, .int .i64 t412), (20, .int .i64 t410)]) (by kernel_rfl) ?_
    refine t_v (dv_quiet rfl (congrArg (fun t => some (Value.bool t)) c414b)) ?_
    refine t_qz 1 [3, 4, 5, 6, 9, 10, 19] (σ' := [(3, .int .i64 w3), (4, .pointer (some ⟨b407, 0, none⟩)), (5, .pointer (some ⟨b408, 0, none⟩)), (6, .pointer (some ⟨b409, 0, none⟩)), (9, .int .i64 t410), (10, .int .i64 t412), (19, .bool false)]) (by kernel_rfl) ?_
    refine t_end ?_
    show W _ _ _ _ _ _ _
    refine w_cond rfl (fun c_ => by cases c_) (fun _ => ?_)
    show W _ _ _ _ _ _ _
    refine w_seq ?_
    refine w_reg fun all => ?_
    by_cases c419 : t410 ≥ t412
    · rw [if_pos c419] at e
      have c419b : (decide (t410 ≥ t412)) = true := decide_eq_true c419
      refine t_qz 2 [3, 4, 5, 6, 10, 29, 30] (σ' := [(3, .int .i64 w3), (4, .pointer (some ⟨b407, 0, none⟩)), (5, .pointer (some ⟨b408, 0, none⟩)), (6, .pointer (some ⟨b409, 0, none⟩)), (10, .int .i64 t412), (29, .int .i64 t410), (30, .int .i64 t412)]) (by kernel_rfl) ?_
      refine t_v (dv_quiet rfl (congrArg (fun t => some (Value.bool t)) c419b)) ?_
      refine t_qz 1 [3, 4, 5, 6, 10, 28] (σ' := [(3, .int .i64 w3), (4, .pointer (some ⟨b407, 0, none⟩)), (5, .pointer (some ⟨b408, 0, none⟩)), (6, .pointer (some ⟨b409, 0, none⟩)), (10, .int .i64 t412), (28, .bool true)]) (by kernel_rfl) ?_
      refine t_end ?_
      show W _ _ _ _ _ _ _
      refine w_cond rfl (fun _ => ?_) (fun c_ => by cases c_)
      show W _ _ _ _ _ _ _
      refine w_seq ?_
      refine w_reg fun all => ?_
      refine t_v (.ldn rfl rfl rfl (.at 1 rfl rfl)) ?_
      refine t_v (.ldn rfl rfl rfl (.at 0 rfl rfl)) ?_
      obtain ⟨t420, h421, e⟩ := bind_of e
      refine t_v (.call (vs := [.agg #[.int .i64 b1_X, .int .i64 b1_Y], .agg #[.int .i64 p2_X, .int .i64 p2_Y]]) rfl rfl (by kernel_rfl) (plane_Len2.ok h421)) ?_
      obtain ⟨t422, h423, e⟩ := bind_of e
      refine t_qz 2 [34, 35, 36] (σ' := [(34, .int .i64 t420), (35, .int .i64 w3), (36, .int .i64 w3)]) (by kernel_rfl) ?_
      refine t_v (.call (vs := [.int .i64 4, .int .i64 t420, .int .i64 w3, .int .i64 w3]) rfl rfl (by kernel_rfl) (plane_within.ok h423)) ?_
      refine t_qz 1 [8] (σ' := [(8, .bool t422)]) (by kernel_rfl) ?_
      refine t_end ?_
      show W _ _ _ _ _ _ _
      refine w_ret ?_
      obtain rfl := Option.some.inj e
      exact ⟨[.bool t422], [], S, ⟨rfl, trivial⟩, VS.none, rfl, rfl, rfl⟩
    · rw [if_neg c419] at e
      have c419b : (decide (t410 ≥ t412)) = false := decide_eq_false c419
      refine t_qz 2 [3, 4, 5, 6, 10, 29, 30] (σ' := [(3, .int .i64 w3), (4, .pointer (some ⟨b407, 0, none⟩)), (5, .pointer (some ⟨b408, 0, none⟩)), (6, .pointer (some ⟨b409, 0, none⟩)), (10, .int .i64 t412), (29, .int .i64 t410), (30, .int .i64 t412)]) (by kernel_rfl) ?_
      refine t_v (dv_quiet rfl (congrArg (fun t => some (Value.bool t)) c419b)) ?_
      refine t_qz 1 [3, 4, 5, 6, 10, 28] (σ' := [(3, .int .i64 w3), (4, .pointer (some ⟨b407, 0, none⟩)), (5, .pointer (some ⟨b408, 0, none⟩)), (6, .pointer (some ⟨b409, 0, none⟩)), (10, .int .i64 t412), (28, .bool false)]) (by kernel_rfl) ?_
      refine t_end ?_
      show W _ _ _ _ _ _ _
      refine w_cond rfl (fun c_ => by cases c_) (fun _ => ?_)
      show W _ _ _ _ _ _ _
      refine w_skip ?_
      show W _ _ _ _ _ _ _
      refine w_seq ?_
      refine w_reg fun all => ?_
      refine t_v (.ldn rfl rfl rfl (.at 2 rfl rfl)) ?_
      refine t_v (.ldn rfl rfl rfl (.at 1 rfl rfl)) ?_
      refine t_v (.ldn rfl rfl rfl (.at 0 rfl rfl)) ?_
      obtain ⟨t435, h436, e⟩ := bind_of e
      refine t_v (.call (vs := [.agg #[.int .i64 a0_X, .int .i64 a0_Y], .agg #[.int .i64 b1_X, .int .i64 b1_Y], .agg #[.int .i64 p2_X, .int .i64 p2_Y]]) rfl rfl (by kernel_rfl) (plane_Cross.ok h436)) ?_
      refine t_qz 2 [3, 10, 11] (σ' := [(3, .int .i64 w3), (10, .int .i64 t412), (11, .int .i64 (wr64 (2 * t435)))]) (by kernel_rfl) ?_
      refine t_end ?_
      show W _ _ _ _ _ _ _
      refine w_seq ?_
      refine w_reg fun all => ?_
      obtain ⟨t437, h438, e⟩ := bind_of e
      refine t_qz 6 [43, 44, 47, 48] (σ' := [(43, .int .i64 (wr64 (2 * t435))), (44, .int .i64 (wr64 (2 * t435))), (47, .int .i64 (wr64 (w3 * w3))), (48, .int .i64 t412)]) (by kernel_rfl) ?_
      refine t_v (.call (vs := [.int .i64 (wr64 (2 * t435)), .int .i64 (wr64 (2 * t435)), .int .i64 (wr64 (w3 * w3)), .int .i64 t412]) rfl rfl (by kernel_rfl) (plane_within.ok h438)) ?_
      refine t_qz 1 [8] (σ' := [(8, .bool t437)]) (by kernel_rfl) ?_
      refine t_end ?_
      show W _ _ _ _ _ _ _
      refine w_ret ?_
      obtain rfl := Option.some.inj e
      exact ⟨[.bool t437], [], S, ⟨rfl, trivial⟩, VS.none, rfl, rfl, rfl⟩

def stroke_Near_1_v2.f (e0_0 : Int) (e0_1 : Int) (e0_2 : Int) (e0_3 : Int) (m0_0 : Int) (m0_1 : Int) (m1_0 : Int) : Option (Bool) := (plane_Near.f e0_0 e0_1 e0_2 e0_3 m0_0 m0_1 m1_0).bind fun t439 => (some t439)
theorem stroke_Near_1_v2.ok {S : Seal} {B0 : Nat} {B1 : Nat} {e0_0 : Int} {e0_1 : Int} {e0_2 : Int} {e0_3 : Int} {m0_0 : Int} {m0_1 : Int} {m1_0 : Int} {r0_ : Bool}(e : stroke_Near_1_v2.f e0_0 e0_1 e0_2 e0_3 m0_0 m0_1 m1_0 = some r0_) :
    Cal Try.prog 64 [.agg #[.int .i64 e0_0, .int .i64 e0_1, .int .i64 e0_2, .int .i64 e0_3], .pointer (some ⟨B0, 0, none⟩), .pointer (some ⟨B1, 0, none⟩)] ([⟨B0, [.int .i64 m0_0, .int .i64 m0_1], 2⟩, ⟨B1, [.int .i64 m1_0], 1⟩] : List Own) S fun v H' S' => v = .bool r0_ ∧ H' = ([⟨B0, [.int .i64 m0_0, .int .i64 m0_1], 2⟩, ⟨B1, [.int .i64 m1_0], 1⟩] : List Own) ∧ S' = S := by
  unfold stroke_Near_1_v2.f at e
  refine cal_of (c := c64) (N := 12) Try.func64 rfl rfl (by kernel_rfl) (rs := [.t 4]) (by kernel_rfl) (Nat.le_of_ble_eq_true rfl) ?_
  unfold c64
  refine w_seq ?_
  refine w_reg fun all => ?_
  refine t_a (.box rfl rfl rfl) fun b406 fb406 sb406 => ?_
  refine t_qz 1 [1, 2, 3] (σ' := [(1, .pointer (some ⟨B0, 0, none⟩)), (2, .pointer (some ⟨B1, 0, none⟩)), (3, .pointer (some ⟨b406, 0, none⟩))]) (by kernel_rfl) ?_
  refine t_end ?_
  show W _ _ _ _ _ _ _
  refine w_seq ?_
  refine w_reg fun all => ?_
  refine t_qz 1 [1, 2, 3, 5] (σ' := [(1, .pointer (some ⟨B0, 0, none⟩)), (2, .pointer (some ⟨B1, 0, none⟩)), (3, .pointer (some ⟨b406, 0, none⟩)), (5, .pointer (some ⟨b406, 0, none⟩))]) (by kernel_rfl) ?_
  refine t_v (.ldn rfl rfl rfl (.at 0 rfl rfl)) ?_
  refine t_qz 1 [1, 2, 6, 7] (σ' := [(1, .pointer (some ⟨B0, 0, none⟩)), (2, .pointer (some ⟨B1, 0, none⟩)), (6, .agg #[.int .i64 e0_0, .int .i64 e0_1]), (7, .pointer (some ⟨b406, 2, none⟩))]) (by kernel_rfl) ?_
  refine t_v (.ldn rfl rfl rfl (.at 0 rfl rfl)) ?_
  refine t_v (.ldn rfl rfl rfl (.at 1 rfl rfl)) ?_
  refine t_v (.ld1 rfl rfl rfl (.at 2 rfl rfl)) ?_
  obtain ⟨t439, h440, e⟩ := bind_of e
  refine t_v (.call (vs := [.agg #[.int .i64 e0_0, .int .i64 e0_1], .agg #[.int .i64 e0_2, .int .i64 e0_3], .agg #[.int .i64 m0_0, .int .i64 m0_1], .int .i64 m1_0]) rfl rfl (by kernel_rfl) (plane_Near.ok h440)) ?_
  refine t_qz 1 [4] (σ' := [(4, .bool t439)]) (by kernel_rfl) ?_
  refine t_end ?_
  show W _ _ _ _ _ _ _
  refine w_ret ?_
  obtain rfl := Option.some.inj e
  exact ⟨[.bool t439], ([⟨B0, [.int .i64 m0_0, .int .i64 m0_1], 2⟩, ⟨B1, [.int .i64 m1_0], 1⟩] : List Own), S, ⟨rfl, trivial⟩, VS.sel [1, 1] (by kernel_rfl), rfl, rfl, rfl⟩

def api_Edge_v6.l0 : Nat → List (Int × Int × Int × Int) → Int → Int → Int → Int → Option ((Int) ⊕ (Unit))
  | 0, _, _, _, _, _ => none
  | k + 1, s0, m0_0, m0_1, m1_0, x391 => if x391 < (s0.length : Int) then ((lgt s0 x391).bind fun (x393, x394, x395, x396) => ((stroke_Near_1_v2.f x393 x394 x395 x396 m0_0 m0_1 m1_0).bind fun t441 => (if t441 = true then (some (.inl x391)) else (api_Edge_v6.l0 k s0 m0_0 m0_1 m1_0 (wr64 (x391 + 1)))))) else (some (.inr ()))
def api_Edge_v6.f (k : Nat) (s0 : List (Int × Int × Int × Int)) (m0_0 : Int) (m0_1 : Int) (m1_0 : Int) : Option (Int) := (api_Edge_v6.l0 k s0 m0_0 m0_1 m1_0 0 : Option ((Int) ⊕ (Unit))).bind fun s_ => match s_ with | .inl q445 => some q445 | .inr _ => (some (-1))
theorem api_Edge_v6.ok {S : Seal} {B0 : Nat} {B1 : Nat} {k : Nat} {s0 : List (Int × Int × Int × Int)} {m0_0 : Int} {m0_1 : Int} {m1_0 : Int} {r0_ : Int}{a_s0 : Option Addr} {c_s0 : Nat} (h_s0 : SlE S E_i644 s0 a_s0) (e : api_Edge_v6.f k s0 m0_0 m0_1 m1_0 = some r0_) :
    Cal Try.prog 103 [.slice a_s0 s0.length c_s0, .func (.func 64) #[] #[.pointer (some ⟨B0, 0, none⟩), .pointer (some ⟨B1, 0, none⟩)]] ([⟨B0, [.int .i64 m0_0, .int .i64 m0_1], 2⟩, ⟨B1, [.int .i64 m1_0], 1⟩] : List Own) S fun v H' S' => v = .int .i64 r0_ ∧ H' = ([⟨B0, [.int .i64 m0_0, .int .i64 m0_1], 2⟩, ⟨B1, [.int .i64 m1_0], 1⟩] : List Own) ∧ S' = S := by
  unfold api_Edge_v6.f at e
  refine cal_of (c := c103) (N := 19) Try.func103 rfl rfl (by kernel_rfl) (rs := [.t 4]) (by kernel_rfl) (Nat.le_of_ble_eq_true rfl) ?_
  unfold c103
  refine w_seq ?_
  refine w_reg fun all => ?_
  refine t_qz 1 [0, 1] (σ' := [(0, .slice a_s0 s0.length c_s0), (1, .func (.func 64) #[] #[.pointer (some ⟨B0, 0, none⟩), .pointer (some ⟨B1, 0, none⟩)])]) (by kernel_rfl) ?_
  refine t_end ?_
  show W _ _ _ _ _ _ _
  obtain ⟨s390, e389, e⟩ := bind_of e
  refine w_cut [] (fun σ_ H_ S_ => ∃ u_ : Unit, s390 = .inr u_ ∧ [] = σ_ ∧ ([⟨B0, [.int .i64 m0_0, .int .i64 m0_1], 2⟩, ⟨B1, [.int .i64 m1_0], 1⟩] : List Own) = H_ ∧ S = S_) ?_ ?_
  · show W _ _ _ _ _ _ _
    refine w_seq ?_
    refine w_reg fun all => ?_
    refine t_qz 3 [0, 1, 7, 8] (σ' := [(0, .slice a_s0 s0.length c_s0), (1, .func (.func 64) #[] #[.pointer (some ⟨B0, 0, none⟩), .pointer (some ⟨B1, 0, none⟩)]), (7, .int .i64 (s0.length : Int)), (8, .int .i64 0)]) (by kernel_rfl) ?_
    refine t_end ?_
    show W _ _ _ _ _ _ _
    refine w_block ?_
    refine w_kp [0, 1, 7, 8] (σ' := [(0, .slice a_s0 s0.length c_s0), (1, .func (.func 64) #[] #[.pointer (some ⟨B0, 0, none⟩), .pointer (some ⟨B1, 0, none⟩)]), (7, .int .i64 (s0.length : Int)), (8, .int .i64 0)]) (by kernel_rfl) ?_
    refine w_loop (fun n_ σ_ H_ S_ => ∃ (x391 : Int), [(0, .slice a_s0 s0.length c_s0), (1, .func (.func 64) #[] #[.pointer (some ⟨B0, 0, none⟩), .pointer (some ⟨B1, 0, none⟩)]), (7, .int .i64 (s0.length : Int)), (8, .int .i64 x391)] = σ_ ∧ ([⟨B0, [.int .i64 m0_0, .int .i64 m0_1], 2⟩, ⟨B1, [.int .i64 m1_0], 1⟩] : List Own) = H_ ∧ S = S_ ∧ api_Edge_v6.l0 n_ s0 m0_0 m0_1 m1_0 x391 = some s390) _ ⟨0, rfl, rfl, rfl, e389⟩ ?_
    rintro n444 σ_ H_ S_ ⟨x391, rfl, rfl, rfl, e389⟩
    cases n444 with
    | zero => rw [api_Edge_v6.l0.eq_1] at e389; cases e389
    | succ k_ =>
      rw [api_Edge_v6.l0.eq_2] at e389
      refine w_seq ?_
      refine w_reg fun all => ?_
      by_cases c392 : x391 < (s0.length : Int)
      · rw [if_pos c392] at e389
        have c392b : (decide (x391 < (s0.length : Int))) = true := decide_eq_true c392
        refine t_v (dv_quiet rfl (congrArg (fun t => some (Value.bool t)) c392b)) ?_
        refine t_keep [0, 1, 7, 8, 9] (σ' := [(0, .slice a_s0 s0.length c_s0), (1, .func (.func 64) #[] #[.pointer (some ⟨B0, 0, none⟩), .pointer (some ⟨B1, 0, none⟩)]), (7, .int .i64 (s0.length : Int)), (8, .int .i64 x391), (9, .bool true)]) (by kernel_rfl) ?_
        refine t_end ?_
        show W _ _ _ _ _ _ _
        refine w_seq ?_
        refine w_cond rfl (fun _ => ?_) (fun c_ => by cases c_)
        show W _ _ _ _ _ _ _
        refine w_skip ?_
        show W _ _ _ _ _ _ _
        refine w_seq ?_
        refine w_block ?_
        refine w_seq ?_
        refine w_reg fun all => ?_
        refine t_qz 2 [0, 1, 5, 7, 8] (σ' := [(0, .slice a_s0 s0.length c_s0), (1, .func (.func 64) #[] #[.pointer (some ⟨B0, 0, none⟩), .pointer (some ⟨B1, 0, none⟩)]), (5, .int .i64 x391), (7, .int .i64 (s0.length : Int)), (8, .int .i64 x391)]) (by kernel_rfl) ?_
        refine t_end ?_
        show W _ _ _ _ _ _ _
        refine w_seq ?_
        refine w_reg fun all => ?_
        obtain ⟨⟨x393, x394, x395, x396⟩, hx397, e389⟩ := bind_of e389
        try dsimp only at e389
        obtain ⟨lb398, lo399, ll400, la401, lS402, lv403, lz404, lu405⟩ := sle_get (E := E_i644) h_s0 hx397
        refine t_qz 3 [0, 1, 5, 7, 8, 11, 12, 13] (σ' := [(0, .slice a_s0 s0.length c_s0), (1, .func (.func 64) #[] #[.pointer (some ⟨B0, 0, none⟩), .pointer (some ⟨B1, 0, none⟩)]), (5, .int .i64 x391), (7, .int .i64 (s0.length : Int)), (8, .int .i64 x391), (11, .func (.func 64) #[] #[.pointer (some ⟨B0, 0, none⟩), .pointer (some ⟨B1, 0, none⟩)]), (12, .slice a_s0 s0.length c_s0), (13, .int .i64 x391)]) (by kernel_rfl) ?_
        refine t_v (.quiet rfl (ixs_sle rfl rfl la401 lz404 lu405)) ?_
        refine t_v (.ldn (vs := [.int .i64 x393, .int .i64 x394, .int .i64 x395, .int .i64 x396]) rfl rfl rfl (.sealed lS402 (subl_sub lv403 (by kernel_rfl)))) ?_
        obtain ⟨t441, h442, e389⟩ := bind_of e389
        cases t441 with
        | true =>
          rw [if_pos rfl] at e389
          refine t_v (.clor (vs := [.agg #[.int .i64 x393, .int .i64 x394, .int .i64 x395, .int .i64 x396]]) (caps := #[.pointer (some ⟨B0, 0, none⟩), .pointer (some ⟨B1, 0, none⟩)]) (A := ([⟨B0, [.int .i64 m0_0, .int .i64 m0_1], 2⟩, ⟨B1, [.int .i64 m1_0], 1⟩] : List Own)) (F0 := ([] : List Own)) rfl rfl rfl (by kernel_rfl) (by kernel_rfl) (sel_perm (is := [0, 0]) (by kernel_rfl)) (stroke_Near_1_v2.ok h442)) ?_
          refine t_keep [0, 1, 5, 7, 8, 16] (σ' := [(0, .slice a_s0 s0.length c_s0), (1, .func (.func 64) #[] #[.pointer (some ⟨B0, 0, none⟩), .pointer (some ⟨B1, 0, none⟩)]), (5, .int .i64 x391), (7, .int .i64 (s0.length : Int)), (8, .int .i64 x391), (16, .bool true)]) (by kernel_rfl) ?_
          refine t_end ?_
          show W _ _ _ _ _ _ _
          refine w_cond rfl (fun _ => ?_) (fun c_ => by cases c_)
          show W _ _ _ _ _ _ _
          refine w_seq ?_
          refine w_reg fun all => ?_
          refine t_qz 2 [4] (σ' := [(4, .int .i64 x391)]) (by kernel_rfl) ?_
          refine t_end ?_
          show W _ _ _ _ _ _ _
          refine w_ret ?_
          obtain rfl := Option.some.inj e389
          obtain rfl := Option.some.inj e
          exact ⟨[.int .i64 x391], ([⟨B0, [.int .i64 m0_0, .int .i64 m0_1], 2⟩, ⟨B1, [.int .i64 m1_0], 1⟩] : List Own), S, ⟨rfl, trivial⟩, VS.sel [0, 0] (by kernel_rfl), rfl, rfl, rfl⟩
        | false =>
          rw [if_neg (by decide)] at e389
          refine t_v (.clor (vs := [.agg #[.int .i64 x393, .int .i64 x394, .int .i64 x395, .int .i64 x396]]) (caps := #[.pointer (some ⟨B0, 0, none⟩), .pointer (some ⟨B1, 0, none⟩)]) (A := ([⟨B0, [.int .i64 m0_0, .int .i64 m0_1], 2⟩, ⟨B1, [.int .i64 m1_0], 1⟩] : List Own)) (F0 := ([] : List Own)) rfl rfl rfl (by kernel_rfl) (by kernel_rfl) (sel_perm (is := [0, 0]) (by kernel_rfl)) (stroke_Near_1_v2.ok h442)) ?_
          refine t_keep [0, 1, 5, 7, 8, 16] (σ' := [(0, .slice a_s0 s0.length c_s0), (1, .func (.func 64) #[] #[.pointer (some ⟨B0, 0, none⟩), .pointer (some ⟨B1, 0, none⟩)]), (5, .int .i64 x391), (7, .int .i64 (s0.length : Int)), (8, .int .i64 x391), (16, .bool false)]) (by kernel_rfl) ?_
          refine t_end ?_
          show W _ _ _ _ _ _ _
          refine w_cond rfl (fun c_ => by cases c_) (fun _ => ?_)
          show W _ _ _ _ _ _ _
          refine w_skip ?_
          show W _ _ _ _ _ _ _
          refine w_reg fun all => ?_
          refine t_qz 2 [0, 1, 7, 8] (σ' := [(0, .slice a_s0 s0.length c_s0), (1, .func (.func 64) #[] #[.pointer (some ⟨B0, 0, none⟩), .pointer (some ⟨B1, 0, none⟩)]), (7, .int .i64 (s0.length : Int)), (8, .int .i64 (wr64 (x391 + 1)))]) (by kernel_rfl) ?_
          refine t_end ?_
          exact ⟨k_, Nat.lt_succ_self _, [(0, .slice a_s0 s0.length c_s0), (1, .func (.func 64) #[] #[.pointer (some ⟨B0, 0, none⟩), .pointer (some ⟨B1, 0, none⟩)]), (7, .int .i64 (s0.length : Int)), (8, .int .i64 (wr64 (x391 + 1)))], ([⟨B0, [.int .i64 m0_0, .int .i64 m0_1], 2⟩, ⟨B1, [.int .i64 m1_0], 1⟩] : List Own), S, keep_sub [0, 1, 7, 8] (by kernel_rfl), VS.sel [0, 0] (by kernel_rfl), wr64 (x391 + 1), rfl, rfl, rfl, e389⟩
      · rw [if_neg c392] at e389
        have c392b : (decide (x391 < (s0.length : Int))) = false := decide_eq_false c392
        refine t_v (dv_quiet rfl (congrArg (fun t => some (Value.bool t)) c392b)) ?_
        refine t_keep [0, 1, 7, 8, 9] (σ' := [(0, .slice a_s0 s0.length c_s0), (1, .func (.func 64) #[] #[.pointer (some ⟨B0, 0, none⟩), .pointer (some ⟨B1, 0, none⟩)]), (7, .int .i64 (s0.length : Int)), (8, .int .i64 x391), (9, .bool false)]) (by kernel_rfl) ?_
        refine t_end ?_
        show W _ _ _ _ _ _ _
        refine w_seq ?_
        refine w_cond rfl (fun c_ => by cases c_) (fun _ => ?_)
        show W _ _ _ _ _ _ _
        refine w_exit ?_
        obtain rfl := Option.some.inj e389
        exact ⟨([⟨B0, [.int .i64 m0_0, .int .i64 m0_1], 2⟩, ⟨B1, [.int .i64 m1_0], 1⟩] : List Own), S, VS.sel [0, 0] (by kernel_rfl), (), rfl, by kernel_rfl, rfl, rfl⟩
  · rintro σ_ H_ S_ ⟨u_, rfl, rfl, rfl, rfl⟩
    dsimp only at e
    refine w_seq ?_
    refine w_reg fun all => ?_
    refine t_qz 1 [4] (σ' := [(4, .int .i64 (-1))]) (by kernel_rfl) ?_
    refine t_end ?_
    show W _ _ _ _ _ _ _
    refine w_ret ?_
    obtain rfl := Option.some.inj e
    exact ⟨[.int .i64 (-1)], ([⟨B0, [.int .i64 m0_0, .int .i64 m0_1], 2⟩, ⟨B1, [.int .i64 m1_0], 1⟩] : List Own), S, ⟨rfl, trivial⟩, VS.sel [0, 0] (by kernel_rfl), rfl, rfl, rfl⟩

def api_Edge_v5.f (k : Nat) (s0 : List (Int × Int × Int × Int)) (m0_0 : Int) (m0_1 : Int) (m1_0 : Int) : Option (Bool) := (api_Edge_v6.f k s0 m0_0 m0_1 m1_0).bind fun t446 => (some (decide (t446 ≥ 0)))
theorem api_Edge_v5.ok {S : Seal} {B0 : Nat} {B1 : Nat} {k : Nat} {s0 : List (Int × Int × Int × Int)} {m0_0 : Int} {m0_1 : Int} {m1_0 : Int} {r0_ : Bool}{a_s0 : Option Addr} {c_s0 : Nat} (h_s0 : SlE S E_i644 s0 a_s0) (e : api_Edge_v5.f k s0 m0_0 m0_1 m1_0 = some r0_) :
    Cal Try.prog 63 [.slice a_s0 s0.length c_s0, .func (.func 64) #[] #[.pointer (some ⟨B0, 0, none⟩), .pointer (some ⟨B1, 0, none⟩)]] ([⟨B0, [.int .i64 m0_0, .int .i64 m0_1], 2⟩, ⟨B1, [.int .i64 m1_0], 1⟩] : List Own) S fun v H' S' => v = .bool r0_ ∧ H' = ([⟨B0, [.int .i64 m0_0, .int .i64 m0_1], 2⟩, ⟨B1, [.int .i64 m1_0], 1⟩] : List Own) ∧ S' = S := by
  unfold api_Edge_v5.f at e
  refine cal_of (c := c63) (N := 9) Try.func63 rfl rfl (by kernel_rfl) (rs := [.t 4]) (by kernel_rfl) (Nat.le_of_ble_eq_true rfl) ?_
  unfold c63
  refine w_seq ?_
  refine w_reg fun all => ?_
  refine t_qz 1 [0, 1] (σ' := [(0, .slice a_s0 s0.length c_s0), (1, .func (.func 64) #[] #[.pointer (some ⟨B0, 0, none⟩), .pointer (some ⟨B1, 0, none⟩)])]) (by kernel_rfl) ?_
  refine t_end ?_
  show W _ _ _ _ _ _ _
  refine w_seq ?_
  refine w_reg fun all => ?_
  obtain ⟨t446, h447, e⟩ := bind_of e
  refine t_qz 2 [5, 6] (σ' := [(5, .slice a_s0 s0.length c_s0), (6, .func (.func 64) #[] #[.pointer (some ⟨B0, 0, none⟩), .pointer (some ⟨B1, 0, none⟩)])]) (by kernel_rfl) ?_
  refine t_v (.callr (vs := [.slice a_s0 s0.length c_s0, .func (.func 64) #[] #[.pointer (some ⟨B0, 0, none⟩), .pointer (some ⟨B1, 0, none⟩)]]) (A := ([⟨B0, [.int .i64 m0_0, .int .i64 m0_1], 2⟩, ⟨B1, [.int .i64 m1_0], 1⟩] : List Own)) (F0 := ([] : List Own)) rfl rfl (by kernel_rfl) (sel_perm (is := [0, 0]) (by kernel_rfl)) (api_Edge_v6.ok h_s0 h447)) ?_
  refine t_qz 2 [4] (σ' := [(4, .bool (decide (t446 ≥ 0)))]) (by kernel_rfl) ?_
  refine t_end ?_
  show W _ _ _ _ _ _ _
  refine w_ret ?_
  obtain rfl := Option.some.inj e
  exact ⟨[.bool (decide (t446 ≥ 0))], ([⟨B0, [.int .i64 m0_0, .int .i64 m0_1], 2⟩, ⟨B1, [.int .i64 m1_0], 1⟩] : List Own), S, ⟨rfl, trivial⟩, VS.sel [0, 0] (by kernel_rfl), rfl, rfl, rfl⟩

def stroke_Near_v3.f (k : Nat) (l0 : List (Int × Int × Int × Int)) (w1 : Int) (p2_0 : Int) (p2_1 : Int) : Option (Bool) := (api_Edge_v5.f k l0 p2_0 p2_1 w1).bind fun t448 => (some t448)
theorem stroke_Near_v3.ok {S : Seal} {k : Nat} {l0 : List (Int × Int × Int × Int)} {w1 : Int} {p2_0 : Int} {p2_1 : Int} {r0_ : Bool}{a_l0 : Option Addr} {c_l0 : Nat} (h_l0 : SlE S E_i644 l0 a_l0) (e : stroke_Near_v3.f k l0 w1 p2_0 p2_1 = some r0_) :
    Cal Try.prog 19 [.slice a_l0 l0.length c_l0, .int .i64 w1, .agg #[.int .i64 p2_0, .int .i64 p2_1]] [] S fun v H' S' => v = .bool r0_ ∧ H' = [] ∧ S' = S := by
  unfold stroke_Near_v3.f at e
  refine cal_of (c := c19) (N := 10) Try.func19 rfl rfl (by kernel_rfl) (rs := [.t 6]) (by kernel_rfl) (Nat.le_of_ble_eq_true rfl) ?_
  unfold c19
  refine w_seq ?_
  refine w_reg fun all => ?_
  refine t_a (.box rfl rfl rfl) fun b386 fb386 sb386 => ?_
  refine t_a (.box rfl rfl rfl) fun b387 fb387 sb387 => ?_
  refine t_qz 1 [0, 4, 5] (σ' := [(0, .slice a_l0 l0.length c_l0), (4, .pointer (some ⟨b386, 0, none⟩)), (5, .pointer (some ⟨b387, 0, none⟩))]) (by kernel_rfl) ?_
  refine t_end ?_
  show W _ _ _ _ _ _ _
  refine w_seq ?_
  refine w_reg fun all => ?_
  obtain ⟨t448, h449, e⟩ := bind_of e
  refine t_qz 2 [7, 8] (σ' := [(7, .slice a_l0 l0.length c_l0), (8, .func (.func 64) #[] #[.pointer (some ⟨b387, 0, none⟩), .pointer (some ⟨b386, 0, none⟩)])]) (by kernel_rfl) ?_
  refine t_v (.callr (vs := [.slice a_l0 l0.length c_l0, .func (.func 64) #[] #[.pointer (some ⟨b387, 0, none⟩), .pointer (some ⟨b386, 0, none⟩)]]) (A := ([⟨b387, [.int .i64 p2_0, .int .i64 p2_1], 2⟩, ⟨b386, [.int .i64 w1], 1⟩] : List Own)) (F0 := ([] : List Own)) rfl rfl (by kernel_rfl) (sel_perm (is := [0, 0]) (by kernel_rfl)) (api_Edge_v5.ok h_l0 h449)) ?_
  refine t_qz 1 [6] (σ' := [(6, .bool t448)]) (by kernel_rfl) ?_
  refine t_end ?_
  show W _ _ _ _ _ _ _
  refine w_ret ?_
  obtain rfl := Option.some.inj e
  exact ⟨[.bool t448], [], S, ⟨rfl, trivial⟩, VS.none, rfl, rfl, rfl⟩

/-- glyphicref1.Dot -/
def c77 : C :=
  (.seq (.reg [⟨(some 3), .box (.tmp 0), none⟩,
     ⟨(some 4), .box (.tmp 1), none⟩,
     ⟨(some 5), .box (.tmp 2), none⟩,
     ⟨(some 6), .mv (.const (.int .i64 0)), none⟩])
  (.seq (.reg [⟨(some 7), .pad 0 (.tmp 4), none⟩,
     ⟨(some 8), .ld none (.tmp 7), none⟩,
     ⟨(some 9), .pad 0 (.tmp 3), none⟩,
     ⟨(some 10), .ld none (.tmp 9), none⟩,
     ⟨(some 11), .bin .sub (.tmp 8) (.tmp 10), none⟩,
     ⟨(some 12), .pad 0 (.tmp 5), none⟩,
     ⟨(some 13), .ld none (.tmp 12), none⟩,
     ⟨(some 14), .pad 0 (.tmp 3), none⟩,
     ⟨(some 15), .ld none (.tmp 14), none⟩,
     ⟨(some 16), .bin .sub (.tmp 13) (.tmp 15), none⟩,
     ⟨(some 17), .bin .mul (.tmp 11) (.tmp 16), none⟩,
     ⟨(some 18), .pad 1 (.tmp 4), none⟩,
     ⟨(some 19), .ld none (.tmp 18), none⟩,
     ⟨(some 20), .pad 1 (.tmp 3), none⟩,
     ⟨(some 21), .ld none (.tmp 20), none⟩,
     ⟨(some 22), .bin .sub (.tmp 19) (.tmp 21), none⟩,
     ⟨(some 23), .pad 1 (.tmp 5), none⟩,
     ⟨(some 24), .ld none (.tmp 23), none⟩,
     ⟨(some 25), .pad 1 (.tmp 3), none⟩,
     ⟨(some 26), .ld none (.tmp 25), none⟩,
     ⟨(some 27), .bin .sub (.tmp 24) (.tmp 26), none⟩,
     ⟨(some 28), .bin .mul (.tmp 22) (.tmp 27), none⟩,
     ⟨(some 29), .bin .add (.tmp 17) (.tmp 28), none⟩,
     ⟨(some 6), .mv (.tmp 29), none⟩])
  .ret))
def glyphicref1_Dot.f (a0_X : Int) (a0_Y : Int) (b1_X : Int) (b1_Y : Int) (p2_X : Int) (p2_Y : Int) : Option (Int) := some (wr64 ((wr64 ((wr64 (b1_X - a0_X)) * (wr64 (p2_X - a0_X)))) + (wr64 ((wr64 (b1_Y - a0_Y)) * (wr64 (p2_Y - a0_Y))))))
theorem glyphicref1_Dot.ok {S : Seal} {a0_X : Int} {a0_Y : Int} {b1_X : Int} {b1_Y : Int} {p2_X : Int} {p2_Y : Int} {r0_ : Int}(e : glyphicref1_Dot.f a0_X a0_Y b1_X b1_Y p2_X p2_Y = some r0_) :
    Cal Try.prog 77 [.agg #[.int .i64 a0_X, .int .i64 a0_Y], .agg #[.int .i64 b1_X, .int .i64 b1_Y], .agg #[.int .i64 p2_X, .int .i64 p2_Y]] [] S fun v H' S' => v = .int .i64 r0_ ∧ H' = [] ∧ S' = S := by
  unfold glyphicref1_Dot.f at e
  refine cal_of (c := c77) (N := 30) Try.func77 rfl rfl (by kernel_rfl) (rs := [.t 6]) (by kernel_rfl) (Nat.le_of_ble_eq_true rfl) ?_
  unfold c77
  refine w_seq ?_
  refine w_reg fun all => ?_
  refine t_a (.box rfl rfl rfl) fun b487 fb487 sb487 => ?_
  refine t_a (.box rfl rfl rfl) fun b488 fb488 sb488 => ?_
  refine t_a (.box rfl rfl rfl) fun b489 fb489 sb489 => ?_
  refine t_qz 1 [3, 4, 5] (σ' := [(3, .pointer (some ⟨b487, 0, none⟩)), (4, .pointer (some ⟨b488, 0, none⟩)), (5, .pointer (some ⟨b489, 0, none⟩))]) (by kernel_rfl) ?_
  refine t_end ?_
  show W _ _ _ _ _ _ _
  refine w_seq ?_
  refine w_reg fun all => ?_
  refine t_qz 1 [3, 4, 5, 7] (σ' := [(3, .pointer (some ⟨b487, 0, none⟩)), (4, .pointer (some ⟨b488, 0, none⟩)), (5, .pointer (some ⟨b489, 0, none⟩)), (7, .pointer (some ⟨b488, 0, none⟩))]) (by kernel_rfl) ?_
  refine t_v (.ld1 rfl rfl rfl (.at 1 rfl rfl)) ?_
  refine t_qz 1 [3, 4, 5, 8, 9] (σ' := [(3, .pointer (some ⟨b487, 0, none⟩)), (4, .pointer (some ⟨b488, 0, none⟩)), (5, .pointer (some ⟨b489, 0, none⟩)), (8, .int .i64 b1_X), (9, .pointer (some ⟨b487, 0, none⟩))]) (by kernel_rfl) ?_
  refine t_v (.ld1 rfl rfl rfl (.at 2 rfl rfl)) ?_
  refine t_qz 2 [3, 4, 5, 11, 12] (σ' := [(3, .pointer (some ⟨b487, 0, none⟩)), (4, .pointer (some ⟨b488, 0, none⟩)), (5, .pointer (some ⟨b489, 0, none⟩)), (11, .int .i64 (wr64 (b1_X - a0_X))), (12, .pointer (some ⟨b489, 0, none⟩))]) (by kernel_rfl) ?_
  refine t_v (.ld1 rfl rfl rfl (.at 0 rfl rfl)) ?_
  refine t_qz 1 [3, 4, 5, 11, 13, 14] (σ' := [(3, .pointer (some ⟨b487, 0, none⟩)), (4, .pointer (some ⟨b488, 0, none⟩)), (5, .pointer (some ⟨b489, 0, none⟩)), (11, .int .i64 (wr64 (b1_X - a0_X))), (13, .int .i64 p2_X), (14, .pointer (some ⟨b487, 0, none⟩))]) (by kernel_rfl) ?_
  refine t_v (.ld1 rfl rfl rfl (.at 2 rfl rfl)) ?_
  refine t_qz 3 [3, 5, 17, 18] (σ' := [(3, .pointer (some ⟨b487, 0, none⟩)), (5, .pointer (some ⟨b489, 0, none⟩)), (17, .int .i64 (wr64 ((wr64 (b1_X - a0_X)) * (wr64 (p2_X - a0_X))))), (18, .pointer (some ⟨b488, 1, none⟩))]) (by kernel_rfl) ?_
  refine t_v (.ld1 rfl rfl rfl (.at 1 rfl rfl)) ?_
  refine t_qz 1 [3, 5, 17, 19, 20] (σ' := [(3, .pointer (some ⟨b487, 0, none⟩)), (5, .pointer (some ⟨b489, 0, none⟩)), (17, .int .i64 (wr64 ((wr64 (b1_X - a0_X)) * (wr64 (p2_X - a0_X))))), (19, .int .i64 b1_Y), (20, .pointer (some ⟨b487, 1, none⟩))]) (by kernel_rfl) ?_
  refine t_v (.ld1 rfl rfl rfl (.at 2 rfl rfl)) ?_
  refine t_qz 2 [3, 17, 22, 23] (σ' := [(3, .pointer (some ⟨b487, 0, none⟩)), (17, .int .i64 (wr64 ((wr64 (b1_X - a0_X)) * (wr64 (p2_X - a0_X))))), (22, .int .i64 (wr64 (b1_Y - a0_Y))), (23, .pointer (some ⟨b489, 1, none⟩))]) (by kernel_rfl) ?_
  refine t_v (.ld1 rfl rfl rfl (.at 0 rfl rfl)) ?_
  refine t_qz 1 [17, 22, 24, 25] (σ' := [(17, .int .i64 (wr64 ((wr64 (b1_X - a0_X)) * (wr64 (p2_X - a0_X))))), (22, .int .i64 (wr64 (b1_Y - a0_Y))), (24, .int .i64 p2_Y), (25, .pointer (some ⟨b487, 1, none⟩))]) (by kernel_rfl) ?_
  refine t_v (.ld1 rfl rfl rfl (.at 2 rfl rfl)) ?_
  refine t_qz 4 [6] (σ' := [(6, .int .i64 (wr64 ((wr64 ((wr64 (b1_X - a0_X)) * (wr64 (p2_X - a0_X)))) + (wr64 ((wr64 (b1_Y - a0_Y)) * (wr64 (p2_Y - a0_Y)))))))]) (by kernel_rfl) ?_
  refine t_end ?_
  show W _ _ _ _ _ _ _
  refine w_ret ?_
  obtain rfl := Option.some.inj e
  exact ⟨[.int .i64 (wr64 ((wr64 ((wr64 (b1_X - a0_X)) * (wr64 (p2_X - a0_X)))) + (wr64 ((wr64 (b1_Y - a0_Y)) * (wr64 (p2_Y - a0_Y))))))], [], S, ⟨rfl, trivial⟩, VS.none, rfl, rfl, rfl⟩

/-- glyphicref1.Len2 -/
def c78 : C :=
  (.seq (.reg [⟨(some 2), .box (.tmp 0), none⟩,
     ⟨(some 3), .box (.tmp 1), none⟩,
     ⟨(some 4), .mv (.const (.int .i64 0)), none⟩])
  (.seq (.reg [⟨(some 5), .ld (some 2) (.tmp 2), none⟩,
     ⟨(some 6), .ld (some 2) (.tmp 3), none⟩,
     ⟨(some 7), .ld (some 2) (.tmp 3), none⟩,
     ⟨(some 8), .call 77 [(.tmp 5), (.tmp 6), (.tmp 7)], none⟩,
     ⟨(some 4), .mv (.tmp 8), none⟩])
  .ret))
def glyphicref1_Len2.f (a0_X : Int) (a0_Y : Int) (b1_X : Int) (b1_Y : Int) : Option (Int) := (glyphicref1_Dot.f a0_X a0_Y b1_X b1_Y b1_X b1_Y).bind fun t494 => (some t494)
theorem glyphicref1_Len2.ok {S : Seal} {a0_X : Int} {a0_Y : Int} {b1_X : Int} {b1_Y : Int} {r0_ : Int}(e : glyphicref1_Len2.f a0_X a0_Y b1_X b1_Y = some r0_) :
    Cal Try.prog 78 [.agg #[.int .i64 a0_X, .int .i64 a0_Y], .agg #[.int .i64 b1_X, .int .i64 b1_Y]] [] S fun v H' S' => v = .int .i64 r0_ ∧ H' = [] ∧ S' = S := by
  unfold glyphicref1_Len2.f at e
  refine cal_of (c := c78) (N := 9) Try.func78 rfl rfl (by kernel_rfl) (rs := [.t 4]) (by kernel_rfl) (Nat.le_of_ble_eq_true rfl) ?_
  unfold c78
  refine w_seq ?_
  refine w_reg fun all => ?_
  refine t_a (.box rfl rfl rfl) fun b492 fb492 sb492 => ?_
  refine t_a (.box rfl rfl rfl) fun b493 fb493 sb493 => ?_
  refine t_qz 1 [2, 3] (σ' := [(2, .pointer (some ⟨b492, 0, none⟩)), (3, .pointer (some ⟨b493, 0, none⟩))]) (by kernel_rfl) ?_
  refine t_end ?_
  show W _ _ _ _ _ _ _
  refine w_seq ?_
  refine w_reg fun all => ?_
  refine t_v (.ldn rfl rfl rfl (.at 1 rfl rfl)) ?_
  refine t_v (.ldn rfl rfl rfl (.at 0 rfl rfl)) ?_
  refine t_v (.ldn rfl rfl rfl (.at 0 rfl rfl)) ?_
  obtain ⟨t494, h495, e⟩ := bind_of e
  refine t_v (.call (vs := [.agg #[.int .i64 a0_X, .int .i64 a0_Y], .agg #[.int .i64 b1_X, .int .i64 b1_Y], .agg #[.int .i64 b1_X, .int .i64 b1_Y]]) rfl rfl (by kernel_rfl) (glyphicref1_Dot.ok h495)) ?_
  refine t_qz 1 [4] (σ' := [(4, .int .i64 t494)]) (by kernel_rfl) ?_
  refine t_end ?_
  show W _ _ _ _ _ _ _
  refine w_ret ?_
  obtain rfl := Option.some.inj e
  exact ⟨[.int .i64 t494], [], S, ⟨rfl, trivial⟩, VS.none, rfl, rfl, rfl⟩

/-- glyphicref1.Cross -/
def c80 : C :=
  (.seq (.reg [⟨(some 3), .box (.tmp 0), none⟩,
     ⟨(some 4), .box (.tmp 1), none⟩,
     ⟨(some 5), .box (.tmp 2), none⟩,
     ⟨(some 6), .mv (.const (.int .i64 0)), none⟩])
  (.seq (.reg [⟨(some 7), .pad 0 (.tmp 4), none⟩,
     ⟨(some 8), .ld none (.tmp 7), none⟩,
     ⟨(some 9), .pad 0 (.tmp 3), none⟩,
     ⟨(some 10), .ld none (.tmp 9), none⟩,
     ⟨(some 11), .bin .sub (.tmp 8) (.tmp 10), none⟩,
     ⟨(some 12), .pad 1 (.tmp 5), none⟩,
     ⟨(some 13), .ld none (.tmp 12), none⟩,
     ⟨(some 14), .pad 1 (.tmp 3), none⟩,
     ⟨(some 15), .ld none (.tmp 14), none⟩,
     ⟨(some 16), .bin .sub (.tmp 13) (.tmp 15), none⟩,
     ⟨(some 17), .bin .mul (.tmp 11) (.tmp 16), none⟩,
     ⟨(some 18), .pad 1 (.tmp 4), none⟩,
     ⟨(some 19), .ld none (.tmp 18), none⟩,
     ⟨(some 20), .pad 1 (.tmp 3), none⟩,
     ⟨(some 21), .ld none (.tmp 20), none⟩,
     ⟨(some 22), .bin .sub (.tmp 19) (.tmp 21), none⟩,
     ⟨(some 23), .pad 0 (.tmp 5), none⟩,
     ⟨(some 24), .ld none (.tmp 23), none⟩,
     ⟨(some 25), .pad 0 (.tmp 3), none⟩,
     ⟨(some 26), .ld none (.tmp 25), none⟩,
     ⟨(some 27), .bin .sub (.tmp 24) (.tmp 26), none⟩,
     ⟨(some 28), .bin .mul (.tmp 22) (.tmp 27), none⟩,
     ⟨(some 29), .bin .sub (.tmp 17) (.tmp 28), none⟩,
     ⟨(some 6), .mv (.tmp 29), none⟩])
  .ret))
def glyphicref1_Cross.f (a0_X : Int) (a0_Y : Int) (b1_X : Int) (b1_Y : Int) (p2_X : Int) (p2_Y : Int) : Option (Int) := some (wr64 ((wr64 ((wr64 (b1_X - a0_X)) * (wr64 (p2_Y - a0_Y)))) - (wr64 ((wr64 (b1_Y - a0_Y)) * (wr64 (p2_X - a0_X))))))
theorem glyphicref1_Cross.ok {S : Seal} {a0_X : Int} {a0_Y : Int} {b1_X : Int} {b1_Y : Int} {p2_X : Int} {p2_Y : Int} {r0_ : Int}(e : glyphicref1_Cross.f a0_X a0_Y b1_X b1_Y p2_X p2_Y = some r0_) :
    Cal Try.prog 80 [.agg #[.int .i64 a0_X, .int .i64 a0_Y], .agg #[.int .i64 b1_X, .int .i64 b1_Y], .agg #[.int .i64 p2_X, .int .i64 p2_Y]] [] S fun v H' S' => v = .int .i64 r0_ ∧ H' = [] ∧ S' = S := by
  unfold glyphicref1_Cross.f at e
  refine cal_of (c := c80) (N := 30) Try.func80 rfl rfl (by kernel_rfl) (rs := [.t 6]) (by kernel_rfl) (Nat.le_of_ble_eq_true rfl) ?_
  unfold c80
  refine w_seq ?_
  refine w_reg fun all => ?_
  refine t_a (.box rfl rfl rfl) fun b504 fb504 sb504 => ?_
  refine t_a (.box rfl rfl rfl) fun b505 fb505 sb505 => ?_
  refine t_a (.box rfl rfl rfl) fun b506 fb506 sb506 => ?_
  refine t_qz 1 [3, 4, 5] (σ' := [(3, .pointer (some ⟨b504, 0, none⟩)), (4, .pointer (some ⟨b505, 0, none⟩)), (5, .pointer (some ⟨b506, 0, none⟩))]) (by kernel_rfl) ?_
  refine t_end ?_
  show W _ _ _ _ _ _ _
  refine w_seq ?_
  refine w_reg fun all => ?_
  refine t_qz 1 [3, 4, 5, 7] (σ' := [(3, .pointer (some ⟨b504, 0, none⟩)), (4, .pointer (some ⟨b505, 0, none⟩)), (5, .pointer (some ⟨b506, 0, none⟩)), (7, .pointer (some ⟨b505, 0, none⟩))]) (by kernel_rfl) ?_
  refine t_v (.ld1 rfl rfl rfl (.at 1 rfl rfl)) ?_
  refine t_qz 1 [3, 4, 5, 8, 9] (σ' := [(3, .pointer (some ⟨b504, 0, none⟩)), (4, .pointer (some ⟨b505, 0, none⟩)), (5, .pointer (some ⟨b506, 0, none⟩)), (8, .int .i64 b1_X), (9, .pointer (some ⟨b504, 0, none⟩))]) (by kernel_rfl) ?_
  refine t_v (.ld1 rfl rfl rfl (.at 2 rfl rfl)) ?_
  refine t_qz 2 [3, 4, 5, 11, 12] (σ' := [(3, .pointer (some ⟨b504, 0, none⟩)), (4, .pointer (some ⟨b505, 0, none⟩)), (5, .pointer (some ⟨b506, 0, none⟩)), (11, .int .i64 (wr64 (b1_X - a0_X))), (12, .pointer (some ⟨b506, 1, none⟩))]) (by kernel_rfl) ?_
  refine t_v (.ld1 rfl rfl rfl (.at 0 rfl rfl)) ?_
  refine t_qz 1 [3, 4, 5, 11, 13, 14] (σ' := [(3, .pointer (some ⟨b504, 0, none⟩)), (4, .pointer (some ⟨b505, 0, none⟩)), (5, .pointer (some ⟨b506, 0, none⟩)), (11, .int .i64 (wr64 (b1_X - a0_X))), (13, .int .i64 p2_Y), (14, .pointer (some ⟨b504, 1, none⟩))]) (by kernel_rfl) ?_
  refine t_v (.ld1 rfl rfl rfl (.at 2 rfl rfl)) ?_
  refine t_qz 3 [3, 5, 17, 18] (σ' := [(3, .pointer (some ⟨b504, 0, none⟩)), (5, .pointer (some ⟨b506, 0, none⟩)), (17, .int .i64 (wr64 ((wr64 (b1_X - a0_X)) * (wr64 (p2_Y - a0_Y))))), (18, .pointer (some ⟨b505, 1, none⟩))]) (by kernel_rfl) ?_
  refine t_v (.ld1 rfl rfl rfl (.at 1 rfl rfl)) ?_
  refine t_qz 1 [3, 5, 17, 19, 20] (σ' := [(3, .pointer (some ⟨b504, 0, none⟩)), (5, .pointer (some ⟨b506, 0, none⟩)), (17, .int .i64 (wr64 ((wr64 (b1_X - a0_X)) * (wr64 (p2_Y - a0_Y))))), (19, .int .i64 b1_Y), (20, .pointer (some ⟨b504, 1, none⟩))]) (by kernel_rfl) ?_
  refine t_v (.ld1 rfl rfl rfl (.at 2 rfl rfl)) ?_
  refine t_qz 2 [3, 17, 22, 23] (σ' := [(3, .pointer (some ⟨b504, 0, none⟩)), (17, .int .i64 (wr64 ((wr64 (b1_X - a0_X)) * (wr64 (p2_Y - a0_Y))))), (22, .int .i64 (wr64 (b1_Y - a0_Y))), (23, .pointer (some ⟨b506, 0, none⟩))]) (by kernel_rfl) ?_
  refine t_v (.ld1 rfl rfl rfl (.at 0 rfl rfl)) ?_
  refine t_qz 1 [17, 22, 24, 25] (σ' := [(17, .int .i64 (wr64 ((wr64 (b1_X - a0_X)) * (wr64 (p2_Y - a0_Y))))), (22, .int .i64 (wr64 (b1_Y - a0_Y))), (24, .int .i64 p2_X), (25, .pointer (some ⟨b504, 0, none⟩))]) (by kernel_rfl) ?_
  refine t_v (.ld1 rfl rfl rfl (.at 2 rfl rfl)) ?_
  refine t_qz 4 [6] (σ' := [(6, .int .i64 (wr64 ((wr64 ((wr64 (b1_X - a0_X)) * (wr64 (p2_Y - a0_Y)))) - (wr64 ((wr64 (b1_Y - a0_Y)) * (wr64 (p2_X - a0_X)))))))]) (by kernel_rfl) ?_
  refine t_end ?_
  show W _ _ _ _ _ _ _
  refine w_ret ?_
  obtain rfl := Option.some.inj e
  exact ⟨[.int .i64 (wr64 ((wr64 ((wr64 (b1_X - a0_X)) * (wr64 (p2_Y - a0_Y)))) - (wr64 ((wr64 (b1_Y - a0_Y)) * (wr64 (p2_X - a0_X))))))], [], S, ⟨rfl, trivial⟩, VS.none, rfl, rfl, rfl⟩

/-- glyphicref1.size -/
def c79 : C :=
  (.seq (.reg [⟨(some 2), .mv (.const (.int .u64 0)), none⟩])
  (.seq (.seq (.reg [⟨(some 3), .mv (.tmp 0), none⟩,
      ⟨(some 4), .bin .lss (.tmp 3) (.const (.int .i64 0)), none⟩])
   (.cond (.tmp 4)
    (.seq (.reg [⟨(some 5), .mv (.tmp 0), none⟩,
        ⟨(some 6), .bin .add (.tmp 5) (.const (.int .i64 1)), none⟩,
        ⟨(some 7), .un .neg (.tmp 6), none⟩,
        ⟨(some 8), .cnv .u64 (.tmp 7), none⟩,
        ⟨(some 9), .bin .add (.tmp 8) (.const (.int .u64 1)), none⟩,
        ⟨(some 2), .mv (.tmp 9), none⟩])
     .ret)
    .skip))
  (.seq (.reg [⟨(some 10), .mv (.tmp 0), none⟩,
     ⟨(some 11), .cnv .u64 (.tmp 10), none⟩,
     ⟨(some 2), .mv (.tmp 11), none⟩])
  .ret)))
def glyphicref1_size.f (n0 : Int) : Option (Int) := if n0 < 0 then (some (wru64 ((wru64 (wr64 (0 - (wr64 (n0 + 1))))) + 1))) else (some (wru64 n0))
theorem glyphicref1_size.ok {S : Seal} {n0 : Int} {r0_ : Int}(e : glyphicref1_size.f n0 = some r0_) :
    Cal Try.prog 79 [.int .i64 n0] [] S fun v H' S' => v = .int .u64 r0_ ∧ H' = [] ∧ S' = S := by
  unfold glyphicref1_size.f at e
  refine cal_of (c := c79) (N := 12) Try.func79 rfl rfl (by kernel_rfl) (rs := [.t 2]) (by kernel_rfl) (Nat.le_of_ble_eq_true rfl) ?_
  unfold c79
  refine w_seq ?_
  refine w_reg fun all => ?_
  refine t_qz 1 [0] (σ' := [(0, .int .i64 n0)]) (by kernel_rfl) ?_
  refine t_end ?_
  show W _ _ _ _ _ _ _
  refine w_seq ?_
  refine w_seq ?_
  refine w_reg fun all => ?_
  by_cases c509 : n0 < 0
  · rw [if_pos c509] at e
    have c509b : (decide (n0 < 0)) = true := decide_eq_true c509
    refine t_qz 1 [0, 3] (σ' := [(0, .int .i64 n0), (3, .int .i64 n0)]) (by kernel_rfl) ?_
    refine t_v (dv_quiet rfl (congrArg (fun t => some (Value.bool t)) c509b)) ?_
    refine t_keep [0, 4] (σ' := [(0, .int .i64 n0), (4, .bool true)]) (by kernel_rfl) ?_
    refine t_end ?_
    show W _ _ _ _ _ _ _
    refine w_cond rfl (fun _ => ?_) (fun c_ => by cases c_)
    show W _ _ _ _ _ _ _
    refine w_seq ?_
    refine w_reg fun all => ?_
    refine t_qz 6 [2] (σ' := [(2, .int .u64 (wru64 ((wru64 (wr64 (0 - (wr64 (n0 + 1))))) + 1)))]) (by kernel_rfl) ?_
    refine t_end ?_
    show W _ _ _ _ _ _ _
    refine w_ret ?_
    obtain rfl := Option.some.inj e
    exact ⟨[.int .u64 (wru64 ((wru64 (wr64 (0 - (wr64 (n0 + 1))))) + 1))], [], S, ⟨rfl, trivial⟩, VS.none, rfl, rfl, rfl⟩
  · rw [if_neg c509] at e
    have c509b : (decide (n0 < 0)) = false := decide_eq_false c509
    refine t_qz 1 [0, 3] (σ' := [(0, .int .i64 n0), (3, .int .i64 n0)]) (by kernel_rfl) ?_
    refine t_v (dv_quiet rfl (congrArg (fun t => some (Value.bool t)) c509b)) ?_
    refine t_keep [0, 4] (σ' := [(0, .int .i64 n0), (4, .bool false)]) (by kernel_rfl) ?_
    refine t_end ?_
    show W _ _ _ _ _ _ _
    refine w_cond rfl (fun c_ => by cases c_) (fun _ => ?_)
    show W _ _ _ _ _ _ _
    refine w_skip ?_
    show W _ _ _ _ _ _ _
    refine w_seq ?_
    refine w_reg fun all => ?_
    refine t_qz 3 [2] (σ' := [(2, .int .u64 (wru64 n0))]) (by kernel_rfl) ?_
    refine t_end ?_
    show W _ _ _ _ _ _ _
    refine w_ret ?_
    obtain rfl := Option.some.inj e
    exact ⟨[.int .u64 (wru64 n0)], [], S, ⟨rfl, trivial⟩, VS.none, rfl, rfl, rfl⟩

/-- glyphicref1.Near -/
def c39 : C :=
  (.seq (.reg [⟨(some 4), .box (.tmp 0), none⟩,
     ⟨(some 5), .box (.tmp 1), none⟩,
     ⟨(some 6), .box (.tmp 2), none⟩,
     ⟨(some 8), .mv (.const (.bool false)), none⟩])
  (.seq (.reg [⟨(some 16), .ld (some 2) (.tmp 4), none⟩,
     ⟨(some 17), .ld (some 2) (.tmp 5), none⟩,
     ⟨(some 18), .ld (some 2) (.tmp 6), none⟩,
     ⟨(some 19), .call 77 [(.tmp 16), (.tmp 17), (.tmp 18)], none⟩,
     ⟨(some 9), .mv (.tmp 19), none⟩])
  (.seq (.reg [⟨(some 20), .ld (some 2) (.tmp 4), none⟩,
     ⟨(some 21), .ld (some 2) (.tmp 5), none⟩,
     ⟨(some 22), .call 78 [(.tmp 20), (.tmp 21)], none⟩,
     ⟨(some 10), .mv (.tmp 22), none⟩])
  (.seq (.block 0 (.seq (.reg [⟨(some 24), .mv (.tmp 9), none⟩,
       ⟨(some 25), .bin .leq (.tmp 24) (.const (.int .i64 0)), none⟩,
       ⟨(some 23), .mv (.tmp 25), none⟩])
    (.cond (.tmp 23)
     (.seq (.reg [⟨(some 26), .ld (some 2) (.tmp 4), none⟩,
         ⟨(some 27), .ld (some 2) (.tmp 6), none⟩,
         ⟨(some 28), .call 78 [(.tmp 26), (.tmp 27)], none⟩,
         ⟨(some 29), .mv (.tmp 3), none⟩,
         ⟨(some 30), .mv (.tmp 3), none⟩,
         ⟨(some 31), .bin .mul (.tmp 29) (.tmp 30), none⟩,
         ⟨(some 32), .bin .quo (.tmp 31) (.const (.int .i64 4)), none⟩,
         ⟨(some 33), .bin .leq (.tmp 28) (.tmp 32), none⟩,
         ⟨(some 8), .mv (.tmp 33), none⟩])
      .ret)
     (.seq (.reg [⟨(some 35), .mv (.tmp 9), none⟩,
         ⟨(some 36), .mv (.tmp 10), none⟩,
         ⟨(some 37), .bin .geq (.tmp 35) (.tmp 36), none⟩,
         ⟨(some 34), .mv (.tmp 37), none⟩])
      (.cond (.tmp 34)
       (.seq (.reg [⟨(some 38), .ld (some 2) (.tmp 5), none⟩,
           ⟨(some 39), .ld (some 2) (.tmp 6), none⟩,
           ⟨(some 40), .call 78 [(.tmp 38), (.tmp 39)], none⟩,
           ⟨(some 41), .mv (.tmp 3), none⟩,
           ⟨(some 42), .mv (.tmp 3), none⟩,
           ⟨(some 43), .bin .mul (.tmp 41) (.tmp 42), none⟩,
           ⟨(some 44), .bin .quo (.tmp 43) (.const (.int .i64 4)), none⟩,
           ⟨(some 45), .bin .leq (.tmp 40) (.tmp 44), none⟩,
           ⟨(some 8), .mv (.tmp 45), none⟩])
        .ret)
       .skip)))))
  (.seq (.reg [⟨(some 46), .ld (some 2) (.tmp 4), none⟩,
     ⟨(some 47), .ld (some 2) (.tmp 5), none⟩,
     ⟨(some 48), .ld (some 2) (.tmp 6), none⟩,
     ⟨(some 49), .call 80 [(.tmp 46), (.tmp 47), (.tmp 48)], none⟩,
     ⟨(some 50), .call 79 [(.tmp 49)], none⟩,
     ⟨(some 11), .mv (.tmp 50), none⟩])
  (.seq (.reg [⟨(some 52), .mv (.tmp 11), none⟩,
     ⟨(some 53), .bin .mul (.const (.int .u64 2)) (.tmp 52), none⟩,
     ⟨(some 54), .mv (.tmp 11), none⟩,
     ⟨(some 55), .bin .mul (.const (.int .u64 2)) (.tmp 54), none⟩,
     ⟨(some 56), .call 81 [(.tmp 53), (.tmp 55)], none⟩,
     ⟨(some 51), .mv (.tmp 56), none⟩,
     ⟨(some 57), .xt 0 (.tmp 51), none⟩,
     ⟨(some 58), .xt 1 (.tmp 51), none⟩,
     ⟨(some 12), .mv (.tmp 57), none⟩,
     ⟨(some 13), .mv (.tmp 58), none⟩])
  (.seq (.reg [⟨(some 60), .mv (.tmp 3), none⟩,
     ⟨(some 61), .mv (.tmp 3), none⟩,
     ⟨(some 62), .bin .mul (.tmp 60) (.tmp 61), none⟩,
     ⟨(some 63), .cnv .u64 (.tmp 62), none⟩,
     ⟨(some 64), .mv (.tmp 10), none⟩,
     ⟨(some 65), .cnv .u64 (.tmp 64), none⟩,
     ⟨(some 66), .call 81 [(.tmp 63), (.tmp 65)], none⟩,
     ⟨(some 59), .mv (.tmp 66), none⟩,
     ⟨(some 67), .xt 0 (.tmp 59), none⟩,
     ⟨(some 68), .xt 1 (.tmp 59), none⟩,
     ⟨(some 14), .mv (.tmp 67), none⟩,
     ⟨(some 15), .mv (.tmp 68), none⟩])
  (.seq (.reg [⟨(some 69), .mv (.tmp 12), none⟩,
     ⟨(some 70), .mv (.tmp 14), none⟩,
     ⟨(some 71), .bin .lss (.tmp 69) (.tmp 70), none⟩,
     ⟨(some 72), .mv (.tmp 71), none⟩,
     ⟨(some 73), .mv (.tmp 12), (some (72, false))⟩,
     ⟨(some 74), .mv (.tmp 14), (some (72, false))⟩,
     ⟨(some 75), .bin .eql (.tmp 73) (.tmp 74), (some (72, false))⟩,
     ⟨(some 76), .mv (.tmp 75), (some (72, false))⟩,
     ⟨(some 77), .mv (.tmp 13), (some (76, true))⟩,
     ⟨(some 78), .mv (.tmp 15), (some (76, true))⟩,
     ⟨(some 79), .bin .leq (.tmp 77) (.tmp 78), (some (76, true))⟩,
     ⟨(some 80), .pk (.tmp 76) (.tmp 79) (.const (.bool false)), (some (72, false))⟩,
     ⟨(some 81), .pk (.tmp 72) (.const (.bool true)) (.tmp 80), none⟩,
     ⟨(some 8), .mv (.tmp 81), none⟩])
  .ret))))))))
def glyphicref1_Near.f (a0_X : Int) (a0_Y : Int) (b1_X : Int) (b1_Y : Int) (p2_X : Int) (p2_Y : Int) (w3 : Int) : Option (Bool) := (glyphicref1_Dot.f a0_X a0_Y b1_X b1_Y p2_X p2_Y).bind fun t490 => ((glyphicref1_Len2.f a0_X a0_Y b1_X b1_Y).bind fun t496 => (if t490 ≤ 0 then ((glyphicref1_Len2.f a0_X a0_Y p2_X p2_Y).bind fun t499 => (some (decide (t499 ≤ (wr64 (Int.tdiv (wr64 (w3 * w3)) 4)))))) else (if t490 ≥ t496 then ((glyphicref1_Len2.f b1_X b1_Y p2_X p2_Y).bind fun t502 => (some (decide (t502 ≤ (wr64 (Int.tdiv (wr64 (w3 * w3)) 4)))))) else ((glyphicref1_Cross.f a0_X a0_Y b1_X b1_Y p2_X p2_Y).bind fun t507 => ((glyphicref1_size.f t507).bind fun t510 => ((bits_Mul64.f (wru64 (2 * t510)) (wru64 (2 * t510))).bind fun (t512, t513) => ((bits_Mul64.f (wru64 (wr64 (w3 * w3))) (wru64 t496)).bind fun (t515, t516) => (if t512 < t515 then (some true) else (if t512 = t515 then (some (decide (t513 ≤ t516))) else (some false))))))))))
theorem glyphicref1_Near.ok {S : Seal} {a0_X : Int} {a0_Y : Int} {b1_X : Int} {b1_Y : Int} {p2_X : Int} {p2_Y : Int} {w3 : Int} {r0_ : Bool}(e : glyphicref1_Near.f a0_X a0_Y b1_X b1_Y p2_X p2_Y w3 = some r0_) :
    Cal Try.prog 39 [.agg #[.int .i64 a0_X, .int .i64 a0_Y], .agg #[.int .i64 b1_X, .int .i64 b1_Y], .agg #[.int .i64 p2_X, .int .i64 p2_Y], .int .i64 w3] [] S fun v H' S' => v = .bool r0_ ∧ H' = [] ∧ S' = S := by
  unfold glyphicref1_Near.f at e
  refine cal_of (c := c39) (N := 82) Try.func39 rfl rfl (by kernel_rfl) (rs := [.t 8]) (by kernel_rfl) (Nat.le_of_ble_eq_true rfl) ?_
  unfold c39
  refine w_seq ?_
  refine w_reg fun all => ?_
  refine t_a (.box rfl rfl rfl) fun b484 fb484 sb484 => ?_
  refine t_a (.box rfl rfl rfl) fun b485 fb485 sb485 => ?_
  refine t_a (.box rfl rfl rfl) fun b486 fb486 sb486 => ?_
  refine t_qz 1 [3, 4, 5, 6] (σ' := [(3, .int .i64 w3), (4, .pointer (some ⟨b484, 0, none⟩)), (5, .pointer (some ⟨b485, 0, none⟩)), (6, .pointer (some ⟨b486, 0, none⟩))]) (by kernel_rfl) ?_
  refine t_end ?_
  show W _ _ _ _ _ _ _
  refine w_seq ?_
  refine w_reg fun all => ?_
  refine t_v (.ldn rfl rfl rfl (.at 2 rfl rfl)) ?_
  refine t_v (.ldn rfl rfl rfl (.at 1 rfl rfl)) ?_
  refine t_v (.ldn rfl rfl rfl (.at 0 rfl rfl)) ?_
  obtain ⟨t490, h491, e⟩ := bind_of e
  refine t_v (.call (vs := [.agg #[.int .i64 a0_X, .int .i64 a0_Y], .agg #[.int .i64 b1_X, .int .i64 b1_Y], .agg #[.int .i64 p2_X, .int .i64 p2_Y]]) rfl rfl (by kernel_rfl) (glyphicref1_Dot.ok h491)) ?_
  refine t_qz 1 [3, 4, 5, 6, 9] (σ' := [(3, .int .i64 w3), (4, .pointer (some ⟨b484, 0, none⟩)), (5, .pointer (some ⟨b485, 0, none⟩)), (6, .pointer (some ⟨b486, 0, none⟩)), (9, .int .i64 t490)]) (by kernel_rfl) ?_
  refine t_end ?_
  show W _ _ _ _ _ _ _
  refine w_seq ?_
  refine w_reg fun all => ?_
  refine t_v (.ldn rfl rfl rfl (.at 2 rfl rfl)) ?_
  refine t_v (.ldn rfl rfl rfl (.at 1 rfl rfl)) ?_
  obtain ⟨t496, h497, e⟩ := bind_of e
  refine t_v (.call (vs := [.agg #[.int .i64 a0_X, .int .i64 a0_Y], .agg #[.int .i64 b1_X, .int .i64 b1_Y]]) rfl rfl (by kernel_rfl) (glyphicref1_Len2.ok h497)) ?_
  refine t_qz 1 [3, 4, 5, 6, 9, 10] (σ' := [(3, .int .i64 w3), (4, .pointer (some ⟨b484, 0, none⟩)), (5, .pointer (some ⟨b485, 0, none⟩)), (6, .pointer (some ⟨b486, 0, none⟩)), (9, .int .i64 t490), (10, .int .i64 t496)]) (by kernel_rfl) ?_
  refine t_end ?_
  show W _ _ _ _ _ _ _
  refine w_seq ?_
  refine w_block ?_
  refine w_seq ?_
  refine w_reg fun all => ?_
  by_cases c498 : t490 ≤ 0
  · rw [if_pos c498] at e
    have c498b : (decide (t490 ≤ 0)) = true := decide_eq_true c498
    refine t_qz 1 [3, 4, 5, 6, 9, 10, 24] (σ' := [(3, .int .i64 w3), (4, .pointer (some ⟨b484, 0, none⟩)), (5, .pointer (some ⟨b485, 0, none⟩)), (6, .pointer (some ⟨b486, 0, none⟩)), (9, .int .i64 t490), (10, .int .i64 t496), (24, .int .i64 t490)]) (by kernel_rfl) ?_
    refine t_v (dv_quiet rfl (congrArg (fun t => some (Value.bool t)) c498b)) ?_
    refine t_qz 1 [3, 4, 5, 6, 9, 10, 23] (σ' := [(3, .int .i64 w3), (4, .pointer (some ⟨b484, 0, none⟩)), (5, .pointer (some ⟨b485, 0, none⟩)), (6, .pointer (some ⟨b486, 0, none⟩)), (9, .int .i64 t490), (10, .int .i64 t496), (23, .bool true)]) (by kernel_rfl) ?_
    refine t_end ?_
    show W _ _ _ _ _ _ _
    refine w_cond rfl (fun _ => ?_) (fun c_ => by cases c_)
    show W _ _ _ _ _ _ _
    refine w_seq ?_
    refine w_reg fun all => ?_
    refine t_v (.ldn rfl rfl rfl (.at 2 rfl rfl)) ?_
    refine t_v (.ldn rfl rfl rfl (.at 0 rfl rfl)) ?_
    obtain ⟨t499, h500, e⟩ := bind_of e
    refine t_v (.call (vs := [.agg #[.int .i64 a0_X, .int .i64 a0_Y], .agg #[.int .i64 p2_X, .int .i64 p2_Y]]) rfl rfl (by kernel_rfl) (glyphicref1_Len2.ok h500)) ?_
    refine t_qz 6 [8] (σ' := [(8, .bool (decide (t499 ≤ (wr64 (Int.tdiv (wr64 (w3 * w3)) 4)))))]) (by kernel_rfl) ?_
    refine t_end ?_
    show W _ _ _ _ _ _ _
    refine w_ret ?_
    obtain rfl := Option.some.inj e
    exact ⟨[.bool (decide (t499 ≤ (wr64 (Int.tdiv (wr64 (w3 * w3)) 4))))], [], S, ⟨rfl, trivial⟩, VS.none, rfl, rfl, rfl⟩
  · rw [if_neg c498] at e
    have c498b : (decide (t490 ≤ 0)) = false := decide_eq_false c498
    refine t_qz 1 [3, 4, 5, 6, 9, 10, 24] (σ' := [(3, .int .i64 w3), (4, .pointer (some ⟨b484, 0, none⟩)), (5, .pointer (some ⟨b485, 0, none⟩)), (6, .pointer (some ⟨b486, 0, none⟩)), (9, .int .i64 t490), (10, .int .i64 t496), (24, .int .i64 t490)]) (by kernel_rfl) ?_
    refine t_v (dv_quiet rfl (congrArg (fun t => some (Value.bool t)) c498b)) ?_
    refine t_qz 1 [3, 4, 5, 6, 9, 10, 23] (σ' := [(3, .int .i64 w3), (4, .pointer (some ⟨b484, 0, none⟩)), (5, .pointer (some ⟨b485, 0, none⟩)), (6, .pointer (some ⟨b486, 0, none⟩)), (9, .int .i64 t490), (10, .int .i64 t496), (23, .bool false)]) (by kernel_rfl) ?_
    refine t_end ?_
    show W _ _ _ _ _ _ _
    refine w_cond rfl (fun c_ => by cases c_) (fun _ => ?_)
    show W _ _ _ _ _ _ _
    refine w_seq ?_
    refine w_reg fun all => ?_
    by_cases c501 : t490 ≥ t496
    · rw [if_pos c501] at e
      have c501b : (decide (t490 ≥ t496)) = true := decide_eq_true c501
      refine t_qz 2 [3, 4, 5, 6, 10, 35, 36] (σ' := [(3, .int .i64 w3), (4, .pointer (some ⟨b484, 0, none⟩)), (5, .pointer (some ⟨b485, 0, none⟩)), (6, .pointer (some ⟨b486, 0, none⟩)), (10, .int .i64 t496), (35, .int .i64 t490), (36, .int .i64 t496)]) (by kernel_rfl) ?_
      refine t_v (dv_quiet rfl (congrArg (fun t => some (Value.bool t)) c501b)) ?_
      refine t_qz 1 [3, 4, 5, 6, 10, 34] (σ' := [(3, .int .i64 w3), (4, .pointer (some ⟨b484, 0, none⟩)), (5, .pointer (some ⟨b485, 0, none⟩)), (6, .pointer (some ⟨b486, 0, none⟩)), (10, .int .i64 t496), (34, .bool true)]) (by kernel_rfl) ?_
      refine t_end ?_
      show W _ _ _ _ _ _ _
      refine w_cond rfl (fun _ => ?_) (fun c_ => by cases c_)
      show W _ _ _ _ _ _ _
      refine w_seq ?_
      refine w_reg fun all => ?_
      refine t_v (.ldn rfl rfl rfl (.at 1 rfl rfl)) ?_
      refine t_v (.ldn rfl rfl rfl (.at 0 rfl rfl)) ?_
      obtain ⟨t502, h503, e⟩ := bind_of e
      refine t_v (.call (vs := [.agg #[.int .i64 b1_X, .int .i64 b1_Y], .agg #[.int .i64 p2_X, .int .i64 p2_Y]]) rfl rfl (by kernel_rfl) (glyphicref1_Len2.ok h503)) ?_
      refine t_qz 6 [8] (σ' := [(8, .bool (decide (t502 ≤ (wr64 (Int.tdiv (wr64 (w3 * w3)) 4)))))]) (by kernel_rfl) ?_
      refine t_end ?_
      show W _ _ _ _ _ _ _
      refine w_ret ?_
      obtain rfl := Option.some.inj e
      exact ⟨[.bool (decide (t502 ≤ (wr64 (Int.tdiv (wr64 (w3 * w3)) 4))))], [], S, ⟨rfl, trivial⟩, VS.none, rfl, rfl, rfl⟩
    · rw [if_neg c501] at e
      have c501b : (decide (t490 ≥ t496)) = false := decide_eq_false c501
      refine t_qz 2 [3, 4, 5, 6, 10, 35, 36] (σ' := [(3, .int .i64 w3), (4, .pointer (some ⟨b484, 0, none⟩)), (5, .pointer (some ⟨b485, 0, none⟩)), (6, .pointer (some ⟨b486, 0, none⟩)), (10, .int .i64 t496), (35, .int .i64 t490), (36, .int .i64 t496)]) (by kernel_rfl) ?_
      refine t_v (dv_quiet rfl (congrArg (fun t => some (Value.bool t)) c501b)) ?_
      refine t_qz 1 [3, 4, 5, 6, 10, 34] (σ' := [(3, .int .i64 w3), (4, .pointer (some ⟨b484, 0, none⟩)), (5, .pointer (some ⟨b485, 0, none⟩)), (6, .pointer (some ⟨b486, 0, none⟩)), (10, .int .i64 t496), (34, .bool false)]) (by kernel_rfl) ?_
      refine t_end ?_
      show W _ _ _ _ _ _ _
      refine w_cond rfl (fun c_ => by cases c_) (fun _ => ?_)
      show W _ _ _ _ _ _ _
      refine w_skip ?_
      show W _ _ _ _ _ _ _
      refine w_seq ?_
      refine w_reg fun all => ?_
      refine t_v (.ldn rfl rfl rfl (.at 2 rfl rfl)) ?_
      refine t_v (.ldn rfl rfl rfl (.at 1 rfl rfl)) ?_
      refine t_v (.ldn rfl rfl rfl (.at 0 rfl rfl)) ?_
      obtain ⟨t507, h508, e⟩ := bind_of e
      refine t_v (.call (vs := [.agg #[.int .i64 a0_X, .int .i64 a0_Y], .agg #[.int .i64 b1_X, .int .i64 b1_Y], .agg #[.int .i64 p2_X, .int .i64 p2_Y]]) rfl rfl (by kernel_rfl) (glyphicref1_Cross.ok h508)) ?_
      obtain ⟨t510, h511, e⟩ := bind_of e
      refine t_v (.call (vs := [.int .i64 t507]) rfl rfl (by kernel_rfl) (glyphicref1_size.ok h511)) ?_
      refine t_qz 1 [3, 10, 11] (σ' := [(3, .int .i64 w3), (10, .int .i64 t496), (11, .int .u64 t510)]) (by kernel_rfl) ?_
      refine t_end ?_
      show W _ _ _ _ _ _ _
      refine w_seq ?_
      refine w_reg fun all => ?_
      obtain ⟨⟨t512, t513⟩, h514, e⟩ := bind_of e
      try dsimp only at e
      refine t_qz 4 [3, 10, 53, 55] (σ' := [(3, .int .i64 w3), (10, .int .i64 t496), (53, .int .u64 (wru64 (2 * t510))), (55, .int .u64 (wru64 (2 * t510)))]) (by kernel_rfl) ?_
      refine t_v (.call (vs := [.int .u64 (wru64 (2 * t510)), .int .u64 (wru64 (2 * t510))]) rfl rfl (by kernel_rfl) (bits_Mul64.ok h514)) ?_
      refine t_qz 5 [3, 10, 12, 13] (σ' := [(3, .int .i64 w3), (10, .int .i64 t496), (12, .int .u64 t512), (13, .int .u64 t513)]) (by kernel_rfl) ?_
      refine t_end ?_
      show W _ _ _ _ _ _ _
      refine w_seq ?_
      refine w_reg fun all => ?_
      obtain ⟨⟨t515, t516⟩, h517, e⟩ := bind_of e
      try dsimp only at e
      refine t_qz 6 [12, 13, 63, 65] (σ' := [(12, .int .u64 t512), (13, .int .u64 t513), (63, .int .u64 (wru64 (wr64 (w3 * w3)))), (65, .int .u64 (wru64 t496))]) (by kernel_rfl) ?_
      refine t_v (.call (vs := [.int .u64 (wru64 (wr64 (w3 * w3))), .int .u64 (wru64 t496)]) rfl rfl (by kernel_rfl) (bits_Mul64.ok h517)) ?_
      refine t_qz 5 [12, 13, 14, 15] (σ' := [(12, .int .u64 t512), (13, .int .u64 t513), (14, .int .u64 t515), (15, .int .u64 t516)]) (by kernel_rfl) ?_
      refine t_end ?_
      show W _ _ _ _ _ _ _
      refine w_seq ?_
      refine w_reg fun all => ?_
      by_cases c518 : t512 < t515
      · rw [if_pos c518] at e
        have c518b : (decide (t512 < t515)) = true := decide_eq_true c518
        refine t_qz 2 [12, 13, 14, 15, 69, 70] (σ' := [(12, .int .u64 t512), (13, .int .u64 t513), (14, .int .u64 t515), (15, .int .u64 t516), (69, .int .u64 t512), (70, .int .u64 t515)]) (by kernel_rfl) ?_
        refine t_v (dv_quiet rfl (congrArg (fun t => some (Value.bool t)) c518b)) ?_
        refine t_qz 11 [8] (σ' := [(8, .bool true)]) (by kernel_rfl) ?_
        refine t_end ?_
        show W _ _ _ _ _ _ _
        refine w_ret ?_
        obtain rfl := Option.some.inj e
        exact ⟨[.bool true], [], S, ⟨rfl, trivial⟩, VS.none, rfl, rfl, rfl⟩
      · rw [if_neg c518] at e
        have c518b : (decide (t512 < t515)) = false := decide_eq_false c518
        refine t_qz 2 [12, 13, 14, 15, 69, 70] (σ' := [(12, .int .u64 t512), (13, .int .u64 t513), (14, .int .u64 t515), (15, .int .u64 t516), (69, .int .u64 t512), (70, .int .u64 t515)]) (by kernel_rfl) ?_
        refine t_v (dv_quiet rfl (congrArg (fun t => some (Value.bool t)) c518b)) ?_
        by_cases c519 : t512 = t515
        · rw [if_pos c519] at e
          have c519b : (t512 == t515) = true := beq_iff_eq.mpr c519
          refine t_qz 3 [13, 15, 72, 73, 74] (σ' := [(13, .int .u64 t513), (15, .int .u64 t516), (72, .bool false), (73, .int .u64 t512), (74, .int .u64 t515)]) (by kernel_rfl) ?_
          refine t_v (dv_quiet rfl (congrArg (fun t => some (Value.bool t)) c519b)) ?_
          refine t_qz 7 [8] (σ' := [(8, .bool (decide (t513 ≤ t516)))]) (by kernel_rfl) ?_
          refine t_end ?_
          show W _ _ _ _ _ _ _
          refine w_ret ?_
          obtain rfl := Option.some.inj e
          exact ⟨[.bool (decide (t513 ≤ t516))], [], S, ⟨rfl, trivial⟩, VS.none, rfl, rfl, rfl⟩
        · rw [if_neg c519] at e
          have c519b : (t512 == t515) = false := beq_eq_false_iff_ne.mpr c519
          refine t_qz 3 [13, 15, 72, 73, 74] (σ' := [(13, .int .u64 t513), (15, .int .u64 t516), (72, .bool false), (73, .int .u64 t512), (74, .int .u64 t515)]) (by kernel_rfl) ?_
          refine t_v (dv_quiet rfl (congrArg (fun t => some (Value.bool t)) c519b)) ?_
          refine t_qz 7 [8] (σ' := [(8, .bool false)]) (by kernel_rfl) ?_
          refine t_end ?_
          show W _ _ _ _ _ _ _
          refine w_ret ?_
          obtain rfl := Option.some.inj e
          exact ⟨[.bool false], [], S, ⟨rfl, trivial⟩, VS.none, rfl, rfl, rfl⟩

/-- glyphicref20.Near -/
def c24 : C :=
  (.seq (.reg [⟨(some 5), .box (.tmp 2), none⟩,
     ⟨(some 6), .mv (.const (.bool false)), none⟩])
  (.seq (.seq (.reg [⟨(some 7), .mv (.const (.int .i64 0)), none⟩])
   (.block 0 (.loop (.seq (.seq (.reg [⟨(some 8), .mv (.tmp 7), none⟩,
         ⟨(some 9), .mv (.tmp 0), none⟩,
         ⟨(some 10), .lns (.tmp 9), none⟩,
         ⟨(some 11), .bin .lss (.tmp 8) (.tmp 10), none⟩])
      (.cond (.tmp 11)
       .skip
       (.exit 0)))
     (.seq (.block 1 (.seq (.drw [⟨(some 14), .mv (.tmp 0), none⟩,
          ⟨(some 15), .mv (.tmp 7), none⟩,
          ⟨(some 16), .ixs 4 (.tmp 14) (.tmp 15), none⟩,
          ⟨(some 17), .pad 0 (.tmp 16), none⟩,
          ⟨(some 18), .ld (some 2) (.tmp 17), none⟩,
          ⟨(some 19), .mv (.tmp 0), none⟩,
          ⟨(some 20), .mv (.tmp 7), none⟩,
          ⟨(some 21), .ixs 4 (.tmp 19) (.tmp 20), none⟩,
          ⟨(some 22), .pad 2 (.tmp 21), none⟩,
          ⟨(some 23), .ld (some 2) (.tmp 22), none⟩,
          ⟨(some 24), .ld (some 2) (.tmp 5), none⟩,
          ⟨(some 25), .mv (.tmp 1), none⟩,
          ⟨(some 26), .call 39 [(.tmp 18), (.tmp 23), (.tmp 24), (.tmp 25)], none⟩] [[], [], [0, 1], [2], [3], [], [], [5, 6], [7], [8], [], [], [4, 9, 10, 11]])
       (.cond (.tmp 26)
        (.seq (.reg [⟨(some 6), .mv (.const (.bool true)), none⟩])
         .ret)
        .skip)))
     (.reg [⟨(some 12), .mv (.tmp 7), none⟩,
       ⟨(some 13), .bin .add (.tmp 12) (.const (.int .i64 1)), none⟩,
       ⟨(some 7), .mv (.tmp 13), none⟩]))))))
  (.seq (.reg [⟨(some 6), .mv (.const (.bool false)), none⟩])
  .ret)))
def glyphicref20_Near_v1.l0 : Nat → List (Int × Int × Int × Int) → Int → Int → Int → Int → Option ((Bool) ⊕ (Unit))
  | 0, _, _, _, _, _ => none
  | k + 1, l0, w1, p2_0, p2_1, x456 => if x456 < (l0.length : Int) then ((lgt l0 x456).bind fun (x458, x459, x460, x461) => ((lgt l0 x456).bind fun (x471, x472, x473, x474) => ((glyphicref1_Near.f x458 x459 x473 x474 p2_0 p2_1 w1).bind fun t484 => (if t484 = true then (some (.inl true)) else (glyphicref20_Near_v1.l0 k l0 w1 p2_0 p2_1 (wr64 (x456 + 1))))))) else (some (.inr ()))
def glyphicref20_Near_v1.f (k : Nat) (l0 : List (Int × Int × Int × Int)) (w1 : Int) (p2_0 : Int) (p2_1 : Int) : Option (Bool) := (glyphicref20_Near_v1.l0 k l0 w1 p2_0 p2_1 0 : Option ((Bool) ⊕ (Unit))).bind fun s_ => match s_ with | .inl q488 => some q488 | .inr _ => (some false)
theorem glyphicref20_Near_v1.ok {S : Seal} {k : Nat} {l0 : List (Int × Int × Int × Int)} {w1 : Int} {p2_0 : Int} {p2_1 : Int} {r0_ : Bool}{a_l0 : Option Addr} {c_l0 : Nat} (h_l0 : SlE S E_i644 l0 a_l0) (e : glyphicref20_Near_v1.f k l0 w1 p2_0 p2_1 = some r0_) :
    Cal Try.prog 24 [.slice a_l0 l0.length c_l0, .int .i64 w1, .agg #[.int .i64 p2_0, .int .i64 p2_1]] [] S fun v H' S' => v = .bool r0_ ∧ H' = [] ∧ S' = S := by
  unfold glyphicref20_Near_v1.f at e
  refine cal_of (c := c24) (N := 27) Try.func24 rfl rfl (by kernel_rfl) (rs := [.t 6]) (by kernel_rfl) (Nat.le_of_ble_eq_true rfl) ?_
  unfold c24
  refine w_seq ?_
  refine w_reg fun all => ?_
  refine t_a (.box rfl rfl rfl) fun b452 fb452 sb452 => ?_
  refine t_qz 1 [0, 1, 5] (σ' := [(0, .slice a_l0 l0.length c_l0), (1, .int .i64 w1), (5, .pointer (some ⟨b452, 0, none⟩))]) (by kernel_rfl) ?_
  refine t_end ?_
  show W _ _ _ _ _ _ _
  obtain ⟨s455, e454, e⟩ := bind_of e
  refine w_cut [] (fun σ_ H_ S_ => ∃ u_ : Unit, s455 = .inr u_ ∧ [] = σ_ ∧ ([⟨b452, [.int .i64 p2_0, .int .i64 p2_1], 2⟩] : List Own) = H_ ∧ S = S_) ?_ ?_
  · show W _ _ _ _ _ _ _
    refine w_seq ?_
    refine w_reg fun all => ?_
    refine t_qz 1 [0, 1, 5, 7] (σ' := [(0, .slice a_l0 l0.length c_l0), (1, .int .i64 w1), (5, .pointer (some ⟨b452, 0, none⟩)), (7, .int .i64 0)]) (by kernel_rfl) ?_
    refine t_end ?_
    show W _ _ _ _ _ _ _
    refine w_block ?_
    refine w_kp [0, 1, 5, 7] (σ' := [(0, .slice a_l0 l0.length c_l0), (1, .int .i64 w1), (5, .pointer (some ⟨b452, 0, none⟩)), (7, .int .i64 0)]) (by kernel_rfl) ?_
    refine w_loop (fun n_ σ_ H_ S_ => ∃ (x456 : Int), [(0, .slice a_l0 l0.length c_l0), (1, .int .i64 w1), (5, .pointer (some ⟨b452, 0, none⟩)), (7, .int .i64 x456)] = σ_ ∧ ([⟨b452, [.int .i64 p2_0, .int .i64 p2_1], 2⟩] : List Own) = H_ ∧ S = S_ ∧ glyphicref20_Near_v1.l0 n_ l0 w1 p2_0 p2_1 x456 = some s455) _ ⟨0, rfl, rfl, rfl, e454⟩ ?_
    rintro n487 σ_ H_ S_ ⟨x456, rfl, rfl, rfl, e454⟩
    cases n487 with
    | zero => rw [glyphicref20_Near_v1.l0.eq_1] at e454; cases e454
    | succ k_ =>
      rw [glyphicref20_Near_v1.l0.eq_2] at e454
      refine w_seq ?_
      refine w_seq ?_
      refine w_reg fun all => ?_
      by_cases c457 : x456 < (l0.length : Int)
      · rw [if_pos c457] at e454
        have c457b : (decide (x456 < (l0.length : Int))) = true := decide_eq_true c457
        refine t_qz 3 [0, 1, 5, 7, 8, 10] (σ' := [(0, .slice a_l0 l0.length c_l0), (1, .int .i64 w1), (5, .pointer (some ⟨b452, 0, none⟩)), (7, .int .i64 x456), (8, .int .i64 x456), (10, .int .i64 (l0.length : Int))]) (by kernel_rfl) ?_
        refine t_v (dv_quiet rfl (congrArg (fun t => some (Value.bool t)) c457b)) ?_
        refine t_keep [0, 1, 5, 7, 11] (σ' := [(0, .slice a_l0 l0.length c_l0), (1, .int .i64 w1), (5, .pointer (some ⟨b452, 0, none⟩)), (7, .int .i64 x456), (11, .bool true)]) (by kernel_rfl) ?_
        refine t_end ?_
        show W _ _ _ _ _ _ _
        refine w_cond rfl (fun _ => ?_) (fun c_ => by cases c_)
        show W _ _ _ _ _ _ _
        refine w_skip ?_
        show W _ _ _ _ _ _ _
        refine w_seq ?_
        refine w_block ?_
        refine w_seq ?_
        obtain ⟨⟨x458, x459, x460, x461⟩, hx462, e454⟩ := bind_of e454
        try dsimp only at e454
        obtain ⟨lb463, lo464, ll465, la466, lS467, lv468, lz469, lu470⟩ := sle_get (E := E_i644) h_l0 hx462
        obtain ⟨⟨x471, x472, x473, x474⟩, hx475, e454⟩ := bind_of e454
        try dsimp only at e454
        obtain ⟨lb476, lo477, ll478, la479, lS480, lv481, lz482, lu483⟩ := sle_get (E := E_i644) h_l0 hx475
        obtain ⟨t484, h485, e454⟩ := bind_of e454
        cases t484 with
        | true =>
          rw [if_pos rfl] at e454
          refine w_drwE mixed 13 [.v (.slice a_l0 l0.length c_l0), .v (.int .i64 x456), .v (.pointer (some ⟨lb463, lo464 + (x456).toNat * 4 + 0, none⟩)), .v (.pointer (some ⟨lb463, lo464 + (x456).toNat * 4 + 0, none⟩)), .v (.agg #[.int .i64 x458, .int .i64 x459]), .v (.slice a_l0 l0.length c_l0), .v (.int .i64 x456), .v (.pointer (some ⟨lb476, lo477 + (x456).toNat * 4 + 0, none⟩)), .v (.pointer (some ⟨lb476, lo477 + (x456).toNat * 4 + 2, none⟩)), .v (.agg #[.int .i64 x473, .int .i64 x474]), .v (.agg #[.int .i64 p2_0, .int .i64 p2_1]), .v (.int .i64 w1), .v (.bool true)] (by kernel_rfl) ?_ ?_
          · refine DI.sq 2 (by kernel_rfl) rfl ?_
            refine .cons (.quiet rfl (ixs_sle rfl rfl la466 lz469 lu470)) ?_
            refine DI.sq 1 (by kernel_rfl) rfl ?_
            refine .cons (.ldn (vs := [.int .i64 x458, .int .i64 x459]) rfl rfl rfl (.sealed lS467 (subl_sub lv468 (by kernel_rfl)))) ?_
            refine DI.sq 2 (by kernel_rfl) rfl ?_
            refine .cons (.quiet rfl (ixs_sle rfl rfl la479 lz482 lu483)) ?_
            refine DI.sq 1 (by kernel_rfl) rfl ?_
            refine .cons (.ldn (vs := [.int .i64 x473, .int .i64 x474]) rfl rfl rfl (.sealed lS480 (subl_sub lv481 (by kernel_rfl)))) ?_
            refine .cons (.ldn rfl rfl rfl (.at 0 rfl rfl)) ?_
            refine DI.sq 1 (by kernel_rfl) rfl ?_
            refine .cons (.call (vs := [.agg #[.int .i64 x458, .int .i64 x459], .agg #[.int .i64 x473, .int .i64 x474], .agg #[.int .i64 p2_0, .int .i64 p2_1], .int .i64 w1]) rfl rfl (by kernel_rfl) (glyphicref1_Near.ok h485)) ?_
            exact .nil
          refine fk_q 13 [0, 1, 5, 7, 26] (σ' := [(0, .slice a_l0 l0.length c_l0), (1, .int .i64 w1), (5, .pointer (some ⟨b452, 0, none⟩)), (7, .int .i64 x456), (26, .bool true)]) t_more (by kernel_rfl) ?_
          refine fk_nil fun all => ?_
          refine t_keep [0, 1, 5, 7, 26] (σ' := [(0, .slice a_l0 l0.length c_l0), (1, .int .i64 w1), (5, .pointer (some ⟨b452, 0, none⟩)), (7, .int .i64 x456), (26, .bool true)]) (by kernel_rfl) ?_
          refine t_end ?_
          show W _ _ _ _ _ _ _
          refine w_cond rfl (fun _ => ?_) (fun c_ => by cases c_)
          show W _ _ _ _ _ _ _
          refine w_seq ?_
          refine w_reg fun all => ?_
          refine t_qz 1 [6] (σ' := [(6, .bool true)]) (by kernel_rfl) ?_
          refine t_end ?_
          show W _ _ _ _ _ _ _
          refine w_ret ?_
          obtain rfl := Option.some.inj e454
          obtain rfl := Option.some.inj e
          exact ⟨[.bool true], [], S, ⟨rfl, trivial⟩, VS.none, rfl, rfl, rfl⟩
        | false =>
          rw [if_neg (by decide)] at e454
          refine w_drwE mixed 13 [.v (.slice a_l0 l0.length c_l0), .v (.int .i64 x456), .v (.pointer (some ⟨lb463, lo464 + (x456).toNat * 4 + 0, none⟩)), .v (.pointer (some ⟨lb463, lo464 + (x456).toNat * 4 + 0, none⟩)), .v (.agg #[.int .i64 x458, .int .i64 x459]), .v (.slice a_l0 l0.length c_l0), .v (.int .i64 x456), .v (.pointer (some ⟨lb476, lo477 + (x456).toNat * 4 + 0, none⟩)), .v (.pointer (some ⟨lb476, lo477 + (x456).toNat * 4 + 2, none⟩)), .v (.agg #[.int .i64 x473, .int .i64 x474]), .v (.agg #[.int .i64 p2_0, .int .i64 p2_1]), .v (.int .i64 w1), .v (.bool false)] (by kernel_rfl) ?_ ?_
          · refine DI.sq 2 (by kernel_rfl) rfl ?_
            refine .cons (.quiet rfl (ixs_sle rfl rfl la466 lz469 lu470)) ?_
            refine DI.sq 1 (by kernel_rfl) rfl ?_
            refine .cons (.ldn (vs := [.int .i64 x458, .int .i64 x459]) rfl rfl rfl (.sealed lS467 (subl_sub lv468 (by kernel_rfl)))) ?_
            refine DI.sq 2 (by kernel_rfl) rfl ?_
            refine .cons (.quiet rfl (ixs_sle rfl rfl la479 lz482 lu483)) ?_
            refine DI.sq 1 (by kernel_rfl) rfl ?_
            refine .cons (.ldn (vs := [.int .i64 x473, .int .i64 x474]) rfl rfl rfl (.sealed lS480 (subl_sub lv481 (by kernel_rfl)))) ?_
            refine .cons (.ldn rfl rfl rfl (.at 0 rfl rfl)) ?_
            refine DI.sq 1 (by kernel_rfl) rfl ?_
            refine .cons (.call (vs := [.agg #[.int .i64 x458, .int .i64 x459], .agg #[.int .i64 x473, .int .i64 x474], .agg #[.int .i64 p2_0, .int .i64 p2_1], .int .i64 w1]) rfl rfl (by kernel_rfl) (glyphicref1_Near.ok h485)) ?_
            exact .nil
          refine fk_q 13 [0, 1, 5, 7, 26] (σ' := [(0, .slice a_l0 l0.length c_l0), (1, .int .i64 w1), (5, .pointer (some ⟨b452, 0, none⟩)), (7, .int .i64 x456), (26, .bool false)]) t_more (by kernel_rfl) ?_
          refine fk_nil fun all => ?_
          refine t_keep [0, 1, 5, 7, 26] (σ' := [(0, .slice a_l0 l0.length c_l0), (1, .int .i64 w1), (5, .pointer (some ⟨b452, 0, none⟩)), (7, .int .i64 x456), (26, .bool false)]) (by kernel_rfl) ?_
          refine t_end ?_
          show W _ _ _ _ _ _ _
          refine w_cond rfl (fun c_ => by cases c_) (fun _ => ?_)
          show W _ _ _ _ _ _ _
          refine w_skip ?_
          show W _ _ _ _ _ _ _
          refine w_reg fun all => ?_
          refine t_qz 3 [0, 1, 5, 7] (σ' := [(0, .slice a_l0 l0.length c_l0), (1, .int .i64 w1), (5, .pointer (some ⟨b452, 0, none⟩)), (7, .int .i64 (wr64 (x456 + 1)))]) (by kernel_rfl) ?_
          refine t_end ?_
          exact ⟨k_, Nat.lt_succ_self _, [(0, .slice a_l0 l0.length c_l0), (1, .int .i64 w1), (5, .pointer (some ⟨b452, 0, none⟩)), (7, .int .i64 (wr64 (x456 + 1)))], ([⟨b452, [.int .i64 p2_0, .int .i64 p2_1], 2⟩] : List Own), S, keep_sub [0, 1, 5, 7] (by kernel_rfl), VS.sel [0] (by kernel_rfl), wr64 (x456 + 1), rfl, rfl, rfl, e454⟩
      · rw [if_neg c457] at e454
        have c457b : (decide (x456 < (l0.length : Int))) = false := decide_eq_false c457
        refine t_qz 3 [0, 1, 5, 7, 8, 10] (σ' := [(0, .slice a_l0 l0.length c_l0), (1, .int .i64 w1), (5, .pointer (some ⟨b452, 0, none⟩)), (7, .int .i64 x456), (8, .int .i64 x456), (10, .int .i64 (l0.length : Int))]) (by kernel_rfl) ?_
        refine t_v (dv_quiet rfl (congrArg (fun t => some (Value.bool t)) c457b)) ?_
        refine t_keep [0, 1, 5, 7, 11] (σ' := [(0, .slice a_l0 l0.length c_l0), (1, .int .i64 w1), (5, .pointer (some ⟨b452, 0, none⟩)), (7, .int .i64 x456), (11, .bool false)]) (by kernel_rfl) ?_
        refine t_end ?_
        show W _ _ _ _ _ _ _
        refine w_cond rfl (fun c_ => by cases c_) (fun _ => ?_)
        show W _ _ _ _ _ _ _
        refine w_exit ?_
        obtain rfl := Option.some.inj e454
        exact ⟨([⟨b452, [.int .i64 p2_0, .int .i64 p2_1], 2⟩] : List Own), S, VS.sel [0] (by kernel_rfl), (), rfl, by kernel_rfl, rfl, rfl⟩
  · rintro σ_ H_ S_ ⟨u_, rfl, rfl, rfl, rfl⟩
    dsimp only at e
    refine w_seq ?_
    refine w_reg fun all => ?_
    refine t_qz 1 [6] (σ' := [(6, .bool false)]) (by kernel_rfl) ?_
    refine t_end ?_
    show W _ _ _ _ _ _ _
    refine w_ret ?_
    obtain rfl := Option.some.inj e
    exact ⟨[.bool false], [], S, ⟨rfl, trivial⟩, VS.none, rfl, rfl, rfl⟩

/-- glyphicref.SamePoint -/
def c25 : C :=
  (.seq (.reg [⟨(some 2), .box (.tmp 0), none⟩,
     ⟨(some 3), .box (.tmp 1), none⟩,
     ⟨(some 4), .mv (.const (.bool false)), none⟩])
  (.seq (.reg [⟨(some 5), .pad 0 (.tmp 2), none⟩,
     ⟨(some 6), .ld none (.tmp 5), none⟩,
     ⟨(some 7), .pad 0 (.tmp 3), none⟩,
     ⟨(some 8), .ld none (.tmp 7), none⟩,
     ⟨(some 9), .bin .eql (.tmp 6) (.tmp 8), none⟩,
     ⟨(some 10), .mv (.tmp 9), none⟩,
     ⟨(some 11), .pad 1 (.tmp 2), (some (10, true))⟩,
     ⟨(some 12), .ld none (.tmp 11), (some (10, true))⟩,
     ⟨(some 13), .pad 1 (.tmp 3), (some (10, true))⟩,
     ⟨(some 14), .ld none (.tmp 13), (some (10, true))⟩,
     ⟨(some 15), .bin .eql (.tmp 12) (.tmp 14), (some (10, true))⟩,
     ⟨(some 16), .pk (.tmp 10) (.tmp 15) (.const (.bool false)), none⟩,
     ⟨(some 4), .mv (.tmp 16), none⟩])
  .ret))
def glyphicref_SamePoint.f (a0_X : Int) (a0_Y : Int) (b1_X : Int) (b1_Y : Int) : Option (Bool) := if a0_X = b1_X then (some (a0_Y == b1_Y)) else (some false)
theorem glyphicref_SamePoint.ok {S : Seal} {a0_X : Int} {a0_Y : Int} {b1_X : Int} {b1_Y : Int} {r0_ : Bool}(e : glyphicref_SamePoint.f a0_X a0_Y b1_X b1_Y = some r0_) :
    Cal Try.prog 25 [.agg #[.int .i64 a0_X, .int .i64 a0_Y], .agg #[.int .i64 b1_X, .int .i64 b1_Y]] [] S fun v H' S' => v = .bool r0_ ∧ H' = [] ∧ S' = S := by
  unfold glyphicref_SamePoint.f at e
  refine cal_of (c := c25) (N := 17) Try.func25 rfl rfl (by kernel_rfl) (rs := [.t 4]) (by kernel_rfl) (Nat.le_of_ble_eq_true rfl) ?_
  unfold c25
  refine w_seq ?_
  refine w_reg fun all => ?_
  refine t_a (.box rfl rfl rfl) fun b405 fb405 sb405 => ?_
  refine t_a (.box rfl rfl rfl) fun b406 fb406 sb406 => ?_
  refine t_qz 1 [2, 3] (σ' := [(2, .pointer (some ⟨b405, 0, none⟩)), (3, .pointer (some ⟨b406, 0, none⟩))]) (by kernel_rfl) ?_
  refine t_end ?_
  show W _ _ _ _ _ _ _
  refine w_seq ?_
  refine w_reg fun all => ?_
  refine t_qz 1 [2, 3, 5] (σ' := [(2, .pointer (some ⟨b405, 0, none⟩)), (3, .pointer (some ⟨b406, 0, none⟩)), (5, .pointer (some ⟨b405, 0, none⟩))]) (by kernel_rfl) ?_
  refine t_v (.ld1 rfl rfl rfl (.at 1 rfl rfl)) ?_
  refine t_qz 1 [2, 3, 6, 7] (σ' := [(2, .pointer (some ⟨b405, 0, none⟩)), (3, .pointer (some ⟨b406, 0, none⟩)), (6, .int .i64 a0_X), (7, .pointer (some ⟨b406, 0, none⟩))]) (by kernel_rfl) ?_
  refine t_v (.ld1 rfl rfl rfl (.at 0 rfl rfl)) ?_
  by_cases c407 : a0_X = b1_X
  · rw [if_pos c407] at e
    have c407b : (a0_X == b1_X) = true := beq_iff_eq.mpr c407
    refine t_v (dv_quiet rfl (congrArg (fun t => some (Value.bool t)) c407b)) ?_
    refine t_qz 2 [3, 10, 11] (σ' := [(3, .pointer (some ⟨b406, 0, none⟩)), (10, .bool true), (11, .pointer (some ⟨b405, 1, none⟩))]) (by kernel_rfl) ?_
    refine t_v (.ld1 rfl rfl rfl (.at 1 rfl rfl)) ?_
    refine t_qz 1 [10, 12, 13] (σ' := [(10, .bool true), (12, .int .i64 a0_Y), (13, .pointer (some ⟨b406, 1, none⟩))]) (by kernel_rfl) ?_
    refine t_v (.ld1 rfl rfl rfl (.at 0 rfl rfl)) ?_
    refine t_qz 3 [4] (σ' := [(4, .bool (a0_Y == b1_Y))]) (by kernel_rfl) ?_
    refine t_end ?_
    show W _ _ _ _ _ _ _
    refine w_ret ?_
    obtain rfl := Option.some.inj e
    exact ⟨[.bool (a0_Y == b1_Y)], [], S, ⟨rfl, trivial⟩, VS.none, rfl, rfl, rfl⟩
  · rw [if_neg c407] at e
    have c407b : (a0_X == b1_X) = false := beq_eq_false_iff_ne.mpr c407
    refine t_v (dv_quiet rfl (congrArg (fun t => some (Value.bool t)) c407b)) ?_
    refine t_qz 8 [4] (σ' := [(4, .bool false)]) (by kernel_rfl) ?_
    refine t_end ?_
    show W _ _ _ _ _ _ _
    refine w_ret ?_
    obtain rfl := Option.some.inj e
    exact ⟨[.bool false], [], S, ⟨rfl, trivial⟩, VS.none, rfl, rfl, rfl⟩
end Go.Proofs.Ytpimfacaalkmdaa.QStrokeSays
