/- Functions of the program as Lean functions, each with the proof of its walk. Written by gen.py, a program of these sessions. -/
import Derived.Test.YtpimfacaalkmdaaQStrokeBoxesx0
namespace Go.Proofs.Ytpimfacaalkmdaa.QStrokeBoxes
open Go Go.RowKit Go.Proofs.YtpimfacaalkmdaaE Go.Proofs.YtpimfacaalkmdaaX
set_option linter.unusedVariables false
set_option maxRecDepth 100000
set_option maxHeartbeats 8000000
/-- stroke.Box -/
def c22 : C :=
  (.seq (.reg [⟨(some 4), .new [(.int .i64 0), (.int .i64 0)], none⟩,
     ⟨(some 5), .new [(.int .i64 0), (.int .i64 0)], none⟩,
     ⟨(some 6), .mv (.const (.bool false)), none⟩])
  (.seq (.seq (.reg [⟨(some 14), .mv (.tmp 0), none⟩,
      ⟨(some 15), .lns (.tmp 14), none⟩,
      ⟨(some 16), .bin .eql (.tmp 15) (.const (.int .i64 0)), none⟩])
   (.cond (.tmp 16)
    (.seq (.reg [⟨(some 17), .bld [(.int .i64 0), (.int .i64 0)] [], none⟩,
        ⟨(some 18), .bld [(.int .i64 0), (.int .i64 0)] [], none⟩,
        ⟨none, .st 2 (.tmp 4) (.tmp 17), none⟩,
        ⟨none, .st 2 (.tmp 5) (.tmp 18), none⟩,
        ⟨(some 6), .mv (.const (.bool false)), none⟩])
     .ret)
    .skip))
  (.seq (.drw [⟨(some 19), .mv (.tmp 0), none⟩,
     ⟨(some 20), .ixs 4 (.tmp 19) (.const (.int .i64 0)), none⟩,
     ⟨(some 21), .pad 0 (.tmp 20), none⟩,
     ⟨(some 22), .ld (some 2) (.tmp 21), none⟩,
     ⟨(some 23), .mv (.tmp 0), none⟩,
     ⟨(some 24), .ixs 4 (.tmp 23) (.const (.int .i64 0)), none⟩,
     ⟨(some 25), .pad 0 (.tmp 24), none⟩,
     ⟨(some 26), .ld (some 2) (.tmp 25), none⟩,
     ⟨(some 7), .new [(.int .i64 0), (.int .i64 0)], none⟩,
     ⟨(some 8), .new [(.int .i64 0), (.int .i64 0)], none⟩,
     ⟨none, .st 2 (.tmp 7) (.tmp 22), none⟩,
     ⟨none, .st 2 (.tmp 8) (.tmp 26), none⟩] [[], [0], [1], [2], [], [4], [5], [6], [], [], [8, 3, 0, 1, 2, 3, 8, 9], [9, 7, 10, 0, 1, 2, 3, 4, 5, 6, 7, 8, 9, 10]])
  (.seq (.seq (.reg [⟨(some 27), .mv (.tmp 0), none⟩,
      ⟨(some 28), .lns (.tmp 27), none⟩,
      ⟨(some 29), .mv (.const (.int .i64 0)), none⟩])
   (.block 0 (.loop (.seq (.reg [⟨(some 30), .bin .lss (.tmp 29) (.tmp 28), none⟩])
     (.seq (.cond (.tmp 30)
       .skip
       (.exit 0))
     (.seq (.block 1 (.seq (.reg [⟨(some 31), .ixs 4 (.tmp 27) (.tmp 29), none⟩,
          ⟨(some 32), .ld (some 4) (.tmp 31), none⟩,
          ⟨(some 10), .new [(.int .i64 0), (.int .i64 0), (.int .i64 0), (.int .i64 0)], none⟩,
          ⟨none, .st 4 (.tmp 10) (.tmp 32), none⟩])
       (.seq (.reg [⟨(some 33), .pad 0 (.tmp 10), none⟩,
          ⟨(some 34), .ld (some 2) (.tmp 33), none⟩,
          ⟨(some 35), .pad 2 (.tmp 10), none⟩,
          ⟨(some 36), .ld (some 2) (.tmp 35), none⟩,
          ⟨(some 37), .bld [(.int .i64 0), (.int .i64 0), (.int .i64 0), (.int .i64 0)] [(0, 2, (.tmp 34)), (2, 2, (.tmp 36))], none⟩,
          ⟨(some 38), .mv (.const (.int .i64 0)), none⟩])
       (.block 2 (.loop (.seq (.reg [⟨(some 39), .bin .lss (.tmp 38) (.const (.int .i64 2)), none⟩])
         (.seq (.cond (.tmp 39)
           .skip
           (.exit 2))
         (.seq (.block 3 (.seq (.reg [⟨(some 40), .ixv (some 2) 2 2 (.tmp 37) (.tmp 38), none⟩,
              ⟨(some 12), .new [(.int .i64 0), (.int .i64 0)], none⟩,
              ⟨none, .st 2 (.tmp 12) (.tmp 40), none⟩])
           (.seq (.reg [⟨(some 41), .pad 0 (.tmp 7), none⟩,
              ⟨(some 42), .ld none (.tmp 41), none⟩,
              ⟨(some 43), .pad 0 (.tmp 12), none⟩,
              ⟨(some 44), .ld none (.tmp 43), none⟩,
              ⟨(some 45), .mm false [(.tmp 42), (.tmp 44)], none⟩,
              ⟨(some 46), .pad 1 (.tmp 7), none⟩,
              ⟨(some 47), .ld none (.tmp 46), none⟩,
              ⟨(some 48), .pad 1 (.tmp 12), none⟩,
              ⟨(some 49), .ld none (.tmp 48), none⟩,
              ⟨(some 50), .mm false [(.tmp 47), (.tmp 49)], none⟩,
              ⟨(some 51), .bld [(.int .i64 0), (.int .i64 0)] [(0, 1, (.tmp 45)), (1, 1, (.tmp 50))], none⟩,
              ⟨none, .st 2 (.tmp 7) (.tmp 51), none⟩])
           (.reg [⟨(some 52), .pad 0 (.tmp 8), none⟩,
             ⟨(some 53), .ld none (.tmp 52), none⟩,
             ⟨(some 54), .pad 0 (.tmp 12), none⟩,
             ⟨(some 55), .ld none (.tmp 54), none⟩,
             ⟨(some 56), .mm true [(.tmp 53), (.tmp 55)], none⟩,
             ⟨(some 57), .pad 1 (.tmp 8), none⟩,
             ⟨(some 58), .ld none (.tmp 57), none⟩,
             ⟨(some 59), .pad 1 (.tmp 12), none⟩,
             ⟨(some 60), .ld none (.tmp 59), none⟩,
             ⟨(some 61), .mm true [(.tmp 58), (.tmp 60)], none⟩,
             ⟨(some 62), .bld [(.int .i64 0), (.int .i64 0)] [(0, 1, (.tmp 56)), (1, 1, (.tmp 61))], none⟩,
             ⟨none, .st 2 (.tmp 8) (.tmp 62), none⟩]))))
         (.reg [⟨(some 63), .bin .add (.tmp 38) (.const (.int .i64 1)), none⟩,
           ⟨(some 38), .mv (.tmp 63), none⟩])))))))))
     (.reg [⟨(some 64), .bin .add (.tmp 29) (.const (.int .i64 1)), none⟩,
       ⟨(some 29), .mv (.tmp 64), none⟩])))))))
  (.seq (.reg [⟨(some 65), .mv (.tmp 1), none⟩,
     ⟨(some 66), .bin .add (.tmp 65) (.const (.int .i64 1)), none⟩,
     ⟨(some 67), .bin .quo (.tmp 66) (.const (.int .i64 2)), none⟩,
     ⟨(some 13), .mv (.tmp 67), none⟩])
  (.seq (.drw [⟨(some 68), .pad 0 (.tmp 7), none⟩,
     ⟨(some 69), .ld none (.tmp 68), none⟩,
     ⟨(some 70), .mv (.tmp 13), none⟩,
     ⟨(some 71), .bin .sub (.tmp 69) (.tmp 70), none⟩,
     ⟨(some 72), .pad 1 (.tmp 7), none⟩,
     ⟨(some 73), .ld none (.tmp 72), none⟩,
     ⟨(some 74), .mv (.tmp 13), none⟩,
     ⟨(some 75), .bin .sub (.tmp 73) (.tmp 74), none⟩,
     ⟨(some 76), .bld [(.int .i64 0), (.int .i64 0)] [(0, 1, (.tmp 71)), (1, 1, (.tmp 75))], none⟩,
     ⟨(some 77), .pad 0 (.tmp 8), none⟩,
     ⟨(some 78), .ld none (.tmp 77), none⟩,
     ⟨(some 79), .mv (.tmp 13), none⟩,
     ⟨(some 80), .bin .add (.tmp 78) (.tmp 79), none⟩,
     ⟨(some 81), .pad 1 (.tmp 8), none⟩,
     ⟨(some 82), .ld none (.tmp 81), none⟩,
     ⟨(some 83), .mv (.tmp 13), none⟩,
     ⟨(some 84), .bin .add (.tmp 82) (.tmp 83), none⟩,
     ⟨(some 85), .bld [(.int .i64 0), (.int .i64 0)] [(0, 1, (.tmp 80)), (1, 1, (.tmp 84))], none⟩,
     ⟨none, .st 2 (.tmp 4) (.tmp 76), none⟩,
     ⟨none, .st 2 (.tmp 5) (.tmp 85), none⟩,
     ⟨(some 6), .mv (.const (.bool true)), none⟩] [[], [0], [], [1, 2], [], [4], [], [5, 6], [3, 7], [], [9], [], [10, 11], [], [13], [], [14, 15], [12, 16], [8, 0, 1, 2, 3, 4, 5, 6, 7, 8], [17, 18, 0, 1, 2, 3, 4, 5, 6, 7, 8, 9, 10, 11, 12, 13, 14, 15, 16, 17, 18], [19, 0, 1, 2, 3, 4, 5, 6, 7, 8, 9, 10, 11, 12, 13, 14, 15, 16, 17, 18, 19]])
  .ret))))))
def stroke_Box_v1.l0 : Nat → List (Int × Int × Int × Int) → Int → Int → Int → Int → Int → Option (Int × Int × Int × Int)
  | 0, _, _, _, _, _, _ => none
  | k + 1, l0, x279, x280, x281, x282, x283 => if x279 < (l0.length : Int) then (((lgt l0 x279).bind fun (x288, x289, x290, x291) => (some (mx (mx x280 x288) x290, mx (mx x281 x289) x291, mn (mn x282 x288) x290, mn (mn x283 x289) x291)) : Option (Int × Int × Int × Int)).bind fun (x304, x305, x306, x307) => (stroke_Box_v1.l0 k l0 (wr64 (x279 + 1)) x304 x305 x306 x307)) else (some (x280, x281, x282, x283))
def stroke_Box_v1.f (k : Nat) (l0 : List (Int × Int × Int × Int)) (w1 : Int) : Option (Int × Int × Int × Int × Bool) := if (l0.length : Int) = 0 then (some (0, 0, 0, 0, false)) else ((lgt l0 0).bind fun (x248, x249, x250, x251) => ((lgt l0 0).bind fun (x261, x262, x263, x264) => ((stroke_Box_v1.l0 k l0 0 x261 x262 x248 x249 : Option (Int × Int × Int × Int)).bind fun (x310, x311, x312, x313) => (some (wr64 (x312 - (wr64 (Int.tdiv (wr64 (w1 + 1)) 2))), wr64 (x313 - (wr64 (Int.tdiv (wr64 (w1 + 1)) 2))), wr64 (x310 + (wr64 (Int.tdiv (wr64 (w1 + 1)) 2))), wr64 (x311 + (wr64 (Int.tdiv (wr64 (w1 + 1)) 2))), true)))))
theorem stroke_Box_v1.ok {S : Seal} {k : Nat} {l0 : List (Int × Int × Int × Int)} {w1 : Int} {r0_ : Int} {r1_ : Int} {r2_ : Int} {r3_ : Int} {r4_ : Bool}{a_l0 : Option Addr} {c_l0 : Nat} (h_l0 : SlE S E_i644 l0 a_l0) (e : stroke_Box_v1.f k l0 w1 = some (r0_, r1_, r2_, r3_, r4_)) :
    Cal Try.prog 22 [.slice a_l0 l0.length c_l0, .int .i64 w1] [] S fun v H' S' => v = .tuple #[.agg #[.int .i64 r0_, .int .i64 r1_], .agg #[.int .i64 r2_, .int .i64 r3_], .bool r4_] ∧ H' = [] ∧ S' = S := by
  unfold stroke_Box_v1.f at e
  refine cal_of (c := c22) (N := 86) Try.func22 rfl rfl (by kernel_rfl) (rs := [.cn 2 4, .cn 2 5, .t 6]) (by kernel_rfl) (Nat.le_of_ble_eq_true rfl) ?_
  unfold c22
  refine w_seq ?_
  refine w_reg fun all => ?_
  refine t_a (.new rfl rfl) fun b245 fb245 sb245 => ?_
  refine t_a (.new rfl rfl) fun b246 fb246 sb246 => ?_
  refine t_qz 1 [0, 1, 4, 5] (σ' := [(0, .slice a_l0 l0.length c_l0), (1, .int .i64 w1), (4, .pointer (some ⟨b245, 0, none⟩)), (5, .pointer (some ⟨b246, 0, none⟩))]) (by kernel_rfl) ?_
  refine t_end ?_
  show W _ _ _ _ _ _ _
  refine w_seq ?_
  refine w_seq ?_
  refine w_reg fun all => ?_
  by_cases c247 : (l0.length : Int) = 0
  · rw [if_pos c247] at e
    have c247b : ((l0.length : Int) == 0) = true := beq_iff_eq.mpr c247
    refine t_qz 2 [0, 1, 4, 5, 15] (σ' := [(0, .slice a_l0 l0.length c_l0), (1, .int .i64 w1), (4, .pointer (some ⟨b245, 0, none⟩)), (5, .pointer (some ⟨b246, 0, none⟩)), (15, .int .i64 (l0.length : Int))]) (by kernel_rfl) ?_
    refine t_v (dv_quiet rfl (congrArg (fun t => some (Value.bool t)) c247b)) ?_
    refine t_keep [0, 1, 4, 5, 16] (σ' := [(0, .slice a_l0 l0.length c_l0), (1, .int .i64 w1), (4, .pointer (some ⟨b245, 0, none⟩)), (5, .pointer (some ⟨b246, 0, none⟩)), (16, .bool true)]) (by kernel_rfl) ?_
    refine t_end ?_
    show W _ _ _ _ _ _ _
    refine w_cond rfl (fun _ => ?_) (fun c_ => by cases c_)
    show W _ _ _ _ _ _ _
    refine w_seq ?_
    refine w_reg fun all => ?_
    refine t_qz 2 [4, 5, 17, 18] (σ' := [(4, .pointer (some ⟨b245, 0, none⟩)), (5, .pointer (some ⟨b246, 0, none⟩)), (17, .agg #[.int .i64 0, .int .i64 0]), (18, .agg #[.int .i64 0, .int .i64 0])]) (by kernel_rfl) ?_
    refine t_sti 1 (cs := [.int .i64 0, .int .i64 0]) rfl rfl rfl rfl rfl rfl rfl rfl rfl ?_
    refine t_sti 0 (cs := [.int .i64 0, .int .i64 0]) rfl rfl rfl rfl rfl rfl rfl rfl rfl ?_
    refine t_qz 1 [4, 5, 6] (σ' := [(4, .pointer (some ⟨b245, 0, none⟩)), (5, .pointer (some ⟨b246, 0, none⟩)), (6, .bool false)]) (by kernel_rfl) ?_
    refine t_end ?_
    show W _ _ _ _ _ _ _
    refine w_ret ?_
    simp only [Option.some.injEq, Prod.mk.injEq] at e
    obtain ⟨rfl, rfl, rfl, rfl, rfl⟩ := e
    exact ⟨[.agg #[.int .i64 0, .int .i64 0], .agg #[.int .i64 0, .int .i64 0], .bool false], [], S, ⟨⟨_, _, _, rfl, .at 1 rfl rfl, rfl⟩, ⟨_, _, _, rfl, .at 0 rfl rfl, rfl⟩, rfl, trivial⟩, VS.none, rfl, rfl, rfl⟩
  · rw [if_neg c247] at e
    have c247b : ((l0.length : Int) == 0) = false := beq_eq_false_iff_ne.mpr c247
    refine t_qz 2 [0, 1, 4, 5, 15] (σ' := [(0, .slice a_l0 l0.length c_l0), (1, .int .i64 w1), (4, .pointer (some ⟨b245, 0, none⟩)), (5, .pointer (some ⟨b246, 0, none⟩)), (15, .int .i64 (l0.length : Int))]) (by kernel_rfl) ?_
    refine t_v (dv_quiet rfl (congrArg (fun t => some (Value.bool t)) c247b)) ?_
    refine t_keep [0, 1, 4, 5, 16] (σ' := [(0, .slice a_l0 l0.length c_l0), (1, .int .i64 w1), (4, .pointer (some ⟨b245, 0, none⟩)), (5, .pointer (some ⟨b246, 0, none⟩)), (16, .bool false)]) (by kernel_rfl) ?_
    refine t_end ?_
    show W _ _ _ _ _ _ _
    refine w_cond rfl (fun c_ => by cases c_) (fun _ => ?_)
    show W _ _ _ _ _ _ _
    refine w_skip ?_
    show W _ _ _ _ _ _ _
    refine w_seq ?_
    obtain ⟨⟨x248, x249, x250, x251⟩, hx252, e⟩ := bind_of e
    try dsimp only at e
    obtain ⟨lb253, lo254, ll255, la256, lS257, lv258, lz259, lu260⟩ := sle_get (E := E_i644) h_l0 hx252
    obtain ⟨⟨x261, x262, x263, x264⟩, hx265, e⟩ := bind_of e
    try dsimp only at e
    obtain ⟨lb266, lo267, ll268, la269, lS270, lv271, lz272, lu273⟩ := sle_get (E := E_i644) h_l0 hx265
    refine w_kp [0, 1, 4, 5] (σ' := [(0, .slice a_l0 l0.length c_l0), (1, .int .i64 w1), (4, .pointer (some ⟨b245, 0, none⟩)), (5, .pointer (some ⟨b246, 0, none⟩))]) (by kernel_rfl) ?_
    refine w_gameQ mixed (by kernel_rfl) fun all G hend hstep hqf => ?_
    have hg_fff : ∀ (g275 : Nat) (g274 : Nat), G [true, true, true, true, true, true, true, true, true, true, true, true] [(0, .slice a_l0 l0.length c_l0), (1, .int .i64 w1), (4, .pointer (some ⟨b245, 0, none⟩)), (5, .pointer (some ⟨b246, 0, none⟩)), (7, .pointer (some ⟨g274, 0, none⟩)), (8, .pointer (some ⟨g275, 0, none⟩))] ([⟨g275, [.int .i64 x261, .int .i64 x262], 2⟩, ⟨g274, [.int .i64 x248, .int .i64 x249], 2⟩, ⟨b246, [.int .i64 0, .int .i64 0], 2⟩, ⟨b245, [.int .i64 0, .int .i64 0], 2⟩] : List Own) := by
      intro g275 g274
      refine hend _ _ _ (by kernel_rfl) ?_
      show W _ _ _ _ _ _ _
      obtain ⟨⟨x310, x311, x312, x313⟩, e277, e⟩ := bind_of e
      try dsimp only at e
      refine w_cut [1, 4, 5, 7, 8] (fun σ_ H_ S_ => [(1, .int .i64 w1), (4, .pointer (some ⟨b245, 0, none⟩)), (5, .pointer (some ⟨b246, 0, none⟩)), (7, .pointer (some ⟨g274, 0, none⟩)), (8, .pointer (some ⟨g275, 0, none⟩))] = σ_ ∧ ([⟨g275, [.int .i64 x310, .int .i64 x311], 2⟩, ⟨g274, [.int .i64 x312, .int .i64 x313], 2⟩, ⟨b246, [.int .i64 0, .int .i64 0], 2⟩, ⟨b245, [.int .i64 0, .int .i64 0], 2⟩] : List Own) = H_ ∧ S = S_) ?_ ?_
      · show W _ _ _ _ _ _ _
        refine w_seq ?_
        refine w_reg fun all => ?_
        refine t_qz 3 [1, 4, 5, 7, 8, 27, 28, 29] (σ' := [(1, .int .i64 w1), (4, .pointer (some ⟨b245, 0, none⟩)), (5, .pointer (some ⟨b246, 0, none⟩)), (7, .pointer (some ⟨g274, 0, none⟩)), (8, .pointer (some ⟨g275, 0, none⟩)), (27, .slice a_l0 l0.length c_l0), (28, .int .i64 (l0.length : Int)), (29, .int .i64 0)]) (by kernel_rfl) ?_
        refine t_end ?_
        show W _ _ _ _ _ _ _
        refine w_block ?_
        refine w_kp [1, 4, 5, 7, 8, 27, 28, 29] (σ' := [(1, .int .i64 w1), (4, .pointer (some ⟨b245, 0, none⟩)), (5, .pointer (some ⟨b246, 0, none⟩)), (7, .pointer (some ⟨g274, 0, none⟩)), (8, .pointer (some ⟨g275, 0, none⟩)), (27, .slice a_l0 l0.length c_l0), (28, .int .i64 (l0.length : Int)), (29, .int .i64 0)]) (by kernel_rfl) ?_
        refine w_loop (fun n_ σ_ H_ S_ => ∃ (x279 : Int) (x280 : Int) (x281 : Int) (x282 : Int) (x283 : Int), [(1, .int .i64 w1), (4, .pointer (some ⟨b245, 0, none⟩)), (5, .pointer (some ⟨b246, 0, none⟩)), (7, .pointer (some ⟨g274, 0, none⟩)), (8, .pointer (some ⟨g275, 0, none⟩)), (27, .slice a_l0 l0.length c_l0), (28, .int .i64 (l0.length : Int)), (29, .int .i64 x279)] = σ_ ∧ ([⟨g275, [.int .i64 x280, .int .i64 x281], 2⟩, ⟨g274, [.int .i64 x282, .int .i64 x283], 2⟩, ⟨b246, [.int .i64 0, .int .i64 0], 2⟩, ⟨b245, [.int .i64 0, .int .i64 0], 2⟩] : List Own) = H_ ∧ S = S_ ∧ stroke_Box_v1.l0 n_ l0 x279 x280 x281 x282 x283 = some (x310, x311, x312, x313)) _ ⟨0, x261, x262, x248, x249, rfl, rfl, rfl, e277⟩ ?_
        rintro n309 σ_ H_ S_ ⟨x279, x280, x281, x282, x283, rfl, rfl, rfl, e277⟩
        cases n309 with
        | zero => rw [stroke_Box_v1.l0.eq_1] at e277; cases e277
        | succ k_ =>
          rw [stroke_Box_v1.l0.eq_2] at e277
          refine w_seq ?_
          refine w_reg fun all => ?_
          by_cases c284 : x279 < (l0.length : Int)
          · rw [if_pos c284] at e277
            have c284b : (decide (x279 < (l0.length : Int))) = true := decide_eq_true c284
            refine t_v (dv_quiet rfl (congrArg (fun t => some (Value.bool t)) c284b)) ?_
            refine t_keep [1, 4, 5, 7, 8, 27, 28, 29, 30] (σ' := [(1, .int .i64 w1), (4, .pointer (some ⟨b245, 0, none⟩)), (5, .pointer (some ⟨b246, 0, none⟩)), (7, .pointer (some ⟨g274, 0, none⟩)), (8, .pointer (some ⟨g275, 0, none⟩)), (27, .slice a_l0 l0.length c_l0), (28, .int .i64 (l0.length : Int)), (29, .int .i64 x279), (30, .bool true)]) (by kernel_rfl) ?_
            refine t_end ?_
            show W _ _ _ _ _ _ _
            refine w_seq ?_
            refine w_cond rfl (fun _ => ?_) (fun c_ => by cases c_)
            show W _ _ _ _ _ _ _
            refine w_skip ?_
            show W _ _ _ _ _ _ _
            obtain ⟨⟨x304, x305, x306, x307⟩, e286, e277⟩ := bind_of e277
            try dsimp only at e277
            refine w_cut [1, 4, 5, 7, 8, 27, 28, 29] (fun σ_ H_ S_ => [(1, .int .i64 w1), (4, .pointer (some ⟨b245, 0, none⟩)), (5, .pointer (some ⟨b246, 0, none⟩)), (7, .pointer (some ⟨g274, 0, none⟩)), (8, .pointer (some ⟨g275, 0, none⟩)), (27, .slice a_l0 l0.length c_l0), (28, .int .i64 (l0.length : Int)), (29, .int .i64 x279)] = σ_ ∧ ([⟨g275, [.int .i64 x304, .int .i64 x305], 2⟩, ⟨g274, [.int .i64 x306, .int .i64 x307], 2⟩, ⟨b246, [.int .i64 0, .int .i64 0], 2⟩, ⟨b245, [.int .i64 0, .int .i64 0], 2⟩] : List Own) = H_ ∧ S = S_) ?_ ?_
            · show W _ _ _ _ _ _ _
              refine w_block ?_
              refine w_seq ?_
              refine w_reg fun all => ?_
              obtain ⟨⟨x288, x289, x290, x291⟩, hx292, e286⟩ := bind_of e286
              try dsimp only at e286
              obtain ⟨lb293, lo294, ll295, la296, lS297, lv298, lz299, lu300⟩ := sle_get (E := E_i644) h_l0 hx292
              refine t_v (.quiet rfl (ixs_sle rfl rfl la296 lz299 lu300)) ?_
              refine t_v (.ldn (vs := [.int .i64 x288, .int .i64 x289, .int .i64 x290, .int .i64 x291]) rfl rfl rfl (.sealed lS297 (subl_sub lv298 (by kernel_rfl)))) ?_
              refine t_a (.new rfl rfl) fun b301 fb301 sb301 => ?_
              refine t_sti 0 (cs := [.int .i64 x288, .int .i64 x289, .int .i64 x290, .int .i64 x291]) rfl rfl rfl rfl rfl rfl rfl rfl rfl ?_
              refine t_keep [1, 4, 5, 7, 8, 10, 27, 28, 29] (σ' := [(1, .int .i64 w1), (4, .pointer (some ⟨b245, 0, none⟩)), (5, .pointer (some ⟨b246, 0, none⟩)), (7, .pointer (some ⟨g274, 0, none⟩)), (8, .pointer (some ⟨g275, 0, none⟩)), (10, .pointer (some ⟨b301, 0, none⟩)), (27, .slice a_l0 l0.length c_l0), (28, .int .i64 (l0.length : Int)), (29, .int .i64 x279)]) (by kernel_rfl) ?_
              refine t_end ?_
              show W _ _ _ _ _ _ _
              refine w_seq ?_
              refine w_reg fun all => ?_
              refine t_qz 1 [1, 4, 5, 7, 8, 10, 27, 28, 29, 33] (σ' := [(1, .int .i64 w1), (4, .pointer (some ⟨b245, 0, none⟩)), (5, .pointer (some ⟨b246, 0, none⟩)), (7, .pointer (some ⟨g274, 0, none⟩)), (8, .pointer (some ⟨g275, 0, none⟩)), (10, .pointer (some ⟨b301, 0, none⟩)), (27, .slice a_l0 l0.length c_l0), (28, .int .i64 (l0.length : Int)), (29, .int .i64 x279), (33, .pointer (some ⟨b301, 0, none⟩))]) (by kernel_rfl) ?_
              refine t_v (.ldn rfl rfl rfl (.at 0 rfl rfl)) ?_
              refine t_qz 1 [1, 4, 5, 7, 8, 27, 28, 29, 34, 35] (σ' := [(1, .int .i64 w1), (4, .pointer (some ⟨b245, 0, none⟩)), (5, .pointer (some ⟨b246, 0, none⟩)), (7, .pointer (some ⟨g274, 0, none⟩)), (8, .pointer (some ⟨g275, 0, none⟩)), (27, .slice a_l0 l0.length c_l0), (28, .int .i64 (l0.length : Int)), (29, .int .i64 x279), (34, .agg #[.int .i64 x288, .int .i64 x289]), (35, .pointer (some ⟨b301, 2, none⟩))]) (by kernel_rfl) ?_
              refine t_v (.ldn rfl rfl rfl (.at 0 rfl rfl)) ?_
              refine t_qz 2 [1, 4, 5, 7, 8, 27, 28, 29, 37, 38] (σ' := [(1, .int .i64 w1), (4, .pointer (some ⟨b245, 0, none⟩)), (5, .pointer (some ⟨b246, 0, none⟩)), (7, .pointer (some ⟨g274, 0, none⟩)), (8, .pointer (some ⟨g275, 0, none⟩)), (27, .slice a_l0 l0.length c_l0), (28, .int .i64 (l0.length : Int)), (29, .int .i64 x279), (37, .agg #[.int .i64 x288, .int .i64 x289, .int .i64 x290, .int .i64 x291]), (38, .int .i64 0)]) (by kernel_rfl) ?_
              refine t_end ?_
              show W _ _ _ _ _ _ _
              refine w_block ?_
              refine w_lun 10 ?_
              refine wl_step ?_
              refine w_seq ?_
              refine w_reg fun all => ?_
              refine t_qz 1 [1, 4, 5, 7, 8, 27, 28, 29, 37, 38, 39] (σ' := [(1, .int .i64 w1), (4, .pointer (some ⟨b245, 0, none⟩)), (5, .pointer (some ⟨b246, 0, none⟩)), (7, .pointer (some ⟨g274, 0, none⟩)), (8, .pointer (some ⟨g275, 0, none⟩)), (27, .slice a_l0 l0.length c_l0), (28, .int .i64 (l0.length : Int)), (29, .int .i64 x279), (37, .agg #[.int .i64 x288, .int .i64 x289, .int .i64 x290, .int .i64 x291]), (38, .int .i64 0), (39, .bool true)]) (by kernel_rfl) ?_
              refine t_end ?_
              show W _ _ _ _ _ _ _
              refine w_seq ?_
              refine w_cond rfl (fun _ => ?_) (fun c_ => by cases c_)
              show W _ _ _ _ _ _ _
              refine w_skip ?_
              show W _ _ _ _ _ _ _
              refine w_seq ?_
              refine w_block ?_
              refine w_seq ?_
              refine w_reg fun all => ?_
              refine t_qz 1 [1, 4, 5, 7, 8, 27, 28, 29, 37, 38, 40] (σ' := [(1, .int .i64 w1), (4, .pointer (some ⟨b245, 0, none⟩)), (5, .pointer (some ⟨b246, 0, none⟩)), (7, .pointer (some ⟨g274, 0, none⟩)), (8, .pointer (some ⟨g275, 0, none⟩)), (27, .slice a_l0 l0.length c_l0), (28, .int .i64 (l0.length : Int)), (29, .int .i64 x279), (37, .agg #[.int .i64 x288, .int .i64 x289, .int .i64 x290, .int .i64 x291]), (38, .int .i64 0), (40, .agg #[.int .i64 x288, .int .i64 x289])]) (by kernel_rfl) ?_
              refine t_a (.new rfl rfl) fun b302 fb302 sb302 => ?_
              refine t_sti 0 (cs := [.int .i64 x288, .int .i64 x289]) rfl rfl rfl rfl rfl rfl rfl rfl rfl ?_
              refine t_keep [1, 4, 5, 7, 8, 12, 27, 28, 29, 37, 38] (σ' := [(1, .int .i64 w1), (4, .pointer (some ⟨b245, 0, none⟩)), (5, .pointer (some ⟨b246, 0, none⟩)), (7, .pointer (some ⟨g274, 0, none⟩)), (8, .pointer (some ⟨g275, 0, none⟩)), (12, .pointer (some ⟨b302, 0, none⟩)), (27, .slice a_l0 l0.length c_l0), (28, .int .i64 (l0.length : Int)), (29, .int .i64 x279), (37, .agg #[.int .i64 x288, .int .i64 x289, .int .i64 x290, .int .i64 x291]), (38, .int .i64 0)]) (by kernel_rfl) ?_
              refine t_end ?_
              show W _ _ _ _ _ _ _
              refine w_seq ?_
              refine w_reg fun all => ?_
              refine t_qz 1 [1, 4, 5, 7, 8, 12, 27, 28, 29, 37, 38, 41] (σ' := [(1, .int .i64 w1), (4, .pointer (some ⟨b245, 0, none⟩)), (5, .pointer (some ⟨b246, 0, none⟩)), (7, .pointer (some ⟨g274, 0, none⟩)), (8, .pointer (some ⟨g275, 0, none⟩)), (12, .pointer (some ⟨b302, 0, none⟩)), (27, .slice a_l0 l0.length c_l0), (28, .int .i64 (l0.length : Int)), (29, .int .i64 x279), (37, .agg #[.int .i64 x288, .int .i64 x289, .int .i64 x290, .int .i64 x291]), (38, .int .i64 0), (41, .pointer (some ⟨g274, 0, none⟩))]) (by kernel_rfl) ?_
              refine t_v (.ld1 rfl rfl rfl (.at 3 rfl rfl)) ?_
              refine t_qz 1 [1, 4, 5, 7, 8, 12, 27, 28, 29, 37, 38, 42, 43] (σ' := [(1, .int .i64 w1), (4, .pointer (some ⟨b245, 0, none⟩)), (5, .pointer (some ⟨b246, 0, none⟩)), (7, .pointer (some ⟨g274, 0, none⟩)), (8, .pointer (some ⟨g275, 0, none⟩)), (12, .pointer (some ⟨b302, 0, none⟩)), (27, .slice a_l0 l0.length c_l0), (28, .int .i64 (l0.length : Int)), (29, .int .i64 x279), (37, .agg #[.int .i64 x288, .int .i64 x289, .int .i64 x290, .int .i64 x291]), (38, .int .i64 0), (42, .int .i64 x282), (43, .pointer (some ⟨b302, 0, none⟩))]) (by kernel_rfl) ?_
              refine t_v (.ld1 rfl rfl rfl (.at 0 rfl rfl)) ?_
              refine t_qz 2 [1, 4, 5, 7, 8, 12, 27, 28, 29, 37, 38, 45, 46] (σ' := [(1, .int .i64 w1), (4, .pointer (some ⟨b245, 0, none⟩)), (5, .pointer (some ⟨b246, 0, none⟩)), (7, .pointer (some ⟨g274, 0, none⟩)), (8, .pointer (some ⟨g275, 0, none⟩)), (12, .pointer (some ⟨b302, 0, none⟩)), (27, .slice a_l0 l0.length c_l0), (28, .int .i64 (l0.length : Int)), (29, .int .i64 x279), (37, .agg #[.int .i64 x288, .int .i64 x289, .int .i64 x290, .int .i64 x291]), (38, .int .i64 0), (45, .int .i64 (mn x282 x288)), (46, .pointer (some ⟨g274, 1, none⟩))]) (by kernel_rfl) ?_
              refine t_v (.ld1 rfl rfl rfl (.at 3 rfl rfl)) ?_
              refine t_qz 1 [1, 4, 5, 7, 8, 12, 27, 28, 29, 37, 38, 45, 47, 48] (σ' := [(1, .int .i64 w1), (4, .pointer (some ⟨b245, 0, none⟩)), (5, .pointer (some ⟨b246, 0, none⟩)), (7, .pointer (some ⟨g274, 0, none⟩)), (8, .pointer (some ⟨g275, 0, none⟩)), (12, .pointer (some ⟨b302, 0, none⟩)), (27, .slice a_l0 l0.length c_l0), (28, .int .i64 (l0.length : Int)), (29, .int .i64 x279), (37, .agg #[.int .i64 x288, .int .i64 x289, .int .i64 x290, .int .i64 x291]), (38, .int .i64 0), (45, .int .i64 (mn x282 x288)), (47, .int .i64 x283), (48, .pointer (some ⟨b302, 1, none⟩))]) (by kernel_rfl) ?_
              refine t_v (.ld1 rfl rfl rfl (.at 0 rfl rfl)) ?_
              refine t_qz 2 [1, 4, 5, 7, 8, 12, 27, 28, 29, 37, 38, 51] (σ' := [(1, .int .i64 w1), (4, .pointer (some ⟨b245, 0, none⟩)), (5, .pointer (some ⟨b246, 0, none⟩)), (7, .pointer (some ⟨g274, 0, none⟩)), (8, .pointer (some ⟨g275, 0, none⟩)), (12, .pointer (some ⟨b302, 0, none⟩)), (27, .slice a_l0 l0.length c_l0), (28, .int .i64 (l0.length : Int)), (29, .int .i64 x279), (37, .agg #[.int .i64 x288, .int .i64 x289, .int .i64 x290, .int .i64 x291]), (38, .int .i64 0), (51, .agg #[.int .i64 (mn x282 x288), .int .i64 (mn x283 x289)])]) (by kernel_rfl) ?_
              refine t_sti 3 (cs := [.int .i64 (mn x282 x288), .int .i64 (mn x283 x289)]) rfl rfl rfl rfl rfl rfl rfl rfl rfl ?_
              refine t_keep [1, 4, 5, 7, 8, 12, 27, 28, 29, 37, 38] (σ' := [(1, .int .i64 w1), (4, .pointer (some ⟨b245, 0, none⟩)), (5, .pointer (some ⟨b246, 0, none⟩)), (7, .pointer (some ⟨g274, 0, none⟩)), (8, .pointer (some ⟨g275, 0, none⟩)), (12, .pointer (some ⟨b302, 0, none⟩)), (27, .slice a_l0 l0.length c_l0), (28, .int .i64 (l0.length : Int)), (29, .int .i64 x279), (37, .agg #[.int .i64 x288, .int .i64 x289, .int .i64 x290, .int .i64 x291]), (38, .int .i64 0)]) (by kernel_rfl) ?_
              refine t_end ?_
              show W _ _ _ _ _ _ _
              refine w_reg fun all => ?_
              refine t_qz 1 [1, 4, 5, 7, 8, 12, 27, 28, 29, 37, 38, 52] (σ' := [(1, .int .i64 w1), (4, .pointer (some ⟨b245, 0, none⟩)), (5, .pointer (some ⟨b246, 0, none⟩)), (7, .pointer (some ⟨g274, 0, none⟩)), (8, .pointer (some ⟨g275, 0, none⟩)), (12, .pointer (some ⟨b302, 0, none⟩)), (27, .slice a_l0 l0.length c_l0), (28, .int .i64 (l0.length : Int)), (29, .int .i64 x279), (37, .agg #[.int .i64 x288, .int .i64 x289, .int .i64 x290, .int .i64 x291]), (38, .int .i64 0), (52, .pointer (some ⟨g275, 0, none⟩))]) (by kernel_rfl) ?_
              refine t_v (.ld1 rfl rfl rfl (.at 2 rfl rfl)) ?_
              refine t_qz 1 [1, 4, 5, 7, 8, 12, 27, 28, 29, 37, 38, 53, 54] (σ' := [(1, .int .i64 w1), (4, .pointer (some ⟨b245, 0, none⟩)), (5, .pointer (some ⟨b246, 0, none⟩)), (7, .pointer (some ⟨g274, 0, none⟩)), (8, .pointer (some ⟨g275, 0, none⟩)), (12, .pointer (some ⟨b302, 0, none⟩)), (27, .slice a_l0 l0.length c_l0), (28, .int .i64 (l0.length : Int)), (29, .int .i64 x279), (37, .agg #[.int .i64 x288, .int .i64 x289, .int .i64 x290, .int .i64 x291]), (38, .int .i64 0), (53, .int .i64 x280), (54, .pointer (some ⟨b302, 0, none⟩))]) (by kernel_rfl) ?_
              refine t_v (.ld1 rfl rfl rfl (.at 0 rfl rfl)) ?_
              refine t_qz 2 [1, 4, 5, 7, 8, 12, 27, 28, 29, 37, 38, 56, 57] (σ' := [(1, .int .i64 w1), (4, .pointer (some ⟨b245, 0, none⟩)), (5, .pointer (some ⟨b246, 0, none⟩)), (7, .pointer (some ⟨g274, 0, none⟩)), (8, .pointer (some ⟨g275, 0, none⟩)), (12, .pointer (some ⟨b302, 0, none⟩)), (27, .slice a_l0 l0.length c_l0), (28, .int .i64 (l0.length : Int)), (29, .int .i64 x279), (37, .agg #[.int .i64 x288, .int .i64 x289, .int .i64 x290, .int .i64 x291]), (38, .int .i64 0), (56, .int .i64 (mx x280 x288)), (57, .pointer (some ⟨g275, 1, none⟩))]) (by kernel_rfl) ?_
              refine t_v (.ld1 rfl rfl rfl (.at 2 rfl rfl)) ?_
              refine t_qz 1 [1, 4, 5, 7, 8, 27, 28, 29, 37, 38, 56, 58, 59] (σ' := [(1, .int .i64 w1), (4, .pointer (some ⟨b245, 0, none⟩)), (5, .pointer (some ⟨b246, 0, none⟩)), (7, .pointer (some ⟨g274, 0, none⟩)), (8, .pointer (some ⟨g275, 0, none⟩)), (27, .slice a_l0 l0.length c_l0), (28, .int .i64 (l0.length : Int)), (29, .int .i64 x279), (37, .agg #[.int .i64 x288, .int .i64 x289, .int .i64 x290, .int .i64 x291]), (38, .int .i64 0), (56, .int .i64 (mx x280 x288)), (58, .int .i64 x281), (59, .pointer (some ⟨b302, 1, none⟩))]) (by kernel_rfl) ?_
              refine t_v (.ld1 rfl rfl rfl (.at 0 rfl rfl)) ?_
              refine t_qz 2 [1, 4, 5, 7, 8, 27, 28, 29, 37, 38, 62] (σ' := [(1, .int .i64 w1), (4, .pointer (some ⟨b245, 0, none⟩)), (5, .pointer (some ⟨b246, 0, none⟩)), (7, .pointer (some ⟨g274, 0, none⟩)), (8, .pointer (some ⟨g275, 0, none⟩)), (27, .slice a_l0 l0.length c_l0), (28, .int .i64 (l0.length : Int)), (29, .int .i64 x279), (37, .agg #[.int .i64 x288, .int .i64 x289, .int .i64 x290, .int .i64 x291]), (38, .int .i64 0), (62, .agg #[.int .i64 (mx x280 x288), .int .i64 (mx x281 x289)])]) (by kernel_rfl) ?_
              refine t_sti 2 (cs := [.int .i64 (mx x280 x288), .int .i64 (mx x281 x289)]) rfl rfl rfl rfl rfl rfl rfl rfl rfl ?_
              refine t_keep [1, 4, 5, 7, 8, 27, 28, 29, 37, 38] (σ' := [(1, .int .i64 w1), (4, .pointer (some ⟨b245, 0, none⟩)), (5, .pointer (some ⟨b246, 0, none⟩)), (7, .pointer (some ⟨g274, 0, none⟩)), (8, .pointer (some ⟨g275, 0, none⟩)), (27, .slice a_l0 l0.length c_l0), (28, .int .i64 (l0.length : Int)), (29, .int .i64 x279), (37, .agg #[.int .i64 x288, .int .i64 x289, .int .i64 x290, .int .i64 x291]), (38, .int .i64 0)]) (by kernel_rfl) ?_
              refine t_end ?_
              show W _ _ _ _ _ _ _
              refine w_reg fun all => ?_
              refine t_qz 2 [1, 4, 5, 7, 8, 27, 28, 29, 37, 38] (σ' := [(1, .int .i64 w1), (4, .pointer (some ⟨b245, 0, none⟩)), (5, .pointer (some ⟨b246, 0, none⟩)), (7, .pointer (some ⟨g274, 0, none⟩)), (8, .pointer (some ⟨g275, 0, none⟩)), (27, .slice a_l0 l0.length c_l0), (28, .int .i64 (l0.length : Int)), (29, .int .i64 x279), (37, .agg #[.int .i64 x288, .int .i64 x289, .int .i64 x290, .int .i64 x291]), (38, .int .i64 1)]) (by kernel_rfl) ?_
              refine t_end ?_
              show WL _ _ _ _ _ _ _ _
              refine wl_step ?_
              refine w_seq ?_
              refine w_reg fun all => ?_
              refine t_qz 1 [1, 4, 5, 7, 8, 27, 28, 29, 37, 38, 39] (σ' := [(1, .int .i64 w1), (4, .pointer (some ⟨b245, 0, none⟩)), (5, .pointer (some ⟨b246, 0, none⟩)), (7, .pointer (some ⟨g274, 0, none⟩)), (8, .pointer (some ⟨g275, 0, none⟩)), (27, .slice a_l0 l0.length c_l0), (28, .int .i64 (l0.length : Int)), (29, .int .i64 x279), (37, .agg #[.int .i64 x288, .int .i64 x289, .int .i64 x290, .int .i64 x291]), (38, .int .i64 1), (39, .bool true)]) (by kernel_rfl) ?_
              refine t_end ?_
              show W _ _ _ _ _ _ _
              refine w_seq ?_
              refine w_cond rfl (fun _ => ?_) (fun c_ => by cases c_)
              show W _ _ _ _ _ _ _
              refine w_skip ?_
              show W _ _ _ _ _ _ _
              refine w_seq ?_
              refine w_block ?_
              refine w_seq ?_
              refine w_reg fun all => ?_
              refine t_qz 1 [1, 4, 5, 7, 8, 27, 28, 29, 37, 38, 40] (σ' := [(1, .int .i64 w1), (4, .pointer (some ⟨b245, 0, none⟩)), (5, .pointer (some ⟨b246, 0, none⟩)), (7, .pointer (some ⟨g274, 0, none⟩)), (8, .pointer (some ⟨g275, 0, none⟩)), (27, .slice a_l0 l0.length c_l0), (28, .int .i64 (l0.length : Int)), (29, .int .i64 x279), (37, .agg #[.int .i64 x288, .int .i64 x289, .int .i64 x290, .int .i64 x291]), (38, .int .i64 1), (40, .agg #[.int .i64 x290, .int .i64 x291])]) (by kernel_rfl) ?_
              refine t_a (.new rfl rfl) fun b303 fb303 sb303 => ?_
              refine t_sti 0 (cs := [.int .i64 x290, .int .i64 x291]) rfl rfl rfl rfl rfl rfl rfl rfl rfl ?_
              refine t_keep [1, 4, 5, 7, 8, 12, 27, 28, 29, 37, 38] (σ' := [(1, .int .i64 w1), (4, .pointer (some ⟨b245, 0, none⟩)), (5, .pointer (some ⟨b246, 0, none⟩)), (7, .pointer (some ⟨g274, 0, none⟩)), (8, .pointer (some ⟨g275, 0, none⟩)), (12, .pointer (some ⟨b303, 0, none⟩)), (27, .slice a_l0 l0.length c_l0), (28, .int .i64 (l0.length : Int)), (29, .int .i64 x279), (37, .agg #[.int .i64 x288, .int .i64 x289, .int .i64 x290, .int .i64 x291]), (38, .int .i64 1)]) (by kernel_rfl) ?_
              refine t_end ?_
              show W _ _ _ _ _ _ _
              refine w_seq ?_
              refine w_reg fun all => ?_
              refine t_qz 1 [1, 4, 5, 7, 8, 12, 27, 28, 29, 37, 38, 41] (σ' := [(1, .int .i64 w1), (4, .pointer (some ⟨b245, 0, none⟩)), (5, .pointer (some ⟨b246, 0, none⟩)), (7, .pointer (some ⟨g274, 0, none⟩)), (8, .pointer (some ⟨g275, 0, none⟩)), (12, .pointer (some ⟨b303, 0, none⟩)), (27, .slice a_l0 l0.length c_l0), (28, .int .i64 (l0.length : Int)), (29, .int .i64 x279), (37, .agg #[.int .i64 x288, .int .i64 x289, .int .i64 x290, .int .i64 x291]), (38, .int .i64 1), (41, .pointer (some ⟨g274, 0, none⟩))]) (by kernel_rfl) ?_
              refine t_v (.ld1 rfl rfl rfl (.at 4 rfl rfl)) ?_
              refine t_qz 1 [1, 4, 5, 7, 8, 12, 27, 28, 29, 37, 38, 42, 43] (σ' := [(1, .int .i64 w1), (4, .pointer (some ⟨b245, 0, none⟩)), (5, .pointer (some ⟨b246, 0, none⟩)), (7, .pointer (some ⟨g274, 0, none⟩)), (8, .pointer (some ⟨g275, 0, none⟩)), (12, .pointer (some ⟨b303, 0, none⟩)), (27, .slice a_l0 l0.length c_l0), (28, .int .i64 (l0.length : Int)), (29, .int .i64 x279), (37, .agg #[.int .i64 x288, .int .i64 x289, .int .i64 x290, .int .i64 x291]), (38, .int .i64 1), (42, .int .i64 (mn x282 x288)), (43, .pointer (some ⟨b303, 0, none⟩))]) (by kernel_rfl) ?_
              refine t_v (.ld1 rfl rfl rfl (.at 0 rfl rfl)) ?_
              refine t_qz 2 [1, 4, 5, 7, 8, 12, 27, 28, 29, 37, 38, 45, 46] (σ' := [(1, .int .i64 w1), (4, .pointer (some ⟨b245, 0, none⟩)), (5, .pointer (some ⟨b246, 0, none⟩)), (7, .pointer (some ⟨g274, 0, none⟩)), (8, .pointer (some ⟨g275, 0, none⟩)), (12, .pointer (some ⟨b303, 0, none⟩)), (27, .slice a_l0 l0.length c_l0), (28, .int .i64 (l0.length : Int)), (29, .int .i64 x279), (37, .agg #[.int .i64 x288, .int .i64 x289, .int .i64 x290, .int .i64 x291]), (38, .int .i64 1), (45, .int .i64 (mn (mn x282 x288) x290)), (46, .pointer (some ⟨g274, 1, none⟩))]) (by kernel_rfl) ?_
              refine t_v (.ld1 rfl rfl rfl (.at 4 rfl rfl)) ?_
              refine t_qz 1 [1, 4, 5, 7, 8, 12, 27, 28, 29, 37, 38, 45, 47, 48] (σ' := [(1, .int .i64 w1), (4, .pointer (some ⟨b245, 0, none⟩)), (5, .pointer (some ⟨b246, 0, none⟩)), (7, .pointer (some ⟨g274, 0, none⟩)), (8, .pointer (some ⟨g275, 0, none⟩)), (12, .pointer (some ⟨b303, 0, none⟩)), (27, .slice a_l0 l0.length c_l0), (28, .int .i64 (l0.length : Int)), (29, .int .i64 x279), (37, .agg #[.int .i64 x288, .int .i64 x289, .int .i64 x290, .int .i64 x291]), (38, .int .i64 1), (45, .int .i64 (mn (mn x282 x288) x290)), (47, .int .i64 (mn x283 x289)), (48, .pointer (some ⟨b303, 1, none⟩))]) (by kernel_rfl) ?_
              refine t_v (.ld1 rfl rfl rfl (.at 0 rfl rfl)) ?_
              refine t_qz 2 [1, 4, 5, 7, 8, 12, 27, 28, 29, 37, 38, 51] (σ' := [(1, .int .i64 w1), (4, .pointer (some ⟨b245, 0, none⟩)), (5, .pointer (some ⟨b246, 0, none⟩)), (7, .pointer (some ⟨g274, 0, none⟩)), (8, .pointer (some ⟨g275, 0, none⟩)), (12, .pointer (some ⟨b303, 0, none⟩)), (27, .slice a_l0 l0.length c_l0), (28, .int .i64 (l0.length : Int)), (29, .int .i64 x279), (37, .agg #[.int .i64 x288, .int .i64 x289, .int .i64 x290, .int .i64 x291]), (38, .int .i64 1), (51, .agg #[.int .i64 (mn (mn x282 x288) x290), .int .i64 (mn (mn x283 x289) x291)])]) (by kernel_rfl) ?_
              refine t_sti 4 (cs := [.int .i64 (mn (mn x282 x288) x290), .int .i64 (mn (mn x283 x289) x291)]) rfl rfl rfl rfl rfl rfl rfl rfl rfl ?_
              refine t_keep [1, 4, 5, 7, 8, 12, 27, 28, 29, 37, 38] (σ' := [(1, .int .i64 w1), (4, .pointer (some ⟨b245, 0, none⟩)), (5, .pointer (some ⟨b246, 0, none⟩)), (7, .pointer (some ⟨g274, 0, none⟩)), (8, .pointer (some ⟨g275, 0, none⟩)), (12, .pointer (some ⟨b303, 0, none⟩)), (27, .slice a_l0 l0.length c_l0), (28, .int .i64 (l0.length : Int)), (29, .int .i64 x279), (37, .agg #[.int .i64 x288, .int .i64 x289, .int .i64 x290, .int .i64 x291]), (38, .int .i64 1)]) (by kernel_rfl) ?_
              refine t_end ?_
              show W _ _ _ _ _ _ _
              refine w_reg fun all => ?_
              refine t_qz 1 [1, 4, 5, 7, 8, 12, 27, 28, 29, 37, 38, 52] (σ' := [(1, .int .i64 w1), (4, .pointer (some ⟨b245, 0, none⟩)), (5, .pointer (some ⟨b246, 0, none⟩)), (7, .pointer (some ⟨g274, 0, none⟩)), (8, .pointer (some ⟨g275, 0, none⟩)), (12, .pointer (some ⟨b303, 0, none⟩)), (27, .slice a_l0 l0.length c_l0), (28, .int .i64 (l0.length : Int)), (29, .int .i64 x279), (37, .agg #[.int .i64 x288, .int .i64 x289, .int .i64 x290, .int .i64 x291]), (38, .int .i64 1), (52, .pointer (some ⟨g275, 0, none⟩))]) (by kernel_rfl) ?_
              refine t_v (.ld1 rfl rfl rfl (.at 3 rfl rfl)) ?_
              refine t_qz 1 [1, 4, 5, 7, 8, 12, 27, 28, 29, 37, 38, 53, 54] (σ' := [(1, .int .i64 w1), (4, .pointer (some ⟨b245, 0, none⟩)), (5, .pointer (some ⟨b246, 0, none⟩)), (7, .pointer (some ⟨g274, 0, none⟩)), (8, .pointer (some ⟨g275, 0, none⟩)), (12, .pointer (some ⟨b303, 0, none⟩)), (27, .slice a_l0 l0.length c_l0), (28, .int .i64 (l0.length : Int)), (29, .int .i64 x279), (37, .agg #[.int .i64 x288, .int .i64 x289, .int .i64 x290, .int .i64 x291]), (38, .int .i64 1), (53, .int .i64 (mx x280 x288)), (54, .pointer (some ⟨b303, 0, none⟩))]) (by kernel_rfl) ?_
              refine t_v (.ld1 rfl rfl rfl (.at 0 rfl rfl)) ?_
              refine t_qz 2 [1, 4, 5, 7, 8, 12, 27, 28, 29, 37, 38, 56, 57] (σ' := [(1, .int .i64 w1), (4, .pointer (some ⟨b245, 0, none⟩)), (5, .pointer (some ⟨b246, 0, none⟩)), (7, .pointer (some ⟨g274, 0, none⟩)), (8, .pointer (some ⟨g275, 0, none⟩)), (12, .pointer (some ⟨b303, 0, none⟩)), (27, .slice a_l0 l0.length c_l0), (28, .int .i64 (l0.length : Int)), (29, .int .i64 x279), (37, .agg #[.int .i64 x288, .int .i64 x289, .int .i64 x290, .int .i64 x291]), (38, .int .i64 1), (56, .int .i64 (mx (mx x280 x288) x290)), (57, .pointer (some ⟨g275, 1, none⟩))]) (by kernel_rfl) ?_
              refine t_v (.ld1 rfl rfl rfl (.at 3 rfl rfl)) ?_
              refine t_qz 1 [1, 4, 5, 7, 8, 27, 28, 29, 37, 38, 56, 58, 59] (σ' := [(1, .int .i64 w1), (4, .pointer (some ⟨b245, 0, none⟩)), (5, .pointer (some ⟨b246, 0, none⟩)), (7, .pointer (some ⟨g274, 0, none⟩)), (8, .pointer (some ⟨g275, 0, none⟩)), (27, .slice a_l0 l0.length c_l0), (28, .int .i64 (l0.length : Int)), (29, .int .i64 x279), (37, .agg #[.int .i64 x288, .int .i64 x289, .int .i64 x290, .int .i64 x291]), (38, .int .i64 1), (56, .int .i64 (mx (mx x280 x288) x290)), (58, .int .i64 (mx x281 x289)), (59, .pointer (some ⟨b303, 1, none⟩))]) (by kernel_rfl) ?_
              refine t_v (.ld1 rfl rfl rfl (.at 0 rfl rfl)) ?_
              refine t_qz 2 [1, 4, 5, 7, 8, 27, 28, 29, 37, 38, 62] (σ' := [(1, .int .i64 w1), (4, .pointer (some ⟨b245, 0, none⟩)), (5, .pointer (some ⟨b246, 0, none⟩)), (7, .pointer (some ⟨g274, 0, none⟩)), (8, .pointer (some ⟨g275, 0, none⟩)), (27, .slice a_l0 l0.length c_l0), (28, .int .i64 (l0.length : Int)), (29, .int .i64 x279), (37, .agg #[.int .i64 x288, .int .i64 x289, .int .i64 x290, .int .i64 x291]), (38, .int .i64 1), (62, .agg #[.int .i64 (mx (mx x280 x288) x290), .int .i64 (mx (mx x281 x289) x291)])]) (by kernel_rfl) ?_
              refine t_sti 3 (cs := [.int .i64 (mx (mx x280 x288) x290), .int .i64 (mx (mx x281 x289) x291)]) rfl rfl rfl rfl rfl rfl rfl rfl rfl ?_
              refine t_keep [1, 4, 5, 7, 8, 27, 28, 29, 37, 38] (σ' := [(1, .int .i64 w1), (4, .pointer (some ⟨b245, 0, none⟩)), (5, .pointer (some ⟨b246, 0, none⟩)), (7, .pointer (some ⟨g274, 0, none⟩)), (8, .pointer (some ⟨g275, 0, none⟩)), (27, .slice a_l0 l0.length c_l0), (28, .int .i64 (l0.length : Int)), (29, .int .i64 x279), (37, .agg #[.int .i64 x288, .int .i64 x289, .int .i64 x290, .int .i64 x291]), (38, .int .i64 1)]) (by kernel_rfl) ?_
              refine t_end ?_
              show W _ _ _ _ _ _ _
              refine w_reg fun all => ?_
              refine t_qz 2 [1, 4, 5, 7, 8, 27, 28, 29, 37, 38] (σ' := [(1, .int .i64 w1), (4, .pointer (some ⟨b245, 0, none⟩)), (5, .pointer (some ⟨b246, 0, none⟩)), (7, .pointer (some ⟨g274, 0, none⟩)), (8, .pointer (some ⟨g275, 0, none⟩)), (27, .slice a_l0 l0.length c_l0), (28, .int .i64 (l0.length : Int)), (29, .int .i64 x279), (37, .agg #[.int .i64 x288, .int .i64 x289, .int .i64 x290, .int .i64 x291]), (38, .int .i64 2)]) (by kernel_rfl) ?_
              refine t_end ?_
              show WL _ _ _ _ _ _ _ _
              refine wl_step ?_
              refine w_seq ?_
              refine w_reg fun all => ?_
              refine t_qz 1 [1, 4, 5, 7, 8, 27, 28, 29, 37, 38, 39] (σ' := [(1, .int .i64 w1), (4, .pointer (some ⟨b245, 0, none⟩)), (5, .pointer (some ⟨b246, 0, none⟩)), (7, .pointer (some ⟨g274, 0, none⟩)), (8, .pointer (some ⟨g275, 0, none⟩)), (27, .slice a_l0 l0.length c_l0), (28, .int .i64 (l0.length : Int)), (29, .int .i64 x279), (37, .agg #[.int .i64 x288, .int .i64 x289, .int .i64 x290, .int .i64 x291]), (38, .int .i64 2), (39, .bool false)]) (by kernel_rfl) ?_
              refine t_end ?_
              show W _ _ _ _ _ _ _
              refine w_seq ?_
              refine w_cond rfl (fun c_ => by cases c_) (fun _ => ?_)
              show W _ _ _ _ _ _ _
              refine w_exit ?_
              simp only [Option.some.injEq, Prod.mk.injEq] at e286
              obtain ⟨rfl, rfl, rfl, rfl⟩ := e286
              exact ⟨([⟨g275, [.int .i64 (mx (mx x280 x288) x290), .int .i64 (mx (mx x281 x289) x291)], 2⟩, ⟨g274, [.int .i64 (mn (mn x282 x288) x290), .int .i64 (mn (mn x283 x289) x291)], 2⟩, ⟨b246, [.int .i64 0, .int .i64 0], 2⟩, ⟨b245, [.int .i64 0, .int .i64 0], 2⟩] : List Own), S, VS.sel [3, 3, 3, 3] (by kernel_rfl), by kernel_rfl, rfl, rfl⟩
            · rintro σ_ H_ S_ ⟨rfl, rfl, rfl⟩
              refine w_reg fun all => ?_
              refine t_qz 2 [1, 4, 5, 7, 8, 27, 28, 29] (σ' := [(1, .int .i64 w1), (4, .pointer (some ⟨b245, 0, none⟩)), (5, .pointer (some ⟨b246, 0, none⟩)), (7, .pointer (some ⟨g274, 0, none⟩)), (8, .pointer (some ⟨g275, 0, none⟩)), (27, .slice a_l0 l0.length c_l0), (28, .int .i64 (l0.length : Int)), (29, .int .i64 (wr64 (x279 + 1)))]) (by kernel_rfl) ?_
              refine t_end ?_
              exact ⟨k_, Nat.lt_succ_self _, [(1, .int .i64 w1), (4, .pointer (some ⟨b245, 0, none⟩)), (5, .pointer (some ⟨b246, 0, none⟩)), (7, .pointer (some ⟨g274, 0, none⟩)), (8, .pointer (some ⟨g275, 0, none⟩)), (27, .slice a_l0 l0.length c_l0), (28, .int .i64 (l0.length : Int)), (29, .int .i64 (wr64 (x279 + 1)))], ([⟨g275, [.int .i64 x304, .int .i64 x305], 2⟩, ⟨g274, [.int .i64 x306, .int .i64 x307], 2⟩, ⟨b246, [.int .i64 0, .int .i64 0], 2⟩, ⟨b245, [.int .i64 0, .int .i64 0], 2⟩] : List Own), S, keep_sub [1, 4, 5, 7, 8, 27, 28, 29] (by kernel_rfl), VS.sel [0, 0, 0, 0] (by kernel_rfl), wr64 (x279 + 1), x304, x305, x306, x307, rfl, rfl, rfl, e277⟩
          · rw [if_neg c284] at e277
            have c284b : (decide (x279 < (l0.length : Int))) = false := decide_eq_false c284
            refine t_v (dv_quiet rfl (congrArg (fun t => some (Value.bool t)) c284b)) ?_
            refine t_keep [1, 4, 5, 7, 8, 27, 28, 29, 30] (σ' := [(1, .int .i64 w1), (4, .pointer (some ⟨b245, 0, none⟩)), (5, .pointer (some ⟨b246, 0, none⟩)), (7, .pointer (some ⟨g274, 0, none⟩)), (8, .pointer (some ⟨g275, 0, none⟩)), (27, .slice a_l0 l0.length c_l0), (28, .int .i64 (l0.length : Int)), (29, .int .i64 x279), (30, .bool false)]) (by kernel_rfl) ?_
            refine t_end ?_
            show W _ _ _ _ _ _ _
            refine w_seq ?_
            refine w_cond rfl (fun c_ => by cases c_) (fun _ => ?_)
            show W _ _ _ _ _ _ _
            refine w_exit ?_
            simp only [Option.some.injEq, Prod.mk.injEq] at e277
            obtain ⟨rfl, rfl, rfl, rfl⟩ := e277
            exact ⟨([⟨g275, [.int .i64 x280, .int .i64 x281], 2⟩, ⟨g274, [.int .i64 x282, .int .i64 x283], 2⟩, ⟨b246, [.int .i64 0, .int .i64 0], 2⟩, ⟨b245, [.int .i64 0, .int .i64 0], 2⟩] : List Own), S, VS.sel [0, 0, 0, 0] (by kernel_rfl), by kernel_rfl, rfl, rfl⟩
      · rintro σ_ H_ S_ ⟨rfl, rfl, rfl⟩
        refine w_seq ?_
        refine w_reg fun all => ?_
        refine t_qz 4 [4, 5, 7, 8, 13] (σ' := [(4, .pointer (some ⟨b245, 0, none⟩)), (5, .pointer (some ⟨b246, 0, none⟩)), (7, .pointer (some ⟨g274, 0, none⟩)), (8, .pointer (some ⟨g275, 0, none⟩)), (13, .int .i64 (wr64 (Int.tdiv (wr64 (w1 + 1)) 2)))]) (by kernel_rfl) ?_
        refine t_end ?_
        show W _ _ _ _ _ _ _
        refine w_seq ?_
        refine w_kp [4, 5, 7, 8, 13] (σ' := [(4, .pointer (some ⟨b245, 0, none⟩)), (5, .pointer (some ⟨b246, 0, none⟩)), (7, .pointer (some ⟨g274, 0, none⟩)), (8, .pointer (some ⟨g275, 0, none⟩)), (13, .int .i64 (wr64 (Int.tdiv (wr64 (w1 + 1)) 2)))]) (by kernel_rfl) ?_
        refine w_gameQ mixed (by kernel_rfl) fun all G hend hstep hqf => ?_
        have hg_1fffff : G [true, true, true, true, true, true, true, true, true, true, true, true, true, true, true, true, true, true, true, true, true] [(4, .pointer (some ⟨b245, 0, none⟩)), (5, .pointer (some ⟨b246, 0, none⟩)), (6, .bool true)] ([⟨g275, [.int .i64 x310, .int .i64 x311], 2⟩, ⟨g274, [.int .i64 x312, .int .i64 x313], 2⟩, ⟨b246, [.int .i64 (wr64 (x310 + (wr64 (Int.tdiv (wr64 (w1 + 1)) 2)))), .int .i64 (wr64 (x311 + (wr64 (Int.tdiv (wr64 (w1 + 1)) 2))))], 2⟩, ⟨b245, [.int .i64 (wr64 (x312 - (wr64 (Int.tdiv (wr64 (w1 + 1)) 2)))), .int .i64 (wr64 (x313 - (wr64 (Int.tdiv (wr64 (w1 + 1)) 2))))], 2⟩] : List Own) := by
          refine hend _ _ _ (by kernel_rfl) ?_
          show W _ _ _ _ _ _ _
          refine w_ret ?_
          simp only [Option.some.injEq, Prod.mk.injEq] at e
          obtain ⟨rfl, rfl, rfl, rfl, rfl⟩ := e
          exact ⟨[.agg #[.int .i64 (wr64 (x312 - (wr64 (Int.tdiv (wr64 (w1 + 1)) 2)))), .int .i64 (wr64 (x313 - (wr64 (Int.tdiv (wr64 (w1 + 1)) 2))))], .agg #[.int .i64 (wr64 (x310 + (wr64 (Int.tdiv (wr64 (w1 + 1)) 2)))), .int .i64 (wr64 (x311 + (wr64 (Int.tdiv (wr64 (w1 + 1)) 2))))], .bool true], [], S, ⟨⟨_, _, _, rfl, .at 3 rfl rfl, rfl⟩, ⟨_, _, _, rfl, .at 2 rfl rfl, rfl⟩, rfl, trivial⟩, VS.none, rfl, rfl, rfl⟩
        have hg_fffff : G [true, true, true, true, true, true, true, true, true, true, true, true, true, true, true, true, true, true, true, true, false] [(4, .pointer (some ⟨b245, 0, none⟩)), (5, .pointer (some ⟨b246, 0, none⟩))] ([⟨g275, [.int .i64 x310, .int .i64 x311], 2⟩, ⟨g274, [.int .i64 x312, .int .i64 x313], 2⟩, ⟨b246, [.int .i64 (wr64 (x310 + (wr64 (Int.tdiv (wr64 (w1 + 1)) 2)))), .int .i64 (wr64 (x311 + (wr64 (Int.tdiv (wr64 (w1 + 1)) 2))))], 2⟩, ⟨b245, [.int .i64 (wr64 (x312 - (wr64 (Int.tdiv (wr64 (w1 + 1)) 2)))), .int .i64 (wr64 (x313 - (wr64 (Int.tdiv (wr64 (w1 + 1)) 2))))], 2⟩] : List Own) := by
          exact hqf 20 [4, 5, 6] _ _ _ [(4, .pointer (some ⟨b245, 0, none⟩)), (5, .pointer (some ⟨b246, 0, none⟩)), (6, .bool true)] (by kernel_rfl) (by kernel_rfl) hg_1fffff
        have hg_7ffff : G [true, true, true, true, true, true, true, true, true, true, true, true, true, true, true, true, true, true, true, false, false] [(4, .pointer (some ⟨b245, 0, none⟩)), (5, .pointer (some ⟨b246, 0, none⟩)), (85, .agg #[.int .i64 (wr64 (x310 + (wr64 (Int.tdiv (wr64 (w1 + 1)) 2)))), .int .i64 (wr64 (x311 + (wr64 (Int.tdiv (wr64 (w1 + 1)) 2))))])] ([⟨g275, [.int .i64 x310, .int .i64 x311], 2⟩, ⟨g274, [.int .i64 x312, .int .i64 x313], 2⟩, ⟨b246, [.int .i64 0, .int .i64 0], 2⟩, ⟨b245, [.int .i64 (wr64 (x312 - (wr64 (Int.tdiv (wr64 (w1 + 1)) 2)))), .int .i64 (wr64 (x313 - (wr64 (Int.tdiv (wr64 (w1 + 1)) 2))))], 2⟩] : List Own) := by
          refine hstep [19] _ _ _ (by kernel_rfl) (List.cons_ne_nil _ _) ⟨?_, trivial⟩
          · show T _ _ _ _ _ _ _ _
            refine t_sti 2 (cs := [.int .i64 (wr64 (x310 + (wr64 (Int.tdiv (wr64 (w1 + 1)) 2)))), .int .i64 (wr64 (x311 + (wr64 (Int.tdiv (wr64 (w1 + 1)) 2))))]) rfl rfl rfl rfl rfl rfl rfl rfl rfl ?_
            refine t_keep [4, 5] (σ' := [(4, .pointer (some ⟨b245, 0, none⟩)), (5, .pointer (some ⟨b246, 0, none⟩))]) (by kernel_rfl) ?_
            refine t_end ?_
            exact ⟨hg_fffff, rfl⟩
        have hg_5ffff : G [true, true, true, true, true, true, true, true, true, true, true, true, true, true, true, true, true, false, true, false, false] [(4, .pointer (some ⟨b245, 0, none⟩)), (5, .pointer (some ⟨b246, 0, none⟩)), (80, .int .i64 (wr64 (x310 + (wr64 (Int.tdiv (wr64 (w1 + 1)) 2))))), (84, .int .i64 (wr64 (x311 + (wr64 (Int.tdiv (wr64 (w1 + 1)) 2)))))] ([⟨g275, [.int .i64 x310, .int .i64 x311], 2⟩, ⟨g274, [.int .i64 x312, .int .i64 x313], 2⟩, ⟨b246, [.int .i64 0, .int .i64 0], 2⟩, ⟨b245, [.int .i64 (wr64 (x312 - (wr64 (Int.tdiv (wr64 (w1 + 1)) 2)))), .int .i64 (wr64 (x313 - (wr64 (Int.tdiv (wr64 (w1 + 1)) 2))))], 2⟩] : List Own) := by
          exact hqf 17 [4, 5, 85] _ _ _ [(4, .pointer (some ⟨b245, 0, none⟩)), (5, .pointer (some ⟨b246, 0, none⟩)), (85, .agg #[.int .i64 (wr64 (x310 + (wr64 (Int.tdiv (wr64 (w1 + 1)) 2)))), .int .i64 (wr64 (x311 + (wr64 (Int.tdiv (wr64 (w1 + 1)) 2))))])] (by kernel_rfl) (by kernel_rfl) hg_7ffff
        have hg_3ffff : G [true, true, true, true, true, true, true, true, true, true, true, true, true, true, true, true, true, true, false, false, false] [(4, .pointer (some ⟨b245, 0, none⟩)), (5, .pointer (some ⟨b246, 0, none⟩)), (76, .agg #[.int .i64 (wr64 (x312 - (wr64 (Int.tdiv (wr64 (w1 + 1)) 2)))), .int .i64 (wr64 (x313 - (wr64 (Int.tdiv (wr64 (w1 + 1)) 2))))]), (85, .agg #[.int .i64 (wr64 (x310 + (wr64 (Int.tdiv (wr64 (w1 + 1)) 2)))), .int .i64 (wr64 (x311 + (wr64 (Int.tdiv (wr64 (w1 + 1)) 2))))])] ([⟨g275, [.int .i64 x310, .int .i64 x311], 2⟩, ⟨g274, [.int .i64 x312, .int .i64 x313], 2⟩, ⟨b246, [.int .i64 0, .int .i64 0], 2⟩, ⟨b245, [.int .i64 0, .int .i64 0], 2⟩] : List Own) := by
          refine hstep [18] _ _ _ (by kernel_rfl) (List.cons_ne_nil _ _) ⟨?_, trivial⟩
          · show T _ _ _ _ _ _ _ _
            refine t_sti 3 (cs := [.int .i64 (wr64 (x312 - (wr64 (Int.tdiv (wr64 (w1 + 1)) 2)))), .int .i64 (wr64 (x313 - (wr64 (Int.tdiv (wr64 (w1 + 1)) 2))))]) rfl rfl rfl rfl rfl rfl rfl rfl rfl ?_
            refine t_keep [4, 5, 85] (σ' := [(4, .pointer (some ⟨b245, 0, none⟩)), (5, .pointer (some ⟨b246, 0, none⟩)), (85, .agg #[.int .i64 (wr64 (x310 + (wr64 (Int.tdiv (wr64 (w1 + 1)) 2)))), .int .i64 (wr64 (x311 + (wr64 (Int.tdiv (wr64 (w1 + 1)) 2))))])]) (by kernel_rfl) ?_
            refine t_end ?_
            exact ⟨hg_7ffff, rfl⟩
        have hg_4ffff : G [true, true, true, true, true, true, true, true, true, true, true, true, true, true, true, true, false, false, true, false, false] [(4, .pointer (some ⟨b245, 0, none⟩)), (5, .pointer (some ⟨b246, 0, none⟩)), (80, .int .i64 (wr64 (x310 + (wr64 (Int.tdiv (wr64 (w1 + 1)) 2))))), (82, .int .i64 x311), (83, .int .i64 (wr64 (Int.tdiv (wr64 (w1 + 1)) 2)))] ([⟨g275, [.int .i64 x310, .int .i64 x311], 2⟩, ⟨g274, [.int .i64 x312, .int .i64 x313], 2⟩, ⟨b246, [.int .i64 0, .int .i64 0], 2⟩, ⟨b245, [.int .i64 (wr64 (x312 - (wr64 (Int.tdiv (wr64 (w1 + 1)) 2)))), .int .i64 (wr64 (x313 - (wr64 (Int.tdiv (wr64 (w1 + 1)) 2))))], 2⟩] : List Own) := by
          exact hqf 16 [4, 5, 80, 84] _ _ _ [(4, .pointer (some ⟨b245, 0, none⟩)), (5, .pointer (some ⟨b246, 0, none⟩)), (80, .int .i64 (wr64 (x310 + (wr64 (Int.tdiv (wr64 (w1 + 1)) 2))))), (84, .int .i64 (wr64 (x311 + (wr64 (Int.tdiv (wr64 (w1 + 1)) 2)))))] (by kernel_rfl) (by kernel_rfl) hg_5ffff
        have hg_5efff : G [true, true, true, true, true, true, true, true, true, true, true, true, false, true, true, true, true, false, true, false, false] [(4, .pointer (some ⟨b245, 0, none⟩)), (5, .pointer (some ⟨b246, 0, none⟩)), (78, .int .i64 x310), (79, .int .i64 (wr64 (Int.tdiv (wr64 (w1 + 1)) 2))), (84, .int .i64 (wr64 (x311 + (wr64 (Int.tdiv (wr64 (w1 + 1)) 2)))))] ([⟨g275, [.int .i64 x310, .int .i64 x311], 2⟩, ⟨g274, [.int .i64 x312, .int .i64 x313], 2⟩, ⟨b246, [.int .i64 0, .int .i64 0], 2⟩, ⟨b245, [.int .i64 (wr64 (x312 - (wr64 (Int.tdiv (wr64 (w1 + 1)) 2)))), .int .i64 (wr64 (x313 - (wr64 (Int.tdiv (wr64 (w1 + 1)) 2))))], 2⟩] : List Own) := by
          exact hqf 12 [4, 5, 80, 84] _ _ _ [(4, .pointer (some ⟨b245, 0, none⟩)), (5, .pointer (some ⟨b246, 0, none⟩)), (80, .int .i64 (wr64 (x310 + (wr64 (Int.tdiv (wr64 (w1 + 1)) 2))))), (84, .int .i64 (wr64 (x311 + (wr64 (Int.tdiv (wr64 (w1 + 1)) 2)))))] (by kernel_rfl) (by kernel_rfl) hg_5ffff
        have hg_1ffff : G [true, true, true, true, true, true, true, true, true, true, true, true, true, true, true, true, true, false, false, false, false] [(4, .pointer (some ⟨b245, 0, none⟩)), (5, .pointer (some ⟨b246, 0, none⟩)), (76, .agg #[.int .i64 (wr64 (x312 - (wr64 (Int.tdiv (wr64 (w1 + 1)) 2)))), .int .i64 (wr64 (x313 - (wr64 (Int.tdiv (wr64 (w1 + 1)) 2))))]), (80, .int .i64 (wr64 (x310 + (wr64 (Int.tdiv (wr64 (w1 + 1)) 2))))), (84, .int .i64 (wr64 (x311 + (wr64 (Int.tdiv (wr64 (w1 + 1)) 2)))))] ([⟨g275, [.int .i64 x310, .int .i64 x311], 2⟩, ⟨g274, [.int .i64 x312, .int .i64 x313], 2⟩, ⟨b246, [.int .i64 0, .int .i64 0], 2⟩, ⟨b245, [.int .i64 0, .int .i64 0], 2⟩] : List Own) := by
          exact hqf 17 [4, 5, 76, 85] _ _ _ [(4, .pointer (some ⟨b245, 0, none⟩)), (5, .pointer (some ⟨b246, 0, none⟩)), (76, .agg #[.int .i64 (wr64 (x312 - (wr64 (Int.tdiv (wr64 (w1 + 1)) 2)))), .int .i64 (wr64 (x313 - (wr64 (Int.tdiv (wr64 (w1 + 1)) 2))))]), (85, .agg #[.int .i64 (wr64 (x310 + (wr64 (Int.tdiv (wr64 (w1 + 1)) 2)))), .int .i64 (wr64 (x311 + (wr64 (Int.tdiv (wr64 (w1 + 1)) 2))))])] (by kernel_rfl) (by kernel_rfl) hg_3ffff
        have hg_3feff : G [true, true, true, true, true, true, true, true, false, true, true, true, true, true, true, true, true, true, false, false, false] [(4, .pointer (some ⟨b245, 0, none⟩)), (5, .pointer (some ⟨b246, 0, none⟩)), (71, .int .i64 (wr64 (x312 - (wr64 (Int.tdiv (wr64 (w1 + 1)) 2))))), (75, .int .i64 (wr64 (x313 - (wr64 (Int.tdiv (wr64 (w1 + 1)) 2))))), (85, .agg #[.int .i64 (wr64 (x310 + (wr64 (Int.tdiv (wr64 (w1 + 1)) 2)))), .int .i64 (wr64 (x311 + (wr64 (Int.tdiv (wr64 (w1 + 1)) 2))))])] ([⟨g275, [.int .i64 x310, .int .i64 x311], 2⟩, ⟨g274, [.int .i64 x312, .int .i64 x313], 2⟩, ⟨b246, [.int .i64 0, .int .i64 0], 2⟩, ⟨b245, [.int .i64 0, .int .i64 0], 2⟩] : List Own) := by
          exact hqf 8 [4, 5, 76, 85] _ _ _ [(4, .pointer (some ⟨b245, 0, none⟩)), (5, .pointer (some ⟨b246, 0, none⟩)), (76, .agg #[.int .i64 (wr64 (x312 - (wr64 (Int.tdiv (wr64 (w1 + 1)) 2)))), .int .i64 (wr64 (x313 - (wr64 (Int.tdiv (wr64 (w1 + 1)) 2))))]), (85, .agg #[.int .i64 (wr64 (x310 + (wr64 (Int.tdiv (wr64 (w1 + 1)) 2)))), .int .i64 (wr64 (x311 + (wr64 (Int.tdiv (wr64 (w1 + 1)) 2))))])] (by kernel_rfl) (by kernel_rfl) hg_3ffff
        have hg_4bfff : G [true, true, true, true, true, true, true, true, true, true, true, true, true, true, false, true, false, false, true, false, false] [(4, .pointer (some ⟨b245, 0, none⟩)), (5, .pointer (some ⟨b246, 0, none⟩)), (80, .int .i64 (wr64 (x310 + (wr64 (Int.tdiv (wr64 (w1 + 1)) 2))))), (81, .pointer (some ⟨g275, 1, none⟩)), (83, .int .i64 (wr64 (Int.tdiv (wr64 (w1 + 1)) 2)))] ([⟨g275, [.int .i64 x310, .int .i64 x311], 2⟩, ⟨g274, [.int .i64 x312, .int .i64 x313], 2⟩, ⟨b246, [.int .i64 0, .int .i64 0], 2⟩, ⟨b245, [.int .i64 (wr64 (x312 - (wr64 (Int.tdiv (wr64 (w1 + 1)) 2)))), .int .i64 (wr64 (x313 - (wr64 (Int.tdiv (wr64 (w1 + 1)) 2))))], 2⟩] : List Own) := by
          refine hstep [14] _ _ _ (by kernel_rfl) (List.cons_ne_nil _ _) ⟨?_, trivial⟩
          · show T _ _ _ _ _ _ _ _
            refine t_v (.ld1 rfl rfl rfl (.at 0 rfl rfl)) ?_
            refine t_keep [4, 5, 80, 82, 83] (σ' := [(4, .pointer (some ⟨b245, 0, none⟩)), (5, .pointer (some ⟨b246, 0, none⟩)), (80, .int .i64 (wr64 (x310 + (wr64 (Int.tdiv (wr64 (w1 + 1)) 2))))), (82, .int .i64 x311), (83, .int .i64 (wr64 (Int.tdiv (wr64 (w1 + 1)) 2)))]) (by kernel_rfl) ?_
            refine t_end ?_
            exact ⟨hg_4ffff, rfl⟩
        have hg_ffff : G [true, true, true, true, true, true, true, true, true, true, true, true, true, true, true, true, false, false, false, false, false] [(4, .pointer (some ⟨b245, 0, none⟩)), (5, .pointer (some ⟨b246, 0, none⟩)), (76, .agg #[.int .i64 (wr64 (x312 - (wr64 (Int.tdiv (wr64 (w1 + 1)) 2)))), .int .i64 (wr64 (x313 - (wr64 (Int.tdiv (wr64 (w1 + 1)) 2))))]), (80, .int .i64 (wr64 (x310 + (wr64 (Int.tdiv (wr64 (w1 + 1)) 2))))), (82, .int .i64 x311), (83, .int .i64 (wr64 (Int.tdiv (wr64 (w1 + 1)) 2)))] ([⟨g275, [.int .i64 x310, .int .i64 x311], 2⟩, ⟨g274, [.int .i64 x312, .int .i64 x313], 2⟩, ⟨b246, [.int .i64 0, .int .i64 0], 2⟩, ⟨b245, [.int .i64 0, .int .i64 0], 2⟩] : List Own) := by
          exact hqf 16 [4, 5, 76, 80, 84] _ _ _ [(4, .pointer (some ⟨b245, 0, none⟩)), (5, .pointer (some ⟨b246, 0, none⟩)), (76, .agg #[.int .i64 (wr64 (x312 - (wr64 (Int.tdiv (wr64 (w1 + 1)) 2)))), .int .i64 (wr64 (x313 - (wr64 (Int.tdiv (wr64 (w1 + 1)) 2))))]), (80, .int .i64 (wr64 (x310 + (wr64 (Int.tdiv (wr64 (w1 + 1)) 2))))), (84, .int .i64 (wr64 (x311 + (wr64 (Int.tdiv (wr64 (w1 + 1)) 2)))))] (by kernel_rfl) (by kernel_rfl) hg_1ffff
        have hg_3fef7 : G [true, true, true, false, true, true, true, true, false, true, true, true, true, true, true, true, true, true, false, false, false] [(4, .pointer (some ⟨b245, 0, none⟩)), (5, .pointer (some ⟨b246, 0, none⟩)), (69, .int .i64 x312), (70, .int .i64 (wr64 (Int.tdiv (wr64 (w1 + 1)) 2))), (75, .int .i64 (wr64 (x313 - (wr64 (Int.tdiv (wr64 (w1 + 1)) 2))))), (85, .agg #[.int .i64 (wr64 (x310 + (wr64 (Int.tdiv (wr64 (w1 + 1)) 2)))), .int .i64 (wr64 (x311 + (wr64 (Int.tdiv (wr64 (w1 + 1)) 2))))])] ([⟨g275, [.int .i64 x310, .int .i64 x311], 2⟩, ⟨g274, [.int .i64 x312, .int .i64 x313], 2⟩, ⟨b246, [.int .i64 0, .int .i64 0], 2⟩, ⟨b245, [.int .i64 0, .int .i64 0], 2⟩] : List Own) := by
          exact hqf 3 [4, 5, 71, 75, 85] _ _ _ [(4, .pointer (some ⟨b245, 0, none⟩)), (5, .pointer (some ⟨b246, 0, none⟩)), (71, .int .i64 (wr64 (x312 - (wr64 (Int.tdiv (wr64 (w1 + 1)) 2))))), (75, .int .i64 (wr64 (x313 - (wr64 (Int.tdiv (wr64 (w1 + 1)) 2))))), (85, .agg #[.int .i64 (wr64 (x310 + (wr64 (Int.tdiv (wr64 (w1 + 1)) 2)))), .int .i64 (wr64 (x311 + (wr64 (Int.tdiv (wr64 (w1 + 1)) 2))))])] (by kernel_rfl) (by kernel_rfl) hg_3feff
        have hg_5ebff : G [true, true, true, true, true, true, true, true, true, true, false, true, false, true, true, true, true, false, true, false, false] [(4, .pointer (some ⟨b245, 0, none⟩)), (5, .pointer (some ⟨b246, 0, none⟩)), (77, .pointer (some ⟨g275, 0, none⟩)), (79, .int .i64 (wr64 (Int.tdiv (wr64 (w1 + 1)) 2))), (84, .int .i64 (wr64 (x311 + (wr64 (Int.tdiv (wr64 (w1 + 1)) 2)))))] ([⟨g275, [.int .i64 x310, .int .i64 x311], 2⟩, ⟨g274, [.int .i64 x312, .int .i64 x313], 2⟩, ⟨b246, [.int .i64 0, .int .i64 0], 2⟩, ⟨b245, [.int .i64 (wr64 (x312 - (wr64 (Int.tdiv (wr64 (w1 + 1)) 2)))), .int .i64 (wr64 (x313 - (wr64 (Int.tdiv (wr64 (w1 + 1)) 2))))], 2⟩] : List Own) := by
          refine hstep [10] _ _ _ (by kernel_rfl) (List.cons_ne_nil _ _) ⟨?_, trivial⟩
          · show T _ _ _ _ _ _ _ _
            refine t_v (.ld1 rfl rfl rfl (.at 0 rfl rfl)) ?_
            refine t_keep [4, 5, 78, 79, 84] (σ' := [(4, .pointer (some ⟨b245, 0, none⟩)), (5, .pointer (some ⟨b246, 0, none⟩)), (78, .int .i64 x310), (79, .int .i64 (wr64 (Int.tdiv (wr64 (w1 + 1)) 2))), (84, .int .i64 (wr64 (x311 + (wr64 (Int.tdiv (wr64 (w1 + 1)) 2)))))]) (by kernel_rfl) ?_
            refine t_end ?_
            exact ⟨hg_5efff, rfl⟩
        have hg_1efff : G [true, true, true, true, true, true, true, true, true, true, true, true, false, true, true, true, true, false, false, false, false] [(4, .pointer (some ⟨b245, 0, none⟩)), (5, .pointer (some ⟨b246, 0, none⟩)), (76, .agg #[.int .i64 (wr64 (x312 - (wr64 (Int.tdiv (wr64 (w1 + 1)) 2)))), .int .i64 (wr64 (x313 - (wr64 (Int.tdiv (wr64 (w1 + 1)) 2))))]), (78, .int .i64 x310), (79, .int .i64 (wr64 (Int.tdiv (wr64 (w1 + 1)) 2))), (84, .int .i64 (wr64 (x311 + (wr64 (Int.tdiv (wr64 (w1 + 1)) 2)))))] ([⟨g275, [.int .i64 x310, .int .i64 x311], 2⟩, ⟨g274, [.int .i64 x312, .int .i64 x313], 2⟩, ⟨b246, [.int .i64 0, .int .i64 0], 2⟩, ⟨b245, [.int .i64 0, .int .i64 0], 2⟩] : List Own) := by
          exact hqf 12 [4, 5, 76, 80, 84] _ _ _ [(4, .pointer (some ⟨b245, 0, none⟩)), (5, .pointer (some ⟨b246, 0, none⟩)), (76, .agg #[.int .i64 (wr64 (x312 - (wr64 (Int.tdiv (wr64 (w1 + 1)) 2)))), .int .i64 (wr64 (x313 - (wr64 (Int.tdiv (wr64 (w1 + 1)) 2))))]), (80, .int .i64 (wr64 (x310 + (wr64 (Int.tdiv (wr64 (w1 + 1)) 2))))), (84, .int .i64 (wr64 (x311 + (wr64 (Int.tdiv (wr64 (w1 + 1)) 2)))))] (by kernel_rfl) (by kernel_rfl) hg_1ffff
        have hg_3fe7f : G [true, true, true, true, true, true, true, false, false, true, true, true, true, true, true, true, true, true, false, false, false] [(4, .pointer (some ⟨b245, 0, none⟩)), (5, .pointer (some ⟨b246, 0, none⟩)), (71, .int .i64 (wr64 (x312 - (wr64 (Int.tdiv (wr64 (w1 + 1)) 2))))), (73, .int .i64 x313), (74, .int .i64 (wr64 (Int.tdiv (wr64 (w1 + 1)) 2))), (85, .agg #[.int .i64 (wr64 (x310 + (wr64 (Int.tdiv (wr64 (w1 + 1)) 2)))), .int .i64 (wr64 (x311 + (wr64 (Int.tdiv (wr64 (w1 + 1)) 2))))])] ([⟨g275, [.int .i64 x310, .int .i64 x311], 2⟩, ⟨g274, [.int .i64 x312, .int .i64 x313], 2⟩, ⟨b246, [.int .i64 0, .int .i64 0], 2⟩, ⟨b245, [.int .i64 0, .int .i64 0], 2⟩] : List Own) := by
          exact hqf 7 [4, 5, 71, 75, 85] _ _ _ [(4, .pointer (some ⟨b245, 0, none⟩)), (5, .pointer (some ⟨b246, 0, none⟩)), (71, .int .i64 (wr64 (x312 - (wr64 (Int.tdiv (wr64 (w1 + 1)) 2))))), (75, .int .i64 (wr64 (x313 - (wr64 (Int.tdiv (wr64 (w1 + 1)) 2))))), (85, .agg #[.int .i64 (wr64 (x310 + (wr64 (Int.tdiv (wr64 (w1 + 1)) 2)))), .int .i64 (wr64 (x311 + (wr64 (Int.tdiv (wr64 (w1 + 1)) 2))))])] (by kernel_rfl) (by kernel_rfl) hg_3feff
        have hg_4ebff : G [true, true, true, true, true, true, true, true, true, true, false, true, false, true, true, true, false, false, true, false, false] [(4, .pointer (some ⟨b245, 0, none⟩)), (5, .pointer (some ⟨b246, 0, none⟩)), (77, .pointer (some ⟨g275, 0, none⟩)), (79, .int .i64 (wr64 (Int.tdiv (wr64 (w1 + 1)) 2))), (82, .int .i64 x311), (83, .int .i64 (wr64 (Int.tdiv (wr64 (w1 + 1)) 2)))] ([⟨g275, [.int .i64 x310, .int .i64 x311], 2⟩, ⟨g274, [.int .i64 x312, .int .i64 x313], 2⟩, ⟨b246, [.int .i64 0, .int .i64 0], 2⟩, ⟨b245, [.int .i64 (wr64 (x312 - (wr64 (Int.tdiv (wr64 (w1 + 1)) 2)))), .int .i64 (wr64 (x313 - (wr64 (Int.tdiv (wr64 (w1 + 1)) 2))))], 2⟩] : List Own) := by
          exact hqf 16 [4, 5, 77, 79, 84] _ _ _ [(4, .pointer (some ⟨b245, 0, none⟩)), (5, .pointer (some ⟨b246, 0, none⟩)), (77, .pointer (some ⟨g275, 0, none⟩)), (79, .int .i64 (wr64 (Int.tdiv (wr64 (w1 + 1)) 2))), (84, .int .i64 (wr64 (x311 + (wr64 (Int.tdiv (wr64 (w1 + 1)) 2)))))] (by kernel_rfl) (by kernel_rfl) hg_5ebff
        have hg_4afff : G [true, true, true, true, true, true, true, true, true, true, true, true, false, true, false, true, false, false, true, false, false] [(4, .pointer (some ⟨b245, 0, none⟩)), (5, .pointer (some ⟨b246, 0, none⟩)), (78, .int .i64 x310), (79, .int .i64 (wr64 (Int.tdiv (wr64 (w1 + 1)) 2))), (81, .pointer (some ⟨g275, 1, none⟩)), (83, .int .i64 (wr64 (Int.tdiv (wr64 (w1 + 1)) 2)))] ([⟨g275, [.int .i64 x310, .int .i64 x311], 2⟩, ⟨g274, [.int .i64 x312, .int .i64 x313], 2⟩, ⟨b246, [.int .i64 0, .int .i64 0], 2⟩, ⟨b245, [.int .i64 (wr64 (x312 - (wr64 (Int.tdiv (wr64 (w1 + 1)) 2)))), .int .i64 (wr64 (x313 - (wr64 (Int.tdiv (wr64 (w1 + 1)) 2))))], 2⟩] : List Own) := by
          exact hqf 12 [4, 5, 80, 81, 83] _ _ _ [(4, .pointer (some ⟨b245, 0, none⟩)), (5, .pointer (some ⟨b246, 0, none⟩)), (80, .int .i64 (wr64 (x310 + (wr64 (Int.tdiv (wr64 (w1 + 1)) 2))))), (81, .pointer (some ⟨g275, 1, none⟩)), (83, .int .i64 (wr64 (Int.tdiv (wr64 (w1 + 1)) 2)))] (by kernel_rfl) (by kernel_rfl) hg_4bfff
        have hg_bfff : G [true, true, true, true, true, true, true, true, true, true, true, true, true, true, false, true, false, false, false, false, false] [(4, .pointer (some ⟨b245, 0, none⟩)), (5, .pointer (some ⟨b246, 0, none⟩)), (76, .agg #[.int .i64 (wr64 (x312 - (wr64 (Int.tdiv (wr64 (w1 + 1)) 2)))), .int .i64 (wr64 (x313 - (wr64 (Int.tdiv (wr64 (w1 + 1)) 2))))]), (80, .int .i64 (wr64 (x310 + (wr64 (Int.tdiv (wr64 (w1 + 1)) 2))))), (81, .pointer (some ⟨g275, 1, none⟩)), (83, .int .i64 (wr64 (Int.tdiv (wr64 (w1 + 1)) 2)))] ([⟨g275, [.int .i64 x310, .int .i64 x311], 2⟩, ⟨g274, [.int .i64 x312, .int .i64 x313], 2⟩, ⟨b246, [.int .i64 0, .int .i64 0], 2⟩, ⟨b245, [.int .i64 0, .int .i64 0], 2⟩] : List Own) := by
          refine hstep [14, 18] _ _ _ (by kernel_rfl) (List.cons_ne_nil _ _) ⟨?_, ?_, trivial⟩
          · show T _ _ _ _ _ _ _ _
            refine t_v (.ld1 rfl rfl rfl (.at 0 rfl rfl)) ?_
            refine t_keep [4, 5, 76, 80, 82, 83] (σ' := [(4, .pointer (some ⟨b245, 0, none⟩)), (5, .pointer (some ⟨b246, 0, none⟩)), (76, .agg #[.int .i64 (wr64 (x312 - (wr64 (Int.tdiv (wr64 (w1 + 1)) 2)))), .int .i64 (wr64 (x313 - (wr64 (Int.tdiv (wr64 (w1 + 1)) 2))))]), (80, .int .i64 (wr64 (x310 + (wr64 (Int.tdiv (wr64 (w1 + 1)) 2))))), (82, .int .i64 x311), (83, .int .i64 (wr64 (Int.tdiv (wr64 (w1 + 1)) 2)))]) (by kernel_rfl) ?_
            refine t_end ?_
            exact ⟨hg_ffff, rfl⟩
          · show T _ _ _ _ _ _ _ _
            refine t_sti 3 (cs := [.int .i64 (wr64 (x312 - (wr64 (Int.tdiv (wr64 (w1 + 1)) 2)))), .int .i64 (wr64 (x313 - (wr64 (Int.tdiv (wr64 (w1 + 1)) 2))))]) rfl rfl rfl rfl rfl rfl rfl rfl rfl ?_
            refine t_keep [4, 5, 80, 81, 83] (σ' := [(4, .pointer (some ⟨b245, 0, none⟩)), (5, .pointer (some ⟨b246, 0, none⟩)), (80, .int .i64 (wr64 (x310 + (wr64 (Int.tdiv (wr64 (w1 + 1)) 2))))), (81, .pointer (some ⟨g275, 1, none⟩)), (83, .int .i64 (wr64 (Int.tdiv (wr64 (w1 + 1)) 2)))]) (by kernel_rfl) ?_
            refine t_end ?_
            exact ⟨hg_4bfff, rfl⟩
        have hg_3fe5f : G [true, true, true, true, true, false, true, false, false, true, true, true, true, true, true, true, true, true, false, false, false] [(4, .pointer (some ⟨b245, 0, none⟩)), (5, .pointer (some ⟨b246, 0, none⟩)), (71, .int .i64 (wr64 (x312 - (wr64 (Int.tdiv (wr64 (w1 + 1)) 2))))), (72, .pointer (some ⟨g274, 1, none⟩)), (74, .int .i64 (wr64 (Int.tdiv (wr64 (w1 + 1)) 2))), (85, .agg #[.int .i64 (wr64 (x310 + (wr64 (Int.tdiv (wr64 (w1 + 1)) 2)))), .int .i64 (wr64 (x311 + (wr64 (Int.tdiv (wr64 (w1 + 1)) 2))))])] ([⟨g275, [.int .i64 x310, .int .i64 x311], 2⟩, ⟨g274, [.int .i64 x312, .int .i64 x313], 2⟩, ⟨b246, [.int .i64 0, .int .i64 0], 2⟩, ⟨b245, [.int .i64 0, .int .i64 0], 2⟩] : List Own) := by
          refine hstep [5] _ _ _ (by kernel_rfl) (List.cons_ne_nil _ _) ⟨?_, trivial⟩
          · show T _ _ _ _ _ _ _ _
            refine t_v (.ld1 rfl rfl rfl (.at 1 rfl rfl)) ?_
            refine t_keep [4, 5, 71, 73, 74, 85] (σ' := [(4, .pointer (some ⟨b245, 0, none⟩)), (5, .pointer (some ⟨b246, 0, none⟩)), (71, .int .i64 (wr64 (x312 - (wr64 (Int.tdiv (wr64 (w1 + 1)) 2))))), (73, .int .i64 x313), (74, .int .i64 (wr64 (Int.tdiv (wr64 (w1 + 1)) 2))), (85, .agg #[.int .i64 (wr64 (x310 + (wr64 (Int.tdiv (wr64 (w1 + 1)) 2)))), .int .i64 (wr64 (x311 + (wr64 (Int.tdiv (wr64 (w1 + 1)) 2))))])]) (by kernel_rfl) ?_
            refine t_end ?_
            exact ⟨hg_3fe7f, rfl⟩
        have hg_1ebff : G [true, true, true, true, true, true, true, true, true, true, false, true, false, true, true, true, true, false, false, false, false] [(4, .pointer (some ⟨b245, 0, none⟩)), (5, .pointer (some ⟨b246, 0, none⟩)), (76, .agg #[.int .i64 (wr64 (x312 - (wr64 (Int.tdiv (wr64 (w1 + 1)) 2)))), .int .i64 (wr64 (x313 - (wr64 (Int.tdiv (wr64 (w1 + 1)) 2))))]), (77, .pointer (some ⟨g275, 0, none⟩)), (79, .int .i64 (wr64 (Int.tdiv (wr64 (w1 + 1)) 2))), (84, .int .i64 (wr64 (x311 + (wr64 (Int.tdiv (wr64 (w1 + 1)) 2)))))] ([⟨g275, [.int .i64 x310, .int .i64 x311], 2⟩, ⟨g274, [.int .i64 x312, .int .i64 x313], 2⟩, ⟨b246, [.int .i64 0, .int .i64 0], 2⟩, ⟨b245, [.int .i64 0, .int .i64 0], 2⟩] : List Own) := by
          refine hstep [10, 18] _ _ _ (by kernel_rfl) (List.cons_ne_nil _ _) ⟨?_, ?_, trivial⟩
          · show T _ _ _ _ _ _ _ _
            refine t_v (.ld1 rfl rfl rfl (.at 0 rfl rfl)) ?_
            refine t_keep [4, 5, 76, 78, 79, 84] (σ' := [(4, .pointer (some ⟨b245, 0, none⟩)), (5, .pointer (some ⟨b246, 0, none⟩)), (76, .agg #[.int .i64 (wr64 (x312 - (wr64 (Int.tdiv (wr64 (w1 + 1)) 2)))), .int .i64 (wr64 (x313 - (wr64 (Int.tdiv (wr64 (w1 + 1)) 2))))]), (78, .int .i64 x310), (79, .int .i64 (wr64 (Int.tdiv (wr64 (w1 + 1)) 2))), (84, .int .i64 (wr64 (x311 + (wr64 (Int.tdiv (wr64 (w1 + 1)) 2)))))]) (by kernel_rfl) ?_
            refine t_end ?_
            exact ⟨hg_1efff, rfl⟩
          · show T _ _ _ _ _ _ _ _
            refine t_sti 3 (cs := [.int .i64 (wr64 (x312 - (wr64 (Int.tdiv (wr64 (w1 + 1)) 2)))), .int .i64 (wr64 (x313 - (wr64 (Int.tdiv (wr64 (w1 + 1)) 2))))]) rfl rfl rfl rfl rfl rfl rfl rfl rfl ?_
            refine t_keep [4, 5, 77, 79, 84] (σ' := [(4, .pointer (some ⟨b245, 0, none⟩)), (5, .pointer (some ⟨b246, 0, none⟩)), (77, .pointer (some ⟨g275, 0, none⟩)), (79, .int .i64 (wr64 (Int.tdiv (wr64 (w1 + 1)) 2))), (84, .int .i64 (wr64 (x311 + (wr64 (Int.tdiv (wr64 (w1 + 1)) 2)))))]) (by kernel_rfl) ?_
            refine t_end ?_
            exact ⟨hg_5ebff, rfl⟩
        have hg_3fef5 : G [true, false, true, false, true, true, true, true, false, true, true, true, true, true, true, true, true, true, false, false, false] [(4, .pointer (some ⟨b245, 0, none⟩)), (5, .pointer (some ⟨b246, 0, none⟩)), (68, .pointer (some ⟨g274, 0, none⟩)), (70, .int .i64 (wr64 (Int.tdiv (wr64 (w1 + 1)) 2))), (75, .int .i64 (wr64 (x313 - (wr64 (Int.tdiv (wr64 (w1 + 1)) 2))))), (85, .agg #[.int .i64 (wr64 (x310 + (wr64 (Int.tdiv (wr64 (w1 + 1)) 2)))), .int .i64 (wr64 (x311 + (wr64 (Int.tdiv (wr64 (w1 + 1)) 2))))])] ([⟨g275, [.int .i64 x310, .int .i64 x311], 2⟩, ⟨g274, [.int .i64 x312, .int .i64 x313], 2⟩, ⟨b246, [.int .i64 0, .int .i64 0], 2⟩, ⟨b245, [.int .i64 0, .int .i64 0], 2⟩] : List Own) := by
          refine hstep [1] _ _ _ (by kernel_rfl) (List.cons_ne_nil _ _) ⟨?_, trivial⟩
          · show T _ _ _ _ _ _ _ _
            refine t_v (.ld1 rfl rfl rfl (.at 1 rfl rfl)) ?_
            refine t_keep [4, 5, 69, 70, 75, 85] (σ' := [(4, .pointer (some ⟨b245, 0, none⟩)), (5, .pointer (some ⟨b246, 0, none⟩)), (69, .int .i64 x312), (70, .int .i64 (wr64 (Int.tdiv (wr64 (w1 + 1)) 2))), (75, .int .i64 (wr64 (x313 - (wr64 (Int.tdiv (wr64 (w1 + 1)) 2))))), (85, .agg #[.int .i64 (wr64 (x310 + (wr64 (Int.tdiv (wr64 (w1 + 1)) 2)))), .int .i64 (wr64 (x311 + (wr64 (Int.tdiv (wr64 (w1 + 1)) 2))))])]) (by kernel_rfl) ?_
            refine t_end ?_
            exact ⟨hg_3fef7, rfl⟩
        have hg_ebff : G [true, true, true, true, true, true, true, true, true, true, false, true, false, true, true, true, false, false, false, false, false] [(4, .pointer (some ⟨b245, 0, none⟩)), (5, .pointer (some ⟨b246, 0, none⟩)), (76, .agg #[.int .i64 (wr64 (x312 - (wr64 (Int.tdiv (wr64 (w1 + 1)) 2)))), .int .i64 (wr64 (x313 - (wr64 (Int.tdiv (wr64 (w1 + 1)) 2))))]), (77, .pointer (some ⟨g275, 0, none⟩)), (79, .int .i64 (wr64 (Int.tdiv (wr64 (w1 + 1)) 2))), (82, .int .i64 x311), (83, .int .i64 (wr64 (Int.tdiv (wr64 (w1 + 1)) 2)))] ([⟨g275, [.int .i64 x310, .int .i64 x311], 2⟩, ⟨g274, [.int .i64 x312, .int .i64 x313], 2⟩, ⟨b246, [.int .i64 0, .int .i64 0], 2⟩, ⟨b245, [.int .i64 0, .int .i64 0], 2⟩] : List Own) := by
          exact hqf 16 [4, 5, 76, 77, 79, 84] _ _ _ [(4, .pointer (some ⟨b245, 0, none⟩)), (5, .pointer (some ⟨b246, 0, none⟩)), (76, .agg #[.int .i64 (wr64 (x312 - (wr64 (Int.tdiv (wr64 (w1 + 1)) 2)))), .int .i64 (wr64 (x313 - (wr64 (Int.tdiv (wr64 (w1 + 1)) 2))))]), (77, .pointer (some ⟨g275, 0, none⟩)), (79, .int .i64 (wr64 (Int.tdiv (wr64 (w1 + 1)) 2))), (84, .int .i64 (wr64 (x311 + (wr64 (Int.tdiv (wr64 (w1 + 1)) 2)))))] (by kernel_rfl) (by kernel_rfl) hg_1ebff
        have hg_afff : G [true, true, true, true, true, true, true, true, true, true, true, true, false, true, false, true, false, false, false, false, false] [(4, .pointer (some ⟨b245, 0, none⟩)), (5, .pointer (some ⟨b246, 0, none⟩)), (76, .agg #[.int .i64 (wr64 (x312 - (wr64 (Int.tdiv (wr64 (w1 + 1)) 2)))), .int .i64 (wr64 (x313 - (wr64 (Int.tdiv (wr64 (w1 + 1)) 2))))]), (78, .int .i64 x310), (79, .int .i64 (wr64 (Int.tdiv (wr64 (w1 + 1)) 2))), (81, .pointer (some ⟨g275, 1, none⟩)), (83, .int .i64 (wr64 (Int.tdiv (wr64 (w1 + 1)) 2)))] ([⟨g275, [.int .i64 x310, .int .i64 x311], 2⟩, ⟨g274, [.int .i64 x312, .int .i64 x313], 2⟩, ⟨b246, [.int .i64 0, .int .i64 0], 2⟩, ⟨b245, [.int .i64 0, .int .i64 0], 2⟩] : List Own) := by
          exact hqf 12 [4, 5, 76, 80, 81, 83] _ _ _ [(4, .pointer (some ⟨b245, 0, none⟩)), (5, .pointer (some ⟨b246, 0, none⟩)), (76, .agg #[.int .i64 (wr64 (x312 - (wr64 (Int.tdiv (wr64 (w1 + 1)) 2)))), .int .i64 (wr64 (x313 - (wr64 (Int.tdiv (wr64 (w1 + 1)) 2))))]), (80, .int .i64 (wr64 (x310 + (wr64 (Int.tdiv (wr64 (w1 + 1)) 2))))), (81, .pointer (some ⟨g275, 1, none⟩)), (83, .int .i64 (wr64 (Int.tdiv (wr64 (w1 + 1)) 2)))] (by kernel_rfl) (by kernel_rfl) hg_bfff
        have hg_1fe5f : G [true, true, true, true, true, false, true, false, false, true, true, true, true, true, true, true, true, false, false, false, false] [(4, .pointer (some ⟨b245, 0, none⟩)), (5, .pointer (some ⟨b246, 0, none⟩)), (71, .int .i64 (wr64 (x312 - (wr64 (Int.tdiv (wr64 (w1 + 1)) 2))))), (72, .pointer (some ⟨g274, 1, none⟩)), (74, .int .i64 (wr64 (Int.tdiv (wr64 (w1 + 1)) 2))), (80, .int .i64 (wr64 (x310 + (wr64 (Int.tdiv (wr64 (w1 + 1)) 2))))), (84, .int .i64 (wr64 (x311 + (wr64 (Int.tdiv (wr64 (w1 + 1)) 2)))))] ([⟨g275, [.int .i64 x310, .int .i64 x311], 2⟩, ⟨g274, [.int .i64 x312, .int .i64 x313], 2⟩, ⟨b246, [.int .i64 0, .int .i64 0], 2⟩, ⟨b245, [.int .i64 0, .int .i64 0], 2⟩] : List Own) := by
          exact hqf 17 [4, 5, 71, 72, 74, 85] _ _ _ [(4, .pointer (some ⟨b245, 0, none⟩)), (5, .pointer (some ⟨b246, 0, none⟩)), (71, .int .i64 (wr64 (x312 - (wr64 (Int.tdiv (wr64 (w1 + 1)) 2))))), (72, .pointer (some ⟨g274, 1, none⟩)), (74, .int .i64 (wr64 (Int.tdiv (wr64 (w1 + 1)) 2))), (85, .agg #[.int .i64 (wr64 (x310 + (wr64 (Int.tdiv (wr64 (w1 + 1)) 2)))), .int .i64 (wr64 (x311 + (wr64 (Int.tdiv (wr64 (w1 + 1)) 2))))])] (by kernel_rfl) (by kernel_rfl) hg_3fe5f
        have hg_1eaff : G [true, true, true, true, true, true, true, true, false, true, false, true, false, true, true, true, true, false, false, false, false] [(4, .pointer (some ⟨b245, 0, none⟩)), (5, .pointer (some ⟨b246, 0, none⟩)), (71, .int .i64 (wr64 (x312 - (wr64 (Int.tdiv (wr64 (w1 + 1)) 2))))), (75, .int .i64 (wr64 (x313 - (wr64 (Int.tdiv (wr64 (w1 + 1)) 2))))), (77, .pointer (some ⟨g275, 0, none⟩)), (79, .int .i64 (wr64 (Int.tdiv (wr64 (w1 + 1)) 2))), (84, .int .i64 (wr64 (x311 + (wr64 (Int.tdiv (wr64 (w1 + 1)) 2)))))] ([⟨g275, [.int .i64 x310, .int .i64 x311], 2⟩, ⟨g274, [.int .i64 x312, .int .i64 x313], 2⟩, ⟨b246, [.int .i64 0, .int .i64 0], 2⟩, ⟨b245, [.int .i64 0, .int .i64 0], 2⟩] : List Own) := by
          exact hqf 8 [4, 5, 76, 77, 79, 84] _ _ _ [(4, .pointer (some ⟨b245, 0, none⟩)), (5, .pointer (some ⟨b246, 0, none⟩)), (76, .agg #[.int .i64 (wr64 (x312 - (wr64 (Int.tdiv (wr64 (w1 + 1)) 2)))), .int .i64 (wr64 (x313 - (wr64 (Int.tdiv (wr64 (w1 + 1)) 2))))]), (77, .pointer (some ⟨g275, 0, none⟩)), (79, .int .i64 (wr64 (Int.tdiv (wr64 (w1 + 1)) 2))), (84, .int .i64 (wr64 (x311 + (wr64 (Int.tdiv (wr64 (w1 + 1)) 2)))))] (by kernel_rfl) (by kernel_rfl) hg_1ebff
        have hg_3fe57 : G [true, true, true, false, true, false, true, false, false, true, true, true, true, true, true, true, true, true, false, false, false] [(4, .pointer (some ⟨b245, 0, none⟩)), (5, .pointer (some ⟨b246, 0, none⟩)), (69, .int .i64 x312), (70, .int .i64 (wr64 (Int.tdiv (wr64 (w1 + 1)) 2))), (72, .pointer (some ⟨g274, 1, none⟩)), (74, .int .i64 (wr64 (Int.tdiv (wr64 (w1 + 1)) 2))), (85, .agg #[.int .i64 (wr64 (x310 + (wr64 (Int.tdiv (wr64 (w1 + 1)) 2)))), .int .i64 (wr64 (x311 + (wr64 (Int.tdiv (wr64 (w1 + 1)) 2))))])] ([⟨g275, [.int .i64 x310, .int .i64 x311], 2⟩, ⟨g274, [.int .i64 x312, .int .i64 x313], 2⟩, ⟨b246, [.int .i64 0, .int .i64 0], 2⟩, ⟨b245, [.int .i64 0, .int .i64 0], 2⟩] : List Own) := by
          exact hqf 3 [4, 5, 71, 72, 74, 85] _ _ _ [(4, .pointer (some ⟨b245, 0, none⟩)), (5, .pointer (some ⟨b246, 0, none⟩)), (71, .int .i64 (wr64 (x312 - (wr64 (Int.tdiv (wr64 (w1 + 1)) 2))))), (72, .pointer (some ⟨g274, 1, none⟩)), (74, .int .i64 (wr64 (Int.tdiv (wr64 (w1 + 1)) 2))), (85, .agg #[.int .i64 (wr64 (x310 + (wr64 (Int.tdiv (wr64 (w1 + 1)) 2)))), .int .i64 (wr64 (x311 + (wr64 (Int.tdiv (wr64 (w1 + 1)) 2))))])] (by kernel_rfl) (by kernel_rfl) hg_3fe5f
        have hg_beff : G [true, true, true, true, true, true, true, true, false, true, true, true, true, true, false, true, false, false, false, false, false] [(4, .pointer (some ⟨b245, 0, none⟩)), (5, .pointer (some ⟨b246, 0, none⟩)), (71, .int .i64 (wr64 (x312 - (wr64 (Int.tdiv (wr64 (w1 + 1)) 2))))), (75, .int .i64 (wr64 (x313 - (wr64 (Int.tdiv (wr64 (w1 + 1)) 2))))), (80, .int .i64 (wr64 (x310 + (wr64 (Int.tdiv (wr64 (w1 + 1)) 2))))), (81, .pointer (some ⟨g275, 1, none⟩)), (83, .int .i64 (wr64 (Int.tdiv (wr64 (w1 + 1)) 2)))] ([⟨g275, [.int .i64 x310, .int .i64 x311], 2⟩, ⟨g274, [.int .i64 x312, .int .i64 x313], 2⟩, ⟨b246, [.int .i64 0, .int .i64 0], 2⟩, ⟨b245, [.int .i64 0, .int .i64 0], 2⟩] : List Own) := by
          exact hqf 8 [4, 5, 76, 80, 81, 83] _ _ _ [(4, .pointer (some ⟨b245, 0, none⟩)), (5, .pointer (some ⟨b246, 0, none⟩)), (76, .agg #[.int .i64 (wr64 (x312 - (wr64 (Int.tdiv (wr64 (w1 + 1)) 2)))), .int .i64 (wr64 (x313 - (wr64 (Int.tdiv (wr64 (w1 + 1)) 2))))]), (80, .int .i64 (wr64 (x310 + (wr64 (Int.tdiv (wr64 (w1 + 1)) 2))))), (81, .pointer (some ⟨g275, 1, none⟩)), (83, .int .i64 (wr64 (Int.tdiv (wr64 (w1 + 1)) 2)))] (by kernel_rfl) (by kernel_rfl) hg_bfff
        have hg_4abff : G [true, true, true, true, true, true, true, true, true, true, false, true, false, true, false, true, false, false, true, false, false] [(4, .pointer (some ⟨b245, 0, none⟩)), (5, .pointer (some ⟨b246, 0, none⟩)), (77, .pointer (some ⟨g275, 0, none⟩)), (79, .int .i64 (wr64 (Int.tdiv (wr64 (w1 + 1)) 2))), (81, .pointer (some ⟨g275, 1, none⟩)), (83, .int .i64 (wr64 (Int.tdiv (wr64 (w1 + 1)) 2)))] ([⟨g275, [.int .i64 x310, .int .i64 x311], 2⟩, ⟨g274, [.int .i64 x312, .int .i64 x313], 2⟩, ⟨b246, [.int .i64 0, .int .i64 0], 2⟩, ⟨b245, [.int .i64 (wr64 (x312 - (wr64 (Int.tdiv (wr64 (w1 + 1)) 2)))), .int .i64 (wr64 (x313 - (wr64 (Int.tdiv (wr64 (w1 + 1)) 2))))], 2⟩] : List Own) := by
          refine hstep [10, 14] _ _ _ (by kernel_rfl) (List.cons_ne_nil _ _) ⟨?_, ?_, trivial⟩
          · show T _ _ _ _ _ _ _ _
            refine t_v (.ld1 rfl rfl rfl (.at 0 rfl rfl)) ?_
            refine t_keep [4, 5, 78, 79, 81, 83] (σ' := [(4, .pointer (some ⟨b245, 0, none⟩)), (5, .pointer (some ⟨b246, 0, none⟩)), (78, .int .i64 x310), (79, .int .i64 (wr64 (Int.tdiv (wr64 (w1 + 1)) 2))), (81, .pointer (some ⟨g275, 1, none⟩)), (83, .int .i64 (wr64 (Int.tdiv (wr64 (w1 + 1)) 2)))]) (by kernel_rfl) ?_
            refine t_end ?_
            exact ⟨hg_4afff, rfl⟩
          · show T _ _ _ _ _ _ _ _
            refine t_v (.ld1 rfl rfl rfl (.at 0 rfl rfl)) ?_
            refine t_keep [4, 5, 77, 79, 82, 83] (σ' := [(4, .pointer (some ⟨b245, 0, none⟩)), (5, .pointer (some ⟨b246, 0, none⟩)), (77, .pointer (some ⟨g275, 0, none⟩)), (79, .int .i64 (wr64 (Int.tdiv (wr64 (w1 + 1)) 2))), (82, .int .i64 x311), (83, .int .i64 (wr64 (Int.tdiv (wr64 (w1 + 1)) 2)))]) (by kernel_rfl) ?_
            refine t_end ?_
            exact ⟨hg_4ebff, rfl⟩
        have hg_3fe75 : G [true, false, true, false, true, true, true, false, false, true, true, true, true, true, true, true, true, true, false, false, false] [(4, .pointer (some ⟨b245, 0, none⟩)), (5, .pointer (some ⟨b246, 0, none⟩)), (68, .pointer (some ⟨g274, 0, none⟩)), (70, .int .i64 (wr64 (Int.tdiv (wr64 (w1 + 1)) 2))), (73, .int .i64 x313), (74, .int .i64 (wr64 (Int.tdiv (wr64 (w1 + 1)) 2))), (85, .agg #[.int .i64 (wr64 (x310 + (wr64 (Int.tdiv (wr64 (w1 + 1)) 2)))), .int .i64 (wr64 (x311 + (wr64 (Int.tdiv (wr64 (w1 + 1)) 2))))])] ([⟨g275, [.int .i64 x310, .int .i64 x311], 2⟩, ⟨g274, [.int .i64 x312, .int .i64 x313], 2⟩, ⟨b246, [.int .i64 0, .int .i64 0], 2⟩, ⟨b245, [.int .i64 0, .int .i64 0], 2⟩] : List Own) := by
          exact hqf 7 [4, 5, 68, 70, 75, 85] _ _ _ [(4, .pointer (some ⟨b245, 0, none⟩)), (5, .pointer (some ⟨b246, 0, none⟩)), (68, .pointer (some ⟨g274, 0, none⟩)), (70, .int .i64 (wr64 (Int.tdiv (wr64 (w1 + 1)) 2))), (75, .int .i64 (wr64 (x313 - (wr64 (Int.tdiv (wr64 (w1 + 1)) 2))))), (85, .agg #[.int .i64 (wr64 (x310 + (wr64 (Int.tdiv (wr64 (w1 + 1)) 2)))), .int .i64 (wr64 (x311 + (wr64 (Int.tdiv (wr64 (w1 + 1)) 2))))])] (by kernel_rfl) (by kernel_rfl) hg_3fef5
        have hg_1fef5 : G [true, false, true, false, true, true, true, true, false, true, true, true, true, true, true, true, true, false, false, false, false] [(4, .pointer (some ⟨b245, 0, none⟩)), (5, .pointer (some ⟨b246, 0, none⟩)), (68, .pointer (some ⟨g274, 0, none⟩)), (70, .int .i64 (wr64 (Int.tdiv (wr64 (w1 + 1)) 2))), (75, .int .i64 (wr64 (x313 - (wr64 (Int.tdiv (wr64 (w1 + 1)) 2))))), (80, .int .i64 (wr64 (x310 + (wr64 (Int.tdiv (wr64 (w1 + 1)) 2))))), (84, .int .i64 (wr64 (x311 + (wr64 (Int.tdiv (wr64 (w1 + 1)) 2)))))] ([⟨g275, [.int .i64 x310, .int .i64 x311], 2⟩, ⟨g274, [.int .i64 x312, .int .i64 x313], 2⟩, ⟨b246, [.int .i64 0, .int .i64 0], 2⟩, ⟨b245, [.int .i64 0, .int .i64 0], 2⟩] : List Own) := by
          exact hqf 17 [4, 5, 68, 70, 75, 85] _ _ _ [(4, .pointer (some ⟨b245, 0, none⟩)), (5, .pointer (some ⟨b246, 0, none⟩)), (68, .pointer (some ⟨g274, 0, none⟩)), (70, .int .i64 (wr64 (Int.tdiv (wr64 (w1 + 1)) 2))), (75, .int .i64 (wr64 (x313 - (wr64 (Int.tdiv (wr64 (w1 + 1)) 2))))), (85, .agg #[.int .i64 (wr64 (x310 + (wr64 (Int.tdiv (wr64 (w1 + 1)) 2)))), .int .i64 (wr64 (x311 + (wr64 (Int.tdiv (wr64 (w1 + 1)) 2))))])] (by kernel_rfl) (by kernel_rfl) hg_3fef5
        have hg_1eaf7 : G [true, true, true, false, true, true, true, true, false, true, false, true, false, true, true, true, true, false, false, false, false] [(4, .pointer (some ⟨b245, 0, none⟩)), (5, .pointer (some ⟨b246, 0, none⟩)), (69, .int .i64 x312), (70, .int .i64 (wr64 (Int.tdiv (wr64 (w1 + 1)) 2))), (75, .int .i64 (wr64 (x313 - (wr64 (Int.tdiv (wr64 (w1 + 1)) 2))))), (77, .pointer (some ⟨g275, 0, none⟩)), (79, .int .i64 (wr64 (Int.tdiv (wr64 (w1 + 1)) 2))), (84, .int .i64 (wr64 (x311 + (wr64 (Int.tdiv (wr64 (w1 + 1)) 2)))))] ([⟨g275, [.int .i64 x310, .int .i64 x311], 2⟩, ⟨g274, [.int .i64 x312, .int .i64 x313], 2⟩, ⟨b246, [.int .i64 0, .int .i64 0], 2⟩, ⟨b245, [.int .i64 0, .int .i64 0], 2⟩] : List Own) := by
          exact hqf 3 [4, 5, 71, 75, 77, 79, 84] _ _ _ [(4, .pointer (some ⟨b245, 0, none⟩)), (5, .pointer (some ⟨b246, 0, none⟩)), (71, .int .i64 (wr64 (x312 - (wr64 (Int.tdiv (wr64 (w1 + 1)) 2))))), (75, .int .i64 (wr64 (x313 - (wr64 (Int.tdiv (wr64 (w1 + 1)) 2))))), (77, .pointer (some ⟨g275, 0, none⟩)), (79, .int .i64 (wr64 (Int.tdiv (wr64 (w1 + 1)) 2))), (84, .int .i64 (wr64 (x311 + (wr64 (Int.tdiv (wr64 (w1 + 1)) 2)))))] (by kernel_rfl) (by kernel_rfl) hg_1eaff
        have hg_fef5 : G [true, false, true, false, true, true, true, true, false, true, true, true, true, true, true, true, false, false, false, false, false] [(4, .pointer (some ⟨b245, 0, none⟩)), (5, .pointer (some ⟨b246, 0, none⟩)), (68, .pointer (some ⟨g274, 0, none⟩)), (70, .int .i64 (wr64 (Int.tdiv (wr64 (w1 + 1)) 2))), (75, .int .i64 (wr64 (x313 - (wr64 (Int.tdiv (wr64 (w1 + 1)) 2))))), (80, .int .i64 (wr64 (x310 + (wr64 (Int.tdiv (wr64 (w1 + 1)) 2))))), (82, .int .i64 x311), (83, .int .i64 (wr64 (Int.tdiv (wr64 (w1 + 1)) 2)))] ([⟨g275, [.int .i64 x310, .int .i64 x311], 2⟩, ⟨g274, [.int .i64 x312, .int .i64 x313], 2⟩, ⟨b246, [.int .i64 0, .int .i64 0], 2⟩, ⟨b245, [.int .i64 0, .int .i64 0], 2⟩] : List Own) := by
          exact hqf 16 [4, 5, 68, 70, 75, 80, 84] _ _ _ [(4, .pointer (some ⟨b245, 0, none⟩)), (5, .pointer (some ⟨b246, 0, none⟩)), (68, .pointer (some ⟨g274, 0, none⟩)), (70, .int .i64 (wr64 (Int.tdiv (wr64 (w1 + 1)) 2))), (75, .int .i64 (wr64 (x313 - (wr64 (Int.tdiv (wr64 (w1 + 1)) 2))))), (80, .int .i64 (wr64 (x310 + (wr64 (Int.tdiv (wr64 (w1 + 1)) 2))))), (84, .int .i64 (wr64 (x311 + (wr64 (Int.tdiv (wr64 (w1 + 1)) 2)))))] (by kernel_rfl) (by kernel_rfl) hg_1fef5
        have hg_bef7 : G [true, true, true, false, true, true, true, true, false, true, true, true, true, true, false, true, false, false, false, false, false] [(4, .pointer (some ⟨b245, 0, none⟩)), (5, .pointer (some ⟨b246, 0, none⟩)), (69, .int .i64 x312), (70, .int .i64 (wr64 (Int.tdiv (wr64 (w1 + 1)) 2))), (75, .int .i64 (wr64 (x313 - (wr64 (Int.tdiv (wr64 (w1 + 1)) 2))))), (80, .int .i64 (wr64 (x310 + (wr64 (Int.tdiv (wr64 (w1 + 1)) 2))))), (81, .pointer (some ⟨g275, 1, none⟩)), (83, .int .i64 (wr64 (Int.tdiv (wr64 (w1 + 1)) 2)))] ([⟨g275, [.int .i64 x310, .int .i64 x311], 2⟩, ⟨g274, [.int .i64 x312, .int .i64 x313], 2⟩, ⟨b246, [.int .i64 0, .int .i64 0], 2⟩, ⟨b245, [.int .i64 0, .int .i64 0], 2⟩] : List Own) := by
          exact hqf 3 [4, 5, 71, 75, 80, 81, 83] _ _ _ [(4, .pointer (some ⟨b245, 0, none⟩)), (5, .pointer (some ⟨b246, 0, none⟩)), (71, .int .i64 (wr64 (x312 - (wr64 (Int.tdiv (wr64 (w1 + 1)) 2))))), (75, .int .i64 (wr64 (x313 - (wr64 (Int.tdiv (wr64 (w1 + 1)) 2))))), (80, .int .i64 (wr64 (x310 + (wr64 (Int.tdiv (wr64 (w1 + 1)) 2))))), (81, .pointer (some ⟨g275, 1, none⟩)), (83, .int .i64 (wr64 (Int.tdiv (wr64 (w1 + 1)) 2)))] (by kernel_rfl) (by kernel_rfl) hg_beff
        have hg_1ea7f : G [true, true, true, true, true, true, true, false, false, true, false, true, false, true, true, true, true, false, false, false, false] [(4, .pointer (some ⟨b245, 0, none⟩)), (5, .pointer (some ⟨b246, 0, none⟩)), (71, .int .i64 (wr64 (x312 - (wr64 (Int.tdiv (wr64 (w1 + 1)) 2))))), (73, .int .i64 x313), (74, .int .i64 (wr64 (Int.tdiv (wr64 (w1 + 1)) 2))), (77, .pointer (some ⟨g275, 0, none⟩)), (79, .int .i64 (wr64 (Int.tdiv (wr64 (w1 + 1)) 2))), (84, .int .i64 (wr64 (x311 + (wr64 (Int.tdiv (wr64 (w1 + 1)) 2)))))] ([⟨g275, [.int .i64 x310, .int .i64 x311], 2⟩, ⟨g274, [.int .i64 x312, .int .i64 x313], 2⟩, ⟨b246, [.int .i64 0, .int .i64 0], 2⟩, ⟨b245, [.int .i64 0, .int .i64 0], 2⟩] : List Own) := by
          exact hqf 7 [4, 5, 71, 75, 77, 79, 84] _ _ _ [(4, .pointer (some ⟨b245, 0, none⟩)), (5, .pointer (some ⟨b246, 0, none⟩)), (71, .int .i64 (wr64 (x312 - (wr64 (Int.tdiv (wr64 (w1 + 1)) 2))))), (75, .int .i64 (wr64 (x313 - (wr64 (Int.tdiv (wr64 (w1 + 1)) 2))))), (77, .pointer (some ⟨g275, 0, none⟩)), (79, .int .i64 (wr64 (Int.tdiv (wr64 (w1 + 1)) 2))), (84, .int .i64 (wr64 (x311 + (wr64 (Int.tdiv (wr64 (w1 + 1)) 2)))))] (by kernel_rfl) (by kernel_rfl) hg_1eaff
        have hg_fe5f : G [true, true, true, true, true, false, true, false, false, true, true, true, true, true, true, true, false, false, false, false, false] [(4, .pointer (some ⟨b245, 0, none⟩)), (5, .pointer (some ⟨b246, 0, none⟩)), (71, .int .i64 (wr64 (x312 - (wr64 (Int.tdiv (wr64 (w1 + 1)) 2))))), (72, .pointer (some ⟨g274, 1, none⟩)), (74, .int .i64 (wr64 (Int.tdiv (wr64 (w1 + 1)) 2))), (80, .int .i64 (wr64 (x310 + (wr64 (Int.tdiv (wr64 (w1 + 1)) 2))))), (82, .int .i64 x311), (83, .int .i64 (wr64 (Int.tdiv (wr64 (w1 + 1)) 2)))] ([⟨g275, [.int .i64 x310, .int .i64 x311], 2⟩, ⟨g274, [.int .i64 x312, .int .i64 x313], 2⟩, ⟨b246, [.int .i64 0, .int .i64 0], 2⟩, ⟨b245, [.int .i64 0, .int .i64 0], 2⟩] : List Own) := by
          exact hqf 16 [4, 5, 71, 72, 74, 80, 84] _ _ _ [(4, .pointer (some ⟨b245, 0, none⟩)), (5, .pointer (some ⟨b246, 0, none⟩)), (71, .int .i64 (wr64 (x312 - (wr64 (Int.tdiv (wr64 (w1 + 1)) 2))))), (72, .pointer (some ⟨g274, 1, none⟩)), (74, .int .i64 (wr64 (Int.tdiv (wr64 (w1 + 1)) 2))), (80, .int .i64 (wr64 (x310 + (wr64 (Int.tdiv (wr64 (w1 + 1)) 2))))), (84, .int .i64 (wr64 (x311 + (wr64 (Int.tdiv (wr64 (w1 + 1)) 2)))))] (by kernel_rfl) (by kernel_rfl) hg_1fe5f
        have hg_3fe55 : G [true, false, true, false, true, false, true, false, false, true, true, true, true, true, true, true, true, true, false, false, false] [(4, .pointer (some ⟨b245, 0, none⟩)), (5, .pointer (some ⟨b246, 0, none⟩)), (68, .pointer (some ⟨g274, 0, none⟩)), (70, .int .i64 (wr64 (Int.tdiv (wr64 (w1 + 1)) 2))), (72, .pointer (some ⟨g274, 1, none⟩)), (74, .int .i64 (wr64 (Int.tdiv (wr64 (w1 + 1)) 2))), (85, .agg #[.int .i64 (wr64 (x310 + (wr64 (Int.tdiv (wr64 (w1 + 1)) 2)))), .int .i64 (wr64 (x311 + (wr64 (Int.tdiv (wr64 (w1 + 1)) 2))))])] ([⟨g275, [.int .i64 x310, .int .i64 x311], 2⟩, ⟨g274, [.int .i64 x312, .int .i64 x313], 2⟩, ⟨b246, [.int .i64 0, .int .i64 0], 2⟩, ⟨b245, [.int .i64 0, .int .i64 0], 2⟩] : List Own) := by
          refine hstep [1, 5] _ _ _ (by kernel_rfl) (List.cons_ne_nil _ _) ⟨?_, ?_, trivial⟩
          · show T _ _ _ _ _ _ _ _
            refine t_v (.ld1 rfl rfl rfl (.at 1 rfl rfl)) ?_
            refine t_keep [4, 5, 69, 70, 72, 74, 85] (σ' := [(4, .pointer (some ⟨b245, 0, none⟩)), (5, .pointer (some ⟨b246, 0, none⟩)), (69, .int .i64 x312), (70, .int .i64 (wr64 (Int.tdiv (wr64 (w1 + 1)) 2))), (72, .pointer (some ⟨g274, 1, none⟩)), (74, .int .i64 (wr64 (Int.tdiv (wr64 (w1 + 1)) 2))), (85, .agg #[.int .i64 (wr64 (x310 + (wr64 (Int.tdiv (wr64 (w1 + 1)) 2)))), .int .i64 (wr64 (x311 + (wr64 (Int.tdiv (wr64 (w1 + 1)) 2))))])]) (by kernel_rfl) ?_
            refine t_end ?_
            exact ⟨hg_3fe57, rfl⟩
          · show T _ _ _ _ _ _ _ _
            refine t_v (.ld1 rfl rfl rfl (.at 1 rfl rfl)) ?_
            refine t_keep [4, 5, 68, 70, 73, 74, 85] (σ' := [(4, .pointer (some ⟨b245, 0, none⟩)), (5, .pointer (some ⟨b246, 0, none⟩)), (68, .pointer (some ⟨g274, 0, none⟩)), (70, .int .i64 (wr64 (Int.tdiv (wr64 (w1 + 1)) 2))), (73, .int .i64 x313), (74, .int .i64 (wr64 (Int.tdiv (wr64 (w1 + 1)) 2))), (85, .agg #[.int .i64 (wr64 (x310 + (wr64 (Int.tdiv (wr64 (w1 + 1)) 2)))), .int .i64 (wr64 (x311 + (wr64 (Int.tdiv (wr64 (w1 + 1)) 2))))])]) (by kernel_rfl) ?_
            refine t_end ?_
            exact ⟨hg_3fe75, rfl⟩
        have hg_1ee5f : G [true, true, true, true, true, false, true, false, false, true, true, true, false, true, true, true, true, false, false, false, false] [(4, .pointer (some ⟨b245, 0, none⟩)), (5, .pointer (some ⟨b246, 0, none⟩)), (71, .int .i64 (wr64 (x312 - (wr64 (Int.tdiv (wr64 (w1 + 1)) 2))))), (72, .pointer (some ⟨g274, 1, none⟩)), (74, .int .i64 (wr64 (Int.tdiv (wr64 (w1 + 1)) 2))), (78, .int .i64 x310), (79, .int .i64 (wr64 (Int.tdiv (wr64 (w1 + 1)) 2))), (84, .int .i64 (wr64 (x311 + (wr64 (Int.tdiv (wr64 (w1 + 1)) 2)))))] ([⟨g275, [.int .i64 x310, .int .i64 x311], 2⟩, ⟨g274, [.int .i64 x312, .int .i64 x313], 2⟩, ⟨b246, [.int .i64 0, .int .i64 0], 2⟩, ⟨b245, [.int .i64 0, .int .i64 0], 2⟩] : List Own) := by
          exact hqf 12 [4, 5, 71, 72, 74, 80, 84] _ _ _ [(4, .pointer (some ⟨b245, 0, none⟩)), (5, .pointer (some ⟨b246, 0, none⟩)), (71, .int .i64 (wr64 (x312 - (wr64 (Int.tdiv (wr64 (w1 + 1)) 2))))), (72, .pointer (some ⟨g274, 1, none⟩)), (74, .int .i64 (wr64 (Int.tdiv (wr64 (w1 + 1)) 2))), (80, .int .i64 (wr64 (x310 + (wr64 (Int.tdiv (wr64 (w1 + 1)) 2))))), (84, .int .i64 (wr64 (x311 + (wr64 (Int.tdiv (wr64 (w1 + 1)) 2)))))] (by kernel_rfl) (by kernel_rfl) hg_1fe5f
        have hg_be7f : G [true, true, true, true, true, true, true, false, false, true, true, true, true, true, false, true, false, false, false, false, false] [(4, .pointer (some ⟨b245, 0, none⟩)), (5, .pointer (some ⟨b246, 0, none⟩)), (71, .int .i64 (wr64 (x312 - (wr64 (Int.tdiv (wr64 (w1 + 1)) 2))))), (73, .int .i64 x313), (74, .int .i64 (wr64 (Int.tdiv (wr64 (w1 + 1)) 2))), (80, .int .i64 (wr64 (x310 + (wr64 (Int.tdiv (wr64 (w1 + 1)) 2))))), (81, .pointer (some ⟨g275, 1, none⟩)), (83, .int .i64 (wr64 (Int.tdiv (wr64 (w1 + 1)) 2)))] ([⟨g275, [.int .i64 x310, .int .i64 x311], 2⟩, ⟨g274, [.int .i64 x312, .int .i64 x313], 2⟩, ⟨b246, [.int .i64 0, .int .i64 0], 2⟩, ⟨b245, [.int .i64 0, .int .i64 0], 2⟩] : List Own) := by
          exact hqf 7 [4, 5, 71, 75, 80, 81, 83] _ _ _ [(4, .pointer (some ⟨b245, 0, none⟩)), (5, .pointer (some ⟨b246, 0, none⟩)), (71, .int .i64 (wr64 (x312 - (wr64 (Int.tdiv (wr64 (w1 + 1)) 2))))), (75, .int .i64 (wr64 (x313 - (wr64 (Int.tdiv (wr64 (w1 + 1)) 2))))), (80, .int .i64 (wr64 (x310 + (wr64 (Int.tdiv (wr64 (w1 + 1)) 2))))), (81, .pointer (some ⟨g275, 1, none⟩)), (83, .int .i64 (wr64 (Int.tdiv (wr64 (w1 + 1)) 2)))] (by kernel_rfl) (by kernel_rfl) hg_beff
        have hg_abff : G [true, true, true, true, true, true, true, true, true, true, false, true, false, true, false, true, false, false, false, false, false] [(4, .pointer (some ⟨b245, 0, none⟩)), (5, .pointer (some ⟨b246, 0, none⟩)), (76, .agg #[.int .i64 (wr64 (x312 - (wr64 (Int.tdiv (wr64 (w1 + 1)) 2)))), .int .i64 (wr64 (x313 - (wr64 (Int.tdiv (wr64 (w1 + 1)) 2))))]), (77, .pointer (some ⟨g275, 0, none⟩)), (79, .int .i64 (wr64 (Int.tdiv (wr64 (w1 + 1)) 2))), (81, .pointer (some ⟨g275, 1, none⟩)), (83, .int .i64 (wr64 (Int.tdiv (wr64 (w1 + 1)) 2)))] ([⟨g275, [.int .i64 x310, .int .i64 x311], 2⟩, ⟨g274, [.int .i64 x312, .int .i64 x313], 2⟩, ⟨b246, [.int .i64 0, .int .i64 0], 2⟩, ⟨b245, [.int .i64 0, .int .i64 0], 2⟩] : List Own) := by
          refine hstep [10, 14, 18] _ _ _ (by kernel_rfl) (List.cons_ne_nil _ _) ⟨?_, ?_, ?_, trivial⟩
          · show T _ _ _ _ _ _ _ _
            refine t_v (.ld1 rfl rfl rfl (.at 0 rfl rfl)) ?_
            refine t_keep [4, 5, 76, 78, 79, 81, 83] (σ' := [(4, .pointer (some ⟨b245, 0, none⟩)), (5, .pointer (some ⟨b246, 0, none⟩)), (76, .agg #[.int .i64 (wr64 (x312 - (wr64 (Int.tdiv (wr64 (w1 + 1)) 2)))), .int .i64 (wr64 (x313 - (wr64 (Int.tdiv (wr64 (w1 + 1)) 2))))]), (78, .int .i64 x310), (79, .int .i64 (wr64 (Int.tdiv (wr64 (w1 + 1)) 2))), (81, .pointer (some ⟨g275, 1, none⟩)), (83, .int .i64 (wr64 (Int.tdiv (wr64 (w1 + 1)) 2)))]) (by kernel_rfl) ?_
            refine t_end ?_
            exact ⟨hg_afff, rfl⟩
          · show T _ _ _ _ _ _ _ _
            refine t_v (.ld1 rfl rfl rfl (.at 0 rfl rfl)) ?_
            refine t_keep [4, 5, 76, 77, 79, 82, 83] (σ' := [(4, .pointer (some ⟨b245, 0, none⟩)), (5, .pointer (some ⟨b246, 0, none⟩)), (76, .agg #[.int .i64 (wr64 (x312 - (wr64 (Int.tdiv (wr64 (w1 + 1)) 2)))), .int .i64 (wr64 (x313 - (wr64 (Int.tdiv (wr64 (w1 + 1)) 2))))]), (77, .pointer (some ⟨g275, 0, none⟩)), (79, .int .i64 (wr64 (Int.tdiv (wr64 (w1 + 1)) 2))), (82, .int .i64 x311), (83, .int .i64 (wr64 (Int.tdiv (wr64 (w1 + 1)) 2)))]) (by kernel_rfl) ?_
            refine t_end ?_
            exact ⟨hg_ebff, rfl⟩
          · show T _ _ _ _ _ _ _ _
            refine t_sti 3 (cs := [.int .i64 (wr64 (x312 - (wr64 (Int.tdiv (wr64 (w1 + 1)) 2)))), .int .i64 (wr64 (x313 - (wr64 (Int.tdiv (wr64 (w1 + 1)) 2))))]) rfl rfl rfl rfl rfl rfl rfl rfl rfl ?_
            refine t_keep [4, 5, 77, 79, 81, 83] (σ' := [(4, .pointer (some ⟨b245, 0, none⟩)), (5, .pointer (some ⟨b246, 0, none⟩)), (77, .pointer (some ⟨g275, 0, none⟩)), (79, .int .i64 (wr64 (Int.tdiv (wr64 (w1 + 1)) 2))), (81, .pointer (some ⟨g275, 1, none⟩)), (83, .int .i64 (wr64 (Int.tdiv (wr64 (w1 + 1)) 2)))]) (by kernel_rfl) ?_
            refine t_end ?_
            exact ⟨hg_4abff, rfl⟩
        have hg_1eef5 : G [true, false, true, false, true, true, true, true, false, true, true, true, false, true, true, true, true, false, false, false, false] [(4, .pointer (some ⟨b245, 0, none⟩)), (5, .pointer (some ⟨b246, 0, none⟩)), (68, .pointer (some ⟨g274, 0, none⟩)), (70, .int .i64 (wr64 (Int.tdiv (wr64 (w1 + 1)) 2))), (75, .int .i64 (wr64 (x313 - (wr64 (Int.tdiv (wr64 (w1 + 1)) 2))))), (78, .int .i64 x310), (79, .int .i64 (wr64 (Int.tdiv (wr64 (w1 + 1)) 2))), (84, .int .i64 (wr64 (x311 + (wr64 (Int.tdiv (wr64 (w1 + 1)) 2)))))] ([⟨g275, [.int .i64 x310, .int .i64 x311], 2⟩, ⟨g274, [.int .i64 x312, .int .i64 x313], 2⟩, ⟨b246, [.int .i64 0, .int .i64 0], 2⟩, ⟨b245, [.int .i64 0, .int .i64 0], 2⟩] : List Own) := by
          exact hqf 12 [4, 5, 68, 70, 75, 80, 84] _ _ _ [(4, .pointer (some ⟨b245, 0, none⟩)), (5, .pointer (some ⟨b246, 0, none⟩)), (68, .pointer (some ⟨g274, 0, none⟩)), (70, .int .i64 (wr64 (Int.tdiv (wr64 (w1 + 1)) 2))), (75, .int .i64 (wr64 (x313 - (wr64 (Int.tdiv (wr64 (w1 + 1)) 2))))), (80, .int .i64 (wr64 (x310 + (wr64 (Int.tdiv (wr64 (w1 + 1)) 2))))), (84, .int .i64 (wr64 (x311 + (wr64 (Int.tdiv (wr64 (w1 + 1)) 2)))))] (by kernel_rfl) (by kernel_rfl) hg_1fef5
        have hg_bef5 : G [true, false, true, false, true, true, true, true, false, true, true, true, true, true, false, true, false, false, false, false, false] [(4, .pointer (some ⟨b245, 0, none⟩)), (5, .pointer (some ⟨b246, 0, none⟩)), (68, .pointer (some ⟨g274, 0, none⟩)), (70, .int .i64 (wr64 (Int.tdiv (wr64 (w1 + 1)) 2))), (75, .int .i64 (wr64 (x313 - (wr64 (Int.tdiv (wr64 (w1 + 1)) 2))))), (80, .int .i64 (wr64 (x310 + (wr64 (Int.tdiv (wr64 (w1 + 1)) 2))))), (81, .pointer (some ⟨g275, 1, none⟩)), (83, .int .i64 (wr64 (Int.tdiv (wr64 (w1 + 1)) 2)))] ([⟨g275, [.int .i64 x310, .int .i64 x311], 2⟩, ⟨g274, [.int .i64 x312, .int .i64 x313], 2⟩, ⟨b246, [.int .i64 0, .int .i64 0], 2⟩, ⟨b245, [.int .i64 0, .int .i64 0], 2⟩] : List Own) := by
          refine hstep [1, 14] _ _ _ (by kernel_rfl) (List.cons_ne_nil _ _) ⟨?_, ?_, trivial⟩
          · show T _ _ _ _ _ _ _ _
            refine t_v (.ld1 rfl rfl rfl (.at 1 rfl rfl)) ?_
            refine t_keep [4, 5, 69, 70, 75, 80, 81, 83] (σ' := [(4, .pointer (some ⟨b245, 0, none⟩)), (5, .pointer (some ⟨b246, 0, none⟩)), (69, .int .i64 x312), (70, .int .i64 (wr64 (Int.tdiv (wr64 (w1 + 1)) 2))), (75, .int .i64 (wr64 (x313 - (wr64 (Int.tdiv (wr64 (w1 + 1)) 2))))), (80, .int .i64 (wr64 (x310 + (wr64 (Int.tdiv (wr64 (w1 + 1)) 2))))), (81, .pointer (some ⟨g275, 1, none⟩)), (83, .int .i64 (wr64 (Int.tdiv (wr64 (w1 + 1)) 2)))]) (by kernel_rfl) ?_
            refine t_end ?_
            exact ⟨hg_bef7, rfl⟩
          · show T _ _ _ _ _ _ _ _
            refine t_v (.ld1 rfl rfl rfl (.at 0 rfl rfl)) ?_
            refine t_keep [4, 5, 68, 70, 75, 80, 82, 83] (σ' := [(4, .pointer (some ⟨b245, 0, none⟩)), (5, .pointer (some ⟨b246, 0, none⟩)), (68, .pointer (some ⟨g274, 0, none⟩)), (70, .int .i64 (wr64 (Int.tdiv (wr64 (w1 + 1)) 2))), (75, .int .i64 (wr64 (x313 - (wr64 (Int.tdiv (wr64 (w1 + 1)) 2))))), (80, .int .i64 (wr64 (x310 + (wr64 (Int.tdiv (wr64 (w1 + 1)) 2))))), (82, .int .i64 x311), (83, .int .i64 (wr64 (Int.tdiv (wr64 (w1 + 1)) 2)))]) (by kernel_rfl) ?_
            refine t_end ?_
            exact ⟨hg_fef5, rfl⟩
        have hg_be5f : G [true, true, true, true, true, false, true, false, false, true, true, true, true, true, false, true, false, false, false, false, false] [(4, .pointer (some ⟨b245, 0, none⟩)), (5, .pointer (some ⟨b246, 0, none⟩)), (71, .int .i64 (wr64 (x312 - (wr64 (Int.tdiv (wr64 (w1 + 1)) 2))))), (72, .pointer (some ⟨g274, 1, none⟩)), (74, .int .i64 (wr64 (Int.tdiv (wr64 (w1 + 1)) 2))), (80, .int .i64 (wr64 (x310 + (wr64 (Int.tdiv (wr64 (w1 + 1)) 2))))), (81, .pointer (some ⟨g275, 1, none⟩)), (83, .int .i64 (wr64 (Int.tdiv (wr64 (w1 + 1)) 2)))] ([⟨g275, [.int .i64 x310, .int .i64 x311], 2⟩, ⟨g274, [.int .i64 x312, .int .i64 x313], 2⟩, ⟨b246, [.int .i64 0, .int .i64 0], 2⟩, ⟨b245, [.int .i64 0, .int .i64 0], 2⟩] : List Own) := by
          refine hstep [5, 14] _ _ _ (by kernel_rfl) (List.cons_ne_nil _ _) ⟨?_, ?_, trivial⟩
          · show T _ _ _ _ _ _ _ _
            refine t_v (.ld1 rfl rfl rfl (.at 1 rfl rfl)) ?_
            refine t_keep [4, 5, 71, 73, 74, 80, 81, 83] (σ' := [(4, .pointer (some ⟨b245, 0, none⟩)), (5, .pointer (some ⟨b246, 0, none⟩)), (71, .int .i64 (wr64 (x312 - (wr64 (Int.tdiv (wr64 (w1 + 1)) 2))))), (73, .int .i64 x313), (74, .int .i64 (wr64 (Int.tdiv (wr64 (w1 + 1)) 2))), (80, .int .i64 (wr64 (x310 + (wr64 (Int.tdiv (wr64 (w1 + 1)) 2))))), (81, .pointer (some ⟨g275, 1, none⟩)), (83, .int .i64 (wr64 (Int.tdiv (wr64 (w1 + 1)) 2)))]) (by kernel_rfl) ?_
            refine t_end ?_
            exact ⟨hg_be7f, rfl⟩
          · show T _ _ _ _ _ _ _ _
            refine t_v (.ld1 rfl rfl rfl (.at 0 rfl rfl)) ?_
            refine t_keep [4, 5, 71, 72, 74, 80, 82, 83] (σ' := [(4, .pointer (some ⟨b245, 0, none⟩)), (5, .pointer (some ⟨b246, 0, none⟩)), (71, .int .i64 (wr64 (x312 - (wr64 (Int.tdiv (wr64 (w1 + 1)) 2))))), (72, .pointer (some ⟨g274, 1, none⟩)), (74, .int .i64 (wr64 (Int.tdiv (wr64 (w1 + 1)) 2))), (80, .int .i64 (wr64 (x310 + (wr64 (Int.tdiv (wr64 (w1 + 1)) 2))))), (82, .int .i64 x311), (83, .int .i64 (wr64 (Int.tdiv (wr64 (w1 + 1)) 2)))]) (by kernel_rfl) ?_
            refine t_end ?_
            exact ⟨hg_fe5f, rfl⟩
        have hg_aaff : G [true, true, true, true, true, true, true, true, false, true, false, true, false, true, false, true, false, false, false, false, false] [(4, .pointer (some ⟨b245, 0, none⟩)), (5, .pointer (some ⟨b246, 0, none⟩)), (71, .int .i64 (wr64 (x312 - (wr64 (Int.tdiv (wr64 (w1 + 1)) 2))))), (75, .int .i64 (wr64 (x313 - (wr64 (Int.tdiv (wr64 (w1 + 1)) 2))))), (77, .pointer (some ⟨g275, 0, none⟩)), (79, .int .i64 (wr64 (Int.tdiv (wr64 (w1 + 1)) 2))), (81, .pointer (some ⟨g275, 1, none⟩)), (83, .int .i64 (wr64 (Int.tdiv (wr64 (w1 + 1)) 2)))] ([⟨g275, [.int .i64 x310, .int .i64 x311], 2⟩, ⟨g274, [.int .i64 x312, .int .i64 x313], 2⟩, ⟨b246, [.int .i64 0, .int .i64 0], 2⟩, ⟨b245, [.int .i64 0, .int .i64 0], 2⟩] : List Own) := by
          exact hqf 8 [4, 5, 76, 77, 79, 81, 83] _ _ _ [(4, .pointer (some ⟨b245, 0, none⟩)), (5, .pointer (some ⟨b246, 0, none⟩)), (76, .agg #[.int .i64 (wr64 (x312 - (wr64 (Int.tdiv (wr64 (w1 + 1)) 2)))), .int .i64 (wr64 (x313 - (wr64 (Int.tdiv (wr64 (w1 + 1)) 2))))]), (77, .pointer (some ⟨g275, 0, none⟩)), (79, .int .i64 (wr64 (Int.tdiv (wr64 (w1 + 1)) 2))), (81, .pointer (some ⟨g275, 1, none⟩)), (83, .int .i64 (wr64 (Int.tdiv (wr64 (w1 + 1)) 2)))] (by kernel_rfl) (by kernel_rfl) hg_abff
        have hg_1fe55 : G [true, false, true, false, true, false, true, false, false, true, true, true, true, true, true, true, true, false, false, false, false] [(4, .pointer (some ⟨b245, 0, none⟩)), (5, .pointer (some ⟨b246, 0, none⟩)), (68, .pointer (some ⟨g274, 0, none⟩)), (70, .int .i64 (wr64 (Int.tdiv (wr64 (w1 + 1)) 2))), (72, .pointer (some ⟨g274, 1, none⟩)), (74, .int .i64 (wr64 (Int.tdiv (wr64 (w1 + 1)) 2))), (80, .int .i64 (wr64 (x310 + (wr64 (Int.tdiv (wr64 (w1 + 1)) 2))))), (84, .int .i64 (wr64 (x311 + (wr64 (Int.tdiv (wr64 (w1 + 1)) 2)))))] ([⟨g275, [.int .i64 x310, .int .i64 x311], 2⟩, ⟨g274, [.int .i64 x312, .int .i64 x313], 2⟩, ⟨b246, [.int .i64 0, .int .i64 0], 2⟩, ⟨b245, [.int .i64 0, .int .i64 0], 2⟩] : List Own) := by
          exact hqf 17 [4, 5, 68, 70, 72, 74, 85] _ _ _ [(4, .pointer (some ⟨b245, 0, none⟩)), (5, .pointer (some ⟨b246, 0, none⟩)), (68, .pointer (some ⟨g274, 0, none⟩)), (70, .int .i64 (wr64 (Int.tdiv (wr64 (w1 + 1)) 2))), (72, .pointer (some ⟨g274, 1, none⟩)), (74, .int .i64 (wr64 (Int.tdiv (wr64 (w1 + 1)) 2))), (85, .agg #[.int .i64 (wr64 (x310 + (wr64 (Int.tdiv (wr64 (w1 + 1)) 2)))), .int .i64 (wr64 (x311 + (wr64 (Int.tdiv (wr64 (w1 + 1)) 2))))])] (by kernel_rfl) (by kernel_rfl) hg_3fe55
        have hg_1ea5f : G [true, true, true, true, true, false, true, false, false, true, false, true, false, true, true, true, true, false, false, false, false] [(4, .pointer (some ⟨b245, 0, none⟩)), (5, .pointer (some ⟨b246, 0, none⟩)), (71, .int .i64 (wr64 (x312 - (wr64 (Int.tdiv (wr64 (w1 + 1)) 2))))), (72, .pointer (some ⟨g274, 1, none⟩)), (74, .int .i64 (wr64 (Int.tdiv (wr64 (w1 + 1)) 2))), (77, .pointer (some ⟨g275, 0, none⟩)), (79, .int .i64 (wr64 (Int.tdiv (wr64 (w1 + 1)) 2))), (84, .int .i64 (wr64 (x311 + (wr64 (Int.tdiv (wr64 (w1 + 1)) 2)))))] ([⟨g275, [.int .i64 x310, .int .i64 x311], 2⟩, ⟨g274, [.int .i64 x312, .int .i64 x313], 2⟩, ⟨b246, [.int .i64 0, .int .i64 0], 2⟩, ⟨b245, [.int .i64 0, .int .i64 0], 2⟩] : List Own) := by
          refine hstep [5, 10] _ _ _ (by kernel_rfl) (List.cons_ne_nil _ _) ⟨?_, ?_, trivial⟩
          · show T _ _ _ _ _ _ _ _
            refine t_v (.ld1 rfl rfl rfl (.at 1 rfl rfl)) ?_
            refine t_keep [4, 5, 71, 73, 74, 77, 79, 84] (σ' := [(4, .pointer (some ⟨b245, 0, none⟩)), (5, .pointer (some ⟨b246, 0, none⟩)), (71, .int .i64 (wr64 (x312 - (wr64 (Int.tdiv (wr64 (w1 + 1)) 2))))), (73, .int .i64 x313), (74, .int .i64 (wr64 (Int.tdiv (wr64 (w1 + 1)) 2))), (77, .pointer (some ⟨g275, 0, none⟩)), (79, .int .i64 (wr64 (Int.tdiv (wr64 (w1 + 1)) 2))), (84, .int .i64 (wr64 (x311 + (wr64 (Int.tdiv (wr64 (w1 + 1)) 2)))))]) (by kernel_rfl) ?_
            refine t_end ?_
            exact ⟨hg_1ea7f, rfl⟩
          · show T _ _ _ _ _ _ _ _
            refine t_v (.ld1 rfl rfl rfl (.at 0 rfl rfl)) ?_
            refine t_keep [4, 5, 71, 72, 74, 78, 79, 84] (σ' := [(4, .pointer (some ⟨b245, 0, none⟩)), (5, .pointer (some ⟨b246, 0, none⟩)), (71, .int .i64 (wr64 (x312 - (wr64 (Int.tdiv (wr64 (w1 + 1)) 2))))), (72, .pointer (some ⟨g274, 1, none⟩)), (74, .int .i64 (wr64 (Int.tdiv (wr64 (w1 + 1)) 2))), (78, .int .i64 x310), (79, .int .i64 (wr64 (Int.tdiv (wr64 (w1 + 1)) 2))), (84, .int .i64 (wr64 (x311 + (wr64 (Int.tdiv (wr64 (w1 + 1)) 2)))))]) (by kernel_rfl) ?_
            refine t_end ?_
            exact ⟨hg_1ee5f, rfl⟩
        have hg_1eaf5 : G [true, false, true, false, true, true, true, true, false, true, false, true, false, true, true, true, true, false, false, false, false] [(4, .pointer (some ⟨b245, 0, none⟩)), (5, .pointer (some ⟨b246, 0, none⟩)), (68, .pointer (some ⟨g274, 0, none⟩)), (70, .int .i64 (wr64 (Int.tdiv (wr64 (w1 + 1)) 2))), (75, .int .i64 (wr64 (x313 - (wr64 (Int.tdiv (wr64 (w1 + 1)) 2))))), (77, .pointer (some ⟨g275, 0, none⟩)), (79, .int .i64 (wr64 (Int.tdiv (wr64 (w1 + 1)) 2))), (84, .int .i64 (wr64 (x311 + (wr64 (Int.tdiv (wr64 (w1 + 1)) 2)))))] ([⟨g275, [.int .i64 x310, .int .i64 x311], 2⟩, ⟨g274, [.int .i64 x312, .int .i64 x313], 2⟩, ⟨b246, [.int .i64 0, .int .i64 0], 2⟩, ⟨b245, [.int .i64 0, .int .i64 0], 2⟩] : List Own) := by
          refine hstep [1, 10] _ _ _ (by kernel_rfl) (List.cons_ne_nil _ _) ⟨?_, ?_, trivial⟩
          · show T _ _ _ _ _ _ _ _
            refine t_v (.ld1 rfl rfl rfl (.at 1 rfl rfl)) ?_
            refine t_keep [4, 5, 69, 70, 75, 77, 79, 84] (σ' := [(4, .pointer (some ⟨b245, 0, none⟩)), (5, .pointer (some ⟨b246, 0, none⟩)), (69, .int .i64 x312), (70, .int .i64 (wr64 (Int.tdiv (wr64 (w1 + 1)) 2))), (75, .int .i64 (wr64 (x313 - (wr64 (Int.tdiv (wr64 (w1 + 1)) 2))))), (77, .pointer (some ⟨g275, 0, none⟩)), (79, .int .i64 (wr64 (Int.tdiv (wr64 (w1 + 1)) 2))), (84, .int .i64 (wr64 (x311 + (wr64 (Int.tdiv (wr64 (w1 + 1)) 2)))))]) (by kernel_rfl) ?_
            refine t_end ?_
            exact ⟨hg_1eaf7, rfl⟩
          · show T _ _ _ _ _ _ _ _
            refine t_v (.ld1 rfl rfl rfl (.at 0 rfl rfl)) ?_
            refine t_keep [4, 5, 68, 70, 75, 78, 79, 84] (σ' := [(4, .pointer (some ⟨b245, 0, none⟩)), (5, .pointer (some ⟨b246, 0, none⟩)), (68, .pointer (some ⟨g274, 0, none⟩)), (70, .int .i64 (wr64 (Int.tdiv (wr64 (w1 + 1)) 2))), (75, .int .i64 (wr64 (x313 - (wr64 (Int.tdiv (wr64 (w1 + 1)) 2))))), (78, .int .i64 x310), (79, .int .i64 (wr64 (Int.tdiv (wr64 (w1 + 1)) 2))), (84, .int .i64 (wr64 (x311 + (wr64 (Int.tdiv (wr64 (w1 + 1)) 2)))))]) (by kernel_rfl) ?_
            refine t_end ?_
            exact ⟨hg_1eef5, rfl⟩
        have hg_fe55 : G [true, false, true, false, true, false, true, false, false, true, true, true, true, true, true, true, false, false, false, false, false] [(4, .pointer (some ⟨b245, 0, none⟩)), (5, .pointer (some ⟨b246, 0, none⟩)), (68, .pointer (some ⟨g274, 0, none⟩)), (70, .int .i64 (wr64 (Int.tdiv (wr64 (w1 + 1)) 2))), (72, .pointer (some ⟨g274, 1, none⟩)), (74, .int .i64 (wr64 (Int.tdiv (wr64 (w1 + 1)) 2))), (80, .int .i64 (wr64 (x310 + (wr64 (Int.tdiv (wr64 (w1 + 1)) 2))))), (82, .int .i64 x311), (83, .int .i64 (wr64 (Int.tdiv (wr64 (w1 + 1)) 2)))] ([⟨g275, [.int .i64 x310, .int .i64 x311], 2⟩, ⟨g274, [.int .i64 x312, .int .i64 x313], 2⟩, ⟨b246, [.int .i64 0, .int .i64 0], 2⟩, ⟨b245, [.int .i64 0, .int .i64 0], 2⟩] : List Own) := by
          exact hqf 16 [4, 5, 68, 70, 72, 74, 80, 84] _ _ _ [(4, .pointer (some ⟨b245, 0, none⟩)), (5, .pointer (some ⟨b246, 0, none⟩)), (68, .pointer (some ⟨g274, 0, none⟩)), (70, .int .i64 (wr64 (Int.tdiv (wr64 (w1 + 1)) 2))), (72, .pointer (some ⟨g274, 1, none⟩)), (74, .int .i64 (wr64 (Int.tdiv (wr64 (w1 + 1)) 2))), (80, .int .i64 (wr64 (x310 + (wr64 (Int.tdiv (wr64 (w1 + 1)) 2))))), (84, .int .i64 (wr64 (x311 + (wr64 (Int.tdiv (wr64 (w1 + 1)) 2)))))] (by kernel_rfl) (by kernel_rfl) hg_1fe55
        have hg_eaf5 : G [true, false, true, false, true, true, true, true, false, true, false, true, false, true, true, true, false, false, false, false, false] [(4, .pointer (some ⟨b245, 0, none⟩)), (5, .pointer (some ⟨b246, 0, none⟩)), (68, .pointer (some ⟨g274, 0, none⟩)), (70, .int .i64 (wr64 (Int.tdiv (wr64 (w1 + 1)) 2))), (75, .int .i64 (wr64 (x313 - (wr64 (Int.tdiv (wr64 (w1 + 1)) 2))))), (77, .pointer (some ⟨g275, 0, none⟩)), (79, .int .i64 (wr64 (Int.tdiv (wr64 (w1 + 1)) 2))), (82, .int .i64 x311), (83, .int .i64 (wr64 (Int.tdiv (wr64 (w1 + 1)) 2)))] ([⟨g275, [.int .i64 x310, .int .i64 x311], 2⟩, ⟨g274, [.int .i64 x312, .int .i64 x313], 2⟩, ⟨b246, [.int .i64 0, .int .i64 0], 2⟩, ⟨b245, [.int .i64 0, .int .i64 0], 2⟩] : List Own) := by
          exact hqf 16 [4, 5, 68, 70, 75, 77, 79, 84] _ _ _ [(4, .pointer (some ⟨b245, 0, none⟩)), (5, .pointer (some ⟨b246, 0, none⟩)), (68, .pointer (some ⟨g274, 0, none⟩)), (70, .int .i64 (wr64 (Int.tdiv (wr64 (w1 + 1)) 2))), (75, .int .i64 (wr64 (x313 - (wr64 (Int.tdiv (wr64 (w1 + 1)) 2))))), (77, .pointer (some ⟨g275, 0, none⟩)), (79, .int .i64 (wr64 (Int.tdiv (wr64 (w1 + 1)) 2))), (84, .int .i64 (wr64 (x311 + (wr64 (Int.tdiv (wr64 (w1 + 1)) 2)))))] (by kernel_rfl) (by kernel_rfl) hg_1eaf5
        have hg_be57 : G [true, true, true, false, true, false, true, false, false, true, true, true, true, true, false, true, false, false, false, false, false] [(4, .pointer (some ⟨b245, 0, none⟩)), (5, .pointer (some ⟨b246, 0, none⟩)), (69, .int .i64 x312), (70, .int .i64 (wr64 (Int.tdiv (wr64 (w1 + 1)) 2))), (72, .pointer (some ⟨g274, 1, none⟩)), (74, .int .i64 (wr64 (Int.tdiv (wr64 (w1 + 1)) 2))), (80, .int .i64 (wr64 (x310 + (wr64 (Int.tdiv (wr64 (w1 + 1)) 2))))), (81, .pointer (some ⟨g275, 1, none⟩)), (83, .int .i64 (wr64 (Int.tdiv (wr64 (w1 + 1)) 2)))] ([⟨g275, [.int .i64 x310, .int .i64 x311], 2⟩, ⟨g274, [.int .i64 x312, .int .i64 x313], 2⟩, ⟨b246, [.int .i64 0, .int .i64 0], 2⟩, ⟨b245, [.int .i64 0, .int .i64 0], 2⟩] : List Own) := by
          exact hqf 3 [4, 5, 71, 72, 74, 80, 81, 83] _ _ _ [(4, .pointer (some ⟨b245, 0, none⟩)), (5, .pointer (some ⟨b246, 0, none⟩)), (71, .int .i64 (wr64 (x312 - (wr64 (Int.tdiv (wr64 (w1 + 1)) 2))))), (72, .pointer (some ⟨g274, 1, none⟩)), (74, .int .i64 (wr64 (Int.tdiv (wr64 (w1 + 1)) 2))), (80, .int .i64 (wr64 (x310 + (wr64 (Int.tdiv (wr64 (w1 + 1)) 2))))), (81, .pointer (some ⟨g275, 1, none⟩)), (83, .int .i64 (wr64 (Int.tdiv (wr64 (w1 + 1)) 2)))] (by kernel_rfl) (by kernel_rfl) hg_be5f
        have hg_aaf7 : G [true, true, true, false, true, true, true, true, false, true, false, true, false, true, false, true, false, false, false, false, false] [(4, .pointer (some ⟨b245, 0, none⟩)), (5, .pointer (some ⟨b246, 0, none⟩)), (69, .int .i64 x312), (70, .int .i64 (wr64 (Int.tdiv (wr64 (w1 + 1)) 2))), (75, .int .i64 (wr64 (x313 - (wr64 (Int.tdiv (wr64 (w1 + 1)) 2))))), (77, .pointer (some ⟨g275, 0, none⟩)), (79, .int .i64 (wr64 (Int.tdiv (wr64 (w1 + 1)) 2))), (81, .pointer (some ⟨g275, 1, none⟩)), (83, .int .i64 (wr64 (Int.tdiv (wr64 (w1 + 1)) 2)))] ([⟨g275, [.int .i64 x310, .int .i64 x311], 2⟩, ⟨g274, [.int .i64 x312, .int .i64 x313], 2⟩, ⟨b246, [.int .i64 0, .int .i64 0], 2⟩, ⟨b245, [.int .i64 0, .int .i64 0], 2⟩] : List Own) := by
          exact hqf 3 [4, 5, 71, 75, 77, 79, 81, 83] _ _ _ [(4, .pointer (some ⟨b245, 0, none⟩)), (5, .pointer (some ⟨b246, 0, none⟩)), (71, .int .i64 (wr64 (x312 - (wr64 (Int.tdiv (wr64 (w1 + 1)) 2))))), (75, .int .i64 (wr64 (x313 - (wr64 (Int.tdiv (wr64 (w1 + 1)) 2))))), (77, .pointer (some ⟨g275, 0, none⟩)), (79, .int .i64 (wr64 (Int.tdiv (wr64 (w1 + 1)) 2))), (81, .pointer (some ⟨g275, 1, none⟩)), (83, .int .i64 (wr64 (Int.tdiv (wr64 (w1 + 1)) 2)))] (by kernel_rfl) (by kernel_rfl) hg_aaff
        have hg_ea5f : G [true, true, true, true, true, false, true, false, false, true, false, true, false, true, true, true, false, false, false, false, false] [(4, .pointer (some ⟨b245, 0, none⟩)), (5, .pointer (some ⟨b246, 0, none⟩)), (71, .int .i64 (wr64 (x312 - (wr64 (Int.tdiv (wr64 (w1 + 1)) 2))))), (72, .pointer (some ⟨g274, 1, none⟩)), (74, .int .i64 (wr64 (Int.tdiv (wr64 (w1 + 1)) 2))), (77, .pointer (some ⟨g275, 0, none⟩)), (79, .int .i64 (wr64 (Int.tdiv (wr64 (w1 + 1)) 2))), (82, .int .i64 x311), (83, .int .i64 (wr64 (Int.tdiv (wr64 (w1 + 1)) 2)))] ([⟨g275, [.int .i64 x310, .int .i64 x311], 2⟩, ⟨g274, [.int .i64 x312, .int .i64 x313], 2⟩, ⟨b246, [.int .i64 0, .int .i64 0], 2⟩, ⟨b245, [.int .i64 0, .int .i64 0], 2⟩] : List Own) := by
          exact hqf 16 [4, 5, 71, 72, 74, 77, 79, 84] _ _ _ [(4, .pointer (some ⟨b245, 0, none⟩)), (5, .pointer (some ⟨b246, 0, none⟩)), (71, .int .i64 (wr64 (x312 - (wr64 (Int.tdiv (wr64 (w1 + 1)) 2))))), (72, .pointer (some ⟨g274, 1, none⟩)), (74, .int .i64 (wr64 (Int.tdiv (wr64 (w1 + 1)) 2))), (77, .pointer (some ⟨g275, 0, none⟩)), (79, .int .i64 (wr64 (Int.tdiv (wr64 (w1 + 1)) 2))), (84, .int .i64 (wr64 (x311 + (wr64 (Int.tdiv (wr64 (w1 + 1)) 2)))))] (by kernel_rfl) (by kernel_rfl) hg_1ea5f
        have hg_ae5f : G [true, true, true, true, true, false, true, false, false, true, true, true, false, true, false, true, false, false, false, false, false] [(4, .pointer (some ⟨b245, 0, none⟩)), (5, .pointer (some ⟨b246, 0, none⟩)), (71, .int .i64 (wr64 (x312 - (wr64 (Int.tdiv (wr64 (w1 + 1)) 2))))), (72, .pointer (some ⟨g274, 1, none⟩)), (74, .int .i64 (wr64 (Int.tdiv (wr64 (w1 + 1)) 2))), (78, .int .i64 x310), (79, .int .i64 (wr64 (Int.tdiv (wr64 (w1 + 1)) 2))), (81, .pointer (some ⟨g275, 1, none⟩)), (83, .int .i64 (wr64 (Int.tdiv (wr64 (w1 + 1)) 2)))] ([⟨g275, [.int .i64 x310, .int .i64 x311], 2⟩, ⟨g274, [.int .i64 x312, .int .i64 x313], 2⟩, ⟨b246, [.int .i64 0, .int .i64 0], 2⟩, ⟨b245, [.int .i64 0, .int .i64 0], 2⟩] : List Own) := by
          exact hqf 12 [4, 5, 71, 72, 74, 80, 81, 83] _ _ _ [(4, .pointer (some ⟨b245, 0, none⟩)), (5, .pointer (some ⟨b246, 0, none⟩)), (71, .int .i64 (wr64 (x312 - (wr64 (Int.tdiv (wr64 (w1 + 1)) 2))))), (72, .pointer (some ⟨g274, 1, none⟩)), (74, .int .i64 (wr64 (Int.tdiv (wr64 (w1 + 1)) 2))), (80, .int .i64 (wr64 (x310 + (wr64 (Int.tdiv (wr64 (w1 + 1)) 2))))), (81, .pointer (some ⟨g275, 1, none⟩)), (83, .int .i64 (wr64 (Int.tdiv (wr64 (w1 + 1)) 2)))] (by kernel_rfl) (by kernel_rfl) hg_be5f
        have hg_aef5 : G [true, false, true, false, true, true, true, true, false, true, true, true, false, true, false, true, false, false, false, false, false] [(4, .pointer (some ⟨b245, 0, none⟩)), (5, .pointer (some ⟨b246, 0, none⟩)), (68, .pointer (some ⟨g274, 0, none⟩)), (70, .int .i64 (wr64 (Int.tdiv (wr64 (w1 + 1)) 2))), (75, .int .i64 (wr64 (x313 - (wr64 (Int.tdiv (wr64 (w1 + 1)) 2))))), (78, .int .i64 x310), (79, .int .i64 (wr64 (Int.tdiv (wr64 (w1 + 1)) 2))), (81, .pointer (some ⟨g275, 1, none⟩)), (83, .int .i64 (wr64 (Int.tdiv (wr64 (w1 + 1)) 2)))] ([⟨g275, [.int .i64 x310, .int .i64 x311], 2⟩, ⟨g274, [.int .i64 x312, .int .i64 x313], 2⟩, ⟨b246, [.int .i64 0, .int .i64 0], 2⟩, ⟨b245, [.int .i64 0, .int .i64 0], 2⟩] : List Own) := by
          exact hqf 12 [4, 5, 68, 70, 75, 80, 81, 83] _ _ _ [(4, .pointer (some ⟨b245, 0, none⟩)), (5, .pointer (some ⟨b246, 0, none⟩)), (68, .pointer (some ⟨g274, 0, none⟩)), (70, .int .i64 (wr64 (Int.tdiv (wr64 (w1 + 1)) 2))), (75, .int .i64 (wr64 (x313 - (wr64 (Int.tdiv (wr64 (w1 + 1)) 2))))), (80, .int .i64 (wr64 (x310 + (wr64 (Int.tdiv (wr64 (w1 + 1)) 2))))), (81, .pointer (some ⟨g275, 1, none⟩)), (83, .int .i64 (wr64 (Int.tdiv (wr64 (w1 + 1)) 2)))] (by kernel_rfl) (by kernel_rfl) hg_bef5
        have hg_aa7f : G [true, true, true, true, true, true, true, false, false, true, false, true, false, true, false, true, false, false, false, false, false] [(4, .pointer (some ⟨b245, 0, none⟩)), (5, .pointer (some ⟨b246, 0, none⟩)), (71, .int .i64 (wr64 (x312 - (wr64 (Int.tdiv (wr64 (w1 + 1)) 2))))), (73, .int .i64 x313), (74, .int .i64 (wr64 (Int.tdiv (wr64 (w1 + 1)) 2))), (77, .pointer (some ⟨g275, 0, none⟩)), (79, .int .i64 (wr64 (Int.tdiv (wr64 (w1 + 1)) 2))), (81, .pointer (some ⟨g275, 1, none⟩)), (83, .int .i64 (wr64 (Int.tdiv (wr64 (w1 + 1)) 2)))] ([⟨g275, [.int .i64 x310, .int .i64 x311], 2⟩, ⟨g274, [.int .i64 x312, .int .i64 x313], 2⟩, ⟨b246, [.int .i64 0, .int .i64 0], 2⟩, ⟨b245, [.int .i64 0, .int .i64 0], 2⟩] : List Own) := by
          exact hqf 7 [4, 5, 71, 75, 77, 79, 81, 83] _ _ _ [(4, .pointer (some ⟨b245, 0, none⟩)), (5, .pointer (some ⟨b246, 0, none⟩)), (71, .int .i64 (wr64 (x312 - (wr64 (Int.tdiv (wr64 (w1 + 1)) 2))))), (75, .int .i64 (wr64 (x313 - (wr64 (Int.tdiv (wr64 (w1 + 1)) 2))))), (77, .pointer (some ⟨g275, 0, none⟩)), (79, .int .i64 (wr64 (Int.tdiv (wr64 (w1 + 1)) 2))), (81, .pointer (some ⟨g275, 1, none⟩)), (83, .int .i64 (wr64 (Int.tdiv (wr64 (w1 + 1)) 2)))] (by kernel_rfl) (by kernel_rfl) hg_aaff
        have hg_1ee55 : G [true, false, true, false, true, false, true, false, false, true, true, true, false, true, true, true, true, false, false, false, false] [(4, .pointer (some ⟨b245, 0, none⟩)), (5, .pointer (some ⟨b246, 0, none⟩)), (68, .pointer (some ⟨g274, 0, none⟩)), (70, .int .i64 (wr64 (Int.tdiv (wr64 (w1 + 1)) 2))), (72, .pointer (some ⟨g274, 1, none⟩)), (74, .int .i64 (wr64 (Int.tdiv (wr64 (w1 + 1)) 2))), (78, .int .i64 x310), (79, .int .i64 (wr64 (Int.tdiv (wr64 (w1 + 1)) 2))), (84, .int .i64 (wr64 (x311 + (wr64 (Int.tdiv (wr64 (w1 + 1)) 2)))))] ([⟨g275, [.int .i64 x310, .int .i64 x311], 2⟩, ⟨g274, [.int .i64 x312, .int .i64 x313], 2⟩, ⟨b246, [.int .i64 0, .int .i64 0], 2⟩, ⟨b245, [.int .i64 0, .int .i64 0], 2⟩] : List Own) := by
          exact hqf 12 [4, 5, 68, 70, 72, 74, 80, 84] _ _ _ [(4, .pointer (some ⟨b245, 0, none⟩)), (5, .pointer (some ⟨b246, 0, none⟩)), (68, .pointer (some ⟨g274, 0, none⟩)), (70, .int .i64 (wr64 (Int.tdiv (wr64 (w1 + 1)) 2))), (72, .pointer (some ⟨g274, 1, none⟩)), (74, .int .i64 (wr64 (Int.tdiv (wr64 (w1 + 1)) 2))), (80, .int .i64 (wr64 (x310 + (wr64 (Int.tdiv (wr64 (w1 + 1)) 2))))), (84, .int .i64 (wr64 (x311 + (wr64 (Int.tdiv (wr64 (w1 + 1)) 2)))))] (by kernel_rfl) (by kernel_rfl) hg_1fe55
        have hg_1ea57 : G [true, true, true, false, true, false, true, false, false, true, false, true, false, true, true, true, true, false, false, false, false] [(4, .pointer (some ⟨b245, 0, none⟩)), (5, .pointer (some ⟨b246, 0, none⟩)), (69, .int .i64 x312), (70, .int .i64 (wr64 (Int.tdiv (wr64 (w1 + 1)) 2))), (72, .pointer (some ⟨g274, 1, none⟩)), (74, .int .i64 (wr64 (Int.tdiv (wr64 (w1 + 1)) 2))), (77, .pointer (some ⟨g275, 0, none⟩)), (79, .int .i64 (wr64 (Int.tdiv (wr64 (w1 + 1)) 2))), (84, .int .i64 (wr64 (x311 + (wr64 (Int.tdiv (wr64 (w1 + 1)) 2)))))] ([⟨g275, [.int .i64 x310, .int .i64 x311], 2⟩, ⟨g274, [.int .i64 x312, .int .i64 x313], 2⟩, ⟨b246, [.int .i64 0, .int .i64 0], 2⟩, ⟨b245, [.int .i64 0, .int .i64 0], 2⟩] : List Own) := by
          exact hqf 3 [4, 5, 71, 72, 74, 77, 79, 84] _ _ _ [(4, .pointer (some ⟨b245, 0, none⟩)), (5, .pointer (some ⟨b246, 0, none⟩)), (71, .int .i64 (wr64 (x312 - (wr64 (Int.tdiv (wr64 (w1 + 1)) 2))))), (72, .pointer (some ⟨g274, 1, none⟩)), (74, .int .i64 (wr64 (Int.tdiv (wr64 (w1 + 1)) 2))), (77, .pointer (some ⟨g275, 0, none⟩)), (79, .int .i64 (wr64 (Int.tdiv (wr64 (w1 + 1)) 2))), (84, .int .i64 (wr64 (x311 + (wr64 (Int.tdiv (wr64 (w1 + 1)) 2)))))] (by kernel_rfl) (by kernel_rfl) hg_1ea5f
        have hg_1ea75 : G [true, false, true, false, true, true, true, false, false, true, false, true, false, true, true, true, true, false, false, false, false] [(4, .pointer (some ⟨b245, 0, none⟩)), (5, .pointer (some ⟨b246, 0, none⟩)), (68, .pointer (some ⟨g274, 0, none⟩)), (70, .int .i64 (wr64 (Int.tdiv (wr64 (w1 + 1)) 2))), (73, .int .i64 x313), (74, .int .i64 (wr64 (Int.tdiv (wr64 (w1 + 1)) 2))), (77, .pointer (some ⟨g275, 0, none⟩)), (79, .int .i64 (wr64 (Int.tdiv (wr64 (w1 + 1)) 2))), (84, .int .i64 (wr64 (x311 + (wr64 (Int.tdiv (wr64 (w1 + 1)) 2)))))] ([⟨g275, [.int .i64 x310, .int .i64 x311], 2⟩, ⟨g274, [.int .i64 x312, .int .i64 x313], 2⟩, ⟨b246, [.int .i64 0, .int .i64 0], 2⟩, ⟨b245, [.int .i64 0, .int .i64 0], 2⟩] : List Own) := by
          exact hqf 7 [4, 5, 68, 70, 75, 77, 79, 84] _ _ _ [(4, .pointer (some ⟨b245, 0, none⟩)), (5, .pointer (some ⟨b246, 0, none⟩)), (68, .pointer (some ⟨g274, 0, none⟩)), (70, .int .i64 (wr64 (Int.tdiv (wr64 (w1 + 1)) 2))), (75, .int .i64 (wr64 (x313 - (wr64 (Int.tdiv (wr64 (w1 + 1)) 2))))), (77, .pointer (some ⟨g275, 0, none⟩)), (79, .int .i64 (wr64 (Int.tdiv (wr64 (w1 + 1)) 2))), (84, .int .i64 (wr64 (x311 + (wr64 (Int.tdiv (wr64 (w1 + 1)) 2)))))] (by kernel_rfl) (by kernel_rfl) hg_1eaf5
        have hg_be75 : G [true, false, true, false, true, true, true, false, false, true, true, true, true, true, false, true, false, false, false, false, false] [(4, .pointer (some ⟨b245, 0, none⟩)), (5, .pointer (some ⟨b246, 0, none⟩)), (68, .pointer (some ⟨g274, 0, none⟩)), (70, .int .i64 (wr64 (Int.tdiv (wr64 (w1 + 1)) 2))), (73, .int .i64 x313), (74, .int .i64 (wr64 (Int.tdiv (wr64 (w1 + 1)) 2))), (80, .int .i64 (wr64 (x310 + (wr64 (Int.tdiv (wr64 (w1 + 1)) 2))))), (81, .pointer (some ⟨g275, 1, none⟩)), (83, .int .i64 (wr64 (Int.tdiv (wr64 (w1 + 1)) 2)))] ([⟨g275, [.int .i64 x310, .int .i64 x311], 2⟩, ⟨g274, [.int .i64 x312, .int .i64 x313], 2⟩, ⟨b246, [.int .i64 0, .int .i64 0], 2⟩, ⟨b245, [.int .i64 0, .int .i64 0], 2⟩] : List Own) := by
          exact hqf 7 [4, 5, 68, 70, 75, 80, 81, 83] _ _ _ [(4, .pointer (some ⟨b245, 0, none⟩)), (5, .pointer (some ⟨b246, 0, none⟩)), (68, .pointer (some ⟨g274, 0, none⟩)), (70, .int .i64 (wr64 (Int.tdiv (wr64 (w1 + 1)) 2))), (75, .int .i64 (wr64 (x313 - (wr64 (Int.tdiv (wr64 (w1 + 1)) 2))))), (80, .int .i64 (wr64 (x310 + (wr64 (Int.tdiv (wr64 (w1 + 1)) 2))))), (81, .pointer (some ⟨g275, 1, none⟩)), (83, .int .i64 (wr64 (Int.tdiv (wr64 (w1 + 1)) 2)))] (by kernel_rfl) (by kernel_rfl) hg_bef5
        have hg_be55 : G [true, false, true, false, true, false, true, false, false, true, true, true, true, true, false, true, false, false, false, false, false] [(4, .pointer (some ⟨b245, 0, none⟩)), (5, .pointer (some ⟨b246, 0, none⟩)), (68, .pointer (some ⟨g274, 0, none⟩)), (70, .int .i64 (wr64 (Int.tdiv (wr64 (w1 + 1)) 2))), (72, .pointer (some ⟨g274, 1, none⟩)), (74, .int .i64 (wr64 (Int.tdiv (wr64 (w1 + 1)) 2))), (80, .int .i64 (wr64 (x310 + (wr64 (Int.tdiv (wr64 (w1 + 1)) 2))))), (81, .pointer (some ⟨g275, 1, none⟩)), (83, .int .i64 (wr64 (Int.tdiv (wr64 (w1 + 1)) 2)))] ([⟨g275, [.int .i64 x310, .int .i64 x311], 2⟩, ⟨g274, [.int .i64 x312, .int .i64 x313], 2⟩, ⟨b246, [.int .i64 0, .int .i64 0], 2⟩, ⟨b245, [.int .i64 0, .int .i64 0], 2⟩] : List Own) := by
          refine hstep [1, 5, 14] _ _ _ (by kernel_rfl) (List.cons_ne_nil _ _) ⟨?_, ?_, ?_, trivial⟩
          · show T _ _ _ _ _ _ _ _
            refine t_v (.ld1 rfl rfl rfl (.at 1 rfl rfl)) ?_
            refine t_keep [4, 5, 69, 70, 72, 74, 80, 81, 83] (σ' := [(4, .pointer (some ⟨b245, 0, none⟩)), (5, .pointer (some ⟨b246, 0, none⟩)), (69, .int .i64 x312), (70, .int .i64 (wr64 (Int.tdiv (wr64 (w1 + 1)) 2))), (72, .pointer (some ⟨g274, 1, none⟩)), (74, .int .i64 (wr64 (Int.tdiv (wr64 (w1 + 1)) 2))), (80, .int .i64 (wr64 (x310 + (wr64 (Int.tdiv (wr64 (w1 + 1)) 2))))), (81, .pointer (some ⟨g275, 1, none⟩)), (83, .int .i64 (wr64 (Int.tdiv (wr64 (w1 + 1)) 2)))]) (by kernel_rfl) ?_
            refine t_end ?_
            exact ⟨hg_be57, rfl⟩
          · show T _ _ _ _ _ _ _ _
            refine t_v (.ld1 rfl rfl rfl (.at 1 rfl rfl)) ?_
            refine t_keep [4, 5, 68, 70, 73, 74, 80, 81, 83] (σ' := [(4, .pointer (some ⟨b245, 0, none⟩)), (5, .pointer (some ⟨b246, 0, none⟩)), (68, .pointer (some ⟨g274, 0, none⟩)), (70, .int .i64 (wr64 (Int.tdiv (wr64 (w1 + 1)) 2))), (73, .int .i64 x313), (74, .int .i64 (wr64 (Int.tdiv (wr64 (w1 + 1)) 2))), (80, .int .i64 (wr64 (x310 + (wr64 (Int.tdiv (wr64 (w1 + 1)) 2))))), (81, .pointer (some ⟨g275, 1, none⟩)), (83, .int .i64 (wr64 (Int.tdiv (wr64 (w1 + 1)) 2)))]) (by kernel_rfl) ?_
            refine t_end ?_
            exact ⟨hg_be75, rfl⟩
          · show T _ _ _ _ _ _ _ _
            refine t_v (.ld1 rfl rfl rfl (.at 0 rfl rfl)) ?_
            refine t_keep [4, 5, 68, 70, 72, 74, 80, 82, 83] (σ' := [(4, .pointer (some ⟨b245, 0, none⟩)), (5, .pointer (some ⟨b246, 0, none⟩)), (68, .pointer (some ⟨g274, 0, none⟩)), (70, .int .i64 (wr64 (Int.tdiv (wr64 (w1 + 1)) 2))), (72, .pointer (some ⟨g274, 1, none⟩)), (74, .int .i64 (wr64 (Int.tdiv (wr64 (w1 + 1)) 2))), (80, .int .i64 (wr64 (x310 + (wr64 (Int.tdiv (wr64 (w1 + 1)) 2))))), (82, .int .i64 x311), (83, .int .i64 (wr64 (Int.tdiv (wr64 (w1 + 1)) 2)))]) (by kernel_rfl) ?_
            refine t_end ?_
            exact ⟨hg_fe55, rfl⟩
        have hg_aaf5 : G [true, false, true, false, true, true, true, true, false, true, false, true, false, true, false, true, false, false, false, false, false] [(4, .pointer (some ⟨b245, 0, none⟩)), (5, .pointer (some ⟨b246, 0, none⟩)), (68, .pointer (some ⟨g274, 0, none⟩)), (70, .int .i64 (wr64 (Int.tdiv (wr64 (w1 + 1)) 2))), (75, .int .i64 (wr64 (x313 - (wr64 (Int.tdiv (wr64 (w1 + 1)) 2))))), (77, .pointer (some ⟨g275, 0, none⟩)), (79, .int .i64 (wr64 (Int.tdiv (wr64 (w1 + 1)) 2))), (81, .pointer (some ⟨g275, 1, none⟩)), (83, .int .i64 (wr64 (Int.tdiv (wr64 (w1 + 1)) 2)))] ([⟨g275, [.int .i64 x310, .int .i64 x311], 2⟩, ⟨g274, [.int .i64 x312, .int .i64 x313], 2⟩, ⟨b246, [.int .i64 0, .int .i64 0], 2⟩, ⟨b245, [.int .i64 0, .int .i64 0], 2⟩] : List Own) := by
          refine hstep [1, 10, 14] _ _ _ (by kernel_rfl) (List.cons_ne_nil _ _) ⟨?_, ?_, ?_, trivial⟩
          · show T _ _ _ _ _ _ _ _
            refine t_v (.ld1 rfl rfl rfl (.at 1 rfl rfl)) ?_
            refine t_keep [4, 5, 69, 70, 75, 77, 79, 81, 83] (σ' := [(4, .pointer (some ⟨b245, 0, none⟩)), (5, .pointer (some ⟨b246, 0, none⟩)), (69, .int .i64 x312), (70, .int .i64 (wr64 (Int.tdiv (wr64 (w1 + 1)) 2))), (75, .int .i64 (wr64 (x313 - (wr64 (Int.tdiv (wr64 (w1 + 1)) 2))))), (77, .pointer (some ⟨g275, 0, none⟩)), (79, .int .i64 (wr64 (Int.tdiv (wr64 (w1 + 1)) 2))), (81, .pointer (some ⟨g275, 1, none⟩)), (83, .int .i64 (wr64 (Int.tdiv (wr64 (w1 + 1)) 2)))]) (by kernel_rfl) ?_
            refine t_end ?_
            exact ⟨hg_aaf7, rfl⟩
          · show T _ _ _ _ _ _ _ _
            refine t_v (.ld1 rfl rfl rfl (.at 0 rfl rfl)) ?_
            refine t_keep [4, 5, 68, 70, 75, 78, 79, 81, 83] (σ' := [(4, .pointer (some ⟨b245, 0, none⟩)), (5, .pointer (some ⟨b246, 0, none⟩)), (68, .pointer (some ⟨g274, 0, none⟩)), (70, .int .i64 (wr64 (Int.tdiv (wr64 (w1 + 1)) 2))), (75, .int .i64 (wr64 (x313 - (wr64 (Int.tdiv (wr64 (w1 + 1)) 2))))), (78, .int .i64 x310), (79, .int .i64 (wr64 (Int.tdiv (wr64 (w1 + 1)) 2))), (81, .pointer (some ⟨g275, 1, none⟩)), (83, .int .i64 (wr64 (Int.tdiv (wr64 (w1 + 1)) 2)))]) (by kernel_rfl) ?_
            refine t_end ?_
            exact ⟨hg_aef5, rfl⟩
          · show T _ _ _ _ _ _ _ _
            refine t_v (.ld1 rfl rfl rfl (.at 0 rfl rfl)) ?_
            refine t_keep [4, 5, 68, 70, 75, 77, 79, 82, 83] (σ' := [(4, .pointer (some ⟨b245, 0, none⟩)), (5, .pointer (some ⟨b246, 0, none⟩)), (68, .pointer (some ⟨g274, 0, none⟩)), (70, .int .i64 (wr64 (Int.tdiv (wr64 (w1 + 1)) 2))), (75, .int .i64 (wr64 (x313 - (wr64 (Int.tdiv (wr64 (w1 + 1)) 2))))), (77, .pointer (some ⟨g275, 0, none⟩)), (79, .int .i64 (wr64 (Int.tdiv (wr64 (w1 + 1)) 2))), (82, .int .i64 x311), (83, .int .i64 (wr64 (Int.tdiv (wr64 (w1 + 1)) 2)))]) (by kernel_rfl) ?_
            refine t_end ?_
            exact ⟨hg_eaf5, rfl⟩
        have hg_aa5f : G [true, true, true, true, true, false, true, false, false, true, false, true, false, true, false, true, false, false, false, false, false] [(4, .pointer (some ⟨b245, 0, none⟩)), (5, .pointer (some ⟨b246, 0, none⟩)), (71, .int .i64 (wr64 (x312 - (wr64 (Int.tdiv (wr64 (w1 + 1)) 2))))), (72, .pointer (some ⟨g274, 1, none⟩)), (74, .int .i64 (wr64 (Int.tdiv (wr64 (w1 + 1)) 2))), (77, .pointer (some ⟨g275, 0, none⟩)), (79, .int .i64 (wr64 (Int.tdiv (wr64 (w1 + 1)) 2))), (81, .pointer (some ⟨g275, 1, none⟩)), (83, .int .i64 (wr64 (Int.tdiv (wr64 (w1 + 1)) 2)))] ([⟨g275, [.int .i64 x310, .int .i64 x311], 2⟩, ⟨g274, [.int .i64 x312, .int .i64 x313], 2⟩, ⟨b246, [.int .i64 0, .int .i64 0], 2⟩, ⟨b245, [.int .i64 0, .int .i64 0], 2⟩] : List Own) := by
          refine hstep [5, 10, 14] _ _ _ (by kernel_rfl) (List.cons_ne_nil _ _) ⟨?_, ?_, ?_, trivial⟩
          · show T _ _ _ _ _ _ _ _
            refine t_v (.ld1 rfl rfl rfl (.at 1 rfl rfl)) ?_
            refine t_keep [4, 5, 71, 73, 74, 77, 79, 81, 83] (σ' := [(4, .pointer (some ⟨b245, 0, none⟩)), (5, .pointer (some ⟨b246, 0, none⟩)), (71, .int .i64 (wr64 (x312 - (wr64 (Int.tdiv (wr64 (w1 + 1)) 2))))), (73, .int .i64 x313), (74, .int .i64 (wr64 (Int.tdiv (wr64 (w1 + 1)) 2))), (77, .pointer (some ⟨g275, 0, none⟩)), (79, .int .i64 (wr64 (Int.tdiv (wr64 (w1 + 1)) 2))), (81, .pointer (some ⟨g275, 1, none⟩)), (83, .int .i64 (wr64 (Int.tdiv (wr64 (w1 + 1)) 2)))]) (by kernel_rfl) ?_
            refine t_end ?_
            exact ⟨hg_aa7f, rfl⟩
          · show T _ _ _ _ _ _ _ _
            refine t_v (.ld1 rfl rfl rfl (.at 0 rfl rfl)) ?_
            refine t_keep [4, 5, 71, 72, 74, 78, 79, 81, 83] (σ' := [(4, .pointer (some ⟨b245, 0, none⟩)), (5, .pointer (some ⟨b246, 0, none⟩)), (71, .int .i64 (wr64 (x312 - (wr64 (Int.tdiv (wr64 (w1 + 1)) 2))))), (72, .pointer (some ⟨g274, 1, none⟩)), (74, .int .i64 (wr64 (Int.tdiv (wr64 (w1 + 1)) 2))), (78, .int .i64 x310), (79, .int .i64 (wr64 (Int.tdiv (wr64 (w1 + 1)) 2))), (81, .pointer (some ⟨g275, 1, none⟩)), (83, .int .i64 (wr64 (Int.tdiv (wr64 (w1 + 1)) 2)))]) (by kernel_rfl) ?_
            refine t_end ?_
            exact ⟨hg_ae5f, rfl⟩
          · show T _ _ _ _ _ _ _ _
            refine t_v (.ld1 rfl rfl rfl (.at 0 rfl rfl)) ?_
            refine t_keep [4, 5, 71, 72, 74, 77, 79, 82, 83] (σ' := [(4, .pointer (some ⟨b245, 0, none⟩)), (5, .pointer (some ⟨b246, 0, none⟩)), (71, .int .i64 (wr64 (x312 - (wr64 (Int.tdiv (wr64 (w1 + 1)) 2))))), (72, .pointer (some ⟨g274, 1, none⟩)), (74, .int .i64 (wr64 (Int.tdiv (wr64 (w1 + 1)) 2))), (77, .pointer (some ⟨g275, 0, none⟩)), (79, .int .i64 (wr64 (Int.tdiv (wr64 (w1 + 1)) 2))), (82, .int .i64 x311), (83, .int .i64 (wr64 (Int.tdiv (wr64 (w1 + 1)) 2)))]) (by kernel_rfl) ?_
            refine t_end ?_
            exact ⟨hg_ea5f, rfl⟩
        have hg_1ea55 : G [true, false, true, false, true, false, true, false, false, true, false, true, false, true, true, true, true, false, false, false, false] [(4, .pointer (some ⟨b245, 0, none⟩)), (5, .pointer (some ⟨b246, 0, none⟩)), (68, .pointer (some ⟨g274, 0, none⟩)), (70, .int .i64 (wr64 (Int.tdiv (wr64 (w1 + 1)) 2))), (72, .pointer (some ⟨g274, 1, none⟩)), (74, .int .i64 (wr64 (Int.tdiv (wr64 (w1 + 1)) 2))), (77, .pointer (some ⟨g275, 0, none⟩)), (79, .int .i64 (wr64 (Int.tdiv (wr64 (w1 + 1)) 2))), (84, .int .i64 (wr64 (x311 + (wr64 (Int.tdiv (wr64 (w1 + 1)) 2)))))] ([⟨g275, [.int .i64 x310, .int .i64 x311], 2⟩, ⟨g274, [.int .i64 x312, .int .i64 x313], 2⟩, ⟨b246, [.int .i64 0, .int .i64 0], 2⟩, ⟨b245, [.int .i64 0, .int .i64 0], 2⟩] : List Own) := by
          refine hstep [1, 5, 10] _ _ _ (by kernel_rfl) (List.cons_ne_nil _ _) ⟨?_, ?_, ?_, trivial⟩
          · show T _ _ _ _ _ _ _ _
            refine t_v (.ld1 rfl rfl rfl (.at 1 rfl rfl)) ?_
            refine t_keep [4, 5, 69, 70, 72, 74, 77, 79, 84] (σ' := [(4, .pointer (some ⟨b245, 0, none⟩)), (5, .pointer (some ⟨b246, 0, none⟩)), (69, .int .i64 x312), (70, .int .i64 (wr64 (Int.tdiv (wr64 (w1 + 1)) 2))), (72, .pointer (some ⟨g274, 1, none⟩)), (74, .int .i64 (wr64 (Int.tdiv (wr64 (w1 + 1)) 2))), (77, .pointer (some ⟨g275, 0, none⟩)), (79, .int .i64 (wr64 (Int.tdiv (wr64 (w1 + 1)) 2))), (84, .int .i64 (wr64 (x311 + (wr64 (Int.tdiv (wr64 (w1 + 1)) 2)))))]) (by kernel_rfl) ?_
            refine t_end ?_
            exact ⟨hg_1ea57, rfl⟩
          · show T _ _ _ _ _ _ _ _
            refine t_v (.ld1 rfl rfl rfl (.at 1 rfl rfl)) ?_
            refine t_keep [4, 5, 68, 70, 73, 74, 77, 79, 84] (σ' := [(4, .pointer (some ⟨b245, 0, none⟩)), (5, .pointer (some ⟨b246, 0, none⟩)), (68, .pointer (some ⟨g274, 0, none⟩)), (70, .int .i64 (wr64 (Int.tdiv (wr64 (w1 + 1)) 2))), (73, .int .i64 x313), (74, .int .i64 (wr64 (Int.tdiv (wr64 (w1 + 1)) 2))), (77, .pointer (some ⟨g275, 0, none⟩)), (79, .int .i64 (wr64 (Int.tdiv (wr64 (w1 + 1)) 2))), (84, .int .i64 (wr64 (x311 + (wr64 (Int.tdiv (wr64 (w1 + 1)) 2)))))]) (by kernel_rfl) ?_
            refine t_end ?_
            exact ⟨hg_1ea75, rfl⟩
          · show T _ _ _ _ _ _ _ _
            refine t_v (.ld1 rfl rfl rfl (.at 0 rfl rfl)) ?_
            refine t_keep [4, 5, 68, 70, 72, 74, 78, 79, 84] (σ' := [(4, .pointer (some ⟨b245, 0, none⟩)), (5, .pointer (some ⟨b246, 0, none⟩)), (68, .pointer (some ⟨g274, 0, none⟩)), (70, .int .i64 (wr64 (Int.tdiv (wr64 (w1 + 1)) 2))), (72, .pointer (some ⟨g274, 1, none⟩)), (74, .int .i64 (wr64 (Int.tdiv (wr64 (w1 + 1)) 2))), (78, .int .i64 x310), (79, .int .i64 (wr64 (Int.tdiv (wr64 (w1 + 1)) 2))), (84, .int .i64 (wr64 (x311 + (wr64 (Int.tdiv (wr64 (w1 + 1)) 2)))))]) (by kernel_rfl) ?_
            refine t_end ?_
            exact ⟨hg_1ee55, rfl⟩
        have hg_ae55 : G [true, false, true, false, true, false, true, false, false, true, true, true, false, true, false, true, false, false, false, false, false] [(4, .pointer (some ⟨b245, 0, none⟩)), (5, .pointer (some ⟨b246, 0, none⟩)), (68, .pointer (some ⟨g274, 0, none⟩)), (70, .int .i64 (wr64 (Int.tdiv (wr64 (w1 + 1)) 2))), (72, .pointer (some ⟨g274, 1, none⟩)), (74, .int .i64 (wr64 (Int.tdiv (wr64 (w1 + 1)) 2))), (78, .int .i64 x310), (79, .int .i64 (wr64 (Int.tdiv (wr64 (w1 + 1)) 2))), (81, .pointer (some ⟨g275, 1, none⟩)), (83, .int .i64 (wr64 (Int.tdiv (wr64 (w1 + 1)) 2)))] ([⟨g275, [.int .i64 x310, .int .i64 x311], 2⟩, ⟨g274, [.int .i64 x312, .int .i64 x313], 2⟩, ⟨b246, [.int .i64 0, .int .i64 0], 2⟩, ⟨b245, [.int .i64 0, .int .i64 0], 2⟩] : List Own) := by
          exact hqf 12 [4, 5, 68, 70, 72, 74, 80, 81, 83] _ _ _ [(4, .pointer (some ⟨b245, 0, none⟩)), (5, .pointer (some ⟨b246, 0, none⟩)), (68, .pointer (some ⟨g274, 0, none⟩)), (70, .int .i64 (wr64 (Int.tdiv (wr64 (w1 + 1)) 2))), (72, .pointer (some ⟨g274, 1, none⟩)), (74, .int .i64 (wr64 (Int.tdiv (wr64 (w1 + 1)) 2))), (80, .int .i64 (wr64 (x310 + (wr64 (Int.tdiv (wr64 (w1 + 1)) 2))))), (81, .pointer (some ⟨g275, 1, none⟩)), (83, .int .i64 (wr64 (Int.tdiv (wr64 (w1 + 1)) 2)))] (by kernel_rfl) (by kernel_rfl) hg_be55
        have hg_aa57 : G [true, true, true, false, true, false, true, false, false, true, false, true, false, true, false, true, false, false, false, false, false] [(4, .pointer (some ⟨b245, 0, none⟩)), (5, .pointer (some ⟨b246, 0, none⟩)), (69, .int .i64 x312), (70, .int .i64 (wr64 (Int.tdiv (wr64 (w1 + 1)) 2))), (72, .pointer (some ⟨g274, 1, none⟩)), (74, .int .i64 (wr64 (Int.tdiv (wr64 (w1 + 1)) 2))), (77, .pointer (some ⟨g275, 0, none⟩)), (79, .int .i64 (wr64 (Int.tdiv (wr64 (w1 + 1)) 2))), (81, .pointer (some ⟨g275, 1, none⟩)), (83, .int .i64 (wr64 (Int.tdiv (wr64 (w1 + 1)) 2)))] ([⟨g275, [.int .i64 x310, .int .i64 x311], 2⟩, ⟨g274, [.int .i64 x312, .int .i64 x313], 2⟩, ⟨b246, [.int .i64 0, .int .i64 0], 2⟩, ⟨b245, [.int .i64 0, .int .i64 0], 2⟩] : List Own) := by
          exact hqf 3 [4, 5, 71, 72, 74, 77, 79, 81, 83] _ _ _ [(4, .pointer (some ⟨b245, 0, none⟩)), (5, .pointer (some ⟨b246, 0, none⟩)), (71, .int .i64 (wr64 (x312 - (wr64 (Int.tdiv (wr64 (w1 + 1)) 2))))), (72, .pointer (some ⟨g274, 1, none⟩)), (74, .int .i64 (wr64 (Int.tdiv (wr64 (w1 + 1)) 2))), (77, .pointer (some ⟨g275, 0, none⟩)), (79, .int .i64 (wr64 (Int.tdiv (wr64 (w1 + 1)) 2))), (81, .pointer (some ⟨g275, 1, none⟩)), (83, .int .i64 (wr64 (Int.tdiv (wr64 (w1 + 1)) 2)))] (by kernel_rfl) (by kernel_rfl) hg_aa5f
        have hg_aa75 : G [true, false, true, false, true, true, true, false, false, true, false, true, false, true, false, true, false, false, false, false, false] [(4, .pointer (some ⟨b245, 0, none⟩)), (5, .pointer (some ⟨b246, 0, none⟩)), (68, .pointer (some ⟨g274, 0, none⟩)), (70, .int .i64 (wr64 (Int.tdiv (wr64 (w1 + 1)) 2))), (73, .int .i64 x313), (74, .int .i64 (wr64 (Int.tdiv (wr64 (w1 + 1)) 2))), (77, .pointer (some ⟨g275, 0, none⟩)), (79, .int .i64 (wr64 (Int.tdiv (wr64 (w1 + 1)) 2))), (81, .pointer (some ⟨g275, 1, none⟩)), (83, .int .i64 (wr64 (Int.tdiv (wr64 (w1 + 1)) 2)))] ([⟨g275, [.int .i64 x310, .int .i64 x311], 2⟩, ⟨g274, [.int .i64 x312, .int .i64 x313], 2⟩, ⟨b246, [.int .i64 0, .int .i64 0], 2⟩, ⟨b245, [.int .i64 0, .int .i64 0], 2⟩] : List Own) := by
          exact hqf 7 [4, 5, 68, 70, 75, 77, 79, 81, 83] _ _ _ [(4, .pointer (some ⟨b245, 0, none⟩)), (5, .pointer (some ⟨b246, 0, none⟩)), (68, .pointer (some ⟨g274, 0, none⟩)), (70, .int .i64 (wr64 (Int.tdiv (wr64 (w1 + 1)) 2))), (75, .int .i64 (wr64 (x313 - (wr64 (Int.tdiv (wr64 (w1 + 1)) 2))))), (77, .pointer (some ⟨g275, 0, none⟩)), (79, .int .i64 (wr64 (Int.tdiv (wr64 (w1 + 1)) 2))), (81, .pointer (some ⟨g275, 1, none⟩)), (83, .int .i64 (wr64 (Int.tdiv (wr64 (w1 + 1)) 2)))] (by kernel_rfl) (by kernel_rfl) hg_aaf5
        have hg_ea55 : G [true, false, true, false, true, false, true, false, false, true, false, true, false, true, true, true, false, false, false, false, false] [(4, .pointer (some ⟨b245, 0, none⟩)), (5, .pointer (some ⟨b246, 0, none⟩)), (68, .pointer (some ⟨g274, 0, none⟩)), (70, .int .i64 (wr64 (Int.tdiv (wr64 (w1 + 1)) 2))), (72, .pointer (some ⟨g274, 1, none⟩)), (74, .int .i64 (wr64 (Int.tdiv (wr64 (w1 + 1)) 2))), (77, .pointer (some ⟨g275, 0, none⟩)), (79, .int .i64 (wr64 (Int.tdiv (wr64 (w1 + 1)) 2))), (82, .int .i64 x311), (83, .int .i64 (wr64 (Int.tdiv (wr64 (w1 + 1)) 2)))] ([⟨g275, [.int .i64 x310, .int .i64 x311], 2⟩, ⟨g274, [.int .i64 x312, .int .i64 x313], 2⟩, ⟨b246, [.int .i64 0, .int .i64 0], 2⟩, ⟨b245, [.int .i64 0, .int .i64 0], 2⟩] : List Own) := by
          exact hqf 16 [4, 5, 68, 70, 72, 74, 77, 79, 84] _ _ _ [(4, .pointer (some ⟨b245, 0, none⟩)), (5, .pointer (some ⟨b246, 0, none⟩)), (68, .pointer (some ⟨g274, 0, none⟩)), (70, .int .i64 (wr64 (Int.tdiv (wr64 (w1 + 1)) 2))), (72, .pointer (some ⟨g274, 1, none⟩)), (74, .int .i64 (wr64 (Int.tdiv (wr64 (w1 + 1)) 2))), (77, .pointer (some ⟨g275, 0, none⟩)), (79, .int .i64 (wr64 (Int.tdiv (wr64 (w1 + 1)) 2))), (84, .int .i64 (wr64 (x311 + (wr64 (Int.tdiv (wr64 (w1 + 1)) 2)))))] (by kernel_rfl) (by kernel_rfl) hg_1ea55
        have hg_aa55 : G [true, false, true, false, true, false, true, false, false, true, false, true, false, true, false, true, false, false, false, false, false] [(4, .pointer (some ⟨b245, 0, none⟩)), (5, .pointer (some ⟨b246, 0, none⟩)), (68, .pointer (some ⟨g274, 0, none⟩)), (70, .int .i64 (wr64 (Int.tdiv (wr64 (w1 + 1)) 2))), (72, .pointer (some ⟨g274, 1, none⟩)), (74, .int .i64 (wr64 (Int.tdiv (wr64 (w1 + 1)) 2))), (77, .pointer (some ⟨g275, 0, none⟩)), (79, .int .i64 (wr64 (Int.tdiv (wr64 (w1 + 1)) 2))), (81, .pointer (some ⟨g275, 1, none⟩)), (83, .int .i64 (wr64 (Int.tdiv (wr64 (w1 + 1)) 2)))] ([⟨g275, [.int .i64 x310, .int .i64 x311], 2⟩, ⟨g274, [.int .i64 x312, .int .i64 x313], 2⟩, ⟨b246, [.int .i64 0, .int .i64 0], 2⟩, ⟨b245, [.int .i64 0, .int .i64 0], 2⟩] : List Own) := by
          refine hstep [1, 5, 10, 14] _ _ _ (by kernel_rfl) (List.cons_ne_nil _ _) ⟨?_, ?_, ?_, ?_, trivial⟩
          · show T _ _ _ _ _ _ _ _
            refine t_v (.ld1 rfl rfl rfl (.at 1 rfl rfl)) ?_
            refine t_keep [4, 5, 69, 70, 72, 74, 77, 79, 81, 83] (σ' := [(4, .pointer (some ⟨b245, 0, none⟩)), (5, .pointer (some ⟨b246, 0, none⟩)), (69, .int .i64 x312), (70, .int .i64 (wr64 (Int.tdiv (wr64 (w1 + 1)) 2))), (72, .pointer (some ⟨g274, 1, none⟩)), (74, .int .i64 (wr64 (Int.tdiv (wr64 (w1 + 1)) 2))), (77, .pointer (some ⟨g275, 0, none⟩)), (79, .int .i64 (wr64 (Int.tdiv (wr64 (w1 + 1)) 2))), (81, .pointer (some ⟨g275, 1, none⟩)), (83, .int .i64 (wr64 (Int.tdiv (wr64 (w1 + 1)) 2)))]) (by kernel_rfl) ?_
            refine t_end ?_
            exact ⟨hg_aa57, rfl⟩
          · show T _ _ _ _ _ _ _ _
            refine t_v (.ld1 rfl rfl rfl (.at 1 rfl rfl)) ?_
            refine t_keep [4, 5, 68, 70, 73, 74, 77, 79, 81, 83] (σ' := [(4, .pointer (some ⟨b245, 0, none⟩)), (5, .pointer (some ⟨b246, 0, none⟩)), (68, .pointer (some ⟨g274, 0, none⟩)), (70, .int .i64 (wr64 (Int.tdiv (wr64 (w1 + 1)) 2))), (73, .int .i64 x313), (74, .int .i64 (wr64 (Int.tdiv (wr64 (w1 + 1)) 2))), (77, .pointer (some ⟨g275, 0, none⟩)), (79, .int .i64 (wr64 (Int.tdiv (wr64 (w1 + 1)) 2))), (81, .pointer (some ⟨g275, 1, none⟩)), (83, .int .i64 (wr64 (Int.tdiv (wr64 (w1 + 1)) 2)))]) (by kernel_rfl) ?_
            refine t_end ?_
            exact ⟨hg_aa75, rfl⟩
          · show T _ _ _ _ _ _ _ _
            refine t_v (.ld1 rfl rfl rfl (.at 0 rfl rfl)) ?_
            refine t_keep [4, 5, 68, 70, 72, 74, 78, 79, 81, 83] (σ' := [(4, .pointer (some ⟨b245, 0, none⟩)), (5, .pointer (some ⟨b246, 0, none⟩)), (68, .pointer (some ⟨g274, 0, none⟩)), (70, .int .i64 (wr64 (Int.tdiv (wr64 (w1 + 1)) 2))), (72, .pointer (some ⟨g274, 1, none⟩)), (74, .int .i64 (wr64 (Int.tdiv (wr64 (w1 + 1)) 2))), (78, .int .i64 x310), (79, .int .i64 (wr64 (Int.tdiv (wr64 (w1 + 1)) 2))), (81, .pointer (some ⟨g275, 1, none⟩)), (83, .int .i64 (wr64 (Int.tdiv (wr64 (w1 + 1)) 2)))]) (by kernel_rfl) ?_
            refine t_end ?_
            exact ⟨hg_ae55, rfl⟩
          · show T _ _ _ _ _ _ _ _
            refine t_v (.ld1 rfl rfl rfl (.at 0 rfl rfl)) ?_
            refine t_keep [4, 5, 68, 70, 72, 74, 77, 79, 82, 83] (σ' := [(4, .pointer (some ⟨b245, 0, none⟩)), (5, .pointer (some ⟨b246, 0, none⟩)), (68, .pointer (some ⟨g274, 0, none⟩)), (70, .int .i64 (wr64 (Int.tdiv (wr64 (w1 + 1)) 2))), (72, .pointer (some ⟨g274, 1, none⟩)), (74, .int .i64 (wr64 (Int.tdiv (wr64 (w1 + 1)) 2))), (77, .pointer (some ⟨g275, 0, none⟩)), (79, .int .i64 (wr64 (Int.tdiv (wr64 (w1 + 1)) 2))), (82, .int .i64 x311), (83, .int .i64 (wr64 (Int.tdiv (wr64 (w1 + 1)) 2)))]) (by kernel_rfl) ?_
            refine t_end ?_
            exact ⟨hg_ea55, rfl⟩
        have hg_2a55 : G [true, false, true, false, true, false, true, false, false, true, false, true, false, true, false, false, false, false, false, false, false] [(4, .pointer (some ⟨b245, 0, none⟩)), (5, .pointer (some ⟨b246, 0, none⟩)), (13, .int .i64 (wr64 (Int.tdiv (wr64 (w1 + 1)) 2))), (68, .pointer (some ⟨g274, 0, none⟩)), (70, .int .i64 (wr64 (Int.tdiv (wr64 (w1 + 1)) 2))), (72, .pointer (some ⟨g274, 1, none⟩)), (74, .int .i64 (wr64 (Int.tdiv (wr64 (w1 + 1)) 2))), (77, .pointer (some ⟨g275, 0, none⟩)), (79, .int .i64 (wr64 (Int.tdiv (wr64 (w1 + 1)) 2))), (81, .pointer (some ⟨g275, 1, none⟩))] ([⟨g275, [.int .i64 x310, .int .i64 x311], 2⟩, ⟨g274, [.int .i64 x312, .int .i64 x313], 2⟩, ⟨b246, [.int .i64 0, .int .i64 0], 2⟩, ⟨b245, [.int .i64 0, .int .i64 0], 2⟩] : List Own) := by
          exact hqf 15 [4, 5, 68, 70, 72, 74, 77, 79, 81, 83] _ _ _ [(4, .pointer (some ⟨b245, 0, none⟩)), (5, .pointer (some ⟨b246, 0, none⟩)), (68, .pointer (some ⟨g274, 0, none⟩)), (70, .int .i64 (wr64 (Int.tdiv (wr64 (w1 + 1)) 2))), (72, .pointer (some ⟨g274, 1, none⟩)), (74, .int .i64 (wr64 (Int.tdiv (wr64 (w1 + 1)) 2))), (77, .pointer (some ⟨g275, 0, none⟩)), (79, .int .i64 (wr64 (Int.tdiv (wr64 (w1 + 1)) 2))), (81, .pointer (some ⟨g275, 1, none⟩)), (83, .int .i64 (wr64 (Int.tdiv (wr64 (w1 + 1)) 2)))] (by kernel_rfl) (by kernel_rfl) hg_aa55
        have hg_a55 : G [true, false, true, false, true, false, true, false, false, true, false, true, false, false, false, false, false, false, false, false, false] [(4, .pointer (some ⟨b245, 0, none⟩)), (5, .pointer (some ⟨b246, 0, none⟩)), (8, .pointer (some ⟨g275, 0, none⟩)), (13, .int .i64 (wr64 (Int.tdiv (wr64 (w1 + 1)) 2))), (68, .pointer (some ⟨g274, 0, none⟩)), (70, .int .i64 (wr64 (Int.tdiv (wr64 (w1 + 1)) 2))), (72, .pointer (some ⟨g274, 1, none⟩)), (74, .int .i64 (wr64 (Int.tdiv (wr64 (w1 + 1)) 2))), (77, .pointer (some ⟨g275, 0, none⟩)), (79, .int .i64 (wr64 (Int.tdiv (wr64 (w1 + 1)) 2)))] ([⟨g275, [.int .i64 x310, .int .i64 x311], 2⟩, ⟨g274, [.int .i64 x312, .int .i64 x313], 2⟩, ⟨b246, [.int .i64 0, .int .i64 0], 2⟩, ⟨b245, [.int .i64 0, .int .i64 0], 2⟩] : List Own) := by
          exact hqf 13 [4, 5, 13, 68, 70, 72, 74, 77, 79, 81] _ _ _ [(4, .pointer (some ⟨b245, 0, none⟩)), (5, .pointer (some ⟨b246, 0, none⟩)), (13, .int .i64 (wr64 (Int.tdiv (wr64 (w1 + 1)) 2))), (68, .pointer (some ⟨g274, 0, none⟩)), (70, .int .i64 (wr64 (Int.tdiv (wr64 (w1 + 1)) 2))), (72, .pointer (some ⟨g274, 1, none⟩)), (74, .int .i64 (wr64 (Int.tdiv (wr64 (w1 + 1)) 2))), (77, .pointer (some ⟨g275, 0, none⟩)), (79, .int .i64 (wr64 (Int.tdiv (wr64 (w1 + 1)) 2))), (81, .pointer (some ⟨g275, 1, none⟩))] (by kernel_rfl) (by kernel_rfl) hg_2a55
        have hg_255 : G [true, false, true, false, true, false, true, false, false, true, false, false, false, false, false, false, false, false, false, false, false] [(4, .pointer (some ⟨b245, 0, none⟩)), (5, .pointer (some ⟨b246, 0, none⟩)), (8, .pointer (some ⟨g275, 0, none⟩)), (13, .int .i64 (wr64 (Int.tdiv (wr64 (w1 + 1)) 2))), (68, .pointer (some ⟨g274, 0, none⟩)), (70, .int .i64 (wr64 (Int.tdiv (wr64 (w1 + 1)) 2))), (72, .pointer (some ⟨g274, 1, none⟩)), (74, .int .i64 (wr64 (Int.tdiv (wr64 (w1 + 1)) 2))), (77, .pointer (some ⟨g275, 0, none⟩))] ([⟨g275, [.int .i64 x310, .int .i64 x311], 2⟩, ⟨g274, [.int .i64 x312, .int .i64 x313], 2⟩, ⟨b246, [.int .i64 0, .int .i64 0], 2⟩, ⟨b245, [.int .i64 0, .int .i64 0], 2⟩] : List Own) := by
          exact hqf 11 [4, 5, 8, 13, 68, 70, 72, 74, 77, 79] _ _ _ [(4, .pointer (some ⟨b245, 0, none⟩)), (5, .pointer (some ⟨b246, 0, none⟩)), (8, .pointer (some ⟨g275, 0, none⟩)), (13, .int .i64 (wr64 (Int.tdiv (wr64 (w1 + 1)) 2))), (68, .pointer (some ⟨g274, 0, none⟩)), (70, .int .i64 (wr64 (Int.tdiv (wr64 (w1 + 1)) 2))), (72, .pointer (some ⟨g274, 1, none⟩)), (74, .int .i64 (wr64 (Int.tdiv (wr64 (w1 + 1)) 2))), (77, .pointer (some ⟨g275, 0, none⟩)), (79, .int .i64 (wr64 (Int.tdiv (wr64 (w1 + 1)) 2)))] (by kernel_rfl) (by kernel_rfl) hg_a55
        have hg_55 : G [true, false, true, false, true, false, true, false, false, false, false, false, false, false, false, false, false, false, false, false, false] [(4, .pointer (some ⟨b245, 0, none⟩)), (5, .pointer (some ⟨b246, 0, none⟩)), (8, .pointer (some ⟨g275, 0, none⟩)), (13, .int .i64 (wr64 (Int.tdiv (wr64 (w1 + 1)) 2))), (68, .pointer (some ⟨g274, 0, none⟩)), (70, .int .i64 (wr64 (Int.tdiv (wr64 (w1 + 1)) 2))), (72, .pointer (some ⟨g274, 1, none⟩)), (74, .int .i64 (wr64 (Int.tdiv (wr64 (w1 + 1)) 2)))] ([⟨g275, [.int .i64 x310, .int .i64 x311], 2⟩, ⟨g274, [.int .i64 x312, .int .i64 x313], 2⟩, ⟨b246, [.int .i64 0, .int .i64 0], 2⟩, ⟨b245, [.int .i64 0, .int .i64 0], 2⟩] : List Own) := by
          exact hqf 9 [4, 5, 8, 13, 68, 70, 72, 74, 77] _ _ _ [(4, .pointer (some ⟨b245, 0, none⟩)), (5, .pointer (some ⟨b246, 0, none⟩)), (8, .pointer (some ⟨g275, 0, none⟩)), (13, .int .i64 (wr64 (Int.tdiv (wr64 (w1 + 1)) 2))), (68, .pointer (some ⟨g274, 0, none⟩)), (70, .int .i64 (wr64 (Int.tdiv (wr64 (w1 + 1)) 2))), (72, .pointer (some ⟨g274, 1, none⟩)), (74, .int .i64 (wr64 (Int.tdiv (wr64 (w1 + 1)) 2))), (77, .pointer (some ⟨g275, 0, none⟩))] (by kernel_rfl) (by kernel_rfl) hg_255
        have hg_15 : G [true, false, true, false, true, false, false, false, false, false, false, false, false, false, false, false, false, false, false, false, false] [(4, .pointer (some ⟨b245, 0, none⟩)), (5, .pointer (some ⟨b246, 0, none⟩)), (8, .pointer (some ⟨g275, 0, none⟩)), (13, .int .i64 (wr64 (Int.tdiv (wr64 (w1 + 1)) 2))), (68, .pointer (some ⟨g274, 0, none⟩)), (70, .int .i64 (wr64 (Int.tdiv (wr64 (w1 + 1)) 2))), (72, .pointer (some ⟨g274, 1, none⟩))] ([⟨g275, [.int .i64 x310, .int .i64 x311], 2⟩, ⟨g274, [.int .i64 x312, .int .i64 x313], 2⟩, ⟨b246, [.int .i64 0, .int .i64 0], 2⟩, ⟨b245, [.int .i64 0, .int .i64 0], 2⟩] : List Own) := by
          exact hqf 6 [4, 5, 8, 13, 68, 70, 72, 74] _ _ _ [(4, .pointer (some ⟨b245, 0, none⟩)), (5, .pointer (some ⟨b246, 0, none⟩)), (8, .pointer (some ⟨g275, 0, none⟩)), (13, .int .i64 (wr64 (Int.tdiv (wr64 (w1 + 1)) 2))), (68, .pointer (some ⟨g274, 0, none⟩)), (70, .int .i64 (wr64 (Int.tdiv (wr64 (w1 + 1)) 2))), (72, .pointer (some ⟨g274, 1, none⟩)), (74, .int .i64 (wr64 (Int.tdiv (wr64 (w1 + 1)) 2)))] (by kernel_rfl) (by kernel_rfl) hg_55
        have hg_5 : G [true, false, true, false, false, false, false, false, false, false, false, false, false, false, false, false, false, false, false, false, false] [(4, .pointer (some ⟨b245, 0, none⟩)), (5, .pointer (some ⟨b246, 0, none⟩)), (7, .pointer (some ⟨g274, 0, none⟩)), (8, .pointer (some ⟨g275, 0, none⟩)), (13, .int .i64 (wr64 (Int.tdiv (wr64 (w1 + 1)) 2))), (68, .pointer (some ⟨g274, 0, none⟩)), (70, .int .i64 (wr64 (Int.tdiv (wr64 (w1 + 1)) 2)))] ([⟨g275, [.int .i64 x310, .int .i64 x311], 2⟩, ⟨g274, [.int .i64 x312, .int .i64 x313], 2⟩, ⟨b246, [.int .i64 0, .int .i64 0], 2⟩, ⟨b245, [.int .i64 0, .int .i64 0], 2⟩] : List Own) := by
          exact hqf 4 [4, 5, 8, 13, 68, 70, 72] _ _ _ [(4, .pointer (some ⟨b245, 0, none⟩)), (5, .pointer (some ⟨b246, 0, none⟩)), (8, .pointer (some ⟨g275, 0, none⟩)), (13, .int .i64 (wr64 (Int.tdiv (wr64 (w1 + 1)) 2))), (68, .pointer (some ⟨g274, 0, none⟩)), (70, .int .i64 (wr64 (Int.tdiv (wr64 (w1 + 1)) 2))), (72, .pointer (some ⟨g274, 1, none⟩))] (by kernel_rfl) (by kernel_rfl) hg_15
        have hg_1 : G [true, false, false, false, false, false, false, false, false, false, false, false, false, false, false, false, false, false, false, false, false] [(4, .pointer (some ⟨b245, 0, none⟩)), (5, .pointer (some ⟨b246, 0, none⟩)), (7, .pointer (some ⟨g274, 0, none⟩)), (8, .pointer (some ⟨g275, 0, none⟩)), (13, .int .i64 (wr64 (Int.tdiv (wr64 (w1 + 1)) 2))), (68, .pointer (some ⟨g274, 0, none⟩))] ([⟨g275, [.int .i64 x310, .int .i64 x311], 2⟩, ⟨g274, [.int .i64 x312, .int .i64 x313], 2⟩, ⟨b246, [.int .i64 0, .int .i64 0], 2⟩, ⟨b245, [.int .i64 0, .int .i64 0], 2⟩] : List Own) := by
          exact hqf 2 [4, 5, 7, 8, 13, 68, 70] _ _ _ [(4, .pointer (some ⟨b245, 0, none⟩)), (5, .pointer (some ⟨b246, 0, none⟩)), (7, .pointer (some ⟨g274, 0, none⟩)), (8, .pointer (some ⟨g275, 0, none⟩)), (13, .int .i64 (wr64 (Int.tdiv (wr64 (w1 + 1)) 2))), (68, .pointer (some ⟨g274, 0, none⟩)), (70, .int .i64 (wr64 (Int.tdiv (wr64 (w1 + 1)) 2)))] (by kernel_rfl) (by kernel_rfl) hg_5
        have hg_0 : G [false, false, false, false, false, false, false, false, false, false, false, false, false, false, false, false, false, false, false, false, false] [(4, .pointer (some ⟨b245, 0, none⟩)), (5, .pointer (some ⟨b246, 0, none⟩)), (7, .pointer (some ⟨g274, 0, none⟩)), (8, .pointer (some ⟨g275, 0, none⟩)), (13, .int .i64 (wr64 (Int.tdiv (wr64 (w1 + 1)) 2)))] ([⟨g275, [.int .i64 x310, .int .i64 x311], 2⟩, ⟨g274, [.int .i64 x312, .int .i64 x313], 2⟩, ⟨b246, [.int .i64 0, .int .i64 0], 2⟩, ⟨b245, [.int .i64 0, .int .i64 0], 2⟩] : List Own) := by
          exact hqf 0 [4, 5, 7, 8, 13, 68] _ _ _ [(4, .pointer (some ⟨b245, 0, none⟩)), (5, .pointer (some ⟨b246, 0, none⟩)), (7, .pointer (some ⟨g274, 0, none⟩)), (8, .pointer (some ⟨g275, 0, none⟩)), (13, .int .i64 (wr64 (Int.tdiv (wr64 (w1 + 1)) 2))), (68, .pointer (some ⟨g274, 0, none⟩))] (by kernel_rfl) (by kernel_rfl) hg_1
        exact hg_0
    have hg_7ff : ∀ (g275 : Nat) (g274 : Nat), G [true, true, true, true, true, true, true, true, true, true, true, false] [(0, .slice a_l0 l0.length c_l0), (1, .int .i64 w1), (4, .pointer (some ⟨b245, 0, none⟩)), (5, .pointer (some ⟨b246, 0, none⟩)), (7, .pointer (some ⟨g274, 0, none⟩)), (8, .pointer (some ⟨g275, 0, none⟩)), (26, .agg #[.int .i64 x261, .int .i64 x262])] ([⟨g275, [.int .i64 0, .int .i64 0], 2⟩, ⟨g274, [.int .i64 x248, .int .i64 x249], 2⟩, ⟨b246, [.int .i64 0, .int .i64 0], 2⟩, ⟨b245, [.int .i64 0, .int .i64 0], 2⟩] : List Own) := by
      intro g275 g274
      refine hstep [11] _ _ _ (by kernel_rfl) (List.cons_ne_nil _ _) ⟨?_, trivial⟩
      · show T _ _ _ _ _ _ _ _
        refine t_sti 0 (cs := [.int .i64 x261, .int .i64 x262]) rfl rfl rfl rfl rfl rfl rfl rfl rfl ?_
        refine t_keep [0, 1, 4, 5, 7, 8] (σ' := [(0, .slice a_l0 l0.length c_l0), (1, .int .i64 w1), (4, .pointer (some ⟨b245, 0, none⟩)), (5, .pointer (some ⟨b246, 0, none⟩)), (7, .pointer (some ⟨g274, 0, none⟩)), (8, .pointer (some ⟨g275, 0, none⟩))]) (by kernel_rfl) ?_
        refine t_end ?_
        exact ⟨hg_fff g275 g274, rfl⟩
    have hg_77f : ∀ (g275 : Nat) (g274 : Nat), G [true, true, true, true, true, true, true, false, true, true, true, false] [(0, .slice a_l0 l0.length c_l0), (1, .int .i64 w1), (4, .pointer (some ⟨b245, 0, none⟩)), (5, .pointer (some ⟨b246, 0, none⟩)), (7, .pointer (some ⟨g274, 0, none⟩)), (8, .pointer (some ⟨g275, 0, none⟩)), (25, .pointer (some ⟨lb266, lo267 + (0 : Int).toNat * 4 + 0, none⟩))] ([⟨g275, [.int .i64 0, .int .i64 0], 2⟩, ⟨g274, [.int .i64 x248, .int .i64 x249], 2⟩, ⟨b246, [.int .i64 0, .int .i64 0], 2⟩, ⟨b245, [.int .i64 0, .int .i64 0], 2⟩] : List Own) := by
      intro g275 g274
      refine hstep [7] _ _ _ (by kernel_rfl) (List.cons_ne_nil _ _) ⟨?_, trivial⟩
      · show T _ _ _ _ _ _ _ _
        refine t_v (.ldn (vs := [.int .i64 x261, .int .i64 x262]) rfl rfl rfl (.sealed lS270 (subl_sub lv271 (by kernel_rfl)))) ?_
        refine t_keep [0, 1, 4, 5, 7, 8, 26] (σ' := [(0, .slice a_l0 l0.length c_l0), (1, .int .i64 w1), (4, .pointer (some ⟨b245, 0, none⟩)), (5, .pointer (some ⟨b246, 0, none⟩)), (7, .pointer (some ⟨g274, 0, none⟩)), (8, .pointer (some ⟨g275, 0, none⟩)), (26, .agg #[.int .i64 x261, .int .i64 x262])]) (by kernel_rfl) ?_
        refine t_end ?_
        exact ⟨hg_7ff g275 g274, rfl⟩
    have hg_3ff : ∀ (g275 : Nat) (g274 : Nat), G [true, true, true, true, true, true, true, true, true, true, false, false] [(0, .slice a_l0 l0.length c_l0), (1, .int .i64 w1), (4, .pointer (some ⟨b245, 0, none⟩)), (5, .pointer (some ⟨b246, 0, none⟩)), (7, .pointer (some ⟨g274, 0, none⟩)), (8, .pointer (some ⟨g275, 0, none⟩)), (22, .agg #[.int .i64 x248, .int .i64 x249]), (26, .agg #[.int .i64 x261, .int .i64 x262])] ([⟨g275, [.int .i64 0, .int .i64 0], 2⟩, ⟨g274, [.int .i64 0, .int .i64 0], 2⟩, ⟨b246, [.int .i64 0, .int .i64 0], 2⟩, ⟨b245, [.int .i64 0, .int .i64 0], 2⟩] : List Own) := by
      intro g275 g274
      refine hstep [10] _ _ _ (by kernel_rfl) (List.cons_ne_nil _ _) ⟨?_, trivial⟩
      · show T _ _ _ _ _ _ _ _
        refine t_sti 1 (cs := [.int .i64 x248, .int .i64 x249]) rfl rfl rfl rfl rfl rfl rfl rfl rfl ?_
        refine t_keep [0, 1, 4, 5, 7, 8, 26] (σ' := [(0, .slice a_l0 l0.length c_l0), (1, .int .i64 w1), (4, .pointer (some ⟨b245, 0, none⟩)), (5, .pointer (some ⟨b246, 0, none⟩)), (7, .pointer (some ⟨g274, 0, none⟩)), (8, .pointer (some ⟨g275, 0, none⟩)), (26, .agg #[.int .i64 x261, .int .i64 x262])]) (by kernel_rfl) ?_
        refine t_end ?_
        exact ⟨hg_7ff g275 g274, rfl⟩
    have hg_1ff : ∀ (g274 : Nat), G [true, true, true, true, true, true, true, true, true, false, false, false] [(0, .slice a_l0 l0.length c_l0), (1, .int .i64 w1), (4, .pointer (some ⟨b245, 0, none⟩)), (5, .pointer (some ⟨b246, 0, none⟩)), (7, .pointer (some ⟨g274, 0, none⟩)), (22, .agg #[.int .i64 x248, .int .i64 x249]), (26, .agg #[.int .i64 x261, .int .i64 x262])] ([⟨g274, [.int .i64 0, .int .i64 0], 2⟩, ⟨b246, [.int .i64 0, .int .i64 0], 2⟩, ⟨b245, [.int .i64 0, .int .i64 0], 2⟩] : List Own) := by
      intro g274
      refine hstep [9] _ _ _ (by kernel_rfl) (List.cons_ne_nil _ _) ⟨?_, trivial⟩
      · show T _ _ _ _ _ _ _ _
        refine t_a (.new rfl rfl) fun g275 fg275 sg275 => ?_
        refine t_keep [0, 1, 4, 5, 7, 8, 22, 26] (σ' := [(0, .slice a_l0 l0.length c_l0), (1, .int .i64 w1), (4, .pointer (some ⟨b245, 0, none⟩)), (5, .pointer (some ⟨b246, 0, none⟩)), (7, .pointer (some ⟨g274, 0, none⟩)), (8, .pointer (some ⟨g275, 0, none⟩)), (22, .agg #[.int .i64 x248, .int .i64 x249]), (26, .agg #[.int .i64 x261, .int .i64 x262])]) (by kernel_rfl) ?_
        refine t_end ?_
        exact ⟨hg_3ff g275 g274, rfl⟩
    have hg_37f : ∀ (g275 : Nat) (g274 : Nat), G [true, true, true, true, true, true, true, false, true, true, false, false] [(0, .slice a_l0 l0.length c_l0), (1, .int .i64 w1), (4, .pointer (some ⟨b245, 0, none⟩)), (5, .pointer (some ⟨b246, 0, none⟩)), (7, .pointer (some ⟨g274, 0, none⟩)), (8, .pointer (some ⟨g275, 0, none⟩)), (22, .agg #[.int .i64 x248, .int .i64 x249]), (25, .pointer (some ⟨lb266, lo267 + (0 : Int).toNat * 4 + 0, none⟩))] ([⟨g275, [.int .i64 0, .int .i64 0], 2⟩, ⟨g274, [.int .i64 0, .int .i64 0], 2⟩, ⟨b246, [.int .i64 0, .int .i64 0], 2⟩, ⟨b245, [.int .i64 0, .int .i64 0], 2⟩] : List Own) := by
      intro g275 g274
      refine hstep [7, 10] _ _ _ (by kernel_rfl) (List.cons_ne_nil _ _) ⟨?_, ?_, trivial⟩
      · show T _ _ _ _ _ _ _ _
        refine t_v (.ldn (vs := [.int .i64 x261, .int .i64 x262]) rfl rfl rfl (.sealed lS270 (subl_sub lv271 (by kernel_rfl)))) ?_
        refine t_keep [0, 1, 4, 5, 7, 8, 22, 26] (σ' := [(0, .slice a_l0 l0.length c_l0), (1, .int .i64 w1), (4, .pointer (some ⟨b245, 0, none⟩)), (5, .pointer (some ⟨b246, 0, none⟩)), (7, .pointer (some ⟨g274, 0, none⟩)), (8, .pointer (some ⟨g275, 0, none⟩)), (22, .agg #[.int .i64 x248, .int .i64 x249]), (26, .agg #[.int .i64 x261, .int .i64 x262])]) (by kernel_rfl) ?_
        refine t_end ?_
        exact ⟨hg_3ff g275 g274, rfl⟩
      · show T _ _ _ _ _ _ _ _
        refine t_sti 1 (cs := [.int .i64 x248, .int .i64 x249]) rfl rfl rfl rfl rfl rfl rfl rfl rfl ?_
        refine t_keep [0, 1, 4, 5, 7, 8, 25] (σ' := [(0, .slice a_l0 l0.length c_l0), (1, .int .i64 w1), (4, .pointer (some ⟨b245, 0, none⟩)), (5, .pointer (some ⟨b246, 0, none⟩)), (7, .pointer (some ⟨g274, 0, none⟩)), (8, .pointer (some ⟨g275, 0, none⟩)), (25, .pointer (some ⟨lb266, lo267 + (0 : Int).toNat * 4 + 0, none⟩))]) (by kernel_rfl) ?_
        refine t_end ?_
        exact ⟨hg_77f g275 g274, rfl⟩
    have hg_2ff : ∀ (g275 : Nat), G [true, true, true, true, true, true, true, true, false, true, false, false] [(0, .slice a_l0 l0.length c_l0), (1, .int .i64 w1), (4, .pointer (some ⟨b245, 0, none⟩)), (5, .pointer (some ⟨b246, 0, none⟩)), (8, .pointer (some ⟨g275, 0, none⟩)), (22, .agg #[.int .i64 x248, .int .i64 x249]), (26, .agg #[.int .i64 x261, .int .i64 x262])] ([⟨g275, [.int .i64 0, .int .i64 0], 2⟩, ⟨b246, [.int .i64 0, .int .i64 0], 2⟩, ⟨b245, [.int .i64 0, .int .i64 0], 2⟩] : List Own) := by
      intro g275
      refine hstep [8] _ _ _ (by kernel_rfl) (List.cons_ne_nil _ _) ⟨?_, trivial⟩
      · show T _ _ _ _ _ _ _ _
        refine t_a (.new rfl rfl) fun g274 fg274 sg274 => ?_
        refine t_keep [0, 1, 4, 5, 7, 8, 22, 26] (σ' := [(0, .slice a_l0 l0.length c_l0), (1, .int .i64 w1), (4, .pointer (some ⟨b245, 0, none⟩)), (5, .pointer (some ⟨b246, 0, none⟩)), (7, .pointer (some ⟨g274, 0, none⟩)), (8, .pointer (some ⟨g275, 0, none⟩)), (22, .agg #[.int .i64 x248, .int .i64 x249]), (26, .agg #[.int .i64 x261, .int .i64 x262])]) (by kernel_rfl) ?_
        refine t_vs (H' := ([⟨g275, [.int .i64 0, .int .i64 0], 2⟩, ⟨g274, [.int .i64 0, .int .i64 0], 2⟩, ⟨b246, [.int .i64 0, .int .i64 0], 2⟩, ⟨b245, [.int .i64 0, .int .i64 0], 2⟩] : List Own)) (S' := S) (VS.sel [1, 0, 0, 0] (by kernel_rfl)) ?_
        refine t_end ?_
        exact ⟨hg_3ff g275 g274, rfl⟩
    have hg_73f : ∀ (g275 : Nat) (g274 : Nat), G [true, true, true, true, true, true, false, false, true, true, true, false] [(0, .slice a_l0 l0.length c_l0), (1, .int .i64 w1), (4, .pointer (some ⟨b245, 0, none⟩)), (5, .pointer (some ⟨b246, 0, none⟩)), (7, .pointer (some ⟨g274, 0, none⟩)), (8, .pointer (some ⟨g275, 0, none⟩)), (24, .pointer (some ⟨lb266, lo267 + (0 : Int).toNat * 4 + 0, none⟩))] ([⟨g275, [.int .i64 0, .int .i64 0], 2⟩, ⟨g274, [.int .i64 x248, .int .i64 x249], 2⟩, ⟨b246, [.int .i64 0, .int .i64 0], 2⟩, ⟨b245, [.int .i64 0, .int .i64 0], 2⟩] : List Own) := by
      intro g275 g274
      exact hqf 6 [0, 1, 4, 5, 7, 8, 25] _ _ _ [(0, .slice a_l0 l0.length c_l0), (1, .int .i64 w1), (4, .pointer (some ⟨b245, 0, none⟩)), (5, .pointer (some ⟨b246, 0, none⟩)), (7, .pointer (some ⟨g274, 0, none⟩)), (8, .pointer (some ⟨g275, 0, none⟩)), (25, .pointer (some ⟨lb266, lo267 + (0 : Int).toNat * 4 + 0, none⟩))] (by kernel_rfl) (by kernel_rfl) (hg_77f g275 g274)
    have hg_3f7 : ∀ (g275 : Nat) (g274 : Nat), G [true, true, true, false, true, true, true, true, true, true, false, false] [(0, .slice a_l0 l0.length c_l0), (1, .int .i64 w1), (4, .pointer (some ⟨b245, 0, none⟩)), (5, .pointer (some ⟨b246, 0, none⟩)), (7, .pointer (some ⟨g274, 0, none⟩)), (8, .pointer (some ⟨g275, 0, none⟩)), (21, .pointer (some ⟨lb253, lo254 + (0 : Int).toNat * 4 + 0, none⟩)), (26, .agg #[.int .i64 x261, .int .i64 x262])] ([⟨g275, [.int .i64 0, .int .i64 0], 2⟩, ⟨g274, [.int .i64 0, .int .i64 0], 2⟩, ⟨b246, [.int .i64 0, .int .i64 0], 2⟩, ⟨b245, [.int .i64 0, .int .i64 0], 2⟩] : List Own) := by
      intro g275 g274
      refine hstep [3] _ _ _ (by kernel_rfl) (List.cons_ne_nil _ _) ⟨?_, trivial⟩
      · show T _ _ _ _ _ _ _ _
        refine t_v (.ldn (vs := [.int .i64 x248, .int .i64 x249]) rfl rfl rfl (.sealed lS257 (subl_sub lv258 (by kernel_rfl)))) ?_
        refine t_keep [0, 1, 4, 5, 7, 8, 22, 26] (σ' := [(0, .slice a_l0 l0.length c_l0), (1, .int .i64 w1), (4, .pointer (some ⟨b245, 0, none⟩)), (5, .pointer (some ⟨b246, 0, none⟩)), (7, .pointer (some ⟨g274, 0, none⟩)), (8, .pointer (some ⟨g275, 0, none⟩)), (22, .agg #[.int .i64 x248, .int .i64 x249]), (26, .agg #[.int .i64 x261, .int .i64 x262])]) (by kernel_rfl) ?_
        refine t_end ?_
        exact ⟨hg_3ff g275 g274, rfl⟩
    have hg_ff : G [true, true, true, true, true, true, true, true, false, false, false, false] [(0, .slice a_l0 l0.length c_l0), (1, .int .i64 w1), (4, .pointer (some ⟨b245, 0, none⟩)), (5, .pointer (some ⟨b246, 0, none⟩)), (22, .agg #[.int .i64 x248, .int .i64 x249]), (26, .agg #[.int .i64 x261, .int .i64 x262])] ([⟨b246, [.int .i64 0, .int .i64 0], 2⟩, ⟨b245, [.int .i64 0, .int .i64 0], 2⟩] : List Own) := by
      refine hstep [8, 9] _ _ _ (by kernel_rfl) (List.cons_ne_nil _ _) ⟨?_, ?_, trivial⟩
      · show T _ _ _ _ _ _ _ _
        refine t_a (.new rfl rfl) fun g274 fg274 sg274 => ?_
        refine t_keep [0, 1, 4, 5, 7, 22, 26] (σ' := [(0, .slice a_l0 l0.length c_l0), (1, .int .i64 w1), (4, .pointer (some ⟨b245, 0, none⟩)), (5, .pointer (some ⟨b246, 0, none⟩)), (7, .pointer (some ⟨g274, 0, none⟩)), (22, .agg #[.int .i64 x248, .int .i64 x249]), (26, .agg #[.int .i64 x261, .int .i64 x262])]) (by kernel_rfl) ?_
        refine t_end ?_
        exact ⟨hg_1ff g274, rfl⟩
      · show T _ _ _ _ _ _ _ _
        refine t_a (.new rfl rfl) fun g275 fg275 sg275 => ?_
        refine t_keep [0, 1, 4, 5, 8, 22, 26] (σ' := [(0, .slice a_l0 l0.length c_l0), (1, .int .i64 w1), (4, .pointer (some ⟨b245, 0, none⟩)), (5, .pointer (some ⟨b246, 0, none⟩)), (8, .pointer (some ⟨g275, 0, none⟩)), (22, .agg #[.int .i64 x248, .int .i64 x249]), (26, .agg #[.int .i64 x261, .int .i64 x262])]) (by kernel_rfl) ?_
        refine t_end ?_
        exact ⟨hg_2ff g275, rfl⟩
    have hg_17f : ∀ (g274 : Nat), G [true, true, true, true, true, true, true, false, true, false, false, false] [(0, .slice a_l0 l0.length c_l0), (1, .int .i64 w1), (4, .pointer (some ⟨b245, 0, none⟩)), (5, .pointer (some ⟨b246, 0, none⟩)), (7, .pointer (some ⟨g274, 0, none⟩)), (22, .agg #[.int .i64 x248, .int .i64 x249]), (25, .pointer (some ⟨lb266, lo267 + (0 : Int).toNat * 4 + 0, none⟩))] ([⟨g274, [.int .i64 0, .int .i64 0], 2⟩, ⟨b246, [.int .i64 0, .int .i64 0], 2⟩, ⟨b245, [.int .i64 0, .int .i64 0], 2⟩] : List Own) := by
      intro g274
      refine hstep [7, 9] _ _ _ (by kernel_rfl) (List.cons_ne_nil _ _) ⟨?_, ?_, trivial⟩
      · show T _ _ _ _ _ _ _ _
        refine t_v (.ldn (vs := [.int .i64 x261, .int .i64 x262]) rfl rfl rfl (.sealed lS270 (subl_sub lv271 (by kernel_rfl)))) ?_
        refine t_keep [0, 1, 4, 5, 7, 22, 26] (σ' := [(0, .slice a_l0 l0.length c_l0), (1, .int .i64 w1), (4, .pointer (some ⟨b245, 0, none⟩)), (5, .pointer (some ⟨b246, 0, none⟩)), (7, .pointer (some ⟨g274, 0, none⟩)), (22, .agg #[.int .i64 x248, .int .i64 x249]), (26, .agg #[.int .i64 x261, .int .i64 x262])]) (by kernel_rfl) ?_
        refine t_end ?_
        exact ⟨hg_1ff g274, rfl⟩
      · show T _ _ _ _ _ _ _ _
        refine t_a (.new rfl rfl) fun g275 fg275 sg275 => ?_
        refine t_keep [0, 1, 4, 5, 7, 8, 22, 25] (σ' := [(0, .slice a_l0 l0.length c_l0), (1, .int .i64 w1), (4, .pointer (some ⟨b245, 0, none⟩)), (5, .pointer (some ⟨b246, 0, none⟩)), (7, .pointer (some ⟨g274, 0, none⟩)), (8, .pointer (some ⟨g275, 0, none⟩)), (22, .agg #[.int .i64 x248, .int .i64 x249]), (25, .pointer (some ⟨lb266, lo267 + (0 : Int).toNat * 4 + 0, none⟩))]) (by kernel_rfl) ?_
        refine t_end ?_
        exact ⟨hg_37f g275 g274, rfl⟩
    have hg_27f : ∀ (g275 : Nat), G [true, true, true, true, true, true, true, false, false, true, false, false] [(0, .slice a_l0 l0.length c_l0), (1, .int .i64 w1), (4, .pointer (some ⟨b245, 0, none⟩)), (5, .pointer (some ⟨b246, 0, none⟩)), (8, .pointer (some ⟨g275, 0, none⟩)), (22, .agg #[.int .i64 x248, .int .i64 x249]), (25, .pointer (some ⟨lb266, lo267 + (0 : Int).toNat * 4 + 0, none⟩))] ([⟨g275, [.int .i64 0, .int .i64 0], 2⟩, ⟨b246, [.int .i64 0, .int .i64 0], 2⟩, ⟨b245, [.int .i64 0, .int .i64 0], 2⟩] : List Own) := by
      intro g275
      refine hstep [7, 8] _ _ _ (by kernel_rfl) (List.cons_ne_nil _ _) ⟨?_, ?_, trivial⟩
      · show T _ _ _ _ _ _ _ _
        refine t_v (.ldn (vs := [.int .i64 x261, .int .i64 x262]) rfl rfl rfl (.sealed lS270 (subl_sub lv271 (by kernel_rfl)))) ?_
        refine t_keep [0, 1, 4, 5, 8, 22, 26] (σ' := [(0, .slice a_l0 l0.length c_l0), (1, .int .i64 w1), (4, .pointer (some ⟨b245, 0, none⟩)), (5, .pointer (some ⟨b246, 0, none⟩)), (8, .pointer (some ⟨g275, 0, none⟩)), (22, .agg #[.int .i64 x248, .int .i64 x249]), (26, .agg #[.int .i64 x261, .int .i64 x262])]) (by kernel_rfl) ?_
        refine t_end ?_
        exact ⟨hg_2ff g275, rfl⟩
      · show T _ _ _ _ _ _ _ _
        refine t_a (.new rfl rfl) fun g274 fg274 sg274 => ?_
        refine t_keep [0, 1, 4, 5, 7, 8, 22, 25] (σ' := [(0, .slice a_l0 l0.length c_l0), (1, .int .i64 w1), (4, .pointer (some ⟨b245, 0, none⟩)), (5, .pointer (some ⟨b246, 0, none⟩)), (7, .pointer (some ⟨g274, 0, none⟩)), (8, .pointer (some ⟨g275, 0, none⟩)), (22, .agg #[.int .i64 x248, .int .i64 x249]), (25, .pointer (some ⟨lb266, lo267 + (0 : Int).toNat * 4 + 0, none⟩))]) (by kernel_rfl) ?_
        refine t_vs (H' := ([⟨g275, [.int .i64 0, .int .i64 0], 2⟩, ⟨g274, [.int .i64 0, .int .i64 0], 2⟩, ⟨b246, [.int .i64 0, .int .i64 0], 2⟩, ⟨b245, [.int .i64 0, .int .i64 0], 2⟩] : List Own)) (S' := S) (VS.sel [1, 0, 0, 0] (by kernel_rfl)) ?_
        refine t_end ?_
        exact ⟨hg_37f g275 g274, rfl⟩
    have hg_71f : ∀ (g275 : Nat) (g274 : Nat), G [true, true, true, true, true, false, false, false, true, true, true, false] [(0, .slice a_l0 l0.length c_l0), (1, .int .i64 w1), (4, .pointer (some ⟨b245, 0, none⟩)), (5, .pointer (some ⟨b246, 0, none⟩)), (7, .pointer (some ⟨g274, 0, none⟩)), (8, .pointer (some ⟨g275, 0, none⟩)), (23, .slice a_l0 l0.length c_l0)] ([⟨g275, [.int .i64 0, .int .i64 0], 2⟩, ⟨g274, [.int .i64 x248, .int .i64 x249], 2⟩, ⟨b246, [.int .i64 0, .int .i64 0], 2⟩, ⟨b245, [.int .i64 0, .int .i64 0], 2⟩] : List Own) := by
      intro g275 g274
      refine hstep [5] _ _ _ (by kernel_rfl) (List.cons_ne_nil _ _) ⟨?_, trivial⟩
      · show T _ _ _ _ _ _ _ _
        refine t_v (.quiet rfl (ixs_sle rfl rfl la269 lz272 lu273)) ?_
        refine t_keep [0, 1, 4, 5, 7, 8, 24] (σ' := [(0, .slice a_l0 l0.length c_l0), (1, .int .i64 w1), (4, .pointer (some ⟨b245, 0, none⟩)), (5, .pointer (some ⟨b246, 0, none⟩)), (7, .pointer (some ⟨g274, 0, none⟩)), (8, .pointer (some ⟨g275, 0, none⟩)), (24, .pointer (some ⟨lb266, lo267 + (0 : Int).toNat * 4 + 0, none⟩))]) (by kernel_rfl) ?_
        refine t_end ?_
        exact ⟨hg_73f g275 g274, rfl⟩
    have hg_33f : ∀ (g275 : Nat) (g274 : Nat), G [true, true, true, true, true, true, false, false, true, true, false, false] [(0, .slice a_l0 l0.length c_l0), (1, .int .i64 w1), (4, .pointer (some ⟨b245, 0, none⟩)), (5, .pointer (some ⟨b246, 0, none⟩)), (7, .pointer (some ⟨g274, 0, none⟩)), (8, .pointer (some ⟨g275, 0, none⟩)), (22, .agg #[.int .i64 x248, .int .i64 x249]), (24, .pointer (some ⟨lb266, lo267 + (0 : Int).toNat * 4 + 0, none⟩))] ([⟨g275, [.int .i64 0, .int .i64 0], 2⟩, ⟨g274, [.int .i64 0, .int .i64 0], 2⟩, ⟨b246, [.int .i64 0, .int .i64 0], 2⟩, ⟨b245, [.int .i64 0, .int .i64 0], 2⟩] : List Own) := by
      intro g275 g274
      exact hqf 6 [0, 1, 4, 5, 7, 8, 22, 25] _ _ _ [(0, .slice a_l0 l0.length c_l0), (1, .int .i64 w1), (4, .pointer (some ⟨b245, 0, none⟩)), (5, .pointer (some ⟨b246, 0, none⟩)), (7, .pointer (some ⟨g274, 0, none⟩)), (8, .pointer (some ⟨g275, 0, none⟩)), (22, .agg #[.int .i64 x248, .int .i64 x249]), (25, .pointer (some ⟨lb266, lo267 + (0 : Int).toNat * 4 + 0, none⟩))] (by kernel_rfl) (by kernel_rfl) (hg_37f g275 g274)
    have hg_1f7 : ∀ (g274 : Nat), G [true, true, true, false, true, true, true, true, true, false, false, false] [(0, .slice a_l0 l0.length c_l0), (1, .int .i64 w1), (4, .pointer (some ⟨b245, 0, none⟩)), (5, .pointer (some ⟨b246, 0, none⟩)), (7, .pointer (some ⟨g274, 0, none⟩)), (21, .pointer (some ⟨lb253, lo254 + (0 : Int).toNat * 4 + 0, none⟩)), (26, .agg #[.int .i64 x261, .int .i64 x262])] ([⟨g274, [.int .i64 0, .int .i64 0], 2⟩, ⟨b246, [.int .i64 0, .int .i64 0], 2⟩, ⟨b245, [.int .i64 0, .int .i64 0], 2⟩] : List Own) := by
      intro g274
      refine hstep [3, 9] _ _ _ (by kernel_rfl) (List.cons_ne_nil _ _) ⟨?_, ?_, trivial⟩
      · show T _ _ _ _ _ _ _ _
        refine t_v (.ldn (vs := [.int .i64 x248, .int .i64 x249]) rfl rfl rfl (.sealed lS257 (subl_sub lv258 (by kernel_rfl)))) ?_
        refine t_keep [0, 1, 4, 5, 7, 22, 26] (σ' := [(0, .slice a_l0 l0.length c_l0), (1, .int .i64 w1), (4, .pointer (some ⟨b245, 0, none⟩)), (5, .pointer (some ⟨b246, 0, none⟩)), (7, .pointer (some ⟨g274, 0, none⟩)), (22, .agg #[.int .i64 x248, .int .i64 x249]), (26, .agg #[.int .i64 x261, .int .i64 x262])]) (by kernel_rfl) ?_
        refine t_end ?_
        exact ⟨hg_1ff g274, rfl⟩
      · show T _ _ _ _ _ _ _ _
        refine t_a (.new rfl rfl) fun g275 fg275 sg275 => ?_
        refine t_keep [0, 1, 4, 5, 7, 8, 21, 26] (σ' := [(0, .slice a_l0 l0.length c_l0), (1, .int .i64 w1), (4, .pointer (some ⟨b245, 0, none⟩)), (5, .pointer (some ⟨b246, 0, none⟩)), (7, .pointer (some ⟨g274, 0, none⟩)), (8, .pointer (some ⟨g275, 0, none⟩)), (21, .pointer (some ⟨lb253, lo254 + (0 : Int).toNat * 4 + 0, none⟩)), (26, .agg #[.int .i64 x261, .int .i64 x262])]) (by kernel_rfl) ?_
        refine t_end ?_
        exact ⟨hg_3f7 g275 g274, rfl⟩
    have hg_2f7 : ∀ (g275 : Nat), G [true, true, true, false, true, true, true, true, false, true, false, false] [(0, .slice a_l0 l0.length c_l0), (1, .int .i64 w1), (4, .pointer (some ⟨b245, 0, none⟩)), (5, .pointer (some ⟨b246, 0, none⟩)), (8, .pointer (some ⟨g275, 0, none⟩)), (21, .pointer (some ⟨lb253, lo254 + (0 : Int).toNat * 4 + 0, none⟩)), (26, .agg #[.int .i64 x261, .int .i64 x262])] ([⟨g275, [.int .i64 0, .int .i64 0], 2⟩, ⟨b246, [.int .i64 0, .int .i64 0], 2⟩, ⟨b245, [.int .i64 0, .int .i64 0], 2⟩] : List Own) := by
      intro g275
      refine hstep [3, 8] _ _ _ (by kernel_rfl) (List.cons_ne_nil _ _) ⟨?_, ?_, trivial⟩
      · show T _ _ _ _ _ _ _ _
        refine t_v (.ldn (vs := [.int .i64 x248, .int .i64 x249]) rfl rfl rfl (.sealed lS257 (subl_sub lv258 (by kernel_rfl)))) ?_
        refine t_keep [0, 1, 4, 5, 8, 22, 26] (σ' := [(0, .slice a_l0 l0.length c_l0), (1, .int .i64 w1), (4, .pointer (some ⟨b245, 0, none⟩)), (5, .pointer (some ⟨b246, 0, none⟩)), (8, .pointer (some ⟨g275, 0, none⟩)), (22, .agg #[.int .i64 x248, .int .i64 x249]), (26, .agg #[.int .i64 x261, .int .i64 x262])]) (by kernel_rfl) ?_
        refine t_end ?_
        exact ⟨hg_2ff g275, rfl⟩
      · show T _ _ _ _ _ _ _ _
        refine t_a (.new rfl rfl) fun g274 fg274 sg274 => ?_
        refine t_keep [0, 1, 4, 5, 7, 8, 21, 26] (σ' := [(0, .slice a_l0 l0.length c_l0), (1, .int .i64 w1), (4, .pointer (some ⟨b245, 0, none⟩)), (5, .pointer (some ⟨b246, 0, none⟩)), (7, .pointer (some ⟨g274, 0, none⟩)), (8, .pointer (some ⟨g275, 0, none⟩)), (21, .pointer (some ⟨lb253, lo254 + (0 : Int).toNat * 4 + 0, none⟩)), (26, .agg #[.int .i64 x261, .int .i64 x262])]) (by kernel_rfl) ?_
        refine t_vs (H' := ([⟨g275, [.int .i64 0, .int .i64 0], 2⟩, ⟨g274, [.int .i64 0, .int .i64 0], 2⟩, ⟨b246, [.int .i64 0, .int .i64 0], 2⟩, ⟨b245, [.int .i64 0, .int .i64 0], 2⟩] : List Own)) (S' := S) (VS.sel [1, 0, 0, 0] (by kernel_rfl)) ?_
        refine t_end ?_
        exact ⟨hg_3f7 g275 g274, rfl⟩
    have hg_377 : ∀ (g275 : Nat) (g274 : Nat), G [true, true, true, false, true, true, true, false, true, true, false, false] [(0, .slice a_l0 l0.length c_l0), (1, .int .i64 w1), (4, .pointer (some ⟨b245, 0, none⟩)), (5, .pointer (some ⟨b246, 0, none⟩)), (7, .pointer (some ⟨g274, 0, none⟩)), (8, .pointer (some ⟨g275, 0, none⟩)), (21, .pointer (some ⟨lb253, lo254 + (0 : Int).toNat * 4 + 0, none⟩)), (25, .pointer (some ⟨lb266, lo267 + (0 : Int).toNat * 4 + 0, none⟩))] ([⟨g275, [.int .i64 0, .int .i64 0], 2⟩, ⟨g274, [.int .i64 0, .int .i64 0], 2⟩, ⟨b246, [.int .i64 0, .int .i64 0], 2⟩, ⟨b245, [.int .i64 0, .int .i64 0], 2⟩] : List Own) := by
      intro g275 g274
      refine hstep [3, 7] _ _ _ (by kernel_rfl) (List.cons_ne_nil _ _) ⟨?_, ?_, trivial⟩
      · show T _ _ _ _ _ _ _ _
        refine t_v (.ldn (vs := [.int .i64 x248, .int .i64 x249]) rfl rfl rfl (.sealed lS257 (subl_sub lv258 (by kernel_rfl)))) ?_
        refine t_keep [0, 1, 4, 5, 7, 8, 22, 25] (σ' := [(0, .slice a_l0 l0.length c_l0), (1, .int .i64 w1), (4, .pointer (some ⟨b245, 0, none⟩)), (5, .pointer (some ⟨b246, 0, none⟩)), (7, .pointer (some ⟨g274, 0, none⟩)), (8, .pointer (some ⟨g275, 0, none⟩)), (22, .agg #[.int .i64 x248, .int .i64 x249]), (25, .pointer (some ⟨lb266, lo267 + (0 : Int).toNat * 4 + 0, none⟩))]) (by kernel_rfl) ?_
        refine t_end ?_
        exact ⟨hg_37f g275 g274, rfl⟩
      · show T _ _ _ _ _ _ _ _
        refine t_v (.ldn (vs := [.int .i64 x261, .int .i64 x262]) rfl rfl rfl (.sealed lS270 (subl_sub lv271 (by kernel_rfl)))) ?_
        refine t_keep [0, 1, 4, 5, 7, 8, 21, 26] (σ' := [(0, .slice a_l0 l0.length c_l0), (1, .int .i64 w1), (4, .pointer (some ⟨b245, 0, none⟩)), (5, .pointer (some ⟨b246, 0, none⟩)), (7, .pointer (some ⟨g274, 0, none⟩)), (8, .pointer (some ⟨g275, 0, none⟩)), (21, .pointer (some ⟨lb253, lo254 + (0 : Int).toNat * 4 + 0, none⟩)), (26, .agg #[.int .i64 x261, .int .i64 x262])]) (by kernel_rfl) ?_
        refine t_end ?_
        exact ⟨hg_3f7 g275 g274, rfl⟩
    have hg_3f3 : ∀ (g275 : Nat) (g274 : Nat), G [true, true, false, false, true, true, true, true, true, true, false, false] [(0, .slice a_l0 l0.length c_l0), (1, .int .i64 w1), (4, .pointer (some ⟨b245, 0, none⟩)), (5, .pointer (some ⟨b246, 0, none⟩)), (7, .pointer (some ⟨g274, 0, none⟩)), (8, .pointer (some ⟨g275, 0, none⟩)), (20, .pointer (some ⟨lb253, lo254 + (0 : Int).toNat * 4 + 0, none⟩)), (26, .agg #[.int .i64 x261, .int .i64 x262])] ([⟨g275, [.int .i64 0, .int .i64 0], 2⟩, ⟨g274, [.int .i64 0, .int .i64 0], 2⟩, ⟨b246, [.int .i64 0, .int .i64 0], 2⟩, ⟨b245, [.int .i64 0, .int .i64 0], 2⟩] : List Own) := by
      intro g275 g274
      exact hqf 2 [0, 1, 4, 5, 7, 8, 21, 26] _ _ _ [(0, .slice a_l0 l0.length c_l0), (1, .int .i64 w1), (4, .pointer (some ⟨b245, 0, none⟩)), (5, .pointer (some ⟨b246, 0, none⟩)), (7, .pointer (some ⟨g274, 0, none⟩)), (8, .pointer (some ⟨g275, 0, none⟩)), (21, .pointer (some ⟨lb253, lo254 + (0 : Int).toNat * 4 + 0, none⟩)), (26, .agg #[.int .i64 x261, .int .i64 x262])] (by kernel_rfl) (by kernel_rfl) (hg_3f7 g275 g274)
    have hg_31f : ∀ (g275 : Nat) (g274 : Nat), G [true, true, true, true, true, false, false, false, true, true, false, false] [(0, .slice a_l0 l0.length c_l0), (1, .int .i64 w1), (4, .pointer (some ⟨b245, 0, none⟩)), (5, .pointer (some ⟨b246, 0, none⟩)), (7, .pointer (some ⟨g274, 0, none⟩)), (8, .pointer (some ⟨g275, 0, none⟩)), (22, .agg #[.int .i64 x248, .int .i64 x249]), (23, .slice a_l0 l0.length c_l0)] ([⟨g275, [.int .i64 0, .int .i64 0], 2⟩, ⟨g274, [.int .i64 0, .int .i64 0], 2⟩, ⟨b246, [.int .i64 0, .int .i64 0], 2⟩, ⟨b245, [.int .i64 0, .int .i64 0], 2⟩] : List Own) := by
      intro g275 g274
      refine hstep [5, 10] _ _ _ (by kernel_rfl) (List.cons_ne_nil _ _) ⟨?_, ?_, trivial⟩
      · show T _ _ _ _ _ _ _ _
        refine t_v (.quiet rfl (ixs_sle rfl rfl la269 lz272 lu273)) ?_
        refine t_keep [0, 1, 4, 5, 7, 8, 22, 24] (σ' := [(0, .slice a_l0 l0.length c_l0), (1, .int .i64 w1), (4, .pointer (some ⟨b245, 0, none⟩)), (5, .pointer (some ⟨b246, 0, none⟩)), (7, .pointer (some ⟨g274, 0, none⟩)), (8, .pointer (some ⟨g275, 0, none⟩)), (22, .agg #[.int .i64 x248, .int .i64 x249]), (24, .pointer (some ⟨lb266, lo267 + (0 : Int).toNat * 4 + 0, none⟩))]) (by kernel_rfl) ?_
        refine t_end ?_
        exact ⟨hg_33f g275 g274, rfl⟩
      · show T _ _ _ _ _ _ _ _
        refine t_sti 1 (cs := [.int .i64 x248, .int .i64 x249]) rfl rfl rfl rfl rfl rfl rfl rfl rfl ?_
        refine t_keep [0, 1, 4, 5, 7, 8, 23] (σ' := [(0, .slice a_l0 l0.length c_l0), (1, .int .i64 w1), (4, .pointer (some ⟨b245, 0, none⟩)), (5, .pointer (some ⟨b246, 0, none⟩)), (7, .pointer (some ⟨g274, 0, none⟩)), (8, .pointer (some ⟨g275, 0, none⟩)), (23, .slice a_l0 l0.length c_l0)]) (by kernel_rfl) ?_
        refine t_end ?_
        exact ⟨hg_71f g275 g274, rfl⟩
    have hg_337 : ∀ (g275 : Nat) (g274 : Nat), G [true, true, true, false, true, true, false, false, true, true, false, false] [(0, .slice a_l0 l0.length c_l0), (1, .int .i64 w1), (4, .pointer (some ⟨b245, 0, none⟩)), (5, .pointer (some ⟨b246, 0, none⟩)), (7, .pointer (some ⟨g274, 0, none⟩)), (8, .pointer (some ⟨g275, 0, none⟩)), (21, .pointer (some ⟨lb253, lo254 + (0 : Int).toNat * 4 + 0, none⟩)), (24, .pointer (some ⟨lb266, lo267 + (0 : Int).toNat * 4 + 0, none⟩))] ([⟨g275, [.int .i64 0, .int .i64 0], 2⟩, ⟨g274, [.int .i64 0, .int .i64 0], 2⟩, ⟨b246, [.int .i64 0, .int .i64 0], 2⟩, ⟨b245, [.int .i64 0, .int .i64 0], 2⟩] : List Own) := by
      intro g275 g274
      exact hqf 6 [0, 1, 4, 5, 7, 8, 21, 25] _ _ _ [(0, .slice a_l0 l0.length c_l0), (1, .int .i64 w1), (4, .pointer (some ⟨b245, 0, none⟩)), (5, .pointer (some ⟨b246, 0, none⟩)), (7, .pointer (some ⟨g274, 0, none⟩)), (8, .pointer (some ⟨g275, 0, none⟩)), (21, .pointer (some ⟨lb253, lo254 + (0 : Int).toNat * 4 + 0, none⟩)), (25, .pointer (some ⟨lb266, lo267 + (0 : Int).toNat * 4 + 0, none⟩))] (by kernel_rfl) (by kernel_rfl) (hg_377 g275 g274)
    have hg_23f : ∀ (g275 : Nat), G [true, true, true, true, true, true, false, false, false, true, false, false] [(0, .slice a_l0 l0.length c_l0), (1, .int .i64 w1), (4, .pointer (some ⟨b245, 0, none⟩)), (5, .pointer (some ⟨b246, 0, none⟩)), (8, .pointer (some ⟨g275, 0, none⟩)), (22, .agg #[.int .i64 x248, .int .i64 x249]), (24, .pointer (some ⟨lb266, lo267 + (0 : Int).toNat * 4 + 0, none⟩))] ([⟨g275, [.int .i64 0, .int .i64 0], 2⟩, ⟨b246, [.int .i64 0, .int .i64 0], 2⟩, ⟨b245, [.int .i64 0, .int .i64 0], 2⟩] : List Own) := by
      intro g275
      exact hqf 6 [0, 1, 4, 5, 8, 22, 25] _ _ _ [(0, .slice a_l0 l0.length c_l0), (1, .int .i64 w1), (4, .pointer (some ⟨b245, 0, none⟩)), (5, .pointer (some ⟨b246, 0, none⟩)), (8, .pointer (some ⟨g275, 0, none⟩)), (22, .agg #[.int .i64 x248, .int .i64 x249]), (25, .pointer (some ⟨lb266, lo267 + (0 : Int).toNat * 4 + 0, none⟩))] (by kernel_rfl) (by kernel_rfl) (hg_27f g275)
    have hg_13f : ∀ (g274 : Nat), G [true, true, true, true, true, true, false, false, true, false, false, false] [(0, .slice a_l0 l0.length c_l0), (1, .int .i64 w1), (4, .pointer (some ⟨b245, 0, none⟩)), (5, .pointer (some ⟨b246, 0, none⟩)), (7, .pointer (some ⟨g274, 0, none⟩)), (22, .agg #[.int .i64 x248, .int .i64 x249]), (24, .pointer (some ⟨lb266, lo267 + (0 : Int).toNat * 4 + 0, none⟩))] ([⟨g274, [.int .i64 0, .int .i64 0], 2⟩, ⟨b246, [.int .i64 0, .int .i64 0], 2⟩, ⟨b245, [.int .i64 0, .int .i64 0], 2⟩] : List Own) := by
      intro g274
      exact hqf 6 [0, 1, 4, 5, 7, 22, 25] _ _ _ [(0, .slice a_l0 l0.length c_l0), (1, .int .i64 w1), (4, .pointer (some ⟨b245, 0, none⟩)), (5, .pointer (some ⟨b246, 0, none⟩)), (7, .pointer (some ⟨g274, 0, none⟩)), (22, .agg #[.int .i64 x248, .int .i64 x249]), (25, .pointer (some ⟨lb266, lo267 + (0 : Int).toNat * 4 + 0, none⟩))] (by kernel_rfl) (by kernel_rfl) (hg_17f g274)
    have hg_1f3 : ∀ (g274 : Nat), G [true, true, false, false, true, true, true, true, true, false, false, false] [(0, .slice a_l0 l0.length c_l0), (1, .int .i64 w1), (4, .pointer (some ⟨b245, 0, none⟩)), (5, .pointer (some ⟨b246, 0, none⟩)), (7, .pointer (some ⟨g274, 0, none⟩)), (20, .pointer (some ⟨lb253, lo254 + (0 : Int).toNat * 4 + 0, none⟩)), (26, .agg #[.int .i64 x261, .int .i64 x262])] ([⟨g274, [.int .i64 0, .int .i64 0], 2⟩, ⟨b246, [.int .i64 0, .int .i64 0], 2⟩, ⟨b245, [.int .i64 0, .int .i64 0], 2⟩] : List Own) := by
      intro g274
      exact hqf 2 [0, 1, 4, 5, 7, 21, 26] _ _ _ [(0, .slice a_l0 l0.length c_l0), (1, .int .i64 w1), (4, .pointer (some ⟨b245, 0, none⟩)), (5, .pointer (some ⟨b246, 0, none⟩)), (7, .pointer (some ⟨g274, 0, none⟩)), (21, .pointer (some ⟨lb253, lo254 + (0 : Int).toNat * 4 + 0, none⟩)), (26, .agg #[.int .i64 x261, .int .i64 x262])] (by kernel_rfl) (by kernel_rfl) (hg_1f7 g274)
    have hg_f7 : G [true, true, true, false, true, true, true, true, false, false, false, false] [(0, .slice a_l0 l0.length c_l0), (1, .int .i64 w1), (4, .pointer (some ⟨b245, 0, none⟩)), (5, .pointer (some ⟨b246, 0, none⟩)), (21, .pointer (some ⟨lb253, lo254 + (0 : Int).toNat * 4 + 0, none⟩)), (26, .agg #[.int .i64 x261, .int .i64 x262])] ([⟨b246, [.int .i64 0, .int .i64 0], 2⟩, ⟨b245, [.int .i64 0, .int .i64 0], 2⟩] : List Own) := by
      refine hstep [3, 8, 9] _ _ _ (by kernel_rfl) (List.cons_ne_nil _ _) ⟨?_, ?_, ?_, trivial⟩
      · show T _ _ _ _ _ _ _ _
        refine t_v (.ldn (vs := [.int .i64 x248, .int .i64 x249]) rfl rfl rfl (.sealed lS257 (subl_sub lv258 (by kernel_rfl)))) ?_
        refine t_keep [0, 1, 4, 5, 22, 26] (σ' := [(0, .slice a_l0 l0.length c_l0), (1, .int .i64 w1), (4, .pointer (some ⟨b245, 0, none⟩)), (5, .pointer (some ⟨b246, 0, none⟩)), (22, .agg #[.int .i64 x248, .int .i64 x249]), (26, .agg #[.int .i64 x261, .int .i64 x262])]) (by kernel_rfl) ?_
        refine t_end ?_
        exact ⟨hg_ff, rfl⟩
      · show T _ _ _ _ _ _ _ _
        refine t_a (.new rfl rfl) fun g274 fg274 sg274 => ?_
        refine t_keep [0, 1, 4, 5, 7, 21, 26] (σ' := [(0, .slice a_l0 l0.length c_l0), (1, .int .i64 w1), (4, .pointer (some ⟨b245, 0, none⟩)), (5, .pointer (some ⟨b246, 0, none⟩)), (7, .pointer (some ⟨g274, 0, none⟩)), (21, .pointer (some ⟨lb253, lo254 + (0 : Int).toNat * 4 + 0, none⟩)), (26, .agg #[.int .i64 x261, .int .i64 x262])]) (by kernel_rfl) ?_
        refine t_end ?_
        exact ⟨hg_1f7 g274, rfl⟩
      · show T _ _ _ _ _ _ _ _
        refine t_a (.new rfl rfl) fun g275 fg275 sg275 => ?_
        refine t_keep [0, 1, 4, 5, 8, 21, 26] (σ' := [(0, .slice a_l0 l0.length c_l0), (1, .int .i64 w1), (4, .pointer (some ⟨b245, 0, none⟩)), (5, .pointer (some ⟨b246, 0, none⟩)), (8, .pointer (some ⟨g275, 0, none⟩)), (21, .pointer (some ⟨lb253, lo254 + (0 : Int).toNat * 4 + 0, none⟩)), (26, .agg #[.int .i64 x261, .int .i64 x262])]) (by kernel_rfl) ?_
        refine t_end ?_
        exact ⟨hg_2f7 g275, rfl⟩
    have hg_177 : ∀ (g274 : Nat), G [true, true, true, false, true, true, true, false, true, false, false, false] [(0, .slice a_l0 l0.length c_l0), (1, .int .i64 w1), (4, .pointer (some ⟨b245, 0, none⟩)), (5, .pointer (some ⟨b246, 0, none⟩)), (7, .pointer (some ⟨g274, 0, none⟩)), (21, .pointer (some ⟨lb253, lo254 + (0 : Int).toNat * 4 + 0, none⟩)), (25, .pointer (some ⟨lb266, lo267 + (0 : Int).toNat * 4 + 0, none⟩))] ([⟨g274, [.int .i64 0, .int .i64 0], 2⟩, ⟨b246, [.int .i64 0, .int .i64 0], 2⟩, ⟨b245, [.int .i64 0, .int .i64 0], 2⟩] : List Own) := by
      intro g274
      refine hstep [3, 7, 9] _ _ _ (by kernel_rfl) (List.cons_ne_nil _ _) ⟨?_, ?_, ?_, trivial⟩
      · show T _ _ _ _ _ _ _ _
        refine t_v (.ldn (vs := [.int .i64 x248, .int .i64 x249]) rfl rfl rfl (.sealed lS257 (subl_sub lv258 (by kernel_rfl)))) ?_
        refine t_keep [0, 1, 4, 5, 7, 22, 25] (σ' := [(0, .slice a_l0 l0.length c_l0), (1, .int .i64 w1), (4, .pointer (some ⟨b245, 0, none⟩)), (5, .pointer (some ⟨b246, 0, none⟩)), (7, .pointer (some ⟨g274, 0, none⟩)), (22, .agg #[.int .i64 x248, .int .i64 x249]), (25, .pointer (some ⟨lb266, lo267 + (0 : Int).toNat * 4 + 0, none⟩))]) (by kernel_rfl) ?_
        refine t_end ?_
        exact ⟨hg_17f g274, rfl⟩
      · show T _ _ _ _ _ _ _ _
        refine t_v (.ldn (vs := [.int .i64 x261, .int .i64 x262]) rfl rfl rfl (.sealed lS270 (subl_sub lv271 (by kernel_rfl)))) ?_
        refine t_keep [0, 1, 4, 5, 7, 21, 26] (σ' := [(0, .slice a_l0 l0.length c_l0), (1, .int .i64 w1), (4, .pointer (some ⟨b245, 0, none⟩)), (5, .pointer (some ⟨b246, 0, none⟩)), (7, .pointer (some ⟨g274, 0, none⟩)), (21, .pointer (some ⟨lb253, lo254 + (0 : Int).toNat * 4 + 0, none⟩)), (26, .agg #[.int .i64 x261, .int .i64 x262])]) (by kernel_rfl) ?_
        refine t_end ?_
        exact ⟨hg_1f7 g274, rfl⟩
      · show T _ _ _ _ _ _ _ _
        refine t_a (.new rfl rfl) fun g275 fg275 sg275 => ?_
        refine t_keep [0, 1, 4, 5, 7, 8, 21, 25] (σ' := [(0, .slice a_l0 l0.length c_l0), (1, .int .i64 w1), (4, .pointer (some ⟨b245, 0, none⟩)), (5, .pointer (some ⟨b246, 0, none⟩)), (7, .pointer (some ⟨g274, 0, none⟩)), (8, .pointer (some ⟨g275, 0, none⟩)), (21, .pointer (some ⟨lb253, lo254 + (0 : Int).toNat * 4 + 0, none⟩)), (25, .pointer (some ⟨lb266, lo267 + (0 : Int).toNat * 4 + 0, none⟩))]) (by kernel_rfl) ?_
        refine t_end ?_
        exact ⟨hg_377 g275 g274, rfl⟩
    have hg_277 : ∀ (g275 : Nat), G [true, true, true, false, true, true, true, false, false, true, false, false] [(0, .slice a_l0 l0.length c_l0), (1, .int .i64 w1), (4, .pointer (some ⟨b245, 0, none⟩)), (5, .pointer (some ⟨b246, 0, none⟩)), (8, .pointer (some ⟨g275, 0, none⟩)), (21, .pointer (some ⟨lb253, lo254 + (0 : Int).toNat * 4 + 0, none⟩)), (25, .pointer (some ⟨lb266, lo267 + (0 : Int).toNat * 4 + 0, none⟩))] ([⟨g275, [.int .i64 0, .int .i64 0], 2⟩, ⟨b246, [.int .i64 0, .int .i64 0], 2⟩, ⟨b245, [.int .i64 0, .int .i64 0], 2⟩] : List Own) := by
      intro g275
      refine hstep [3, 7, 8] _ _ _ (by kernel_rfl) (List.cons_ne_nil _ _) ⟨?_, ?_, ?_, trivial⟩
      · show T _ _ _ _ _ _ _ _
        refine t_v (.ldn (vs := [.int .i64 x248, .int .i64 x249]) rfl rfl rfl (.sealed lS257 (subl_sub lv258 (by kernel_rfl)))) ?_
        refine t_keep [0, 1, 4, 5, 8, 22, 25] (σ' := [(0, .slice a_l0 l0.length c_l0), (1, .int .i64 w1), (4, .pointer (some ⟨b245, 0, none⟩)), (5, .pointer (some ⟨b246, 0, none⟩)), (8, .pointer (some ⟨g275, 0, none⟩)), (22, .agg #[.int .i64 x248, .int .i64 x249]), (25, .pointer (some ⟨lb266, lo267 + (0 : Int).toNat * 4 + 0, none⟩))]) (by kernel_rfl) ?_
        refine t_end ?_
        exact ⟨hg_27f g275, rfl⟩
      · show T _ _ _ _ _ _ _ _
        refine t_v (.ldn (vs := [.int .i64 x261, .int .i64 x262]) rfl rfl rfl (.sealed lS270 (subl_sub lv271 (by kernel_rfl)))) ?_
        refine t_keep [0, 1, 4, 5, 8, 21, 26] (σ' := [(0, .slice a_l0 l0.length c_l0), (1, .int .i64 w1), (4, .pointer (some ⟨b245, 0, none⟩)), (5, .pointer (some ⟨b246, 0, none⟩)), (8, .pointer (some ⟨g275, 0, none⟩)), (21, .pointer (some ⟨lb253, lo254 + (0 : Int).toNat * 4 + 0, none⟩)), (26, .agg #[.int .i64 x261, .int .i64 x262])]) (by kernel_rfl) ?_
        refine t_end ?_
        exact ⟨hg_2f7 g275, rfl⟩
      · show T _ _ _ _ _ _ _ _
        refine t_a (.new rfl rfl) fun g274 fg274 sg274 => ?_
        refine t_keep [0, 1, 4, 5, 7, 8, 21, 25] (σ' := [(0, .slice a_l0 l0.length c_l0), (1, .int .i64 w1), (4, .pointer (some ⟨b245, 0, none⟩)), (5, .pointer (some ⟨b246, 0, none⟩)), (7, .pointer (some ⟨g274, 0, none⟩)), (8, .pointer (some ⟨g275, 0, none⟩)), (21, .pointer (some ⟨lb253, lo254 + (0 : Int).toNat * 4 + 0, none⟩)), (25, .pointer (some ⟨lb266, lo267 + (0 : Int).toNat * 4 + 0, none⟩))]) (by kernel_rfl) ?_
        refine t_vs (H' := ([⟨g275, [.int .i64 0, .int .i64 0], 2⟩, ⟨g274, [.int .i64 0, .int .i64 0], 2⟩, ⟨b246, [.int .i64 0, .int .i64 0], 2⟩, ⟨b245, [.int .i64 0, .int .i64 0], 2⟩] : List Own)) (S' := S) (VS.sel [1, 0, 0, 0] (by kernel_rfl)) ?_
        refine t_end ?_
        exact ⟨hg_377 g275 g274, rfl⟩
    have hg_7f : G [true, true, true, true, true, true, true, false, false, false, false, false] [(0, .slice a_l0 l0.length c_l0), (1, .int .i64 w1), (4, .pointer (some ⟨b245, 0, none⟩)), (5, .pointer (some ⟨b246, 0, none⟩)), (22, .agg #[.int .i64 x248, .int .i64 x249]), (25, .pointer (some ⟨lb266, lo267 + (0 : Int).toNat * 4 + 0, none⟩))] ([⟨b246, [.int .i64 0, .int .i64 0], 2⟩, ⟨b245, [.int .i64 0, .int .i64 0], 2⟩] : List Own) := by
      refine hstep [7, 8, 9] _ _ _ (by kernel_rfl) (List.cons_ne_nil _ _) ⟨?_, ?_, ?_, trivial⟩
      · show T _ _ _ _ _ _ _ _
        refine t_v (.ldn (vs := [.int .i64 x261, .int .i64 x262]) rfl rfl rfl (.sealed lS270 (subl_sub lv271 (by kernel_rfl)))) ?_
        refine t_keep [0, 1, 4, 5, 22, 26] (σ' := [(0, .slice a_l0 l0.length c_l0), (1, .int .i64 w1), (4, .pointer (some ⟨b245, 0, none⟩)), (5, .pointer (some ⟨b246, 0, none⟩)), (22, .agg #[.int .i64 x248, .int .i64 x249]), (26, .agg #[.int .i64 x261, .int .i64 x262])]) (by kernel_rfl) ?_
        refine t_end ?_
        exact ⟨hg_ff, rfl⟩
      · show T _ _ _ _ _ _ _ _
        refine t_a (.new rfl rfl) fun g274 fg274 sg274 => ?_
        refine t_keep [0, 1, 4, 5, 7, 22, 25] (σ' := [(0, .slice a_l0 l0.length c_l0), (1, .int .i64 w1), (4, .pointer (some ⟨b245, 0, none⟩)), (5, .pointer (some ⟨b246, 0, none⟩)), (7, .pointer (some ⟨g274, 0, none⟩)), (22, .agg #[.int .i64 x248, .int .i64 x249]), (25, .pointer (some ⟨lb266, lo267 + (0 : Int).toNat * 4 + 0, none⟩))]) (by kernel_rfl) ?_
        refine t_end ?_
        exact ⟨hg_17f g274, rfl⟩
      · show T _ _ _ _ _ _ _ _
        refine t_a (.new rfl rfl) fun g275 fg275 sg275 => ?_
        refine t_keep [0, 1, 4, 5, 8, 22, 25] (σ' := [(0, .slice a_l0 l0.length c_l0), (1, .int .i64 w1), (4, .pointer (some ⟨b245, 0, none⟩)), (5, .pointer (some ⟨b246, 0, none⟩)), (8, .pointer (some ⟨g275, 0, none⟩)), (22, .agg #[.int .i64 x248, .int .i64 x249]), (25, .pointer (some ⟨lb266, lo267 + (0 : Int).toNat * 4 + 0, none⟩))]) (by kernel_rfl) ?_
        refine t_end ?_
        exact ⟨hg_27f g275, rfl⟩
    have hg_3f1 : ∀ (g275 : Nat) (g274 : Nat), G [true, false, false, false, true, true, true, true, true, true, false, false] [(0, .slice a_l0 l0.length c_l0), (1, .int .i64 w1), (4, .pointer (some ⟨b245, 0, none⟩)), (5, .pointer (some ⟨b246, 0, none⟩)), (7, .pointer (some ⟨g274, 0, none⟩)), (8, .pointer (some ⟨g275, 0, none⟩)), (19, .slice a_l0 l0.length c_l0), (26, .agg #[.int .i64 x261, .int .i64 x262])] ([⟨g275, [.int .i64 0, .int .i64 0], 2⟩, ⟨g274, [.int .i64 0, .int .i64 0], 2⟩, ⟨b246, [.int .i64 0, .int .i64 0], 2⟩, ⟨b245, [.int .i64 0, .int .i64 0], 2⟩] : List Own) := by
      intro g275 g274
      refine hstep [1] _ _ _ (by kernel_rfl) (List.cons_ne_nil _ _) ⟨?_, trivial⟩
      · show T _ _ _ _ _ _ _ _
        refine t_v (.quiet rfl (ixs_sle rfl rfl la256 lz259 lu260)) ?_
        refine t_keep [0, 1, 4, 5, 7, 8, 20, 26] (σ' := [(0, .slice a_l0 l0.length c_l0), (1, .int .i64 w1), (4, .pointer (some ⟨b245, 0, none⟩)), (5, .pointer (some ⟨b246, 0, none⟩)), (7, .pointer (some ⟨g274, 0, none⟩)), (8, .pointer (some ⟨g275, 0, none⟩)), (20, .pointer (some ⟨lb253, lo254 + (0 : Int).toNat * 4 + 0, none⟩)), (26, .agg #[.int .i64 x261, .int .i64 x262])]) (by kernel_rfl) ?_
        refine t_end ?_
        exact ⟨hg_3f3 g275 g274, rfl⟩
    have hg_373 : ∀ (g275 : Nat) (g274 : Nat), G [true, true, false, false, true, true, true, false, true, true, false, false] [(0, .slice a_l0 l0.length c_l0), (1, .int .i64 w1), (4, .pointer (some ⟨b245, 0, none⟩)), (5, .pointer (some ⟨b246, 0, none⟩)), (7, .pointer (some ⟨g274, 0, none⟩)), (8, .pointer (some ⟨g275, 0, none⟩)), (20, .pointer (some ⟨lb253, lo254 + (0 : Int).toNat * 4 + 0, none⟩)), (25, .pointer (some ⟨lb266, lo267 + (0 : Int).toNat * 4 + 0, none⟩))] ([⟨g275, [.int .i64 0, .int .i64 0], 2⟩, ⟨g274, [.int .i64 0, .int .i64 0], 2⟩, ⟨b246, [.int .i64 0, .int .i64 0], 2⟩, ⟨b245, [.int .i64 0, .int .i64 0], 2⟩] : List Own) := by
      intro g275 g274
      exact hqf 2 [0, 1, 4, 5, 7, 8, 21, 25] _ _ _ [(0, .slice a_l0 l0.length c_l0), (1, .int .i64 w1), (4, .pointer (some ⟨b245, 0, none⟩)), (5, .pointer (some ⟨b246, 0, none⟩)), (7, .pointer (some ⟨g274, 0, none⟩)), (8, .pointer (some ⟨g275, 0, none⟩)), (21, .pointer (some ⟨lb253, lo254 + (0 : Int).toNat * 4 + 0, none⟩)), (25, .pointer (some ⟨lb266, lo267 + (0 : Int).toNat * 4 + 0, none⟩))] (by kernel_rfl) (by kernel_rfl) (hg_377 g275 g274)
    have hg_2f3 : ∀ (g275 : Nat), G [true, true, false, false, true, true, true, true, false, true, false, false] [(0, .slice a_l0 l0.length c_l0), (1, .int .i64 w1), (4, .pointer (some ⟨b245, 0, none⟩)), (5, .pointer (some ⟨b246, 0, none⟩)), (8, .pointer (some ⟨g275, 0, none⟩)), (20, .pointer (some ⟨lb253, lo254 + (0 : Int).toNat * 4 + 0, none⟩)), (26, .agg #[.int .i64 x261, .int .i64 x262])] ([⟨g275, [.int .i64 0, .int .i64 0], 2⟩, ⟨b246, [.int .i64 0, .int .i64 0], 2⟩, ⟨b245, [.int .i64 0, .int .i64 0], 2⟩] : List Own) := by
      intro g275
      exact hqf 2 [0, 1, 4, 5, 8, 21, 26] _ _ _ [(0, .slice a_l0 l0.length c_l0), (1, .int .i64 w1), (4, .pointer (some ⟨b245, 0, none⟩)), (5, .pointer (some ⟨b246, 0, none⟩)), (8, .pointer (some ⟨g275, 0, none⟩)), (21, .pointer (some ⟨lb253, lo254 + (0 : Int).toNat * 4 + 0, none⟩)), (26, .agg #[.int .i64 x261, .int .i64 x262])] (by kernel_rfl) (by kernel_rfl) (hg_2f7 g275)
    have hg_317 : ∀ (g275 : Nat) (g274 : Nat), G [true, true, true, false, true, false, false, false, true, true, false, false] [(0, .slice a_l0 l0.length c_l0), (1, .int .i64 w1), (4, .pointer (some ⟨b245, 0, none⟩)), (5, .pointer (some ⟨b246, 0, none⟩)), (7, .pointer (some ⟨g274, 0, none⟩)), (8, .pointer (some ⟨g275, 0, none⟩)), (21, .pointer (some ⟨lb253, lo254 + (0 : Int).toNat * 4 + 0, none⟩)), (23, .slice a_l0 l0.length c_l0)] ([⟨g275, [.int .i64 0, .int .i64 0], 2⟩, ⟨g274, [.int .i64 0, .int .i64 0], 2⟩, ⟨b246, [.int .i64 0, .int .i64 0], 2⟩, ⟨b245, [.int .i64 0, .int .i64 0], 2⟩] : List Own) := by
      intro g275 g274
      refine hstep [3, 5] _ _ _ (by kernel_rfl) (List.cons_ne_nil _ _) ⟨?_, ?_, trivial⟩
      · show T _ _ _ _ _ _ _ _
        refine t_v (.ldn (vs := [.int .i64 x248, .int .i64 x249]) rfl rfl rfl (.sealed lS257 (subl_sub lv258 (by kernel_rfl)))) ?_
        refine t_keep [0, 1, 4, 5, 7, 8, 22, 23] (σ' := [(0, .slice a_l0 l0.length c_l0), (1, .int .i64 w1), (4, .pointer (some ⟨b245, 0, none⟩)), (5, .pointer (some ⟨b246, 0, none⟩)), (7, .pointer (some ⟨g274, 0, none⟩)), (8, .pointer (some ⟨g275, 0, none⟩)), (22, .agg #[.int .i64 x248, .int .i64 x249]), (23, .slice a_l0 l0.length c_l0)]) (by kernel_rfl) ?_
        refine t_end ?_
        exact ⟨hg_31f g275 g274, rfl⟩
      · show T _ _ _ _ _ _ _ _
        refine t_v (.quiet rfl (ixs_sle rfl rfl la269 lz272 lu273)) ?_
        refine t_keep [0, 1, 4, 5, 7, 8, 21, 24] (σ' := [(0, .slice a_l0 l0.length c_l0), (1, .int .i64 w1), (4, .pointer (some ⟨b245, 0, none⟩)), (5, .pointer (some ⟨b246, 0, none⟩)), (7, .pointer (some ⟨g274, 0, none⟩)), (8, .pointer (some ⟨g275, 0, none⟩)), (21, .pointer (some ⟨lb253, lo254 + (0 : Int).toNat * 4 + 0, none⟩)), (24, .pointer (some ⟨lb266, lo267 + (0 : Int).toNat * 4 + 0, none⟩))]) (by kernel_rfl) ?_
        refine t_end ?_
        exact ⟨hg_337 g275 g274, rfl⟩
    have hg_21f : ∀ (g275 : Nat), G [true, true, true, true, true, false, false, false, false, true, false, false] [(0, .slice a_l0 l0.length c_l0), (1, .int .i64 w1), (4, .pointer (some ⟨b245, 0, none⟩)), (5, .pointer (some ⟨b246, 0, none⟩)), (8, .pointer (some ⟨g275, 0, none⟩)), (22, .agg #[.int .i64 x248, .int .i64 x249]), (23, .slice a_l0 l0.length c_l0)] ([⟨g275, [.int .i64 0, .int .i64 0], 2⟩, ⟨b246, [.int .i64 0, .int .i64 0], 2⟩, ⟨b245, [.int .i64 0, .int .i64 0], 2⟩] : List Own) := by
      intro g275
      refine hstep [5, 8] _ _ _ (by kernel_rfl) (List.cons_ne_nil _ _) ⟨?_, ?_, trivial⟩
      · show T _ _ _ _ _ _ _ _
        refine t_v (.quiet rfl (ixs_sle rfl rfl la269 lz272 lu273)) ?_
        refine t_keep [0, 1, 4, 5, 8, 22, 24] (σ' := [(0, .slice a_l0 l0.length c_l0), (1, .int .i64 w1), (4, .pointer (some ⟨b245, 0, none⟩)), (5, .pointer (some ⟨b246, 0, none⟩)), (8, .pointer (some ⟨g275, 0, none⟩)), (22, .agg #[.int .i64 x248, .int .i64 x249]), (24, .pointer (some ⟨lb266, lo267 + (0 : Int).toNat * 4 + 0, none⟩))]) (by kernel_rfl) ?_
        refine t_end ?_
        exact ⟨hg_23f g275, rfl⟩
      · show T _ _ _ _ _ _ _ _
        refine t_a (.new rfl rfl) fun g274 fg274 sg274 => ?_
        refine t_keep [0, 1, 4, 5, 7, 8, 22, 23] (σ' := [(0, .slice a_l0 l0.length c_l0), (1, .int .i64 w1), (4, .pointer (some ⟨b245, 0, none⟩)), (5, .pointer (some ⟨b246, 0, none⟩)), (7, .pointer (some ⟨g274, 0, none⟩)), (8, .pointer (some ⟨g275, 0, none⟩)), (22, .agg #[.int .i64 x248, .int .i64 x249]), (23, .slice a_l0 l0.length c_l0)]) (by kernel_rfl) ?_
        refine t_vs (H' := ([⟨g275, [.int .i64 0, .int .i64 0], 2⟩, ⟨g274, [.int .i64 0, .int .i64 0], 2⟩, ⟨b246, [.int .i64 0, .int .i64 0], 2⟩, ⟨b245, [.int .i64 0, .int .i64 0], 2⟩] : List Own)) (S' := S) (VS.sel [1, 0, 0, 0] (by kernel_rfl)) ?_
        refine t_end ?_
        exact ⟨hg_31f g275 g274, rfl⟩
    have hg_11f : ∀ (g274 : Nat), G [true, true, true, true, true, false, false, false, true, false, false, false] [(0, .slice a_l0 l0.length c_l0), (1, .int .i64 w1), (4, .pointer (some ⟨b245, 0, none⟩)), (5, .pointer (some ⟨b246, 0, none⟩)), (7, .pointer (some ⟨g274, 0, none⟩)), (22, .agg #[.int .i64 x248, .int .i64 x249]), (23, .slice a_l0 l0.length c_l0)] ([⟨g274, [.int .i64 0, .int .i64 0], 2⟩, ⟨b246, [.int .i64 0, .int .i64 0], 2⟩, ⟨b245, [.int .i64 0, .int .i64 0], 2⟩] : List Own) := by
      intro g274
      refine hstep [5, 9] _ _ _ (by kernel_rfl) (List.cons_ne_nil _ _) ⟨?_, ?_, trivial⟩
      · show T _ _ _ _ _ _ _ _
        refine t_v (.quiet rfl (ixs_sle rfl rfl la269 lz272 lu273)) ?_
        refine t_keep [0, 1, 4, 5, 7, 22, 24] (σ' := [(0, .slice a_l0 l0.length c_l0), (1, .int .i64 w1), (4, .pointer (some ⟨b245, 0, none⟩)), (5, .pointer (some ⟨b246, 0, none⟩)), (7, .pointer (some ⟨g274, 0, none⟩)), (22, .agg #[.int .i64 x248, .int .i64 x249]), (24, .pointer (some ⟨lb266, lo267 + (0 : Int).toNat * 4 + 0, none⟩))]) (by kernel_rfl) ?_
        refine t_end ?_
        exact ⟨hg_13f g274, rfl⟩
      · show T _ _ _ _ _ _ _ _
        refine t_a (.new rfl rfl) fun g275 fg275 sg275 => ?_
        refine t_keep [0, 1, 4, 5, 7, 8, 22, 23] (σ' := [(0, .slice a_l0 l0.length c_l0), (1, .int .i64 w1), (4, .pointer (some ⟨b245, 0, none⟩)), (5, .pointer (some ⟨b246, 0, none⟩)), (7, .pointer (some ⟨g274, 0, none⟩)), (8, .pointer (some ⟨g275, 0, none⟩)), (22, .agg #[.int .i64 x248, .int .i64 x249]), (23, .slice a_l0 l0.length c_l0)]) (by kernel_rfl) ?_
        refine t_end ?_
        exact ⟨hg_31f g275 g274, rfl⟩
    have hg_237 : ∀ (g275 : Nat), G [true, true, true, false, true, true, false, false, false, true, false, false] [(0, .slice a_l0 l0.length c_l0), (1, .int .i64 w1), (4, .pointer (some ⟨b245, 0, none⟩)), (5, .pointer (some ⟨b246, 0, none⟩)), (8, .pointer (some ⟨g275, 0, none⟩)), (21, .pointer (some ⟨lb253, lo254 + (0 : Int).toNat * 4 + 0, none⟩)), (24, .pointer (some ⟨lb266, lo267 + (0 : Int).toNat * 4 + 0, none⟩))] ([⟨g275, [.int .i64 0, .int .i64 0], 2⟩, ⟨b246, [.int .i64 0, .int .i64 0], 2⟩, ⟨b245, [.int .i64 0, .int .i64 0], 2⟩] : List Own) := by
      intro g275
      exact hqf 6 [0, 1, 4, 5, 8, 21, 25] _ _ _ [(0, .slice a_l0 l0.length c_l0), (1, .int .i64 w1), (4, .pointer (some ⟨b245, 0, none⟩)), (5, .pointer (some ⟨b246, 0, none⟩)), (8, .pointer (some ⟨g275, 0, none⟩)), (21, .pointer (some ⟨lb253, lo254 + (0 : Int).toNat * 4 + 0, none⟩)), (25, .pointer (some ⟨lb266, lo267 + (0 : Int).toNat * 4 + 0, none⟩))] (by kernel_rfl) (by kernel_rfl) (hg_277 g275)
    have hg_137 : ∀ (g274 : Nat), G [true, true, true, false, true, true, false, false, true, false, false, false] [(0, .slice a_l0 l0.length c_l0), (1, .int .i64 w1), (4, .pointer (some ⟨b245, 0, none⟩)), (5, .pointer (some ⟨b246, 0, none⟩)), (7, .pointer (some ⟨g274, 0, none⟩)), (21, .pointer (some ⟨lb253, lo254 + (0 : Int).toNat * 4 + 0, none⟩)), (24, .pointer (some ⟨lb266, lo267 + (0 : Int).toNat * 4 + 0, none⟩))] ([⟨g274, [.int .i64 0, .int .i64 0], 2⟩, ⟨b246, [.int .i64 0, .int .i64 0], 2⟩, ⟨b245, [.int .i64 0, .int .i64 0], 2⟩] : List Own) := by
      intro g274
      exact hqf 6 [0, 1, 4, 5, 7, 21, 25] _ _ _ [(0, .slice a_l0 l0.length c_l0), (1, .int .i64 w1), (4, .pointer (some ⟨b245, 0, none⟩)), (5, .pointer (some ⟨b246, 0, none⟩)), (7, .pointer (some ⟨g274, 0, none⟩)), (21, .pointer (some ⟨lb253, lo254 + (0 : Int).toNat * 4 + 0, none⟩)), (25, .pointer (some ⟨lb266, lo267 + (0 : Int).toNat * 4 + 0, none⟩))] (by kernel_rfl) (by kernel_rfl) (hg_177 g274)
    have hg_3f : G [true, true, true, true, true, true, false, false, false, false, false, false] [(0, .slice a_l0 l0.length c_l0), (1, .int .i64 w1), (4, .pointer (some ⟨b245, 0, none⟩)), (5, .pointer (some ⟨b246, 0, none⟩)), (22, .agg #[.int .i64 x248, .int .i64 x249]), (24, .pointer (some ⟨lb266, lo267 + (0 : Int).toNat * 4 + 0, none⟩))] ([⟨b246, [.int .i64 0, .int .i64 0], 2⟩, ⟨b245, [.int .i64 0, .int .i64 0], 2⟩] : List Own) := by
      exact hqf 6 [0, 1, 4, 5, 22, 25] _ _ _ [(0, .slice a_l0 l0.length c_l0), (1, .int .i64 w1), (4, .pointer (some ⟨b245, 0, none⟩)), (5, .pointer (some ⟨b246, 0, none⟩)), (22, .agg #[.int .i64 x248, .int .i64 x249]), (25, .pointer (some ⟨lb266, lo267 + (0 : Int).toNat * 4 + 0, none⟩))] (by kernel_rfl) (by kernel_rfl) hg_7f
    have hg_1f1 : ∀ (g274 : Nat), G [true, false, false, false, true, true, true, true, true, false, false, false] [(0, .slice a_l0 l0.length c_l0), (1, .int .i64 w1), (4, .pointer (some ⟨b245, 0, none⟩)), (5, .pointer (some ⟨b246, 0, none⟩)), (7, .pointer (some ⟨g274, 0, none⟩)), (19, .slice a_l0 l0.length c_l0), (26, .agg #[.int .i64 x261, .int .i64 x262])] ([⟨g274, [.int .i64 0, .int .i64 0], 2⟩, ⟨b246, [.int .i64 0, .int .i64 0], 2⟩, ⟨b245, [.int .i64 0, .int .i64 0], 2⟩] : List Own) := by
      intro g274
      refine hstep [1, 9] _ _ _ (by kernel_rfl) (List.cons_ne_nil _ _) ⟨?_, ?_, trivial⟩
      · show T _ _ _ _ _ _ _ _
        refine t_v (.quiet rfl (ixs_sle rfl rfl la256 lz259 lu260)) ?_
        refine t_keep [0, 1, 4, 5, 7, 20, 26] (σ' := [(0, .slice a_l0 l0.length c_l0), (1, .int .i64 w1), (4, .pointer (some ⟨b245, 0, none⟩)), (5, .pointer (some ⟨b246, 0, none⟩)), (7, .pointer (some ⟨g274, 0, none⟩)), (20, .pointer (some ⟨lb253, lo254 + (0 : Int).toNat * 4 + 0, none⟩)), (26, .agg #[.int .i64 x261, .int .i64 x262])]) (by kernel_rfl) ?_
        refine t_end ?_
        exact ⟨hg_1f3 g274, rfl⟩
      · show T _ _ _ _ _ _ _ _
        refine t_a (.new rfl rfl) fun g275 fg275 sg275 => ?_
        refine t_keep [0, 1, 4, 5, 7, 8, 19, 26] (σ' := [(0, .slice a_l0 l0.length c_l0), (1, .int .i64 w1), (4, .pointer (some ⟨b245, 0, none⟩)), (5, .pointer (some ⟨b246, 0, none⟩)), (7, .pointer (some ⟨g274, 0, none⟩)), (8, .pointer (some ⟨g275, 0, none⟩)), (19, .slice a_l0 l0.length c_l0), (26, .agg #[.int .i64 x261, .int .i64 x262])]) (by kernel_rfl) ?_
        refine t_end ?_
        exact ⟨hg_3f1 g275 g274, rfl⟩
    have hg_f3 : G [true, true, false, false, true, true, true, true, false, false, false, false] [(0, .slice a_l0 l0.length c_l0), (1, .int .i64 w1), (4, .pointer (some ⟨b245, 0, none⟩)), (5, .pointer (some ⟨b246, 0, none⟩)), (20, .pointer (some ⟨lb253, lo254 + (0 : Int).toNat * 4 + 0, none⟩)), (26, .agg #[.int .i64 x261, .int .i64 x262])] ([⟨b246, [.int .i64 0, .int .i64 0], 2⟩, ⟨b245, [.int .i64 0, .int .i64 0], 2⟩] : List Own) := by
      exact hqf 2 [0, 1, 4, 5, 21, 26] _ _ _ [(0, .slice a_l0 l0.length c_l0), (1, .int .i64 w1), (4, .pointer (some ⟨b245, 0, none⟩)), (5, .pointer (some ⟨b246, 0, none⟩)), (21, .pointer (some ⟨lb253, lo254 + (0 : Int).toNat * 4 + 0, none⟩)), (26, .agg #[.int .i64 x261, .int .i64 x262])] (by kernel_rfl) (by kernel_rfl) hg_f7
    have hg_77 : G [true, true, true, false, true, true, true, false, false, false, false, false] [(0, .slice a_l0 l0.length c_l0), (1, .int .i64 w1), (4, .pointer (some ⟨b245, 0, none⟩)), (5, .pointer (some ⟨b246, 0, none⟩)), (21, .pointer (some ⟨lb253, lo254 + (0 : Int).toNat * 4 + 0, none⟩)), (25, .pointer (some ⟨lb266, lo267 + (0 : Int).toNat * 4 + 0, none⟩))] ([⟨b246, [.int .i64 0, .int .i64 0], 2⟩, ⟨b245, [.int .i64 0, .int .i64 0], 2⟩] : List Own) := by
      refine hstep [3, 7, 8, 9] _ _ _ (by kernel_rfl) (List.cons_ne_nil _ _) ⟨?_, ?_, ?_, ?_, trivial⟩
      · show T _ _ _ _ _ _ _ _
        refine t_v (.ldn (vs := [.int .i64 x248, .int .i64 x249]) rfl rfl rfl (.sealed lS257 (subl_sub lv258 (by kernel_rfl)))) ?_
        refine t_keep [0, 1, 4, 5, 22, 25] (σ' := [(0, .slice a_l0 l0.length c_l0), (1, .int .i64 w1), (4, .pointer (some ⟨b245, 0, none⟩)), (5, .pointer (some ⟨b246, 0, none⟩)), (22, .agg #[.int .i64 x248, .int .i64 x249]), (25, .pointer (some ⟨lb266, lo267 + (0 : Int).toNat * 4 + 0, none⟩))]) (by kernel_rfl) ?_
        refine t_end ?_
        exact ⟨hg_7f, rfl⟩
      · show T _ _ _ _ _ _ _ _
        refine t_v (.ldn (vs := [.int .i64 x261, .int .i64 x262]) rfl rfl rfl (.sealed lS270 (subl_sub lv271 (by kernel_rfl)))) ?_
        refine t_keep [0, 1, 4, 5, 21, 26] (σ' := [(0, .slice a_l0 l0.length c_l0), (1, .int .i64 w1), (4, .pointer (some ⟨b245, 0, none⟩)), (5, .pointer (some ⟨b246, 0, none⟩)), (21, .pointer (some ⟨lb253, lo254 + (0 : Int).toNat * 4 + 0, none⟩)), (26, .agg #[.int .i64 x261, .int .i64 x262])]) (by kernel_rfl) ?_
        refine t_end ?_
        exact ⟨hg_f7, rfl⟩
      · show T _ _ _ _ _ _ _ _
        refine t_a (.new rfl rfl) fun g274 fg274 sg274 => ?_
        refine t_keep [0, 1, 4, 5, 7, 21, 25] (σ' := [(0, .slice a_l0 l0.length c_l0), (1, .int .i64 w1), (4, .pointer (some ⟨b245, 0, none⟩)), (5, .pointer (some ⟨b246, 0, none⟩)), (7, .pointer (some ⟨g274, 0, none⟩)), (21, .pointer (some ⟨lb253, lo254 + (0 : Int).toNat * 4 + 0, none⟩)), (25, .pointer (some ⟨lb266, lo267 + (0 : Int).toNat * 4 + 0, none⟩))]) (by kernel_rfl) ?_
        refine t_end ?_
        exact ⟨hg_177 g274, rfl⟩
      · show T _ _ _ _ _ _ _ _
        refine t_a (.new rfl rfl) fun g275 fg275 sg275 => ?_
        refine t_keep [0, 1, 4, 5, 8, 21, 25] (σ' := [(0, .slice a_l0 l0.length c_l0), (1, .int .i64 w1), (4, .pointer (some ⟨b245, 0, none⟩)), (5, .pointer (some ⟨b246, 0, none⟩)), (8, .pointer (some ⟨g275, 0, none⟩)), (21, .pointer (some ⟨lb253, lo254 + (0 : Int).toNat * 4 + 0, none⟩)), (25, .pointer (some ⟨lb266, lo267 + (0 : Int).toNat * 4 + 0, none⟩))]) (by kernel_rfl) ?_
        refine t_end ?_
        exact ⟨hg_277 g275, rfl⟩
    have hg_371 : ∀ (g275 : Nat) (g274 : Nat), G [true, false, false, false, true, true, true, false, true, true, false, false] [(0, .slice a_l0 l0.length c_l0), (1, .int .i64 w1), (4, .pointer (some ⟨b245, 0, none⟩)), (5, .pointer (some ⟨b246, 0, none⟩)), (7, .pointer (some ⟨g274, 0, none⟩)), (8, .pointer (some ⟨g275, 0, none⟩)), (19, .slice a_l0 l0.length c_l0), (25, .pointer (some ⟨lb266, lo267 + (0 : Int).toNat * 4 + 0, none⟩))] ([⟨g275, [.int .i64 0, .int .i64 0], 2⟩, ⟨g274, [.int .i64 0, .int .i64 0], 2⟩, ⟨b246, [.int .i64 0, .int .i64 0], 2⟩, ⟨b245, [.int .i64 0, .int .i64 0], 2⟩] : List Own) := by
      intro g275 g274
      refine hstep [1, 7] _ _ _ (by kernel_rfl) (List.cons_ne_nil _ _) ⟨?_, ?_, trivial⟩
      · show T _ _ _ _ _ _ _ _
        refine t_v (.quiet rfl (ixs_sle rfl rfl la256 lz259 lu260)) ?_
        refine t_keep [0, 1, 4, 5, 7, 8, 20, 25] (σ' := [(0, .slice a_l0 l0.length c_l0), (1, .int .i64 w1), (4, .pointer (some ⟨b245, 0, none⟩)), (5, .pointer (some ⟨b246, 0, none⟩)), (7, .pointer (some ⟨g274, 0, none⟩)), (8, .pointer (some ⟨g275, 0, none⟩)), (20, .pointer (some ⟨lb253, lo254 + (0 : Int).toNat * 4 + 0, none⟩)), (25, .pointer (some ⟨lb266, lo267 + (0 : Int).toNat * 4 + 0, none⟩))]) (by kernel_rfl) ?_
        refine t_end ?_
        exact ⟨hg_373 g275 g274, rfl⟩
      · show T _ _ _ _ _ _ _ _
        refine t_v (.ldn (vs := [.int .i64 x261, .int .i64 x262]) rfl rfl rfl (.sealed lS270 (subl_sub lv271 (by kernel_rfl)))) ?_
        refine t_keep [0, 1, 4, 5, 7, 8, 19, 26] (σ' := [(0, .slice a_l0 l0.length c_l0), (1, .int .i64 w1), (4, .pointer (some ⟨b245, 0, none⟩)), (5, .pointer (some ⟨b246, 0, none⟩)), (7, .pointer (some ⟨g274, 0, none⟩)), (8, .pointer (some ⟨g275, 0, none⟩)), (19, .slice a_l0 l0.length c_l0), (26, .agg #[.int .i64 x261, .int .i64 x262])]) (by kernel_rfl) ?_
        refine t_end ?_
        exact ⟨hg_3f1 g275 g274, rfl⟩
    have hg_273 : ∀ (g275 : Nat), G [true, true, false, false, true, true, true, false, false, true, false, false] [(0, .slice a_l0 l0.length c_l0), (1, .int .i64 w1), (4, .pointer (some ⟨b245, 0, none⟩)), (5, .pointer (some ⟨b246, 0, none⟩)), (8, .pointer (some ⟨g275, 0, none⟩)), (20, .pointer (some ⟨lb253, lo254 + (0 : Int).toNat * 4 + 0, none⟩)), (25, .pointer (some ⟨lb266, lo267 + (0 : Int).toNat * 4 + 0, none⟩))] ([⟨g275, [.int .i64 0, .int .i64 0], 2⟩, ⟨b246, [.int .i64 0, .int .i64 0], 2⟩, ⟨b245, [.int .i64 0, .int .i64 0], 2⟩] : List Own) := by
      intro g275
      exact hqf 2 [0, 1, 4, 5, 8, 21, 25] _ _ _ [(0, .slice a_l0 l0.length c_l0), (1, .int .i64 w1), (4, .pointer (some ⟨b245, 0, none⟩)), (5, .pointer (some ⟨b246, 0, none⟩)), (8, .pointer (some ⟨g275, 0, none⟩)), (21, .pointer (some ⟨lb253, lo254 + (0 : Int).toNat * 4 + 0, none⟩)), (25, .pointer (some ⟨lb266, lo267 + (0 : Int).toNat * 4 + 0, none⟩))] (by kernel_rfl) (by kernel_rfl) (hg_277 g275)
    have hg_2f1 : ∀ (g275 : Nat), G [true, false, false, false, true, true, true, true, false, true, false, false] [(0, .slice a_l0 l0.length c_l0), (1, .int .i64 w1), (4, .pointer (some ⟨b245, 0, none⟩)), (5, .pointer (some ⟨b246, 0, none⟩)), (8, .pointer (some ⟨g275, 0, none⟩)), (19, .slice a_l0 l0.length c_l0), (26, .agg #[.int .i64 x261, .int .i64 x262])] ([⟨g275, [.int .i64 0, .int .i64 0], 2⟩, ⟨b246, [.int .i64 0, .int .i64 0], 2⟩, ⟨b245, [.int .i64 0, .int .i64 0], 2⟩] : List Own) := by
      intro g275
      refine hstep [1, 8] _ _ _ (by kernel_rfl) (List.cons_ne_nil _ _) ⟨?_, ?_, trivial⟩
      · show T _ _ _ _ _ _ _ _
        refine t_v (.quiet rfl (ixs_sle rfl rfl la256 lz259 lu260)) ?_
        refine t_keep [0, 1, 4, 5, 8, 20, 26] (σ' := [(0, .slice a_l0 l0.length c_l0), (1, .int .i64 w1), (4, .pointer (some ⟨b245, 0, none⟩)), (5, .pointer (some ⟨b246, 0, none⟩)), (8, .pointer (some ⟨g275, 0, none⟩)), (20, .pointer (some ⟨lb253, lo254 + (0 : Int).toNat * 4 + 0, none⟩)), (26, .agg #[.int .i64 x261, .int .i64 x262])]) (by kernel_rfl) ?_
        refine t_end ?_
        exact ⟨hg_2f3 g275, rfl⟩
      · show T _ _ _ _ _ _ _ _
        refine t_a (.new rfl rfl) fun g274 fg274 sg274 => ?_
        refine t_keep [0, 1, 4, 5, 7, 8, 19, 26] (σ' := [(0, .slice a_l0 l0.length c_l0), (1, .int .i64 w1), (4, .pointer (some ⟨b245, 0, none⟩)), (5, .pointer (some ⟨b246, 0, none⟩)), (7, .pointer (some ⟨g274, 0, none⟩)), (8, .pointer (some ⟨g275, 0, none⟩)), (19, .slice a_l0 l0.length c_l0), (26, .agg #[.int .i64 x261, .int .i64 x262])]) (by kernel_rfl) ?_
        refine t_vs (H' := ([⟨g275, [.int .i64 0, .int .i64 0], 2⟩, ⟨g274, [.int .i64 0, .int .i64 0], 2⟩, ⟨b246, [.int .i64 0, .int .i64 0], 2⟩, ⟨b245, [.int .i64 0, .int .i64 0], 2⟩] : List Own)) (S' := S) (VS.sel [1, 0, 0, 0] (by kernel_rfl)) ?_
        refine t_end ?_
        exact ⟨hg_3f1 g275 g274, rfl⟩
    have hg_173 : ∀ (g274 : Nat), G [true, true, false, false, true, true, true, false, true, false, false, false] [(0, .slice a_l0 l0.length c_l0), (1, .int .i64 w1), (4, .pointer (some ⟨b245, 0, none⟩)), (5, .pointer (some ⟨b246, 0, none⟩)), (7, .pointer (some ⟨g274, 0, none⟩)), (20, .pointer (some ⟨lb253, lo254 + (0 : Int).toNat * 4 + 0, none⟩)), (25, .pointer (some ⟨lb266, lo267 + (0 : Int).toNat * 4 + 0, none⟩))] ([⟨g274, [.int .i64 0, .int .i64 0], 2⟩, ⟨b246, [.int .i64 0, .int .i64 0], 2⟩, ⟨b245, [.int .i64 0, .int .i64 0], 2⟩] : List Own) := by
      intro g274
      exact hqf 2 [0, 1, 4, 5, 7, 21, 25] _ _ _ [(0, .slice a_l0 l0.length c_l0), (1, .int .i64 w1), (4, .pointer (some ⟨b245, 0, none⟩)), (5, .pointer (some ⟨b246, 0, none⟩)), (7, .pointer (some ⟨g274, 0, none⟩)), (21, .pointer (some ⟨lb253, lo254 + (0 : Int).toNat * 4 + 0, none⟩)), (25, .pointer (some ⟨lb266, lo267 + (0 : Int).toNat * 4 + 0, none⟩))] (by kernel_rfl) (by kernel_rfl) (hg_177 g274)
    have hg_313 : ∀ (g275 : Nat) (g274 : Nat), G [true, true, false, false, true, false, false, false, true, true, false, false] [(0, .slice a_l0 l0.length c_l0), (1, .int .i64 w1), (4, .pointer (some ⟨b245, 0, none⟩)), (5, .pointer (some ⟨b246, 0, none⟩)), (7, .pointer (some ⟨g274, 0, none⟩)), (8, .pointer (some ⟨g275, 0, none⟩)), (20, .pointer (some ⟨lb253, lo254 + (0 : Int).toNat * 4 + 0, none⟩)), (23, .slice a_l0 l0.length c_l0)] ([⟨g275, [.int .i64 0, .int .i64 0], 2⟩, ⟨g274, [.int .i64 0, .int .i64 0], 2⟩, ⟨b246, [.int .i64 0, .int .i64 0], 2⟩, ⟨b245, [.int .i64 0, .int .i64 0], 2⟩] : List Own) := by
      intro g275 g274
      exact hqf 2 [0, 1, 4, 5, 7, 8, 21, 23] _ _ _ [(0, .slice a_l0 l0.length c_l0), (1, .int .i64 w1), (4, .pointer (some ⟨b245, 0, none⟩)), (5, .pointer (some ⟨b246, 0, none⟩)), (7, .pointer (some ⟨g274, 0, none⟩)), (8, .pointer (some ⟨g275, 0, none⟩)), (21, .pointer (some ⟨lb253, lo254 + (0 : Int).toNat * 4 + 0, none⟩)), (23, .slice a_l0 l0.length c_l0)] (by kernel_rfl) (by kernel_rfl) (hg_317 g275 g274)
    have hg_217 : ∀ (g275 : Nat), G [true, true, true, false, true, false, false, false, false, true, false, false] [(0, .slice a_l0 l0.length c_l0), (1, .int .i64 w1), (4, .pointer (some ⟨b245, 0, none⟩)), (5, .pointer (some ⟨b246, 0, none⟩)), (8, .pointer (some ⟨g275, 0, none⟩)), (21, .pointer (some ⟨lb253, lo254 + (0 : Int).toNat * 4 + 0, none⟩)), (23, .slice a_l0 l0.length c_l0)] ([⟨g275, [.int .i64 0, .int .i64 0], 2⟩, ⟨b246, [.int .i64 0, .int .i64 0], 2⟩, ⟨b245, [.int .i64 0, .int .i64 0], 2⟩] : List Own) := by
      intro g275
      refine hstep [3, 5, 8] _ _ _ (by kernel_rfl) (List.cons_ne_nil _ _) ⟨?_, ?_, ?_, trivial⟩
      · show T _ _ _ _ _ _ _ _
        refine t_v (.ldn (vs := [.int .i64 x248, .int .i64 x249]) rfl rfl rfl (.sealed lS257 (subl_sub lv258 (by kernel_rfl)))) ?_
        refine t_keep [0, 1, 4, 5, 8, 22, 23] (σ' := [(0, .slice a_l0 l0.length c_l0), (1, .int .i64 w1), (4, .pointer (some ⟨b245, 0, none⟩)), (5, .pointer (some ⟨b246, 0, none⟩)), (8, .pointer (some ⟨g275, 0, none⟩)), (22, .agg #[.int .i64 x248, .int .i64 x249]), (23, .slice a_l0 l0.length c_l0)]) (by kernel_rfl) ?_
        refine t_end ?_
        exact ⟨hg_21f g275, rfl⟩
      · show T _ _ _ _ _ _ _ _
        refine t_v (.quiet rfl (ixs_sle rfl rfl la269 lz272 lu273)) ?_
        refine t_keep [0, 1, 4, 5, 8, 21, 24] (σ' := [(0, .slice a_l0 l0.length c_l0), (1, .int .i64 w1), (4, .pointer (some ⟨b245, 0, none⟩)), (5, .pointer (some ⟨b246, 0, none⟩)), (8, .pointer (some ⟨g275, 0, none⟩)), (21, .pointer (some ⟨lb253, lo254 + (0 : Int).toNat * 4 + 0, none⟩)), (24, .pointer (some ⟨lb266, lo267 + (0 : Int).toNat * 4 + 0, none⟩))]) (by kernel_rfl) ?_
        refine t_end ?_
        exact ⟨hg_237 g275, rfl⟩
      · show T _ _ _ _ _ _ _ _
        refine t_a (.new rfl rfl) fun g274 fg274 sg274 => ?_
        refine t_keep [0, 1, 4, 5, 7, 8, 21, 23] (σ' := [(0, .slice a_l0 l0.length c_l0), (1, .int .i64 w1), (4, .pointer (some ⟨b245, 0, none⟩)), (5, .pointer (some ⟨b246, 0, none⟩)), (7, .pointer (some ⟨g274, 0, none⟩)), (8, .pointer (some ⟨g275, 0, none⟩)), (21, .pointer (some ⟨lb253, lo254 + (0 : Int).toNat * 4 + 0, none⟩)), (23, .slice a_l0 l0.length c_l0)]) (by kernel_rfl) ?_
        refine t_vs (H' := ([⟨g275, [.int .i64 0, .int .i64 0], 2⟩, ⟨g274, [.int .i64 0, .int .i64 0], 2⟩, ⟨b246, [.int .i64 0, .int .i64 0], 2⟩, ⟨b245, [.int .i64 0, .int .i64 0], 2⟩] : List Own)) (S' := S) (VS.sel [1, 0, 0, 0] (by kernel_rfl)) ?_
        refine t_end ?_
        exact ⟨hg_317 g275 g274, rfl⟩
    have hg_117 : ∀ (g274 : Nat), G [true, true, true, false, true, false, false, false, true, false, false, false] [(0, .slice a_l0 l0.length c_l0), (1, .int .i64 w1), (4, .pointer (some ⟨b245, 0, none⟩)), (5, .pointer (some ⟨b246, 0, none⟩)), (7, .pointer (some ⟨g274, 0, none⟩)), (21, .pointer (some ⟨lb253, lo254 + (0 : Int).toNat * 4 + 0, none⟩)), (23, .slice a_l0 l0.length c_l0)] ([⟨g274, [.int .i64 0, .int .i64 0], 2⟩, ⟨b246, [.int .i64 0, .int .i64 0], 2⟩, ⟨b245, [.int .i64 0, .int .i64 0], 2⟩] : List Own) := by
      intro g274
      refine hstep [3, 5, 9] _ _ _ (by kernel_rfl) (List.cons_ne_nil _ _) ⟨?_, ?_, ?_, trivial⟩
      · show T _ _ _ _ _ _ _ _
        refine t_v (.ldn (vs := [.int .i64 x248, .int .i64 x249]) rfl rfl rfl (.sealed lS257 (subl_sub lv258 (by kernel_rfl)))) ?_
        refine t_keep [0, 1, 4, 5, 7, 22, 23] (σ' := [(0, .slice a_l0 l0.length c_l0), (1, .int .i64 w1), (4, .pointer (some ⟨b245, 0, none⟩)), (5, .pointer (some ⟨b246, 0, none⟩)), (7, .pointer (some ⟨g274, 0, none⟩)), (22, .agg #[.int .i64 x248, .int .i64 x249]), (23, .slice a_l0 l0.length c_l0)]) (by kernel_rfl) ?_
        refine t_end ?_
        exact ⟨hg_11f g274, rfl⟩
      · show T _ _ _ _ _ _ _ _
        refine t_v (.quiet rfl (ixs_sle rfl rfl la269 lz272 lu273)) ?_
        refine t_keep [0, 1, 4, 5, 7, 21, 24] (σ' := [(0, .slice a_l0 l0.length c_l0), (1, .int .i64 w1), (4, .pointer (some ⟨b245, 0, none⟩)), (5, .pointer (some ⟨b246, 0, none⟩)), (7, .pointer (some ⟨g274, 0, none⟩)), (21, .pointer (some ⟨lb253, lo254 + (0 : Int).toNat * 4 + 0, none⟩)), (24, .pointer (some ⟨lb266, lo267 + (0 : Int).toNat * 4 + 0, none⟩))]) (by kernel_rfl) ?_
        refine t_end ?_
        exact ⟨hg_137 g274, rfl⟩
      · show T _ _ _ _ _ _ _ _
        refine t_a (.new rfl rfl) fun g275 fg275 sg275 => ?_
        refine t_keep [0, 1, 4, 5, 7, 8, 21, 23] (σ' := [(0, .slice a_l0 l0.length c_l0), (1, .int .i64 w1), (4, .pointer (some ⟨b245, 0, none⟩)), (5, .pointer (some ⟨b246, 0, none⟩)), (7, .pointer (some ⟨g274, 0, none⟩)), (8, .pointer (some ⟨g275, 0, none⟩)), (21, .pointer (some ⟨lb253, lo254 + (0 : Int).toNat * 4 + 0, none⟩)), (23, .slice a_l0 l0.length c_l0)]) (by kernel_rfl) ?_
        refine t_end ?_
        exact ⟨hg_317 g275 g274, rfl⟩
    have hg_1f : G [true, true, true, true, true, false, false, false, false, false, false, false] [(0, .slice a_l0 l0.length c_l0), (1, .int .i64 w1), (4, .pointer (some ⟨b245, 0, none⟩)), (5, .pointer (some ⟨b246, 0, none⟩)), (22, .agg #[.int .i64 x248, .int .i64 x249]), (23, .slice a_l0 l0.length c_l0)] ([⟨b246, [.int .i64 0, .int .i64 0], 2⟩, ⟨b245, [.int .i64 0, .int .i64 0], 2⟩] : List Own) := by
      refine hstep [5, 8, 9] _ _ _ (by kernel_rfl) (List.cons_ne_nil _ _) ⟨?_, ?_, ?_, trivial⟩
      · show T _ _ _ _ _ _ _ _
        refine t_v (.quiet rfl (ixs_sle rfl rfl la269 lz272 lu273)) ?_
        refine t_keep [0, 1, 4, 5, 22, 24] (σ' := [(0, .slice a_l0 l0.length c_l0), (1, .int .i64 w1), (4, .pointer (some ⟨b245, 0, none⟩)), (5, .pointer (some ⟨b246, 0, none⟩)), (22, .agg #[.int .i64 x248, .int .i64 x249]), (24, .pointer (some ⟨lb266, lo267 + (0 : Int).toNat * 4 + 0, none⟩))]) (by kernel_rfl) ?_
        refine t_end ?_
        exact ⟨hg_3f, rfl⟩
      · show T _ _ _ _ _ _ _ _
        refine t_a (.new rfl rfl) fun g274 fg274 sg274 => ?_
        refine t_keep [0, 1, 4, 5, 7, 22, 23] (σ' := [(0, .slice a_l0 l0.length c_l0), (1, .int .i64 w1), (4, .pointer (some ⟨b245, 0, none⟩)), (5, .pointer (some ⟨b246, 0, none⟩)), (7, .pointer (some ⟨g274, 0, none⟩)), (22, .agg #[.int .i64 x248, .int .i64 x249]), (23, .slice a_l0 l0.length c_l0)]) (by kernel_rfl) ?_
        refine t_end ?_
        exact ⟨hg_11f g274, rfl⟩
      · show T _ _ _ _ _ _ _ _
        refine t_a (.new rfl rfl) fun g275 fg275 sg275 => ?_
        refine t_keep [0, 1, 4, 5, 8, 22, 23] (σ' := [(0, .slice a_l0 l0.length c_l0), (1, .int .i64 w1), (4, .pointer (some ⟨b245, 0, none⟩)), (5, .pointer (some ⟨b246, 0, none⟩)), (8, .pointer (some ⟨g275, 0, none⟩)), (22, .agg #[.int .i64 x248, .int .i64 x249]), (23, .slice a_l0 l0.length c_l0)]) (by kernel_rfl) ?_
        refine t_end ?_
        exact ⟨hg_21f g275, rfl⟩
    have hg_331 : ∀ (g275 : Nat) (g274 : Nat), G [true, false, false, false, true, true, false, false, true, true, false, false] [(0, .slice a_l0 l0.length c_l0), (1, .int .i64 w1), (4, .pointer (some ⟨b245, 0, none⟩)), (5, .pointer (some ⟨b246, 0, none⟩)), (7, .pointer (some ⟨g274, 0, none⟩)), (8, .pointer (some ⟨g275, 0, none⟩)), (19, .slice a_l0 l0.length c_l0), (24, .pointer (some ⟨lb266, lo267 + (0 : Int).toNat * 4 + 0, none⟩))] ([⟨g275, [.int .i64 0, .int .i64 0], 2⟩, ⟨g274, [.int .i64 0, .int .i64 0], 2⟩, ⟨b246, [.int .i64 0, .int .i64 0], 2⟩, ⟨b245, [.int .i64 0, .int .i64 0], 2⟩] : List Own) := by
      intro g275 g274
      exact hqf 6 [0, 1, 4, 5, 7, 8, 19, 25] _ _ _ [(0, .slice a_l0 l0.length c_l0), (1, .int .i64 w1), (4, .pointer (some ⟨b245, 0, none⟩)), (5, .pointer (some ⟨b246, 0, none⟩)), (7, .pointer (some ⟨g274, 0, none⟩)), (8, .pointer (some ⟨g275, 0, none⟩)), (19, .slice a_l0 l0.length c_l0), (25, .pointer (some ⟨lb266, lo267 + (0 : Int).toNat * 4 + 0, none⟩))] (by kernel_rfl) (by kernel_rfl) (hg_371 g275 g274)
    have hg_f1 : G [true, false, false, false, true, true, true, true, false, false, false, false] [(0, .slice a_l0 l0.length c_l0), (1, .int .i64 w1), (4, .pointer (some ⟨b245, 0, none⟩)), (5, .pointer (some ⟨b246, 0, none⟩)), (19, .slice a_l0 l0.length c_l0), (26, .agg #[.int .i64 x261, .int .i64 x262])] ([⟨b246, [.int .i64 0, .int .i64 0], 2⟩, ⟨b245, [.int .i64 0, .int .i64 0], 2⟩] : List Own) := by
      refine hstep [1, 8, 9] _ _ _ (by kernel_rfl) (List.cons_ne_nil _ _) ⟨?_, ?_, ?_, trivial⟩
      · show T _ _ _ _ _ _ _ _
        refine t_v (.quiet rfl (ixs_sle rfl rfl la256 lz259 lu260)) ?_
        refine t_keep [0, 1, 4, 5, 20, 26] (σ' := [(0, .slice a_l0 l0.length c_l0), (1, .int .i64 w1), (4, .pointer (some ⟨b245, 0, none⟩)), (5, .pointer (some ⟨b246, 0, none⟩)), (20, .pointer (some ⟨lb253, lo254 + (0 : Int).toNat * 4 + 0, none⟩)), (26, .agg #[.int .i64 x261, .int .i64 x262])]) (by kernel_rfl) ?_
        refine t_end ?_
        exact ⟨hg_f3, rfl⟩
      · show T _ _ _ _ _ _ _ _
        refine t_a (.new rfl rfl) fun g274 fg274 sg274 => ?_
        refine t_keep [0, 1, 4, 5, 7, 19, 26] (σ' := [(0, .slice a_l0 l0.length c_l0), (1, .int .i64 w1), (4, .pointer (some ⟨b245, 0, none⟩)), (5, .pointer (some ⟨b246, 0, none⟩)), (7, .pointer (some ⟨g274, 0, none⟩)), (19, .slice a_l0 l0.length c_l0), (26, .agg #[.int .i64 x261, .int .i64 x262])]) (by kernel_rfl) ?_
        refine t_end ?_
        exact ⟨hg_1f1 g274, rfl⟩
      · show T _ _ _ _ _ _ _ _
        refine t_a (.new rfl rfl) fun g275 fg275 sg275 => ?_
        refine t_keep [0, 1, 4, 5, 8, 19, 26] (σ' := [(0, .slice a_l0 l0.length c_l0), (1, .int .i64 w1), (4, .pointer (some ⟨b245, 0, none⟩)), (5, .pointer (some ⟨b246, 0, none⟩)), (8, .pointer (some ⟨g275, 0, none⟩)), (19, .slice a_l0 l0.length c_l0), (26, .agg #[.int .i64 x261, .int .i64 x262])]) (by kernel_rfl) ?_
        refine t_end ?_
        exact ⟨hg_2f1 g275, rfl⟩
    have hg_37 : G [true, true, true, false, true, true, false, false, false, false, false, false] [(0, .slice a_l0 l0.length c_l0), (1, .int .i64 w1), (4, .pointer (some ⟨b245, 0, none⟩)), (5, .pointer (some ⟨b246, 0, none⟩)), (21, .pointer (some ⟨lb253, lo254 + (0 : Int).toNat * 4 + 0, none⟩)), (24, .pointer (some ⟨lb266, lo267 + (0 : Int).toNat * 4 + 0, none⟩))] ([⟨b246, [.int .i64 0, .int .i64 0], 2⟩, ⟨b245, [.int .i64 0, .int .i64 0], 2⟩] : List Own) := by
      exact hqf 6 [0, 1, 4, 5, 21, 25] _ _ _ [(0, .slice a_l0 l0.length c_l0), (1, .int .i64 w1), (4, .pointer (some ⟨b245, 0, none⟩)), (5, .pointer (some ⟨b246, 0, none⟩)), (21, .pointer (some ⟨lb253, lo254 + (0 : Int).toNat * 4 + 0, none⟩)), (25, .pointer (some ⟨lb266, lo267 + (0 : Int).toNat * 4 + 0, none⟩))] (by kernel_rfl) (by kernel_rfl) hg_77
    have hg_73 : G [true, true, false, false, true, true, true, false, false, false, false, false] [(0, .slice a_l0 l0.length c_l0), (1, .int .i64 w1), (4, .pointer (some ⟨b245, 0, none⟩)), (5, .pointer (some ⟨b246, 0, none⟩)), (20, .pointer (some ⟨lb253, lo254 + (0 : Int).toNat * 4 + 0, none⟩)), (25, .pointer (some ⟨lb266, lo267 + (0 : Int).toNat * 4 + 0, none⟩))] ([⟨b246, [.int .i64 0, .int .i64 0], 2⟩, ⟨b245, [.int .i64 0, .int .i64 0], 2⟩] : List Own) := by
      exact hqf 2 [0, 1, 4, 5, 21, 25] _ _ _ [(0, .slice a_l0 l0.length c_l0), (1, .int .i64 w1), (4, .pointer (some ⟨b245, 0, none⟩)), (5, .pointer (some ⟨b246, 0, none⟩)), (21, .pointer (some ⟨lb253, lo254 + (0 : Int).toNat * 4 + 0, none⟩)), (25, .pointer (some ⟨lb266, lo267 + (0 : Int).toNat * 4 + 0, none⟩))] (by kernel_rfl) (by kernel_rfl) hg_77
    have hg_271 : ∀ (g275 : Nat), G [true, false, false, false, true, true, true, false, false, true, false, false] [(0, .slice a_l0 l0.length c_l0), (1, .int .i64 w1), (4, .pointer (some ⟨b245, 0, none⟩)), (5, .pointer (some ⟨b246, 0, none⟩)), (8, .pointer (some ⟨g275, 0, none⟩)), (19, .slice a_l0 l0.length c_l0), (25, .pointer (some ⟨lb266, lo267 + (0 : Int).toNat * 4 + 0, none⟩))] ([⟨g275, [.int .i64 0, .int .i64 0], 2⟩, ⟨b246, [.int .i64 0, .int .i64 0], 2⟩, ⟨b245, [.int .i64 0, .int .i64 0], 2⟩] : List Own) := by
      intro g275
      refine hstep [1, 7, 8] _ _ _ (by kernel_rfl) (List.cons_ne_nil _ _) ⟨?_, ?_, ?_, trivial⟩
      · show T _ _ _ _ _ _ _ _
        refine t_v (.quiet rfl (ixs_sle rfl rfl la256 lz259 lu260)) ?_
        refine t_keep [0, 1, 4, 5, 8, 20, 25] (σ' := [(0, .slice a_l0 l0.length c_l0), (1, .int .i64 w1), (4, .pointer (some ⟨b245, 0, none⟩)), (5, .pointer (some ⟨b246, 0, none⟩)), (8, .pointer (some ⟨g275, 0, none⟩)), (20, .pointer (some ⟨lb253, lo254 + (0 : Int).toNat * 4 + 0, none⟩)), (25, .pointer (some ⟨lb266, lo267 + (0 : Int).toNat * 4 + 0, none⟩))]) (by kernel_rfl) ?_
        refine t_end ?_
        exact ⟨hg_273 g275, rfl⟩
      · show T _ _ _ _ _ _ _ _
        refine t_v (.ldn (vs := [.int .i64 x261, .int .i64 x262]) rfl rfl rfl (.sealed lS270 (subl_sub lv271 (by kernel_rfl)))) ?_
        refine t_keep [0, 1, 4, 5, 8, 19, 26] (σ' := [(0, .slice a_l0 l0.length c_l0), (1, .int .i64 w1), (4, .pointer (some ⟨b245, 0, none⟩)), (5, .pointer (some ⟨b246, 0, none⟩)), (8, .pointer (some ⟨g275, 0, none⟩)), (19, .slice a_l0 l0.length c_l0), (26, .agg #[.int .i64 x261, .int .i64 x262])]) (by kernel_rfl) ?_
        refine t_end ?_
        exact ⟨hg_2f1 g275, rfl⟩
      · show T _ _ _ _ _ _ _ _
        refine t_a (.new rfl rfl) fun g274 fg274 sg274 => ?_
        refine t_keep [0, 1, 4, 5, 7, 8, 19, 25] (σ' := [(0, .slice a_l0 l0.length c_l0), (1, .int .i64 w1), (4, .pointer (some ⟨b245, 0, none⟩)), (5, .pointer (some ⟨b246, 0, none⟩)), (7, .pointer (some ⟨g274, 0, none⟩)), (8, .pointer (some ⟨g275, 0, none⟩)), (19, .slice a_l0 l0.length c_l0), (25, .pointer (some ⟨lb266, lo267 + (0 : Int).toNat * 4 + 0, none⟩))]) (by kernel_rfl) ?_
        refine t_vs (H' := ([⟨g275, [.int .i64 0, .int .i64 0], 2⟩, ⟨g274, [.int .i64 0, .int .i64 0], 2⟩, ⟨b246, [.int .i64 0, .int .i64 0], 2⟩, ⟨b245, [.int .i64 0, .int .i64 0], 2⟩] : List Own)) (S' := S) (VS.sel [1, 0, 0, 0] (by kernel_rfl)) ?_
        refine t_end ?_
        exact ⟨hg_371 g275 g274, rfl⟩
    have hg_171 : ∀ (g274 : Nat), G [true, false, false, false, true, true, true, false, true, false, false, false] [(0, .slice a_l0 l0.length c_l0), (1, .int .i64 w1), (4, .pointer (some ⟨b245, 0, none⟩)), (5, .pointer (some ⟨b246, 0, none⟩)), (7, .pointer (some ⟨g274, 0, none⟩)), (19, .slice a_l0 l0.length c_l0), (25, .pointer (some ⟨lb266, lo267 + (0 : Int).toNat * 4 + 0, none⟩))] ([⟨g274, [.int .i64 0, .int .i64 0], 2⟩, ⟨b246, [.int .i64 0, .int .i64 0], 2⟩, ⟨b245, [.int .i64 0, .int .i64 0], 2⟩] : List Own) := by
      intro g274
      refine hstep [1, 7, 9] _ _ _ (by kernel_rfl) (List.cons_ne_nil _ _) ⟨?_, ?_, ?_, trivial⟩
      · show T _ _ _ _ _ _ _ _
        refine t_v (.quiet rfl (ixs_sle rfl rfl la256 lz259 lu260)) ?_
        refine t_keep [0, 1, 4, 5, 7, 20, 25] (σ' := [(0, .slice a_l0 l0.length c_l0), (1, .int .i64 w1), (4, .pointer (some ⟨b245, 0, none⟩)), (5, .pointer (some ⟨b246, 0, none⟩)), (7, .pointer (some ⟨g274, 0, none⟩)), (20, .pointer (some ⟨lb253, lo254 + (0 : Int).toNat * 4 + 0, none⟩)), (25, .pointer (some ⟨lb266, lo267 + (0 : Int).toNat * 4 + 0, none⟩))]) (by kernel_rfl) ?_
        refine t_end ?_
        exact ⟨hg_173 g274, rfl⟩
      · show T _ _ _ _ _ _ _ _
        refine t_v (.ldn (vs := [.int .i64 x261, .int .i64 x262]) rfl rfl rfl (.sealed lS270 (subl_sub lv271 (by kernel_rfl)))) ?_
        refine t_keep [0, 1, 4, 5, 7, 19, 26] (σ' := [(0, .slice a_l0 l0.length c_l0), (1, .int .i64 w1), (4, .pointer (some ⟨b245, 0, none⟩)), (5, .pointer (some ⟨b246, 0, none⟩)), (7, .pointer (some ⟨g274, 0, none⟩)), (19, .slice a_l0 l0.length c_l0), (26, .agg #[.int .i64 x261, .int .i64 x262])]) (by kernel_rfl) ?_
        refine t_end ?_
        exact ⟨hg_1f1 g274, rfl⟩
      · show T _ _ _ _ _ _ _ _
        refine t_a (.new rfl rfl) fun g275 fg275 sg275 => ?_
        refine t_keep [0, 1, 4, 5, 7, 8, 19, 25] (σ' := [(0, .slice a_l0 l0.length c_l0), (1, .int .i64 w1), (4, .pointer (some ⟨b245, 0, none⟩)), (5, .pointer (some ⟨b246, 0, none⟩)), (7, .pointer (some ⟨g274, 0, none⟩)), (8, .pointer (some ⟨g275, 0, none⟩)), (19, .slice a_l0 l0.length c_l0), (25, .pointer (some ⟨lb266, lo267 + (0 : Int).toNat * 4 + 0, none⟩))]) (by kernel_rfl) ?_
        refine t_end ?_
        exact ⟨hg_371 g275 g274, rfl⟩
    have hg_213 : ∀ (g275 : Nat), G [true, true, false, false, true, false, false, false, false, true, false, false] [(0, .slice a_l0 l0.length c_l0), (1, .int .i64 w1), (4, .pointer (some ⟨b245, 0, none⟩)), (5, .pointer (some ⟨b246, 0, none⟩)), (8, .pointer (some ⟨g275, 0, none⟩)), (20, .pointer (some ⟨lb253, lo254 + (0 : Int).toNat * 4 + 0, none⟩)), (23, .slice a_l0 l0.length c_l0)] ([⟨g275, [.int .i64 0, .int .i64 0], 2⟩, ⟨b246, [.int .i64 0, .int .i64 0], 2⟩, ⟨b245, [.int .i64 0, .int .i64 0], 2⟩] : List Own) := by
      intro g275
      exact hqf 2 [0, 1, 4, 5, 8, 21, 23] _ _ _ [(0, .slice a_l0 l0.length c_l0), (1, .int .i64 w1), (4, .pointer (some ⟨b245, 0, none⟩)), (5, .pointer (some ⟨b246, 0, none⟩)), (8, .pointer (some ⟨g275, 0, none⟩)), (21, .pointer (some ⟨lb253, lo254 + (0 : Int).toNat * 4 + 0, none⟩)), (23, .slice a_l0 l0.length c_l0)] (by kernel_rfl) (by kernel_rfl) (hg_217 g275)
    have hg_311 : ∀ (g275 : Nat) (g274 : Nat), G [true, false, false, false, true, false, false, false, true, true, false, false] [(0, .slice a_l0 l0.length c_l0), (1, .int .i64 w1), (4, .pointer (some ⟨b245, 0, none⟩)), (5, .pointer (some ⟨b246, 0, none⟩)), (7, .pointer (some ⟨g274, 0, none⟩)), (8, .pointer (some ⟨g275, 0, none⟩)), (19, .slice a_l0 l0.length c_l0), (23, .slice a_l0 l0.length c_l0)] ([⟨g275, [.int .i64 0, .int .i64 0], 2⟩, ⟨g274, [.int .i64 0, .int .i64 0], 2⟩, ⟨b246, [.int .i64 0, .int .i64 0], 2⟩, ⟨b245, [.int .i64 0, .int .i64 0], 2⟩] : List Own) := by
      intro g275 g274
      refine hstep [1, 5] _ _ _ (by kernel_rfl) (List.cons_ne_nil _ _) ⟨?_, ?_, trivial⟩
      · show T _ _ _ _ _ _ _ _
        refine t_v (.quiet rfl (ixs_sle rfl rfl la256 lz259 lu260)) ?_
        refine t_keep [0, 1, 4, 5, 7, 8, 20, 23] (σ' := [(0, .slice a_l0 l0.length c_l0), (1, .int .i64 w1), (4, .pointer (some ⟨b245, 0, none⟩)), (5, .pointer (some ⟨b246, 0, none⟩)), (7, .pointer (some ⟨g274, 0, none⟩)), (8, .pointer (some ⟨g275, 0, none⟩)), (20, .pointer (some ⟨lb253, lo254 + (0 : Int).toNat * 4 + 0, none⟩)), (23, .slice a_l0 l0.length c_l0)]) (by kernel_rfl) ?_
        refine t_end ?_
        exact ⟨hg_313 g275 g274, rfl⟩
      · show T _ _ _ _ _ _ _ _
        refine t_v (.quiet rfl (ixs_sle rfl rfl la269 lz272 lu273)) ?_
        refine t_keep [0, 1, 4, 5, 7, 8, 19, 24] (σ' := [(0, .slice a_l0 l0.length c_l0), (1, .int .i64 w1), (4, .pointer (some ⟨b245, 0, none⟩)), (5, .pointer (some ⟨b246, 0, none⟩)), (7, .pointer (some ⟨g274, 0, none⟩)), (8, .pointer (some ⟨g275, 0, none⟩)), (19, .slice a_l0 l0.length c_l0), (24, .pointer (some ⟨lb266, lo267 + (0 : Int).toNat * 4 + 0, none⟩))]) (by kernel_rfl) ?_
        refine t_end ?_
        exact ⟨hg_331 g275 g274, rfl⟩
    have hg_113 : ∀ (g274 : Nat), G [true, true, false, false, true, false, false, false, true, false, false, false] [(0, .slice a_l0 l0.length c_l0), (1, .int .i64 w1), (4, .pointer (some ⟨b245, 0, none⟩)), (5, .pointer (some ⟨b246, 0, none⟩)), (7, .pointer (some ⟨g274, 0, none⟩)), (20, .pointer (some ⟨lb253, lo254 + (0 : Int).toNat * 4 + 0, none⟩)), (23, .slice a_l0 l0.length c_l0)] ([⟨g274, [.int .i64 0, .int .i64 0], 2⟩, ⟨b246, [.int .i64 0, .int .i64 0], 2⟩, ⟨b245, [.int .i64 0, .int .i64 0], 2⟩] : List Own) := by
      intro g274
      exact hqf 2 [0, 1, 4, 5, 7, 21, 23] _ _ _ [(0, .slice a_l0 l0.length c_l0), (1, .int .i64 w1), (4, .pointer (some ⟨b245, 0, none⟩)), (5, .pointer (some ⟨b246, 0, none⟩)), (7, .pointer (some ⟨g274, 0, none⟩)), (21, .pointer (some ⟨lb253, lo254 + (0 : Int).toNat * 4 + 0, none⟩)), (23, .slice a_l0 l0.length c_l0)] (by kernel_rfl) (by kernel_rfl) (hg_117 g274)
    have hg_17 : G [true, true, true, false, true, false, false, false, false, false, false, false] [(0, .slice a_l0 l0.length c_l0), (1, .int .i64 w1), (4, .pointer (some ⟨b245, 0, none⟩)), (5, .pointer (some ⟨b246, 0, none⟩)), (21, .pointer (some ⟨lb253, lo254 + (0 : Int).toNat * 4 + 0, none⟩)), (23, .slice a_l0 l0.length c_l0)] ([⟨b246, [.int .i64 0, .int .i64 0], 2⟩, ⟨b245, [.int .i64 0, .int .i64 0], 2⟩] : List Own) := by
      refine hstep [3, 5, 8, 9] _ _ _ (by kernel_rfl) (List.cons_ne_nil _ _) ⟨?_, ?_, ?_, ?_, trivial⟩
      · show T _ _ _ _ _ _ _ _
        refine t_v (.ldn (vs := [.int .i64 x248, .int .i64 x249]) rfl rfl rfl (.sealed lS257 (subl_sub lv258 (by kernel_rfl)))) ?_
        refine t_keep [0, 1, 4, 5, 22, 23] (σ' := [(0, .slice a_l0 l0.length c_l0), (1, .int .i64 w1), (4, .pointer (some ⟨b245, 0, none⟩)), (5, .pointer (some ⟨b246, 0, none⟩)), (22, .agg #[.int .i64 x248, .int .i64 x249]), (23, .slice a_l0 l0.length c_l0)]) (by kernel_rfl) ?_
        refine t_end ?_
        exact ⟨hg_1f, rfl⟩
      · show T _ _ _ _ _ _ _ _
        refine t_v (.quiet rfl (ixs_sle rfl rfl la269 lz272 lu273)) ?_
        refine t_keep [0, 1, 4, 5, 21, 24] (σ' := [(0, .slice a_l0 l0.length c_l0), (1, .int .i64 w1), (4, .pointer (some ⟨b245, 0, none⟩)), (5, .pointer (some ⟨b246, 0, none⟩)), (21, .pointer (some ⟨lb253, lo254 + (0 : Int).toNat * 4 + 0, none⟩)), (24, .pointer (some ⟨lb266, lo267 + (0 : Int).toNat * 4 + 0, none⟩))]) (by kernel_rfl) ?_
        refine t_end ?_
        exact ⟨hg_37, rfl⟩
      · show T _ _ _ _ _ _ _ _
        refine t_a (.new rfl rfl) fun g274 fg274 sg274 => ?_
        refine t_keep [0, 1, 4, 5, 7, 21, 23] (σ' := [(0, .slice a_l0 l0.length c_l0), (1, .int .i64 w1), (4, .pointer (some ⟨b245, 0, none⟩)), (5, .pointer (some ⟨b246, 0, none⟩)), (7, .pointer (some ⟨g274, 0, none⟩)), (21, .pointer (some ⟨lb253, lo254 + (0 : Int).toNat * 4 + 0, none⟩)), (23, .slice a_l0 l0.length c_l0)]) (by kernel_rfl) ?_
        refine t_end ?_
        exact ⟨hg_117 g274, rfl⟩
      · show T _ _ _ _ _ _ _ _
        refine t_a (.new rfl rfl) fun g275 fg275 sg275 => ?_
        refine t_keep [0, 1, 4, 5, 8, 21, 23] (σ' := [(0, .slice a_l0 l0.length c_l0), (1, .int .i64 w1), (4, .pointer (some ⟨b245, 0, none⟩)), (5, .pointer (some ⟨b246, 0, none⟩)), (8, .pointer (some ⟨g275, 0, none⟩)), (21, .pointer (some ⟨lb253, lo254 + (0 : Int).toNat * 4 + 0, none⟩)), (23, .slice a_l0 l0.length c_l0)]) (by kernel_rfl) ?_
        refine t_end ?_
        exact ⟨hg_217 g275, rfl⟩
    have hg_231 : ∀ (g275 : Nat), G [true, false, false, false, true, true, false, false, false, true, false, false] [(0, .slice a_l0 l0.length c_l0), (1, .int .i64 w1), (4, .pointer (some ⟨b245, 0, none⟩)), (5, .pointer (some ⟨b246, 0, none⟩)), (8, .pointer (some ⟨g275, 0, none⟩)), (19, .slice a_l0 l0.length c_l0), (24, .pointer (some ⟨lb266, lo267 + (0 : Int).toNat * 4 + 0, none⟩))] ([⟨g275, [.int .i64 0, .int .i64 0], 2⟩, ⟨b246, [.int .i64 0, .int .i64 0], 2⟩, ⟨b245, [.int .i64 0, .int .i64 0], 2⟩] : List Own) := by
      intro g275
      exact hqf 6 [0, 1, 4, 5, 8, 19, 25] _ _ _ [(0, .slice a_l0 l0.length c_l0), (1, .int .i64 w1), (4, .pointer (some ⟨b245, 0, none⟩)), (5, .pointer (some ⟨b246, 0, none⟩)), (8, .pointer (some ⟨g275, 0, none⟩)), (19, .slice a_l0 l0.length c_l0), (25, .pointer (some ⟨lb266, lo267 + (0 : Int).toNat * 4 + 0, none⟩))] (by kernel_rfl) (by kernel_rfl) (hg_271 g275)
    have hg_131 : ∀ (g274 : Nat), G [true, false, false, false, true, true, false, false, true, false, false, false] [(0, .slice a_l0 l0.length c_l0), (1, .int .i64 w1), (4, .pointer (some ⟨b245, 0, none⟩)), (5, .pointer (some ⟨b246, 0, none⟩)), (7, .pointer (some ⟨g274, 0, none⟩)), (19, .slice a_l0 l0.length c_l0), (24, .pointer (some ⟨lb266, lo267 + (0 : Int).toNat * 4 + 0, none⟩))] ([⟨g274, [.int .i64 0, .int .i64 0], 2⟩, ⟨b246, [.int .i64 0, .int .i64 0], 2⟩, ⟨b245, [.int .i64 0, .int .i64 0], 2⟩] : List Own) := by
      intro g274
      exact hqf 6 [0, 1, 4, 5, 7, 19, 25] _ _ _ [(0, .slice a_l0 l0.length c_l0), (1, .int .i64 w1), (4, .pointer (some ⟨b245, 0, none⟩)), (5, .pointer (some ⟨b246, 0, none⟩)), (7, .pointer (some ⟨g274, 0, none⟩)), (19, .slice a_l0 l0.length c_l0), (25, .pointer (some ⟨lb266, lo267 + (0 : Int).toNat * 4 + 0, none⟩))] (by kernel_rfl) (by kernel_rfl) (hg_171 g274)
    have hg_71 : G [true, false, false, false, true, true, true, false, false, false, false, false] [(0, .slice a_l0 l0.length c_l0), (1, .int .i64 w1), (4, .pointer (some ⟨b245, 0, none⟩)), (5, .pointer (some ⟨b246, 0, none⟩)), (19, .slice a_l0 l0.length c_l0), (25, .pointer (some ⟨lb266, lo267 + (0 : Int).toNat * 4 + 0, none⟩))] ([⟨b246, [.int .i64 0, .int .i64 0], 2⟩, ⟨b245, [.int .i64 0, .int .i64 0], 2⟩] : List Own) := by
      refine hstep [1, 7, 8, 9] _ _ _ (by kernel_rfl) (List.cons_ne_nil _ _) ⟨?_, ?_, ?_, ?_, trivial⟩
      · show T _ _ _ _ _ _ _ _
        refine t_v (.quiet rfl (ixs_sle rfl rfl la256 lz259 lu260)) ?_
        refine t_keep [0, 1, 4, 5, 20, 25] (σ' := [(0, .slice a_l0 l0.length c_l0), (1, .int .i64 w1), (4, .pointer (some ⟨b245, 0, none⟩)), (5, .pointer (some ⟨b246, 0, none⟩)), (20, .pointer (some ⟨lb253, lo254 + (0 : Int).toNat * 4 + 0, none⟩)), (25, .pointer (some ⟨lb266, lo267 + (0 : Int).toNat * 4 + 0, none⟩))]) (by kernel_rfl) ?_
        refine t_end ?_
        exact ⟨hg_73, rfl⟩
      · show T _ _ _ _ _ _ _ _
        refine t_v (.ldn (vs := [.int .i64 x261, .int .i64 x262]) rfl rfl rfl (.sealed lS270 (subl_sub lv271 (by kernel_rfl)))) ?_
        refine t_keep [0, 1, 4, 5, 19, 26] (σ' := [(0, .slice a_l0 l0.length c_l0), (1, .int .i64 w1), (4, .pointer (some ⟨b245, 0, none⟩)), (5, .pointer (some ⟨b246, 0, none⟩)), (19, .slice a_l0 l0.length c_l0), (26, .agg #[.int .i64 x261, .int .i64 x262])]) (by kernel_rfl) ?_
        refine t_end ?_
        exact ⟨hg_f1, rfl⟩
      · show T _ _ _ _ _ _ _ _
        refine t_a (.new rfl rfl) fun g274 fg274 sg274 => ?_
        refine t_keep [0, 1, 4, 5, 7, 19, 25] (σ' := [(0, .slice a_l0 l0.length c_l0), (1, .int .i64 w1), (4, .pointer (some ⟨b245, 0, none⟩)), (5, .pointer (some ⟨b246, 0, none⟩)), (7, .pointer (some ⟨g274, 0, none⟩)), (19, .slice a_l0 l0.length c_l0), (25, .pointer (some ⟨lb266, lo267 + (0 : Int).toNat * 4 + 0, none⟩))]) (by kernel_rfl) ?_
        refine t_end ?_
        exact ⟨hg_171 g274, rfl⟩
      · show T _ _ _ _ _ _ _ _
        refine t_a (.new rfl rfl) fun g275 fg275 sg275 => ?_
        refine t_keep [0, 1, 4, 5, 8, 19, 25] (σ' := [(0, .slice a_l0 l0.length c_l0), (1, .int .i64 w1), (4, .pointer (some ⟨b245, 0, none⟩)), (5, .pointer (some ⟨b246, 0, none⟩)), (8, .pointer (some ⟨g275, 0, none⟩)), (19, .slice a_l0 l0.length c_l0), (25, .pointer (some ⟨lb266, lo267 + (0 : Int).toNat * 4 + 0, none⟩))]) (by kernel_rfl) ?_
        refine t_end ?_
        exact ⟨hg_271 g275, rfl⟩
    have hg_111 : ∀ (g274 : Nat), G [true, false, false, false, true, false, false, false, true, false, false, false] [(0, .slice a_l0 l0.length c_l0), (1, .int .i64 w1), (4, .pointer (some ⟨b245, 0, none⟩)), (5, .pointer (some ⟨b246, 0, none⟩)), (7, .pointer (some ⟨g274, 0, none⟩)), (19, .slice a_l0 l0.length c_l0), (23, .slice a_l0 l0.length c_l0)] ([⟨g274, [.int .i64 0, .int .i64 0], 2⟩, ⟨b246, [.int .i64 0, .int .i64 0], 2⟩, ⟨b245, [.int .i64 0, .int .i64 0], 2⟩] : List Own) := by
      intro g274
      refine hstep [1, 5, 9] _ _ _ (by kernel_rfl) (List.cons_ne_nil _ _) ⟨?_, ?_, ?_, trivial⟩
      · show T _ _ _ _ _ _ _ _
        refine t_v (.quiet rfl (ixs_sle rfl rfl la256 lz259 lu260)) ?_
        refine t_keep [0, 1, 4, 5, 7, 20, 23] (σ' := [(0, .slice a_l0 l0.length c_l0), (1, .int .i64 w1), (4, .pointer (some ⟨b245, 0, none⟩)), (5, .pointer (some ⟨b246, 0, none⟩)), (7, .pointer (some ⟨g274, 0, none⟩)), (20, .pointer (some ⟨lb253, lo254 + (0 : Int).toNat * 4 + 0, none⟩)), (23, .slice a_l0 l0.length c_l0)]) (by kernel_rfl) ?_
        refine t_end ?_
        exact ⟨hg_113 g274, rfl⟩
      · show T _ _ _ _ _ _ _ _
        refine t_v (.quiet rfl (ixs_sle rfl rfl la269 lz272 lu273)) ?_
        refine t_keep [0, 1, 4, 5, 7, 19, 24] (σ' := [(0, .slice a_l0 l0.length c_l0), (1, .int .i64 w1), (4, .pointer (some ⟨b245, 0, none⟩)), (5, .pointer (some ⟨b246, 0, none⟩)), (7, .pointer (some ⟨g274, 0, none⟩)), (19, .slice a_l0 l0.length c_l0), (24, .pointer (some ⟨lb266, lo267 + (0 : Int).toNat * 4 + 0, none⟩))]) (by kernel_rfl) ?_
        refine t_end ?_
        exact ⟨hg_131 g274, rfl⟩
      · show T _ _ _ _ _ _ _ _
        refine t_a (.new rfl rfl) fun g275 fg275 sg275 => ?_
        refine t_keep [0, 1, 4, 5, 7, 8, 19, 23] (σ' := [(0, .slice a_l0 l0.length c_l0), (1, .int .i64 w1), (4, .pointer (some ⟨b245, 0, none⟩)), (5, .pointer (some ⟨b246, 0, none⟩)), (7, .pointer (some ⟨g274, 0, none⟩)), (8, .pointer (some ⟨g275, 0, none⟩)), (19, .slice a_l0 l0.length c_l0), (23, .slice a_l0 l0.length c_l0)]) (by kernel_rfl) ?_
        refine t_end ?_
        exact ⟨hg_311 g275 g274, rfl⟩
    have hg_13 : G [true, true, false, false, true, false, false, false, false, false, false, false] [(0, .slice a_l0 l0.length c_l0), (1, .int .i64 w1), (4, .pointer (some ⟨b245, 0, none⟩)), (5, .pointer (some ⟨b246, 0, none⟩)), (20, .pointer (some ⟨lb253, lo254 + (0 : Int).toNat * 4 + 0, none⟩)), (23, .slice a_l0 l0.length c_l0)] ([⟨b246, [.int .i64 0, .int .i64 0], 2⟩, ⟨b245, [.int .i64 0, .int .i64 0], 2⟩] : List Own) := by
      exact hqf 2 [0, 1, 4, 5, 21, 23] _ _ _ [(0, .slice a_l0 l0.length c_l0), (1, .int .i64 w1), (4, .pointer (some ⟨b245, 0, none⟩)), (5, .pointer (some ⟨b246, 0, none⟩)), (21, .pointer (some ⟨lb253, lo254 + (0 : Int).toNat * 4 + 0, none⟩)), (23, .slice a_l0 l0.length c_l0)] (by kernel_rfl) (by kernel_rfl) hg_17
    have hg_211 : ∀ (g275 : Nat), G [true, false, false, false, true, false, false, false, false, true, false, false] [(0, .slice a_l0 l0.length c_l0), (1, .int .i64 w1), (4, .pointer (some ⟨b245, 0, none⟩)), (5, .pointer (some ⟨b246, 0, none⟩)), (8, .pointer (some ⟨g275, 0, none⟩)), (19, .slice a_l0 l0.length c_l0), (23, .slice a_l0 l0.length c_l0)] ([⟨g275, [.int .i64 0, .int .i64 0], 2⟩, ⟨b246, [.int .i64 0, .int .i64 0], 2⟩, ⟨b245, [.int .i64 0, .int .i64 0], 2⟩] : List Own) := by
      intro g275
      refine hstep [1, 5, 8] _ _ _ (by kernel_rfl) (List.cons_ne_nil _ _) ⟨?_, ?_, ?_, trivial⟩
      · show T _ _ _ _ _ _ _ _
        refine t_v (.quiet rfl (ixs_sle rfl rfl la256 lz259 lu260)) ?_
        refine t_keep [0, 1, 4, 5, 8, 20, 23] (σ' := [(0, .slice a_l0 l0.length c_l0), (1, .int .i64 w1), (4, .pointer (some ⟨b245, 0, none⟩)), (5, .pointer (some ⟨b246, 0, none⟩)), (8, .pointer (some ⟨g275, 0, none⟩)), (20, .pointer (some ⟨lb253, lo254 + (0 : Int).toNat * 4 + 0, none⟩)), (23, .slice a_l0 l0.length c_l0)]) (by kernel_rfl) ?_
        refine t_end ?_
        exact ⟨hg_213 g275, rfl⟩
      · show T _ _ _ _ _ _ _ _
        refine t_v (.quiet rfl (ixs_sle rfl rfl la269 lz272 lu273)) ?_
        refine t_keep [0, 1, 4, 5, 8, 19, 24] (σ' := [(0, .slice a_l0 l0.length c_l0), (1, .int .i64 w1), (4, .pointer (some ⟨b245, 0, none⟩)), (5, .pointer (some ⟨b246, 0, none⟩)), (8, .pointer (some ⟨g275, 0, none⟩)), (19, .slice a_l0 l0.length c_l0), (24, .pointer (some ⟨lb266, lo267 + (0 : Int).toNat * 4 + 0, none⟩))]) (by kernel_rfl) ?_
        refine t_end ?_
        exact ⟨hg_231 g275, rfl⟩
      · show T _ _ _ _ _ _ _ _
        refine t_a (.new rfl rfl) fun g274 fg274 sg274 => ?_
        refine t_keep [0, 1, 4, 5, 7, 8, 19, 23] (σ' := [(0, .slice a_l0 l0.length c_l0), (1, .int .i64 w1), (4, .pointer (some ⟨b245, 0, none⟩)), (5, .pointer (some ⟨b246, 0, none⟩)), (7, .pointer (some ⟨g274, 0, none⟩)), (8, .pointer (some ⟨g275, 0, none⟩)), (19, .slice a_l0 l0.length c_l0), (23, .slice a_l0 l0.length c_l0)]) (by kernel_rfl) ?_
        refine t_vs (H' := ([⟨g275, [.int .i64 0, .int .i64 0], 2⟩, ⟨g274, [.int .i64 0, .int .i64 0], 2⟩, ⟨b246, [.int .i64 0, .int .i64 0], 2⟩, ⟨b245, [.int .i64 0, .int .i64 0], 2⟩] : List Own)) (S' := S) (VS.sel [1, 0, 0, 0] (by kernel_rfl)) ?_
        refine t_end ?_
        exact ⟨hg_311 g275 g274, rfl⟩
    have hg_31 : G [true, false, false, false, true, true, false, false, false, false, false, false] [(0, .slice a_l0 l0.length c_l0), (1, .int .i64 w1), (4, .pointer (some ⟨b245, 0, none⟩)), (5, .pointer (some ⟨b246, 0, none⟩)), (19, .slice a_l0 l0.length c_l0), (24, .pointer (some ⟨lb266, lo267 + (0 : Int).toNat * 4 + 0, none⟩))] ([⟨b246, [.int .i64 0, .int .i64 0], 2⟩, ⟨b245, [.int .i64 0, .int .i64 0], 2⟩] : List Own) := by
      exact hqf 6 [0, 1, 4, 5, 19, 25] _ _ _ [(0, .slice a_l0 l0.length c_l0), (1, .int .i64 w1), (4, .pointer (some ⟨b245, 0, none⟩)), (5, .pointer (some ⟨b246, 0, none⟩)), (19, .slice a_l0 l0.length c_l0), (25, .pointer (some ⟨lb266, lo267 + (0 : Int).toNat * 4 + 0, none⟩))] (by kernel_rfl) (by kernel_rfl) hg_71
    have hg_11 : G [true, false, false, false, true, false, false, false, false, false, false, false] [(0, .slice a_l0 l0.length c_l0), (1, .int .i64 w1), (4, .pointer (some ⟨b245, 0, none⟩)), (5, .pointer (some ⟨b246, 0, none⟩)), (19, .slice a_l0 l0.length c_l0), (23, .slice a_l0 l0.length c_l0)] ([⟨b246, [.int .i64 0, .int .i64 0], 2⟩, ⟨b245, [.int .i64 0, .int .i64 0], 2⟩] : List Own) := by
      refine hstep [1, 5, 8, 9] _ _ _ (by kernel_rfl) (List.cons_ne_nil _ _) ⟨?_, ?_, ?_, ?_, trivial⟩
      · show T _ _ _ _ _ _ _ _
        refine t_v (.quiet rfl (ixs_sle rfl rfl la256 lz259 lu260)) ?_
        refine t_keep [0, 1, 4, 5, 20, 23] (σ' := [(0, .slice a_l0 l0.length c_l0), (1, .int .i64 w1), (4, .pointer (some ⟨b245, 0, none⟩)), (5, .pointer (some ⟨b246, 0, none⟩)), (20, .pointer (some ⟨lb253, lo254 + (0 : Int).toNat * 4 + 0, none⟩)), (23, .slice a_l0 l0.length c_l0)]) (by kernel_rfl) ?_
        refine t_end ?_
        exact ⟨hg_13, rfl⟩
      · show T _ _ _ _ _ _ _ _
        refine t_v (.quiet rfl (ixs_sle rfl rfl la269 lz272 lu273)) ?_
        refine t_keep [0, 1, 4, 5, 19, 24] (σ' := [(0, .slice a_l0 l0.length c_l0), (1, .int .i64 w1), (4, .pointer (some ⟨b245, 0, none⟩)), (5, .pointer (some ⟨b246, 0, none⟩)), (19, .slice a_l0 l0.length c_l0), (24, .pointer (some ⟨lb266, lo267 + (0 : Int).toNat * 4 + 0, none⟩))]) (by kernel_rfl) ?_
        refine t_end ?_
        exact ⟨hg_31, rfl⟩
      · show T _ _ _ _ _ _ _ _
        refine t_a (.new rfl rfl) fun g274 fg274 sg274 => ?_
        refine t_keep [0, 1, 4, 5, 7, 19, 23] (σ' := [(0, .slice a_l0 l0.length c_l0), (1, .int .i64 w1), (4, .pointer (some ⟨b245, 0, none⟩)), (5, .pointer (some ⟨b246, 0, none⟩)), (7, .pointer (some ⟨g274, 0, none⟩)), (19, .slice a_l0 l0.length c_l0), (23, .slice a_l0 l0.length c_l0)]) (by kernel_rfl) ?_
        refine t_end ?_
        exact ⟨hg_111 g274, rfl⟩
      · show T _ _ _ _ _ _ _ _
        refine t_a (.new rfl rfl) fun g275 fg275 sg275 => ?_
        refine t_keep [0, 1, 4, 5, 8, 19, 23] (σ' := [(0, .slice a_l0 l0.length c_l0), (1, .int .i64 w1), (4, .pointer (some ⟨b245, 0, none⟩)), (5, .pointer (some ⟨b246, 0, none⟩)), (8, .pointer (some ⟨g275, 0, none⟩)), (19, .slice a_l0 l0.length c_l0), (23, .slice a_l0 l0.length c_l0)]) (by kernel_rfl) ?_
        refine t_end ?_
        exact ⟨hg_211 g275, rfl⟩
    have hg_1 : G [true, false, false, false, false, false, false, false, false, false, false, false] [(0, .slice a_l0 l0.length c_l0), (1, .int .i64 w1), (4, .pointer (some ⟨b245, 0, none⟩)), (5, .pointer (some ⟨b246, 0, none⟩)), (19, .slice a_l0 l0.length c_l0)] ([⟨b246, [.int .i64 0, .int .i64 0], 2⟩, ⟨b245, [.int .i64 0, .int .i64 0], 2⟩] : List Own) := by
      exact hqf 4 [0, 1, 4, 5, 19, 23] _ _ _ [(0, .slice a_l0 l0.length c_l0), (1, .int .i64 w1), (4, .pointer (some ⟨b245, 0, none⟩)), (5, .pointer (some ⟨b246, 0, none⟩)), (19, .slice a_l0 l0.length c_l0), (23, .slice a_l0 l0.length c_l0)] (by kernel_rfl) (by kernel_rfl) hg_11
    have hg_0 : G [false, false, false, false, false, false, false, false, false, false, false, false] [(0, .slice a_l0 l0.length c_l0), (1, .int .i64 w1), (4, .pointer (some ⟨b245, 0, none⟩)), (5, .pointer (some ⟨b246, 0, none⟩))] ([⟨b246, [.int .i64 0, .int .i64 0], 2⟩, ⟨b245, [.int .i64 0, .int .i64 0], 2⟩] : List Own) := by
      exact hqf 0 [0, 1, 4, 5, 19] _ _ _ [(0, .slice a_l0 l0.length c_l0), (1, .int .i64 w1), (4, .pointer (some ⟨b245, 0, none⟩)), (5, .pointer (some ⟨b246, 0, none⟩)), (19, .slice a_l0 l0.length c_l0)] (by kernel_rfl) (by kernel_rfl) hg_1
    exact hg_0
end Go.Proofs.Ytpimfacaalkmdaa.QStrokeBoxes
