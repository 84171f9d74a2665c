/- Functions of the program as Lean functions, each with the proof of its walk. Written by gen.py, a program of these sessions. -/
import Derived.Test.YtpimfacaalkmdaaE
import Derived.Test.YtpimfacaalkmdaaProg
namespace Go.Proofs.Ytpimfacaalkmdaa.QSweepSquares
open Go Go.RowKit Go.Proofs.YtpimfacaalkmdaaE
set_option linter.unusedVariables false
set_option maxRecDepth 100000
set_option maxHeartbeats 8000000
theorem mixed : Try.prog.follows .mixedOrders = true := by kernel_rfl

def E_i644 : En (Int × Int × Int × Int) := ⟨4, fun t => [.int .i64 t.1, .int .i64 t.2.1, .int .i64 t.2.2.1, .int .i64 t.2.2.2], fun _ => rfl, fun _ => rfl⟩
def E_u64 : En (Int) := ⟨1, fun t => [.int .u64 t], fun _ => rfl, fun _ => rfl⟩
/-- sweep.Sample -/
def c48 : C :=
  (.seq (.reg [⟨(some 6), .new [(.int .i64 0), (.int .i64 0)], none⟩])
  (.seq (.reg [⟨(some 7), .mv (.tmp 0), none⟩,
     ⟨(some 8), .bin .mul (.tmp 7) (.const (.int .i64 256)), none⟩,
     ⟨(some 9), .mv (.tmp 2), none⟩,
     ⟨(some 10), .bin .rem (.tmp 9) (.const (.int .i64 8)), none⟩,
     ⟨(some 11), .bin .mul (.const (.int .i64 32)) (.tmp 10), none⟩,
     ⟨(some 12), .bin .add (.tmp 8) (.tmp 11), none⟩,
     ⟨(some 13), .bin .add (.tmp 12) (.const (.int .i64 16)), none⟩,
     ⟨(some 14), .mv (.tmp 1), none⟩,
     ⟨(some 15), .bin .mul (.tmp 14) (.const (.int .i64 256)), none⟩,
     ⟨(some 16), .mv (.tmp 2), none⟩,
     ⟨(some 17), .bin .quo (.tmp 16) (.const (.int .i64 8)), none⟩,
     ⟨(some 18), .bin .mul (.const (.int .i64 32)) (.tmp 17), none⟩,
     ⟨(some 19), .bin .add (.tmp 15) (.tmp 18), none⟩,
     ⟨(some 20), .bin .add (.tmp 19) (.const (.int .i64 16)), none⟩,
     ⟨(some 21), .bld [(.int .i64 0), (.int .i64 0)] [(0, 1, (.tmp 13)), (1, 1, (.tmp 20))], none⟩,
     ⟨none, .st 2 (.tmp 6) (.tmp 21), none⟩])
  .ret))
def sweep_Sample.f (x0 : Int) (y1 : Int) (k2 : Int) : Option (Int × Int) := some (wr64 ((wr64 ((wr64 (x0 * 256)) + (wr64 (32 * (Int.tmod k2 8))))) + 16), wr64 ((wr64 ((wr64 (y1 * 256)) + (wr64 (32 * (wr64 (Int.tdiv k2 8)))))) + 16))
theorem sweep_Sample.ok {S : Seal} {x0 : Int} {y1 : Int} {k2 : Int} {r0_ : Int} {r1_ : Int}(e : sweep_Sample.f x0 y1 k2 = some (r0_, r1_)) :
    Cal Try.prog 48 [.int .i64 x0, .int .i64 y1, .int .i64 k2] [] S fun v H' S' => v = .agg #[.int .i64 r0_, .int .i64 r1_] ∧ H' = [] ∧ S' = S := by
  unfold sweep_Sample.f at e
  refine cal_of (c := c48) (N := 22) Try.func48 rfl rfl (by kernel_rfl) (rs := [.cn 2 6]) (by kernel_rfl) (Nat.le_of_ble_eq_true rfl) ?_
  unfold c48
  refine w_seq ?_
  refine w_reg fun all => ?_
  refine t_a (.new rfl rfl) fun b14 fb14 sb14 => ?_
  refine t_keep [0, 1, 2, 6] (σ' := [(0, .int .i64 x0), (1, .int .i64 y1), (2, .int .i64 k2), (6, .pointer (some ⟨b14, 0, none⟩))]) (by kernel_rfl) ?_
  refine t_end ?_
  show W _ _ _ _ _ _ _
  refine w_seq ?_
  refine w_reg fun all => ?_
  refine t_qz 15 [6, 21] (σ' := [(6, .pointer (some ⟨b14, 0, none⟩)), (21, .agg #[.int .i64 (wr64 ((wr64 ((wr64 (x0 * 256)) + (wr64 (32 * (Int.tmod k2 8))))) + 16)), .int .i64 (wr64 ((wr64 ((wr64 (y1 * 256)) + (wr64 (32 * (wr64 (Int.tdiv k2 8)))))) + 16))])]) (by kernel_rfl) ?_
  refine t_sti 0 (cs := [.int .i64 (wr64 ((wr64 ((wr64 (x0 * 256)) + (wr64 (32 * (Int.tmod k2 8))))) + 16)), .int .i64 (wr64 ((wr64 ((wr64 (y1 * 256)) + (wr64 (32 * (wr64 (Int.tdiv k2 8)))))) + 16))]) rfl rfl rfl rfl rfl rfl rfl rfl rfl ?_
  refine t_keep [6] (σ' := [(6, .pointer (some ⟨b14, 0, none⟩))]) (by kernel_rfl) ?_
  refine t_end ?_
  show W _ _ _ _ _ _ _
  refine w_ret ?_
  simp only [Option.some.injEq, Prod.mk.injEq] at e
  obtain ⟨rfl, rfl⟩ := e
  exact ⟨[.agg #[.int .i64 (wr64 ((wr64 ((wr64 (x0 * 256)) + (wr64 (32 * (Int.tmod k2 8))))) + 16)), .int .i64 (wr64 ((wr64 ((wr64 (y1 * 256)) + (wr64 (32 * (wr64 (Int.tdiv k2 8)))))) + 16))]], [], S, ⟨⟨_, _, _, rfl, .at 0 rfl rfl, rfl⟩, trivial⟩, VS.none, rfl, rfl, rfl⟩

/-- stroke.Box -/
def c22 : C :=
  (.seq (.reg [⟨(some 4), .new [(.int .i64 0), (.int .i64 0)], none⟩,
     ⟨(some 5), .new [(.int .i64 0), (.int .i64 0)], none⟩,
     ⟨(some 6), .mv (.const (.bool false)), none⟩])
  (.seq (.seq (.reg [⟨(some 14), .mv (.tmp 0), none⟩,
      ⟨(some 15), .lns (.tmp 14), none⟩,
      ⟨(some 16), .bin .eql (.tmp 15) (.const (.int .i64 0)), none⟩])
   (.cond (.tmp 16)
    (.seq (.reg [⟨(some 17), .bld [(.int .i64 0), (.int .i64 0)] [], none⟩,
        ⟨(some 18), .bld [(.int .i64 0), (.int .i64 0)] [], none⟩,
        ⟨none, .st 2 (.tmp 4) (.tmp 17), none⟩,
        ⟨none, .st 2 (.tmp 5) (.tmp 18), none⟩,
        ⟨(some 6), .mv (.const (.bool false)), none⟩])
     .ret)
    .skip))
  (.seq (.drw [⟨(some 19), .mv (.tmp 0), none⟩,
     ⟨(some 20), .ixs 4 (.tmp 19) (.const (.int .i64 0)), none⟩,
     ⟨(some 21), .pad 0 (.tmp 20), none⟩,
     ⟨(some 22), .ld (some 2) (.tmp 21), none⟩,
     ⟨(some 23), .mv (.tmp 0), none⟩,
     ⟨(some 24), .ixs 4 (.tmp 23) (.const (.int .i64 0)), none⟩,
     ⟨(some 25), .pad 0 (.tmp 24), none⟩,
     ⟨(some 26), .ld (some 2) (.tmp 25), none⟩,
     ⟨(some 7), .new [(.int .i64 0), (.int .i64 0)], none⟩,
     ⟨(some 8), .new [(.int .i64 0), (.int .i64 0)], none⟩,
     ⟨none, .st 2 (.tmp 7) (.tmp 22), none⟩,
     ⟨none, .st 2 (.tmp 8) (.tmp 26), none⟩] [[], [0], [1], [2], [], [4], [5], [6], [], [], [8, 3, 0, 1, 2, 3, 8, 9], [9, 7, 10, 0, 1, 2, 3, 4, 5, 6, 7, 8, 9, 10]])
  (.seq (.seq (.reg [⟨(some 27), .mv (.tmp 0), none⟩,
      ⟨(some 28), .lns (.tmp 27), none⟩,
      ⟨(some 29), .mv (.const (.int .i64 0)), none⟩])
   (.block 0 (.loop (.seq (.reg [⟨(some 30), .bin .lss (.tmp 29) (.tmp 28), none⟩])
     (.seq (.cond (.tmp 30)
       .skip
       (.exit 0))
     (.seq (.block 1 (.seq (.reg [⟨(some 31), .ixs 4 (.tmp 27) (.tmp 29), none⟩,
          ⟨(some 32), .ld (some 4) (.tmp 31), none⟩,
          ⟨(some 10), .new [(.int .i64 0), (.int .i64 0), (.int .i64 0), (.int .i64 0)], none⟩,
          ⟨none, .st 4 (.tmp 10) (.tmp 32), none⟩])
       (.seq (.reg [⟨(some 33), .pad 0 (.tmp 10), none⟩,
          ⟨(some 34), .ld (some 2) (.tmp 33), none⟩,
          ⟨(some 35), .pad 2 (.tmp 10), none⟩,
          ⟨(some 36), .ld (some 2) (.tmp 35), none⟩,
          ⟨(some 37), .bld [(.int .i64 0), (.int .i64 0), (.int .i64 0), (.int .i64 0)] [(0, 2, (.tmp 34)), (2, 2, (.tmp 36))], none⟩,
          ⟨(some 38), .mv (.const (.int .i64 0)), none⟩])
       (.block 2 (.loop (.seq (.reg [⟨(some 39), .bin .lss (.tmp 38) (.const (.int .i64 2)), none⟩])
         (.seq (.cond (.tmp 39)
           .skip
           (.exit 2))
         (.seq (.block 3 (.seq (.reg [⟨(some 40), .ixv (some 2) 2 2 (.tmp 37) (.tmp 38), none⟩,
              ⟨(some 12), .new [(.int .i64 0), (.int .i64 0)], none⟩,
              ⟨none, .st 2 (.tmp 12) (.tmp 40), none⟩])
           (.seq (.reg [⟨(some 41), .pad 0 (.tmp 7), none⟩,
              ⟨(some 42), .ld none (.tmp 41), none⟩,
              ⟨(some 43), .pad 0 (.tmp 12), none⟩,
              ⟨(some 44), .ld none (.tmp 43), none⟩,
              ⟨(some 45), .mm false [(.tmp 42), (.tmp 44)], none⟩,
              ⟨(some 46), .pad 1 (.tmp 7), none⟩,
              ⟨(some 47), .ld none (.tmp 46), none⟩,
              ⟨(some 48), .pad 1 (.tmp 12), none⟩,
              ⟨(some 49), .ld none (.tmp 48), none⟩,
              ⟨(some 50), .mm false [(.tmp 47), (.tmp 49)], none⟩,
              ⟨(some 51), .bld [(.int .i64 0), (.int .i64 0)] [(0, 1, (.tmp 45)), (1, 1, (.tmp 50))], none⟩,
              ⟨none, .st 2 (.tmp 7) (.tmp 51), none⟩])
           (.reg [⟨(some 52), .pad 0 (.tmp 8), none⟩,
             ⟨(some 53), .ld none (.tmp 52), none⟩,
             ⟨(some 54), .pad 0 (.tmp 12), none⟩,
             ⟨(some 55), .ld none (.tmp 54), none⟩,
             ⟨(some 56), .mm true [(.tmp 53), (.tmp 55)], none⟩,
             ⟨(some 57), .pad 1 (.tmp 8), none⟩,
             ⟨(some 58), .ld none (.tmp 57), none⟩,
             ⟨(some 59), .pad 1 (.tmp 12), none⟩,
             ⟨(some 60), .ld none (.tmp 59), none⟩,
             ⟨(some 61), .mm true [(.tmp 58), (.tmp 60)], none⟩,
             ⟨(some 62), .bld [(.int .i64 0), (.int .i64 0)] [(0, 1, (.tmp 56)), (1, 1, (.tmp 61))], none⟩,
             ⟨none, .st 2 (.tmp 8) (.tmp 62), none⟩]))))
         (.reg [⟨(some 63), .bin .add (.tmp 38) (.const (.int .i64 1)), none⟩,
           ⟨(some 38), .mv (.tmp 63), none⟩])))))))))
     (.reg [⟨(some 64), .bin .add (.tmp 29) (.const (.int .i64 1)), none⟩,
       ⟨(some 29), .mv (.tmp 64), none⟩])))))))
  (.seq (.reg [⟨(some 65), .mv (.tmp 1), none⟩,
     ⟨(some 66), .bin .add (.tmp 65) (.const (.int .i64 1)), none⟩,
     ⟨(some 67), .bin .quo (.tmp 66) (.const (.int .i64 2)), none⟩,
     ⟨(some 13), .mv (.tmp 67), none⟩])
  (.seq (.drw [⟨(some 68), .pad 0 (.tmp 7), none⟩,
     ⟨(some 69), .ld none (.tmp 68), none⟩,
     ⟨(some 70), .mv (.tmp 13), none⟩,
     ⟨(some 71), .bin .sub (.tmp 69) (.tmp 70), none⟩,
     ⟨(some 72), .pad 1 (.tmp 7), none⟩,
     ⟨(some 73), .ld none (.tmp 72), none⟩,
     ⟨(some 74), .mv (.tmp 13), none⟩,
     ⟨(some 75), .bin .sub (.tmp 73) (.tmp 74), none⟩,
     ⟨(some 76), .bld [(.int .i64 0), (.int .i64 0)] [(0, 1, (.tmp 71)), (1, 1, (.tmp 75))], none⟩,
     ⟨(some 77), .pad 0 (.tmp 8), none⟩,
     ⟨(some 78), .ld none (.tmp 77), none⟩,
     ⟨(some 79), .mv (.tmp 13), none⟩,
     ⟨(some 80), .bin .add (.tmp 78) (.tmp 79), none⟩,
     ⟨(some 81), .pad 1 (.tmp 8), none⟩,
     ⟨(some 82), .ld none (.tmp 81), none⟩,
     ⟨(some 83), .mv (.tmp 13), none⟩,
     ⟨(some 84), .bin .add (.tmp 82) (.tmp 83), none⟩,
     ⟨(some 85), .bld [(.int .i64 0), (.int .i64 0)] [(0, 1, (.tmp 80)), (1, 1, (.tmp 84))], none⟩,
     ⟨none, .st 2 (.tmp 4) (.tmp 76), none⟩,
     ⟨none, .st 2 (.tmp 5) (.tmp 85), none⟩,
     ⟨(some 6), .mv (.const (.bool true)), none⟩] [[], [0], [], [1, 2], [], [4], [], [5, 6], [3, 7], [], [9], [], [10, 11], [], [13], [], [14, 15], [12, 16], [8, 0, 1, 2, 3, 4, 5, 6, 7, 8], [17, 18, 0, 1, 2, 3, 4, 5, 6, 7, 8, 9, 10, 11, 12, 13, 14, 15, 16, 17, 18], [19, 0, 1, 2, 3, 4, 5, 6, 7, 8, 9, 10, 11, 12, 13, 14, 15, 16, 17, 18, 19]])
  .ret))))))
def stroke_Box_v1.f (w1 : Int) (m0_0 : Int) (m0_1 : Int) (m0_2 : Int) (m0_3 : Int) : Option (Int × Int × Int × Int × Bool) := some (wr64 ((mn (mn m0_0 m0_0) m0_2) - (wr64 (Int.tdiv (wr64 (w1 + 1)) 2))), wr64 ((mn (mn m0_1 m0_1) m0_3) - (wr64 (Int.tdiv (wr64 (w1 + 1)) 2))), wr64 ((mx (mx m0_0 m0_0) m0_2) + (wr64 (Int.tdiv (wr64 (w1 + 1)) 2))), wr64 ((mx (mx m0_1 m0_1) m0_3) + (wr64 (Int.tdiv (wr64 (w1 + 1)) 2))), true)
theorem stroke_Box_v1.ok {S : Seal} {B0 : Nat} {w1 : Int} {m0_0 : Int} {m0_1 : Int} {m0_2 : Int} {m0_3 : Int} {r0_ : Int} {r1_ : Int} {r2_ : Int} {r3_ : Int} {r4_ : Bool}(e : stroke_Box_v1.f w1 m0_0 m0_1 m0_2 m0_3 = some (r0_, r1_, r2_, r3_, r4_)) :
    Cal Try.prog 22 [.slice (some ⟨B0, 0, none⟩) 1 1, .int .i64 w1] ([⟨B0, [.int .i64 m0_0, .int .i64 m0_1, .int .i64 m0_2, .int .i64 m0_3], 4⟩] : List Own) S fun v H' S' => v = .tuple #[.agg #[.int .i64 r0_, .int .i64 r1_], .agg #[.int .i64 r2_, .int .i64 r3_], .bool r4_] ∧ H' = ([⟨B0, [.int .i64 m0_0, .int .i64 m0_1, .int .i64 m0_2, .int .i64 m0_3], 4⟩] : List Own) ∧ S' = S := by
  unfold stroke_Box_v1.f at e
  refine cal_of (c := c22) (N := 86) Try.func22 rfl rfl (by kernel_rfl) (rs := [.cn 2 4, .cn 2 5, .t 6]) (by kernel_rfl) (Nat.le_of_ble_eq_true rfl) ?_
  unfold c22
  refine w_seq ?_
  refine w_reg fun all => ?_
  refine t_a (.new rfl rfl) fun b40 fb40 sb40 => ?_
  refine t_a (.new rfl rfl) fun b41 fb41 sb41 => ?_
  refine t_qz 1 [0, 1, 4, 5] (σ' := [(0, .slice (some ⟨B0, 0, none⟩) 1 1), (1, .int .i64 w1), (4, .pointer (some ⟨b40, 0, none⟩)), (5, .pointer (some ⟨b41, 0, none⟩))]) (by kernel_rfl) ?_
  refine t_end ?_
  show W _ _ _ _ _ _ _
  refine w_seq ?_
  refine w_seq ?_
  refine w_reg fun all => ?_
  refine t_qz 3 [0, 1, 4, 5, 16] (σ' := [(0, .slice (some ⟨B0, 0, none⟩) 1 1), (1, .int .i64 w1), (4, .pointer (some ⟨b40, 0, none⟩)), (5, .pointer (some ⟨b41, 0, none⟩)), (16, .bool false)]) (by kernel_rfl) ?_
  refine t_end ?_
  show W _ _ _ _ _ _ _
  refine w_cond rfl (fun c_ => by cases c_) (fun _ => ?_)
  show W _ _ _ _ _ _ _
  refine w_skip ?_
  show W _ _ _ _ _ _ _
  refine w_seq ?_
  refine w_kp [0, 1, 4, 5] (σ' := [(0, .slice (some ⟨B0, 0, none⟩) 1 1), (1, .int .i64 w1), (4, .pointer (some ⟨b40, 0, none⟩)), (5, .pointer (some ⟨b41, 0, none⟩))]) (by kernel_rfl) ?_
  refine w_gameQ mixed (by kernel_rfl) fun all G hend hstep hqf => ?_
  have hg_fff : ∀ (g43 : Nat) (g42 : Nat), G [true, true, true, true, true, true, true, true, true, true, true, true] [(0, .slice (some ⟨B0, 0, none⟩) 1 1), (1, .int .i64 w1), (4, .pointer (some ⟨b40, 0, none⟩)), (5, .pointer (some ⟨b41, 0, none⟩)), (7, .pointer (some ⟨g42, 0, none⟩)), (8, .pointer (some ⟨g43, 0, none⟩))] ([⟨g43, [.int .i64 m0_0, .int .i64 m0_1], 2⟩, ⟨g42, [.int .i64 m0_0, .int .i64 m0_1], 2⟩, ⟨b41, [.int .i64 0, .int .i64 0], 2⟩, ⟨b40, [.int .i64 0, .int .i64 0], 2⟩, ⟨B0, [.int .i64 m0_0, .int .i64 m0_1, .int .i64 m0_2, .int .i64 m0_3], 4⟩] : List Own) := by
    intro g43 g42
    refine hend _ _ _ (by kernel_rfl) ?_
    show W _ _ _ _ _ _ _
    refine w_seq ?_
    refine w_seq ?_
    refine w_reg fun all => ?_
    refine t_qz 3 [1, 4, 5, 7, 8, 27, 28, 29] (σ' := [(1, .int .i64 w1), (4, .pointer (some ⟨b40, 0, none⟩)), (5, .pointer (some ⟨b41, 0, none⟩)), (7, .pointer (some ⟨g42, 0, none⟩)), (8, .pointer (some ⟨g43, 0, none⟩)), (27, .slice (some ⟨B0, 0, none⟩) 1 1), (28, .int .i64 1), (29, .int .i64 0)]) (by kernel_rfl) ?_
    refine t_end ?_
    show W _ _ _ _ _ _ _
    refine w_block ?_
    refine w_lun 10 ?_
    refine wl_step ?_
    refine w_seq ?_
    refine w_reg fun all => ?_
    refine t_qz 1 [1, 4, 5, 7, 8, 27, 28, 29, 30] (σ' := [(1, .int .i64 w1), (4, .pointer (some ⟨b40, 0, none⟩)), (5, .pointer (some ⟨b41, 0, none⟩)), (7, .pointer (some ⟨g42, 0, none⟩)), (8, .pointer (some ⟨g43, 0, none⟩)), (27, .slice (some ⟨B0, 0, none⟩) 1 1), (28, .int .i64 1), (29, .int .i64 0), (30, .bool true)]) (by kernel_rfl) ?_
    refine t_end ?_
    show W _ _ _ _ _ _ _
    refine w_seq ?_
    refine w_cond rfl (fun _ => ?_) (fun c_ => by cases c_)
    show W _ _ _ _ _ _ _
    refine w_skip ?_
    show W _ _ _ _ _ _ _
    refine w_seq ?_
    refine w_block ?_
    refine w_seq ?_
    refine w_reg fun all => ?_
    refine t_qz 1 [1, 4, 5, 7, 8, 27, 28, 29, 31] (σ' := [(1, .int .i64 w1), (4, .pointer (some ⟨b40, 0, none⟩)), (5, .pointer (some ⟨b41, 0, none⟩)), (7, .pointer (some ⟨g42, 0, none⟩)), (8, .pointer (some ⟨g43, 0, none⟩)), (27, .slice (some ⟨B0, 0, none⟩) 1 1), (28, .int .i64 1), (29, .int .i64 0), (31, .pointer (some ⟨B0, 0, none⟩))]) (by kernel_rfl) ?_
    refine t_v (.ldn rfl rfl rfl (.at 4 rfl rfl)) ?_
    refine t_a (.new rfl rfl) fun b44 fb44 sb44 => ?_
    refine t_sti 0 (cs := [.int .i64 m0_0, .int .i64 m0_1, .int .i64 m0_2, .int .i64 m0_3]) rfl rfl rfl rfl rfl rfl rfl rfl rfl ?_
    refine t_keep [1, 4, 5, 7, 8, 10, 27, 28, 29] (σ' := [(1, .int .i64 w1), (4, .pointer (some ⟨b40, 0, none⟩)), (5, .pointer (some ⟨b41, 0, none⟩)), (7, .pointer (some ⟨g42, 0, none⟩)), (8, .pointer (some ⟨g43, 0, none⟩)), (10, .pointer (some ⟨b44, 0, none⟩)), (27, .slice (some ⟨B0, 0, none⟩) 1 1), (28, .int .i64 1), (29, .int .i64 0)]) (by kernel_rfl) ?_
    refine t_end ?_
    show W _ _ _ _ _ _ _
    refine w_seq ?_
    refine w_reg fun all => ?_
    refine t_qz 1 [1, 4, 5, 7, 8, 10, 27, 28, 29, 33] (σ' := [(1, .int .i64 w1), (4, .pointer (some ⟨b40, 0, none⟩)), (5, .pointer (some ⟨b41, 0, none⟩)), (7, .pointer (some ⟨g42, 0, none⟩)), (8, .pointer (some ⟨g43, 0, none⟩)), (10, .pointer (some ⟨b44, 0, none⟩)), (27, .slice (some ⟨B0, 0, none⟩) 1 1), (28, .int .i64 1), (29, .int .i64 0), (33, .pointer (some ⟨b44, 0, none⟩))]) (by kernel_rfl) ?_
    refine t_v (.ldn rfl rfl rfl (.at 0 rfl rfl)) ?_
    refine t_qz 1 [1, 4, 5, 7, 8, 27, 28, 29, 34, 35] (σ' := [(1, .int .i64 w1), (4, .pointer (some ⟨b40, 0, none⟩)), (5, .pointer (some ⟨b41, 0, none⟩)), (7, .pointer (some ⟨g42, 0, none⟩)), (8, .pointer (some ⟨g43, 0, none⟩)), (27, .slice (some ⟨B0, 0, none⟩) 1 1), (28, .int .i64 1), (29, .int .i64 0), (34, .agg #[.int .i64 m0_0, .int .i64 m0_1]), (35, .pointer (some ⟨b44, 2, none⟩))]) (by kernel_rfl) ?_
    refine t_v (.ldn rfl rfl rfl (.at 0 rfl rfl)) ?_
    refine t_qz 2 [1, 4, 5, 7, 8, 27, 28, 29, 37, 38] (σ' := [(1, .int .i64 w1), (4, .pointer (some ⟨b40, 0, none⟩)), (5, .pointer (some ⟨b41, 0, none⟩)), (7, .pointer (some ⟨g42, 0, none⟩)), (8, .pointer (some ⟨g43, 0, none⟩)), (27, .slice (some ⟨B0, 0, none⟩) 1 1), (28, .int .i64 1), (29, .int .i64 0), (37, .agg #[.int .i64 m0_0, .int .i64 m0_1, .int .i64 m0_2, .int .i64 m0_3]), (38, .int .i64 0)]) (by kernel_rfl) ?_
    refine t_end ?_
    show W _ _ _ _ _ _ _
    refine w_block ?_
    refine w_lun 10 ?_
    refine wl_step ?_
    refine w_seq ?_
    refine w_reg fun all => ?_
    refine t_qz 1 [1, 4, 5, 7, 8, 27, 28, 29, 37, 38, 39] (σ' := [(1, .int .i64 w1), (4, .pointer (some ⟨b40, 0, none⟩)), (5, .pointer (some ⟨b41, 0, none⟩)), (7, .pointer (some ⟨g42, 0, none⟩)), (8, .pointer (some ⟨g43, 0, none⟩)), (27, .slice (some ⟨B0, 0, none⟩) 1 1), (28, .int .i64 1), (29, .int .i64 0), (37, .agg #[.int .i64 m0_0, .int .i64 m0_1, .int .i64 m0_2, .int .i64 m0_3]), (38, .int .i64 0), (39, .bool true)]) (by kernel_rfl) ?_
    refine t_end ?_
    show W _ _ _ _ _ _ _
    refine w_seq ?_
    refine w_cond rfl (fun _ => ?_) (fun c_ => by cases c_)
    show W _ _ _ _ _ _ _
    refine w_skip ?_
    show W _ _ _ _ _ _ _
    refine w_seq ?_
    refine w_block ?_
    refine w_seq ?_
    refine w_reg fun all => ?_
    refine t_qz 1 [1, 4, 5, 7, 8, 27, 28, 29, 37, 38, 40] (σ' := [(1, .int .i64 w1), (4, .pointer (some ⟨b40, 0, none⟩)), (5, .pointer (some ⟨b41, 0, none⟩)), (7, .pointer (some ⟨g42, 0, none⟩)), (8, .pointer (some ⟨g43, 0, none⟩)), (27, .slice (some ⟨B0, 0, none⟩) 1 1), (28, .int .i64 1), (29, .int .i64 0), (37, .agg #[.int .i64 m0_0, .int .i64 m0_1, .int .i64 m0_2, .int .i64 m0_3]), (38, .int .i64 0), (40, .agg #[.int .i64 m0_0, .int .i64 m0_1])]) (by kernel_rfl) ?_
    refine t_a (.new rfl rfl) fun b45 fb45 sb45 => ?_
    refine t_sti 0 (cs := [.int .i64 m0_0, .int .i64 m0_1]) rfl rfl rfl rfl rfl rfl rfl rfl rfl ?_
    refine t_keep [1, 4, 5, 7, 8, 12, 27, 28, 29, 37, 38] (σ' := [(1, .int .i64 w1), (4, .pointer (some ⟨b40, 0, none⟩)), (5, .pointer (some ⟨b41, 0, none⟩)), (7, .pointer (some ⟨g42, 0, none⟩)), (8, .pointer (some ⟨g43, 0, none⟩)), (12, .pointer (some ⟨b45, 0, none⟩)), (27, .slice (some ⟨B0, 0, none⟩) 1 1), (28, .int .i64 1), (29, .int .i64 0), (37, .agg #[.int .i64 m0_0, .int .i64 m0_1, .int .i64 m0_2, .int .i64 m0_3]), (38, .int .i64 0)]) (by kernel_rfl) ?_
    refine t_end ?_
    show W _ _ _ _ _ _ _
    refine w_seq ?_
    refine w_reg fun all => ?_
    refine t_qz 1 [1, 4, 5, 7, 8, 12, 27, 28, 29, 37, 38, 41] (σ' := [(1, .int .i64 w1), (4, .pointer (some ⟨b40, 0, none⟩)), (5, .pointer (some ⟨b41, 0, none⟩)), (7, .pointer (some ⟨g42, 0, none⟩)), (8, .pointer (some ⟨g43, 0, none⟩)), (12, .pointer (some ⟨b45, 0, none⟩)), (27, .slice (some ⟨B0, 0, none⟩) 1 1), (28, .int .i64 1), (29, .int .i64 0), (37, .agg #[.int .i64 m0_0, .int .i64 m0_1, .int .i64 m0_2, .int .i64 m0_3]), (38, .int .i64 0), (41, .pointer (some ⟨g42, 0, none⟩))]) (by kernel_rfl) ?_
    refine t_v (.ld1 rfl rfl rfl (.at 3 rfl rfl)) ?_
    refine t_qz 1 [1, 4, 5, 7, 8, 12, 27, 28, 29, 37, 38, 42, 43] (σ' := [(1, .int .i64 w1), (4, .pointer (some ⟨b40, 0, none⟩)), (5, .pointer (some ⟨b41, 0, none⟩)), (7, .pointer (some ⟨g42, 0, none⟩)), (8, .pointer (some ⟨g43, 0, none⟩)), (12, .pointer (some ⟨b45, 0, none⟩)), (27, .slice (some ⟨B0, 0, none⟩) 1 1), (28, .int .i64 1), (29, .int .i64 0), (37, .agg #[.int .i64 m0_0, .int .i64 m0_1, .int .i64 m0_2, .int .i64 m0_3]), (38, .int .i64 0), (42, .int .i64 m0_0), (43, .pointer (some ⟨b45, 0, none⟩))]) (by kernel_rfl) ?_
    refine t_v (.ld1 rfl rfl rfl (.at 0 rfl rfl)) ?_
    refine t_qz 2 [1, 4, 5, 7, 8, 12, 27, 28, 29, 37, 38, 45, 46] (σ' := [(1, .int .i64 w1), (4, .pointer (some ⟨b40, 0, none⟩)), (5, .pointer (some ⟨b41, 0, none⟩)), (7, .pointer (some ⟨g42, 0, none⟩)), (8, .pointer (some ⟨g43, 0, none⟩)), (12, .pointer (some ⟨b45, 0, none⟩)), (27, .slice (some ⟨B0, 0, none⟩) 1 1), (28, .int .i64 1), (29, .int .i64 0), (37, .agg #[.int .i64 m0_0, .int .i64 m0_1, .int .i64 m0_2, .int .i64 m0_3]), (38, .int .i64 0), (45, .int .i64 (mn m0_0 m0_0)), (46, .pointer (some ⟨g42, 1, none⟩))]) (by kernel_rfl) ?_
    refine t_v (.ld1 rfl rfl rfl (.at 3 rfl rfl)) ?_
    refine t_qz 1 [1, 4, 5, 7, 8, 12, 27, 28, 29, 37, 38, 45, 47, 48] (σ' := [(1, .int .i64 w1), (4, .pointer (some ⟨b40, 0, none⟩)), (5, .pointer (some ⟨b41, 0, none⟩)), (7, .pointer (some ⟨g42, 0, none⟩)), (8, .pointer (some ⟨g43, 0, none⟩)), (12, .pointer (some ⟨b45, 0, none⟩)), (27, .slice (some ⟨B0, 0, none⟩) 1 1), (28, .int .i64 1), (29, .int .i64 0), (37, .agg #[.int .i64 m0_0, .int .i64 m0_1, .int .i64 m0_2, .int .i64 m0_3]), (38, .int .i64 0), (45, .int .i64 (mn m0_0 m0_0)), (47, .int .i64 m0_1), (48, .pointer (some ⟨b45, 1, none⟩))]) (by kernel_rfl) ?_
    refine t_v (.ld1 rfl rfl rfl (.at 0 rfl rfl)) ?_
    refine t_qz 2 [1, 4, 5, 7, 8, 12, 27, 28, 29, 37, 38, 51] (σ' := [(1, .int .i64 w1), (4, .pointer (some ⟨b40, 0, none⟩)), (5, .pointer (some ⟨b41, 0, none⟩)), (7, .pointer (some ⟨g42, 0, none⟩)), (8, .pointer (some ⟨g43, 0, none⟩)), (12, .pointer (some ⟨b45, 0, none⟩)), (27, .slice (some ⟨B0, 0, none⟩) 1 1), (28, .int .i64 1), (29, .int .i64 0), (37, .agg #[.int .i64 m0_0, .int .i64 m0_1, .int .i64 m0_2, .int .i64 m0_3]), (38, .int .i64 0), (51, .agg #[.int .i64 (mn m0_0 m0_0), .int .i64 (mn m0_1 m0_1)])]) (by kernel_rfl) ?_
    refine t_sti 3 (cs := [.int .i64 (mn m0_0 m0_0), .int .i64 (mn m0_1 m0_1)]) rfl rfl rfl rfl rfl rfl rfl rfl rfl ?_
    refine t_keep [1, 4, 5, 7, 8, 12, 27, 28, 29, 37, 38] (σ' := [(1, .int .i64 w1), (4, .pointer (some ⟨b40, 0, none⟩)), (5, .pointer (some ⟨b41, 0, none⟩)), (7, .pointer (some ⟨g42, 0, none⟩)), (8, .pointer (some ⟨g43, 0, none⟩)), (12, .pointer (some ⟨b45, 0, none⟩)), (27, .slice (some ⟨B0, 0, none⟩) 1 1), (28, .int .i64 1), (29, .int .i64 0), (37, .agg #[.int .i64 m0_0, .int .i64 m0_1, .int .i64 m0_2, .int .i64 m0_3]), (38, .int .i64 0)]) (by kernel_rfl) ?_
    refine t_end ?_
    show W _ _ _ _ _ _ _
    refine w_reg fun all => ?_
    refine t_qz 1 [1, 4, 5, 7, 8, 12, 27, 28, 29, 37, 38, 52] (σ' := [(1, .int .i64 w1), (4, .pointer (some ⟨b40, 0, none⟩)), (5, .pointer (some ⟨b41, 0, none⟩)), (7, .pointer (some ⟨g42, 0, none⟩)), (8, .pointer (some ⟨g43, 0, none⟩)), (12, .pointer (some ⟨b45, 0, none⟩)), (27, .slice (some ⟨B0, 0, none⟩) 1 1), (28, .int .i64 1), (29, .int .i64 0), (37, .agg #[.int .i64 m0_0, .int .i64 m0_1, .int .i64 m0_2, .int .i64 m0_3]), (38, .int .i64 0), (52, .pointer (some ⟨g43, 0, none⟩))]) (by kernel_rfl) ?_
    refine t_v (.ld1 rfl rfl rfl (.at 2 rfl rfl)) ?_
    refine t_qz 1 [1, 4, 5, 7, 8, 12, 27, 28, 29, 37, 38, 53, 54] (σ' := [(1, .int .i64 w1), (4, .pointer (some ⟨b40, 0, none⟩)), (5, .pointer (some ⟨b41, 0, none⟩)), (7, .pointer (some ⟨g42, 0, none⟩)), (8, .pointer (some ⟨g43, 0, none⟩)), (12, .pointer (some ⟨b45, 0, none⟩)), (27, .slice (some ⟨B0, 0, none⟩) 1 1), (28, .int .i64 1), (29, .int .i64 0), (37, .agg #[.int .i64 m0_0, .int .i64 m0_1, .int .i64 m0_2, .int .i64 m0_3]), (38, .int .i64 0), (53, .int .i64 m0_0), (54, .pointer (some ⟨b45, 0, none⟩))]) (by kernel_rfl) ?_
    refine t_v (.ld1 rfl rfl rfl (.at 0 rfl rfl)) ?_
    refine t_qz 2 [1, 4, 5, 7, 8, 12, 27, 28, 29, 37, 38, 56, 57] (σ' := [(1, .int .i64 w1), (4, .pointer (some ⟨b40, 0, none⟩)), (5, .pointer (some ⟨b41, 0, none⟩)), (7, .pointer (some ⟨g42, 0, none⟩)), (8, .pointer (some ⟨g43, 0, none⟩)), (12, .pointer (some ⟨b45, 0, none⟩)), (27, .slice (some ⟨B0, 0, none⟩) 1 1), (28, .int .i64 1), (29, .int .i64 0), (37, .agg #[.int .i64 m0_0, .int .i64 m0_1, .int .i64 m0_2, .int .i64 m0_3]), (38, .int .i64 0), (56, .int .i64 (mx m0_0 m0_0)), (57, .pointer (some ⟨g43, 1, none⟩))]) (by kernel_rfl) ?_
    refine t_v (.ld1 rfl rfl rfl (.at 2 rfl rfl)) ?_
    refine t_qz 1 [1, 4, 5, 7, 8, 27, 28, 29, 37, 38, 56, 58, 59] (σ' := [(1, .int .i64 w1), (4, .pointer (some ⟨b40, 0, none⟩)), (5, .pointer (some ⟨b41, 0, none⟩)), (7, .pointer (some ⟨g42, 0, none⟩)), (8, .pointer (some ⟨g43, 0, none⟩)), (27, .slice (some ⟨B0, 0, none⟩) 1 1), (28, .int .i64 1), (29, .int .i64 0), (37, .agg #[.int .i64 m0_0, .int .i64 m0_1, .int .i64 m0_2, .int .i64 m0_3]), (38, .int .i64 0), (56, .int .i64 (mx m0_0 m0_0)), (58, .int .i64 m0_1), (59, .pointer (some ⟨b45, 1, none⟩))]) (by kernel_rfl) ?_
    refine t_v (.ld1 rfl rfl rfl (.at 0 rfl rfl)) ?_
    refine t_qz 2 [1, 4, 5, 7, 8, 27, 28, 29, 37, 38, 62] (σ' := [(1, .int .i64 w1), (4, .pointer (some ⟨b40, 0, none⟩)), (5, .pointer (some ⟨b41, 0, none⟩)), (7, .pointer (some ⟨g42, 0, none⟩)), (8, .pointer (some ⟨g43, 0, none⟩)), (27, .slice (some ⟨B0, 0, none⟩) 1 1), (28, .int .i64 1), (29, .int .i64 0), (37, .agg #[.int .i64 m0_0, .int .i64 m0_1, .int .i64 m0_2, .int .i64 m0_3]), (38, .int .i64 0), (62, .agg #[.int .i64 (mx m0_0 m0_0), .int .i64 (mx m0_1 m0_1)])]) (by kernel_rfl) ?_
    refine t_sti 2 (cs := [.int .i64 (mx m0_0 m0_0), .int .i64 (mx m0_1 m0_1)]) rfl rfl rfl rfl rfl rfl rfl rfl rfl ?_
    refine t_keep [1, 4, 5, 7, 8, 27, 28, 29, 37, 38] (σ' := [(1, .int .i64 w1), (4, .pointer (some ⟨b40, 0, none⟩)), (5, .pointer (some ⟨b41, 0, none⟩)), (7, .pointer (some ⟨g42, 0, none⟩)), (8, .pointer (some ⟨g43, 0, none⟩)), (27, .slice (some ⟨B0, 0, none⟩) 1 1), (28, .int .i64 1), (29, .int .i64 0), (37, .agg #[.int .i64 m0_0, .int .i64 m0_1, .int .i64 m0_2, .int .i64 m0_3]), (38, .int .i64 0)]) (by kernel_rfl) ?_
    refine t_end ?_
    show W _ _ _ _ _ _ _
    refine w_reg fun all => ?_
    refine t_qz 2 [1, 4, 5, 7, 8, 27, 28, 29, 37, 38] (σ' := [(1, .int .i64 w1), (4, .pointer (some ⟨b40, 0, none⟩)), (5, .pointer (some ⟨b41, 0, none⟩)), (7, .pointer (some ⟨g42, 0, none⟩)), (8, .pointer (some ⟨g43, 0, none⟩)), (27, .slice (some ⟨B0, 0, none⟩) 1 1), (28, .int .i64 1), (29, .int .i64 0), (37, .agg #[.int .i64 m0_0, .int .i64 m0_1, .int .i64 m0_2, .int .i64 m0_3]), (38, .int .i64 1)]) (by kernel_rfl) ?_
    refine t_end ?_
    show WL _ _ _ _ _ _ _ _
    refine wl_step ?_
    refine w_seq ?_
    refine w_reg fun all => ?_
    refine t_qz 1 [1, 4, 5, 7, 8, 27, 28, 29, 37, 38, 39] (σ' := [(1, .int .i64 w1), (4, .pointer (some ⟨b40, 0, none⟩)), (5, .pointer (some ⟨b41, 0, none⟩)), (7, .pointer (some ⟨g42, 0, none⟩)), (8, .pointer (some ⟨g43, 0, none⟩)), (27, .slice (some ⟨B0, 0, none⟩) 1 1), (28, .int .i64 1), (29, .int .i64 0), (37, .agg #[.int .i64 m0_0, .int .i64 m0_1, .int .i64 m0_2, .int .i64 m0_3]), (38, .int .i64 1), (39, .bool true)]) (by kernel_rfl) ?_
    refine t_end ?_
    show W _ _ _ _ _ _ _
    refine w_seq ?_
    refine w_cond rfl (fun _ => ?_) (fun c_ => by cases c_)
    show W _ _ _ _ _ _ _
    refine w_skip ?_
    show W _ _ _ _ _ _ _
    refine w_seq ?_
    refine w_block ?_
    refine w_seq ?_
    refine w_reg fun all => ?_
    refine t_qz 1 [1, 4, 5, 7, 8, 27, 28, 29, 37, 38, 40] (σ' := [(1, .int .i64 w1), (4, .pointer (some ⟨b40, 0, none⟩)), (5, .pointer (some ⟨b41, 0, none⟩)), (7, .pointer (some ⟨g42, 0, none⟩)), (8, .pointer (some ⟨g43, 0, none⟩)), (27, .slice (some ⟨B0, 0, none⟩) 1 1), (28, .int .i64 1), (29, .int .i64 0), (37, .agg #[.int .i64 m0_0, .int .i64 m0_1, .int .i64 m0_2, .int .i64 m0_3]), (38, .int .i64 1), (40, .agg #[.int .i64 m0_2, .int .i64 m0_3])]) (by kernel_rfl) ?_
    refine t_a (.new rfl rfl) fun b46 fb46 sb46 => ?_
    refine t_sti 0 (cs := [.int .i64 m0_2, .int .i64 m0_3]) rfl rfl rfl rfl rfl rfl rfl rfl rfl ?_
    refine t_keep [1, 4, 5, 7, 8, 12, 27, 28, 29, 37, 38] (σ' := [(1, .int .i64 w1), (4, .pointer (some ⟨b40, 0, none⟩)), (5, .pointer (some ⟨b41, 0, none⟩)), (7, .pointer (some ⟨g42, 0, none⟩)), (8, .pointer (some ⟨g43, 0, none⟩)), (12, .pointer (some ⟨b46, 0, none⟩)), (27, .slice (some ⟨B0, 0, none⟩) 1 1), (28, .int .i64 1), (29, .int .i64 0), (37, .agg #[.int .i64 m0_0, .int .i64 m0_1, .int .i64 m0_2, .int .i64 m0_3]), (38, .int .i64 1)]) (by kernel_rfl) ?_
    refine t_end ?_
    show W _ _ _ _ _ _ _
    refine w_seq ?_
    refine w_reg fun all => ?_
    refine t_qz 1 [1, 4, 5, 7, 8, 12, 27, 28, 29, 37, 38, 41] (σ' := [(1, .int .i64 w1), (4, .pointer (some ⟨b40, 0, none⟩)), (5, .pointer (some ⟨b41, 0, none⟩)), (7, .pointer (some ⟨g42, 0, none⟩)), (8, .pointer (some ⟨g43, 0, none⟩)), (12, .pointer (some ⟨b46, 0, none⟩)), (27, .slice (some ⟨B0, 0, none⟩) 1 1), (28, .int .i64 1), (29, .int .i64 0), (37, .agg #[.int .i64 m0_0, .int .i64 m0_1, .int .i64 m0_2, .int .i64 m0_3]), (38, .int .i64 1), (41, .pointer (some ⟨g42, 0, none⟩))]) (by kernel_rfl) ?_
    refine t_v (.ld1 rfl rfl rfl (.at 4 rfl rfl)) ?_
    refine t_qz 1 [1, 4, 5, 7, 8, 12, 27, 28, 29, 37, 38, 42, 43] (σ' := [(1, .int .i64 w1), (4, .pointer (some ⟨b40, 0, none⟩)), (5, .pointer (some ⟨b41, 0, none⟩)), (7, .pointer (some ⟨g42, 0, none⟩)), (8, .pointer (some ⟨g43, 0, none⟩)), (12, .pointer (some ⟨b46, 0, none⟩)), (27, .slice (some ⟨B0, 0, none⟩) 1 1), (28, .int .i64 1), (29, .int .i64 0), (37, .agg #[.int .i64 m0_0, .int .i64 m0_1, .int .i64 m0_2, .int .i64 m0_3]), (38, .int .i64 1), (42, .int .i64 (mn m0_0 m0_0)), (43, .pointer (some ⟨b46, 0, none⟩))]) (by kernel_rfl) ?_
    refine t_v (.ld1 rfl rfl rfl (.at 0 rfl rfl)) ?_
    refine t_qz 2 [1, 4, 5, 7, 8, 12, 27, 28, 29, 37, 38, 45, 46] (σ' := [(1, .int .i64 w1), (4, .pointer (some ⟨b40, 0, none⟩)), (5, .pointer (some ⟨b41, 0, none⟩)), (7, .pointer (some ⟨g42, 0, none⟩)), (8, .pointer (some ⟨g43, 0, none⟩)), (12, .pointer (some ⟨b46, 0, none⟩)), (27, .slice (some ⟨B0, 0, none⟩) 1 1), (28, .int .i64 1), (29, .int .i64 0), (37, .agg #[.int .i64 m0_0, .int .i64 m0_1, .int .i64 m0_2, .int .i64 m0_3]), (38, .int .i64 1), (45, .int .i64 (mn (mn m0_0 m0_0) m0_2)), (46, .pointer (some ⟨g42, 1, none⟩))]) (by kernel_rfl) ?_
    refine t_v (.ld1 rfl rfl rfl (.at 4 rfl rfl)) ?_
    refine t_qz 1 [1, 4, 5, 7, 8, 12, 27, 28, 29, 37, 38, 45, 47, 48] (σ' := [(1, .int .i64 w1), (4, .pointer (some ⟨b40, 0, none⟩)), (5, .pointer (some ⟨b41, 0, none⟩)), (7, .pointer (some ⟨g42, 0, none⟩)), (8, .pointer (some ⟨g43, 0, none⟩)), (12, .pointer (some ⟨b46, 0, none⟩)), (27, .slice (some ⟨B0, 0, none⟩) 1 1), (28, .int .i64 1), (29, .int .i64 0), (37, .agg #[.int .i64 m0_0, .int .i64 m0_1, .int .i64 m0_2, .int .i64 m0_3]), (38, .int .i64 1), (45, .int .i64 (mn (mn m0_0 m0_0) m0_2)), (47, .int .i64 (mn m0_1 m0_1)), (48, .pointer (some ⟨b46, 1, none⟩))]) (by kernel_rfl) ?_
    refine t_v (.ld1 rfl rfl rfl (.at 0 rfl rfl)) ?_
    refine t_qz 2 [1, 4, 5, 7, 8, 12, 27, 28, 29, 37, 38, 51] (σ' := [(1, .int .i64 w1), (4, .pointer (some ⟨b40, 0, none⟩)), (5, .pointer (some ⟨b41, 0, none⟩)), (7, .pointer (some ⟨g42, 0, none⟩)), (8, .pointer (some ⟨g43, 0, none⟩)), (12, .pointer (some ⟨b46, 0, none⟩)), (27, .slice (some ⟨B0, 0, none⟩) 1 1), (28, .int .i64 1), (29, .int .i64 0), (37, .agg #[.int .i64 m0_0, .int .i64 m0_1, .int .i64 m0_2, .int .i64 m0_3]), (38, .int .i64 1), (51, .agg #[.int .i64 (mn (mn m0_0 m0_0) m0_2), .int .i64 (mn (mn m0_1 m0_1) m0_3)])]) (by kernel_rfl) ?_
    refine t_sti 4 (cs := [.int .i64 (mn (mn m0_0 m0_0) m0_2), .int .i64 (mn (mn m0_1 m0_1) m0_3)]) rfl rfl rfl rfl rfl rfl rfl rfl rfl ?_
    refine t_keep [1, 4, 5, 7, 8, 12, 27, 28, 29, 37, 38] (σ' := [(1, .int .i64 w1), (4, .pointer (some ⟨b40, 0, none⟩)), (5, .pointer (some ⟨b41, 0, none⟩)), (7, .pointer (some ⟨g42, 0, none⟩)), (8, .pointer (some ⟨g43, 0, none⟩)), (12, .pointer (some ⟨b46, 0, none⟩)), (27, .slice (some ⟨B0, 0, none⟩) 1 1), (28, .int .i64 1), (29, .int .i64 0), (37, .agg #[.int .i64 m0_0, .int .i64 m0_1, .int .i64 m0_2, .int .i64 m0_3]), (38, .int .i64 1)]) (by kernel_rfl) ?_
    refine t_end ?_
    show W _ _ _ _ _ _ _
    refine w_reg fun all => ?_
    refine t_qz 1 [1, 4, 5, 7, 8, 12, 27, 28, 29, 37, 38, 52] (σ' := [(1, .int .i64 w1), (4, .pointer (some ⟨b40, 0, none⟩)), (5, .pointer (some ⟨b41, 0, none⟩)), (7, .pointer (some ⟨g42, 0, none⟩)), (8, .pointer (some ⟨g43, 0, none⟩)), (12, .pointer (some ⟨b46, 0, none⟩)), (27, .slice (some ⟨B0, 0, none⟩) 1 1), (28, .int .i64 1), (29, .int .i64 0), (37, .agg #[.int .i64 m0_0, .int .i64 m0_1, .int .i64 m0_2, .int .i64 m0_3]), (38, .int .i64 1), (52, .pointer (some ⟨g43, 0, none⟩))]) (by kernel_rfl) ?_
    refine t_v (.ld1 rfl rfl rfl (.at 3 rfl rfl)) ?_
    refine t_qz 1 [1, 4, 5, 7, 8, 12, 27, 28, 29, 37, 38, 53, 54] (σ' := [(1, .int .i64 w1), (4, .pointer (some ⟨b40, 0, none⟩)), (5, .pointer (some ⟨b41, 0, none⟩)), (7, .pointer (some ⟨g42, 0, none⟩)), (8, .pointer (some ⟨g43, 0, none⟩)), (12, .pointer (some ⟨b46, 0, none⟩)), (27, .slice (some ⟨B0, 0, none⟩) 1 1), (28, .int .i64 1), (29, .int .i64 0), (37, .agg #[.int .i64 m0_0, .int .i64 m0_1, .int .i64 m0_2, .int .i64 m0_3]), (38, .int .i64 1), (53, .int .i64 (mx m0_0 m0_0)), (54, .pointer (some ⟨b46, 0, none⟩))]) (by kernel_rfl) ?_
    refine t_v (.ld1 rfl rfl rfl (.at 0 rfl rfl)) ?_
    refine t_qz 2 [1, 4, 5, 7, 8, 12, 27, 28, 29, 37, 38, 56, 57] (σ' := [(1, .int .i64 w1), (4, .pointer (some ⟨b40, 0, none⟩)), (5, .pointer (some ⟨b41, 0, none⟩)), (7, .pointer (some ⟨g42, 0, none⟩)), (8, .pointer (some ⟨g43, 0, none⟩)), (12, .pointer (some ⟨b46, 0, none⟩)), (27, .slice (some ⟨B0, 0, none⟩) 1 1), (28, .int .i64 1), (29, .int .i64 0), (37, .agg #[.int .i64 m0_0, .int .i64 m0_1, .int .i64 m0_2, .int .i64 m0_3]), (38, .int .i64 1), (56, .int .i64 (mx (mx m0_0 m0_0) m0_2)), (57, .pointer (some ⟨g43, 1, none⟩))]) (by kernel_rfl) ?_
    refine t_v (.ld1 rfl rfl rfl (.at 3 rfl rfl)) ?_
    refine t_qz 1 [1, 4, 5, 7, 8, 27, 28, 29, 37, 38, 56, 58, 59] (σ' := [(1, .int .i64 w1), (4, .pointer (some ⟨b40, 0, none⟩)), (5, .pointer (some ⟨b41, 0, none⟩)), (7, .pointer (some ⟨g42, 0, none⟩)), (8, .pointer (some ⟨g43, 0, none⟩)), (27, .slice (some ⟨B0, 0, none⟩) 1 1), (28, .int .i64 1), (29, .int .i64 0), (37, .agg #[.int .i64 m0_0, .int .i64 m0_1, .int .i64 m0_2, .int .i64 m0_3]), (38, .int .i64 1), (56, .int .i64 (mx (mx m0_0 m0_0) m0_2)), (58, .int .i64 (mx m0_1 m0_1)), (59, .pointer (some ⟨b46, 1, none⟩))]) (by kernel_rfl) ?_
    refine t_v (.ld1 rfl rfl rfl (.at 0 rfl rfl)) ?_
    refine t_qz 2 [1, 4, 5, 7, 8, 27, 28, 29, 37, 38, 62] (σ' := [(1, .int .i64 w1), (4, .pointer (some ⟨b40, 0, none⟩)), (5, .pointer (some ⟨b41, 0, none⟩)), (7, .pointer (some ⟨g42, 0, none⟩)), (8, .pointer (some ⟨g43, 0, none⟩)), (27, .slice (some ⟨B0, 0, none⟩) 1 1), (28, .int .i64 1), (29, .int .i64 0), (37, .agg #[.int .i64 m0_0, .int .i64 m0_1, .int .i64 m0_2, .int .i64 m0_3]), (38, .int .i64 1), (62, .agg #[.int .i64 (mx (mx m0_0 m0_0) m0_2), .int .i64 (mx (mx m0_1 m0_1) m0_3)])]) (by kernel_rfl) ?_
    refine t_sti 3 (cs := [.int .i64 (mx (mx m0_0 m0_0) m0_2), .int .i64 (mx (mx m0_1 m0_1) m0_3)]) rfl rfl rfl rfl rfl rfl rfl rfl rfl ?_
    refine t_keep [1, 4, 5, 7, 8, 27, 28, 29, 37, 38] (σ' := [(1, .int .i64 w1), (4, .pointer (some ⟨b40, 0, none⟩)), (5, .pointer (some ⟨b41, 0, none⟩)), (7, .pointer (some ⟨g42, 0, none⟩)), (8, .pointer (some ⟨g43, 0, none⟩)), (27, .slice (some ⟨B0, 0, none⟩) 1 1), (28, .int .i64 1), (29, .int .i64 0), (37, .agg #[.int .i64 m0_0, .int .i64 m0_1, .int .i64 m0_2, .int .i64 m0_3]), (38, .int .i64 1)]) (by kernel_rfl) ?_
    refine t_end ?_
    show W _ _ _ _ _ _ _
    refine w_reg fun all => ?_
    refine t_qz 2 [1, 4, 5, 7, 8, 27, 28, 29, 37, 38] (σ' := [(1, .int .i64 w1), (4, .pointer (some ⟨b40, 0, none⟩)), (5, .pointer (some ⟨b41, 0, none⟩)), (7, .pointer (some ⟨g42, 0, none⟩)), (8, .pointer (some ⟨g43, 0, none⟩)), (27, .slice (some ⟨B0, 0, none⟩) 1 1), (28, .int .i64 1), (29, .int .i64 0), (37, .agg #[.int .i64 m0_0, .int .i64 m0_1, .int .i64 m0_2, .int .i64 m0_3]), (38, .int .i64 2)]) (by kernel_rfl) ?_
    refine t_end ?_
    show WL _ _ _ _ _ _ _ _
    refine wl_step ?_
    refine w_seq ?_
    refine w_reg fun all => ?_
    refine t_qz 1 [1, 4, 5, 7, 8, 27, 28, 29, 37, 38, 39] (σ' := [(1, .int .i64 w1), (4, .pointer (some ⟨b40, 0, none⟩)), (5, .pointer (some ⟨b41, 0, none⟩)), (7, .pointer (some ⟨g42, 0, none⟩)), (8, .pointer (some ⟨g43, 0, none⟩)), (27, .slice (some ⟨B0, 0, none⟩) 1 1), (28, .int .i64 1), (29, .int .i64 0), (37, .agg #[.int .i64 m0_0, .int .i64 m0_1, .int .i64 m0_2, .int .i64 m0_3]), (38, .int .i64 2), (39, .bool false)]) (by kernel_rfl) ?_
    refine t_end ?_
    show W _ _ _ _ _ _ _
    refine w_seq ?_
    refine w_cond rfl (fun c_ => by cases c_) (fun _ => ?_)
    show W _ _ _ _ _ _ _
    refine w_exit ?_
    show W _ _ _ _ _ _ _
    refine w_reg fun all => ?_
    refine t_qz 2 [1, 4, 5, 7, 8, 27, 28, 29] (σ' := [(1, .int .i64 w1), (4, .pointer (some ⟨b40, 0, none⟩)), (5, .pointer (some ⟨b41, 0, none⟩)), (7, .pointer (some ⟨g42, 0, none⟩)), (8, .pointer (some ⟨g43, 0, none⟩)), (27, .slice (some ⟨B0, 0, none⟩) 1 1), (28, .int .i64 1), (29, .int .i64 1)]) (by kernel_rfl) ?_
    refine t_end ?_
    show WL _ _ _ _ _ _ _ _
    refine wl_step ?_
    refine w_seq ?_
    refine w_reg fun all => ?_
    refine t_qz 1 [1, 4, 5, 7, 8, 27, 28, 29, 30] (σ' := [(1, .int .i64 w1), (4, .pointer (some ⟨b40, 0, none⟩)), (5, .pointer (some ⟨b41, 0, none⟩)), (7, .pointer (some ⟨g42, 0, none⟩)), (8, .pointer (some ⟨g43, 0, none⟩)), (27, .slice (some ⟨B0, 0, none⟩) 1 1), (28, .int .i64 1), (29, .int .i64 1), (30, .bool false)]) (by kernel_rfl) ?_
    refine t_end ?_
    show W _ _ _ _ _ _ _
    refine w_seq ?_
    refine w_cond rfl (fun c_ => by cases c_) (fun _ => ?_)
    show W _ _ _ _ _ _ _
    refine w_exit ?_
    show W _ _ _ _ _ _ _
    refine w_seq ?_
    refine w_reg fun all => ?_
    refine t_qz 4 [4, 5, 7, 8, 13] (σ' := [(4, .pointer (some ⟨b40, 0, none⟩)), (5, .pointer (some ⟨b41, 0, none⟩)), (7, .pointer (some ⟨g42, 0, none⟩)), (8, .pointer (some ⟨g43, 0, none⟩)), (13, .int .i64 (wr64 (Int.tdiv (wr64 (w1 + 1)) 2)))]) (by kernel_rfl) ?_
    refine t_end ?_
    show W _ _ _ _ _ _ _
    refine w_seq ?_
    refine w_kp [4, 5, 7, 8, 13] (σ' := [(4, .pointer (some ⟨b40, 0, none⟩)), (5, .pointer (some ⟨b41, 0, none⟩)), (7, .pointer (some ⟨g42, 0, none⟩)), (8, .pointer (some ⟨g43, 0, none⟩)), (13, .int .i64 (wr64 (Int.tdiv (wr64 (w1 + 1)) 2)))]) (by kernel_rfl) ?_
    refine w_gameQ mixed (by kernel_rfl) fun all G hend hstep hqf => ?_
    have hg_1fffff : G [true, true, true, true, true, true, true, true, true, true, true, true, true, true, true, true, true, true, true, true, true] [(4, .pointer (some ⟨b40, 0, none⟩)), (5, .pointer (some ⟨b41, 0, none⟩)), (6, .bool true)] ([⟨b46, [.int .i64 m0_2, .int .i64 m0_3], 2⟩, ⟨b45, [.int .i64 m0_0, .int .i64 m0_1], 2⟩, ⟨b44, [.int .i64 m0_0, .int .i64 m0_1, .int .i64 m0_2, .int .i64 m0_3], 4⟩, ⟨g43, [.int .i64 (mx (mx m0_0 m0_0) m0_2), .int .i64 (mx (mx m0_1 m0_1) m0_3)], 2⟩, ⟨g42, [.int .i64 (mn (mn m0_0 m0_0) m0_2), .int .i64 (mn (mn m0_1 m0_1) m0_3)], 2⟩, ⟨b41, [.int .i64 (wr64 ((mx (mx m0_0 m0_0) m0_2) + (wr64 (Int.tdiv (wr64 (w1 + 1)) 2)))), .int .i64 (wr64 ((mx (mx m0_1 m0_1) m0_3) + (wr64 (Int.tdiv (wr64 (w1 + 1)) 2))))], 2⟩, ⟨b40, [.int .i64 (wr64 ((mn (mn m0_0 m0_0) m0_2) - (wr64 (Int.tdiv (wr64 (w1 + 1)) 2)))), .int .i64 (wr64 ((mn (mn m0_1 m0_1) m0_3) - (wr64 (Int.tdiv (wr64 (w1 + 1)) 2))))], 2⟩, ⟨B0, [.int .i64 m0_0, .int .i64 m0_1, .int .i64 m0_2, .int .i64 m0_3], 4⟩] : List Own) := by
      refine hend _ _ _ (by kernel_rfl) ?_
      show W _ _ _ _ _ _ _
      refine w_ret ?_
      simp only [Option.some.injEq, Prod.mk.injEq] at e
      obtain ⟨rfl, rfl, rfl, rfl, rfl⟩ := e
      exact ⟨[.agg #[.int .i64 (wr64 ((mn (mn m0_0 m0_0) m0_2) - (wr64 (Int.tdiv (wr64 (w1 + 1)) 2)))), .int .i64 (wr64 ((mn (mn m0_1 m0_1) m0_3) - (wr64 (Int.tdiv (wr64 (w1 + 1)) 2))))], .agg #[.int .i64 (wr64 ((mx (mx m0_0 m0_0) m0_2) + (wr64 (Int.tdiv (wr64 (w1 + 1)) 2)))), .int .i64 (wr64 ((mx (mx m0_1 m0_1) m0_3) + (wr64 (Int.tdiv (wr64 (w1 + 1)) 2))))], .bool true], ([⟨B0, [.int .i64 m0_0, .int .i64 m0_1, .int .i64 m0_2, .int .i64 m0_3], 4⟩] : List Own), S, ⟨⟨_, _, _, rfl, .at 6 rfl rfl, rfl⟩, ⟨_, _, _, rfl, .at 5 rfl rfl, rfl⟩, rfl, trivial⟩, VS.sel [7] (by kernel_rfl), rfl, rfl, rfl⟩
    have hg_fffff : G [true, true, true, true, true, true, true, true, true, true, true, true, true, true, true, true, true, true, true, true, false] [(4, .pointer (some ⟨b40, 0, none⟩)), (5, .pointer (some ⟨b41, 0, none⟩))] ([⟨b46, [.int .i64 m0_2, .int .i64 m0_3], 2⟩, ⟨b45, [.int .i64 m0_0, .int .i64 m0_1], 2⟩, ⟨b44, [.int .i64 m0_0, .int .i64 m0_1, .int .i64 m0_2, .int .i64 m0_3], 4⟩, ⟨g43, [.int .i64 (mx (mx m0_0 m0_0) m0_2), .int .i64 (mx (mx m0_1 m0_1) m0_3)], 2⟩, ⟨g42, [.int .i64 (mn (mn m0_0 m0_0) m0_2), .int .i64 (mn (mn m0_1 m0_1) m0_3)], 2⟩, ⟨b41, [.int .i64 (wr64 ((mx (mx m0_0 m0_0) m0_2) + (wr64 (Int.tdiv (wr64 (w1 + 1)) 2)))), .int .i64 (wr64 ((mx (mx m0_1 m0_1) m0_3) + (wr64 (Int.tdiv (wr64 (w1 + 1)) 2))))], 2⟩, ⟨b40, [.int .i64 (wr64 ((mn (mn m0_0 m0_0) m0_2) - (wr64 (Int.tdiv (wr64 (w1 + 1)) 2)))), .int .i64 (wr64 ((mn (mn m0_1 m0_1) m0_3) - (wr64 (Int.tdiv (wr64 (w1 + 1)) 2))))], 2⟩, ⟨B0, [.int .i64 m0_0, .int .i64 m0_1, .int .i64 m0_2, .int .i64 m0_3], 4⟩] : List Own) := by
      exact hqf 20 [4, 5, 6] _ _ _ [(4, .pointer (some ⟨b40, 0, none⟩)), (5, .pointer (some ⟨b41, 0, none⟩)), (6, .bool true)] (by kernel_rfl) (by kernel_rfl) hg_1fffff
    have hg_7ffff : G [true, true, true, true, true, true, true, true, true, true, true, true, true, true, true, true, true, true, true, false, false] [(4, .pointer (some ⟨b40, 0, none⟩)), (5, .pointer (some ⟨b41, 0, none⟩)), (85, .agg #[.int .i64 (wr64 ((mx (mx m0_0 m0_0) m0_2) + (wr64 (Int.tdiv (wr64 (w1 + 1)) 2)))), .int .i64 (wr64 ((mx (mx m0_1 m0_1) m0_3) + (wr64 (Int.tdiv (wr64 (w1 + 1)) 2))))])] ([⟨b46, [.int .i64 m0_2, .int .i64 m0_3], 2⟩, ⟨b45, [.int .i64 m0_0, .int .i64 m0_1], 2⟩, ⟨b44, [.int .i64 m0_0, .int .i64 m0_1, .int .i64 m0_2, .int .i64 m0_3], 4⟩, ⟨g43, [.int .i64 (mx (mx m0_0 m0_0) m0_2), .int .i64 (mx (mx m0_1 m0_1) m0_3)], 2⟩, ⟨g42, [.int .i64 (mn (mn m0_0 m0_0) m0_2), .int .i64 (mn (mn m0_1 m0_1) m0_3)], 2⟩, ⟨b41, [.int .i64 0, .int .i64 0], 2⟩, ⟨b40, [.int .i64 (wr64 ((mn (mn m0_0 m0_0) m0_2) - (wr64 (Int.tdiv (wr64 (w1 + 1)) 2)))), .int .i64 (wr64 ((mn (mn m0_1 m0_1) m0_3) - (wr64 (Int.tdiv (wr64 (w1 + 1)) 2))))], 2⟩, ⟨B0, [.int .i64 m0_0, .int .i64 m0_1, .int .i64 m0_2, .int .i64 m0_3], 4⟩] : List Own) := by
      refine hstep [19] _ _ _ (by kernel_rfl) (List.cons_ne_nil _ _) ⟨?_, trivial⟩
      · show T _ _ _ _ _ _ _ _
        refine t_sti 5 (cs := [.int .i64 (wr64 ((mx (mx m0_0 m0_0) m0_2) + (wr64 (Int.tdiv (wr64 (w1 + 1)) 2)))), .int .i64 (wr64 ((mx (mx m0_1 m0_1) m0_3) + (wr64 (Int.tdiv (wr64 (w1 + 1)) 2))))]) rfl rfl rfl rfl rfl rfl rfl rfl rfl ?_
        refine t_keep [4, 5] (σ' := [(4, .pointer (some ⟨b40, 0, none⟩)), (5, .pointer (some ⟨b41, 0, none⟩))]) (by kernel_rfl) ?_
        refine t_end ?_
        exact ⟨hg_fffff, rfl⟩
    have hg_5ffff : G [true, true, true, true, true, true, true, true, true, true, true, true, true, true, true, true, true, false, true, false, false] [(4, .pointer (some ⟨b40, 0, none⟩)), (5, .pointer (some ⟨b41, 0, none⟩)), (80, .int .i64 (wr64 ((mx (mx m0_0 m0_0) m0_2) + (wr64 (Int.tdiv (wr64 (w1 + 1)) 2))))), (84, .int .i64 (wr64 ((mx (mx m0_1 m0_1) m0_3) + (wr64 (Int.tdiv (wr64 (w1 + 1)) 2)))))] ([⟨b46, [.int .i64 m0_2, .int .i64 m0_3], 2⟩, ⟨b45, [.int .i64 m0_0, .int .i64 m0_1], 2⟩, ⟨b44, [.int .i64 m0_0, .int .i64 m0_1, .int .i64 m0_2, .int .i64 m0_3], 4⟩, ⟨g43, [.int .i64 (mx (mx m0_0 m0_0) m0_2), .int .i64 (mx (mx m0_1 m0_1) m0_3)], 2⟩, ⟨g42, [.int .i64 (mn (mn m0_0 m0_0) m0_2), .int .i64 (mn (mn m0_1 m0_1) m0_3)], 2⟩, ⟨b41, [.int .i64 0, .int .i64 0], 2⟩, ⟨b40, [.int .i64 (wr64 ((mn (mn m0_0 m0_0) m0_2) - (wr64 (Int.tdiv (wr64 (w1 + 1)) 2)))), .int .i64 (wr64 ((mn (mn m0_1 m0_1) m0_3) - (wr64 (Int.tdiv (wr64 (w1 + 1)) 2))))], 2⟩, ⟨B0, [.int .i64 m0_0, .int .i64 m0_1, .int .i64 m0_2, .int .i64 m0_3], 4⟩] : List Own) := by
      exact hqf 17 [4, 5, 85] _ _ _ [(4, .pointer (some ⟨b40, 0, none⟩)), (5, .pointer (some ⟨b41, 0, none⟩)), (85, .agg #[.int .i64 (wr64 ((mx (mx m0_0 m0_0) m0_2) + (wr64 (Int.tdiv (wr64 (w1 + 1)) 2)))), .int .i64 (wr64 ((mx (mx m0_1 m0_1) m0_3) + (wr64 (Int.tdiv (wr64 (w1 + 1)) 2))))])] (by kernel_rfl) (by kernel_rfl) hg_7ffff
    have hg_3ffff : G [true, true, true, true, true, true, true, true, true, true, true, true, true, true, true, true, true, true, false, false, false] [(4, .pointer (some ⟨b40, 0, none⟩)), (5, .pointer (some ⟨b41, 0, none⟩)), (76, .agg #[.int .i64 (wr64 ((mn (mn m0_0 m0_0) m0_2) - (wr64 (Int.tdiv (wr64 (w1 + 1)) 2)))), .int .i64 (wr64 ((mn (mn m0_1 m0_1) m0_3) - (wr64 (Int.tdiv (wr64 (w1 + 1)) 2))))]), (85, .agg #[.int .i64 (wr64 ((mx (mx m0_0 m0_0) m0_2) + (wr64 (Int.tdiv (wr64 (w1 + 1)) 2)))), .int .i64 (wr64 ((mx (mx m0_1 m0_1) m0_3) + (wr64 (Int.tdiv (wr64 (w1 + 1)) 2))))])] ([⟨b46, [.int .i64 m0_2, .int .i64 m0_3], 2⟩, ⟨b45, [.int .i64 m0_0, .int .i64 m0_1], 2⟩, ⟨b44, [.int .i64 m0_0, .int .i64 m0_1, .int .i64 m0_2, .int .i64 m0_3], 4⟩, ⟨g43, [.int .i64 (mx (mx m0_0 m0_0) m0_2), .int .i64 (mx (mx m0_1 m0_1) m0_3)], 2⟩, ⟨g42, [.int .i64 (mn (mn m0_0 m0_0) m0_2), .int .i64 (mn (mn m0_1 m0_1) m0_3)], 2⟩, ⟨b41, [.int .i64 0, .int .i64 0], 2⟩, ⟨b40, [.int .i64 0, .int .i64 0], 2⟩, ⟨B0, [.int .i64 m0_0, .int .i64 m0_1, .int .i64 m0_2, .int .i64 m0_3], 4⟩] : List Own) := by
      refine hstep [18] _ _ _ (by kernel_rfl) (List.cons_ne_nil _ _) ⟨?_, trivial⟩
      · show T _ _ _ _ _ _ _ _
        refine t_sti 6 (cs := [.int .i64 (wr64 ((mn (mn m0_0 m0_0) m0_2) - (wr64 (Int.tdiv (wr64 (w1 + 1)) 2)))), .int .i64 (wr64 ((mn (mn m0_1 m0_1) m0_3) - (wr64 (Int.tdiv (wr64 (w1 + 1)) 2))))]) rfl rfl rfl rfl rfl rfl rfl rfl rfl ?_
        refine t_keep [4, 5, 85] (σ' := [(4, .pointer (some ⟨b40, 0, none⟩)), (5, .pointer (some ⟨b41, 0, none⟩)), (85, .agg #[.int .i64 (wr64 ((mx (mx m0_0 m0_0) m0_2) + (wr64 (Int.tdiv (wr64 (w1 + 1)) 2)))), .int .i64 (wr64 ((mx (mx m0_1 m0_1) m0_3) + (wr64 (Int.tdiv (wr64 (w1 + 1)) 2))))])]) (by kernel_rfl) ?_
        refine t_end ?_
        exact ⟨hg_7ffff, rfl⟩
    have hg_4ffff : G [true, true, true, true, true, true, true, true, true, true, true, true, true, true, true, true, false, false, true, false, false] [(4, .pointer (some ⟨b40, 0, none⟩)), (5, .pointer (some ⟨b41, 0, none⟩)), (80, .int .i64 (wr64 ((mx (mx m0_0 m0_0) m0_2) + (wr64 (Int.tdiv (wr64 (w1 + 1)) 2))))), (82, .int .i64 (mx (mx m0_1 m0_1) m0_3)), (83, .int .i64 (wr64 (Int.tdiv (wr64 (w1 + 1)) 2)))] ([⟨b46, [.int .i64 m0_2, .int .i64 m0_3], 2⟩, ⟨b45, [.int .i64 m0_0, .int .i64 m0_1], 2⟩, ⟨b44, [.int .i64 m0_0, .int .i64 m0_1, .int .i64 m0_2, .int .i64 m0_3], 4⟩, ⟨g43, [.int .i64 (mx (mx m0_0 m0_0) m0_2), .int .i64 (mx (mx m0_1 m0_1) m0_3)], 2⟩, ⟨g42, [.int .i64 (mn (mn m0_0 m0_0) m0_2), .int .i64 (mn (mn m0_1 m0_1) m0_3)], 2⟩, ⟨b41, [.int .i64 0, .int .i64 0], 2⟩, ⟨b40, [.int .i64 (wr64 ((mn (mn m0_0 m0_0) m0_2) - (wr64 (Int.tdiv (wr64 (w1 + 1)) 2)))), .int .i64 (wr64 ((mn (mn m0_1 m0_1) m0_3) - (wr64 (Int.tdiv (wr64 (w1 + 1)) 2))))], 2⟩, ⟨B0, [.int .i64 m0_0, .int .i64 m0_1, .int .i64 m0_2, .int .i64 m0_3], 4⟩] : List Own) := by
      exact hqf 16 [4, 5, 80, 84] _ _ _ [(4, .pointer (some ⟨b40, 0, none⟩)), (5, .pointer (some ⟨b41, 0, none⟩)), (80, .int .i64 (wr64 ((mx (mx m0_0 m0_0) m0_2) + (wr64 (Int.tdiv (wr64 (w1 + 1)) 2))))), (84, .int .i64 (wr64 ((mx (mx m0_1 m0_1) m0_3) + (wr64 (Int.tdiv (wr64 (w1 + 1)) 2)))))] (by kernel_rfl) (by kernel_rfl) hg_5ffff
    have hg_5efff : G [true, true, true, true, true, true, true, true, true, true, true, true, false, true, true, true, true, false, true, false, false] [(4, .pointer (some ⟨b40, 0, none⟩)), (5, .pointer (some ⟨b41, 0, none⟩)), (78, .int .i64 (mx (mx m0_0 m0_0) m0_2)), (79, .int .i64 (wr64 (Int.tdiv (wr64 (w1 + 1)) 2))), (84, .int .i64 (wr64 ((mx (mx m0_1 m0_1) m0_3) + (wr64 (Int.tdiv (wr64 (w1 + 1)) 2)))))] ([⟨b46, [.int .i64 m0_2, .int .i64 m0_3], 2⟩, ⟨b45, [.int .i64 m0_0, .int .i64 m0_1], 2⟩, ⟨b44, [.int .i64 m0_0, .int .i64 m0_1, .int .i64 m0_2, .int .i64 m0_3], 4⟩, ⟨g43, [.int .i64 (mx (mx m0_0 m0_0) m0_2), .int .i64 (mx (mx m0_1 m0_1) m0_3)], 2⟩, ⟨g42, [.int .i64 (mn (mn m0_0 m0_0) m0_2), .int .i64 (mn (mn m0_1 m0_1) m0_3)], 2⟩, ⟨b41, [.int .i64 0, .int .i64 0], 2⟩, ⟨b40, [.int .i64 (wr64 ((mn (mn m0_0 m0_0) m0_2) - (wr64 (Int.tdiv (wr64 (w1 + 1)) 2)))), .int .i64 (wr64 ((mn (mn m0_1 m0_1) m0_3) - (wr64 (Int.tdiv (wr64 (w1 + 1)) 2))))], 2⟩, ⟨B0, [.int .i64 m0_0, .int .i64 m0_1, .int .i64 m0_2, .int .i64 m0_3], 4⟩] : List Own) := by
      exact hqf 12 [4, 5, 80, 84] _ _ _ [(4, .pointer (some ⟨b40, 0, none⟩)), (5, .pointer (some ⟨b41, 0, none⟩)), (80, .int .i64 (wr64 ((mx (mx m0_0 m0_0) m0_2) + (wr64 (Int.tdiv (wr64 (w1 + 1)) 2))))), (84, .int .i64 (wr64 ((mx (mx m0_1 m0_1) m0_3) + (wr64 (Int.tdiv (wr64 (w1 + 1)) 2)))))] (by kernel_rfl) (by kernel_rfl) hg_5ffff
    have hg_1ffff : G [true, true, true, true, true, true, true, true, true, true, true, true, true, true, true, true, true, false, false, false, false] [(4, .pointer (some ⟨b40, 0, none⟩)), (5, .pointer (some ⟨b41, 0, none⟩)), (76, .agg #[.int .i64 (wr64 ((mn (mn m0_0 m0_0) m0_2) - (wr64 (Int.tdiv (wr64 (w1 + 1)) 2)))), .int .i64 (wr64 ((mn (mn m0_1 m0_1) m0_3) - (wr64 (Int.tdiv (wr64 (w1 + 1)) 2))))]), (80, .int .i64 (wr64 ((mx (mx m0_0 m0_0) m0_2) + (wr64 (Int.tdiv (wr64 (w1 + 1)) 2))))), (84, .int .i64 (wr64 ((mx (mx m0_1 m0_1) m0_3) + (wr64 (Int.tdiv (wr64 (w1 + 1)) 2)))))] ([⟨b46, [.int .i64 m0_2, .int .i64 m0_3], 2⟩, ⟨b45, [.int .i64 m0_0, .int .i64 m0_1], 2⟩, ⟨b44, [.int .i64 m0_0, .int .i64 m0_1, .int .i64 m0_2, .int .i64 m0_3], 4⟩, ⟨g43, [.int .i64 (mx (mx m0_0 m0_0) m0_2), .int .i64 (mx (mx m0_1 m0_1) m0_3)], 2⟩, ⟨g42, [.int .i64 (mn (mn m0_0 m0_0) m0_2), .int .i64 (mn (mn m0_1 m0_1) m0_3)], 2⟩, ⟨b41, [.int .i64 0, .int .i64 0], 2⟩, ⟨b40, [.int .i64 0, .int .i64 0], 2⟩, ⟨B0, [.int .i64 m0_0, .int .i64 m0_1, .int .i64 m0_2, .int .i64 m0_3], 4⟩] : List Own) := by
      exact hqf 17 [4, 5, 76, 85] _ _ _ [(4, .pointer (some ⟨b40, 0, none⟩)), (5, .pointer (some ⟨b41, 0, none⟩)), (76, .agg #[.int .i64 (wr64 ((mn (mn m0_0 m0_0) m0_2) - (wr64 (Int.tdiv (wr64 (w1 + 1)) 2)))), .int .i64 (wr64 ((mn (mn m0_1 m0_1) m0_3) - (wr64 (Int.tdiv (wr64 (w1 + 1)) 2))))]), (85, .agg #[.int .i64 (wr64 ((mx (mx m0_0 m0_0) m0_2) + (wr64 (Int.tdiv (wr64 (w1 + 1)) 2)))), .int .i64 (wr64 ((mx (mx m0_1 m0_1) m0_3) + (wr64 (Int.tdiv (wr64 (w1 + 1)) 2))))])] (by kernel_rfl) (by kernel_rfl) hg_3ffff
    have hg_3feff : G [true, true, true, true, true, true, true, true, false, true, true, true, true, true, true, true, true, true, false, false, false] [(4, .pointer (some ⟨b40, 0, none⟩)), (5, .pointer (some ⟨b41, 0, none⟩)), (71, .int .i64 (wr64 ((mn (mn m0_0 m0_0) m0_2) - (wr64 (Int.tdiv (wr64 (w1 + 1)) 2))))), (75, .int .i64 (wr64 ((mn (mn m0_1 m0_1) m0_3) - (wr64 (Int.tdiv (wr64 (w1 + 1)) 2))))), (85, .agg #[.int .i64 (wr64 ((mx (mx m0_0 m0_0) m0_2) + (wr64 (Int.tdiv (wr64 (w1 + 1)) 2)))), .int .i64 (wr64 ((mx (mx m0_1 m0_1) m0_3) + (wr64 (Int.tdiv (wr64 (w1 + 1)) 2))))])] ([⟨b46, [.int .i64 m0_2, .int .i64 m0_3], 2⟩, ⟨b45, [.int .i64 m0_0, .int .i64 m0_1], 2⟩, ⟨b44, [.int .i64 m0_0, .int .i64 m0_1, .int .i64 m0_2, .int .i64 m0_3], 4⟩, ⟨g43, [.int .i64 (mx (mx m0_0 m0_0) m0_2), .int .i64 (mx (mx m0_1 m0_1) m0_3)], 2⟩, ⟨g42, [.int .i64 (mn (mn m0_0 m0_0) m0_2), .int .i64 (mn (mn m0_1 m0_1) m0_3)], 2⟩, ⟨b41, [.int .i64 0, .int .i64 0], 2⟩, ⟨b40, [.int .i64 0, .int .i64 0], 2⟩, ⟨B0, [.int .i64 m0_0, .int .i64 m0_1, .int .i64 m0_2, .int .i64 m0_3], 4⟩] : List Own) := by
      exact hqf 8 [4, 5, 76, 85] _ _ _ [(4, .pointer (some ⟨b40, 0, none⟩)), (5, .pointer (some ⟨b41, 0, none⟩)), (76, .agg #[.int .i64 (wr64 ((mn (mn m0_0 m0_0) m0_2) - (wr64 (Int.tdiv (wr64 (w1 + 1)) 2)))), .int .i64 (wr64 ((mn (mn m0_1 m0_1) m0_3) - (wr64 (Int.tdiv (wr64 (w1 + 1)) 2))))]), (85, .agg #[.int .i64 (wr64 ((mx (mx m0_0 m0_0) m0_2) + (wr64 (Int.tdiv (wr64 (w1 + 1)) 2)))), .int .i64 (wr64 ((mx (mx m0_1 m0_1) m0_3) + (wr64 (Int.tdiv (wr64 (w1 + 1)) 2))))])] (by kernel_rfl) (by kernel_rfl) hg_3ffff
    have hg_4bfff : G [true, true, true, true, true, true, true, true, true, true, true, true, true, true, false, true, false, false, true, false, false] [(4, .pointer (some ⟨b40, 0, none⟩)), (5, .pointer (some ⟨b41, 0, none⟩)), (80, .int .i64 (wr64 ((mx (mx m0_0 m0_0) m0_2) + (wr64 (Int.tdiv (wr64 (w1 + 1)) 2))))), (81, .pointer (some ⟨g43, 1, none⟩)), (83, .int .i64 (wr64 (Int.tdiv (wr64 (w1 + 1)) 2)))] ([⟨b46, [.int .i64 m0_2, .int .i64 m0_3], 2⟩, ⟨b45, [.int .i64 m0_0, .int .i64 m0_1], 2⟩, ⟨b44, [.int .i64 m0_0, .int .i64 m0_1, .int .i64 m0_2, .int .i64 m0_3], 4⟩, ⟨g43, [.int .i64 (mx (mx m0_0 m0_0) m0_2), .int .i64 (mx (mx m0_1 m0_1) m0_3)], 2⟩, ⟨g42, [.int .i64 (mn (mn m0_0 m0_0) m0_2), .int .i64 (mn (mn m0_1 m0_1) m0_3)], 2⟩, ⟨b41, [.int .i64 0, .int .i64 0], 2⟩, ⟨b40, [.int .i64 (wr64 ((mn (mn m0_0 m0_0) m0_2) - (wr64 (Int.tdiv (wr64 (w1 + 1)) 2)))), .int .i64 (wr64 ((mn (mn m0_1 m0_1) m0_3) - (wr64 (Int.tdiv (wr64 (w1 + 1)) 2))))], 2⟩, ⟨B0, [.int .i64 m0_0, .int .i64 m0_1, .int .i64 m0_2, .int .i64 m0_3], 4⟩] : List Own) := by
      refine hstep [14] _ _ _ (by kernel_rfl) (List.cons_ne_nil _ _) ⟨?_, trivial⟩
      · show T _ _ _ _ _ _ _ _
        refine t_v (.ld1 rfl rfl rfl (.at 3 rfl rfl)) ?_
        refine t_keep [4, 5, 80, 82, 83] (σ' := [(4, .pointer (some ⟨b40, 0, none⟩)), (5, .pointer (some ⟨b41, 0, none⟩)), (80, .int .i64 (wr64 ((mx (mx m0_0 m0_0) m0_2) + (wr64 (Int.tdiv (wr64 (w1 + 1)) 2))))), (82, .int .i64 (mx (mx m0_1 m0_1) m0_3)), (83, .int .i64 (wr64 (Int.tdiv (wr64 (w1 + 1)) 2)))]) (by kernel_rfl) ?_
        refine t_end ?_
        exact ⟨hg_4ffff, rfl⟩
    have hg_ffff : G [true, true, true, true, true, true, true, true, true, true, true, true, true, true, true, true, false, false, false, false, false] [(4, .pointer (some ⟨b40, 0, none⟩)), (5, .pointer (some ⟨b41, 0, none⟩)), (76, .agg #[.int .i64 (wr64 ((mn (mn m0_0 m0_0) m0_2) - (wr64 (Int.tdiv (wr64 (w1 + 1)) 2)))), .int .i64 (wr64 ((mn (mn m0_1 m0_1) m0_3) - (wr64 (Int.tdiv (wr64 (w1 + 1)) 2))))]), (80, .int .i64 (wr64 ((mx (mx m0_0 m0_0) m0_2) + (wr64 (Int.tdiv (wr64 (w1 + 1)) 2))))), (82, .int .i64 (mx (mx m0_1 m0_1) m0_3)), (83, .int .i64 (wr64 (Int.tdiv (wr64 (w1 + 1)) 2)))] ([⟨b46, [.int .i64 m0_2, .int .i64 m0_3], 2⟩, ⟨b45, [.int .i64 m0_0, .int .i64 m0_1], 2⟩, ⟨b44, [.int .i64 m0_0, .int .i64 m0_1, .int .i64 m0_2, .int .i64 m0_3], 4⟩, ⟨g43, [.int .i64 (mx (mx m0_0 m0_0) m0_2), .int .i64 (mx (mx m0_1 m0_1) m0_3)], 2⟩, ⟨g42, [.int .i64 (mn (mn m0_0 m0_0) m0_2), .int .i64 (mn (mn m0_1 m0_1) m0_3)], 2⟩, ⟨b41, [.int .i64 0, .int .i64 0], 2⟩, ⟨b40, [.int .i64 0, .int .i64 0], 2⟩, ⟨B0, [.int .i64 m0_0, .int .i64 m0_1, .int .i64 m0_2, .int .i64 m0_3], 4⟩] : List Own) := by
      exact hqf 16 [4, 5, 76, 80, 84] _ _ _ [(4, .pointer (some ⟨b40, 0, none⟩)), (5, .pointer (some ⟨b41, 0, none⟩)), (76, .agg #[.int .i64 (wr64 ((mn (mn m0_0 m0_0) m0_2) - (wr64 (Int.tdiv (wr64 (w1 + 1)) 2)))), .int .i64 (wr64 ((mn (mn m0_1 m0_1) m0_3) - (wr64 (Int.tdiv (wr64 (w1 + 1)) 2))))]), (80, .int .i64 (wr64 ((mx (mx m0_0 m0_0) m0_2) + (wr64 (Int.tdiv (wr64 (w1 + 1)) 2))))), (84, .int .i64 (wr64 ((mx (mx m0_1 m0_1) m0_3) + (wr64 (Int.tdiv (wr64 (w1 + 1)) 2)))))] (by kernel_rfl) (by kernel_rfl) hg_1ffff
    have hg_3fef7 : G [true, true, true, false, true, true, true, true, false, true, true, true, true, true, true, true, true, true, false, false, false] [(4, .pointer (some ⟨b40, 0, none⟩)), (5, .pointer (some ⟨b41, 0, none⟩)), (69, .int .i64 (mn (mn m0_0 m0_0) m0_2)), (70, .int .i64 (wr64 (Int.tdiv (wr64 (w1 + 1)) 2))), (75, .int .i64 (wr64 ((mn (mn m0_1 m0_1) m0_3) - (wr64 (Int.tdiv (wr64 (w1 + 1)) 2))))), (85, .agg #[.int .i64 (wr64 ((mx (mx m0_0 m0_0) m0_2) + (wr64 (Int.tdiv (wr64 (w1 + 1)) 2)))), .int .i64 (wr64 ((mx (mx m0_1 m0_1) m0_3) + (wr64 (Int.tdiv (wr64 (w1 + 1)) 2))))])] ([⟨b46, [.int .i64 m0_2, .int .i64 m0_3], 2⟩, ⟨b45, [.int .i64 m0_0, .int .i64 m0_1], 2⟩, ⟨b44, [.int .i64 m0_0, .int .i64 m0_1, .int .i64 m0_2, .int .i64 m0_3], 4⟩, ⟨g43, [.int .i64 (mx (mx m0_0 m0_0) m0_2), .int .i64 (mx (mx m0_1 m0_1) m0_3)], 2⟩, ⟨g42, [.int .i64 (mn (mn m0_0 m0_0) m0_2), .int .i64 (mn (mn m0_1 m0_1) m0_3)], 2⟩, ⟨b41, [.int .i64 0, .int .i64 0], 2⟩, ⟨b40, [.int .i64 0, .int .i64 0], 2⟩, ⟨B0, [.int .i64 m0_0, .int .i64 m0_1, .int .i64 m0_2, .int .i64 m0_3], 4⟩] : List Own) := by
      exact hqf 3 [4, 5, 71, 75, 85] _ _ _ [(4, .pointer (some ⟨b40, 0, none⟩)), (5, .pointer (some ⟨b41, 0, none⟩)), (71, .int .i64 (wr64 ((mn (mn m0_0 m0_0) m0_2) - (wr64 (Int.tdiv (wr64 (w1 + 1)) 2))))), (75, .int .i64 (wr64 ((mn (mn m0_1 m0_1) m0_3) - (wr64 (Int.tdiv (wr64 (w1 + 1)) 2))))), (85, .agg #[.int .i64 (wr64 ((mx (mx m0_0 m0_0) m0_2) + (wr64 (Int.tdiv (wr64 (w1 + 1)) 2)))), .int .i64 (wr64 ((mx (mx m0_1 m0_1) m0_3) + (wr64 (Int.tdiv (wr64 (w1 + 1)) 2))))])] (by kernel_rfl) (by kernel_rfl) hg_3feff
    have hg_5ebff : G [true, true, true, true, true, true, true, true, true, true, false, true, false, true, true, true, true, false, true, false, false] [(4, .pointer (some ⟨b40, 0, none⟩)), (5, .pointer (some ⟨b41, 0, none⟩)), (77, .pointer (some ⟨g43, 0, none⟩)), (79, .int .i64 (wr64 (Int.tdiv (wr64 (w1 + 1)) 2))), (84, .int .i64 (wr64 ((mx (mx m0_1 m0_1) m0_3) + (wr64 (Int.tdiv (wr64 (w1 + 1)) 2)))))] ([⟨b46, [.int .i64 m0_2, .int .i64 m0_3], 2⟩, ⟨b45, [.int .i64 m0_0, .int .i64 m0_1], 2⟩, ⟨b44, [.int .i64 m0_0, .int .i64 m0_1, .int .i64 m0_2, .int .i64 m0_3], 4⟩, ⟨g43, [.int .i64 (mx (mx m0_0 m0_0) m0_2), .int .i64 (mx (mx m0_1 m0_1) m0_3)], 2⟩, ⟨g42, [.int .i64 (mn (mn m0_0 m0_0) m0_2), .int .i64 (mn (mn m0_1 m0_1) m0_3)], 2⟩, ⟨b41, [.int .i64 0, .int .i64 0], 2⟩, ⟨b40, [.int .i64 (wr64 ((mn (mn m0_0 m0_0) m0_2) - (wr64 (Int.tdiv (wr64 (w1 + 1)) 2)))), .int .i64 (wr64 ((mn (mn m0_1 m0_1) m0_3) - (wr64 (Int.tdiv (wr64 (w1 + 1)) 2))))], 2⟩, ⟨B0, [.int .i64 m0_0, .int .i64 m0_1, .int .i64 m0_2, .int .i64 m0_3], 4⟩] : List Own) := by
      refine hstep [10] _ _ _ (by kernel_rfl) (List.cons_ne_nil _ _) ⟨?_, trivial⟩
      · show T _ _ _ _ _ _ _ _
        refine t_v (.ld1 rfl rfl rfl (.at 3 rfl rfl)) ?_
        refine t_keep [4, 5, 78, 79, 84] (σ' := [(4, .pointer (some ⟨b40, 0, none⟩)), (5, .pointer (some ⟨b41, 0, none⟩)), (78, .int .i64 (mx (mx m0_0 m0_0) m0_2)), (79, .int .i64 (wr64 (Int.tdiv (wr64 (w1 + 1)) 2))), (84, .int .i64 (wr64 ((mx (mx m0_1 m0_1) m0_3) + (wr64 (Int.tdiv (wr64 (w1 + 1)) 2)))))]) (by kernel_rfl) ?_
        refine t_end ?_
        exact ⟨hg_5efff, rfl⟩
    have hg_1efff : G [true, true, true, true, true, true, true, true, true, true, true, true, false, true, true, true, true, false, false, false, false] [(4, .pointer (some ⟨b40, 0, none⟩)), (5, .pointer (some ⟨b41, 0, none⟩)), (76, .agg #[.int .i64 (wr64 ((mn (mn m0_0 m0_0) m0_2) - (wr64 (Int.tdiv (wr64 (w1 + 1)) 2)))), .int .i64 (wr64 ((mn (mn m0_1 m0_1) m0_3) - (wr64 (Int.tdiv (wr64 (w1 + 1)) 2))))]), (78, .int .i64 (mx (mx m0_0 m0_0) m0_2)), (79, .int .i64 (wr64 (Int.tdiv (wr64 (w1 + 1)) 2))), (84, .int .i64 (wr64 ((mx (mx m0_1 m0_1) m0_3) + (wr64 (Int.tdiv (wr64 (w1 + 1)) 2)))))] ([⟨b46, [.int .i64 m0_2, .int .i64 m0_3], 2⟩, ⟨b45, [.int .i64 m0_0, .int .i64 m0_1], 2⟩, ⟨b44, [.int .i64 m0_0, .int .i64 m0_1, .int .i64 m0_2, .int .i64 m0_3], 4⟩, ⟨g43, [.int .i64 (mx (mx m0_0 m0_0) m0_2), .int .i64 (mx (mx m0_1 m0_1) m0_3)], 2⟩, ⟨g42, [.int .i64 (mn (mn m0_0 m0_0) m0_2), .int .i64 (mn (mn m0_1 m0_1) m0_3)], 2⟩, ⟨b41, [.int .i64 0, .int .i64 0], 2⟩, ⟨b40, [.int .i64 0, .int .i64 0], 2⟩, ⟨B0, [.int .i64 m0_0, .int .i64 m0_1, .int .i64 m0_2, .int .i64 m0_3], 4⟩] : List Own) := by
      exact hqf 12 [4, 5, 76, 80, 84] _ _ _ [(4, .pointer (some ⟨b40, 0, none⟩)), (5, .pointer (some ⟨b41, 0, none⟩)), (76, .agg #[.int .i64 (wr64 ((mn (mn m0_0 m0_0) m0_2) - (wr64 (Int.tdiv (wr64 (w1 + 1)) 2)))), .int .i64 (wr64 ((mn (mn m0_1 m0_1) m0_3) - (wr64 (Int.tdiv (wr64 (w1 + 1)) 2))))]), (80, .int .i64 (wr64 ((mx (mx m0_0 m0_0) m0_2) + (wr64 (Int.tdiv (wr64 (w1 + 1)) 2))))), (84, .int .i64 (wr64 ((mx (mx m0_1 m0_1) m0_3) + (wr64 (Int.tdiv (wr64 (w1 + 1)) 2)))))] (by kernel_rfl) (by kernel_rfl) hg_1ffff
    have hg_3fe7f : G [true, true, true, true, true, true, true, false, false, true, true, true, true, true, true, true, true, true, false, false, false] [(4, .pointer (some ⟨b40, 0, none⟩)), (5, .pointer (some ⟨b41, 0, none⟩)), (71, .int .i64 (wr64 ((mn (mn m0_0 m0_0) m0_2) - (wr64 (Int.tdiv (wr64 (w1 + 1)) 2))))), (73, .int .i64 (mn (mn m0_1 m0_1) m0_3)), (74, .int .i64 (wr64 (Int.tdiv (wr64 (w1 + 1)) 2))), (85, .agg #[.int .i64 (wr64 ((mx (mx m0_0 m0_0) m0_2) + (wr64 (Int.tdiv (wr64 (w1 + 1)) 2)))), .int .i64 (wr64 ((mx (mx m0_1 m0_1) m0_3) + (wr64 (Int.tdiv (wr64 (w1 + 1)) 2))))])] ([⟨b46, [.int .i64 m0_2, .int .i64 m0_3], 2⟩, ⟨b45, [.int .i64 m0_0, .int .i64 m0_1], 2⟩, ⟨b44, [.int .i64 m0_0, .int .i64 m0_1, .int .i64 m0_2, .int .i64 m0_3], 4⟩, ⟨g43, [.int .i64 (mx (mx m0_0 m0_0) m0_2), .int .i64 (mx (mx m0_1 m0_1) m0_3)], 2⟩, ⟨g42, [.int .i64 (mn (mn m0_0 m0_0) m0_2), .int .i64 (mn (mn m0_1 m0_1) m0_3)], 2⟩, ⟨b41, [.int .i64 0, .int .i64 0], 2⟩, ⟨b40, [.int .i64 0, .int .i64 0], 2⟩, ⟨B0, [.int .i64 m0_0, .int .i64 m0_1, .int .i64 m0_2, .int .i64 m0_3], 4⟩] : List Own) := by
      exact hqf 7 [4, 5, 71, 75, 85] _ _ _ [(4, .pointer (some ⟨b40, 0, none⟩)), (5, .pointer (some ⟨b41, 0, none⟩)), (71, .int .i64 (wr64 ((mn (mn m0_0 m0_0) m0_2) - (wr64 (Int.tdiv (wr64 (w1 + 1)) 2))))), (75, .int .i64 (wr64 ((mn (mn m0_1 m0_1) m0_3) - (wr64 (Int.tdiv (wr64 (w1 + 1)) 2))))), (85, .agg #[.int .i64 (wr64 ((mx (mx m0_0 m0_0) m0_2) + (wr64 (Int.tdiv (wr64 (w1 + 1)) 2)))), .int .i64 (wr64 ((mx (mx m0_1 m0_1) m0_3) + (wr64 (Int.tdiv (wr64 (w1 + 1)) 2))))])] (by kernel_rfl) (by kernel_rfl) hg_3feff
    have hg_4ebff : G [true, true, true, true, true, true, true, true, true, true, false, true, false, true, true, true, false, false, true, false, false] [(4, .pointer (some ⟨b40, 0, none⟩)), (5, .pointer (some ⟨b41, 0, none⟩)), (77, .pointer (some ⟨g43, 0, none⟩)), (79, .int .i64 (wr64 (Int.tdiv (wr64 (w1 + 1)) 2))), (82, .int .i64 (mx (mx m0_1 m0_1) m0_3)), (83, .int .i64 (wr64 (Int.tdiv (wr64 (w1 + 1)) 2)))] ([⟨b46, [.int .i64 m0_2, .int .i64 m0_3], 2⟩, ⟨b45, [.int .i64 m0_0, .int .i64 m0_1], 2⟩, ⟨b44, [.int .i64 m0_0, .int .i64 m0_1, .int .i64 m0_2, .int .i64 m0_3], 4⟩, ⟨g43, [.int .i64 (mx (mx m0_0 m0_0) m0_2), .int .i64 (mx (mx m0_1 m0_1) m0_3)], 2⟩, ⟨g42, [.int .i64 (mn (mn m0_0 m0_0) m0_2), .int .i64 (mn (mn m0_1 m0_1) m0_3)], 2⟩, ⟨b41, [.int .i64 0, .int .i64 0], 2⟩, ⟨b40, [.int .i64 (wr64 ((mn (mn m0_0 m0_0) m0_2) - (wr64 (Int.tdiv (wr64 (w1 + 1)) 2)))), .int .i64 (wr64 ((mn (mn m0_1 m0_1) m0_3) - (wr64 (Int.tdiv (wr64 (w1 + 1)) 2))))], 2⟩, ⟨B0, [.int .i64 m0_0, .int .i64 m0_1, .int .i64 m0_2, .int .i64 m0_3], 4⟩] : List Own) := by
      exact hqf 16 [4, 5, 77, 79, 84] _ _ _ [(4, .pointer (some ⟨b40, 0, none⟩)), (5, .pointer (some ⟨b41, 0, none⟩)), (77, .pointer (some ⟨g43, 0, none⟩)), (79, .int .i64 (wr64 (Int.tdiv (wr64 (w1 + 1)) 2))), (84, .int .i64 (wr64 ((mx (mx m0_1 m0_1) m0_3) + (wr64 (Int.tdiv (wr64 (w1 + 1)) 2)))))] (by kernel_rfl) (by kernel_rfl) hg_5ebff
    have hg_4afff : G [true, true, true, true, true, true, true, true, true, true, true, true, false, true, false, true, false, false, true, false, false] [(4, .pointer (some ⟨b40, 0, none⟩)), (5, .pointer (some ⟨b41, 0, none⟩)), (78, .int .i64 (mx (mx m0_0 m0_0) m0_2)), (79, .int .i64 (wr64 (Int.tdiv (wr64 (w1 + 1)) 2))), (81, .pointer (some ⟨g43, 1, none⟩)), (83, .int .i64 (wr64 (Int.tdiv (wr64 (w1 + 1)) 2)))] ([⟨b46, [.int .i64 m0_2, .int .i64 m0_3], 2⟩, ⟨b45, [.int .i64 m0_0, .int .i64 m0_1], 2⟩, ⟨b44, [.int .i64 m0_0, .int .i64 m0_1, .int .i64 m0_2, .int .i64 m0_3], 4⟩, ⟨g43, [.int .i64 (mx (mx m0_0 m0_0) m0_2), .int .i64 (mx (mx m0_1 m0_1) m0_3)], 2⟩, ⟨g42, [.int .i64 (mn (mn m0_0 m0_0) m0_2), .int .i64 (mn (mn m0_1 m0_1) m0_3)], 2⟩, ⟨b41, [.int .i64 0, .int .i64 0], 2⟩, ⟨b40, [.int .i64 (wr64 ((mn (mn m0_0 m0_0) m0_2) - (wr64 (Int.tdiv (wr64 (w1 + 1)) 2)))), .int .i64 (wr64 ((mn (mn m0_1 m0_1) m0_3) - (wr64 (Int.tdiv (wr64 (w1 + 1)) 2))))], 2⟩, ⟨B0, [.int .i64 m0_0, .int .i64 m0_1, .int .i64 m0_2, .int .i64 m0_3], 4⟩] : List Own) := by
      exact hqf 12 [4, 5, 80, 81, 83] _ _ _ [(4, .pointer (some ⟨b40, 0, none⟩)), (5, .pointer (some ⟨b41, 0, none⟩)), (80, .int .i64 (wr64 ((mx (mx m0_0 m0_0) m0_2) + (wr64 (Int.tdiv (wr64 (w1 + 1)) 2))))), (81, .pointer (some ⟨g43, 1, none⟩)), (83, .int .i64 (wr64 (Int.tdiv (wr64 (w1 + 1)) 2)))] (by kernel_rfl) (by kernel_rfl) hg_4bfff
    have hg_bfff : G [true, true, true, true, true, true, true, true, true, true, true, true, true, true, false, true, false, false, false, false, false] [(4, .pointer (some ⟨b40, 0, none⟩)), (5, .pointer (some ⟨b41, 0, none⟩)), (76, .agg #[.int .i64 (wr64 ((mn (mn m0_0 m0_0) m0_2) - (wr64 (Int.tdiv (wr64 (w1 + 1)) 2)))), .int .i64 (wr64 ((mn (mn m0_1 m0_1) m0_3) - (wr64 (Int.tdiv (wr64 (w1 + 1)) 2))))]), (80, .int .i64 (wr64 ((mx (mx m0_0 m0_0) m0_2) + (wr64 (Int.tdiv (wr64 (w1 + 1)) 2))))), (81, .pointer (some ⟨g43, 1, none⟩)), (83, .int .i64 (wr64 (Int.tdiv (wr64 (w1 + 1)) 2)))] ([⟨b46, [.int .i64 m0_2, .int .i64 m0_3], 2⟩, ⟨b45, [.int .i64 m0_0, .int .i64 m0_1], 2⟩, ⟨b44, [.int .i64 m0_0, .int .i64 m0_1, .int .i64 m0_2, .int .i64 m0_3], 4⟩, ⟨g43, [.int .i64 (mx (mx m0_0 m0_0) m0_2), .int .i64 (mx (mx m0_1 m0_1) m0_3)], 2⟩, ⟨g42, [.int .i64 (mn (mn m0_0 m0_0) m0_2), .int .i64 (mn (mn m0_1 m0_1) m0_3)], 2⟩, ⟨b41, [.int .i64 0, .int .i64 0], 2⟩, ⟨b40, [.int .i64 0, .int .i64 0], 2⟩, ⟨B0, [.int .i64 m0_0, .int .i64 m0_1, .int .i64 m0_2, .int .i64 m0_3], 4⟩] : List Own) := by
      refine hstep [14, 18] _ _ _ (by kernel_rfl) (List.cons_ne_nil _ _) ⟨?_, ?_, trivial⟩
      · show T _ _ _ _ _ _ _ _
        refine t_v (.ld1 rfl rfl rfl (.at 3 rfl rfl)) ?_
        refine t_keep [4, 5, 76, 80, 82, 83] (σ' := [(4, .pointer (some ⟨b40, 0, none⟩)), (5, .pointer (some ⟨b41, 0, none⟩)), (76, .agg #[.int .i64 (wr64 ((mn (mn m0_0 m0_0) m0_2) - (wr64 (Int.tdiv (wr64 (w1 + 1)) 2)))), .int .i64 (wr64 ((mn (mn m0_1 m0_1) m0_3) - (wr64 (Int.tdiv (wr64 (w1 + 1)) 2))))]), (80, .int .i64 (wr64 ((mx (mx m0_0 m0_0) m0_2) + (wr64 (Int.tdiv (wr64 (w1 + 1)) 2))))), (82, .int .i64 (mx (mx m0_1 m0_1) m0_3)), (83, .int .i64 (wr64 (Int.tdiv (wr64 (w1 + 1)) 2)))]) (by kernel_rfl) ?_
        refine t_end ?_
        exact ⟨hg_ffff, rfl⟩
      · show T _ _ _ _ _ _ _ _
        refine t_sti 6 (cs := [.int .i64 (wr64 ((mn (mn m0_0 m0_0) m0_2) - (wr64 (Int.tdiv (wr64 (w1 + 1)) 2)))), .int .i64 (wr64 ((mn (mn m0_1 m0_1) m0_3) - (wr64 (Int.tdiv (wr64 (w1 + 1)) 2))))]) rfl rfl rfl rfl rfl rfl rfl rfl rfl ?_
        refine t_keep [4, 5, 80, 81, 83] (σ' := [(4, .pointer (some ⟨b40, 0, none⟩)), (5, .pointer (some ⟨b41, 0, none⟩)), (80, .int .i64 (wr64 ((mx (mx m0_0 m0_0) m0_2) + (wr64 (Int.tdiv (wr64 (w1 + 1)) 2))))), (81, .pointer (some ⟨g43, 1, none⟩)), (83, .int .i64 (wr64 (Int.tdiv (wr64 (w1 + 1)) 2)))]) (by kernel_rfl) ?_
        refine t_end ?_
        exact ⟨hg_4bfff, rfl⟩
    have hg_3fe5f : G [true, true, true, true, true, false, true, false, false, true, true, true, true, true, true, true, true, true, false, false, false] [(4, .pointer (some ⟨b40, 0, none⟩)), (5, .pointer (some ⟨b41, 0, none⟩)), (71, .int .i64 (wr64 ((mn (mn m0_0 m0_0) m0_2) - (wr64 (Int.tdiv (wr64 (w1 + 1)) 2))))), (72, .pointer (some ⟨g42, 1, none⟩)), (74, .int .i64 (wr64 (Int.tdiv (wr64 (w1 + 1)) 2))), (85, .agg #[.int .i64 (wr64 ((mx (mx m0_0 m0_0) m0_2) + (wr64 (Int.tdiv (wr64 (w1 + 1)) 2)))), .int .i64 (wr64 ((mx (mx m0_1 m0_1) m0_3) + (wr64 (Int.tdiv (wr64 (w1 + 1)) 2))))])] ([⟨b46, [.int .i64 m0_2, .int .i64 m0_3], 2⟩, ⟨b45, [.int .i64 m0_0, .int .i64 m0_1], 2⟩, ⟨b44, [.int .i64 m0_0, .int .i64 m0_1, .int .i64 m0_2, .int .i64 m0_3], 4⟩, ⟨g43, [.int .i64 (mx (mx m0_0 m0_0) m0_2), .int .i64 (mx (mx m0_1 m0_1) m0_3)], 2⟩, ⟨g42, [.int .i64 (mn (mn m0_0 m0_0) m0_2), .int .i64 (mn (mn m0_1 m0_1) m0_3)], 2⟩, ⟨b41, [.int .i64 0, .int .i64 0], 2⟩, ⟨b40, [.int .i64 0, .int .i64 0], 2⟩, ⟨B0, [.int .i64 m0_0, .int .i64 m0_1, .int .i64 m0_2, .int .i64 m0_3], 4⟩] : List Own) := by
      refine hstep [5] _ _ _ (by kernel_rfl) (List.cons_ne_nil _ _) ⟨?_, trivial⟩
      · show T _ _ _ _ _ _ _ _
        refine t_v (.ld1 rfl rfl rfl (.at 4 rfl rfl)) ?_
        refine t_keep [4, 5, 71, 73, 74, 85] (σ' := [(4, .pointer (some ⟨b40, 0, none⟩)), (5, .pointer (some ⟨b41, 0, none⟩)), (71, .int .i64 (wr64 ((mn (mn m0_0 m0_0) m0_2) - (wr64 (Int.tdiv (wr64 (w1 + 1)) 2))))), (73, .int .i64 (mn (mn m0_1 m0_1) m0_3)), (74, .int .i64 (wr64 (Int.tdiv (wr64 (w1 + 1)) 2))), (85, .agg #[.int .i64 (wr64 ((mx (mx m0_0 m0_0) m0_2) + (wr64 (Int.tdiv (wr64 (w1 + 1)) 2)))), .int .i64 (wr64 ((mx (mx m0_1 m0_1) m0_3) + (wr64 (Int.tdiv (wr64 (w1 + 1)) 2))))])]) (by kernel_rfl) ?_
        refine t_end ?_
        exact ⟨hg_3fe7f, rfl⟩
    have hg_1ebff : G [true, true, true, true, true, true, true, true, true, true, false, true, false, true, true, true, true, false, false, false, false] [(4, .pointer (some ⟨b40, 0, none⟩)), (5, .pointer (some ⟨b41, 0, none⟩)), (76, .agg #[.int .i64 (wr64 ((mn (mn m0_0 m0_0) m0_2) - (wr64 (Int.tdiv (wr64 (w1 + 1)) 2)))), .int .i64 (wr64 ((mn (mn m0_1 m0_1) m0_3) - (wr64 (Int.tdiv (wr64 (w1 + 1)) 2))))]), (77, .pointer (some ⟨g43, 0, none⟩)), (79, .int .i64 (wr64 (Int.tdiv (wr64 (w1 + 1)) 2))), (84, .int .i64 (wr64 ((mx (mx m0_1 m0_1) m0_3) + (wr64 (Int.tdiv (wr64 (w1 + 1)) 2)))))] ([⟨b46, [.int .i64 m0_2, .int .i64 m0_3], 2⟩, ⟨b45, [.int .i64 m0_0, .int .i64 m0_1], 2⟩, ⟨b44, [.int .i64 m0_0, .int .i64 m0_1, .int .i64 m0_2, .int .i64 m0_3], 4⟩, ⟨g43, [.int .i64 (mx (mx m0_0 m0_0) m0_2), .int .i64 (mx (mx m0_1 m0_1) m0_3)], 2⟩, ⟨g42, [.int .i64 (mn (mn m0_0 m0_0) m0_2), .int .i64 (mn (mn m0_1 m0_1) m0_3)], 2⟩, ⟨b41, [.int .i64 0, .int .i64 0], 2⟩, ⟨b40, [.int .i64 0, .int .i64 0], 2⟩, ⟨B0, [.int .i64 m0_0, .int .i64 m0_1, .int .i64 m0_2, .int .i64 m0_3], 4⟩] : List Own) := by
      refine hstep [10, 18] _ _ _ (by kernel_rfl) (List.cons_ne_nil _ _) ⟨?_, ?_, trivial⟩
      · show T _ _ _ _ _ _ _ _
        refine t_v (.ld1 rfl rfl rfl (.at 3 rfl rfl)) ?_
        refine t_keep [4, 5, 76, 78, 79, 84] (σ' := [(4, .pointer (some ⟨b40, 0, none⟩)), (5, .pointer (some ⟨b41, 0, none⟩)), (76, .agg #[.int .i64 (wr64 ((mn (mn m0_0 m0_0) m0_2) - (wr64 (Int.tdiv (wr64 (w1 + 1)) 2)))), .int .i64 (wr64 ((mn (mn m0_1 m0_1) m0_3) - (wr64 (Int.tdiv (wr64 (w1 + 1)) 2))))]), (78, .int .i64 (mx (mx m0_0 m0_0) m0_2)), (79, .int .i64 (wr64 (Int.tdiv (wr64 (w1 + 1)) 2))), (84, .int .i64 (wr64 ((mx (mx m0_1 m0_1) m0_3) + (wr64 (Int.tdiv (wr64 (w1 + 1)) 2)))))]) (by kernel_rfl) ?_
        refine t_end ?_
        exact ⟨hg_1efff, rfl⟩
      · show T _ _ _ _ _ _ _ _
        refine t_sti 6 (cs := [.int .i64 (wr64 ((mn (mn m0_0 m0_0) m0_2) - (wr64 (Int.tdiv (wr64 (w1 + 1)) 2)))), .int .i64 (wr64 ((mn (mn m0_1 m0_1) m0_3) - (wr64 (Int.tdiv (wr64 (w1 + 1)) 2))))]) rfl rfl rfl rfl rfl rfl rfl rfl rfl ?_
        refine t_keep [4, 5, 77, 79, 84] (σ' := [(4, .pointer (some ⟨b40, 0, none⟩)), (5, .pointer (some ⟨b41, 0, none⟩)), (77, .pointer (some ⟨g43, 0, none⟩)), (79, .int .i64 (wr64 (Int.tdiv (wr64 (w1 + 1)) 2))), (84, .int .i64 (wr64 ((mx (mx m0_1 m0_1) m0_3) + (wr64 (Int.tdiv (wr64 (w1 + 1)) 2)))))]) (by kernel_rfl) ?_
        refine t_end ?_
        exact ⟨hg_5ebff, rfl⟩
    have hg_3fef5 : G [true, false, true, false, true, true, true, true, false, true, true, true, true, true, true, true, true, true, false, false, false] [(4, .pointer (some ⟨b40, 0, none⟩)), (5, .pointer (some ⟨b41, 0, none⟩)), (68, .pointer (some ⟨g42, 0, none⟩)), (70, .int .i64 (wr64 (Int.tdiv (wr64 (w1 + 1)) 2))), (75, .int .i64 (wr64 ((mn (mn m0_1 m0_1) m0_3) - (wr64 (Int.tdiv (wr64 (w1 + 1)) 2))))), (85, .agg #[.int .i64 (wr64 ((mx (mx m0_0 m0_0) m0_2) + (wr64 (Int.tdiv (wr64 (w1 + 1)) 2)))), .int .i64 (wr64 ((mx (mx m0_1 m0_1) m0_3) + (wr64 (Int.tdiv (wr64 (w1 + 1)) 2))))])] ([⟨b46, [.int .i64 m0_2, .int .i64 m0_3], 2⟩, ⟨b45, [.int .i64 m0_0, .int .i64 m0_1], 2⟩, ⟨b44, [.int .i64 m0_0, .int .i64 m0_1, .int .i64 m0_2, .int .i64 m0_3], 4⟩, ⟨g43, [.int .i64 (mx (mx m0_0 m0_0) m0_2), .int .i64 (mx (mx m0_1 m0_1) m0_3)], 2⟩, ⟨g42, [.int .i64 (mn (mn m0_0 m0_0) m0_2), .int .i64 (mn (mn m0_1 m0_1) m0_3)], 2⟩, ⟨b41, [.int .i64 0, .int .i64 0], 2⟩, ⟨b40, [.int .i64 0, .int .i64 0], 2⟩, ⟨B0, [.int .i64 m0_0, .int .i64 m0_1, .int .i64 m0_2, .int .i64 m0_3], 4⟩] : List Own) := by
      refine hstep [1] _ _ _ (by kernel_rfl) (List.cons_ne_nil _ _) ⟨?_, trivial⟩
      · show T _ _ _ _ _ _ _ _
        refine t_v (.ld1 rfl rfl rfl (.at 4 rfl rfl)) ?_
        refine t_keep [4, 5, 69, 70, 75, 85] (σ' := [(4, .pointer (some ⟨b40, 0, none⟩)), (5, .pointer (some ⟨b41, 0, none⟩)), (69, .int .i64 (mn (mn m0_0 m0_0) m0_2)), (70, .int .i64 (wr64 (Int.tdiv (wr64 (w1 + 1)) 2))), (75, .int .i64 (wr64 ((mn (mn m0_1 m0_1) m0_3) - (wr64 (Int.tdiv (wr64 (w1 + 1)) 2))))), (85, .agg #[.int .i64 (wr64 ((mx (mx m0_0 m0_0) m0_2) + (wr64 (Int.tdiv (wr64 (w1 + 1)) 2)))), .int .i64 (wr64 ((mx (mx m0_1 m0_1) m0_3) + (wr64 (Int.tdiv (wr64 (w1 + 1)) 2))))])]) (by kernel_rfl) ?_
        refine t_end ?_
        exact ⟨hg_3fef7, rfl⟩
    have hg_ebff : G [true, true, true, true, true, true, true, true, true, true, false, true, false, true, true, true, false, false, false, false, false] [(4, .pointer (some ⟨b40, 0, none⟩)), (5, .pointer (some ⟨b41, 0, none⟩)), (76, .agg #[.int .i64 (wr64 ((mn (mn m0_0 m0_0) m0_2) - (wr64 (Int.tdiv (wr64 (w1 + 1)) 2)))), .int .i64 (wr64 ((mn (mn m0_1 m0_1) m0_3) - (wr64 (Int.tdiv (wr64 (w1 + 1)) 2))))]), (77, .pointer (some ⟨g43, 0, none⟩)), (79, .int .i64 (wr64 (Int.tdiv (wr64 (w1 + 1)) 2))), (82, .int .i64 (mx (mx m0_1 m0_1) m0_3)), (83, .int .i64 (wr64 (Int.tdiv (wr64 (w1 + 1)) 2)))] ([⟨b46, [.int .i64 m0_2, .int .i64 m0_3], 2⟩, ⟨b45, [.int .i64 m0_0, .int .i64 m0_1], 2⟩, ⟨b44, [.int .i64 m0_0, .int .i64 m0_1, .int .i64 m0_2, .int .i64 m0_3], 4⟩, ⟨g43, [.int .i64 (mx (mx m0_0 m0_0) m0_2), .int .i64 (mx (mx m0_1 m0_1) m0_3)], 2⟩, ⟨g42, [.int .i64 (mn (mn m0_0 m0_0) m0_2), .int .i64 (mn (mn m0_1 m0_1) m0_3)], 2⟩, ⟨b41, [.int .i64 0, .int .i64 0], 2⟩, ⟨b40, [.int .i64 0, .int .i64 0], 2⟩, ⟨B0, [.int .i64 m0_0, .int .i64 m0_1, .int .i64 m0_2, .int .i64 m0_3], 4⟩] : List Own) := by
      exact hqf 16 [4, 5, 76, 77, 79, 84] _ _ _ [(4, .pointer (some ⟨b40, 0, none⟩)), (5, .pointer (some ⟨b41, 0, none⟩)), (76, .agg #[.int .i64 (wr64 ((mn (mn m0_0 m0_0) m0_2) - (wr64 (Int.tdiv (wr64 (w1 + 1)) 2)))), .int .i64 (wr64 ((mn (mn m0_1 m0_1) m0_3) - (wr64 (Int.tdiv (wr64 (w1 + 1)) 2))))]), (77, .pointer (some ⟨g43, 0, none⟩)), (79, .int .i64 (wr64 (Int.tdiv (wr64 (w1 + 1)) 2))), (84, .int .i64 (wr64 ((mx (mx m0_1 m0_1) m0_3) + (wr64 (Int.tdiv (wr64 (w1 + 1)) 2)))))] (by kernel_rfl) (by kernel_rfl) hg_1ebff
    have hg_afff : G [true, true, true, true, true, true, true, true, true, true, true, true, false, true, false, true, false, false, false, false, false] [(4, .pointer (some ⟨b40, 0, none⟩)), (5, .pointer (some ⟨b41, 0, none⟩)), (76, .agg #[.int .i64 (wr64 ((mn (mn m0_0 m0_0) m0_2) - (wr64 (Int.tdiv (wr64 (w1 + 1)) 2)))), .int .i64 (wr64 ((mn (mn m0_1 m0_1) m0_3) - (wr64 (Int.tdiv (wr64 (w1 + 1)) 2))))]), (78, .int .i64 (mx (mx m0_0 m0_0) m0_2)), (79, .int .i64 (wr64 (Int.tdiv (wr64 (w1 + 1)) 2))), (81, .pointer (some ⟨g43, 1, none⟩)), (83, .int .i64 (wr64 (Int.tdiv (wr64 (w1 + 1)) 2)))] ([⟨b46, [.int .i64 m0_2, .int .i64 m0_3], 2⟩, ⟨b45, [.int .i64 m0_0, .int .i64 m0_1], 2⟩, ⟨b44, [.int .i64 m0_0, .int .i64 m0_1, .int .i64 m0_2, .int .i64 m0_3], 4⟩, ⟨g43, [.int .i64 (mx (mx m0_0 m0_0) m0_2), .int .i64 (mx (mx m0_1 m0_1) m0_3)], 2⟩, ⟨g42, [.int .i64 (mn (mn m0_0 m0_0) m0_2), .int .i64 (mn (mn m0_1 m0_1) m0_3)], 2⟩, ⟨b41, [.int .i64 0, .int .i64 0], 2⟩, ⟨b40, [.int .i64 0, .int .i64 0], 2⟩, ⟨B0, [.int .i64 m0_0, .int .i64 m0_1, .int .i64 m0_2, .int .i64 m0_3], 4⟩] : List Own) := by
      exact hqf 12 [4, 5, 76, 80, 81, 83] _ _ _ [(4, .pointer (some ⟨b40, 0, none⟩)), (5, .pointer (some ⟨b41, 0, none⟩)), (76, .agg #[.int .i64 (wr64 ((mn (mn m0_0 m0_0) m0_2) - (wr64 (Int.tdiv (wr64 (w1 + 1)) 2)))), .int .i64 (wr64 ((mn (mn m0_1 m0_1) m0_3) - (wr64 (Int.tdiv (wr64 (w1 + 1)) 2))))]), (80, .int .i64 (wr64 ((mx (mx m0_0 m0_0) m0_2) + (wr64 (Int.tdiv (wr64 (w1 + 1)) 2))))), (81, .pointer (some ⟨g43, 1, none⟩)), (83, .int .i64 (wr64 (Int.tdiv (wr64 (w1 + 1)) 2)))] (by kernel_rfl) (by kernel_rfl) hg_bfff
    have hg_1fe5f : G [true, true, true, true, true, false, true, false, false, true, true, true, true, true, true, true, true, false, false, false, false] [(4, .pointer (some ⟨b40, 0, none⟩)), (5, .pointer (some ⟨b41, 0, none⟩)), (71, .int .i64 (wr64 ((mn (mn m0_0 m0_0) m0_2) - (wr64 (Int.tdiv (wr64 (w1 + 1)) 2))))), (72, .pointer (some ⟨g42, 1, none⟩)), (74, .int .i64 (wr64 (Int.tdiv (wr64 (w1 + 1)) 2))), (80, .int .i64 (wr64 ((mx (mx m0_0 m0_0) m0_2) + (wr64 (Int.tdiv (wr64 (w1 + 1)) 2))))), (84, .int .i64 (wr64 ((mx (mx m0_1 m0_1) m0_3) + (wr64 (Int.tdiv (wr64 (w1 + 1)) 2)))))] ([⟨b46, [.int .i64 m0_2, .int .i64 m0_3], 2⟩, ⟨b45, [.int .i64 m0_0, .int .i64 m0_1], 2⟩, ⟨b44, [.int .i64 m0_0, .int .i64 m0_1, .int .i64 m0_2, .int .i64 m0_3], 4⟩, ⟨g43, [.int .i64 (mx (mx m0_0 m0_0) m0_2), .int .i64 (mx (mx m0_1 m0_1) m0_3)], 2⟩, ⟨g42, [.int .i64 (mn (mn m0_0 m0_0) m0_2), .int .i64 (mn (mn m0_1 m0_1) m0_3)], 2⟩, ⟨b41, [.int .i64 0, .int .i64 0], 2⟩, ⟨b40, [.int .i64 0, .int .i64 0], 2⟩, ⟨B0, [.int .i64 m0_0, .int .i64 m0_1, .int .i64 m0_2, .int .i64 m0_3], 4⟩] : List Own) := by
      exact hqf 17 [4, 5, 71, 72, 74, 85] _ _ _ [(4, .pointer (some ⟨b40, 0, none⟩)), (5, .pointer (some ⟨b41, 0, none⟩)), (71, .int .i64 (wr64 ((mn (mn m0_0 m0_0) m0_2) - (wr64 (Int.tdiv (wr64 (w1 + 1)) 2))))), (72, .pointer (some ⟨g42, 1, none⟩)), (74, .int .i64 (wr64 (Int.tdiv (wr64 (w1 + 1)) 2))), (85, .agg #[.int .i64 (wr64 ((mx (mx m0_0 m0_0) m0_2) + (wr64 (Int.tdiv (wr64 (w1 + 1)) 2)))), .int .i64 (wr64 ((mx (mx m0_1 m0_1) m0_3) + (wr64 (Int.tdiv (wr64 (w1 + 1)) 2))))])] (by kernel_rfl) (by kernel_rfl) hg_3fe5f
    have hg_1eaff : G [true, true, true, true, true, true, true, true, false, true, false, true, false, true, true, true, true, false, false, false, false] [(4, .pointer (some ⟨b40, 0, none⟩)), (5, .pointer (some ⟨b41, 0, none⟩)), (71, .int .i64 (wr64 ((mn (mn m0_0 m0_0) m0_2) - (wr64 (Int.tdiv (wr64 (w1 + 1)) 2))))), (75, .int .i64 (wr64 ((mn (mn m0_1 m0_1) m0_3) - (wr64 (Int.tdiv (wr64 (w1 + 1)) 2))))), (77, .pointer (some ⟨g43, 0, none⟩)), (79, .int .i64 (wr64 (Int.tdiv (wr64 (w1 + 1)) 2))), (84, .int .i64 (wr64 ((mx (mx m0_1 m0_1) m0_3) + (wr64 (Int.tdiv (wr64 (w1 + 1)) 2)))))] ([⟨b46, [.int .i64 m0_2, .int .i64 m0_3], 2⟩, ⟨b45, [.int .i64 m0_0, .int .i64 m0_1], 2⟩, ⟨b44, [.int .i64 m0_0, .int .i64 m0_1, .int .i64 m0_2, .int .i64 m0_3], 4⟩, ⟨g43, [.int .i64 (mx (mx m0_0 m0_0) m0_2), .int .i64 (mx (mx m0_1 m0_1) m0_3)], 2⟩, ⟨g42, [.int .i64 (mn (mn m0_0 m0_0) m0_2), .int .i64 (mn (mn m0_1 m0_1) m0_3)], 2⟩, ⟨b41, [.int .i64 0, .int .i64 0], 2⟩, ⟨b40, [.int .i64 0, .int .i64 0], 2⟩, ⟨B0, [.int .i64 m0_0, .int .i64 m0_1, .int .i64 m0_2, .int .i64 m0_3], 4⟩] : List Own) := by
      exact hqf 8 [4, 5, 76, 77, 79, 84] _ _ _ [(4, .pointer (some ⟨b40, 0, none⟩)), (5, .pointer (some ⟨b41, 0, none⟩)), (76, .agg #[.int .i64 (wr64 ((mn (mn m0_0 m0_0) m0_2) - (wr64 (Int.tdiv (wr64 (w1 + 1)) 2)))), .int .i64 (wr64 ((mn (mn m0_1 m0_1) m0_3) - (wr64 (Int.tdiv (wr64 (w1 + 1)) 2))))]), (77, .pointer (some ⟨g43, 0, none⟩)), (79, .int .i64 (wr64 (Int.tdiv (wr64 (w1 + 1)) 2))), (84, .int .i64 (wr64 ((mx (mx m0_1 m0_1) m0_3) + (wr64 (Int.tdiv (wr64 (w1 + 1)) 2)))))] (by kernel_rfl) (by kernel_rfl) hg_1ebff
    have hg_3fe57 : G [true, true, true, false, true, false, true, false, false, true, true, true, true, true, true, true, true, true, false, false, false] [(4, .pointer (some ⟨b40, 0, none⟩)), (5, .pointer (some ⟨b41, 0, none⟩)), (69, .int .i64 (mn (mn m0_0 m0_0) m0_2)), (70, .int .i64 (wr64 (Int.tdiv (wr64 (w1 + 1)) 2))), (72, .pointer (some ⟨g42, 1, none⟩)), (74, .int .i64 (wr64 (Int.tdiv (wr64 (w1 + 1)) 2))), (85, .agg #[.int .i64 (wr64 ((mx (mx m0_0 m0_0) m0_2) + (wr64 (Int.tdiv (wr64 (w1 + 1)) 2)))), .int .i64 (wr64 ((mx (mx m0_1 m0_1) m0_3) + (wr64 (Int.tdiv (wr64 (w1 + 1)) 2))))])] ([⟨b46, [.int .i64 m0_2, .int .i64 m0_3], 2⟩, ⟨b45, [.int .i64 m0_0, .int .i64 m0_1], 2⟩, ⟨b44, [.int .i64 m0_0, .int .i64 m0_1, .int .i64 m0_2, .int .i64 m0_3], 4⟩, ⟨g43, [.int .i64 (mx (mx m0_0 m0_0) m0_2), .int .i64 (mx (mx m0_1 m0_1) m0_3)], 2⟩, ⟨g42, [.int .i64 (mn (mn m0_0 m0_0) m0_2), .int .i64 (mn (mn m0_1 m0_1) m0_3)], 2⟩, ⟨b41, [.int .i64 0, .int .i64 0], 2⟩, ⟨b40, [.int .i64 0, .int .i64 0], 2⟩, ⟨B0, [.int .i64 m0_0, .int .i64 m0_1, .int .i64 m0_2, .int .i64 m0_3], 4⟩] : List Own) := by
      exact hqf 3 [4, 5, 71, 72, 74, 85] _ _ _ [(4, .pointer (some ⟨b40, 0, none⟩)), (5, .pointer (some ⟨b41, 0, none⟩)), (71, .int .i64 (wr64 ((mn (mn m0_0 m0_0) m0_2) - (wr64 (Int.tdiv (wr64 (w1 + 1)) 2))))), (72, .pointer (some ⟨g42, 1, none⟩)), (74, .int .i64 (wr64 (Int.tdiv (wr64 (w1 + 1)) 2))), (85, .agg #[.int .i64 (wr64 ((mx (mx m0_0 m0_0) m0_2) + (wr64 (Int.tdiv (wr64 (w1 + 1)) 2)))), .int .i64 (wr64 ((mx (mx m0_1 m0_1) m0_3) + (wr64 (Int.tdiv (wr64 (w1 + 1)) 2))))])] (by kernel_rfl) (by kernel_rfl) hg_3fe5f
    have hg_beff : G [true, true, true, true, true, true, true, true, false, true, true, true, true, true, false, true, false, false, false, false, false] [(4, .pointer (some ⟨b40, 0, none⟩)), (5, .pointer (some ⟨b41, 0, none⟩)), (71, .int .i64 (wr64 ((mn (mn m0_0 m0_0) m0_2) - (wr64 (Int.tdiv (wr64 (w1 + 1)) 2))))), (75, .int .i64 (wr64 ((mn (mn m0_1 m0_1) m0_3) - (wr64 (Int.tdiv (wr64 (w1 + 1)) 2))))), (80, .int .i64 (wr64 ((mx (mx m0_0 m0_0) m0_2) + (wr64 (Int.tdiv (wr64 (w1 + 1)) 2))))), (81, .pointer (some ⟨g43, 1, none⟩)), (83, .int .i64 (wr64 (Int.tdiv (wr64 (w1 + 1)) 2)))] ([⟨b46, [.int .i64 m0_2, .int .i64 m0_3], 2⟩, ⟨b45, [.int .i64 m0_0, .int .i64 m0_1], 2⟩, ⟨b44, [.int .i64 m0_0, .int .i64 m0_1, .int .i64 m0_2, .int .i64 m0_3], 4⟩, ⟨g43, [.int .i64 (mx (mx m0_0 m0_0) m0_2), .int .i64 (mx (mx m0_1 m0_1) m0_3)], 2⟩, ⟨g42, [.int .i64 (mn (mn m0_0 m0_0) m0_2), .int .i64 (mn (mn m0_1 m0_1) m0_3)], 2⟩, ⟨b41, [.int .i64 0, .int .i64 0], 2⟩, ⟨b40, [.int .i64 0, .int .i64 0], 2⟩, ⟨B0, [.int .i64 m0_0, .int .i64 m0_1, .int .i64 m0_2, .int .i64 m0_3], 4⟩] : List Own) := by
      exact hqf 8 [4, 5, 76, 80, 81, 83] _ _ _ [(4, .pointer (some ⟨b40, 0, none⟩)), (5, .pointer (some ⟨b41, 0, none⟩)), (76, .agg #[.int .i64 (wr64 ((mn (mn m0_0 m0_0) m0_2) - (wr64 (Int.tdiv (wr64 (w1 + 1)) 2)))), .int .i64 (wr64 ((mn (mn m0_1 m0_1) m0_3) - (wr64 (Int.tdiv (wr64 (w1 + 1)) 2))))]), (80, .int .i64 (wr64 ((mx (mx m0_0 m0_0) m0_2) + (wr64 (Int.tdiv (wr64 (w1 + 1)) 2))))), (81, .pointer (some ⟨g43, 1, none⟩)), (83, .int .i64 (wr64 (Int.tdiv (wr64 (w1 + 1)) 2)))] (by kernel_rfl) (by kernel_rfl) hg_bfff
    have hg_4abff : G [true, true, true, true, true, true, true, true, true, true, false, true, false, true, false, true, false, false, true, false, false] [(4, .pointer (some ⟨b40, 0, none⟩)), (5, .pointer (some ⟨b41, 0, none⟩)), (77, .pointer (some ⟨g43, 0, none⟩)), (79, .int .i64 (wr64 (Int.tdiv (wr64 (w1 + 1)) 2))), (81, .pointer (some ⟨g43, 1, none⟩)), (83, .int .i64 (wr64 (Int.tdiv (wr64 (w1 + 1)) 2)))] ([⟨b46, [.int .i64 m0_2, .int .i64 m0_3], 2⟩, ⟨b45, [.int .i64 m0_0, .int .i64 m0_1], 2⟩, ⟨b44, [.int .i64 m0_0, .int .i64 m0_1, .int .i64 m0_2, .int .i64 m0_3], 4⟩, ⟨g43, [.int .i64 (mx (mx m0_0 m0_0) m0_2), .int .i64 (mx (mx m0_1 m0_1) m0_3)], 2⟩, ⟨g42, [.int .i64 (mn (mn m0_0 m0_0) m0_2), .int .i64 (mn (mn m0_1 m0_1) m0_3)], 2⟩, ⟨b41, [.int .i64 0, .int .i64 0], 2⟩, ⟨b40, [.int .i64 (wr64 ((mn (mn m0_0 m0_0) m0_2) - (wr64 (Int.tdiv (wr64 (w1 + 1)) 2)))), .int .i64 (wr64 ((mn (mn m0_1 m0_1) m0_3) - (wr64 (Int.tdiv (wr64 (w1 + 1)) 2))))], 2⟩, ⟨B0, [.int .i64 m0_0, .int .i64 m0_1, .int .i64 m0_2, .int .i64 m0_3], 4⟩] : List Own) := by
      refine hstep [10, 14] _ _ _ (by kernel_rfl) (List.cons_ne_nil _ _) ⟨?_, ?_, trivial⟩
      · show T _ _ _ _ _ _ _ _
        refine t_v (.ld1 rfl rfl rfl (.at 3 rfl rfl)) ?_
        refine t_keep [4, 5, 78, 79, 81, 83] (σ' := [(4, .pointer (some ⟨b40, 0, none⟩)), (5, .pointer (some ⟨b41, 0, none⟩)), (78, .int .i64 (mx (mx m0_0 m0_0) m0_2)), (79, .int .i64 (wr64 (Int.tdiv (wr64 (w1 + 1)) 2))), (81, .pointer (some ⟨g43, 1, none⟩)), (83, .int .i64 (wr64 (Int.tdiv (wr64 (w1 + 1)) 2)))]) (by kernel_rfl) ?_
        refine t_end ?_
        exact ⟨hg_4afff, rfl⟩
      · show T _ _ _ _ _ _ _ _
        refine t_v (.ld1 rfl rfl rfl (.at 3 rfl rfl)) ?_
        refine t_keep [4, 5, 77, 79, 82, 83] (σ' := [(4, .pointer (some ⟨b40, 0, none⟩)), (5, .pointer (some ⟨b41, 0, none⟩)), (77, .pointer (some ⟨g43, 0, none⟩)), (79, .int .i64 (wr64 (Int.tdiv (wr64 (w1 + 1)) 2))), (82, .int .i64 (mx (mx m0_1 m0_1) m0_3)), (83, .int .i64 (wr64 (Int.tdiv (wr64 (w1 + 1)) 2)))]) (by kernel_rfl) ?_
        refine t_end ?_
        exact ⟨hg_4ebff, rfl⟩
    have hg_3fe75 : G [true, false, true, false, true, true, true, false, false, true, true, true, true, true, true, true, true, true, false, false, false] [(4, .pointer (some ⟨b40, 0, none⟩)), (5, .pointer (some ⟨b41, 0, none⟩)), (68, .pointer (some ⟨g42, 0, none⟩)), (70, .int .i64 (wr64 (Int.tdiv (wr64 (w1 + 1)) 2))), (73, .int .i64 (mn (mn m0_1 m0_1) m0_3)), (74, .int .i64 (wr64 (Int.tdiv (wr64 (w1 + 1)) 2))), (85, .agg #[.int .i64 (wr64 ((mx (mx m0_0 m0_0) m0_2) + (wr64 (Int.tdiv (wr64 (w1 + 1)) 2)))), .int .i64 (wr64 ((mx (mx m0_1 m0_1) m0_3) + (wr64 (Int.tdiv (wr64 (w1 + 1)) 2))))])] ([⟨b46, [.int .i64 m0_2, .int .i64 m0_3], 2⟩, ⟨b45, [.int .i64 m0_0, .int .i64 m0_1], 2⟩, ⟨b44, [.int .i64 m0_0, .int .i64 m0_1, .int .i64 m0_2, .int .i64 m0_3], 4⟩, ⟨g43, [.int .i64 (mx (mx m0_0 m0_0) m0_2), .int .i64 (mx (mx m0_1 m0_1) m0_3)], 2⟩, ⟨g42, [.int .i64 (mn (mn m0_0 m0_0) m0_2), .int .i64 (mn (mn m0_1 m0_1) m0_3)], 2⟩, ⟨b41, [.int .i64 0, .int .i64 0], 2⟩, ⟨b40, [.int .i64 0, .int .i64 0], 2⟩, ⟨B0, [.int .i64 m0_0, .int .i64 m0_1, .int .i64 m0_2, .int .i64 m0_3], 4⟩] : List Own) := by
      exact hqf 7 [4, 5, 68, 70, 75, 85] _ _ _ [(4, .pointer (some ⟨b40, 0, none⟩)), (5, .pointer (some ⟨b41, 0, none⟩)), (68, .pointer (some ⟨g42, 0, none⟩)), (70, .int .i64 (wr64 (Int.tdiv (wr64 (w1 + 1)) 2))), (75, .int .i64 (wr64 ((mn (mn m0_1 m0_1) m0_3) - (wr64 (Int.tdiv (wr64 (w1 + 1)) 2))))), (85, .agg #[.int .i64 (wr64 ((mx (mx m0_0 m0_0) m0_2) + (wr64 (Int.tdiv (wr64 (w1 + 1)) 2)))), .int .i64 (wr64 ((mx (mx m0_1 m0_1) m0_3) + (wr64 (Int.tdiv (wr64 (w1 + 1)) 2))))])] (by kernel_rfl) (by kernel_rfl) hg_3fef5
    have hg_1fef5 : G [true, false, true, false, true, true, true, true, false, true, true, true, true, true, true, true, true, false, false, false, false] [(4, .pointer (some ⟨b40, 0, none⟩)), (5, .pointer (some ⟨b41, 0, none⟩)), (68, .pointer (some ⟨g42, 0, none⟩)), (70, .int .i64 (wr64 (Int.tdiv (wr64 (w1 + 1)) 2))), (75, .int .i64 (wr64 ((mn (mn m0_1 m0_1) m0_3) - (wr64 (Int.tdiv (wr64 (w1 + 1)) 2))))), (80, .int .i64 (wr64 ((mx (mx m0_0 m0_0) m0_2) + (wr64 (Int.tdiv (wr64 (w1 + 1)) 2))))), (84, .int .i64 (wr64 ((mx (mx m0_1 m0_1) m0_3) + (wr64 (Int.tdiv (wr64 (w1 + 1)) 2)))))] ([⟨b46, [.int .i64 m0_2, .int .i64 m0_3], 2⟩, ⟨b45, [.int .i64 m0_0, .int .i64 m0_1], 2⟩, ⟨b44, [.int .i64 m0_0, .int .i64 m0_1, .int .i64 m0_2, .int .i64 m0_3], 4⟩, ⟨g43, [.int .i64 (mx (mx m0_0 m0_0) m0_2), .int .i64 (mx (mx m0_1 m0_1) m0_3)], 2⟩, ⟨g42, [.int .i64 (mn (mn m0_0 m0_0) m0_2), .int .i64 (mn (mn m0_1 m0_1) m0_3)], 2⟩, ⟨b41, [.int .i64 0, .int .i64 0], 2⟩, ⟨b40, [.int .i64 0, .int .i64 0], 2⟩, ⟨B0, [.int .i64 m0_0, .int .i64 m0_1, .int .i64 m0_2, .int .i64 m0_3], 4⟩] : List Own) := by
      exact hqf 17 [4, 5, 68, 70, 75, 85] _ _ _ [(4, .pointer (some ⟨b40, 0, none⟩)), (5, .pointer (some ⟨b41, 0, none⟩)), (68, .pointer (some ⟨g42, 0, none⟩)), (70, .int .i64 (wr64 (Int.tdiv (wr64 (w1 + 1)) 2))), (75, .int .i64 (wr64 ((mn (mn m0_1 m0_1) m0_3) - (wr64 (Int.tdiv (wr64 (w1 + 1)) 2))))), (85, .agg #[.int .i64 (wr64 ((mx (mx m0_0 m0_0) m0_2) + (wr64 (Int.tdiv (wr64 (w1 + 1)) 2)))), .int .i64 (wr64 ((mx (mx m0_1 m0_1) m0_3) + (wr64 (Int.tdiv (wr64 (w1 + 1)) 2))))])] (by kernel_rfl) (by kernel_rfl) hg_3fef5
    have hg_1eaf7 : G [true, true, true, false, true, true, true, true, false, true, false, true, false, true, true, true, true, false, false, false, false] [(4, .pointer (some ⟨b40, 0, none⟩)), (5, .pointer (some ⟨b41, 0, none⟩)), (69, .int .i64 (mn (mn m0_0 m0_0) m0_2)), (70, .int .i64 (wr64 (Int.tdiv (wr64 (w1 + 1)) 2))), (75, .int .i64 (wr64 ((mn (mn m0_1 m0_1) m0_3) - (wr64 (Int.tdiv (wr64 (w1 + 1)) 2))))), (77, .pointer (some ⟨g43, 0, none⟩)), (79, .int .i64 (wr64 (Int.tdiv (wr64 (w1 + 1)) 2))), (84, .int .i64 (wr64 ((mx (mx m0_1 m0_1) m0_3) + (wr64 (Int.tdiv (wr64 (w1 + 1)) 2)))))] ([⟨b46, [.int .i64 m0_2, .int .i64 m0_3], 2⟩, ⟨b45, [.int .i64 m0_0, .int .i64 m0_1], 2⟩, ⟨b44, [.int .i64 m0_0, .int .i64 m0_1, .int .i64 m0_2, .int .i64 m0_3], 4⟩, ⟨g43, [.int .i64 (mx (mx m0_0 m0_0) m0_2), .int .i64 (mx (mx m0_1 m0_1) m0_3)], 2⟩, ⟨g42, [.int .i64 (mn (mn m0_0 m0_0) m0_2), .int .i64 (mn (mn m0_1 m0_1) m0_3)], 2⟩, ⟨b41, [.int .i64 0, .int .i64 0], 2⟩, ⟨b40, [.int .i64 0, .int .i64 0], 2⟩, ⟨B0, [.int .i64 m0_0, .int .i64 m0_1, .int .i64 m0_2, .int .i64 m0_3], 4⟩] : List Own) := by
      exact hqf 3 [4, 5, 71, 75, 77, 79, 84] _ _ _ [(4, .pointer (some ⟨b40, 0, none⟩)), (5, .pointer (some ⟨b41, 0, none⟩)), (71, .int .i64 (wr64 ((mn (mn m0_0 m0_0) m0_2) - (wr64 (Int.tdiv (wr64 (w1 + 1)) 2))))), (75, .int .i64 (wr64 ((mn (mn m0_1 m0_1) m0_3) - (wr64 (Int.tdiv (wr64 (w1 + 1)) 2))))), (77, .pointer (some ⟨g43, 0, none⟩)), (79, .int .i64 (wr64 (Int.tdiv (wr64 (w1 + 1)) 2))), (84, .int .i64 (wr64 ((mx (mx m0_1 m0_1) m0_3) + (wr64 (Int.tdiv (wr64 (w1 + 1)) 2)))))] (by kernel_rfl) (by kernel_rfl) hg_1eaff
    have hg_fef5 : G [true, false, true, false, true, true, true, true, false, true, true, true, true, true, true, true, false, false, false, false, false] [(4, .pointer (some ⟨b40, 0, none⟩)), (5, .pointer (some ⟨b41, 0, none⟩)), (68, .pointer (some ⟨g42, 0, none⟩)), (70, .int .i64 (wr64 (Int.tdiv (wr64 (w1 + 1)) 2))), (75, .int .i64 (wr64 ((mn (mn m0_1 m0_1) m0_3) - (wr64 (Int.tdiv (wr64 (w1 + 1)) 2))))), (80, .int .i64 (wr64 ((mx (mx m0_0 m0_0) m0_2) + (wr64 (Int.tdiv (wr64 (w1 + 1)) 2))))), (82, .int .i64 (mx (mx m0_1 m0_1) m0_3)), (83, .int .i64 (wr64 (Int.tdiv (wr64 (w1 + 1)) 2)))] ([⟨b46, [.int .i64 m0_2, .int .i64 m0_3], 2⟩, ⟨b45, [.int .i64 m0_0, .int .i64 m0_1], 2⟩, ⟨b44, [.int .i64 m0_0, .int .i64 m0_1, .int .i64 m0_2, .int .i64 m0_3], 4⟩, ⟨g43, [.int .i64 (mx (mx m0_0 m0_0) m0_2), .int .i64 (mx (mx m0_1 m0_1) m0_3)], 2⟩, ⟨g42, [.int .i64 (mn (mn m0_0 m0_0) m0_2), .int .i64 (mn (mn m0_1 m0_1) m0_3)], 2⟩, ⟨b41, [.int .i64 0, .int .i64 0], 2⟩, ⟨b40, [.int .i64 0, .int .i64 0], 2⟩, ⟨B0, [.int .i64 m0_0, .int .i64 m0_1, .int .i64 m0_2, .int .i64 m0_3], 4⟩] : List Own) := by
      exact hqf 16 [4, 5, 68, 70, 75, 80, 84] _ _ _ [(4, .pointer (some ⟨b40, 0, none⟩)), (5, .pointer (some ⟨b41, 0, none⟩)), (68, .pointer (some ⟨g42, 0, none⟩)), (70, .int .i64 (wr64 (Int.tdiv (wr64 (w1 + 1)) 2))), (75, .int .i64 (wr64 ((mn (mn m0_1 m0_1) m0_3) - (wr64 (Int.tdiv (wr64 (w1 + 1)) 2))))), (80, .int .i64 (wr64 ((mx (mx m0_0 m0_0) m0_2) + (wr64 (Int.tdiv (wr64 (w1 + 1)) 2))))), (84, .int .i64 (wr64 ((mx (mx m0_1 m0_1) m0_3) + (wr64 (Int.tdiv (wr64 (w1 + 1)) 2)))))] (by kernel_rfl) (by kernel_rfl) hg_1fef5
    have hg_bef7 : G [true, true, true, false, true, true, true, true, false, true, true, true, true, true, false, true, false, false, false, false, false] [(4, .pointer (some ⟨b40, 0, none⟩)), (5, .pointer (some ⟨b41, 0, none⟩)), (69, .int .i64 (mn (mn m0_0 m0_0) m0_2)), (70, .int .i64 (wr64 (Int.tdiv (wr64 (w1 + 1)) 2))), (75, .int .i64 (wr64 ((mn (mn m0_1 m0_1) m0_3) - (wr64 (Int.tdiv (wr64 (w1 + 1)) 2))))), (80, .int .i64 (wr64 ((mx (mx m0_0 m0_0) m0_2) + (wr64 (Int.tdiv (wr64 (w1 + 1)) 2))))), (81, .pointer (some ⟨g43, 1, none⟩)), (83, .int .i64 (wr64 (Int.tdiv (wr64 (w1 + 1)) 2)))] ([⟨b46, [.int .i64 m0_2, .int .i64 m0_3], 2⟩, ⟨b45, [.int .i64 m0_0, .int .i64 m0_1], 2⟩, ⟨b44, [.int .i64 m0_0, .int .i64 m0_1, .int .i64 m0_2, .int .i64 m0_3], 4⟩, ⟨g43, [.int .i64 (mx (mx m0_0 m0_0) m0_2), .int .i64 (mx (mx m0_1 m0_1) m0_3)], 2⟩, ⟨g42, [.int .i64 (mn (mn m0_0 m0_0) m0_2), .int .i64 (mn (mn m0_1 m0_1) m0_3)], 2⟩, ⟨b41, [.int .i64 0, .int .i64 0], 2⟩, ⟨b40, [.int .i64 0, .int .i64 0], 2⟩, ⟨B0, [.int .i64 m0_0, .int .i64 m0_1, .int .i64 m0_2, .int .i64 m0_3], 4⟩] : List Own) := by
      exact hqf 3 [4, 5, 71, 75, 80, 81, 83] _ _ _ [(4, .pointer (some ⟨b40, 0, none⟩)), (5, .pointer (some ⟨b41, 0, none⟩)), (71, .int .i64 (wr64 ((mn (mn m0_0 m0_0) m0_2) - (wr64 (Int.tdiv (wr64 (w1 + 1)) 2))))), (75, .int .i64 (wr64 ((mn (mn m0_1 m0_1) m0_3) - (wr64 (Int.tdiv (wr64 (w1 + 1)) 2))))), (80, .int .i64 (wr64 ((mx (mx m0_0 m0_0) m0_2) + (wr64 (Int.tdiv (wr64 (w1 + 1)) 2))))), (81, .pointer (some ⟨g43, 1, none⟩)), (83, .int .i64 (wr64 (Int.tdiv (wr64 (w1 + 1)) 2)))] (by kernel_rfl) (by kernel_rfl) hg_beff
    have hg_1ea7f : G [true, true, true, true, true, true, true, false, false, true, false, true, false, true, true, true, true, false, false, false, false] [(4, .pointer (some ⟨b40, 0, none⟩)), (5, .pointer (some ⟨b41, 0, none⟩)), (71, .int .i64 (wr64 ((mn (mn m0_0 m0_0) m0_2) - (wr64 (Int.tdiv (wr64 (w1 + 1)) 2))))), (73, .int .i64 (mn (mn m0_1 m0_1) m0_3)), (74, .int .i64 (wr64 (Int.tdiv (wr64 (w1 + 1)) 2))), (77, .pointer (some ⟨g43, 0, none⟩)), (79, .int .i64 (wr64 (Int.tdiv (wr64 (w1 + 1)) 2))), (84, .int .i64 (wr64 ((mx (mx m0_1 m0_1) m0_3) + (wr64 (Int.tdiv (wr64 (w1 + 1)) 2)))))] ([⟨b46, [.int .i64 m0_2, .int .i64 m0_3], 2⟩, ⟨b45, [.int .i64 m0_0, .int .i64 m0_1], 2⟩, ⟨b44, [.int .i64 m0_0, .int .i64 m0_1, .int .i64 m0_2, .int .i64 m0_3], 4⟩, ⟨g43, [.int .i64 (mx (mx m0_0 m0_0) m0_2), .int .i64 (mx (mx m0_1 m0_1) m0_3)], 2⟩, ⟨g42, [.int .i64 (mn (mn m0_0 m0_0) m0_2), .int .i64 (mn (mn m0_1 m0_1) m0_3)], 2⟩, ⟨b41, [.int .i64 0, .int .i64 0], 2⟩, ⟨b40, [.int .i64 0, .int .i64 0], 2⟩, ⟨B0, [.int .i64 m0_0, .int .i64 m0_1, .int .i64 m0_2, .int .i64 m0_3], 4⟩] : List Own) := by
      exact hqf 7 [4, 5, 71, 75, 77, 79, 84] _ _ _ [(4, .pointer (some ⟨b40, 0, none⟩)), (5, .pointer (some ⟨b41, 0, none⟩)), (71, .int .i64 (wr64 ((mn (mn m0_0 m0_0) m0_2) - (wr64 (Int.tdiv (wr64 (w1 + 1)) 2))))), (75, .int .i64 (wr64 ((mn (mn m0_1 m0_1) m0_3) - (wr64 (Int.tdiv (wr64 (w1 + 1)) 2))))), (77, .pointer (some ⟨g43, 0, none⟩)), (79, .int .i64 (wr64 (Int.tdiv (wr64 (w1 + 1)) 2))), (84, .int .i64 (wr64 ((mx (mx m0_1 m0_1) m0_3) + (wr64 (Int.tdiv (wr64 (w1 + 1)) 2)))))] (by kernel_rfl) (by kernel_rfl) hg_1eaff
    have hg_fe5f : G [true, true, true, true, true, false, true, false, false, true, true, true, true, true, true, true, false, false, false, false, false] [(4, .pointer (some ⟨b40, 0, none⟩)), (5, .pointer (some ⟨b41, 0, none⟩)), (71, .int .i64 (wr64 ((mn (mn m0_0 m0_0) m0_2) - (wr64 (Int.tdiv (wr64 (w1 + 1)) 2))))), (72, .pointer (some ⟨g42, 1, none⟩)), (74, .int .i64 (wr64 (Int.tdiv (wr64 (w1 + 1)) 2))), (80, .int .i64 (wr64 ((mx (mx m0_0 m0_0) m0_2) + (wr64 (Int.tdiv (wr64 (w1 + 1)) 2))))), (82, .int .i64 (mx (mx m0_1 m0_1) m0_3)), (83, .int .i64 (wr64 (Int.tdiv (wr64 (w1 + 1)) 2)))] ([⟨b46, [.int .i64 m0_2, .int .i64 m0_3], 2⟩, ⟨b45, [.int .i64 m0_0, .int .i64 m0_1], 2⟩, ⟨b44, [.int .i64 m0_0, .int .i64 m0_1, .int .i64 m0_2, .int .i64 m0_3], 4⟩, ⟨g43, [.int .i64 (mx (mx m0_0 m0_0) m0_2), .int .i64 (mx (mx m0_1 m0_1) m0_3)], 2⟩, ⟨g42, [.int .i64 (mn (mn m0_0 m0_0) m0_2), .int .i64 (mn (mn m0_1 m0_1) m0_3)], 2⟩, ⟨b41, [.int .i64 0, .int .i64 0], 2⟩, ⟨b40, [.int .i64 0, .int .i64 0], 2⟩, ⟨B0, [.int .i64 m0_0, .int .i64 m0_1, .int .i64 m0_2, .int .i64 m0_3], 4⟩] : List Own) := by
      exact hqf 16 [4, 5, 71, 72, 74, 80, 84] _ _ _ [(4, .pointer (some ⟨b40, 0, none⟩)), (5, .pointer (some ⟨b41, 0, none⟩)), (71, .int .i64 (wr64 ((mn (mn m0_0 m0_0) m0_2) - (wr64 (Int.tdiv (wr64 (w1 + 1)) 2))))), (72, .pointer (some ⟨g42, 1, none⟩)), (74, .int .i64 (wr64 (Int.tdiv (wr64 (w1 + 1)) 2))), (80, .int .i64 (wr64 ((mx (mx m0_0 m0_0) m0_2) + (wr64 (Int.tdiv (wr64 (w1 + 1)) 2))))), (84, .int .i64 (wr64 ((mx (mx m0_1 m0_1) m0_3) + (wr64 (Int.tdiv (wr64 (w1 + 1)) 2)))))] (by kernel_rfl) (by kernel_rfl) hg_1fe5f
    have hg_3fe55 : G [true, false, true, false, true, false, true, false, false, true, true, true, true, true, true, true, true, true, false, false, false] [(4, .pointer (some ⟨b40, 0, none⟩)), (5, .pointer (some ⟨b41, 0, none⟩)), (68, .pointer (some ⟨g42, 0, none⟩)), (70, .int .i64 (wr64 (Int.tdiv (wr64 (w1 + 1)) 2))), (72, .pointer (some ⟨g42, 1, none⟩)), (74, .int .i64 (wr64 (Int.tdiv (wr64 (w1 + 1)) 2))), (85, .agg #[.int .i64 (wr64 ((mx (mx m0_0 m0_0) m0_2) + (wr64 (Int.tdiv (wr64 (w1 + 1)) 2)))), .int .i64 (wr64 ((mx (mx m0_1 m0_1) m0_3) + (wr64 (Int.tdiv (wr64 (w1 + 1)) 2))))])] ([⟨b46, [.int .i64 m0_2, .int .i64 m0_3], 2⟩, ⟨b45, [.int .i64 m0_0, .int .i64 m0_1], 2⟩, ⟨b44, [.int .i64 m0_0, .int .i64 m0_1, .int .i64 m0_2, .int .i64 m0_3], 4⟩, ⟨g43, [.int .i64 (mx (mx m0_0 m0_0) m0_2), .int .i64 (mx (mx m0_1 m0_1) m0_3)], 2⟩, ⟨g42, [.int .i64 (mn (mn m0_0 m0_0) m0_2), .int .i64 (mn (mn m0_1 m0_1) m0_3)], 2⟩, ⟨b41, [.int .i64 0, .int .i64 0], 2⟩, ⟨b40, [.int .i64 0, .int .i64 0], 2⟩, ⟨B0, [.int .i64 m0_0, .int .i64 m0_1, .int .i64 m0_2, .int .i64 m0_3], 4⟩] : List Own) := by
      refine hstep [1, 5] _ _ _ (by kernel_rfl) (List.cons_ne_nil _ _) ⟨?_, ?_, trivial⟩
      · show T _ _ _ _ _ _ _ _
        refine t_v (.ld1 rfl rfl rfl (.at 4 rfl rfl)) ?_
        refine t_keep [4, 5, 69, 70, 72, 74, 85] (σ' := [(4, .pointer (some ⟨b40, 0, none⟩)), (5, .pointer (some ⟨b41, 0, none⟩)), (69, .int .i64 (mn (mn m0_0 m0_0) m0_2)), (70, .int .i64 (wr64 (Int.tdiv (wr64 (w1 + 1)) 2))), (72, .pointer (some ⟨g42, 1, none⟩)), (74, .int .i64 (wr64 (Int.tdiv (wr64 (w1 + 1)) 2))), (85, .agg #[.int .i64 (wr64 ((mx (mx m0_0 m0_0) m0_2) + (wr64 (Int.tdiv (wr64 (w1 + 1)) 2)))), .int .i64 (wr64 ((mx (mx m0_1 m0_1) m0_3) + (wr64 (Int.tdiv (wr64 (w1 + 1)) 2))))])]) (by kernel_rfl) ?_
        refine t_end ?_
        exact ⟨hg_3fe57, rfl⟩
      · show T _ _ _ _ _ _ _ _
        refine t_v (.ld1 rfl rfl rfl (.at 4 rfl rfl)) ?_
        refine t_keep [4, 5, 68, 70, 73, 74, 85] (σ' := [(4, .pointer (some ⟨b40, 0, none⟩)), (5, .pointer (some ⟨b41, 0, none⟩)), (68, .pointer (some ⟨g42, 0, none⟩)), (70, .int .i64 (wr64 (Int.tdiv (wr64 (w1 + 1)) 2))), (73, .int .i64 (mn (mn m0_1 m0_1) m0_3)), (74, .int .i64 (wr64 (Int.tdiv (wr64 (w1 + 1)) 2))), (85, .agg #[.int .i64 (wr64 ((mx (mx m0_0 m0_0) m0_2) + (wr64 (Int.tdiv (wr64 (w1 + 1)) 2)))), .int .i64 (wr64 ((mx (mx m0_1 m0_1) m0_3) + (wr64 (Int.tdiv (wr64 (w1 + 1)) 2))))])]) (by kernel_rfl) ?_
        refine t_end ?_
        exact ⟨hg_3fe75, rfl⟩
    have hg_1ee5f : G [true, true, true, true, true, false, true, false, false, true, true, true, false, true, true, true, true, false, false, false, false] [(4, .pointer (some ⟨b40, 0, none⟩)), (5, .pointer (some ⟨b41, 0, none⟩)), (71, .int .i64 (wr64 ((mn (mn m0_0 m0_0) m0_2) - (wr64 (Int.tdiv (wr64 (w1 + 1)) 2))))), (72, .pointer (some ⟨g42, 1, none⟩)), (74, .int .i64 (wr64 (Int.tdiv (wr64 (w1 + 1)) 2))), (78, .int .i64 (mx (mx m0_0 m0_0) m0_2)), (79, .int .i64 (wr64 (Int.tdiv (wr64 (w1 + 1)) 2))), (84, .int .i64 (wr64 ((mx (mx m0_1 m0_1) m0_3) + (wr64 (Int.tdiv (wr64 (w1 + 1)) 2)))))] ([⟨b46, [.int .i64 m0_2, .int .i64 m0_3], 2⟩, ⟨b45, [.int .i64 m0_0, .int .i64 m0_1], 2⟩, ⟨b44, [.int .i64 m0_0, .int .i64 m0_1, .int .i64 m0_2, .int .i64 m0_3], 4⟩, ⟨g43, [.int .i64 (mx (mx m0_0 m0_0) m0_2), .int .i64 (mx (mx m0_1 m0_1) m0_3)], 2⟩, ⟨g42, [.int .i64 (mn (mn m0_0 m0_0) m0_2), .int .i64 (mn (mn m0_1 m0_1) m0_3)], 2⟩, ⟨b41, [.int .i64 0, .int .i64 0], 2⟩, ⟨b40, [.int .i64 0, .int .i64 0], 2⟩, ⟨B0, [.int .i64 m0_0, .int .i64 m0_1, .int .i64 m0_2, .int .i64 m0_3], 4⟩] : List Own) := by
      exact hqf 12 [4, 5, 71, 72, 74, 80, 84] _ _ _ [(4, .pointer (some ⟨b40, 0, none⟩)), (5, .pointer (some ⟨b41, 0, none⟩)), (71, .int .i64 (wr64 ((mn (mn m0_0 m0_0) m0_2) - (wr64 (Int.tdiv (wr64 (w1 + 1)) 2))))), (72, .pointer (some ⟨g42, 1, none⟩)), (74, .int .i64 (wr64 (Int.tdiv (wr64 (w1 + 1)) 2))), (80, .int .i64 (wr64 ((mx (mx m0_0 m0_0) m0_2) + (wr64 (Int.tdiv (wr64 (w1 + 1)) 2))))), (84, .int .i64 (wr64 ((mx (mx m0_1 m0_1) m0_3) + (wr64 (Int.tdiv (wr64 (w1 + 1)) 2)))))] (by kernel_rfl) (by kernel_rfl) hg_1fe5f
    have hg_be7f : G [true, true, true, true, true, true, true, false, false, true, true, true, true, true, false, true, false, false, false, false, false] [(4, .pointer (some ⟨b40, 0, none⟩)), (5, .pointer (some ⟨b41, 0, none⟩)), (71, .int .i64 (wr64 ((mn (mn m0_0 m0_0) m0_2) - (wr64 (Int.tdiv (wr64 (w1 + 1)) 2))))), (73, .int .i64 (mn (mn m0_1 m0_1) m0_3)), (74, .int .i64 (wr64 (Int.tdiv (wr64 (w1 + 1)) 2))), (80, .int .i64 (wr64 ((mx (mx m0_0 m0_0) m0_2) + (wr64 (Int.tdiv (wr64 (w1 + 1)) 2))))), (81, .pointer (some ⟨g43, 1, none⟩)), (83, .int .i64 (wr64 (Int.tdiv (wr64 (w1 + 1)) 2)))] ([⟨b46, [.int .i64 m0_2, .int .i64 m0_3], 2⟩, ⟨b45, [.int .i64 m0_0, .int .i64 m0_1], 2⟩, ⟨b44, [.int .i64 m0_0, .int .i64 m0_1, .int .i64 m0_2, .int .i64 m0_3], 4⟩, ⟨g43, [.int .i64 (mx (mx m0_0 m0_0) m0_2), .int .i64 (mx (mx m0_1 m0_1) m0_3)], 2⟩, ⟨g42, [.int .i64 (mn (mn m0_0 m0_0) m0_2), .int .i64 (mn (mn m0_1 m0_1) m0_3)], 2⟩, ⟨b41, [.int .i64 0, .int .i64 0], 2⟩, ⟨b40, [.int .i64 0, .int .i64 0], 2⟩, ⟨B0, [.int .i64 m0_0, .int .i64 m0_1, .int .i64 m0_2, .int .i64 m0_3], 4⟩] : List Own) := by
      exact hqf 7 [4, 5, 71, 75, 80, 81, 83] _ _ _ [(4, .pointer (some ⟨b40, 0, none⟩)), (5, .pointer (some ⟨b41, 0, none⟩)), (71, .int .i64 (wr64 ((mn (mn m0_0 m0_0) m0_2) - (wr64 (Int.tdiv (wr64 (w1 + 1)) 2))))), (75, .int .i64 (wr64 ((mn (mn m0_1 m0_1) m0_3) - (wr64 (Int.tdiv (wr64 (w1 + 1)) 2))))), (80, .int .i64 (wr64 ((mx (mx m0_0 m0_0) m0_2) + (wr64 (Int.tdiv (wr64 (w1 + 1)) 2))))), (81, .pointer (some ⟨g43, 1, none⟩)), (83, .int .i64 (wr64 (Int.tdiv (wr64 (w1 + 1)) 2)))] (by kernel_rfl) (by kernel_rfl) hg_beff
    have hg_abff : G [true, true, true, true, true, true, true, true, true, true, false, true, false, true, false, true, false, false, false, false, false] [(4, .pointer (some ⟨b40, 0, none⟩)), (5, .pointer (some ⟨b41, 0, none⟩)), (76, .agg #[.int .i64 (wr64 ((mn (mn m0_0 m0_0) m0_2) - (wr64 (Int.tdiv (wr64 (w1 + 1)) 2)))), .int .i64 (wr64 ((mn (mn m0_1 m0_1) m0_3) - (wr64 (Int.tdiv (wr64 (w1 + 1)) 2))))]), (77, .pointer (some ⟨g43, 0, none⟩)), (79, .int .i64 (wr64 (Int.tdiv (wr64 (w1 + 1)) 2))), (81, .pointer (some ⟨g43, 1, none⟩)), (83, .int .i64 (wr64 (Int.tdiv (wr64 (w1 + 1)) 2)))] ([⟨b46, [.int .i64 m0_2, .int .i64 m0_3], 2⟩, ⟨b45, [.int .i64 m0_0, .int .i64 m0_1], 2⟩, ⟨b44, [.int .i64 m0_0, .int .i64 m0_1, .int .i64 m0_2, .int .i64 m0_3], 4⟩, ⟨g43, [.int .i64 (mx (mx m0_0 m0_0) m0_2), .int .i64 (mx (mx m0_1 m0_1) m0_3)], 2⟩, ⟨g42, [.int .i64 (mn (mn m0_0 m0_0) m0_2), .int .i64 (mn (mn m0_1 m0_1) m0_3)], 2⟩, ⟨b41, [.int .i64 0, .int .i64 0], 2⟩, ⟨b40, [.int .i64 0, .int .i64 0], 2⟩, ⟨B0, [.int .i64 m0_0, .int .i64 m0_1, .int .i64 m0_2, .int .i64 m0_3], 4⟩] : List Own) := by
      refine hstep [10, 14, 18] _ _ _ (by kernel_rfl) (List.cons_ne_nil _ _) ⟨?_, ?_, ?_, trivial⟩
      · show T _ _ _ _ _ _ _ _
        refine t_v (.ld1 rfl rfl rfl (.at 3 rfl rfl)) ?_
        refine t_keep [4, 5, 76, 78, 79, 81, 83] (σ' := [(4, .pointer (some ⟨b40, 0, none⟩)), (5, .pointer (some ⟨b41, 0, none⟩)), (76, .agg #[.int .i64 (wr64 ((mn (mn m0_0 m0_0) m0_2) - (wr64 (Int.tdiv (wr64 (w1 + 1)) 2)))), .int .i64 (wr64 ((mn (mn m0_1 m0_1) m0_3) - (wr64 (Int.tdiv (wr64 (w1 + 1)) 2))))]), (78, .int .i64 (mx (mx m0_0 m0_0) m0_2)), (79, .int .i64 (wr64 (Int.tdiv (wr64 (w1 + 1)) 2))), (81, .pointer (some ⟨g43, 1, none⟩)), (83, .int .i64 (wr64 (Int.tdiv (wr64 (w1 + 1)) 2)))]) (by kernel_rfl) ?_
        refine t_end ?_
        exact ⟨hg_afff, rfl⟩
      · show T _ _ _ _ _ _ _ _
        refine t_v (.ld1 rfl rfl rfl (.at 3 rfl rfl)) ?_
        refine t_keep [4, 5, 76, 77, 79, 82, 83] (σ' := [(4, .pointer (some ⟨b40, 0, none⟩)), (5, .pointer (some ⟨b41, 0, none⟩)), (76, .agg #[.int .i64 (wr64 ((mn (mn m0_0 m0_0) m0_2) - (wr64 (Int.tdiv (wr64 (w1 + 1)) 2)))), .int .i64 (wr64 ((mn (mn m0_1 m0_1) m0_3) - (wr64 (Int.tdiv (wr64 (w1 + 1)) 2))))]), (77, .pointer (some ⟨g43, 0, none⟩)), (79, .int .i64 (wr64 (Int.tdiv (wr64 (w1 + 1)) 2))), (82, .int .i64 (mx (mx m0_1 m0_1) m0_3)), (83, .int .i64 (wr64 (Int.tdiv (wr64 (w1 + 1)) 2)))]) (by kernel_rfl) ?_
        refine t_end ?_
        exact ⟨hg_ebff, rfl⟩
      · show T _ _ _ _ _ _ _ _
        refine t_sti 6 (cs := [.int .i64 (wr64 ((mn (mn m0_0 m0_0) m0_2) - (wr64 (Int.tdiv (wr64 (w1 + 1)) 2)))), .int .i64 (wr64 ((mn (mn m0_1 m0_1) m0_3) - (wr64 (Int.tdiv (wr64 (w1 + 1)) 2))))]) rfl rfl rfl rfl rfl rfl rfl rfl rfl ?_
        refine t_keep [4, 5, 77, 79, 81, 83] (σ' := [(4, .pointer (some ⟨b40, 0, none⟩)), (5, .pointer (some ⟨b41, 0, none⟩)), (77, .pointer (some ⟨g43, 0, none⟩)), (79, .int .i64 (wr64 (Int.tdiv (wr64 (w1 + 1)) 2))), (81, .pointer (some ⟨g43, 1, none⟩)), (83, .int .i64 (wr64 (Int.tdiv (wr64 (w1 + 1)) 2)))]) (by kernel_rfl) ?_
        refine t_end ?_
        exact ⟨hg_4abff, rfl⟩
    have hg_1eef5 : G [true, false, true, false, true, true, true, true, false, true, true, true, false, true, true, true, true, false, false, false, false] [(4, .pointer (some ⟨b40, 0, none⟩)), (5, .pointer (some ⟨b41, 0, none⟩)), (68, .pointer (some ⟨g42, 0, none⟩)), (70, .int .i64 (wr64 (Int.tdiv (wr64 (w1 + 1)) 2))), (75, .int .i64 (wr64 ((mn (mn m0_1 m0_1) m0_3) - (wr64 (Int.tdiv (wr64 (w1 + 1)) 2))))), (78, .int .i64 (mx (mx m0_0 m0_0) m0_2)), (79, .int .i64 (wr64 (Int.tdiv (wr64 (w1 + 1)) 2))), (84, .int .i64 (wr64 ((mx (mx m0_1 m0_1) m0_3) + (wr64 (Int.tdiv (wr64 (w1 + 1)) 2)))))] ([⟨b46, [.int .i64 m0_2, .int .i64 m0_3], 2⟩, ⟨b45, [.int .i64 m0_0, .int .i64 m0_1], 2⟩, ⟨b44, [.int .i64 m0_0, .int .i64 m0_1, .int .i64 m0_2, .int .i64 m0_3], 4⟩, ⟨g43, [.int .i64 (mx (mx m0_0 m0_0) m0_2), .int .i64 (mx (mx m0_1 m0_1) m0_3)], 2⟩, ⟨g42, [.int .i64 (mn (mn m0_0 m0_0) m0_2), .int .i64 (mn (mn m0_1 m0_1) m0_3)], 2⟩, ⟨b41, [.int .i64 0, .int .i64 0], 2⟩, ⟨b40, [.int .i64 0, .int .i64 0], 2⟩, ⟨B0, [.int .i64 m0_0, .int .i64 m0_1, .int .i64 m0_2, .int .i64 m0_3], 4⟩] : List Own) := by
      exact hqf 12 [4, 5, 68, 70, 75, 80, 84] _ _ _ [(4, .pointer (some ⟨b40, 0, none⟩)), (5, .pointer (some ⟨b41, 0, none⟩)), (68, .pointer (some ⟨g42, 0, none⟩)), (70, .int .i64 (wr64 (Int.tdiv (wr64 (w1 + 1)) 2))), (75, .int .i64 (wr64 ((mn (mn m0_1 m0_1) m0_3) - (wr64 (Int.tdiv (wr64 (w1 + 1)) 2))))), (80, .int .i64 (wr64 ((mx (mx m0_0 m0_0) m0_2) + (wr64 (Int.tdiv (wr64 (w1 + 1)) 2))))), (84, .int .i64 (wr64 ((mx (mx m0_1 m0_1) m0_3) + (wr64 (Int.tdiv (wr64 (w1 + 1)) 2)))))] (by kernel_rfl) (by kernel_rfl) hg_1fef5
    have hg_bef5 : G [true, false, true, false, true, true, true, true, false, true, true, true, true, true, false, true, false, false, false, false, false] [(4, .pointer (some ⟨b40, 0, none⟩)), (5, .pointer (some ⟨b41, 0, none⟩)), (68, .pointer (some ⟨g42, 0, none⟩)), (70, .int .i64 (wr64 (Int.tdiv (wr64 (w1 + 1)) 2))), (75, .int .i64 (wr64 ((mn (mn m0_1 m0_1) m0_3) - (wr64 (Int.tdiv (wr64 (w1 + 1)) 2))))), (80, .int .i64 (wr64 ((mx (mx m0_0 m0_0) m0_2) + (wr64 (Int.tdiv (wr64 (w1 + 1)) 2))))), (81, .pointer (some ⟨g43, 1, none⟩)), (83, .int .i64 (wr64 (Int.tdiv (wr64 (w1 + 1)) 2)))] ([⟨b46, [.int .i64 m0_2, .int .i64 m0_3], 2⟩, ⟨b45, [.int .i64 m0_0, .int .i64 m0_1], 2⟩, ⟨b44, [.int .i64 m0_0, .int .i64 m0_1, .int .i64 m0_2, .int .i64 m0_3], 4⟩, ⟨g43, [.int .i64 (mx (mx m0_0 m0_0) m0_2), .int .i64 (mx (mx m0_1 m0_1) m0_3)], 2⟩, ⟨g42, [.int .i64 (mn (mn m0_0 m0_0) m0_2), .int .i64 (mn (mn m0_1 m0_1) m0_3)], 2⟩, ⟨b41, [.int .i64 0, .int .i64 0], 2⟩, ⟨b40, [.int .i64 0, .int .i64 0], 2⟩, ⟨B0, [.int .i64 m0_0, .int .i64 m0_1, .int .i64 m0_2, .int .i64 m0_3], 4⟩] : List Own) := by
      refine hstep [1, 14] _ _ _ (by kernel_rfl) (List.cons_ne_nil _ _) ⟨?_, ?_, trivial⟩
      · show T _ _ _ _ _ _ _ _
        refine t_v (.ld1 rfl rfl rfl (.at 4 rfl rfl)) ?_
        refine t_keep [4, 5, 69, 70, 75, 80, 81, 83] (σ' := [(4, .pointer (some ⟨b40, 0, none⟩)), (5, .pointer (some ⟨b41, 0, none⟩)), (69, .int .i64 (mn (mn m0_0 m0_0) m0_2)), (70, .int .i64 (wr64 (Int.tdiv (wr64 (w1 + 1)) 2))), (75, .int .i64 (wr64 ((mn (mn m0_1 m0_1) m0_3) - (wr64 (Int.tdiv (wr64 (w1 + 1)) 2))))), (80, .int .i64 (wr64 ((mx (mx m0_0 m0_0) m0_2) + (wr64 (Int.tdiv (wr64 (w1 + 1)) 2))))), (81, .pointer (some ⟨g43, 1, none⟩)), (83, .int .i64 (wr64 (Int.tdiv (wr64 (w1 + 1)) 2)))]) (by kernel_rfl) ?_
        refine t_end ?_
        exact ⟨hg_bef7, rfl⟩
      · show T _ _ _ _ _ _ _ _
        refine t_v (.ld1 rfl rfl rfl (.at 3 rfl rfl)) ?_
        refine t_keep [4, 5, 68, 70, 75, 80, 82, 83] (σ' := [(4, .pointer (some ⟨b40, 0, none⟩)), (5, .pointer (some ⟨b41, 0, none⟩)), (68, .pointer (some ⟨g42, 0, none⟩)), (70, .int .i64 (wr64 (Int.tdiv (wr64 (w1 + 1)) 2))), (75, .int .i64 (wr64 ((mn (mn m0_1 m0_1) m0_3) - (wr64 (Int.tdiv (wr64 (w1 + 1)) 2))))), (80, .int .i64 (wr64 ((mx (mx m0_0 m0_0) m0_2) + (wr64 (Int.tdiv (wr64 (w1 + 1)) 2))))), (82, .int .i64 (mx (mx m0_1 m0_1) m0_3)), (83, .int .i64 (wr64 (Int.tdiv (wr64 (w1 + 1)) 2)))]) (by kernel_rfl) ?_
        refine t_end ?_
        exact ⟨hg_fef5, rfl⟩
    have hg_be5f : G [true, true, true, true, true, false, true, false, false, true, true, true, true, true, false, true, false, false, false, false, false] [(4, .pointer (some ⟨b40, 0, none⟩)), (5, .pointer (some ⟨b41, 0, none⟩)), (71, .int .i64 (wr64 ((mn (mn m0_0 m0_0) m0_2) - (wr64 (Int.tdiv (wr64 (w1 + 1)) 2))))), (72, .pointer (some ⟨g42, 1, none⟩)), (74, .int .i64 (wr64 (Int.tdiv (wr64 (w1 + 1)) 2))), (80, .int .i64 (wr64 ((mx (mx m0_0 m0_0) m0_2) + (wr64 (Int.tdiv (wr64 (w1 + 1)) 2))))), (81, .pointer (some ⟨g43, 1, none⟩)), (83, .int .i64 (wr64 (Int.tdiv (wr64 (w1 + 1)) 2)))] ([⟨b46, [.int .i64 m0_2, .int .i64 m0_3], 2⟩, ⟨b45, [.int .i64 m0_0, .int .i64 m0_1], 2⟩, ⟨b44, [.int .i64 m0_0, .int .i64 m0_1, .int .i64 m0_2, .int .i64 m0_3], 4⟩, ⟨g43, [.int .i64 (mx (mx m0_0 m0_0) m0_2), .int .i64 (mx (mx m0_1 m0_1) m0_3)], 2⟩, ⟨g42, [.int .i64 (mn (mn m0_0 m0_0) m0_2), .int .i64 (mn (mn m0_1 m0_1) m0_3)], 2⟩, ⟨b41, [.int .i64 0, .int .i64 0], 2⟩, ⟨b40, [.int .i64 0, .int .i64 0], 2⟩, ⟨B0, [.int .i64 m0_0, .int .i64 m0_1, .int .i64 m0_2, .int .i64 m0_3], 4⟩] : List Own) := by
      refine hstep [5, 14] _ _ _ (by kernel_rfl) (List.cons_ne_nil _ _) ⟨?_, ?_, trivial⟩
      · show T _ _ _ _ _ _ _ _
        refine t_v (.ld1 rfl rfl rfl (.at 4 rfl rfl)) ?_
        refine t_keep [4, 5, 71, 73, 74, 80, 81, 83] (σ' := [(4, .pointer (some ⟨b40, 0, none⟩)), (5, .pointer (some ⟨b41, 0, none⟩)), (71, .int .i64 (wr64 ((mn (mn m0_0 m0_0) m0_2) - (wr64 (Int.tdiv (wr64 (w1 + 1)) 2))))), (73, .int .i64 (mn (mn m0_1 m0_1) m0_3)), (74, .int .i64 (wr64 (Int.tdiv (wr64 (w1 + 1)) 2))), (80, .int .i64 (wr64 ((mx (mx m0_0 m0_0) m0_2) + (wr64 (Int.tdiv (wr64 (w1 + 1)) 2))))), (81, .pointer (some ⟨g43, 1, none⟩)), (83, .int .i64 (wr64 (Int.tdiv (wr64 (w1 + 1)) 2)))]) (by kernel_rfl) ?_
        refine t_end ?_
        exact ⟨hg_be7f, rfl⟩
      · show T _ _ _ _ _ _ _ _
        refine t_v (.ld1 rfl rfl rfl (.at 3 rfl rfl)) ?_
        refine t_keep [4, 5, 71, 72, 74, 80, 82, 83] (σ' := [(4, .pointer (some ⟨b40, 0, none⟩)), (5, .pointer (some ⟨b41, 0, none⟩)), (71, .int .i64 (wr64 ((mn (mn m0_0 m0_0) m0_2) - (wr64 (Int.tdiv (wr64 (w1 + 1)) 2))))), (72, .pointer (some ⟨g42, 1, none⟩)), (74, .int .i64 (wr64 (Int.tdiv (wr64 (w1 + 1)) 2))), (80, .int .i64 (wr64 ((mx (mx m0_0 m0_0) m0_2) + (wr64 (Int.tdiv (wr64 (w1 + 1)) 2))))), (82, .int .i64 (mx (mx m0_1 m0_1) m0_3)), (83, .int .i64 (wr64 (Int.tdiv (wr64 (w1 + 1)) 2)))]) (by kernel_rfl) ?_
        refine t_end ?_
        exact ⟨hg_fe5f, rfl⟩
    have hg_aaff : G [true, true, true, true, true, true, true, true, false, true, false, true, false, true, false, true, false, false, false, false, false] [(4, .pointer (some ⟨b40, 0, none⟩)), (5, .pointer (some ⟨b41, 0, none⟩)), (71, .int .i64 (wr64 ((mn (mn m0_0 m0_0) m0_2) - (wr64 (Int.tdiv (wr64 (w1 + 1)) 2))))), (75, .int .i64 (wr64 ((mn (mn m0_1 m0_1) m0_3) - (wr64 (Int.tdiv (wr64 (w1 + 1)) 2))))), (77, .pointer (some ⟨g43, 0, none⟩)), (79, .int .i64 (wr64 (Int.tdiv (wr64 (w1 + 1)) 2))), (81, .pointer (some ⟨g43, 1, none⟩)), (83, .int .i64 (wr64 (Int.tdiv (wr64 (w1 + 1)) 2)))] ([⟨b46, [.int .i64 m0_2, .int .i64 m0_3], 2⟩, ⟨b45, [.int .i64 m0_0, .int .i64 m0_1], 2⟩, ⟨b44, [.int .i64 m0_0, .int .i64 m0_1, .int .i64 m0_2, .int .i64 m0_3], 4⟩, ⟨g43, [.int .i64 (mx (mx m0_0 m0_0) m0_2), .int .i64 (mx (mx m0_1 m0_1) m0_3)], 2⟩, ⟨g42, [.int .i64 (mn (mn m0_0 m0_0) m0_2), .int .i64 (mn (mn m0_1 m0_1) m0_3)], 2⟩, ⟨b41, [.int .i64 0, .int .i64 0], 2⟩, ⟨b40, [.int .i64 0, .int .i64 0], 2⟩, ⟨B0, [.int .i64 m0_0, .int .i64 m0_1, .int .i64 m0_2, .int .i64 m0_3], 4⟩] : List Own) := by
      exact hqf 8 [4, 5, 76, 77, 79, 81, 83] _ _ _ [(4, .pointer (some ⟨b40, 0, none⟩)), (5, .pointer (some ⟨b41, 0, none⟩)), (76, .agg #[.int .i64 (wr64 ((mn (mn m0_0 m0_0) m0_2) - (wr64 (Int.tdiv (wr64 (w1 + 1)) 2)))), .int .i64 (wr64 ((mn (mn m0_1 m0_1) m0_3) - (wr64 (Int.tdiv (wr64 (w1 + 1)) 2))))]), (77, .pointer (some ⟨g43, 0, none⟩)), (79, .int .i64 (wr64 (Int.tdiv (wr64 (w1 + 1)) 2))), (81, .pointer (some ⟨g43, 1, none⟩)), (83, .int .i64 (wr64 (Int.tdiv (wr64 (w1 + 1)) 2)))] (by kernel_rfl) (by kernel_rfl) hg_abff
    have hg_1fe55 : G [true, false, true, false, true, false, true, false, false, true, true, true, true, true, true, true, true, false, false, false, false] [(4, .pointer (some ⟨b40, 0, none⟩)), (5, .pointer (some ⟨b41, 0, none⟩)), (68, .pointer (some ⟨g42, 0, none⟩)), (70, .int .i64 (wr64 (Int.tdiv (wr64 (w1 + 1)) 2))), (72, .pointer (some ⟨g42, 1, none⟩)), (74, .int .i64 (wr64 (Int.tdiv (wr64 (w1 + 1)) 2))), (80, .int .i64 (wr64 ((mx (mx m0_0 m0_0) m0_2) + (wr64 (Int.tdiv (wr64 (w1 + 1)) 2))))), (84, .int .i64 (wr64 ((mx (mx m0_1 m0_1) m0_3) + (wr64 (Int.tdiv (wr64 (w1 + 1)) 2)))))] ([⟨b46, [.int .i64 m0_2, .int .i64 m0_3], 2⟩, ⟨b45, [.int .i64 m0_0, .int .i64 m0_1], 2⟩, ⟨b44, [.int .i64 m0_0, .int .i64 m0_1, .int .i64 m0_2, .int .i64 m0_3], 4⟩, ⟨g43, [.int .i64 (mx (mx m0_0 m0_0) m0_2), .int .i64 (mx (mx m0_1 m0_1) m0_3)], 2⟩, ⟨g42, [.int .i64 (mn (mn m0_0 m0_0) m0_2), .int .i64 (mn (mn m0_1 m0_1) m0_3)], 2⟩, ⟨b41, [.int .i64 0, .int .i64 0], 2⟩, ⟨b40, [.int .i64 0, .int .i64 0], 2⟩, ⟨B0, [.int .i64 m0_0, .int .i64 m0_1, .int .i64 m0_2, .int .i64 m0_3], 4⟩] : List Own) := by
      exact hqf 17 [4, 5, 68, 70, 72, 74, 85] _ _ _ [(4, .pointer (some ⟨b40, 0, none⟩)), (5, .pointer (some ⟨b41, 0, none⟩)), (68, .pointer (some ⟨g42, 0, none⟩)), (70, .int .i64 (wr64 (Int.tdiv (wr64 (w1 + 1)) 2))), (72, .pointer (some ⟨g42, 1, none⟩)), (74, .int .i64 (wr64 (Int.tdiv (wr64 (w1 + 1)) 2))), (85, .agg #[.int .i64 (wr64 ((mx (mx m0_0 m0_0) m0_2) + (wr64 (Int.tdiv (wr64 (w1 + 1)) 2)))), .int .i64 (wr64 ((mx (mx m0_1 m0_1) m0_3) + (wr64 (Int.tdiv (wr64 (w1 + 1)) 2))))])] (by kernel_rfl) (by kernel_rfl) hg_3fe55
    have hg_1ea5f : G [true, true, true, true, true, false, true, false, false, true, false, true, false, true, true, true, true, false, false, false, false] [(4, .pointer (some ⟨b40, 0, none⟩)), (5, .pointer (some ⟨b41, 0, none⟩)), (71, .int .i64 (wr64 ((mn (mn m0_0 m0_0) m0_2) - (wr64 (Int.tdiv (wr64 (w1 + 1)) 2))))), (72, .pointer (some ⟨g42, 1, none⟩)), (74, .int .i64 (wr64 (Int.tdiv (wr64 (w1 + 1)) 2))), (77, .pointer (some ⟨g43, 0, none⟩)), (79, .int .i64 (wr64 (Int.tdiv (wr64 (w1 + 1)) 2))), (84, .int .i64 (wr64 ((mx (mx m0_1 m0_1) m0_3) + (wr64 (Int.tdiv (wr64 (w1 + 1)) 2)))))] ([⟨b46, [.int .i64 m0_2, .int .i64 m0_3], 2⟩, ⟨b45, [.int .i64 m0_0, .int .i64 m0_1], 2⟩, ⟨b44, [.int .i64 m0_0, .int .i64 m0_1, .int .i64 m0_2, .int .i64 m0_3], 4⟩, ⟨g43, [.int .i64 (mx (mx m0_0 m0_0) m0_2), .int .i64 (mx (mx m0_1 m0_1) m0_3)], 2⟩, ⟨g42, [.int .i64 (mn (mn m0_0 m0_0) m0_2), .int .i64 (mn (mn m0_1 m0_1) m0_3)], 2⟩, ⟨b41, [.int .i64 0, .int .i64 0], 2⟩, ⟨b40, [.int .i64 0, .int .i64 0], 2⟩, ⟨B0, [.int .i64 m0_0, .int .i64 m0_1, .int .i64 m0_2, .int .i64 m0_3], 4⟩] : List Own) := by
      refine hstep [5, 10] _ _ _ (by kernel_rfl) (List.cons_ne_nil _ _) ⟨?_, ?_, trivial⟩
      · show T _ _ _ _ _ _ _ _
        refine t_v (.ld1 rfl rfl rfl (.at 4 rfl rfl)) ?_
        refine t_keep [4, 5, 71, 73, 74, 77, 79, 84] (σ' := [(4, .pointer (some ⟨b40, 0, none⟩)), (5, .pointer (some ⟨b41, 0, none⟩)), (71, .int .i64 (wr64 ((mn (mn m0_0 m0_0) m0_2) - (wr64 (Int.tdiv (wr64 (w1 + 1)) 2))))), (73, .int .i64 (mn (mn m0_1 m0_1) m0_3)), (74, .int .i64 (wr64 (Int.tdiv (wr64 (w1 + 1)) 2))), (77, .pointer (some ⟨g43, 0, none⟩)), (79, .int .i64 (wr64 (Int.tdiv (wr64 (w1 + 1)) 2))), (84, .int .i64 (wr64 ((mx (mx m0_1 m0_1) m0_3) + (wr64 (Int.tdiv (wr64 (w1 + 1)) 2)))))]) (by kernel_rfl) ?_
        refine t_end ?_
        exact ⟨hg_1ea7f, rfl⟩
      · show T _ _ _ _ _ _ _ _
        refine t_v (.ld1 rfl rfl rfl (.at 3 rfl rfl)) ?_
        refine t_keep [4, 5, 71, 72, 74, 78, 79, 84] (σ' := [(4, .pointer (some ⟨b40, 0, none⟩)), (5, .pointer (some ⟨b41, 0, none⟩)), (71, .int .i64 (wr64 ((mn (mn m0_0 m0_0) m0_2) - (wr64 (Int.tdiv (wr64 (w1 + 1)) 2))))), (72, .pointer (some ⟨g42, 1, none⟩)), (74, .int .i64 (wr64 (Int.tdiv (wr64 (w1 + 1)) 2))), (78, .int .i64 (mx (mx m0_0 m0_0) m0_2)), (79, .int .i64 (wr64 (Int.tdiv (wr64 (w1 + 1)) 2))), (84, .int .i64 (wr64 ((mx (mx m0_1 m0_1) m0_3) + (wr64 (Int.tdiv (wr64 (w1 + 1)) 2)))))]) (by kernel_rfl) ?_
        refine t_end ?_
        exact ⟨hg_1ee5f, rfl⟩
    have hg_1eaf5 : G [true, false, true, false, true, true, true, true, false, true, false, true, false, true, true, true, true, false, false, false, false] [(4, .pointer (some ⟨b40, 0, none⟩)), (5, .pointer (some ⟨b41, 0, none⟩)), (68, .pointer (some ⟨g42, 0, none⟩)), (70, .int .i64 (wr64 (Int.tdiv (wr64 (w1 + 1)) 2))), (75, .int .i64 (wr64 ((mn (mn m0_1 m0_1) m0_3) - (wr64 (Int.tdiv (wr64 (w1 + 1)) 2))))), (77, .pointer (some ⟨g43, 0, none⟩)), (79, .int .i64 (wr64 (Int.tdiv (wr64 (w1 + 1)) 2))), (84, .int .i64 (wr64 ((mx (mx m0_1 m0_1) m0_3) + (wr64 (Int.tdiv (wr64 (w1 + 1)) 2)))))] ([⟨b46, [.int .i64 m0_2, .int .i64 m0_3], 2⟩, ⟨b45, [.int .i64 m0_0, .int .i64 m0_1], 2⟩, ⟨b44, [.int .i64 m0_0, .int .i64 m0_1, .int .i64 m0_2, .int .i64 m0_3], 4⟩, ⟨g43, [.int .i64 (mx (mx m0_0 m0_0) m0_2), .int .i64 (mx (mx m0_1 m0_1) m0_3)], 2⟩, ⟨g42, [.int .i64 (mn (mn m0_0 m0_0) m0_2), .int .i64 (mn (mn m0_1 m0_1) m0_3)], 2⟩, ⟨b41, [.int .i64 0, .int .i64 0], 2⟩, ⟨b40, [.int .i64 0, .int .i64 0], 2⟩, ⟨B0, [.int .i64 m0_0, .int .i64 m0_1, .int .i64 m0_2, .int .i64 m0_3], 4⟩] : List Own) := by
      refine hstep [1, 10] _ _ _ (by kernel_rfl) (List.cons_ne_nil _ _) ⟨?_, ?_, trivial⟩
      · show T _ _ _ _ _ _ _ _
        refine t_v (.ld1 rfl rfl rfl (.at 4 rfl rfl)) ?_
        refine t_keep [4, 5, 69, 70, 75, 77, 79, 84] (σ' := [(4, .pointer (some ⟨b40, 0, none⟩)), (5, .pointer (some ⟨b41, 0, none⟩)), (69, .int .i64 (mn (mn m0_0 m0_0) m0_2)), (70, .int .i64 (wr64 (Int.tdiv (wr64 (w1 + 1)) 2))), (75, .int .i64 (wr64 ((mn (mn m0_1 m0_1) m0_3) - (wr64 (Int.tdiv (wr64 (w1 + 1)) 2))))), (77, .pointer (some ⟨g43, 0, none⟩)), (79, .int .i64 (wr64 (Int.tdiv (wr64 (w1 + 1)) 2))), (84, .int .i64 (wr64 ((mx (mx m0_1 m0_1) m0_3) + (wr64 (Int.tdiv (wr64 (w1 + 1)) 2)))))]) (by kernel_rfl) ?_
        refine t_end ?_
        exact ⟨hg_1eaf7, rfl⟩
      · show T _ _ _ _ _ _ _ _
        refine t_v (.ld1 rfl rfl rfl (.at 3 rfl rfl)) ?_
        refine t_keep [4, 5, 68, 70, 75, 78, 79, 84] (σ' := [(4, .pointer (some ⟨b40, 0, none⟩)), (5, .pointer (some ⟨b41, 0, none⟩)), (68, .pointer (some ⟨g42, 0, none⟩)), (70, .int .i64 (wr64 (Int.tdiv (wr64 (w1 + 1)) 2))), (75, .int .i64 (wr64 ((mn (mn m0_1 m0_1) m0_3) - (wr64 (Int.tdiv (wr64 (w1 + 1)) 2))))), (78, .int .i64 (mx (mx m0_0 m0_0) m0_2)), (79, .int .i64 (wr64 (Int.tdiv (wr64 (w1 + 1)) 2))), (84, .int .i64 (wr64 ((mx (mx m0_1 m0_1) m0_3) + (wr64 (Int.tdiv (wr64 (w1 + 1)) 2)))))]) (by kernel_rfl) ?_
        refine t_end ?_
        exact ⟨hg_1eef5, rfl⟩
    have hg_fe55 : G [true, false, true, false, true, false, true, false, false, true, true, true, true, true, true, true, false, false, false, false, false] [(4, .pointer (some ⟨b40, 0, none⟩)), (5, .pointer (some ⟨b41, 0, none⟩)), (68, .pointer (some ⟨g42, 0, none⟩)), (70, .int .i64 (wr64 (Int.tdiv (wr64 (w1 + 1)) 2))), (72, .pointer (some ⟨g42, 1, none⟩)), (74, .int .i64 (wr64 (Int.tdiv (wr64 (w1 + 1)) 2))), (80, .int .i64 (wr64 ((mx (mx m0_0 m0_0) m0_2) + (wr64 (Int.tdiv (wr64 (w1 + 1)) 2))))), (82, .int .i64 (mx (mx m0_1 m0_1) m0_3)), (83, .int .i64 (wr64 (Int.tdiv (wr64 (w1 + 1)) 2)))] ([⟨b46, [.int .i64 m0_2, .int .i64 m0_3], 2⟩, ⟨b45, [.int .i64 m0_0, .int .i64 m0_1], 2⟩, ⟨b44, [.int .i64 m0_0, .int .i64 m0_1, .int .i64 m0_2, .int .i64 m0_3], 4⟩, ⟨g43, [.int .i64 (mx (mx m0_0 m0_0) m0_2), .int .i64 (mx (mx m0_1 m0_1) m0_3)], 2⟩, ⟨g42, [.int .i64 (mn (mn m0_0 m0_0) m0_2), .int .i64 (mn (mn m0_1 m0_1) m0_3)], 2⟩, ⟨b41, [.int .i64 0, .int .i64 0], 2⟩, ⟨b40, [.int .i64 0, .int .i64 0], 2⟩, ⟨B0, [.int .i64 m0_0, .int .i64 m0_1, .int .i64 m0_2, .int .i64 m0_3], 4⟩] : List Own) := by
      exact hqf 16 [4, 5, 68, 70, 72, 74, 80, 84] _ _ _ [(4, .pointer (some ⟨b40, 0, none⟩)), (5, .pointer (some ⟨b41, 0, none⟩)), (68, .pointer (some ⟨g42, 0, none⟩)), (70, .int .i64 (wr64 (Int.tdiv (wr64 (w1 + 1)) 2))), (72, .pointer (some ⟨g42, 1, none⟩)), (74, .int .i64 (wr64 (Int.tdiv (wr64 (w1 + 1)) 2))), (80, .int .i64 (wr64 ((mx (mx m0_0 m0_0) m0_2) + (wr64 (Int.tdiv (wr64 (w1 + 1)) 2))))), (84, .int .i64 (wr64 ((mx (mx m0_1 m0_1) m0_3) + (wr64 (Int.tdiv (wr64 (w1 + 1)) 2)))))] (by kernel_rfl) (by kernel_rfl) hg_1fe55
    have hg_eaf5 : G [true, false, true, false, true, true, true, true, false, true, false, true, false, true, true, true, false, false, false, false, false] [(4, .pointer (some ⟨b40, 0, none⟩)), (5, .pointer (some ⟨b41, 0, none⟩)), (68, .pointer (some ⟨g42, 0, none⟩)), (70, .int .i64 (wr64 (Int.tdiv (wr64 (w1 + 1)) 2))), (75, .int .i64 (wr64 ((mn (mn m0_1 m0_1) m0_3) - (wr64 (Int.tdiv (wr64 (w1 + 1)) 2))))), (77, .pointer (some ⟨g43, 0, none⟩)), (79, .int .i64 (wr64 (Int.tdiv (wr64 (w1 + 1)) 2))), (82, .int .i64 (mx (mx m0_1 m0_1) m0_3)), (83, .int .i64 (wr64 (Int.tdiv (wr64 (w1 + 1)) 2)))] ([⟨b46, [.int .i64 m0_2, .int .i64 m0_3], 2⟩, ⟨b45, [.int .i64 m0_0, .int .i64 m0_1], 2⟩, ⟨b44, [.int .i64 m0_0, .int .i64 m0_1, .int .i64 m0_2, .int .i64 m0_3], 4⟩, ⟨g43, [.int .i64 (mx (mx m0_0 m0_0) m0_2), .int .i64 (mx (mx m0_1 m0_1) m0_3)], 2⟩, ⟨g42, [.int .i64 (mn (mn m0_0 m0_0) m0_2), .int .i64 (mn (mn m0_1 m0_1) m0_3)], 2⟩, ⟨b41, [.int .i64 0, .int .i64 0], 2⟩, ⟨b40, [.int .i64 0, .int .i64 0], 2⟩, ⟨B0, [.int .i64 m0_0, .int .i64 m0_1, .int .i64 m0_2, .int .i64 m0_3], 4⟩] : List Own) := by
      exact hqf 16 [4, 5, 68, 70, 75, 77, 79, 84] _ _ _ [(4, .pointer (some ⟨b40, 0, none⟩)), (5, .pointer (some ⟨b41, 0, none⟩)), (68, .pointer (some ⟨g42, 0, none⟩)), (70, .int .i64 (wr64 (Int.tdiv (wr64 (w1 + 1)) 2))), (75, .int .i64 (wr64 ((mn (mn m0_1 m0_1) m0_3) - (wr64 (Int.tdiv (wr64 (w1 + 1)) 2))))), (77, .pointer (some ⟨g43, 0, none⟩)), (79, .int .i64 (wr64 (Int.tdiv (wr64 (w1 + 1)) 2))), (84, .int .i64 (wr64 ((mx (mx m0_1 m0_1) m0_3) + (wr64 (Int.tdiv (wr64 (w1 + 1)) 2)))))] (by kernel_rfl) (by kernel_rfl) hg_1eaf5
    have hg_be57 : G [true, true, true, false, true, false, true, false, false, true, true, true, true, true, false, true, false, false, false, false, false] [(4, .pointer (some ⟨b40, 0, none⟩)), (5, .pointer (some ⟨b41, 0, none⟩)), (69, .int .i64 (mn (mn m0_0 m0_0) m0_2)), (70, .int .i64 (wr64 (Int.tdiv (wr64 (w1 + 1)) 2))), (72, .pointer (some ⟨g42, 1, none⟩)), (74, .int .i64 (wr64 (Int.tdiv (wr64 (w1 + 1)) 2))), (80, .int .i64 (wr64 ((mx (mx m0_0 m0_0) m0_2) + (wr64 (Int.tdiv (wr64 (w1 + 1)) 2))))), (81, .pointer (some ⟨g43, 1, none⟩)), (83, .int .i64 (wr64 (Int.tdiv (wr64 (w1 + 1)) 2)))] ([⟨b46, [.int .i64 m0_2, .int .i64 m0_3], 2⟩, ⟨b45, [.int .i64 m0_0, .int .i64 m0_1], 2⟩, ⟨b44, [.int .i64 m0_0, .int .i64 m0_1, .int .i64 m0_2, .int .i64 m0_3], 4⟩, ⟨g43, [.int .i64 (mx (mx m0_0 m0_0) m0_2), .int .i64 (mx (mx m0_1 m0_1) m0_3)], 2⟩, ⟨g42, [.int .i64 (mn (mn m0_0 m0_0) m0_2), .int .i64 (mn (mn m0_1 m0_1) m0_3)], 2⟩, ⟨b41, [.int .i64 0, .int .i64 0], 2⟩, ⟨b40, [.int .i64 0, .int .i64 0], 2⟩, ⟨B0, [.int .i64 m0_0, .int .i64 m0_1, .int .i64 m0_2, .int .i64 m0_3], 4⟩] : List Own) := by
      exact hqf 3 [4, 5, 71, 72, 74, 80, 81, 83] _ _ _ [(4, .pointer (some ⟨b40, 0, none⟩)), (5, .pointer (some ⟨b41, 0, none⟩)), (71, .int .i64 (wr64 ((mn (mn m0_0 m0_0) m0_2) - (wr64 (Int.tdiv (wr64 (w1 + 1)) 2))))), (72, .pointer (some ⟨g42, 1, none⟩)), (74, .int .i64 (wr64 (Int.tdiv (wr64 (w1 + 1)) 2))), (80, .int .i64 (wr64 ((mx (mx m0_0 m0_0) m0_2) + (wr64 (Int.tdiv (wr64 (w1 + 1)) 2))))), (81, .pointer (some ⟨g43, 1, none⟩)), (83, .int .i64 (wr64 (Int.tdiv (wr64 (w1 + 1)) 2)))] (by kernel_rfl) (by kernel_rfl) hg_be5f
    have hg_aaf7 : G [true, true, true, false, true, true, true, true, false, true, false, true, false, true, false, true, false, false, false, false, false] [(4, .pointer (some ⟨b40, 0, none⟩)), (5, .pointer (some ⟨b41, 0, none⟩)), (69, .int .i64 (mn (mn m0_0 m0_0) m0_2)), (70, .int .i64 (wr64 (Int.tdiv (wr64 (w1 + 1)) 2))), (75, .int .i64 (wr64 ((mn (mn m0_1 m0_1) m0_3) - (wr64 (Int.tdiv (wr64 (w1 + 1)) 2))))), (77, .pointer (some ⟨g43, 0, none⟩)), (79, .int .i64 (wr64 (Int.tdiv (wr64 (w1 + 1)) 2))), (81, .pointer (some ⟨g43, 1, none⟩)), (83, .int .i64 (wr64 (Int.tdiv (wr64 (w1 + 1)) 2)))] ([⟨b46, [.int .i64 m0_2, .int .i64 m0_3], 2⟩, ⟨b45, [.int .i64 m0_0, .int .i64 m0_1], 2⟩, ⟨b44, [.int .i64 m0_0, .int .i64 m0_1, .int .i64 m0_2, .int .i64 m0_3], 4⟩, ⟨g43, [.int .i64 (mx (mx m0_0 m0_0) m0_2), .int .i64 (mx (mx m0_1 m0_1) m0_3)], 2⟩, ⟨g42, [.int .i64 (mn (mn m0_0 m0_0) m0_2), .int .i64 (mn (mn m0_1 m0_1) m0_3)], 2⟩, ⟨b41, [.int .i64 0, .int .i64 0], 2⟩, ⟨b40, [.int .i64 0, .int .i64 0], 2⟩, ⟨B0, [.int .i64 m0_0, .int .i64 m0_1, .int .i64 m0_2, .int .i64 m0_3], 4⟩] : List Own) := by
      exact hqf 3 [4, 5, 71, 75, 77, 79, 81, 83] _ _ _ [(4, .pointer (some ⟨b40, 0, none⟩)), (5, .pointer (some ⟨b41, 0, none⟩)), (71, .int .i64 (wr64 ((mn (mn m0_0 m0_0) m0_2) - (wr64 (Int.tdiv (wr64 (w1 + 1)) 2))))), (75, .int .i64 (wr64 ((mn (mn m0_1 m0_1) m0_3) - (wr64 (Int.tdiv (wr64 (w1 + 1)) 2))))), (77, .pointer (some ⟨g43, 0, none⟩)), (79, .int .i64 (wr64 (Int.tdiv (wr64 (w1 + 1)) 2))), (81, .pointer (some ⟨g43, 1, none⟩)), (83, .int .i64 (wr64 (Int.tdiv (wr64 (w1 + 1)) 2)))] (by kernel_rfl) (by kernel_rfl) hg_aaff
    have hg_ea5f : G [true, true, true, true, true, false, true, false, false, true, false, true, false, true, true, true, false, false, false, false, false] [(4, .pointer (some ⟨b40, 0, none⟩)), (5, .pointer (some ⟨b41, 0, none⟩)), (71, .int .i64 (wr64 ((mn (mn m0_0 m0_0) m0_2) - (wr64 (Int.tdiv (wr64 (w1 + 1)) 2))))), (72, .pointer (some ⟨g42, 1, none⟩)), (74, .int .i64 (wr64 (Int.tdiv (wr64 (w1 + 1)) 2))), (77, .pointer (some ⟨g43, 0, none⟩)), (79, .int .i64 (wr64 (Int.tdiv (wr64 (w1 + 1)) 2))), (82, .int .i64 (mx (mx m0_1 m0_1) m0_3)), (83, .int .i64 (wr64 (Int.tdiv (wr64 (w1 + 1)) 2)))] ([⟨b46, [.int .i64 m0_2, .int .i64 m0_3], 2⟩, ⟨b45, [.int .i64 m0_0, .int .i64 m0_1], 2⟩, ⟨b44, [.int .i64 m0_0, .int .i64 m0_1, .int .i64 m0_2, .int .i64 m0_3], 4⟩, ⟨g43, [.int .i64 (mx (mx m0_0 m0_0) m0_2), .int .i64 (mx (mx m0_1 m0_1) m0_3)], 2⟩, ⟨g42, [.int .i64 (mn (mn m0_0 m0_0) m0_2), .int .i64 (mn (mn m0_1 m0_1) m0_3)], 2⟩, ⟨b41, [.int .i64 0, .int .i64 0], 2⟩, ⟨b40, [.int .i64 0, .int .i64 0], 2⟩, ⟨B0, [.int .i64 m0_0, .int .i64 m0_1, .int .i64 m0_2, .int .i64 m0_3], 4⟩] : List Own) := by
      exact hqf 16 [4, 5, 71, 72, 74, 77, 79, 84] _ _ _ [(4, .pointer (some ⟨b40, 0, none⟩)), (5, .pointer (some ⟨b41, 0, none⟩)), (71, .int .i64 (wr64 ((mn (mn m0_0 m0_0) m0_2) - (wr64 (Int.tdiv (wr64 (w1 + 1)) 2))))), (72, .pointer (some ⟨g42, 1, none⟩)), (74, .int .i64 (wr64 (Int.tdiv (wr64 (w1 + 1)) 2))), (77, .pointer (some ⟨g43, 0, none⟩)), (79, .int .i64 (wr64 (Int.tdiv (wr64 (w1 + 1)) 2))), (84, .int .i64 (wr64 ((mx (mx m0_1 m0_1) m0_3) + (wr64 (Int.tdiv (wr64 (w1 + 1)) 2)))))] (by kernel_rfl) (by kernel_rfl) hg_1ea5f
    have hg_ae5f : G [true, true, true, true, true, false, true, false, false, true, true, true, false, true, false, true, false, false, false, false, false] [(4, .pointer (some ⟨b40, 0, none⟩)), (5, .pointer (some ⟨b41, 0, none⟩)), (71, .int .i64 (wr64 ((mn (mn m0_0 m0_0) m0_2) - (wr64 (Int.tdiv (wr64 (w1 + 1)) 2))))), (72, .pointer (some ⟨g42, 1, none⟩)), (74, .int .i64 (wr64 (Int.tdiv (wr64 (w1 + 1)) 2))), (78, .int .i64 (mx (mx m0_0 m0_0) m0_2)), (79, .int .i64 (wr64 (Int.tdiv (wr64 (w1 + 1)) 2))), (81, .pointer (some ⟨g43, 1, none⟩)), (83, .int .i64 (wr64 (Int.tdiv (wr64 (w1 + 1)) 2)))] ([⟨b46, [.int .i64 m0_2, .int .i64 m0_3], 2⟩, ⟨b45, [.int .i64 m0_0, .int .i64 m0_1], 2⟩, ⟨b44, [.int .i64 m0_0, .int .i64 m0_1, .int .i64 m0_2, .int .i64 m0_3], 4⟩, ⟨g43, [.int .i64 (mx (mx m0_0 m0_0) m0_2), .int .i64 (mx (mx m0_1 m0_1) m0_3)], 2⟩, ⟨g42, [.int .i64 (mn (mn m0_0 m0_0) m0_2), .int .i64 (mn (mn m0_1 m0_1) m0_3)], 2⟩, ⟨b41, [.int .i64 0, .int .i64 0], 2⟩, ⟨b40, [.int .i64 0, .int .i64 0], 2⟩, ⟨B0, [.int .i64 m0_0, .int .i64 m0_1, .int .i64 m0_2, .int .i64 m0_3], 4⟩] : List Own) := by
      exact hqf 12 [4, 5, 71, 72, 74, 80, 81, 83] _ _ _ [(4, .pointer (some ⟨b40, 0, none⟩)), (5, .pointer (some ⟨b41, 0, none⟩)), (71, .int .i64 (wr64 ((mn (mn m0_0 m0_0) m0_2) - (wr64 (Int.tdiv (wr64 (w1 + 1)) 2))))), (72, .pointer (some ⟨g42, 1, none⟩)), (74, .int .i64 (wr64 (Int.tdiv (wr64 (w1 + 1)) 2))), (80, .int .i64 (wr64 ((mx (mx m0_0 m0_0) m0_2) + (wr64 (Int.tdiv (wr64 (w1 + 1)) 2))))), (81, .pointer (some ⟨g43, 1, none⟩)), (83, .int .i64 (wr64 (Int.tdiv (wr64 (w1 + 1)) 2)))] (by kernel_rfl) (by kernel_rfl) hg_be5f
    have hg_aef5 : G [true, false, true, false, true, true, true, true, false, true, true, true, false, true, false, true, false, false, false, false, false] [(4, .pointer (some ⟨b40, 0, none⟩)), (5, .pointer (some ⟨b41, 0, none⟩)), (68, .pointer (some ⟨g42, 0, none⟩)), (70, .int .i64 (wr64 (Int.tdiv (wr64 (w1 + 1)) 2))), (75, .int .i64 (wr64 ((mn (mn m0_1 m0_1) m0_3) - (wr64 (Int.tdiv (wr64 (w1 + 1)) 2))))), (78, .int .i64 (mx (mx m0_0 m0_0) m0_2)), (79, .int .i64 (wr64 (Int.tdiv (wr64 (w1 + 1)) 2))), (81, .pointer (some ⟨g43, 1, none⟩)), (83, .int .i64 (wr64 (Int.tdiv (wr64 (w1 + 1)) 2)))] ([⟨b46, [.int .i64 m0_2, .int .i64 m0_3], 2⟩, ⟨b45, [.int .i64 m0_0, .int .i64 m0_1], 2⟩, ⟨b44, [.int .i64 m0_0, .int .i64 m0_1, .int .i64 m0_2, .int .i64 m0_3], 4⟩, ⟨g43, [.int .i64 (mx (mx m0_0 m0_0) m0_2), .int .i64 (mx (mx m0_1 m0_1) m0_3)], 2⟩, ⟨g42, [.int .i64 (mn (mn m0_0 m0_0) m0_2), .int .i64 (mn (mn m0_1 m0_1) m0_3)], 2⟩, ⟨b41, [.int .i64 0, .int .i64 0], 2⟩, ⟨b40, [.int .i64 0, .int .i64 0], 2⟩, ⟨B0, [.int .i64 m0_0, .int .i64 m0_1, .int .i64 m0_2, .int .i64 m0_3], 4⟩] : List Own) := by
      exact hqf 12 [4, 5, 68, 70, 75, 80, 81, 83] _ _ _ [(4, .pointer (some ⟨b40, 0, none⟩)), (5, .pointer (some ⟨b41, 0, none⟩)), (68, .pointer (some ⟨g42, 0, none⟩)), (70, .int .i64 (wr64 (Int.tdiv (wr64 (w1 + 1)) 2))), (75, .int .i64 (wr64 ((mn (mn m0_1 m0_1) m0_3) - (wr64 (Int.tdiv (wr64 (w1 + 1)) 2))))), (80, .int .i64 (wr64 ((mx (mx m0_0 m0_0) m0_2) + (wr64 (Int.tdiv (wr64 (w1 + 1)) 2))))), (81, .pointer (some ⟨g43, 1, none⟩)), (83, .int .i64 (wr64 (Int.tdiv (wr64 (w1 + 1)) 2)))] (by kernel_rfl) (by kernel_rfl) hg_bef5
    have hg_aa7f : G [true, true, true, true, true, true, true, false, false, true, false, true, false, true, false, true, false, false, false, false, false] [(4, .pointer (some ⟨b40, 0, none⟩)), (5, .pointer (some ⟨b41, 0, none⟩)), (71, .int .i64 (wr64 ((mn (mn m0_0 m0_0) m0_2) - (wr64 (Int.tdiv (wr64 (w1 + 1)) 2))))), (73, .int .i64 (mn (mn m0_1 m0_1) m0_3)), (74, .int .i64 (wr64 (Int.tdiv (wr64 (w1 + 1)) 2))), (77, .pointer (some ⟨g43, 0, none⟩)), (79, .int .i64 (wr64 (Int.tdiv (wr64 (w1 + 1)) 2))), (81, .pointer (some ⟨g43, 1, none⟩)), (83, .int .i64 (wr64 (Int.tdiv (wr64 (w1 + 1)) 2)))] ([⟨b46, [.int .i64 m0_2, .int .i64 m0_3], 2⟩, ⟨b45, [.int .i64 m0_0, .int .i64 m0_1], 2⟩, ⟨b44, [.int .i64 m0_0, .int .i64 m0_1, .int .i64 m0_2, .int .i64 m0_3], 4⟩, ⟨g43, [.int .i64 (mx (mx m0_0 m0_0) m0_2), .int .i64 (mx (mx m0_1 m0_1) m0_3)], 2⟩, ⟨g42, [.int .i64 (mn (mn m0_0 m0_0) m0_2), .int .i64 (mn (mn m0_1 m0_1) m0_3)], 2⟩, ⟨b41, [.int .i64 0, .int .i64 0], 2⟩, ⟨b40, [.int .i64 0, .int .i64 0], 2⟩, ⟨B0, [.int .i64 m0_0, .int .i64 m0_1, .int .i64 m0_2, .int .i64 m0_3], 4⟩] : List Own) := by
      exact hqf 7 [4, 5, 71, 75, 77, 79, 81, 83] _ _ _ [(4, .pointer (some ⟨b40, 0, none⟩)), (5, .pointer (some ⟨b41, 0, none⟩)), (71, .int .i64 (wr64 ((mn (mn m0_0 m0_0) m0_2) - (wr64 (Int.tdiv (wr64 (w1 + 1)) 2))))), (75, .int .i64 (wr64 ((mn (mn m0_1 m0_1) m0_3) - (wr64 (Int.tdiv (wr64 (w1 + 1)) 2))))), (77, .pointer (some ⟨g43, 0, none⟩)), (79, .int .i64 (wr64 (Int.tdiv (wr64 (w1 + 1)) 2))), (81, .pointer (some ⟨g43, 1, none⟩)), (83, .int .i64 (wr64 (Int.tdiv (wr64 (w1 + 1)) 2)))] (by kernel_rfl) (by kernel_rfl) hg_aaff
    have hg_1ee55 : G [true, false, true, false, true, false, true, false, false, true, true, true, false, true, true, true, true, false, false, false, false] [(4, .pointer (some ⟨b40, 0, none⟩)), (5, .pointer (some ⟨b41, 0, none⟩)), (68, .pointer (some ⟨g42, 0, none⟩)), (70, .int .i64 (wr64 (Int.tdiv (wr64 (w1 + 1)) 2))), (72, .pointer (some ⟨g42, 1, none⟩)), (74, .int .i64 (wr64 (Int.tdiv (wr64 (w1 + 1)) 2))), (78, .int .i64 (mx (mx m0_0 m0_0) m0_2)), (79, .int .i64 (wr64 (Int.tdiv (wr64 (w1 + 1)) 2))), (84, .int .i64 (wr64 ((mx (mx m0_1 m0_1) m0_3) + (wr64 (Int.tdiv (wr64 (w1 + 1)) 2)))))] ([⟨b46, [.int .i64 m0_2, .int .i64 m0_3], 2⟩, ⟨b45, [.int .i64 m0_0, .int .i64 m0_1], 2⟩, ⟨b44, [.int .i64 m0_0, .int .i64 m0_1, .int .i64 m0_2, .int .i64 m0_3], 4⟩, ⟨g43, [.int .i64 (mx (mx m0_0 m0_0) m0_2), .int .i64 (mx (mx m0_1 m0_1) m0_3)], 2⟩, ⟨g42, [.int .i64 (mn (mn m0_0 m0_0) m0_2), .int .i64 (mn (mn m0_1 m0_1) m0_3)], 2⟩, ⟨b41, [.int .i64 0, .int .i64 0], 2⟩, ⟨b40, [.int .i64 0, .int .i64 0], 2⟩, ⟨B0, [.int .i64 m0_0, .int .i64 m0_1, .int .i64 m0_2, .int .i64 m0_3], 4⟩] : List Own) := by
      exact hqf 12 [4, 5, 68, 70, 72, 74, 80, 84] _ _ _ [(4, .pointer (some ⟨b40, 0, none⟩)), (5, .pointer (some ⟨b41, 0, none⟩)), (68, .pointer (some ⟨g42, 0, none⟩)), (70, .int .i64 (wr64 (Int.tdiv (wr64 (w1 + 1)) 2))), (72, .pointer (some ⟨g42, 1, none⟩)), (74, .int .i64 (wr64 (Int.tdiv (wr64 (w1 + 1)) 2))), (80, .int .i64 (wr64 ((mx (mx m0_0 m0_0) m0_2) + (wr64 (Int.tdiv (wr64 (w1 + 1)) 2))))), (84, .int .i64 (wr64 ((mx (mx m0_1 m0_1) m0_3) + (wr64 (Int.tdiv (wr64 (w1 + 1)) 2)))))] (by kernel_rfl) (by kernel_rfl) hg_1fe55
    have hg_1ea57 : G [true, true, true, false, true, false, true, false, false, true, false, true, false, true, true, true, true, false, false, false, false] [(4, .pointer (some ⟨b40, 0, none⟩)), (5, .pointer (some ⟨b41, 0, none⟩)), (69, .int .i64 (mn (mn m0_0 m0_0) m0_2)), (70, .int .i64 (wr64 (Int.tdiv (wr64 (w1 + 1)) 2))), (72, .pointer (some ⟨g42, 1, none⟩)), (74, .int .i64 (wr64 (Int.tdiv (wr64 (w1 + 1)) 2))), (77, .pointer (some ⟨g43, 0, none⟩)), (79, .int .i64 (wr64 (Int.tdiv (wr64 (w1 + 1)) 2))), (84, .int .i64 (wr64 ((mx (mx m0_1 m0_1) m0_3) + (wr64 (Int.tdiv (wr64 (w1 + 1)) 2)))))] ([⟨b46, [.int .i64 m0_2, .int .i64 m0_3], 2⟩, ⟨b45, [.int .i64 m0_0, .int .i64 m0_1], 2⟩, ⟨b44, [.int .i64 m0_0, .int .i64 m0_1, .int .i64 m0_2, .int .i64 m0_3], 4⟩, ⟨g43, [.int .i64 (mx (mx m0_0 m0_0) m0_2), .int .i64 (mx (mx m0_1 m0_1) m0_3)], 2⟩, ⟨g42, [.int .i64 (mn (mn m0_0 m0_0) m0_2), .int .i64 (mn (mn m0_1 m0_1) m0_3)], 2⟩, ⟨b41, [.int .i64 0, .int .i64 0], 2⟩, ⟨b40, [.int .i64 0, .int .i64 0], 2⟩, ⟨B0, [.int .i64 m0_0, .int .i64 m0_1, .int .i64 m0_2, .int .i64 m0_3], 4⟩] : List Own) := by
      exact hqf 3 [4, 5, 71, 72, 74, 77, 79, 84] _ _ _ [(4, .pointer (some ⟨b40, 0, none⟩)), (5, .pointer (some ⟨b41, 0, none⟩)), (71, .int .i64 (wr64 ((mn (mn m0_0 m0_0) m0_2) - (wr64 (Int.tdiv (wr64 (w1 + 1)) 2))))), (72, .pointer (some ⟨g42, 1, none⟩)), (74, .int .i64 (wr64 (Int.tdiv (wr64 (w1 + 1)) 2))), (77, .pointer (some ⟨g43, 0, none⟩)), (79, .int .i64 (wr64 (Int.tdiv (wr64 (w1 + 1)) 2))), (84, .int .i64 (wr64 ((mx (mx m0_1 m0_1) m0_3) + (wr64 (Int.tdiv (wr64 (w1 + 1)) 2)))))] (by kernel_rfl) (by kernel_rfl) hg_1ea5f
    have hg_1ea75 : G [true, false, true, false, true, true, true, false, false, true, false, true, false, true, true, true, true, false, false, false, false] [(4, .pointer (some ⟨b40, 0, none⟩)), (5, .pointer (some ⟨b41, 0, none⟩)), (68, .pointer (some ⟨g42, 0, none⟩)), (70, .int .i64 (wr64 (Int.tdiv (wr64 (w1 + 1)) 2))), (73, .int .i64 (mn (mn m0_1 m0_1) m0_3)), (74, .int .i64 (wr64 (Int.tdiv (wr64 (w1 + 1)) 2))), (77, .pointer (some ⟨g43, 0, none⟩)), (79, .int .i64 (wr64 (Int.tdiv (wr64 (w1 + 1)) 2))), (84, .int .i64 (wr64 ((mx (mx m0_1 m0_1) m0_3) + (wr64 (Int.tdiv (wr64 (w1 + 1)) 2)))))] ([⟨b46, [.int .i64 m0_2, .int .i64 m0_3], 2⟩, ⟨b45, [.int .i64 m0_0, .int .i64 m0_1], 2⟩, ⟨b44, [.int .i64 m0_0, .int .i64 m0_1, .int .i64 m0_2, .int .i64 m0_3], 4⟩, ⟨g43, [.int .i64 (mx (mx m0_0 m0_0) m0_2), .int .i64 (mx (mx m0_1 m0_1) m0_3)], 2⟩, ⟨g42, [.int .i64 (mn (mn m0_0 m0_0) m0_2), .int .i64 (mn (mn m0_1 m0_1) m0_3)], 2⟩, ⟨b41, [.int .i64 0, .int .i64 0], 2⟩, ⟨b40, [.int .i64 0, .int .i64 0], 2⟩, ⟨B0, [.int .i64 m0_0, .int .i64 m0_1, .int .i64 m0_2, .int .i64 m0_3], 4⟩] : List Own) := by
      exact hqf 7 [4, 5, 68, 70, 75, 77, 79, 84] _ _ _ [(4, .pointer (some ⟨b40, 0, none⟩)), (5, .pointer (some ⟨b41, 0, none⟩)), (68, .pointer (some ⟨g42, 0, none⟩)), (70, .int .i64 (wr64 (Int.tdiv (wr64 (w1 + 1)) 2))), (75, .int .i64 (wr64 ((mn (mn m0_1 m0_1) m0_3) - (wr64 (Int.tdiv (wr64 (w1 + 1)) 2))))), (77, .pointer (some ⟨g43, 0, none⟩)), (79, .int .i64 (wr64 (Int.tdiv (wr64 (w1 + 1)) 2))), (84, .int .i64 (wr64 ((mx (mx m0_1 m0_1) m0_3) + (wr64 (Int.tdiv (wr64 (w1 + 1)) 2)))))] (by kernel_rfl) (by kernel_rfl) hg_1eaf5
    have hg_be75 : G [true, false, true, false, true, true, true, false, false, true, true, true, true, true, false, true, false, false, false, false, false] [(4, .pointer (some ⟨b40, 0, none⟩)), (5, .pointer (some ⟨b41, 0, none⟩)), (68, .pointer (some ⟨g42, 0, none⟩)), (70, .int .i64 (wr64 (Int.tdiv (wr64 (w1 + 1)) 2))), (73, .int .i64 (mn (mn m0_1 m0_1) m0_3)), (74, .int .i64 (wr64 (Int.tdiv (wr64 (w1 + 1)) 2))), (80, .int .i64 (wr64 ((mx (mx m0_0 m0_0) m0_2) + (wr64 (Int.tdiv (wr64 (w1 + 1)) 2))))), (81, .pointer (some ⟨g43, 1, none⟩)), (83, .int .i64 (wr64 (Int.tdiv (wr64 (w1 + 1)) 2)))] ([⟨b46, [.int .i64 m0_2, .int .i64 m0_3], 2⟩, ⟨b45, [.int .i64 m0_0, .int .i64 m0_1], 2⟩, ⟨b44, [.int .i64 m0_0, .int .i64 m0_1, .int .i64 m0_2, .int .i64 m0_3], 4⟩, ⟨g43, [.int .i64 (mx (mx m0_0 m0_0) m0_2), .int .i64 (mx (mx m0_1 m0_1) m0_3)], 2⟩, ⟨g42, [.int .i64 (mn (mn m0_0 m0_0) m0_2), .int .i64 (mn (mn m0_1 m0_1) m0_3)], 2⟩, ⟨b41, [.int .i64 0, .int .i64 0], 2⟩, ⟨b40, [.int .i64 0, .int .i64 0], 2⟩, ⟨B0, [.int .i64 m0_0, .int .i64 m0_1, .int .i64 m0_2, .int .i64 m0_3], 4⟩] : List Own) := by
      exact hqf 7 [4, 5, 68, 70, 75, 80, 81, 83] _ _ _ [(4, .pointer (some ⟨b40, 0, none⟩)), (5, .pointer (some ⟨b41, 0, none⟩)), (68, .pointer (some ⟨g42, 0, none⟩)), (70, .int .i64 (wr64 (Int.tdiv (wr64 (w1 + 1)) 2))), (75, .int .i64 (wr64 ((mn (mn m0_1 m0_1) m0_3) - (wr64 (Int.tdiv (wr64 (w1 + 1)) 2))))), (80, .int .i64 (wr64 ((mx (mx m0_0 m0_0) m0_2) + (wr64 (Int.tdiv (wr64 (w1 + 1)) 2))))), (81, .pointer (some ⟨g43, 1, none⟩)), (83, .int .i64 (wr64 (Int.tdiv (wr64 (w1 + 1)) 2)))] (by kernel_rfl) (by kernel_rfl) hg_bef5
    have hg_be55 : G [true, false, true, false, true, false, true, false, false, true, true, true, true, true, false, true, false, false, false, false, false] [(4, .pointer (some ⟨b40, 0, none⟩)), (5, .pointer (some ⟨b41, 0, none⟩)), (68, .pointer (some ⟨g42, 0, none⟩)), (70, .int .i64 (wr64 (Int.tdiv (wr64 (w1 + 1)) 2))), (72, .pointer (some ⟨g42, 1, none⟩)), (74, .int .i64 (wr64 (Int.tdiv (wr64 (w1 + 1)) 2))), (80, .int .i64 (wr64 ((mx (mx m0_0 m0_0) m0_2) + (wr64 (Int.tdiv (wr64 (w1 + 1)) 2))))), (81, .pointer (some ⟨g43, 1, none⟩)), (83, .int .i64 (wr64 (Int.tdiv (wr64 (w1 + 1)) 2)))] ([⟨b46, [.int .i64 m0_2, .int .i64 m0_3], 2⟩, ⟨b45, [.int .i64 m0_0, .int .i64 m0_1], 2⟩, ⟨b44, [.int .i64 m0_0, .int .i64 m0_1, .int .i64 m0_2, .int .i64 m0_3], 4⟩, ⟨g43, [.int .i64 (mx (mx m0_0 m0_0) m0_2), .int .i64 (mx (mx m0_1 m0_1) m0_3)], 2⟩, ⟨g42, [.int .i64 (mn (mn m0_0 m0_0) m0_2), .int .i64 (mn (mn m0_1 m0_1) m0_3)], 2⟩, ⟨b41, [.int .i64 0, .int .i64 0], 2⟩, ⟨b40, [.int .i64 0, .int .i64 0], 2⟩, ⟨B0, [.int .i64 m0_0, .int .i64 m0_1, .int .i64 m0_2, .int .i64 m0_3], 4⟩] : List Own) := by
      refine hstep [1, 5, 14] _ _ _ (by kernel_rfl) (List.cons_ne_nil _ _) ⟨?_, ?_, ?_, trivial⟩
      · show T _ _ _ _ _ _ _ _
        refine t_v (.ld1 rfl rfl rfl (.at 4 rfl rfl)) ?_
        refine t_keep [4, 5, 69, 70, 72, 74, 80, 81, 83] (σ' := [(4, .pointer (some ⟨b40, 0, none⟩)), (5, .pointer (some ⟨b41, 0, none⟩)), (69, .int .i64 (mn (mn m0_0 m0_0) m0_2)), (70, .int .i64 (wr64 (Int.tdiv (wr64 (w1 + 1)) 2))), (72, .pointer (some ⟨g42, 1, none⟩)), (74, .int .i64 (wr64 (Int.tdiv (wr64 (w1 + 1)) 2))), (80, .int .i64 (wr64 ((mx (mx m0_0 m0_0) m0_2) + (wr64 (Int.tdiv (wr64 (w1 + 1)) 2))))), (81, .pointer (some ⟨g43, 1, none⟩)), (83, .int .i64 (wr64 (Int.tdiv (wr64 (w1 + 1)) 2)))]) (by kernel_rfl) ?_
        refine t_end ?_
        exact ⟨hg_be57, rfl⟩
      · show T _ _ _ _ _ _ _ _
        refine t_v (.ld1 rfl rfl rfl (.at 4 rfl rfl)) ?_
        refine t_keep [4, 5, 68, 70, 73, 74, 80, 81, 83] (σ' := [(4, .pointer (some ⟨b40, 0, none⟩)), (5, .pointer (some ⟨b41, 0, none⟩)), (68, .pointer (some ⟨g42, 0, none⟩)), (70, .int .i64 (wr64 (Int.tdiv (wr64 (w1 + 1)) 2))), (73, .int .i64 (mn (mn m0_1 m0_1) m0_3)), (74, .int .i64 (wr64 (Int.tdiv (wr64 (w1 + 1)) 2))), (80, .int .i64 (wr64 ((mx (mx m0_0 m0_0) m0_2) + (wr64 (Int.tdiv (wr64 (w1 + 1)) 2))))), (81, .pointer (some ⟨g43, 1, none⟩)), (83, .int .i64 (wr64 (Int.tdiv (wr64 (w1 + 1)) 2)))]) (by kernel_rfl) ?_
        refine t_end ?_
        exact ⟨hg_be75, rfl⟩
      · show T _ _ _ _ _ _ _ _
        refine t_v (.ld1 rfl rfl rfl (.at 3 rfl rfl)) ?_
        refine t_keep [4, 5, 68, 70, 72, 74, 80, 82, 83] (σ' := [(4, .pointer (some ⟨b40, 0, none⟩)), (5, .pointer (some ⟨b41, 0, none⟩)), (68, .pointer (some ⟨g42, 0, none⟩)), (70, .int .i64 (wr64 (Int.tdiv (wr64 (w1 + 1)) 2))), (72, .pointer (some ⟨g42, 1, none⟩)), (74, .int .i64 (wr64 (Int.tdiv (wr64 (w1 + 1)) 2))), (80, .int .i64 (wr64 ((mx (mx m0_0 m0_0) m0_2) + (wr64 (Int.tdiv (wr64 (w1 + 1)) 2))))), (82, .int .i64 (mx (mx m0_1 m0_1) m0_3)), (83, .int .i64 (wr64 (Int.tdiv (wr64 (w1 + 1)) 2)))]) (by kernel_rfl) ?_
        refine t_end ?_
        exact ⟨hg_fe55, rfl⟩
    have hg_aaf5 : G [true, false, true, false, true, true, true, true, false, true, false, true, false, true, false, true, false, false, false, false, false] [(4, .pointer (some ⟨b40, 0, none⟩)), (5, .pointer (some ⟨b41, 0, none⟩)), (68, .pointer (some ⟨g42, 0, none⟩)), (70, .int .i64 (wr64 (Int.tdiv (wr64 (w1 + 1)) 2))), (75, .int .i64 (wr64 ((mn (mn m0_1 m0_1) m0_3) - (wr64 (Int.tdiv (wr64 (w1 + 1)) 2))))), (77, .pointer (some ⟨g43, 0, none⟩)), (79, .int .i64 (wr64 (Int.tdiv (wr64 (w1 + 1)) 2))), (81, .pointer (some ⟨g43, 1, none⟩)), (83, .int .i64 (wr64 (Int.tdiv (wr64 (w1 + 1)) 2)))] ([⟨b46, [.int .i64 m0_2, .int .i64 m0_3], 2⟩, ⟨b45, [.int .i64 m0_0, .int .i64 m0_1], 2⟩, ⟨b44, [.int .i64 m0_0, .int .i64 m0_1, .int .i64 m0_2, .int .i64 m0_3], 4⟩, ⟨g43, [.int .i64 (mx (mx m0_0 m0_0) m0_2), .int .i64 (mx (mx m0_1 m0_1) m0_3)], 2⟩, ⟨g42, [.int .i64 (mn (mn m0_0 m0_0) m0_2), .int .i64 (mn (mn m0_1 m0_1) m0_3)], 2⟩, ⟨b41, [.int .i64 0, .int .i64 0], 2⟩, ⟨b40, [.int .i64 0, .int .i64 0], 2⟩, ⟨B0, [.int .i64 m0_0, .int .i64 m0_1, .int .i64 m0_2, .int .i64 m0_3], 4⟩] : List Own) := by
      refine hstep [1, 10, 14] _ _ _ (by kernel_rfl) (List.cons_ne_nil _ _) ⟨?_, ?_, ?_, trivial⟩
      · show T _ _ _ _ _ _ _ _
        refine t_v (.ld1 rfl rfl rfl (.at 4 rfl rfl)) ?_
        refine t_keep [4, 5, 69, 70, 75, 77, 79, 81, 83] (σ' := [(4, .pointer (some ⟨b40, 0, none⟩)), (5, .pointer (some ⟨b41, 0, none⟩)), (69, .int .i64 (mn (mn m0_0 m0_0) m0_2)), (70, .int .i64 (wr64 (Int.tdiv (wr64 (w1 + 1)) 2))), (75, .int .i64 (wr64 ((mn (mn m0_1 m0_1) m0_3) - (wr64 (Int.tdiv (wr64 (w1 + 1)) 2))))), (77, .pointer (some ⟨g43, 0, none⟩)), (79, .int .i64 (wr64 (Int.tdiv (wr64 (w1 + 1)) 2))), (81, .pointer (some ⟨g43, 1, none⟩)), (83, .int .i64 (wr64 (Int.tdiv (wr64 (w1 + 1)) 2)))]) (by kernel_rfl) ?_
        refine t_end ?_
        exact ⟨hg_aaf7, rfl⟩
      · show T _ _ _ _ _ _ _ _
        refine t_v (.ld1 rfl rfl rfl (.at 3 rfl rfl)) ?_
        refine t_keep [4, 5, 68, 70, 75, 78, 79, 81, 83] (σ' := [(4, .pointer (some ⟨b40, 0, none⟩)), (5, .pointer (some ⟨b41, 0, none⟩)), (68, .pointer (some ⟨g42, 0, none⟩)), (70, .int .i64 (wr64 (Int.tdiv (wr64 (w1 + 1)) 2))), (75, .int .i64 (wr64 ((mn (mn m0_1 m0_1) m0_3) - (wr64 (Int.tdiv (wr64 (w1 + 1)) 2))))), (78, .int .i64 (mx (mx m0_0 m0_0) m0_2)), (79, .int .i64 (wr64 (Int.tdiv (wr64 (w1 + 1)) 2))), (81, .pointer (some ⟨g43, 1, none⟩)), (83, .int .i64 (wr64 (Int.tdiv (wr64 (w1 + 1)) 2)))]) (by kernel_rfl) ?_
        refine t_end ?_
        exact ⟨hg_aef5, rfl⟩
      · show T _ _ _ _ _ _ _ _
        refine t_v (.ld1 rfl rfl rfl (.at 3 rfl rfl)) ?_
        refine t_keep [4, 5, 68, 70, 75, 77, 79, 82, 83] (σ' := [(4, .pointer (some ⟨b40, 0, none⟩)), (5, .pointer (some ⟨b41, 0, none⟩)), (68, .pointer (some ⟨g42, 0, none⟩)), (70, .int .i64 (wr64 (Int.tdiv (wr64 (w1 + 1)) 2))), (75, .int .i64 (wr64 ((mn (mn m0_1 m0_1) m0_3) - (wr64 (Int.tdiv (wr64 (w1 + 1)) 2))))), (77, .pointer (some ⟨g43, 0, none⟩)), (79, .int .i64 (wr64 (Int.tdiv (wr64 (w1 + 1)) 2))), (82, .int .i64 (mx (mx m0_1 m0_1) m0_3)), (83, .int .i64 (wr64 (Int.tdiv (wr64 (w1 + 1)) 2)))]) (by kernel_rfl) ?_
        refine t_end ?_
        exact ⟨hg_eaf5, rfl⟩
    have hg_aa5f : G [true, true, true, true, true, false, true, false, false, true, false, true, false, true, false, true, false, false, false, false, false] [(4, .pointer (some ⟨b40, 0, none⟩)), (5, .pointer (some ⟨b41, 0, none⟩)), (71, .int .i64 (wr64 ((mn (mn m0_0 m0_0) m0_2) - (wr64 (Int.tdiv (wr64 (w1 + 1)) 2))))), (72, .pointer (some ⟨g42, 1, none⟩)), (74, .int .i64 (wr64 (Int.tdiv (wr64 (w1 + 1)) 2))), (77, .pointer (some ⟨g43, 0, none⟩)), (79, .int .i64 (wr64 (Int.tdiv (wr64 (w1 + 1)) 2))), (81, .pointer (some ⟨g43, 1, none⟩)), (83, .int .i64 (wr64 (Int.tdiv (wr64 (w1 + 1)) 2)))] ([⟨b46, [.int .i64 m0_2, .int .i64 m0_3], 2⟩, ⟨b45, [.int .i64 m0_0, .int .i64 m0_1], 2⟩, ⟨b44, [.int .i64 m0_0, .int .i64 m0_1, .int .i64 m0_2, .int .i64 m0_3], 4⟩, ⟨g43, [.int .i64 (mx (mx m0_0 m0_0) m0_2), .int .i64 (mx (mx m0_1 m0_1) m0_3)], 2⟩, ⟨g42, [.int .i64 (mn (mn m0_0 m0_0) m0_2), .int .i64 (mn (mn m0_1 m0_1) m0_3)], 2⟩, ⟨b41, [.int .i64 0, .int .i64 0], 2⟩, ⟨b40, [.int .i64 0, .int .i64 0], 2⟩, ⟨B0, [.int .i64 m0_0, .int .i64 m0_1, .int .i64 m0_2, .int .i64 m0_3], 4⟩] : List Own) := by
      refine hstep [5, 10, 14] _ _ _ (by kernel_rfl) (List.cons_ne_nil _ _) ⟨?_, ?_, ?_, trivial⟩
      · show T _ _ _ _ _ _ _ _
        refine t_v (.ld1 rfl rfl rfl (.at 4 rfl rfl)) ?_
        refine t_keep [4, 5, 71, 73, 74, 77, 79, 81, 83] (σ' := [(4, .pointer (some ⟨b40, 0, none⟩)), (5, .pointer (some ⟨b41, 0, none⟩)), (71, .int .i64 (wr64 ((mn (mn m0_0 m0_0) m0_2) - (wr64 (Int.tdiv (wr64 (w1 + 1)) 2))))), (73, .int .i64 (mn (mn m0_1 m0_1) m0_3)), (74, .int .i64 (wr64 (Int.tdiv (wr64 (w1 + 1)) 2))), (77, .pointer (some ⟨g43, 0, none⟩)), (79, .int .i64 (wr64 (Int.tdiv (wr64 (w1 + 1)) 2))), (81, .pointer (some ⟨g43, 1, none⟩)), (83, .int .i64 (wr64 (Int.tdiv (wr64 (w1 + 1)) 2)))]) (by kernel_rfl) ?_
        refine t_end ?_
        exact ⟨hg_aa7f, rfl⟩
      · show T _ _ _ _ _ _ _ _
        refine t_v (.ld1 rfl rfl rfl (.at 3 rfl rfl)) ?_
        refine t_keep [4, 5, 71, 72, 74, 78, 79, 81, 83] (σ' := [(4, .pointer (some ⟨b40, 0, none⟩)), (5, .pointer (some ⟨b41, 0, none⟩)), (71, .int .i64 (wr64 ((mn (mn m0_0 m0_0) m0_2) - (wr64 (Int.tdiv (wr64 (w1 + 1)) 2))))), (72, .pointer (some ⟨g42, 1, none⟩)), (74, .int .i64 (wr64 (Int.tdiv (wr64 (w1 + 1)) 2))), (78, .int .i64 (mx (mx m0_0 m0_0) m0_2)), (79, .int .i64 (wr64 (Int.tdiv (wr64 (w1 + 1)) 2))), (81, .pointer (some ⟨g43, 1, none⟩)), (83, .int .i64 (wr64 (Int.tdiv (wr64 (w1 + 1)) 2)))]) (by kernel_rfl) ?_
        refine t_end ?_
        exact ⟨hg_ae5f, rfl⟩
      · show T _ _ _ _ _ _ _ _
        refine t_v (.ld1 rfl rfl rfl (.at 3 rfl rfl)) ?_
        refine t_keep [4, 5, 71, 72, 74, 77, 79, 82, 83] (σ' := [(4, .pointer (some ⟨b40, 0, none⟩)), (5, .pointer (some ⟨b41, 0, none⟩)), (71, .int .i64 (wr64 ((mn (mn m0_0 m0_0) m0_2) - (wr64 (Int.tdiv (wr64 (w1 + 1)) 2))))), (72, .pointer (some ⟨g42, 1, none⟩)), (74, .int .i64 (wr64 (Int.tdiv (wr64 (w1 + 1)) 2))), (77, .pointer (some ⟨g43, 0, none⟩)), (79, .int .i64 (wr64 (Int.tdiv (wr64 (w1 + 1)) 2))), (82, .int .i64 (mx (mx m0_1 m0_1) m0_3)), (83, .int .i64 (wr64 (Int.tdiv (wr64 (w1 + 1)) 2)))]) (by kernel_rfl) ?_
        refine t_end ?_
        exact ⟨hg_ea5f, rfl⟩
    have hg_1ea55 : G [true, false, true, false, true, false, true, false, false, true, false, true, false, true, true, true, true, false, false, false, false] [(4, .pointer (some ⟨b40, 0, none⟩)), (5, .pointer (some ⟨b41, 0, none⟩)), (68, .pointer (some ⟨g42, 0, none⟩)), (70, .int .i64 (wr64 (Int.tdiv (wr64 (w1 + 1)) 2))), (72, .pointer (some ⟨g42, 1, none⟩)), (74, .int .i64 (wr64 (Int.tdiv (wr64 (w1 + 1)) 2))), (77, .pointer (some ⟨g43, 0, none⟩)), (79, .int .i64 (wr64 (Int.tdiv (wr64 (w1 + 1)) 2))), (84, .int .i64 (wr64 ((mx (mx m0_1 m0_1) m0_3) + (wr64 (Int.tdiv (wr64 (w1 + 1)) 2)))))] ([⟨b46, [.int .i64 m0_2, .int .i64 m0_3], 2⟩, ⟨b45, [.int .i64 m0_0, .int .i64 m0_1], 2⟩, ⟨b44, [.int .i64 m0_0, .int .i64 m0_1, .int .i64 m0_2, .int .i64 m0_3], 4⟩, ⟨g43, [.int .i64 (mx (mx m0_0 m0_0) m0_2), .int .i64 (mx (mx m0_1 m0_1) m0_3)], 2⟩, ⟨g42, [.int .i64 (mn (mn m0_0 m0_0) m0_2), .int .i64 (mn (mn m0_1 m0_1) m0_3)], 2⟩, ⟨b41, [.int .i64 0, .int .i64 0], 2⟩, ⟨b40, [.int .i64 0, .int .i64 0], 2⟩, ⟨B0, [.int .i64 m0_0, .int .i64 m0_1, .int .i64 m0_2, .int .i64 m0_3], 4⟩] : List Own) := by
      refine hstep [1, 5, 10] _ _ _ (by kernel_rfl) (List.cons_ne_nil _ _) ⟨?_, ?_, ?_, trivial⟩
      · show T _ _ _ _ _ _ _ _
        refine t_v (.ld1 rfl rfl rfl (.at 4 rfl rfl)) ?_
        refine t_keep [4, 5, 69, 70, 72, 74, 77, 79, 84] (σ' := [(4, .pointer (some ⟨b40, 0, none⟩)), (5, .pointer (some ⟨b41, 0, none⟩)), (69, .int .i64 (mn (mn m0_0 m0_0) m0_2)), (70, .int .i64 (wr64 (Int.tdiv (wr64 (w1 + 1)) 2))), (72, .pointer (some ⟨g42, 1, none⟩)), (74, .int .i64 (wr64 (Int.tdiv (wr64 (w1 + 1)) 2))), (77, .pointer (some ⟨g43, 0, none⟩)), (79, .int .i64 (wr64 (Int.tdiv (wr64 (w1 + 1)) 2))), (84, .int .i64 (wr64 ((mx (mx m0_1 m0_1) m0_3) + (wr64 (Int.tdiv (wr64 (w1 + 1)) 2)))))]) (by kernel_rfl) ?_
        refine t_end ?_
        exact ⟨hg_1ea57, rfl⟩
      · show T _ _ _ _ _ _ _ _
        refine t_v (.ld1 rfl rfl rfl (.at 4 rfl rfl)) ?_
        refine t_keep [4, 5, 68, 70, 73, 74, 77, 79, 84] (σ' := [(4, .pointer (some ⟨b40, 0, none⟩)), (5, .pointer (some ⟨b41, 0, none⟩)), (68, .pointer (some ⟨g42, 0, none⟩)), (70, .int .i64 (wr64 (Int.tdiv (wr64 (w1 + 1)) 2))), (73, .int .i64 (mn (mn m0_1 m0_1) m0_3)), (74, .int .i64 (wr64 (Int.tdiv (wr64 (w1 + 1)) 2))), (77, .pointer (some ⟨g43, 0, none⟩)), (79, .int .i64 (wr64 (Int.tdiv (wr64 (w1 + 1)) 2))), (84, .int .i64 (wr64 ((mx (mx m0_1 m0_1) m0_3) + (wr64 (Int.tdiv (wr64 (w1 + 1)) 2)))))]) (by kernel_rfl) ?_
        refine t_end ?_
        exact ⟨hg_1ea75, rfl⟩
      · show T _ _ _ _ _ _ _ _
        refine t_v (.ld1 rfl rfl rfl (.at 3 rfl rfl)) ?_
        refine t_keep [4, 5, 68, 70, 72, 74, 78, 79, 84] (σ' := [(4, .pointer (some ⟨b40, 0, none⟩)), (5, .pointer (some ⟨b41, 0, none⟩)), (68, .pointer (some ⟨g42, 0, none⟩)), (70, .int .i64 (wr64 (Int.tdiv (wr64 (w1 + 1)) 2))), (72, .pointer (some ⟨g42, 1, none⟩)), (74, .int .i64 (wr64 (Int.tdiv (wr64 (w1 + 1)) 2))), (78, .int .i64 (mx (mx m0_0 m0_0) m0_2)), (79, .int .i64 (wr64 (Int.tdiv (wr64 (w1 + 1)) 2))), (84, .int .i64 (wr64 ((mx (mx m0_1 m0_1) m0_3) + (wr64 (Int.tdiv (wr64 (w1 + 1)) 2)))))]) (by kernel_rfl) ?_
        refine t_end ?_
        exact ⟨hg_1ee55, rfl⟩
    have hg_ae55 : G [true, false, true, false, true, false, true, false, false, true, true, true, false, true, false, true, false, false, false, false, false] [(4, .pointer (some ⟨b40, 0, none⟩)), (5, .pointer (some ⟨b41, 0, none⟩)), (68, .pointer (some ⟨g42, 0, none⟩)), (70, .int .i64 (wr64 (Int.tdiv (wr64 (w1 + 1)) 2))), (72, .pointer (some ⟨g42, 1, none⟩)), (74, .int .i64 (wr64 (Int.tdiv (wr64 (w1 + 1)) 2))), (78, .int .i64 (mx (mx m0_0 m0_0) m0_2)), (79, .int .i64 (wr64 (Int.tdiv (wr64 (w1 + 1)) 2))), (81, .pointer (some ⟨g43, 1, none⟩)), (83, .int .i64 (wr64 (Int.tdiv (wr64 (w1 + 1)) 2)))] ([⟨b46, [.int .i64 m0_2, .int .i64 m0_3], 2⟩, ⟨b45, [.int .i64 m0_0, .int .i64 m0_1], 2⟩, ⟨b44, [.int .i64 m0_0, .int .i64 m0_1, .int .i64 m0_2, .int .i64 m0_3], 4⟩, ⟨g43, [.int .i64 (mx (mx m0_0 m0_0) m0_2), .int .i64 (mx (mx m0_1 m0_1) m0_3)], 2⟩, ⟨g42, [.int .i64 (mn (mn m0_0 m0_0) m0_2), .int .i64 (mn (mn m0_1 m0_1) m0_3)], 2⟩, ⟨b41, [.int .i64 0, .int .i64 0], 2⟩, ⟨b40, [.int .i64 0, .int .i64 0], 2⟩, ⟨B0, [.int .i64 m0_0, .int .i64 m0_1, .int .i64 m0_2, .int .i64 m0_3], 4⟩] : List Own) := by
      exact hqf 12 [4, 5, 68, 70, 72, 74, 80, 81, 83] _ _ _ [(4, .pointer (some ⟨b40, 0, none⟩)), (5, .pointer (some ⟨b41, 0, none⟩)), (68, .pointer (some ⟨g42, 0, none⟩)), (70, .int .i64 (wr64 (Int.tdiv (wr64 (w1 + 1)) 2))), (72, .pointer (some ⟨g42, 1, none⟩)), (74, .int .i64 (wr64 (Int.tdiv (wr64 (w1 + 1)) 2))), (80, .int .i64 (wr64 ((mx (mx m0_0 m0_0) m0_2) + (wr64 (Int.tdiv (wr64 (w1 + 1)) 2))))), (81, .pointer (some ⟨g43, 1, none⟩)), (83, .int .i64 (wr64 (Int.tdiv (wr64 (w1 + 1)) 2)))] (by kernel_rfl) (by kernel_rfl) hg_be55
    have hg_aa57 : G [true, true, true, false, true, false, true, false, false, true, false, true, false, true, false, true, false, false, false, false, false] [(4, .pointer (some ⟨b40, 0, none⟩)), (5, .pointer (some ⟨b41, 0, none⟩)), (69, .int .i64 (mn (mn m0_0 m0_0) m0_2)), (70, .int .i64 (wr64 (Int.tdiv (wr64 (w1 + 1)) 2))), (72, .pointer (some ⟨g42, 1, none⟩)), (74, .int .i64 (wr64 (Int.tdiv (wr64 (w1 + 1)) 2))), (77, .pointer (some ⟨g43, 0, none⟩)), (79, .int .i64 (wr64 (Int.tdiv (wr64 (w1 + 1)) 2))), (81, .pointer (some ⟨g43, 1, none⟩)), (83, .int .i64 (wr64 (Int.tdiv (wr64 (w1 + 1)) 2)))] ([⟨b46, [.int .i64 m0_2, .int .i64 m0_3], 2⟩, ⟨b45, [.int .i64 m0_0, .int .i64 m0_1], 2⟩, ⟨b44, [.int .i64 m0_0, .int .i64 m0_1, .int .i64 m0_2, .int .i64 m0_3], 4⟩, ⟨g43, [.int .i64 (mx (mx m0_0 m0_0) m0_2), .int .i64 (mx (mx m0_1 m0_1) m0_3)], 2⟩, ⟨g42, [.int .i64 (mn (mn m0_0 m0_0) m0_2), .int .i64 (mn (mn m0_1 m0_1) m0_3)], 2⟩, ⟨b41, [.int .i64 0, .int .i64 0], 2⟩, ⟨b40, [.int .i64 0, .int .i64 0], 2⟩, ⟨B0, [.int .i64 m0_0, .int .i64 m0_1, .int .i64 m0_2, .int .i64 m0_3], 4⟩] : List Own) := by
      exact hqf 3 [4, 5, 71, 72, 74, 77, 79, 81, 83] _ _ _ [(4, .pointer (some ⟨b40, 0, none⟩)), (5, .pointer (some ⟨b41, 0, none⟩)), (71, .int .i64 (wr64 ((mn (mn m0_0 m0_0) m0_2) - (wr64 (Int.tdiv (wr64 (w1 + 1)) 2))))), (72, .pointer (some ⟨g42, 1, none⟩)), (74, .int .i64 (wr64 (Int.tdiv (wr64 (w1 + 1)) 2))), (77, .pointer (some ⟨g43, 0, none⟩)), (79, .int .i64 (wr64 (Int.tdiv (wr64 (w1 + 1)) 2))), (81, .pointer (some ⟨g43, 1, none⟩)), (83, .int .i64 (wr64 (Int.tdiv (wr64 (w1 + 1)) 2)))] (by kernel_rfl) (by kernel_rfl) hg_aa5f
    have hg_aa75 : G [true, false, true, false, true, true, true, false, false, true, false, true, false, true, false, true, false, false, false, false, false] [(4, .pointer (some ⟨b40, 0, none⟩)), (5, .pointer (some ⟨b41, 0, none⟩)), (68, .pointer (some ⟨g42, 0, none⟩)), (70, .int .i64 (wr64 (Int.tdiv (wr64 (w1 + 1)) 2))), (73, .int .i64 (mn (mn m0_1 m0_1) m0_3)), (74, .int .i64 (wr64 (Int.tdiv (wr64 (w1 + 1)) 2))), (77, .pointer (some ⟨g43, 0, none⟩)), (79, .int .i64 (wr64 (Int.tdiv (wr64 (w1 + 1)) 2))), (81, .pointer (some ⟨g43, 1, none⟩)), (83, .int .i64 (wr64 (Int.tdiv (wr64 (w1 + 1)) 2)))] ([⟨b46, [.int .i64 m0_2, .int .i64 m0_3], 2⟩, ⟨b45, [.int .i64 m0_0, .int .i64 m0_1], 2⟩, ⟨b44, [.int .i64 m0_0, .int .i64 m0_1, .int .i64 m0_2, .int .i64 m0_3], 4⟩, ⟨g43, [.int .i64 (mx (mx m0_0 m0_0) m0_2), .int .i64 (mx (mx m0_1 m0_1) m0_3)], 2⟩, ⟨g42, [.int .i64 (mn (mn m0_0 m0_0) m0_2), .int .i64 (mn (mn m0_1 m0_1) m0_3)], 2⟩, ⟨b41, [.int .i64 0, .int .i64 0], 2⟩, ⟨b40, [.int .i64 0, .int .i64 0], 2⟩, ⟨B0, [.int .i64 m0_0, .int .i64 m0_1, .int .i64 m0_2, .int .i64 m0_3], 4⟩] : List Own) := by
      exact hqf 7 [4, 5, 68, 70, 75, 77, 79, 81, 83] _ _ _ [(4, .pointer (some ⟨b40, 0, none⟩)), (5, .pointer (some ⟨b41, 0, none⟩)), (68, .pointer (some ⟨g42, 0, none⟩)), (70, .int .i64 (wr64 (Int.tdiv (wr64 (w1 + 1)) 2))), (75, .int .i64 (wr64 ((mn (mn m0_1 m0_1) m0_3) - (wr64 (Int.tdiv (wr64 (w1 + 1)) 2))))), (77, .pointer (some ⟨g43, 0, none⟩)), (79, .int .i64 (wr64 (Int.tdiv (wr64 (w1 + 1)) 2))), (81, .pointer (some ⟨g43, 1, none⟩)), (83, .int .i64 (wr64 (Int.tdiv (wr64 (w1 + 1)) 2)))] (by kernel_rfl) (by kernel_rfl) hg_aaf5
    have hg_ea55 : G [true, false, true, false, true, false, true, false, false, true, false, true, false, true, true, true, false, false, false, false, false] [(4, .pointer (some ⟨b40, 0, none⟩)), (5, .pointer (some ⟨b41, 0, none⟩)), (68, .pointer (some ⟨g42, 0, none⟩)), (70, .int .i64 (wr64 (Int.tdiv (wr64 (w1 + 1)) 2))), (72, .pointer (some ⟨g42, 1, none⟩)), (74, .int .i64 (wr64 (Int.tdiv (wr64 (w1 + 1)) 2))), (77, .pointer (some ⟨g43, 0, none⟩)), (79, .int .i64 (wr64 (Int.tdiv (wr64 (w1 + 1)) 2))), (82, .int .i64 (mx (mx m0_1 m0_1) m0_3)), (83, .int .i64 (wr64 (Int.tdiv (wr64 (w1 + 1)) 2)))] ([⟨b46, [.int .i64 m0_2, .int .i64 m0_3], 2⟩, ⟨b45, [.int .i64 m0_0, .int .i64 m0_1], 2⟩, ⟨b44, [.int .i64 m0_0, .int .i64 m0_1, .int .i64 m0_2, .int .i64 m0_3], 4⟩, ⟨g43, [.int .i64 (mx (mx m0_0 m0_0) m0_2), .int .i64 (mx (mx m0_1 m0_1) m0_3)], 2⟩, ⟨g42, [.int .i64 (mn (mn m0_0 m0_0) m0_2), .int .i64 (mn (mn m0_1 m0_1) m0_3)], 2⟩, ⟨b41, [.int .i64 0, .int .i64 0], 2⟩, ⟨b40, [.int .i64 0, .int .i64 0], 2⟩, ⟨B0, [.int .i64 m0_0, .int .i64 m0_1, .int .i64 m0_2, .int .i64 m0_3], 4⟩] : List Own) := by
      exact hqf 16 [4, 5, 68, 70, 72, 74, 77, 79, 84] _ _ _ [(4, .pointer (some ⟨b40, 0, none⟩)), (5, .pointer (some ⟨b41, 0, none⟩)), (68, .pointer (some ⟨g42, 0, none⟩)), (70, .int .i64 (wr64 (Int.tdiv (wr64 (w1 + 1)) 2))), (72, .pointer (some ⟨g42, 1, none⟩)), (74, .int .i64 (wr64 (Int.tdiv (wr64 (w1 + 1)) 2))), (77, .pointer (some ⟨g43, 0, none⟩)), (79, .int .i64 (wr64 (Int.tdiv (wr64 (w1 + 1)) 2))), (84, .int .i64 (wr64 ((mx (mx m0_1 m0_1) m0_3) + (wr64 (Int.tdiv (wr64 (w1 + 1)) 2)))))] (by kernel_rfl) (by kernel_rfl) hg_1ea55
    have hg_aa55 : G [true, false, true, false, true, false, true, false, false, true, false, true, false, true, false, true, false, false, false, false, false] [(4, .pointer (some ⟨b40, 0, none⟩)), (5, .pointer (some ⟨b41, 0, none⟩)), (68, .pointer (some ⟨g42, 0, none⟩)), (70, .int .i64 (wr64 (Int.tdiv (wr64 (w1 + 1)) 2))), (72, .pointer (some ⟨g42, 1, none⟩)), (74, .int .i64 (wr64 (Int.tdiv (wr64 (w1 + 1)) 2))), (77, .pointer (some ⟨g43, 0, none⟩)), (79, .int .i64 (wr64 (Int.tdiv (wr64 (w1 + 1)) 2))), (81, .pointer (some ⟨g43, 1, none⟩)), (83, .int .i64 (wr64 (Int.tdiv (wr64 (w1 + 1)) 2)))] ([⟨b46, [.int .i64 m0_2, .int .i64 m0_3], 2⟩, ⟨b45, [.int .i64 m0_0, .int .i64 m0_1], 2⟩, ⟨b44, [.int .i64 m0_0, .int .i64 m0_1, .int .i64 m0_2, .int .i64 m0_3], 4⟩, ⟨g43, [.int .i64 (mx (mx m0_0 m0_0) m0_2), .int .i64 (mx (mx m0_1 m0_1) m0_3)], 2⟩, ⟨g42, [.int .i64 (mn (mn m0_0 m0_0) m0_2), .int .i64 (mn (mn m0_1 m0_1) m0_3)], 2⟩, ⟨b41, [.int .i64 0, .int .i64 0], 2⟩, ⟨b40, [.int .i64 0, .int .i64 0], 2⟩, ⟨B0, [.int .i64 m0_0, .int .i64 m0_1, .int .i64 m0_2, .int .i64 m0_3], 4⟩] : List Own) := by
      refine hstep [1, 5, 10, 14] _ _ _ (by kernel_rfl) (List.cons_ne_nil _ _) ⟨?_, ?_, ?_, ?_, trivial⟩
      · show T _ _ _ _ _ _ _ _
        refine t_v (.ld1 rfl rfl rfl (.at 4 rfl rfl)) ?_
        refine t_keep [4, 5, 69, 70, 72, 74, 77, 79, 81, 83] (σ' := [(4, .pointer (some ⟨b40, 0, none⟩)), (5, .pointer (some ⟨b41, 0, none⟩)), (69, .int .i64 (mn (mn m0_0 m0_0) m0_2)), (70, .int .i64 (wr64 (Int.tdiv (wr64 (w1 + 1)) 2))), (72, .pointer (some ⟨g42, 1, none⟩)), (74, .int .i64 (wr64 (Int.tdiv (wr64 (w1 + 1)) 2))), (77, .pointer (some ⟨g43, 0, none⟩)), (79, .int .i64 (wr64 (Int.tdiv (wr64 (w1 + 1)) 2))), (81, .pointer (some ⟨g43, 1, none⟩)), (83, .int .i64 (wr64 (Int.tdiv (wr64 (w1 + 1)) 2)))]) (by kernel_rfl) ?_
        refine t_end ?_
        exact ⟨hg_aa57, rfl⟩
      · show T _ _ _ _ _ _ _ _
        refine t_v (.ld1 rfl rfl rfl (.at 4 rfl rfl)) ?_
        refine t_keep [4, 5, 68, 70, 73, 74, 77, 79, 81, 83] (σ' := [(4, .pointer (some ⟨b40, 0, none⟩)), (5, .pointer (some ⟨b41, 0, none⟩)), (68, .pointer (some ⟨g42, 0, none⟩)), (70, .int .i64 (wr64 (Int.tdiv (wr64 (w1 + 1)) 2))), (73, .int .i64 (mn (mn m0_1 m0_1) m0_3)), (74, .int .i64 (wr64 (Int.tdiv (wr64 (w1 + 1)) 2))), (77, .pointer (some ⟨g43, 0, none⟩)), (79, .int .i64 (wr64 (Int.tdiv (wr64 (w1 + 1)) 2))), (81, .pointer (some ⟨g43, 1, none⟩)), (83, .int .i64 (wr64 (Int.tdiv (wr64 (w1 + 1)) 2)))]) (by kernel_rfl) ?_
        refine t_end ?_
        exact ⟨hg_aa75, rfl⟩
      · show T _ _ _ _ _ _ _ _
        refine t_v (.ld1 rfl rfl rfl (.at 3 rfl rfl)) ?_
        refine t_keep [4, 5, 68, 70, 72, 74, 78, 79, 81, 83] (σ' := [(4, .pointer (some ⟨b40, 0, none⟩)), (5, .pointer (some ⟨b41, 0, none⟩)), (68, .pointer (some ⟨g42, 0, none⟩)), (70, .int .i64 (wr64 (Int.tdiv (wr64 (w1 + 1)) 2))), (72, .pointer (some ⟨g42, 1, none⟩)), (74, .int .i64 (wr64 (Int.tdiv (wr64 (w1 + 1)) 2))), (78, .int .i64 (mx (mx m0_0 m0_0) m0_2)), (79, .int .i64 (wr64 (Int.tdiv (wr64 (w1 + 1)) 2))), (81, .pointer (some ⟨g43, 1, none⟩)), (83, .int .i64 (wr64 (Int.tdiv (wr64 (w1 + 1)) 2)))]) (by kernel_rfl) ?_
        refine t_end ?_
        exact ⟨hg_ae55, rfl⟩
      · show T _ _ _ _ _ _ _ _
        refine t_v (.ld1 rfl rfl rfl (.at 3 rfl rfl)) ?_
        refine t_keep [4, 5, 68, 70, 72, 74, 77, 79, 82, 83] (σ' := [(4, .pointer (some ⟨b40, 0, none⟩)), (5, .pointer (some ⟨b41, 0, none⟩)), (68, .pointer (some ⟨g42, 0, none⟩)), (70, .int .i64 (wr64 (Int.tdiv (wr64 (w1 + 1)) 2))), (72, .pointer (some ⟨g42, 1, none⟩)), (74, .int .i64 (wr64 (Int.tdiv (wr64 (w1 + 1)) 2))), (77, .pointer (some ⟨g43, 0, none⟩)), (79, .int .i64 (wr64 (Int.tdiv (wr64 (w1 + 1)) 2))), (82, .int .i64 (mx (mx m0_1 m0_1) m0_3)), (83, .int .i64 (wr64 (Int.tdiv (wr64 (w1 + 1)) 2)))]) (by kernel_rfl) ?_
        refine t_end ?_
        exact ⟨hg_ea55, rfl⟩
    have hg_2a55 : G [true, false, true, false, true, false, true, false, false, true, false, true, false, true, false, false, false, false, false, false, false] [(4, .pointer (some ⟨b40, 0, none⟩)), (5, .pointer (some ⟨b41, 0, none⟩)), (13, .int .i64 (wr64 (Int.tdiv (wr64 (w1 + 1)) 2))), (68, .pointer (some ⟨g42, 0, none⟩)), (70, .int .i64 (wr64 (Int.tdiv (wr64 (w1 + 1)) 2))), (72, .pointer (some ⟨g42, 1, none⟩)), (74, .int .i64 (wr64 (Int.tdiv (wr64 (w1 + 1)) 2))), (77, .pointer (some ⟨g43, 0, none⟩)), (79, .int .i64 (wr64 (Int.tdiv (wr64 (w1 + 1)) 2))), (81, .pointer (some ⟨g43, 1, none⟩))] ([⟨b46, [.int .i64 m0_2, .int .i64 m0_3], 2⟩, ⟨b45, [.int .i64 m0_0, .int .i64 m0_1], 2⟩, ⟨b44, [.int .i64 m0_0, .int .i64 m0_1, .int .i64 m0_2, .int .i64 m0_3], 4⟩, ⟨g43, [.int .i64 (mx (mx m0_0 m0_0) m0_2), .int .i64 (mx (mx m0_1 m0_1) m0_3)], 2⟩, ⟨g42, [.int .i64 (mn (mn m0_0 m0_0) m0_2), .int .i64 (mn (mn m0_1 m0_1) m0_3)], 2⟩, ⟨b41, [.int .i64 0, .int .i64 0], 2⟩, ⟨b40, [.int .i64 0, .int .i64 0], 2⟩, ⟨B0, [.int .i64 m0_0, .int .i64 m0_1, .int .i64 m0_2, .int .i64 m0_3], 4⟩] : List Own) := by
      exact hqf 15 [4, 5, 68, 70, 72, 74, 77, 79, 81, 83] _ _ _ [(4, .pointer (some ⟨b40, 0, none⟩)), (5, .pointer (some ⟨b41, 0, none⟩)), (68, .pointer (some ⟨g42, 0, none⟩)), (70, .int .i64 (wr64 (Int.tdiv (wr64 (w1 + 1)) 2))), (72, .pointer (some ⟨g42, 1, none⟩)), (74, .int .i64 (wr64 (Int.tdiv (wr64 (w1 + 1)) 2))), (77, .pointer (some ⟨g43, 0, none⟩)), (79, .int .i64 (wr64 (Int.tdiv (wr64 (w1 + 1)) 2))), (81, .pointer (some ⟨g43, 1, none⟩)), (83, .int .i64 (wr64 (Int.tdiv (wr64 (w1 + 1)) 2)))] (by kernel_rfl) (by kernel_rfl) hg_aa55
    have hg_a55 : G [true, false, true, false, true, false, true, false, false, true, false, true, false, false, false, false, false, false, false, false, false] [(4, .pointer (some ⟨b40, 0, none⟩)), (5, .pointer (some ⟨b41, 0, none⟩)), (8, .pointer (some ⟨g43, 0, none⟩)), (13, .int .i64 (wr64 (Int.tdiv (wr64 (w1 + 1)) 2))), (68, .pointer (some ⟨g42, 0, none⟩)), (70, .int .i64 (wr64 (Int.tdiv (wr64 (w1 + 1)) 2))), (72, .pointer (some ⟨g42, 1, none⟩)), (74, .int .i64 (wr64 (Int.tdiv (wr64 (w1 + 1)) 2))), (77, .pointer (some ⟨g43, 0, none⟩)), (79, .int .i64 (wr64 (Int.tdiv (wr64 (w1 + 1)) 2)))] ([⟨b46, [.int .i64 m0_2, .int .i64 m0_3], 2⟩, ⟨b45, [.int .i64 m0_0, .int .i64 m0_1], 2⟩, ⟨b44, [.int .i64 m0_0, .int .i64 m0_1, .int .i64 m0_2, .int .i64 m0_3], 4⟩, ⟨g43, [.int .i64 (mx (mx m0_0 m0_0) m0_2), .int .i64 (mx (mx m0_1 m0_1) m0_3)], 2⟩, ⟨g42, [.int .i64 (mn (mn m0_0 m0_0) m0_2), .int .i64 (mn (mn m0_1 m0_1) m0_3)], 2⟩, ⟨b41, [.int .i64 0, .int .i64 0], 2⟩, ⟨b40, [.int .i64 0, .int .i64 0], 2⟩, ⟨B0, [.int .i64 m0_0, .int .i64 m0_1, .int .i64 m0_2, .int .i64 m0_3], 4⟩] : List Own) := by
      exact hqf 13 [4, 5, 13, 68, 70, 72, 74, 77, 79, 81] _ _ _ [(4, .pointer (some ⟨b40, 0, none⟩)), (5, .pointer (some ⟨b41, 0, none⟩)), (13, .int .i64 (wr64 (Int.tdiv (wr64 (w1 + 1)) 2))), (68, .pointer (some ⟨g42, 0, none⟩)), (70, .int .i64 (wr64 (Int.tdiv (wr64 (w1 + 1)) 2))), (72, .pointer (some ⟨g42, 1, none⟩)), (74, .int .i64 (wr64 (Int.tdiv (wr64 (w1 + 1)) 2))), (77, .pointer (some ⟨g43, 0, none⟩)), (79, .int .i64 (wr64 (Int.tdiv (wr64 (w1 + 1)) 2))), (81, .pointer (some ⟨g43, 1, none⟩))] (by kernel_rfl) (by kernel_rfl) hg_2a55
    have hg_255 : G [true, false, true, false, true, false, true, false, false, true, false, false, false, false, false, false, false, false, false, false, false] [(4, .pointer (some ⟨b40, 0, none⟩)), (5, .pointer (some ⟨b41, 0, none⟩)), (8, .pointer (some ⟨g43, 0, none⟩)), (13, .int .i64 (wr64 (Int.tdiv (wr64 (w1 + 1)) 2))), (68, .pointer (some ⟨g42, 0, none⟩)), (70, .int .i64 (wr64 (Int.tdiv (wr64 (w1 + 1)) 2))), (72, .pointer (some ⟨g42, 1, none⟩)), (74, .int .i64 (wr64 (Int.tdiv (wr64 (w1 + 1)) 2))), (77, .pointer (some ⟨g43, 0, none⟩))] ([⟨b46, [.int .i64 m0_2, .int .i64 m0_3], 2⟩, ⟨b45, [.int .i64 m0_0, .int .i64 m0_1], 2⟩, ⟨b44, [.int .i64 m0_0, .int .i64 m0_1, .int .i64 m0_2, .int .i64 m0_3], 4⟩, ⟨g43, [.int .i64 (mx (mx m0_0 m0_0) m0_2), .int .i64 (mx (mx m0_1 m0_1) m0_3)], 2⟩, ⟨g42, [.int .i64 (mn (mn m0_0 m0_0) m0_2), .int .i64 (mn (mn m0_1 m0_1) m0_3)], 2⟩, ⟨b41, [.int .i64 0, .int .i64 0], 2⟩, ⟨b40, [.int .i64 0, .int .i64 0], 2⟩, ⟨B0, [.int .i64 m0_0, .int .i64 m0_1, .int .i64 m0_2, .int .i64 m0_3], 4⟩] : List Own) := by
      exact hqf 11 [4, 5, 8, 13, 68, 70, 72, 74, 77, 79] _ _ _ [(4, .pointer (some ⟨b40, 0, none⟩)), (5, .pointer (some ⟨b41, 0, none⟩)), (8, .pointer (some ⟨g43, 0, none⟩)), (13, .int .i64 (wr64 (Int.tdiv (wr64 (w1 + 1)) 2))), (68, .pointer (some ⟨g42, 0, none⟩)), (70, .int .i64 (wr64 (Int.tdiv (wr64 (w1 + 1)) 2))), (72, .pointer (some ⟨g42, 1, none⟩)), (74, .int .i64 (wr64 (Int.tdiv (wr64 (w1 + 1)) 2))), (77, .pointer (some ⟨g43, 0, none⟩)), (79, .int .i64 (wr64 (Int.tdiv (wr64 (w1 + 1)) 2)))] (by kernel_rfl) (by kernel_rfl) hg_a55
    have hg_55 : G [true, false, true, false, true, false, true, false, false, false, false, false, false, false, false, false, false, false, false, false, false] [(4, .pointer (some ⟨b40, 0, none⟩)), (5, .pointer (some ⟨b41, 0, none⟩)), (8, .pointer (some ⟨g43, 0, none⟩)), (13, .int .i64 (wr64 (Int.tdiv (wr64 (w1 + 1)) 2))), (68, .pointer (some ⟨g42, 0, none⟩)), (70, .int .i64 (wr64 (Int.tdiv (wr64 (w1 + 1)) 2))), (72, .pointer (some ⟨g42, 1, none⟩)), (74, .int .i64 (wr64 (Int.tdiv (wr64 (w1 + 1)) 2)))] ([⟨b46, [.int .i64 m0_2, .int .i64 m0_3], 2⟩, ⟨b45, [.int .i64 m0_0, .int .i64 m0_1], 2⟩, ⟨b44, [.int .i64 m0_0, .int .i64 m0_1, .int .i64 m0_2, .int .i64 m0_3], 4⟩, ⟨g43, [.int .i64 (mx (mx m0_0 m0_0) m0_2), .int .i64 (mx (mx m0_1 m0_1) m0_3)], 2⟩, ⟨g42, [.int .i64 (mn (mn m0_0 m0_0) m0_2), .int .i64 (mn (mn m0_1 m0_1) m0_3)], 2⟩, ⟨b41, [.int .i64 0, .int .i64 0], 2⟩, ⟨b40, [.int .i64 0, .int .i64 0], 2⟩, ⟨B0, [.int .i64 m0_0, .int .i64 m0_1, .int .i64 m0_2, .int .i64 m0_3], 4⟩] : List Own) := by
      exact hqf 9 [4, 5, 8, 13, 68, 70, 72, 74, 77] _ _ _ [(4, .pointer (some ⟨b40, 0, none⟩)), (5, .pointer (some ⟨b41, 0, none⟩)), (8, .pointer (some ⟨g43, 0, none⟩)), (13, .int .i64 (wr64 (Int.tdiv (wr64 (w1 + 1)) 2))), (68, .pointer (some ⟨g42, 0, none⟩)), (70, .int .i64 (wr64 (Int.tdiv (wr64 (w1 + 1)) 2))), (72, .pointer (some ⟨g42, 1, none⟩)), (74, .int .i64 (wr64 (Int.tdiv (wr64 (w1 + 1)) 2))), (77, .pointer (some ⟨g43, 0, none⟩))] (by kernel_rfl) (by kernel_rfl) hg_255
    have hg_15 : G [true, false, true, false, true, false, false, false, false, false, false, false, false, false, false, false, false, false, false, false, false] [(4, .pointer (some ⟨b40, 0, none⟩)), (5, .pointer (some ⟨b41, 0, none⟩)), (8, .pointer (some ⟨g43, 0, none⟩)), (13, .int .i64 (wr64 (Int.tdiv (wr64 (w1 + 1)) 2))), (68, .pointer (some ⟨g42, 0, none⟩)), (70, .int .i64 (wr64 (Int.tdiv (wr64 (w1 + 1)) 2))), (72, .pointer (some ⟨g42, 1, none⟩))] ([⟨b46, [.int .i64 m0_2, .int .i64 m0_3], 2⟩, ⟨b45, [.int .i64 m0_0, .int .i64 m0_1], 2⟩, ⟨b44, [.int .i64 m0_0, .int .i64 m0_1, .int .i64 m0_2, .int .i64 m0_3], 4⟩, ⟨g43, [.int .i64 (mx (mx m0_0 m0_0) m0_2), .int .i64 (mx (mx m0_1 m0_1) m0_3)], 2⟩, ⟨g42, [.int .i64 (mn (mn m0_0 m0_0) m0_2), .int .i64 (mn (mn m0_1 m0_1) m0_3)], 2⟩, ⟨b41, [.int .i64 0, .int .i64 0], 2⟩, ⟨b40, [.int .i64 0, .int .i64 0], 2⟩, ⟨B0, [.int .i64 m0_0, .int .i64 m0_1, .int .i64 m0_2, .int .i64 m0_3], 4⟩] : List Own) := by
      exact hqf 6 [4, 5, 8, 13, 68, 70, 72, 74] _ _ _ [(4, .pointer (some ⟨b40, 0, none⟩)), (5, .pointer (some ⟨b41, 0, none⟩)), (8, .pointer (some ⟨g43, 0, none⟩)), (13, .int .i64 (wr64 (Int.tdiv (wr64 (w1 + 1)) 2))), (68, .pointer (some ⟨g42, 0, none⟩)), (70, .int .i64 (wr64 (Int.tdiv (wr64 (w1 + 1)) 2))), (72, .pointer (some ⟨g42, 1, none⟩)), (74, .int .i64 (wr64 (Int.tdiv (wr64 (w1 + 1)) 2)))] (by kernel_rfl) (by kernel_rfl) hg_55
    have hg_5 : G [true, false, true, false, false, false, false, false, false, false, false, false, false, false, false, false, false, false, false, false, false] [(4, .pointer (some ⟨b40, 0, none⟩)), (5, .pointer (some ⟨b41, 0, none⟩)), (7, .pointer (some ⟨g42, 0, none⟩)), (8, .pointer (some ⟨g43, 0, none⟩)), (13, .int .i64 (wr64 (Int.tdiv (wr64 (w1 + 1)) 2))), (68, .pointer (some ⟨g42, 0, none⟩)), (70, .int .i64 (wr64 (Int.tdiv (wr64 (w1 + 1)) 2)))] ([⟨b46, [.int .i64 m0_2, .int .i64 m0_3], 2⟩, ⟨b45, [.int .i64 m0_0, .int .i64 m0_1], 2⟩, ⟨b44, [.int .i64 m0_0, .int .i64 m0_1, .int .i64 m0_2, .int .i64 m0_3], 4⟩, ⟨g43, [.int .i64 (mx (mx m0_0 m0_0) m0_2), .int .i64 (mx (mx m0_1 m0_1) m0_3)], 2⟩, ⟨g42, [.int .i64 (mn (mn m0_0 m0_0) m0_2), .int .i64 (mn (mn m0_1 m0_1) m0_3)], 2⟩, ⟨b41, [.int .i64 0, .int .i64 0], 2⟩, ⟨b40, [.int .i64 0, .int .i64 0], 2⟩, ⟨B0, [.int .i64 m0_0, .int .i64 m0_1, .int .i64 m0_2, .int .i64 m0_3], 4⟩] : List Own) := by
      exact hqf 4 [4, 5, 8, 13, 68, 70, 72] _ _ _ [(4, .pointer (some ⟨b40, 0, none⟩)), (5, .pointer (some ⟨b41, 0, none⟩)), (8, .pointer (some ⟨g43, 0, none⟩)), (13, .int .i64 (wr64 (Int.tdiv (wr64 (w1 + 1)) 2))), (68, .pointer (some ⟨g42, 0, none⟩)), (70, .int .i64 (wr64 (Int.tdiv (wr64 (w1 + 1)) 2))), (72, .pointer (some ⟨g42, 1, none⟩))] (by kernel_rfl) (by kernel_rfl) hg_15
    have hg_1 : G [true, false, false, false, false, false, false, false, false, false, false, false, false, false, false, false, false, false, false, false, false] [(4, .pointer (some ⟨b40, 0, none⟩)), (5, .pointer (some ⟨b41, 0, none⟩)), (7, .pointer (some ⟨g42, 0, none⟩)), (8, .pointer (some ⟨g43, 0, none⟩)), (13, .int .i64 (wr64 (Int.tdiv (wr64 (w1 + 1)) 2))), (68, .pointer (some ⟨g42, 0, none⟩))] ([⟨b46, [.int .i64 m0_2, .int .i64 m0_3], 2⟩, ⟨b45, [.int .i64 m0_0, .int .i64 m0_1], 2⟩, ⟨b44, [.int .i64 m0_0, .int .i64 m0_1, .int .i64 m0_2, .int .i64 m0_3], 4⟩, ⟨g43, [.int .i64 (mx (mx m0_0 m0_0) m0_2), .int .i64 (mx (mx m0_1 m0_1) m0_3)], 2⟩, ⟨g42, [.int .i64 (mn (mn m0_0 m0_0) m0_2), .int .i64 (mn (mn m0_1 m0_1) m0_3)], 2⟩, ⟨b41, [.int .i64 0, .int .i64 0], 2⟩, ⟨b40, [.int .i64 0, .int .i64 0], 2⟩, ⟨B0, [.int .i64 m0_0, .int .i64 m0_1, .int .i64 m0_2, .int .i64 m0_3], 4⟩] : List Own) := by
      exact hqf 2 [4, 5, 7, 8, 13, 68, 70] _ _ _ [(4, .pointer (some ⟨b40, 0, none⟩)), (5, .pointer (some ⟨b41, 0, none⟩)), (7, .pointer (some ⟨g42, 0, none⟩)), (8, .pointer (some ⟨g43, 0, none⟩)), (13, .int .i64 (wr64 (Int.tdiv (wr64 (w1 + 1)) 2))), (68, .pointer (some ⟨g42, 0, none⟩)), (70, .int .i64 (wr64 (Int.tdiv (wr64 (w1 + 1)) 2)))] (by kernel_rfl) (by kernel_rfl) hg_5
    have hg_0 : G [false, false, false, false, false, false, false, false, false, false, false, false, false, false, false, false, false, false, false, false, false] [(4, .pointer (some ⟨b40, 0, none⟩)), (5, .pointer (some ⟨b41, 0, none⟩)), (7, .pointer (some ⟨g42, 0, none⟩)), (8, .pointer (some ⟨g43, 0, none⟩)), (13, .int .i64 (wr64 (Int.tdiv (wr64 (w1 + 1)) 2)))] ([⟨b46, [.int .i64 m0_2, .int .i64 m0_3], 2⟩, ⟨b45, [.int .i64 m0_0, .int .i64 m0_1], 2⟩, ⟨b44, [.int .i64 m0_0, .int .i64 m0_1, .int .i64 m0_2, .int .i64 m0_3], 4⟩, ⟨g43, [.int .i64 (mx (mx m0_0 m0_0) m0_2), .int .i64 (mx (mx m0_1 m0_1) m0_3)], 2⟩, ⟨g42, [.int .i64 (mn (mn m0_0 m0_0) m0_2), .int .i64 (mn (mn m0_1 m0_1) m0_3)], 2⟩, ⟨b41, [.int .i64 0, .int .i64 0], 2⟩, ⟨b40, [.int .i64 0, .int .i64 0], 2⟩, ⟨B0, [.int .i64 m0_0, .int .i64 m0_1, .int .i64 m0_2, .int .i64 m0_3], 4⟩] : List Own) := by
      exact hqf 0 [4, 5, 7, 8, 13, 68] _ _ _ [(4, .pointer (some ⟨b40, 0, none⟩)), (5, .pointer (some ⟨b41, 0, none⟩)), (7, .pointer (some ⟨g42, 0, none⟩)), (8, .pointer (some ⟨g43, 0, none⟩)), (13, .int .i64 (wr64 (Int.tdiv (wr64 (w1 + 1)) 2))), (68, .pointer (some ⟨g42, 0, none⟩))] (by kernel_rfl) (by kernel_rfl) hg_1
    exact hg_0
  have hg_7ff : ∀ (g43 : Nat) (g42 : Nat), G [true, true, true, true, true, true, true, true, true, true, true, false] [(0, .slice (some ⟨B0, 0, none⟩) 1 1), (1, .int .i64 w1), (4, .pointer (some ⟨b40, 0, none⟩)), (5, .pointer (some ⟨b41, 0, none⟩)), (7, .pointer (some ⟨g42, 0, none⟩)), (8, .pointer (some ⟨g43, 0, none⟩)), (26, .agg #[.int .i64 m0_0, .int .i64 m0_1])] ([⟨g43, [.int .i64 0, .int .i64 0], 2⟩, ⟨g42, [.int .i64 m0_0, .int .i64 m0_1], 2⟩, ⟨b41, [.int .i64 0, .int .i64 0], 2⟩, ⟨b40, [.int .i64 0, .int .i64 0], 2⟩, ⟨B0, [.int .i64 m0_0, .int .i64 m0_1, .int .i64 m0_2, .int .i64 m0_3], 4⟩] : List Own) := by
    intro g43 g42
    refine hstep [11] _ _ _ (by kernel_rfl) (List.cons_ne_nil _ _) ⟨?_, trivial⟩
    · show T _ _ _ _ _ _ _ _
      refine t_sti 0 (cs := [.int .i64 m0_0, .int .i64 m0_1]) rfl rfl rfl rfl rfl rfl rfl rfl rfl ?_
      refine t_keep [0, 1, 4, 5, 7, 8] (σ' := [(0, .slice (some ⟨B0, 0, none⟩) 1 1), (1, .int .i64 w1), (4, .pointer (some ⟨b40, 0, none⟩)), (5, .pointer (some ⟨b41, 0, none⟩)), (7, .pointer (some ⟨g42, 0, none⟩)), (8, .pointer (some ⟨g43, 0, none⟩))]) (by kernel_rfl) ?_
      refine t_end ?_
      exact ⟨hg_fff g43 g42, rfl⟩
  have hg_77f : ∀ (g43 : Nat) (g42 : Nat), G [true, true, true, true, true, true, true, false, true, true, true, false] [(0, .slice (some ⟨B0, 0, none⟩) 1 1), (1, .int .i64 w1), (4, .pointer (some ⟨b40, 0, none⟩)), (5, .pointer (some ⟨b41, 0, none⟩)), (7, .pointer (some ⟨g42, 0, none⟩)), (8, .pointer (some ⟨g43, 0, none⟩)), (25, .pointer (some ⟨B0, 0, none⟩))] ([⟨g43, [.int .i64 0, .int .i64 0], 2⟩, ⟨g42, [.int .i64 m0_0, .int .i64 m0_1], 2⟩, ⟨b41, [.int .i64 0, .int .i64 0], 2⟩, ⟨b40, [.int .i64 0, .int .i64 0], 2⟩, ⟨B0, [.int .i64 m0_0, .int .i64 m0_1, .int .i64 m0_2, .int .i64 m0_3], 4⟩] : List Own) := by
    intro g43 g42
    refine hstep [7] _ _ _ (by kernel_rfl) (List.cons_ne_nil _ _) ⟨?_, trivial⟩
    · show T _ _ _ _ _ _ _ _
      refine t_v (.ldn rfl rfl rfl (.at 4 rfl rfl)) ?_
      refine t_keep [0, 1, 4, 5, 7, 8, 26] (σ' := [(0, .slice (some ⟨B0, 0, none⟩) 1 1), (1, .int .i64 w1), (4, .pointer (some ⟨b40, 0, none⟩)), (5, .pointer (some ⟨b41, 0, none⟩)), (7, .pointer (some ⟨g42, 0, none⟩)), (8, .pointer (some ⟨g43, 0, none⟩)), (26, .agg #[.int .i64 m0_0, .int .i64 m0_1])]) (by kernel_rfl) ?_
      refine t_end ?_
      exact ⟨hg_7ff g43 g42, rfl⟩
  have hg_3ff : ∀ (g43 : Nat) (g42 : Nat), G [true, true, true, true, true, true, true, true, true, true, false, false] [(0, .slice (some ⟨B0, 0, none⟩) 1 1), (1, .int .i64 w1), (4, .pointer (some ⟨b40, 0, none⟩)), (5, .pointer (some ⟨b41, 0, none⟩)), (7, .pointer (some ⟨g42, 0, none⟩)), (8, .pointer (some ⟨g43, 0, none⟩)), (22, .agg #[.int .i64 m0_0, .int .i64 m0_1]), (26, .agg #[.int .i64 m0_0, .int .i64 m0_1])] ([⟨g43, [.int .i64 0, .int .i64 0], 2⟩, ⟨g42, [.int .i64 0, .int .i64 0], 2⟩, ⟨b41, [.int .i64 0, .int .i64 0], 2⟩, ⟨b40, [.int .i64 0, .int .i64 0], 2⟩, ⟨B0, [.int .i64 m0_0, .int .i64 m0_1, .int .i64 m0_2, .int .i64 m0_3], 4⟩] : List Own) := by
    intro g43 g42
    refine hstep [10] _ _ _ (by kernel_rfl) (List.cons_ne_nil _ _) ⟨?_, trivial⟩
    · show T _ _ _ _ _ _ _ _
      refine t_sti 1 (cs := [.int .i64 m0_0, .int .i64 m0_1]) rfl rfl rfl rfl rfl rfl rfl rfl rfl ?_
      refine t_keep [0, 1, 4, 5, 7, 8, 26] (σ' := [(0, .slice (some ⟨B0, 0, none⟩) 1 1), (1, .int .i64 w1), (4, .pointer (some ⟨b40, 0, none⟩)), (5, .pointer (some ⟨b41, 0, none⟩)), (7, .pointer (some ⟨g42, 0, none⟩)), (8, .pointer (some ⟨g43, 0, none⟩)), (26, .agg #[.int .i64 m0_0, .int .i64 m0_1])]) (by kernel_rfl) ?_
      refine t_end ?_
      exact ⟨hg_7ff g43 g42, rfl⟩
  have hg_1ff : ∀ (g42 : Nat), G [true, true, true, true, true, true, true, true, true, false, false, false] [(0, .slice (some ⟨B0, 0, none⟩) 1 1), (1, .int .i64 w1), (4, .pointer (some ⟨b40, 0, none⟩)), (5, .pointer (some ⟨b41, 0, none⟩)), (7, .pointer (some ⟨g42, 0, none⟩)), (22, .agg #[.int .i64 m0_0, .int .i64 m0_1]), (26, .agg #[.int .i64 m0_0, .int .i64 m0_1])] ([⟨g42, [.int .i64 0, .int .i64 0], 2⟩, ⟨b41, [.int .i64 0, .int .i64 0], 2⟩, ⟨b40, [.int .i64 0, .int .i64 0], 2⟩, ⟨B0, [.int .i64 m0_0, .int .i64 m0_1, .int .i64 m0_2, .int .i64 m0_3], 4⟩] : List Own) := by
    intro g42
    refine hstep [9] _ _ _ (by kernel_rfl) (List.cons_ne_nil _ _) ⟨?_, trivial⟩
    · show T _ _ _ _ _ _ _ _
      refine t_a (.new rfl rfl) fun g43 fg43 sg43 => ?_
      refine t_keep [0, 1, 4, 5, 7, 8, 22, 26] (σ' := [(0, .slice (some ⟨B0, 0, none⟩) 1 1), (1, .int .i64 w1), (4, .pointer (some ⟨b40, 0, none⟩)), (5, .pointer (some ⟨b41, 0, none⟩)), (7, .pointer (some ⟨g42, 0, none⟩)), (8, .pointer (some ⟨g43, 0, none⟩)), (22, .agg #[.int .i64 m0_0, .int .i64 m0_1]), (26, .agg #[.int .i64 m0_0, .int .i64 m0_1])]) (by kernel_rfl) ?_
      refine t_end ?_
      exact ⟨hg_3ff g43 g42, rfl⟩
  have hg_2ff : ∀ (g43 : Nat), G [true, true, true, true, true, true, true, true, false, true, false, false] [(0, .slice (some ⟨B0, 0, none⟩) 1 1), (1, .int .i64 w1), (4, .pointer (some ⟨b40, 0, none⟩)), (5, .pointer (some ⟨b41, 0, none⟩)), (8, .pointer (some ⟨g43, 0, none⟩)), (22, .agg #[.int .i64 m0_0, .int .i64 m0_1]), (26, .agg #[.int .i64 m0_0, .int .i64 m0_1])] ([⟨g43, [.int .i64 0, .int .i64 0], 2⟩, ⟨b41, [.int .i64 0, .int .i64 0], 2⟩, ⟨b40, [.int .i64 0, .int .i64 0], 2⟩, ⟨B0, [.int .i64 m0_0, .int .i64 m0_1, .int .i64 m0_2, .int .i64 m0_3], 4⟩] : List Own) := by
    intro g43
    refine hstep [8] _ _ _ (by kernel_rfl) (List.cons_ne_nil _ _) ⟨?_, trivial⟩
    · show T _ _ _ _ _ _ _ _
      refine t_a (.new rfl rfl) fun g42 fg42 sg42 => ?_
      refine t_keep [0, 1, 4, 5, 7, 8, 22, 26] (σ' := [(0, .slice (some ⟨B0, 0, none⟩) 1 1), (1, .int .i64 w1), (4, .pointer (some ⟨b40, 0, none⟩)), (5, .pointer (some ⟨b41, 0, none⟩)), (7, .pointer (some ⟨g42, 0, none⟩)), (8, .pointer (some ⟨g43, 0, none⟩)), (22, .agg #[.int .i64 m0_0, .int .i64 m0_1]), (26, .agg #[.int .i64 m0_0, .int .i64 m0_1])]) (by kernel_rfl) ?_
      refine t_vs (H' := ([⟨g43, [.int .i64 0, .int .i64 0], 2⟩, ⟨g42, [.int .i64 0, .int .i64 0], 2⟩, ⟨b41, [.int .i64 0, .int .i64 0], 2⟩, ⟨b40, [.int .i64 0, .int .i64 0], 2⟩, ⟨B0, [.int .i64 m0_0, .int .i64 m0_1, .int .i64 m0_2, .int .i64 m0_3], 4⟩] : List Own)) (S' := S) (VS.sel [1, 0, 0, 0, 0] (by kernel_rfl)) ?_
      refine t_end ?_
      exact ⟨hg_3ff g43 g42, rfl⟩
  have hg_37f : ∀ (g43 : Nat) (g42 : Nat), G [true, true, true, true, true, true, true, false, true, true, false, false] [(0, .slice (some ⟨B0, 0, none⟩) 1 1), (1, .int .i64 w1), (4, .pointer (some ⟨b40, 0, none⟩)), (5, .pointer (some ⟨b41, 0, none⟩)), (7, .pointer (some ⟨g42, 0, none⟩)), (8, .pointer (some ⟨g43, 0, none⟩)), (22, .agg #[.int .i64 m0_0, .int .i64 m0_1]), (25, .pointer (some ⟨B0, 0, none⟩))] ([⟨g43, [.int .i64 0, .int .i64 0], 2⟩, ⟨g42, [.int .i64 0, .int .i64 0], 2⟩, ⟨b41, [.int .i64 0, .int .i64 0], 2⟩, ⟨b40, [.int .i64 0, .int .i64 0], 2⟩, ⟨B0, [.int .i64 m0_0, .int .i64 m0_1, .int .i64 m0_2, .int .i64 m0_3], 4⟩] : List Own) := by
    intro g43 g42
    refine hstep [7, 10] _ _ _ (by kernel_rfl) (List.cons_ne_nil _ _) ⟨?_, ?_, trivial⟩
    · show T _ _ _ _ _ _ _ _
      refine t_v (.ldn rfl rfl rfl (.at 4 rfl rfl)) ?_
      refine t_keep [0, 1, 4, 5, 7, 8, 22, 26] (σ' := [(0, .slice (some ⟨B0, 0, none⟩) 1 1), (1, .int .i64 w1), (4, .pointer (some ⟨b40, 0, none⟩)), (5, .pointer (some ⟨b41, 0, none⟩)), (7, .pointer (some ⟨g42, 0, none⟩)), (8, .pointer (some ⟨g43, 0, none⟩)), (22, .agg #[.int .i64 m0_0, .int .i64 m0_1]), (26, .agg #[.int .i64 m0_0, .int .i64 m0_1])]) (by kernel_rfl) ?_
      refine t_end ?_
      exact ⟨hg_3ff g43 g42, rfl⟩
    · show T _ _ _ _ _ _ _ _
      refine t_sti 1 (cs := [.int .i64 m0_0, .int .i64 m0_1]) rfl rfl rfl rfl rfl rfl rfl rfl rfl ?_
      refine t_keep [0, 1, 4, 5, 7, 8, 25] (σ' := [(0, .slice (some ⟨B0, 0, none⟩) 1 1), (1, .int .i64 w1), (4, .pointer (some ⟨b40, 0, none⟩)), (5, .pointer (some ⟨b41, 0, none⟩)), (7, .pointer (some ⟨g42, 0, none⟩)), (8, .pointer (some ⟨g43, 0, none⟩)), (25, .pointer (some ⟨B0, 0, none⟩))]) (by kernel_rfl) ?_
      refine t_end ?_
      exact ⟨hg_77f g43 g42, rfl⟩
  have hg_3f7 : ∀ (g43 : Nat) (g42 : Nat), G [true, true, true, false, true, true, true, true, true, true, false, false] [(0, .slice (some ⟨B0, 0, none⟩) 1 1), (1, .int .i64 w1), (4, .pointer (some ⟨b40, 0, none⟩)), (5, .pointer (some ⟨b41, 0, none⟩)), (7, .pointer (some ⟨g42, 0, none⟩)), (8, .pointer (some ⟨g43, 0, none⟩)), (21, .pointer (some ⟨B0, 0, none⟩)), (26, .agg #[.int .i64 m0_0, .int .i64 m0_1])] ([⟨g43, [.int .i64 0, .int .i64 0], 2⟩, ⟨g42, [.int .i64 0, .int .i64 0], 2⟩, ⟨b41, [.int .i64 0, .int .i64 0], 2⟩, ⟨b40, [.int .i64 0, .int .i64 0], 2⟩, ⟨B0, [.int .i64 m0_0, .int .i64 m0_1, .int .i64 m0_2, .int .i64 m0_3], 4⟩] : List Own) := by
    intro g43 g42
    refine hstep [3] _ _ _ (by kernel_rfl) (List.cons_ne_nil _ _) ⟨?_, trivial⟩
    · show T _ _ _ _ _ _ _ _
      refine t_v (.ldn rfl rfl rfl (.at 4 rfl rfl)) ?_
      refine t_keep [0, 1, 4, 5, 7, 8, 22, 26] (σ' := [(0, .slice (some ⟨B0, 0, none⟩) 1 1), (1, .int .i64 w1), (4, .pointer (some ⟨b40, 0, none⟩)), (5, .pointer (some ⟨b41, 0, none⟩)), (7, .pointer (some ⟨g42, 0, none⟩)), (8, .pointer (some ⟨g43, 0, none⟩)), (22, .agg #[.int .i64 m0_0, .int .i64 m0_1]), (26, .agg #[.int .i64 m0_0, .int .i64 m0_1])]) (by kernel_rfl) ?_
      refine t_end ?_
      exact ⟨hg_3ff g43 g42, rfl⟩
  have hg_ff : G [true, true, true, true, true, true, true, true, false, false, false, false] [(0, .slice (some ⟨B0, 0, none⟩) 1 1), (1, .int .i64 w1), (4, .pointer (some ⟨b40, 0, none⟩)), (5, .pointer (some ⟨b41, 0, none⟩)), (22, .agg #[.int .i64 m0_0, .int .i64 m0_1]), (26, .agg #[.int .i64 m0_0, .int .i64 m0_1])] ([⟨b41, [.int .i64 0, .int .i64 0], 2⟩, ⟨b40, [.int .i64 0, .int .i64 0], 2⟩, ⟨B0, [.int .i64 m0_0, .int .i64 m0_1, .int .i64 m0_2, .int .i64 m0_3], 4⟩] : List Own) := by
    refine hstep [8, 9] _ _ _ (by kernel_rfl) (List.cons_ne_nil _ _) ⟨?_, ?_, trivial⟩
    · show T _ _ _ _ _ _ _ _
      refine t_a (.new rfl rfl) fun g42 fg42 sg42 => ?_
      refine t_keep [0, 1, 4, 5, 7, 22, 26] (σ' := [(0, .slice (some ⟨B0, 0, none⟩) 1 1), (1, .int .i64 w1), (4, .pointer (some ⟨b40, 0, none⟩)), (5, .pointer (some ⟨b41, 0, none⟩)), (7, .pointer (some ⟨g42, 0, none⟩)), (22, .agg #[.int .i64 m0_0, .int .i64 m0_1]), (26, .agg #[.int .i64 m0_0, .int .i64 m0_1])]) (by kernel_rfl) ?_
      refine t_end ?_
      exact ⟨hg_1ff g42, rfl⟩
    · show T _ _ _ _ _ _ _ _
      refine t_a (.new rfl rfl) fun g43 fg43 sg43 => ?_
      refine t_keep [0, 1, 4, 5, 8, 22, 26] (σ' := [(0, .slice (some ⟨B0, 0, none⟩) 1 1), (1, .int .i64 w1), (4, .pointer (some ⟨b40, 0, none⟩)), (5, .pointer (some ⟨b41, 0, none⟩)), (8, .pointer (some ⟨g43, 0, none⟩)), (22, .agg #[.int .i64 m0_0, .int .i64 m0_1]), (26, .agg #[.int .i64 m0_0, .int .i64 m0_1])]) (by kernel_rfl) ?_
      refine t_end ?_
      exact ⟨hg_2ff g43, rfl⟩
  have hg_17f : ∀ (g42 : Nat), G [true, true, true, true, true, true, true, false, true, false, false, false] [(0, .slice (some ⟨B0, 0, none⟩) 1 1), (1, .int .i64 w1), (4, .pointer (some ⟨b40, 0, none⟩)), (5, .pointer (some ⟨b41, 0, none⟩)), (7, .pointer (some ⟨g42, 0, none⟩)), (22, .agg #[.int .i64 m0_0, .int .i64 m0_1]), (25, .pointer (some ⟨B0, 0, none⟩))] ([⟨g42, [.int .i64 0, .int .i64 0], 2⟩, ⟨b41, [.int .i64 0, .int .i64 0], 2⟩, ⟨b40, [.int .i64 0, .int .i64 0], 2⟩, ⟨B0, [.int .i64 m0_0, .int .i64 m0_1, .int .i64 m0_2, .int .i64 m0_3], 4⟩] : List Own) := by
    intro g42
    refine hstep [7, 9] _ _ _ (by kernel_rfl) (List.cons_ne_nil _ _) ⟨?_, ?_, trivial⟩
    · show T _ _ _ _ _ _ _ _
      refine t_v (.ldn rfl rfl rfl (.at 3 rfl rfl)) ?_
      refine t_keep [0, 1, 4, 5, 7, 22, 26] (σ' := [(0, .slice (some ⟨B0, 0, none⟩) 1 1), (1, .int .i64 w1), (4, .pointer (some ⟨b40, 0, none⟩)), (5, .pointer (some ⟨b41, 0, none⟩)), (7, .pointer (some ⟨g42, 0, none⟩)), (22, .agg #[.int .i64 m0_0, .int .i64 m0_1]), (26, .agg #[.int .i64 m0_0, .int .i64 m0_1])]) (by kernel_rfl) ?_
      refine t_end ?_
      exact ⟨hg_1ff g42, rfl⟩
    · show T _ _ _ _ _ _ _ _
      refine t_a (.new rfl rfl) fun g43 fg43 sg43 => ?_
      refine t_keep [0, 1, 4, 5, 7, 8, 22, 25] (σ' := [(0, .slice (some ⟨B0, 0, none⟩) 1 1), (1, .int .i64 w1), (4, .pointer (some ⟨b40, 0, none⟩)), (5, .pointer (some ⟨b41, 0, none⟩)), (7, .pointer (some ⟨g42, 0, none⟩)), (8, .pointer (some ⟨g43, 0, none⟩)), (22, .agg #[.int .i64 m0_0, .int .i64 m0_1]), (25, .pointer (some ⟨B0, 0, none⟩))]) (by kernel_rfl) ?_
      refine t_end ?_
      exact ⟨hg_37f g43 g42, rfl⟩
  have hg_27f : ∀ (g43 : Nat), G [true, true, true, true, true, true, true, false, false, true, false, false] [(0, .slice (some ⟨B0, 0, none⟩) 1 1), (1, .int .i64 w1), (4, .pointer (some ⟨b40, 0, none⟩)), (5, .pointer (some ⟨b41, 0, none⟩)), (8, .pointer (some ⟨g43, 0, none⟩)), (22, .agg #[.int .i64 m0_0, .int .i64 m0_1]), (25, .pointer (some ⟨B0, 0, none⟩))] ([⟨g43, [.int .i64 0, .int .i64 0], 2⟩, ⟨b41, [.int .i64 0, .int .i64 0], 2⟩, ⟨b40, [.int .i64 0, .int .i64 0], 2⟩, ⟨B0, [.int .i64 m0_0, .int .i64 m0_1, .int .i64 m0_2, .int .i64 m0_3], 4⟩] : List Own) := by
    intro g43
    refine hstep [7, 8] _ _ _ (by kernel_rfl) (List.cons_ne_nil _ _) ⟨?_, ?_, trivial⟩
    · show T _ _ _ _ _ _ _ _
      refine t_v (.ldn rfl rfl rfl (.at 3 rfl rfl)) ?_
      refine t_keep [0, 1, 4, 5, 8, 22, 26] (σ' := [(0, .slice (some ⟨B0, 0, none⟩) 1 1), (1, .int .i64 w1), (4, .pointer (some ⟨b40, 0, none⟩)), (5, .pointer (some ⟨b41, 0, none⟩)), (8, .pointer (some ⟨g43, 0, none⟩)), (22, .agg #[.int .i64 m0_0, .int .i64 m0_1]), (26, .agg #[.int .i64 m0_0, .int .i64 m0_1])]) (by kernel_rfl) ?_
      refine t_end ?_
      exact ⟨hg_2ff g43, rfl⟩
    · show T _ _ _ _ _ _ _ _
      refine t_a (.new rfl rfl) fun g42 fg42 sg42 => ?_
      refine t_keep [0, 1, 4, 5, 7, 8, 22, 25] (σ' := [(0, .slice (some ⟨B0, 0, none⟩) 1 1), (1, .int .i64 w1), (4, .pointer (some ⟨b40, 0, none⟩)), (5, .pointer (some ⟨b41, 0, none⟩)), (7, .pointer (some ⟨g42, 0, none⟩)), (8, .pointer (some ⟨g43, 0, none⟩)), (22, .agg #[.int .i64 m0_0, .int .i64 m0_1]), (25, .pointer (some ⟨B0, 0, none⟩))]) (by kernel_rfl) ?_
      refine t_vs (H' := ([⟨g43, [.int .i64 0, .int .i64 0], 2⟩, ⟨g42, [.int .i64 0, .int .i64 0], 2⟩, ⟨b41, [.int .i64 0, .int .i64 0], 2⟩, ⟨b40, [.int .i64 0, .int .i64 0], 2⟩, ⟨B0, [.int .i64 m0_0, .int .i64 m0_1, .int .i64 m0_2, .int .i64 m0_3], 4⟩] : List Own)) (S' := S) (VS.sel [1, 0, 0, 0, 0] (by kernel_rfl)) ?_
      refine t_end ?_
      exact ⟨hg_37f g43 g42, rfl⟩
  have hg_1f7 : ∀ (g42 : Nat), G [true, true, true, false, true, true, true, true, true, false, false, false] [(0, .slice (some ⟨B0, 0, none⟩) 1 1), (1, .int .i64 w1), (4, .pointer (some ⟨b40, 0, none⟩)), (5, .pointer (some ⟨b41, 0, none⟩)), (7, .pointer (some ⟨g42, 0, none⟩)), (21, .pointer (some ⟨B0, 0, none⟩)), (26, .agg #[.int .i64 m0_0, .int .i64 m0_1])] ([⟨g42, [.int .i64 0, .int .i64 0], 2⟩, ⟨b41, [.int .i64 0, .int .i64 0], 2⟩, ⟨b40, [.int .i64 0, .int .i64 0], 2⟩, ⟨B0, [.int .i64 m0_0, .int .i64 m0_1, .int .i64 m0_2, .int .i64 m0_3], 4⟩] : List Own) := by
    intro g42
    refine hstep [3, 9] _ _ _ (by kernel_rfl) (List.cons_ne_nil _ _) ⟨?_, ?_, trivial⟩
    · show T _ _ _ _ _ _ _ _
      refine t_v (.ldn rfl rfl rfl (.at 3 rfl rfl)) ?_
      refine t_keep [0, 1, 4, 5, 7, 22, 26] (σ' := [(0, .slice (some ⟨B0, 0, none⟩) 1 1), (1, .int .i64 w1), (4, .pointer (some ⟨b40, 0, none⟩)), (5, .pointer (some ⟨b41, 0, none⟩)), (7, .pointer (some ⟨g42, 0, none⟩)), (22, .agg #[.int .i64 m0_0, .int .i64 m0_1]), (26, .agg #[.int .i64 m0_0, .int .i64 m0_1])]) (by kernel_rfl) ?_
      refine t_end ?_
      exact ⟨hg_1ff g42, rfl⟩
    · show T _ _ _ _ _ _ _ _
      refine t_a (.new rfl rfl) fun g43 fg43 sg43 => ?_
      refine t_keep [0, 1, 4, 5, 7, 8, 21, 26] (σ' := [(0, .slice (some ⟨B0, 0, none⟩) 1 1), (1, .int .i64 w1), (4, .pointer (some ⟨b40, 0, none⟩)), (5, .pointer (some ⟨b41, 0, none⟩)), (7, .pointer (some ⟨g42, 0, none⟩)), (8, .pointer (some ⟨g43, 0, none⟩)), (21, .pointer (some ⟨B0, 0, none⟩)), (26, .agg #[.int .i64 m0_0, .int .i64 m0_1])]) (by kernel_rfl) ?_
      refine t_end ?_
      exact ⟨hg_3f7 g43 g42, rfl⟩
  have hg_2f7 : ∀ (g43 : Nat), G [true, true, true, false, true, true, true, true, false, true, false, false] [(0, .slice (some ⟨B0, 0, none⟩) 1 1), (1, .int .i64 w1), (4, .pointer (some ⟨b40, 0, none⟩)), (5, .pointer (some ⟨b41, 0, none⟩)), (8, .pointer (some ⟨g43, 0, none⟩)), (21, .pointer (some ⟨B0, 0, none⟩)), (26, .agg #[.int .i64 m0_0, .int .i64 m0_1])] ([⟨g43, [.int .i64 0, .int .i64 0], 2⟩, ⟨b41, [.int .i64 0, .int .i64 0], 2⟩, ⟨b40, [.int .i64 0, .int .i64 0], 2⟩, ⟨B0, [.int .i64 m0_0, .int .i64 m0_1, .int .i64 m0_2, .int .i64 m0_3], 4⟩] : List Own) := by
    intro g43
    refine hstep [3, 8] _ _ _ (by kernel_rfl) (List.cons_ne_nil _ _) ⟨?_, ?_, trivial⟩
    · show T _ _ _ _ _ _ _ _
      refine t_v (.ldn rfl rfl rfl (.at 3 rfl rfl)) ?_
      refine t_keep [0, 1, 4, 5, 8, 22, 26] (σ' := [(0, .slice (some ⟨B0, 0, none⟩) 1 1), (1, .int .i64 w1), (4, .pointer (some ⟨b40, 0, none⟩)), (5, .pointer (some ⟨b41, 0, none⟩)), (8, .pointer (some ⟨g43, 0, none⟩)), (22, .agg #[.int .i64 m0_0, .int .i64 m0_1]), (26, .agg #[.int .i64 m0_0, .int .i64 m0_1])]) (by kernel_rfl) ?_
      refine t_end ?_
      exact ⟨hg_2ff g43, rfl⟩
    · show T _ _ _ _ _ _ _ _
      refine t_a (.new rfl rfl) fun g42 fg42 sg42 => ?_
      refine t_keep [0, 1, 4, 5, 7, 8, 21, 26] (σ' := [(0, .slice (some ⟨B0, 0, none⟩) 1 1), (1, .int .i64 w1), (4, .pointer (some ⟨b40, 0, none⟩)), (5, .pointer (some ⟨b41, 0, none⟩)), (7, .pointer (some ⟨g42, 0, none⟩)), (8, .pointer (some ⟨g43, 0, none⟩)), (21, .pointer (some ⟨B0, 0, none⟩)), (26, .agg #[.int .i64 m0_0, .int .i64 m0_1])]) (by kernel_rfl) ?_
      refine t_vs (H' := ([⟨g43, [.int .i64 0, .int .i64 0], 2⟩, ⟨g42, [.int .i64 0, .int .i64 0], 2⟩, ⟨b41, [.int .i64 0, .int .i64 0], 2⟩, ⟨b40, [.int .i64 0, .int .i64 0], 2⟩, ⟨B0, [.int .i64 m0_0, .int .i64 m0_1, .int .i64 m0_2, .int .i64 m0_3], 4⟩] : List Own)) (S' := S) (VS.sel [1, 0, 0, 0, 0] (by kernel_rfl)) ?_
      refine t_end ?_
      exact ⟨hg_3f7 g43 g42, rfl⟩
  have hg_377 : ∀ (g43 : Nat) (g42 : Nat), G [true, true, true, false, true, true, true, false, true, true, false, false] [(0, .slice (some ⟨B0, 0, none⟩) 1 1), (1, .int .i64 w1), (4, .pointer (some ⟨b40, 0, none⟩)), (5, .pointer (some ⟨b41, 0, none⟩)), (7, .pointer (some ⟨g42, 0, none⟩)), (8, .pointer (some ⟨g43, 0, none⟩)), (21, .pointer (some ⟨B0, 0, none⟩)), (25, .pointer (some ⟨B0, 0, none⟩))] ([⟨g43, [.int .i64 0, .int .i64 0], 2⟩, ⟨g42, [.int .i64 0, .int .i64 0], 2⟩, ⟨b41, [.int .i64 0, .int .i64 0], 2⟩, ⟨b40, [.int .i64 0, .int .i64 0], 2⟩, ⟨B0, [.int .i64 m0_0, .int .i64 m0_1, .int .i64 m0_2, .int .i64 m0_3], 4⟩] : List Own) := by
    intro g43 g42
    refine hstep [3, 7] _ _ _ (by kernel_rfl) (List.cons_ne_nil _ _) ⟨?_, ?_, trivial⟩
    · show T _ _ _ _ _ _ _ _
      refine t_v (.ldn rfl rfl rfl (.at 4 rfl rfl)) ?_
      refine t_keep [0, 1, 4, 5, 7, 8, 22, 25] (σ' := [(0, .slice (some ⟨B0, 0, none⟩) 1 1), (1, .int .i64 w1), (4, .pointer (some ⟨b40, 0, none⟩)), (5, .pointer (some ⟨b41, 0, none⟩)), (7, .pointer (some ⟨g42, 0, none⟩)), (8, .pointer (some ⟨g43, 0, none⟩)), (22, .agg #[.int .i64 m0_0, .int .i64 m0_1]), (25, .pointer (some ⟨B0, 0, none⟩))]) (by kernel_rfl) ?_
      refine t_end ?_
      exact ⟨hg_37f g43 g42, rfl⟩
    · show T _ _ _ _ _ _ _ _
      refine t_v (.ldn rfl rfl rfl (.at 4 rfl rfl)) ?_
      refine t_keep [0, 1, 4, 5, 7, 8, 21, 26] (σ' := [(0, .slice (some ⟨B0, 0, none⟩) 1 1), (1, .int .i64 w1), (4, .pointer (some ⟨b40, 0, none⟩)), (5, .pointer (some ⟨b41, 0, none⟩)), (7, .pointer (some ⟨g42, 0, none⟩)), (8, .pointer (some ⟨g43, 0, none⟩)), (21, .pointer (some ⟨B0, 0, none⟩)), (26, .agg #[.int .i64 m0_0, .int .i64 m0_1])]) (by kernel_rfl) ?_
      refine t_end ?_
      exact ⟨hg_3f7 g43 g42, rfl⟩
  have hg_f7 : G [true, true, true, false, true, true, true, true, false, false, false, false] [(0, .slice (some ⟨B0, 0, none⟩) 1 1), (1, .int .i64 w1), (4, .pointer (some ⟨b40, 0, none⟩)), (5, .pointer (some ⟨b41, 0, none⟩)), (21, .pointer (some ⟨B0, 0, none⟩)), (26, .agg #[.int .i64 m0_0, .int .i64 m0_1])] ([⟨b41, [.int .i64 0, .int .i64 0], 2⟩, ⟨b40, [.int .i64 0, .int .i64 0], 2⟩, ⟨B0, [.int .i64 m0_0, .int .i64 m0_1, .int .i64 m0_2, .int .i64 m0_3], 4⟩] : List Own) := by
    refine hstep [3, 8, 9] _ _ _ (by kernel_rfl) (List.cons_ne_nil _ _) ⟨?_, ?_, ?_, trivial⟩
    · show T _ _ _ _ _ _ _ _
      refine t_v (.ldn rfl rfl rfl (.at 2 rfl rfl)) ?_
      refine t_keep [0, 1, 4, 5, 22, 26] (σ' := [(0, .slice (some ⟨B0, 0, none⟩) 1 1), (1, .int .i64 w1), (4, .pointer (some ⟨b40, 0, none⟩)), (5, .pointer (some ⟨b41, 0, none⟩)), (22, .agg #[.int .i64 m0_0, .int .i64 m0_1]), (26, .agg #[.int .i64 m0_0, .int .i64 m0_1])]) (by kernel_rfl) ?_
      refine t_end ?_
      exact ⟨hg_ff, rfl⟩
    · show T _ _ _ _ _ _ _ _
      refine t_a (.new rfl rfl) fun g42 fg42 sg42 => ?_
      refine t_keep [0, 1, 4, 5, 7, 21, 26] (σ' := [(0, .slice (some ⟨B0, 0, none⟩) 1 1), (1, .int .i64 w1), (4, .pointer (some ⟨b40, 0, none⟩)), (5, .pointer (some ⟨b41, 0, none⟩)), (7, .pointer (some ⟨g42, 0, none⟩)), (21, .pointer (some ⟨B0, 0, none⟩)), (26, .agg #[.int .i64 m0_0, .int .i64 m0_1])]) (by kernel_rfl) ?_
      refine t_end ?_
      exact ⟨hg_1f7 g42, rfl⟩
    · show T _ _ _ _ _ _ _ _
      refine t_a (.new rfl rfl) fun g43 fg43 sg43 => ?_
      refine t_keep [0, 1, 4, 5, 8, 21, 26] (σ' := [(0, .slice (some ⟨B0, 0, none⟩) 1 1), (1, .int .i64 w1), (4, .pointer (some ⟨b40, 0, none⟩)), (5, .pointer (some ⟨b41, 0, none⟩)), (8, .pointer (some ⟨g43, 0, none⟩)), (21, .pointer (some ⟨B0, 0, none⟩)), (26, .agg #[.int .i64 m0_0, .int .i64 m0_1])]) (by kernel_rfl) ?_
      refine t_end ?_
      exact ⟨hg_2f7 g43, rfl⟩
  have hg_177 : ∀ (g42 : Nat), G [true, true, true, false, true, true, true, false, true, false, false, false] [(0, .slice (some ⟨B0, 0, none⟩) 1 1), (1, .int .i64 w1), (4, .pointer (some ⟨b40, 0, none⟩)), (5, .pointer (some ⟨b41, 0, none⟩)), (7, .pointer (some ⟨g42, 0, none⟩)), (21, .pointer (some ⟨B0, 0, none⟩)), (25, .pointer (some ⟨B0, 0, none⟩))] ([⟨g42, [.int .i64 0, .int .i64 0], 2⟩, ⟨b41, [.int .i64 0, .int .i64 0], 2⟩, ⟨b40, [.int .i64 0, .int .i64 0], 2⟩, ⟨B0, [.int .i64 m0_0, .int .i64 m0_1, .int .i64 m0_2, .int .i64 m0_3], 4⟩] : List Own) := by
    intro g42
    refine hstep [3, 7, 9] _ _ _ (by kernel_rfl) (List.cons_ne_nil _ _) ⟨?_, ?_, ?_, trivial⟩
    · show T _ _ _ _ _ _ _ _
      refine t_v (.ldn rfl rfl rfl (.at 3 rfl rfl)) ?_
      refine t_keep [0, 1, 4, 5, 7, 22, 25] (σ' := [(0, .slice (some ⟨B0, 0, none⟩) 1 1), (1, .int .i64 w1), (4, .pointer (some ⟨b40, 0, none⟩)), (5, .pointer (some ⟨b41, 0, none⟩)), (7, .pointer (some ⟨g42, 0, none⟩)), (22, .agg #[.int .i64 m0_0, .int .i64 m0_1]), (25, .pointer (some ⟨B0, 0, none⟩))]) (by kernel_rfl) ?_
      refine t_end ?_
      exact ⟨hg_17f g42, rfl⟩
    · show T _ _ _ _ _ _ _ _
      refine t_v (.ldn rfl rfl rfl (.at 3 rfl rfl)) ?_
      refine t_keep [0, 1, 4, 5, 7, 21, 26] (σ' := [(0, .slice (some ⟨B0, 0, none⟩) 1 1), (1, .int .i64 w1), (4, .pointer (some ⟨b40, 0, none⟩)), (5, .pointer (some ⟨b41, 0, none⟩)), (7, .pointer (some ⟨g42, 0, none⟩)), (21, .pointer (some ⟨B0, 0, none⟩)), (26, .agg #[.int .i64 m0_0, .int .i64 m0_1])]) (by kernel_rfl) ?_
      refine t_end ?_
      exact ⟨hg_1f7 g42, rfl⟩
    · show T _ _ _ _ _ _ _ _
      refine t_a (.new rfl rfl) fun g43 fg43 sg43 => ?_
      refine t_keep [0, 1, 4, 5, 7, 8, 21, 25] (σ' := [(0, .slice (some ⟨B0, 0, none⟩) 1 1), (1, .int .i64 w1), (4, .pointer (some ⟨b40, 0, none⟩)), (5, .pointer (some ⟨b41, 0, none⟩)), (7, .pointer (some ⟨g42, 0, none⟩)), (8, .pointer (some ⟨g43, 0, none⟩)), (21, .pointer (some ⟨B0, 0, none⟩)), (25, .pointer (some ⟨B0, 0, none⟩))]) (by kernel_rfl) ?_
      refine t_end ?_
      exact ⟨hg_377 g43 g42, rfl⟩
  have hg_277 : ∀ (g43 : Nat), G [true, true, true, false, true, true, true, false, false, true, false, false] [(0, .slice (some ⟨B0, 0, none⟩) 1 1), (1, .int .i64 w1), (4, .pointer (some ⟨b40, 0, none⟩)), (5, .pointer (some ⟨b41, 0, none⟩)), (8, .pointer (some ⟨g43, 0, none⟩)), (21, .pointer (some ⟨B0, 0, none⟩)), (25, .pointer (some ⟨B0, 0, none⟩))] ([⟨g43, [.int .i64 0, .int .i64 0], 2⟩, ⟨b41, [.int .i64 0, .int .i64 0], 2⟩, ⟨b40, [.int .i64 0, .int .i64 0], 2⟩, ⟨B0, [.int .i64 m0_0, .int .i64 m0_1, .int .i64 m0_2, .int .i64 m0_3], 4⟩] : List Own) := by
    intro g43
    refine hstep [3, 7, 8] _ _ _ (by kernel_rfl) (List.cons_ne_nil _ _) ⟨?_, ?_, ?_, trivial⟩
    · show T _ _ _ _ _ _ _ _
      refine t_v (.ldn rfl rfl rfl (.at 3 rfl rfl)) ?_
      refine t_keep [0, 1, 4, 5, 8, 22, 25] (σ' := [(0, .slice (some ⟨B0, 0, none⟩) 1 1), (1, .int .i64 w1), (4, .pointer (some ⟨b40, 0, none⟩)), (5, .pointer (some ⟨b41, 0, none⟩)), (8, .pointer (some ⟨g43, 0, none⟩)), (22, .agg #[.int .i64 m0_0, .int .i64 m0_1]), (25, .pointer (some ⟨B0, 0, none⟩))]) (by kernel_rfl) ?_
      refine t_end ?_
      exact ⟨hg_27f g43, rfl⟩
    · show T _ _ _ _ _ _ _ _
      refine t_v (.ldn rfl rfl rfl (.at 3 rfl rfl)) ?_
      refine t_keep [0, 1, 4, 5, 8, 21, 26] (σ' := [(0, .slice (some ⟨B0, 0, none⟩) 1 1), (1, .int .i64 w1), (4, .pointer (some ⟨b40, 0, none⟩)), (5, .pointer (some ⟨b41, 0, none⟩)), (8, .pointer (some ⟨g43, 0, none⟩)), (21, .pointer (some ⟨B0, 0, none⟩)), (26, .agg #[.int .i64 m0_0, .int .i64 m0_1])]) (by kernel_rfl) ?_
      refine t_end ?_
      exact ⟨hg_2f7 g43, rfl⟩
    · show T _ _ _ _ _ _ _ _
      refine t_a (.new rfl rfl) fun g42 fg42 sg42 => ?_
      refine t_keep [0, 1, 4, 5, 7, 8, 21, 25] (σ' := [(0, .slice (some ⟨B0, 0, none⟩) 1 1), (1, .int .i64 w1), (4, .pointer (some ⟨b40, 0, none⟩)), (5, .pointer (some ⟨b41, 0, none⟩)), (7, .pointer (some ⟨g42, 0, none⟩)), (8, .pointer (some ⟨g43, 0, none⟩)), (21, .pointer (some ⟨B0, 0, none⟩)), (25, .pointer (some ⟨B0, 0, none⟩))]) (by kernel_rfl) ?_
      refine t_vs (H' := ([⟨g43, [.int .i64 0, .int .i64 0], 2⟩, ⟨g42, [.int .i64 0, .int .i64 0], 2⟩, ⟨b41, [.int .i64 0, .int .i64 0], 2⟩, ⟨b40, [.int .i64 0, .int .i64 0], 2⟩, ⟨B0, [.int .i64 m0_0, .int .i64 m0_1, .int .i64 m0_2, .int .i64 m0_3], 4⟩] : List Own)) (S' := S) (VS.sel [1, 0, 0, 0, 0] (by kernel_rfl)) ?_
      refine t_end ?_
      exact ⟨hg_377 g43 g42, rfl⟩
  have hg_7f : G [true, true, true, true, true, true, true, false, false, false, false, false] [(0, .slice (some ⟨B0, 0, none⟩) 1 1), (1, .int .i64 w1), (4, .pointer (some ⟨b40, 0, none⟩)), (5, .pointer (some ⟨b41, 0, none⟩)), (22, .agg #[.int .i64 m0_0, .int .i64 m0_1]), (25, .pointer (some ⟨B0, 0, none⟩))] ([⟨b41, [.int .i64 0, .int .i64 0], 2⟩, ⟨b40, [.int .i64 0, .int .i64 0], 2⟩, ⟨B0, [.int .i64 m0_0, .int .i64 m0_1, .int .i64 m0_2, .int .i64 m0_3], 4⟩] : List Own) := by
    refine hstep [7, 8, 9] _ _ _ (by kernel_rfl) (List.cons_ne_nil _ _) ⟨?_, ?_, ?_, trivial⟩
    · show T _ _ _ _ _ _ _ _
      refine t_v (.ldn rfl rfl rfl (.at 2 rfl rfl)) ?_
      refine t_keep [0, 1, 4, 5, 22, 26] (σ' := [(0, .slice (some ⟨B0, 0, none⟩) 1 1), (1, .int .i64 w1), (4, .pointer (some ⟨b40, 0, none⟩)), (5, .pointer (some ⟨b41, 0, none⟩)), (22, .agg #[.int .i64 m0_0, .int .i64 m0_1]), (26, .agg #[.int .i64 m0_0, .int .i64 m0_1])]) (by kernel_rfl) ?_
      refine t_end ?_
      exact ⟨hg_ff, rfl⟩
    · show T _ _ _ _ _ _ _ _
      refine t_a (.new rfl rfl) fun g42 fg42 sg42 => ?_
      refine t_keep [0, 1, 4, 5, 7, 22, 25] (σ' := [(0, .slice (some ⟨B0, 0, none⟩) 1 1), (1, .int .i64 w1), (4, .pointer (some ⟨b40, 0, none⟩)), (5, .pointer (some ⟨b41, 0, none⟩)), (7, .pointer (some ⟨g42, 0, none⟩)), (22, .agg #[.int .i64 m0_0, .int .i64 m0_1]), (25, .pointer (some ⟨B0, 0, none⟩))]) (by kernel_rfl) ?_
      refine t_end ?_
      exact ⟨hg_17f g42, rfl⟩
    · show T _ _ _ _ _ _ _ _
      refine t_a (.new rfl rfl) fun g43 fg43 sg43 => ?_
      refine t_keep [0, 1, 4, 5, 8, 22, 25] (σ' := [(0, .slice (some ⟨B0, 0, none⟩) 1 1), (1, .int .i64 w1), (4, .pointer (some ⟨b40, 0, none⟩)), (5, .pointer (some ⟨b41, 0, none⟩)), (8, .pointer (some ⟨g43, 0, none⟩)), (22, .agg #[.int .i64 m0_0, .int .i64 m0_1]), (25, .pointer (some ⟨B0, 0, none⟩))]) (by kernel_rfl) ?_
      refine t_end ?_
      exact ⟨hg_27f g43, rfl⟩
  have hg_77 : G [true, true, true, false, true, true, true, false, false, false, false, false] [(0, .slice (some ⟨B0, 0, none⟩) 1 1), (1, .int .i64 w1), (4, .pointer (some ⟨b40, 0, none⟩)), (5, .pointer (some ⟨b41, 0, none⟩)), (21, .pointer (some ⟨B0, 0, none⟩)), (25, .pointer (some ⟨B0, 0, none⟩))] ([⟨b41, [.int .i64 0, .int .i64 0], 2⟩, ⟨b40, [.int .i64 0, .int .i64 0], 2⟩, ⟨B0, [.int .i64 m0_0, .int .i64 m0_1, .int .i64 m0_2, .int .i64 m0_3], 4⟩] : List Own) := by
    refine hstep [3, 7, 8, 9] _ _ _ (by kernel_rfl) (List.cons_ne_nil _ _) ⟨?_, ?_, ?_, ?_, trivial⟩
    · show T _ _ _ _ _ _ _ _
      refine t_v (.ldn rfl rfl rfl (.at 2 rfl rfl)) ?_
      refine t_keep [0, 1, 4, 5, 22, 25] (σ' := [(0, .slice (some ⟨B0, 0, none⟩) 1 1), (1, .int .i64 w1), (4, .pointer (some ⟨b40, 0, none⟩)), (5, .pointer (some ⟨b41, 0, none⟩)), (22, .agg #[.int .i64 m0_0, .int .i64 m0_1]), (25, .pointer (some ⟨B0, 0, none⟩))]) (by kernel_rfl) ?_
      refine t_end ?_
      exact ⟨hg_7f, rfl⟩
    · show T _ _ _ _ _ _ _ _
      refine t_v (.ldn rfl rfl rfl (.at 2 rfl rfl)) ?_
      refine t_keep [0, 1, 4, 5, 21, 26] (σ' := [(0, .slice (some ⟨B0, 0, none⟩) 1 1), (1, .int .i64 w1), (4, .pointer (some ⟨b40, 0, none⟩)), (5, .pointer (some ⟨b41, 0, none⟩)), (21, .pointer (some ⟨B0, 0, none⟩)), (26, .agg #[.int .i64 m0_0, .int .i64 m0_1])]) (by kernel_rfl) ?_
      refine t_end ?_
      exact ⟨hg_f7, rfl⟩
    · show T _ _ _ _ _ _ _ _
      refine t_a (.new rfl rfl) fun g42 fg42 sg42 => ?_
      refine t_keep [0, 1, 4, 5, 7, 21, 25] (σ' := [(0, .slice (some ⟨B0, 0, none⟩) 1 1), (1, .int .i64 w1), (4, .pointer (some ⟨b40, 0, none⟩)), (5, .pointer (some ⟨b41, 0, none⟩)), (7, .pointer (some ⟨g42, 0, none⟩)), (21, .pointer (some ⟨B0, 0, none⟩)), (25, .pointer (some ⟨B0, 0, none⟩))]) (by kernel_rfl) ?_
      refine t_end ?_
      exact ⟨hg_177 g42, rfl⟩
    · show T _ _ _ _ _ _ _ _
      refine t_a (.new rfl rfl) fun g43 fg43 sg43 => ?_
      refine t_keep [0, 1, 4, 5, 8, 21, 25] (σ' := [(0, .slice (some ⟨B0, 0, none⟩) 1 1), (1, .int .i64 w1), (4, .pointer (some ⟨b40, 0, none⟩)), (5, .pointer (some ⟨b41, 0, none⟩)), (8, .pointer (some ⟨g43, 0, none⟩)), (21, .pointer (some ⟨B0, 0, none⟩)), (25, .pointer (some ⟨B0, 0, none⟩))]) (by kernel_rfl) ?_
      refine t_end ?_
      exact ⟨hg_277 g43, rfl⟩
  have hg_37 : G [true, true, true, false, true, true, false, false, false, false, false, false] [(0, .slice (some ⟨B0, 0, none⟩) 1 1), (1, .int .i64 w1), (4, .pointer (some ⟨b40, 0, none⟩)), (5, .pointer (some ⟨b41, 0, none⟩)), (21, .pointer (some ⟨B0, 0, none⟩)), (24, .pointer (some ⟨B0, 0, none⟩))] ([⟨b41, [.int .i64 0, .int .i64 0], 2⟩, ⟨b40, [.int .i64 0, .int .i64 0], 2⟩, ⟨B0, [.int .i64 m0_0, .int .i64 m0_1, .int .i64 m0_2, .int .i64 m0_3], 4⟩] : List Own) := by
    exact hqf 6 [0, 1, 4, 5, 21, 25] _ _ _ [(0, .slice (some ⟨B0, 0, none⟩) 1 1), (1, .int .i64 w1), (4, .pointer (some ⟨b40, 0, none⟩)), (5, .pointer (some ⟨b41, 0, none⟩)), (21, .pointer (some ⟨B0, 0, none⟩)), (25, .pointer (some ⟨B0, 0, none⟩))] (by kernel_rfl) (by kernel_rfl) hg_77
  have hg_17 : G [true, true, true, false, true, false, false, false, false, false, false, false] [(0, .slice (some ⟨B0, 0, none⟩) 1 1), (1, .int .i64 w1), (4, .pointer (some ⟨b40, 0, none⟩)), (5, .pointer (some ⟨b41, 0, none⟩)), (21, .pointer (some ⟨B0, 0, none⟩)), (23, .slice (some ⟨B0, 0, none⟩) 1 1)] ([⟨b41, [.int .i64 0, .int .i64 0], 2⟩, ⟨b40, [.int .i64 0, .int .i64 0], 2⟩, ⟨B0, [.int .i64 m0_0, .int .i64 m0_1, .int .i64 m0_2, .int .i64 m0_3], 4⟩] : List Own) := by
    exact hqf 5 [0, 1, 4, 5, 21, 24] _ _ _ [(0, .slice (some ⟨B0, 0, none⟩) 1 1), (1, .int .i64 w1), (4, .pointer (some ⟨b40, 0, none⟩)), (5, .pointer (some ⟨b41, 0, none⟩)), (21, .pointer (some ⟨B0, 0, none⟩)), (24, .pointer (some ⟨B0, 0, none⟩))] (by kernel_rfl) (by kernel_rfl) hg_37
  have hg_7 : G [true, true, true, false, false, false, false, false, false, false, false, false] [(0, .slice (some ⟨B0, 0, none⟩) 1 1), (1, .int .i64 w1), (4, .pointer (some ⟨b40, 0, none⟩)), (5, .pointer (some ⟨b41, 0, none⟩)), (21, .pointer (some ⟨B0, 0, none⟩))] ([⟨b41, [.int .i64 0, .int .i64 0], 2⟩, ⟨b40, [.int .i64 0, .int .i64 0], 2⟩, ⟨B0, [.int .i64 m0_0, .int .i64 m0_1, .int .i64 m0_2, .int .i64 m0_3], 4⟩] : List Own) := by
    exact hqf 4 [0, 1, 4, 5, 21, 23] _ _ _ [(0, .slice (some ⟨B0, 0, none⟩) 1 1), (1, .int .i64 w1), (4, .pointer (some ⟨b40, 0, none⟩)), (5, .pointer (some ⟨b41, 0, none⟩)), (21, .pointer (some ⟨B0, 0, none⟩)), (23, .slice (some ⟨B0, 0, none⟩) 1 1)] (by kernel_rfl) (by kernel_rfl) hg_17
  have hg_3 : G [true, true, false, false, false, false, false, false, false, false, false, false] [(0, .slice (some ⟨B0, 0, none⟩) 1 1), (1, .int .i64 w1), (4, .pointer (some ⟨b40, 0, none⟩)), (5, .pointer (some ⟨b41, 0, none⟩)), (20, .pointer (some ⟨B0, 0, none⟩))] ([⟨b41, [.int .i64 0, .int .i64 0], 2⟩, ⟨b40, [.int .i64 0, .int .i64 0], 2⟩, ⟨B0, [.int .i64 m0_0, .int .i64 m0_1, .int .i64 m0_2, .int .i64 m0_3], 4⟩] : List Own) := by
    exact hqf 2 [0, 1, 4, 5, 21] _ _ _ [(0, .slice (some ⟨B0, 0, none⟩) 1 1), (1, .int .i64 w1), (4, .pointer (some ⟨b40, 0, none⟩)), (5, .pointer (some ⟨b41, 0, none⟩)), (21, .pointer (some ⟨B0, 0, none⟩))] (by kernel_rfl) (by kernel_rfl) hg_7
  have hg_1 : G [true, false, false, false, false, false, false, false, false, false, false, false] [(0, .slice (some ⟨B0, 0, none⟩) 1 1), (1, .int .i64 w1), (4, .pointer (some ⟨b40, 0, none⟩)), (5, .pointer (some ⟨b41, 0, none⟩)), (19, .slice (some ⟨B0, 0, none⟩) 1 1)] ([⟨b41, [.int .i64 0, .int .i64 0], 2⟩, ⟨b40, [.int .i64 0, .int .i64 0], 2⟩, ⟨B0, [.int .i64 m0_0, .int .i64 m0_1, .int .i64 m0_2, .int .i64 m0_3], 4⟩] : List Own) := by
    exact hqf 1 [0, 1, 4, 5, 20] _ _ _ [(0, .slice (some ⟨B0, 0, none⟩) 1 1), (1, .int .i64 w1), (4, .pointer (some ⟨b40, 0, none⟩)), (5, .pointer (some ⟨b41, 0, none⟩)), (20, .pointer (some ⟨B0, 0, none⟩))] (by kernel_rfl) (by kernel_rfl) hg_3
  have hg_0 : G [false, false, false, false, false, false, false, false, false, false, false, false] [(0, .slice (some ⟨B0, 0, none⟩) 1 1), (1, .int .i64 w1), (4, .pointer (some ⟨b40, 0, none⟩)), (5, .pointer (some ⟨b41, 0, none⟩))] ([⟨b41, [.int .i64 0, .int .i64 0], 2⟩, ⟨b40, [.int .i64 0, .int .i64 0], 2⟩, ⟨B0, [.int .i64 m0_0, .int .i64 m0_1, .int .i64 m0_2, .int .i64 m0_3], 4⟩] : List Own) := by
    exact hqf 0 [0, 1, 4, 5, 19] _ _ _ [(0, .slice (some ⟨B0, 0, none⟩) 1 1), (1, .int .i64 w1), (4, .pointer (some ⟨b40, 0, none⟩)), (5, .pointer (some ⟨b41, 0, none⟩)), (19, .slice (some ⟨B0, 0, none⟩) 1 1)] (by kernel_rfl) (by kernel_rfl) hg_1
  exact hg_0

/-- sweep.crossing -/
def c110 : C :=
  (.seq (.reg [⟨(some 6), .mv (.const (.slice none 0 0)), none⟩])
  (.seq (.reg [⟨(some 7), .mv (.const (.slice none 0 0)), none⟩])
  (.seq (.seq (.reg [⟨(some 13), .mv (.tmp 0), none⟩,
      ⟨(some 14), .lns (.tmp 13), none⟩,
      ⟨(some 15), .mv (.const (.int .i64 0)), none⟩])
   (.block 0 (.loop (.seq (.reg [⟨(some 16), .bin .lss (.tmp 15) (.tmp 14), none⟩])
     (.seq (.cond (.tmp 16)
       .skip
       (.exit 0))
     (.seq (.block 1 (.seq (.reg [⟨(some 17), .ixs 4 (.tmp 13) (.tmp 15), none⟩,
          ⟨(some 18), .ld (some 4) (.tmp 17), none⟩,
          ⟨(some 9), .new [(.int .i64 0), (.int .i64 0), (.int .i64 0), (.int .i64 0)], none⟩,
          ⟨none, .st 4 (.tmp 9) (.tmp 18), none⟩])
       (.seq (.reg [⟨(some 20), .ld (some 4) (.tmp 9), none⟩,
          ⟨(some 21), .bsl [(.int .i64 0), (.int .i64 0), (.int .i64 0), (.int .i64 0)] 1 [(0, 4, (.tmp 20))], none⟩,
          ⟨(some 22), .mv (.tmp 1), none⟩,
          ⟨(some 23), .call 22 [(.tmp 21), (.tmp 22)], none⟩,
          ⟨(some 19), .mv (.tmp 23), none⟩,
          ⟨(some 24), .xt 0 (.tmp 19), none⟩,
          ⟨(some 25), .xt 1 (.tmp 19), none⟩,
          ⟨(some 26), .xt 2 (.tmp 19), none⟩,
          ⟨(some 10), .new [(.int .i64 0), (.int .i64 0)], none⟩,
          ⟨(some 11), .new [(.int .i64 0), (.int .i64 0)], none⟩,
          ⟨none, .st 2 (.tmp 10) (.tmp 24), none⟩,
          ⟨none, .st 2 (.tmp 11) (.tmp 25), none⟩,
          ⟨(some 12), .mv (.tmp 26), none⟩])
       (.seq (.reg [⟨(some 27), .pad 1 (.tmp 10), none⟩,
          ⟨(some 28), .ld none (.tmp 27), none⟩,
          ⟨(some 29), .mv (.tmp 2), none⟩,
          ⟨(some 30), .bin .leq (.tmp 28) (.tmp 29), none⟩,
          ⟨(some 31), .mv (.tmp 30), none⟩,
          ⟨(some 32), .mv (.tmp 2), (some (31, true))⟩,
          ⟨(some 33), .pad 1 (.tmp 11), (some (31, true))⟩,
          ⟨(some 34), .ld none (.tmp 33), (some (31, true))⟩,
          ⟨(some 35), .bin .leq (.tmp 32) (.tmp 34), (some (31, true))⟩,
          ⟨(some 36), .pk (.tmp 31) (.tmp 35) (.const (.bool false)), none⟩])
       (.cond (.tmp 36)
        (.reg [⟨(some 37), .mv (.tmp 7), none⟩,
           ⟨(some 38), .ld (some 4) (.tmp 9), none⟩,
           ⟨(some 39), .bsl [(.int .i64 0), (.int .i64 0), (.int .i64 0), (.int .i64 0)] 1 [(0, 4, (.tmp 38))], none⟩,
           ⟨(some 40), .app 36 4 32 [(.int .i64 0), (.int .i64 0), (.int .i64 0), (.int .i64 0)] (.tmp 37) (.tmp 39), none⟩,
           ⟨(some 7), .mv (.tmp 40), none⟩])
        .skip)))))
     (.reg [⟨(some 41), .bin .add (.tmp 15) (.const (.int .i64 1)), none⟩,
       ⟨(some 15), .mv (.tmp 41), none⟩])))))))
  (.seq (.reg [⟨(some 42), .mv (.tmp 7), none⟩,
     ⟨(some 6), .mv (.tmp 42), none⟩])
  .ret))))
def sweep_crossing_v1.l0 : Nat → List (Int × Int × Int × Int) → Int → Int → Int → List (Int × Int × Int × Int) → Option (List (Int × Int × Int × Int))
  | 0, _, _, _, _, _ => none
  | k + 1, l0, wide1, y2, x21, y23 => if x21 < (l0.length : Int) then ((lgt l0 x21).bind fun (x25, x26, x27, x28) => ((stroke_Box_v1.f wide1 x25 x26 x27 x28).bind fun (t47, t48, t49, t50, t51) => (if t48 ≤ y2 then (if y2 ≤ t50 then ((lapp y23 ([(x25, x26, x27, x28)] : List (Int × Int × Int × Int))).bind fun y58 => (sweep_crossing_v1.l0 k l0 wide1 y2 (wr64 (x21 + 1)) y58)) else (sweep_crossing_v1.l0 k l0 wide1 y2 (wr64 (x21 + 1)) y23)) else (sweep_crossing_v1.l0 k l0 wide1 y2 (wr64 (x21 + 1)) y23)))) else (some y23)
def sweep_crossing_v1.f (k : Nat) (l0 : List (Int × Int × Int × Int)) (wide1 : Int) (y2 : Int) : Option (List (Int × Int × Int × Int)) := (sweep_crossing_v1.l0 k l0 wide1 y2 0 ([] : List (Int × Int × Int × Int)) : Option (List (Int × Int × Int × Int))).bind fun y66 => (some y66)
theorem sweep_crossing_v1.ok {S : Seal} {k : Nat} {l0 : List (Int × Int × Int × Int)} {wide1 : Int} {y2 : Int} {r0_ : List (Int × Int × Int × Int)}{a_l0 : Option Addr} {c_l0 : Nat} (h_l0 : SlE S E_i644 l0 a_l0) (e : sweep_crossing_v1.f k l0 wide1 y2 = some r0_) :
    Cal Try.prog 110 [.slice a_l0 l0.length c_l0, .int .i64 wide1, .int .i64 y2] [] S fun v H' S' => ∃ (N0_ : Option Nat) (nN0_ : Nat) , v = .slice (ad N0_) r0_.length (nN0_ / 4) ∧ H' = ([⟨N0_, encL E_i644 r0_, nN0_⟩] : List Own) ∧ S' = S := by
  unfold sweep_crossing_v1.f at e
  refine cal_of (c := c110) (N := 43) Try.func110 rfl rfl (by kernel_rfl) (rs := [.t 6]) (by kernel_rfl) (Nat.le_of_ble_eq_true rfl) ?_
  unfold c110
  refine w_seq ?_
  refine w_reg fun all => ?_
  refine t_qz 1 [0, 1, 2] (σ' := [(0, .slice a_l0 l0.length c_l0), (1, .int .i64 wide1), (2, .int .i64 y2)]) (by kernel_rfl) ?_
  refine t_end ?_
  show W _ _ _ _ _ _ _
  refine w_seq ?_
  refine w_reg fun all => ?_
  refine t_qz 1 [0, 1, 2, 7] (σ' := [(0, .slice a_l0 l0.length c_l0), (1, .int .i64 wide1), (2, .int .i64 y2), (7, .slice none 0 0)]) (by kernel_rfl) ?_
  refine t_end ?_
  show W _ _ _ _ _ _ _
  obtain ⟨y66, e19, e⟩ := bind_of e
  refine w_cut [7] (fun σ_ H_ S_ => ∃ (a65 : Option Nat) (na65 : Nat), [(7, .slice (ad a65) y66.length (na65 / 4))] = σ_ ∧ ([⟨a65, encL E_i644 y66, na65⟩] : List Own) = H_ ∧ S = S_) ?_ ?_
  · show W _ _ _ _ _ _ _
    refine w_seq ?_
    refine w_reg fun all => ?_
    refine t_qz 3 [1, 2, 7, 13, 14, 15] (σ' := [(1, .int .i64 wide1), (2, .int .i64 y2), (7, .slice none 0 0), (13, .slice a_l0 l0.length c_l0), (14, .int .i64 (l0.length : Int)), (15, .int .i64 0)]) (by kernel_rfl) ?_
    refine t_end ?_
    show W _ _ _ _ _ _ _
    refine w_block ?_
    refine w_vs VS.vac ?_
    refine w_kp [1, 2, 7, 13, 14, 15] (σ' := [(1, .int .i64 wide1), (2, .int .i64 y2), (7, .slice (ad none) ([] : List (Int × Int × Int × Int)).length (0 / 4)), (13, .slice a_l0 l0.length c_l0), (14, .int .i64 (l0.length : Int)), (15, .int .i64 0)]) (by kernel_rfl) ?_
    refine w_loop (fun n_ σ_ H_ S_ => ∃ (x21 : Int) (y23 : List (Int × Int × Int × Int)), ∃ (a22 : Option Nat) (na22 : Nat), [(1, .int .i64 wide1), (2, .int .i64 y2), (7, .slice (ad a22) y23.length (na22 / 4)), (13, .slice a_l0 l0.length c_l0), (14, .int .i64 (l0.length : Int)), (15, .int .i64 x21)] = σ_ ∧ ([⟨a22, encL E_i644 y23, na22⟩] : List Own) = H_ ∧ S = S_ ∧ sweep_crossing_v1.l0 n_ l0 wide1 y2 x21 y23 = some y66) _ ⟨0, ([] : List (Int × Int × Int × Int)), none, 0, rfl, rfl, rfl, e19⟩ ?_
    rintro n64 σ_ H_ S_ ⟨x21, y23, a22, na22, rfl, rfl, rfl, e19⟩
    cases n64 with
    | zero => rw [sweep_crossing_v1.l0.eq_1] at e19; cases e19
    | succ k_ =>
      rw [sweep_crossing_v1.l0.eq_2] at e19
      refine w_seq ?_
      refine w_reg fun all => ?_
      by_cases c24 : x21 < (l0.length : Int)
      · rw [if_pos c24] at e19
        have c24b : (decide (x21 < (l0.length : Int))) = true := decide_eq_true c24
        refine t_v (dv_quiet rfl (congrArg (fun t => some (Value.bool t)) c24b)) ?_
        refine t_keep [1, 2, 7, 13, 14, 15, 16] (σ' := [(1, .int .i64 wide1), (2, .int .i64 y2), (7, .slice (ad a22) y23.length (na22 / 4)), (13, .slice a_l0 l0.length c_l0), (14, .int .i64 (l0.length : Int)), (15, .int .i64 x21), (16, .bool true)]) (by kernel_rfl) ?_
        refine t_end ?_
        show W _ _ _ _ _ _ _
        refine w_seq ?_
        refine w_cond rfl (fun _ => ?_) (fun c_ => by cases c_)
        show W _ _ _ _ _ _ _
        refine w_skip ?_
        show W _ _ _ _ _ _ _
        refine w_seq ?_
        refine w_block ?_
        refine w_seq ?_
        refine w_reg fun all => ?_
        obtain ⟨⟨x25, x26, x27, x28⟩, hx29, e19⟩ := bind_of e19
        try dsimp only at e19
        obtain ⟨lb30, lo31, ll32, la33, lS34, lv35, lz36, lu37⟩ := sle_get (E := E_i644) h_l0 hx29
        refine t_v (.quiet rfl (ixs_sle rfl rfl la33 lz36 lu37)) ?_
        refine t_v (.ldn (vs := [.int .i64 x25, .int .i64 x26, .int .i64 x27, .int .i64 x28]) rfl rfl rfl (.sealed lS34 (subl_sub lv35 (by kernel_rfl)))) ?_
        refine t_a (.new rfl rfl) fun b38 fb38 sb38 => ?_
        refine t_sti 0 (cs := [.int .i64 x25, .int .i64 x26, .int .i64 x27, .int .i64 x28]) rfl rfl rfl rfl rfl rfl rfl rfl rfl ?_
        refine t_keep [1, 2, 7, 9, 13, 14, 15] (σ' := [(1, .int .i64 wide1), (2, .int .i64 y2), (7, .slice (ad a22) y23.length (na22 / 4)), (9, .pointer (some ⟨b38, 0, none⟩)), (13, .slice a_l0 l0.length c_l0), (14, .int .i64 (l0.length : Int)), (15, .int .i64 x21)]) (by kernel_rfl) ?_
        refine t_end ?_
        show W _ _ _ _ _ _ _
        refine w_seq ?_
        refine w_reg fun all => ?_
        refine t_v (.ldn rfl rfl rfl (.at 0 rfl rfl)) ?_
        refine t_a (.bsl rfl rfl rfl rfl) fun b39 fb39 sb39 => ?_
        obtain ⟨⟨t47, t48, t49, t50, t51⟩, h52, e19⟩ := bind_of e19
        try dsimp only at e19
        refine t_qz 1 [1, 2, 7, 9, 13, 14, 15, 21, 22] (σ' := [(1, .int .i64 wide1), (2, .int .i64 y2), (7, .slice (ad a22) y23.length (na22 / 4)), (9, .pointer (some ⟨b38, 0, none⟩)), (13, .slice a_l0 l0.length c_l0), (14, .int .i64 (l0.length : Int)), (15, .int .i64 x21), (21, .slice (some ⟨b39, 0, none⟩) 1 1), (22, .int .i64 wide1)]) (by kernel_rfl) ?_
        refine t_v (.callr (vs := [.slice (some ⟨b39, 0, none⟩) 1 1, .int .i64 wide1]) (A := ([⟨b39, [.int .i64 x25, .int .i64 x26, .int .i64 x27, .int .i64 x28], 4⟩] : List Own)) (F0 := ([⟨b38, [.int .i64 x25, .int .i64 x26, .int .i64 x27, .int .i64 x28], 4⟩, ⟨a22, encL E_i644 y23, na22⟩] : List Own)) rfl rfl (by kernel_rfl) (sel_perm (is := [0]) (by kernel_rfl)) (stroke_Box_v1.ok h52)) ?_
        refine t_qz 4 [1, 2, 7, 9, 13, 14, 15, 24, 25, 26] (σ' := [(1, .int .i64 wide1), (2, .int .i64 y2), (7, .slice (ad a22) y23.length (na22 / 4)), (9, .pointer (some ⟨b38, 0, none⟩)), (13, .slice a_l0 l0.length c_l0), (14, .int .i64 (l0.length : Int)), (15, .int .i64 x21), (24, .agg #[.int .i64 t47, .int .i64 t48]), (25, .agg #[.int .i64 t49, .int .i64 t50]), (26, .bool t51)]) (by kernel_rfl) ?_
        refine t_a (.new rfl rfl) fun b53 fb53 sb53 => ?_
        refine t_a (.new rfl rfl) fun b54 fb54 sb54 => ?_
        refine t_sti 1 (cs := [.int .i64 t47, .int .i64 t48]) rfl rfl rfl rfl rfl rfl rfl rfl rfl ?_
        refine t_sti 0 (cs := [.int .i64 t49, .int .i64 t50]) rfl rfl rfl rfl rfl rfl rfl rfl rfl ?_
        refine t_qz 1 [1, 2, 7, 9, 10, 11, 13, 14, 15] (σ' := [(1, .int .i64 wide1), (2, .int .i64 y2), (7, .slice (ad a22) y23.length (na22 / 4)), (9, .pointer (some ⟨b38, 0, none⟩)), (10, .pointer (some ⟨b53, 0, none⟩)), (11, .pointer (some ⟨b54, 0, none⟩)), (13, .slice a_l0 l0.length c_l0), (14, .int .i64 (l0.length : Int)), (15, .int .i64 x21)]) (by kernel_rfl) ?_
        refine t_end ?_
        show W _ _ _ _ _ _ _
        refine w_seq ?_
        refine w_reg fun all => ?_
        refine t_qz 1 [1, 2, 7, 9, 11, 13, 14, 15, 27] (σ' := [(1, .int .i64 wide1), (2, .int .i64 y2), (7, .slice (ad a22) y23.length (na22 / 4)), (9, .pointer (some ⟨b38, 0, none⟩)), (11, .pointer (some ⟨b54, 0, none⟩)), (13, .slice a_l0 l0.length c_l0), (14, .int .i64 (l0.length : Int)), (15, .int .i64 x21), (27, .pointer (some ⟨b53, 1, none⟩))]) (by kernel_rfl) ?_
        refine t_v (.ld1 rfl rfl rfl (.at 1 rfl rfl)) ?_
        by_cases c55 : t48 ≤ y2
        · rw [if_pos c55] at e19
          have c55b : (decide (t48 ≤ y2)) = true := decide_eq_true c55
          refine t_qz 1 [1, 2, 7, 9, 11, 13, 14, 15, 28, 29] (σ' := [(1, .int .i64 wide1), (2, .int .i64 y2), (7, .slice (ad a22) y23.length (na22 / 4)), (9, .pointer (some ⟨b38, 0, none⟩)), (11, .pointer (some ⟨b54, 0, none⟩)), (13, .slice a_l0 l0.length c_l0), (14, .int .i64 (l0.length : Int)), (15, .int .i64 x21), (28, .int .i64 t48), (29, .int .i64 y2)]) (by kernel_rfl) ?_
          refine t_v (dv_quiet rfl (congrArg (fun t => some (Value.bool t)) c55b)) ?_
          refine t_qz 3 [1, 2, 7, 9, 13, 14, 15, 31, 32, 33] (σ' := [(1, .int .i64 wide1), (2, .int .i64 y2), (7, .slice (ad a22) y23.length (na22 / 4)), (9, .pointer (some ⟨b38, 0, none⟩)), (13, .slice a_l0 l0.length c_l0), (14, .int .i64 (l0.length : Int)), (15, .int .i64 x21), (31, .bool true), (32, .int .i64 y2), (33, .pointer (some ⟨b54, 1, none⟩))]) (by kernel_rfl) ?_
          refine t_v (.ld1 rfl rfl rfl (.at 0 rfl rfl)) ?_
          by_cases c56 : y2 ≤ t50
          · rw [if_pos c56] at e19
            have c56b : (decide (y2 ≤ t50)) = true := decide_eq_true c56
            refine t_v (dv_quiet rfl (congrArg (fun t => some (Value.bool t)) c56b)) ?_
            refine t_qz 1 [1, 2, 7, 9, 13, 14, 15, 32, 33, 34, 35, 36] (σ' := [(1, .int .i64 wide1), (2, .int .i64 y2), (7, .slice (ad a22) y23.length (na22 / 4)), (9, .pointer (some ⟨b38, 0, none⟩)), (13, .slice a_l0 l0.length c_l0), (14, .int .i64 (l0.length : Int)), (15, .int .i64 x21), (32, .int .i64 y2), (33, .pointer (some ⟨b54, 1, none⟩)), (34, .int .i64 t50), (35, .bool true), (36, .bool true)]) (by kernel_rfl) ?_
            refine t_end ?_
            show W _ _ _ _ _ _ _
            refine w_cond rfl (fun _ => ?_) (fun c_ => by cases c_)
            show W _ _ _ _ _ _ _
            refine w_reg fun all => ?_
            refine t_qz 1 [1, 2, 9, 13, 14, 15, 32, 33, 34, 35, 37] (σ' := [(1, .int .i64 wide1), (2, .int .i64 y2), (9, .pointer (some ⟨b38, 0, none⟩)), (13, .slice a_l0 l0.length c_l0), (14, .int .i64 (l0.length : Int)), (15, .int .i64 x21), (32, .int .i64 y2), (33, .pointer (some ⟨b54, 1, none⟩)), (34, .int .i64 t50), (35, .bool true), (37, .slice (ad a22) y23.length (na22 / 4))]) (by kernel_rfl) ?_
            refine t_v (.ldn rfl rfl rfl (.at 3 rfl rfl)) ?_
            refine t_a (.bsl rfl rfl rfl rfl) fun b57 fb57 sb57 => ?_
            obtain ⟨y58, hl59, e19⟩ := bind_of e19
            refine t_appX (E := E_i644) (L := y23) (X := ([(x25, x26, x27, x28)] : List (Int × Int × Int × Int))) (F := ([⟨b57, [.int .i64 x25, .int .i64 x26, .int .i64 x27, .int .i64 x28], 4⟩, ⟨b54, [.int .i64 t49, .int .i64 t50], 2⟩, ⟨b53, [.int .i64 t47, .int .i64 t48], 2⟩, ⟨b39, [.int .i64 x25, .int .i64 x26, .int .i64 x27, .int .i64 x28], 4⟩, ⟨b38, [.int .i64 x25, .int .i64 x26, .int .i64 x27, .int .i64 x28], 4⟩] : List Own)) rfl rfl rfl rfl (sel_perm (is := [5]) (by kernel_rfl)) rfl (Or.inr ⟨_, _, rfl, .at 0 rfl (by kernel_rfl)⟩) rfl (by decide) (by decide) rfl hl59 fun a60 na60 => ?_
            refine t_qz 1 [1, 2, 7, 13, 14, 15, 32, 33, 34, 35] (σ' := [(1, .int .i64 wide1), (2, .int .i64 y2), (7, .slice (ad a60) y58.length (na60 / 4)), (13, .slice a_l0 l0.length c_l0), (14, .int .i64 (l0.length : Int)), (15, .int .i64 x21), (32, .int .i64 y2), (33, .pointer (some ⟨b54, 1, none⟩)), (34, .int .i64 t50), (35, .bool true)]) (by kernel_rfl) ?_
            refine t_end ?_
            show W _ _ _ _ _ _ _
            refine w_reg fun all => ?_
            refine t_qz 2 [1, 2, 7, 13, 14, 15, 32, 33, 34, 35] (σ' := [(1, .int .i64 wide1), (2, .int .i64 y2), (7, .slice (ad a60) y58.length (na60 / 4)), (13, .slice a_l0 l0.length c_l0), (14, .int .i64 (l0.length : Int)), (15, .int .i64 (wr64 (x21 + 1))), (32, .int .i64 y2), (33, .pointer (some ⟨b54, 1, none⟩)), (34, .int .i64 t50), (35, .bool true)]) (by kernel_rfl) ?_
            refine t_end ?_
            exact ⟨k_, Nat.lt_succ_self _, [(1, .int .i64 wide1), (2, .int .i64 y2), (7, .slice (ad a60) y58.length (na60 / 4)), (13, .slice a_l0 l0.length c_l0), (14, .int .i64 (l0.length : Int)), (15, .int .i64 (wr64 (x21 + 1)))], ([⟨a60, encL E_i644 y58, na60⟩] : List Own), S, keep_sub [1, 2, 7, 13, 14, 15] (by kernel_rfl), VS.sel [0] (by kernel_rfl), wr64 (x21 + 1), y58, a60, na60, rfl, rfl, rfl, e19⟩
          · rw [if_neg c56] at e19
            have c56b : (decide (y2 ≤ t50)) = false := decide_eq_false c56
            refine t_v (dv_quiet rfl (congrArg (fun t => some (Value.bool t)) c56b)) ?_
            refine t_qz 1 [1, 2, 7, 9, 13, 14, 15, 32, 33, 34, 35, 36] (σ' := [(1, .int .i64 wide1), (2, .int .i64 y2), (7, .slice (ad a22) y23.length (na22 / 4)), (9, .pointer (some ⟨b38, 0, none⟩)), (13, .slice a_l0 l0.length c_l0), (14, .int .i64 (l0.length : Int)), (15, .int .i64 x21), (32, .int .i64 y2), (33, .pointer (some ⟨b54, 1, none⟩)), (34, .int .i64 t50), (35, .bool false), (36, .bool false)]) (by kernel_rfl) ?_
            refine t_end ?_
            show W _ _ _ _ _ _ _
            refine w_cond rfl (fun c_ => by cases c_) (fun _ => ?_)
            show W _ _ _ _ _ _ _
            refine w_skip ?_
            show W _ _ _ _ _ _ _
            refine w_reg fun all => ?_
            refine t_qz 2 [1, 2, 7, 13, 14, 15, 32, 33, 34, 35] (σ' := [(1, .int .i64 wide1), (2, .int .i64 y2), (7, .slice (ad a22) y23.length (na22 / 4)), (13, .slice a_l0 l0.length c_l0), (14, .int .i64 (l0.length : Int)), (15, .int .i64 (wr64 (x21 + 1))), (32, .int .i64 y2), (33, .pointer (some ⟨b54, 1, none⟩)), (34, .int .i64 t50), (35, .bool false)]) (by kernel_rfl) ?_
            refine t_end ?_
            exact ⟨k_, Nat.lt_succ_self _, [(1, .int .i64 wide1), (2, .int .i64 y2), (7, .slice (ad a22) y23.length (na22 / 4)), (13, .slice a_l0 l0.length c_l0), (14, .int .i64 (l0.length : Int)), (15, .int .i64 (wr64 (x21 + 1)))], ([⟨a22, encL E_i644 y23, na22⟩] : List Own), S, keep_sub [1, 2, 7, 13, 14, 15] (by kernel_rfl), VS.sel [4] (by kernel_rfl), wr64 (x21 + 1), y23, a22, na22, rfl, rfl, rfl, e19⟩
        · rw [if_neg c55] at e19
          have c55b : (decide (t48 ≤ y2)) = false := decide_eq_false c55
          refine t_qz 1 [1, 2, 7, 9, 11, 13, 14, 15, 28, 29] (σ' := [(1, .int .i64 wide1), (2, .int .i64 y2), (7, .slice (ad a22) y23.length (na22 / 4)), (9, .pointer (some ⟨b38, 0, none⟩)), (11, .pointer (some ⟨b54, 0, none⟩)), (13, .slice a_l0 l0.length c_l0), (14, .int .i64 (l0.length : Int)), (15, .int .i64 x21), (28, .int .i64 t48), (29, .int .i64 y2)]) (by kernel_rfl) ?_
          refine t_v (dv_quiet rfl (congrArg (fun t => some (Value.bool t)) c55b)) ?_
          refine t_qz 6 [1, 2, 7, 9, 13, 14, 15, 32, 33, 34, 35, 36] (σ' := [(1, .int .i64 wide1), (2, .int .i64 y2), (7, .slice (ad a22) y23.length (na22 / 4)), (9, .pointer (some ⟨b38, 0, none⟩)), (13, .slice a_l0 l0.length c_l0), (14, .int .i64 (l0.length : Int)), (15, .int .i64 x21), (32, .tuple #[]), (33, .tuple #[]), (34, .tuple #[]), (35, .tuple #[]), (36, .bool false)]) (by kernel_rfl) ?_
          refine t_end ?_
          show W _ _ _ _ _ _ _
          refine w_cond rfl (fun c_ => by cases c_) (fun _ => ?_)
          show W _ _ _ _ _ _ _
          refine w_skip ?_
          show W _ _ _ _ _ _ _
          refine w_reg fun all => ?_
          refine t_qz 2 [1, 2, 7, 13, 14, 15, 32, 33, 34, 35] (σ' := [(1, .int .i64 wide1), (2, .int .i64 y2), (7, .slice (ad a22) y23.length (na22 / 4)), (13, .slice a_l0 l0.length c_l0), (14, .int .i64 (l0.length : Int)), (15, .int .i64 (wr64 (x21 + 1))), (32, .tuple #[]), (33, .tuple #[]), (34, .tuple #[]), (35, .tuple #[])]) (by kernel_rfl) ?_
          refine t_end ?_
          exact ⟨k_, Nat.lt_succ_self _, [(1, .int .i64 wide1), (2, .int .i64 y2), (7, .slice (ad a22) y23.length (na22 / 4)), (13, .slice a_l0 l0.length c_l0), (14, .int .i64 (l0.length : Int)), (15, .int .i64 (wr64 (x21 + 1)))], ([⟨a22, encL E_i644 y23, na22⟩] : List Own), S, keep_sub [1, 2, 7, 13, 14, 15] (by kernel_rfl), VS.sel [4] (by kernel_rfl), wr64 (x21 + 1), y23, a22, na22, rfl, rfl, rfl, e19⟩
      · rw [if_neg c24] at e19
        have c24b : (decide (x21 < (l0.length : Int))) = false := decide_eq_false c24
        refine t_v (dv_quiet rfl (congrArg (fun t => some (Value.bool t)) c24b)) ?_
        refine t_keep [1, 2, 7, 13, 14, 15, 16] (σ' := [(1, .int .i64 wide1), (2, .int .i64 y2), (7, .slice (ad a22) y23.length (na22 / 4)), (13, .slice a_l0 l0.length c_l0), (14, .int .i64 (l0.length : Int)), (15, .int .i64 x21), (16, .bool false)]) (by kernel_rfl) ?_
        refine t_end ?_
        show W _ _ _ _ _ _ _
        refine w_seq ?_
        refine w_cond rfl (fun c_ => by cases c_) (fun _ => ?_)
        show W _ _ _ _ _ _ _
        refine w_exit ?_
        obtain rfl := Option.some.inj e19
        exact ⟨([⟨a22, encL E_i644 y23, na22⟩] : List Own), S, VS.sel [0] (by kernel_rfl), a22, na22, by kernel_rfl, rfl, rfl⟩
  · rintro σ_ H_ S_ ⟨a65, na65, rfl, rfl, rfl⟩
    refine w_seq ?_
    refine w_reg fun all => ?_
    refine t_qz 2 [6] (σ' := [(6, .slice (ad a65) y66.length (na65 / 4))]) (by kernel_rfl) ?_
    refine t_end ?_
    show W _ _ _ _ _ _ _
    refine w_ret ?_
    obtain rfl := Option.some.inj e
    exact ⟨[.slice (ad a65) y66.length (na65 / 4)], ([⟨a65, encL E_i644 y66, na65⟩] : List Own), S, ⟨rfl, trivial⟩, VS.sel [0] (by kernel_rfl), a65, na65, rfl, rfl, rfl⟩

/-- plane.Sub -/
def c116 : C :=
  (.seq (.reg [⟨(some 2), .box (.tmp 0), none⟩,
     ⟨(some 3), .box (.tmp 1), none⟩,
     ⟨(some 4), .new [(.int .i64 0), (.int .i64 0)], none⟩])
  (.seq (.reg [⟨(some 5), .pad 0 (.tmp 2), none⟩,
     ⟨(some 6), .ld none (.tmp 5), none⟩,
     ⟨(some 7), .pad 0 (.tmp 3), none⟩,
     ⟨(some 8), .ld none (.tmp 7), none⟩,
     ⟨(some 9), .bin .sub (.tmp 6) (.tmp 8), none⟩,
     ⟨(some 10), .pad 1 (.tmp 2), none⟩,
     ⟨(some 11), .ld none (.tmp 10), none⟩,
     ⟨(some 12), .pad 1 (.tmp 3), none⟩,
     ⟨(some 13), .ld none (.tmp 12), none⟩,
     ⟨(some 14), .bin .sub (.tmp 11) (.tmp 13), none⟩,
     ⟨(some 15), .bld [(.int .i64 0), (.int .i64 0)] [(0, 1, (.tmp 9)), (1, 1, (.tmp 14))], none⟩,
     ⟨none, .st 2 (.tmp 4) (.tmp 15), none⟩])
  .ret))
def plane_Sub.f (a0_X : Int) (a0_Y : Int) (b1_X : Int) (b1_Y : Int) : Option (Int × Int) := some (wr64 (a0_X - b1_X), wr64 (a0_Y - b1_Y))
theorem plane_Sub.ok {S : Seal} {a0_X : Int} {a0_Y : Int} {b1_X : Int} {b1_Y : Int} {r0_ : Int} {r1_ : Int}(e : plane_Sub.f a0_X a0_Y b1_X b1_Y = some (r0_, r1_)) :
    Cal Try.prog 116 [.agg #[.int .i64 a0_X, .int .i64 a0_Y], .agg #[.int .i64 b1_X, .int .i64 b1_Y]] [] S fun v H' S' => v = .agg #[.int .i64 r0_, .int .i64 r1_] ∧ H' = [] ∧ S' = S := by
  unfold plane_Sub.f at e
  refine cal_of (c := c116) (N := 16) Try.func116 rfl rfl (by kernel_rfl) (rs := [.cn 2 4]) (by kernel_rfl) (Nat.le_of_ble_eq_true rfl) ?_
  unfold c116
  refine w_seq ?_
  refine w_reg fun all => ?_
  refine t_a (.box rfl rfl rfl) fun b111 fb111 sb111 => ?_
  refine t_a (.box rfl rfl rfl) fun b112 fb112 sb112 => ?_
  refine t_a (.new rfl rfl) fun b113 fb113 sb113 => ?_
  refine t_keep [2, 3, 4] (σ' := [(2, .pointer (some ⟨b111, 0, none⟩)), (3, .pointer (some ⟨b112, 0, none⟩)), (4, .pointer (some ⟨b113, 0, none⟩))]) (by kernel_rfl) ?_
  refine t_end ?_
  show W _ _ _ _ _ _ _
  refine w_seq ?_
  refine w_reg fun all => ?_
  refine t_qz 1 [2, 3, 4, 5] (σ' := [(2, .pointer (some ⟨b111, 0, none⟩)), (3, .pointer (some ⟨b112, 0, none⟩)), (4, .pointer (some ⟨b113, 0, none⟩)), (5, .pointer (some ⟨b111, 0, none⟩))]) (by kernel_rfl) ?_
  refine t_v (.ld1 rfl rfl rfl (.at 2 rfl rfl)) ?_
  refine t_qz 1 [2, 3, 4, 6, 7] (σ' := [(2, .pointer (some ⟨b111, 0, none⟩)), (3, .pointer (some ⟨b112, 0, none⟩)), (4, .pointer (some ⟨b113, 0, none⟩)), (6, .int .i64 a0_X), (7, .pointer (some ⟨b112, 0, none⟩))]) (by kernel_rfl) ?_
  refine t_v (.ld1 rfl rfl rfl (.at 1 rfl rfl)) ?_
  refine t_qz 2 [3, 4, 9, 10] (σ' := [(3, .pointer (some ⟨b112, 0, none⟩)), (4, .pointer (some ⟨b113, 0, none⟩)), (9, .int .i64 (wr64 (a0_X - b1_X))), (10, .pointer (some ⟨b111, 1, none⟩))]) (by kernel_rfl) ?_
  refine t_v (.ld1 rfl rfl rfl (.at 2 rfl rfl)) ?_
  refine t_qz 1 [4, 9, 11, 12] (σ' := [(4, .pointer (some ⟨b113, 0, none⟩)), (9, .int .i64 (wr64 (a0_X - b1_X))), (11, .int .i64 a0_Y), (12, .pointer (some ⟨b112, 1, none⟩))]) (by kernel_rfl) ?_
  refine t_v (.ld1 rfl rfl rfl (.at 1 rfl rfl)) ?_
  refine t_qz 2 [4, 15] (σ' := [(4, .pointer (some ⟨b113, 0, none⟩)), (15, .agg #[.int .i64 (wr64 (a0_X - b1_X)), .int .i64 (wr64 (a0_Y - b1_Y))])]) (by kernel_rfl) ?_
  refine t_sti 0 (cs := [.int .i64 (wr64 (a0_X - b1_X)), .int .i64 (wr64 (a0_Y - b1_Y))]) rfl rfl rfl rfl rfl rfl rfl rfl rfl ?_
  refine t_keep [4] (σ' := [(4, .pointer (some ⟨b113, 0, none⟩))]) (by kernel_rfl) ?_
  refine t_end ?_
  show W _ _ _ _ _ _ _
  refine w_ret ?_
  simp only [Option.some.injEq, Prod.mk.injEq] at e
  obtain ⟨rfl, rfl⟩ := e
  exact ⟨[.agg #[.int .i64 (wr64 (a0_X - b1_X)), .int .i64 (wr64 (a0_Y - b1_Y))]], [], S, ⟨⟨_, _, _, rfl, .at 0 rfl rfl, rfl⟩, trivial⟩, VS.none, rfl, rfl, rfl⟩

/-- plane.Cross -/
def c106 : C :=
  (.seq (.reg [⟨(some 3), .box (.tmp 0), none⟩,
     ⟨(some 4), .box (.tmp 1), none⟩,
     ⟨(some 5), .box (.tmp 2), none⟩,
     ⟨(some 6), .mv (.const (.int .i64 0)), none⟩])
  (.seq (.drw [⟨(some 9), .ld (some 2) (.tmp 4), none⟩,
     ⟨(some 10), .ld (some 2) (.tmp 3), none⟩,
     ⟨(some 11), .call 116 [(.tmp 9), (.tmp 10)], none⟩,
     ⟨(some 12), .ld (some 2) (.tmp 5), none⟩,
     ⟨(some 13), .ld (some 2) (.tmp 3), none⟩,
     ⟨(some 14), .call 116 [(.tmp 12), (.tmp 13)], none⟩,
     ⟨(some 7), .new [(.int .i64 0), (.int .i64 0)], none⟩,
     ⟨(some 8), .new [(.int .i64 0), (.int .i64 0)], none⟩,
     ⟨none, .st 2 (.tmp 7) (.tmp 11), none⟩,
     ⟨none, .st 2 (.tmp 8) (.tmp 14), none⟩] [[], [], [0, 1], [], [], [3, 4, 2], [], [], [6, 2, 5, 0, 1, 2, 6, 7], [7, 5, 8, 0, 1, 2, 3, 4, 5, 6, 7, 8]])
  (.seq (.reg [⟨(some 15), .pad 0 (.tmp 7), none⟩,
     ⟨(some 16), .ld none (.tmp 15), none⟩,
     ⟨(some 17), .pad 1 (.tmp 8), none⟩,
     ⟨(some 18), .ld none (.tmp 17), none⟩,
     ⟨(some 19), .bin .mul (.tmp 16) (.tmp 18), none⟩,
     ⟨(some 20), .pad 1 (.tmp 7), none⟩,
     ⟨(some 21), .ld none (.tmp 20), none⟩,
     ⟨(some 22), .pad 0 (.tmp 8), none⟩,
     ⟨(some 23), .ld none (.tmp 22), none⟩,
     ⟨(some 24), .bin .mul (.tmp 21) (.tmp 23), none⟩,
     ⟨(some 25), .bin .sub (.tmp 19) (.tmp 24), none⟩,
     ⟨(some 6), .mv (.tmp 25), none⟩])
  .ret)))
def plane_Cross.f (a0_X : Int) (a0_Y : Int) (b1_X : Int) (b1_Y : Int) (p2_X : Int) (p2_Y : Int) : Option (Int) := (plane_Sub.f b1_X b1_Y a0_X a0_Y).bind fun (t111, t112) => ((plane_Sub.f p2_X p2_Y a0_X a0_Y).bind fun (t114, t115) => (some (wr64 ((wr64 (t111 * t115)) - (wr64 (t112 * t114))))))
theorem plane_Cross.ok {S : Seal} {a0_X : Int} {a0_Y : Int} {b1_X : Int} {b1_Y : Int} {p2_X : Int} {p2_Y : Int} {r0_ : Int}(e : plane_Cross.f a0_X a0_Y b1_X b1_Y p2_X p2_Y = some r0_) :
    Cal Try.prog 106 [.agg #[.int .i64 a0_X, .int .i64 a0_Y], .agg #[.int .i64 b1_X, .int .i64 b1_Y], .agg #[.int .i64 p2_X, .int .i64 p2_Y]] [] S fun v H' S' => v = .int .i64 r0_ ∧ H' = [] ∧ S' = S := by
  unfold plane_Cross.f at e
  refine cal_of (c := c106) (N := 26) Try.func106 rfl rfl (by kernel_rfl) (rs := [.t 6]) (by kernel_rfl) (Nat.le_of_ble_eq_true rfl) ?_
  unfold c106
  refine w_seq ?_
  refine w_reg fun all => ?_
  refine t_a (.box rfl rfl rfl) fun b108 fb108 sb108 => ?_
  refine t_a (.box rfl rfl rfl) fun b109 fb109 sb109 => ?_
  refine t_a (.box rfl rfl rfl) fun b110 fb110 sb110 => ?_
  refine t_qz 1 [3, 4, 5] (σ' := [(3, .pointer (some ⟨b108, 0, none⟩)), (4, .pointer (some ⟨b109, 0, none⟩)), (5, .pointer (some ⟨b110, 0, none⟩))]) (by kernel_rfl) ?_
  refine t_end ?_
  show W _ _ _ _ _ _ _
  refine w_seq ?_
  obtain ⟨⟨t111, t112⟩, h113, e⟩ := bind_of e
  try dsimp only at e
  obtain ⟨⟨t114, t115⟩, h116, e⟩ := bind_of e
  try dsimp only at e
  refine w_drwE mixed 8 [.v (.agg #[.int .i64 b1_X, .int .i64 b1_Y]), .v (.agg #[.int .i64 a0_X, .int .i64 a0_Y]), .v (.agg #[.int .i64 t111, .int .i64 t112]), .v (.agg #[.int .i64 p2_X, .int .i64 p2_Y]), .v (.agg #[.int .i64 a0_X, .int .i64 a0_Y]), .v (.agg #[.int .i64 t114, .int .i64 t115]), .a [.int .i64 0, .int .i64 0] ptrTo, .a [.int .i64 0, .int .i64 0] ptrTo] (by kernel_rfl) ?_ ?_
  · refine .cons (.ldn rfl rfl rfl (.at 1 rfl rfl)) ?_
    refine .cons (.ldn rfl rfl rfl (.at 2 rfl rfl)) ?_
    refine .cons (.call (vs := [.agg #[.int .i64 b1_X, .int .i64 b1_Y], .agg #[.int .i64 a0_X, .int .i64 a0_Y]]) rfl rfl (by kernel_rfl) (plane_Sub.ok h113)) ?_
    refine .cons (.ldn rfl rfl rfl (.at 0 rfl rfl)) ?_
    refine .cons (.ldn rfl rfl rfl (.at 2 rfl rfl)) ?_
    refine .cons (.call (vs := [.agg #[.int .i64 p2_X, .int .i64 p2_Y], .agg #[.int .i64 a0_X, .int .i64 a0_Y]]) rfl rfl (by kernel_rfl) (plane_Sub.ok h116)) ?_
    refine .cons (.new rfl rfl) ?_
    refine .cons (.new rfl rfl) ?_
    exact .nil
  refine fk_q 6 [11, 14] (σ' := [(11, .agg #[.int .i64 t111, .int .i64 t112]), (14, .agg #[.int .i64 t114, .int .i64 t115])]) t_more (by kernel_rfl) ?_
  refine fk_a fun b117 fb117 sb117 => ?_
  refine fk_a fun b118 fb118 sb118 => ?_
  refine fk_nil fun all => ?_
  refine t_sti 1 (cs := [.int .i64 t111, .int .i64 t112]) rfl rfl rfl rfl rfl rfl rfl rfl rfl ?_
  refine t_sti 0 (cs := [.int .i64 t114, .int .i64 t115]) rfl rfl rfl rfl rfl rfl rfl rfl rfl ?_
  refine t_keep [7, 8] (σ' := [(7, .pointer (some ⟨b117, 0, none⟩)), (8, .pointer (some ⟨b118, 0, none⟩))]) (by kernel_rfl) ?_
  refine t_end ?_
  show W _ _ _ _ _ _ _
  refine w_seq ?_
  refine w_reg fun all => ?_
  refine t_qz 1 [7, 8, 15] (σ' := [(7, .pointer (some ⟨b117, 0, none⟩)), (8, .pointer (some ⟨b118, 0, none⟩)), (15, .pointer (some ⟨b117, 0, none⟩))]) (by kernel_rfl) ?_
  refine t_v (.ld1 rfl rfl rfl (.at 1 rfl rfl)) ?_
  refine t_qz 1 [7, 8, 16, 17] (σ' := [(7, .pointer (some ⟨b117, 0, none⟩)), (8, .pointer (some ⟨b118, 0, none⟩)), (16, .int .i64 t111), (17, .pointer (some ⟨b118, 1, none⟩))]) (by kernel_rfl) ?_
  refine t_v (.ld1 rfl rfl rfl (.at 0 rfl rfl)) ?_
  refine t_qz 2 [8, 19, 20] (σ' := [(8, .pointer (some ⟨b118, 0, none⟩)), (19, .int .i64 (wr64 (t111 * t115))), (20, .pointer (some ⟨b117, 1, none⟩))]) (by kernel_rfl) ?_
  refine t_v (.ld1 rfl rfl rfl (.at 1 rfl rfl)) ?_
  refine t_qz 1 [19, 21, 22] (σ' := [(19, .int .i64 (wr64 (t111 * t115))), (21, .int .i64 t112), (22, .pointer (some ⟨b118, 0, none⟩))]) (by kernel_rfl) ?_
  refine t_v (.ld1 rfl rfl rfl (.at 0 rfl rfl)) ?_
  refine t_qz 3 [6] (σ' := [(6, .int .i64 (wr64 ((wr64 (t111 * t115)) - (wr64 (t112 * t114)))))]) (by kernel_rfl) ?_
  refine t_end ?_
  show W _ _ _ _ _ _ _
  refine w_ret ?_
  obtain rfl := Option.some.inj e
  exact ⟨[.int .i64 (wr64 ((wr64 (t111 * t115)) - (wr64 (t112 * t114))))], [], S, ⟨rfl, trivial⟩, VS.none, rfl, rfl, rfl⟩

/-- wind.One -/
def c118 : C :=
  (.seq (.reg [⟨(some 2), .box (.tmp 0), none⟩,
     ⟨(some 3), .box (.tmp 1), none⟩,
     ⟨(some 4), .mv (.const (.int .i64 0)), none⟩])
  (.seq (.block 0 (.seq (.reg [⟨(some 6), .pad 0 (.tmp 2), none⟩,
       ⟨(some 7), .pad 1 (.tmp 6), none⟩,
       ⟨(some 8), .ld none (.tmp 7), none⟩,
       ⟨(some 9), .pad 1 (.tmp 3), none⟩,
       ⟨(some 10), .ld none (.tmp 9), none⟩,
       ⟨(some 11), .bin .leq (.tmp 8) (.tmp 10), none⟩,
       ⟨(some 12), .mv (.tmp 11), none⟩,
       ⟨(some 13), .pad 2 (.tmp 2), (some (12, true))⟩,
       ⟨(some 14), .pad 1 (.tmp 13), (some (12, true))⟩,
       ⟨(some 15), .ld none (.tmp 14), (some (12, true))⟩,
       ⟨(some 16), .pad 1 (.tmp 3), (some (12, true))⟩,
       ⟨(some 17), .ld none (.tmp 16), (some (12, true))⟩,
       ⟨(some 18), .bin .gtr (.tmp 15) (.tmp 17), (some (12, true))⟩,
       ⟨(some 19), .pk (.tmp 12) (.tmp 18) (.const (.bool false)), none⟩,
       ⟨(some 20), .mv (.tmp 19), none⟩,
       ⟨(some 21), .pad 0 (.tmp 2), (some (20, true))⟩,
       ⟨(some 22), .ld (some 2) (.tmp 21), (some (20, true))⟩,
       ⟨(some 23), .pad 2 (.tmp 2), (some (20, true))⟩,
       ⟨(some 24), .ld (some 2) (.tmp 23), (some (20, true))⟩,
       ⟨(some 25), .ld (some 2) (.tmp 3), (some (20, true))⟩,
       ⟨(some 26), .call 106 [(.tmp 22), (.tmp 24), (.tmp 25)], (some (20, true))⟩,
       ⟨(some 27), .bin .gtr (.tmp 26) (.const (.int .i64 0)), (some (20, true))⟩,
       ⟨(some 28), .pk (.tmp 20) (.tmp 27) (.const (.bool false)), none⟩,
       ⟨(some 5), .mv (.tmp 28), none⟩])
    (.cond (.tmp 5)
     (.seq (.reg [⟨(some 4), .mv (.const (.int .i64 1)), none⟩])
      .ret)
     (.seq (.reg [⟨(some 30), .pad 2 (.tmp 2), none⟩,
         ⟨(some 31), .pad 1 (.tmp 30), none⟩,
         ⟨(some 32), .ld none (.tmp 31), none⟩,
         ⟨(some 33), .pad 1 (.tmp 3), none⟩,
         ⟨(some 34), .ld none (.tmp 33), none⟩,
         ⟨(some 35), .bin .leq (.tmp 32) (.tmp 34), none⟩,
         ⟨(some 36), .mv (.tmp 35), none⟩,
         ⟨(some 37), .pad 0 (.tmp 2), (some (36, true))⟩,
         ⟨(some 38), .pad 1 (.tmp 37), (some (36, true))⟩,
         ⟨(some 39), .ld none (.tmp 38), (some (36, true))⟩,
         ⟨(some 40), .pad 1 (.tmp 3), (some (36, true))⟩,
         ⟨(some 41), .ld none (.tmp 40), (some (36, true))⟩,
         ⟨(some 42), .bin .gtr (.tmp 39) (.tmp 41), (some (36, true))⟩,
         ⟨(some 43), .pk (.tmp 36) (.tmp 42) (.const (.bool false)), none⟩,
         ⟨(some 44), .mv (.tmp 43), none⟩,
         ⟨(some 45), .pad 0 (.tmp 2), (some (44, true))⟩,
         ⟨(some 46), .ld (some 2) (.tmp 45), (some (44, true))⟩,
         ⟨(some 47), .pad 2 (.tmp 2), (some (44, true))⟩,
         ⟨(some 48), .ld (some 2) (.tmp 47), (some (44, true))⟩,
         ⟨(some 49), .ld (some 2) (.tmp 3), (some (44, true))⟩,
         ⟨(some 50), .call 106 [(.tmp 46), (.tmp 48), (.tmp 49)], (some (44, true))⟩,
         ⟨(some 51), .bin .lss (.tmp 50) (.const (.int .i64 0)), (some (44, true))⟩,
         ⟨(some 52), .pk (.tmp 44) (.tmp 51) (.const (.bool false)), none⟩,
         ⟨(some 29), .mv (.tmp 52), none⟩])
      (.cond (.tmp 29)
       (.seq (.reg [⟨(some 4), .mv (.const (.int .i64 (-1))), none⟩])
        .ret)
       .skip)))))
  (.seq (.reg [⟨(some 4), .mv (.const (.int .i64 0)), none⟩])
  .ret)))
def wind_One.f (e0_A_X : Int) (e0_A_Y : Int) (e0_B_X : Int) (e0_B_Y : Int) (p1_X : Int) (p1_Y : Int) : Option (Int) := (if e0_A_Y ≤ p1_Y then (if e0_B_Y > p1_Y then ((plane_Cross.f e0_A_X e0_A_Y e0_B_X e0_B_Y p1_X p1_Y).bind fun t111 => (if t111 > 0 then (some true) else (some false))) else (some false)) else (some false) : Option (Bool)).bind fun x114 => (if x114 = true then (some 1) else (if e0_B_Y ≤ p1_Y then (if e0_A_Y > p1_Y then ((plane_Cross.f e0_A_X e0_A_Y e0_B_X e0_B_Y p1_X p1_Y).bind fun t118 => (if t118 < 0 then (some (-1)) else (some 0))) else (some 0)) else (some 0)))
theorem wind_One.ok {S : Seal} {e0_A_X : Int} {e0_A_Y : Int} {e0_B_X : Int} {e0_B_Y : Int} {p1_X : Int} {p1_Y : Int} {r0_ : Int}(e : wind_One.f e0_A_X e0_A_Y e0_B_X e0_B_Y p1_X p1_Y = some r0_) :
    Cal Try.prog 118 [.agg #[.int .i64 e0_A_X, .int .i64 e0_A_Y, .int .i64 e0_B_X, .int .i64 e0_B_Y], .agg #[.int .i64 p1_X, .int .i64 p1_Y]] [] S fun v H' S' => v = .int .i64 r0_ ∧ H' = [] ∧ S' = S := by
  unfold wind_One.f at e
  refine cal_of (c := c118) (N := 53) Try.func118 rfl rfl (by kernel_rfl) (rs := [.t 4]) (by kernel_rfl) (Nat.le_of_ble_eq_true rfl) ?_
  unfold c118
  refine w_seq ?_
  refine w_reg fun all => ?_
  refine t_a (.box rfl rfl rfl) fun b104 fb104 sb104 => ?_
  refine t_a (.box rfl rfl rfl) fun b105 fb105 sb105 => ?_
  refine t_qz 1 [2, 3] (σ' := [(2, .pointer (some ⟨b104, 0, none⟩)), (3, .pointer (some ⟨b105, 0, none⟩))]) (by kernel_rfl) ?_
  refine t_end ?_
  show W _ _ _ _ _ _ _
  refine w_seq ?_
  refine w_block ?_
  obtain ⟨x114, e107, e⟩ := bind_of e
  refine w_cut [2, 3, 5] (fun σ_ H_ S_ => [(2, .pointer (some ⟨b104, 0, none⟩)), (3, .pointer (some ⟨b105, 0, none⟩)), (5, .bool x114)] = σ_ ∧ ([⟨b105, [.int .i64 p1_X, .int .i64 p1_Y], 2⟩, ⟨b104, [.int .i64 e0_A_X, .int .i64 e0_A_Y, .int .i64 e0_B_X, .int .i64 e0_B_Y], 4⟩] : List Own) = H_ ∧ S = S_) ?_ ?_
  · show W _ _ _ _ _ _ _
    refine w_reg fun all => ?_
    refine t_qz 2 [2, 3, 7] (σ' := [(2, .pointer (some ⟨b104, 0, none⟩)), (3, .pointer (some ⟨b105, 0, none⟩)), (7, .pointer (some ⟨b104, 1, none⟩))]) (by kernel_rfl) ?_
    refine t_v (.ld1 rfl rfl rfl (.at 1 rfl rfl)) ?_
    refine t_qz 1 [2, 3, 8, 9] (σ' := [(2, .pointer (some ⟨b104, 0, none⟩)), (3, .pointer (some ⟨b105, 0, none⟩)), (8, .int .i64 e0_A_Y), (9, .pointer (some ⟨b105, 1, none⟩))]) (by kernel_rfl) ?_
    refine t_v (.ld1 rfl rfl rfl (.at 0 rfl rfl)) ?_
    by_cases c109 : e0_A_Y ≤ p1_Y
    · rw [if_pos c109] at e107
      have c109b : (decide (e0_A_Y ≤ p1_Y)) = true := decide_eq_true c109
      refine t_v (dv_quiet rfl (congrArg (fun t => some (Value.bool t)) c109b)) ?_
      refine t_qz 3 [2, 3, 12, 14] (σ' := [(2, .pointer (some ⟨b104, 0, none⟩)), (3, .pointer (some ⟨b105, 0, none⟩)), (12, .bool true), (14, .pointer (some ⟨b104, 3, none⟩))]) (by kernel_rfl) ?_
      refine t_v (.ld1 rfl rfl rfl (.at 1 rfl rfl)) ?_
      refine t_qz 1 [2, 3, 12, 15, 16] (σ' := [(2, .pointer (some ⟨b104, 0, none⟩)), (3, .pointer (some ⟨b105, 0, none⟩)), (12, .bool true), (15, .int .i64 e0_B_Y), (16, .pointer (some ⟨b105, 1, none⟩))]) (by kernel_rfl) ?_
      refine t_v (.ld1 rfl rfl rfl (.at 0 rfl rfl)) ?_
      by_cases c110 : e0_B_Y > p1_Y
      · rw [if_pos c110] at e107
        have c110b : (decide (e0_B_Y > p1_Y)) = true := decide_eq_true c110
        refine t_v (dv_quiet rfl (congrArg (fun t => some (Value.bool t)) c110b)) ?_
        refine t_qz 3 [2, 3, 20, 21] (σ' := [(2, .pointer (some ⟨b104, 0, none⟩)), (3, .pointer (some ⟨b105, 0, none⟩)), (20, .bool true), (21, .pointer (some ⟨b104, 0, none⟩))]) (by kernel_rfl) ?_
        refine t_v (.ldn rfl rfl rfl (.at 1 rfl rfl)) ?_
        refine t_qz 1 [2, 3, 20, 22, 23] (σ' := [(2, .pointer (some ⟨b104, 0, none⟩)), (3, .pointer (some ⟨b105, 0, none⟩)), (20, .bool true), (22, .agg #[.int .i64 e0_A_X, .int .i64 e0_A_Y]), (23, .pointer (some ⟨b104, 2, none⟩))]) (by kernel_rfl) ?_
        refine t_v (.ldn rfl rfl rfl (.at 1 rfl rfl)) ?_
        refine t_v (.ldn rfl rfl rfl (.at 0 rfl rfl)) ?_
        obtain ⟨t111, h112, e107⟩ := bind_of e107
        refine t_v (.call (vs := [.agg #[.int .i64 e0_A_X, .int .i64 e0_A_Y], .agg #[.int .i64 e0_B_X, .int .i64 e0_B_Y], .agg #[.int .i64 p1_X, .int .i64 p1_Y]]) rfl rfl (by kernel_rfl) (plane_Cross.ok h112)) ?_
        by_cases c113 : t111 > 0
        · rw [if_pos c113] at e107
          have c113b : (decide (t111 > 0)) = true := decide_eq_true c113
          refine t_v (dv_quiet rfl (congrArg (fun t => some (Value.bool t)) c113b)) ?_
          refine t_qz 2 [2, 3, 5] (σ' := [(2, .pointer (some ⟨b104, 0, none⟩)), (3, .pointer (some ⟨b105, 0, none⟩)), (5, .bool true)]) (by kernel_rfl) ?_
          refine t_end ?_
          obtain rfl := Option.some.inj e107
          exact ⟨([⟨b105, [.int .i64 p1_X, .int .i64 p1_Y], 2⟩, ⟨b104, [.int .i64 e0_A_X, .int .i64 e0_A_Y, .int .i64 e0_B_X, .int .i64 e0_B_Y], 4⟩] : List Own), S, VS.sel [0, 0] (by kernel_rfl), by kernel_rfl, rfl, rfl⟩
        · rw [if_neg c113] at e107
          have c113b : (decide (t111 > 0)) = false := decide_eq_false c113
          refine t_v (dv_quiet rfl (congrArg (fun t => some (Value.bool t)) c113b)) ?_
          refine t_qz 2 [2, 3, 5] (σ' := [(2, .pointer (some ⟨b104, 0, none⟩)), (3, .pointer (some ⟨b105, 0, none⟩)), (5, .bool false)]) (by kernel_rfl) ?_
          refine t_end ?_
          obtain rfl := Option.some.inj e107
          exact ⟨([⟨b105, [.int .i64 p1_X, .int .i64 p1_Y], 2⟩, ⟨b104, [.int .i64 e0_A_X, .int .i64 e0_A_Y, .int .i64 e0_B_X, .int .i64 e0_B_Y], 4⟩] : List Own), S, VS.sel [0, 0] (by kernel_rfl), by kernel_rfl, rfl, rfl⟩
      · rw [if_neg c110] at e107
        have c110b : (decide (e0_B_Y > p1_Y)) = false := decide_eq_false c110
        refine t_v (dv_quiet rfl (congrArg (fun t => some (Value.bool t)) c110b)) ?_
        refine t_qz 11 [2, 3, 5] (σ' := [(2, .pointer (some ⟨b104, 0, none⟩)), (3, .pointer (some ⟨b105, 0, none⟩)), (5, .bool false)]) (by kernel_rfl) ?_
        refine t_end ?_
        obtain rfl := Option.some.inj e107
        exact ⟨([⟨b105, [.int .i64 p1_X, .int .i64 p1_Y], 2⟩, ⟨b104, [.int .i64 e0_A_X, .int .i64 e0_A_Y, .int .i64 e0_B_X, .int .i64 e0_B_Y], 4⟩] : List Own), S, VS.sel [0, 0] (by kernel_rfl), by kernel_rfl, rfl, rfl⟩
    · rw [if_neg c109] at e107
      have c109b : (decide (e0_A_Y ≤ p1_Y)) = false := decide_eq_false c109
      refine t_v (dv_quiet rfl (congrArg (fun t => some (Value.bool t)) c109b)) ?_
      refine t_qz 18 [2, 3, 5] (σ' := [(2, .pointer (some ⟨b104, 0, none⟩)), (3, .pointer (some ⟨b105, 0, none⟩)), (5, .bool false)]) (by kernel_rfl) ?_
      refine t_end ?_
      obtain rfl := Option.some.inj e107
      exact ⟨([⟨b105, [.int .i64 p1_X, .int .i64 p1_Y], 2⟩, ⟨b104, [.int .i64 e0_A_X, .int .i64 e0_A_Y, .int .i64 e0_B_X, .int .i64 e0_B_Y], 4⟩] : List Own), S, VS.sel [0, 0] (by kernel_rfl), by kernel_rfl, rfl, rfl⟩
  · rintro σ_ H_ S_ ⟨rfl, rfl, rfl⟩
    by_cases c115 : x114 = true
    · rw [if_pos c115] at e
      have c115b : x114 = true := c115
      refine w_cond (t := true) (congrArg (fun t => some (Value.bool t)) c115b) (fun _ => ?_) (fun c_ => by cases c_)
      refine w_seq ?_
      refine w_reg fun all => ?_
      refine t_qz 1 [4] (σ' := [(4, .int .i64 1)]) (by kernel_rfl) ?_
      refine t_end ?_
      show W _ _ _ _ _ _ _
      refine w_ret ?_
      obtain rfl := Option.some.inj e
      exact ⟨[.int .i64 1], [], S, ⟨rfl, trivial⟩, VS.none, rfl, rfl, rfl⟩
    · rw [if_neg c115] at e
      have c115b : x114 = false := Bool.eq_false_iff.mpr c115
      refine w_cond (t := false) (congrArg (fun t => some (Value.bool t)) c115b) (fun c_ => by cases c_) (fun _ => ?_)
      refine w_seq ?_
      refine w_reg fun all => ?_
      refine t_qz 2 [2, 3, 31] (σ' := [(2, .pointer (some ⟨b104, 0, none⟩)), (3, .pointer (some ⟨b105, 0, none⟩)), (31, .pointer (some ⟨b104, 3, none⟩))]) (by kernel_rfl) ?_
      refine t_v (.ld1 rfl rfl rfl (.at 1 rfl rfl)) ?_
      refine t_qz 1 [2, 3, 32, 33] (σ' := [(2, .pointer (some ⟨b104, 0, none⟩)), (3, .pointer (some ⟨b105, 0, none⟩)), (32, .int .i64 e0_B_Y), (33, .pointer (some ⟨b105, 1, none⟩))]) (by kernel_rfl) ?_
      refine t_v (.ld1 rfl rfl rfl (.at 0 rfl rfl)) ?_
      by_cases c116 : e0_B_Y ≤ p1_Y
      · rw [if_pos c116] at e
        have c116b : (decide (e0_B_Y ≤ p1_Y)) = true := decide_eq_true c116
        refine t_v (dv_quiet rfl (congrArg (fun t => some (Value.bool t)) c116b)) ?_
        refine t_qz 3 [2, 3, 36, 38] (σ' := [(2, .pointer (some ⟨b104, 0, none⟩)), (3, .pointer (some ⟨b105, 0, none⟩)), (36, .bool true), (38, .pointer (some ⟨b104, 1, none⟩))]) (by kernel_rfl) ?_
        refine t_v (.ld1 rfl rfl rfl (.at 1 rfl rfl)) ?_
        refine t_qz 1 [2, 3, 36, 39, 40] (σ' := [(2, .pointer (some ⟨b104, 0, none⟩)), (3, .pointer (some ⟨b105, 0, none⟩)), (36, .bool true), (39, .int .i64 e0_A_Y), (40, .pointer (some ⟨b105, 1, none⟩))]) (by kernel_rfl) ?_
        refine t_v (.ld1 rfl rfl rfl (.at 0 rfl rfl)) ?_
        by_cases c117 : e0_A_Y > p1_Y
        · rw [if_pos c117] at e
          have c117b : (decide (e0_A_Y > p1_Y)) = true := decide_eq_true c117
          refine t_v (dv_quiet rfl (congrArg (fun t => some (Value.bool t)) c117b)) ?_
          refine t_qz 3 [2, 3, 44, 45] (σ' := [(2, .pointer (some ⟨b104, 0, none⟩)), (3, .pointer (some ⟨b105, 0, none⟩)), (44, .bool true), (45, .pointer (some ⟨b104, 0, none⟩))]) (by kernel_rfl) ?_
          refine t_v (.ldn rfl rfl rfl (.at 1 rfl rfl)) ?_
          refine t_qz 1 [3, 44, 46, 47] (σ' := [(3, .pointer (some ⟨b105, 0, none⟩)), (44, .bool true), (46, .agg #[.int .i64 e0_A_X, .int .i64 e0_A_Y]), (47, .pointer (some ⟨b104, 2, none⟩))]) (by kernel_rfl) ?_
          refine t_v (.ldn rfl rfl rfl (.at 1 rfl rfl)) ?_
          refine t_v (.ldn rfl rfl rfl (.at 0 rfl rfl)) ?_
          obtain ⟨t118, h119, e⟩ := bind_of e
          refine t_v (.call (vs := [.agg #[.int .i64 e0_A_X, .int .i64 e0_A_Y], .agg #[.int .i64 e0_B_X, .int .i64 e0_B_Y], .agg #[.int .i64 p1_X, .int .i64 p1_Y]]) rfl rfl (by kernel_rfl) (plane_Cross.ok h119)) ?_
          by_cases c120 : t118 < 0
          · rw [if_pos c120] at e
            have c120b : (decide (t118 < 0)) = true := decide_eq_true c120
            refine t_v (dv_quiet rfl (congrArg (fun t => some (Value.bool t)) c120b)) ?_
            refine t_qz 2 [29] (σ' := [(29, .bool true)]) (by kernel_rfl) ?_
            refine t_end ?_
            show W _ _ _ _ _ _ _
            refine w_cond rfl (fun _ => ?_) (fun c_ => by cases c_)
            show W _ _ _ _ _ _ _
            refine w_seq ?_
            refine w_reg fun all => ?_
            refine t_qz 1 [4] (σ' := [(4, .int .i64 (-1))]) (by kernel_rfl) ?_
            refine t_end ?_
            show W _ _ _ _ _ _ _
            refine w_ret ?_
            obtain rfl := Option.some.inj e
            exact ⟨[.int .i64 (-1)], [], S, ⟨rfl, trivial⟩, VS.none, rfl, rfl, rfl⟩
          · rw [if_neg c120] at e
            have c120b : (decide (t118 < 0)) = false := decide_eq_false c120
            refine t_v (dv_quiet rfl (congrArg (fun t => some (Value.bool t)) c120b)) ?_
            refine t_qz 2 [29] (σ' := [(29, .bool false)]) (by kernel_rfl) ?_
            refine t_end ?_
            show W _ _ _ _ _ _ _
            refine w_cond rfl (fun c_ => by cases c_) (fun _ => ?_)
            show W _ _ _ _ _ _ _
            refine w_skip ?_
            show W _ _ _ _ _ _ _
            refine w_seq ?_
            refine w_reg fun all => ?_
            refine t_qz 1 [4] (σ' := [(4, .int .i64 0)]) (by kernel_rfl) ?_
            refine t_end ?_
            show W _ _ _ _ _ _ _
            refine w_ret ?_
            obtain rfl := Option.some.inj e
            exact ⟨[.int .i64 0], [], S, ⟨rfl, trivial⟩, VS.none, rfl, rfl, rfl⟩
        · rw [if_neg c117] at e
          have c117b : (decide (e0_A_Y > p1_Y)) = false := decide_eq_false c117
          refine t_v (dv_quiet rfl (congrArg (fun t => some (Value.bool t)) c117b)) ?_
          refine t_qz 11 [29] (σ' := [(29, .bool false)]) (by kernel_rfl) ?_
          refine t_end ?_
          show W _ _ _ _ _ _ _
          refine w_cond rfl (fun c_ => by cases c_) (fun _ => ?_)
          show W _ _ _ _ _ _ _
          refine w_skip ?_
          show W _ _ _ _ _ _ _
          refine w_seq ?_
          refine w_reg fun all => ?_
          refine t_qz 1 [4] (σ' := [(4, .int .i64 0)]) (by kernel_rfl) ?_
          refine t_end ?_
          show W _ _ _ _ _ _ _
          refine w_ret ?_
          obtain rfl := Option.some.inj e
          exact ⟨[.int .i64 0], [], S, ⟨rfl, trivial⟩, VS.none, rfl, rfl, rfl⟩
      · rw [if_neg c116] at e
        have c116b : (decide (e0_B_Y ≤ p1_Y)) = false := decide_eq_false c116
        refine t_v (dv_quiet rfl (congrArg (fun t => some (Value.bool t)) c116b)) ?_
        refine t_qz 18 [29] (σ' := [(29, .bool false)]) (by kernel_rfl) ?_
        refine t_end ?_
        show W _ _ _ _ _ _ _
        refine w_cond rfl (fun c_ => by cases c_) (fun _ => ?_)
        show W _ _ _ _ _ _ _
        refine w_skip ?_
        show W _ _ _ _ _ _ _
        refine w_seq ?_
        refine w_reg fun all => ?_
        refine t_qz 1 [4] (σ' := [(4, .int .i64 0)]) (by kernel_rfl) ?_
        refine t_end ?_
        show W _ _ _ _ _ _ _
        refine w_ret ?_
        obtain rfl := Option.some.inj e
        exact ⟨[.int .i64 0], [], S, ⟨rfl, trivial⟩, VS.none, rfl, rfl, rfl⟩

/-- wind.Number -/
def c111 : C :=
  (.seq (.reg [⟨(some 3), .box (.tmp 1), none⟩,
     ⟨(some 4), .mv (.const (.int .i64 0)), none⟩])
  (.seq (.reg [⟨(some 5), .mv (.const (.int .i64 0)), none⟩])
  (.seq (.seq (.reg [⟨(some 8), .mv (.tmp 0), none⟩,
      ⟨(some 9), .lns (.tmp 8), none⟩,
      ⟨(some 10), .mv (.const (.int .i64 0)), none⟩])
   (.block 0 (.loop (.seq (.reg [⟨(some 11), .bin .lss (.tmp 10) (.tmp 9), none⟩])
     (.seq (.cond (.tmp 11)
       .skip
       (.exit 0))
     (.seq (.block 1 (.seq (.reg [⟨(some 12), .ixs 4 (.tmp 8) (.tmp 10), none⟩,
          ⟨(some 13), .ld (some 4) (.tmp 12), none⟩,
          ⟨(some 7), .new [(.int .i64 0), (.int .i64 0), (.int .i64 0), (.int .i64 0)], none⟩,
          ⟨none, .st 4 (.tmp 7) (.tmp 13), none⟩])
       (.reg [⟨(some 14), .mv (.tmp 5), none⟩,
         ⟨(some 15), .ld (some 4) (.tmp 7), none⟩,
         ⟨(some 16), .ld (some 2) (.tmp 3), none⟩,
         ⟨(some 17), .call 118 [(.tmp 15), (.tmp 16)], none⟩,
         ⟨(some 18), .bin .add (.tmp 14) (.tmp 17), none⟩,
         ⟨(some 5), .mv (.tmp 18), none⟩])))
     (.reg [⟨(some 19), .bin .add (.tmp 10) (.const (.int .i64 1)), none⟩,
       ⟨(some 10), .mv (.tmp 19), none⟩])))))))
  (.seq (.reg [⟨(some 20), .mv (.tmp 5), none⟩,
     ⟨(some 4), .mv (.tmp 20), none⟩])
  .ret))))
def wind_Number_v1.l0 : Nat → List (Int × Int × Int × Int) → Int → Int → Int → Int → Option (Int)
  | 0, _, _, _, _, _ => none
  | k + 1, l0, p1_0, p1_1, x87, x88 => if x88 < (l0.length : Int) then ((lgt l0 x88).bind fun (x90, x91, x92, x93) => ((wind_One.f x90 x91 x92 x93 p1_0 p1_1).bind fun t121 => (wind_Number_v1.l0 k l0 p1_0 p1_1 (wr64 (x87 + t121)) (wr64 (x88 + 1))))) else (some x87)
def wind_Number_v1.f (k : Nat) (l0 : List (Int × Int × Int × Int)) (p1_0 : Int) (p1_1 : Int) : Option (Int) := (wind_Number_v1.l0 k l0 p1_0 p1_1 0 0 : Option (Int)).bind fun x125 => (some x125)
theorem wind_Number_v1.ok {S : Seal} {k : Nat} {l0 : List (Int × Int × Int × Int)} {p1_0 : Int} {p1_1 : Int} {r0_ : Int}{a_l0 : Option Addr} {c_l0 : Nat} (h_l0 : SlE S E_i644 l0 a_l0) (e : wind_Number_v1.f k l0 p1_0 p1_1 = some r0_) :
    Cal Try.prog 111 [.slice a_l0 l0.length c_l0, .agg #[.int .i64 p1_0, .int .i64 p1_1]] [] S fun v H' S' => v = .int .i64 r0_ ∧ H' = [] ∧ S' = S := by
  unfold wind_Number_v1.f at e
  refine cal_of (c := c111) (N := 21) Try.func111 rfl rfl (by kernel_rfl) (rs := [.t 4]) (by kernel_rfl) (Nat.le_of_ble_eq_true rfl) ?_
  unfold c111
  refine w_seq ?_
  refine w_reg fun all => ?_
  refine t_a (.box rfl rfl rfl) fun b83 fb83 sb83 => ?_
  refine t_qz 1 [0, 3] (σ' := [(0, .slice a_l0 l0.length c_l0), (3, .pointer (some ⟨b83, 0, none⟩))]) (by kernel_rfl) ?_
  refine t_end ?_
  show W _ _ _ _ _ _ _
  refine w_seq ?_
  refine w_reg fun all => ?_
  refine t_qz 1 [0, 3, 5] (σ' := [(0, .slice a_l0 l0.length c_l0), (3, .pointer (some ⟨b83, 0, none⟩)), (5, .int .i64 0)]) (by kernel_rfl) ?_
  refine t_end ?_
  show W _ _ _ _ _ _ _
  obtain ⟨x125, e85, e⟩ := bind_of e
  refine w_cut [5] (fun σ_ H_ S_ => [(5, .int .i64 x125)] = σ_ ∧ ([⟨b83, [.int .i64 p1_0, .int .i64 p1_1], 2⟩] : List Own) = H_ ∧ S = S_) ?_ ?_
  · show W _ _ _ _ _ _ _
    refine w_seq ?_
    refine w_reg fun all => ?_
    refine t_qz 3 [3, 5, 8, 9, 10] (σ' := [(3, .pointer (some ⟨b83, 0, none⟩)), (5, .int .i64 0), (8, .slice a_l0 l0.length c_l0), (9, .int .i64 (l0.length : Int)), (10, .int .i64 0)]) (by kernel_rfl) ?_
    refine t_end ?_
    show W _ _ _ _ _ _ _
    refine w_block ?_
    refine w_kp [3, 5, 8, 9, 10] (σ' := [(3, .pointer (some ⟨b83, 0, none⟩)), (5, .int .i64 0), (8, .slice a_l0 l0.length c_l0), (9, .int .i64 (l0.length : Int)), (10, .int .i64 0)]) (by kernel_rfl) ?_
    refine w_loop (fun n_ σ_ H_ S_ => ∃ (x87 : Int) (x88 : Int), [(3, .pointer (some ⟨b83, 0, none⟩)), (5, .int .i64 x87), (8, .slice a_l0 l0.length c_l0), (9, .int .i64 (l0.length : Int)), (10, .int .i64 x88)] = σ_ ∧ ([⟨b83, [.int .i64 p1_0, .int .i64 p1_1], 2⟩] : List Own) = H_ ∧ S = S_ ∧ wind_Number_v1.l0 n_ l0 p1_0 p1_1 x87 x88 = some x125) _ ⟨0, 0, rfl, rfl, rfl, e85⟩ ?_
    rintro n124 σ_ H_ S_ ⟨x87, x88, rfl, rfl, rfl, e85⟩
    cases n124 with
    | zero => rw [wind_Number_v1.l0.eq_1] at e85; cases e85
    | succ k_ =>
      rw [wind_Number_v1.l0.eq_2] at e85
      refine w_seq ?_
      refine w_reg fun all => ?_
      by_cases c89 : x88 < (l0.length : Int)
      · rw [if_pos c89] at e85
        have c89b : (decide (x88 < (l0.length : Int))) = true := decide_eq_true c89
        refine t_v (dv_quiet rfl (congrArg (fun t => some (Value.bool t)) c89b)) ?_
        refine t_keep [3, 5, 8, 9, 10, 11] (σ' := [(3, .pointer (some ⟨b83, 0, none⟩)), (5, .int .i64 x87), (8, .slice a_l0 l0.length c_l0), (9, .int .i64 (l0.length : Int)), (10, .int .i64 x88), (11, .bool true)]) (by kernel_rfl) ?_
        refine t_end ?_
        show W _ _ _ _ _ _ _
        refine w_seq ?_
        refine w_cond rfl (fun _ => ?_) (fun c_ => by cases c_)
        show W _ _ _ _ _ _ _
        refine w_skip ?_
        show W _ _ _ _ _ _ _
        refine w_seq ?_
        refine w_block ?_
        refine w_seq ?_
        refine w_reg fun all => ?_
        obtain ⟨⟨x90, x91, x92, x93⟩, hx94, e85⟩ := bind_of e85
        try dsimp only at e85
        obtain ⟨lb95, lo96, ll97, la98, lS99, lv100, lz101, lu102⟩ := sle_get (E := E_i644) h_l0 hx94
        refine t_v (.quiet rfl (ixs_sle rfl rfl la98 lz101 lu102)) ?_
        refine t_v (.ldn (vs := [.int .i64 x90, .int .i64 x91, .int .i64 x92, .int .i64 x93]) rfl rfl rfl (.sealed lS99 (subl_sub lv100 (by kernel_rfl)))) ?_
        refine t_a (.new rfl rfl) fun b103 fb103 sb103 => ?_
        refine t_sti 0 (cs := [.int .i64 x90, .int .i64 x91, .int .i64 x92, .int .i64 x93]) rfl rfl rfl rfl rfl rfl rfl rfl rfl ?_
        refine t_keep [3, 5, 7, 8, 9, 10] (σ' := [(3, .pointer (some ⟨b83, 0, none⟩)), (5, .int .i64 x87), (7, .pointer (some ⟨b103, 0, none⟩)), (8, .slice a_l0 l0.length c_l0), (9, .int .i64 (l0.length : Int)), (10, .int .i64 x88)]) (by kernel_rfl) ?_
        refine t_end ?_
        show W _ _ _ _ _ _ _
        refine w_reg fun all => ?_
        refine t_qz 1 [3, 7, 8, 9, 10, 14] (σ' := [(3, .pointer (some ⟨b83, 0, none⟩)), (7, .pointer (some ⟨b103, 0, none⟩)), (8, .slice a_l0 l0.length c_l0), (9, .int .i64 (l0.length : Int)), (10, .int .i64 x88), (14, .int .i64 x87)]) (by kernel_rfl) ?_
        refine t_v (.ldn rfl rfl rfl (.at 0 rfl rfl)) ?_
        refine t_v (.ldn rfl rfl rfl (.at 1 rfl rfl)) ?_
        obtain ⟨t121, h122, e85⟩ := bind_of e85
        refine t_v (.call (vs := [.agg #[.int .i64 x90, .int .i64 x91, .int .i64 x92, .int .i64 x93], .agg #[.int .i64 p1_0, .int .i64 p1_1]]) rfl rfl (by kernel_rfl) (wind_One.ok h122)) ?_
        refine t_qz 2 [3, 5, 8, 9, 10] (σ' := [(3, .pointer (some ⟨b83, 0, none⟩)), (5, .int .i64 (wr64 (x87 + t121))), (8, .slice a_l0 l0.length c_l0), (9, .int .i64 (l0.length : Int)), (10, .int .i64 x88)]) (by kernel_rfl) ?_
        refine t_end ?_
        show W _ _ _ _ _ _ _
        refine w_reg fun all => ?_
        refine t_qz 2 [3, 5, 8, 9, 10] (σ' := [(3, .pointer (some ⟨b83, 0, none⟩)), (5, .int .i64 (wr64 (x87 + t121))), (8, .slice a_l0 l0.length c_l0), (9, .int .i64 (l0.length : Int)), (10, .int .i64 (wr64 (x88 + 1)))]) (by kernel_rfl) ?_
        refine t_end ?_
        exact ⟨k_, Nat.lt_succ_self _, [(3, .pointer (some ⟨b83, 0, none⟩)), (5, .int .i64 (wr64 (x87 + t121))), (8, .slice a_l0 l0.length c_l0), (9, .int .i64 (l0.length : Int)), (10, .int .i64 (wr64 (x88 + 1)))], ([⟨b83, [.int .i64 p1_0, .int .i64 p1_1], 2⟩] : List Own), S, keep_sub [3, 5, 8, 9, 10] (by kernel_rfl), VS.sel [1] (by kernel_rfl), wr64 (x87 + t121), wr64 (x88 + 1), rfl, rfl, rfl, e85⟩
      · rw [if_neg c89] at e85
        have c89b : (decide (x88 < (l0.length : Int))) = false := decide_eq_false c89
        refine t_v (dv_quiet rfl (congrArg (fun t => some (Value.bool t)) c89b)) ?_
        refine t_keep [3, 5, 8, 9, 10, 11] (σ' := [(3, .pointer (some ⟨b83, 0, none⟩)), (5, .int .i64 x87), (8, .slice a_l0 l0.length c_l0), (9, .int .i64 (l0.length : Int)), (10, .int .i64 x88), (11, .bool false)]) (by kernel_rfl) ?_
        refine t_end ?_
        show W _ _ _ _ _ _ _
        refine w_seq ?_
        refine w_cond rfl (fun c_ => by cases c_) (fun _ => ?_)
        show W _ _ _ _ _ _ _
        refine w_exit ?_
        obtain rfl := Option.some.inj e85
        exact ⟨([⟨b83, [.int .i64 p1_0, .int .i64 p1_1], 2⟩] : List Own), S, VS.sel [0] (by kernel_rfl), by kernel_rfl, rfl, rfl⟩
  · rintro σ_ H_ S_ ⟨rfl, rfl, rfl⟩
    refine w_seq ?_
    refine w_reg fun all => ?_
    refine t_qz 2 [4] (σ' := [(4, .int .i64 x125)]) (by kernel_rfl) ?_
    refine t_end ?_
    show W _ _ _ _ _ _ _
    refine w_ret ?_
    obtain rfl := Option.some.inj e
    exact ⟨[.int .i64 x125], [], S, ⟨rfl, trivial⟩, VS.none, rfl, rfl, rfl⟩

/-- wind.Inside -/
def c84 : C :=
  (.seq (.reg [⟨(some 5), .box (.tmp 2), none⟩,
     ⟨(some 6), .mv (.const (.bool false)), none⟩])
  (.seq (.reg [⟨(some 8), .mv (.tmp 0), none⟩,
     ⟨(some 9), .ld (some 2) (.tmp 5), none⟩,
     ⟨(some 10), .call 111 [(.tmp 8), (.tmp 9)], none⟩,
     ⟨(some 7), .mv (.tmp 10), none⟩])
  (.seq (.seq (.reg [⟨(some 11), .mv (.tmp 1), none⟩,
      ⟨(some 12), .bin .eql (.tmp 11) (.const (.int .i64 0)), none⟩])
   (.cond (.tmp 12)
    (.seq (.reg [⟨(some 13), .mv (.tmp 7), none⟩,
        ⟨(some 14), .bin .rem (.tmp 13) (.const (.int .i64 2)), none⟩,
        ⟨(some 15), .bin .neq (.tmp 14) (.const (.int .i64 0)), none⟩,
        ⟨(some 6), .mv (.tmp 15), none⟩])
     .ret)
    .skip))
  (.seq (.reg [⟨(some 16), .mv (.tmp 7), none⟩,
     ⟨(some 17), .bin .neq (.tmp 16) (.const (.int .i64 0)), none⟩,
     ⟨(some 6), .mv (.tmp 17), none⟩])
  .ret))))
def wind_Inside_v1.f (k : Nat) (l0 : List (Int × Int × Int × Int)) (rule1 : Int) (p2_0 : Int) (p2_1 : Int) : Option (Bool) := (wind_Number_v1.f k l0 p2_0 p2_1).bind fun t126 => (if rule1 = 0 then (some ((Int.tmod t126 2) != 0)) else (some (t126 != 0)))
theorem wind_Inside_v1.ok {S : Seal} {k : Nat} {l0 : List (Int × Int × Int × Int)} {rule1 : Int} {p2_0 : Int} {p2_1 : Int} {r0_ : Bool}{a_l0 : Option Addr} {c_l0 : Nat} (h_l0 : SlE S E_i644 l0 a_l0) (e : wind_Inside_v1.f k l0 rule1 p2_0 p2_1 = some r0_) :
    Cal Try.prog 84 [.slice a_l0 l0.length c_l0, .int .i64 rule1, .agg #[.int .i64 p2_0, .int .i64 p2_1]] [] S fun v H' S' => v = .bool r0_ ∧ H' = [] ∧ S' = S := by
  unfold wind_Inside_v1.f at e
  refine cal_of (c := c84) (N := 18) Try.func84 rfl rfl (by kernel_rfl) (rs := [.t 6]) (by kernel_rfl) (Nat.le_of_ble_eq_true rfl) ?_
  unfold c84
  refine w_seq ?_
  refine w_reg fun all => ?_
  refine t_a (.box rfl rfl rfl) fun b82 fb82 sb82 => ?_
  refine t_qz 1 [0, 1, 5] (σ' := [(0, .slice a_l0 l0.length c_l0), (1, .int .i64 rule1), (5, .pointer (some ⟨b82, 0, none⟩))]) (by kernel_rfl) ?_
  refine t_end ?_
  show W _ _ _ _ _ _ _
  refine w_seq ?_
  refine w_reg fun all => ?_
  refine t_qz 1 [1, 5, 8] (σ' := [(1, .int .i64 rule1), (5, .pointer (some ⟨b82, 0, none⟩)), (8, .slice a_l0 l0.length c_l0)]) (by kernel_rfl) ?_
  refine t_v (.ldn rfl rfl rfl (.at 0 rfl rfl)) ?_
  obtain ⟨t126, h127, e⟩ := bind_of e
  refine t_v (.call (vs := [.slice a_l0 l0.length c_l0, .agg #[.int .i64 p2_0, .int .i64 p2_1]]) rfl rfl (by kernel_rfl) (wind_Number_v1.ok h_l0 h127)) ?_
  refine t_qz 1 [1, 7] (σ' := [(1, .int .i64 rule1), (7, .int .i64 t126)]) (by kernel_rfl) ?_
  refine t_end ?_
  show W _ _ _ _ _ _ _
  refine w_seq ?_
  refine w_seq ?_
  refine w_reg fun all => ?_
  by_cases c128 : rule1 = 0
  · rw [if_pos c128] at e
    have c128b : (rule1 == 0) = true := beq_iff_eq.mpr c128
    refine t_qz 1 [7, 11] (σ' := [(7, .int .i64 t126), (11, .int .i64 rule1)]) (by kernel_rfl) ?_
    refine t_v (dv_quiet rfl (congrArg (fun t => some (Value.bool t)) c128b)) ?_
    refine t_keep [7, 12] (σ' := [(7, .int .i64 t126), (12, .bool true)]) (by kernel_rfl) ?_
    refine t_end ?_
    show W _ _ _ _ _ _ _
    refine w_cond rfl (fun _ => ?_) (fun c_ => by cases c_)
    show W _ _ _ _ _ _ _
    refine w_seq ?_
    refine w_reg fun all => ?_
    refine t_qz 4 [6] (σ' := [(6, .bool ((Int.tmod t126 2) != 0))]) (by kernel_rfl) ?_
    refine t_end ?_
    show W _ _ _ _ _ _ _
    refine w_ret ?_
    obtain rfl := Option.some.inj e
    exact ⟨[.bool ((Int.tmod t126 2) != 0)], [], S, ⟨rfl, trivial⟩, VS.none, rfl, rfl, rfl⟩
  · rw [if_neg c128] at e
    have c128b : (rule1 == 0) = false := beq_eq_false_iff_ne.mpr c128
    refine t_qz 1 [7, 11] (σ' := [(7, .int .i64 t126), (11, .int .i64 rule1)]) (by kernel_rfl) ?_
    refine t_v (dv_quiet rfl (congrArg (fun t => some (Value.bool t)) c128b)) ?_
    refine t_keep [7, 12] (σ' := [(7, .int .i64 t126), (12, .bool false)]) (by kernel_rfl) ?_
    refine t_end ?_
    show W _ _ _ _ _ _ _
    refine w_cond rfl (fun c_ => by cases c_) (fun _ => ?_)
    show W _ _ _ _ _ _ _
    refine w_skip ?_
    show W _ _ _ _ _ _ _
    refine w_seq ?_
    refine w_reg fun all => ?_
    refine t_qz 3 [6] (σ' := [(6, .bool (t126 != 0))]) (by kernel_rfl) ?_
    refine t_end ?_
    show W _ _ _ _ _ _ _
    refine w_ret ?_
    obtain rfl := Option.some.inj e
    exact ⟨[.bool (t126 != 0)], [], S, ⟨rfl, trivial⟩, VS.none, rfl, rfl, rfl⟩
end Go.Proofs.Ytpimfacaalkmdaa.QSweepSquares
