/- Functions of the program as Lean functions, each with the proof of its walk. Written by gen.py, a program of these sessions. -/
import Derived.Test.YtbmphhejjmnccaaE
import Derived.Test.YtbmphhejjmnccaaProg
namespace Go.Proofs.Ytbmphhejjmnccaa.QSweepBits
open Go Go.RowKit Go.Proofs.YtbmphhejjmnccaaE
set_option linter.unusedVariables false
set_option maxRecDepth 100000
theorem mixed : Try.prog.follows .mixedOrders = true := by kernel_rfl

/-- sweep.Sample -/
def c13 : C :=
  (.seq (.reg [⟨(some 6), .new [(.int .i64 0), (.int .i64 0)], none⟩])
  (.seq (.reg [⟨(some 7), .mv (.tmp 0), none⟩,
     ⟨(some 8), .bin .mul (.tmp 7) (.const (.int .i64 256)), none⟩,
     ⟨(some 9), .mv (.tmp 2), none⟩,
     ⟨(some 10), .bin .rem (.tmp 9) (.const (.int .i64 8)), none⟩,
     ⟨(some 11), .bin .mul (.const (.int .i64 32)) (.tmp 10), none⟩,
     ⟨(some 12), .bin .add (.tmp 8) (.tmp 11), none⟩,
     ⟨(some 13), .bin .add (.tmp 12) (.const (.int .i64 16)), none⟩,
     ⟨(some 14), .mv (.tmp 1), none⟩,
     ⟨(some 15), .bin .mul (.tmp 14) (.const (.int .i64 256)), none⟩,
     ⟨(some 16), .mv (.tmp 2), none⟩,
     ⟨(some 17), .bin .quo (.tmp 16) (.const (.int .i64 8)), none⟩,
     ⟨(some 18), .bin .mul (.const (.int .i64 32)) (.tmp 17), none⟩,
     ⟨(some 19), .bin .add (.tmp 15) (.tmp 18), none⟩,
     ⟨(some 20), .bin .add (.tmp 19) (.const (.int .i64 16)), none⟩,
     ⟨(some 21), .bld [(.int .i64 0), (.int .i64 0)] [(0, 1, (.tmp 13)), (1, 1, (.tmp 20))], none⟩,
     ⟨none, .st 2 (.tmp 6) (.tmp 21), none⟩])
  .ret))
def sweep_Sample.f (x0 : Int) (y1 : Int) (k2 : Int) : Option (Int × Int) := (some (wr64 ((wr64 ((wr64 (x0 * 256)) + (wr64 (32 * (Int.tmod k2 8))))) + 16))).bind fun v4 => ((some (wr64 ((wr64 (y1 * 256)) + (wr64 (32 * (wr64 (Int.tdiv k2 8))))))).bind fun v6 => (some (v4, wr64 (v6 + 16))))
theorem sweep_Sample.ok {S : Seal} {x0 : Int} {y1 : Int} {k2 : Int} {r0_ : Int} {r1_ : Int} (e : sweep_Sample.f x0 y1 k2 = some (r0_, r1_)) :
    Cal Try.prog 13 [.int .i64 x0, .int .i64 y1, .int .i64 k2] [] S fun v H' S' => v = .agg #[.int .i64 r0_, .int .i64 r1_] ∧ H' = [] ∧ S' = S := by
  unfold sweep_Sample.f at e
  refine cal_of (c := c13) (N := 22) Try.func13 rfl rfl (by kernel_rfl) (rs := [.cn 2 6]) (by kernel_rfl) (Nat.le_of_ble_eq_true rfl) ?_
  unfold c13
  refine w_seq ?_
  refine w_reg fun all => ?_
  refine t_a (.new rfl rfl) fun b3 fb3 sb3 => ?_
  refine t_keep [0, 1, 2, 6] (σ' := [(0, .int .i64 x0), (1, .int .i64 y1), (2, .int .i64 k2), (6, .pointer (some ⟨b3, 0, none⟩))]) (by kernel_rfl) ?_
  refine t_end ?_
  show W _ _ _ _ _ _ _
  refine w_seq ?_
  refine w_reg fun all => ?_
  obtain ⟨v4, hv5, e⟩ := bind_of e
  have hv5b := Option.some.inj hv5
  refine t_qz 6 [1, 2, 6, 12] (σ' := [(1, .int .i64 y1), (2, .int .i64 k2), (6, .pointer (some ⟨b3, 0, none⟩)), (12, .int .i64 (wr64 ((wr64 (x0 * 256)) + (wr64 (32 * (Int.tmod k2 8))))))]) (by kernel_rfl) ?_
  refine t_v (dv_quiet rfl (congrArg (fun t => some (Value.int .i64 t)) hv5b)) ?_
  obtain ⟨v6, hv7, e⟩ := bind_of e
  have hv7b := Option.some.inj hv7
  refine t_qz 5 [6, 13, 15, 18] (σ' := [(6, .pointer (some ⟨b3, 0, none⟩)), (13, .int .i64 v4), (15, .int .i64 (wr64 (y1 * 256))), (18, .int .i64 (wr64 (32 * (wr64 (Int.tdiv k2 8)))))]) (by kernel_rfl) ?_
  refine t_v (dv_quiet rfl (congrArg (fun t => some (Value.int .i64 t)) hv7b)) ?_
  refine t_qz 2 [6, 21] (σ' := [(6, .pointer (some ⟨b3, 0, none⟩)), (21, .agg #[.int .i64 v4, .int .i64 (wr64 (v6 + 16))])]) (by kernel_rfl) ?_
  refine t_sti 0 (cs := [.int .i64 v4, .int .i64 (wr64 (v6 + 16))]) rfl rfl rfl rfl rfl rfl rfl rfl rfl ?_
  refine t_keep [6] (σ' := [(6, .pointer (some ⟨b3, 0, none⟩))]) (by kernel_rfl) ?_
  refine t_end ?_
  show W _ _ _ _ _ _ _
  refine w_ret ?_
  simp only [Option.some.injEq, Prod.mk.injEq] at e
  obtain ⟨rfl, rfl⟩ := e
  exact ⟨[.agg #[.int .i64 v4, .int .i64 (wr64 (v6 + 16))]], [], S, ⟨⟨_, _, _, rfl, .at 0 rfl rfl, rfl⟩, trivial⟩, VS.none, rfl, rfl, rfl⟩

/-- sweep.crossing -/
def c42 : C :=
  (.seq (.reg [⟨(some 6), .mv (.const (.slice none 0 0)), none⟩])
  (.seq (.reg [⟨(some 7), .mv (.const (.slice none 0 0)), none⟩])
  (.seq (.seq (.reg [⟨(some 13), .mv (.tmp 0), none⟩,
      ⟨(some 14), .lns (.tmp 13), none⟩,
      ⟨(some 15), .mv (.const (.int .i64 0)), none⟩])
   (.block 0 (.loop (.seq (.reg [⟨(some 16), .bin .lss (.tmp 15) (.tmp 14), none⟩])
     (.seq (.cond (.tmp 16)
       .skip
       (.exit 0))
     (.seq (.block 1 (.seq (.reg [⟨(some 17), .ixs 4 (.tmp 13) (.tmp 15), none⟩,
          ⟨(some 18), .ld (some 4) (.tmp 17), none⟩,
          ⟨(some 9), .new [(.int .i64 0), (.int .i64 0), (.int .i64 0), (.int .i64 0)], none⟩,
          ⟨none, .st 4 (.tmp 9) (.tmp 18), none⟩])
       (.seq (.reg [⟨(some 20), .ld (some 4) (.tmp 9), none⟩,
          ⟨(some 21), .bsl [(.int .i64 0), (.int .i64 0), (.int .i64 0), (.int .i64 0)] 1 [(0, 4, (.tmp 20))], none⟩,
          ⟨(some 22), .mv (.tmp 1), none⟩,
          ⟨(some 23), .call 50 [(.tmp 21), (.tmp 22)], none⟩,
          ⟨(some 19), .mv (.tmp 23), none⟩,
          ⟨(some 24), .xt 0 (.tmp 19), none⟩,
          ⟨(some 25), .xt 1 (.tmp 19), none⟩,
          ⟨(some 26), .xt 2 (.tmp 19), none⟩,
          ⟨(some 10), .new [(.int .i64 0), (.int .i64 0)], none⟩,
          ⟨(some 11), .new [(.int .i64 0), (.int .i64 0)], none⟩,
          ⟨none, .st 2 (.tmp 10) (.tmp 24), none⟩,
          ⟨none, .st 2 (.tmp 11) (.tmp 25), none⟩,
          ⟨(some 12), .mv (.tmp 26), none⟩])
       (.seq (.reg [⟨(some 27), .pad 1 (.tmp 10), none⟩,
          ⟨(some 28), .ld none (.tmp 27), none⟩,
          ⟨(some 29), .mv (.tmp 2), none⟩,
          ⟨(some 30), .bin .leq (.tmp 28) (.tmp 29), none⟩,
          ⟨(some 31), .mv (.tmp 30), none⟩,
          ⟨(some 32), .mv (.tmp 2), (some (31, true))⟩,
          ⟨(some 33), .pad 1 (.tmp 11), (some (31, true))⟩,
          ⟨(some 34), .ld none (.tmp 33), (some (31, true))⟩,
          ⟨(some 35), .bin .leq (.tmp 32) (.tmp 34), (some (31, true))⟩,
          ⟨(some 36), .pk (.tmp 31) (.tmp 35) (.const (.bool false)), none⟩])
       (.cond (.tmp 36)
        (.reg [⟨(some 37), .mv (.tmp 7), none⟩,
           ⟨(some 38), .ld (some 4) (.tmp 9), none⟩,
           ⟨(some 39), .bsl [(.int .i64 0), (.int .i64 0), (.int .i64 0), (.int .i64 0)] 1 [(0, 4, (.tmp 38))], none⟩,
           ⟨(some 40), .app 34 4 32 [(.int .i64 0), (.int .i64 0), (.int .i64 0), (.int .i64 0)] (.tmp 37) (.tmp 39), none⟩,
           ⟨(some 7), .mv (.tmp 40), none⟩])
        .skip)))))
     (.reg [⟨(some 41), .bin .add (.tmp 15) (.const (.int .i64 1)), none⟩,
       ⟨(some 15), .mv (.tmp 41), none⟩])))))))
  (.seq (.reg [⟨(some 42), .mv (.tmp 7), none⟩,
     ⟨(some 6), .mv (.tmp 42), none⟩])
  .ret))))
def sweep_crossing_v1.f (wide1 : Int) (y2 : Int) : Option (Unit) := some ()
theorem sweep_crossing_v1.ok {S : Seal} {wide1 : Int} {y2 : Int}  (e : sweep_crossing_v1.f wide1 y2 = some ()) :
    Cal Try.prog 42 [.slice none 0 0, .int .i64 wide1, .int .i64 y2] [] S fun v H' S' => v = .slice none 0 0 ∧ H' = [] ∧ S' = S := by
  unfold sweep_crossing_v1.f at e
  refine cal_of (c := c42) (N := 43) Try.func42 rfl rfl (by kernel_rfl) (rs := [.t 6]) (by kernel_rfl) (Nat.le_of_ble_eq_true rfl) ?_
  unfold c42
  refine w_seq ?_
  refine w_reg fun all => ?_
  refine t_qz 1 [0, 1, 2] (σ' := [(0, .slice none 0 0), (1, .int .i64 wide1), (2, .int .i64 y2)]) (by kernel_rfl) ?_
  refine t_end ?_
  show W _ _ _ _ _ _ _
  refine w_seq ?_
  refine w_reg fun all => ?_
  refine t_qz 1 [0, 1, 2, 7] (σ' := [(0, .slice none 0 0), (1, .int .i64 wide1), (2, .int .i64 y2), (7, .slice none 0 0)]) (by kernel_rfl) ?_
  refine t_end ?_
  show W _ _ _ _ _ _ _
  refine w_seq ?_
  refine w_seq ?_
  refine w_reg fun all => ?_
  refine t_qz 3 [1, 2, 7, 13, 14, 15] (σ' := [(1, .int .i64 wide1), (2, .int .i64 y2), (7, .slice none 0 0), (13, .slice none 0 0), (14, .int .i64 0), (15, .int .i64 0)]) (by kernel_rfl) ?_
  refine t_end ?_
  show W _ _ _ _ _ _ _
  refine w_block ?_
  refine w_lun 10 ?_
  refine wl_step ?_
  refine w_seq ?_
  refine w_reg fun all => ?_
  refine t_qz 1 [1, 2, 7, 13, 14, 15, 16] (σ' := [(1, .int .i64 wide1), (2, .int .i64 y2), (7, .slice none 0 0), (13, .slice none 0 0), (14, .int .i64 0), (15, .int .i64 0), (16, .bool false)]) (by kernel_rfl) ?_
  refine t_end ?_
  show W _ _ _ _ _ _ _
  refine w_seq ?_
  refine w_cond rfl (fun c_ => by cases c_) (fun _ => ?_)
  show W _ _ _ _ _ _ _
  refine w_exit ?_
  show W _ _ _ _ _ _ _
  refine w_seq ?_
  refine w_reg fun all => ?_
  refine t_qz 2 [6] (σ' := [(6, .slice none 0 0)]) (by kernel_rfl) ?_
  refine t_end ?_
  show W _ _ _ _ _ _ _
  refine w_ret ?_
  exact ⟨[.slice none 0 0], [], S, ⟨rfl, trivial⟩, VS.none, rfl, rfl, rfl⟩

/-- sweep.masks -/
def c30 : C :=
  (.seq (.reg [⟨(some 10), .mv (.const (.slice none 0 0)), none⟩])
  (.seq (.seq (.reg [⟨(some 16), .mv (.tmp 3), none⟩,
      ⟨(some 17), .bin .lss (.tmp 16) (.const (.int .i64 1)), none⟩])
   (.cond (.tmp 17)
    (.seq (.reg [⟨(some 10), .mv (.const (.slice none 0 0)), none⟩])
     .ret)
    .skip))
  (.seq (.reg [⟨(some 18), .mv (.tmp 3), none⟩,
     ⟨(some 19), .mks 1 8 [(.int .u64 0)] (.tmp 18) (.tmp 18), none⟩,
     ⟨(some 11), .mv (.tmp 19), none⟩])
  (.seq (.seq (.reg [⟨(some 20), .mv (.const (.int .i64 0)), none⟩])
   (.block 0 (.loop (.seq (.reg [⟨(some 21), .bin .lss (.tmp 20) (.const (.int .i64 8)), none⟩])
     (.seq (.cond (.tmp 21)
       .skip
       (.exit 0))
     (.seq (.block 1 (.seq (.reg [⟨(some 22), .mv (.tmp 20), none⟩,
          ⟨(some 12), .mv (.tmp 22), none⟩])
       (.seq (.reg [⟨(some 23), .mv (.tmp 0), none⟩,
          ⟨(some 24), .mv (.tmp 1), none⟩,
          ⟨(some 25), .mv (.tmp 2), none⟩,
          ⟨(some 26), .mv (.tmp 12), none⟩,
          ⟨(some 27), .bin .mul (.tmp 26) (.const (.int .i64 8)), none⟩,
          ⟨(some 28), .call 13 [(.const (.int .i64 0)), (.tmp 25), (.tmp 27)], none⟩,
          ⟨(some 29), .fld none 1 (.tmp 28), none⟩,
          ⟨(some 30), .call 42 [(.tmp 23), (.tmp 24), (.tmp 29)], none⟩,
          ⟨(some 13), .mv (.tmp 30), none⟩])
       (.seq (.reg [⟨(some 14), .mv (.const (.int .i64 0)), none⟩])
       (.block 2 (.loop (.seq (.seq (.reg [⟨(some 31), .mv (.tmp 14), none⟩,
             ⟨(some 32), .mv (.tmp 3), none⟩,
             ⟨(some 33), .bin .lss (.tmp 31) (.tmp 32), none⟩,
             ⟨(some 34), .mv (.tmp 33), none⟩,
             ⟨(some 35), .mv (.tmp 13), (some (34, true))⟩,
             ⟨(some 36), .lns (.tmp 35), (some (34, true))⟩,
             ⟨(some 37), .bin .gtr (.tmp 36) (.const (.int .i64 0)), (some (34, true))⟩,
             ⟨(some 38), .pk (.tmp 34) (.tmp 37) (.const (.bool false)), none⟩])
          (.cond (.tmp 38)
           .skip
           (.exit 2)))
         (.seq (.block 3 (.seq (.reg [⟨(some 41), .mv (.tmp 12), none⟩,
              ⟨(some 42), .bin .mul (.tmp 41) (.const (.int .i64 8)), none⟩,
              ⟨(some 15), .mv (.tmp 42), none⟩])
           (.block 4 (.loop (.seq (.seq (.reg [⟨(some 43), .mv (.tmp 15), none⟩,
                 ⟨(some 44), .mv (.tmp 12), none⟩,
                 ⟨(some 45), .bin .add (.tmp 44) (.const (.int .i64 1)), none⟩,
                 ⟨(some 46), .bin .mul (.tmp 45) (.const (.int .i64 8)), none⟩,
                 ⟨(some 47), .bin .lss (.tmp 43) (.tmp 46), none⟩])
              (.cond (.tmp 47)
               .skip
               (.exit 4)))
             (.seq (.block 5 (.seq (.reg [⟨(some 50), .mv (.tmp 4), none⟩,
                  ⟨(some 51), .mv (.tmp 13), none⟩,
                  ⟨(some 52), .mv (.tmp 14), none⟩,
                  ⟨(some 53), .mv (.tmp 2), none⟩,
                  ⟨(some 54), .mv (.tmp 15), none⟩,
                  ⟨(some 55), .call 13 [(.tmp 52), (.tmp 53), (.tmp 54)], none⟩,
                  ⟨(some 56), .clo (.tmp 50) [(.tmp 51), (.tmp 55)], none⟩])
               (.cond (.tmp 56)
                (.drw [⟨(some 57), .mv (.tmp 11), none⟩,
                   ⟨(some 58), .mv (.tmp 14), none⟩,
                   ⟨(some 59), .ixs 1 (.tmp 57) (.tmp 58), none⟩,
                   ⟨(some 60), .ld none (.tmp 59), none⟩,
                   ⟨(some 61), .mv (.tmp 15), none⟩,
                   ⟨(some 62), .bin .shl (.const (.int .u64 1)) (.tmp 61), none⟩,
                   ⟨(some 63), .bin .or (.tmp 60) (.tmp 62), none⟩,
                   ⟨(some 64), .ixs 1 (.tmp 57) (.tmp 58), none⟩,
                   ⟨none, .st 1 (.tmp 64) (.tmp 63), none⟩] [[], [], [0, 1], [2], [], [4], [3, 5], [0, 1, 0, 1, 2, 3, 4, 5, 6], [7, 6, 0, 1, 2, 3, 4, 5, 6]])
                .skip)))
             (.reg [⟨(some 48), .mv (.tmp 15), none⟩,
               ⟨(some 49), .bin .add (.tmp 48) (.const (.int .i64 1)), none⟩,
               ⟨(some 15), .mv (.tmp 49), none⟩])))))))
         (.reg [⟨(some 39), .mv (.tmp 14), none⟩,
           ⟨(some 40), .bin .add (.tmp 39) (.const (.int .i64 1)), none⟩,
           ⟨(some 14), .mv (.tmp 40), none⟩])))))))))
     (.reg [⟨(some 65), .bin .add (.tmp 20) (.const (.int .i64 1)), none⟩,
       ⟨(some 20), .mv (.tmp 65), none⟩])))))))
  (.seq (.reg [⟨(some 66), .mv (.tmp 11), none⟩,
     ⟨(some 10), .mv (.tmp 66), none⟩])
  .ret)))))
def sweep_masks_v1.f  : Option (Int × Int) := (sweep_Sample.f 0 0 0).bind fun (t8, t9) => ((sweep_crossing_v1.f 0 t9).bind fun _ => ((sweep_Sample.f 0 0 8).bind fun (t12, t13) => ((sweep_crossing_v1.f 0 t13).bind fun _ => ((sweep_Sample.f 0 0 16).bind fun (t16, t17) => ((sweep_crossing_v1.f 0 t17).bind fun _ => ((sweep_Sample.f 0 0 24).bind fun (t20, t21) => ((sweep_crossing_v1.f 0 t21).bind fun _ => ((sweep_Sample.f 0 0 32).bind fun (t24, t25) => ((sweep_crossing_v1.f 0 t25).bind fun _ => ((sweep_Sample.f 0 0 40).bind fun (t28, t29) => ((sweep_crossing_v1.f 0 t29).bind fun _ => ((sweep_Sample.f 0 0 48).bind fun (t32, t33) => ((sweep_crossing_v1.f 0 t33).bind fun _ => ((sweep_Sample.f 0 0 56).bind fun (t36, t37) => ((sweep_crossing_v1.f 0 t37).bind fun _ => (some (0, 0)))))))))))))))))
theorem sweep_masks_v1.ok {S : Seal} {B0 : Nat}  {r0_ : Int} {r1_ : Int} (e : sweep_masks_v1.f  = some (r0_, r1_)) :
    Cal Try.prog 30 [.slice none 0 0, .int .i64 0, .int .i64 0, .int .i64 2, .func (.func 31) #[] #[.pointer (some ⟨B0, 0, none⟩)]] ([⟨B0, [.int .i64 0], 1⟩] : List Own) S fun v H' S' => ∃ N0_, v = .slice (some ⟨N0_, 0, none⟩) 2 2 ∧ H' = ([⟨N0_, [.int .u64 r0_, .int .u64 r1_], 2⟩, ⟨B0, [.int .i64 0], 1⟩] : List Own) ∧ S' = S := by
  unfold sweep_masks_v1.f at e
  refine cal_of (c := c30) (N := 67) Try.func30 rfl rfl (by kernel_rfl) (rs := [.t 10]) (by kernel_rfl) (Nat.le_of_ble_eq_true rfl) ?_
  unfold c30
  refine w_seq ?_
  refine w_reg fun all => ?_
  refine t_qz 1 [0, 1, 2, 3, 4] (σ' := [(0, .slice none 0 0), (1, .int .i64 0), (2, .int .i64 0), (3, .int .i64 2), (4, .func (.func 31) #[] #[.pointer (some ⟨B0, 0, none⟩)])]) (by kernel_rfl) ?_
  refine t_end ?_
  show W _ _ _ _ _ _ _
  refine w_seq ?_
  refine w_seq ?_
  refine w_reg fun all => ?_
  refine t_qz 2 [0, 1, 2, 3, 4, 17] (σ' := [(0, .slice none 0 0), (1, .int .i64 0), (2, .int .i64 0), (3, .int .i64 2), (4, .func (.func 31) #[] #[.pointer (some ⟨B0, 0, none⟩)]), (17, .bool false)]) (by kernel_rfl) ?_
  refine t_end ?_
  show W _ _ _ _ _ _ _
  refine w_cond rfl (fun c_ => by cases c_) (fun _ => ?_)
  show W _ _ _ _ _ _ _
  refine w_skip ?_
  show W _ _ _ _ _ _ _
  refine w_seq ?_
  refine w_reg fun all => ?_
  refine t_qz 1 [0, 1, 2, 3, 4, 18] (σ' := [(0, .slice none 0 0), (1, .int .i64 0), (2, .int .i64 0), (3, .int .i64 2), (4, .func (.func 31) #[] #[.pointer (some ⟨B0, 0, none⟩)]), (18, .int .i64 2)]) (by kernel_rfl) ?_
  refine t_mks (cs := [.int .u64 0, .int .u64 0]) rfl rfl rfl rfl (by decide) (by decide) (by decide) (by decide) (by kernel_rfl) fun b2 fb2 sb2 => ?_
  refine t_qz 1 [0, 1, 2, 3, 4, 11] (σ' := [(0, .slice none 0 0), (1, .int .i64 0), (2, .int .i64 0), (3, .int .i64 2), (4, .func (.func 31) #[] #[.pointer (some ⟨B0, 0, none⟩)]), (11, .slice (some ⟨b2, 0, none⟩) 2 2)]) (by kernel_rfl) ?_
  refine t_end ?_
  show W _ _ _ _ _ _ _
  refine w_seq ?_
  refine w_seq ?_
  refine w_reg fun all => ?_
  refine t_qz 1 [0, 1, 2, 3, 4, 11, 20] (σ' := [(0, .slice none 0 0), (1, .int .i64 0), (2, .int .i64 0), (3, .int .i64 2), (4, .func (.func 31) #[] #[.pointer (some ⟨B0, 0, none⟩)]), (11, .slice (some ⟨b2, 0, none⟩) 2 2), (20, .int .i64 0)]) (by kernel_rfl) ?_
  refine t_end ?_
  show W _ _ _ _ _ _ _
  refine w_block ?_
  refine w_lun 10 ?_
  refine wl_step ?_
  refine w_seq ?_
  refine w_reg fun all => ?_
  refine t_qz 1 [0, 1, 2, 3, 4, 11, 20, 21] (σ' := [(0, .slice none 0 0), (1, .int .i64 0), (2, .int .i64 0), (3, .int .i64 2), (4, .func (.func 31) #[] #[.pointer (some ⟨B0, 0, none⟩)]), (11, .slice (some ⟨b2, 0, none⟩) 2 2), (20, .int .i64 0), (21, .bool true)]) (by kernel_rfl) ?_
  refine t_end ?_
  show W _ _ _ _ _ _ _
  refine w_seq ?_
  refine w_cond rfl (fun _ => ?_) (fun c_ => by cases c_)
  show W _ _ _ _ _ _ _
  refine w_skip ?_
  show W _ _ _ _ _ _ _
  refine w_seq ?_
  refine w_block ?_
  refine w_seq ?_
  refine w_reg fun all => ?_
  refine t_qz 2 [0, 1, 2, 3, 4, 11, 12, 20] (σ' := [(0, .slice none 0 0), (1, .int .i64 0), (2, .int .i64 0), (3, .int .i64 2), (4, .func (.func 31) #[] #[.pointer (some ⟨B0, 0, none⟩)]), (11, .slice (some ⟨b2, 0, none⟩) 2 2), (12, .int .i64 0), (20, .int .i64 0)]) (by kernel_rfl) ?_
  refine t_end ?_
  show W _ _ _ _ _ _ _
  refine w_seq ?_
  refine w_reg fun all => ?_
  obtain ⟨⟨t8, t9⟩, h10, e⟩ := bind_of e
  try dsimp only at e
  refine t_qz 5 [0, 1, 2, 3, 4, 11, 12, 20, 23, 24, 25, 27] (σ' := [(0, .slice none 0 0), (1, .int .i64 0), (2, .int .i64 0), (3, .int .i64 2), (4, .func (.func 31) #[] #[.pointer (some ⟨B0, 0, none⟩)]), (11, .slice (some ⟨b2, 0, none⟩) 2 2), (12, .int .i64 0), (20, .int .i64 0), (23, .slice none 0 0), (24, .int .i64 0), (25, .int .i64 0), (27, .int .i64 0)]) (by kernel_rfl) ?_
  refine t_v (.call (vs := [.int .i64 0, .int .i64 0, .int .i64 0]) rfl rfl (by kernel_rfl) (sweep_Sample.ok h10)) ?_
  obtain ⟨u_, h11, e⟩ := bind_of e
  refine t_qz 1 [0, 1, 2, 3, 4, 11, 12, 20, 23, 24, 29] (σ' := [(0, .slice none 0 0), (1, .int .i64 0), (2, .int .i64 0), (3, .int .i64 2), (4, .func (.func 31) #[] #[.pointer (some ⟨B0, 0, none⟩)]), (11, .slice (some ⟨b2, 0, none⟩) 2 2), (12, .int .i64 0), (20, .int .i64 0), (23, .slice none 0 0), (24, .int .i64 0), (29, .int .i64 t9)]) (by kernel_rfl) ?_
  refine t_v (.call (vs := [.slice none 0 0, .int .i64 0, .int .i64 t9]) rfl rfl (by kernel_rfl) (sweep_crossing_v1.ok h11)) ?_
  refine t_qz 1 [0, 1, 2, 3, 4, 11, 12, 13, 20] (σ' := [(0, .slice none 0 0), (1, .int .i64 0), (2, .int .i64 0), (3, .int .i64 2), (4, .func (.func 31) #[] #[.pointer (some ⟨B0, 0, none⟩)]), (11, .slice (some ⟨b2, 0, none⟩) 2 2), (12, .int .i64 0), (13, .slice none 0 0), (20, .int .i64 0)]) (by kernel_rfl) ?_
  refine t_end ?_
  show W _ _ _ _ _ _ _
  refine w_seq ?_
  refine w_reg fun all => ?_
  refine t_qz 1 [0, 1, 2, 3, 4, 11, 12, 13, 14, 20] (σ' := [(0, .slice none 0 0), (1, .int .i64 0), (2, .int .i64 0), (3, .int .i64 2), (4, .func (.func 31) #[] #[.pointer (some ⟨B0, 0, none⟩)]), (11, .slice (some ⟨b2, 0, none⟩) 2 2), (12, .int .i64 0), (13, .slice none 0 0), (14, .int .i64 0), (20, .int .i64 0)]) (by kernel_rfl) ?_
  refine t_end ?_
  show W _ _ _ _ _ _ _
  refine w_block ?_
  refine w_lun 10 ?_
  refine wl_step ?_
  refine w_seq ?_
  refine w_seq ?_
  refine w_reg fun all => ?_
  refine t_qz 8 [0, 1, 2, 3, 4, 11, 12, 13, 14, 20, 35, 36, 37, 38] (σ' := [(0, .slice none 0 0), (1, .int .i64 0), (2, .int .i64 0), (3, .int .i64 2), (4, .func (.func 31) #[] #[.pointer (some ⟨B0, 0, none⟩)]), (11, .slice (some ⟨b2, 0, none⟩) 2 2), (12, .int .i64 0), (13, .slice none 0 0), (14, .int .i64 0), (20, .int .i64 0), (35, .slice none 0 0), (36, .int .i64 0), (37, .bool false), (38, .bool false)]) (by kernel_rfl) ?_
  refine t_end ?_
  show W _ _ _ _ _ _ _
  refine w_cond rfl (fun c_ => by cases c_) (fun _ => ?_)
  show W _ _ _ _ _ _ _
  refine w_exit ?_
  show W _ _ _ _ _ _ _
  refine w_reg fun all => ?_
  refine t_qz 2 [0, 1, 2, 3, 4, 11, 20, 35, 36, 37] (σ' := [(0, .slice none 0 0), (1, .int .i64 0), (2, .int .i64 0), (3, .int .i64 2), (4, .func (.func 31) #[] #[.pointer (some ⟨B0, 0, none⟩)]), (11, .slice (some ⟨b2, 0, none⟩) 2 2), (20, .int .i64 1), (35, .slice none 0 0), (36, .int .i64 0), (37, .bool false)]) (by kernel_rfl) ?_
  refine t_end ?_
  show WL _ _ _ _ _ _ _ _
  refine wl_step ?_
  refine w_seq ?_
  refine w_reg fun all => ?_
  refine t_qz 1 [0, 1, 2, 3, 4, 11, 20, 21, 35, 36, 37] (σ' := [(0, .slice none 0 0), (1, .int .i64 0), (2, .int .i64 0), (3, .int .i64 2), (4, .func (.func 31) #[] #[.pointer (some ⟨B0, 0, none⟩)]), (11, .slice (some ⟨b2, 0, none⟩) 2 2), (20, .int .i64 1), (21, .bool true), (35, .slice none 0 0), (36, .int .i64 0), (37, .bool false)]) (by kernel_rfl) ?_
  refine t_end ?_
  show W _ _ _ _ _ _ _
  refine w_seq ?_
  refine w_cond rfl (fun _ => ?_) (fun c_ => by cases c_)
  show W _ _ _ _ _ _ _
  refine w_skip ?_
  show W _ _ _ _ _ _ _
  refine w_seq ?_
  refine w_block ?_
  refine w_seq ?_
  refine w_reg fun all => ?_
  refine t_qz 2 [0, 1, 2, 3, 4, 11, 12, 20, 35, 36, 37] (σ' := [(0, .slice none 0 0), (1, .int .i64 0), (2, .int .i64 0), (3, .int .i64 2), (4, .func (.func 31) #[] #[.pointer (some ⟨B0, 0, none⟩)]), (11, .slice (some ⟨b2, 0, none⟩) 2 2), (12, .int .i64 1), (20, .int .i64 1), (35, .slice none 0 0), (36, .int .i64 0), (37, .bool false)]) (by kernel_rfl) ?_
  refine t_end ?_
  show W _ _ _ _ _ _ _
  refine w_seq ?_
  refine w_reg fun all => ?_
  obtain ⟨⟨t12, t13⟩, h14, e⟩ := bind_of e
  try dsimp only at e
  refine t_qz 5 [0, 1, 2, 3, 4, 11, 12, 20, 23, 24, 25, 27, 35, 36, 37] (σ' := [(0, .slice none 0 0), (1, .int .i64 0), (2, .int .i64 0), (3, .int .i64 2), (4, .func (.func 31) #[] #[.pointer (some ⟨B0, 0, none⟩)]), (11, .slice (some ⟨b2, 0, none⟩) 2 2), (12, .int .i64 1), (20, .int .i64 1), (23, .slice none 0 0), (24, .int .i64 0), (25, .int .i64 0), (27, .int .i64 8), (35, .slice none 0 0), (36, .int .i64 0), (37, .bool false)]) (by kernel_rfl) ?_
  refine t_v (.call (vs := [.int .i64 0, .int .i64 0, .int .i64 8]) rfl rfl (by kernel_rfl) (sweep_Sample.ok h14)) ?_
  obtain ⟨u_, h15, e⟩ := bind_of e
  refine t_qz 1 [0, 1, 2, 3, 4, 11, 12, 20, 23, 24, 29, 35, 36, 37] (σ' := [(0, .slice none 0 0), (1, .int .i64 0), (2, .int .i64 0), (3, .int .i64 2), (4, .func (.func 31) #[] #[.pointer (some ⟨B0, 0, none⟩)]), (11, .slice (some ⟨b2, 0, none⟩) 2 2), (12, .int .i64 1), (20, .int .i64 1), (23, .slice none 0 0), (24, .int .i64 0), (29, .int .i64 t13), (35, .slice none 0 0), (36, .int .i64 0), (37, .bool false)]) (by kernel_rfl) ?_
  refine t_v (.call (vs := [.slice none 0 0, .int .i64 0, .int .i64 t13]) rfl rfl (by kernel_rfl) (sweep_crossing_v1.ok h15)) ?_
  refine t_qz 1 [0, 1, 2, 3, 4, 11, 12, 13, 20, 35, 36, 37] (σ' := [(0, .slice none 0 0), (1, .int .i64 0), (2, .int .i64 0), (3, .int .i64 2), (4, .func (.func 31) #[] #[.pointer (some ⟨B0, 0, none⟩)]), (11, .slice (some ⟨b2, 0, none⟩) 2 2), (12, .int .i64 1), (13, .slice none 0 0), (20, .int .i64 1), (35, .slice none 0 0), (36, .int .i64 0), (37, .bool false)]) (by kernel_rfl) ?_
  refine t_end ?_
  show W _ _ _ _ _ _ _
  refine w_seq ?_
  refine w_reg fun all => ?_
  refine t_qz 1 [0, 1, 2, 3, 4, 11, 12, 13, 14, 20, 35, 36, 37] (σ' := [(0, .slice none 0 0), (1, .int .i64 0), (2, .int .i64 0), (3, .int .i64 2), (4, .func (.func 31) #[] #[.pointer (some ⟨B0, 0, none⟩)]), (11, .slice (some ⟨b2, 0, none⟩) 2 2), (12, .int .i64 1), (13, .slice none 0 0), (14, .int .i64 0), (20, .int .i64 1), (35, .slice none 0 0), (36, .int .i64 0), (37, .bool false)]) (by kernel_rfl) ?_
  refine t_end ?_
  show W _ _ _ _ _ _ _
  refine w_block ?_
  refine w_lun 10 ?_
  refine wl_step ?_
  refine w_seq ?_
  refine w_seq ?_
  refine w_reg fun all => ?_
  refine t_qz 8 [0, 1, 2, 3, 4, 11, 12, 13, 14, 20, 35, 36, 37, 38] (σ' := [(0, .slice none 0 0), (1, .int .i64 0), (2, .int .i64 0), (3, .int .i64 2), (4, .func (.func 31) #[] #[.pointer (some ⟨B0, 0, none⟩)]), (11, .slice (some ⟨b2, 0, none⟩) 2 2), (12, .int .i64 1), (13, .slice none 0 0), (14, .int .i64 0), (20, .int .i64 1), (35, .slice none 0 0), (36, .int .i64 0), (37, .bool false), (38, .bool false)]) (by kernel_rfl) ?_
  refine t_end ?_
  show W _ _ _ _ _ _ _
  refine w_cond rfl (fun c_ => by cases c_) (fun _ => ?_)
  show W _ _ _ _ _ _ _
  refine w_exit ?_
  show W _ _ _ _ _ _ _
  refine w_reg fun all => ?_
  refine t_qz 2 [0, 1, 2, 3, 4, 11, 20, 35, 36, 37] (σ' := [(0, .slice none 0 0), (1, .int .i64 0), (2, .int .i64 0), (3, .int .i64 2), (4, .func (.func 31) #[] #[.pointer (some ⟨B0, 0, none⟩)]), (11, .slice (some ⟨b2, 0, none⟩) 2 2), (20, .int .i64 2), (35, .slice none 0 0), (36, .int .i64 0), (37, .bool false)]) (by kernel_rfl) ?_
  refine t_end ?_
  show WL _ _ _ _ _ _ _ _
  refine wl_step ?_
  refine w_seq ?_
  refine w_reg fun all => ?_
  refine t_qz 1 [0, 1, 2, 3, 4, 11, 20, 21, 35, 36, 37] (σ' := [(0, .slice none 0 0), (1, .int .i64 0), (2, .int .i64 0), (3, .int .i64 2), (4, .func (.func 31) #[] #[.pointer (some ⟨B0, 0, none⟩)]), (11, .slice (some ⟨b2, 0, none⟩) 2 2), (20, .int .i64 2), (21, .bool true), (35, .slice none 0 0), (36, .int .i64 0), (37, .bool false)]) (by kernel_rfl) ?_
  refine t_end ?_
  show W _ _ _ _ _ _ _
  refine w_seq ?_
  refine w_cond rfl (fun _ => ?_) (fun c_ => by cases c_)
  show W _ _ _ _ _ _ _
  refine w_skip ?_
  show W _ _ _ _ _ _ _
  refine w_seq ?_
  refine w_block ?_
  refine w_seq ?_
  refine w_reg fun all => ?_
  refine t_qz 2 [0, 1, 2, 3, 4, 11, 12, 20, 35, 36, 37] (σ' := [(0, .slice none 0 0), (1, .int .i64 0), (2, .int .i64 0), (3, .int .i64 2), (4, .func (.func 31) #[] #[.pointer (some ⟨B0, 0, none⟩)]), (11, .slice (some ⟨b2, 0, none⟩) 2 2), (12, .int .i64 2), (20, .int .i64 2), (35, .slice none 0 0), (36, .int .i64 0), (37, .bool false)]) (by kernel_rfl) ?_
  refine t_end ?_
  show W _ _ _ _ _ _ _
  refine w_seq ?_
  refine w_reg fun all => ?_
  obtain ⟨⟨t16, t17⟩, h18, e⟩ := bind_of e
  try dsimp only at e
  refine t_qz 5 [0, 1, 2, 3, 4, 11, 12, 20, 23, 24, 25, 27, 35, 36, 37] (σ' := [(0, .slice none 0 0), (1, .int .i64 0), (2, .int .i64 0), (3, .int .i64 2), (4, .func (.func 31) #[] #[.pointer (some ⟨B0, 0, none⟩)]), (11, .slice (some ⟨b2, 0, none⟩) 2 2), (12, .int .i64 2), (20, .int .i64 2), (23, .slice none 0 0), (24, .int .i64 0), (25, .int .i64 0), (27, .int .i64 16), (35, .slice none 0 0), (36, .int .i64 0), (37, .bool false)]) (by kernel_rfl) ?_
  refine t_v (.call (vs := [.int .i64 0, .int .i64 0, .int .i64 16]) rfl rfl (by kernel_rfl) (sweep_Sample.ok h18)) ?_
  obtain ⟨u_, h19, e⟩ := bind_of e
  refine t_qz 1 [0, 1, 2, 3, 4, 11, 12, 20, 23, 24, 29, 35, 36, 37] (σ' := [(0, .slice none 0 0), (1, .int .i64 0), (2, .int .i64 0), (3, .int .i64 2), (4, .func (.func 31) #[] #[.pointer (some ⟨B0, 0, none⟩)]), (11, .slice (some ⟨b2, 0, none⟩) 2 2), (12, .int .i64 2), (20, .int .i64 2), (23, .slice none 0 0), (24, .int .i64 0), (29, .int .i64 t17), (35, .slice none 0 0), (36, .int .i64 0), (37, .bool false)]) (by kernel_rfl) ?_
  refine t_v (.call (vs := [.slice none 0 0, .int .i64 0, .int .i64 t17]) rfl rfl (by kernel_rfl) (sweep_crossing_v1.ok h19)) ?_
  refine t_qz 1 [0, 1, 2, 3, 4, 11, 12, 13, 20, 35, 36, 37] (σ' := [(0, .slice none 0 0), (1, .int .i64 0), (2, .int .i64 0), (3, .int .i64 2), (4, .func (.func 31) #[] #[.pointer (some ⟨B0, 0, none⟩)]), (11, .slice (some ⟨b2, 0, none⟩) 2 2), (12, .int .i64 2), (13, .slice none 0 0), (20, .int .i64 2), (35, .slice none 0 0), (36, .int .i64 0), (37, .bool false)]) (by kernel_rfl) ?_
  refine t_end ?_
  show W _ _ _ _ _ _ _
  refine w_seq ?_
  refine w_reg fun all => ?_
  refine t_qz 1 [0, 1, 2, 3, 4, 11, 12, 13, 14, 20, 35, 36, 37] (σ' := [(0, .slice none 0 0), (1, .int .i64 0), (2, .int .i64 0), (3, .int .i64 2), (4, .func (.func 31) #[] #[.pointer (some ⟨B0, 0, none⟩)]), (11, .slice (some ⟨b2, 0, none⟩) 2 2), (12, .int .i64 2), (13, .slice none 0 0), (14, .int .i64 0), (20, .int .i64 2), (35, .slice none 0 0), (36, .int .i64 0), (37, .bool false)]) (by kernel_rfl) ?_
  refine t_end ?_
  show W _ _ _ _ _ _ _
  refine w_block ?_
  refine w_lun 10 ?_
  refine wl_step ?_
  refine w_seq ?_
  refine w_seq ?_
  refine w_reg fun all => ?_
  refine t_qz 8 [0, 1, 2, 3, 4, 11, 12, 13, 14, 20, 35, 36, 37, 38] (σ' := [(0, .slice none 0 0), (1, .int .i64 0), (2, .int .i64 0), (3, .int .i64 2), (4, .func (.func 31) #[] #[.pointer (some ⟨B0, 0, none⟩)]), (11, .slice (some ⟨b2, 0, none⟩) 2 2), (12, .int .i64 2), (13, .slice none 0 0), (14, .int .i64 0), (20, .int .i64 2), (35, .slice none 0 0), (36, .int .i64 0), (37, .bool false), (38, .bool false)]) (by kernel_rfl) ?_
  refine t_end ?_
  show W _ _ _ _ _ _ _
  refine w_cond rfl (fun c_ => by cases c_) (fun _ => ?_)
  show W _ _ _ _ _ _ _
  refine w_exit ?_
  show W _ _ _ _ _ _ _
  refine w_reg fun all => ?_
  refine t_qz 2 [0, 1, 2, 3, 4, 11, 20, 35, 36, 37] (σ' := [(0, .slice none 0 0), (1, .int .i64 0), (2, .int .i64 0), (3, .int .i64 2), (4, .func (.func 31) #[] #[.pointer (some ⟨B0, 0, none⟩)]), (11, .slice (some ⟨b2, 0, none⟩) 2 2), (20, .int .i64 3), (35, .slice none 0 0), (36, .int .i64 0), (37, .bool false)]) (by kernel_rfl) ?_
  refine t_end ?_
  show WL _ _ _ _ _ _ _ _
  refine wl_step ?_
  refine w_seq ?_
  refine w_reg fun all => ?_
  refine t_qz 1 [0, 1, 2, 3, 4, 11, 20, 21, 35, 36, 37] (σ' := [(0, .slice none 0 0), (1, .int .i64 0), (2, .int .i64 0), (3, .int .i64 2), (4, .func (.func 31) #[] #[.pointer (some ⟨B0, 0, none⟩)]), (11, .slice (some ⟨b2, 0, none⟩) 2 2), (20, .int .i64 3), (21, .bool true), (35, .slice none 0 0), (36, .int .i64 0), (37, .bool false)]) (by kernel_rfl) ?_
  refine t_end ?_
  show W _ _ _ _ _ _ _
  refine w_seq ?_
  refine w_cond rfl (fun _ => ?_) (fun c_ => by cases c_)
  show W _ _ _ _ _ _ _
  refine w_skip ?_
  show W _ _ _ _ _ _ _
  refine w_seq ?_
  refine w_block ?_
  refine w_seq ?_
  refine w_reg fun all => ?_
  refine t_qz 2 [0, 1, 2, 3, 4, 11, 12, 20, 35, 36, 37] (σ' := [(0, .slice none 0 0), (1, .int .i64 0), (2, .int .i64 0), (3, .int .i64 2), (4, .func (.func 31) #[] #[.pointer (some ⟨B0, 0, none⟩)]), (11, .slice (some ⟨b2, 0, none⟩) 2 2), (12, .int .i64 3), (20, .int .i64 3), (35, .slice none 0 0), (36, .int .i64 0), (37, .bool false)]) (by kernel_rfl) ?_
  refine t_end ?_
  show W _ _ _ _ _ _ _
  refine w_seq ?_
  refine w_reg fun all => ?_
  obtain ⟨⟨t20, t21⟩, h22, e⟩ := bind_of e
  try dsimp only at e
  refine t_qz 5 [0, 1, 2, 3, 4, 11, 12, 20, 23, 24, 25, 27, 35, 36, 37] (σ' := [(0, .slice none 0 0), (1, .int .i64 0), (2, .int .i64 0), (3, .int .i64 2), (4, .func (.func 31) #[] #[.pointer (some ⟨B0, 0, none⟩)]), (11, .slice (some ⟨b2, 0, none⟩) 2 2), (12, .int .i64 3), (20, .int .i64 3), (23, .slice none 0 0), (24, .int .i64 0), (25, .int .i64 0), (27, .int .i64 24), (35, .slice none 0 0), (36, .int .i64 0), (37, .bool false)]) (by kernel_rfl) ?_
  refine t_v (.call (vs := [.int .i64 0, .int .i64 0, .int .i64 24]) rfl rfl (by kernel_rfl) (sweep_Sample.ok h22)) ?_
  obtain ⟨u_, h23, e⟩ := bind_of e
  refine t_qz 1 [0, 1, 2, 3, 4, 11, 12, 20, 23, 24, 29, 35, 36, 37] (σ' := [(0, .slice none 0 0), (1, .int .i64 0), (2, .int .i64 0), (3, .int .i64 2), (4, .func (.func 31) #[] #[.pointer (some ⟨B0, 0, none⟩)]), (11, .slice (some ⟨b2, 0, none⟩) 2 2), (12, .int .i64 3), (20, .int .i64 3), (23, .slice none 0 0), (24, .int .i64 0), (29, .int .i64 t21), (35, .slice none 0 0), (36, .int .i64 0), (37, .bool false)]) (by kernel_rfl) ?_
  refine t_v (.call (vs := [.slice none 0 0, .int .i64 0, .int .i64 t21]) rfl rfl (by kernel_rfl) (sweep_crossing_v1.ok h23)) ?_
  refine t_qz 1 [0, 1, 2, 3, 4, 11, 12, 13, 20, 35, 36, 37] (σ' := [(0, .slice none 0 0), (1, .int .i64 0), (2, .int .i64 0), (3, .int .i64 2), (4, .func (.func 31) #[] #[.pointer (some ⟨B0, 0, none⟩)]), (11, .slice (some ⟨b2, 0, none⟩) 2 2), (12, .int .i64 3), (13, .slice none 0 0), (20, .int .i64 3), (35, .slice none 0 0), (36, .int .i64 0), (37, .bool false)]) (by kernel_rfl) ?_
  refine t_end ?_
  show W _ _ _ _ _ _ _
  refine w_seq ?_
  refine w_reg fun all => ?_
  refine t_qz 1 [0, 1, 2, 3, 4, 11, 12, 13, 14, 20, 35, 36, 37] (σ' := [(0, .slice none 0 0), (1, .int .i64 0), (2, .int .i64 0), (3, .int .i64 2), (4, .func (.func 31) #[] #[.pointer (some ⟨B0, 0, none⟩)]), (11, .slice (some ⟨b2, 0, none⟩) 2 2), (12, .int .i64 3), (13, .slice none 0 0), (14, .int .i64 0), (20, .int .i64 3), (35, .slice none 0 0), (36, .int .i64 0), (37, .bool false)]) (by kernel_rfl) ?_
  refine t_end ?_
  show W _ _ _ _ _ _ _
  refine w_block ?_
  refine w_lun 10 ?_
  refine wl_step ?_
  refine w_seq ?_
  refine w_seq ?_
  refine w_reg fun all => ?_
  refine t_qz 8 [0, 1, 2, 3, 4, 11, 12, 13, 14, 20, 35, 36, 37, 38] (σ' := [(0, .slice none 0 0), (1, .int .i64 0), (2, .int .i64 0), (3, .int .i64 2), (4, .func (.func 31) #[] #[.pointer (some ⟨B0, 0, none⟩)]), (11, .slice (some ⟨b2, 0, none⟩) 2 2), (12, .int .i64 3), (13, .slice none 0 0), (14, .int .i64 0), (20, .int .i64 3), (35, .slice none 0 0), (36, .int .i64 0), (37, .bool false), (38, .bool false)]) (by kernel_rfl) ?_
  refine t_end ?_
  show W _ _ _ _ _ _ _
  refine w_cond rfl (fun c_ => by cases c_) (fun _ => ?_)
  show W _ _ _ _ _ _ _
  refine w_exit ?_
  show W _ _ _ _ _ _ _
  refine w_reg fun all => ?_
  refine t_qz 2 [0, 1, 2, 3, 4, 11, 20, 35, 36, 37] (σ' := [(0, .slice none 0 0), (1, .int .i64 0), (2, .int .i64 0), (3, .int .i64 2), (4, .func (.func 31) #[] #[.pointer (some ⟨B0, 0, none⟩)]), (11, .slice (some ⟨b2, 0, none⟩) 2 2), (20, .int .i64 4), (35, .slice none 0 0), (36, .int .i64 0), (37, .bool false)]) (by kernel_rfl) ?_
  refine t_end ?_
  show WL _ _ _ _ _ _ _ _
  refine wl_step ?_
  refine w_seq ?_
  refine w_reg fun all => ?_
  refine t_qz 1 [0, 1, 2, 3, 4, 11, 20, 21, 35, 36, 37] (σ' := [(0, .slice none 0 0), (1, .int .i64 0), (2, .int .i64 0), (3, .int .i64 2), (4, .func (.func 31) #[] #[.pointer (some ⟨B0, 0, none⟩)]), (11, .slice (some ⟨b2, 0, none⟩) 2 2), (20, .int .i64 4), (21, .bool true), (35, .slice none 0 0), (36, .int .i64 0), (37, .bool false)]) (by kernel_rfl) ?_
  refine t_end ?_
  show W _ _ _ _ _ _ _
  refine w_seq ?_
  refine w_cond rfl (fun _ => ?_) (fun c_ => by cases c_)
  show W _ _ _ _ _ _ _
  refine w_skip ?_
  show W _ _ _ _ _ _ _
  refine w_seq ?_
  refine w_block ?_
  refine w_seq ?_
  refine w_reg fun all => ?_
  refine t_qz 2 [0, 1, 2, 3, 4, 11, 12, 20, 35, 36, 37] (σ' := [(0, .slice none 0 0), (1, .int .i64 0), (2, .int .i64 0), (3, .int .i64 2), (4, .func (.func 31) #[] #[.pointer (some ⟨B0, 0, none⟩)]), (11, .slice (some ⟨b2, 0, none⟩) 2 2), (12, .int .i64 4), (20, .int .i64 4), (35, .slice none 0 0), (36, .int .i64 0), (37, .bool false)]) (by kernel_rfl) ?_
  refine t_end ?_
  show W _ _ _ _ _ _ _
  refine w_seq ?_
  refine w_reg fun all => ?_
  obtain ⟨⟨t24, t25⟩, h26, e⟩ := bind_of e
  try dsimp only at e
  refine t_qz 5 [0, 1, 2, 3, 4, 11, 12, 20, 23, 24, 25, 27, 35, 36, 37] (σ' := [(0, .slice none 0 0), (1, .int .i64 0), (2, .int .i64 0), (3, .int .i64 2), (4, .func (.func 31) #[] #[.pointer (some ⟨B0, 0, none⟩)]), (11, .slice (some ⟨b2, 0, none⟩) 2 2), (12, .int .i64 4), (20, .int .i64 4), (23, .slice none 0 0), (24, .int .i64 0), (25, .int .i64 0), (27, .int .i64 32), (35, .slice none 0 0), (36, .int .i64 0), (37, .bool false)]) (by kernel_rfl) ?_
  refine t_v (.call (vs := [.int .i64 0, .int .i64 0, .int .i64 32]) rfl rfl (by kernel_rfl) (sweep_Sample.ok h26)) ?_
  obtain ⟨u_, h27, e⟩ := bind_of e
  refine t_qz 1 [0, 1, 2, 3, 4, 11, 12, 20, 23, 24, 29, 35, 36, 37] (σ' := [(0, .slice none 0 0), (1, .int .i64 0), (2, .int .i64 0), (3, .int .i64 2), (4, .func (.func 31) #[] #[.pointer (some ⟨B0, 0, none⟩)]), (11, .slice (some ⟨b2, 0, none⟩) 2 2), (12, .int .i64 4), (20, .int .i64 4), (23, .slice none 0 0), (24, .int .i64 0), (29, .int .i64 t25), (35, .slice none 0 0), (36, .int .i64 0), (37, .bool false)]) (by kernel_rfl) ?_
  refine t_v (.call (vs := [.slice none 0 0, .int .i64 0, .int .i64 t25]) rfl rfl (by kernel_rfl) (sweep_crossing_v1.ok h27)) ?_
  refine t_qz 1 [0, 1, 2, 3, 4, 11, 12, 13, 20, 35, 36, 37] (σ' := [(0, .slice none 0 0), (1, .int .i64 0), (2, .int .i64 0), (3, .int .i64 2), (4, .func (.func 31) #[] #[.pointer (some ⟨B0, 0, none⟩)]), (11, .slice (some ⟨b2, 0, none⟩) 2 2), (12, .int .i64 4), (13, .slice none 0 0), (20, .int .i64 4), (35, .slice none 0 0), (36, .int .i64 0), (37, .bool false)]) (by kernel_rfl) ?_
  refine t_end ?_
  show W _ _ _ _ _ _ _
  refine w_seq ?_
  refine w_reg fun all => ?_
  refine t_qz 1 [0, 1, 2, 3, 4, 11, 12, 13, 14, 20, 35, 36, 37] (σ' := [(0, .slice none 0 0), (1, .int .i64 0), (2, .int .i64 0), (3, .int .i64 2), (4, .func (.func 31) #[] #[.pointer (some ⟨B0, 0, none⟩)]), (11, .slice (some ⟨b2, 0, none⟩) 2 2), (12, .int .i64 4), (13, .slice none 0 0), (14, .int .i64 0), (20, .int .i64 4), (35, .slice none 0 0), (36, .int .i64 0), (37, .bool false)]) (by kernel_rfl) ?_
  refine t_end ?_
  show W _ _ _ _ _ _ _
  refine w_block ?_
  refine w_lun 10 ?_
  refine wl_step ?_
  refine w_seq ?_
  refine w_seq ?_
  refine w_reg fun all => ?_
  refine t_qz 8 [0, 1, 2, 3, 4, 11, 12, 13, 14, 20, 35, 36, 37, 38] (σ' := [(0, .slice none 0 0), (1, .int .i64 0), (2, .int .i64 0), (3, .int .i64 2), (4, .func (.func 31) #[] #[.pointer (some ⟨B0, 0, none⟩)]), (11, .slice (some ⟨b2, 0, none⟩) 2 2), (12, .int .i64 4), (13, .slice none 0 0), (14, .int .i64 0), (20, .int .i64 4), (35, .slice none 0 0), (36, .int .i64 0), (37, .bool false), (38, .bool false)]) (by kernel_rfl) ?_
  refine t_end ?_
  show W _ _ _ _ _ _ _
  refine w_cond rfl (fun c_ => by cases c_) (fun _ => ?_)
  show W _ _ _ _ _ _ _
  refine w_exit ?_
  show W _ _ _ _ _ _ _
  refine w_reg fun all => ?_
  refine t_qz 2 [0, 1, 2, 3, 4, 11, 20, 35, 36, 37] (σ' := [(0, .slice none 0 0), (1, .int .i64 0), (2, .int .i64 0), (3, .int .i64 2), (4, .func (.func 31) #[] #[.pointer (some ⟨B0, 0, none⟩)]), (11, .slice (some ⟨b2, 0, none⟩) 2 2), (20, .int .i64 5), (35, .slice none 0 0), (36, .int .i64 0), (37, .bool false)]) (by kernel_rfl) ?_
  refine t_end ?_
  show WL _ _ _ _ _ _ _ _
  refine wl_step ?_
  refine w_seq ?_
  refine w_reg fun all => ?_
  refine t_qz 1 [0, 1, 2, 3, 4, 11, 20, 21, 35, 36, 37] (σ' := [(0, .slice none 0 0), (1, .int .i64 0), (2, .int .i64 0), (3, .int .i64 2), (4, .func (.func 31) #[] #[.pointer (some ⟨B0, 0, none⟩)]), (11, .slice (some ⟨b2, 0, none⟩) 2 2), (20, .int .i64 5), (21, .bool true), (35, .slice none 0 0), (36, .int .i64 0), (37, .bool false)]) (by kernel_rfl) ?_
  refine t_end ?_
  show W _ _ _ _ _ _ _
  refine w_seq ?_
  refine w_cond rfl (fun _ => ?_) (fun c_ => by cases c_)
  show W _ _ _ _ _ _ _
  refine w_skip ?_
  show W _ _ _ _ _ _ _
  refine w_seq ?_
  refine w_block ?_
  refine w_seq ?_
  refine w_reg fun all => ?_
  refine t_qz 2 [0, 1, 2, 3, 4, 11, 12, 20, 35, 36, 37] (σ' := [(0, .slice none 0 0), (1, .int .i64 0), (2, .int .i64 0), (3, .int .i64 2), (4, .func (.func 31) #[] #[.pointer (some ⟨B0, 0, none⟩)]), (11, .slice (some ⟨b2, 0, none⟩) 2 2), (12, .int .i64 5), (20, .int .i64 5), (35, .slice none 0 0), (36, .int .i64 0), (37, .bool false)]) (by kernel_rfl) ?_
  refine t_end ?_
  show W _ _ _ _ _ _ _
  refine w_seq ?_
  refine w_reg fun all => ?_
  obtain ⟨⟨t28, t29⟩, h30, e⟩ := bind_of e
  try dsimp only at e
  refine t_qz 5 [0, 1, 2, 3, 4, 11, 12, 20, 23, 24, 25, 27, 35, 36, 37] (σ' := [(0, .slice none 0 0), (1, .int .i64 0), (2, .int .i64 0), (3, .int .i64 2), (4, .func (.func 31) #[] #[.pointer (some ⟨B0, 0, none⟩)]), (11, .slice (some ⟨b2, 0, none⟩) 2 2), (12, .int .i64 5), (20, .int .i64 5), (23, .slice none 0 0), (24, .int .i64 0), (25, .int .i64 0), (27, .int .i64 40), (35, .slice none 0 0), (36, .int .i64 0), (37, .bool false)]) (by kernel_rfl) ?_
  refine t_v (.call (vs := [.int .i64 0, .int .i64 0, .int .i64 40]) rfl rfl (by kernel_rfl) (sweep_Sample.ok h30)) ?_
  obtain ⟨u_, h31, e⟩ := bind_of e
  refine t_qz 1 [0, 1, 2, 3, 4, 11, 12, 20, 23, 24, 29, 35, 36, 37] (σ' := [(0, .slice none 0 0), (1, .int .i64 0), (2, .int .i64 0), (3, .int .i64 2), (4, .func (.func 31) #[] #[.pointer (some ⟨B0, 0, none⟩)]), (11, .slice (some ⟨b2, 0, none⟩) 2 2), (12, .int .i64 5), (20, .int .i64 5), (23, .slice none 0 0), (24, .int .i64 0), (29, .int .i64 t29), (35, .slice none 0 0), (36, .int .i64 0), (37, .bool false)]) (by kernel_rfl) ?_
  refine t_v (.call (vs := [.slice none 0 0, .int .i64 0, .int .i64 t29]) rfl rfl (by kernel_rfl) (sweep_crossing_v1.ok h31)) ?_
  refine t_qz 1 [0, 1, 2, 3, 4, 11, 12, 13, 20, 35, 36, 37] (σ' := [(0, .slice none 0 0), (1, .int .i64 0), (2, .int .i64 0), (3, .int .i64 2), (4, .func (.func 31) #[] #[.pointer (some ⟨B0, 0, none⟩)]), (11, .slice (some ⟨b2, 0, none⟩) 2 2), (12, .int .i64 5), (13, .slice none 0 0), (20, .int .i64 5), (35, .slice none 0 0), (36, .int .i64 0), (37, .bool false)]) (by kernel_rfl) ?_
  refine t_end ?_
  show W _ _ _ _ _ _ _
  refine w_seq ?_
  refine w_reg fun all => ?_
  refine t_qz 1 [0, 1, 2, 3, 4, 11, 12, 13, 14, 20, 35, 36, 37] (σ' := [(0, .slice none 0 0), (1, .int .i64 0), (2, .int .i64 0), (3, .int .i64 2), (4, .func (.func 31) #[] #[.pointer (some ⟨B0, 0, none⟩)]), (11, .slice (some ⟨b2, 0, none⟩) 2 2), (12, .int .i64 5), (13, .slice none 0 0), (14, .int .i64 0), (20, .int .i64 5), (35, .slice none 0 0), (36, .int .i64 0), (37, .bool false)]) (by kernel_rfl) ?_
  refine t_end ?_
  show W _ _ _ _ _ _ _
  refine w_block ?_
  refine w_lun 10 ?_
  refine wl_step ?_
  refine w_seq ?_
  refine w_seq ?_
  refine w_reg fun all => ?_
  refine t_qz 8 [0, 1, 2, 3, 4, 11, 12, 13, 14, 20, 35, 36, 37, 38] (σ' := [(0, .slice none 0 0), (1, .int .i64 0), (2, .int .i64 0), (3, .int .i64 2), (4, .func (.func 31) #[] #[.pointer (some ⟨B0, 0, none⟩)]), (11, .slice (some ⟨b2, 0, none⟩) 2 2), (12, .int .i64 5), (13, .slice none 0 0), (14, .int .i64 0), (20, .int .i64 5), (35, .slice none 0 0), (36, .int .i64 0), (37, .bool false), (38, .bool false)]) (by kernel_rfl) ?_
  refine t_end ?_
  show W _ _ _ _ _ _ _
  refine w_cond rfl (fun c_ => by cases c_) (fun _ => ?_)
  show W _ _ _ _ _ _ _
  refine w_exit ?_
  show W _ _ _ _ _ _ _
  refine w_reg fun all => ?_
  refine t_qz 2 [0, 1, 2, 3, 4, 11, 20, 35, 36, 37] (σ' := [(0, .slice none 0 0), (1, .int .i64 0), (2, .int .i64 0), (3, .int .i64 2), (4, .func (.func 31) #[] #[.pointer (some ⟨B0, 0, none⟩)]), (11, .slice (some ⟨b2, 0, none⟩) 2 2), (20, .int .i64 6), (35, .slice none 0 0), (36, .int .i64 0), (37, .bool false)]) (by kernel_rfl) ?_
  refine t_end ?_
  show WL _ _ _ _ _ _ _ _
  refine wl_step ?_
  refine w_seq ?_
  refine w_reg fun all => ?_
  refine t_qz 1 [0, 1, 2, 3, 4, 11, 20, 21, 35, 36, 37] (σ' := [(0, .slice none 0 0), (1, .int .i64 0), (2, .int .i64 0), (3, .int .i64 2), (4, .func (.func 31) #[] #[.pointer (some ⟨B0, 0, none⟩)]), (11, .slice (some ⟨b2, 0, none⟩) 2 2), (20, .int .i64 6), (21, .bool true), (35, .slice none 0 0), (36, .int .i64 0), (37, .bool false)]) (by kernel_rfl) ?_
  refine t_end ?_
  show W _ _ _ _ _ _ _
  refine w_seq ?_
  refine w_cond rfl (fun _ => ?_) (fun c_ => by cases c_)
  show W _ _ _ _ _ _ _
  refine w_skip ?_
  show W _ _ _ _ _ _ _
  refine w_seq ?_
  refine w_block ?_
  refine w_seq ?_
  refine w_reg fun all => ?_
  refine t_qz 2 [0, 1, 2, 3, 4, 11, 12, 20, 35, 36, 37] (σ' := [(0, .slice none 0 0), (1, .int .i64 0), (2, .int .i64 0), (3, .int .i64 2), (4, .func (.func 31) #[] #[.pointer (some ⟨B0, 0, none⟩)]), (11, .slice (some ⟨b2, 0, none⟩) 2 2), (12, .int .i64 6), (20, .int .i64 6), (35, .slice none 0 0), (36, .int .i64 0), (37, .bool false)]) (by kernel_rfl) ?_
  refine t_end ?_
  show W _ _ _ _ _ _ _
  refine w_seq ?_
  refine w_reg fun all => ?_
  obtain ⟨⟨t32, t33⟩, h34, e⟩ := bind_of e
  try dsimp only at e
  refine t_qz 5 [0, 1, 2, 3, 4, 11, 12, 20, 23, 24, 25, 27, 35, 36, 37] (σ' := [(0, .slice none 0 0), (1, .int .i64 0), (2, .int .i64 0), (3, .int .i64 2), (4, .func (.func 31) #[] #[.pointer (some ⟨B0, 0, none⟩)]), (11, .slice (some ⟨b2, 0, none⟩) 2 2), (12, .int .i64 6), (20, .int .i64 6), (23, .slice none 0 0), (24, .int .i64 0), (25, .int .i64 0), (27, .int .i64 48), (35, .slice none 0 0), (36, .int .i64 0), (37, .bool false)]) (by kernel_rfl) ?_
  refine t_v (.call (vs := [.int .i64 0, .int .i64 0, .int .i64 48]) rfl rfl (by kernel_rfl) (sweep_Sample.ok h34)) ?_
  obtain ⟨u_, h35, e⟩ := bind_of e
  refine t_qz 1 [0, 1, 2, 3, 4, 11, 12, 20, 23, 24, 29, 35, 36, 37] (σ' := [(0, .slice none 0 0), (1, .int .i64 0), (2, .int .i64 0), (3, .int .i64 2), (4, .func (.func 31) #[] #[.pointer (some ⟨B0, 0, none⟩)]), (11, .slice (some ⟨b2, 0, none⟩) 2 2), (12, .int .i64 6), (20, .int .i64 6), (23, .slice none 0 0), (24, .int .i64 0), (29, .int .i64 t33), (35, .slice none 0 0), (36, .int .i64 0), (37, .bool false)]) (by kernel_rfl) ?_
  refine t_v (.call (vs := [.slice none 0 0, .int .i64 0, .int .i64 t33]) rfl rfl (by kernel_rfl) (sweep_crossing_v1.ok h35)) ?_
  refine t_qz 1 [0, 1, 2, 3, 4, 11, 12, 13, 20, 35, 36, 37] (σ' := [(0, .slice none 0 0), (1, .int .i64 0), (2, .int .i64 0), (3, .int .i64 2), (4, .func (.func 31) #[] #[.pointer (some ⟨B0, 0, none⟩)]), (11, .slice (some ⟨b2, 0, none⟩) 2 2), (12, .int .i64 6), (13, .slice none 0 0), (20, .int .i64 6), (35, .slice none 0 0), (36, .int .i64 0), (37, .bool false)]) (by kernel_rfl) ?_
  refine t_end ?_
  show W _ _ _ _ _ _ _
  refine w_seq ?_
  refine w_reg fun all => ?_
  refine t_qz 1 [0, 1, 2, 3, 4, 11, 12, 13, 14, 20, 35, 36, 37] (σ' := [(0, .slice none 0 0), (1, .int .i64 0), (2, .int .i64 0), (3, .int .i64 2), (4, .func (.func 31) #[] #[.pointer (some ⟨B0, 0, none⟩)]), (11, .slice (some ⟨b2, 0, none⟩) 2 2), (12, .int .i64 6), (13, .slice none 0 0), (14, .int .i64 0), (20, .int .i64 6), (35, .slice none 0 0), (36, .int .i64 0), (37, .bool false)]) (by kernel_rfl) ?_
  refine t_end ?_
  show W _ _ _ _ _ _ _
  refine w_block ?_
  refine w_lun 10 ?_
  refine wl_step ?_
  refine w_seq ?_
  refine w_seq ?_
  refine w_reg fun all => ?_
  refine t_qz 8 [0, 1, 2, 3, 4, 11, 12, 13, 14, 20, 35, 36, 37, 38] (σ' := [(0, .slice none 0 0), (1, .int .i64 0), (2, .int .i64 0), (3, .int .i64 2), (4, .func (.func 31) #[] #[.pointer (some ⟨B0, 0, none⟩)]), (11, .slice (some ⟨b2, 0, none⟩) 2 2), (12, .int .i64 6), (13, .slice none 0 0), (14, .int .i64 0), (20, .int .i64 6), (35, .slice none 0 0), (36, .int .i64 0), (37, .bool false), (38, .bool false)]) (by kernel_rfl) ?_
  refine t_end ?_
  show W _ _ _ _ _ _ _
  refine w_cond rfl (fun c_ => by cases c_) (fun _ => ?_)
  show W _ _ _ _ _ _ _
  refine w_exit ?_
  show W _ _ _ _ _ _ _
  refine w_reg fun all => ?_
  refine t_qz 2 [0, 1, 2, 3, 4, 11, 20, 35, 36, 37] (σ' := [(0, .slice none 0 0), (1, .int .i64 0), (2, .int .i64 0), (3, .int .i64 2), (4, .func (.func 31) #[] #[.pointer (some ⟨B0, 0, none⟩)]), (11, .slice (some ⟨b2, 0, none⟩) 2 2), (20, .int .i64 7), (35, .slice none 0 0), (36, .int .i64 0), (37, .bool false)]) (by kernel_rfl) ?_
  refine t_end ?_
  show WL _ _ _ _ _ _ _ _
  refine wl_step ?_
  refine w_seq ?_
  refine w_reg fun all => ?_
  refine t_qz 1 [0, 1, 2, 3, 4, 11, 20, 21, 35, 36, 37] (σ' := [(0, .slice none 0 0), (1, .int .i64 0), (2, .int .i64 0), (3, .int .i64 2), (4, .func (.func 31) #[] #[.pointer (some ⟨B0, 0, none⟩)]), (11, .slice (some ⟨b2, 0, none⟩) 2 2), (20, .int .i64 7), (21, .bool true), (35, .slice none 0 0), (36, .int .i64 0), (37, .bool false)]) (by kernel_rfl) ?_
  refine t_end ?_
  show W _ _ _ _ _ _ _
  refine w_seq ?_
  refine w_cond rfl (fun _ => ?_) (fun c_ => by cases c_)
  show W _ _ _ _ _ _ _
  refine w_skip ?_
  show W _ _ _ _ _ _ _
  refine w_seq ?_
  refine w_block ?_
  refine w_seq ?_
  refine w_reg fun all => ?_
  refine t_qz 2 [0, 1, 2, 3, 4, 11, 12, 20, 35, 36, 37] (σ' := [(0, .slice none 0 0), (1, .int .i64 0), (2, .int .i64 0), (3, .int .i64 2), (4, .func (.func 31) #[] #[.pointer (some ⟨B0, 0, none⟩)]), (11, .slice (some ⟨b2, 0, none⟩) 2 2), (12, .int .i64 7), (20, .int .i64 7), (35, .slice none 0 0), (36, .int .i64 0), (37, .bool false)]) (by kernel_rfl) ?_
  refine t_end ?_
  show W _ _ _ _ _ _ _
  refine w_seq ?_
  refine w_reg fun all => ?_
  obtain ⟨⟨t36, t37⟩, h38, e⟩ := bind_of e
  try dsimp only at e
  refine t_qz 5 [0, 1, 2, 3, 4, 11, 12, 20, 23, 24, 25, 27, 35, 36, 37] (σ' := [(0, .slice none 0 0), (1, .int .i64 0), (2, .int .i64 0), (3, .int .i64 2), (4, .func (.func 31) #[] #[.pointer (some ⟨B0, 0, none⟩)]), (11, .slice (some ⟨b2, 0, none⟩) 2 2), (12, .int .i64 7), (20, .int .i64 7), (23, .slice none 0 0), (24, .int .i64 0), (25, .int .i64 0), (27, .int .i64 56), (35, .slice none 0 0), (36, .int .i64 0), (37, .bool false)]) (by kernel_rfl) ?_
  refine t_v (.call (vs := [.int .i64 0, .int .i64 0, .int .i64 56]) rfl rfl (by kernel_rfl) (sweep_Sample.ok h38)) ?_
  obtain ⟨u_, h39, e⟩ := bind_of e
  refine t_qz 1 [0, 1, 2, 3, 4, 11, 12, 20, 23, 24, 29, 35, 36, 37] (σ' := [(0, .slice none 0 0), (1, .int .i64 0), (2, .int .i64 0), (3, .int .i64 2), (4, .func (.func 31) #[] #[.pointer (some ⟨B0, 0, none⟩)]), (11, .slice (some ⟨b2, 0, none⟩) 2 2), (12, .int .i64 7), (20, .int .i64 7), (23, .slice none 0 0), (24, .int .i64 0), (29, .int .i64 t37), (35, .slice none 0 0), (36, .int .i64 0), (37, .bool false)]) (by kernel_rfl) ?_
  refine t_v (.call (vs := [.slice none 0 0, .int .i64 0, .int .i64 t37]) rfl rfl (by kernel_rfl) (sweep_crossing_v1.ok h39)) ?_
  refine t_qz 1 [0, 1, 2, 3, 4, 11, 12, 13, 20, 35, 36, 37] (σ' := [(0, .slice none 0 0), (1, .int .i64 0), (2, .int .i64 0), (3, .int .i64 2), (4, .func (.func 31) #[] #[.pointer (some ⟨B0, 0, none⟩)]), (11, .slice (some ⟨b2, 0, none⟩) 2 2), (12, .int .i64 7), (13, .slice none 0 0), (20, .int .i64 7), (35, .slice none 0 0), (36, .int .i64 0), (37, .bool false)]) (by kernel_rfl) ?_
  refine t_end ?_
  show W _ _ _ _ _ _ _
  refine w_seq ?_
  refine w_reg fun all => ?_
  refine t_qz 1 [0, 1, 2, 3, 4, 11, 12, 13, 14, 20, 35, 36, 37] (σ' := [(0, .slice none 0 0), (1, .int .i64 0), (2, .int .i64 0), (3, .int .i64 2), (4, .func (.func 31) #[] #[.pointer (some ⟨B0, 0, none⟩)]), (11, .slice (some ⟨b2, 0, none⟩) 2 2), (12, .int .i64 7), (13, .slice none 0 0), (14, .int .i64 0), (20, .int .i64 7), (35, .slice none 0 0), (36, .int .i64 0), (37, .bool false)]) (by kernel_rfl) ?_
  refine t_end ?_
  show W _ _ _ _ _ _ _
  refine w_block ?_
  refine w_lun 10 ?_
  refine wl_step ?_
  refine w_seq ?_
  refine w_seq ?_
  refine w_reg fun all => ?_
  refine t_qz 8 [0, 1, 2, 3, 4, 11, 12, 13, 14, 20, 35, 36, 37, 38] (σ' := [(0, .slice none 0 0), (1, .int .i64 0), (2, .int .i64 0), (3, .int .i64 2), (4, .func (.func 31) #[] #[.pointer (some ⟨B0, 0, none⟩)]), (11, .slice (some ⟨b2, 0, none⟩) 2 2), (12, .int .i64 7), (13, .slice none 0 0), (14, .int .i64 0), (20, .int .i64 7), (35, .slice none 0 0), (36, .int .i64 0), (37, .bool false), (38, .bool false)]) (by kernel_rfl) ?_
  refine t_end ?_
  show W _ _ _ _ _ _ _
  refine w_cond rfl (fun c_ => by cases c_) (fun _ => ?_)
  show W _ _ _ _ _ _ _
  refine w_exit ?_
  show W _ _ _ _ _ _ _
  refine w_reg fun all => ?_
  refine t_qz 2 [0, 1, 2, 3, 4, 11, 20, 35, 36, 37] (σ' := [(0, .slice none 0 0), (1, .int .i64 0), (2, .int .i64 0), (3, .int .i64 2), (4, .func (.func 31) #[] #[.pointer (some ⟨B0, 0, none⟩)]), (11, .slice (some ⟨b2, 0, none⟩) 2 2), (20, .int .i64 8), (35, .slice none 0 0), (36, .int .i64 0), (37, .bool false)]) (by kernel_rfl) ?_
  refine t_end ?_
  show WL _ _ _ _ _ _ _ _
  refine wl_step ?_
  refine w_seq ?_
  refine w_reg fun all => ?_
  refine t_qz 1 [0, 1, 2, 3, 4, 11, 20, 21, 35, 36, 37] (σ' := [(0, .slice none 0 0), (1, .int .i64 0), (2, .int .i64 0), (3, .int .i64 2), (4, .func (.func 31) #[] #[.pointer (some ⟨B0, 0, none⟩)]), (11, .slice (some ⟨b2, 0, none⟩) 2 2), (20, .int .i64 8), (21, .bool false), (35, .slice none 0 0), (36, .int .i64 0), (37, .bool false)]) (by kernel_rfl) ?_
  refine t_end ?_
  show W _ _ _ _ _ _ _
  refine w_seq ?_
  refine w_cond rfl (fun c_ => by cases c_) (fun _ => ?_)
  show W _ _ _ _ _ _ _
  refine w_exit ?_
  show W _ _ _ _ _ _ _
  refine w_seq ?_
  refine w_reg fun all => ?_
  refine t_qz 2 [10] (σ' := [(10, .slice (some ⟨b2, 0, none⟩) 2 2)]) (by kernel_rfl) ?_
  refine t_end ?_
  show W _ _ _ _ _ _ _
  refine w_ret ?_
  simp only [Option.some.injEq, Prod.mk.injEq] at e
  obtain ⟨rfl, rfl⟩ := e
  exact ⟨[.slice (some ⟨b2, 0, none⟩) 2 2], ([⟨b2, [.int .u64 0, .int .u64 0], 2⟩, ⟨B0, [.int .i64 0], 1⟩] : List Own), S, ⟨rfl, trivial⟩, VS.sel [0, 0] (by kernel_rfl), b2, rfl, rfl, rfl⟩

/-- sweep.Fill -/
def c14 : C :=
  (.seq (.reg [⟨(some 5), .box (.tmp 1), none⟩,
     ⟨(some 8), .mv (.const (.slice none 0 0)), none⟩])
  (.seq (.reg [⟨(some 9), .mv (.tmp 0), none⟩,
     ⟨(some 10), .mv (.tmp 2), none⟩,
     ⟨(some 11), .mv (.tmp 3), none⟩,
     ⟨(some 12), .mkf 31 [(.tmp 5)], none⟩,
     ⟨(some 13), .call 30 [(.tmp 9), (.const (.int .i64 0)), (.tmp 10), (.tmp 11), (.tmp 12)], none⟩,
     ⟨(some 8), .mv (.tmp 13), none⟩])
  .ret))
def sweep_Fill_v1.f  : Option (Int × Int) := (sweep_masks_v1.f).bind fun (t40, t41) => (some (t40, t41))
theorem sweep_Fill_v1.ok {S : Seal}  {r0_ : Int} {r1_ : Int} (e : sweep_Fill_v1.f  = some (r0_, r1_)) :
    Cal Try.prog 14 [.slice none 0 0, .int .i64 0, .int .i64 0, .int .i64 2] [] S fun v H' S' => ∃ N0_, v = .slice (some ⟨N0_, 0, none⟩) 2 2 ∧ H' = ([⟨N0_, [.int .u64 r0_, .int .u64 r1_], 2⟩] : List Own) ∧ S' = S := by
  unfold sweep_Fill_v1.f at e
  refine cal_of (c := c14) (N := 14) Try.func14 rfl rfl (by kernel_rfl) (rs := [.t 8]) (by kernel_rfl) (Nat.le_of_ble_eq_true rfl) ?_
  unfold c14
  refine w_seq ?_
  refine w_reg fun all => ?_
  refine t_a (.box rfl rfl rfl) fun b1 fb1 sb1 => ?_
  refine t_qz 1 [0, 2, 3, 5] (σ' := [(0, .slice none 0 0), (2, .int .i64 0), (3, .int .i64 2), (5, .pointer (some ⟨b1, 0, none⟩))]) (by kernel_rfl) ?_
  refine t_end ?_
  show W _ _ _ _ _ _ _
  refine w_seq ?_
  refine w_reg fun all => ?_
  obtain ⟨⟨t40, t41⟩, h42, e⟩ := bind_of e
  try dsimp only at e
  refine t_qz 4 [9, 10, 11, 12] (σ' := [(9, .slice none 0 0), (10, .int .i64 0), (11, .int .i64 2), (12, .func (.func 31) #[] #[.pointer (some ⟨b1, 0, none⟩)])]) (by kernel_rfl) ?_
  refine t_call (vs := [.slice none 0 0, .int .i64 0, .int .i64 0, .int .i64 2, .func (.func 31) #[] #[.pointer (some ⟨b1, 0, none⟩)]]) (H1 := ([⟨b1, [.int .i64 0], 1⟩] : List Own)) (F := ([] : List Own)) rfl rfl (by kernel_rfl) (sel_perm (is := [0]) (by kernel_rfl)) (sweep_masks_v1.ok h42) ?_
  rintro _ _ S_ ⟨N43, rfl, rfl, hS_⟩
  obtain rfl := hS_.symm
  refine t_qz 1 [8] (σ' := [(8, .slice (some ⟨N43, 0, none⟩) 2 2)]) (by kernel_rfl) ?_
  refine t_end ?_
  show W _ _ _ _ _ _ _
  refine w_ret ?_
  simp only [Option.some.injEq, Prod.mk.injEq] at e
  obtain ⟨rfl, rfl⟩ := e
  exact ⟨[.slice (some ⟨N43, 0, none⟩) 2 2], ([⟨N43, [.int .u64 t40, .int .u64 t41], 2⟩] : List Own), S, ⟨rfl, trivial⟩, VS.sel [0] (by kernel_rfl), N43, rfl, rfl, rfl⟩

/-- math/bits.OnesCount64 -/
def c29 : C :=
  (.seq (.reg [⟨(some 2), .mv (.const (.int .i64 0)), none⟩])
  (.seq (.reg [⟨(some 3), .mv (.tmp 0), none⟩,
     ⟨(some 4), .bin .shr (.tmp 3) (.const (.int .u64 1)), none⟩,
     ⟨(some 5), .bin .and (.tmp 4) (.const (.int .u64 6148914691236517205)), none⟩,
     ⟨(some 6), .mv (.tmp 0), none⟩,
     ⟨(some 7), .bin .and (.tmp 6) (.const (.int .u64 6148914691236517205)), none⟩,
     ⟨(some 8), .bin .add (.tmp 5) (.tmp 7), none⟩,
     ⟨(some 0), .mv (.tmp 8), none⟩])
  (.seq (.reg [⟨(some 9), .mv (.tmp 0), none⟩,
     ⟨(some 10), .bin .shr (.tmp 9) (.const (.int .u64 2)), none⟩,
     ⟨(some 11), .bin .and (.tmp 10) (.const (.int .u64 3689348814741910323)), none⟩,
     ⟨(some 12), .mv (.tmp 0), none⟩,
     ⟨(some 13), .bin .and (.tmp 12) (.const (.int .u64 3689348814741910323)), none⟩,
     ⟨(some 14), .bin .add (.tmp 11) (.tmp 13), none⟩,
     ⟨(some 0), .mv (.tmp 14), none⟩])
  (.seq (.reg [⟨(some 15), .mv (.tmp 0), none⟩,
     ⟨(some 16), .bin .shr (.tmp 15) (.const (.int .u64 4)), none⟩,
     ⟨(some 17), .mv (.tmp 0), none⟩,
     ⟨(some 18), .bin .add (.tmp 16) (.tmp 17), none⟩,
     ⟨(some 19), .bin .and (.tmp 18) (.const (.int .u64 1085102592571150095)), none⟩,
     ⟨(some 0), .mv (.tmp 19), none⟩])
  (.seq (.reg [⟨(some 20), .mv (.tmp 0), none⟩,
     ⟨(some 21), .mv (.tmp 0), none⟩,
     ⟨(some 22), .bin .shr (.tmp 21) (.const (.int .u64 8)), none⟩,
     ⟨(some 23), .bin .add (.tmp 20) (.tmp 22), none⟩,
     ⟨(some 0), .mv (.tmp 23), none⟩])
  (.seq (.reg [⟨(some 24), .mv (.tmp 0), none⟩,
     ⟨(some 25), .mv (.tmp 0), none⟩,
     ⟨(some 26), .bin .shr (.tmp 25) (.const (.int .u64 16)), none⟩,
     ⟨(some 27), .bin .add (.tmp 24) (.tmp 26), none⟩,
     ⟨(some 0), .mv (.tmp 27), none⟩])
  (.seq (.reg [⟨(some 28), .mv (.tmp 0), none⟩,
     ⟨(some 29), .mv (.tmp 0), none⟩,
     ⟨(some 30), .bin .shr (.tmp 29) (.const (.int .u64 32)), none⟩,
     ⟨(some 31), .bin .add (.tmp 28) (.tmp 30), none⟩,
     ⟨(some 0), .mv (.tmp 31), none⟩])
  (.seq (.reg [⟨(some 32), .mv (.tmp 0), none⟩,
     ⟨(some 33), .cnv .i64 (.tmp 32), none⟩,
     ⟨(some 34), .bin .and (.tmp 33) (.const (.int .i64 127)), none⟩,
     ⟨(some 2), .mv (.tmp 34), none⟩])
  .ret))))))))
def bits_OnesCount64.f (x0 : Int) : Option (Int) := (some (wru64 ((bits .and .u64 (Int.fdiv x0 2) 6148914691236517205) + (bits .and .u64 x0 6148914691236517205)))).bind fun v50 => ((some (wru64 ((bits .and .u64 (Int.fdiv v50 4) 3689348814741910323) + (bits .and .u64 v50 3689348814741910323)))).bind fun v52 => ((some (bits .and .u64 (wru64 ((Int.fdiv v52 16) + v52)) 1085102592571150095)).bind fun v54 => ((some (wru64 ((wru64 (v54 + (Int.fdiv v54 256))) + (Int.fdiv (wru64 (v54 + (Int.fdiv v54 256))) 65536)))).bind fun v56 => ((some (bits .and .i64 (wr64 (wru64 (v56 + (Int.fdiv v56 4294967296)))) 127)).bind fun v58 => (some v58)))))
theorem bits_OnesCount64.ok {S : Seal} {x0 : Int} {r0_ : Int} (e : bits_OnesCount64.f x0 = some r0_) :
    Cal Try.prog 29 [.int .u64 x0] [] S fun v H' S' => v = .int .i64 r0_ ∧ H' = [] ∧ S' = S := by
  unfold bits_OnesCount64.f at e
  refine cal_of (c := c29) (N := 35) Try.func29 rfl rfl (by kernel_rfl) (rs := [.t 2]) (by kernel_rfl) (Nat.le_of_ble_eq_true rfl) ?_
  unfold c29
  refine w_seq ?_
  refine w_reg fun all => ?_
  refine t_qz 1 [0] (σ' := [(0, .int .u64 x0)]) (by kernel_rfl) ?_
  refine t_end ?_
  show W _ _ _ _ _ _ _
  refine w_seq ?_
  refine w_reg fun all => ?_
  obtain ⟨v50, hv51, e⟩ := bind_of e
  have hv51b := Option.some.inj hv51
  refine t_qz 5 [5, 7] (σ' := [(5, .int .u64 (bits .and .u64 (Int.fdiv x0 2) 6148914691236517205)), (7, .int .u64 (bits .and .u64 x0 6148914691236517205))]) (by kernel_rfl) ?_
  refine t_v (dv_quiet rfl (congrArg (fun t => some (Value.int .u64 t)) hv51b)) ?_
  refine t_qz 1 [0] (σ' := [(0, .int .u64 v50)]) (by kernel_rfl) ?_
  refine t_end ?_
  show W _ _ _ _ _ _ _
  refine w_seq ?_
  refine w_reg fun all => ?_
  obtain ⟨v52, hv53, e⟩ := bind_of e
  have hv53b := Option.some.inj hv53
  refine t_qz 5 [11, 13] (σ' := [(11, .int .u64 (bits .and .u64 (Int.fdiv v50 4) 3689348814741910323)), (13, .int .u64 (bits .and .u64 v50 3689348814741910323))]) (by kernel_rfl) ?_
  refine t_v (dv_quiet rfl (congrArg (fun t => some (Value.int .u64 t)) hv53b)) ?_
  refine t_qz 1 [0] (σ' := [(0, .int .u64 v52)]) (by kernel_rfl) ?_
  refine t_end ?_
  show W _ _ _ _ _ _ _
  refine w_seq ?_
  refine w_reg fun all => ?_
  obtain ⟨v54, hv55, e⟩ := bind_of e
  have hv55b := Option.some.inj hv55
  refine t_qz 4 [18] (σ' := [(18, .int .u64 (wru64 ((Int.fdiv v52 16) + v52)))]) (by kernel_rfl) ?_
  refine t_v (dv_quiet rfl (congrArg (fun t => some (Value.int .u64 t)) hv55b)) ?_
  refine t_qz 1 [0] (σ' := [(0, .int .u64 v54)]) (by kernel_rfl) ?_
  refine t_end ?_
  show W _ _ _ _ _ _ _
  refine w_seq ?_
  refine w_reg fun all => ?_
  refine t_qz 5 [0] (σ' := [(0, .int .u64 (wru64 (v54 + (Int.fdiv v54 256))))]) (by kernel_rfl) ?_
  refine t_end ?_
  show W _ _ _ _ _ _ _
  refine w_seq ?_
  refine w_reg fun all => ?_
  obtain ⟨v56, hv57, e⟩ := bind_of e
  have hv57b := Option.some.inj hv57
  refine t_qz 3 [24, 26] (σ' := [(24, .int .u64 (wru64 (v54 + (Int.fdiv v54 256)))), (26, .int .u64 (Int.fdiv (wru64 (v54 + (Int.fdiv v54 256))) 65536))]) (by kernel_rfl) ?_
  refine t_v (dv_quiet rfl (congrArg (fun t => some (Value.int .u64 t)) hv57b)) ?_
  refine t_qz 1 [0] (σ' := [(0, .int .u64 v56)]) (by kernel_rfl) ?_
  refine t_end ?_
  show W _ _ _ _ _ _ _
  refine w_seq ?_
  refine w_reg fun all => ?_
  refine t_qz 5 [0] (σ' := [(0, .int .u64 (wru64 (v56 + (Int.fdiv v56 4294967296))))]) (by kernel_rfl) ?_
  refine t_end ?_
  show W _ _ _ _ _ _ _
  refine w_seq ?_
  refine w_reg fun all => ?_
  obtain ⟨v58, hv59, e⟩ := bind_of e
  have hv59b := Option.some.inj hv59
  refine t_qz 2 [33] (σ' := [(33, .int .i64 (wr64 (wru64 (v56 + (Int.fdiv v56 4294967296)))))]) (by kernel_rfl) ?_
  refine t_v (dv_quiet rfl (congrArg (fun t => some (Value.int .i64 t)) hv59b)) ?_
  refine t_qz 1 [2] (σ' := [(2, .int .i64 v58)]) (by kernel_rfl) ?_
  refine t_end ?_
  show W _ _ _ _ _ _ _
  refine w_ret ?_
  obtain rfl := Option.some.inj e
  exact ⟨[.int .i64 v58], [], S, ⟨rfl, trivial⟩, VS.none, rfl, rfl, rfl⟩

/-- sweep.Count -/
def c11 : C :=
  (.seq (.reg [⟨(some 2), .mv (.const (.int .i64 0)), none⟩])
  (.seq (.reg [⟨(some 3), .mv (.tmp 0), none⟩,
     ⟨(some 4), .call 29 [(.tmp 3)], none⟩,
     ⟨(some 2), .mv (.tmp 4), none⟩])
  .ret))
def sweep_Count.f (mask0 : Int) : Option (Int) := (bits_OnesCount64.f mask0).bind fun t60 => (some t60)
theorem sweep_Count.ok {S : Seal} {mask0 : Int} {r0_ : Int} (e : sweep_Count.f mask0 = some r0_) :
    Cal Try.prog 11 [.int .u64 mask0] [] S fun v H' S' => v = .int .i64 r0_ ∧ H' = [] ∧ S' = S := by
  unfold sweep_Count.f at e
  refine cal_of (c := c11) (N := 5) Try.func11 rfl rfl (by kernel_rfl) (rs := [.t 2]) (by kernel_rfl) (Nat.le_of_ble_eq_true rfl) ?_
  unfold c11
  refine w_seq ?_
  refine w_reg fun all => ?_
  refine t_qz 1 [0] (σ' := [(0, .int .u64 mask0)]) (by kernel_rfl) ?_
  refine t_end ?_
  show W _ _ _ _ _ _ _
  refine w_seq ?_
  refine w_reg fun all => ?_
  obtain ⟨t60, h61, e⟩ := bind_of e
  refine t_qz 1 [3] (σ' := [(3, .int .u64 mask0)]) (by kernel_rfl) ?_
  refine t_v (.call (vs := [.int .u64 mask0]) rfl rfl (by kernel_rfl) (bits_OnesCount64.ok h61)) ?_
  refine t_qz 1 [2] (σ' := [(2, .int .i64 t60)]) (by kernel_rfl) ?_
  refine t_end ?_
  show W _ _ _ _ _ _ _
  refine w_ret ?_
  obtain rfl := Option.some.inj e
  exact ⟨[.int .i64 t60], [], S, ⟨rfl, trivial⟩, VS.none, rfl, rfl, rfl⟩

/-- glyphiclaw24.first -/
def c10 : C :=
  (.seq (.reg [⟨(some 0), .mv (.const (.bool false)), none⟩])
  (.seq (.reg [⟨(some 2), .call 14 [(.const (.slice none 0 0)), (.const (.int .i64 0)), (.const (.int .i64 0)), (.const (.int .i64 2))], none⟩,
     ⟨(some 1), .mv (.tmp 2), none⟩])
  (.seq (.reg [⟨(some 3), .mv (.tmp 1), none⟩,
     ⟨(some 4), .lns (.tmp 3), none⟩,
     ⟨(some 5), .bin .eql (.tmp 4) (.const (.int .i64 2)), none⟩,
     ⟨(some 6), .mv (.tmp 5), none⟩,
     ⟨(some 7), .mv (.tmp 1), (some (6, true))⟩,
     ⟨(some 8), .ixs 1 (.tmp 7) (.const (.int .i64 0)), (some (6, true))⟩,
     ⟨(some 9), .ld none (.tmp 8), (some (6, true))⟩,
     ⟨(some 10), .bin .eql (.tmp 9) (.const (.int .u64 0)), (some (6, true))⟩,
     ⟨(some 11), .pk (.tmp 6) (.tmp 10) (.const (.bool false)), none⟩,
     ⟨(some 12), .mv (.tmp 11), none⟩,
     ⟨(some 13), .mv (.tmp 1), (some (12, true))⟩,
     ⟨(some 14), .ixs 1 (.tmp 13) (.const (.int .i64 1)), (some (12, true))⟩,
     ⟨(some 15), .ld none (.tmp 14), (some (12, true))⟩,
     ⟨(some 16), .bin .eql (.tmp 15) (.const (.int .u64 0)), (some (12, true))⟩,
     ⟨(some 17), .pk (.tmp 12) (.tmp 16) (.const (.bool false)), none⟩,
     ⟨(some 18), .mv (.tmp 17), none⟩,
     ⟨(some 19), .call 11 [(.const (.int .u64 5))], (some (18, true))⟩,
     ⟨(some 20), .bin .eql (.tmp 19) (.const (.int .i64 2)), (some (18, true))⟩,
     ⟨(some 21), .pk (.tmp 18) (.tmp 20) (.const (.bool false)), none⟩,
     ⟨(some 0), .mv (.tmp 21), none⟩])
  .ret)))
def glyphiclaw24_first.f  : Option (Bool) := (sweep_Fill_v1.f).bind fun (t44, t45) => (if t44 = 0 then (if t45 = 0 then ((sweep_Count.f 5).bind fun t62 => (some (t62 == 2))) else (some false)) else (some false))
theorem glyphiclaw24_first.ok {S : Seal}  {r0_ : Bool} (e : glyphiclaw24_first.f  = some r0_) :
    Cal Try.prog 10 [] [] S fun v H' S' => v = .bool r0_ ∧ H' = [] ∧ S' = S := by
  unfold glyphiclaw24_first.f at e
  refine cal_of (c := c10) (N := 22) Try.func10 rfl rfl (by kernel_rfl) (rs := [.t 0]) (by kernel_rfl) (Nat.le_of_ble_eq_true rfl) ?_
  unfold c10
  refine w_seq ?_
  refine w_reg fun all => ?_
  refine t_qz 1 [] (σ' := []) (by kernel_rfl) ?_
  refine t_end ?_
  show W _ _ _ _ _ _ _
  refine w_seq ?_
  refine w_reg fun all => ?_
  obtain ⟨⟨t44, t45⟩, h46, e⟩ := bind_of e
  try dsimp only at e
  refine t_call (vs := [.slice none 0 0, .int .i64 0, .int .i64 0, .int .i64 2]) (H1 := ([] : List Own)) (F := ([] : List Own)) rfl rfl (by kernel_rfl) (sel_perm (is := []) (by kernel_rfl)) (sweep_Fill_v1.ok h46) ?_
  rintro _ _ S_ ⟨N47, rfl, rfl, hS_⟩
  obtain rfl := hS_.symm
  refine t_qz 1 [1] (σ' := [(1, .slice (some ⟨N47, 0, none⟩) 2 2)]) (by kernel_rfl) ?_
  refine t_end ?_
  show W _ _ _ _ _ _ _
  refine w_seq ?_
  refine w_reg fun all => ?_
  refine t_qz 6 [1, 6, 8] (σ' := [(1, .slice (some ⟨N47, 0, none⟩) 2 2), (6, .bool true), (8, .pointer (some ⟨N47, 0, none⟩))]) (by kernel_rfl) ?_
  refine t_v (.ld1 rfl rfl rfl (.at 0 rfl rfl)) ?_
  by_cases c48 : t44 = 0
  · rw [if_pos c48] at e
    have c48b : (t44 == 0) = true := beq_iff_eq.mpr c48
    refine t_v (dv_quiet rfl (congrArg (fun t => some (Value.bool t)) c48b)) ?_
    refine t_qz 4 [12, 14] (σ' := [(12, .bool true), (14, .pointer (some ⟨N47, 1, none⟩))]) (by kernel_rfl) ?_
    refine t_v (.ld1 rfl rfl rfl (.at 0 rfl rfl)) ?_
    by_cases c49 : t45 = 0
    · rw [if_pos c49] at e
      have c49b : (t45 == 0) = true := beq_iff_eq.mpr c49
      refine t_v (dv_quiet rfl (congrArg (fun t => some (Value.bool t)) c49b)) ?_
      obtain ⟨t62, h63, e⟩ := bind_of e
      refine t_qz 2 [18] (σ' := [(18, .bool true)]) (by kernel_rfl) ?_
      refine t_v (.call (vs := [.int .u64 5]) rfl rfl (by kernel_rfl) (sweep_Count.ok h63)) ?_
      refine t_qz 3 [0] (σ' := [(0, .bool (t62 == 2))]) (by kernel_rfl) ?_
      refine t_end ?_
      show W _ _ _ _ _ _ _
      refine w_ret ?_
      obtain rfl := Option.some.inj e
      exact ⟨[.bool (t62 == 2)], [], S, ⟨rfl, trivial⟩, VS.none, rfl, rfl, rfl⟩
    · rw [if_neg c49] at e
      have c49b : (t45 == 0) = false := beq_eq_false_iff_ne.mpr c49
      refine t_v (dv_quiet rfl (congrArg (fun t => some (Value.bool t)) c49b)) ?_
      refine t_qz 6 [0] (σ' := [(0, .bool false)]) (by kernel_rfl) ?_
      refine t_end ?_
      show W _ _ _ _ _ _ _
      refine w_ret ?_
      obtain rfl := Option.some.inj e
      exact ⟨[.bool false], [], S, ⟨rfl, trivial⟩, VS.none, rfl, rfl, rfl⟩
  · rw [if_neg c48] at e
    have c48b : (t44 == 0) = false := beq_eq_false_iff_ne.mpr c48
    refine t_v (dv_quiet rfl (congrArg (fun t => some (Value.bool t)) c48b)) ?_
    refine t_qz 12 [0] (σ' := [(0, .bool false)]) (by kernel_rfl) ?_
    refine t_end ?_
    show W _ _ _ _ _ _ _
    refine w_ret ?_
    obtain rfl := Option.some.inj e
    exact ⟨[.bool false], [], S, ⟨rfl, trivial⟩, VS.none, rfl, rfl, rfl⟩

/-- glyphicref.SamePoint -/
def c12 : C :=
  (.seq (.reg [⟨(some 2), .box (.tmp 0), none⟩,
     ⟨(some 3), .box (.tmp 1), none⟩,
     ⟨(some 4), .mv (.const (.bool false)), none⟩])
  (.seq (.reg [⟨(some 5), .pad 0 (.tmp 2), none⟩,
     ⟨(some 6), .ld none (.tmp 5), none⟩,
     ⟨(some 7), .pad 0 (.tmp 3), none⟩,
     ⟨(some 8), .ld none (.tmp 7), none⟩,
     ⟨(some 9), .bin .eql (.tmp 6) (.tmp 8), none⟩,
     ⟨(some 10), .mv (.tmp 9), none⟩,
     ⟨(some 11), .pad 1 (.tmp 2), (some (10, true))⟩,
     ⟨(some 12), .ld none (.tmp 11), (some (10, true))⟩,
     ⟨(some 13), .pad 1 (.tmp 3), (some (10, true))⟩,
     ⟨(some 14), .ld none (.tmp 13), (some (10, true))⟩,
     ⟨(some 15), .bin .eql (.tmp 12) (.tmp 14), (some (10, true))⟩,
     ⟨(some 16), .pk (.tmp 10) (.tmp 15) (.const (.bool false)), none⟩,
     ⟨(some 4), .mv (.tmp 16), none⟩])
  .ret))
def glyphicref_SamePoint.f (a0_X : Int) (a0_Y : Int) (b1_X : Int) (b1_Y : Int) : Option (Bool) := if a0_X = b1_X then (some (a0_Y == b1_Y)) else (some false)
theorem glyphicref_SamePoint.ok {S : Seal} {a0_X : Int} {a0_Y : Int} {b1_X : Int} {b1_Y : Int} {r0_ : Bool} (e : glyphicref_SamePoint.f a0_X a0_Y b1_X b1_Y = some r0_) :
    Cal Try.prog 12 [.agg #[.int .i64 a0_X, .int .i64 a0_Y], .agg #[.int .i64 b1_X, .int .i64 b1_Y]] [] S fun v H' S' => v = .bool r0_ ∧ H' = [] ∧ S' = S := by
  unfold glyphicref_SamePoint.f at e
  refine cal_of (c := c12) (N := 17) Try.func12 rfl rfl (by kernel_rfl) (rs := [.t 4]) (by kernel_rfl) (Nat.le_of_ble_eq_true rfl) ?_
  unfold c12
  refine w_seq ?_
  refine w_reg fun all => ?_
  refine t_a (.box rfl rfl rfl) fun b101 fb101 sb101 => ?_
  refine t_a (.box rfl rfl rfl) fun b102 fb102 sb102 => ?_
  refine t_qz 1 [2, 3] (σ' := [(2, .pointer (some ⟨b101, 0, none⟩)), (3, .pointer (some ⟨b102, 0, none⟩))]) (by kernel_rfl) ?_
  refine t_end ?_
  show W _ _ _ _ _ _ _
  refine w_seq ?_
  refine w_reg fun all => ?_
  refine t_qz 1 [2, 3, 5] (σ' := [(2, .pointer (some ⟨b101, 0, none⟩)), (3, .pointer (some ⟨b102, 0, none⟩)), (5, .pointer (some ⟨b101, 0, none⟩))]) (by kernel_rfl) ?_
  refine t_v (.ld1 rfl rfl rfl (.at 1 rfl rfl)) ?_
  refine t_qz 1 [2, 3, 6, 7] (σ' := [(2, .pointer (some ⟨b101, 0, none⟩)), (3, .pointer (some ⟨b102, 0, none⟩)), (6, .int .i64 a0_X), (7, .pointer (some ⟨b102, 0, none⟩))]) (by kernel_rfl) ?_
  refine t_v (.ld1 rfl rfl rfl (.at 0 rfl rfl)) ?_
  by_cases c103 : a0_X = b1_X
  · rw [if_pos c103] at e
    have c103b : (a0_X == b1_X) = true := beq_iff_eq.mpr c103
    refine t_v (dv_quiet rfl (congrArg (fun t => some (Value.bool t)) c103b)) ?_
    refine t_qz 2 [3, 10, 11] (σ' := [(3, .pointer (some ⟨b102, 0, none⟩)), (10, .bool true), (11, .pointer (some ⟨b101, 1, none⟩))]) (by kernel_rfl) ?_
    refine t_v (.ld1 rfl rfl rfl (.at 1 rfl rfl)) ?_
    refine t_qz 1 [10, 12, 13] (σ' := [(10, .bool true), (12, .int .i64 a0_Y), (13, .pointer (some ⟨b102, 1, none⟩))]) (by kernel_rfl) ?_
    refine t_v (.ld1 rfl rfl rfl (.at 0 rfl rfl)) ?_
    refine t_qz 3 [4] (σ' := [(4, .bool (a0_Y == b1_Y))]) (by kernel_rfl) ?_
    refine t_end ?_
    show W _ _ _ _ _ _ _
    refine w_ret ?_
    obtain rfl := Option.some.inj e
    exact ⟨[.bool (a0_Y == b1_Y)], [], S, ⟨rfl, trivial⟩, VS.none, rfl, rfl, rfl⟩
  · rw [if_neg c103] at e
    have c103b : (a0_X == b1_X) = false := beq_eq_false_iff_ne.mpr c103
    refine t_v (dv_quiet rfl (congrArg (fun t => some (Value.bool t)) c103b)) ?_
    refine t_qz 8 [4] (σ' := [(4, .bool false)]) (by kernel_rfl) ?_
    refine t_end ?_
    show W _ _ _ _ _ _ _
    refine w_ret ?_
    obtain rfl := Option.some.inj e
    exact ⟨[.bool false], [], S, ⟨rfl, trivial⟩, VS.none, rfl, rfl, rfl⟩

/-- glyphiclaw24.SweepBits -/
def c3 : C :=
  (.seq (.reg [⟨(some 6), .mv (.const (.bool false)), none⟩])
  (.seq (.reg [⟨(some 11), .call 10 [], none⟩,
     ⟨(some 7), .mv (.tmp 11), none⟩])
  (.seq (.seq (.reg [⟨(some 12), .mv (.tmp 7), none⟩,
      ⟨(some 13), .un .not (.tmp 12), none⟩])
   (.cond (.tmp 13)
    (.seq (.reg [⟨(some 6), .mv (.const (.bool false)), none⟩])
     .ret)
    .skip))
  (.seq (.reg [⟨(some 14), .mv (.tmp 2), none⟩,
     ⟨(some 15), .bin .rem (.tmp 14) (.const (.int .i64 64)), none⟩,
     ⟨(some 16), .bin .add (.tmp 15) (.const (.int .i64 64)), none⟩,
     ⟨(some 17), .bin .rem (.tmp 16) (.const (.int .i64 64)), none⟩,
     ⟨(some 2), .mv (.tmp 17), none⟩])
  (.seq (.reg [⟨(some 18), .mv (.tmp 2), none⟩,
     ⟨(some 19), .cnv .u64 (.tmp 18), none⟩,
     ⟨(some 20), .bin .shl (.const (.int .u64 1)) (.tmp 19), none⟩,
     ⟨(some 8), .mv (.tmp 20), none⟩])
  (.seq (.reg [⟨(some 21), .mv (.tmp 0), none⟩,
     ⟨(some 22), .call 11 [(.tmp 21)], none⟩,
     ⟨(some 9), .mv (.tmp 22), none⟩])
  (.seq (.reg [⟨(some 23), .mv (.tmp 9), none⟩,
     ⟨(some 10), .mv (.tmp 23), none⟩])
  (.seq (.seq (.reg [⟨(some 24), .mv (.tmp 0), none⟩,
      ⟨(some 25), .mv (.tmp 8), none⟩,
      ⟨(some 26), .bin .and (.tmp 24) (.tmp 25), none⟩,
      ⟨(some 27), .bin .eql (.tmp 26) (.const (.int .u64 0)), none⟩])
   (.cond (.tmp 27)
    (.reg [⟨(some 28), .mv (.tmp 9), none⟩,
       ⟨(some 29), .bin .add (.tmp 28) (.const (.int .i64 1)), none⟩,
       ⟨(some 10), .mv (.tmp 29), none⟩])
    .skip))
  (.seq (.reg [⟨(some 30), .mv (.tmp 7), none⟩,
     ⟨(some 31), .mv (.tmp 30), none⟩,
     ⟨(some 32), .call 11 [(.const (.int .u64 0))], (some (31, true))⟩,
     ⟨(some 33), .bin .eql (.tmp 32) (.const (.int .i64 0)), (some (31, true))⟩,
     ⟨(some 34), .pk (.tmp 31) (.tmp 33) (.const (.bool false)), none⟩,
     ⟨(some 35), .mv (.tmp 34), none⟩,
     ⟨(some 36), .call 11 [(.const (.int .u64 18446744073709551615))], (some (35, true))⟩,
     ⟨(some 37), .bin .eql (.tmp 36) (.const (.int .i64 64)), (some (35, true))⟩,
     ⟨(some 38), .pk (.tmp 35) (.tmp 37) (.const (.bool false)), none⟩,
     ⟨(some 39), .mv (.tmp 38), none⟩,
     ⟨(some 40), .mv (.tmp 9), (some (39, true))⟩,
     ⟨(some 41), .bin .geq (.tmp 40) (.const (.int .i64 0)), (some (39, true))⟩,
     ⟨(some 42), .pk (.tmp 39) (.tmp 41) (.const (.bool false)), none⟩,
     ⟨(some 43), .mv (.tmp 42), none⟩,
     ⟨(some 44), .mv (.tmp 9), (some (43, true))⟩,
     ⟨(some 45), .bin .leq (.tmp 44) (.const (.int .i64 64)), (some (43, true))⟩,
     ⟨(some 46), .pk (.tmp 43) (.tmp 45) (.const (.bool false)), none⟩,
     ⟨(some 47), .mv (.tmp 46), none⟩,
     ⟨(some 48), .mv (.tmp 0), (some (47, true))⟩,
     ⟨(some 49), .mv (.tmp 8), (some (47, true))⟩,
     ⟨(some 50), .bin .or (.tmp 48) (.tmp 49), (some (47, true))⟩,
     ⟨(some 51), .call 11 [(.tmp 50)], (some (47, true))⟩,
     ⟨(some 52), .mv (.tmp 10), (some (47, true))⟩,
     ⟨(some 53), .bin .eql (.tmp 51) (.tmp 52), (some (47, true))⟩,
     ⟨(some 54), .pk (.tmp 47) (.tmp 53) (.const (.bool false)), none⟩,
     ⟨(some 55), .mv (.tmp 54), none⟩,
     ⟨(some 56), .mv (.tmp 0), (some (55, true))⟩,
     ⟨(some 57), .mv (.tmp 1), (some (55, true))⟩,
     ⟨(some 58), .bin .and (.tmp 56) (.tmp 57), (some (55, true))⟩,
     ⟨(some 59), .call 11 [(.tmp 58)], (some (55, true))⟩,
     ⟨(some 60), .mv (.tmp 0), (some (55, true))⟩,
     ⟨(some 61), .mv (.tmp 1), (some (55, true))⟩,
     ⟨(some 62), .bin .andNot (.tmp 60) (.tmp 61), (some (55, true))⟩,
     ⟨(some 63), .call 11 [(.tmp 62)], (some (55, true))⟩,
     ⟨(some 64), .bin .add (.tmp 59) (.tmp 63), (some (55, true))⟩,
     ⟨(some 65), .mv (.tmp 9), (some (55, true))⟩,
     ⟨(some 66), .bin .eql (.tmp 64) (.tmp 65), (some (55, true))⟩,
     ⟨(some 67), .pk (.tmp 55) (.tmp 66) (.const (.bool false)), none⟩,
     ⟨(some 68), .mv (.tmp 67), none⟩,
     ⟨(some 69), .mv (.tmp 0), (some (68, true))⟩,
     ⟨(some 70), .un .xor (.tmp 69), (some (68, true))⟩,
     ⟨(some 71), .call 11 [(.tmp 70)], (some (68, true))⟩,
     ⟨(some 72), .mv (.tmp 9), (some (68, true))⟩,
     ⟨(some 73), .bin .sub (.const (.int .i64 64)) (.tmp 72), (some (68, true))⟩,
     ⟨(some 74), .bin .eql (.tmp 71) (.tmp 73), (some (68, true))⟩,
     ⟨(some 75), .pk (.tmp 68) (.tmp 74) (.const (.bool false)), none⟩,
     ⟨(some 76), .mv (.tmp 75), none⟩,
     ⟨(some 77), .call 13 [(.const (.int .i64 0)), (.const (.int .i64 0)), (.const (.int .i64 0))], (some (76, true))⟩,
     ⟨(some 78), .bld [(.int .i64 0), (.int .i64 0)] [(0, 1, (.const (.int .i64 16))), (1, 1, (.const (.int .i64 16)))], (some (76, true))⟩,
     ⟨(some 79), .call 12 [(.tmp 77), (.tmp 78)], (some (76, true))⟩,
     ⟨(some 80), .pk (.tmp 76) (.tmp 79) (.const (.bool false)), none⟩,
     ⟨(some 6), .mv (.tmp 80), none⟩])
  .ret)))))))))
def glyphiclaw24_SweepBits.f (a0 : Int) (b1 : Int) (k2 : Int) : Option (Bool) := (glyphiclaw24_first.f).bind fun t64 => (if t64 = true then (if (wru64 (Int.tmod (wr64 ((Int.tmod k2 64) + 64)) 64)) < 0 then none else ((sweep_Count.f a0).bind fun t67 => (((some (bits .and .u64 a0 (wru64 (1 * 2 ^ (min (Int.toNat (wru64 (Int.tmod (wr64 ((Int.tmod k2 64) + 64)) 64))) 64))))).bind fun v72 => (if v72 = 0 then (some (true, wru64 (1 * 2 ^ (min (Int.toNat (wru64 (Int.tmod (wr64 ((Int.tmod k2 64) + 64)) 64))) 64)), wr64 (t67 + 1))) else (some (true, wru64 (1 * 2 ^ (min (Int.toNat (wru64 (Int.tmod (wr64 ((Int.tmod k2 64) + 64)) 64))) 64)), t67))) : Option (Bool × Int × Int)).bind fun (x75, x76, x77) => (if x75 = true then ((sweep_Count.f 0).bind fun t79 => (if t79 = 0 then ((sweep_Count.f 18446744073709551615).bind fun t82 => (if t82 = 64 then (if t67 ≥ 0 then (if t67 ≤ 64 then ((sweep_Count.f (bits .or .u64 a0 x76)).bind fun t87 => (if t87 = x77 then ((sweep_Count.f (bits .and .u64 a0 b1)).bind fun t90 => ((sweep_Count.f (bits .andNot .u64 a0 b1)).bind fun t92 => (if (wr64 (t90 + t92)) = t67 then ((sweep_Count.f (bits .xor .u64 18446744073709551615 a0)).bind fun t95 => (if t95 = (wr64 (64 - t67)) then ((sweep_Sample.f 0 0 0).bind fun (t98, t99) => ((glyphicref_SamePoint.f t98 t99 16 16).bind fun t104 => (some t104))) else (some false))) else (some false)))) else (some false))) else (some false)) else (some false)) else (some false))) else (some false))) else (some false))))) else (some false))
theorem glyphiclaw24_SweepBits.ok {S : Seal} {a0 : Int} {b1 : Int} {k2 : Int}  (e : glyphiclaw24_SweepBits.f a0 b1 k2 = some true) :
    Cal Try.prog 3 [.int .u64 a0, .int .u64 b1, .int .i64 k2] [] S fun v H' S' => v = .bool true ∧ H' = [] ∧ S' = S := by
  unfold glyphiclaw24_SweepBits.f at e
  refine cal_of (c := c3) (N := 81) Try.func3 rfl rfl (by kernel_rfl) (rs := [.t 6]) (by kernel_rfl) (Nat.le_of_ble_eq_true rfl) ?_
  unfold c3
  refine w_seq ?_
  refine w_reg fun all => ?_
  refine t_qz 1 [0, 1, 2] (σ' := [(0, .int .u64 a0), (1, .int .u64 b1), (2, .int .i64 k2)]) (by kernel_rfl) ?_
  refine t_end ?_
  show W _ _ _ _ _ _ _
  refine w_seq ?_
  refine w_reg fun all => ?_
  obtain ⟨t64, h65, e⟩ := bind_of e
  cases t64 with
  | true =>
    rw [if_pos rfl] at e
    refine t_v (.call (vs := []) rfl rfl (by kernel_rfl) (glyphiclaw24_first.ok h65)) ?_
    refine t_qz 1 [0, 1, 2, 7] (σ' := [(0, .int .u64 a0), (1, .int .u64 b1), (2, .int .i64 k2), (7, .bool true)]) (by kernel_rfl) ?_
    refine t_end ?_
    show W _ _ _ _ _ _ _
    refine w_seq ?_
    refine w_seq ?_
    refine w_reg fun all => ?_
    refine t_qz 2 [0, 1, 2, 7, 13] (σ' := [(0, .int .u64 a0), (1, .int .u64 b1), (2, .int .i64 k2), (7, .bool true), (13, .bool false)]) (by kernel_rfl) ?_
    refine t_end ?_
    show W _ _ _ _ _ _ _
    refine w_cond rfl (fun c_ => by cases c_) (fun _ => ?_)
    show W _ _ _ _ _ _ _
    refine w_skip ?_
    show W _ _ _ _ _ _ _
    refine w_seq ?_
    refine w_reg fun all => ?_
    refine t_qz 5 [0, 1, 2, 7] (σ' := [(0, .int .u64 a0), (1, .int .u64 b1), (2, .int .i64 (Int.tmod (wr64 ((Int.tmod k2 64) + 64)) 64)), (7, .bool true)]) (by kernel_rfl) ?_
    refine t_end ?_
    show W _ _ _ _ _ _ _
    refine w_seq ?_
    refine w_reg fun all => ?_
    have c66 : ¬ (wru64 (Int.tmod (wr64 ((Int.tmod k2 64) + 64)) 64)) < 0 := by
      intro h_; rw [if_pos h_] at e; cases e
    rw [if_neg c66] at e
    refine t_qz 2 [0, 1, 7, 19] (σ' := [(0, .int .u64 a0), (1, .int .u64 b1), (7, .bool true), (19, .int .u64 (wru64 (Int.tmod (wr64 ((Int.tmod k2 64) + 64)) 64)))]) (by kernel_rfl) ?_
    refine t_v (.quiet rfl (qv_shl rfl rfl c66)) ?_
    refine t_qz 1 [0, 1, 7, 8] (σ' := [(0, .int .u64 a0), (1, .int .u64 b1), (7, .bool true), (8, .int .u64 (wru64 (1 * 2 ^ (min (Int.toNat (wru64 (Int.tmod (wr64 ((Int.tmod k2 64) + 64)) 64))) 64))))]) (by kernel_rfl) ?_
    refine t_end ?_
    show W _ _ _ _ _ _ _
    refine w_seq ?_
    refine w_reg fun all => ?_
    obtain ⟨t67, h68, e⟩ := bind_of e
    refine t_qz 1 [0, 1, 7, 8, 21] (σ' := [(0, .int .u64 a0), (1, .int .u64 b1), (7, .bool true), (8, .int .u64 (wru64 (1 * 2 ^ (min (Int.toNat (wru64 (Int.tmod (wr64 ((Int.tmod k2 64) + 64)) 64))) 64)))), (21, .int .u64 a0)]) (by kernel_rfl) ?_
    refine t_v (.call (vs := [.int .u64 a0]) rfl rfl (by kernel_rfl) (sweep_Count.ok h68)) ?_
    refine t_qz 1 [0, 1, 7, 8, 9] (σ' := [(0, .int .u64 a0), (1, .int .u64 b1), (7, .bool true), (8, .int .u64 (wru64 (1 * 2 ^ (min (Int.toNat (wru64 (Int.tmod (wr64 ((Int.tmod k2 64) + 64)) 64))) 64)))), (9, .int .i64 t67)]) (by kernel_rfl) ?_
    refine t_end ?_
    show W _ _ _ _ _ _ _
    refine w_seq ?_
    refine w_reg fun all => ?_
    refine t_qz 2 [0, 1, 7, 8, 9, 10] (σ' := [(0, .int .u64 a0), (1, .int .u64 b1), (7, .bool true), (8, .int .u64 (wru64 (1 * 2 ^ (min (Int.toNat (wru64 (Int.tmod (wr64 ((Int.tmod k2 64) + 64)) 64))) 64)))), (9, .int .i64 t67), (10, .int .i64 t67)]) (by kernel_rfl) ?_
    refine t_end ?_
    show W _ _ _ _ _ _ _
    obtain ⟨⟨x75, x76, x77⟩, e70, e⟩ := bind_of e
    try dsimp only at e
    refine w_cut [0, 1, 7, 8, 9, 10] (fun σ_ H_ S_ => [(0, .int .u64 a0), (1, .int .u64 b1), (7, .bool x75), (8, .int .u64 x76), (9, .int .i64 t67), (10, .int .i64 x77)] = σ_ ∧ ([] : List Own) = H_ ∧ S = S_) ?_ ?_
    · show W _ _ _ _ _ _ _
      refine w_seq ?_
      refine w_reg fun all => ?_
      obtain ⟨v72, hv73, e70⟩ := bind_of e70
      have hv73b := Option.some.inj hv73
      refine t_qz 2 [0, 1, 7, 8, 9, 10, 24, 25] (σ' := [(0, .int .u64 a0), (1, .int .u64 b1), (7, .bool true), (8, .int .u64 (wru64 (1 * 2 ^ (min (Int.toNat (wru64 (Int.tmod (wr64 ((Int.tmod k2 64) + 64)) 64))) 64)))), (9, .int .i64 t67), (10, .int .i64 t67), (24, .int .u64 a0), (25, .int .u64 (wru64 (1 * 2 ^ (min (Int.toNat (wru64 (Int.tmod (wr64 ((Int.tmod k2 64) + 64)) 64))) 64))))]) (by kernel_rfl) ?_
      refine t_v (dv_quiet rfl (congrArg (fun t => some (Value.int .u64 t)) hv73b)) ?_
      by_cases c74 : v72 = 0
      · rw [if_pos c74] at e70
        have c74b : (v72 == 0) = true := beq_iff_eq.mpr c74
        refine t_v (dv_quiet rfl (congrArg (fun t => some (Value.bool t)) c74b)) ?_
        refine t_keep [0, 1, 7, 8, 9, 10, 27] (σ' := [(0, .int .u64 a0), (1, .int .u64 b1), (7, .bool true), (8, .int .u64 (wru64 (1 * 2 ^ (min (Int.toNat (wru64 (Int.tmod (wr64 ((Int.tmod k2 64) + 64)) 64))) 64)))), (9, .int .i64 t67), (10, .int .i64 t67), (27, .bool true)]) (by kernel_rfl) ?_
        refine t_end ?_
        show W _ _ _ _ _ _ _
        refine w_cond rfl (fun _ => ?_) (fun c_ => by cases c_)
        show W _ _ _ _ _ _ _
        refine w_reg fun all => ?_
        refine t_qz 3 [0, 1, 7, 8, 9, 10] (σ' := [(0, .int .u64 a0), (1, .int .u64 b1), (7, .bool true), (8, .int .u64 (wru64 (1 * 2 ^ (min (Int.toNat (wru64 (Int.tmod (wr64 ((Int.tmod k2 64) + 64)) 64))) 64)))), (9, .int .i64 t67), (10, .int .i64 (wr64 (t67 + 1)))]) (by kernel_rfl) ?_
        refine t_end ?_
        simp only [Option.some.injEq, Prod.mk.injEq] at e70
        obtain ⟨rfl, rfl, rfl⟩ := e70
        exact ⟨([] : List Own), S, VS.sel [] (by kernel_rfl), by kernel_rfl, rfl, rfl⟩
      · rw [if_neg c74] at e70
        have c74b : (v72 == 0) = false := beq_eq_false_iff_ne.mpr c74
        refine t_v (dv_quiet rfl (congrArg (fun t => some (Value.bool t)) c74b)) ?_
        refine t_keep [0, 1, 7, 8, 9, 10, 27] (σ' := [(0, .int .u64 a0), (1, .int .u64 b1), (7, .bool true), (8, .int .u64 (wru64 (1 * 2 ^ (min (Int.toNat (wru64 (Int.tmod (wr64 ((Int.tmod k2 64) + 64)) 64))) 64)))), (9, .int .i64 t67), (10, .int .i64 t67), (27, .bool false)]) (by kernel_rfl) ?_
        refine t_end ?_
        show W _ _ _ _ _ _ _
        refine w_cond rfl (fun c_ => by cases c_) (fun _ => ?_)
        show W _ _ _ _ _ _ _
        refine w_skip ?_
        simp only [Option.some.injEq, Prod.mk.injEq] at e70
        obtain ⟨rfl, rfl, rfl⟩ := e70
        exact ⟨([] : List Own), S, VS.sel [] (by kernel_rfl), by kernel_rfl, rfl, rfl⟩
    · rintro σ_ H_ S_ ⟨rfl, rfl, rfl⟩
      refine w_seq ?_
      refine w_reg fun all => ?_
      by_cases c78 : x75 = true
      · rw [if_pos c78] at e
        have c78b : x75 = true := c78
        refine t_v (dv_quiet rfl (congrArg (fun t => some (Value.bool t)) c78b)) ?_
        obtain ⟨t79, h80, e⟩ := bind_of e
        refine t_qz 1 [0, 1, 8, 9, 10, 31] (σ' := [(0, .int .u64 a0), (1, .int .u64 b1), (8, .int .u64 x76), (9, .int .i64 t67), (10, .int .i64 x77), (31, .bool true)]) (by kernel_rfl) ?_
        refine t_v (.call (vs := [.int .u64 0]) rfl rfl (by kernel_rfl) (sweep_Count.ok h80)) ?_
        by_cases c81 : t79 = 0
        · rw [if_pos c81] at e
          have c81b : (t79 == 0) = true := beq_iff_eq.mpr c81
          refine t_v (dv_quiet rfl (congrArg (fun t => some (Value.bool t)) c81b)) ?_
          obtain ⟨t82, h83, e⟩ := bind_of e
          refine t_qz 2 [0, 1, 8, 9, 10, 35] (σ' := [(0, .int .u64 a0), (1, .int .u64 b1), (8, .int .u64 x76), (9, .int .i64 t67), (10, .int .i64 x77), (35, .bool true)]) (by kernel_rfl) ?_
          refine t_v (.call (vs := [.int .u64 18446744073709551615]) rfl rfl (by kernel_rfl) (sweep_Count.ok h83)) ?_
          by_cases c84 : t82 = 64
          · rw [if_pos c84] at e
            have c84b : (t82 == 64) = true := beq_iff_eq.mpr c84
            refine t_v (dv_quiet rfl (congrArg (fun t => some (Value.bool t)) c84b)) ?_
            by_cases c85 : t67 ≥ 0
            · rw [if_pos c85] at e
              have c85b : (decide (t67 ≥ 0)) = true := decide_eq_true c85
              refine t_qz 3 [0, 1, 8, 9, 10, 39, 40] (σ' := [(0, .int .u64 a0), (1, .int .u64 b1), (8, .int .u64 x76), (9, .int .i64 t67), (10, .int .i64 x77), (39, .bool true), (40, .int .i64 t67)]) (by kernel_rfl) ?_
              refine t_v (dv_quiet rfl (congrArg (fun t => some (Value.bool t)) c85b)) ?_
              by_cases c86 : t67 ≤ 64
              · rw [if_pos c86] at e
                have c86b : (decide (t67 ≤ 64)) = true := decide_eq_true c86
                refine t_qz 3 [0, 1, 8, 9, 10, 43, 44] (σ' := [(0, .int .u64 a0), (1, .int .u64 b1), (8, .int .u64 x76), (9, .int .i64 t67), (10, .int .i64 x77), (43, .bool true), (44, .int .i64 t67)]) (by kernel_rfl) ?_
                refine t_v (dv_quiet rfl (congrArg (fun t => some (Value.bool t)) c86b)) ?_
                obtain ⟨t87, h88, e⟩ := bind_of e
                refine t_qz 5 [0, 1, 9, 10, 47, 50] (σ' := [(0, .int .u64 a0), (1, .int .u64 b1), (9, .int .i64 t67), (10, .int .i64 x77), (47, .bool true), (50, .int .u64 (bits .or .u64 a0 x76))]) (by kernel_rfl) ?_
                refine t_v (.call (vs := [.int .u64 (bits .or .u64 a0 x76)]) rfl rfl (by kernel_rfl) (sweep_Count.ok h88)) ?_
                by_cases c89 : t87 = x77
                · rw [if_pos c89] at e
                  have c89b : (t87 == x77) = true := beq_iff_eq.mpr c89
                  refine t_qz 1 [0, 1, 9, 47, 51, 52] (σ' := [(0, .int .u64 a0), (1, .int .u64 b1), (9, .int .i64 t67), (47, .bool true), (51, .int .i64 t87), (52, .int .i64 x77)]) (by kernel_rfl) ?_
                  refine t_v (dv_quiet rfl (congrArg (fun t => some (Value.bool t)) c89b)) ?_
                  obtain ⟨t90, h91, e⟩ := bind_of e
                  refine t_qz 5 [0, 1, 9, 55, 58] (σ' := [(0, .int .u64 a0), (1, .int .u64 b1), (9, .int .i64 t67), (55, .bool true), (58, .int .u64 (bits .and .u64 a0 b1))]) (by kernel_rfl) ?_
                  refine t_v (.call (vs := [.int .u64 (bits .and .u64 a0 b1)]) rfl rfl (by kernel_rfl) (sweep_Count.ok h91)) ?_
                  obtain ⟨t92, h93, e⟩ := bind_of e
                  refine t_qz 3 [0, 9, 55, 59, 62] (σ' := [(0, .int .u64 a0), (9, .int .i64 t67), (55, .bool true), (59, .int .i64 t90), (62, .int .u64 (bits .andNot .u64 a0 b1))]) (by kernel_rfl) ?_
                  refine t_v (.call (vs := [.int .u64 (bits .andNot .u64 a0 b1)]) rfl rfl (by kernel_rfl) (sweep_Count.ok h93)) ?_
                  by_cases c94 : (wr64 (t90 + t92)) = t67
                  · rw [if_pos c94] at e
                    have c94b : ((wr64 (t90 + t92)) == t67) = true := beq_iff_eq.mpr c94
                    refine t_qz 2 [0, 9, 55, 64, 65] (σ' := [(0, .int .u64 a0), (9, .int .i64 t67), (55, .bool true), (64, .int .i64 (wr64 (t90 + t92))), (65, .int .i64 t67)]) (by kernel_rfl) ?_
                    refine t_v (dv_quiet rfl (congrArg (fun t => some (Value.bool t)) c94b)) ?_
                    obtain ⟨t95, h96, e⟩ := bind_of e
                    refine t_qz 4 [9, 68, 70] (σ' := [(9, .int .i64 t67), (68, .bool true), (70, .int .u64 (bits .xor .u64 18446744073709551615 a0))]) (by kernel_rfl) ?_
                    refine t_v (.call (vs := [.int .u64 (bits .xor .u64 18446744073709551615 a0)]) rfl rfl (by kernel_rfl) (sweep_Count.ok h96)) ?_
                    by_cases c97 : t95 = (wr64 (64 - t67))
                    · rw [if_pos c97] at e
                      have c97b : (t95 == (wr64 (64 - t67))) = true := beq_iff_eq.mpr c97
                      refine t_qz 2 [68, 71, 73] (σ' := [(68, .bool true), (71, .int .i64 t95), (73, .int .i64 (wr64 (64 - t67)))]) (by kernel_rfl) ?_
                      refine t_v (dv_quiet rfl (congrArg (fun t => some (Value.bool t)) c97b)) ?_
                      obtain ⟨⟨t98, t99⟩, h100, e⟩ := bind_of e
                      try dsimp only at e
                      refine t_qz 2 [76] (σ' := [(76, .bool true)]) (by kernel_rfl) ?_
                      refine t_v (.call (vs := [.int .i64 0, .int .i64 0, .int .i64 0]) rfl rfl (by kernel_rfl) (sweep_Sample.ok h100)) ?_
                      obtain ⟨t104, h105, e⟩ := bind_of e
                      refine t_qz 1 [76, 77, 78] (σ' := [(76, .bool true), (77, .agg #[.int .i64 t98, .int .i64 t99]), (78, .agg #[.int .i64 16, .int .i64 16])]) (by kernel_rfl) ?_
                      refine t_v (.call (vs := [.agg #[.int .i64 t98, .int .i64 t99], .agg #[.int .i64 16, .int .i64 16]]) rfl rfl (by kernel_rfl) (glyphicref_SamePoint.ok h105)) ?_
                      refine t_qz 2 [6] (σ' := [(6, .bool t104)]) (by kernel_rfl) ?_
                      refine t_end ?_
                      show W _ _ _ _ _ _ _
                      refine w_ret ?_
                      have hr_ := Option.some.inj e
                      exact ⟨[.bool t104], [], S, ⟨rfl, trivial⟩, VS.none, congrArg Value.bool hr_, rfl, rfl⟩
                    · rw [if_neg c97] at e
                      exact absurd (Option.some.inj e) (by decide)
                  · rw [if_neg c94] at e
                    exact absurd (Option.some.inj e) (by decide)
                · rw [if_neg c89] at e
                  exact absurd (Option.some.inj e) (by decide)
              · rw [if_neg c86] at e
                exact absurd (Option.some.inj e) (by decide)
            · rw [if_neg c85] at e
              exact absurd (Option.some.inj e) (by decide)
          · rw [if_neg c84] at e
            exact absurd (Option.some.inj e) (by decide)
        · rw [if_neg c81] at e
          exact absurd (Option.some.inj e) (by decide)
      · rw [if_neg c78] at e
        exact absurd (Option.some.inj e) (by decide)
  | false =>
    rw [if_neg (by decide)] at e
    exact absurd (Option.some.inj e) (by decide)

def glyphiclaw24_SweepBits.Pure : Prop := ∀ (a0 : Int) (b1 : Int) (k2 : Int), (Lit.int .u64 a0).wf = true → (Lit.int .u64 b1).wf = true → (Lit.int .i64 k2).wf = true → glyphiclaw24_SweepBits.f a0 b1 k2 = some true
theorem glyphiclaw24_SweepBits.walk (P : glyphiclaw24_SweepBits.Pure) (a0 : Int) (b1 : Int) (k2 : Int) (w : World) (ha0 : (Lit.int .u64 a0).wf = true) (hb1 : (Lit.int .u64 b1).wf = true) (hk2 : (Lit.int .i64 k2).wf = true) :
    Calls Try.prog 3 #[.int .u64 a0, .int .u64 b1, .int .i64 k2] w fun e w' => e = .returned (.bool true) ∧ Below w.heap.size w w' := law_w (hok0 w) (glyphiclaw24_SweepBits.ok (P a0 b1 k2 ha0 hb1 hk2))
end Go.Proofs.Ytbmphhejjmnccaa.QSweepBits
