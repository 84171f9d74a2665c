/- Functions of the program as Lean functions, each with the proof of its walk. Written by gen.py, a program of these sessions. -/
import Derived.Test.YtmbcokndaaelaaaX
import Derived.Test.YtmbcokndaaelaaaProg
namespace Go.Proofs.Ytmbcokndaaelaaa.QPaintMixes
open Go Go.RowKit Go.Proofs.YtmbcokndaaelaaaE Go.Proofs.YtmbcokndaaelaaaX
set_option linter.unusedVariables false
set_option maxRecDepth 100000
theorem mixed : Try.prog.follows .mixedOrders = true := by kernel_rfl

/-- plane.Sub -/
def c67 : C :=
  (.seq (.reg [⟨(some 2), .box (.tmp 0), none⟩,
     ⟨(some 3), .box (.tmp 1), none⟩,
     ⟨(some 4), .new [(.int .i64 0), (.int .i64 0)], none⟩])
  (.seq (.reg [⟨(some 5), .pad 0 (.tmp 2), none⟩,
     ⟨(some 6), .ld none (.tmp 5), none⟩,
     ⟨(some 7), .pad 0 (.tmp 3), none⟩,
     ⟨(some 8), .ld none (.tmp 7), none⟩,
     ⟨(some 9), .bin .sub (.tmp 6) (.tmp 8), none⟩,
     ⟨(some 10), .pad 1 (.tmp 2), none⟩,
     ⟨(some 11), .ld none (.tmp 10), none⟩,
     ⟨(some 12), .pad 1 (.tmp 3), none⟩,
     ⟨(some 13), .ld none (.tmp 12), none⟩,
     ⟨(some 14), .bin .sub (.tmp 11) (.tmp 13), none⟩,
     ⟨(some 15), .bld [(.int .i64 0), (.int .i64 0)] [(0, 1, (.tmp 9)), (1, 1, (.tmp 14))], none⟩,
     ⟨none, .st 2 (.tmp 4) (.tmp 15), none⟩])
  .ret))
def plane_Sub.f (a0_X : Int) (a0_Y : Int) (b1_X : Int) (b1_Y : Int) : Option (Int × Int) := some (wr64 (a0_X - b1_X), wr64 (a0_Y - b1_Y))
theorem plane_Sub.ok {S : Seal} {a0_X : Int} {a0_Y : Int} {b1_X : Int} {b1_Y : Int} {r0 : Int} {r1 : Int} (e : plane_Sub.f a0_X a0_Y b1_X b1_Y = some (r0, r1)) :
    Cal Try.prog 67 [.agg #[.int .i64 a0_X, .int .i64 a0_Y], .agg #[.int .i64 b1_X, .int .i64 b1_Y]] [] S fun v H' S' => v = .agg #[.int .i64 r0, .int .i64 r1] ∧ H' = [] ∧ S' = S := by
  unfold plane_Sub.f at e
  refine cal_of (c := c67) (N := 16) Try.func67 rfl rfl (by kernel_rfl) (rs := [.cn 2 4]) (by kernel_rfl) (Nat.le_of_ble_eq_true rfl) ?_
  unfold c67
  refine w_seq ?_
  refine w_reg fun all => ?_
  refine t_a (.box rfl rfl rfl) fun b1 fb1 sb1 => ?_
  refine t_a (.box rfl rfl rfl) fun b2 fb2 sb2 => ?_
  refine t_a (.new rfl rfl) fun b3 fb3 sb3 => ?_
  refine t_keep [2, 3, 4] (σ' := [(2, .pointer (some ⟨b1, 0, none⟩)), (3, .pointer (some ⟨b2, 0, none⟩)), (4, .pointer (some ⟨b3, 0, none⟩))]) (by kernel_rfl) ?_
  refine t_end ?_
  show W _ _ _ _ _ _ _
  refine w_seq ?_
  refine w_reg fun all => ?_
  refine t_qz 1 [2, 3, 4, 5] (σ' := [(2, .pointer (some ⟨b1, 0, none⟩)), (3, .pointer (some ⟨b2, 0, none⟩)), (4, .pointer (some ⟨b3, 0, none⟩)), (5, .pointer (some ⟨b1, 0, none⟩))]) (by kernel_rfl) ?_
  refine t_v (.ld1 rfl rfl rfl (.at 2 rfl rfl)) ?_
  refine t_qz 1 [2, 3, 4, 6, 7] (σ' := [(2, .pointer (some ⟨b1, 0, none⟩)), (3, .pointer (some ⟨b2, 0, none⟩)), (4, .pointer (some ⟨b3, 0, none⟩)), (6, .int .i64 a0_X), (7, .pointer (some ⟨b2, 0, none⟩))]) (by kernel_rfl) ?_
  refine t_v (.ld1 rfl rfl rfl (.at 1 rfl rfl)) ?_
  refine t_qz 2 [3, 4, 9, 10] (σ' := [(3, .pointer (some ⟨b2, 0, none⟩)), (4, .pointer (some ⟨b3, 0, none⟩)), (9, .int .i64 (wr64 (a0_X - b1_X))), (10, .pointer (some ⟨b1, 1, none⟩))]) (by kernel_rfl) ?_
  refine t_v (.ld1 rfl rfl rfl (.at 2 rfl rfl)) ?_
  refine t_qz 1 [4, 9, 11, 12] (σ' := [(4, .pointer (some ⟨b3, 0, none⟩)), (9, .int .i64 (wr64 (a0_X - b1_X))), (11, .int .i64 a0_Y), (12, .pointer (some ⟨b2, 1, none⟩))]) (by kernel_rfl) ?_
  refine t_v (.ld1 rfl rfl rfl (.at 1 rfl rfl)) ?_
  refine t_qz 2 [4, 15] (σ' := [(4, .pointer (some ⟨b3, 0, none⟩)), (15, .agg #[.int .i64 (wr64 (a0_X - b1_X)), .int .i64 (wr64 (a0_Y - b1_Y))])]) (by kernel_rfl) ?_
  refine t_sti 0 (cs := [.int .i64 (wr64 (a0_X - b1_X)), .int .i64 (wr64 (a0_Y - b1_Y))]) rfl rfl rfl rfl rfl rfl rfl rfl rfl ?_
  refine t_keep [4] (σ' := [(4, .pointer (some ⟨b3, 0, none⟩))]) (by kernel_rfl) ?_
  refine t_end ?_
  show W _ _ _ _ _ _ _
  refine w_ret ?_
  simp only [Option.some.injEq, Prod.mk.injEq] at e
  obtain ⟨rfl, rfl⟩ := e
  exact ⟨[.agg #[.int .i64 (wr64 (a0_X - b1_X)), .int .i64 (wr64 (a0_Y - b1_Y))]], [], S, ⟨⟨_, _, _, rfl, .at 0 rfl rfl, rfl⟩, trivial⟩, VS.none, rfl, rfl, rfl⟩

/-- plane.Dot -/
def c63 : C :=
  (.seq (.reg [⟨(some 3), .box (.tmp 0), none⟩,
     ⟨(some 4), .box (.tmp 1), none⟩,
     ⟨(some 5), .box (.tmp 2), none⟩,
     ⟨(some 6), .mv (.const (.int .i64 0)), none⟩])
  (.seq (.drw [⟨(some 9), .ld (some 2) (.tmp 4), none⟩,
     ⟨(some 10), .ld (some 2) (.tmp 3), none⟩,
     ⟨(some 11), .call 67 [(.tmp 9), (.tmp 10)], none⟩,
     ⟨(some 12), .ld (some 2) (.tmp 5), none⟩,
     ⟨(some 13), .ld (some 2) (.tmp 3), none⟩,
     ⟨(some 14), .call 67 [(.tmp 12), (.tmp 13)], none⟩,
     ⟨(some 7), .new [(.int .i64 0), (.int .i64 0)], none⟩,
     ⟨(some 8), .new [(.int .i64 0), (.int .i64 0)], none⟩,
     ⟨none, .st 2 (.tmp 7) (.tmp 11), none⟩,
     ⟨none, .st 2 (.tmp 8) (.tmp 14), none⟩] [[], [], [0, 1], [], [], [3, 4, 2], [], [], [6, 2, 5, 0, 1, 2, 6, 7], [7, 5, 8, 0, 1, 2, 3, 4, 5, 6, 7, 8]])
  (.seq (.reg [⟨(some 15), .pad 0 (.tmp 7), none⟩,
     ⟨(some 16), .ld none (.tmp 15), none⟩,
     ⟨(some 17), .pad 0 (.tmp 8), none⟩,
     ⟨(some 18), .ld none (.tmp 17), none⟩,
     ⟨(some 19), .bin .mul (.tmp 16) (.tmp 18), none⟩,
     ⟨(some 20), .pad 1 (.tmp 7), none⟩,
     ⟨(some 21), .ld none (.tmp 20), none⟩,
     ⟨(some 22), .pad 1 (.tmp 8), none⟩,
     ⟨(some 23), .ld none (.tmp 22), none⟩,
     ⟨(some 24), .bin .mul (.tmp 21) (.tmp 23), none⟩,
     ⟨(some 25), .bin .add (.tmp 19) (.tmp 24), none⟩,
     ⟨(some 6), .mv (.tmp 25), none⟩])
  .ret)))
def plane_Dot.f (a0_X : Int) (a0_Y : Int) (b1_X : Int) (b1_Y : Int) (p2_X : Int) (p2_Y : Int) : Option (Int) := (plane_Sub.f b1_X b1_Y a0_X a0_Y).bind fun (t7, t8) => ((plane_Sub.f p2_X p2_Y a0_X a0_Y).bind fun (t10, t11) => (some (wr64 ((wr64 (t7 * t10)) + (wr64 (t8 * t11))))))
theorem plane_Dot.ok {S : Seal} {a0_X : Int} {a0_Y : Int} {b1_X : Int} {b1_Y : Int} {p2_X : Int} {p2_Y : Int} {r0 : Int} (e : plane_Dot.f a0_X a0_Y b1_X b1_Y p2_X p2_Y = some r0) :
    Cal Try.prog 63 [.agg #[.int .i64 a0_X, .int .i64 a0_Y], .agg #[.int .i64 b1_X, .int .i64 b1_Y], .agg #[.int .i64 p2_X, .int .i64 p2_Y]] [] S fun v H' S' => v = .int .i64 r0 ∧ H' = [] ∧ S' = S := by
  unfold plane_Dot.f at e
  refine cal_of (c := c63) (N := 26) Try.func63 rfl rfl (by kernel_rfl) (rs := [.t 6]) (by kernel_rfl) (Nat.le_of_ble_eq_true rfl) ?_
  unfold c63
  refine w_seq ?_
  refine w_reg fun all => ?_
  refine t_a (.box rfl rfl rfl) fun b4 fb4 sb4 => ?_
  refine t_a (.box rfl rfl rfl) fun b5 fb5 sb5 => ?_
  refine t_a (.box rfl rfl rfl) fun b6 fb6 sb6 => ?_
  refine t_qz 1 [3, 4, 5] (σ' := [(3, .pointer (some ⟨b4, 0, none⟩)), (4, .pointer (some ⟨b5, 0, none⟩)), (5, .pointer (some ⟨b6, 0, none⟩))]) (by kernel_rfl) ?_
  refine t_end ?_
  show W _ _ _ _ _ _ _
  refine w_seq ?_
  obtain ⟨⟨t7, t8⟩, h9, e⟩ := bind_of e
  try dsimp only at e
  obtain ⟨⟨t10, t11⟩, h12, e⟩ := bind_of e
  try dsimp only at e
  refine w_drwE mixed 8 [.v (.agg #[.int .i64 b1_X, .int .i64 b1_Y]), .v (.agg #[.int .i64 a0_X, .int .i64 a0_Y]), .v (.agg #[.int .i64 t7, .int .i64 t8]), .v (.agg #[.int .i64 p2_X, .int .i64 p2_Y]), .v (.agg #[.int .i64 a0_X, .int .i64 a0_Y]), .v (.agg #[.int .i64 t10, .int .i64 t11]), .a [.int .i64 0, .int .i64 0] ptrTo, .a [.int .i64 0, .int .i64 0] ptrTo] (by kernel_rfl) ?_ ?_
  · refine .cons (.ldn rfl rfl rfl (.at 1 rfl rfl)) ?_
    refine .cons (.ldn rfl rfl rfl (.at 2 rfl rfl)) ?_
    refine .cons (.call (vs := [.agg #[.int .i64 b1_X, .int .i64 b1_Y], .agg #[.int .i64 a0_X, .int .i64 a0_Y]]) rfl rfl (by kernel_rfl) (plane_Sub.ok h9)) ?_
    refine .cons (.ldn rfl rfl rfl (.at 0 rfl rfl)) ?_
    refine .cons (.ldn rfl rfl rfl (.at 2 rfl rfl)) ?_
    refine .cons (.call (vs := [.agg #[.int .i64 p2_X, .int .i64 p2_Y], .agg #[.int .i64 a0_X, .int .i64 a0_Y]]) rfl rfl (by kernel_rfl) (plane_Sub.ok h12)) ?_
    refine .cons (.new rfl rfl) ?_
    refine .cons (.new rfl rfl) ?_
    exact .nil
  refine fk_q 6 [11, 14] (σ' := [(11, .agg #[.int .i64 t7, .int .i64 t8]), (14, .agg #[.int .i64 t10, .int .i64 t11])]) t_more (by kernel_rfl) ?_
  refine fk_a fun b13 fb13 sb13 => ?_
  refine fk_a fun b14 fb14 sb14 => ?_
  refine fk_nil fun all => ?_
  refine t_sti 1 (cs := [.int .i64 t7, .int .i64 t8]) rfl rfl rfl rfl rfl rfl rfl rfl rfl ?_
  refine t_sti 0 (cs := [.int .i64 t10, .int .i64 t11]) rfl rfl rfl rfl rfl rfl rfl rfl rfl ?_
  refine t_keep [7, 8] (σ' := [(7, .pointer (some ⟨b13, 0, none⟩)), (8, .pointer (some ⟨b14, 0, none⟩))]) (by kernel_rfl) ?_
  refine t_end ?_
  show W _ _ _ _ _ _ _
  refine w_seq ?_
  refine w_reg fun all => ?_
  refine t_qz 1 [7, 8, 15] (σ' := [(7, .pointer (some ⟨b13, 0, none⟩)), (8, .pointer (some ⟨b14, 0, none⟩)), (15, .pointer (some ⟨b13, 0, none⟩))]) (by kernel_rfl) ?_
  refine t_v (.ld1 rfl rfl rfl (.at 1 rfl rfl)) ?_
  refine t_qz 1 [7, 8, 16, 17] (σ' := [(7, .pointer (some ⟨b13, 0, none⟩)), (8, .pointer (some ⟨b14, 0, none⟩)), (16, .int .i64 t7), (17, .pointer (some ⟨b14, 0, none⟩))]) (by kernel_rfl) ?_
  refine t_v (.ld1 rfl rfl rfl (.at 0 rfl rfl)) ?_
  refine t_qz 2 [8, 19, 20] (σ' := [(8, .pointer (some ⟨b14, 0, none⟩)), (19, .int .i64 (wr64 (t7 * t10))), (20, .pointer (some ⟨b13, 1, none⟩))]) (by kernel_rfl) ?_
  refine t_v (.ld1 rfl rfl rfl (.at 1 rfl rfl)) ?_
  refine t_qz 1 [19, 21, 22] (σ' := [(19, .int .i64 (wr64 (t7 * t10))), (21, .int .i64 t8), (22, .pointer (some ⟨b14, 1, none⟩))]) (by kernel_rfl) ?_
  refine t_v (.ld1 rfl rfl rfl (.at 0 rfl rfl)) ?_
  refine t_qz 3 [6] (σ' := [(6, .int .i64 (wr64 ((wr64 (t7 * t10)) + (wr64 (t8 * t11)))))]) (by kernel_rfl) ?_
  refine t_end ?_
  show W _ _ _ _ _ _ _
  refine w_ret ?_
  obtain rfl := Option.some.inj e
  exact ⟨[.int .i64 (wr64 ((wr64 (t7 * t10)) + (wr64 (t8 * t11))))], [], S, ⟨rfl, trivial⟩, VS.none, rfl, rfl, rfl⟩

/-- plane.Len2 -/
def c48 : C :=
  (.seq (.reg [⟨(some 2), .box (.tmp 0), none⟩,
     ⟨(some 3), .box (.tmp 1), none⟩,
     ⟨(some 4), .mv (.const (.int .i64 0)), none⟩])
  (.seq (.reg [⟨(some 5), .ld (some 2) (.tmp 2), none⟩,
     ⟨(some 6), .ld (some 2) (.tmp 3), none⟩,
     ⟨(some 7), .ld (some 2) (.tmp 3), none⟩,
     ⟨(some 8), .call 63 [(.tmp 5), (.tmp 6), (.tmp 7)], none⟩,
     ⟨(some 4), .mv (.tmp 8), none⟩])
  .ret))
def plane_Len2.f (a0_X : Int) (a0_Y : Int) (b1_X : Int) (b1_Y : Int) : Option (Int) := (plane_Dot.f a0_X a0_Y b1_X b1_Y b1_X b1_Y).bind fun t17 => (some t17)
theorem plane_Len2.ok {S : Seal} {a0_X : Int} {a0_Y : Int} {b1_X : Int} {b1_Y : Int} {r0 : Int} (e : plane_Len2.f a0_X a0_Y b1_X b1_Y = some r0) :
    Cal Try.prog 48 [.agg #[.int .i64 a0_X, .int .i64 a0_Y], .agg #[.int .i64 b1_X, .int .i64 b1_Y]] [] S fun v H' S' => v = .int .i64 r0 ∧ H' = [] ∧ S' = S := by
  unfold plane_Len2.f at e
  refine cal_of (c := c48) (N := 9) Try.func48 rfl rfl (by kernel_rfl) (rs := [.t 4]) (by kernel_rfl) (Nat.le_of_ble_eq_true rfl) ?_
  unfold c48
  refine w_seq ?_
  refine w_reg fun all => ?_
  refine t_a (.box rfl rfl rfl) fun b15 fb15 sb15 => ?_
  refine t_a (.box rfl rfl rfl) fun b16 fb16 sb16 => ?_
  refine t_qz 1 [2, 3] (σ' := [(2, .pointer (some ⟨b15, 0, none⟩)), (3, .pointer (some ⟨b16, 0, none⟩))]) (by kernel_rfl) ?_
  refine t_end ?_
  show W _ _ _ _ _ _ _
  refine w_seq ?_
  refine w_reg fun all => ?_
  refine t_v (.ldn rfl rfl rfl (.at 1 rfl rfl)) ?_
  refine t_v (.ldn rfl rfl rfl (.at 0 rfl rfl)) ?_
  refine t_v (.ldn rfl rfl rfl (.at 0 rfl rfl)) ?_
  obtain ⟨t17, h18, e⟩ := bind_of e
  refine t_v (.call (vs := [.agg #[.int .i64 a0_X, .int .i64 a0_Y], .agg #[.int .i64 b1_X, .int .i64 b1_Y], .agg #[.int .i64 b1_X, .int .i64 b1_Y]]) rfl rfl (by kernel_rfl) (plane_Dot.ok h18)) ?_
  refine t_qz 1 [4] (σ' := [(4, .int .i64 t17)]) (by kernel_rfl) ?_
  refine t_end ?_
  show W _ _ _ _ _ _ _
  refine w_ret ?_
  obtain rfl := Option.some.inj e
  exact ⟨[.int .i64 t17], [], S, ⟨rfl, trivial⟩, VS.none, rfl, rfl, rfl⟩

/-- paint.linear -/
def c46 : C :=
  (.seq (.reg [⟨(some 2), .box (.tmp 0), none⟩,
     ⟨(some 3), .box (.tmp 1), none⟩,
     ⟨(some 4), .mv (.const (.int .i64 0)), none⟩])
  (.seq (.drw [⟨(some 11), .pad 3 (.tmp 2), none⟩,
     ⟨(some 12), .ld (some 2) (.tmp 11), none⟩,
     ⟨(some 13), .pad 5 (.tmp 2), none⟩,
     ⟨(some 14), .ld (some 2) (.tmp 13), none⟩,
     ⟨(some 15), .ld (some 2) (.tmp 3), none⟩,
     ⟨(some 16), .call 63 [(.tmp 12), (.tmp 14), (.tmp 15)], none⟩,
     ⟨(some 17), .pad 3 (.tmp 2), none⟩,
     ⟨(some 18), .ld (some 2) (.tmp 17), none⟩,
     ⟨(some 19), .pad 5 (.tmp 2), none⟩,
     ⟨(some 20), .ld (some 2) (.tmp 19), none⟩,
     ⟨(some 21), .call 48 [(.tmp 18), (.tmp 20)], none⟩,
     ⟨(some 5), .mv (.tmp 16), none⟩,
     ⟨(some 6), .mv (.tmp 21), none⟩] [[], [0], [], [2], [], [1, 3, 4], [], [6], [], [8], [7, 9, 5], [5, 10, 0, 1, 2, 3, 4, 5], [10, 11, 0, 1, 2, 3, 4, 5, 6, 7, 8, 9, 10, 11]])
  (.seq (.block 0 (.seq (.reg [⟨(some 23), .mv (.tmp 5), none⟩,
       ⟨(some 24), .bin .leq (.tmp 23) (.const (.int .i64 0)), none⟩,
       ⟨(some 25), .mv (.tmp 24), none⟩,
       ⟨(some 26), .mv (.tmp 6), (some (25, false))⟩,
       ⟨(some 27), .bin .leq (.tmp 26) (.const (.int .i64 0)), (some (25, false))⟩,
       ⟨(some 28), .pk (.tmp 25) (.const (.bool true)) (.tmp 27), none⟩,
       ⟨(some 22), .mv (.tmp 28), none⟩])
    (.cond (.tmp 22)
     (.seq (.reg [⟨(some 4), .mv (.const (.int .i64 0)), none⟩])
      .ret)
     (.seq (.reg [⟨(some 30), .mv (.tmp 5), none⟩,
         ⟨(some 31), .mv (.tmp 6), none⟩,
         ⟨(some 32), .bin .geq (.tmp 30) (.tmp 31), none⟩,
         ⟨(some 29), .mv (.tmp 32), none⟩])
      (.cond (.tmp 29)
       (.seq (.reg [⟨(some 4), .mv (.const (.int .i64 65536)), none⟩])
        .ret)
       .skip)))))
  (.seq (.reg [⟨(some 34), .mv (.tmp 5), none⟩,
     ⟨(some 35), .cnv .u64 (.tmp 34), none⟩,
     ⟨(some 36), .call 54 [(.tmp 35), (.const (.int .u64 65536))], none⟩,
     ⟨(some 33), .mv (.tmp 36), none⟩,
     ⟨(some 37), .xt 0 (.tmp 33), none⟩,
     ⟨(some 38), .xt 1 (.tmp 33), none⟩,
     ⟨(some 7), .mv (.tmp 37), none⟩,
     ⟨(some 8), .mv (.tmp 38), none⟩])
  (.seq (.reg [⟨(some 40), .mv (.tmp 7), none⟩,
     ⟨(some 41), .mv (.tmp 8), none⟩,
     ⟨(some 42), .mv (.tmp 6), none⟩,
     ⟨(some 43), .cnv .u64 (.tmp 42), none⟩,
     ⟨(some 44), .call 55 [(.tmp 40), (.tmp 41), (.tmp 43)], none⟩,
     ⟨(some 39), .mv (.tmp 44), none⟩,
     ⟨(some 45), .xt 0 (.tmp 39), none⟩,
     ⟨(some 46), .xt 1 (.tmp 39), none⟩,
     ⟨(some 9), .mv (.tmp 45), none⟩,
     ⟨(some 10), .mv (.tmp 46), none⟩])
  (.seq (.reg [⟨(some 47), .mv (.tmp 9), none⟩,
     ⟨(some 48), .cnv .i64 (.tmp 47), none⟩,
     ⟨(some 4), .mv (.tmp 48), none⟩])
  .ret))))))
def paint_linear.f (p0_Kind : Int) (p0_A : Int) (p0_B : Int) (p0_P_X : Int) (p0_P_Y : Int) (p0_Q_X : Int) (p0_Q_Y : Int) (at1_X : Int) (at1_Y : Int) : Option (Int) := (plane_Dot.f p0_P_X p0_P_Y p0_Q_X p0_Q_Y at1_X at1_Y).bind fun t21 => ((plane_Len2.f p0_P_X p0_P_Y p0_Q_X p0_Q_Y).bind fun t23 => (if t21 ≤ 0 then (some 0) else (if t23 ≤ 0 then (some 0) else (if t21 ≥ t23 then (some 65536) else ((bits_Mul64.f (wru64 t21) 65536).bind fun (t28, t29) => ((bits_Div64.f t28 t29 (wru64 t23)).bind fun (t31, t32) => (some (wr64 t31))))))))
theorem paint_linear.ok {S : Seal} {p0_Kind : Int} {p0_A : Int} {p0_B : Int} {p0_P_X : Int} {p0_P_Y : Int} {p0_Q_X : Int} {p0_Q_Y : Int} {at1_X : Int} {at1_Y : Int} {r0 : Int} (e : paint_linear.f p0_Kind p0_A p0_B p0_P_X p0_P_Y p0_Q_X p0_Q_Y at1_X at1_Y = some r0) :
    Cal Try.prog 46 [.agg #[.int .i64 p0_Kind, .int .i64 p0_A, .int .i64 p0_B, .int .i64 p0_P_X, .int .i64 p0_P_Y, .int .i64 p0_Q_X, .int .i64 p0_Q_Y], .agg #[.int .i64 at1_X, .int .i64 at1_Y]] [] S fun v H' S' => v = .int .i64 r0 ∧ H' = [] ∧ S' = S := by
  unfold paint_linear.f at e
  refine cal_of (c := c46) (N := 49) Try.func46 rfl rfl (by kernel_rfl) (rs := [.t 4]) (by kernel_rfl) (Nat.le_of_ble_eq_true rfl) ?_
  unfold c46
  refine w_seq ?_
  refine w_reg fun all => ?_
  refine t_a (.box rfl rfl rfl) fun b19 fb19 sb19 => ?_
  refine t_a (.box rfl rfl rfl) fun b20 fb20 sb20 => ?_
  refine t_qz 1 [2, 3] (σ' := [(2, .pointer (some ⟨b19, 0, none⟩)), (3, .pointer (some ⟨b20, 0, none⟩))]) (by kernel_rfl) ?_
  refine t_end ?_
  show W _ _ _ _ _ _ _
  refine w_seq ?_
  obtain ⟨t21, h22, e⟩ := bind_of e
  obtain ⟨t23, h24, e⟩ := bind_of e
  refine w_drwE mixed 13 [.v (.pointer (some ⟨b19, 3, none⟩)), .v (.agg #[.int .i64 p0_P_X, .int .i64 p0_P_Y]), .v (.pointer (some ⟨b19, 5, none⟩)), .v (.agg #[.int .i64 p0_Q_X, .int .i64 p0_Q_Y]), .v (.agg #[.int .i64 at1_X, .int .i64 at1_Y]), .v (.int .i64 t21), .v (.pointer (some ⟨b19, 3, none⟩)), .v (.agg #[.int .i64 p0_P_X, .int .i64 p0_P_Y]), .v (.pointer (some ⟨b19, 5, none⟩)), .v (.agg #[.int .i64 p0_Q_X, .int .i64 p0_Q_Y]), .v (.int .i64 t23), .v (.int .i64 t21), .v (.int .i64 t23)] (by kernel_rfl) ?_ ?_
  · refine DI.sq 1 (by kernel_rfl) rfl ?_
    refine .cons (.ldn rfl rfl rfl (.at 1 rfl rfl)) ?_
    refine DI.sq 1 (by kernel_rfl) rfl ?_
    refine .cons (.ldn rfl rfl rfl (.at 1 rfl rfl)) ?_
    refine .cons (.ldn rfl rfl rfl (.at 0 rfl rfl)) ?_
    refine .cons (.call (vs := [.agg #[.int .i64 p0_P_X, .int .i64 p0_P_Y], .agg #[.int .i64 p0_Q_X, .int .i64 p0_Q_Y], .agg #[.int .i64 at1_X, .int .i64 at1_Y]]) rfl rfl (by kernel_rfl) (plane_Dot.ok h22)) ?_
    refine DI.sq 1 (by kernel_rfl) rfl ?_
    refine .cons (.ldn rfl rfl rfl (.at 1 rfl rfl)) ?_
    refine DI.sq 1 (by kernel_rfl) rfl ?_
    refine .cons (.ldn rfl rfl rfl (.at 1 rfl rfl)) ?_
    refine .cons (.call (vs := [.agg #[.int .i64 p0_P_X, .int .i64 p0_P_Y], .agg #[.int .i64 p0_Q_X, .int .i64 p0_Q_Y]]) rfl rfl (by kernel_rfl) (plane_Len2.ok h24)) ?_
    refine DI.sq 2 (by kernel_rfl) rfl ?_
    exact .nil
  refine fk_q 13 [5, 6] (σ' := [(5, .int .i64 t21), (6, .int .i64 t23)]) t_more (by kernel_rfl) ?_
  refine fk_nil fun all => ?_
  refine t_keep [5, 6] (σ' := [(5, .int .i64 t21), (6, .int .i64 t23)]) (by kernel_rfl) ?_
  refine t_end ?_
  show W _ _ _ _ _ _ _
  refine w_seq ?_
  refine w_block ?_
  refine w_seq ?_
  refine w_reg fun all => ?_
  by_cases c25 : t21 ≤ 0
  · rw [if_pos c25] at e
    have c25b : (decide (t21 ≤ 0)) = true := decide_eq_true c25
    refine t_qz 1 [5, 6, 23] (σ' := [(5, .int .i64 t21), (6, .int .i64 t23), (23, .int .i64 t21)]) (by kernel_rfl) ?_
    refine t_v (dv_quiet rfl (congrArg (fun t => some (Value.bool t)) c25b)) ?_
    refine t_qz 5 [5, 6, 22] (σ' := [(5, .int .i64 t21), (6, .int .i64 t23), (22, .bool true)]) (by kernel_rfl) ?_
    refine t_end ?_
    show W _ _ _ _ _ _ _
    refine w_cond rfl (fun _ => ?_) (fun c_ => by cases c_)
    show W _ _ _ _ _ _ _
    refine w_seq ?_
    refine w_reg fun all => ?_
    refine t_qz 1 [4] (σ' := [(4, .int .i64 0)]) (by kernel_rfl) ?_
    refine t_end ?_
    show W _ _ _ _ _ _ _
    refine w_ret ?_
    obtain rfl := Option.some.inj e
    exact ⟨[.int .i64 0], [], S, ⟨rfl, trivial⟩, VS.none, rfl, rfl, rfl⟩
  · rw [if_neg c25] at e
    have c25b : (decide (t21 ≤ 0)) = false := decide_eq_false c25
    refine t_qz 1 [5, 6, 23] (σ' := [(5, .int .i64 t21), (6, .int .i64 t23), (23, .int .i64 t21)]) (by kernel_rfl) ?_
    refine t_v (dv_quiet rfl (congrArg (fun t => some (Value.bool t)) c25b)) ?_
    by_cases c26 : t23 ≤ 0
    · rw [if_pos c26] at e
      have c26b : (decide (t23 ≤ 0)) = true := decide_eq_true c26
      refine t_qz 2 [5, 6, 25, 26] (σ' := [(5, .int .i64 t21), (6, .int .i64 t23), (25, .bool false), (26, .int .i64 t23)]) (by kernel_rfl) ?_
      refine t_v (dv_quiet rfl (congrArg (fun t => some (Value.bool t)) c26b)) ?_
      refine t_qz 2 [5, 6, 22] (σ' := [(5, .int .i64 t21), (6, .int .i64 t23), (22, .bool true)]) (by kernel_rfl) ?_
      refine t_end ?_
      show W _ _ _ _ _ _ _
      refine w_cond rfl (fun _ => ?_) (fun c_ => by cases c_)
      show W _ _ _ _ _ _ _
      refine w_seq ?_
      refine w_reg fun all => ?_
      refine t_qz 1 [4] (σ' := [(4, .int .i64 0)]) (by kernel_rfl) ?_
      refine t_end ?_
      show W _ _ _ _ _ _ _
      refine w_ret ?_
      obtain rfl := Option.some.inj e
      exact ⟨[.int .i64 0], [], S, ⟨rfl, trivial⟩, VS.none, rfl, rfl, rfl⟩
    · rw [if_neg c26] at e
      have c26b : (decide (t23 ≤ 0)) = false := decide_eq_false c26
      refine t_qz 2 [5, 6, 25, 26] (σ' := [(5, .int .i64 t21), (6, .int .i64 t23), (25, .bool false), (26, .int .i64 t23)]) (by kernel_rfl) ?_
      refine t_v (dv_quiet rfl (congrArg (fun t => some (Value.bool t)) c26b)) ?_
      refine t_qz 2 [5, 6, 22] (σ' := [(5, .int .i64 t21), (6, .int .i64 t23), (22, .bool false)]) (by kernel_rfl) ?_
      refine t_end ?_
      show W _ _ _ _ _ _ _
      refine w_cond rfl (fun c_ => by cases c_) (fun _ => ?_)
      show W _ _ _ _ _ _ _
      refine w_seq ?_
      refine w_reg fun all => ?_
      by_cases c27 : t21 ≥ t23
      · rw [if_pos c27] at e
        have c27b : (decide (t21 ≥ t23)) = true := decide_eq_true c27
        refine t_qz 2 [5, 6, 30, 31] (σ' := [(5, .int .i64 t21), (6, .int .i64 t23), (30, .int .i64 t21), (31, .int .i64 t23)]) (by kernel_rfl) ?_
        refine t_v (dv_quiet rfl (congrArg (fun t => some (Value.bool t)) c27b)) ?_
        refine t_qz 1 [5, 6, 29] (σ' := [(5, .int .i64 t21), (6, .int .i64 t23), (29, .bool true)]) (by kernel_rfl) ?_
        refine t_end ?_
        show W _ _ _ _ _ _ _
        refine w_cond rfl (fun _ => ?_) (fun c_ => by cases c_)
        show W _ _ _ _ _ _ _
        refine w_seq ?_
        refine w_reg fun all => ?_
        refine t_qz 1 [4] (σ' := [(4, .int .i64 65536)]) (by kernel_rfl) ?_
        refine t_end ?_
        show W _ _ _ _ _ _ _
        refine w_ret ?_
        obtain rfl := Option.some.inj e
        exact ⟨[.int .i64 65536], [], S, ⟨rfl, trivial⟩, VS.none, rfl, rfl, rfl⟩
      · rw [if_neg c27] at e
        have c27b : (decide (t21 ≥ t23)) = false := decide_eq_false c27
        refine t_qz 2 [5, 6, 30, 31] (σ' := [(5, .int .i64 t21), (6, .int .i64 t23), (30, .int .i64 t21), (31, .int .i64 t23)]) (by kernel_rfl) ?_
        refine t_v (dv_quiet rfl (congrArg (fun t => some (Value.bool t)) c27b)) ?_
        refine t_qz 1 [5, 6, 29] (σ' := [(5, .int .i64 t21), (6, .int .i64 t23), (29, .bool false)]) (by kernel_rfl) ?_
        refine t_end ?_
        show W _ _ _ _ _ _ _
        refine w_cond rfl (fun c_ => by cases c_) (fun _ => ?_)
        show W _ _ _ _ _ _ _
        refine w_skip ?_
        show W _ _ _ _ _ _ _
        refine w_seq ?_
        refine w_reg fun all => ?_
        obtain ⟨⟨t28, t29⟩, h30, e⟩ := bind_of e
        try dsimp only at e
        refine t_qz 2 [6, 35] (σ' := [(6, .int .i64 t23), (35, .int .u64 (wru64 t21))]) (by kernel_rfl) ?_
        refine t_v (.call (vs := [.int .u64 (wru64 t21), .int .u64 65536]) rfl rfl (by kernel_rfl) (bits_Mul64.ok h30)) ?_
        refine t_qz 5 [6, 7, 8] (σ' := [(6, .int .i64 t23), (7, .int .u64 t28), (8, .int .u64 t29)]) (by kernel_rfl) ?_
        refine t_end ?_
        show W _ _ _ _ _ _ _
        refine w_seq ?_
        refine w_reg fun all => ?_
        obtain ⟨⟨t31, t32⟩, h33, e⟩ := bind_of e
        try dsimp only at e
        refine t_qz 4 [40, 41, 43] (σ' := [(40, .int .u64 t28), (41, .int .u64 t29), (43, .int .u64 (wru64 t23))]) (by kernel_rfl) ?_
        refine t_v (.call (vs := [.int .u64 t28, .int .u64 t29, .int .u64 (wru64 t23)]) rfl rfl (by kernel_rfl) (bits_Div64.ok h33)) ?_
        refine t_qz 5 [9] (σ' := [(9, .int .u64 t31)]) (by kernel_rfl) ?_
        refine t_end ?_
        show W _ _ _ _ _ _ _
        refine w_seq ?_
        refine w_reg fun all => ?_
        refine t_qz 3 [4] (σ' := [(4, .int .i64 (wr64 t31))]) (by kernel_rfl) ?_
        refine t_end ?_
        show W _ _ _ _ _ _ _
        refine w_ret ?_
        obtain rfl := Option.some.inj e
        exact ⟨[.int .i64 (wr64 t31)], [], S, ⟨rfl, trivial⟩, VS.none, rfl, rfl, rfl⟩

/-- fixed.Sqrt -/
def c47 : C :=
  (.seq (.reg [⟨(some 2), .mv (.const (.int .i64 0)), none⟩])
  (.seq (.seq (.reg [⟨(some 6), .mv (.tmp 0), none⟩,
      ⟨(some 7), .bin .lss (.tmp 6) (.const (.int .i64 1)), none⟩])
   (.cond (.tmp 7)
    (.seq (.reg [⟨(some 2), .mv (.const (.int .i64 0)), none⟩])
     .ret)
    .skip))
  (.seq (.reg [⟨(some 3), .mv (.const (.int .i64 0)), none⟩,
     ⟨(some 4), .mv (.const (.int .i64 4294967296)), none⟩])
  (.seq (.block 0 (.loop (.seq (.seq (.reg [⟨(some 8), .mv (.tmp 4), none⟩,
         ⟨(some 9), .mv (.tmp 3), none⟩,
         ⟨(some 10), .bin .sub (.tmp 8) (.tmp 9), none⟩,
         ⟨(some 11), .bin .gtr (.tmp 10) (.const (.int .i64 1)), none⟩])
      (.cond (.tmp 11)
       .skip
       (.exit 0)))
     (.block 1 (.seq (.reg [⟨(some 12), .mv (.tmp 3), none⟩,
         ⟨(some 13), .mv (.tmp 4), none⟩,
         ⟨(some 14), .mv (.tmp 3), none⟩,
         ⟨(some 15), .bin .sub (.tmp 13) (.tmp 14), none⟩,
         ⟨(some 16), .bin .quo (.tmp 15) (.const (.int .i64 2)), none⟩,
         ⟨(some 17), .bin .add (.tmp 12) (.tmp 16), none⟩,
         ⟨(some 5), .mv (.tmp 17), none⟩])
      (.seq (.reg [⟨(some 18), .mv (.tmp 5), none⟩,
         ⟨(some 19), .mv (.tmp 0), none⟩,
         ⟨(some 20), .mv (.tmp 5), none⟩,
         ⟨(some 21), .bin .quo (.tmp 19) (.tmp 20), none⟩,
         ⟨(some 22), .bin .leq (.tmp 18) (.tmp 21), none⟩])
      (.cond (.tmp 22)
       (.reg [⟨(some 23), .mv (.tmp 5), none⟩,
          ⟨(some 3), .mv (.tmp 23), none⟩])
       (.reg [⟨(some 24), .mv (.tmp 5), none⟩,
          ⟨(some 4), .mv (.tmp 24), none⟩]))))))))
  (.seq (.reg [⟨(some 25), .mv (.tmp 3), none⟩,
     ⟨(some 2), .mv (.tmp 25), none⟩])
  .ret)))))
def fixed_Sqrt.l0 : Nat → Int → Int → Int → Option (Int)
  | 0, _, _, _ => none
  | k + 1, n0, x38, x39 => if (wr64 (x39 - x38)) > 1 then (if (wr64 (x38 + (wr64 (Int.tdiv (wr64 (x39 - x38)) 2)))) = 0 then none else (if (wr64 (x38 + (wr64 (Int.tdiv (wr64 (x39 - x38)) 2)))) ≤ (wr64 (Int.tdiv n0 (wr64 (x38 + (wr64 (Int.tdiv (wr64 (x39 - x38)) 2)))))) then (fixed_Sqrt.l0 k n0 (wr64 (x38 + (wr64 (Int.tdiv (wr64 (x39 - x38)) 2)))) x39) else (fixed_Sqrt.l0 k n0 x38 (wr64 (x38 + (wr64 (Int.tdiv (wr64 (x39 - x38)) 2))))))) else (some x38)
def fixed_Sqrt.f (k : Nat) (n0 : Int) : Option (Int) := if n0 < 1 then (some 0) else ((fixed_Sqrt.l0 k n0 0 4294967296 : Option (Int)).bind fun x46 => (some x46))
theorem fixed_Sqrt.ok {S : Seal} {k : Nat} {n0 : Int} {r0 : Int} (e : fixed_Sqrt.f k n0 = some r0) :
    Cal Try.prog 47 [.int .i64 n0] [] S fun v H' S' => v = .int .i64 r0 ∧ H' = [] ∧ S' = S := by
  unfold fixed_Sqrt.f at e
  refine cal_of (c := c47) (N := 26) Try.func47 rfl rfl (by kernel_rfl) (rs := [.t 2]) (by kernel_rfl) (Nat.le_of_ble_eq_true rfl) ?_
  unfold c47
  refine w_seq ?_
  refine w_reg fun all => ?_
  refine t_qz 1 [0] (σ' := [(0, .int .i64 n0)]) (by kernel_rfl) ?_
  refine t_end ?_
  show W _ _ _ _ _ _ _
  refine w_seq ?_
  refine w_seq ?_
  refine w_reg fun all => ?_
  by_cases c34 : n0 < 1
  · rw [if_pos c34] at e
    have c34b : (decide (n0 < 1)) = true := decide_eq_true c34
    refine t_qz 1 [0, 6] (σ' := [(0, .int .i64 n0), (6, .int .i64 n0)]) (by kernel_rfl) ?_
    refine t_v (dv_quiet rfl (congrArg (fun t => some (Value.bool t)) c34b)) ?_
    refine t_keep [0, 7] (σ' := [(0, .int .i64 n0), (7, .bool true)]) (by kernel_rfl) ?_
    refine t_end ?_
    show W _ _ _ _ _ _ _
    refine w_cond rfl (fun _ => ?_) (fun c_ => by cases c_)
    show W _ _ _ _ _ _ _
    refine w_seq ?_
    refine w_reg fun all => ?_
    refine t_qz 1 [2] (σ' := [(2, .int .i64 0)]) (by kernel_rfl) ?_
    refine t_end ?_
    show W _ _ _ _ _ _ _
    refine w_ret ?_
    obtain rfl := Option.some.inj e
    exact ⟨[.int .i64 0], [], S, ⟨rfl, trivial⟩, VS.none, rfl, rfl, rfl⟩
  · rw [if_neg c34] at e
    have c34b : (decide (n0 < 1)) = false := decide_eq_false c34
    refine t_qz 1 [0, 6] (σ' := [(0, .int .i64 n0), (6, .int .i64 n0)]) (by kernel_rfl) ?_
    refine t_v (dv_quiet rfl (congrArg (fun t => some (Value.bool t)) c34b)) ?_
    refine t_keep [0, 7] (σ' := [(0, .int .i64 n0), (7, .bool false)]) (by kernel_rfl) ?_
    refine t_end ?_
    show W _ _ _ _ _ _ _
    refine w_cond rfl (fun c_ => by cases c_) (fun _ => ?_)
    show W _ _ _ _ _ _ _
    refine w_skip ?_
    show W _ _ _ _ _ _ _
    refine w_seq ?_
    refine w_reg fun all => ?_
    refine t_qz 2 [0, 3, 4] (σ' := [(0, .int .i64 n0), (3, .int .i64 0), (4, .int .i64 4294967296)]) (by kernel_rfl) ?_
    refine t_end ?_
    show W _ _ _ _ _ _ _
    obtain ⟨x46, e36, e⟩ := bind_of e
    refine w_cut [3] (fun σ_ H_ S_ => [(3, .int .i64 x46)] = σ_ ∧ ([] : List Own) = H_ ∧ S = S_) ?_ ?_
    · show W _ _ _ _ _ _ _
      refine w_block ?_
      refine w_kp [0, 3, 4] (σ' := [(0, .int .i64 n0), (3, .int .i64 0), (4, .int .i64 4294967296)]) (by kernel_rfl) ?_
      refine w_loop (fun n_ σ_ H_ S_ => ∃ x38 x39, [(0, .int .i64 n0), (3, .int .i64 x38), (4, .int .i64 x39)] = σ_ ∧ ([] : List Own) = H_ ∧ S = S_ ∧ fixed_Sqrt.l0 n_ n0 x38 x39 = some x46) _ ⟨0, 4294967296, rfl, rfl, rfl, e36⟩ ?_
      rintro n45 σ_ H_ S_ ⟨x38, x39, rfl, rfl, rfl, e36⟩
      cases n45 with
      | zero => rw [fixed_Sqrt.l0.eq_1] at e36; cases e36
      | succ k_ =>
        rw [fixed_Sqrt.l0.eq_2] at e36
        refine w_seq ?_
        refine w_seq ?_
        refine w_reg fun all => ?_
        by_cases c40 : (wr64 (x39 - x38)) > 1
        · rw [if_pos c40] at e36
          have c40b : (decide ((wr64 (x39 - x38)) > 1)) = true := decide_eq_true c40
          refine t_qz 3 [0, 3, 4, 10] (σ' := [(0, .int .i64 n0), (3, .int .i64 x38), (4, .int .i64 x39), (10, .int .i64 (wr64 (x39 - x38)))]) (by kernel_rfl) ?_
          refine t_v (dv_quiet rfl (congrArg (fun t => some (Value.bool t)) c40b)) ?_
          refine t_keep [0, 3, 4, 11] (σ' := [(0, .int .i64 n0), (3, .int .i64 x38), (4, .int .i64 x39), (11, .bool true)]) (by kernel_rfl) ?_
          refine t_end ?_
          show W _ _ _ _ _ _ _
          refine w_cond rfl (fun _ => ?_) (fun c_ => by cases c_)
          show W _ _ _ _ _ _ _
          refine w_skip ?_
          show W _ _ _ _ _ _ _
          refine w_block ?_
          refine w_seq ?_
          refine w_reg fun all => ?_
          refine t_qz 7 [0, 3, 4, 5] (σ' := [(0, .int .i64 n0), (3, .int .i64 x38), (4, .int .i64 x39), (5, .int .i64 (wr64 (x38 + (wr64 (Int.tdiv (wr64 (x39 - x38)) 2)))))]) (by kernel_rfl) ?_
          refine t_end ?_
          show W _ _ _ _ _ _ _
          refine w_seq ?_
          refine w_reg fun all => ?_
          have c41 : ¬ (wr64 (x38 + (wr64 (Int.tdiv (wr64 (x39 - x38)) 2)))) = 0 := by
            intro h_; rw [if_pos h_] at e36; cases e36
          rw [if_neg c41] at e36
          refine t_qz 3 [0, 3, 4, 5, 18, 19, 20] (σ' := [(0, .int .i64 n0), (3, .int .i64 x38), (4, .int .i64 x39), (5, .int .i64 (wr64 (x38 + (wr64 (Int.tdiv (wr64 (x39 - x38)) 2))))), (18, .int .i64 (wr64 (x38 + (wr64 (Int.tdiv (wr64 (x39 - x38)) 2))))), (19, .int .i64 n0), (20, .int .i64 (wr64 (x38 + (wr64 (Int.tdiv (wr64 (x39 - x38)) 2)))))]) (by kernel_rfl) ?_
          refine t_v (.quiet rfl (qv_quo rfl rfl c41)) ?_
          by_cases c42 : (wr64 (x38 + (wr64 (Int.tdiv (wr64 (x39 - x38)) 2)))) ≤ (wr64 (Int.tdiv n0 (wr64 (x38 + (wr64 (Int.tdiv (wr64 (x39 - x38)) 2))))))
          · rw [if_pos c42] at e36
            have c42b : (decide ((wr64 (x38 + (wr64 (Int.tdiv (wr64 (x39 - x38)) 2)))) ≤ (wr64 (Int.tdiv n0 (wr64 (x38 + (wr64 (Int.tdiv (wr64 (x39 - x38)) 2)))))))) = true := decide_eq_true c42
            refine t_v (dv_quiet rfl (congrArg (fun t => some (Value.bool t)) c42b)) ?_
            refine t_keep [0, 3, 4, 5, 22] (σ' := [(0, .int .i64 n0), (3, .int .i64 x38), (4, .int .i64 x39), (5, .int .i64 (wr64 (x38 + (wr64 (Int.tdiv (wr64 (x39 - x38)) 2))))), (22, .bool true)]) (by kernel_rfl) ?_
            refine t_end ?_
            show W _ _ _ _ _ _ _
            refine w_cond rfl (fun _ => ?_) (fun c_ => by cases c_)
            show W _ _ _ _ _ _ _
            refine w_reg fun all => ?_
            refine t_qz 2 [0, 3, 4] (σ' := [(0, .int .i64 n0), (3, .int .i64 (wr64 (x38 + (wr64 (Int.tdiv (wr64 (x39 - x38)) 2))))), (4, .int .i64 x39)]) (by kernel_rfl) ?_
            refine t_end ?_
            exact ⟨k_, Nat.lt_succ_self _, [(0, .int .i64 n0), (3, .int .i64 (wr64 (x38 + (wr64 (Int.tdiv (wr64 (x39 - x38)) 2))))), (4, .int .i64 x39)], ([] : List Own), S, keep_sub [0, 3, 4] (by kernel_rfl), VS.mask [] rfl rfl, wr64 (x38 + (wr64 (Int.tdiv (wr64 (x39 - x38)) 2))), x39, rfl, rfl, rfl, e36⟩
          · rw [if_neg c42] at e36
            have c42b : (decide ((wr64 (x38 + (wr64 (Int.tdiv (wr64 (x39 - x38)) 2)))) ≤ (wr64 (Int.tdiv n0 (wr64 (x38 + (wr64 (Int.tdiv (wr64 (x39 - x38)) 2)))))))) = false := decide_eq_false c42
            refine t_v (dv_quiet rfl (congrArg (fun t => some (Value.bool t)) c42b)) ?_
            refine t_keep [0, 3, 4, 5, 22] (σ' := [(0, .int .i64 n0), (3, .int .i64 x38), (4, .int .i64 x39), (5, .int .i64 (wr64 (x38 + (wr64 (Int.tdiv (wr64 (x39 - x38)) 2))))), (22, .bool false)]) (by kernel_rfl) ?_
            refine t_end ?_
            show W _ _ _ _ _ _ _
            refine w_cond rfl (fun c_ => by cases c_) (fun _ => ?_)
            show W _ _ _ _ _ _ _
            refine w_reg fun all => ?_
            refine t_qz 2 [0, 3, 4] (σ' := [(0, .int .i64 n0), (3, .int .i64 x38), (4, .int .i64 (wr64 (x38 + (wr64 (Int.tdiv (wr64 (x39 - x38)) 2)))))]) (by kernel_rfl) ?_
            refine t_end ?_
            exact ⟨k_, Nat.lt_succ_self _, [(0, .int .i64 n0), (3, .int .i64 x38), (4, .int .i64 (wr64 (x38 + (wr64 (Int.tdiv (wr64 (x39 - x38)) 2)))))], ([] : List Own), S, keep_sub [0, 3, 4] (by kernel_rfl), VS.mask [] rfl rfl, x38, wr64 (x38 + (wr64 (Int.tdiv (wr64 (x39 - x38)) 2))), rfl, rfl, rfl, e36⟩
        · rw [if_neg c40] at e36
          have c40b : (decide ((wr64 (x39 - x38)) > 1)) = false := decide_eq_false c40
          refine t_qz 3 [0, 3, 4, 10] (σ' := [(0, .int .i64 n0), (3, .int .i64 x38), (4, .int .i64 x39), (10, .int .i64 (wr64 (x39 - x38)))]) (by kernel_rfl) ?_
          refine t_v (dv_quiet rfl (congrArg (fun t => some (Value.bool t)) c40b)) ?_
          refine t_keep [0, 3, 4, 11] (σ' := [(0, .int .i64 n0), (3, .int .i64 x38), (4, .int .i64 x39), (11, .bool false)]) (by kernel_rfl) ?_
          refine t_end ?_
          show W _ _ _ _ _ _ _
          refine w_cond rfl (fun c_ => by cases c_) (fun _ => ?_)
          show W _ _ _ _ _ _ _
          refine w_exit ?_
          obtain rfl := Option.some.inj e36
          exact ⟨([] : List Own), S, VS.mask [] rfl rfl, by kernel_rfl, rfl, rfl⟩
    · rintro σ_ H_ S_ ⟨rfl, rfl, rfl⟩
      refine w_seq ?_
      refine w_reg fun all => ?_
      refine t_qz 2 [2] (σ' := [(2, .int .i64 x46)]) (by kernel_rfl) ?_
      refine t_end ?_
      show W _ _ _ _ _ _ _
      refine w_ret ?_
      obtain rfl := Option.some.inj e
      exact ⟨[.int .i64 x46], [], S, ⟨rfl, trivial⟩, VS.none, rfl, rfl, rfl⟩

/-- fixed.Down -/
def c61 : C :=
  (.seq (.reg [⟨(some 4), .mv (.const (.int .i64 0)), none⟩])
  (.seq (.seq (.reg [⟨(some 6), .mv (.tmp 1), none⟩,
      ⟨(some 7), .bin .lss (.tmp 6) (.const (.int .i64 1)), none⟩])
   (.cond (.tmp 7)
    (.seq (.reg [⟨(some 4), .mv (.const (.int .i64 0)), none⟩])
     .ret)
    .skip))
  (.seq (.reg [⟨(some 8), .mv (.tmp 0), none⟩,
     ⟨(some 9), .mv (.tmp 1), none⟩,
     ⟨(some 10), .bin .quo (.tmp 8) (.tmp 9), none⟩,
     ⟨(some 5), .mv (.tmp 10), none⟩])
  (.seq (.seq (.reg [⟨(some 11), .mv (.tmp 0), none⟩,
      ⟨(some 12), .mv (.tmp 1), none⟩,
      ⟨(some 13), .bin .rem (.tmp 11) (.tmp 12), none⟩,
      ⟨(some 14), .bin .lss (.tmp 13) (.const (.int .i64 0)), none⟩])
   (.cond (.tmp 14)
    (.reg [⟨(some 15), .mv (.tmp 5), none⟩,
       ⟨(some 16), .bin .sub (.tmp 15) (.const (.int .i64 1)), none⟩,
       ⟨(some 5), .mv (.tmp 16), none⟩])
    .skip))
  (.seq (.reg [⟨(some 17), .mv (.tmp 5), none⟩,
     ⟨(some 4), .mv (.tmp 17), none⟩])
  .ret)))))
def fixed_Down.f (a0 : Int) (b1 : Int) : Option (Int) := if b1 < 1 then (some 0) else (if b1 = 0 then none else (if (Int.tmod a0 b1) < 0 then (some (wr64 ((wr64 (Int.tdiv a0 b1)) - 1))) else (some (wr64 (Int.tdiv a0 b1)))))
theorem fixed_Down.ok {S : Seal} {a0 : Int} {b1 : Int} {r0 : Int} (e : fixed_Down.f a0 b1 = some r0) :
    Cal Try.prog 61 [.int .i64 a0, .int .i64 b1] [] S fun v H' S' => v = .int .i64 r0 ∧ H' = [] ∧ S' = S := by
  unfold fixed_Down.f at e
  refine cal_of (c := c61) (N := 18) Try.func61 rfl rfl (by kernel_rfl) (rs := [.t 4]) (by kernel_rfl) (Nat.le_of_ble_eq_true rfl) ?_
  unfold c61
  refine w_seq ?_
  refine w_reg fun all => ?_
  refine t_qz 1 [0, 1] (σ' := [(0, .int .i64 a0), (1, .int .i64 b1)]) (by kernel_rfl) ?_
  refine t_end ?_
  show W _ _ _ _ _ _ _
  refine w_seq ?_
  refine w_seq ?_
  refine w_reg fun all => ?_
  by_cases c47 : b1 < 1
  · rw [if_pos c47] at e
    have c47b : (decide (b1 < 1)) = true := decide_eq_true c47
    refine t_qz 1 [0, 1, 6] (σ' := [(0, .int .i64 a0), (1, .int .i64 b1), (6, .int .i64 b1)]) (by kernel_rfl) ?_
    refine t_v (dv_quiet rfl (congrArg (fun t => some (Value.bool t)) c47b)) ?_
    refine t_keep [0, 1, 7] (σ' := [(0, .int .i64 a0), (1, .int .i64 b1), (7, .bool true)]) (by kernel_rfl) ?_
    refine t_end ?_
    show W _ _ _ _ _ _ _
    refine w_cond rfl (fun _ => ?_) (fun c_ => by cases c_)
    show W _ _ _ _ _ _ _
    refine w_seq ?_
    refine w_reg fun all => ?_
    refine t_qz 1 [4] (σ' := [(4, .int .i64 0)]) (by kernel_rfl) ?_
    refine t_end ?_
    show W _ _ _ _ _ _ _
    refine w_ret ?_
    obtain rfl := Option.some.inj e
    exact ⟨[.int .i64 0], [], S, ⟨rfl, trivial⟩, VS.none, rfl, rfl, rfl⟩
  · rw [if_neg c47] at e
    have c47b : (decide (b1 < 1)) = false := decide_eq_false c47
    refine t_qz 1 [0, 1, 6] (σ' := [(0, .int .i64 a0), (1, .int .i64 b1), (6, .int .i64 b1)]) (by kernel_rfl) ?_
    refine t_v (dv_quiet rfl (congrArg (fun t => some (Value.bool t)) c47b)) ?_
    refine t_keep [0, 1, 7] (σ' := [(0, .int .i64 a0), (1, .int .i64 b1), (7, .bool false)]) (by kernel_rfl) ?_
    refine t_end ?_
    show W _ _ _ _ _ _ _
    refine w_cond rfl (fun c_ => by cases c_) (fun _ => ?_)
    show W _ _ _ _ _ _ _
    refine w_skip ?_
    show W _ _ _ _ _ _ _
    refine w_seq ?_
    refine w_reg fun all => ?_
    have c48 : ¬ b1 = 0 := by
      intro h_; rw [if_pos h_] at e; cases e
    rw [if_neg c48] at e
    refine t_qz 2 [0, 1, 8, 9] (σ' := [(0, .int .i64 a0), (1, .int .i64 b1), (8, .int .i64 a0), (9, .int .i64 b1)]) (by kernel_rfl) ?_
    refine t_v (.quiet rfl (qv_quo rfl rfl c48)) ?_
    refine t_qz 1 [0, 1, 5] (σ' := [(0, .int .i64 a0), (1, .int .i64 b1), (5, .int .i64 (wr64 (Int.tdiv a0 b1)))]) (by kernel_rfl) ?_
    refine t_end ?_
    show W _ _ _ _ _ _ _
    refine w_seq ?_
    refine w_seq ?_
    refine w_reg fun all => ?_
    refine t_qz 2 [5, 11, 12] (σ' := [(5, .int .i64 (wr64 (Int.tdiv a0 b1))), (11, .int .i64 a0), (12, .int .i64 b1)]) (by kernel_rfl) ?_
    refine t_v (.quiet rfl (qv_rem rfl rfl c48)) ?_
    by_cases c49 : (Int.tmod a0 b1) < 0
    · rw [if_pos c49] at e
      have c49b : (decide ((Int.tmod a0 b1) < 0)) = true := decide_eq_true c49
      refine t_v (dv_quiet rfl (congrArg (fun t => some (Value.bool t)) c49b)) ?_
      refine t_keep [5, 14] (σ' := [(5, .int .i64 (wr64 (Int.tdiv a0 b1))), (14, .bool true)]) (by kernel_rfl) ?_
      refine t_end ?_
      show W _ _ _ _ _ _ _
      refine w_cond rfl (fun _ => ?_) (fun c_ => by cases c_)
      show W _ _ _ _ _ _ _
      refine w_reg fun all => ?_
      refine t_qz 3 [5] (σ' := [(5, .int .i64 (wr64 ((wr64 (Int.tdiv a0 b1)) - 1)))]) (by kernel_rfl) ?_
      refine t_end ?_
      show W _ _ _ _ _ _ _
      refine w_seq ?_
      refine w_reg fun all => ?_
      refine t_qz 2 [4] (σ' := [(4, .int .i64 (wr64 ((wr64 (Int.tdiv a0 b1)) - 1)))]) (by kernel_rfl) ?_
      refine t_end ?_
      show W _ _ _ _ _ _ _
      refine w_ret ?_
      obtain rfl := Option.some.inj e
      exact ⟨[.int .i64 (wr64 ((wr64 (Int.tdiv a0 b1)) - 1))], [], S, ⟨rfl, trivial⟩, VS.none, rfl, rfl, rfl⟩
    · rw [if_neg c49] at e
      have c49b : (decide ((Int.tmod a0 b1) < 0)) = false := decide_eq_false c49
      refine t_v (dv_quiet rfl (congrArg (fun t => some (Value.bool t)) c49b)) ?_
      refine t_keep [5, 14] (σ' := [(5, .int .i64 (wr64 (Int.tdiv a0 b1))), (14, .bool false)]) (by kernel_rfl) ?_
      refine t_end ?_
      show W _ _ _ _ _ _ _
      refine w_cond rfl (fun c_ => by cases c_) (fun _ => ?_)
      show W _ _ _ _ _ _ _
      refine w_skip ?_
      show W _ _ _ _ _ _ _
      refine w_seq ?_
      refine w_reg fun all => ?_
      refine t_qz 2 [4] (σ' := [(4, .int .i64 (wr64 (Int.tdiv a0 b1)))]) (by kernel_rfl) ?_
      refine t_end ?_
      show W _ _ _ _ _ _ _
      refine w_ret ?_
      obtain rfl := Option.some.inj e
      exact ⟨[.int .i64 (wr64 (Int.tdiv a0 b1))], [], S, ⟨rfl, trivial⟩, VS.none, rfl, rfl, rfl⟩

/-- fixed.Round -/
def c43 : C :=
  (.seq (.reg [⟨(some 4), .mv (.const (.int .i64 0)), none⟩])
  (.seq (.seq (.reg [⟨(some 7), .mv (.tmp 1), none⟩,
      ⟨(some 8), .bin .lss (.tmp 7) (.const (.int .i64 1)), none⟩])
   (.cond (.tmp 8)
    (.seq (.reg [⟨(some 4), .mv (.const (.int .i64 0)), none⟩])
     .ret)
    .skip))
  (.seq (.reg [⟨(some 9), .mv (.tmp 0), none⟩,
     ⟨(some 10), .mv (.tmp 1), none⟩,
     ⟨(some 11), .call 61 [(.tmp 9), (.tmp 10)], none⟩,
     ⟨(some 5), .mv (.tmp 11), none⟩])
  (.seq (.seq (.reg [⟨(some 12), .mv (.tmp 0), none⟩,
      ⟨(some 13), .mv (.tmp 5), none⟩,
      ⟨(some 14), .mv (.tmp 1), none⟩,
      ⟨(some 15), .bin .mul (.tmp 13) (.tmp 14), none⟩,
      ⟨(some 16), .bin .sub (.tmp 12) (.tmp 15), none⟩,
      ⟨(some 6), .mv (.tmp 16), none⟩])
   (.seq (.reg [⟨(some 17), .mv (.tmp 6), none⟩,
      ⟨(some 18), .mv (.tmp 1), none⟩,
      ⟨(some 19), .mv (.tmp 6), none⟩,
      ⟨(some 20), .bin .sub (.tmp 18) (.tmp 19), none⟩,
      ⟨(some 21), .bin .geq (.tmp 17) (.tmp 20), none⟩])
   (.cond (.tmp 21)
    (.reg [⟨(some 22), .mv (.tmp 5), none⟩,
       ⟨(some 23), .bin .add (.tmp 22) (.const (.int .i64 1)), none⟩,
       ⟨(some 5), .mv (.tmp 23), none⟩])
    .skip)))
  (.seq (.reg [⟨(some 24), .mv (.tmp 5), none⟩,
     ⟨(some 4), .mv (.tmp 24), none⟩])
  .ret)))))
def fixed_Round.f (a0 : Int) (b1 : Int) : Option (Int) := if b1 < 1 then (some 0) else ((fixed_Down.f a0 b1).bind fun t51 => (if (wr64 (a0 - (wr64 (t51 * b1)))) ≥ (wr64 (b1 - (wr64 (a0 - (wr64 (t51 * b1)))))) then (some (wr64 (t51 + 1))) else (some t51)))
theorem fixed_Round.ok {S : Seal} {a0 : Int} {b1 : Int} {r0 : Int} (e : fixed_Round.f a0 b1 = some r0) :
    Cal Try.prog 43 [.int .i64 a0, .int .i64 b1] [] S fun v H' S' => v = .int .i64 r0 ∧ H' = [] ∧ S' = S := by
  unfold fixed_Round.f at e
  refine cal_of (c := c43) (N := 25) Try.func43 rfl rfl (by kernel_rfl) (rs := [.t 4]) (by kernel_rfl) (Nat.le_of_ble_eq_true rfl) ?_
  unfold c43
  refine w_seq ?_
  refine w_reg fun all => ?_
  refine t_qz 1 [0, 1] (σ' := [(0, .int .i64 a0), (1, .int .i64 b1)]) (by kernel_rfl) ?_
  refine t_end ?_
  show W _ _ _ _ _ _ _
  refine w_seq ?_
  refine w_seq ?_
  refine w_reg fun all => ?_
  by_cases c50 : b1 < 1
  · rw [if_pos c50] at e
    have c50b : (decide (b1 < 1)) = true := decide_eq_true c50
    refine t_qz 1 [0, 1, 7] (σ' := [(0, .int .i64 a0), (1, .int .i64 b1), (7, .int .i64 b1)]) (by kernel_rfl) ?_
    refine t_v (dv_quiet rfl (congrArg (fun t => some (Value.bool t)) c50b)) ?_
    refine t_keep [0, 1, 8] (σ' := [(0, .int .i64 a0), (1, .int .i64 b1), (8, .bool true)]) (by kernel_rfl) ?_
    refine t_end ?_
    show W _ _ _ _ _ _ _
    refine w_cond rfl (fun _ => ?_) (fun c_ => by cases c_)
    show W _ _ _ _ _ _ _
    refine w_seq ?_
    refine w_reg fun all => ?_
    refine t_qz 1 [4] (σ' := [(4, .int .i64 0)]) (by kernel_rfl) ?_
    refine t_end ?_
    show W _ _ _ _ _ _ _
    refine w_ret ?_
    obtain rfl := Option.some.inj e
    exact ⟨[.int .i64 0], [], S, ⟨rfl, trivial⟩, VS.none, rfl, rfl, rfl⟩
  · rw [if_neg c50] at e
    have c50b : (decide (b1 < 1)) = false := decide_eq_false c50
    refine t_qz 1 [0, 1, 7] (σ' := [(0, .int .i64 a0), (1, .int .i64 b1), (7, .int .i64 b1)]) (by kernel_rfl) ?_
    refine t_v (dv_quiet rfl (congrArg (fun t => some (Value.bool t)) c50b)) ?_
    refine t_keep [0, 1, 8] (σ' := [(0, .int .i64 a0), (1, .int .i64 b1), (8, .bool false)]) (by kernel_rfl) ?_
    refine t_end ?_
    show W _ _ _ _ _ _ _
    refine w_cond rfl (fun c_ => by cases c_) (fun _ => ?_)
    show W _ _ _ _ _ _ _
    refine w_skip ?_
    show W _ _ _ _ _ _ _
    refine w_seq ?_
    refine w_reg fun all => ?_
    obtain ⟨t51, h52, e⟩ := bind_of e
    refine t_qz 2 [0, 1, 9, 10] (σ' := [(0, .int .i64 a0), (1, .int .i64 b1), (9, .int .i64 a0), (10, .int .i64 b1)]) (by kernel_rfl) ?_
    refine t_v (.call (vs := [.int .i64 a0, .int .i64 b1]) rfl rfl (by kernel_rfl) (fixed_Down.ok h52)) ?_
    refine t_qz 1 [0, 1, 5] (σ' := [(0, .int .i64 a0), (1, .int .i64 b1), (5, .int .i64 t51)]) (by kernel_rfl) ?_
    refine t_end ?_
    show W _ _ _ _ _ _ _
    refine w_seq ?_
    refine w_seq ?_
    refine w_reg fun all => ?_
    refine t_qz 6 [1, 5, 6] (σ' := [(1, .int .i64 b1), (5, .int .i64 t51), (6, .int .i64 (wr64 (a0 - (wr64 (t51 * b1)))))]) (by kernel_rfl) ?_
    refine t_end ?_
    show W _ _ _ _ _ _ _
    refine w_seq ?_
    refine w_reg fun all => ?_
    by_cases c53 : (wr64 (a0 - (wr64 (t51 * b1)))) ≥ (wr64 (b1 - (wr64 (a0 - (wr64 (t51 * b1))))))
    · rw [if_pos c53] at e
      have c53b : (decide ((wr64 (a0 - (wr64 (t51 * b1)))) ≥ (wr64 (b1 - (wr64 (a0 - (wr64 (t51 * b1)))))))) = true := decide_eq_true c53
      refine t_qz 4 [5, 17, 20] (σ' := [(5, .int .i64 t51), (17, .int .i64 (wr64 (a0 - (wr64 (t51 * b1))))), (20, .int .i64 (wr64 (b1 - (wr64 (a0 - (wr64 (t51 * b1)))))))]) (by kernel_rfl) ?_
      refine t_v (dv_quiet rfl (congrArg (fun t => some (Value.bool t)) c53b)) ?_
      refine t_keep [5, 21] (σ' := [(5, .int .i64 t51), (21, .bool true)]) (by kernel_rfl) ?_
      refine t_end ?_
      show W _ _ _ _ _ _ _
      refine w_cond rfl (fun _ => ?_) (fun c_ => by cases c_)
      show W _ _ _ _ _ _ _
      refine w_reg fun all => ?_
      refine t_qz 3 [5] (σ' := [(5, .int .i64 (wr64 (t51 + 1)))]) (by kernel_rfl) ?_
      refine t_end ?_
      show W _ _ _ _ _ _ _
      refine w_seq ?_
      refine w_reg fun all => ?_
      refine t_qz 2 [4] (σ' := [(4, .int .i64 (wr64 (t51 + 1)))]) (by kernel_rfl) ?_
      refine t_end ?_
      show W _ _ _ _ _ _ _
      refine w_ret ?_
      obtain rfl := Option.some.inj e
      exact ⟨[.int .i64 (wr64 (t51 + 1))], [], S, ⟨rfl, trivial⟩, VS.none, rfl, rfl, rfl⟩
    · rw [if_neg c53] at e
      have c53b : (decide ((wr64 (a0 - (wr64 (t51 * b1)))) ≥ (wr64 (b1 - (wr64 (a0 - (wr64 (t51 * b1)))))))) = false := decide_eq_false c53
      refine t_qz 4 [5, 17, 20] (σ' := [(5, .int .i64 t51), (17, .int .i64 (wr64 (a0 - (wr64 (t51 * b1))))), (20, .int .i64 (wr64 (b1 - (wr64 (a0 - (wr64 (t51 * b1)))))))]) (by kernel_rfl) ?_
      refine t_v (dv_quiet rfl (congrArg (fun t => some (Value.bool t)) c53b)) ?_
      refine t_keep [5, 21] (σ' := [(5, .int .i64 t51), (21, .bool false)]) (by kernel_rfl) ?_
      refine t_end ?_
      show W _ _ _ _ _ _ _
      refine w_cond rfl (fun c_ => by cases c_) (fun _ => ?_)
      show W _ _ _ _ _ _ _
      refine w_skip ?_
      show W _ _ _ _ _ _ _
      refine w_seq ?_
      refine w_reg fun all => ?_
      refine t_qz 2 [4] (σ' := [(4, .int .i64 t51)]) (by kernel_rfl) ?_
      refine t_end ?_
      show W _ _ _ _ _ _ _
      refine w_ret ?_
      obtain rfl := Option.some.inj e
      exact ⟨[.int .i64 t51], [], S, ⟨rfl, trivial⟩, VS.none, rfl, rfl, rfl⟩

/-- fixed.Clamp -/
def c49 : C :=
  (.seq (.reg [⟨(some 6), .mv (.const (.int .i64 0)), none⟩])
  (.seq (.reg [⟨(some 7), .mv (.tmp 0), none⟩,
     ⟨(some 8), .mv (.tmp 2), none⟩,
     ⟨(some 9), .mm false [(.tmp 7), (.tmp 8)], none⟩,
     ⟨(some 10), .mv (.tmp 1), none⟩,
     ⟨(some 11), .mm true [(.tmp 9), (.tmp 10)], none⟩,
     ⟨(some 6), .mv (.tmp 11), none⟩])
  .ret))
def fixed_Clamp.f (x0 : Int) (lo1 : Int) (hi2 : Int) : Option (Int) := some (mx (mn x0 hi2) lo1)
theorem fixed_Clamp.ok {S : Seal} {x0 : Int} {lo1 : Int} {hi2 : Int} {r0 : Int} (e : fixed_Clamp.f x0 lo1 hi2 = some r0) :
    Cal Try.prog 49 [.int .i64 x0, .int .i64 lo1, .int .i64 hi2] [] S fun v H' S' => v = .int .i64 r0 ∧ H' = [] ∧ S' = S := by
  unfold fixed_Clamp.f at e
  refine cal_of (c := c49) (N := 12) Try.func49 rfl rfl (by kernel_rfl) (rs := [.t 6]) (by kernel_rfl) (Nat.le_of_ble_eq_true rfl) ?_
  unfold c49
  refine w_seq ?_
  refine w_reg fun all => ?_
  refine t_qz 1 [0, 1, 2] (σ' := [(0, .int .i64 x0), (1, .int .i64 lo1), (2, .int .i64 hi2)]) (by kernel_rfl) ?_
  refine t_end ?_
  show W _ _ _ _ _ _ _
  refine w_seq ?_
  refine w_reg fun all => ?_
  refine t_qz 6 [6] (σ' := [(6, .int .i64 (mx (mn x0 hi2) lo1))]) (by kernel_rfl) ?_
  refine t_end ?_
  show W _ _ _ _ _ _ _
  refine w_ret ?_
  obtain rfl := Option.some.inj e
  exact ⟨[.int .i64 (mx (mn x0 hi2) lo1)], [], S, ⟨rfl, trivial⟩, VS.none, rfl, rfl, rfl⟩

/-- paint.Part -/
def c31 : C :=
  (.seq (.reg [⟨(some 2), .box (.tmp 0), none⟩,
     ⟨(some 3), .box (.tmp 1), none⟩,
     ⟨(some 4), .mv (.const (.int .i64 0)), none⟩])
  (.seq (.seq (.reg [⟨(some 6), .pad 0 (.tmp 2), none⟩,
      ⟨(some 7), .ld none (.tmp 6), none⟩])
   (.block 0 (.seq (.reg [⟨(some 9), .bin .eql (.tmp 7) (.const (.int .i64 1)), none⟩,
       ⟨(some 8), .mv (.tmp 9), none⟩])
    (.cond (.tmp 8)
     (.seq (.reg [⟨(some 10), .ld (some 7) (.tmp 2), none⟩,
         ⟨(some 11), .ld (some 2) (.tmp 3), none⟩,
         ⟨(some 12), .call 46 [(.tmp 10), (.tmp 11)], none⟩,
         ⟨(some 4), .mv (.tmp 12), none⟩])
      .ret)
     (.seq (.reg [⟨(some 14), .bin .eql (.tmp 7) (.const (.int .i64 2)), none⟩,
         ⟨(some 13), .mv (.tmp 14), none⟩])
      (.cond (.tmp 13)
       (.seq (.seq (.reg [⟨(some 15), .pad 5 (.tmp 2), none⟩,
            ⟨(some 16), .pad 0 (.tmp 15), none⟩,
            ⟨(some 17), .ld none (.tmp 16), none⟩,
            ⟨(some 18), .bin .lss (.tmp 17) (.const (.int .i64 1)), none⟩])
         (.cond (.tmp 18)
          (.seq (.reg [⟨(some 4), .mv (.const (.int .i64 65536)), none⟩])
           .ret)
          .skip))
        (.seq (.reg [⟨(some 19), .pad 3 (.tmp 2), none⟩,
           ⟨(some 20), .ld (some 2) (.tmp 19), none⟩,
           ⟨(some 21), .ld (some 2) (.tmp 3), none⟩,
           ⟨(some 22), .call 48 [(.tmp 20), (.tmp 21)], none⟩,
           ⟨(some 23), .bin .mul (.tmp 22) (.const (.int .i64 256)), none⟩,
           ⟨(some 24), .call 47 [(.tmp 23)], none⟩,
           ⟨(some 5), .mv (.tmp 24), none⟩])
        (.seq (.reg [⟨(some 25), .mv (.tmp 5), none⟩,
           ⟨(some 26), .bin .mul (.const (.int .i64 4096)) (.tmp 25), none⟩,
           ⟨(some 27), .pad 5 (.tmp 2), none⟩,
           ⟨(some 28), .pad 0 (.tmp 27), none⟩,
           ⟨(some 29), .ld none (.tmp 28), none⟩,
           ⟨(some 30), .call 43 [(.tmp 26), (.tmp 29)], none⟩,
           ⟨(some 31), .call 49 [(.tmp 30), (.const (.int .i64 0)), (.const (.int .i64 65536))], none⟩,
           ⟨(some 4), .mv (.tmp 31), none⟩])
        .ret)))
       .skip))))))
  (.seq (.reg [⟨(some 4), .mv (.const (.int .i64 0)), none⟩])
  .ret)))
def paint_Part.f (k : Nat) (p0_Kind : Int) (p0_A : Int) (p0_B : Int) (p0_P_X : Int) (p0_P_Y : Int) (p0_Q_X : Int) (p0_Q_Y : Int) (at1_X : Int) (at1_Y : Int) : Option (Int) := if p0_Kind = 1 then ((paint_linear.f p0_Kind p0_A p0_B p0_P_X p0_P_Y p0_Q_X p0_Q_Y at1_X at1_Y).bind fun t57 => (some t57)) else (if p0_Kind = 2 then (if p0_Q_X < 1 then (some 65536) else ((plane_Len2.f p0_P_X p0_P_Y at1_X at1_Y).bind fun t61 => ((fixed_Sqrt.f k (wr64 (t61 * 256))).bind fun t63 => ((fixed_Round.f (wr64 (4096 * t63)) p0_Q_X).bind fun t65 => ((fixed_Clamp.f t65 0 65536).bind fun t67 => (some t67)))))) else (some 0))
theorem paint_Part.ok {S : Seal} {k : Nat} {p0_Kind : Int} {p0_A : Int} {p0_B : Int} {p0_P_X : Int} {p0_P_Y : Int} {p0_Q_X : Int} {p0_Q_Y : Int} {at1_X : Int} {at1_Y : Int} {r0 : Int} (e : paint_Part.f k p0_Kind p0_A p0_B p0_P_X p0_P_Y p0_Q_X p0_Q_Y at1_X at1_Y = some r0) :
    Cal Try.prog 31 [.agg #[.int .i64 p0_Kind, .int .i64 p0_A, .int .i64 p0_B, .int .i64 p0_P_X, .int .i64 p0_P_Y, .int .i64 p0_Q_X, .int .i64 p0_Q_Y], .agg #[.int .i64 at1_X, .int .i64 at1_Y]] [] S fun v H' S' => v = .int .i64 r0 ∧ H' = [] ∧ S' = S := by
  unfold paint_Part.f at e
  refine cal_of (c := c31) (N := 32) Try.func31 rfl rfl (by kernel_rfl) (rs := [.t 4]) (by kernel_rfl) (Nat.le_of_ble_eq_true rfl) ?_
  unfold c31
  refine w_seq ?_
  refine w_reg fun all => ?_
  refine t_a (.box rfl rfl rfl) fun b54 fb54 sb54 => ?_
  refine t_a (.box rfl rfl rfl) fun b55 fb55 sb55 => ?_
  refine t_qz 1 [2, 3] (σ' := [(2, .pointer (some ⟨b54, 0, none⟩)), (3, .pointer (some ⟨b55, 0, none⟩))]) (by kernel_rfl) ?_
  refine t_end ?_
  show W _ _ _ _ _ _ _
  refine w_seq ?_
  refine w_seq ?_
  refine w_reg fun all => ?_
  refine t_qz 1 [2, 3, 6] (σ' := [(2, .pointer (some ⟨b54, 0, none⟩)), (3, .pointer (some ⟨b55, 0, none⟩)), (6, .pointer (some ⟨b54, 0, none⟩))]) (by kernel_rfl) ?_
  refine t_v (.ld1 rfl rfl rfl (.at 1 rfl rfl)) ?_
  refine t_keep [2, 3, 7] (σ' := [(2, .pointer (some ⟨b54, 0, none⟩)), (3, .pointer (some ⟨b55, 0, none⟩)), (7, .int .i64 p0_Kind)]) (by kernel_rfl) ?_
  refine t_end ?_
  show W _ _ _ _ _ _ _
  refine w_block ?_
  refine w_seq ?_
  refine w_reg fun all => ?_
  by_cases c56 : p0_Kind = 1
  · rw [if_pos c56] at e
    have c56b : (p0_Kind == 1) = true := beq_iff_eq.mpr c56
    refine t_v (dv_quiet rfl (congrArg (fun t => some (Value.bool t)) c56b)) ?_
    refine t_qz 1 [2, 3, 7, 8] (σ' := [(2, .pointer (some ⟨b54, 0, none⟩)), (3, .pointer (some ⟨b55, 0, none⟩)), (7, .int .i64 p0_Kind), (8, .bool true)]) (by kernel_rfl) ?_
    refine t_end ?_
    show W _ _ _ _ _ _ _
    refine w_cond rfl (fun _ => ?_) (fun c_ => by cases c_)
    show W _ _ _ _ _ _ _
    refine w_seq ?_
    refine w_reg fun all => ?_
    refine t_v (.ldn rfl rfl rfl (.at 1 rfl rfl)) ?_
    refine t_v (.ldn rfl rfl rfl (.at 0 rfl rfl)) ?_
    obtain ⟨t57, h58, e⟩ := bind_of e
    refine t_v (.call (vs := [.agg #[.int .i64 p0_Kind, .int .i64 p0_A, .int .i64 p0_B, .int .i64 p0_P_X, .int .i64 p0_P_Y, .int .i64 p0_Q_X, .int .i64 p0_Q_Y], .agg #[.int .i64 at1_X, .int .i64 at1_Y]]) rfl rfl (by kernel_rfl) (paint_linear.ok h58)) ?_
    refine t_qz 1 [4] (σ' := [(4, .int .i64 t57)]) (by kernel_rfl) ?_
    refine t_end ?_
    show W _ _ _ _ _ _ _
    refine w_ret ?_
    obtain rfl := Option.some.inj e
    exact ⟨[.int .i64 t57], [], S, ⟨rfl, trivial⟩, VS.none, rfl, rfl, rfl⟩
  · rw [if_neg c56] at e
    have c56b : (p0_Kind == 1) = false := beq_eq_false_iff_ne.mpr c56
    refine t_v (dv_quiet rfl (congrArg (fun t => some (Value.bool t)) c56b)) ?_
    refine t_qz 1 [2, 3, 7, 8] (σ' := [(2, .pointer (some ⟨b54, 0, none⟩)), (3, .pointer (some ⟨b55, 0, none⟩)), (7, .int .i64 p0_Kind), (8, .bool false)]) (by kernel_rfl) ?_
    refine t_end ?_
    show W _ _ _ _ _ _ _
    refine w_cond rfl (fun c_ => by cases c_) (fun _ => ?_)
    show W _ _ _ _ _ _ _
    refine w_seq ?_
    refine w_reg fun all => ?_
    by_cases c59 : p0_Kind = 2
    · rw [if_pos c59] at e
      have c59b : (p0_Kind == 2) = true := beq_iff_eq.mpr c59
      refine t_v (dv_quiet rfl (congrArg (fun t => some (Value.bool t)) c59b)) ?_
      refine t_qz 1 [2, 3, 13] (σ' := [(2, .pointer (some ⟨b54, 0, none⟩)), (3, .pointer (some ⟨b55, 0, none⟩)), (13, .bool true)]) (by kernel_rfl) ?_
      refine t_end ?_
      show W _ _ _ _ _ _ _
      refine w_cond rfl (fun _ => ?_) (fun c_ => by cases c_)
      show W _ _ _ _ _ _ _
      refine w_seq ?_
      refine w_seq ?_
      refine w_reg fun all => ?_
      refine t_qz 2 [2, 3, 16] (σ' := [(2, .pointer (some ⟨b54, 0, none⟩)), (3, .pointer (some ⟨b55, 0, none⟩)), (16, .pointer (some ⟨b54, 5, none⟩))]) (by kernel_rfl) ?_
      refine t_v (.ld1 rfl rfl rfl (.at 1 rfl rfl)) ?_
      by_cases c60 : p0_Q_X < 1
      · rw [if_pos c60] at e
        have c60b : (decide (p0_Q_X < 1)) = true := decide_eq_true c60
        refine t_v (dv_quiet rfl (congrArg (fun t => some (Value.bool t)) c60b)) ?_
        refine t_keep [2, 3, 18] (σ' := [(2, .pointer (some ⟨b54, 0, none⟩)), (3, .pointer (some ⟨b55, 0, none⟩)), (18, .bool true)]) (by kernel_rfl) ?_
        refine t_end ?_
        show W _ _ _ _ _ _ _
        refine w_cond rfl (fun _ => ?_) (fun c_ => by cases c_)
        show W _ _ _ _ _ _ _
        refine w_seq ?_
        refine w_reg fun all => ?_
        refine t_qz 1 [4] (σ' := [(4, .int .i64 65536)]) (by kernel_rfl) ?_
        refine t_end ?_
        show W _ _ _ _ _ _ _
        refine w_ret ?_
        obtain rfl := Option.some.inj e
        exact ⟨[.int .i64 65536], [], S, ⟨rfl, trivial⟩, VS.none, rfl, rfl, rfl⟩
      · rw [if_neg c60] at e
        have c60b : (decide (p0_Q_X < 1)) = false := decide_eq_false c60
        refine t_v (dv_quiet rfl (congrArg (fun t => some (Value.bool t)) c60b)) ?_
        refine t_keep [2, 3, 18] (σ' := [(2, .pointer (some ⟨b54, 0, none⟩)), (3, .pointer (some ⟨b55, 0, none⟩)), (18, .bool false)]) (by kernel_rfl) ?_
        refine t_end ?_
        show W _ _ _ _ _ _ _
        refine w_cond rfl (fun c_ => by cases c_) (fun _ => ?_)
        show W _ _ _ _ _ _ _
        refine w_skip ?_
        show W _ _ _ _ _ _ _
        refine w_seq ?_
        refine w_reg fun all => ?_
        refine t_qz 1 [2, 3, 19] (σ' := [(2, .pointer (some ⟨b54, 0, none⟩)), (3, .pointer (some ⟨b55, 0, none⟩)), (19, .pointer (some ⟨b54, 3, none⟩))]) (by kernel_rfl) ?_
        refine t_v (.ldn rfl rfl rfl (.at 1 rfl rfl)) ?_
        refine t_v (.ldn rfl rfl rfl (.at 0 rfl rfl)) ?_
        obtain ⟨t61, h62, e⟩ := bind_of e
        refine t_v (.call (vs := [.agg #[.int .i64 p0_P_X, .int .i64 p0_P_Y], .agg #[.int .i64 at1_X, .int .i64 at1_Y]]) rfl rfl (by kernel_rfl) (plane_Len2.ok h62)) ?_
        obtain ⟨t63, h64, e⟩ := bind_of e
        refine t_qz 1 [2, 23] (σ' := [(2, .pointer (some ⟨b54, 0, none⟩)), (23, .int .i64 (wr64 (t61 * 256)))]) (by kernel_rfl) ?_
        refine t_v (.call (vs := [.int .i64 (wr64 (t61 * 256))]) rfl rfl (by kernel_rfl) (fixed_Sqrt.ok h64)) ?_
        refine t_qz 1 [2, 5] (σ' := [(2, .pointer (some ⟨b54, 0, none⟩)), (5, .int .i64 t63)]) (by kernel_rfl) ?_
        refine t_end ?_
        show W _ _ _ _ _ _ _
        refine w_seq ?_
        refine w_reg fun all => ?_
        refine t_qz 4 [26, 28] (σ' := [(26, .int .i64 (wr64 (4096 * t63))), (28, .pointer (some ⟨b54, 5, none⟩))]) (by kernel_rfl) ?_
        refine t_v (.ld1 rfl rfl rfl (.at 1 rfl rfl)) ?_
        obtain ⟨t65, h66, e⟩ := bind_of e
        refine t_v (.call (vs := [.int .i64 (wr64 (4096 * t63)), .int .i64 p0_Q_X]) rfl rfl (by kernel_rfl) (fixed_Round.ok h66)) ?_
        obtain ⟨t67, h68, e⟩ := bind_of e
        refine t_v (.call (vs := [.int .i64 t65, .int .i64 0, .int .i64 65536]) rfl rfl (by kernel_rfl) (fixed_Clamp.ok h68)) ?_
        refine t_qz 1 [4] (σ' := [(4, .int .i64 t67)]) (by kernel_rfl) ?_
        refine t_end ?_
        show W _ _ _ _ _ _ _
        refine w_ret ?_
        obtain rfl := Option.some.inj e
        exact ⟨[.int .i64 t67], [], S, ⟨rfl, trivial⟩, VS.none, rfl, rfl, rfl⟩
    · rw [if_neg c59] at e
      have c59b : (p0_Kind == 2) = false := beq_eq_false_iff_ne.mpr c59
      refine t_v (dv_quiet rfl (congrArg (fun t => some (Value.bool t)) c59b)) ?_
      refine t_qz 1 [2, 3, 13] (σ' := [(2, .pointer (some ⟨b54, 0, none⟩)), (3, .pointer (some ⟨b55, 0, none⟩)), (13, .bool false)]) (by kernel_rfl) ?_
      refine t_end ?_
      show W _ _ _ _ _ _ _
      refine w_cond rfl (fun c_ => by cases c_) (fun _ => ?_)
      show W _ _ _ _ _ _ _
      refine w_skip ?_
      show W _ _ _ _ _ _ _
      refine w_seq ?_
      refine w_reg fun all => ?_
      refine t_qz 1 [4] (σ' := [(4, .int .i64 0)]) (by kernel_rfl) ?_
      refine t_end ?_
      show W _ _ _ _ _ _ _
      refine w_ret ?_
      obtain rfl := Option.some.inj e
      exact ⟨[.int .i64 0], [], S, ⟨rfl, trivial⟩, VS.none, rfl, rfl, rfl⟩

/-- color.Wide -/
def c50 : C :=
  (.seq (.reg [⟨(some 1), .box (.tmp 0), none⟩,
     ⟨(some 2), .new [(.int .i64 0), (.int .i64 0), (.int .i64 0), (.int .i64 0)], none⟩])
  (.seq (.reg [⟨(some 3), .pad 0 (.tmp 1), none⟩,
     ⟨(some 4), .ld none (.tmp 3), none⟩,
     ⟨(some 5), .cnv .i64 (.tmp 4), none⟩,
     ⟨(some 6), .bin .mul (.const (.int .i64 257)) (.tmp 5), none⟩,
     ⟨(some 7), .pad 1 (.tmp 1), none⟩,
     ⟨(some 8), .ld none (.tmp 7), none⟩,
     ⟨(some 9), .cnv .i64 (.tmp 8), none⟩,
     ⟨(some 10), .bin .mul (.const (.int .i64 257)) (.tmp 9), none⟩,
     ⟨(some 11), .pad 2 (.tmp 1), none⟩,
     ⟨(some 12), .ld none (.tmp 11), none⟩,
     ⟨(some 13), .cnv .i64 (.tmp 12), none⟩,
     ⟨(some 14), .bin .mul (.const (.int .i64 257)) (.tmp 13), none⟩,
     ⟨(some 15), .pad 3 (.tmp 1), none⟩,
     ⟨(some 16), .ld none (.tmp 15), none⟩,
     ⟨(some 17), .cnv .i64 (.tmp 16), none⟩,
     ⟨(some 18), .bin .mul (.const (.int .i64 257)) (.tmp 17), none⟩,
     ⟨(some 19), .bld [(.int .i64 0), (.int .i64 0), (.int .i64 0), (.int .i64 0)] [(0, 1, (.tmp 6)), (1, 1, (.tmp 10)), (2, 1, (.tmp 14)), (3, 1, (.tmp 18))], none⟩,
     ⟨none, .st 4 (.tmp 2) (.tmp 19), none⟩])
  .ret))
def color_Wide.f (c0_R : Int) (c0_G : Int) (c0_B : Int) (c0_A : Int) : Option (Int × Int × Int × Int) := some (wr64 (257 * (wr64 c0_R)), wr64 (257 * (wr64 c0_G)), wr64 (257 * (wr64 c0_B)), wr64 (257 * (wr64 c0_A)))
theorem color_Wide.ok {S : Seal} {c0_R : Int} {c0_G : Int} {c0_B : Int} {c0_A : Int} {r0 : Int} {r1 : Int} {r2 : Int} {r3 : Int} (e : color_Wide.f c0_R c0_G c0_B c0_A = some (r0, r1, r2, r3)) :
    Cal Try.prog 50 [.agg #[.int .u8 c0_R, .int .u8 c0_G, .int .u8 c0_B, .int .u8 c0_A]] [] S fun v H' S' => v = .agg #[.int .i64 r0, .int .i64 r1, .int .i64 r2, .int .i64 r3] ∧ H' = [] ∧ S' = S := by
  unfold color_Wide.f at e
  refine cal_of (c := c50) (N := 20) Try.func50 rfl rfl (by kernel_rfl) (rs := [.cn 4 2]) (by kernel_rfl) (Nat.le_of_ble_eq_true rfl) ?_
  unfold c50
  refine w_seq ?_
  refine w_reg fun all => ?_
  refine t_a (.box rfl rfl rfl) fun b69 fb69 sb69 => ?_
  refine t_a (.new rfl rfl) fun b70 fb70 sb70 => ?_
  refine t_keep [1, 2] (σ' := [(1, .pointer (some ⟨b69, 0, none⟩)), (2, .pointer (some ⟨b70, 0, none⟩))]) (by kernel_rfl) ?_
  refine t_end ?_
  show W _ _ _ _ _ _ _
  refine w_seq ?_
  refine w_reg fun all => ?_
  refine t_qz 1 [1, 2, 3] (σ' := [(1, .pointer (some ⟨b69, 0, none⟩)), (2, .pointer (some ⟨b70, 0, none⟩)), (3, .pointer (some ⟨b69, 0, none⟩))]) (by kernel_rfl) ?_
  refine t_v (.ld1 rfl rfl rfl (.at 1 rfl rfl)) ?_
  refine t_qz 3 [1, 2, 6, 7] (σ' := [(1, .pointer (some ⟨b69, 0, none⟩)), (2, .pointer (some ⟨b70, 0, none⟩)), (6, .int .i64 (wr64 (257 * (wr64 c0_R)))), (7, .pointer (some ⟨b69, 1, none⟩))]) (by kernel_rfl) ?_
  refine t_v (.ld1 rfl rfl rfl (.at 1 rfl rfl)) ?_
  refine t_qz 3 [1, 2, 6, 10, 11] (σ' := [(1, .pointer (some ⟨b69, 0, none⟩)), (2, .pointer (some ⟨b70, 0, none⟩)), (6, .int .i64 (wr64 (257 * (wr64 c0_R)))), (10, .int .i64 (wr64 (257 * (wr64 c0_G)))), (11, .pointer (some ⟨b69, 2, none⟩))]) (by kernel_rfl) ?_
  refine t_v (.ld1 rfl rfl rfl (.at 1 rfl rfl)) ?_
  refine t_qz 3 [2, 6, 10, 14, 15] (σ' := [(2, .pointer (some ⟨b70, 0, none⟩)), (6, .int .i64 (wr64 (257 * (wr64 c0_R)))), (10, .int .i64 (wr64 (257 * (wr64 c0_G)))), (14, .int .i64 (wr64 (257 * (wr64 c0_B)))), (15, .pointer (some ⟨b69, 3, none⟩))]) (by kernel_rfl) ?_
  refine t_v (.ld1 rfl rfl rfl (.at 1 rfl rfl)) ?_
  refine t_qz 3 [2, 19] (σ' := [(2, .pointer (some ⟨b70, 0, none⟩)), (19, .agg #[.int .i64 (wr64 (257 * (wr64 c0_R))), .int .i64 (wr64 (257 * (wr64 c0_G))), .int .i64 (wr64 (257 * (wr64 c0_B))), .int .i64 (wr64 (257 * (wr64 c0_A)))])]) (by kernel_rfl) ?_
  refine t_sti 0 (cs := [.int .i64 (wr64 (257 * (wr64 c0_R))), .int .i64 (wr64 (257 * (wr64 c0_G))), .int .i64 (wr64 (257 * (wr64 c0_B))), .int .i64 (wr64 (257 * (wr64 c0_A)))]) rfl rfl rfl rfl rfl rfl rfl rfl rfl ?_
  refine t_keep [2] (σ' := [(2, .pointer (some ⟨b70, 0, none⟩))]) (by kernel_rfl) ?_
  refine t_end ?_
  show W _ _ _ _ _ _ _
  refine w_ret ?_
  simp only [Option.some.injEq, Prod.mk.injEq] at e
  obtain ⟨rfl, rfl, rfl, rfl⟩ := e
  exact ⟨[.agg #[.int .i64 (wr64 (257 * (wr64 c0_R))), .int .i64 (wr64 (257 * (wr64 c0_G))), .int .i64 (wr64 (257 * (wr64 c0_B))), .int .i64 (wr64 (257 * (wr64 c0_A)))]], [], S, ⟨⟨_, _, _, rfl, .at 0 rfl rfl, rfl⟩, trivial⟩, VS.none, rfl, rfl, rfl⟩

/-- paint.Mix -/
def c33 : C :=
  (.seq (.reg [⟨(some 3), .box (.tmp 0), none⟩,
     ⟨(some 4), .box (.tmp 1), none⟩,
     ⟨(some 6), .new [(.int .i64 0), (.int .i64 0), (.int .i64 0), (.int .i64 0)], none⟩])
  (.seq (.drw [⟨(some 11), .ld (some 4) (.tmp 3), none⟩,
     ⟨(some 12), .call 50 [(.tmp 11)], none⟩,
     ⟨(some 13), .ld (some 4) (.tmp 4), none⟩,
     ⟨(some 14), .call 50 [(.tmp 13)], none⟩,
     ⟨(some 7), .new [(.int .i64 0), (.int .i64 0), (.int .i64 0), (.int .i64 0)], none⟩,
     ⟨(some 8), .new [(.int .i64 0), (.int .i64 0), (.int .i64 0), (.int .i64 0)], none⟩,
     ⟨none, .st 4 (.tmp 7) (.tmp 12), none⟩,
     ⟨none, .st 4 (.tmp 8) (.tmp 14), none⟩] [[], [0], [], [2, 1], [], [], [4, 1, 3, 0, 1, 4, 5], [5, 3, 6, 0, 1, 2, 3, 4, 5, 6]])
  (.seq (.reg [⟨(some 9), .new [(.int .i64 0), (.int .i64 0), (.int .i64 0), (.int .i64 0)], none⟩])
  (.seq (.seq (.reg [⟨(some 15), .mv (.const (.int .i64 0)), none⟩])
   (.block 0 (.loop (.seq (.reg [⟨(some 16), .bin .lss (.tmp 15) (.const (.int .i64 4)), none⟩])
     (.seq (.cond (.tmp 16)
       .skip
       (.exit 0))
     (.seq (.block 1 (.seq (.reg [⟨(some 17), .mv (.tmp 15), none⟩,
          ⟨(some 10), .mv (.tmp 17), none⟩])
       (.drw [⟨(some 18), .mv (.tmp 10), none⟩,
         ⟨(some 19), .mv (.tmp 10), none⟩,
         ⟨(some 20), .ixa 1 4 (.tmp 7) (.tmp 19), none⟩,
         ⟨(some 21), .ld none (.tmp 20), none⟩,
         ⟨(some 22), .mv (.tmp 2), none⟩,
         ⟨(some 23), .bin .sub (.const (.int .i64 65536)) (.tmp 22), none⟩,
         ⟨(some 24), .bin .mul (.tmp 21) (.tmp 23), none⟩,
         ⟨(some 25), .mv (.tmp 10), none⟩,
         ⟨(some 26), .ixa 1 4 (.tmp 8) (.tmp 25), none⟩,
         ⟨(some 27), .ld none (.tmp 26), none⟩,
         ⟨(some 28), .mv (.tmp 2), none⟩,
         ⟨(some 29), .bin .mul (.tmp 27) (.tmp 28), none⟩,
         ⟨(some 30), .bin .add (.tmp 24) (.tmp 29), none⟩,
         ⟨(some 31), .call 43 [(.tmp 30), (.const (.int .i64 65536))], none⟩,
         ⟨(some 32), .ixa 1 4 (.tmp 9) (.tmp 18), none⟩,
         ⟨none, .st 1 (.tmp 32) (.tmp 31), none⟩] [[], [], [1], [2], [], [4], [3, 5], [], [7], [8], [], [9, 10], [6, 11], [12], [0, 0, 1, 2, 3, 4, 5, 6, 7, 8, 9, 10, 11, 12, 13], [14, 13, 13, 0, 1, 2, 3, 4, 5, 6, 7, 8, 9, 10, 11, 12, 13]])))
     (.reg [⟨(some 33), .bin .add (.tmp 15) (.const (.int .i64 1)), none⟩,
       ⟨(some 15), .mv (.tmp 33), none⟩])))))))
  (.seq (.reg [⟨(some 34), .ld (some 4) (.tmp 9), none⟩,
     ⟨none, .st 4 (.tmp 6) (.tmp 34), none⟩])
  .ret)))))
def paint_Mix.f (a0_R : Int) (a0_G : Int) (a0_B : Int) (a0_A : Int) (b1_R : Int) (b1_G : Int) (b1_B : Int) (b1_A : Int) (t2 : Int) : Option (Int × Int × Int × Int) := (color_Wide.f a0_R a0_G a0_B a0_A).bind fun (t74, t75, t76, t77) => ((color_Wide.f b1_R b1_G b1_B b1_A).bind fun (t79, t80, t81, t82) => ((fixed_Round.f (wr64 ((wr64 (t74 * (wr64 (65536 - t2)))) + (wr64 (t79 * t2)))) 65536).bind fun t87 => ((fixed_Round.f (wr64 ((wr64 (t75 * (wr64 (65536 - t2)))) + (wr64 (t80 * t2)))) 65536).bind fun t89 => ((fixed_Round.f (wr64 ((wr64 (t76 * (wr64 (65536 - t2)))) + (wr64 (t81 * t2)))) 65536).bind fun t91 => ((fixed_Round.f (wr64 ((wr64 (t77 * (wr64 (65536 - t2)))) + (wr64 (t82 * t2)))) 65536).bind fun t93 => (some (t87, t89, t91, t93)))))))
theorem paint_Mix.ok {S : Seal} {a0_R : Int} {a0_G : Int} {a0_B : Int} {a0_A : Int} {b1_R : Int} {b1_G : Int} {b1_B : Int} {b1_A : Int} {t2 : Int} {r0 : Int} {r1 : Int} {r2 : Int} {r3 : Int} (e : paint_Mix.f a0_R a0_G a0_B a0_A b1_R b1_G b1_B b1_A t2 = some (r0, r1, r2, r3)) :
    Cal Try.prog 33 [.agg #[.int .u8 a0_R, .int .u8 a0_G, .int .u8 a0_B, .int .u8 a0_A], .agg #[.int .u8 b1_R, .int .u8 b1_G, .int .u8 b1_B, .int .u8 b1_A], .int .i64 t2] [] S fun v H' S' => v = .agg #[.int .i64 r0, .int .i64 r1, .int .i64 r2, .int .i64 r3] ∧ H' = [] ∧ S' = S := by
  unfold paint_Mix.f at e
  refine cal_of (c := c33) (N := 35) Try.func33 rfl rfl (by kernel_rfl) (rs := [.cn 4 6]) (by kernel_rfl) (Nat.le_of_ble_eq_true rfl) ?_
  unfold c33
  refine w_seq ?_
  refine w_reg fun all => ?_
  refine t_a (.box rfl rfl rfl) fun b71 fb71 sb71 => ?_
  refine t_a (.box rfl rfl rfl) fun b72 fb72 sb72 => ?_
  refine t_a (.new rfl rfl) fun b73 fb73 sb73 => ?_
  refine t_keep [2, 3, 4, 6] (σ' := [(2, .int .i64 t2), (3, .pointer (some ⟨b71, 0, none⟩)), (4, .pointer (some ⟨b72, 0, none⟩)), (6, .pointer (some ⟨b73, 0, none⟩))]) (by kernel_rfl) ?_
  refine t_end ?_
  show W _ _ _ _ _ _ _
  refine w_seq ?_
  obtain ⟨⟨t74, t75, t76, t77⟩, h78, e⟩ := bind_of e
  try dsimp only at e
  obtain ⟨⟨t79, t80, t81, t82⟩, h83, e⟩ := bind_of e
  try dsimp only at e
  refine w_drwE mixed 6 [.v (.agg #[.int .u8 a0_R, .int .u8 a0_G, .int .u8 a0_B, .int .u8 a0_A]), .v (.agg #[.int .i64 t74, .int .i64 t75, .int .i64 t76, .int .i64 t77]), .v (.agg #[.int .u8 b1_R, .int .u8 b1_G, .int .u8 b1_B, .int .u8 b1_A]), .v (.agg #[.int .i64 t79, .int .i64 t80, .int .i64 t81, .int .i64 t82]), .a [.int .i64 0, .int .i64 0, .int .i64 0, .int .i64 0] ptrTo, .a [.int .i64 0, .int .i64 0, .int .i64 0, .int .i64 0] ptrTo] (by kernel_rfl) ?_ ?_
  · refine .cons (.ldn rfl rfl rfl (.at 2 rfl rfl)) ?_
    refine .cons (.call (vs := [.agg #[.int .u8 a0_R, .int .u8 a0_G, .int .u8 a0_B, .int .u8 a0_A]]) rfl rfl (by kernel_rfl) (color_Wide.ok h78)) ?_
    refine .cons (.ldn rfl rfl rfl (.at 1 rfl rfl)) ?_
    refine .cons (.call (vs := [.agg #[.int .u8 b1_R, .int .u8 b1_G, .int .u8 b1_B, .int .u8 b1_A]]) rfl rfl (by kernel_rfl) (color_Wide.ok h83)) ?_
    refine .cons (.new rfl rfl) ?_
    refine .cons (.new rfl rfl) ?_
    exact .nil
  refine fk_q 4 [2, 6, 12, 14] (σ' := [(2, .int .i64 t2), (6, .pointer (some ⟨b73, 0, none⟩)), (12, .agg #[.int .i64 t74, .int .i64 t75, .int .i64 t76, .int .i64 t77]), (14, .agg #[.int .i64 t79, .int .i64 t80, .int .i64 t81, .int .i64 t82])]) t_more (by kernel_rfl) ?_
  refine fk_a fun b84 fb84 sb84 => ?_
  refine fk_a fun b85 fb85 sb85 => ?_
  refine fk_nil fun all => ?_
  refine t_sti 1 (cs := [.int .i64 t74, .int .i64 t75, .int .i64 t76, .int .i64 t77]) rfl rfl rfl rfl rfl rfl rfl rfl rfl ?_
  refine t_sti 0 (cs := [.int .i64 t79, .int .i64 t80, .int .i64 t81, .int .i64 t82]) rfl rfl rfl rfl rfl rfl rfl rfl rfl ?_
  refine t_keep [2, 6, 7, 8] (σ' := [(2, .int .i64 t2), (6, .pointer (some ⟨b73, 0, none⟩)), (7, .pointer (some ⟨b84, 0, none⟩)), (8, .pointer (some ⟨b85, 0, none⟩))]) (by kernel_rfl) ?_
  refine t_end ?_
  show W _ _ _ _ _ _ _
  refine w_seq ?_
  refine w_reg fun all => ?_
  refine t_a (.new rfl rfl) fun b86 fb86 sb86 => ?_
  refine t_keep [2, 6, 7, 8, 9] (σ' := [(2, .int .i64 t2), (6, .pointer (some ⟨b73, 0, none⟩)), (7, .pointer (some ⟨b84, 0, none⟩)), (8, .pointer (some ⟨b85, 0, none⟩)), (9, .pointer (some ⟨b86, 0, none⟩))]) (by kernel_rfl) ?_
  refine t_end ?_
  show W _ _ _ _ _ _ _
  refine w_seq ?_
  refine w_seq ?_
  refine w_reg fun all => ?_
  refine t_qz 1 [2, 6, 7, 8, 9, 15] (σ' := [(2, .int .i64 t2), (6, .pointer (some ⟨b73, 0, none⟩)), (7, .pointer (some ⟨b84, 0, none⟩)), (8, .pointer (some ⟨b85, 0, none⟩)), (9, .pointer (some ⟨b86, 0, none⟩)), (15, .int .i64 0)]) (by kernel_rfl) ?_
  refine t_end ?_
  show W _ _ _ _ _ _ _
  refine w_block ?_
  refine w_lun 5 ?_
  refine wl_step ?_
  refine w_seq ?_
  refine w_reg fun all => ?_
  refine t_qz 1 [2, 6, 7, 8, 9, 15, 16] (σ' := [(2, .int .i64 t2), (6, .pointer (some ⟨b73, 0, none⟩)), (7, .pointer (some ⟨b84, 0, none⟩)), (8, .pointer (some ⟨b85, 0, none⟩)), (9, .pointer (some ⟨b86, 0, none⟩)), (15, .int .i64 0), (16, .bool true)]) (by kernel_rfl) ?_
  refine t_end ?_
  show W _ _ _ _ _ _ _
  refine w_seq ?_
  refine w_cond rfl (fun _ => ?_) (fun c_ => by cases c_)
  show W _ _ _ _ _ _ _
  refine w_skip ?_
  show W _ _ _ _ _ _ _
  refine w_seq ?_
  refine w_block ?_
  refine w_seq ?_
  refine w_reg fun all => ?_
  refine t_qz 2 [2, 6, 7, 8, 9, 10, 15] (σ' := [(2, .int .i64 t2), (6, .pointer (some ⟨b73, 0, none⟩)), (7, .pointer (some ⟨b84, 0, none⟩)), (8, .pointer (some ⟨b85, 0, none⟩)), (9, .pointer (some ⟨b86, 0, none⟩)), (10, .int .i64 0), (15, .int .i64 0)]) (by kernel_rfl) ?_
  refine t_end ?_
  show W _ _ _ _ _ _ _
  obtain ⟨t87, h88, e⟩ := bind_of e
  refine w_drwE mixed 15 [.v (.int .i64 0), .v (.int .i64 0), .v (.pointer (some ⟨b84, 0, none⟩)), .v (.int .i64 t74), .v (.int .i64 t2), .v (.int .i64 (wr64 (65536 - t2))), .v (.int .i64 (wr64 (t74 * (wr64 (65536 - t2))))), .v (.int .i64 0), .v (.pointer (some ⟨b85, 0, none⟩)), .v (.int .i64 t79), .v (.int .i64 t2), .v (.int .i64 (wr64 (t79 * t2))), .v (.int .i64 (wr64 ((wr64 (t74 * (wr64 (65536 - t2)))) + (wr64 (t79 * t2))))), .v (.int .i64 t87), .v (.pointer (some ⟨b86, 0, none⟩))] (by kernel_rfl) ?_ ?_
  · refine DI.sq 3 (by kernel_rfl) rfl ?_
    refine .cons (.ld1 rfl rfl rfl (.at 2 rfl rfl)) ?_
    refine DI.sq 5 (by kernel_rfl) rfl ?_
    refine .cons (.ld1 rfl rfl rfl (.at 1 rfl rfl)) ?_
    refine DI.sq 3 (by kernel_rfl) rfl ?_
    refine .cons (.call (vs := [.int .i64 (wr64 ((wr64 (t74 * (wr64 (65536 - t2)))) + (wr64 (t79 * t2)))), .int .i64 65536]) rfl rfl (by kernel_rfl) (fixed_Round.ok h88)) ?_
    refine DI.sq 1 (by kernel_rfl) rfl ?_
    exact .nil
  refine fk_q 15 [2, 6, 7, 8, 9, 15, 31, 32] (σ' := [(2, .int .i64 t2), (6, .pointer (some ⟨b73, 0, none⟩)), (7, .pointer (some ⟨b84, 0, none⟩)), (8, .pointer (some ⟨b85, 0, none⟩)), (9, .pointer (some ⟨b86, 0, none⟩)), (15, .int .i64 0), (31, .int .i64 t87), (32, .pointer (some ⟨b86, 0, none⟩))]) t_more (by kernel_rfl) ?_
  refine fk_nil fun all => ?_
  refine t_sti 0 (cs := [.int .i64 t87, .int .i64 0, .int .i64 0, .int .i64 0]) rfl rfl rfl rfl rfl rfl rfl rfl rfl ?_
  refine t_keep [2, 6, 7, 8, 9, 15] (σ' := [(2, .int .i64 t2), (6, .pointer (some ⟨b73, 0, none⟩)), (7, .pointer (some ⟨b84, 0, none⟩)), (8, .pointer (some ⟨b85, 0, none⟩)), (9, .pointer (some ⟨b86, 0, none⟩)), (15, .int .i64 0)]) (by kernel_rfl) ?_
  refine t_end ?_
  show W _ _ _ _ _ _ _
  refine w_reg fun all => ?_
  refine t_qz 2 [2, 6, 7, 8, 9, 15] (σ' := [(2, .int .i64 t2), (6, .pointer (some ⟨b73, 0, none⟩)), (7, .pointer (some ⟨b84, 0, none⟩)), (8, .pointer (some ⟨b85, 0, none⟩)), (9, .pointer (some ⟨b86, 0, none⟩)), (15, .int .i64 1)]) (by kernel_rfl) ?_
  refine t_end ?_
  show WL _ _ _ _ _ _ _ _
  refine wl_step ?_
  refine w_seq ?_
  refine w_reg fun all => ?_
  refine t_qz 1 [2, 6, 7, 8, 9, 15, 16] (σ' := [(2, .int .i64 t2), (6, .pointer (some ⟨b73, 0, none⟩)), (7, .pointer (some ⟨b84, 0, none⟩)), (8, .pointer (some ⟨b85, 0, none⟩)), (9, .pointer (some ⟨b86, 0, none⟩)), (15, .int .i64 1), (16, .bool true)]) (by kernel_rfl) ?_
  refine t_end ?_
  show W _ _ _ _ _ _ _
  refine w_seq ?_
  refine w_cond rfl (fun _ => ?_) (fun c_ => by cases c_)
  show W _ _ _ _ _ _ _
  refine w_skip ?_
  show W _ _ _ _ _ _ _
  refine w_seq ?_
  refine w_block ?_
  refine w_seq ?_
  refine w_reg fun all => ?_
  refine t_qz 2 [2, 6, 7, 8, 9, 10, 15] (σ' := [(2, .int .i64 t2), (6, .pointer (some ⟨b73, 0, none⟩)), (7, .pointer (some ⟨b84, 0, none⟩)), (8, .pointer (some ⟨b85, 0, none⟩)), (9, .pointer (some ⟨b86, 0, none⟩)), (10, .int .i64 1), (15, .int .i64 1)]) (by kernel_rfl) ?_
  refine t_end ?_
  show W _ _ _ _ _ _ _
  obtain ⟨t89, h90, e⟩ := bind_of e
  refine w_drwE mixed 15 [.v (.int .i64 1), .v (.int .i64 1), .v (.pointer (some ⟨b84, 1, none⟩)), .v (.int .i64 t75), .v (.int .i64 t2), .v (.int .i64 (wr64 (65536 - t2))), .v (.int .i64 (wr64 (t75 * (wr64 (65536 - t2))))), .v (.int .i64 1), .v (.pointer (some ⟨b85, 1, none⟩)), .v (.int .i64 t80), .v (.int .i64 t2), .v (.int .i64 (wr64 (t80 * t2))), .v (.int .i64 (wr64 ((wr64 (t75 * (wr64 (65536 - t2)))) + (wr64 (t80 * t2))))), .v (.int .i64 t89), .v (.pointer (some ⟨b86, 1, none⟩))] (by kernel_rfl) ?_ ?_
  · refine DI.sq 3 (by kernel_rfl) rfl ?_
    refine .cons (.ld1 rfl rfl rfl (.at 2 rfl rfl)) ?_
    refine DI.sq 5 (by kernel_rfl) rfl ?_
    refine .cons (.ld1 rfl rfl rfl (.at 1 rfl rfl)) ?_
    refine DI.sq 3 (by kernel_rfl) rfl ?_
    refine .cons (.call (vs := [.int .i64 (wr64 ((wr64 (t75 * (wr64 (65536 - t2)))) + (wr64 (t80 * t2)))), .int .i64 65536]) rfl rfl (by kernel_rfl) (fixed_Round.ok h90)) ?_
    refine DI.sq 1 (by kernel_rfl) rfl ?_
    exact .nil
  refine fk_q 15 [2, 6, 7, 8, 9, 15, 31, 32] (σ' := [(2, .int .i64 t2), (6, .pointer (some ⟨b73, 0, none⟩)), (7, .pointer (some ⟨b84, 0, none⟩)), (8, .pointer (some ⟨b85, 0, none⟩)), (9, .pointer (some ⟨b86, 0, none⟩)), (15, .int .i64 1), (31, .int .i64 t89), (32, .pointer (some ⟨b86, 1, none⟩))]) t_more (by kernel_rfl) ?_
  refine fk_nil fun all => ?_
  refine t_sti 0 (cs := [.int .i64 t87, .int .i64 t89, .int .i64 0, .int .i64 0]) rfl rfl rfl rfl rfl rfl rfl rfl rfl ?_
  refine t_keep [2, 6, 7, 8, 9, 15] (σ' := [(2, .int .i64 t2), (6, .pointer (some ⟨b73, 0, none⟩)), (7, .pointer (some ⟨b84, 0, none⟩)), (8, .pointer (some ⟨b85, 0, none⟩)), (9, .pointer (some ⟨b86, 0, none⟩)), (15, .int .i64 1)]) (by kernel_rfl) ?_
  refine t_end ?_
  show W _ _ _ _ _ _ _
  refine w_reg fun all => ?_
  refine t_qz 2 [2, 6, 7, 8, 9, 15] (σ' := [(2, .int .i64 t2), (6, .pointer (some ⟨b73, 0, none⟩)), (7, .pointer (some ⟨b84, 0, none⟩)), (8, .pointer (some ⟨b85, 0, none⟩)), (9, .pointer (some ⟨b86, 0, none⟩)), (15, .int .i64 2)]) (by kernel_rfl) ?_
  refine t_end ?_
  show WL _ _ _ _ _ _ _ _
  refine wl_step ?_
  refine w_seq ?_
  refine w_reg fun all => ?_
  refine t_qz 1 [2, 6, 7, 8, 9, 15, 16] (σ' := [(2, .int .i64 t2), (6, .pointer (some ⟨b73, 0, none⟩)), (7, .pointer (some ⟨b84, 0, none⟩)), (8, .pointer (some ⟨b85, 0, none⟩)), (9, .pointer (some ⟨b86, 0, none⟩)), (15, .int .i64 2), (16, .bool true)]) (by kernel_rfl) ?_
  refine t_end ?_
  show W _ _ _ _ _ _ _
  refine w_seq ?_
  refine w_cond rfl (fun _ => ?_) (fun c_ => by cases c_)
  show W _ _ _ _ _ _ _
  refine w_skip ?_
  show W _ _ _ _ _ _ _
  refine w_seq ?_
  refine w_block ?_
  refine w_seq ?_
  refine w_reg fun all => ?_
  refine t_qz 2 [2, 6, 7, 8, 9, 10, 15] (σ' := [(2, .int .i64 t2), (6, .pointer (some ⟨b73, 0, none⟩)), (7, .pointer (some ⟨b84, 0, none⟩)), (8, .pointer (some ⟨b85, 0, none⟩)), (9, .pointer (some ⟨b86, 0, none⟩)), (10, .int .i64 2), (15, .int .i64 2)]) (by kernel_rfl) ?_
  refine t_end ?_
  show W _ _ _ _ _ _ _
  obtain ⟨t91, h92, e⟩ := bind_of e
  refine w_drwE mixed 15 [.v (.int .i64 2), .v (.int .i64 2), .v (.pointer (some ⟨b84, 2, none⟩)), .v (.int .i64 t76), .v (.int .i64 t2), .v (.int .i64 (wr64 (65536 - t2))), .v (.int .i64 (wr64 (t76 * (wr64 (65536 - t2))))), .v (.int .i64 2), .v (.pointer (some ⟨b85, 2, none⟩)), .v (.int .i64 t81), .v (.int .i64 t2), .v (.int .i64 (wr64 (t81 * t2))), .v (.int .i64 (wr64 ((wr64 (t76 * (wr64 (65536 - t2)))) + (wr64 (t81 * t2))))), .v (.int .i64 t91), .v (.pointer (some ⟨b86, 2, none⟩))] (by kernel_rfl) ?_ ?_
  · refine DI.sq 3 (by kernel_rfl) rfl ?_
    refine .cons (.ld1 rfl rfl rfl (.at 2 rfl rfl)) ?_
    refine DI.sq 5 (by kernel_rfl) rfl ?_
    refine .cons (.ld1 rfl rfl rfl (.at 1 rfl rfl)) ?_
    refine DI.sq 3 (by kernel_rfl) rfl ?_
    refine .cons (.call (vs := [.int .i64 (wr64 ((wr64 (t76 * (wr64 (65536 - t2)))) + (wr64 (t81 * t2)))), .int .i64 65536]) rfl rfl (by kernel_rfl) (fixed_Round.ok h92)) ?_
    refine DI.sq 1 (by kernel_rfl) rfl ?_
    exact .nil
  refine fk_q 15 [2, 6, 7, 8, 9, 15, 31, 32] (σ' := [(2, .int .i64 t2), (6, .pointer (some ⟨b73, 0, none⟩)), (7, .pointer (some ⟨b84, 0, none⟩)), (8, .pointer (some ⟨b85, 0, none⟩)), (9, .pointer (some ⟨b86, 0, none⟩)), (15, .int .i64 2), (31, .int .i64 t91), (32, .pointer (some ⟨b86, 2, none⟩))]) t_more (by kernel_rfl) ?_
  refine fk_nil fun all => ?_
  refine t_sti 0 (cs := [.int .i64 t87, .int .i64 t89, .int .i64 t91, .int .i64 0]) rfl rfl rfl rfl rfl rfl rfl rfl rfl ?_
  refine t_keep [2, 6, 7, 8, 9, 15] (σ' := [(2, .int .i64 t2), (6, .pointer (some ⟨b73, 0, none⟩)), (7, .pointer (some ⟨b84, 0, none⟩)), (8, .pointer (some ⟨b85, 0, none⟩)), (9, .pointer (some ⟨b86, 0, none⟩)), (15, .int .i64 2)]) (by kernel_rfl) ?_
  refine t_end ?_
  show W _ _ _ _ _ _ _
  refine w_reg fun all => ?_
  refine t_qz 2 [2, 6, 7, 8, 9, 15] (σ' := [(2, .int .i64 t2), (6, .pointer (some ⟨b73, 0, none⟩)), (7, .pointer (some ⟨b84, 0, none⟩)), (8, .pointer (some ⟨b85, 0, none⟩)), (9, .pointer (some ⟨b86, 0, none⟩)), (15, .int .i64 3)]) (by kernel_rfl) ?_
  refine t_end ?_
  show WL _ _ _ _ _ _ _ _
  refine wl_step ?_
  refine w_seq ?_
  refine w_reg fun all => ?_
  refine t_qz 1 [2, 6, 7, 8, 9, 15, 16] (σ' := [(2, .int .i64 t2), (6, .pointer (some ⟨b73, 0, none⟩)), (7, .pointer (some ⟨b84, 0, none⟩)), (8, .pointer (some ⟨b85, 0, none⟩)), (9, .pointer (some ⟨b86, 0, none⟩)), (15, .int .i64 3), (16, .bool true)]) (by kernel_rfl) ?_
  refine t_end ?_
  show W _ _ _ _ _ _ _
  refine w_seq ?_
  refine w_cond rfl (fun _ => ?_) (fun c_ => by cases c_)
  show W _ _ _ _ _ _ _
  refine w_skip ?_
  show W _ _ _ _ _ _ _
  refine w_seq ?_
  refine w_block ?_
  refine w_seq ?_
  refine w_reg fun all => ?_
  refine t_qz 2 [2, 6, 7, 8, 9, 10, 15] (σ' := [(2, .int .i64 t2), (6, .pointer (some ⟨b73, 0, none⟩)), (7, .pointer (some ⟨b84, 0, none⟩)), (8, .pointer (some ⟨b85, 0, none⟩)), (9, .pointer (some ⟨b86, 0, none⟩)), (10, .int .i64 3), (15, .int .i64 3)]) (by kernel_rfl) ?_
  refine t_end ?_
  show W _ _ _ _ _ _ _
  obtain ⟨t93, h94, e⟩ := bind_of e
  refine w_drwE mixed 15 [.v (.int .i64 3), .v (.int .i64 3), .v (.pointer (some ⟨b84, 3, none⟩)), .v (.int .i64 t77), .v (.int .i64 t2), .v (.int .i64 (wr64 (65536 - t2))), .v (.int .i64 (wr64 (t77 * (wr64 (65536 - t2))))), .v (.int .i64 3), .v (.pointer (some ⟨b85, 3, none⟩)), .v (.int .i64 t82), .v (.int .i64 t2), .v (.int .i64 (wr64 (t82 * t2))), .v (.int .i64 (wr64 ((wr64 (t77 * (wr64 (65536 - t2)))) + (wr64 (t82 * t2))))), .v (.int .i64 t93), .v (.pointer (some ⟨b86, 3, none⟩))] (by kernel_rfl) ?_ ?_
  · refine DI.sq 3 (by kernel_rfl) rfl ?_
    refine .cons (.ld1 rfl rfl rfl (.at 2 rfl rfl)) ?_
    refine DI.sq 5 (by kernel_rfl) rfl ?_
    refine .cons (.ld1 rfl rfl rfl (.at 1 rfl rfl)) ?_
    refine DI.sq 3 (by kernel_rfl) rfl ?_
    refine .cons (.call (vs := [.int .i64 (wr64 ((wr64 (t77 * (wr64 (65536 - t2)))) + (wr64 (t82 * t2)))), .int .i64 65536]) rfl rfl (by kernel_rfl) (fixed_Round.ok h94)) ?_
    refine DI.sq 1 (by kernel_rfl) rfl ?_
    exact .nil
  refine fk_q 15 [2, 6, 7, 8, 9, 15, 31, 32] (σ' := [(2, .int .i64 t2), (6, .pointer (some ⟨b73, 0, none⟩)), (7, .pointer (some ⟨b84, 0, none⟩)), (8, .pointer (some ⟨b85, 0, none⟩)), (9, .pointer (some ⟨b86, 0, none⟩)), (15, .int .i64 3), (31, .int .i64 t93), (32, .pointer (some ⟨b86, 3, none⟩))]) t_more (by kernel_rfl) ?_
  refine fk_nil fun all => ?_
  refine t_sti 0 (cs := [.int .i64 t87, .int .i64 t89, .int .i64 t91, .int .i64 t93]) rfl rfl rfl rfl rfl rfl rfl rfl rfl ?_
  refine t_keep [2, 6, 7, 8, 9, 15] (σ' := [(2, .int .i64 t2), (6, .pointer (some ⟨b73, 0, none⟩)), (7, .pointer (some ⟨b84, 0, none⟩)), (8, .pointer (some ⟨b85, 0, none⟩)), (9, .pointer (some ⟨b86, 0, none⟩)), (15, .int .i64 3)]) (by kernel_rfl) ?_
  refine t_end ?_
  show W _ _ _ _ _ _ _
  refine w_reg fun all => ?_
  refine t_qz 2 [2, 6, 7, 8, 9, 15] (σ' := [(2, .int .i64 t2), (6, .pointer (some ⟨b73, 0, none⟩)), (7, .pointer (some ⟨b84, 0, none⟩)), (8, .pointer (some ⟨b85, 0, none⟩)), (9, .pointer (some ⟨b86, 0, none⟩)), (15, .int .i64 4)]) (by kernel_rfl) ?_
  refine t_end ?_
  show WL _ _ _ _ _ _ _ _
  refine wl_step ?_
  refine w_seq ?_
  refine w_reg fun all => ?_
  refine t_qz 1 [2, 6, 7, 8, 9, 15, 16] (σ' := [(2, .int .i64 t2), (6, .pointer (some ⟨b73, 0, none⟩)), (7, .pointer (some ⟨b84, 0, none⟩)), (8, .pointer (some ⟨b85, 0, none⟩)), (9, .pointer (some ⟨b86, 0, none⟩)), (15, .int .i64 4), (16, .bool false)]) (by kernel_rfl) ?_
  refine t_end ?_
  show W _ _ _ _ _ _ _
  refine w_seq ?_
  refine w_cond rfl (fun c_ => by cases c_) (fun _ => ?_)
  show W _ _ _ _ _ _ _
  refine w_exit ?_
  show W _ _ _ _ _ _ _
  refine w_seq ?_
  refine w_reg fun all => ?_
  refine t_v (.ldn rfl rfl rfl (.at 0 rfl rfl)) ?_
  refine t_sti 3 (cs := [.int .i64 t87, .int .i64 t89, .int .i64 t91, .int .i64 t93]) rfl rfl rfl rfl rfl rfl rfl rfl rfl ?_
  refine t_keep [6] (σ' := [(6, .pointer (some ⟨b73, 0, none⟩))]) (by kernel_rfl) ?_
  refine t_end ?_
  show W _ _ _ _ _ _ _
  refine w_ret ?_
  simp only [Option.some.injEq, Prod.mk.injEq] at e
  obtain ⟨rfl, rfl, rfl, rfl⟩ := e
  exact ⟨[.agg #[.int .i64 t87, .int .i64 t89, .int .i64 t91, .int .i64 t93]], [], S, ⟨⟨_, _, _, rfl, .at 3 rfl rfl, rfl⟩, trivial⟩, VS.none, rfl, rfl, rfl⟩

/-- glyphiclaw25.first -/
def c30 : C :=
  (.seq (.reg [⟨(some 0), .mv (.const (.bool false)), none⟩])
  (.seq (.reg [⟨(some 1), .bld [(.int .i64 0), (.int .i64 0), (.int .i64 0), (.int .i64 0), (.int .i64 0), (.int .i64 0), (.int .i64 0)] [], none⟩,
     ⟨(some 2), .bld [(.int .i64 0), (.int .i64 0)] [(0, 1, (.const (.int .i64 5)))], none⟩,
     ⟨(some 3), .call 31 [(.tmp 1), (.tmp 2)], none⟩,
     ⟨(some 4), .bin .eql (.tmp 3) (.const (.int .i64 0)), none⟩,
     ⟨(some 5), .mv (.tmp 4), none⟩,
     ⟨(some 6), .bld [(.int .u8 0), (.int .u8 0), (.int .u8 0), (.int .u8 0)] [(0, 1, (.const (.int .u8 1)))], (some (5, true))⟩,
     ⟨(some 7), .bld [(.int .u8 0), (.int .u8 0), (.int .u8 0), (.int .u8 0)] [], (some (5, true))⟩,
     ⟨(some 8), .call 33 [(.tmp 6), (.tmp 7), (.const (.int .i64 0))], (some (5, true))⟩,
     ⟨(some 9), .ixv none 1 4 (.tmp 8) (.const (.int .i64 0)), (some (5, true))⟩,
     ⟨(some 10), .bin .eql (.tmp 9) (.const (.int .i64 257)), (some (5, true))⟩,
     ⟨(some 11), .pk (.tmp 5) (.tmp 10) (.const (.bool false)), none⟩,
     ⟨(some 0), .mv (.tmp 11), none⟩])
  .ret))
def glyphiclaw25_first.f (k : Nat)  : Option (Bool) := (paint_Part.f k 0 0 0 0 0 0 0 5 0).bind fun t95 => (if t95 = 0 then ((paint_Mix.f 1 0 0 0 0 0 0 0 0).bind fun (t98, t99, t100, t101) => (some (t98 == 257))) else (some false))
theorem glyphiclaw25_first.ok {S : Seal} {k : Nat}  {r0 : Bool} (e : glyphiclaw25_first.f k  = some r0) :
    Cal Try.prog 30 [] [] S fun v H' S' => v = .bool r0 ∧ H' = [] ∧ S' = S := by
  unfold glyphiclaw25_first.f at e
  refine cal_of (c := c30) (N := 12) Try.func30 rfl rfl (by kernel_rfl) (rs := [.t 0]) (by kernel_rfl) (Nat.le_of_ble_eq_true rfl) ?_
  unfold c30
  refine w_seq ?_
  refine w_reg fun all => ?_
  refine t_qz 1 [] (σ' := []) (by kernel_rfl) ?_
  refine t_end ?_
  show W _ _ _ _ _ _ _
  refine w_seq ?_
  refine w_reg fun all => ?_
  obtain ⟨t95, h96, e⟩ := bind_of e
  refine t_qz 2 [1, 2] (σ' := [(1, .agg #[.int .i64 0, .int .i64 0, .int .i64 0, .int .i64 0, .int .i64 0, .int .i64 0, .int .i64 0]), (2, .agg #[.int .i64 5, .int .i64 0])]) (by kernel_rfl) ?_
  refine t_v (.call (vs := [.agg #[.int .i64 0, .int .i64 0, .int .i64 0, .int .i64 0, .int .i64 0, .int .i64 0, .int .i64 0], .agg #[.int .i64 5, .int .i64 0]]) rfl rfl (by kernel_rfl) (paint_Part.ok h96)) ?_
  by_cases c97 : t95 = 0
  · rw [if_pos c97] at e
    have c97b : (t95 == 0) = true := beq_iff_eq.mpr c97
    refine t_v (dv_quiet rfl (congrArg (fun t => some (Value.bool t)) c97b)) ?_
    obtain ⟨⟨t98, t99, t100, t101⟩, h102, e⟩ := bind_of e
    try dsimp only at e
    refine t_qz 3 [5, 6, 7] (σ' := [(5, .bool true), (6, .agg #[.int .u8 1, .int .u8 0, .int .u8 0, .int .u8 0]), (7, .agg #[.int .u8 0, .int .u8 0, .int .u8 0, .int .u8 0])]) (by kernel_rfl) ?_
    refine t_v (.call (vs := [.agg #[.int .u8 1, .int .u8 0, .int .u8 0, .int .u8 0], .agg #[.int .u8 0, .int .u8 0, .int .u8 0, .int .u8 0], .int .i64 0]) rfl rfl (by kernel_rfl) (paint_Mix.ok h102)) ?_
    refine t_qz 4 [0] (σ' := [(0, .bool (t98 == 257))]) (by kernel_rfl) ?_
    refine t_end ?_
    show W _ _ _ _ _ _ _
    refine w_ret ?_
    obtain rfl := Option.some.inj e
    exact ⟨[.bool (t98 == 257)], [], S, ⟨rfl, trivial⟩, VS.none, rfl, rfl, rfl⟩
  · rw [if_neg c97] at e
    have c97b : (t95 == 0) = false := beq_eq_false_iff_ne.mpr c97
    refine t_v (dv_quiet rfl (congrArg (fun t => some (Value.bool t)) c97b)) ?_
    refine t_qz 8 [0] (σ' := [(0, .bool false)]) (by kernel_rfl) ?_
    refine t_end ?_
    show W _ _ _ _ _ _ _
    refine w_ret ?_
    obtain rfl := Option.some.inj e
    exact ⟨[.bool false], [], S, ⟨rfl, trivial⟩, VS.none, rfl, rfl, rfl⟩

/-- glyphiclaw25.PaintMixes -/
def c12 : C :=
  (.seq (.reg [⟨(some 3), .box (.tmp 0), none⟩,
     ⟨(some 4), .box (.tmp 1), none⟩,
     ⟨(some 6), .mv (.const (.bool false)), none⟩])
  (.seq (.reg [⟨(some 16), .call 30 [], none⟩,
     ⟨(some 7), .mv (.tmp 16), none⟩])
  (.seq (.seq (.reg [⟨(some 17), .mv (.tmp 7), none⟩,
      ⟨(some 18), .un .not (.tmp 17), none⟩])
   (.cond (.tmp 18)
    (.seq (.reg [⟨(some 6), .mv (.const (.bool false)), none⟩])
     .ret)
    .skip))
  (.seq (.reg [⟨(some 19), .mv (.tmp 2), none⟩,
     ⟨(some 20), .bin .rem (.tmp 19) (.const (.int .i64 65537)), none⟩,
     ⟨(some 21), .bin .add (.tmp 20) (.const (.int .i64 65537)), none⟩,
     ⟨(some 22), .bin .rem (.tmp 21) (.const (.int .i64 65537)), none⟩,
     ⟨(some 2), .mv (.tmp 22), none⟩])
  (.seq (.reg [⟨(some 23), .ld (some 4) (.tmp 3), none⟩,
     ⟨(some 24), .ld (some 4) (.tmp 4), none⟩,
     ⟨(some 25), .mv (.tmp 2), none⟩,
     ⟨(some 26), .call 33 [(.tmp 23), (.tmp 24), (.tmp 25)], none⟩,
     ⟨(some 8), .new [(.int .i64 0), (.int .i64 0), (.int .i64 0), (.int .i64 0)], none⟩,
     ⟨none, .st 4 (.tmp 8) (.tmp 26), none⟩])
  (.seq (.reg [⟨(some 27), .ld (some 4) (.tmp 4), none⟩,
     ⟨(some 28), .ld (some 4) (.tmp 3), none⟩,
     ⟨(some 29), .mv (.tmp 2), none⟩,
     ⟨(some 30), .bin .sub (.const (.int .i64 65536)) (.tmp 29), none⟩,
     ⟨(some 31), .call 33 [(.tmp 27), (.tmp 28), (.tmp 30)], none⟩,
     ⟨(some 9), .new [(.int .i64 0), (.int .i64 0), (.int .i64 0), (.int .i64 0)], none⟩,
     ⟨none, .st 4 (.tmp 9) (.tmp 31), none⟩])
  (.seq (.reg [⟨(some 32), .ld (some 4) (.tmp 3), none⟩,
     ⟨(some 33), .ld (some 4) (.tmp 3), none⟩,
     ⟨(some 34), .mv (.tmp 2), none⟩,
     ⟨(some 35), .call 33 [(.tmp 32), (.tmp 33), (.tmp 34)], none⟩,
     ⟨(some 10), .new [(.int .i64 0), (.int .i64 0), (.int .i64 0), (.int .i64 0)], none⟩,
     ⟨none, .st 4 (.tmp 10) (.tmp 35), none⟩])
  (.seq (.reg [⟨(some 36), .ld (some 4) (.tmp 3), none⟩,
     ⟨(some 37), .ld (some 4) (.tmp 4), none⟩,
     ⟨(some 38), .call 33 [(.tmp 36), (.tmp 37), (.const (.int .i64 0))], none⟩,
     ⟨(some 11), .new [(.int .i64 0), (.int .i64 0), (.int .i64 0), (.int .i64 0)], none⟩,
     ⟨none, .st 4 (.tmp 11) (.tmp 38), none⟩])
  (.seq (.reg [⟨(some 39), .ld (some 4) (.tmp 3), none⟩,
     ⟨(some 40), .ld (some 4) (.tmp 4), none⟩,
     ⟨(some 41), .call 33 [(.tmp 39), (.tmp 40), (.const (.int .i64 65536))], none⟩,
     ⟨(some 12), .new [(.int .i64 0), (.int .i64 0), (.int .i64 0), (.int .i64 0)], none⟩,
     ⟨none, .st 4 (.tmp 12) (.tmp 41), none⟩])
  (.seq (.reg [⟨(some 42), .pad 0 (.tmp 3), none⟩,
     ⟨(some 43), .ld none (.tmp 42), none⟩,
     ⟨(some 44), .cnv .i64 (.tmp 43), none⟩,
     ⟨(some 45), .pad 1 (.tmp 3), none⟩,
     ⟨(some 46), .ld none (.tmp 45), none⟩,
     ⟨(some 47), .cnv .i64 (.tmp 46), none⟩,
     ⟨(some 48), .pad 2 (.tmp 3), none⟩,
     ⟨(some 49), .ld none (.tmp 48), none⟩,
     ⟨(some 50), .cnv .i64 (.tmp 49), none⟩,
     ⟨(some 51), .pad 3 (.tmp 3), none⟩,
     ⟨(some 52), .ld none (.tmp 51), none⟩,
     ⟨(some 53), .cnv .i64 (.tmp 52), none⟩,
     ⟨(some 54), .bld [(.int .i64 0), (.int .i64 0), (.int .i64 0), (.int .i64 0)] [(0, 1, (.tmp 44)), (1, 1, (.tmp 47)), (2, 1, (.tmp 50)), (3, 1, (.tmp 53))], none⟩,
     ⟨(some 13), .new [(.int .i64 0), (.int .i64 0), (.int .i64 0), (.int .i64 0)], none⟩,
     ⟨none, .st 4 (.tmp 13) (.tmp 54), none⟩])
  (.seq (.reg [⟨(some 55), .pad 0 (.tmp 4), none⟩,
     ⟨(some 56), .ld none (.tmp 55), none⟩,
     ⟨(some 57), .cnv .i64 (.tmp 56), none⟩,
     ⟨(some 58), .pad 1 (.tmp 4), none⟩,
     ⟨(some 59), .ld none (.tmp 58), none⟩,
     ⟨(some 60), .cnv .i64 (.tmp 59), none⟩,
     ⟨(some 61), .pad 2 (.tmp 4), none⟩,
     ⟨(some 62), .ld none (.tmp 61), none⟩,
     ⟨(some 63), .cnv .i64 (.tmp 62), none⟩,
     ⟨(some 64), .pad 3 (.tmp 4), none⟩,
     ⟨(some 65), .ld none (.tmp 64), none⟩,
     ⟨(some 66), .cnv .i64 (.tmp 65), none⟩,
     ⟨(some 67), .bld [(.int .i64 0), (.int .i64 0), (.int .i64 0), (.int .i64 0)] [(0, 1, (.tmp 57)), (1, 1, (.tmp 60)), (2, 1, (.tmp 63)), (3, 1, (.tmp 66))], none⟩,
     ⟨(some 14), .new [(.int .i64 0), (.int .i64 0), (.int .i64 0), (.int .i64 0)], none⟩,
     ⟨none, .st 4 (.tmp 14) (.tmp 67), none⟩])
  (.seq (.seq (.reg [⟨(some 15), .mv (.const (.int .i64 0)), none⟩])
   (.block 0 (.loop (.seq (.seq (.reg [⟨(some 68), .mv (.tmp 15), none⟩,
         ⟨(some 69), .bin .lss (.tmp 68) (.const (.int .i64 4)), none⟩])
      (.cond (.tmp 69)
       .skip
       (.exit 0)))
     (.seq (.block 1 (.seq (.drw [⟨(some 72), .mv (.tmp 15), none⟩,
          ⟨(some 73), .ixa 1 4 (.tmp 8) (.tmp 72), none⟩,
          ⟨(some 74), .ld none (.tmp 73), none⟩,
          ⟨(some 75), .mv (.tmp 15), none⟩,
          ⟨(some 76), .ixa 1 4 (.tmp 13) (.tmp 75), none⟩,
          ⟨(some 77), .ld none (.tmp 76), none⟩,
          ⟨(some 78), .mv (.tmp 15), none⟩,
          ⟨(some 79), .ixa 1 4 (.tmp 14) (.tmp 78), none⟩,
          ⟨(some 80), .ld none (.tmp 79), none⟩,
          ⟨(some 81), .mm false [(.tmp 77), (.tmp 80)], none⟩,
          ⟨(some 82), .bin .mul (.const (.int .i64 257)) (.tmp 81), none⟩,
          ⟨(some 83), .bin .lss (.tmp 74) (.tmp 82), none⟩,
          ⟨(some 84), .mv (.tmp 83), none⟩,
          ⟨(some 85), .mv (.tmp 15), (some (84, false))⟩,
          ⟨(some 86), .ixa 1 4 (.tmp 8) (.tmp 85), (some (84, false))⟩,
          ⟨(some 87), .ld none (.tmp 86), (some (84, false))⟩,
          ⟨(some 88), .mv (.tmp 15), (some (84, false))⟩,
          ⟨(some 89), .ixa 1 4 (.tmp 13) (.tmp 88), (some (84, false))⟩,
          ⟨(some 90), .ld none (.tmp 89), (some (84, false))⟩,
          ⟨(some 91), .mv (.tmp 15), (some (84, false))⟩,
          ⟨(some 92), .ixa 1 4 (.tmp 14) (.tmp 91), (some (84, false))⟩,
          ⟨(some 93), .ld none (.tmp 92), (some (84, false))⟩,
          ⟨(some 94), .mm true [(.tmp 90), (.tmp 93)], (some (84, false))⟩,
          ⟨(some 95), .bin .mul (.const (.int .i64 257)) (.tmp 94), (some (84, false))⟩,
          ⟨(some 96), .bin .gtr (.tmp 87) (.tmp 95), (some (84, false))⟩,
          ⟨(some 97), .pk (.tmp 84) (.const (.bool true)) (.tmp 96), none⟩,
          ⟨(some 98), .mv (.tmp 97), none⟩,
          ⟨(some 99), .mv (.tmp 15), (some (98, false))⟩,
          ⟨(some 100), .ixa 1 4 (.tmp 8) (.tmp 99), (some (98, false))⟩,
          ⟨(some 101), .ld none (.tmp 100), (some (98, false))⟩,
          ⟨(some 102), .mv (.tmp 15), (some (98, false))⟩,
          ⟨(some 103), .ixa 1 4 (.tmp 9) (.tmp 102), (some (98, false))⟩,
          ⟨(some 104), .ld none (.tmp 103), (some (98, false))⟩,
          ⟨(some 105), .bin .neq (.tmp 101) (.tmp 104), (some (98, false))⟩,
          ⟨(some 106), .pk (.tmp 98) (.const (.bool true)) (.tmp 105), none⟩,
          ⟨(some 107), .mv (.tmp 106), none⟩,
          ⟨(some 108), .mv (.tmp 15), (some (107, false))⟩,
          ⟨(some 109), .ixa 1 4 (.tmp 10) (.tmp 108), (some (107, false))⟩,
          ⟨(some 110), .ld none (.tmp 109), (some (107, false))⟩,
          ⟨(some 111), .mv (.tmp 15), (some (107, false))⟩,
          ⟨(some 112), .ixa 1 4 (.tmp 13) (.tmp 111), (some (107, false))⟩,
          ⟨(some 113), .ld none (.tmp 112), (some (107, false))⟩,
          ⟨(some 114), .bin .mul (.const (.int .i64 257)) (.tmp 113), (some (107, false))⟩,
          ⟨(some 115), .bin .neq (.tmp 110) (.tmp 114), (some (107, false))⟩,
          ⟨(some 116), .pk (.tmp 107) (.const (.bool true)) (.tmp 115), none⟩,
          ⟨(some 117), .mv (.tmp 116), none⟩,
          ⟨(some 118), .mv (.tmp 15), (some (117, false))⟩,
          ⟨(some 119), .ixa 1 4 (.tmp 11) (.tmp 118), (some (117, false))⟩,
          ⟨(some 120), .ld none (.tmp 119), (some (117, false))⟩,
          ⟨(some 121), .mv (.tmp 15), (some (117, false))⟩,
          ⟨(some 122), .ixa 1 4 (.tmp 13) (.tmp 121), (some (117, false))⟩,
          ⟨(some 123), .ld none (.tmp 122), (some (117, false))⟩,
          ⟨(some 124), .bin .mul (.const (.int .i64 257)) (.tmp 123), (some (117, false))⟩,
          ⟨(some 125), .bin .neq (.tmp 120) (.tmp 124), (some (117, false))⟩,
          ⟨(some 126), .pk (.tmp 117) (.const (.bool true)) (.tmp 125), none⟩,
          ⟨(some 127), .mv (.tmp 126), none⟩,
          ⟨(some 128), .mv (.tmp 15), (some (127, false))⟩,
          ⟨(some 129), .ixa 1 4 (.tmp 12) (.tmp 128), (some (127, false))⟩,
          ⟨(some 130), .ld none (.tmp 129), (some (127, false))⟩,
          ⟨(some 131), .mv (.tmp 15), (some (127, false))⟩,
          ⟨(some 132), .ixa 1 4 (.tmp 14) (.tmp 131), (some (127, false))⟩,
          ⟨(some 133), .ld none (.tmp 132), (some (127, false))⟩,
          ⟨(some 134), .bin .mul (.const (.int .i64 257)) (.tmp 133), (some (127, false))⟩,
          ⟨(some 135), .bin .neq (.tmp 130) (.tmp 134), (some (127, false))⟩,
          ⟨(some 136), .pk (.tmp 127) (.const (.bool true)) (.tmp 135), none⟩] [[], [0], [1], [], [3], [4], [], [6], [7], [5, 8], [9], [2, 10], [11], [12], [13, 12], [14, 12], [12], [16, 12], [17, 12], [12], [19, 12], [20, 12], [18, 21, 12], [22, 12], [15, 23, 12], [12, 24], [25, 12], [26], [27, 26], [28, 26], [26], [30, 26], [31, 26], [29, 32, 26], [26, 33], [34, 26], [35], [36, 35], [37, 35], [35], [39, 35], [40, 35], [41, 35], [38, 42, 35], [35, 43], [44, 35], [45], [46, 45], [47, 45], [45], [49, 45], [50, 45], [51, 45], [48, 52, 45], [45, 53], [54, 45], [55], [56, 55], [57, 55], [55], [59, 55], [60, 55], [61, 55], [58, 62, 55], [55, 63]])
       (.cond (.tmp 136)
        (.seq (.reg [⟨(some 6), .mv (.const (.bool false)), none⟩])
         .ret)
        .skip)))
     (.reg [⟨(some 70), .mv (.tmp 15), none⟩,
       ⟨(some 71), .bin .add (.tmp 70) (.const (.int .i64 1)), none⟩,
       ⟨(some 15), .mv (.tmp 71), none⟩]))))))
  (.seq (.reg [⟨(some 137), .mv (.tmp 7), none⟩,
     ⟨(some 138), .mv (.tmp 137), none⟩,
     ⟨(some 139), .pk (.tmp 138) (.const (.bool true)) (.const (.bool false)), none⟩,
     ⟨(some 6), .mv (.tmp 139), none⟩])
  .ret)))))))))))))
def glyphiclaw25_PaintMixes.f (k : Nat) (t0_R : Int) (t0_G : Int) (t0_B : Int) (t0_A : Int) (o1_R : Int) (o1_G : Int) (o1_B : Int) (o1_A : Int) (A2 : Int) : Option (Bool) := (glyphiclaw25_first.f k).bind fun t105 => (if t105 = true then ((paint_Mix.f t0_R t0_G t0_B t0_A o1_R o1_G o1_B o1_A (Int.tmod (wr64 ((Int.tmod A2 65537) + 65537)) 65537)).bind fun (t107, t108, t109, t110) => ((paint_Mix.f o1_R o1_G o1_B o1_A t0_R t0_G t0_B t0_A (wr64 (65536 - (Int.tmod (wr64 ((Int.tmod A2 65537) + 65537)) 65537)))).bind fun (t113, t114, t115, t116) => ((paint_Mix.f t0_R t0_G t0_B t0_A t0_R t0_G t0_B t0_A (Int.tmod (wr64 ((Int.tmod A2 65537) + 65537)) 65537)).bind fun (t119, t120, t121, t122) => ((paint_Mix.f t0_R t0_G t0_B t0_A o1_R o1_G o1_B o1_A 0).bind fun (t125, t126, t127, t128) => ((paint_Mix.f t0_R t0_G t0_B t0_A o1_R o1_G o1_B o1_A 65536).bind fun (t131, t132, t133, t134) => (if t107 < (wr64 (257 * (mn (wr64 t0_R) (wr64 o1_R)))) then (some false) else (if t107 > (wr64 (257 * (mx (wr64 t0_R) (wr64 o1_R)))) then (some false) else (if t107 = t113 then (if t119 = (wr64 (257 * (wr64 t0_R))) then (if t125 = (wr64 (257 * (wr64 t0_R))) then (if t131 = (wr64 (257 * (wr64 o1_R))) then (if t108 < (wr64 (257 * (mn (wr64 t0_G) (wr64 o1_G)))) then (some false) else (if t108 > (wr64 (257 * (mx (wr64 t0_G) (wr64 o1_G)))) then (some false) else (if t108 = t114 then (if t120 = (wr64 (257 * (wr64 t0_G))) then (if t126 = (wr64 (257 * (wr64 t0_G))) then (if t132 = (wr64 (257 * (wr64 o1_G))) then (if t109 < (wr64 (257 * (mn (wr64 t0_B) (wr64 o1_B)))) then (some false) else (if t109 > (wr64 (257 * (mx (wr64 t0_B) (wr64 o1_B)))) then (some false) else (if t109 = t115 then (if t121 = (wr64 (257 * (wr64 t0_B))) then (if t127 = (wr64 (257 * (wr64 t0_B))) then (if t133 = (wr64 (257 * (wr64 o1_B))) then (if t110 < (wr64 (257 * (mn (wr64 t0_A) (wr64 o1_A)))) then (some false) else (if t110 > (wr64 (257 * (mx (wr64 t0_A) (wr64 o1_A)))) then (some false) else (if t110 = t116 then (if t122 = (wr64 (257 * (wr64 t0_A))) then (if t128 = (wr64 (257 * (wr64 t0_A))) then (if t134 = (wr64 (257 * (wr64 o1_A))) then (some true) else (some false)) else (some false)) else (some false)) else (some false)))) else (some false)) else (some false)) else (some false)) else (some false)))) else (some false)) else (some false)) else (some false)) else (some false)))) else (some false)) else (some false)) else (some false)) else (some false))))))))) else (some false))
theorem glyphiclaw25_PaintMixes.ok {S : Seal} {k : Nat} {t0_R : Int} {t0_G : Int} {t0_B : Int} {t0_A : Int} {o1_R : Int} {o1_G : Int} {o1_B : Int} {o1_A : Int} {A2 : Int}  (e : glyphiclaw25_PaintMixes.f k t0_R t0_G t0_B t0_A o1_R o1_G o1_B o1_A A2 = some true) :
    Cal Try.prog 12 [.agg #[.int .u8 t0_R, .int .u8 t0_G, .int .u8 t0_B, .int .u8 t0_A], .agg #[.int .u8 o1_R, .int .u8 o1_G, .int .u8 o1_B, .int .u8 o1_A], .int .i64 A2] [] S fun v H' S' => v = .bool true ∧ H' = [] ∧ S' = S := by
  unfold glyphiclaw25_PaintMixes.f at e
  refine cal_of (c := c12) (N := 140) Try.func12 rfl rfl (by kernel_rfl) (rs := [.t 6]) (by kernel_rfl) (Nat.le_of_ble_eq_true rfl) ?_
  unfold c12
  refine w_seq ?_
  refine w_reg fun all => ?_
  refine t_a (.box rfl rfl rfl) fun b103 fb103 sb103 => ?_
  refine t_a (.box rfl rfl rfl) fun b104 fb104 sb104 => ?_
  refine t_qz 1 [2, 3, 4] (σ' := [(2, .int .i64 A2), (3, .pointer (some ⟨b103, 0, none⟩)), (4, .pointer (some ⟨b104, 0, none⟩))]) (by kernel_rfl) ?_
  refine t_end ?_
  show W _ _ _ _ _ _ _
  refine w_seq ?_
  refine w_reg fun all => ?_
  obtain ⟨t105, h106, e⟩ := bind_of e
  cases t105 with
  | true =>
    rw [if_pos rfl] at e
    refine t_v (.call (vs := []) rfl rfl (by kernel_rfl) (glyphiclaw25_first.ok h106)) ?_
    refine t_qz 1 [2, 3, 4, 7] (σ' := [(2, .int .i64 A2), (3, .pointer (some ⟨b103, 0, none⟩)), (4, .pointer (some ⟨b104, 0, none⟩)), (7, .bool true)]) (by kernel_rfl) ?_
    refine t_end ?_
    show W _ _ _ _ _ _ _
    refine w_seq ?_
    refine w_seq ?_
    refine w_reg fun all => ?_
    refine t_qz 2 [2, 3, 4, 7, 18] (σ' := [(2, .int .i64 A2), (3, .pointer (some ⟨b103, 0, none⟩)), (4, .pointer (some ⟨b104, 0, none⟩)), (7, .bool true), (18, .bool false)]) (by kernel_rfl) ?_
    refine t_end ?_
    show W _ _ _ _ _ _ _
    refine w_cond rfl (fun c_ => by cases c_) (fun _ => ?_)
    show W _ _ _ _ _ _ _
    refine w_skip ?_
    show W _ _ _ _ _ _ _
    refine w_seq ?_
    refine w_reg fun all => ?_
    refine t_qz 5 [2, 3, 4, 7] (σ' := [(2, .int .i64 (Int.tmod (wr64 ((Int.tmod A2 65537) + 65537)) 65537)), (3, .pointer (some ⟨b103, 0, none⟩)), (4, .pointer (some ⟨b104, 0, none⟩)), (7, .bool true)]) (by kernel_rfl) ?_
    refine t_end ?_
    show W _ _ _ _ _ _ _
    refine w_seq ?_
    refine w_reg fun all => ?_
    refine t_v (.ldn rfl rfl rfl (.at 1 rfl rfl)) ?_
    refine t_v (.ldn rfl rfl rfl (.at 0 rfl rfl)) ?_
    obtain ⟨⟨t107, t108, t109, t110⟩, h111, e⟩ := bind_of e
    try dsimp only at e
    refine t_qz 1 [2, 3, 4, 7, 23, 24, 25] (σ' := [(2, .int .i64 (Int.tmod (wr64 ((Int.tmod A2 65537) + 65537)) 65537)), (3, .pointer (some ⟨b103, 0, none⟩)), (4, .pointer (some ⟨b104, 0, none⟩)), (7, .bool true), (23, .agg #[.int .u8 t0_R, .int .u8 t0_G, .int .u8 t0_B, .int .u8 t0_A]), (24, .agg #[.int .u8 o1_R, .int .u8 o1_G, .int .u8 o1_B, .int .u8 o1_A]), (25, .int .i64 (Int.tmod (wr64 ((Int.tmod A2 65537) + 65537)) 65537))]) (by kernel_rfl) ?_
    refine t_v (.call (vs := [.agg #[.int .u8 t0_R, .int .u8 t0_G, .int .u8 t0_B, .int .u8 t0_A], .agg #[.int .u8 o1_R, .int .u8 o1_G, .int .u8 o1_B, .int .u8 o1_A], .int .i64 (Int.tmod (wr64 ((Int.tmod A2 65537) + 65537)) 65537)]) rfl rfl (by kernel_rfl) (paint_Mix.ok h111)) ?_
    refine t_a (.new rfl rfl) fun b112 fb112 sb112 => ?_
    refine t_sti 0 (cs := [.int .i64 t107, .int .i64 t108, .int .i64 t109, .int .i64 t110]) rfl rfl rfl rfl rfl rfl rfl rfl rfl ?_
    refine t_keep [2, 3, 4, 7, 8] (σ' := [(2, .int .i64 (Int.tmod (wr64 ((Int.tmod A2 65537) + 65537)) 65537)), (3, .pointer (some ⟨b103, 0, none⟩)), (4, .pointer (some ⟨b104, 0, none⟩)), (7, .bool true), (8, .pointer (some ⟨b112, 0, none⟩))]) (by kernel_rfl) ?_
    refine t_end ?_
    show W _ _ _ _ _ _ _
    refine w_seq ?_
    refine w_reg fun all => ?_
    refine t_v (.ldn rfl rfl rfl (.at 1 rfl rfl)) ?_
    refine t_v (.ldn rfl rfl rfl (.at 2 rfl rfl)) ?_
    obtain ⟨⟨t113, t114, t115, t116⟩, h117, e⟩ := bind_of e
    try dsimp only at e
    refine t_qz 2 [2, 3, 4, 7, 8, 27, 28, 30] (σ' := [(2, .int .i64 (Int.tmod (wr64 ((Int.tmod A2 65537) + 65537)) 65537)), (3, .pointer (some ⟨b103, 0, none⟩)), (4, .pointer (some ⟨b104, 0, none⟩)), (7, .bool true), (8, .pointer (some ⟨b112, 0, none⟩)), (27, .agg #[.int .u8 o1_R, .int .u8 o1_G, .int .u8 o1_B, .int .u8 o1_A]), (28, .agg #[.int .u8 t0_R, .int .u8 t0_G, .int .u8 t0_B, .int .u8 t0_A]), (30, .int .i64 (wr64 (65536 - (Int.tmod (wr64 ((Int.tmod A2 65537) + 65537)) 65537))))]) (by kernel_rfl) ?_
    refine t_v (.call (vs := [.agg #[.int .u8 o1_R, .int .u8 o1_G, .int .u8 o1_B, .int .u8 o1_A], .agg #[.int .u8 t0_R, .int .u8 t0_G, .int .u8 t0_B, .int .u8 t0_A], .int .i64 (wr64 (65536 - (Int.tmod (wr64 ((Int.tmod A2 65537) + 65537)) 65537)))]) rfl rfl (by kernel_rfl) (paint_Mix.ok h117)) ?_
    refine t_a (.new rfl rfl) fun b118 fb118 sb118 => ?_
    refine t_sti 0 (cs := [.int .i64 t113, .int .i64 t114, .int .i64 t115, .int .i64 t116]) rfl rfl rfl rfl rfl rfl rfl rfl rfl ?_
    refine t_keep [2, 3, 4, 7, 8, 9] (σ' := [(2, .int .i64 (Int.tmod (wr64 ((Int.tmod A2 65537) + 65537)) 65537)), (3, .pointer (some ⟨b103, 0, none⟩)), (4, .pointer (some ⟨b104, 0, none⟩)), (7, .bool true), (8, .pointer (some ⟨b112, 0, none⟩)), (9, .pointer (some ⟨b118, 0, none⟩))]) (by kernel_rfl) ?_
    refine t_end ?_
    show W _ _ _ _ _ _ _
    refine w_seq ?_
    refine w_reg fun all => ?_
    refine t_v (.ldn rfl rfl rfl (.at 3 rfl rfl)) ?_
    refine t_v (.ldn rfl rfl rfl (.at 3 rfl rfl)) ?_
    obtain ⟨⟨t119, t120, t121, t122⟩, h123, e⟩ := bind_of e
    try dsimp only at e
    refine t_qz 1 [3, 4, 7, 8, 9, 32, 33, 34] (σ' := [(3, .pointer (some ⟨b103, 0, none⟩)), (4, .pointer (some ⟨b104, 0, none⟩)), (7, .bool true), (8, .pointer (some ⟨b112, 0, none⟩)), (9, .pointer (some ⟨b118, 0, none⟩)), (32, .agg #[.int .u8 t0_R, .int .u8 t0_G, .int .u8 t0_B, .int .u8 t0_A]), (33, .agg #[.int .u8 t0_R, .int .u8 t0_G, .int .u8 t0_B, .int .u8 t0_A]), (34, .int .i64 (Int.tmod (wr64 ((Int.tmod A2 65537) + 65537)) 65537))]) (by kernel_rfl) ?_
    refine t_v (.call (vs := [.agg #[.int .u8 t0_R, .int .u8 t0_G, .int .u8 t0_B, .int .u8 t0_A], .agg #[.int .u8 t0_R, .int .u8 t0_G, .int .u8 t0_B, .int .u8 t0_A], .int .i64 (Int.tmod (wr64 ((Int.tmod A2 65537) + 65537)) 65537)]) rfl rfl (by kernel_rfl) (paint_Mix.ok h123)) ?_
    refine t_a (.new rfl rfl) fun b124 fb124 sb124 => ?_
    refine t_sti 0 (cs := [.int .i64 t119, .int .i64 t120, .int .i64 t121, .int .i64 t122]) rfl rfl rfl rfl rfl rfl rfl rfl rfl ?_
    refine t_keep [3, 4, 7, 8, 9, 10] (σ' := [(3, .pointer (some ⟨b103, 0, none⟩)), (4, .pointer (some ⟨b104, 0, none⟩)), (7, .bool true), (8, .pointer (some ⟨b112, 0, none⟩)), (9, .pointer (some ⟨b118, 0, none⟩)), (10, .pointer (some ⟨b124, 0, none⟩))]) (by kernel_rfl) ?_
    refine t_end ?_
    show W _ _ _ _ _ _ _
    refine w_seq ?_
    refine w_reg fun all => ?_
    refine t_v (.ldn rfl rfl rfl (.at 4 rfl rfl)) ?_
    refine t_v (.ldn rfl rfl rfl (.at 3 rfl rfl)) ?_
    obtain ⟨⟨t125, t126, t127, t128⟩, h129, e⟩ := bind_of e
    try dsimp only at e
    refine t_v (.call (vs := [.agg #[.int .u8 t0_R, .int .u8 t0_G, .int .u8 t0_B, .int .u8 t0_A], .agg #[.int .u8 o1_R, .int .u8 o1_G, .int .u8 o1_B, .int .u8 o1_A], .int .i64 0]) rfl rfl (by kernel_rfl) (paint_Mix.ok h129)) ?_
    refine t_a (.new rfl rfl) fun b130 fb130 sb130 => ?_
    refine t_sti 0 (cs := [.int .i64 t125, .int .i64 t126, .int .i64 t127, .int .i64 t128]) rfl rfl rfl rfl rfl rfl rfl rfl rfl ?_
    refine t_keep [3, 4, 7, 8, 9, 10, 11] (σ' := [(3, .pointer (some ⟨b103, 0, none⟩)), (4, .pointer (some ⟨b104, 0, none⟩)), (7, .bool true), (8, .pointer (some ⟨b112, 0, none⟩)), (9, .pointer (some ⟨b118, 0, none⟩)), (10, .pointer (some ⟨b124, 0, none⟩)), (11, .pointer (some ⟨b130, 0, none⟩))]) (by kernel_rfl) ?_
    refine t_end ?_
    show W _ _ _ _ _ _ _
    refine w_seq ?_
    refine w_reg fun all => ?_
    refine t_v (.ldn rfl rfl rfl (.at 5 rfl rfl)) ?_
    refine t_v (.ldn rfl rfl rfl (.at 4 rfl rfl)) ?_
    obtain ⟨⟨t131, t132, t133, t134⟩, h135, e⟩ := bind_of e
    try dsimp only at e
    refine t_v (.call (vs := [.agg #[.int .u8 t0_R, .int .u8 t0_G, .int .u8 t0_B, .int .u8 t0_A], .agg #[.int .u8 o1_R, .int .u8 o1_G, .int .u8 o1_B, .int .u8 o1_A], .int .i64 65536]) rfl rfl (by kernel_rfl) (paint_Mix.ok h135)) ?_
    refine t_a (.new rfl rfl) fun b136 fb136 sb136 => ?_
    refine t_sti 0 (cs := [.int .i64 t131, .int .i64 t132, .int .i64 t133, .int .i64 t134]) rfl rfl rfl rfl rfl rfl rfl rfl rfl ?_
    refine t_keep [3, 4, 7, 8, 9, 10, 11, 12] (σ' := [(3, .pointer (some ⟨b103, 0, none⟩)), (4, .pointer (some ⟨b104, 0, none⟩)), (7, .bool true), (8, .pointer (some ⟨b112, 0, none⟩)), (9, .pointer (some ⟨b118, 0, none⟩)), (10, .pointer (some ⟨b124, 0, none⟩)), (11, .pointer (some ⟨b130, 0, none⟩)), (12, .pointer (some ⟨b136, 0, none⟩))]) (by kernel_rfl) ?_
    refine t_end ?_
    show W _ _ _ _ _ _ _
    refine w_seq ?_
    refine w_reg fun all => ?_
    refine t_qz 1 [3, 4, 7, 8, 9, 10, 11, 12, 42] (σ' := [(3, .pointer (some ⟨b103, 0, none⟩)), (4, .pointer (some ⟨b104, 0, none⟩)), (7, .bool true), (8, .pointer (some ⟨b112, 0, none⟩)), (9, .pointer (some ⟨b118, 0, none⟩)), (10, .pointer (some ⟨b124, 0, none⟩)), (11, .pointer (some ⟨b130, 0, none⟩)), (12, .pointer (some ⟨b136, 0, none⟩)), (42, .pointer (some ⟨b103, 0, none⟩))]) (by kernel_rfl) ?_
    refine t_v (.ld1 rfl rfl rfl (.at 6 rfl rfl)) ?_
    refine t_qz 2 [3, 4, 7, 8, 9, 10, 11, 12, 44, 45] (σ' := [(3, .pointer (some ⟨b103, 0, none⟩)), (4, .pointer (some ⟨b104, 0, none⟩)), (7, .bool true), (8, .pointer (some ⟨b112, 0, none⟩)), (9, .pointer (some ⟨b118, 0, none⟩)), (10, .pointer (some ⟨b124, 0, none⟩)), (11, .pointer (some ⟨b130, 0, none⟩)), (12, .pointer (some ⟨b136, 0, none⟩)), (44, .int .i64 (wr64 t0_R)), (45, .pointer (some ⟨b103, 1, none⟩))]) (by kernel_rfl) ?_
    refine t_v (.ld1 rfl rfl rfl (.at 6 rfl rfl)) ?_
    refine t_qz 2 [3, 4, 7, 8, 9, 10, 11, 12, 44, 47, 48] (σ' := [(3, .pointer (some ⟨b103, 0, none⟩)), (4, .pointer (some ⟨b104, 0, none⟩)), (7, .bool true), (8, .pointer (some ⟨b112, 0, none⟩)), (9, .pointer (some ⟨b118, 0, none⟩)), (10, .pointer (some ⟨b124, 0, none⟩)), (11, .pointer (some ⟨b130, 0, none⟩)), (12, .pointer (some ⟨b136, 0, none⟩)), (44, .int .i64 (wr64 t0_R)), (47, .int .i64 (wr64 t0_G)), (48, .pointer (some ⟨b103, 2, none⟩))]) (by kernel_rfl) ?_
    refine t_v (.ld1 rfl rfl rfl (.at 6 rfl rfl)) ?_
    refine t_qz 2 [4, 7, 8, 9, 10, 11, 12, 44, 47, 50, 51] (σ' := [(4, .pointer (some ⟨b104, 0, none⟩)), (7, .bool true), (8, .pointer (some ⟨b112, 0, none⟩)), (9, .pointer (some ⟨b118, 0, none⟩)), (10, .pointer (some ⟨b124, 0, none⟩)), (11, .pointer (some ⟨b130, 0, none⟩)), (12, .pointer (some ⟨b136, 0, none⟩)), (44, .int .i64 (wr64 t0_R)), (47, .int .i64 (wr64 t0_G)), (50, .int .i64 (wr64 t0_B)), (51, .pointer (some ⟨b103, 3, none⟩))]) (by kernel_rfl) ?_
    refine t_v (.ld1 rfl rfl rfl (.at 6 rfl rfl)) ?_
    refine t_qz 2 [4, 7, 8, 9, 10, 11, 12, 54] (σ' := [(4, .pointer (some ⟨b104, 0, none⟩)), (7, .bool true), (8, .pointer (some ⟨b112, 0, none⟩)), (9, .pointer (some ⟨b118, 0, none⟩)), (10, .pointer (some ⟨b124, 0, none⟩)), (11, .pointer (some ⟨b130, 0, none⟩)), (12, .pointer (some ⟨b136, 0, none⟩)), (54, .agg #[.int .i64 (wr64 t0_R), .int .i64 (wr64 t0_G), .int .i64 (wr64 t0_B), .int .i64 (wr64 t0_A)])]) (by kernel_rfl) ?_
    refine t_a (.new rfl rfl) fun b137 fb137 sb137 => ?_
    refine t_sti 0 (cs := [.int .i64 (wr64 t0_R), .int .i64 (wr64 t0_G), .int .i64 (wr64 t0_B), .int .i64 (wr64 t0_A)]) rfl rfl rfl rfl rfl rfl rfl rfl rfl ?_
    refine t_keep [4, 7, 8, 9, 10, 11, 12, 13] (σ' := [(4, .pointer (some ⟨b104, 0, none⟩)), (7, .bool true), (8, .pointer (some ⟨b112, 0, none⟩)), (9, .pointer (some ⟨b118, 0, none⟩)), (10, .pointer (some ⟨b124, 0, none⟩)), (11, .pointer (some ⟨b130, 0, none⟩)), (12, .pointer (some ⟨b136, 0, none⟩)), (13, .pointer (some ⟨b137, 0, none⟩))]) (by kernel_rfl) ?_
    refine t_end ?_
    show W _ _ _ _ _ _ _
    refine w_seq ?_
    refine w_reg fun all => ?_
    refine t_qz 1 [4, 7, 8, 9, 10, 11, 12, 13, 55] (σ' := [(4, .pointer (some ⟨b104, 0, none⟩)), (7, .bool true), (8, .pointer (some ⟨b112, 0, none⟩)), (9, .pointer (some ⟨b118, 0, none⟩)), (10, .pointer (some ⟨b124, 0, none⟩)), (11, .pointer (some ⟨b130, 0, none⟩)), (12, .pointer (some ⟨b136, 0, none⟩)), (13, .pointer (some ⟨b137, 0, none⟩)), (55, .pointer (some ⟨b104, 0, none⟩))]) (by kernel_rfl) ?_
    refine t_v (.ld1 rfl rfl rfl (.at 6 rfl rfl)) ?_
    refine t_qz 2 [4, 7, 8, 9, 10, 11, 12, 13, 57, 58] (σ' := [(4, .pointer (some ⟨b104, 0, none⟩)), (7, .bool true), (8, .pointer (some ⟨b112, 0, none⟩)), (9, .pointer (some ⟨b118, 0, none⟩)), (10, .pointer (some ⟨b124, 0, none⟩)), (11, .pointer (some ⟨b130, 0, none⟩)), (12, .pointer (some ⟨b136, 0, none⟩)), (13, .pointer (some ⟨b137, 0, none⟩)), (57, .int .i64 (wr64 o1_R)), (58, .pointer (some ⟨b104, 1, none⟩))]) (by kernel_rfl) ?_
    refine t_v (.ld1 rfl rfl rfl (.at 6 rfl rfl)) ?_
    refine t_qz 2 [4, 7, 8, 9, 10, 11, 12, 13, 57, 60, 61] (σ' := [(4, .pointer (some ⟨b104, 0, none⟩)), (7, .bool true), (8, .pointer (some ⟨b112, 0, none⟩)), (9, .pointer (some ⟨b118, 0, none⟩)), (10, .pointer (some ⟨b124, 0, none⟩)), (11, .pointer (some ⟨b130, 0, none⟩)), (12, .pointer (some ⟨b136, 0, none⟩)), (13, .pointer (some ⟨b137, 0, none⟩)), (57, .int .i64 (wr64 o1_R)), (60, .int .i64 (wr64 o1_G)), (61, .pointer (some ⟨b104, 2, none⟩))]) (by kernel_rfl) ?_
    refine t_v (.ld1 rfl rfl rfl (.at 6 rfl rfl)) ?_
    refine t_qz 2 [7, 8, 9, 10, 11, 12, 13, 57, 60, 63, 64] (σ' := [(7, .bool true), (8, .pointer (some ⟨b112, 0, none⟩)), (9, .pointer (some ⟨b118, 0, none⟩)), (10, .pointer (some ⟨b124, 0, none⟩)), (11, .pointer (some ⟨b130, 0, none⟩)), (12, .pointer (some ⟨b136, 0, none⟩)), (13, .pointer (some ⟨b137, 0, none⟩)), (57, .int .i64 (wr64 o1_R)), (60, .int .i64 (wr64 o1_G)), (63, .int .i64 (wr64 o1_B)), (64, .pointer (some ⟨b104, 3, none⟩))]) (by kernel_rfl) ?_
    refine t_v (.ld1 rfl rfl rfl (.at 6 rfl rfl)) ?_
    refine t_qz 2 [7, 8, 9, 10, 11, 12, 13, 67] (σ' := [(7, .bool true), (8, .pointer (some ⟨b112, 0, none⟩)), (9, .pointer (some ⟨b118, 0, none⟩)), (10, .pointer (some ⟨b124, 0, none⟩)), (11, .pointer (some ⟨b130, 0, none⟩)), (12, .pointer (some ⟨b136, 0, none⟩)), (13, .pointer (some ⟨b137, 0, none⟩)), (67, .agg #[.int .i64 (wr64 o1_R), .int .i64 (wr64 o1_G), .int .i64 (wr64 o1_B), .int .i64 (wr64 o1_A)])]) (by kernel_rfl) ?_
    refine t_a (.new rfl rfl) fun b138 fb138 sb138 => ?_
    refine t_sti 0 (cs := [.int .i64 (wr64 o1_R), .int .i64 (wr64 o1_G), .int .i64 (wr64 o1_B), .int .i64 (wr64 o1_A)]) rfl rfl rfl rfl rfl rfl rfl rfl rfl ?_
    refine t_keep [7, 8, 9, 10, 11, 12, 13, 14] (σ' := [(7, .bool true), (8, .pointer (some ⟨b112, 0, none⟩)), (9, .pointer (some ⟨b118, 0, none⟩)), (10, .pointer (some ⟨b124, 0, none⟩)), (11, .pointer (some ⟨b130, 0, none⟩)), (12, .pointer (some ⟨b136, 0, none⟩)), (13, .pointer (some ⟨b137, 0, none⟩)), (14, .pointer (some ⟨b138, 0, none⟩))]) (by kernel_rfl) ?_
    refine t_end ?_
    show W _ _ _ _ _ _ _
    refine w_seq ?_
    refine w_seq ?_
    refine w_reg fun all => ?_
    refine t_qz 1 [7, 8, 9, 10, 11, 12, 13, 14, 15] (σ' := [(7, .bool true), (8, .pointer (some ⟨b112, 0, none⟩)), (9, .pointer (some ⟨b118, 0, none⟩)), (10, .pointer (some ⟨b124, 0, none⟩)), (11, .pointer (some ⟨b130, 0, none⟩)), (12, .pointer (some ⟨b136, 0, none⟩)), (13, .pointer (some ⟨b137, 0, none⟩)), (14, .pointer (some ⟨b138, 0, none⟩)), (15, .int .i64 0)]) (by kernel_rfl) ?_
    refine t_end ?_
    show W _ _ _ _ _ _ _
    refine w_block ?_
    refine w_lun 5 ?_
    refine wl_step ?_
    refine w_seq ?_
    refine w_seq ?_
    refine w_reg fun all => ?_
    refine t_qz 2 [7, 8, 9, 10, 11, 12, 13, 14, 15, 69] (σ' := [(7, .bool true), (8, .pointer (some ⟨b112, 0, none⟩)), (9, .pointer (some ⟨b118, 0, none⟩)), (10, .pointer (some ⟨b124, 0, none⟩)), (11, .pointer (some ⟨b130, 0, none⟩)), (12, .pointer (some ⟨b136, 0, none⟩)), (13, .pointer (some ⟨b137, 0, none⟩)), (14, .pointer (some ⟨b138, 0, none⟩)), (15, .int .i64 0), (69, .bool true)]) (by kernel_rfl) ?_
    refine t_end ?_
    show W _ _ _ _ _ _ _
    refine w_cond rfl (fun _ => ?_) (fun c_ => by cases c_)
    show W _ _ _ _ _ _ _
    refine w_skip ?_
    show W _ _ _ _ _ _ _
    refine w_seq ?_
    refine w_block ?_
    refine w_seq ?_
    by_cases c139 : t107 < (wr64 (257 * (mn (wr64 t0_R) (wr64 o1_R))))
    · rw [if_pos c139] at e
      exact absurd (Option.some.inj e) (by decide)
    · rw [if_neg c139] at e
      have c139b : (decide (t107 < (wr64 (257 * (mn (wr64 t0_R) (wr64 o1_R)))))) = false := decide_eq_false c139
      by_cases c140 : t107 > (wr64 (257 * (mx (wr64 t0_R) (wr64 o1_R))))
      · rw [if_pos c140] at e
        exact absurd (Option.some.inj e) (by decide)
      · rw [if_neg c140] at e
        have c140b : (decide (t107 > (wr64 (257 * (mx (wr64 t0_R) (wr64 o1_R)))))) = false := decide_eq_false c140
        by_cases c141 : t107 = t113
        · rw [if_pos c141] at e
          have c141b : (t107 == t113) = true := beq_iff_eq.mpr c141
          by_cases c142 : t119 = (wr64 (257 * (wr64 t0_R)))
          · rw [if_pos c142] at e
            have c142b : (t119 == (wr64 (257 * (wr64 t0_R)))) = true := beq_iff_eq.mpr c142
            by_cases c143 : t125 = (wr64 (257 * (wr64 t0_R)))
            · rw [if_pos c143] at e
              have c143b : (t125 == (wr64 (257 * (wr64 t0_R)))) = true := beq_iff_eq.mpr c143
              by_cases c144 : t131 = (wr64 (257 * (wr64 o1_R)))
              · rw [if_pos c144] at e
                have c144b : (t131 == (wr64 (257 * (wr64 o1_R)))) = true := beq_iff_eq.mpr c144
                refine w_drwE mixed 65 [.v (.int .i64 0), .v (.pointer (some ⟨b112, 0, none⟩)), .v (.int .i64 t107), .v (.int .i64 0), .v (.pointer (some ⟨b137, 0, none⟩)), .v (.int .i64 (wr64 t0_R)), .v (.int .i64 0), .v (.pointer (some ⟨b138, 0, none⟩)), .v (.int .i64 (wr64 o1_R)), .v (.int .i64 (mn (wr64 t0_R) (wr64 o1_R))), .v (.int .i64 (wr64 (257 * (mn (wr64 t0_R) (wr64 o1_R))))), .v (.bool false), .v (.bool false), .v (.int .i64 0), .v (.pointer (some ⟨b112, 0, none⟩)), .v (.int .i64 t107), .v (.int .i64 0), .v (.pointer (some ⟨b137, 0, none⟩)), .v (.int .i64 (wr64 t0_R)), .v (.int .i64 0), .v (.pointer (some ⟨b138, 0, none⟩)), .v (.int .i64 (wr64 o1_R)), .v (.int .i64 (mx (wr64 t0_R) (wr64 o1_R))), .v (.int .i64 (wr64 (257 * (mx (wr64 t0_R) (wr64 o1_R))))), .v (.bool false), .v (.bool false), .v (.bool false), .v (.int .i64 0), .v (.pointer (some ⟨b112, 0, none⟩)), .v (.int .i64 t107), .v (.int .i64 0), .v (.pointer (some ⟨b118, 0, none⟩)), .v (.int .i64 t113), .v (.bool false), .v (.bool false), .v (.bool false), .v (.int .i64 0), .v (.pointer (some ⟨b124, 0, none⟩)), .v (.int .i64 t119), .v (.int .i64 0), .v (.pointer (some ⟨b137, 0, none⟩)), .v (.int .i64 (wr64 t0_R)), .v (.int .i64 (wr64 (257 * (wr64 t0_R)))), .v (.bool false), .v (.bool false), .v (.bool false), .v (.int .i64 0), .v (.pointer (some ⟨b130, 0, none⟩)), .v (.int .i64 t125), .v (.int .i64 0), .v (.pointer (some ⟨b137, 0, none⟩)), .v (.int .i64 (wr64 t0_R)), .v (.int .i64 (wr64 (257 * (wr64 t0_R)))), .v (.bool false), .v (.bool false), .v (.bool false), .v (.int .i64 0), .v (.pointer (some ⟨b136, 0, none⟩)), .v (.int .i64 t131), .v (.int .i64 0), .v (.pointer (some ⟨b138, 0, none⟩)), .v (.int .i64 (wr64 o1_R)), .v (.int .i64 (wr64 (257 * (wr64 o1_R)))), .v (.bool false), .v (.bool false)] (by kernel_rfl) ?_ ?_
                · refine DI.sq 2 (by kernel_rfl) rfl ?_
                  refine .cons (.ld1 rfl rfl rfl (.at 6 rfl rfl)) ?_
                  refine DI.sq 2 (by kernel_rfl) rfl ?_
                  refine .cons (.ld1 rfl rfl rfl (.at 1 rfl rfl)) ?_
                  refine DI.sq 2 (by kernel_rfl) rfl ?_
                  refine .cons (.ld1 rfl rfl rfl (.at 0 rfl rfl)) ?_
                  refine DI.sq 2 (by kernel_rfl) rfl ?_
                  refine .cons (dv_quiet rfl (congrArg (fun t => some (Value.bool t)) c139b)) ?_
                  refine DI.sq 3 (by kernel_rfl) rfl ?_
                  refine .cons (.ld1 rfl rfl rfl (.at 6 rfl rfl)) ?_
                  refine DI.sq 2 (by kernel_rfl) rfl ?_
                  refine .cons (.ld1 rfl rfl rfl (.at 1 rfl rfl)) ?_
                  refine DI.sq 2 (by kernel_rfl) rfl ?_
                  refine .cons (.ld1 rfl rfl rfl (.at 0 rfl rfl)) ?_
                  refine DI.sq 2 (by kernel_rfl) rfl ?_
                  refine .cons (dv_quiet rfl (congrArg (fun t => some (Value.bool t)) c140b)) ?_
                  refine DI.sq 4 (by kernel_rfl) rfl ?_
                  refine .cons (.ld1 rfl rfl rfl (.at 6 rfl rfl)) ?_
                  refine DI.sq 2 (by kernel_rfl) rfl ?_
                  refine .cons (.ld1 rfl rfl rfl (.at 5 rfl rfl)) ?_
                  refine .cons (dv_quiet rfl (congrArg (fun t => some (Value.bool (!t))) c141b)) ?_
                  refine DI.sq 4 (by kernel_rfl) rfl ?_
                  refine .cons (.ld1 rfl rfl rfl (.at 4 rfl rfl)) ?_
                  refine DI.sq 2 (by kernel_rfl) rfl ?_
                  refine .cons (.ld1 rfl rfl rfl (.at 1 rfl rfl)) ?_
                  refine DI.sq 1 (by kernel_rfl) rfl ?_
                  refine .cons (dv_quiet rfl (congrArg (fun t => some (Value.bool (!t))) c142b)) ?_
                  refine DI.sq 4 (by kernel_rfl) rfl ?_
                  refine .cons (.ld1 rfl rfl rfl (.at 3 rfl rfl)) ?_
                  refine DI.sq 2 (by kernel_rfl) rfl ?_
                  refine .cons (.ld1 rfl rfl rfl (.at 1 rfl rfl)) ?_
                  refine DI.sq 1 (by kernel_rfl) rfl ?_
                  refine .cons (dv_quiet rfl (congrArg (fun t => some (Value.bool (!t))) c143b)) ?_
                  refine DI.sq 4 (by kernel_rfl) rfl ?_
                  refine .cons (.ld1 rfl rfl rfl (.at 2 rfl rfl)) ?_
                  refine DI.sq 2 (by kernel_rfl) rfl ?_
                  refine .cons (.ld1 rfl rfl rfl (.at 0 rfl rfl)) ?_
                  refine DI.sq 1 (by kernel_rfl) rfl ?_
                  refine .cons (dv_quiet rfl (congrArg (fun t => some (Value.bool (!t))) c144b)) ?_
                  refine DI.sq 1 (by kernel_rfl) rfl ?_
                  exact .nil
                refine fk_q 65 [7, 8, 9, 10, 11, 12, 13, 14, 15, 85, 86, 87, 88, 89, 90, 91, 92, 93, 94, 95, 96, 99, 100, 101, 102, 103, 104, 105, 108, 109, 110, 111, 112, 113, 114, 115, 118, 119, 120, 121, 122, 123, 124, 125, 128, 129, 130, 131, 132, 133, 134, 135, 136] (σ' := [(7, .bool true), (8, .pointer (some ⟨b112, 0, none⟩)), (9, .pointer (some ⟨b118, 0, none⟩)), (10, .pointer (some ⟨b124, 0, none⟩)), (11, .pointer (some ⟨b130, 0, none⟩)), (12, .pointer (some ⟨b136, 0, none⟩)), (13, .pointer (some ⟨b137, 0, none⟩)), (14, .pointer (some ⟨b138, 0, none⟩)), (15, .int .i64 0), (85, .int .i64 0), (86, .pointer (some ⟨b112, 0, none⟩)), (87, .int .i64 t107), (88, .int .i64 0), (89, .pointer (some ⟨b137, 0, none⟩)), (90, .int .i64 (wr64 t0_R)), (91, .int .i64 0), (92, .pointer (some ⟨b138, 0, none⟩)), (93, .int .i64 (wr64 o1_R)), (94, .int .i64 (mx (wr64 t0_R) (wr64 o1_R))), (95, .int .i64 (wr64 (257 * (mx (wr64 t0_R) (wr64 o1_R))))), (96, .bool false), (99, .int .i64 0), (100, .pointer (some ⟨b112, 0, none⟩)), (101, .int .i64 t107), (102, .int .i64 0), (103, .pointer (some ⟨b118, 0, none⟩)), (104, .int .i64 t113), (105, .bool false), (108, .int .i64 0), (109, .pointer (some ⟨b124, 0, none⟩)), (110, .int .i64 t119), (111, .int .i64 0), (112, .pointer (some ⟨b137, 0, none⟩)), (113, .int .i64 (wr64 t0_R)), (114, .int .i64 (wr64 (257 * (wr64 t0_R)))), (115, .bool false), (118, .int .i64 0), (119, .pointer (some ⟨b130, 0, none⟩)), (120, .int .i64 t125), (121, .int .i64 0), (122, .pointer (some ⟨b137, 0, none⟩)), (123, .int .i64 (wr64 t0_R)), (124, .int .i64 (wr64 (257 * (wr64 t0_R)))), (125, .bool false), (128, .int .i64 0), (129, .pointer (some ⟨b136, 0, none⟩)), (130, .int .i64 t131), (131, .int .i64 0), (132, .pointer (some ⟨b138, 0, none⟩)), (133, .int .i64 (wr64 o1_R)), (134, .int .i64 (wr64 (257 * (wr64 o1_R)))), (135, .bool false), (136, .bool false)]) t_more (by kernel_rfl) ?_
                refine fk_nil fun all => ?_
                refine t_keep [7, 8, 9, 10, 11, 12, 13, 14, 15, 85, 86, 87, 88, 89, 90, 91, 92, 93, 94, 95, 96, 99, 100, 101, 102, 103, 104, 105, 108, 109, 110, 111, 112, 113, 114, 115, 118, 119, 120, 121, 122, 123, 124, 125, 128, 129, 130, 131, 132, 133, 134, 135, 136] (σ' := [(7, .bool true), (8, .pointer (some ⟨b112, 0, none⟩)), (9, .pointer (some ⟨b118, 0, none⟩)), (10, .pointer (some ⟨b124, 0, none⟩)), (11, .pointer (some ⟨b130, 0, none⟩)), (12, .pointer (some ⟨b136, 0, none⟩)), (13, .pointer (some ⟨b137, 0, none⟩)), (14, .pointer (some ⟨b138, 0, none⟩)), (15, .int .i64 0), (85, .int .i64 0), (86, .pointer (some ⟨b112, 0, none⟩)), (87, .int .i64 t107), (88, .int .i64 0), (89, .pointer (some ⟨b137, 0, none⟩)), (90, .int .i64 (wr64 t0_R)), (91, .int .i64 0), (92, .pointer (some ⟨b138, 0, none⟩)), (93, .int .i64 (wr64 o1_R)), (94, .int .i64 (mx (wr64 t0_R) (wr64 o1_R))), (95, .int .i64 (wr64 (257 * (mx (wr64 t0_R) (wr64 o1_R))))), (96, .bool false), (99, .int .i64 0), (100, .pointer (some ⟨b112, 0, none⟩)), (101, .int .i64 t107), (102, .int .i64 0), (103, .pointer (some ⟨b118, 0, none⟩)), (104, .int .i64 t113), (105, .bool false), (108, .int .i64 0), (109, .pointer (some ⟨b124, 0, none⟩)), (110, .int .i64 t119), (111, .int .i64 0), (112, .pointer (some ⟨b137, 0, none⟩)), (113, .int .i64 (wr64 t0_R)), (114, .int .i64 (wr64 (257 * (wr64 t0_R)))), (115, .bool false), (118, .int .i64 0), (119, .pointer (some ⟨b130, 0, none⟩)), (120, .int .i64 t125), (121, .int .i64 0), (122, .pointer (some ⟨b137, 0, none⟩)), (123, .int .i64 (wr64 t0_R)), (124, .int .i64 (wr64 (257 * (wr64 t0_R)))), (125, .bool false), (128, .int .i64 0), (129, .pointer (some ⟨b136, 0, none⟩)), (130, .int .i64 t131), (131, .int .i64 0), (132, .pointer (some ⟨b138, 0, none⟩)), (133, .int .i64 (wr64 o1_R)), (134, .int .i64 (wr64 (257 * (wr64 o1_R)))), (135, .bool false), (136, .bool false)]) (by kernel_rfl) ?_
                refine t_end ?_
                show W _ _ _ _ _ _ _
                refine w_cond rfl (fun c_ => by cases c_) (fun _ => ?_)
                show W _ _ _ _ _ _ _
                refine w_skip ?_
                show W _ _ _ _ _ _ _
                refine w_reg fun all => ?_
                refine t_qz 3 [7, 8, 9, 10, 11, 12, 13, 14, 15, 85, 86, 87, 88, 89, 90, 91, 92, 93, 94, 95, 96, 99, 100, 101, 102, 103, 104, 105, 108, 109, 110, 111, 112, 113, 114, 115, 118, 119, 120, 121, 122, 123, 124, 125, 128, 129, 130, 131, 132, 133, 134, 135] (σ' := [(7, .bool true), (8, .pointer (some ⟨b112, 0, none⟩)), (9, .pointer (some ⟨b118, 0, none⟩)), (10, .pointer (some ⟨b124, 0, none⟩)), (11, .pointer (some ⟨b130, 0, none⟩)), (12, .pointer (some ⟨b136, 0, none⟩)), (13, .pointer (some ⟨b137, 0, none⟩)), (14, .pointer (some ⟨b138, 0, none⟩)), (15, .int .i64 1), (85, .int .i64 0), (86, .pointer (some ⟨b112, 0, none⟩)), (87, .int .i64 t107), (88, .int .i64 0), (89, .pointer (some ⟨b137, 0, none⟩)), (90, .int .i64 (wr64 t0_R)), (91, .int .i64 0), (92, .pointer (some ⟨b138, 0, none⟩)), (93, .int .i64 (wr64 o1_R)), (94, .int .i64 (mx (wr64 t0_R) (wr64 o1_R))), (95, .int .i64 (wr64 (257 * (mx (wr64 t0_R) (wr64 o1_R))))), (96, .bool false), (99, .int .i64 0), (100, .pointer (some ⟨b112, 0, none⟩)), (101, .int .i64 t107), (102, .int .i64 0), (103, .pointer (some ⟨b118, 0, none⟩)), (104, .int .i64 t113), (105, .bool false), (108, .int .i64 0), (109, .pointer (some ⟨b124, 0, none⟩)), (110, .int .i64 t119), (111, .int .i64 0), (112, .pointer (some ⟨b137, 0, none⟩)), (113, .int .i64 (wr64 t0_R)), (114, .int .i64 (wr64 (257 * (wr64 t0_R)))), (115, .bool false), (118, .int .i64 0), (119, .pointer (some ⟨b130, 0, none⟩)), (120, .int .i64 t125), (121, .int .i64 0), (122, .pointer (some ⟨b137, 0, none⟩)), (123, .int .i64 (wr64 t0_R)), (124, .int .i64 (wr64 (257 * (wr64 t0_R)))), (125, .bool false), (128, .int .i64 0), (129, .pointer (some ⟨b136, 0, none⟩)), (130, .int .i64 t131), (131, .int .i64 0), (132, .pointer (some ⟨b138, 0, none⟩)), (133, .int .i64 (wr64 o1_R)), (134, .int .i64 (wr64 (257 * (wr64 o1_R)))), (135, .bool false)]) (by kernel_rfl) ?_
                refine t_end ?_
                show WL _ _ _ _ _ _ _ _
                refine wl_step ?_
                refine w_seq ?_
                refine w_seq ?_
                refine w_reg fun all => ?_
                refine t_qz 2 [7, 8, 9, 10, 11, 12, 13, 14, 15, 69, 85, 86, 87, 88, 89, 90, 91, 92, 93, 94, 95, 96, 99, 100, 101, 102, 103, 104, 105, 108, 109, 110, 111, 112, 113, 114, 115, 118, 119, 120, 121, 122, 123, 124, 125, 128, 129, 130, 131, 132, 133, 134, 135] (σ' := [(7, .bool true), (8, .pointer (some ⟨b112, 0, none⟩)), (9, .pointer (some ⟨b118, 0, none⟩)), (10, .pointer (some ⟨b124, 0, none⟩)), (11, .pointer (some ⟨b130, 0, none⟩)), (12, .pointer (some ⟨b136, 0, none⟩)), (13, .pointer (some ⟨b137, 0, none⟩)), (14, .pointer (some ⟨b138, 0, none⟩)), (15, .int .i64 1), (69, .bool true), (85, .int .i64 0), (86, .pointer (some ⟨b112, 0, none⟩)), (87, .int .i64 t107), (88, .int .i64 0), (89, .pointer (some ⟨b137, 0, none⟩)), (90, .int .i64 (wr64 t0_R)), (91, .int .i64 0), (92, .pointer (some ⟨b138, 0, none⟩)), (93, .int .i64 (wr64 o1_R)), (94, .int .i64 (mx (wr64 t0_R) (wr64 o1_R))), (95, .int .i64 (wr64 (257 * (mx (wr64 t0_R) (wr64 o1_R))))), (96, .bool false), (99, .int .i64 0), (100, .pointer (some ⟨b112, 0, none⟩)), (101, .int .i64 t107), (102, .int .i64 0), (103, .pointer (some ⟨b118, 0, none⟩)), (104, .int .i64 t113), (105, .bool false), (108, .int .i64 0), (109, .pointer (some ⟨b124, 0, none⟩)), (110, .int .i64 t119), (111, .int .i64 0), (112, .pointer (some ⟨b137, 0, none⟩)), (113, .int .i64 (wr64 t0_R)), (114, .int .i64 (wr64 (257 * (wr64 t0_R)))), (115, .bool false), (118, .int .i64 0), (119, .pointer (some ⟨b130, 0, none⟩)), (120, .int .i64 t125), (121, .int .i64 0), (122, .pointer (some ⟨b137, 0, none⟩)), (123, .int .i64 (wr64 t0_R)), (124, .int .i64 (wr64 (257 * (wr64 t0_R)))), (125, .bool false), (128, .int .i64 0), (129, .pointer (some ⟨b136, 0, none⟩)), (130, .int .i64 t131), (131, .int .i64 0), (132, .pointer (some ⟨b138, 0, none⟩)), (133, .int .i64 (wr64 o1_R)), (134, .int .i64 (wr64 (257 * (wr64 o1_R)))), (135, .bool false)]) (by kernel_rfl) ?_
                refine t_end ?_
                show W _ _ _ _ _ _ _
                refine w_cond rfl (fun _ => ?_) (fun c_ => by cases c_)
                show W _ _ _ _ _ _ _
                refine w_skip ?_
                show W _ _ _ _ _ _ _
                refine w_seq ?_
                refine w_block ?_
                refine w_seq ?_
                by_cases c145 : t108 < (wr64 (257 * (mn (wr64 t0_G) (wr64 o1_G))))
                · rw [if_pos c145] at e
                  exact absurd (Option.some.inj e) (by decide)
                · rw [if_neg c145] at e
                  have c145b : (decide (t108 < (wr64 (257 * (mn (wr64 t0_G) (wr64 o1_G)))))) = false := decide_eq_false c145
                  by_cases c146 : t108 > (wr64 (257 * (mx (wr64 t0_G) (wr64 o1_G))))
                  · rw [if_pos c146] at e
                    exact absurd (Option.some.inj e) (by decide)
                  · rw [if_neg c146] at e
                    have c146b : (decide (t108 > (wr64 (257 * (mx (wr64 t0_G) (wr64 o1_G)))))) = false := decide_eq_false c146
                    by_cases c147 : t108 = t114
                    · rw [if_pos c147] at e
                      have c147b : (t108 == t114) = true := beq_iff_eq.mpr c147
                      by_cases c148 : t120 = (wr64 (257 * (wr64 t0_G)))
                      · rw [if_pos c148] at e
                        have c148b : (t120 == (wr64 (257 * (wr64 t0_G)))) = true := beq_iff_eq.mpr c148
                        by_cases c149 : t126 = (wr64 (257 * (wr64 t0_G)))
                        · rw [if_pos c149] at e
                          have c149b : (t126 == (wr64 (257 * (wr64 t0_G)))) = true := beq_iff_eq.mpr c149
                          by_cases c150 : t132 = (wr64 (257 * (wr64 o1_G)))
                          · rw [if_pos c150] at e
                            have c150b : (t132 == (wr64 (257 * (wr64 o1_G)))) = true := beq_iff_eq.mpr c150
                            refine w_drwE mixed 65 [.v (.int .i64 1), .v (.pointer (some ⟨b112, 1, none⟩)), .v (.int .i64 t108), .v (.int .i64 1), .v (.pointer (some ⟨b137, 1, none⟩)), .v (.int .i64 (wr64 t0_G)), .v (.int .i64 1), .v (.pointer (some ⟨b138, 1, none⟩)), .v (.int .i64 (wr64 o1_G)), .v (.int .i64 (mn (wr64 t0_G) (wr64 o1_G))), .v (.int .i64 (wr64 (257 * (mn (wr64 t0_G) (wr64 o1_G))))), .v (.bool false), .v (.bool false), .v (.int .i64 1), .v (.pointer (some ⟨b112, 1, none⟩)), .v (.int .i64 t108), .v (.int .i64 1), .v (.pointer (some ⟨b137, 1, none⟩)), .v (.int .i64 (wr64 t0_G)), .v (.int .i64 1), .v (.pointer (some ⟨b138, 1, none⟩)), .v (.int .i64 (wr64 o1_G)), .v (.int .i64 (mx (wr64 t0_G) (wr64 o1_G))), .v (.int .i64 (wr64 (257 * (mx (wr64 t0_G) (wr64 o1_G))))), .v (.bool false), .v (.bool false), .v (.bool false), .v (.int .i64 1), .v (.pointer (some ⟨b112, 1, none⟩)), .v (.int .i64 t108), .v (.int .i64 1), .v (.pointer (some ⟨b118, 1, none⟩)), .v (.int .i64 t114), .v (.bool false), .v (.bool false), .v (.bool false), .v (.int .i64 1), .v (.pointer (some ⟨b124, 1, none⟩)), .v (.int .i64 t120), .v (.int .i64 1), .v (.pointer (some ⟨b137, 1, none⟩)), .v (.int .i64 (wr64 t0_G)), .v (.int .i64 (wr64 (257 * (wr64 t0_G)))), .v (.bool false), .v (.bool false), .v (.bool false), .v (.int .i64 1), .v (.pointer (some ⟨b130, 1, none⟩)), .v (.int .i64 t126), .v (.int .i64 1), .v (.pointer (some ⟨b137, 1, none⟩)), .v (.int .i64 (wr64 t0_G)), .v (.int .i64 (wr64 (257 * (wr64 t0_G)))), .v (.bool false), .v (.bool false), .v (.bool false), .v (.int .i64 1), .v (.pointer (some ⟨b136, 1, none⟩)), .v (.int .i64 t132), .v (.int .i64 1), .v (.pointer (some ⟨b138, 1, none⟩)), .v (.int .i64 (wr64 o1_G)), .v (.int .i64 (wr64 (257 * (wr64 o1_G)))), .v (.bool false), .v (.bool false)] (by kernel_rfl) ?_ ?_
                            · refine DI.sq 2 (by kernel_rfl) rfl ?_
                              refine .cons (.ld1 rfl rfl rfl (.at 6 rfl rfl)) ?_
                              refine DI.sq 2 (by kernel_rfl) rfl ?_
                              refine .cons (.ld1 rfl rfl rfl (.at 1 rfl rfl)) ?_
                              refine DI.sq 2 (by kernel_rfl) rfl ?_
                              refine .cons (.ld1 rfl rfl rfl (.at 0 rfl rfl)) ?_
                              refine DI.sq 2 (by kernel_rfl) rfl ?_
                              refine .cons (dv_quiet rfl (congrArg (fun t => some (Value.bool t)) c145b)) ?_
                              refine DI.sq 3 (by kernel_rfl) rfl ?_
                              refine .cons (.ld1 rfl rfl rfl (.at 6 rfl rfl)) ?_
                              refine DI.sq 2 (by kernel_rfl) rfl ?_
                              refine .cons (.ld1 rfl rfl rfl (.at 1 rfl rfl)) ?_
                              refine DI.sq 2 (by kernel_rfl) rfl ?_
                              refine .cons (.ld1 rfl rfl rfl (.at 0 rfl rfl)) ?_
                              refine DI.sq 2 (by kernel_rfl) rfl ?_
                              refine .cons (dv_quiet rfl (congrArg (fun t => some (Value.bool t)) c146b)) ?_
                              refine DI.sq 4 (by kernel_rfl) rfl ?_
                              refine .cons (.ld1 rfl rfl rfl (.at 6 rfl rfl)) ?_
                              refine DI.sq 2 (by kernel_rfl) rfl ?_
                              refine .cons (.ld1 rfl rfl rfl (.at 5 rfl rfl)) ?_
                              refine .cons (dv_quiet rfl (congrArg (fun t => some (Value.bool (!t))) c147b)) ?_
                              refine DI.sq 4 (by kernel_rfl) rfl ?_
                              refine .cons (.ld1 rfl rfl rfl (.at 4 rfl rfl)) ?_
                              refine DI.sq 2 (by kernel_rfl) rfl ?_
                              refine .cons (.ld1 rfl rfl rfl (.at 1 rfl rfl)) ?_
                              refine DI.sq 1 (by kernel_rfl) rfl ?_
                              refine .cons (dv_quiet rfl (congrArg (fun t => some (Value.bool (!t))) c148b)) ?_
                              refine DI.sq 4 (by kernel_rfl) rfl ?_
                              refine .cons (.ld1 rfl rfl rfl (.at 3 rfl rfl)) ?_
                              refine DI.sq 2 (by kernel_rfl) rfl ?_
                              refine .cons (.ld1 rfl rfl rfl (.at 1 rfl rfl)) ?_
                              refine DI.sq 1 (by kernel_rfl) rfl ?_
                              refine .cons (dv_quiet rfl (congrArg (fun t => some (Value.bool (!t))) c149b)) ?_
                              refine DI.sq 4 (by kernel_rfl) rfl ?_
                              refine .cons (.ld1 rfl rfl rfl (.at 2 rfl rfl)) ?_
                              refine DI.sq 2 (by kernel_rfl) rfl ?_
                              refine .cons (.ld1 rfl rfl rfl (.at 0 rfl rfl)) ?_
                              refine DI.sq 1 (by kernel_rfl) rfl ?_
                              refine .cons (dv_quiet rfl (congrArg (fun t => some (Value.bool (!t))) c150b)) ?_
                              refine DI.sq 1 (by kernel_rfl) rfl ?_
                              exact .nil
                            refine fk_q 65 [7, 8, 9, 10, 11, 12, 13, 14, 15, 85, 86, 87, 88, 89, 90, 91, 92, 93, 94, 95, 96, 99, 100, 101, 102, 103, 104, 105, 108, 109, 110, 111, 112, 113, 114, 115, 118, 119, 120, 121, 122, 123, 124, 125, 128, 129, 130, 131, 132, 133, 134, 135, 136] (σ' := [(7, .bool true), (8, .pointer (some ⟨b112, 0, none⟩)), (9, .pointer (some ⟨b118, 0, none⟩)), (10, .pointer (some ⟨b124, 0, none⟩)), (11, .pointer (some ⟨b130, 0, none⟩)), (12, .pointer (some ⟨b136, 0, none⟩)), (13, .pointer (some ⟨b137, 0, none⟩)), (14, .pointer (some ⟨b138, 0, none⟩)), (15, .int .i64 1), (85, .int .i64 1), (86, .pointer (some ⟨b112, 1, none⟩)), (87, .int .i64 t108), (88, .int .i64 1), (89, .pointer (some ⟨b137, 1, none⟩)), (90, .int .i64 (wr64 t0_G)), (91, .int .i64 1), (92, .pointer (some ⟨b138, 1, none⟩)), (93, .int .i64 (wr64 o1_G)), (94, .int .i64 (mx (wr64 t0_G) (wr64 o1_G))), (95, .int .i64 (wr64 (257 * (mx (wr64 t0_G) (wr64 o1_G))))), (96, .bool false), (99, .int .i64 1), (100, .pointer (some ⟨b112, 1, none⟩)), (101, .int .i64 t108), (102, .int .i64 1), (103, .pointer (some ⟨b118, 1, none⟩)), (104, .int .i64 t114), (105, .bool false), (108, .int .i64 1), (109, .pointer (some ⟨b124, 1, none⟩)), (110, .int .i64 t120), (111, .int .i64 1), (112, .pointer (some ⟨b137, 1, none⟩)), (113, .int .i64 (wr64 t0_G)), (114, .int .i64 (wr64 (257 * (wr64 t0_G)))), (115, .bool false), (118, .int .i64 1), (119, .pointer (some ⟨b130, 1, none⟩)), (120, .int .i64 t126), (121, .int .i64 1), (122, .pointer (some ⟨b137, 1, none⟩)), (123, .int .i64 (wr64 t0_G)), (124, .int .i64 (wr64 (257 * (wr64 t0_G)))), (125, .bool false), (128, .int .i64 1), (129, .pointer (some ⟨b136, 1, none⟩)), (130, .int .i64 t132), (131, .int .i64 1), (132, .pointer (some ⟨b138, 1, none⟩)), (133, .int .i64 (wr64 o1_G)), (134, .int .i64 (wr64 (257 * (wr64 o1_G)))), (135, .bool false), (136, .bool false)]) t_more (by kernel_rfl) ?_
                            refine fk_nil fun all => ?_
                            refine t_keep [7, 8, 9, 10, 11, 12, 13, 14, 15, 85, 86, 87, 88, 89, 90, 91, 92, 93, 94, 95, 96, 99, 100, 101, 102, 103, 104, 105, 108, 109, 110, 111, 112, 113, 114, 115, 118, 119, 120, 121, 122, 123, 124, 125, 128, 129, 130, 131, 132, 133, 134, 135, 136] (σ' := [(7, .bool true), (8, .pointer (some ⟨b112, 0, none⟩)), (9, .pointer (some ⟨b118, 0, none⟩)), (10, .pointer (some ⟨b124, 0, none⟩)), (11, .pointer (some ⟨b130, 0, none⟩)), (12, .pointer (some ⟨b136, 0, none⟩)), (13, .pointer (some ⟨b137, 0, none⟩)), (14, .pointer (some ⟨b138, 0, none⟩)), (15, .int .i64 1), (85, .int .i64 1), (86, .pointer (some ⟨b112, 1, none⟩)), (87, .int .i64 t108), (88, .int .i64 1), (89, .pointer (some ⟨b137, 1, none⟩)), (90, .int .i64 (wr64 t0_G)), (91, .int .i64 1), (92, .pointer (some ⟨b138, 1, none⟩)), (93, .int .i64 (wr64 o1_G)), (94, .int .i64 (mx (wr64 t0_G) (wr64 o1_G))), (95, .int .i64 (wr64 (257 * (mx (wr64 t0_G) (wr64 o1_G))))), (96, .bool false), (99, .int .i64 1), (100, .pointer (some ⟨b112, 1, none⟩)), (101, .int .i64 t108), (102, .int .i64 1), (103, .pointer (some ⟨b118, 1, none⟩)), (104, .int .i64 t114), (105, .bool false), (108, .int .i64 1), (109, .pointer (some ⟨b124, 1, none⟩)), (110, .int .i64 t120), (111, .int .i64 1), (112, .pointer (some ⟨b137, 1, none⟩)), (113, .int .i64 (wr64 t0_G)), (114, .int .i64 (wr64 (257 * (wr64 t0_G)))), (115, .bool false), (118, .int .i64 1), (119, .pointer (some ⟨b130, 1, none⟩)), (120, .int .i64 t126), (121, .int .i64 1), (122, .pointer (some ⟨b137, 1, none⟩)), (123, .int .i64 (wr64 t0_G)), (124, .int .i64 (wr64 (257 * (wr64 t0_G)))), (125, .bool false), (128, .int .i64 1), (129, .pointer (some ⟨b136, 1, none⟩)), (130, .int .i64 t132), (131, .int .i64 1), (132, .pointer (some ⟨b138, 1, none⟩)), (133, .int .i64 (wr64 o1_G)), (134, .int .i64 (wr64 (257 * (wr64 o1_G)))), (135, .bool false), (136, .bool false)]) (by kernel_rfl) ?_
                            refine t_end ?_
                            show W _ _ _ _ _ _ _
                            refine w_cond rfl (fun c_ => by cases c_) (fun _ => ?_)
                            show W _ _ _ _ _ _ _
                            refine w_skip ?_
                            show W _ _ _ _ _ _ _
                            refine w_reg fun all => ?_
                            refine t_qz 3 [7, 8, 9, 10, 11, 12, 13, 14, 15, 85, 86, 87, 88, 89, 90, 91, 92, 93, 94, 95, 96, 99, 100, 101, 102, 103, 104, 105, 108, 109, 110, 111, 112, 113, 114, 115, 118, 119, 120, 121, 122, 123, 124, 125, 128, 129, 130, 131, 132, 133, 134, 135] (σ' := [(7, .bool true), (8, .pointer (some ⟨b112, 0, none⟩)), (9, .pointer (some ⟨b118, 0, none⟩)), (10, .pointer (some ⟨b124, 0, none⟩)), (11, .pointer (some ⟨b130, 0, none⟩)), (12, .pointer (some ⟨b136, 0, none⟩)), (13, .pointer (some ⟨b137, 0, none⟩)), (14, .pointer (some ⟨b138, 0, none⟩)), (15, .int .i64 2), (85, .int .i64 1), (86, .pointer (some ⟨b112, 1, none⟩)), (87, .int .i64 t108), (88, .int .i64 1), (89, .pointer (some ⟨b137, 1, none⟩)), (90, .int .i64 (wr64 t0_G)), (91, .int .i64 1), (92, .pointer (some ⟨b138, 1, none⟩)), (93, .int .i64 (wr64 o1_G)), (94, .int .i64 (mx (wr64 t0_G) (wr64 o1_G))), (95, .int .i64 (wr64 (257 * (mx (wr64 t0_G) (wr64 o1_G))))), (96, .bool false), (99, .int .i64 1), (100, .pointer (some ⟨b112, 1, none⟩)), (101, .int .i64 t108), (102, .int .i64 1), (103, .pointer (some ⟨b118, 1, none⟩)), (104, .int .i64 t114), (105, .bool false), (108, .int .i64 1), (109, .pointer (some ⟨b124, 1, none⟩)), (110, .int .i64 t120), (111, .int .i64 1), (112, .pointer (some ⟨b137, 1, none⟩)), (113, .int .i64 (wr64 t0_G)), (114, .int .i64 (wr64 (257 * (wr64 t0_G)))), (115, .bool false), (118, .int .i64 1), (119, .pointer (some ⟨b130, 1, none⟩)), (120, .int .i64 t126), (121, .int .i64 1), (122, .pointer (some ⟨b137, 1, none⟩)), (123, .int .i64 (wr64 t0_G)), (124, .int .i64 (wr64 (257 * (wr64 t0_G)))), (125, .bool false), (128, .int .i64 1), (129, .pointer (some ⟨b136, 1, none⟩)), (130, .int .i64 t132), (131, .int .i64 1), (132, .pointer (some ⟨b138, 1, none⟩)), (133, .int .i64 (wr64 o1_G)), (134, .int .i64 (wr64 (257 * (wr64 o1_G)))), (135, .bool false)]) (by kernel_rfl) ?_
                            refine t_end ?_
                            show WL _ _ _ _ _ _ _ _
                            refine wl_step ?_
                            refine w_seq ?_
                            refine w_seq ?_
                            refine w_reg fun all => ?_
                            refine t_qz 2 [7, 8, 9, 10, 11, 12, 13, 14, 15, 69, 85, 86, 87, 88, 89, 90, 91, 92, 93, 94, 95, 96, 99, 100, 101, 102, 103, 104, 105, 108, 109, 110, 111, 112, 113, 114, 115, 118, 119, 120, 121, 122, 123, 124, 125, 128, 129, 130, 131, 132, 133, 134, 135] (σ' := [(7, .bool true), (8, .pointer (some ⟨b112, 0, none⟩)), (9, .pointer (some ⟨b118, 0, none⟩)), (10, .pointer (some ⟨b124, 0, none⟩)), (11, .pointer (some ⟨b130, 0, none⟩)), (12, .pointer (some ⟨b136, 0, none⟩)), (13, .pointer (some ⟨b137, 0, none⟩)), (14, .pointer (some ⟨b138, 0, none⟩)), (15, .int .i64 2), (69, .bool true), (85, .int .i64 1), (86, .pointer (some ⟨b112, 1, none⟩)), (87, .int .i64 t108), (88, .int .i64 1), (89, .pointer (some ⟨b137, 1, none⟩)), (90, .int .i64 (wr64 t0_G)), (91, .int .i64 1), (92, .pointer (some ⟨b138, 1, none⟩)), (93, .int .i64 (wr64 o1_G)), (94, .int .i64 (mx (wr64 t0_G) (wr64 o1_G))), (95, .int .i64 (wr64 (257 * (mx (wr64 t0_G) (wr64 o1_G))))), (96, .bool false), (99, .int .i64 1), (100, .pointer (some ⟨b112, 1, none⟩)), (101, .int .i64 t108), (102, .int .i64 1), (103, .pointer (some ⟨b118, 1, none⟩)), (104, .int .i64 t114), (105, .bool false), (108, .int .i64 1), (109, .pointer (some ⟨b124, 1, none⟩)), (110, .int .i64 t120), (111, .int .i64 1), (112, .pointer (some ⟨b137, 1, none⟩)), (113, .int .i64 (wr64 t0_G)), (114, .int .i64 (wr64 (257 * (wr64 t0_G)))), (115, .bool false), (118, .int .i64 1), (119, .pointer (some ⟨b130, 1, none⟩)), (120, .int .i64 t126), (121, .int .i64 1), (122, .pointer (some ⟨b137, 1, none⟩)), (123, .int .i64 (wr64 t0_G)), (124, .int .i64 (wr64 (257 * (wr64 t0_G)))), (125, .bool false), (128, .int .i64 1), (129, .pointer (some ⟨b136, 1, none⟩)), (130, .int .i64 t132), (131, .int .i64 1), (132, .pointer (some ⟨b138, 1, none⟩)), (133, .int .i64 (wr64 o1_G)), (134, .int .i64 (wr64 (257 * (wr64 o1_G)))), (135, .bool false)]) (by kernel_rfl) ?_
                            refine t_end ?_
                            show W _ _ _ _ _ _ _
                            refine w_cond rfl (fun _ => ?_) (fun c_ => by cases c_)
                            show W _ _ _ _ _ _ _
                            refine w_skip ?_
                            show W _ _ _ _ _ _ _
                            refine w_seq ?_
                            refine w_block ?_
                            refine w_seq ?_
                            by_cases c151 : t109 < (wr64 (257 * (mn (wr64 t0_B) (wr64 o1_B))))
                            · rw [if_pos c151] at e
                              exact absurd (Option.some.inj e) (by decide)
                            · rw [if_neg c151] at e
                              have c151b : (decide (t109 < (wr64 (257 * (mn (wr64 t0_B) (wr64 o1_B)))))) = false := decide_eq_false c151
                              by_cases c152 : t109 > (wr64 (257 * (mx (wr64 t0_B) (wr64 o1_B))))
                              · rw [if_pos c152] at e
                                exact absurd (Option.some.inj e) (by decide)
                              · rw [if_neg c152] at e
                                have c152b : (decide (t109 > (wr64 (257 * (mx (wr64 t0_B) (wr64 o1_B)))))) = false := decide_eq_false c152
                                by_cases c153 : t109 = t115
                                · rw [if_pos c153] at e
                                  have c153b : (t109 == t115) = true := beq_iff_eq.mpr c153
                                  by_cases c154 : t121 = (wr64 (257 * (wr64 t0_B)))
                                  · rw [if_pos c154] at e
                                    have c154b : (t121 == (wr64 (257 * (wr64 t0_B)))) = true := beq_iff_eq.mpr c154
                                    by_cases c155 : t127 = (wr64 (257 * (wr64 t0_B)))
                                    · rw [if_pos c155] at e
                                      have c155b : (t127 == (wr64 (257 * (wr64 t0_B)))) = true := beq_iff_eq.mpr c155
                                      by_cases c156 : t133 = (wr64 (257 * (wr64 o1_B)))
                                      · rw [if_pos c156] at e
                                        have c156b : (t133 == (wr64 (257 * (wr64 o1_B)))) = true := beq_iff_eq.mpr c156
                                        refine w_drwE mixed 65 [.v (.int .i64 2), .v (.pointer (some ⟨b112, 2, none⟩)), .v (.int .i64 t109), .v (.int .i64 2), .v (.pointer (some ⟨b137, 2, none⟩)), .v (.int .i64 (wr64 t0_B)), .v (.int .i64 2), .v (.pointer (some ⟨b138, 2, none⟩)), .v (.int .i64 (wr64 o1_B)), .v (.int .i64 (mn (wr64 t0_B) (wr64 o1_B))), .v (.int .i64 (wr64 (257 * (mn (wr64 t0_B) (wr64 o1_B))))), .v (.bool false), .v (.bool false), .v (.int .i64 2), .v (.pointer (some ⟨b112, 2, none⟩)), .v (.int .i64 t109), .v (.int .i64 2), .v (.pointer (some ⟨b137, 2, none⟩)), .v (.int .i64 (wr64 t0_B)), .v (.int .i64 2), .v (.pointer (some ⟨b138, 2, none⟩)), .v (.int .i64 (wr64 o1_B)), .v (.int .i64 (mx (wr64 t0_B) (wr64 o1_B))), .v (.int .i64 (wr64 (257 * (mx (wr64 t0_B) (wr64 o1_B))))), .v (.bool false), .v (.bool false), .v (.bool false), .v (.int .i64 2), .v (.pointer (some ⟨b112, 2, none⟩)), .v (.int .i64 t109), .v (.int .i64 2), .v (.pointer (some ⟨b118, 2, none⟩)), .v (.int .i64 t115), .v (.bool false), .v (.bool false), .v (.bool false), .v (.int .i64 2), .v (.pointer (some ⟨b124, 2, none⟩)), .v (.int .i64 t121), .v (.int .i64 2), .v (.pointer (some ⟨b137, 2, none⟩)), .v (.int .i64 (wr64 t0_B)), .v (.int .i64 (wr64 (257 * (wr64 t0_B)))), .v (.bool false), .v (.bool false), .v (.bool false), .v (.int .i64 2), .v (.pointer (some ⟨b130, 2, none⟩)), .v (.int .i64 t127), .v (.int .i64 2), .v (.pointer (some ⟨b137, 2, none⟩)), .v (.int .i64 (wr64 t0_B)), .v (.int .i64 (wr64 (257 * (wr64 t0_B)))), .v (.bool false), .v (.bool false), .v (.bool false), .v (.int .i64 2), .v (.pointer (some ⟨b136, 2, none⟩)), .v (.int .i64 t133), .v (.int .i64 2), .v (.pointer (some ⟨b138, 2, none⟩)), .v (.int .i64 (wr64 o1_B)), .v (.int .i64 (wr64 (257 * (wr64 o1_B)))), .v (.bool false), .v (.bool false)] (by kernel_rfl) ?_ ?_
                                        · refine DI.sq 2 (by kernel_rfl) rfl ?_
                                          refine .cons (.ld1 rfl rfl rfl (.at 6 rfl rfl)) ?_
                                          refine DI.sq 2 (by kernel_rfl) rfl ?_
                                          refine .cons (.ld1 rfl rfl rfl (.at 1 rfl rfl)) ?_
                                          refine DI.sq 2 (by kernel_rfl) rfl ?_
                                          refine .cons (.ld1 rfl rfl rfl (.at 0 rfl rfl)) ?_
                                          refine DI.sq 2 (by kernel_rfl) rfl ?_
                                          refine .cons (dv_quiet rfl (congrArg (fun t => some (Value.bool t)) c151b)) ?_
                                          refine DI.sq 3 (by kernel_rfl) rfl ?_
                                          refine .cons (.ld1 rfl rfl rfl (.at 6 rfl rfl)) ?_
                                          refine DI.sq 2 (by kernel_rfl) rfl ?_
                                          refine .cons (.ld1 rfl rfl rfl (.at 1 rfl rfl)) ?_
                                          refine DI.sq 2 (by kernel_rfl) rfl ?_
                                          refine .cons (.ld1 rfl rfl rfl (.at 0 rfl rfl)) ?_
                                          refine DI.sq 2 (by kernel_rfl) rfl ?_
                                          refine .cons (dv_quiet rfl (congrArg (fun t => some (Value.bool t)) c152b)) ?_
                                          refine DI.sq 4 (by kernel_rfl) rfl ?_
                                          refine .cons (.ld1 rfl rfl rfl (.at 6 rfl rfl)) ?_
                                          refine DI.sq 2 (by kernel_rfl) rfl ?_
                                          refine .cons (.ld1 rfl rfl rfl (.at 5 rfl rfl)) ?_
                                          refine .cons (dv_quiet rfl (congrArg (fun t => some (Value.bool (!t))) c153b)) ?_
                                          refine DI.sq 4 (by kernel_rfl) rfl ?_
                                          refine .cons (.ld1 rfl rfl rfl (.at 4 rfl rfl)) ?_
                                          refine DI.sq 2 (by kernel_rfl) rfl ?_
                                          refine .cons (.ld1 rfl rfl rfl (.at 1 rfl rfl)) ?_
                                          refine DI.sq 1 (by kernel_rfl) rfl ?_
                                          refine .cons (dv_quiet rfl (congrArg (fun t => some (Value.bool (!t))) c154b)) ?_
                                          refine DI.sq 4 (by kernel_rfl) rfl ?_
                                          refine .cons (.ld1 rfl rfl rfl (.at 3 rfl rfl)) ?_
                                          refine DI.sq 2 (by kernel_rfl) rfl ?_
                                          refine .cons (.ld1 rfl rfl rfl (.at 1 rfl rfl)) ?_
                                          refine DI.sq 1 (by kernel_rfl) rfl ?_
                                          refine .cons (dv_quiet rfl (congrArg (fun t => some (Value.bool (!t))) c155b)) ?_
                                          refine DI.sq 4 (by kernel_rfl) rfl ?_
                                          refine .cons (.ld1 rfl rfl rfl (.at 2 rfl rfl)) ?_
                                          refine DI.sq 2 (by kernel_rfl) rfl ?_
                                          refine .cons (.ld1 rfl rfl rfl (.at 0 rfl rfl)) ?_
                                          refine DI.sq 1 (by kernel_rfl) rfl ?_
                                          refine .cons (dv_quiet rfl (congrArg (fun t => some (Value.bool (!t))) c156b)) ?_
                                          refine DI.sq 1 (by kernel_rfl) rfl ?_
                                          exact .nil
                                        refine fk_q 65 [7, 8, 9, 10, 11, 12, 13, 14, 15, 85, 86, 87, 88, 89, 90, 91, 92, 93, 94, 95, 96, 99, 100, 101, 102, 103, 104, 105, 108, 109, 110, 111, 112, 113, 114, 115, 118, 119, 120, 121, 122, 123, 124, 125, 128, 129, 130, 131, 132, 133, 134, 135, 136] (σ' := [(7, .bool true), (8, .pointer (some ⟨b112, 0, none⟩)), (9, .pointer (some ⟨b118, 0, none⟩)), (10, .pointer (some ⟨b124, 0, none⟩)), (11, .pointer (some ⟨b130, 0, none⟩)), (12, .pointer (some ⟨b136, 0, none⟩)), (13, .pointer (some ⟨b137, 0, none⟩)), (14, .pointer (some ⟨b138, 0, none⟩)), (15, .int .i64 2), (85, .int .i64 2), (86, .pointer (some ⟨b112, 2, none⟩)), (87, .int .i64 t109), (88, .int .i64 2), (89, .pointer (some ⟨b137, 2, none⟩)), (90, .int .i64 (wr64 t0_B)), (91, .int .i64 2), (92, .pointer (some ⟨b138, 2, none⟩)), (93, .int .i64 (wr64 o1_B)), (94, .int .i64 (mx (wr64 t0_B) (wr64 o1_B))), (95, .int .i64 (wr64 (257 * (mx (wr64 t0_B) (wr64 o1_B))))), (96, .bool false), (99, .int .i64 2), (100, .pointer (some ⟨b112, 2, none⟩)), (101, .int .i64 t109), (102, .int .i64 2), (103, .pointer (some ⟨b118, 2, none⟩)), (104, .int .i64 t115), (105, .bool false), (108, .int .i64 2), (109, .pointer (some ⟨b124, 2, none⟩)), (110, .int .i64 t121), (111, .int .i64 2), (112, .pointer (some ⟨b137, 2, none⟩)), (113, .int .i64 (wr64 t0_B)), (114, .int .i64 (wr64 (257 * (wr64 t0_B)))), (115, .bool false), (118, .int .i64 2), (119, .pointer (some ⟨b130, 2, none⟩)), (120, .int .i64 t127), (121, .int .i64 2), (122, .pointer (some ⟨b137, 2, none⟩)), (123, .int .i64 (wr64 t0_B)), (124, .int .i64 (wr64 (257 * (wr64 t0_B)))), (125, .bool false), (128, .int .i64 2), (129, .pointer (some ⟨b136, 2, none⟩)), (130, .int .i64 t133), (131, .int .i64 2), (132, .pointer (some ⟨b138, 2, none⟩)), (133, .int .i64 (wr64 o1_B)), (134, .int .i64 (wr64 (257 * (wr64 o1_B)))), (135, .bool false), (136, .bool false)]) t_more (by kernel_rfl) ?_
                                        refine fk_nil fun all => ?_
                                        refine t_keep [7, 8, 9, 10, 11, 12, 13, 14, 15, 85, 86, 87, 88, 89, 90, 91, 92, 93, 94, 95, 96, 99, 100, 101, 102, 103, 104, 105, 108, 109, 110, 111, 112, 113, 114, 115, 118, 119, 120, 121, 122, 123, 124, 125, 128, 129, 130, 131, 132, 133, 134, 135, 136] (σ' := [(7, .bool true), (8, .pointer (some ⟨b112, 0, none⟩)), (9, .pointer (some ⟨b118, 0, none⟩)), (10, .pointer (some ⟨b124, 0, none⟩)), (11, .pointer (some ⟨b130, 0, none⟩)), (12, .pointer (some ⟨b136, 0, none⟩)), (13, .pointer (some ⟨b137, 0, none⟩)), (14, .pointer (some ⟨b138, 0, none⟩)), (15, .int .i64 2), (85, .int .i64 2), (86, .pointer (some ⟨b112, 2, none⟩)), (87, .int .i64 t109), (88, .int .i64 2), (89, .pointer (some ⟨b137, 2, none⟩)), (90, .int .i64 (wr64 t0_B)), (91, .int .i64 2), (92, .pointer (some ⟨b138, 2, none⟩)), (93, .int .i64 (wr64 o1_B)), (94, .int .i64 (mx (wr64 t0_B) (wr64 o1_B))), (95, .int .i64 (wr64 (257 * (mx (wr64 t0_B) (wr64 o1_B))))), (96, .bool false), (99, .int .i64 2), (100, .pointer (some ⟨b112, 2, none⟩)), (101, .int .i64 t109), (102, .int .i64 2), (103, .pointer (some ⟨b118, 2, none⟩)), (104, .int .i64 t115), (105, .bool false), (108, .int .i64 2), (109, .pointer (some ⟨b124, 2, none⟩)), (110, .int .i64 t121), (111, .int .i64 2), (112, .pointer (some ⟨b137, 2, none⟩)), (113, .int .i64 (wr64 t0_B)), (114, .int .i64 (wr64 (257 * (wr64 t0_B)))), (115, .bool false), (118, .int .i64 2), (119, .pointer (some ⟨b130, 2, none⟩)), (120, .int .i64 t127), (121, .int .i64 2), (122, .pointer (some ⟨b137, 2, none⟩)), (123, .int .i64 (wr64 t0_B)), (124, .int .i64 (wr64 (257 * (wr64 t0_B)))), (125, .bool false), (128, .int .i64 2), (129, .pointer (some ⟨b136, 2, none⟩)), (130, .int .i64 t133), (131, .int .i64 2), (132, .pointer (some ⟨b138, 2, none⟩)), (133, .int .i64 (wr64 o1_B)), (134, .int .i64 (wr64 (257 * (wr64 o1_B)))), (135, .bool false), (136, .bool false)]) (by kernel_rfl) ?_
                                        refine t_end ?_
                                        show W _ _ _ _ _ _ _
                                        refine w_cond rfl (fun c_ => by cases c_) (fun _ => ?_)
                                        show W _ _ _ _ _ _ _
                                        refine w_skip ?_
                                        show W _ _ _ _ _ _ _
                                        refine w_reg fun all => ?_
                                        refine t_qz 3 [7, 8, 9, 10, 11, 12, 13, 14, 15, 85, 86, 87, 88, 89, 90, 91, 92, 93, 94, 95, 96, 99, 100, 101, 102, 103, 104, 105, 108, 109, 110, 111, 112, 113, 114, 115, 118, 119, 120, 121, 122, 123, 124, 125, 128, 129, 130, 131, 132, 133, 134, 135] (σ' := [(7, .bool true), (8, .pointer (some ⟨b112, 0, none⟩)), (9, .pointer (some ⟨b118, 0, none⟩)), (10, .pointer (some ⟨b124, 0, none⟩)), (11, .pointer (some ⟨b130, 0, none⟩)), (12, .pointer (some ⟨b136, 0, none⟩)), (13, .pointer (some ⟨b137, 0, none⟩)), (14, .pointer (some ⟨b138, 0, none⟩)), (15, .int .i64 3), (85, .int .i64 2), (86, .pointer (some ⟨b112, 2, none⟩)), (87, .int .i64 t109), (88, .int .i64 2), (89, .pointer (some ⟨b137, 2, none⟩)), (90, .int .i64 (wr64 t0_B)), (91, .int .i64 2), (92, .pointer (some ⟨b138, 2, none⟩)), (93, .int .i64 (wr64 o1_B)), (94, .int .i64 (mx (wr64 t0_B) (wr64 o1_B))), (95, .int .i64 (wr64 (257 * (mx (wr64 t0_B) (wr64 o1_B))))), (96, .bool false), (99, .int .i64 2), (100, .pointer (some ⟨b112, 2, none⟩)), (101, .int .i64 t109), (102, .int .i64 2), (103, .pointer (some ⟨b118, 2, none⟩)), (104, .int .i64 t115), (105, .bool false), (108, .int .i64 2), (109, .pointer (some ⟨b124, 2, none⟩)), (110, .int .i64 t121), (111, .int .i64 2), (112, .pointer (some ⟨b137, 2, none⟩)), (113, .int .i64 (wr64 t0_B)), (114, .int .i64 (wr64 (257 * (wr64 t0_B)))), (115, .bool false), (118, .int .i64 2), (119, .pointer (some ⟨b130, 2, none⟩)), (120, .int .i64 t127), (121, .int .i64 2), (122, .pointer (some ⟨b137, 2, none⟩)), (123, .int .i64 (wr64 t0_B)), (124, .int .i64 (wr64 (257 * (wr64 t0_B)))), (125, .bool false), (128, .int .i64 2), (129, .pointer (some ⟨b136, 2, none⟩)), (130, .int .i64 t133), (131, .int .i64 2), (132, .pointer (some ⟨b138, 2, none⟩)), (133, .int .i64 (wr64 o1_B)), (134, .int .i64 (wr64 (257 * (wr64 o1_B)))), (135, .bool false)]) (by kernel_rfl) ?_
                                        refine t_end ?_
                                        show WL _ _ _ _ _ _ _ _
                                        refine wl_step ?_
                                        refine w_seq ?_
                                        refine w_seq ?_
                                        refine w_reg fun all => ?_
                                        refine t_qz 2 [7, 8, 9, 10, 11, 12, 13, 14, 15, 69, 85, 86, 87, 88, 89, 90, 91, 92, 93, 94, 95, 96, 99, 100, 101, 102, 103, 104, 105, 108, 109, 110, 111, 112, 113, 114, 115, 118, 119, 120, 121, 122, 123, 124, 125, 128, 129, 130, 131, 132, 133, 134, 135] (σ' := [(7, .bool true), (8, .pointer (some ⟨b112, 0, none⟩)), (9, .pointer (some ⟨b118, 0, none⟩)), (10, .pointer (some ⟨b124, 0, none⟩)), (11, .pointer (some ⟨b130, 0, none⟩)), (12, .pointer (some ⟨b136, 0, none⟩)), (13, .pointer (some ⟨b137, 0, none⟩)), (14, .pointer (some ⟨b138, 0, none⟩)), (15, .int .i64 3), (69, .bool true), (85, .int .i64 2), (86, .pointer (some ⟨b112, 2, none⟩)), (87, .int .i64 t109), (88, .int .i64 2), (89, .pointer (some ⟨b137, 2, none⟩)), (90, .int .i64 (wr64 t0_B)), (91, .int .i64 2), (92, .pointer (some ⟨b138, 2, none⟩)), (93, .int .i64 (wr64 o1_B)), (94, .int .i64 (mx (wr64 t0_B) (wr64 o1_B))), (95, .int .i64 (wr64 (257 * (mx (wr64 t0_B) (wr64 o1_B))))), (96, .bool false), (99, .int .i64 2), (100, .pointer (some ⟨b112, 2, none⟩)), (101, .int .i64 t109), (102, .int .i64 2), (103, .pointer (some ⟨b118, 2, none⟩)), (104, .int .i64 t115), (105, .bool false), (108, .int .i64 2), (109, .pointer (some ⟨b124, 2, none⟩)), (110, .int .i64 t121), (111, .int .i64 2), (112, .pointer (some ⟨b137, 2, none⟩)), (113, .int .i64 (wr64 t0_B)), (114, .int .i64 (wr64 (257 * (wr64 t0_B)))), (115, .bool false), (118, .int .i64 2), (119, .pointer (some ⟨b130, 2, none⟩)), (120, .int .i64 t127), (121, .int .i64 2), (122, .pointer (some ⟨b137, 2, none⟩)), (123, .int .i64 (wr64 t0_B)), (124, .int .i64 (wr64 (257 * (wr64 t0_B)))), (125, .bool false), (128, .int .i64 2), (129, .pointer (some ⟨b136, 2, none⟩)), (130, .int .i64 t133), (131, .int .i64 2), (132, .pointer (some ⟨b138, 2, none⟩)), (133, .int .i64 (wr64 o1_B)), (134, .int .i64 (wr64 (257 * (wr64 o1_B)))), (135, .bool false)]) (by kernel_rfl) ?_
                                        refine t_end ?_
                                        show W _ _ _ _ _ _ _
                                        refine w_cond rfl (fun _ => ?_) (fun c_ => by cases c_)
                                        show W _ _ _ _ _ _ _
                                        refine w_skip ?_
                                        show W _ _ _ _ _ _ _
                                        refine w_seq ?_
                                        refine w_block ?_
                                        refine w_seq ?_
                                        by_cases c157 : t110 < (wr64 (257 * (mn (wr64 t0_A) (wr64 o1_A))))
                                        · rw [if_pos c157] at e
                                          exact absurd (Option.some.inj e) (by decide)
                                        · rw [if_neg c157] at e
                                          have c157b : (decide (t110 < (wr64 (257 * (mn (wr64 t0_A) (wr64 o1_A)))))) = false := decide_eq_false c157
                                          by_cases c158 : t110 > (wr64 (257 * (mx (wr64 t0_A) (wr64 o1_A))))
                                          · rw [if_pos c158] at e
                                            exact absurd (Option.some.inj e) (by decide)
                                          · rw [if_neg c158] at e
                                            have c158b : (decide (t110 > (wr64 (257 * (mx (wr64 t0_A) (wr64 o1_A)))))) = false := decide_eq_false c158
                                            by_cases c159 : t110 = t116
                                            · rw [if_pos c159] at e
                                              have c159b : (t110 == t116) = true := beq_iff_eq.mpr c159
                                              by_cases c160 : t122 = (wr64 (257 * (wr64 t0_A)))
                                              · rw [if_pos c160] at e
                                                have c160b : (t122 == (wr64 (257 * (wr64 t0_A)))) = true := beq_iff_eq.mpr c160
                                                by_cases c161 : t128 = (wr64 (257 * (wr64 t0_A)))
                                                · rw [if_pos c161] at e
                                                  have c161b : (t128 == (wr64 (257 * (wr64 t0_A)))) = true := beq_iff_eq.mpr c161
                                                  by_cases c162 : t134 = (wr64 (257 * (wr64 o1_A)))
                                                  · rw [if_pos c162] at e
                                                    have c162b : (t134 == (wr64 (257 * (wr64 o1_A)))) = true := beq_iff_eq.mpr c162
                                                    refine w_drwE mixed 65 [.v (.int .i64 3), .v (.pointer (some ⟨b112, 3, none⟩)), .v (.int .i64 t110), .v (.int .i64 3), .v (.pointer (some ⟨b137, 3, none⟩)), .v (.int .i64 (wr64 t0_A)), .v (.int .i64 3), .v (.pointer (some ⟨b138, 3, none⟩)), .v (.int .i64 (wr64 o1_A)), .v (.int .i64 (mn (wr64 t0_A) (wr64 o1_A))), .v (.int .i64 (wr64 (257 * (mn (wr64 t0_A) (wr64 o1_A))))), .v (.bool false), .v (.bool false), .v (.int .i64 3), .v (.pointer (some ⟨b112, 3, none⟩)), .v (.int .i64 t110), .v (.int .i64 3), .v (.pointer (some ⟨b137, 3, none⟩)), .v (.int .i64 (wr64 t0_A)), .v (.int .i64 3), .v (.pointer (some ⟨b138, 3, none⟩)), .v (.int .i64 (wr64 o1_A)), .v (.int .i64 (mx (wr64 t0_A) (wr64 o1_A))), .v (.int .i64 (wr64 (257 * (mx (wr64 t0_A) (wr64 o1_A))))), .v (.bool false), .v (.bool false), .v (.bool false), .v (.int .i64 3), .v (.pointer (some ⟨b112, 3, none⟩)), .v (.int .i64 t110), .v (.int .i64 3), .v (.pointer (some ⟨b118, 3, none⟩)), .v (.int .i64 t116), .v (.bool false), .v (.bool false), .v (.bool false), .v (.int .i64 3), .v (.pointer (some ⟨b124, 3, none⟩)), .v (.int .i64 t122), .v (.int .i64 3), .v (.pointer (some ⟨b137, 3, none⟩)), .v (.int .i64 (wr64 t0_A)), .v (.int .i64 (wr64 (257 * (wr64 t0_A)))), .v (.bool false), .v (.bool false), .v (.bool false), .v (.int .i64 3), .v (.pointer (some ⟨b130, 3, none⟩)), .v (.int .i64 t128), .v (.int .i64 3), .v (.pointer (some ⟨b137, 3, none⟩)), .v (.int .i64 (wr64 t0_A)), .v (.int .i64 (wr64 (257 * (wr64 t0_A)))), .v (.bool false), .v (.bool false), .v (.bool false), .v (.int .i64 3), .v (.pointer (some ⟨b136, 3, none⟩)), .v (.int .i64 t134), .v (.int .i64 3), .v (.pointer (some ⟨b138, 3, none⟩)), .v (.int .i64 (wr64 o1_A)), .v (.int .i64 (wr64 (257 * (wr64 o1_A)))), .v (.bool false), .v (.bool false)] (by kernel_rfl) ?_ ?_
                                                    · refine DI.sq 2 (by kernel_rfl) rfl ?_
                                                      refine .cons (.ld1 rfl rfl rfl (.at 6 rfl rfl)) ?_
                                                      refine DI.sq 2 (by kernel_rfl) rfl ?_
                                                      refine .cons (.ld1 rfl rfl rfl (.at 1 rfl rfl)) ?_
                                                      refine DI.sq 2 (by kernel_rfl) rfl ?_
                                                      refine .cons (.ld1 rfl rfl rfl (.at 0 rfl rfl)) ?_
                                                      refine DI.sq 2 (by kernel_rfl) rfl ?_
                                                      refine .cons (dv_quiet rfl (congrArg (fun t => some (Value.bool t)) c157b)) ?_
                                                      refine DI.sq 3 (by kernel_rfl) rfl ?_
                                                      refine .cons (.ld1 rfl rfl rfl (.at 6 rfl rfl)) ?_
                                                      refine DI.sq 2 (by kernel_rfl) rfl ?_
                                                      refine .cons (.ld1 rfl rfl rfl (.at 1 rfl rfl)) ?_
                                                      refine DI.sq 2 (by kernel_rfl) rfl ?_
                                                      refine .cons (.ld1 rfl rfl rfl (.at 0 rfl rfl)) ?_
                                                      refine DI.sq 2 (by kernel_rfl) rfl ?_
                                                      refine .cons (dv_quiet rfl (congrArg (fun t => some (Value.bool t)) c158b)) ?_
                                                      refine DI.sq 4 (by kernel_rfl) rfl ?_
                                                      refine .cons (.ld1 rfl rfl rfl (.at 6 rfl rfl)) ?_
                                                      refine DI.sq 2 (by kernel_rfl) rfl ?_
                                                      refine .cons (.ld1 rfl rfl rfl (.at 5 rfl rfl)) ?_
                                                      refine .cons (dv_quiet rfl (congrArg (fun t => some (Value.bool (!t))) c159b)) ?_
                                                      refine DI.sq 4 (by kernel_rfl) rfl ?_
                                                      refine .cons (.ld1 rfl rfl rfl (.at 4 rfl rfl)) ?_
                                                      refine DI.sq 2 (by kernel_rfl) rfl ?_
                                                      refine .cons (.ld1 rfl rfl rfl (.at 1 rfl rfl)) ?_
                                                      refine DI.sq 1 (by kernel_rfl) rfl ?_
                                                      refine .cons (dv_quiet rfl (congrArg (fun t => some (Value.bool (!t))) c160b)) ?_
                                                      refine DI.sq 4 (by kernel_rfl) rfl ?_
                                                      refine .cons (.ld1 rfl rfl rfl (.at 3 rfl rfl)) ?_
                                                      refine DI.sq 2 (by kernel_rfl) rfl ?_
                                                      refine .cons (.ld1 rfl rfl rfl (.at 1 rfl rfl)) ?_
                                                      refine DI.sq 1 (by kernel_rfl) rfl ?_
                                                      refine .cons (dv_quiet rfl (congrArg (fun t => some (Value.bool (!t))) c161b)) ?_
                                                      refine DI.sq 4 (by kernel_rfl) rfl ?_
                                                      refine .cons (.ld1 rfl rfl rfl (.at 2 rfl rfl)) ?_
                                                      refine DI.sq 2 (by kernel_rfl) rfl ?_
                                                      refine .cons (.ld1 rfl rfl rfl (.at 0 rfl rfl)) ?_
                                                      refine DI.sq 1 (by kernel_rfl) rfl ?_
                                                      refine .cons (dv_quiet rfl (congrArg (fun t => some (Value.bool (!t))) c162b)) ?_
                                                      refine DI.sq 1 (by kernel_rfl) rfl ?_
                                                      exact .nil
                                                    refine fk_q 65 [7, 8, 9, 10, 11, 12, 13, 14, 15, 85, 86, 87, 88, 89, 90, 91, 92, 93, 94, 95, 96, 99, 100, 101, 102, 103, 104, 105, 108, 109, 110, 111, 112, 113, 114, 115, 118, 119, 120, 121, 122, 123, 124, 125, 128, 129, 130, 131, 132, 133, 134, 135, 136] (σ' := [(7, .bool true), (8, .pointer (some ⟨b112, 0, none⟩)), (9, .pointer (some ⟨b118, 0, none⟩)), (10, .pointer (some ⟨b124, 0, none⟩)), (11, .pointer (some ⟨b130, 0, none⟩)), (12, .pointer (some ⟨b136, 0, none⟩)), (13, .pointer (some ⟨b137, 0, none⟩)), (14, .pointer (some ⟨b138, 0, none⟩)), (15, .int .i64 3), (85, .int .i64 3), (86, .pointer (some ⟨b112, 3, none⟩)), (87, .int .i64 t110), (88, .int .i64 3), (89, .pointer (some ⟨b137, 3, none⟩)), (90, .int .i64 (wr64 t0_A)), (91, .int .i64 3), (92, .pointer (some ⟨b138, 3, none⟩)), (93, .int .i64 (wr64 o1_A)), (94, .int .i64 (mx (wr64 t0_A) (wr64 o1_A))), (95, .int .i64 (wr64 (257 * (mx (wr64 t0_A) (wr64 o1_A))))), (96, .bool false), (99, .int .i64 3), (100, .pointer (some ⟨b112, 3, none⟩)), (101, .int .i64 t110), (102, .int .i64 3), (103, .pointer (some ⟨b118, 3, none⟩)), (104, .int .i64 t116), (105, .bool false), (108, .int .i64 3), (109, .pointer (some ⟨b124, 3, none⟩)), (110, .int .i64 t122), (111, .int .i64 3), (112, .pointer (some ⟨b137, 3, none⟩)), (113, .int .i64 (wr64 t0_A)), (114, .int .i64 (wr64 (257 * (wr64 t0_A)))), (115, .bool false), (118, .int .i64 3), (119, .pointer (some ⟨b130, 3, none⟩)), (120, .int .i64 t128), (121, .int .i64 3), (122, .pointer (some ⟨b137, 3, none⟩)), (123, .int .i64 (wr64 t0_A)), (124, .int .i64 (wr64 (257 * (wr64 t0_A)))), (125, .bool false), (128, .int .i64 3), (129, .pointer (some ⟨b136, 3, none⟩)), (130, .int .i64 t134), (131, .int .i64 3), (132, .pointer (some ⟨b138, 3, none⟩)), (133, .int .i64 (wr64 o1_A)), (134, .int .i64 (wr64 (257 * (wr64 o1_A)))), (135, .bool false), (136, .bool false)]) t_more (by kernel_rfl) ?_
                                                    refine fk_nil fun all => ?_
                                                    refine t_keep [7, 8, 9, 10, 11, 12, 13, 14, 15, 85, 86, 87, 88, 89, 90, 91, 92, 93, 94, 95, 96, 99, 100, 101, 102, 103, 104, 105, 108, 109, 110, 111, 112, 113, 114, 115, 118, 119, 120, 121, 122, 123, 124, 125, 128, 129, 130, 131, 132, 133, 134, 135, 136] (σ' := [(7, .bool true), (8, .pointer (some ⟨b112, 0, none⟩)), (9, .pointer (some ⟨b118, 0, none⟩)), (10, .pointer (some ⟨b124, 0, none⟩)), (11, .pointer (some ⟨b130, 0, none⟩)), (12, .pointer (some ⟨b136, 0, none⟩)), (13, .pointer (some ⟨b137, 0, none⟩)), (14, .pointer (some ⟨b138, 0, none⟩)), (15, .int .i64 3), (85, .int .i64 3), (86, .pointer (some ⟨b112, 3, none⟩)), (87, .int .i64 t110), (88, .int .i64 3), (89, .pointer (some ⟨b137, 3, none⟩)), (90, .int .i64 (wr64 t0_A)), (91, .int .i64 3), (92, .pointer (some ⟨b138, 3, none⟩)), (93, .int .i64 (wr64 o1_A)), (94, .int .i64 (mx (wr64 t0_A) (wr64 o1_A))), (95, .int .i64 (wr64 (257 * (mx (wr64 t0_A) (wr64 o1_A))))), (96, .bool false), (99, .int .i64 3), (100, .pointer (some ⟨b112, 3, none⟩)), (101, .int .i64 t110), (102, .int .i64 3), (103, .pointer (some ⟨b118, 3, none⟩)), (104, .int .i64 t116), (105, .bool false), (108, .int .i64 3), (109, .pointer (some ⟨b124, 3, none⟩)), (110, .int .i64 t122), (111, .int .i64 3), (112, .pointer (some ⟨b137, 3, none⟩)), (113, .int .i64 (wr64 t0_A)), (114, .int .i64 (wr64 (257 * (wr64 t0_A)))), (115, .bool false), (118, .int .i64 3), (119, .pointer (some ⟨b130, 3, none⟩)), (120, .int .i64 t128), (121, .int .i64 3), (122, .pointer (some ⟨b137, 3, none⟩)), (123, .int .i64 (wr64 t0_A)), (124, .int .i64 (wr64 (257 * (wr64 t0_A)))), (125, .bool false), (128, .int .i64 3), (129, .pointer (some ⟨b136, 3, none⟩)), (130, .int .i64 t134), (131, .int .i64 3), (132, .pointer (some ⟨b138, 3, none⟩)), (133, .int .i64 (wr64 o1_A)), (134, .int .i64 (wr64 (257 * (wr64 o1_A)))), (135, .bool false), (136, .bool false)]) (by kernel_rfl) ?_
                                                    refine t_end ?_
                                                    show W _ _ _ _ _ _ _
                                                    refine w_cond rfl (fun c_ => by cases c_) (fun _ => ?_)
                                                    show W _ _ _ _ _ _ _
                                                    refine w_skip ?_
                                                    show W _ _ _ _ _ _ _
                                                    refine w_reg fun all => ?_
                                                    refine t_qz 3 [7, 8, 9, 10, 11, 12, 13, 14, 15, 85, 86, 87, 88, 89, 90, 91, 92, 93, 94, 95, 96, 99, 100, 101, 102, 103, 104, 105, 108, 109, 110, 111, 112, 113, 114, 115, 118, 119, 120, 121, 122, 123, 124, 125, 128, 129, 130, 131, 132, 133, 134, 135] (σ' := [(7, .bool true), (8, .pointer (some ⟨b112, 0, none⟩)), (9, .pointer (some ⟨b118, 0, none⟩)), (10, .pointer (some ⟨b124, 0, none⟩)), (11, .pointer (some ⟨b130, 0, none⟩)), (12, .pointer (some ⟨b136, 0, none⟩)), (13, .pointer (some ⟨b137, 0, none⟩)), (14, .pointer (some ⟨b138, 0, none⟩)), (15, .int .i64 4), (85, .int .i64 3), (86, .pointer (some ⟨b112, 3, none⟩)), (87, .int .i64 t110), (88, .int .i64 3), (89, .pointer (some ⟨b137, 3, none⟩)), (90, .int .i64 (wr64 t0_A)), (91, .int .i64 3), (92, .pointer (some ⟨b138, 3, none⟩)), (93, .int .i64 (wr64 o1_A)), (94, .int .i64 (mx (wr64 t0_A) (wr64 o1_A))), (95, .int .i64 (wr64 (257 * (mx (wr64 t0_A) (wr64 o1_A))))), (96, .bool false), (99, .int .i64 3), (100, .pointer (some ⟨b112, 3, none⟩)), (101, .int .i64 t110), (102, .int .i64 3), (103, .pointer (some ⟨b118, 3, none⟩)), (104, .int .i64 t116), (105, .bool false), (108, .int .i64 3), (109, .pointer (some ⟨b124, 3, none⟩)), (110, .int .i64 t122), (111, .int .i64 3), (112, .pointer (some ⟨b137, 3, none⟩)), (113, .int .i64 (wr64 t0_A)), (114, .int .i64 (wr64 (257 * (wr64 t0_A)))), (115, .bool false), (118, .int .i64 3), (119, .pointer (some ⟨b130, 3, none⟩)), (120, .int .i64 t128), (121, .int .i64 3), (122, .pointer (some ⟨b137, 3, none⟩)), (123, .int .i64 (wr64 t0_A)), (124, .int .i64 (wr64 (257 * (wr64 t0_A)))), (125, .bool false), (128, .int .i64 3), (129, .pointer (some ⟨b136, 3, none⟩)), (130, .int .i64 t134), (131, .int .i64 3), (132, .pointer (some ⟨b138, 3, none⟩)), (133, .int .i64 (wr64 o1_A)), (134, .int .i64 (wr64 (257 * (wr64 o1_A)))), (135, .bool false)]) (by kernel_rfl) ?_
                                                    refine t_end ?_
                                                    show WL _ _ _ _ _ _ _ _
                                                    refine wl_step ?_
                                                    refine w_seq ?_
                                                    refine w_seq ?_
                                                    refine w_reg fun all => ?_
                                                    refine t_qz 2 [7, 8, 9, 10, 11, 12, 13, 14, 15, 69, 85, 86, 87, 88, 89, 90, 91, 92, 93, 94, 95, 96, 99, 100, 101, 102, 103, 104, 105, 108, 109, 110, 111, 112, 113, 114, 115, 118, 119, 120, 121, 122, 123, 124, 125, 128, 129, 130, 131, 132, 133, 134, 135] (σ' := [(7, .bool true), (8, .pointer (some ⟨b112, 0, none⟩)), (9, .pointer (some ⟨b118, 0, none⟩)), (10, .pointer (some ⟨b124, 0, none⟩)), (11, .pointer (some ⟨b130, 0, none⟩)), (12, .pointer (some ⟨b136, 0, none⟩)), (13, .pointer (some ⟨b137, 0, none⟩)), (14, .pointer (some ⟨b138, 0, none⟩)), (15, .int .i64 4), (69, .bool false), (85, .int .i64 3), (86, .pointer (some ⟨b112, 3, none⟩)), (87, .int .i64 t110), (88, .int .i64 3), (89, .pointer (some ⟨b137, 3, none⟩)), (90, .int .i64 (wr64 t0_A)), (91, .int .i64 3), (92, .pointer (some ⟨b138, 3, none⟩)), (93, .int .i64 (wr64 o1_A)), (94, .int .i64 (mx (wr64 t0_A) (wr64 o1_A))), (95, .int .i64 (wr64 (257 * (mx (wr64 t0_A) (wr64 o1_A))))), (96, .bool false), (99, .int .i64 3), (100, .pointer (some ⟨b112, 3, none⟩)), (101, .int .i64 t110), (102, .int .i64 3), (103, .pointer (some ⟨b118, 3, none⟩)), (104, .int .i64 t116), (105, .bool false), (108, .int .i64 3), (109, .pointer (some ⟨b124, 3, none⟩)), (110, .int .i64 t122), (111, .int .i64 3), (112, .pointer (some ⟨b137, 3, none⟩)), (113, .int .i64 (wr64 t0_A)), (114, .int .i64 (wr64 (257 * (wr64 t0_A)))), (115, .bool false), (118, .int .i64 3), (119, .pointer (some ⟨b130, 3, none⟩)), (120, .int .i64 t128), (121, .int .i64 3), (122, .pointer (some ⟨b137, 3, none⟩)), (123, .int .i64 (wr64 t0_A)), (124, .int .i64 (wr64 (257 * (wr64 t0_A)))), (125, .bool false), (128, .int .i64 3), (129, .pointer (some ⟨b136, 3, none⟩)), (130, .int .i64 t134), (131, .int .i64 3), (132, .pointer (some ⟨b138, 3, none⟩)), (133, .int .i64 (wr64 o1_A)), (134, .int .i64 (wr64 (257 * (wr64 o1_A)))), (135, .bool false)]) (by kernel_rfl) ?_
                                                    refine t_end ?_
                                                    show W _ _ _ _ _ _ _
                                                    refine w_cond rfl (fun c_ => by cases c_) (fun _ => ?_)
                                                    show W _ _ _ _ _ _ _
                                                    refine w_exit ?_
                                                    show W _ _ _ _ _ _ _
                                                    refine w_seq ?_
                                                    refine w_reg fun all => ?_
                                                    refine t_qz 4 [6] (σ' := [(6, .bool true)]) (by kernel_rfl) ?_
                                                    refine t_end ?_
                                                    show W _ _ _ _ _ _ _
                                                    refine w_ret ?_
                                                    have hr_ := Option.some.inj e
                                                    exact ⟨[.bool true], [], S, ⟨rfl, trivial⟩, VS.none, congrArg Value.bool hr_, rfl, rfl⟩
                                                  · rw [if_neg c162] at e
                                                    exact absurd (Option.some.inj e) (by decide)
                                                · rw [if_neg c161] at e
                                                  exact absurd (Option.some.inj e) (by decide)
                                              · rw [if_neg c160] at e
                                                exact absurd (Option.some.inj e) (by decide)
                                            · rw [if_neg c159] at e
                                              exact absurd (Option.some.inj e) (by decide)
                                      · rw [if_neg c156] at e
                                        exact absurd (Option.some.inj e) (by decide)
                                    · rw [if_neg c155] at e
                                      exact absurd (Option.some.inj e) (by decide)
                                  · rw [if_neg c154] at e
                                    exact absurd (Option.some.inj e) (by decide)
                                · rw [if_neg c153] at e
                                  exact absurd (Option.some.inj e) (by decide)
                          · rw [if_neg c150] at e
                            exact absurd (Option.some.inj e) (by decide)
                        · rw [if_neg c149] at e
                          exact absurd (Option.some.inj e) (by decide)
                      · rw [if_neg c148] at e
                        exact absurd (Option.some.inj e) (by decide)
                    · rw [if_neg c147] at e
                      exact absurd (Option.some.inj e) (by decide)
              · rw [if_neg c144] at e
                exact absurd (Option.some.inj e) (by decide)
            · rw [if_neg c143] at e
              exact absurd (Option.some.inj e) (by decide)
          · rw [if_neg c142] at e
            exact absurd (Option.some.inj e) (by decide)
        · rw [if_neg c141] at e
          exact absurd (Option.some.inj e) (by decide)
  | false =>
    rw [if_neg (by decide)] at e
    exact absurd (Option.some.inj e) (by decide)

def glyphiclaw25_PaintMixes.Pure : Prop := ∀ (t0_R : Int) (t0_G : Int) (t0_B : Int) (t0_A : Int) (o1_R : Int) (o1_G : Int) (o1_B : Int) (o1_A : Int) (A2 : Int), (Lit.int .u8 t0_R).wf = true → (Lit.int .u8 t0_G).wf = true → (Lit.int .u8 t0_B).wf = true → (Lit.int .u8 t0_A).wf = true → (Lit.int .u8 o1_R).wf = true → (Lit.int .u8 o1_G).wf = true → (Lit.int .u8 o1_B).wf = true → (Lit.int .u8 o1_A).wf = true → (Lit.int .i64 A2).wf = true → ∃ k, glyphiclaw25_PaintMixes.f k t0_R t0_G t0_B t0_A o1_R o1_G o1_B o1_A A2 = some true
theorem glyphiclaw25_PaintMixes.walk (P : glyphiclaw25_PaintMixes.Pure) (t0_R : Int) (t0_G : Int) (t0_B : Int) (t0_A : Int) (o1_R : Int) (o1_G : Int) (o1_B : Int) (o1_A : Int) (A2 : Int) (w : World) (ht0_R : (Lit.int .u8 t0_R).wf = true) (ht0_G : (Lit.int .u8 t0_G).wf = true) (ht0_B : (Lit.int .u8 t0_B).wf = true) (ht0_A : (Lit.int .u8 t0_A).wf = true) (ho1_R : (Lit.int .u8 o1_R).wf = true) (ho1_G : (Lit.int .u8 o1_G).wf = true) (ho1_B : (Lit.int .u8 o1_B).wf = true) (ho1_A : (Lit.int .u8 o1_A).wf = true) (hA2 : (Lit.int .i64 A2).wf = true) :
    Calls Try.prog 12 #[.agg #[.int .u8 t0_R, .int .u8 t0_G, .int .u8 t0_B, .int .u8 t0_A], .agg #[.int .u8 o1_R, .int .u8 o1_G, .int .u8 o1_B, .int .u8 o1_A], .int .i64 A2] w fun e w' => e = .returned (.bool true) ∧ Below w.heap.size w w' := let ⟨k, h⟩ := P t0_R t0_G t0_B t0_A o1_R o1_G o1_B o1_A A2 ht0_R ht0_G ht0_B ht0_A ho1_R ho1_G ho1_B ho1_A hA2; law_w (hok0 w) (glyphiclaw25_PaintMixes.ok (k := k) h)
end Go.Proofs.Ytmbcokndaaelaaa.QPaintMixes
