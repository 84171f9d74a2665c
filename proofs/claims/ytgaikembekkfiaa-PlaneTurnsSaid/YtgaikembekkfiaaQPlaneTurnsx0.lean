/- Functions of the program as Lean functions, each with the proof of its walk. Written by gen.py, a program of these sessions. -/
import Derived.Test.YtgaikembekkfiaaX
import Derived.Test.YtgaikembekkfiaaProg
namespace Go.Proofs.Ytgaikembekkfiaa.QPlaneTurns
open Go Go.RowKit Go.Proofs.YtgaikembekkfiaaE Go.Proofs.YtgaikembekkfiaaX
set_option linter.unusedVariables false
set_option maxRecDepth 100000
theorem mixed : Try.prog.follows .mixedOrders = true := by kernel_rfl

/-- plane.Sub -/
def c48 : C :=
  (.seq (.reg [⟨(some 2), .box (.tmp 0), none⟩,
     ⟨(some 3), .box (.tmp 1), none⟩,
     ⟨(some 4), .new [(.int .i64 0), (.int .i64 0)], none⟩])
  (.seq (.reg [⟨(some 5), .pad 0 (.tmp 2), none⟩,
     ⟨(some 6), .ld none (.tmp 5), none⟩,
     ⟨(some 7), .pad 0 (.tmp 3), none⟩,
     ⟨(some 8), .ld none (.tmp 7), none⟩,
     ⟨(some 9), .bin .sub (.tmp 6) (.tmp 8), none⟩,
     ⟨(some 10), .pad 1 (.tmp 2), none⟩,
     ⟨(some 11), .ld none (.tmp 10), none⟩,
     ⟨(some 12), .pad 1 (.tmp 3), none⟩,
     ⟨(some 13), .ld none (.tmp 12), none⟩,
     ⟨(some 14), .bin .sub (.tmp 11) (.tmp 13), none⟩,
     ⟨(some 15), .bld [(.int .i64 0), (.int .i64 0)] [(0, 1, (.tmp 9)), (1, 1, (.tmp 14))], none⟩,
     ⟨none, .st 2 (.tmp 4) (.tmp 15), none⟩])
  .ret))
def plane_Sub.f (a0_X : Int) (a0_Y : Int) (b1_X : Int) (b1_Y : Int) : Option (Int × Int) := some (wr64 (a0_X - b1_X), wr64 (a0_Y - b1_Y))
theorem plane_Sub.ok {S : Seal} {a0_X : Int} {a0_Y : Int} {b1_X : Int} {b1_Y : Int} {r0_ : Int} {r1_ : Int} (e : plane_Sub.f a0_X a0_Y b1_X b1_Y = some (r0_, r1_)) :
    Cal Try.prog 48 [.agg #[.int .i64 a0_X, .int .i64 a0_Y], .agg #[.int .i64 b1_X, .int .i64 b1_Y]] [] S fun v H' S' => v = .agg #[.int .i64 r0_, .int .i64 r1_] ∧ H' = [] ∧ S' = S := by
  unfold plane_Sub.f at e
  refine cal_of (c := c48) (N := 16) Try.func48 rfl rfl (by kernel_rfl) (rs := [.cn 2 4]) (by kernel_rfl) (Nat.le_of_ble_eq_true rfl) ?_
  unfold c48
  refine w_seq ?_
  refine w_reg fun all => ?_
  refine t_a (.box rfl rfl rfl) fun b13 fb13 sb13 => ?_
  refine t_a (.box rfl rfl rfl) fun b14 fb14 sb14 => ?_
  refine t_a (.new rfl rfl) fun b15 fb15 sb15 => ?_
  refine t_keep [2, 3, 4] (σ' := [(2, .pointer (some ⟨b13, 0, none⟩)), (3, .pointer (some ⟨b14, 0, none⟩)), (4, .pointer (some ⟨b15, 0, none⟩))]) (by kernel_rfl) ?_
  refine t_end ?_
  show W _ _ _ _ _ _ _
  refine w_seq ?_
  refine w_reg fun all => ?_
  refine t_qz 1 [2, 3, 4, 5] (σ' := [(2, .pointer (some ⟨b13, 0, none⟩)), (3, .pointer (some ⟨b14, 0, none⟩)), (4, .pointer (some ⟨b15, 0, none⟩)), (5, .pointer (some ⟨b13, 0, none⟩))]) (by kernel_rfl) ?_
  refine t_v (.ld1 rfl rfl rfl (.at 2 rfl rfl)) ?_
  refine t_qz 1 [2, 3, 4, 6, 7] (σ' := [(2, .pointer (some ⟨b13, 0, none⟩)), (3, .pointer (some ⟨b14, 0, none⟩)), (4, .pointer (some ⟨b15, 0, none⟩)), (6, .int .i64 a0_X), (7, .pointer (some ⟨b14, 0, none⟩))]) (by kernel_rfl) ?_
  refine t_v (.ld1 rfl rfl rfl (.at 1 rfl rfl)) ?_
  refine t_qz 2 [3, 4, 9, 10] (σ' := [(3, .pointer (some ⟨b14, 0, none⟩)), (4, .pointer (some ⟨b15, 0, none⟩)), (9, .int .i64 (wr64 (a0_X - b1_X))), (10, .pointer (some ⟨b13, 1, none⟩))]) (by kernel_rfl) ?_
  refine t_v (.ld1 rfl rfl rfl (.at 2 rfl rfl)) ?_
  refine t_qz 1 [4, 9, 11, 12] (σ' := [(4, .pointer (some ⟨b15, 0, none⟩)), (9, .int .i64 (wr64 (a0_X - b1_X))), (11, .int .i64 a0_Y), (12, .pointer (some ⟨b14, 1, none⟩))]) (by kernel_rfl) ?_
  refine t_v (.ld1 rfl rfl rfl (.at 1 rfl rfl)) ?_
  refine t_qz 2 [4, 15] (σ' := [(4, .pointer (some ⟨b15, 0, none⟩)), (15, .agg #[.int .i64 (wr64 (a0_X - b1_X)), .int .i64 (wr64 (a0_Y - b1_Y))])]) (by kernel_rfl) ?_
  refine t_sti 0 (cs := [.int .i64 (wr64 (a0_X - b1_X)), .int .i64 (wr64 (a0_Y - b1_Y))]) rfl rfl rfl rfl rfl rfl rfl rfl rfl ?_
  refine t_keep [4] (σ' := [(4, .pointer (some ⟨b15, 0, none⟩))]) (by kernel_rfl) ?_
  refine t_end ?_
  show W _ _ _ _ _ _ _
  refine w_ret ?_
  simp only [Option.some.injEq, Prod.mk.injEq] at e
  obtain ⟨rfl, rfl⟩ := e
  exact ⟨[.agg #[.int .i64 (wr64 (a0_X - b1_X)), .int .i64 (wr64 (a0_Y - b1_Y))]], [], S, ⟨⟨_, _, _, rfl, .at 0 rfl rfl, rfl⟩, trivial⟩, VS.none, rfl, rfl, rfl⟩

/-- plane.Dot -/
def c43 : C :=
  (.seq (.reg [⟨(some 3), .box (.tmp 0), none⟩,
     ⟨(some 4), .box (.tmp 1), none⟩,
     ⟨(some 5), .box (.tmp 2), none⟩,
     ⟨(some 6), .mv (.const (.int .i64 0)), none⟩])
  (.seq (.drw [⟨(some 9), .ld (some 2) (.tmp 4), none⟩,
     ⟨(some 10), .ld (some 2) (.tmp 3), none⟩,
     ⟨(some 11), .call 48 [(.tmp 9), (.tmp 10)], none⟩,
     ⟨(some 12), .ld (some 2) (.tmp 5), none⟩,
     ⟨(some 13), .ld (some 2) (.tmp 3), none⟩,
     ⟨(some 14), .call 48 [(.tmp 12), (.tmp 13)], none⟩,
     ⟨(some 7), .new [(.int .i64 0), (.int .i64 0)], none⟩,
     ⟨(some 8), .new [(.int .i64 0), (.int .i64 0)], none⟩,
     ⟨none, .st 2 (.tmp 7) (.tmp 11), none⟩,
     ⟨none, .st 2 (.tmp 8) (.tmp 14), none⟩] [[], [], [0, 1], [], [], [3, 4, 2], [], [], [6, 2, 5, 0, 1, 2, 6, 7], [7, 5, 8, 0, 1, 2, 3, 4, 5, 6, 7, 8]])
  (.seq (.reg [⟨(some 15), .pad 0 (.tmp 7), none⟩,
     ⟨(some 16), .ld none (.tmp 15), none⟩,
     ⟨(some 17), .pad 0 (.tmp 8), none⟩,
     ⟨(some 18), .ld none (.tmp 17), none⟩,
     ⟨(some 19), .bin .mul (.tmp 16) (.tmp 18), none⟩,
     ⟨(some 20), .pad 1 (.tmp 7), none⟩,
     ⟨(some 21), .ld none (.tmp 20), none⟩,
     ⟨(some 22), .pad 1 (.tmp 8), none⟩,
     ⟨(some 23), .ld none (.tmp 22), none⟩,
     ⟨(some 24), .bin .mul (.tmp 21) (.tmp 23), none⟩,
     ⟨(some 25), .bin .add (.tmp 19) (.tmp 24), none⟩,
     ⟨(some 6), .mv (.tmp 25), none⟩])
  .ret)))
def plane_Dot.f (a0_X : Int) (a0_Y : Int) (b1_X : Int) (b1_Y : Int) (p2_X : Int) (p2_Y : Int) : Option (Int) := (plane_Sub.f b1_X b1_Y a0_X a0_Y).bind fun (t16, t17) => ((plane_Sub.f p2_X p2_Y a0_X a0_Y).bind fun (t19, t20) => (some (wr64 ((wr64 (t16 * t19)) + (wr64 (t17 * t20))))))
theorem plane_Dot.ok {S : Seal} {a0_X : Int} {a0_Y : Int} {b1_X : Int} {b1_Y : Int} {p2_X : Int} {p2_Y : Int} {r0_ : Int} (e : plane_Dot.f a0_X a0_Y b1_X b1_Y p2_X p2_Y = some r0_) :
    Cal Try.prog 43 [.agg #[.int .i64 a0_X, .int .i64 a0_Y], .agg #[.int .i64 b1_X, .int .i64 b1_Y], .agg #[.int .i64 p2_X, .int .i64 p2_Y]] [] S fun v H' S' => v = .int .i64 r0_ ∧ H' = [] ∧ S' = S := by
  unfold plane_Dot.f at e
  refine cal_of (c := c43) (N := 26) Try.func43 rfl rfl (by kernel_rfl) (rs := [.t 6]) (by kernel_rfl) (Nat.le_of_ble_eq_true rfl) ?_
  unfold c43
  refine w_seq ?_
  refine w_reg fun all => ?_
  refine t_a (.box rfl rfl rfl) fun b10 fb10 sb10 => ?_
  refine t_a (.box rfl rfl rfl) fun b11 fb11 sb11 => ?_
  refine t_a (.box rfl rfl rfl) fun b12 fb12 sb12 => ?_
  refine t_qz 1 [3, 4, 5] (σ' := [(3, .pointer (some ⟨b10, 0, none⟩)), (4, .pointer (some ⟨b11, 0, none⟩)), (5, .pointer (some ⟨b12, 0, none⟩))]) (by kernel_rfl) ?_
  refine t_end ?_
  show W _ _ _ _ _ _ _
  refine w_seq ?_
  obtain ⟨⟨t16, t17⟩, h18, e⟩ := bind_of e
  try dsimp only at e
  obtain ⟨⟨t19, t20⟩, h21, e⟩ := bind_of e
  try dsimp only at e
  refine w_drwE mixed 8 [.v (.agg #[.int .i64 b1_X, .int .i64 b1_Y]), .v (.agg #[.int .i64 a0_X, .int .i64 a0_Y]), .v (.agg #[.int .i64 t16, .int .i64 t17]), .v (.agg #[.int .i64 p2_X, .int .i64 p2_Y]), .v (.agg #[.int .i64 a0_X, .int .i64 a0_Y]), .v (.agg #[.int .i64 t19, .int .i64 t20]), .a [.int .i64 0, .int .i64 0] ptrTo, .a [.int .i64 0, .int .i64 0] ptrTo] (by kernel_rfl) ?_ ?_
  · refine .cons (.ldn rfl rfl rfl (.at 1 rfl rfl)) ?_
    refine .cons (.ldn rfl rfl rfl (.at 2 rfl rfl)) ?_
    refine .cons (.call (vs := [.agg #[.int .i64 b1_X, .int .i64 b1_Y], .agg #[.int .i64 a0_X, .int .i64 a0_Y]]) rfl rfl (by kernel_rfl) (plane_Sub.ok h18)) ?_
    refine .cons (.ldn rfl rfl rfl (.at 0 rfl rfl)) ?_
    refine .cons (.ldn rfl rfl rfl (.at 2 rfl rfl)) ?_
    refine .cons (.call (vs := [.agg #[.int .i64 p2_X, .int .i64 p2_Y], .agg #[.int .i64 a0_X, .int .i64 a0_Y]]) rfl rfl (by kernel_rfl) (plane_Sub.ok h21)) ?_
    refine .cons (.new rfl rfl) ?_
    refine .cons (.new rfl rfl) ?_
    exact .nil
  refine fk_q 6 [11, 14] (σ' := [(11, .agg #[.int .i64 t16, .int .i64 t17]), (14, .agg #[.int .i64 t19, .int .i64 t20])]) t_more (by kernel_rfl) ?_
  refine fk_a fun b22 fb22 sb22 => ?_
  refine fk_a fun b23 fb23 sb23 => ?_
  refine fk_nil fun all => ?_
  refine t_sti 1 (cs := [.int .i64 t16, .int .i64 t17]) rfl rfl rfl rfl rfl rfl rfl rfl rfl ?_
  refine t_sti 0 (cs := [.int .i64 t19, .int .i64 t20]) rfl rfl rfl rfl rfl rfl rfl rfl rfl ?_
  refine t_keep [7, 8] (σ' := [(7, .pointer (some ⟨b22, 0, none⟩)), (8, .pointer (some ⟨b23, 0, none⟩))]) (by kernel_rfl) ?_
  refine t_end ?_
  show W _ _ _ _ _ _ _
  refine w_seq ?_
  refine w_reg fun all => ?_
  refine t_qz 1 [7, 8, 15] (σ' := [(7, .pointer (some ⟨b22, 0, none⟩)), (8, .pointer (some ⟨b23, 0, none⟩)), (15, .pointer (some ⟨b22, 0, none⟩))]) (by kernel_rfl) ?_
  refine t_v (.ld1 rfl rfl rfl (.at 1 rfl rfl)) ?_
  refine t_qz 1 [7, 8, 16, 17] (σ' := [(7, .pointer (some ⟨b22, 0, none⟩)), (8, .pointer (some ⟨b23, 0, none⟩)), (16, .int .i64 t16), (17, .pointer (some ⟨b23, 0, none⟩))]) (by kernel_rfl) ?_
  refine t_v (.ld1 rfl rfl rfl (.at 0 rfl rfl)) ?_
  refine t_qz 2 [8, 19, 20] (σ' := [(8, .pointer (some ⟨b23, 0, none⟩)), (19, .int .i64 (wr64 (t16 * t19))), (20, .pointer (some ⟨b22, 1, none⟩))]) (by kernel_rfl) ?_
  refine t_v (.ld1 rfl rfl rfl (.at 1 rfl rfl)) ?_
  refine t_qz 1 [19, 21, 22] (σ' := [(19, .int .i64 (wr64 (t16 * t19))), (21, .int .i64 t17), (22, .pointer (some ⟨b23, 1, none⟩))]) (by kernel_rfl) ?_
  refine t_v (.ld1 rfl rfl rfl (.at 0 rfl rfl)) ?_
  refine t_qz 3 [6] (σ' := [(6, .int .i64 (wr64 ((wr64 (t16 * t19)) + (wr64 (t17 * t20)))))]) (by kernel_rfl) ?_
  refine t_end ?_
  show W _ _ _ _ _ _ _
  refine w_ret ?_
  obtain rfl := Option.some.inj e
  exact ⟨[.int .i64 (wr64 ((wr64 (t16 * t19)) + (wr64 (t17 * t20))))], [], S, ⟨rfl, trivial⟩, VS.none, rfl, rfl, rfl⟩

/-- plane.Len2 -/
def c45 : C :=
  (.seq (.reg [⟨(some 2), .box (.tmp 0), none⟩,
     ⟨(some 3), .box (.tmp 1), none⟩,
     ⟨(some 4), .mv (.const (.int .i64 0)), none⟩])
  (.seq (.reg [⟨(some 5), .ld (some 2) (.tmp 2), none⟩,
     ⟨(some 6), .ld (some 2) (.tmp 3), none⟩,
     ⟨(some 7), .ld (some 2) (.tmp 3), none⟩,
     ⟨(some 8), .call 43 [(.tmp 5), (.tmp 6), (.tmp 7)], none⟩,
     ⟨(some 4), .mv (.tmp 8), none⟩])
  .ret))
def plane_Len2.f (a0_X : Int) (a0_Y : Int) (b1_X : Int) (b1_Y : Int) : Option (Int) := (plane_Dot.f a0_X a0_Y b1_X b1_Y b1_X b1_Y).bind fun t28 => (some t28)
theorem plane_Len2.ok {S : Seal} {a0_X : Int} {a0_Y : Int} {b1_X : Int} {b1_Y : Int} {r0_ : Int} (e : plane_Len2.f a0_X a0_Y b1_X b1_Y = some r0_) :
    Cal Try.prog 45 [.agg #[.int .i64 a0_X, .int .i64 a0_Y], .agg #[.int .i64 b1_X, .int .i64 b1_Y]] [] S fun v H' S' => v = .int .i64 r0_ ∧ H' = [] ∧ S' = S := by
  unfold plane_Len2.f at e
  refine cal_of (c := c45) (N := 9) Try.func45 rfl rfl (by kernel_rfl) (rs := [.t 4]) (by kernel_rfl) (Nat.le_of_ble_eq_true rfl) ?_
  unfold c45
  refine w_seq ?_
  refine w_reg fun all => ?_
  refine t_a (.box rfl rfl rfl) fun b26 fb26 sb26 => ?_
  refine t_a (.box rfl rfl rfl) fun b27 fb27 sb27 => ?_
  refine t_qz 1 [2, 3] (σ' := [(2, .pointer (some ⟨b26, 0, none⟩)), (3, .pointer (some ⟨b27, 0, none⟩))]) (by kernel_rfl) ?_
  refine t_end ?_
  show W _ _ _ _ _ _ _
  refine w_seq ?_
  refine w_reg fun all => ?_
  refine t_v (.ldn rfl rfl rfl (.at 1 rfl rfl)) ?_
  refine t_v (.ldn rfl rfl rfl (.at 0 rfl rfl)) ?_
  refine t_v (.ldn rfl rfl rfl (.at 0 rfl rfl)) ?_
  obtain ⟨t28, h29, e⟩ := bind_of e
  refine t_v (.call (vs := [.agg #[.int .i64 a0_X, .int .i64 a0_Y], .agg #[.int .i64 b1_X, .int .i64 b1_Y], .agg #[.int .i64 b1_X, .int .i64 b1_Y]]) rfl rfl (by kernel_rfl) (plane_Dot.ok h29)) ?_
  refine t_qz 1 [4] (σ' := [(4, .int .i64 t28)]) (by kernel_rfl) ?_
  refine t_end ?_
  show W _ _ _ _ _ _ _
  refine w_ret ?_
  obtain rfl := Option.some.inj e
  exact ⟨[.int .i64 t28], [], S, ⟨rfl, trivial⟩, VS.none, rfl, rfl, rfl⟩

/-- plane.within$1 -/
def c63 : C :=
  (.seq (.reg [⟨(some 2), .mv (.const (.int .u64 0)), none⟩])
  (.seq (.reg [⟨(some 3), .mv (.tmp 0), none⟩,
     ⟨(some 4), .mv (.tmp 0), none⟩,
     ⟨(some 5), .un .neg (.tmp 4), none⟩,
     ⟨(some 6), .mm true [(.tmp 3), (.tmp 5)], none⟩,
     ⟨(some 7), .cnv .u64 (.tmp 6), none⟩,
     ⟨(some 2), .mv (.tmp 7), none⟩])
  .ret))
def plane_within_1.f (n0 : Int) : Option (Int) := some (wru64 (mx n0 (wr64 (0 - n0))))
theorem plane_within_1.ok {S : Seal} {n0 : Int} {r0_ : Int} (e : plane_within_1.f n0 = some r0_) :
    Cal Try.prog 63 [.int .i64 n0] [] S fun v H' S' => v = .int .u64 r0_ ∧ H' = [] ∧ S' = S := by
  unfold plane_within_1.f at e
  refine cal_of (c := c63) (N := 8) Try.func63 rfl rfl (by kernel_rfl) (rs := [.t 2]) (by kernel_rfl) (Nat.le_of_ble_eq_true rfl) ?_
  unfold c63
  refine w_seq ?_
  refine w_reg fun all => ?_
  refine t_qz 1 [0] (σ' := [(0, .int .i64 n0)]) (by kernel_rfl) ?_
  refine t_end ?_
  show W _ _ _ _ _ _ _
  refine w_seq ?_
  refine w_reg fun all => ?_
  refine t_qz 6 [2] (σ' := [(2, .int .u64 (wru64 (mx n0 (wr64 (0 - n0)))))]) (by kernel_rfl) ?_
  refine t_end ?_
  show W _ _ _ _ _ _ _
  refine w_ret ?_
  obtain rfl := Option.some.inj e
  exact ⟨[.int .u64 (wru64 (mx n0 (wr64 (0 - n0))))], [], S, ⟨rfl, trivial⟩, VS.none, rfl, rfl, rfl⟩

/-- plane.within -/
def c56 : C :=
  (.seq (.reg [⟨(some 8), .mv (.const (.bool false)), none⟩])
  (.seq (.reg [⟨(some 9), .mv (.func 63), none⟩])
  (.seq (.reg [⟨(some 15), .mv (.tmp 9), none⟩,
     ⟨(some 16), .mv (.tmp 0), none⟩,
     ⟨(some 17), .clo (.tmp 15) [(.tmp 16)], none⟩,
     ⟨(some 18), .mv (.tmp 9), none⟩,
     ⟨(some 19), .mv (.tmp 1), none⟩,
     ⟨(some 20), .clo (.tmp 18) [(.tmp 19)], none⟩,
     ⟨(some 21), .call 58 [(.tmp 17), (.tmp 20)], none⟩,
     ⟨(some 14), .mv (.tmp 21), none⟩,
     ⟨(some 22), .xt 0 (.tmp 14), none⟩,
     ⟨(some 23), .xt 1 (.tmp 14), none⟩,
     ⟨(some 10), .mv (.tmp 22), none⟩,
     ⟨(some 11), .mv (.tmp 23), none⟩])
  (.seq (.reg [⟨(some 25), .mv (.tmp 9), none⟩,
     ⟨(some 26), .mv (.tmp 2), none⟩,
     ⟨(some 27), .clo (.tmp 25) [(.tmp 26)], none⟩,
     ⟨(some 28), .mv (.tmp 9), none⟩,
     ⟨(some 29), .mv (.tmp 3), none⟩,
     ⟨(some 30), .clo (.tmp 28) [(.tmp 29)], none⟩,
     ⟨(some 31), .call 58 [(.tmp 27), (.tmp 30)], none⟩,
     ⟨(some 24), .mv (.tmp 31), none⟩,
     ⟨(some 32), .xt 0 (.tmp 24), none⟩,
     ⟨(some 33), .xt 1 (.tmp 24), none⟩,
     ⟨(some 12), .mv (.tmp 32), none⟩,
     ⟨(some 13), .mv (.tmp 33), none⟩])
  (.seq (.reg [⟨(some 34), .mv (.tmp 10), none⟩,
     ⟨(some 35), .mv (.tmp 12), none⟩,
     ⟨(some 36), .bin .lss (.tmp 34) (.tmp 35), none⟩,
     ⟨(some 37), .mv (.tmp 36), none⟩,
     ⟨(some 38), .mv (.tmp 10), (some (37, false))⟩,
     ⟨(some 39), .mv (.tmp 12), (some (37, false))⟩,
     ⟨(some 40), .bin .eql (.tmp 38) (.tmp 39), (some (37, false))⟩,
     ⟨(some 41), .mv (.tmp 40), (some (37, false))⟩,
     ⟨(some 42), .mv (.tmp 11), (some (41, true))⟩,
     ⟨(some 43), .mv (.tmp 13), (some (41, true))⟩,
     ⟨(some 44), .bin .leq (.tmp 42) (.tmp 43), (some (41, true))⟩,
     ⟨(some 45), .pk (.tmp 41) (.tmp 44) (.const (.bool false)), (some (37, false))⟩,
     ⟨(some 46), .pk (.tmp 37) (.const (.bool true)) (.tmp 45), none⟩,
     ⟨(some 8), .mv (.tmp 46), none⟩])
  .ret)))))
def plane_within.f (a0 : Int) (b1 : Int) (c2 : Int) (d3 : Int) : Option (Bool) := (plane_within_1.f a0).bind fun t35 => ((plane_within_1.f b1).bind fun t37 => ((bits_Mul64.f t35 t37).bind fun (t39, t40) => ((plane_within_1.f c2).bind fun t42 => ((plane_within_1.f d3).bind fun t44 => ((bits_Mul64.f t42 t44).bind fun (t46, t47) => (if t39 < t46 then (some true) else (if t39 = t46 then (some (decide (t40 ≤ t47))) else (some false))))))))
theorem plane_within.ok {S : Seal} {a0 : Int} {b1 : Int} {c2 : Int} {d3 : Int} {r0_ : Bool} (e : plane_within.f a0 b1 c2 d3 = some r0_) :
    Cal Try.prog 56 [.int .i64 a0, .int .i64 b1, .int .i64 c2, .int .i64 d3] [] S fun v H' S' => v = .bool r0_ ∧ H' = [] ∧ S' = S := by
  unfold plane_within.f at e
  refine cal_of (c := c56) (N := 47) Try.func56 rfl rfl (by kernel_rfl) (rs := [.t 8]) (by kernel_rfl) (Nat.le_of_ble_eq_true rfl) ?_
  unfold c56
  refine w_seq ?_
  refine w_reg fun all => ?_
  refine t_qz 1 [0, 1, 2, 3] (σ' := [(0, .int .i64 a0), (1, .int .i64 b1), (2, .int .i64 c2), (3, .int .i64 d3)]) (by kernel_rfl) ?_
  refine t_end ?_
  show W _ _ _ _ _ _ _
  refine w_seq ?_
  refine w_reg fun all => ?_
  refine t_qz 1 [0, 1, 2, 3, 9] (σ' := [(0, .int .i64 a0), (1, .int .i64 b1), (2, .int .i64 c2), (3, .int .i64 d3), (9, .func (.func 63) #[] #[])]) (by kernel_rfl) ?_
  refine t_end ?_
  show W _ _ _ _ _ _ _
  refine w_seq ?_
  refine w_reg fun all => ?_
  obtain ⟨t35, h36, e⟩ := bind_of e
  refine t_qz 2 [1, 2, 3, 9, 15, 16] (σ' := [(1, .int .i64 b1), (2, .int .i64 c2), (3, .int .i64 d3), (9, .func (.func 63) #[] #[]), (15, .func (.func 63) #[] #[]), (16, .int .i64 a0)]) (by kernel_rfl) ?_
  refine t_v (.clor (vs := [.int .i64 a0]) (caps := #[]) (A := ([] : List Own)) (F0 := ([] : List Own)) rfl rfl rfl (by kernel_rfl) (by kernel_rfl) (sel_perm (is := []) (by kernel_rfl)) (plane_within_1.ok h36)) ?_
  obtain ⟨t37, h38, e⟩ := bind_of e
  refine t_qz 2 [2, 3, 9, 17, 18, 19] (σ' := [(2, .int .i64 c2), (3, .int .i64 d3), (9, .func (.func 63) #[] #[]), (17, .int .u64 t35), (18, .func (.func 63) #[] #[]), (19, .int .i64 b1)]) (by kernel_rfl) ?_
  refine t_v (.clor (vs := [.int .i64 b1]) (caps := #[]) (A := ([] : List Own)) (F0 := ([] : List Own)) rfl rfl rfl (by kernel_rfl) (by kernel_rfl) (sel_perm (is := []) (by kernel_rfl)) (plane_within_1.ok h38)) ?_
  obtain ⟨⟨t39, t40⟩, h41, e⟩ := bind_of e
  try dsimp only at e
  refine t_v (.call (vs := [.int .u64 t35, .int .u64 t37]) rfl rfl (by kernel_rfl) (bits_Mul64.ok h41)) ?_
  refine t_qz 5 [2, 3, 9, 10, 11] (σ' := [(2, .int .i64 c2), (3, .int .i64 d3), (9, .func (.func 63) #[] #[]), (10, .int .u64 t39), (11, .int .u64 t40)]) (by kernel_rfl) ?_
  refine t_end ?_
  show W _ _ _ _ _ _ _
  refine w_seq ?_
  refine w_reg fun all => ?_
  obtain ⟨t42, h43, e⟩ := bind_of e
  refine t_qz 2 [3, 9, 10, 11, 25, 26] (σ' := [(3, .int .i64 d3), (9, .func (.func 63) #[] #[]), (10, .int .u64 t39), (11, .int .u64 t40), (25, .func (.func 63) #[] #[]), (26, .int .i64 c2)]) (by kernel_rfl) ?_
  refine t_v (.clor (vs := [.int .i64 c2]) (caps := #[]) (A := ([] : List Own)) (F0 := ([] : List Own)) rfl rfl rfl (by kernel_rfl) (by kernel_rfl) (sel_perm (is := []) (by kernel_rfl)) (plane_within_1.ok h43)) ?_
  obtain ⟨t44, h45, e⟩ := bind_of e
  refine t_qz 2 [10, 11, 27, 28, 29] (σ' := [(10, .int .u64 t39), (11, .int .u64 t40), (27, .int .u64 t42), (28, .func (.func 63) #[] #[]), (29, .int .i64 d3)]) (by kernel_rfl) ?_
  refine t_v (.clor (vs := [.int .i64 d3]) (caps := #[]) (A := ([] : List Own)) (F0 := ([] : List Own)) rfl rfl rfl (by kernel_rfl) (by kernel_rfl) (sel_perm (is := []) (by kernel_rfl)) (plane_within_1.ok h45)) ?_
  obtain ⟨⟨t46, t47⟩, h48, e⟩ := bind_of e
  try dsimp only at e
  refine t_v (.call (vs := [.int .u64 t42, .int .u64 t44]) rfl rfl (by kernel_rfl) (bits_Mul64.ok h48)) ?_
  refine t_qz 5 [10, 11, 12, 13] (σ' := [(10, .int .u64 t39), (11, .int .u64 t40), (12, .int .u64 t46), (13, .int .u64 t47)]) (by kernel_rfl) ?_
  refine t_end ?_
  show W _ _ _ _ _ _ _
  refine w_seq ?_
  refine w_reg fun all => ?_
  by_cases c49 : t39 < t46
  · rw [if_pos c49] at e
    have c49b : (decide (t39 < t46)) = true := decide_eq_true c49
    refine t_qz 2 [10, 11, 12, 13, 34, 35] (σ' := [(10, .int .u64 t39), (11, .int .u64 t40), (12, .int .u64 t46), (13, .int .u64 t47), (34, .int .u64 t39), (35, .int .u64 t46)]) (by kernel_rfl) ?_
    refine t_v (dv_quiet rfl (congrArg (fun t => some (Value.bool t)) c49b)) ?_
    refine t_qz 11 [8] (σ' := [(8, .bool true)]) (by kernel_rfl) ?_
    refine t_end ?_
    show W _ _ _ _ _ _ _
    refine w_ret ?_
    obtain rfl := Option.some.inj e
    exact ⟨[.bool true], [], S, ⟨rfl, trivial⟩, VS.none, rfl, rfl, rfl⟩
  · rw [if_neg c49] at e
    have c49b : (decide (t39 < t46)) = false := decide_eq_false c49
    refine t_qz 2 [10, 11, 12, 13, 34, 35] (σ' := [(10, .int .u64 t39), (11, .int .u64 t40), (12, .int .u64 t46), (13, .int .u64 t47), (34, .int .u64 t39), (35, .int .u64 t46)]) (by kernel_rfl) ?_
    refine t_v (dv_quiet rfl (congrArg (fun t => some (Value.bool t)) c49b)) ?_
    by_cases c50 : t39 = t46
    · rw [if_pos c50] at e
      have c50b : (t39 == t46) = true := beq_iff_eq.mpr c50
      refine t_qz 3 [11, 13, 37, 38, 39] (σ' := [(11, .int .u64 t40), (13, .int .u64 t47), (37, .bool false), (38, .int .u64 t39), (39, .int .u64 t46)]) (by kernel_rfl) ?_
      refine t_v (dv_quiet rfl (congrArg (fun t => some (Value.bool t)) c50b)) ?_
      refine t_qz 7 [8] (σ' := [(8, .bool (decide (t40 ≤ t47)))]) (by kernel_rfl) ?_
      refine t_end ?_
      show W _ _ _ _ _ _ _
      refine w_ret ?_
      obtain rfl := Option.some.inj e
      exact ⟨[.bool (decide (t40 ≤ t47))], [], S, ⟨rfl, trivial⟩, VS.none, rfl, rfl, rfl⟩
    · rw [if_neg c50] at e
      have c50b : (t39 == t46) = false := beq_eq_false_iff_ne.mpr c50
      refine t_qz 3 [11, 13, 37, 38, 39] (σ' := [(11, .int .u64 t40), (13, .int .u64 t47), (37, .bool false), (38, .int .u64 t39), (39, .int .u64 t46)]) (by kernel_rfl) ?_
      refine t_v (dv_quiet rfl (congrArg (fun t => some (Value.bool t)) c50b)) ?_
      refine t_qz 7 [8] (σ' := [(8, .bool false)]) (by kernel_rfl) ?_
      refine t_end ?_
      show W _ _ _ _ _ _ _
      refine w_ret ?_
      obtain rfl := Option.some.inj e
      exact ⟨[.bool false], [], S, ⟨rfl, trivial⟩, VS.none, rfl, rfl, rfl⟩

/-- plane.Cross -/
def c41 : C :=
  (.seq (.reg [⟨(some 3), .box (.tmp 0), none⟩,
     ⟨(some 4), .box (.tmp 1), none⟩,
     ⟨(some 5), .box (.tmp 2), none⟩,
     ⟨(some 6), .mv (.const (.int .i64 0)), none⟩])
  (.seq (.drw [⟨(some 9), .ld (some 2) (.tmp 4), none⟩,
     ⟨(some 10), .ld (some 2) (.tmp 3), none⟩,
     ⟨(some 11), .call 48 [(.tmp 9), (.tmp 10)], none⟩,
     ⟨(some 12), .ld (some 2) (.tmp 5), none⟩,
     ⟨(some 13), .ld (some 2) (.tmp 3), none⟩,
     ⟨(some 14), .call 48 [(.tmp 12), (.tmp 13)], none⟩,
     ⟨(some 7), .new [(.int .i64 0), (.int .i64 0)], none⟩,
     ⟨(some 8), .new [(.int .i64 0), (.int .i64 0)], none⟩,
     ⟨none, .st 2 (.tmp 7) (.tmp 11), none⟩,
     ⟨none, .st 2 (.tmp 8) (.tmp 14), none⟩] [[], [], [0, 1], [], [], [3, 4, 2], [], [], [6, 2, 5, 0, 1, 2, 6, 7], [7, 5, 8, 0, 1, 2, 3, 4, 5, 6, 7, 8]])
  (.seq (.reg [⟨(some 15), .pad 0 (.tmp 7), none⟩,
     ⟨(some 16), .ld none (.tmp 15), none⟩,
     ⟨(some 17), .pad 1 (.tmp 8), none⟩,
     ⟨(some 18), .ld none (.tmp 17), none⟩,
     ⟨(some 19), .bin .mul (.tmp 16) (.tmp 18), none⟩,
     ⟨(some 20), .pad 1 (.tmp 7), none⟩,
     ⟨(some 21), .ld none (.tmp 20), none⟩,
     ⟨(some 22), .pad 0 (.tmp 8), none⟩,
     ⟨(some 23), .ld none (.tmp 22), none⟩,
     ⟨(some 24), .bin .mul (.tmp 21) (.tmp 23), none⟩,
     ⟨(some 25), .bin .sub (.tmp 19) (.tmp 24), none⟩,
     ⟨(some 6), .mv (.tmp 25), none⟩])
  .ret)))
def plane_Cross.f (a0_X : Int) (a0_Y : Int) (b1_X : Int) (b1_Y : Int) (p2_X : Int) (p2_Y : Int) : Option (Int) := (plane_Sub.f b1_X b1_Y a0_X a0_Y).bind fun (t45, t46) => ((plane_Sub.f p2_X p2_Y a0_X a0_Y).bind fun (t48, t49) => (some (wr64 ((wr64 (t45 * t49)) - (wr64 (t46 * t48))))))
theorem plane_Cross.ok {S : Seal} {a0_X : Int} {a0_Y : Int} {b1_X : Int} {b1_Y : Int} {p2_X : Int} {p2_Y : Int} {r0_ : Int} (e : plane_Cross.f a0_X a0_Y b1_X b1_Y p2_X p2_Y = some r0_) :
    Cal Try.prog 41 [.agg #[.int .i64 a0_X, .int .i64 a0_Y], .agg #[.int .i64 b1_X, .int .i64 b1_Y], .agg #[.int .i64 p2_X, .int .i64 p2_Y]] [] S fun v H' S' => v = .int .i64 r0_ ∧ H' = [] ∧ S' = S := by
  unfold plane_Cross.f at e
  refine cal_of (c := c41) (N := 26) Try.func41 rfl rfl (by kernel_rfl) (rs := [.t 6]) (by kernel_rfl) (Nat.le_of_ble_eq_true rfl) ?_
  unfold c41
  refine w_seq ?_
  refine w_reg fun all => ?_
  refine t_a (.box rfl rfl rfl) fun b42 fb42 sb42 => ?_
  refine t_a (.box rfl rfl rfl) fun b43 fb43 sb43 => ?_
  refine t_a (.box rfl rfl rfl) fun b44 fb44 sb44 => ?_
  refine t_qz 1 [3, 4, 5] (σ' := [(3, .pointer (some ⟨b42, 0, none⟩)), (4, .pointer (some ⟨b43, 0, none⟩)), (5, .pointer (some ⟨b44, 0, none⟩))]) (by kernel_rfl) ?_
  refine t_end ?_
  show W _ _ _ _ _ _ _
  refine w_seq ?_
  obtain ⟨⟨t45, t46⟩, h47, e⟩ := bind_of e
  try dsimp only at e
  obtain ⟨⟨t48, t49⟩, h50, e⟩ := bind_of e
  try dsimp only at e
  refine w_drwE mixed 8 [.v (.agg #[.int .i64 b1_X, .int .i64 b1_Y]), .v (.agg #[.int .i64 a0_X, .int .i64 a0_Y]), .v (.agg #[.int .i64 t45, .int .i64 t46]), .v (.agg #[.int .i64 p2_X, .int .i64 p2_Y]), .v (.agg #[.int .i64 a0_X, .int .i64 a0_Y]), .v (.agg #[.int .i64 t48, .int .i64 t49]), .a [.int .i64 0, .int .i64 0] ptrTo, .a [.int .i64 0, .int .i64 0] ptrTo] (by kernel_rfl) ?_ ?_
  · refine .cons (.ldn rfl rfl rfl (.at 1 rfl rfl)) ?_
    refine .cons (.ldn rfl rfl rfl (.at 2 rfl rfl)) ?_
    refine .cons (.call (vs := [.agg #[.int .i64 b1_X, .int .i64 b1_Y], .agg #[.int .i64 a0_X, .int .i64 a0_Y]]) rfl rfl (by kernel_rfl) (plane_Sub.ok h47)) ?_
    refine .cons (.ldn rfl rfl rfl (.at 0 rfl rfl)) ?_
    refine .cons (.ldn rfl rfl rfl (.at 2 rfl rfl)) ?_
    refine .cons (.call (vs := [.agg #[.int .i64 p2_X, .int .i64 p2_Y], .agg #[.int .i64 a0_X, .int .i64 a0_Y]]) rfl rfl (by kernel_rfl) (plane_Sub.ok h50)) ?_
    refine .cons (.new rfl rfl) ?_
    refine .cons (.new rfl rfl) ?_
    exact .nil
  refine fk_q 6 [11, 14] (σ' := [(11, .agg #[.int .i64 t45, .int .i64 t46]), (14, .agg #[.int .i64 t48, .int .i64 t49])]) t_more (by kernel_rfl) ?_
  refine fk_a fun b51 fb51 sb51 => ?_
  refine fk_a fun b52 fb52 sb52 => ?_
  refine fk_nil fun all => ?_
  refine t_sti 1 (cs := [.int .i64 t45, .int .i64 t46]) rfl rfl rfl rfl rfl rfl rfl rfl rfl ?_
  refine t_sti 0 (cs := [.int .i64 t48, .int .i64 t49]) rfl rfl rfl rfl rfl rfl rfl rfl rfl ?_
  refine t_keep [7, 8] (σ' := [(7, .pointer (some ⟨b51, 0, none⟩)), (8, .pointer (some ⟨b52, 0, none⟩))]) (by kernel_rfl) ?_
  refine t_end ?_
  show W _ _ _ _ _ _ _
  refine w_seq ?_
  refine w_reg fun all => ?_
  refine t_qz 1 [7, 8, 15] (σ' := [(7, .pointer (some ⟨b51, 0, none⟩)), (8, .pointer (some ⟨b52, 0, none⟩)), (15, .pointer (some ⟨b51, 0, none⟩))]) (by kernel_rfl) ?_
  refine t_v (.ld1 rfl rfl rfl (.at 1 rfl rfl)) ?_
  refine t_qz 1 [7, 8, 16, 17] (σ' := [(7, .pointer (some ⟨b51, 0, none⟩)), (8, .pointer (some ⟨b52, 0, none⟩)), (16, .int .i64 t45), (17, .pointer (some ⟨b52, 1, none⟩))]) (by kernel_rfl) ?_
  refine t_v (.ld1 rfl rfl rfl (.at 0 rfl rfl)) ?_
  refine t_qz 2 [8, 19, 20] (σ' := [(8, .pointer (some ⟨b52, 0, none⟩)), (19, .int .i64 (wr64 (t45 * t49))), (20, .pointer (some ⟨b51, 1, none⟩))]) (by kernel_rfl) ?_
  refine t_v (.ld1 rfl rfl rfl (.at 1 rfl rfl)) ?_
  refine t_qz 1 [19, 21, 22] (σ' := [(19, .int .i64 (wr64 (t45 * t49))), (21, .int .i64 t46), (22, .pointer (some ⟨b52, 0, none⟩))]) (by kernel_rfl) ?_
  refine t_v (.ld1 rfl rfl rfl (.at 0 rfl rfl)) ?_
  refine t_qz 3 [6] (σ' := [(6, .int .i64 (wr64 ((wr64 (t45 * t49)) - (wr64 (t46 * t48)))))]) (by kernel_rfl) ?_
  refine t_end ?_
  show W _ _ _ _ _ _ _
  refine w_ret ?_
  obtain rfl := Option.some.inj e
  exact ⟨[.int .i64 (wr64 ((wr64 (t45 * t49)) - (wr64 (t46 * t48))))], [], S, ⟨rfl, trivial⟩, VS.none, rfl, rfl, rfl⟩

/-- plane.Near -/
def c38 : C :=
  (.seq (.reg [⟨(some 4), .box (.tmp 0), none⟩,
     ⟨(some 5), .box (.tmp 1), none⟩,
     ⟨(some 6), .box (.tmp 2), none⟩,
     ⟨(some 8), .mv (.const (.bool false)), none⟩])
  (.seq (.drw [⟨(some 12), .ld (some 2) (.tmp 4), none⟩,
     ⟨(some 13), .ld (some 2) (.tmp 5), none⟩,
     ⟨(some 14), .ld (some 2) (.tmp 6), none⟩,
     ⟨(some 15), .call 43 [(.tmp 12), (.tmp 13), (.tmp 14)], none⟩,
     ⟨(some 16), .ld (some 2) (.tmp 4), none⟩,
     ⟨(some 17), .ld (some 2) (.tmp 5), none⟩,
     ⟨(some 18), .call 45 [(.tmp 16), (.tmp 17)], none⟩,
     ⟨(some 9), .mv (.tmp 15), none⟩,
     ⟨(some 10), .mv (.tmp 18), none⟩] [[], [], [], [0, 1, 2], [], [], [4, 5, 3], [3, 6, 0, 1, 2, 3], [6, 7, 0, 1, 2, 3, 4, 5, 6, 7]])
  (.seq (.block 0 (.seq (.reg [⟨(some 20), .mv (.tmp 9), none⟩,
       ⟨(some 21), .bin .leq (.tmp 20) (.const (.int .i64 0)), none⟩,
       ⟨(some 19), .mv (.tmp 21), none⟩])
    (.cond (.tmp 19)
     (.seq (.reg [⟨(some 22), .ld (some 2) (.tmp 4), none⟩,
         ⟨(some 23), .ld (some 2) (.tmp 6), none⟩,
         ⟨(some 24), .call 45 [(.tmp 22), (.tmp 23)], none⟩,
         ⟨(some 25), .mv (.tmp 3), none⟩,
         ⟨(some 26), .mv (.tmp 3), none⟩,
         ⟨(some 27), .call 56 [(.const (.int .i64 4)), (.tmp 24), (.tmp 25), (.tmp 26)], none⟩,
         ⟨(some 8), .mv (.tmp 27), none⟩])
      .ret)
     (.seq (.reg [⟨(some 29), .mv (.tmp 9), none⟩,
         ⟨(some 30), .mv (.tmp 10), none⟩,
         ⟨(some 31), .bin .geq (.tmp 29) (.tmp 30), none⟩,
         ⟨(some 28), .mv (.tmp 31), none⟩])
      (.cond (.tmp 28)
       (.seq (.reg [⟨(some 32), .ld (some 2) (.tmp 5), none⟩,
           ⟨(some 33), .ld (some 2) (.tmp 6), none⟩,
           ⟨(some 34), .call 45 [(.tmp 32), (.tmp 33)], none⟩,
           ⟨(some 35), .mv (.tmp 3), none⟩,
           ⟨(some 36), .mv (.tmp 3), none⟩,
           ⟨(some 37), .call 56 [(.const (.int .i64 4)), (.tmp 34), (.tmp 35), (.tmp 36)], none⟩,
           ⟨(some 8), .mv (.tmp 37), none⟩])
        .ret)
       .skip)))))
  (.seq (.reg [⟨(some 38), .ld (some 2) (.tmp 4), none⟩,
     ⟨(some 39), .ld (some 2) (.tmp 5), none⟩,
     ⟨(some 40), .ld (some 2) (.tmp 6), none⟩,
     ⟨(some 41), .call 41 [(.tmp 38), (.tmp 39), (.tmp 40)], none⟩,
     ⟨(some 42), .bin .mul (.const (.int .i64 2)) (.tmp 41), none⟩,
     ⟨(some 11), .mv (.tmp 42), none⟩])
  (.seq (.reg [⟨(some 43), .mv (.tmp 11), none⟩,
     ⟨(some 44), .mv (.tmp 11), none⟩,
     ⟨(some 45), .mv (.tmp 3), none⟩,
     ⟨(some 46), .mv (.tmp 3), none⟩,
     ⟨(some 47), .bin .mul (.tmp 45) (.tmp 46), none⟩,
     ⟨(some 48), .mv (.tmp 10), none⟩,
     ⟨(some 49), .call 56 [(.tmp 43), (.tmp 44), (.tmp 47), (.tmp 48)], none⟩,
     ⟨(some 8), .mv (.tmp 49), none⟩])
  .ret)))))
def plane_Near.f (a0_X : Int) (a0_Y : Int) (b1_X : Int) (b1_Y : Int) (p2_X : Int) (p2_Y : Int) (w3 : Int) : Option (Bool) := (plane_Dot.f a0_X a0_Y b1_X b1_Y p2_X p2_Y).bind fun t24 => ((plane_Len2.f a0_X a0_Y b1_X b1_Y).bind fun t30 => (if t24 ≤ 0 then ((plane_Len2.f a0_X a0_Y p2_X p2_Y).bind fun t33 => ((plane_within.f 4 t33 w3 w3).bind fun t35 => (some t35))) else (if t24 ≥ t30 then ((plane_Len2.f b1_X b1_Y p2_X p2_Y).bind fun t38 => ((plane_within.f 4 t38 w3 w3).bind fun t40 => (some t40))) else ((plane_Cross.f a0_X a0_Y b1_X b1_Y p2_X p2_Y).bind fun t53 => ((plane_within.f (wr64 (2 * t53)) (wr64 (2 * t53)) (wr64 (w3 * w3)) t30).bind fun t55 => (some t55))))))
theorem plane_Near.ok {S : Seal} {a0_X : Int} {a0_Y : Int} {b1_X : Int} {b1_Y : Int} {p2_X : Int} {p2_Y : Int} {w3 : Int} {r0_ : Bool} (e : plane_Near.f a0_X a0_Y b1_X b1_Y p2_X p2_Y w3 = some r0_) :
    Cal Try.prog 38 [.agg #[.int .i64 a0_X, .int .i64 a0_Y], .agg #[.int .i64 b1_X, .int .i64 b1_Y], .agg #[.int .i64 p2_X, .int .i64 p2_Y], .int .i64 w3] [] S fun v H' S' => v = .bool r0_ ∧ H' = [] ∧ S' = S := by
  unfold plane_Near.f at e
  refine cal_of (c := c38) (N := 50) Try.func38 rfl rfl (by kernel_rfl) (rs := [.t 8]) (by kernel_rfl) (Nat.le_of_ble_eq_true rfl) ?_
  unfold c38
  refine w_seq ?_
  refine w_reg fun all => ?_
  refine t_a (.box rfl rfl rfl) fun b7 fb7 sb7 => ?_
  refine t_a (.box rfl rfl rfl) fun b8 fb8 sb8 => ?_
  refine t_a (.box rfl rfl rfl) fun b9 fb9 sb9 => ?_
  refine t_qz 1 [3, 4, 5, 6] (σ' := [(3, .int .i64 w3), (4, .pointer (some ⟨b7, 0, none⟩)), (5, .pointer (some ⟨b8, 0, none⟩)), (6, .pointer (some ⟨b9, 0, none⟩))]) (by kernel_rfl) ?_
  refine t_end ?_
  show W _ _ _ _ _ _ _
  refine w_seq ?_
  obtain ⟨t24, h25, e⟩ := bind_of e
  obtain ⟨t30, h31, e⟩ := bind_of e
  refine w_drwE mixed 9 [.v (.agg #[.int .i64 a0_X, .int .i64 a0_Y]), .v (.agg #[.int .i64 b1_X, .int .i64 b1_Y]), .v (.agg #[.int .i64 p2_X, .int .i64 p2_Y]), .v (.int .i64 t24), .v (.agg #[.int .i64 a0_X, .int .i64 a0_Y]), .v (.agg #[.int .i64 b1_X, .int .i64 b1_Y]), .v (.int .i64 t30), .v (.int .i64 t24), .v (.int .i64 t30)] (by kernel_rfl) ?_ ?_
  · refine .cons (.ldn rfl rfl rfl (.at 2 rfl rfl)) ?_
    refine .cons (.ldn rfl rfl rfl (.at 1 rfl rfl)) ?_
    refine .cons (.ldn rfl rfl rfl (.at 0 rfl rfl)) ?_
    refine .cons (.call (vs := [.agg #[.int .i64 a0_X, .int .i64 a0_Y], .agg #[.int .i64 b1_X, .int .i64 b1_Y], .agg #[.int .i64 p2_X, .int .i64 p2_Y]]) rfl rfl (by kernel_rfl) (plane_Dot.ok h25)) ?_
    refine .cons (.ldn rfl rfl rfl (.at 2 rfl rfl)) ?_
    refine .cons (.ldn rfl rfl rfl (.at 1 rfl rfl)) ?_
    refine .cons (.call (vs := [.agg #[.int .i64 a0_X, .int .i64 a0_Y], .agg #[.int .i64 b1_X, .int .i64 b1_Y]]) rfl rfl (by kernel_rfl) (plane_Len2.ok h31)) ?_
    refine DI.sq 2 (by kernel_rfl) rfl ?_
    exact .nil
  refine fk_q 9 [3, 4, 5, 6, 9, 10] (σ' := [(3, .int .i64 w3), (4, .pointer (some ⟨b7, 0, none⟩)), (5, .pointer (some ⟨b8, 0, none⟩)), (6, .pointer (some ⟨b9, 0, none⟩)), (9, .int .i64 t24), (10, .int .i64 t30)]) t_more (by kernel_rfl) ?_
  refine fk_nil fun all => ?_
  refine t_keep [3, 4, 5, 6, 9, 10] (σ' := [(3, .int .i64 w3), (4, .pointer (some ⟨b7, 0, none⟩)), (5, .pointer (some ⟨b8, 0, none⟩)), (6, .pointer (some ⟨b9, 0, none⟩)), (9, .int .i64 t24), (10, .int .i64 t30)]) (by kernel_rfl) ?_
  refine t_end ?_
  show W _ _ _ _ _ _ _
  refine w_seq ?_
  refine w_block ?_
  refine w_seq ?_
  refine w_reg fun all => ?_
  by_cases c32 : t24 ≤ 0
  · rw [if_pos c32] at e
    have c32b : (decide (t24 ≤ 0)) = true := decide_eq_true c32
    refine t_qz 1 [3, 4, 5, 6, 9, 10, 20] (σ' := [(3, .int .i64 w3), (4, .pointer (some ⟨b7, 0, none⟩)), (5, .pointer (some ⟨b8, 0, none⟩)), (6, .pointer (some ⟨b9, 0, none⟩)), (9, .int .i64 t24), (10, .int .i64 t30), (20, .int .i64 t24)]) (by kernel_rfl) ?_
    refine t_v (dv_quiet rfl (congrArg (fun t => some (Value.bool t)) c32b)) ?_
    refine t_qz 1 [3, 4, 5, 6, 9, 10, 19] (σ' := [(3, .int .i64 w3), (4, .pointer (some ⟨b7, 0, none⟩)), (5, .pointer (some ⟨b8, 0, none⟩)), (6, .pointer (some ⟨b9, 0, none⟩)), (9, .int .i64 t24), (10, .int .i64 t30), (19, .bool true)]) (by kernel_rfl) ?_
    refine t_end ?_
    show W _ _ _ _ _ _ _
    refine w_cond rfl (fun _ => ?_) (fun c_ => by cases c_)
    show W _ _ _ _ _ _ _
    refine w_seq ?_
    refine w_reg fun all => ?_
    refine t_v (.ldn rfl rfl rfl (.at 2 rfl rfl)) ?_
    refine t_v (.ldn rfl rfl rfl (.at 0 rfl rfl)) ?_
    obtain ⟨t33, h34, e⟩ := bind_of e
    refine t_v (.call (vs := [.agg #[.int .i64 a0_X, .int .i64 a0_Y], .agg #[.int .i64 p2_X, .int .i64 p2_Y]]) rfl rfl (by kernel_rfl) (plane_Len2.ok h34)) ?_
    obtain ⟨t35, h36, e⟩ := bind_of e
    refine t_qz 2 [24, 25, 26] (σ' := [(24, .int .i64 t33), (25, .int .i64 w3), (26, .int .i64 w3)]) (by kernel_rfl) ?_
    refine t_v (.call (vs := [.int .i64 4, .int .i64 t33, .int .i64 w3, .int .i64 w3]) rfl rfl (by kernel_rfl) (plane_within.ok h36)) ?_
    refine t_qz 1 [8] (σ' := [(8, .bool t35)]) (by kernel_rfl) ?_
    refine t_end ?_
    show W _ _ _ _ _ _ _
    refine w_ret ?_
    obtain rfl := Option.some.inj e
    exact ⟨[.bool t35], [], S, ⟨rfl, trivial⟩, VS.none, rfl, rfl, rfl⟩
  · rw [if_neg c32] at e
    have c32b : (decide (t24 ≤ 0)) = false := decide_eq_false c32
    refine t_qz 1 [3, 4, 5, 6, 9, 10, 20] (σ' := [(3, .int .i64 w3), (4, .pointer (some ⟨b7, 0, none⟩)), (5, .pointer (some ⟨b8, 0, none⟩)), (6, .pointer (some ⟨b9, 0, none⟩)), (9, .int .i64 t24), (10, .int .i64 t30), (20, .int .i64 t24)]) (by kernel_rfl) ?_
    refine t_v (dv_quiet rfl (congrArg (fun t => some (Value.bool t)) c32b)) ?_
    refine t_qz 1 [3, 4, 5, 6, 9, 10, 19] (σ' := [(3, .int .i64 w3), (4, .pointer (some ⟨b7, 0, none⟩)), (5, .pointer (some ⟨b8, 0, none⟩)), (6, .pointer (some ⟨b9, 0, none⟩)), (9, .int .i64 t24), (10, .int .i64 t30), (19, .bool false)]) (by kernel_rfl) ?_
    refine t_end ?_
    show W _ _ _ _ _ _ _
    refine w_cond rfl (fun c_ => by cases c_) (fun _ => ?_)
    show W _ _ _ _ _ _ _
    refine w_seq ?_
    refine w_reg fun all => ?_
    by_cases c37 : t24 ≥ t30
    · rw [if_pos c37] at e
      have c37b : (decide (t24 ≥ t30)) = true := decide_eq_true c37
      refine t_qz 2 [3, 4, 5, 6, 10, 29, 30] (σ' := [(3, .int .i64 w3), (4, .pointer (some ⟨b7, 0, none⟩)), (5, .pointer (some ⟨b8, 0, none⟩)), (6, .pointer (some ⟨b9, 0, none⟩)), (10, .int .i64 t30), (29, .int .i64 t24), (30, .int .i64 t30)]) (by kernel_rfl) ?_
      refine t_v (dv_quiet rfl (congrArg (fun t => some (Value.bool t)) c37b)) ?_
      refine t_qz 1 [3, 4, 5, 6, 10, 28] (σ' := [(3, .int .i64 w3), (4, .pointer (some ⟨b7, 0, none⟩)), (5, .pointer (some ⟨b8, 0, none⟩)), (6, .pointer (some ⟨b9, 0, none⟩)), (10, .int .i64 t30), (28, .bool true)]) (by kernel_rfl) ?_
      refine t_end ?_
      show W _ _ _ _ _ _ _
      refine w_cond rfl (fun _ => ?_) (fun c_ => by cases c_)
      show W _ _ _ _ _ _ _
      refine w_seq ?_
      refine w_reg fun all => ?_
      refine t_v (.ldn rfl rfl rfl (.at 1 rfl rfl)) ?_
      refine t_v (.ldn rfl rfl rfl (.at 0 rfl rfl)) ?_
      obtain ⟨t38, h39, e⟩ := bind_of e
      refine t_v (.call (vs := [.agg #[.int .i64 b1_X, .int .i64 b1_Y], .agg #[.int .i64 p2_X, .int .i64 p2_Y]]) rfl rfl (by kernel_rfl) (plane_Len2.ok h39)) ?_
      obtain ⟨t40, h41, e⟩ := bind_of e
      refine t_qz 2 [34, 35, 36] (σ' := [(34, .int .i64 t38), (35, .int .i64 w3), (36, .int .i64 w3)]) (by kernel_rfl) ?_
      refine t_v (.call (vs := [.int .i64 4, .int .i64 t38, .int .i64 w3, .int .i64 w3]) rfl rfl (by kernel_rfl) (plane_within.ok h41)) ?_
      refine t_qz 1 [8] (σ' := [(8, .bool t40)]) (by kernel_rfl) ?_
      refine t_end ?_
      show W _ _ _ _ _ _ _
      refine w_ret ?_
      obtain rfl := Option.some.inj e
      exact ⟨[.bool t40], [], S, ⟨rfl, trivial⟩, VS.none, rfl, rfl, rfl⟩
    · rw [if_neg c37] at e
      have c37b : (decide (t24 ≥ t30)) = false := decide_eq_false c37
      refine t_qz 2 [3, 4, 5, 6, 10, 29, 30] (σ' := [(3, .int .i64 w3), (4, .pointer (some ⟨b7, 0, none⟩)), (5, .pointer (some ⟨b8, 0, none⟩)), (6, .pointer (some ⟨b9, 0, none⟩)), (10, .int .i64 t30), (29, .int .i64 t24), (30, .int .i64 t30)]) (by kernel_rfl) ?_
      refine t_v (dv_quiet rfl (congrArg (fun t => some (Value.bool t)) c37b)) ?_
      refine t_qz 1 [3, 4, 5, 6, 10, 28] (σ' := [(3, .int .i64 w3), (4, .pointer (some ⟨b7, 0, none⟩)), (5, .pointer (some ⟨b8, 0, none⟩)), (6, .pointer (some ⟨b9, 0, none⟩)), (10, .int .i64 t30), (28, .bool false)]) (by kernel_rfl) ?_
      refine t_end ?_
      show W _ _ _ _ _ _ _
      refine w_cond rfl (fun c_ => by cases c_) (fun _ => ?_)
      show W _ _ _ _ _ _ _
      refine w_skip ?_
      show W _ _ _ _ _ _ _
      refine w_seq ?_
      refine w_reg fun all => ?_
      refine t_v (.ldn rfl rfl rfl (.at 2 rfl rfl)) ?_
      refine t_v (.ldn rfl rfl rfl (.at 1 rfl rfl)) ?_
      refine t_v (.ldn rfl rfl rfl (.at 0 rfl rfl)) ?_
      obtain ⟨t53, h54, e⟩ := bind_of e
      refine t_v (.call (vs := [.agg #[.int .i64 a0_X, .int .i64 a0_Y], .agg #[.int .i64 b1_X, .int .i64 b1_Y], .agg #[.int .i64 p2_X, .int .i64 p2_Y]]) rfl rfl (by kernel_rfl) (plane_Cross.ok h54)) ?_
      refine t_qz 2 [3, 10, 11] (σ' := [(3, .int .i64 w3), (10, .int .i64 t30), (11, .int .i64 (wr64 (2 * t53)))]) (by kernel_rfl) ?_
      refine t_end ?_
      show W _ _ _ _ _ _ _
      refine w_seq ?_
      refine w_reg fun all => ?_
      obtain ⟨t55, h56, e⟩ := bind_of e
      refine t_qz 6 [43, 44, 47, 48] (σ' := [(43, .int .i64 (wr64 (2 * t53))), (44, .int .i64 (wr64 (2 * t53))), (47, .int .i64 (wr64 (w3 * w3))), (48, .int .i64 t30)]) (by kernel_rfl) ?_
      refine t_v (.call (vs := [.int .i64 (wr64 (2 * t53)), .int .i64 (wr64 (2 * t53)), .int .i64 (wr64 (w3 * w3)), .int .i64 t30]) rfl rfl (by kernel_rfl) (plane_within.ok h56)) ?_
      refine t_qz 1 [8] (σ' := [(8, .bool t55)]) (by kernel_rfl) ?_
      refine t_end ?_
      show W _ _ _ _ _ _ _
      refine w_ret ?_
      obtain rfl := Option.some.inj e
      exact ⟨[.bool t55], [], S, ⟨rfl, trivial⟩, VS.none, rfl, rfl, rfl⟩

/-- glyphiclaw4.first -/
def c35 : C :=
  (.seq (.reg [⟨(some 0), .mv (.const (.bool false)), none⟩])
  (.seq (.reg [⟨(some 3), .bld [(.int .i64 0), (.int .i64 0)] [], none⟩,
     ⟨(some 1), .new [(.int .i64 0), (.int .i64 0)], none⟩,
     ⟨none, .st 2 (.tmp 1) (.tmp 3), none⟩])
  (.seq (.reg [⟨(some 4), .bld [(.int .i64 0), (.int .i64 0)] [(0, 1, (.const (.int .i64 2)))], none⟩,
     ⟨(some 2), .new [(.int .i64 0), (.int .i64 0)], none⟩,
     ⟨none, .st 2 (.tmp 2) (.tmp 4), none⟩])
  (.seq (.reg [⟨(some 5), .ld (some 2) (.tmp 1), none⟩,
     ⟨(some 6), .ld (some 2) (.tmp 1), none⟩,
     ⟨(some 7), .ld (some 2) (.tmp 1), none⟩,
     ⟨(some 8), .call 38 [(.tmp 5), (.tmp 6), (.tmp 7), (.const (.int .i64 0))], none⟩,
     ⟨(some 9), .mv (.tmp 8), none⟩,
     ⟨(some 10), .ld (some 2) (.tmp 1), (some (9, true))⟩,
     ⟨(some 11), .ld (some 2) (.tmp 2), (some (9, true))⟩,
     ⟨(some 12), .bld [(.int .i64 0), (.int .i64 0)] [(1, 1, (.const (.int .i64 1)))], (some (9, true))⟩,
     ⟨(some 13), .call 41 [(.tmp 10), (.tmp 11), (.tmp 12)], (some (9, true))⟩,
     ⟨(some 14), .bin .eql (.tmp 13) (.const (.int .i64 2)), (some (9, true))⟩,
     ⟨(some 15), .pk (.tmp 9) (.tmp 14) (.const (.bool false)), none⟩,
     ⟨(some 0), .mv (.tmp 15), none⟩])
  .ret))))
def glyphiclaw4_first.f  : Option (Bool) := (plane_Near.f 0 0 0 0 0 0 0).bind fun t57 => (if t57 = true then ((plane_Cross.f 0 0 2 0 0 1).bind fun t59 => (some (t59 == 2))) else (some false))
theorem glyphiclaw4_first.ok {S : Seal}  {r0_ : Bool} (e : glyphiclaw4_first.f  = some r0_) :
    Cal Try.prog 35 [] [] S fun v H' S' => v = .bool r0_ ∧ H' = [] ∧ S' = S := by
  unfold glyphiclaw4_first.f at e
  refine cal_of (c := c35) (N := 16) Try.func35 rfl rfl (by kernel_rfl) (rs := [.t 0]) (by kernel_rfl) (Nat.le_of_ble_eq_true rfl) ?_
  unfold c35
  refine w_seq ?_
  refine w_reg fun all => ?_
  refine t_qz 1 [] (σ' := []) (by kernel_rfl) ?_
  refine t_end ?_
  show W _ _ _ _ _ _ _
  refine w_seq ?_
  refine w_reg fun all => ?_
  refine t_qz 1 [3] (σ' := [(3, .agg #[.int .i64 0, .int .i64 0])]) (by kernel_rfl) ?_
  refine t_a (.new rfl rfl) fun b5 fb5 sb5 => ?_
  refine t_sti 0 (cs := [.int .i64 0, .int .i64 0]) rfl rfl rfl rfl rfl rfl rfl rfl rfl ?_
  refine t_keep [1] (σ' := [(1, .pointer (some ⟨b5, 0, none⟩))]) (by kernel_rfl) ?_
  refine t_end ?_
  show W _ _ _ _ _ _ _
  refine w_seq ?_
  refine w_reg fun all => ?_
  refine t_qz 1 [1, 4] (σ' := [(1, .pointer (some ⟨b5, 0, none⟩)), (4, .agg #[.int .i64 2, .int .i64 0])]) (by kernel_rfl) ?_
  refine t_a (.new rfl rfl) fun b6 fb6 sb6 => ?_
  refine t_sti 0 (cs := [.int .i64 2, .int .i64 0]) rfl rfl rfl rfl rfl rfl rfl rfl rfl ?_
  refine t_keep [1, 2] (σ' := [(1, .pointer (some ⟨b5, 0, none⟩)), (2, .pointer (some ⟨b6, 0, none⟩))]) (by kernel_rfl) ?_
  refine t_end ?_
  show W _ _ _ _ _ _ _
  refine w_seq ?_
  refine w_reg fun all => ?_
  refine t_v (.ldn rfl rfl rfl (.at 1 rfl rfl)) ?_
  refine t_v (.ldn rfl rfl rfl (.at 1 rfl rfl)) ?_
  refine t_v (.ldn rfl rfl rfl (.at 1 rfl rfl)) ?_
  obtain ⟨t57, h58, e⟩ := bind_of e
  cases t57 with
  | true =>
    rw [if_pos rfl] at e
    refine t_v (.call (vs := [.agg #[.int .i64 0, .int .i64 0], .agg #[.int .i64 0, .int .i64 0], .agg #[.int .i64 0, .int .i64 0], .int .i64 0]) rfl rfl (by kernel_rfl) (plane_Near.ok h58)) ?_
    refine t_qz 1 [1, 2, 9] (σ' := [(1, .pointer (some ⟨b5, 0, none⟩)), (2, .pointer (some ⟨b6, 0, none⟩)), (9, .bool true)]) (by kernel_rfl) ?_
    refine t_v (.ldn rfl rfl rfl (.at 1 rfl rfl)) ?_
    refine t_v (.ldn rfl rfl rfl (.at 0 rfl rfl)) ?_
    obtain ⟨t59, h60, e⟩ := bind_of e
    refine t_qz 1 [9, 10, 11, 12] (σ' := [(9, .bool true), (10, .agg #[.int .i64 0, .int .i64 0]), (11, .agg #[.int .i64 2, .int .i64 0]), (12, .agg #[.int .i64 0, .int .i64 1])]) (by kernel_rfl) ?_
    refine t_v (.call (vs := [.agg #[.int .i64 0, .int .i64 0], .agg #[.int .i64 2, .int .i64 0], .agg #[.int .i64 0, .int .i64 1]]) rfl rfl (by kernel_rfl) (plane_Cross.ok h60)) ?_
    refine t_qz 3 [0] (σ' := [(0, .bool (t59 == 2))]) (by kernel_rfl) ?_
    refine t_end ?_
    show W _ _ _ _ _ _ _
    refine w_ret ?_
    obtain rfl := Option.some.inj e
    exact ⟨[.bool (t59 == 2)], [], S, ⟨rfl, trivial⟩, VS.none, rfl, rfl, rfl⟩
  | false =>
    rw [if_neg (by decide)] at e
    refine t_v (.call (vs := [.agg #[.int .i64 0, .int .i64 0], .agg #[.int .i64 0, .int .i64 0], .agg #[.int .i64 0, .int .i64 0], .int .i64 0]) rfl rfl (by kernel_rfl) (plane_Near.ok h58)) ?_
    refine t_qz 8 [0] (σ' := [(0, .bool false)]) (by kernel_rfl) ?_
    refine t_end ?_
    show W _ _ _ _ _ _ _
    refine w_ret ?_
    obtain rfl := Option.some.inj e
    exact ⟨[.bool false], [], S, ⟨rfl, trivial⟩, VS.none, rfl, rfl, rfl⟩

/-- glyphiclaw4.cut -/
def c40 : C :=
  (.seq (.reg [⟨(some 1), .box (.tmp 0), none⟩,
     ⟨(some 2), .new [(.int .i64 0), (.int .i64 0)], none⟩])
  (.seq (.reg [⟨(some 3), .pad 0 (.tmp 1), none⟩,
     ⟨(some 4), .ld none (.tmp 3), none⟩,
     ⟨(some 5), .bin .rem (.tmp 4) (.const (.int .i64 134217729)), none⟩,
     ⟨(some 6), .pad 1 (.tmp 1), none⟩,
     ⟨(some 7), .ld none (.tmp 6), none⟩,
     ⟨(some 8), .bin .rem (.tmp 7) (.const (.int .i64 134217729)), none⟩,
     ⟨(some 9), .bld [(.int .i64 0), (.int .i64 0)] [(0, 1, (.tmp 5)), (1, 1, (.tmp 8))], none⟩,
     ⟨none, .st 2 (.tmp 2) (.tmp 9), none⟩])
  .ret))
def glyphiclaw4_cut.f (p0_X : Int) (p0_Y : Int) : Option (Int × Int) := some (Int.tmod p0_X 134217729, Int.tmod p0_Y 134217729)
theorem glyphiclaw4_cut.ok {S : Seal} {p0_X : Int} {p0_Y : Int} {r0_ : Int} {r1_ : Int} (e : glyphiclaw4_cut.f p0_X p0_Y = some (r0_, r1_)) :
    Cal Try.prog 40 [.agg #[.int .i64 p0_X, .int .i64 p0_Y]] [] S fun v H' S' => v = .agg #[.int .i64 r0_, .int .i64 r1_] ∧ H' = [] ∧ S' = S := by
  unfold glyphiclaw4_cut.f at e
  refine cal_of (c := c40) (N := 10) Try.func40 rfl rfl (by kernel_rfl) (rs := [.cn 2 2]) (by kernel_rfl) (Nat.le_of_ble_eq_true rfl) ?_
  unfold c40
  refine w_seq ?_
  refine w_reg fun all => ?_
  refine t_a (.box rfl rfl rfl) fun b63 fb63 sb63 => ?_
  refine t_a (.new rfl rfl) fun b64 fb64 sb64 => ?_
  refine t_keep [1, 2] (σ' := [(1, .pointer (some ⟨b63, 0, none⟩)), (2, .pointer (some ⟨b64, 0, none⟩))]) (by kernel_rfl) ?_
  refine t_end ?_
  show W _ _ _ _ _ _ _
  refine w_seq ?_
  refine w_reg fun all => ?_
  refine t_qz 1 [1, 2, 3] (σ' := [(1, .pointer (some ⟨b63, 0, none⟩)), (2, .pointer (some ⟨b64, 0, none⟩)), (3, .pointer (some ⟨b63, 0, none⟩))]) (by kernel_rfl) ?_
  refine t_v (.ld1 rfl rfl rfl (.at 1 rfl rfl)) ?_
  refine t_qz 2 [2, 5, 6] (σ' := [(2, .pointer (some ⟨b64, 0, none⟩)), (5, .int .i64 (Int.tmod p0_X 134217729)), (6, .pointer (some ⟨b63, 1, none⟩))]) (by kernel_rfl) ?_
  refine t_v (.ld1 rfl rfl rfl (.at 1 rfl rfl)) ?_
  refine t_qz 2 [2, 9] (σ' := [(2, .pointer (some ⟨b64, 0, none⟩)), (9, .agg #[.int .i64 (Int.tmod p0_X 134217729), .int .i64 (Int.tmod p0_Y 134217729)])]) (by kernel_rfl) ?_
  refine t_sti 0 (cs := [.int .i64 (Int.tmod p0_X 134217729), .int .i64 (Int.tmod p0_Y 134217729)]) rfl rfl rfl rfl rfl rfl rfl rfl rfl ?_
  refine t_keep [2] (σ' := [(2, .pointer (some ⟨b64, 0, none⟩))]) (by kernel_rfl) ?_
  refine t_end ?_
  show W _ _ _ _ _ _ _
  refine w_ret ?_
  simp only [Option.some.injEq, Prod.mk.injEq] at e
  obtain ⟨rfl, rfl⟩ := e
  exact ⟨[.agg #[.int .i64 (Int.tmod p0_X 134217729), .int .i64 (Int.tmod p0_Y 134217729)]], [], S, ⟨⟨_, _, _, rfl, .at 0 rfl rfl, rfl⟩, trivial⟩, VS.none, rfl, rfl, rfl⟩

/-- glyphicworld.Number -/
def c36 : C :=
  (.seq (.reg [⟨(some 4), .mv (.const (.int .i64 0)), none⟩])
  (.seq (.reg [⟨(some 6), .mv (.tmp 0), none⟩,
     ⟨(some 7), .mv (.tmp 1), none⟩,
     ⟨(some 8), .bin .rem (.tmp 6) (.tmp 7), none⟩,
     ⟨(some 5), .mv (.tmp 8), none⟩])
  (.seq (.seq (.reg [⟨(some 9), .mv (.tmp 5), none⟩,
      ⟨(some 10), .bin .lss (.tmp 9) (.const (.int .i64 0)), none⟩])
   (.cond (.tmp 10)
    (.reg [⟨(some 11), .mv (.tmp 5), none⟩,
       ⟨(some 12), .mv (.tmp 1), none⟩,
       ⟨(some 13), .bin .add (.tmp 11) (.tmp 12), none⟩,
       ⟨(some 5), .mv (.tmp 13), none⟩])
    .skip))
  (.seq (.reg [⟨(some 14), .mv (.tmp 5), none⟩,
     ⟨(some 4), .mv (.tmp 14), none⟩])
  .ret))))
def glyphicworld_Number.f (n0 : Int) (below1 : Int) : Option (Int) := if below1 = 0 then none else (if (Int.tmod n0 below1) < 0 then (some (wr64 ((Int.tmod n0 below1) + below1))) else (some (Int.tmod n0 below1)))
theorem glyphicworld_Number.ok {S : Seal} {n0 : Int} {below1 : Int} {r0_ : Int} (e : glyphicworld_Number.f n0 below1 = some r0_) :
    Cal Try.prog 36 [.int .i64 n0, .int .i64 below1] [] S fun v H' S' => v = .int .i64 r0_ ∧ H' = [] ∧ S' = S := by
  unfold glyphicworld_Number.f at e
  refine cal_of (c := c36) (N := 15) Try.func36 rfl rfl (by kernel_rfl) (rs := [.t 4]) (by kernel_rfl) (Nat.le_of_ble_eq_true rfl) ?_
  unfold c36
  refine w_seq ?_
  refine w_reg fun all => ?_
  refine t_qz 1 [0, 1] (σ' := [(0, .int .i64 n0), (1, .int .i64 below1)]) (by kernel_rfl) ?_
  refine t_end ?_
  show W _ _ _ _ _ _ _
  refine w_seq ?_
  refine w_reg fun all => ?_
  have c91 : ¬ below1 = 0 := by
    intro h_; rw [if_pos h_] at e; cases e
  rw [if_neg c91] at e
  refine t_qz 2 [1, 6, 7] (σ' := [(1, .int .i64 below1), (6, .int .i64 n0), (7, .int .i64 below1)]) (by kernel_rfl) ?_
  refine t_v (.quiet rfl (qv_rem rfl rfl c91)) ?_
  refine t_qz 1 [1, 5] (σ' := [(1, .int .i64 below1), (5, .int .i64 (Int.tmod n0 below1))]) (by kernel_rfl) ?_
  refine t_end ?_
  show W _ _ _ _ _ _ _
  refine w_seq ?_
  refine w_seq ?_
  refine w_reg fun all => ?_
  by_cases c92 : (Int.tmod n0 below1) < 0
  · rw [if_pos c92] at e
    have c92b : (decide ((Int.tmod n0 below1) < 0)) = true := decide_eq_true c92
    refine t_qz 1 [1, 5, 9] (σ' := [(1, .int .i64 below1), (5, .int .i64 (Int.tmod n0 below1)), (9, .int .i64 (Int.tmod n0 below1))]) (by kernel_rfl) ?_
    refine t_v (dv_quiet rfl (congrArg (fun t => some (Value.bool t)) c92b)) ?_
    refine t_keep [1, 5, 10] (σ' := [(1, .int .i64 below1), (5, .int .i64 (Int.tmod n0 below1)), (10, .bool true)]) (by kernel_rfl) ?_
    refine t_end ?_
    show W _ _ _ _ _ _ _
    refine w_cond rfl (fun _ => ?_) (fun c_ => by cases c_)
    show W _ _ _ _ _ _ _
    refine w_reg fun all => ?_
    refine t_qz 4 [5] (σ' := [(5, .int .i64 (wr64 ((Int.tmod n0 below1) + below1)))]) (by kernel_rfl) ?_
    refine t_end ?_
    show W _ _ _ _ _ _ _
    refine w_seq ?_
    refine w_reg fun all => ?_
    refine t_qz 2 [4] (σ' := [(4, .int .i64 (wr64 ((Int.tmod n0 below1) + below1)))]) (by kernel_rfl) ?_
    refine t_end ?_
    show W _ _ _ _ _ _ _
    refine w_ret ?_
    obtain rfl := Option.some.inj e
    exact ⟨[.int .i64 (wr64 ((Int.tmod n0 below1) + below1))], [], S, ⟨rfl, trivial⟩, VS.none, rfl, rfl, rfl⟩
  · rw [if_neg c92] at e
    have c92b : (decide ((Int.tmod n0 below1) < 0)) = false := decide_eq_false c92
    refine t_qz 1 [1, 5, 9] (σ' := [(1, .int .i64 below1), (5, .int .i64 (Int.tmod n0 below1)), (9, .int .i64 (Int.tmod n0 below1))]) (by kernel_rfl) ?_
    refine t_v (dv_quiet rfl (congrArg (fun t => some (Value.bool t)) c92b)) ?_
    refine t_keep [1, 5, 10] (σ' := [(1, .int .i64 below1), (5, .int .i64 (Int.tmod n0 below1)), (10, .bool false)]) (by kernel_rfl) ?_
    refine t_end ?_
    show W _ _ _ _ _ _ _
    refine w_cond rfl (fun c_ => by cases c_) (fun _ => ?_)
    show W _ _ _ _ _ _ _
    refine w_skip ?_
    show W _ _ _ _ _ _ _
    refine w_seq ?_
    refine w_reg fun all => ?_
    refine t_qz 2 [4] (σ' := [(4, .int .i64 (Int.tmod n0 below1))]) (by kernel_rfl) ?_
    refine t_end ?_
    show W _ _ _ _ _ _ _
    refine w_ret ?_
    obtain rfl := Option.some.inj e
    exact ⟨[.int .i64 (Int.tmod n0 below1)], [], S, ⟨rfl, trivial⟩, VS.none, rfl, rfl, rfl⟩

/-- glyphiclaw4.turn -/
def c37 : C :=
  (.seq (.reg [⟨(some 1), .box (.tmp 0), none⟩,
     ⟨(some 2), .new [(.int .i64 0), (.int .i64 0)], none⟩])
  (.seq (.reg [⟨(some 3), .pad 1 (.tmp 1), none⟩,
     ⟨(some 4), .ld none (.tmp 3), none⟩,
     ⟨(some 5), .un .neg (.tmp 4), none⟩,
     ⟨(some 6), .pad 0 (.tmp 1), none⟩,
     ⟨(some 7), .ld none (.tmp 6), none⟩,
     ⟨(some 8), .bld [(.int .i64 0), (.int .i64 0)] [(0, 1, (.tmp 5)), (1, 1, (.tmp 7))], none⟩,
     ⟨none, .st 2 (.tmp 2) (.tmp 8), none⟩])
  .ret))
def glyphiclaw4_turn.f (p0_X : Int) (p0_Y : Int) : Option (Int × Int) := some (wr64 (0 - p0_Y), p0_X)
theorem glyphiclaw4_turn.ok {S : Seal} {p0_X : Int} {p0_Y : Int} {r0_ : Int} {r1_ : Int} (e : glyphiclaw4_turn.f p0_X p0_Y = some (r0_, r1_)) :
    Cal Try.prog 37 [.agg #[.int .i64 p0_X, .int .i64 p0_Y]] [] S fun v H' S' => v = .agg #[.int .i64 r0_, .int .i64 r1_] ∧ H' = [] ∧ S' = S := by
  unfold glyphiclaw4_turn.f at e
  refine cal_of (c := c37) (N := 9) Try.func37 rfl rfl (by kernel_rfl) (rs := [.cn 2 2]) (by kernel_rfl) (Nat.le_of_ble_eq_true rfl) ?_
  unfold c37
  refine w_seq ?_
  refine w_reg fun all => ?_
  refine t_a (.box rfl rfl rfl) fun b97 fb97 sb97 => ?_
  refine t_a (.new rfl rfl) fun b98 fb98 sb98 => ?_
  refine t_keep [1, 2] (σ' := [(1, .pointer (some ⟨b97, 0, none⟩)), (2, .pointer (some ⟨b98, 0, none⟩))]) (by kernel_rfl) ?_
  refine t_end ?_
  show W _ _ _ _ _ _ _
  refine w_seq ?_
  refine w_reg fun all => ?_
  refine t_qz 1 [1, 2, 3] (σ' := [(1, .pointer (some ⟨b97, 0, none⟩)), (2, .pointer (some ⟨b98, 0, none⟩)), (3, .pointer (some ⟨b97, 1, none⟩))]) (by kernel_rfl) ?_
  refine t_v (.ld1 rfl rfl rfl (.at 1 rfl rfl)) ?_
  refine t_qz 2 [2, 5, 6] (σ' := [(2, .pointer (some ⟨b98, 0, none⟩)), (5, .int .i64 (wr64 (0 - p0_Y))), (6, .pointer (some ⟨b97, 0, none⟩))]) (by kernel_rfl) ?_
  refine t_v (.ld1 rfl rfl rfl (.at 1 rfl rfl)) ?_
  refine t_qz 1 [2, 8] (σ' := [(2, .pointer (some ⟨b98, 0, none⟩)), (8, .agg #[.int .i64 (wr64 (0 - p0_Y)), .int .i64 p0_X])]) (by kernel_rfl) ?_
  refine t_sti 0 (cs := [.int .i64 (wr64 (0 - p0_Y)), .int .i64 p0_X]) rfl rfl rfl rfl rfl rfl rfl rfl rfl ?_
  refine t_keep [2] (σ' := [(2, .pointer (some ⟨b98, 0, none⟩))]) (by kernel_rfl) ?_
  refine t_end ?_
  show W _ _ _ _ _ _ _
  refine w_ret ?_
  simp only [Option.some.injEq, Prod.mk.injEq] at e
  obtain ⟨rfl, rfl⟩ := e
  exact ⟨[.agg #[.int .i64 (wr64 (0 - p0_Y)), .int .i64 p0_X]], [], S, ⟨⟨_, _, _, rfl, .at 0 rfl rfl, rfl⟩, trivial⟩, VS.none, rfl, rfl, rfl⟩

/-- plane.Add -/
def c47 : C :=
  (.seq (.reg [⟨(some 2), .box (.tmp 0), none⟩,
     ⟨(some 3), .box (.tmp 1), none⟩,
     ⟨(some 4), .new [(.int .i64 0), (.int .i64 0)], none⟩])
  (.seq (.reg [⟨(some 5), .pad 0 (.tmp 2), none⟩,
     ⟨(some 6), .ld none (.tmp 5), none⟩,
     ⟨(some 7), .pad 0 (.tmp 3), none⟩,
     ⟨(some 8), .ld none (.tmp 7), none⟩,
     ⟨(some 9), .bin .add (.tmp 6) (.tmp 8), none⟩,
     ⟨(some 10), .pad 1 (.tmp 2), none⟩,
     ⟨(some 11), .ld none (.tmp 10), none⟩,
     ⟨(some 12), .pad 1 (.tmp 3), none⟩,
     ⟨(some 13), .ld none (.tmp 12), none⟩,
     ⟨(some 14), .bin .add (.tmp 11) (.tmp 13), none⟩,
     ⟨(some 15), .bld [(.int .i64 0), (.int .i64 0)] [(0, 1, (.tmp 9)), (1, 1, (.tmp 14))], none⟩,
     ⟨none, .st 2 (.tmp 4) (.tmp 15), none⟩])
  .ret))
def plane_Add.f (a0_X : Int) (a0_Y : Int) (b1_X : Int) (b1_Y : Int) : Option (Int × Int) := some (wr64 (a0_X + b1_X), wr64 (a0_Y + b1_Y))
theorem plane_Add.ok {S : Seal} {a0_X : Int} {a0_Y : Int} {b1_X : Int} {b1_Y : Int} {r0_ : Int} {r1_ : Int} (e : plane_Add.f a0_X a0_Y b1_X b1_Y = some (r0_, r1_)) :
    Cal Try.prog 47 [.agg #[.int .i64 a0_X, .int .i64 a0_Y], .agg #[.int .i64 b1_X, .int .i64 b1_Y]] [] S fun v H' S' => v = .agg #[.int .i64 r0_, .int .i64 r1_] ∧ H' = [] ∧ S' = S := by
  unfold plane_Add.f at e
  refine cal_of (c := c47) (N := 16) Try.func47 rfl rfl (by kernel_rfl) (rs := [.cn 2 4]) (by kernel_rfl) (Nat.le_of_ble_eq_true rfl) ?_
  unfold c47
  refine w_seq ?_
  refine w_reg fun all => ?_
  refine t_a (.box rfl rfl rfl) fun b110 fb110 sb110 => ?_
  refine t_a (.box rfl rfl rfl) fun b111 fb111 sb111 => ?_
  refine t_a (.new rfl rfl) fun b112 fb112 sb112 => ?_
  refine t_keep [2, 3, 4] (σ' := [(2, .pointer (some ⟨b110, 0, none⟩)), (3, .pointer (some ⟨b111, 0, none⟩)), (4, .pointer (some ⟨b112, 0, none⟩))]) (by kernel_rfl) ?_
  refine t_end ?_
  show W _ _ _ _ _ _ _
  refine w_seq ?_
  refine w_reg fun all => ?_
  refine t_qz 1 [2, 3, 4, 5] (σ' := [(2, .pointer (some ⟨b110, 0, none⟩)), (3, .pointer (some ⟨b111, 0, none⟩)), (4, .pointer (some ⟨b112, 0, none⟩)), (5, .pointer (some ⟨b110, 0, none⟩))]) (by kernel_rfl) ?_
  refine t_v (.ld1 rfl rfl rfl (.at 2 rfl rfl)) ?_
  refine t_qz 1 [2, 3, 4, 6, 7] (σ' := [(2, .pointer (some ⟨b110, 0, none⟩)), (3, .pointer (some ⟨b111, 0, none⟩)), (4, .pointer (some ⟨b112, 0, none⟩)), (6, .int .i64 a0_X), (7, .pointer (some ⟨b111, 0, none⟩))]) (by kernel_rfl) ?_
  refine t_v (.ld1 rfl rfl rfl (.at 1 rfl rfl)) ?_
  refine t_qz 2 [3, 4, 9, 10] (σ' := [(3, .pointer (some ⟨b111, 0, none⟩)), (4, .pointer (some ⟨b112, 0, none⟩)), (9, .int .i64 (wr64 (a0_X + b1_X))), (10, .pointer (some ⟨b110, 1, none⟩))]) (by kernel_rfl) ?_
  refine t_v (.ld1 rfl rfl rfl (.at 2 rfl rfl)) ?_
  refine t_qz 1 [4, 9, 11, 12] (σ' := [(4, .pointer (some ⟨b112, 0, none⟩)), (9, .int .i64 (wr64 (a0_X + b1_X))), (11, .int .i64 a0_Y), (12, .pointer (some ⟨b111, 1, none⟩))]) (by kernel_rfl) ?_
  refine t_v (.ld1 rfl rfl rfl (.at 1 rfl rfl)) ?_
  refine t_qz 2 [4, 15] (σ' := [(4, .pointer (some ⟨b112, 0, none⟩)), (15, .agg #[.int .i64 (wr64 (a0_X + b1_X)), .int .i64 (wr64 (a0_Y + b1_Y))])]) (by kernel_rfl) ?_
  refine t_sti 0 (cs := [.int .i64 (wr64 (a0_X + b1_X)), .int .i64 (wr64 (a0_Y + b1_Y))]) rfl rfl rfl rfl rfl rfl rfl rfl rfl ?_
  refine t_keep [4] (σ' := [(4, .pointer (some ⟨b112, 0, none⟩))]) (by kernel_rfl) ?_
  refine t_end ?_
  show W _ _ _ _ _ _ _
  refine w_ret ?_
  simp only [Option.some.injEq, Prod.mk.injEq] at e
  obtain ⟨rfl, rfl⟩ := e
  exact ⟨[.agg #[.int .i64 (wr64 (a0_X + b1_X)), .int .i64 (wr64 (a0_Y + b1_Y))]], [], S, ⟨⟨_, _, _, rfl, .at 0 rfl rfl, rfl⟩, trivial⟩, VS.none, rfl, rfl, rfl⟩

/-- glyphiclaw4.PlaneTurns -/
def c13 : C :=
  (.seq (.reg [⟨(some 6), .box (.tmp 0), none⟩,
     ⟨(some 7), .box (.tmp 1), none⟩,
     ⟨(some 8), .box (.tmp 2), none⟩,
     ⟨(some 9), .box (.tmp 3), none⟩,
     ⟨(some 12), .mv (.const (.bool false)), none⟩])
  (.seq (.reg [⟨(some 17), .call 35 [], none⟩,
     ⟨(some 13), .mv (.tmp 17), none⟩])
  (.seq (.seq (.reg [⟨(some 18), .mv (.tmp 13), none⟩,
      ⟨(some 19), .un .not (.tmp 18), none⟩])
   (.cond (.tmp 19)
    (.seq (.reg [⟨(some 12), .mv (.const (.bool false)), none⟩])
     .ret)
    .skip))
  (.seq (.reg [⟨(some 20), .ld (some 2) (.tmp 6), none⟩,
     ⟨(some 21), .call 40 [(.tmp 20)], none⟩,
     ⟨none, .st 2 (.tmp 6) (.tmp 21), none⟩])
  (.seq (.reg [⟨(some 22), .ld (some 2) (.tmp 7), none⟩,
     ⟨(some 23), .call 40 [(.tmp 22)], none⟩,
     ⟨none, .st 2 (.tmp 7) (.tmp 23), none⟩])
  (.seq (.reg [⟨(some 24), .ld (some 2) (.tmp 8), none⟩,
     ⟨(some 25), .call 40 [(.tmp 24)], none⟩,
     ⟨none, .st 2 (.tmp 8) (.tmp 25), none⟩])
  (.seq (.reg [⟨(some 26), .pad 0 (.tmp 6), none⟩,
     ⟨(some 27), .ld none (.tmp 26), none⟩,
     ⟨(some 28), .bin .quo (.tmp 27) (.const (.int .i64 4)), none⟩,
     ⟨(some 29), .pad 1 (.tmp 6), none⟩,
     ⟨(some 30), .ld none (.tmp 29), none⟩,
     ⟨(some 31), .bin .quo (.tmp 30) (.const (.int .i64 4)), none⟩,
     ⟨(some 32), .bld [(.int .i64 0), (.int .i64 0)] [(0, 1, (.tmp 28)), (1, 1, (.tmp 31))], none⟩,
     ⟨none, .st 2 (.tmp 6) (.tmp 32), none⟩])
  (.seq (.reg [⟨(some 33), .pad 0 (.tmp 7), none⟩,
     ⟨(some 34), .ld none (.tmp 33), none⟩,
     ⟨(some 35), .bin .quo (.tmp 34) (.const (.int .i64 4)), none⟩,
     ⟨(some 36), .pad 1 (.tmp 7), none⟩,
     ⟨(some 37), .ld none (.tmp 36), none⟩,
     ⟨(some 38), .bin .quo (.tmp 37) (.const (.int .i64 4)), none⟩,
     ⟨(some 39), .bld [(.int .i64 0), (.int .i64 0)] [(0, 1, (.tmp 35)), (1, 1, (.tmp 38))], none⟩,
     ⟨none, .st 2 (.tmp 7) (.tmp 39), none⟩])
  (.seq (.reg [⟨(some 40), .pad 0 (.tmp 8), none⟩,
     ⟨(some 41), .ld none (.tmp 40), none⟩,
     ⟨(some 42), .bin .quo (.tmp 41) (.const (.int .i64 4)), none⟩,
     ⟨(some 43), .pad 1 (.tmp 8), none⟩,
     ⟨(some 44), .ld none (.tmp 43), none⟩,
     ⟨(some 45), .bin .quo (.tmp 44) (.const (.int .i64 4)), none⟩,
     ⟨(some 46), .bld [(.int .i64 0), (.int .i64 0)] [(0, 1, (.tmp 42)), (1, 1, (.tmp 45))], none⟩,
     ⟨none, .st 2 (.tmp 8) (.tmp 46), none⟩])
  (.seq (.reg [⟨(some 47), .ld (some 2) (.tmp 9), none⟩,
     ⟨(some 48), .call 40 [(.tmp 47)], none⟩,
     ⟨none, .st 2 (.tmp 9) (.tmp 48), none⟩])
  (.seq (.reg [⟨(some 49), .pad 0 (.tmp 9), none⟩,
     ⟨(some 50), .ld none (.tmp 49), none⟩,
     ⟨(some 51), .bin .quo (.tmp 50) (.const (.int .i64 4)), none⟩,
     ⟨(some 52), .pad 1 (.tmp 9), none⟩,
     ⟨(some 53), .ld none (.tmp 52), none⟩,
     ⟨(some 54), .bin .quo (.tmp 53) (.const (.int .i64 4)), none⟩,
     ⟨(some 55), .bld [(.int .i64 0), (.int .i64 0)] [(0, 1, (.tmp 51)), (1, 1, (.tmp 54))], none⟩,
     ⟨none, .st 2 (.tmp 9) (.tmp 55), none⟩])
  (.seq (.seq (.reg [⟨(some 56), .mv (.tmp 4), none⟩,
      ⟨(some 57), .bin .lss (.tmp 56) (.const (.int .i64 0)), none⟩])
   (.cond (.tmp 57)
    (.reg [⟨(some 58), .mv (.tmp 4), none⟩,
       ⟨(some 59), .bin .add (.tmp 58) (.const (.int .i64 1)), none⟩,
       ⟨(some 60), .un .neg (.tmp 59), none⟩,
       ⟨(some 4), .mv (.tmp 60), none⟩])
    .skip))
  (.seq (.reg [⟨(some 61), .mv (.tmp 4), none⟩,
     ⟨(some 62), .bin .rem (.tmp 61) (.const (.int .i64 67108864)), none⟩,
     ⟨(some 4), .mv (.tmp 62), none⟩])
  (.seq (.reg [⟨(some 63), .mv (.tmp 5), none⟩,
     ⟨(some 64), .bin .and (.tmp 63) (.const (.int .i64 16777215)), none⟩,
     ⟨(some 65), .call 36 [(.tmp 64), (.const (.int .i64 16777216))], none⟩,
     ⟨(some 5), .mv (.tmp 65), none⟩])
  (.seq (.reg [⟨(some 66), .ld (some 2) (.tmp 6), none⟩,
     ⟨(some 67), .ld (some 2) (.tmp 7), none⟩,
     ⟨(some 68), .ld (some 2) (.tmp 8), none⟩,
     ⟨(some 69), .mv (.tmp 4), none⟩,
     ⟨(some 70), .call 38 [(.tmp 66), (.tmp 67), (.tmp 68), (.tmp 69)], none⟩,
     ⟨(some 14), .mv (.tmp 70), none⟩])
  (.seq (.drw [⟨(some 71), .ld (some 2) (.tmp 6), none⟩,
     ⟨(some 72), .call 37 [(.tmp 71)], none⟩,
     ⟨(some 73), .ld (some 2) (.tmp 7), none⟩,
     ⟨(some 74), .call 37 [(.tmp 73)], none⟩,
     ⟨(some 75), .ld (some 2) (.tmp 8), none⟩,
     ⟨(some 76), .call 37 [(.tmp 75)], none⟩,
     ⟨(some 77), .mv (.tmp 4), none⟩,
     ⟨(some 78), .call 38 [(.tmp 72), (.tmp 74), (.tmp 76), (.tmp 77)], none⟩,
     ⟨(some 15), .mv (.tmp 78), none⟩] [[], [0], [], [2, 1], [], [4, 3], [], [1, 3, 5, 6, 5], [7, 7, 0, 1, 2, 3, 4, 5, 6, 7]])
  (.seq (.drw [⟨(some 79), .ld (some 2) (.tmp 6), none⟩,
     ⟨(some 80), .ld (some 2) (.tmp 9), none⟩,
     ⟨(some 81), .call 47 [(.tmp 79), (.tmp 80)], none⟩,
     ⟨(some 82), .ld (some 2) (.tmp 7), none⟩,
     ⟨(some 83), .ld (some 2) (.tmp 9), none⟩,
     ⟨(some 84), .call 47 [(.tmp 82), (.tmp 83)], none⟩,
     ⟨(some 85), .ld (some 2) (.tmp 8), none⟩,
     ⟨(some 86), .ld (some 2) (.tmp 9), none⟩,
     ⟨(some 87), .call 47 [(.tmp 85), (.tmp 86)], none⟩,
     ⟨(some 88), .mv (.tmp 4), none⟩,
     ⟨(some 89), .call 38 [(.tmp 81), (.tmp 84), (.tmp 87), (.tmp 88)], none⟩,
     ⟨(some 16), .mv (.tmp 89), none⟩] [[], [], [0, 1], [], [], [3, 4, 2], [], [], [6, 7, 5], [], [2, 5, 8, 9, 8], [10, 10, 0, 1, 2, 3, 4, 5, 6, 7, 8, 9, 10]])
  (.seq (.drw [⟨(some 90), .mv (.tmp 13), none⟩,
     ⟨(some 91), .mv (.tmp 90), none⟩,
     ⟨(some 92), .mv (.tmp 14), (some (91, true))⟩,
     ⟨(some 93), .ld (some 2) (.tmp 7), (some (91, true))⟩,
     ⟨(some 94), .ld (some 2) (.tmp 6), (some (91, true))⟩,
     ⟨(some 95), .ld (some 2) (.tmp 8), (some (91, true))⟩,
     ⟨(some 96), .mv (.tmp 4), (some (91, true))⟩,
     ⟨(some 97), .call 38 [(.tmp 93), (.tmp 94), (.tmp 95), (.tmp 96)], (some (91, true))⟩,
     ⟨(some 98), .beq false (.tmp 92) (.tmp 97), (some (91, true))⟩,
     ⟨(some 99), .pk (.tmp 91) (.tmp 98) (.const (.bool false)), none⟩,
     ⟨(some 100), .mv (.tmp 99), none⟩,
     ⟨(some 101), .mv (.tmp 14), (some (100, true))⟩,
     ⟨(some 102), .mv (.tmp 15), (some (100, true))⟩,
     ⟨(some 103), .beq false (.tmp 101) (.tmp 102), (some (100, true))⟩,
     ⟨(some 104), .pk (.tmp 100) (.tmp 103) (.const (.bool false)), none⟩,
     ⟨(some 105), .mv (.tmp 104), none⟩,
     ⟨(some 106), .mv (.tmp 14), (some (105, true))⟩,
     ⟨(some 107), .mv (.tmp 16), (some (105, true))⟩,
     ⟨(some 108), .beq false (.tmp 106) (.tmp 107), (some (105, true))⟩,
     ⟨(some 109), .pk (.tmp 105) (.tmp 108) (.const (.bool false)), none⟩,
     ⟨(some 110), .mv (.tmp 109), none⟩,
     ⟨(some 111), .mv (.tmp 14), (some (110, true))⟩,
     ⟨(some 112), .un .not (.tmp 111), (some (110, true))⟩,
     ⟨(some 113), .mv (.tmp 112), (some (110, true))⟩,
     ⟨(some 114), .ld (some 2) (.tmp 6), (some (113, false))⟩,
     ⟨(some 115), .ld (some 2) (.tmp 7), (some (113, false))⟩,
     ⟨(some 116), .ld (some 2) (.tmp 8), (some (113, false))⟩,
     ⟨(some 117), .mv (.tmp 4), (some (113, false))⟩,
     ⟨(some 118), .mv (.tmp 5), (some (113, false))⟩,
     ⟨(some 119), .bin .add (.tmp 117) (.tmp 118), (some (113, false))⟩,
     ⟨(some 120), .call 38 [(.tmp 114), (.tmp 115), (.tmp 116), (.tmp 119)], (some (113, false))⟩,
     ⟨(some 121), .pk (.tmp 113) (.const (.bool true)) (.tmp 120), (some (110, true))⟩,
     ⟨(some 122), .pk (.tmp 110) (.tmp 121) (.const (.bool false)), none⟩,
     ⟨(some 123), .mv (.tmp 122), none⟩,
     ⟨(some 124), .ld (some 2) (.tmp 6), (some (123, true))⟩,
     ⟨(some 125), .ld (some 2) (.tmp 7), (some (123, true))⟩,
     ⟨(some 126), .ld (some 2) (.tmp 6), (some (123, true))⟩,
     ⟨(some 127), .mv (.tmp 4), (some (123, true))⟩,
     ⟨(some 128), .call 38 [(.tmp 124), (.tmp 125), (.tmp 126), (.tmp 127)], (some (123, true))⟩,
     ⟨(some 129), .pk (.tmp 123) (.tmp 128) (.const (.bool false)), none⟩,
     ⟨(some 130), .mv (.tmp 129), none⟩,
     ⟨(some 131), .ld (some 2) (.tmp 6), (some (130, true))⟩,
     ⟨(some 132), .ld (some 2) (.tmp 7), (some (130, true))⟩,
     ⟨(some 133), .ld (some 2) (.tmp 7), (some (130, true))⟩,
     ⟨(some 134), .mv (.tmp 4), (some (130, true))⟩,
     ⟨(some 135), .call 38 [(.tmp 131), (.tmp 132), (.tmp 133), (.tmp 134)], (some (130, true))⟩,
     ⟨(some 136), .pk (.tmp 130) (.tmp 135) (.const (.bool false)), none⟩,
     ⟨(some 137), .mv (.tmp 136), none⟩,
     ⟨(some 138), .ld (some 2) (.tmp 6), (some (137, true))⟩,
     ⟨(some 139), .ld (some 2) (.tmp 7), (some (137, true))⟩,
     ⟨(some 140), .ld (some 2) (.tmp 8), (some (137, true))⟩,
     ⟨(some 141), .call 41 [(.tmp 138), (.tmp 139), (.tmp 140)], (some (137, true))⟩,
     ⟨(some 142), .ld (some 2) (.tmp 7), (some (137, true))⟩,
     ⟨(some 143), .ld (some 2) (.tmp 6), (some (137, true))⟩,
     ⟨(some 144), .ld (some 2) (.tmp 8), (some (137, true))⟩,
     ⟨(some 145), .call 41 [(.tmp 142), (.tmp 143), (.tmp 144)], (some (137, true))⟩,
     ⟨(some 146), .un .neg (.tmp 145), (some (137, true))⟩,
     ⟨(some 147), .bin .eql (.tmp 141) (.tmp 146), (some (137, true))⟩,
     ⟨(some 148), .pk (.tmp 137) (.tmp 147) (.const (.bool false)), none⟩,
     ⟨(some 149), .mv (.tmp 148), none⟩,
     ⟨(some 150), .ld (some 2) (.tmp 6), (some (149, true))⟩,
     ⟨(some 151), .call 37 [(.tmp 150)], (some (149, true))⟩,
     ⟨(some 152), .ld (some 2) (.tmp 7), (some (149, true))⟩,
     ⟨(some 153), .call 37 [(.tmp 152)], (some (149, true))⟩,
     ⟨(some 154), .ld (some 2) (.tmp 8), (some (149, true))⟩,
     ⟨(some 155), .call 37 [(.tmp 154)], (some (149, true))⟩,
     ⟨(some 156), .call 41 [(.tmp 151), (.tmp 153), (.tmp 155)], (some (149, true))⟩,
     ⟨(some 157), .ld (some 2) (.tmp 6), (some (149, true))⟩,
     ⟨(some 158), .ld (some 2) (.tmp 7), (some (149, true))⟩,
     ⟨(some 159), .ld (some 2) (.tmp 8), (some (149, true))⟩,
     ⟨(some 160), .call 41 [(.tmp 157), (.tmp 158), (.tmp 159)], (some (149, true))⟩,
     ⟨(some 161), .bin .eql (.tmp 156) (.tmp 160), (some (149, true))⟩,
     ⟨(some 162), .pk (.tmp 149) (.tmp 161) (.const (.bool false)), none⟩,
     ⟨(some 163), .mv (.tmp 162), none⟩,
     ⟨(some 164), .ld (some 2) (.tmp 6), (some (163, true))⟩,
     ⟨(some 165), .ld (some 2) (.tmp 7), (some (163, true))⟩,
     ⟨(some 166), .call 45 [(.tmp 164), (.tmp 165)], (some (163, true))⟩,
     ⟨(some 167), .ld (some 2) (.tmp 7), (some (163, true))⟩,
     ⟨(some 168), .ld (some 2) (.tmp 6), (some (163, true))⟩,
     ⟨(some 169), .call 45 [(.tmp 167), (.tmp 168)], (some (163, true))⟩,
     ⟨(some 170), .bin .eql (.tmp 166) (.tmp 169), (some (163, true))⟩,
     ⟨(some 171), .pk (.tmp 163) (.tmp 170) (.const (.bool false)), none⟩,
     ⟨(some 12), .mv (.tmp 171), none⟩] [[], [0], [1], [1], [1], [1], [1], [3, 4, 5, 6, 1, 1], [2, 7, 1], [1, 8], [9, 7], [10], [10], [11, 12, 10], [10, 13], [14, 10], [15], [15], [16, 17, 15], [15, 18], [19, 15], [20], [21, 20], [22, 20, 20], [23], [23], [23], [23], [23], [27, 28, 23], [24, 25, 26, 29, 23, 23], [23, 30, 20], [20, 31], [32, 30], [33], [33], [33], [33], [34, 35, 36, 37, 33, 33], [33, 38], [39, 38], [40], [40], [40], [40], [41, 42, 43, 44, 40, 40], [40, 45], [46, 45], [47], [47], [47], [48, 49, 50, 47, 47], [47], [47], [47], [52, 53, 54, 51, 47], [55, 47], [51, 56, 47], [47, 57], [58, 55], [59], [60, 59, 59], [59], [62, 61, 59], [59], [64, 63, 59], [61, 63, 65, 65, 59], [59], [59], [59], [67, 68, 69, 66, 59], [66, 70, 59], [59, 71], [72, 70], [73], [73], [74, 75, 73, 73], [73], [73], [77, 78, 76, 73], [76, 79, 73], [73, 80], [81, 79, 0, 1, 2, 3, 4, 5, 6, 7, 8, 9, 10, 11, 12, 13, 14, 15, 16, 17, 18, 19, 20, 21, 22, 23, 24, 25, 26, 27, 28, 29, 30, 31, 32, 33, 34, 35, 36, 37, 38, 39, 40, 41, 42, 43, 44, 45, 46, 47, 48, 49, 50, 51, 52, 53, 54, 55, 56, 57, 58, 59, 60, 61, 62, 63, 64, 65, 66, 67, 68, 69, 70, 71, 72, 73, 74, 75, 76, 77, 78, 79, 80, 81]])
  .ret))))))))))))))))))
def glyphiclaw4_PlaneTurns.f (t0_X : Int) (t0_Y : Int) (o1_X : Int) (o1_Y : Int) (A2_X : Int) (A2_Y : Int) (r3_X : Int) (r3_Y : Int) (r4 : Int) (a5 : Int) : Option (Bool) := (glyphiclaw4_first.f).bind fun t61 => (if t61 = true then ((glyphiclaw4_cut.f t0_X t0_Y).bind fun (t65, t66) => ((glyphiclaw4_cut.f o1_X o1_Y).bind fun (t68, t69) => ((glyphiclaw4_cut.f A2_X A2_Y).bind fun (t71, t72) => ((glyphiclaw4_cut.f r3_X r3_Y).bind fun (t74, t75) => ((if r4 < 0 then (some (wr64 (0 - (wr64 (r4 + 1))), true, wr64 (Int.tdiv t74 4), wr64 (Int.tdiv t75 4), wr64 (Int.tdiv t71 4), wr64 (Int.tdiv t72 4), wr64 (Int.tdiv t68 4), wr64 (Int.tdiv t69 4), wr64 (Int.tdiv t65 4), wr64 (Int.tdiv t66 4))) else (some (r4, true, wr64 (Int.tdiv t74 4), wr64 (Int.tdiv t75 4), wr64 (Int.tdiv t71 4), wr64 (Int.tdiv t72 4), wr64 (Int.tdiv t68 4), wr64 (Int.tdiv t69 4), wr64 (Int.tdiv t65 4), wr64 (Int.tdiv t66 4))) : Option (Int × Bool × Int × Int × Int × Int × Int × Int × Int × Int)).bind fun (x81, x82, x83, x84, x85, x86, x87, x88, x89, x90) => ((glyphicworld_Number.f (bits .and .i64 a5 16777215) 16777216).bind fun t93 => ((plane_Near.f x89 x90 x87 x88 x85 x86 (Int.tmod x81 67108864)).bind fun t95 => ((glyphiclaw4_turn.f x89 x90).bind fun (t99, t100) => ((glyphiclaw4_turn.f x87 x88).bind fun (t102, t103) => ((glyphiclaw4_turn.f x85 x86).bind fun (t105, t106) => ((plane_Near.f t99 t100 t102 t103 t105 t106 (Int.tmod x81 67108864)).bind fun t108 => ((plane_Add.f x89 x90 x83 x84).bind fun (t113, t114) => ((plane_Add.f x87 x88 x83 x84).bind fun (t116, t117) => ((plane_Add.f x85 x86 x83 x84).bind fun (t119, t120) => ((plane_Near.f t113 t114 t116 t117 t119 t120 (Int.tmod x81 67108864)).bind fun t122 => (if x82 = true then ((plane_Near.f x87 x88 x89 x90 x85 x86 (Int.tmod x81 67108864)).bind fun t125 => (if t95 = t125 then (if t95 = t108 then (if t95 = t122 then (if t95 = true then ((plane_Near.f x89 x90 x87 x88 x85 x86 (wr64 ((Int.tmod x81 67108864) + t93))).bind fun t131 => (if t131 = true then ((plane_Near.f x89 x90 x87 x88 x89 x90 (Int.tmod x81 67108864)).bind fun t133 => (if t133 = true then ((plane_Near.f x89 x90 x87 x88 x87 x88 (Int.tmod x81 67108864)).bind fun t135 => (if t135 = true then ((plane_Cross.f x89 x90 x87 x88 x85 x86).bind fun t137 => ((plane_Cross.f x87 x88 x89 x90 x85 x86).bind fun t139 => (if t137 = (wr64 (0 - t139)) then ((glyphiclaw4_turn.f x89 x90).bind fun (t142, t143) => ((glyphiclaw4_turn.f x87 x88).bind fun (t145, t146) => ((glyphiclaw4_turn.f x85 x86).bind fun (t148, t149) => ((plane_Cross.f t142 t143 t145 t146 t148 t149).bind fun t151 => ((plane_Cross.f x89 x90 x87 x88 x85 x86).bind fun t153 => (if t151 = t153 then ((plane_Len2.f x89 x90 x87 x88).bind fun t156 => ((plane_Len2.f x87 x88 x89 x90).bind fun t158 => (some (t156 == t158)))) else (some false))))))) else (some false)))) else (some false))) else (some false))) else (some false))) else ((plane_Near.f x89 x90 x87 x88 x89 x90 (Int.tmod x81 67108864)).bind fun t160 => (if t160 = true then ((plane_Near.f x89 x90 x87 x88 x87 x88 (Int.tmod x81 67108864)).bind fun t162 => (if t162 = true then ((plane_Cross.f x89 x90 x87 x88 x85 x86).bind fun t164 => ((plane_Cross.f x87 x88 x89 x90 x85 x86).bind fun t166 => (if t164 = (wr64 (0 - t166)) then ((glyphiclaw4_turn.f x89 x90).bind fun (t169, t170) => ((glyphiclaw4_turn.f x87 x88).bind fun (t172, t173) => ((glyphiclaw4_turn.f x85 x86).bind fun (t175, t176) => ((plane_Cross.f t169 t170 t172 t173 t175 t176).bind fun t178 => ((plane_Cross.f x89 x90 x87 x88 x85 x86).bind fun t180 => (if t178 = t180 then ((plane_Len2.f x89 x90 x87 x88).bind fun t183 => ((plane_Len2.f x87 x88 x89 x90).bind fun t185 => (some (t183 == t185)))) else (some false))))))) else (some false)))) else (some false))) else (some false)))) else (some false)) else (some false)) else (some false))) else (some false))))))))))))))))) else (some false))
theorem glyphiclaw4_PlaneTurns.ok {S : Seal} {t0_X : Int} {t0_Y : Int} {o1_X : Int} {o1_Y : Int} {A2_X : Int} {A2_Y : Int} {r3_X : Int} {r3_Y : Int} {r4 : Int} {a5 : Int}  (e : glyphiclaw4_PlaneTurns.f t0_X t0_Y o1_X o1_Y A2_X A2_Y r3_X r3_Y r4 a5 = some true) :
    Cal Try.prog 13 [.agg #[.int .i64 t0_X, .int .i64 t0_Y], .agg #[.int .i64 o1_X, .int .i64 o1_Y], .agg #[.int .i64 A2_X, .int .i64 A2_Y], .agg #[.int .i64 r3_X, .int .i64 r3_Y], .int .i64 r4, .int .i64 a5] [] S fun v H' S' => v = .bool true ∧ H' = [] ∧ S' = S := by
  unfold glyphiclaw4_PlaneTurns.f at e
  refine cal_of (c := c13) (N := 172) Try.func13 rfl rfl (by kernel_rfl) (rs := [.t 12]) (by kernel_rfl) (Nat.le_of_ble_eq_true rfl) ?_
  unfold c13
  refine w_seq ?_
  refine w_reg fun all => ?_
  refine t_a (.box rfl rfl rfl) fun b1 fb1 sb1 => ?_
  refine t_a (.box rfl rfl rfl) fun b2 fb2 sb2 => ?_
  refine t_a (.box rfl rfl rfl) fun b3 fb3 sb3 => ?_
  refine t_a (.box rfl rfl rfl) fun b4 fb4 sb4 => ?_
  refine t_qz 1 [4, 5, 6, 7, 8, 9] (σ' := [(4, .int .i64 r4), (5, .int .i64 a5), (6, .pointer (some ⟨b1, 0, none⟩)), (7, .pointer (some ⟨b2, 0, none⟩)), (8, .pointer (some ⟨b3, 0, none⟩)), (9, .pointer (some ⟨b4, 0, none⟩))]) (by kernel_rfl) ?_
  refine t_end ?_
  show W _ _ _ _ _ _ _
  refine w_seq ?_
  refine w_reg fun all => ?_
  obtain ⟨t61, h62, e⟩ := bind_of e
  cases t61 with
  | true =>
    rw [if_pos rfl] at e
    refine t_v (.call (vs := []) rfl rfl (by kernel_rfl) (glyphiclaw4_first.ok h62)) ?_
    refine t_qz 1 [4, 5, 6, 7, 8, 9, 13] (σ' := [(4, .int .i64 r4), (5, .int .i64 a5), (6, .pointer (some ⟨b1, 0, none⟩)), (7, .pointer (some ⟨b2, 0, none⟩)), (8, .pointer (some ⟨b3, 0, none⟩)), (9, .pointer (some ⟨b4, 0, none⟩)), (13, .bool true)]) (by kernel_rfl) ?_
    refine t_end ?_
    show W _ _ _ _ _ _ _
    refine w_seq ?_
    refine w_seq ?_
    refine w_reg fun all => ?_
    refine t_qz 2 [4, 5, 6, 7, 8, 9, 13, 19] (σ' := [(4, .int .i64 r4), (5, .int .i64 a5), (6, .pointer (some ⟨b1, 0, none⟩)), (7, .pointer (some ⟨b2, 0, none⟩)), (8, .pointer (some ⟨b3, 0, none⟩)), (9, .pointer (some ⟨b4, 0, none⟩)), (13, .bool true), (19, .bool false)]) (by kernel_rfl) ?_
    refine t_end ?_
    show W _ _ _ _ _ _ _
    refine w_cond rfl (fun c_ => by cases c_) (fun _ => ?_)
    show W _ _ _ _ _ _ _
    refine w_skip ?_
    show W _ _ _ _ _ _ _
    refine w_seq ?_
    refine w_reg fun all => ?_
    refine t_v (.ldn rfl rfl rfl (.at 3 rfl rfl)) ?_
    obtain ⟨⟨t65, t66⟩, h67, e⟩ := bind_of e
    try dsimp only at e
    refine t_v (.call (vs := [.agg #[.int .i64 t0_X, .int .i64 t0_Y]]) rfl rfl (by kernel_rfl) (glyphiclaw4_cut.ok h67)) ?_
    refine t_sti 3 (cs := [.int .i64 t65, .int .i64 t66]) rfl rfl rfl rfl rfl rfl rfl rfl rfl ?_
    refine t_keep [4, 5, 6, 7, 8, 9, 13] (σ' := [(4, .int .i64 r4), (5, .int .i64 a5), (6, .pointer (some ⟨b1, 0, none⟩)), (7, .pointer (some ⟨b2, 0, none⟩)), (8, .pointer (some ⟨b3, 0, none⟩)), (9, .pointer (some ⟨b4, 0, none⟩)), (13, .bool true)]) (by kernel_rfl) ?_
    refine t_end ?_
    show W _ _ _ _ _ _ _
    refine w_seq ?_
    refine w_reg fun all => ?_
    refine t_v (.ldn rfl rfl rfl (.at 2 rfl rfl)) ?_
    obtain ⟨⟨t68, t69⟩, h70, e⟩ := bind_of e
    try dsimp only at e
    refine t_v (.call (vs := [.agg #[.int .i64 o1_X, .int .i64 o1_Y]]) rfl rfl (by kernel_rfl) (glyphiclaw4_cut.ok h70)) ?_
    refine t_sti 2 (cs := [.int .i64 t68, .int .i64 t69]) rfl rfl rfl rfl rfl rfl rfl rfl rfl ?_
    refine t_keep [4, 5, 6, 7, 8, 9, 13] (σ' := [(4, .int .i64 r4), (5, .int .i64 a5), (6, .pointer (some ⟨b1, 0, none⟩)), (7, .pointer (some ⟨b2, 0, none⟩)), (8, .pointer (some ⟨b3, 0, none⟩)), (9, .pointer (some ⟨b4, 0, none⟩)), (13, .bool true)]) (by kernel_rfl) ?_
    refine t_end ?_
    show W _ _ _ _ _ _ _
    refine w_seq ?_
    refine w_reg fun all => ?_
    refine t_v (.ldn rfl rfl rfl (.at 1 rfl rfl)) ?_
    obtain ⟨⟨t71, t72⟩, h73, e⟩ := bind_of e
    try dsimp only at e
    refine t_v (.call (vs := [.agg #[.int .i64 A2_X, .int .i64 A2_Y]]) rfl rfl (by kernel_rfl) (glyphiclaw4_cut.ok h73)) ?_
    refine t_sti 1 (cs := [.int .i64 t71, .int .i64 t72]) rfl rfl rfl rfl rfl rfl rfl rfl rfl ?_
    refine t_keep [4, 5, 6, 7, 8, 9, 13] (σ' := [(4, .int .i64 r4), (5, .int .i64 a5), (6, .pointer (some ⟨b1, 0, none⟩)), (7, .pointer (some ⟨b2, 0, none⟩)), (8, .pointer (some ⟨b3, 0, none⟩)), (9, .pointer (some ⟨b4, 0, none⟩)), (13, .bool true)]) (by kernel_rfl) ?_
    refine t_end ?_
    show W _ _ _ _ _ _ _
    refine w_seq ?_
    refine w_reg fun all => ?_
    refine t_qz 1 [4, 5, 6, 7, 8, 9, 13, 26] (σ' := [(4, .int .i64 r4), (5, .int .i64 a5), (6, .pointer (some ⟨b1, 0, none⟩)), (7, .pointer (some ⟨b2, 0, none⟩)), (8, .pointer (some ⟨b3, 0, none⟩)), (9, .pointer (some ⟨b4, 0, none⟩)), (13, .bool true), (26, .pointer (some ⟨b1, 0, none⟩))]) (by kernel_rfl) ?_
    refine t_v (.ld1 rfl rfl rfl (.at 3 rfl rfl)) ?_
    refine t_qz 2 [4, 5, 6, 7, 8, 9, 13, 28, 29] (σ' := [(4, .int .i64 r4), (5, .int .i64 a5), (6, .pointer (some ⟨b1, 0, none⟩)), (7, .pointer (some ⟨b2, 0, none⟩)), (8, .pointer (some ⟨b3, 0, none⟩)), (9, .pointer (some ⟨b4, 0, none⟩)), (13, .bool true), (28, .int .i64 (wr64 (Int.tdiv t65 4))), (29, .pointer (some ⟨b1, 1, none⟩))]) (by kernel_rfl) ?_
    refine t_v (.ld1 rfl rfl rfl (.at 3 rfl rfl)) ?_
    refine t_qz 2 [4, 5, 6, 7, 8, 9, 13, 32] (σ' := [(4, .int .i64 r4), (5, .int .i64 a5), (6, .pointer (some ⟨b1, 0, none⟩)), (7, .pointer (some ⟨b2, 0, none⟩)), (8, .pointer (some ⟨b3, 0, none⟩)), (9, .pointer (some ⟨b4, 0, none⟩)), (13, .bool true), (32, .agg #[.int .i64 (wr64 (Int.tdiv t65 4)), .int .i64 (wr64 (Int.tdiv t66 4))])]) (by kernel_rfl) ?_
    refine t_sti 3 (cs := [.int .i64 (wr64 (Int.tdiv t65 4)), .int .i64 (wr64 (Int.tdiv t66 4))]) rfl rfl rfl rfl rfl rfl rfl rfl rfl ?_
    refine t_keep [4, 5, 6, 7, 8, 9, 13] (σ' := [(4, .int .i64 r4), (5, .int .i64 a5), (6, .pointer (some ⟨b1, 0, none⟩)), (7, .pointer (some ⟨b2, 0, none⟩)), (8, .pointer (some ⟨b3, 0, none⟩)), (9, .pointer (some ⟨b4, 0, none⟩)), (13, .bool true)]) (by kernel_rfl) ?_
    refine t_end ?_
    show W _ _ _ _ _ _ _
    refine w_seq ?_
    refine w_reg fun all => ?_
    refine t_qz 1 [4, 5, 6, 7, 8, 9, 13, 33] (σ' := [(4, .int .i64 r4), (5, .int .i64 a5), (6, .pointer (some ⟨b1, 0, none⟩)), (7, .pointer (some ⟨b2, 0, none⟩)), (8, .pointer (some ⟨b3, 0, none⟩)), (9, .pointer (some ⟨b4, 0, none⟩)), (13, .bool true), (33, .pointer (some ⟨b2, 0, none⟩))]) (by kernel_rfl) ?_
    refine t_v (.ld1 rfl rfl rfl (.at 2 rfl rfl)) ?_
    refine t_qz 2 [4, 5, 6, 7, 8, 9, 13, 35, 36] (σ' := [(4, .int .i64 r4), (5, .int .i64 a5), (6, .pointer (some ⟨b1, 0, none⟩)), (7, .pointer (some ⟨b2, 0, none⟩)), (8, .pointer (some ⟨b3, 0, none⟩)), (9, .pointer (some ⟨b4, 0, none⟩)), (13, .bool true), (35, .int .i64 (wr64 (Int.tdiv t68 4))), (36, .pointer (some ⟨b2, 1, none⟩))]) (by kernel_rfl) ?_
    refine t_v (.ld1 rfl rfl rfl (.at 2 rfl rfl)) ?_
    refine t_qz 2 [4, 5, 6, 7, 8, 9, 13, 39] (σ' := [(4, .int .i64 r4), (5, .int .i64 a5), (6, .pointer (some ⟨b1, 0, none⟩)), (7, .pointer (some ⟨b2, 0, none⟩)), (8, .pointer (some ⟨b3, 0, none⟩)), (9, .pointer (some ⟨b4, 0, none⟩)), (13, .bool true), (39, .agg #[.int .i64 (wr64 (Int.tdiv t68 4)), .int .i64 (wr64 (Int.tdiv t69 4))])]) (by kernel_rfl) ?_
    refine t_sti 2 (cs := [.int .i64 (wr64 (Int.tdiv t68 4)), .int .i64 (wr64 (Int.tdiv t69 4))]) rfl rfl rfl rfl rfl rfl rfl rfl rfl ?_
    refine t_keep [4, 5, 6, 7, 8, 9, 13] (σ' := [(4, .int .i64 r4), (5, .int .i64 a5), (6, .pointer (some ⟨b1, 0, none⟩)), (7, .pointer (some ⟨b2, 0, none⟩)), (8, .pointer (some ⟨b3, 0, none⟩)), (9, .pointer (some ⟨b4, 0, none⟩)), (13, .bool true)]) (by kernel_rfl) ?_
    refine t_end ?_
    show W _ _ _ _ _ _ _
    refine w_seq ?_
    refine w_reg fun all => ?_
    refine t_qz 1 [4, 5, 6, 7, 8, 9, 13, 40] (σ' := [(4, .int .i64 r4), (5, .int .i64 a5), (6, .pointer (some ⟨b1, 0, none⟩)), (7, .pointer (some ⟨b2, 0, none⟩)), (8, .pointer (some ⟨b3, 0, none⟩)), (9, .pointer (some ⟨b4, 0, none⟩)), (13, .bool true), (40, .pointer (some ⟨b3, 0, none⟩))]) (by kernel_rfl) ?_
    refine t_v (.ld1 rfl rfl rfl (.at 1 rfl rfl)) ?_
    refine t_qz 2 [4, 5, 6, 7, 8, 9, 13, 42, 43] (σ' := [(4, .int .i64 r4), (5, .int .i64 a5), (6, .pointer (some ⟨b1, 0, none⟩)), (7, .pointer (some ⟨b2, 0, none⟩)), (8, .pointer (some ⟨b3, 0, none⟩)), (9, .pointer (some ⟨b4, 0, none⟩)), (13, .bool true), (42, .int .i64 (wr64 (Int.tdiv t71 4))), (43, .pointer (some ⟨b3, 1, none⟩))]) (by kernel_rfl) ?_
    refine t_v (.ld1 rfl rfl rfl (.at 1 rfl rfl)) ?_
    refine t_qz 2 [4, 5, 6, 7, 8, 9, 13, 46] (σ' := [(4, .int .i64 r4), (5, .int .i64 a5), (6, .pointer (some ⟨b1, 0, none⟩)), (7, .pointer (some ⟨b2, 0, none⟩)), (8, .pointer (some ⟨b3, 0, none⟩)), (9, .pointer (some ⟨b4, 0, none⟩)), (13, .bool true), (46, .agg #[.int .i64 (wr64 (Int.tdiv t71 4)), .int .i64 (wr64 (Int.tdiv t72 4))])]) (by kernel_rfl) ?_
    refine t_sti 1 (cs := [.int .i64 (wr64 (Int.tdiv t71 4)), .int .i64 (wr64 (Int.tdiv t72 4))]) rfl rfl rfl rfl rfl rfl rfl rfl rfl ?_
    refine t_keep [4, 5, 6, 7, 8, 9, 13] (σ' := [(4, .int .i64 r4), (5, .int .i64 a5), (6, .pointer (some ⟨b1, 0, none⟩)), (7, .pointer (some ⟨b2, 0, none⟩)), (8, .pointer (some ⟨b3, 0, none⟩)), (9, .pointer (some ⟨b4, 0, none⟩)), (13, .bool true)]) (by kernel_rfl) ?_
    refine t_end ?_
    show W _ _ _ _ _ _ _
    refine w_seq ?_
    refine w_reg fun all => ?_
    refine t_v (.ldn rfl rfl rfl (.at 0 rfl rfl)) ?_
    obtain ⟨⟨t74, t75⟩, h76, e⟩ := bind_of e
    try dsimp only at e
    refine t_v (.call (vs := [.agg #[.int .i64 r3_X, .int .i64 r3_Y]]) rfl rfl (by kernel_rfl) (glyphiclaw4_cut.ok h76)) ?_
    refine t_sti 0 (cs := [.int .i64 t74, .int .i64 t75]) rfl rfl rfl rfl rfl rfl rfl rfl rfl ?_
    refine t_keep [4, 5, 6, 7, 8, 9, 13] (σ' := [(4, .int .i64 r4), (5, .int .i64 a5), (6, .pointer (some ⟨b1, 0, none⟩)), (7, .pointer (some ⟨b2, 0, none⟩)), (8, .pointer (some ⟨b3, 0, none⟩)), (9, .pointer (some ⟨b4, 0, none⟩)), (13, .bool true)]) (by kernel_rfl) ?_
    refine t_end ?_
    show W _ _ _ _ _ _ _
    refine w_seq ?_
    refine w_reg fun all => ?_
    refine t_qz 1 [4, 5, 6, 7, 8, 9, 13, 49] (σ' := [(4, .int .i64 r4), (5, .int .i64 a5), (6, .pointer (some ⟨b1, 0, none⟩)), (7, .pointer (some ⟨b2, 0, none⟩)), (8, .pointer (some ⟨b3, 0, none⟩)), (9, .pointer (some ⟨b4, 0, none⟩)), (13, .bool true), (49, .pointer (some ⟨b4, 0, none⟩))]) (by kernel_rfl) ?_
    refine t_v (.ld1 rfl rfl rfl (.at 0 rfl rfl)) ?_
    refine t_qz 2 [4, 5, 6, 7, 8, 9, 13, 51, 52] (σ' := [(4, .int .i64 r4), (5, .int .i64 a5), (6, .pointer (some ⟨b1, 0, none⟩)), (7, .pointer (some ⟨b2, 0, none⟩)), (8, .pointer (some ⟨b3, 0, none⟩)), (9, .pointer (some ⟨b4, 0, none⟩)), (13, .bool true), (51, .int .i64 (wr64 (Int.tdiv t74 4))), (52, .pointer (some ⟨b4, 1, none⟩))]) (by kernel_rfl) ?_
    refine t_v (.ld1 rfl rfl rfl (.at 0 rfl rfl)) ?_
    refine t_qz 2 [4, 5, 6, 7, 8, 9, 13, 55] (σ' := [(4, .int .i64 r4), (5, .int .i64 a5), (6, .pointer (some ⟨b1, 0, none⟩)), (7, .pointer (some ⟨b2, 0, none⟩)), (8, .pointer (some ⟨b3, 0, none⟩)), (9, .pointer (some ⟨b4, 0, none⟩)), (13, .bool true), (55, .agg #[.int .i64 (wr64 (Int.tdiv t74 4)), .int .i64 (wr64 (Int.tdiv t75 4))])]) (by kernel_rfl) ?_
    refine t_sti 0 (cs := [.int .i64 (wr64 (Int.tdiv t74 4)), .int .i64 (wr64 (Int.tdiv t75 4))]) rfl rfl rfl rfl rfl rfl rfl rfl rfl ?_
    refine t_keep [4, 5, 6, 7, 8, 9, 13] (σ' := [(4, .int .i64 r4), (5, .int .i64 a5), (6, .pointer (some ⟨b1, 0, none⟩)), (7, .pointer (some ⟨b2, 0, none⟩)), (8, .pointer (some ⟨b3, 0, none⟩)), (9, .pointer (some ⟨b4, 0, none⟩)), (13, .bool true)]) (by kernel_rfl) ?_
    refine t_end ?_
    show W _ _ _ _ _ _ _
    obtain ⟨⟨x81, x82, x83, x84, x85, x86, x87, x88, x89, x90⟩, e78, e⟩ := bind_of e
    try dsimp only at e
    refine w_cut [4, 5, 6, 7, 8, 9, 13] (fun σ_ H_ S_ => [(4, .int .i64 x81), (5, .int .i64 a5), (6, .pointer (some ⟨b1, 0, none⟩)), (7, .pointer (some ⟨b2, 0, none⟩)), (8, .pointer (some ⟨b3, 0, none⟩)), (9, .pointer (some ⟨b4, 0, none⟩)), (13, .bool x82)] = σ_ ∧ ([⟨b4, [.int .i64 x83, .int .i64 x84], 2⟩, ⟨b3, [.int .i64 x85, .int .i64 x86], 2⟩, ⟨b2, [.int .i64 x87, .int .i64 x88], 2⟩, ⟨b1, [.int .i64 x89, .int .i64 x90], 2⟩] : List Own) = H_ ∧ S = S_) ?_ ?_
    · show W _ _ _ _ _ _ _
      refine w_seq ?_
      refine w_reg fun all => ?_
      by_cases c80 : r4 < 0
      · rw [if_pos c80] at e78
        have c80b : (decide (r4 < 0)) = true := decide_eq_true c80
        refine t_qz 1 [4, 5, 6, 7, 8, 9, 13, 56] (σ' := [(4, .int .i64 r4), (5, .int .i64 a5), (6, .pointer (some ⟨b1, 0, none⟩)), (7, .pointer (some ⟨b2, 0, none⟩)), (8, .pointer (some ⟨b3, 0, none⟩)), (9, .pointer (some ⟨b4, 0, none⟩)), (13, .bool true), (56, .int .i64 r4)]) (by kernel_rfl) ?_
        refine t_v (dv_quiet rfl (congrArg (fun t => some (Value.bool t)) c80b)) ?_
        refine t_keep [4, 5, 6, 7, 8, 9, 13, 57] (σ' := [(4, .int .i64 r4), (5, .int .i64 a5), (6, .pointer (some ⟨b1, 0, none⟩)), (7, .pointer (some ⟨b2, 0, none⟩)), (8, .pointer (some ⟨b3, 0, none⟩)), (9, .pointer (some ⟨b4, 0, none⟩)), (13, .bool true), (57, .bool true)]) (by kernel_rfl) ?_
        refine t_end ?_
        show W _ _ _ _ _ _ _
        refine w_cond rfl (fun _ => ?_) (fun c_ => by cases c_)
        show W _ _ _ _ _ _ _
        refine w_reg fun all => ?_
        refine t_qz 4 [4, 5, 6, 7, 8, 9, 13] (σ' := [(4, .int .i64 (wr64 (0 - (wr64 (r4 + 1))))), (5, .int .i64 a5), (6, .pointer (some ⟨b1, 0, none⟩)), (7, .pointer (some ⟨b2, 0, none⟩)), (8, .pointer (some ⟨b3, 0, none⟩)), (9, .pointer (some ⟨b4, 0, none⟩)), (13, .bool true)]) (by kernel_rfl) ?_
        refine t_end ?_
        simp only [Option.some.injEq, Prod.mk.injEq] at e78
        obtain ⟨rfl, rfl, rfl, rfl, rfl, rfl, rfl, rfl, rfl, rfl⟩ := e78
        exact ⟨([⟨b4, [.int .i64 (wr64 (Int.tdiv t74 4)), .int .i64 (wr64 (Int.tdiv t75 4))], 2⟩, ⟨b3, [.int .i64 (wr64 (Int.tdiv t71 4)), .int .i64 (wr64 (Int.tdiv t72 4))], 2⟩, ⟨b2, [.int .i64 (wr64 (Int.tdiv t68 4)), .int .i64 (wr64 (Int.tdiv t69 4))], 2⟩, ⟨b1, [.int .i64 (wr64 (Int.tdiv t65 4)), .int .i64 (wr64 (Int.tdiv t66 4))], 2⟩] : List Own), S, VS.sel [0, 0, 0, 0] (by kernel_rfl), by kernel_rfl, rfl, rfl⟩
      · rw [if_neg c80] at e78
        have c80b : (decide (r4 < 0)) = false := decide_eq_false c80
        refine t_qz 1 [4, 5, 6, 7, 8, 9, 13, 56] (σ' := [(4, .int .i64 r4), (5, .int .i64 a5), (6, .pointer (some ⟨b1, 0, none⟩)), (7, .pointer (some ⟨b2, 0, none⟩)), (8, .pointer (some ⟨b3, 0, none⟩)), (9, .pointer (some ⟨b4, 0, none⟩)), (13, .bool true), (56, .int .i64 r4)]) (by kernel_rfl) ?_
        refine t_v (dv_quiet rfl (congrArg (fun t => some (Value.bool t)) c80b)) ?_
        refine t_keep [4, 5, 6, 7, 8, 9, 13, 57] (σ' := [(4, .int .i64 r4), (5, .int .i64 a5), (6, .pointer (some ⟨b1, 0, none⟩)), (7, .pointer (some ⟨b2, 0, none⟩)), (8, .pointer (some ⟨b3, 0, none⟩)), (9, .pointer (some ⟨b4, 0, none⟩)), (13, .bool true), (57, .bool false)]) (by kernel_rfl) ?_
        refine t_end ?_
        show W _ _ _ _ _ _ _
        refine w_cond rfl (fun c_ => by cases c_) (fun _ => ?_)
        show W _ _ _ _ _ _ _
        refine w_skip ?_
        simp only [Option.some.injEq, Prod.mk.injEq] at e78
        obtain ⟨rfl, rfl, rfl, rfl, rfl, rfl, rfl, rfl, rfl, rfl⟩ := e78
        exact ⟨([⟨b4, [.int .i64 (wr64 (Int.tdiv t74 4)), .int .i64 (wr64 (Int.tdiv t75 4))], 2⟩, ⟨b3, [.int .i64 (wr64 (Int.tdiv t71 4)), .int .i64 (wr64 (Int.tdiv t72 4))], 2⟩, ⟨b2, [.int .i64 (wr64 (Int.tdiv t68 4)), .int .i64 (wr64 (Int.tdiv t69 4))], 2⟩, ⟨b1, [.int .i64 (wr64 (Int.tdiv t65 4)), .int .i64 (wr64 (Int.tdiv t66 4))], 2⟩] : List Own), S, VS.sel [0, 0, 0, 0] (by kernel_rfl), by kernel_rfl, rfl, rfl⟩
    · rintro σ_ H_ S_ ⟨rfl, rfl, rfl⟩
      refine w_seq ?_
      refine w_reg fun all => ?_
      refine t_qz 3 [4, 5, 6, 7, 8, 9, 13] (σ' := [(4, .int .i64 (Int.tmod x81 67108864)), (5, .int .i64 a5), (6, .pointer (some ⟨b1, 0, none⟩)), (7, .pointer (some ⟨b2, 0, none⟩)), (8, .pointer (some ⟨b3, 0, none⟩)), (9, .pointer (some ⟨b4, 0, none⟩)), (13, .bool x82)]) (by kernel_rfl) ?_
      refine t_end ?_
      show W _ _ _ _ _ _ _
      refine w_seq ?_
      refine w_reg fun all => ?_
      obtain ⟨t93, h94, e⟩ := bind_of e
      refine t_qz 2 [4, 6, 7, 8, 9, 13, 64] (σ' := [(4, .int .i64 (Int.tmod x81 67108864)), (6, .pointer (some ⟨b1, 0, none⟩)), (7, .pointer (some ⟨b2, 0, none⟩)), (8, .pointer (some ⟨b3, 0, none⟩)), (9, .pointer (some ⟨b4, 0, none⟩)), (13, .bool x82), (64, .int .i64 (bits .and .i64 a5 16777215))]) (by kernel_rfl) ?_
      refine t_v (.call (vs := [.int .i64 (bits .and .i64 a5 16777215), .int .i64 16777216]) rfl rfl (by kernel_rfl) (glyphicworld_Number.ok h94)) ?_
      refine t_qz 1 [4, 5, 6, 7, 8, 9, 13] (σ' := [(4, .int .i64 (Int.tmod x81 67108864)), (5, .int .i64 t93), (6, .pointer (some ⟨b1, 0, none⟩)), (7, .pointer (some ⟨b2, 0, none⟩)), (8, .pointer (some ⟨b3, 0, none⟩)), (9, .pointer (some ⟨b4, 0, none⟩)), (13, .bool x82)]) (by kernel_rfl) ?_
      refine t_end ?_
      show W _ _ _ _ _ _ _
      refine w_seq ?_
      refine w_reg fun all => ?_
      refine t_v (.ldn rfl rfl rfl (.at 3 rfl rfl)) ?_
      refine t_v (.ldn rfl rfl rfl (.at 2 rfl rfl)) ?_
      refine t_v (.ldn rfl rfl rfl (.at 1 rfl rfl)) ?_
      obtain ⟨t95, h96, e⟩ := bind_of e
      refine t_qz 1 [4, 5, 6, 7, 8, 9, 13, 66, 67, 68, 69] (σ' := [(4, .int .i64 (Int.tmod x81 67108864)), (5, .int .i64 t93), (6, .pointer (some ⟨b1, 0, none⟩)), (7, .pointer (some ⟨b2, 0, none⟩)), (8, .pointer (some ⟨b3, 0, none⟩)), (9, .pointer (some ⟨b4, 0, none⟩)), (13, .bool x82), (66, .agg #[.int .i64 x89, .int .i64 x90]), (67, .agg #[.int .i64 x87, .int .i64 x88]), (68, .agg #[.int .i64 x85, .int .i64 x86]), (69, .int .i64 (Int.tmod x81 67108864))]) (by kernel_rfl) ?_
      refine t_v (.call (vs := [.agg #[.int .i64 x89, .int .i64 x90], .agg #[.int .i64 x87, .int .i64 x88], .agg #[.int .i64 x85, .int .i64 x86], .int .i64 (Int.tmod x81 67108864)]) rfl rfl (by kernel_rfl) (plane_Near.ok h96)) ?_
      refine t_qz 1 [4, 5, 6, 7, 8, 9, 13, 14] (σ' := [(4, .int .i64 (Int.tmod x81 67108864)), (5, .int .i64 t93), (6, .pointer (some ⟨b1, 0, none⟩)), (7, .pointer (some ⟨b2, 0, none⟩)), (8, .pointer (some ⟨b3, 0, none⟩)), (9, .pointer (some ⟨b4, 0, none⟩)), (13, .bool x82), (14, .bool t95)]) (by kernel_rfl) ?_
      refine t_end ?_
      show W _ _ _ _ _ _ _
      refine w_seq ?_
      obtain ⟨⟨t99, t100⟩, h101, e⟩ := bind_of e
      try dsimp only at e
      obtain ⟨⟨t102, t103⟩, h104, e⟩ := bind_of e
      try dsimp only at e
      obtain ⟨⟨t105, t106⟩, h107, e⟩ := bind_of e
      try dsimp only at e
      obtain ⟨t108, h109, e⟩ := bind_of e
      refine w_drwE mixed 9 [.v (.agg #[.int .i64 x89, .int .i64 x90]), .v (.agg #[.int .i64 t99, .int .i64 t100]), .v (.agg #[.int .i64 x87, .int .i64 x88]), .v (.agg #[.int .i64 t102, .int .i64 t103]), .v (.agg #[.int .i64 x85, .int .i64 x86]), .v (.agg #[.int .i64 t105, .int .i64 t106]), .v (.int .i64 (Int.tmod x81 67108864)), .v (.bool t108), .v (.bool t108)] (by kernel_rfl) ?_ ?_
      · refine .cons (.ldn rfl rfl rfl (.at 3 rfl rfl)) ?_
        refine .cons (.call (vs := [.agg #[.int .i64 x89, .int .i64 x90]]) rfl rfl (by kernel_rfl) (glyphiclaw4_turn.ok h101)) ?_
        refine .cons (.ldn rfl rfl rfl (.at 2 rfl rfl)) ?_
        refine .cons (.call (vs := [.agg #[.int .i64 x87, .int .i64 x88]]) rfl rfl (by kernel_rfl) (glyphiclaw4_turn.ok h104)) ?_
        refine .cons (.ldn rfl rfl rfl (.at 1 rfl rfl)) ?_
        refine .cons (.call (vs := [.agg #[.int .i64 x85, .int .i64 x86]]) rfl rfl (by kernel_rfl) (glyphiclaw4_turn.ok h107)) ?_
        refine DI.sq 1 (by kernel_rfl) rfl ?_
        refine .cons (.call (vs := [.agg #[.int .i64 t99, .int .i64 t100], .agg #[.int .i64 t102, .int .i64 t103], .agg #[.int .i64 t105, .int .i64 t106], .int .i64 (Int.tmod x81 67108864)]) rfl rfl (by kernel_rfl) (plane_Near.ok h109)) ?_
        refine DI.sq 1 (by kernel_rfl) rfl ?_
        exact .nil
      refine fk_q 9 [4, 5, 6, 7, 8, 9, 13, 14, 15] (σ' := [(4, .int .i64 (Int.tmod x81 67108864)), (5, .int .i64 t93), (6, .pointer (some ⟨b1, 0, none⟩)), (7, .pointer (some ⟨b2, 0, none⟩)), (8, .pointer (some ⟨b3, 0, none⟩)), (9, .pointer (some ⟨b4, 0, none⟩)), (13, .bool x82), (14, .bool t95), (15, .bool t108)]) t_more (by kernel_rfl) ?_
      refine fk_nil fun all => ?_
      refine t_keep [4, 5, 6, 7, 8, 9, 13, 14, 15] (σ' := [(4, .int .i64 (Int.tmod x81 67108864)), (5, .int .i64 t93), (6, .pointer (some ⟨b1, 0, none⟩)), (7, .pointer (some ⟨b2, 0, none⟩)), (8, .pointer (some ⟨b3, 0, none⟩)), (9, .pointer (some ⟨b4, 0, none⟩)), (13, .bool x82), (14, .bool t95), (15, .bool t108)]) (by kernel_rfl) ?_
      refine t_end ?_
      show W _ _ _ _ _ _ _
      refine w_seq ?_
      obtain ⟨⟨t113, t114⟩, h115, e⟩ := bind_of e
      try dsimp only at e
      obtain ⟨⟨t116, t117⟩, h118, e⟩ := bind_of e
      try dsimp only at e
      obtain ⟨⟨t119, t120⟩, h121, e⟩ := bind_of e
      try dsimp only at e
      obtain ⟨t122, h123, e⟩ := bind_of e
      refine w_drwE mixed 12 [.v (.agg #[.int .i64 x89, .int .i64 x90]), .v (.agg #[.int .i64 x83, .int .i64 x84]), .v (.agg #[.int .i64 t113, .int .i64 t114]), .v (.agg #[.int .i64 x87, .int .i64 x88]), .v (.agg #[.int .i64 x83, .int .i64 x84]), .v (.agg #[.int .i64 t116, .int .i64 t117]), .v (.agg #[.int .i64 x85, .int .i64 x86]), .v (.agg #[.int .i64 x83, .int .i64 x84]), .v (.agg #[.int .i64 t119, .int .i64 t120]), .v (.int .i64 (Int.tmod x81 67108864)), .v (.bool t122), .v (.bool t122)] (by kernel_rfl) ?_ ?_
      · refine .cons (.ldn rfl rfl rfl (.at 3 rfl rfl)) ?_
        refine .cons (.ldn rfl rfl rfl (.at 0 rfl rfl)) ?_
        refine .cons (.call (vs := [.agg #[.int .i64 x89, .int .i64 x90], .agg #[.int .i64 x83, .int .i64 x84]]) rfl rfl (by kernel_rfl) (plane_Add.ok h115)) ?_
        refine .cons (.ldn rfl rfl rfl (.at 2 rfl rfl)) ?_
        refine .cons (.ldn rfl rfl rfl (.at 0 rfl rfl)) ?_
        refine .cons (.call (vs := [.agg #[.int .i64 x87, .int .i64 x88], .agg #[.int .i64 x83, .int .i64 x84]]) rfl rfl (by kernel_rfl) (plane_Add.ok h118)) ?_
        refine .cons (.ldn rfl rfl rfl (.at 1 rfl rfl)) ?_
        refine .cons (.ldn rfl rfl rfl (.at 0 rfl rfl)) ?_
        refine .cons (.call (vs := [.agg #[.int .i64 x85, .int .i64 x86], .agg #[.int .i64 x83, .int .i64 x84]]) rfl rfl (by kernel_rfl) (plane_Add.ok h121)) ?_
        refine DI.sq 1 (by kernel_rfl) rfl ?_
        refine .cons (.call (vs := [.agg #[.int .i64 t113, .int .i64 t114], .agg #[.int .i64 t116, .int .i64 t117], .agg #[.int .i64 t119, .int .i64 t120], .int .i64 (Int.tmod x81 67108864)]) rfl rfl (by kernel_rfl) (plane_Near.ok h123)) ?_
        refine DI.sq 1 (by kernel_rfl) rfl ?_
        exact .nil
      refine fk_q 12 [4, 5, 6, 7, 8, 13, 14, 15, 16] (σ' := [(4, .int .i64 (Int.tmod x81 67108864)), (5, .int .i64 t93), (6, .pointer (some ⟨b1, 0, none⟩)), (7, .pointer (some ⟨b2, 0, none⟩)), (8, .pointer (some ⟨b3, 0, none⟩)), (13, .bool x82), (14, .bool t95), (15, .bool t108), (16, .bool t122)]) t_more (by kernel_rfl) ?_
      refine fk_nil fun all => ?_
      refine t_keep [4, 5, 6, 7, 8, 13, 14, 15, 16] (σ' := [(4, .int .i64 (Int.tmod x81 67108864)), (5, .int .i64 t93), (6, .pointer (some ⟨b1, 0, none⟩)), (7, .pointer (some ⟨b2, 0, none⟩)), (8, .pointer (some ⟨b3, 0, none⟩)), (13, .bool x82), (14, .bool t95), (15, .bool t108), (16, .bool t122)]) (by kernel_rfl) ?_
      refine t_end ?_
      show W _ _ _ _ _ _ _
      refine w_seq ?_
      by_cases c124 : x82 = true
      · rw [if_pos c124] at e
        have c124b : x82 = true := c124
        obtain ⟨t125, h126, e⟩ := bind_of e
        by_cases c127 : t95 = t125
        · rw [if_pos c127] at e
          have c127b : (t95 == t125) = true := beq_iff_eq.mpr c127
          by_cases c128 : t95 = t108
          · rw [if_pos c128] at e
            have c128b : (t95 == t108) = true := beq_iff_eq.mpr c128
            by_cases c129 : t95 = t122
            · rw [if_pos c129] at e
              have c129b : (t95 == t122) = true := beq_iff_eq.mpr c129
              by_cases c130 : t95 = true
              · rw [if_pos c130] at e
                have c130b : t95 = true := c130
                obtain ⟨t131, h132, e⟩ := bind_of e
                cases t131 with
                | true =>
                  rw [if_pos rfl] at e
                  obtain ⟨t133, h134, e⟩ := bind_of e
                  cases t133 with
                  | true =>
                    rw [if_pos rfl] at e
                    obtain ⟨t135, h136, e⟩ := bind_of e
                    cases t135 with
                    | true =>
                      rw [if_pos rfl] at e
                      obtain ⟨t137, h138, e⟩ := bind_of e
                      obtain ⟨t139, h140, e⟩ := bind_of e
                      by_cases c141 : t137 = (wr64 (0 - t139))
                      · rw [if_pos c141] at e
                        have c141b : (t137 == (wr64 (0 - t139))) = true := beq_iff_eq.mpr c141
                        obtain ⟨⟨t142, t143⟩, h144, e⟩ := bind_of e
                        try dsimp only at e
                        obtain ⟨⟨t145, t146⟩, h147, e⟩ := bind_of e
                        try dsimp only at e
                        obtain ⟨⟨t148, t149⟩, h150, e⟩ := bind_of e
                        try dsimp only at e
                        obtain ⟨t151, h152, e⟩ := bind_of e
                        obtain ⟨t153, h154, e⟩ := bind_of e
                        by_cases c155 : t151 = t153
                        · rw [if_pos c155] at e
                          have c155b : (t151 == t153) = true := beq_iff_eq.mpr c155
                          obtain ⟨t156, h157, e⟩ := bind_of e
                          obtain ⟨t158, h159, e⟩ := bind_of e
                          refine w_drwE mixed 83 [.v (.bool true), .v (.bool true), .v (.bool t95), .v (.agg #[.int .i64 x87, .int .i64 x88]), .v (.agg #[.int .i64 x89, .int .i64 x90]), .v (.agg #[.int .i64 x85, .int .i64 x86]), .v (.int .i64 (Int.tmod x81 67108864)), .v (.bool t125), .v (.bool true), .v (.bool true), .v (.bool true), .v (.bool t95), .v (.bool t108), .v (.bool true), .v (.bool true), .v (.bool true), .v (.bool t95), .v (.bool t122), .v (.bool true), .v (.bool true), .v (.bool true), .v (.bool t95), .v (.bool false), .v (.bool false), .v (.agg #[.int .i64 x89, .int .i64 x90]), .v (.agg #[.int .i64 x87, .int .i64 x88]), .v (.agg #[.int .i64 x85, .int .i64 x86]), .v (.int .i64 (Int.tmod x81 67108864)), .v (.int .i64 t93), .v (.int .i64 (wr64 ((Int.tmod x81 67108864) + t93))), .v (.bool true), .v (.bool true), .v (.bool true), .v (.bool true), .v (.agg #[.int .i64 x89, .int .i64 x90]), .v (.agg #[.int .i64 x87, .int .i64 x88]), .v (.agg #[.int .i64 x89, .int .i64 x90]), .v (.int .i64 (Int.tmod x81 67108864)), .v (.bool true), .v (.bool true), .v (.bool true), .v (.agg #[.int .i64 x89, .int .i64 x90]), .v (.agg #[.int .i64 x87, .int .i64 x88]), .v (.agg #[.int .i64 x87, .int .i64 x88]), .v (.int .i64 (Int.tmod x81 67108864)), .v (.bool true), .v (.bool true), .v (.bool true), .v (.agg #[.int .i64 x89, .int .i64 x90]), .v (.agg #[.int .i64 x87, .int .i64 x88]), .v (.agg #[.int .i64 x85, .int .i64 x86]), .v (.int .i64 t137), .v (.agg #[.int .i64 x87, .int .i64 x88]), .v (.agg #[.int .i64 x89, .int .i64 x90]), .v (.agg #[.int .i64 x85, .int .i64 x86]), .v (.int .i64 t139), .v (.int .i64 (wr64 (0 - t139))), .v (.bool true), .v (.bool true), .v (.bool true), .v (.agg #[.int .i64 x89, .int .i64 x90]), .v (.agg #[.int .i64 t142, .int .i64 t143]), .v (.agg #[.int .i64 x87, .int .i64 x88]), .v (.agg #[.int .i64 t145, .int .i64 t146]), .v (.agg #[.int .i64 x85, .int .i64 x86]), .v (.agg #[.int .i64 t148, .int .i64 t149]), .v (.int .i64 t151), .v (.agg #[.int .i64 x89, .int .i64 x90]), .v (.agg #[.int .i64 x87, .int .i64 x88]), .v (.agg #[.int .i64 x85, .int .i64 x86]), .v (.int .i64 t153), .v (.bool true), .v (.bool true), .v (.bool true), .v (.agg #[.int .i64 x89, .int .i64 x90]), .v (.agg #[.int .i64 x87, .int .i64 x88]), .v (.int .i64 t156), .v (.agg #[.int .i64 x87, .int .i64 x88]), .v (.agg #[.int .i64 x89, .int .i64 x90]), .v (.int .i64 t158), .v (.bool (t156 == t158)), .v (.bool (t156 == t158)), .v (.bool (t156 == t158))] (by kernel_rfl) ?_ ?_
                          · refine .cons (dv_quiet rfl (congrArg (fun t => some (Value.bool t)) c124b)) ?_
                            refine DI.sq 2 (by kernel_rfl) rfl ?_
                            refine .cons (.ldn rfl rfl rfl (.at 2 rfl rfl)) ?_
                            refine .cons (.ldn rfl rfl rfl (.at 3 rfl rfl)) ?_
                            refine .cons (.ldn rfl rfl rfl (.at 1 rfl rfl)) ?_
                            refine DI.sq 1 (by kernel_rfl) rfl ?_
                            refine .cons (.call (vs := [.agg #[.int .i64 x87, .int .i64 x88], .agg #[.int .i64 x89, .int .i64 x90], .agg #[.int .i64 x85, .int .i64 x86], .int .i64 (Int.tmod x81 67108864)]) rfl rfl (by kernel_rfl) (plane_Near.ok h126)) ?_
                            refine .cons (dv_quiet rfl (congrArg (fun t => some (Value.bool t)) c127b)) ?_
                            refine DI.sq 4 (by kernel_rfl) rfl ?_
                            refine .cons (dv_quiet rfl (congrArg (fun t => some (Value.bool t)) c128b)) ?_
                            refine DI.sq 4 (by kernel_rfl) rfl ?_
                            refine .cons (dv_quiet rfl (congrArg (fun t => some (Value.bool t)) c129b)) ?_
                            refine DI.sq 3 (by kernel_rfl) rfl ?_
                            refine .cons (dv_quiet rfl (congrArg (fun t => some (Value.bool (!t))) c130b)) ?_
                            refine DI.sq 1 (by kernel_rfl) rfl ?_
                            refine .cons (.ldn rfl rfl rfl (.at 3 rfl rfl)) ?_
                            refine .cons (.ldn rfl rfl rfl (.at 2 rfl rfl)) ?_
                            refine .cons (.ldn rfl rfl rfl (.at 1 rfl rfl)) ?_
                            refine DI.sq 3 (by kernel_rfl) rfl ?_
                            refine .cons (.call (vs := [.agg #[.int .i64 x89, .int .i64 x90], .agg #[.int .i64 x87, .int .i64 x88], .agg #[.int .i64 x85, .int .i64 x86], .int .i64 (wr64 ((Int.tmod x81 67108864) + t93))]) rfl rfl (by kernel_rfl) (plane_Near.ok h132)) ?_
                            refine DI.sq 3 (by kernel_rfl) rfl ?_
                            refine .cons (.ldn rfl rfl rfl (.at 3 rfl rfl)) ?_
                            refine .cons (.ldn rfl rfl rfl (.at 2 rfl rfl)) ?_
                            refine .cons (.ldn rfl rfl rfl (.at 3 rfl rfl)) ?_
                            refine DI.sq 1 (by kernel_rfl) rfl ?_
                            refine .cons (.call (vs := [.agg #[.int .i64 x89, .int .i64 x90], .agg #[.int .i64 x87, .int .i64 x88], .agg #[.int .i64 x89, .int .i64 x90], .int .i64 (Int.tmod x81 67108864)]) rfl rfl (by kernel_rfl) (plane_Near.ok h134)) ?_
                            refine DI.sq 2 (by kernel_rfl) rfl ?_
                            refine .cons (.ldn rfl rfl rfl (.at 3 rfl rfl)) ?_
                            refine .cons (.ldn rfl rfl rfl (.at 2 rfl rfl)) ?_
                            refine .cons (.ldn rfl rfl rfl (.at 2 rfl rfl)) ?_
                            refine DI.sq 1 (by kernel_rfl) rfl ?_
                            refine .cons (.call (vs := [.agg #[.int .i64 x89, .int .i64 x90], .agg #[.int .i64 x87, .int .i64 x88], .agg #[.int .i64 x87, .int .i64 x88], .int .i64 (Int.tmod x81 67108864)]) rfl rfl (by kernel_rfl) (plane_Near.ok h136)) ?_
                            refine DI.sq 2 (by kernel_rfl) rfl ?_
                            refine .cons (.ldn rfl rfl rfl (.at 3 rfl rfl)) ?_
                            refine .cons (.ldn rfl rfl rfl (.at 2 rfl rfl)) ?_
                            refine .cons (.ldn rfl rfl rfl (.at 1 rfl rfl)) ?_
                            refine .cons (.call (vs := [.agg #[.int .i64 x89, .int .i64 x90], .agg #[.int .i64 x87, .int .i64 x88], .agg #[.int .i64 x85, .int .i64 x86]]) rfl rfl (by kernel_rfl) (plane_Cross.ok h138)) ?_
                            refine .cons (.ldn rfl rfl rfl (.at 2 rfl rfl)) ?_
                            refine .cons (.ldn rfl rfl rfl (.at 3 rfl rfl)) ?_
                            refine .cons (.ldn rfl rfl rfl (.at 1 rfl rfl)) ?_
                            refine .cons (.call (vs := [.agg #[.int .i64 x87, .int .i64 x88], .agg #[.int .i64 x89, .int .i64 x90], .agg #[.int .i64 x85, .int .i64 x86]]) rfl rfl (by kernel_rfl) (plane_Cross.ok h140)) ?_
                            refine DI.sq 1 (by kernel_rfl) rfl ?_
                            refine .cons (dv_quiet rfl (congrArg (fun t => some (Value.bool t)) c141b)) ?_
                            refine DI.sq 2 (by kernel_rfl) rfl ?_
                            refine .cons (.ldn rfl rfl rfl (.at 3 rfl rfl)) ?_
                            refine .cons (.call (vs := [.agg #[.int .i64 x89, .int .i64 x90]]) rfl rfl (by kernel_rfl) (glyphiclaw4_turn.ok h144)) ?_
                            refine .cons (.ldn rfl rfl rfl (.at 2 rfl rfl)) ?_
                            refine .cons (.call (vs := [.agg #[.int .i64 x87, .int .i64 x88]]) rfl rfl (by kernel_rfl) (glyphiclaw4_turn.ok h147)) ?_
                            refine .cons (.ldn rfl rfl rfl (.at 1 rfl rfl)) ?_
                            refine .cons (.call (vs := [.agg #[.int .i64 x85, .int .i64 x86]]) rfl rfl (by kernel_rfl) (glyphiclaw4_turn.ok h150)) ?_
                            refine .cons (.call (vs := [.agg #[.int .i64 t142, .int .i64 t143], .agg #[.int .i64 t145, .int .i64 t146], .agg #[.int .i64 t148, .int .i64 t149]]) rfl rfl (by kernel_rfl) (plane_Cross.ok h152)) ?_
                            refine .cons (.ldn rfl rfl rfl (.at 3 rfl rfl)) ?_
                            refine .cons (.ldn rfl rfl rfl (.at 2 rfl rfl)) ?_
                            refine .cons (.ldn rfl rfl rfl (.at 1 rfl rfl)) ?_
                            refine .cons (.call (vs := [.agg #[.int .i64 x89, .int .i64 x90], .agg #[.int .i64 x87, .int .i64 x88], .agg #[.int .i64 x85, .int .i64 x86]]) rfl rfl (by kernel_rfl) (plane_Cross.ok h154)) ?_
                            refine .cons (dv_quiet rfl (congrArg (fun t => some (Value.bool t)) c155b)) ?_
                            refine DI.sq 2 (by kernel_rfl) rfl ?_
                            refine .cons (.ldn rfl rfl rfl (.at 3 rfl rfl)) ?_
                            refine .cons (.ldn rfl rfl rfl (.at 2 rfl rfl)) ?_
                            refine .cons (.call (vs := [.agg #[.int .i64 x89, .int .i64 x90], .agg #[.int .i64 x87, .int .i64 x88]]) rfl rfl (by kernel_rfl) (plane_Len2.ok h157)) ?_
                            refine .cons (.ldn rfl rfl rfl (.at 2 rfl rfl)) ?_
                            refine .cons (.ldn rfl rfl rfl (.at 3 rfl rfl)) ?_
                            refine .cons (.call (vs := [.agg #[.int .i64 x87, .int .i64 x88], .agg #[.int .i64 x89, .int .i64 x90]]) rfl rfl (by kernel_rfl) (plane_Len2.ok h159)) ?_
                            refine DI.sq 3 (by kernel_rfl) rfl ?_
                            exact .nil
                          refine fk_q 83 [12] (σ' := [(12, .bool (t156 == t158))]) t_more (by kernel_rfl) ?_
                          refine fk_nil fun all => ?_
                          refine t_keep [12] (σ' := [(12, .bool (t156 == t158))]) (by kernel_rfl) ?_
                          refine t_end ?_
                          show W _ _ _ _ _ _ _
                          refine w_ret ?_
                          have hr_ := Option.some.inj e
                          exact ⟨[.bool (t156 == t158)], [], S, ⟨rfl, trivial⟩, VS.none, congrArg Value.bool hr_, rfl, rfl⟩
                        · rw [if_neg c155] at e
                          exact absurd (Option.some.inj e) (by decide)
                      · rw [if_neg c141] at e
                        exact absurd (Option.some.inj e) (by decide)
                    | false =>
                      rw [if_neg (by decide)] at e
                      exact absurd (Option.some.inj e) (by decide)
                  | false =>
                    rw [if_neg (by decide)] at e
                    exact absurd (Option.some.inj e) (by decide)
                | false =>
                  rw [if_neg (by decide)] at e
                  exact absurd (Option.some.inj e) (by decide)
              · rw [if_neg c130] at e
                have c130b : t95 = false := Bool.eq_false_iff.mpr c130
                obtain ⟨t160, h161, e⟩ := bind_of e
                cases t160 with
                | true =>
                  rw [if_pos rfl] at e
                  obtain ⟨t162, h163, e⟩ := bind_of e
                  cases t162 with
                  | true =>
                    rw [if_pos rfl] at e
                    obtain ⟨t164, h165, e⟩ := bind_of e
                    obtain ⟨t166, h167, e⟩ := bind_of e
                    by_cases c168 : t164 = (wr64 (0 - t166))
                    · rw [if_pos c168] at e
                      have c168b : (t164 == (wr64 (0 - t166))) = true := beq_iff_eq.mpr c168
                      obtain ⟨⟨t169, t170⟩, h171, e⟩ := bind_of e
                      try dsimp only at e
                      obtain ⟨⟨t172, t173⟩, h174, e⟩ := bind_of e
                      try dsimp only at e
                      obtain ⟨⟨t175, t176⟩, h177, e⟩ := bind_of e
                      try dsimp only at e
                      obtain ⟨t178, h179, e⟩ := bind_of e
                      obtain ⟨t180, h181, e⟩ := bind_of e
                      by_cases c182 : t178 = t180
                      · rw [if_pos c182] at e
                        have c182b : (t178 == t180) = true := beq_iff_eq.mpr c182
                        obtain ⟨t183, h184, e⟩ := bind_of e
                        obtain ⟨t185, h186, e⟩ := bind_of e
                        refine w_drwE mixed 83 [.v (.bool true), .v (.bool true), .v (.bool t95), .v (.agg #[.int .i64 x87, .int .i64 x88]), .v (.agg #[.int .i64 x89, .int .i64 x90]), .v (.agg #[.int .i64 x85, .int .i64 x86]), .v (.int .i64 (Int.tmod x81 67108864)), .v (.bool t125), .v (.bool true), .v (.bool true), .v (.bool true), .v (.bool t95), .v (.bool t108), .v (.bool true), .v (.bool true), .v (.bool true), .v (.bool t95), .v (.bool t122), .v (.bool true), .v (.bool true), .v (.bool true), .v (.bool t95), .v (.bool true), .v (.bool true), .v (.tuple #[]), .v (.tuple #[]), .v (.tuple #[]), .v (.tuple #[]), .v (.tuple #[]), .v (.tuple #[]), .v (.tuple #[]), .v (.bool true), .v (.bool true), .v (.bool true), .v (.agg #[.int .i64 x89, .int .i64 x90]), .v (.agg #[.int .i64 x87, .int .i64 x88]), .v (.agg #[.int .i64 x89, .int .i64 x90]), .v (.int .i64 (Int.tmod x81 67108864)), .v (.bool true), .v (.bool true), .v (.bool true), .v (.agg #[.int .i64 x89, .int .i64 x90]), .v (.agg #[.int .i64 x87, .int .i64 x88]), .v (.agg #[.int .i64 x87, .int .i64 x88]), .v (.int .i64 (Int.tmod x81 67108864)), .v (.bool true), .v (.bool true), .v (.bool true), .v (.agg #[.int .i64 x89, .int .i64 x90]), .v (.agg #[.int .i64 x87, .int .i64 x88]), .v (.agg #[.int .i64 x85, .int .i64 x86]), .v (.int .i64 t164), .v (.agg #[.int .i64 x87, .int .i64 x88]), .v (.agg #[.int .i64 x89, .int .i64 x90]), .v (.agg #[.int .i64 x85, .int .i64 x86]), .v (.int .i64 t166), .v (.int .i64 (wr64 (0 - t166))), .v (.bool true), .v (.bool true), .v (.bool true), .v (.agg #[.int .i64 x89, .int .i64 x90]), .v (.agg #[.int .i64 t169, .int .i64 t170]), .v (.agg #[.int .i64 x87, .int .i64 x88]), .v (.agg #[.int .i64 t172, .int .i64 t173]), .v (.agg #[.int .i64 x85, .int .i64 x86]), .v (.agg #[.int .i64 t175, .int .i64 t176]), .v (.int .i64 t178), .v (.agg #[.int .i64 x89, .int .i64 x90]), .v (.agg #[.int .i64 x87, .int .i64 x88]), .v (.agg #[.int .i64 x85, .int .i64 x86]), .v (.int .i64 t180), .v (.bool true), .v (.bool true), .v (.bool true), .v (.agg #[.int .i64 x89, .int .i64 x90]), .v (.agg #[.int .i64 x87, .int .i64 x88]), .v (.int .i64 t183), .v (.agg #[.int .i64 x87, .int .i64 x88]), .v (.agg #[.int .i64 x89, .int .i64 x90]), .v (.int .i64 t185), .v (.bool (t183 == t185)), .v (.bool (t183 == t185)), .v (.bool (t183 == t185))] (by kernel_rfl) ?_ ?_
                        · refine .cons (dv_quiet rfl (congrArg (fun t => some (Value.bool t)) c124b)) ?_
                          refine DI.sq 2 (by kernel_rfl) rfl ?_
                          refine .cons (.ldn rfl rfl rfl (.at 2 rfl rfl)) ?_
                          refine .cons (.ldn rfl rfl rfl (.at 3 rfl rfl)) ?_
                          refine .cons (.ldn rfl rfl rfl (.at 1 rfl rfl)) ?_
                          refine DI.sq 1 (by kernel_rfl) rfl ?_
                          refine .cons (.call (vs := [.agg #[.int .i64 x87, .int .i64 x88], .agg #[.int .i64 x89, .int .i64 x90], .agg #[.int .i64 x85, .int .i64 x86], .int .i64 (Int.tmod x81 67108864)]) rfl rfl (by kernel_rfl) (plane_Near.ok h126)) ?_
                          refine .cons (dv_quiet rfl (congrArg (fun t => some (Value.bool t)) c127b)) ?_
                          refine DI.sq 4 (by kernel_rfl) rfl ?_
                          refine .cons (dv_quiet rfl (congrArg (fun t => some (Value.bool t)) c128b)) ?_
                          refine DI.sq 4 (by kernel_rfl) rfl ?_
                          refine .cons (dv_quiet rfl (congrArg (fun t => some (Value.bool t)) c129b)) ?_
                          refine DI.sq 3 (by kernel_rfl) rfl ?_
                          refine .cons (dv_quiet rfl (congrArg (fun t => some (Value.bool (!t))) c130b)) ?_
                          refine DI.sq 11 (by kernel_rfl) rfl ?_
                          refine .cons (.ldn rfl rfl rfl (.at 3 rfl rfl)) ?_
                          refine .cons (.ldn rfl rfl rfl (.at 2 rfl rfl)) ?_
                          refine .cons (.ldn rfl rfl rfl (.at 3 rfl rfl)) ?_
                          refine DI.sq 1 (by kernel_rfl) rfl ?_
                          refine .cons (.call (vs := [.agg #[.int .i64 x89, .int .i64 x90], .agg #[.int .i64 x87, .int .i64 x88], .agg #[.int .i64 x89, .int .i64 x90], .int .i64 (Int.tmod x81 67108864)]) rfl rfl (by kernel_rfl) (plane_Near.ok h161)) ?_
                          refine DI.sq 2 (by kernel_rfl) rfl ?_
                          refine .cons (.ldn rfl rfl rfl (.at 3 rfl rfl)) ?_
                          refine .cons (.ldn rfl rfl rfl (.at 2 rfl rfl)) ?_
                          refine .cons (.ldn rfl rfl rfl (.at 2 rfl rfl)) ?_
                          refine DI.sq 1 (by kernel_rfl) rfl ?_
                          refine .cons (.call (vs := [.agg #[.int .i64 x89, .int .i64 x90], .agg #[.int .i64 x87, .int .i64 x88], .agg #[.int .i64 x87, .int .i64 x88], .int .i64 (Int.tmod x81 67108864)]) rfl rfl (by kernel_rfl) (plane_Near.ok h163)) ?_
                          refine DI.sq 2 (by kernel_rfl) rfl ?_
                          refine .cons (.ldn rfl rfl rfl (.at 3 rfl rfl)) ?_
                          refine .cons (.ldn rfl rfl rfl (.at 2 rfl rfl)) ?_
                          refine .cons (.ldn rfl rfl rfl (.at 1 rfl rfl)) ?_
                          refine .cons (.call (vs := [.agg #[.int .i64 x89, .int .i64 x90], .agg #[.int .i64 x87, .int .i64 x88], .agg #[.int .i64 x85, .int .i64 x86]]) rfl rfl (by kernel_rfl) (plane_Cross.ok h165)) ?_
                          refine .cons (.ldn rfl rfl rfl (.at 2 rfl rfl)) ?_
                          refine .cons (.ldn rfl rfl rfl (.at 3 rfl rfl)) ?_
                          refine .cons (.ldn rfl rfl rfl (.at 1 rfl rfl)) ?_
                          refine .cons (.call (vs := [.agg #[.int .i64 x87, .int .i64 x88], .agg #[.int .i64 x89, .int .i64 x90], .agg #[.int .i64 x85, .int .i64 x86]]) rfl rfl (by kernel_rfl) (plane_Cross.ok h167)) ?_
                          refine DI.sq 1 (by kernel_rfl) rfl ?_
                          refine .cons (dv_quiet rfl (congrArg (fun t => some (Value.bool t)) c168b)) ?_
                          refine DI.sq 2 (by kernel_rfl) rfl ?_
                          refine .cons (.ldn rfl rfl rfl (.at 3 rfl rfl)) ?_
                          refine .cons (.call (vs := [.agg #[.int .i64 x89, .int .i64 x90]]) rfl rfl (by kernel_rfl) (glyphiclaw4_turn.ok h171)) ?_
                          refine .cons (.ldn rfl rfl rfl (.at 2 rfl rfl)) ?_
                          refine .cons (.call (vs := [.agg #[.int .i64 x87, .int .i64 x88]]) rfl rfl (by kernel_rfl) (glyphiclaw4_turn.ok h174)) ?_
                          refine .cons (.ldn rfl rfl rfl (.at 1 rfl rfl)) ?_
                          refine .cons (.call (vs := [.agg #[.int .i64 x85, .int .i64 x86]]) rfl rfl (by kernel_rfl) (glyphiclaw4_turn.ok h177)) ?_
                          refine .cons (.call (vs := [.agg #[.int .i64 t169, .int .i64 t170], .agg #[.int .i64 t172, .int .i64 t173], .agg #[.int .i64 t175, .int .i64 t176]]) rfl rfl (by kernel_rfl) (plane_Cross.ok h179)) ?_
                          refine .cons (.ldn rfl rfl rfl (.at 3 rfl rfl)) ?_
                          refine .cons (.ldn rfl rfl rfl (.at 2 rfl rfl)) ?_
                          refine .cons (.ldn rfl rfl rfl (.at 1 rfl rfl)) ?_
                          refine .cons (.call (vs := [.agg #[.int .i64 x89, .int .i64 x90], .agg #[.int .i64 x87, .int .i64 x88], .agg #[.int .i64 x85, .int .i64 x86]]) rfl rfl (by kernel_rfl) (plane_Cross.ok h181)) ?_
                          refine .cons (dv_quiet rfl (congrArg (fun t => some (Value.bool t)) c182b)) ?_
                          refine DI.sq 2 (by kernel_rfl) rfl ?_
                          refine .cons (.ldn rfl rfl rfl (.at 3 rfl rfl)) ?_
                          refine .cons (.ldn rfl rfl rfl (.at 2 rfl rfl)) ?_
                          refine .cons (.call (vs := [.agg #[.int .i64 x89, .int .i64 x90], .agg #[.int .i64 x87, .int .i64 x88]]) rfl rfl (by kernel_rfl) (plane_Len2.ok h184)) ?_
                          refine .cons (.ldn rfl rfl rfl (.at 2 rfl rfl)) ?_
                          refine .cons (.ldn rfl rfl rfl (.at 3 rfl rfl)) ?_
                          refine .cons (.call (vs := [.agg #[.int .i64 x87, .int .i64 x88], .agg #[.int .i64 x89, .int .i64 x90]]) rfl rfl (by kernel_rfl) (plane_Len2.ok h186)) ?_
                          refine DI.sq 3 (by kernel_rfl) rfl ?_
                          exact .nil
                        refine fk_q 83 [12] (σ' := [(12, .bool (t183 == t185))]) t_more (by kernel_rfl) ?_
                        refine fk_nil fun all => ?_
                        refine t_keep [12] (σ' := [(12, .bool (t183 == t185))]) (by kernel_rfl) ?_
                        refine t_end ?_
                        show W _ _ _ _ _ _ _
                        refine w_ret ?_
                        have hr_ := Option.some.inj e
                        exact ⟨[.bool (t183 == t185)], [], S, ⟨rfl, trivial⟩, VS.none, congrArg Value.bool hr_, rfl, rfl⟩
                      · rw [if_neg c182] at e
                        exact absurd (Option.some.inj e) (by decide)
                    · rw [if_neg c168] at e
                      exact absurd (Option.some.inj e) (by decide)
                  | false =>
                    rw [if_neg (by decide)] at e
                    exact absurd (Option.some.inj e) (by decide)
                | false =>
                  rw [if_neg (by decide)] at e
                  exact absurd (Option.some.inj e) (by decide)
            · rw [if_neg c129] at e
              exact absurd (Option.some.inj e) (by decide)
          · rw [if_neg c128] at e
            exact absurd (Option.some.inj e) (by decide)
        · rw [if_neg c127] at e
          exact absurd (Option.some.inj e) (by decide)
      · rw [if_neg c124] at e
        exact absurd (Option.some.inj e) (by decide)
  | false =>
    rw [if_neg (by decide)] at e
    exact absurd (Option.some.inj e) (by decide)

def glyphiclaw4_PlaneTurns.Pure : Prop := ∀ (t0_X : Int) (t0_Y : Int) (o1_X : Int) (o1_Y : Int) (A2_X : Int) (A2_Y : Int) (r3_X : Int) (r3_Y : Int) (r4 : Int) (a5 : Int), (Lit.int .i64 t0_X).wf = true → (Lit.int .i64 t0_Y).wf = true → (Lit.int .i64 o1_X).wf = true → (Lit.int .i64 o1_Y).wf = true → (Lit.int .i64 A2_X).wf = true → (Lit.int .i64 A2_Y).wf = true → (Lit.int .i64 r3_X).wf = true → (Lit.int .i64 r3_Y).wf = true → (Lit.int .i64 r4).wf = true → (Lit.int .i64 a5).wf = true → glyphiclaw4_PlaneTurns.f t0_X t0_Y o1_X o1_Y A2_X A2_Y r3_X r3_Y r4 a5 = some true
theorem glyphiclaw4_PlaneTurns.walk (P : glyphiclaw4_PlaneTurns.Pure) (t0_X : Int) (t0_Y : Int) (o1_X : Int) (o1_Y : Int) (A2_X : Int) (A2_Y : Int) (r3_X : Int) (r3_Y : Int) (r4 : Int) (a5 : Int) (w : World) (ht0_X : (Lit.int .i64 t0_X).wf = true) (ht0_Y : (Lit.int .i64 t0_Y).wf = true) (ho1_X : (Lit.int .i64 o1_X).wf = true) (ho1_Y : (Lit.int .i64 o1_Y).wf = true) (hA2_X : (Lit.int .i64 A2_X).wf = true) (hA2_Y : (Lit.int .i64 A2_Y).wf = true) (hr3_X : (Lit.int .i64 r3_X).wf = true) (hr3_Y : (Lit.int .i64 r3_Y).wf = true) (hr4 : (Lit.int .i64 r4).wf = true) (ha5 : (Lit.int .i64 a5).wf = true) :
    Calls Try.prog 13 #[.agg #[.int .i64 t0_X, .int .i64 t0_Y], .agg #[.int .i64 o1_X, .int .i64 o1_Y], .agg #[.int .i64 A2_X, .int .i64 A2_Y], .agg #[.int .i64 r3_X, .int .i64 r3_Y], .int .i64 r4, .int .i64 a5] w fun e w' => e = .returned (.bool true) ∧ Below w.heap.size w w' := law_w (hok0 w) (glyphiclaw4_PlaneTurns.ok (P t0_X t0_Y o1_X o1_Y A2_X A2_Y r3_X r3_Y r4 a5 ht0_X ht0_Y ho1_X ho1_Y hA2_X hA2_Y hr3_X hr3_Y hr4 ha5))
end Go.Proofs.Ytgaikembekkfiaa.QPlaneTurns
