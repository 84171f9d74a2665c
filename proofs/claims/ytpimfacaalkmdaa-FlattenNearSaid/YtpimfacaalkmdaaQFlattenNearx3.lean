/- Functions of the program as Lean functions, each with the proof of its walk. Written by gen.py, a program of these sessions. -/
import Derived.Test.YtpimfacaalkmdaaQFlattenNearx2
namespace Go.Proofs.Ytpimfacaalkmdaa.QFlattenNear
open Go Go.RowKit Go.Proofs.YtpimfacaalkmdaaE Go.Proofs.YtpimfacaalkmdaaX
set_option linter.unusedVariables false
set_option maxRecDepth 100000
set_option maxHeartbeats 8000000
/-- glyphicref1.Len2 -/
def c78 : C :=
  (.seq (.reg [⟨(some 2), .box (.tmp 0), none⟩,
     ⟨(some 3), .box (.tmp 1), none⟩,
     ⟨(some 4), .mv (.const (.int .i64 0)), none⟩])
  (.seq (.reg [⟨(some 5), .ld (some 2) (.tmp 2), none⟩,
     ⟨(some 6), .ld (some 2) (.tmp 3), none⟩,
     ⟨(some 7), .ld (some 2) (.tmp 3), none⟩,
     ⟨(some 8), .call 77 [(.tmp 5), (.tmp 6), (.tmp 7)], none⟩,
     ⟨(some 4), .mv (.tmp 8), none⟩])
  .ret))
def glyphicref1_Len2.f (a0_X : Int) (a0_Y : Int) (b1_X : Int) (b1_Y : Int) : Option (Int) := (glyphicref1_Dot.f a0_X a0_Y b1_X b1_Y b1_X b1_Y).bind fun t269 => (some t269)
theorem glyphicref1_Len2.ok {S : Seal} {a0_X : Int} {a0_Y : Int} {b1_X : Int} {b1_Y : Int} {r0_ : Int}(e : glyphicref1_Len2.f a0_X a0_Y b1_X b1_Y = some r0_) :
    Cal Try.prog 78 [.agg #[.int .i64 a0_X, .int .i64 a0_Y], .agg #[.int .i64 b1_X, .int .i64 b1_Y]] [] S fun v H' S' => v = .int .i64 r0_ ∧ H' = [] ∧ S' = S := by
  unfold glyphicref1_Len2.f at e
  refine cal_of (c := c78) (N := 9) Try.func78 rfl rfl (by kernel_rfl) (rs := [.t 4]) (by kernel_rfl) (Nat.le_of_ble_eq_true rfl) ?_
  unfold c78
  refine w_seq ?_
  refine w_reg fun all => ?_
  refine t_a (.box rfl rfl rfl) fun b267 fb267 sb267 => ?_
  refine t_a (.box rfl rfl rfl) fun b268 fb268 sb268 => ?_
  refine t_qz 1 [2, 3] (σ' := [(2, .pointer (some ⟨b267, 0, none⟩)), (3, .pointer (some ⟨b268, 0, none⟩))]) (by kernel_rfl) ?_
  refine t_end ?_
  show W _ _ _ _ _ _ _
  refine w_seq ?_
  refine w_reg fun all => ?_
  refine t_v (.ldn rfl rfl rfl (.at 1 rfl rfl)) ?_
  refine t_v (.ldn rfl rfl rfl (.at 0 rfl rfl)) ?_
  refine t_v (.ldn rfl rfl rfl (.at 0 rfl rfl)) ?_
  obtain ⟨t269, h270, e⟩ := bind_of e
  refine t_v (.call (vs := [.agg #[.int .i64 a0_X, .int .i64 a0_Y], .agg #[.int .i64 b1_X, .int .i64 b1_Y], .agg #[.int .i64 b1_X, .int .i64 b1_Y]]) rfl rfl (by kernel_rfl) (glyphicref1_Dot.ok h270)) ?_
  refine t_qz 1 [4] (σ' := [(4, .int .i64 t269)]) (by kernel_rfl) ?_
  refine t_end ?_
  show W _ _ _ _ _ _ _
  refine w_ret ?_
  obtain rfl := Option.some.inj e
  exact ⟨[.int .i64 t269], [], S, ⟨rfl, trivial⟩, VS.none, rfl, rfl, rfl⟩

/-- glyphicref1.Cross -/
def c80 : C :=
  (.seq (.reg [⟨(some 3), .box (.tmp 0), none⟩,
     ⟨(some 4), .box (.tmp 1), none⟩,
     ⟨(some 5), .box (.tmp 2), none⟩,
     ⟨(some 6), .mv (.const (.int .i64 0)), none⟩])
  (.seq (.reg [⟨(some 7), .pad 0 (.tmp 4), none⟩,
     ⟨(some 8), .ld none (.tmp 7), none⟩,
     ⟨(some 9), .pad 0 (.tmp 3), none⟩,
     ⟨(some 10), .ld none (.tmp 9), none⟩,
     ⟨(some 11), .bin .sub (.tmp 8) (.tmp 10), none⟩,
     ⟨(some 12), .pad 1 (.tmp 5), none⟩,
     ⟨(some 13), .ld none (.tmp 12), none⟩,
     ⟨(some 14), .pad 1 (.tmp 3), none⟩,
     ⟨(some 15), .ld none (.tmp 14), none⟩,
     ⟨(some 16), .bin .sub (.tmp 13) (.tmp 15), none⟩,
     ⟨(some 17), .bin .mul (.tmp 11) (.tmp 16), none⟩,
     ⟨(some 18), .pad 1 (.tmp 4), none⟩,
     ⟨(some 19), .ld none (.tmp 18), none⟩,
     ⟨(some 20), .pad 1 (.tmp 3), none⟩,
     ⟨(some 21), .ld none (.tmp 20), none⟩,
     ⟨(some 22), .bin .sub (.tmp 19) (.tmp 21), none⟩,
     ⟨(some 23), .pad 0 (.tmp 5), none⟩,
     ⟨(some 24), .ld none (.tmp 23), none⟩,
     ⟨(some 25), .pad 0 (.tmp 3), none⟩,
     ⟨(some 26), .ld none (.tmp 25), none⟩,
     ⟨(some 27), .bin .sub (.tmp 24) (.tmp 26), none⟩,
     ⟨(some 28), .bin .mul (.tmp 22) (.tmp 27), none⟩,
     ⟨(some 29), .bin .sub (.tmp 17) (.tmp 28), none⟩,
     ⟨(some 6), .mv (.tmp 29), none⟩])
  .ret))
def glyphicref1_Cross.f (a0_X : Int) (a0_Y : Int) (b1_X : Int) (b1_Y : Int) (p2_X : Int) (p2_Y : Int) : Option (Int) := some (wr64 ((wr64 ((wr64 (b1_X - a0_X)) * (wr64 (p2_Y - a0_Y)))) - (wr64 ((wr64 (b1_Y - a0_Y)) * (wr64 (p2_X - a0_X))))))
theorem glyphicref1_Cross.ok {S : Seal} {a0_X : Int} {a0_Y : Int} {b1_X : Int} {b1_Y : Int} {p2_X : Int} {p2_Y : Int} {r0_ : Int}(e : glyphicref1_Cross.f a0_X a0_Y b1_X b1_Y p2_X p2_Y = some r0_) :
    Cal Try.prog 80 [.agg #[.int .i64 a0_X, .int .i64 a0_Y], .agg #[.int .i64 b1_X, .int .i64 b1_Y], .agg #[.int .i64 p2_X, .int .i64 p2_Y]] [] S fun v H' S' => v = .int .i64 r0_ ∧ H' = [] ∧ S' = S := by
  unfold glyphicref1_Cross.f at e
  refine cal_of (c := c80) (N := 30) Try.func80 rfl rfl (by kernel_rfl) (rs := [.t 6]) (by kernel_rfl) (Nat.le_of_ble_eq_true rfl) ?_
  unfold c80
  refine w_seq ?_
  refine w_reg fun all => ?_
  refine t_a (.box rfl rfl rfl) fun b279 fb279 sb279 => ?_
  refine t_a (.box rfl rfl rfl) fun b280 fb280 sb280 => ?_
  refine t_a (.box rfl rfl rfl) fun b281 fb281 sb281 => ?_
  refine t_qz 1 [3, 4, 5] (σ' := [(3, .pointer (some ⟨b279, 0, none⟩)), (4, .pointer (some ⟨b280, 0, none⟩)), (5, .pointer (some ⟨b281, 0, none⟩))]) (by kernel_rfl) ?_
  refine t_end ?_
  show W _ _ _ _ _ _ _
  refine w_seq ?_
  refine w_reg fun all => ?_
  refine t_qz 1 [3, 4, 5, 7] (σ' := [(3, .pointer (some ⟨b279, 0, none⟩)), (4, .pointer (some ⟨b280, 0, none⟩)), (5, .pointer (some ⟨b281, 0, none⟩)), (7, .pointer (some ⟨b280, 0, none⟩))]) (by kernel_rfl) ?_
  refine t_v (.ld1 rfl rfl rfl (.at 1 rfl rfl)) ?_
  refine t_qz 1 [3, 4, 5, 8, 9] (σ' := [(3, .pointer (some ⟨b279, 0, none⟩)), (4, .pointer (some ⟨b280, 0, none⟩)), (5, .pointer (some ⟨b281, 0, none⟩)), (8, .int .i64 b1_X), (9, .pointer (some ⟨b279, 0, none⟩))]) (by kernel_rfl) ?_
  refine t_v (.ld1 rfl rfl rfl (.at 2 rfl rfl)) ?_
  refine t_qz 2 [3, 4, 5, 11, 12] (σ' := [(3, .pointer (some ⟨b279, 0, none⟩)), (4, .pointer (some ⟨b280, 0, none⟩)), (5, .pointer (some ⟨b281, 0, none⟩)), (11, .int .i64 (wr64 (b1_X - a0_X))), (12, .pointer (some ⟨b281, 1, none⟩))]) (by kernel_rfl) ?_
  refine t_v (.ld1 rfl rfl rfl (.at 0 rfl rfl)) ?_
  refine t_qz 1 [3, 4, 5, 11, 13, 14] (σ' := [(3, .pointer (some ⟨b279, 0, none⟩)), (4, .pointer (some ⟨b280, 0, none⟩)), (5, .pointer (some ⟨b281, 0, none⟩)), (11, .int .i64 (wr64 (b1_X - a0_X))), (13, .int .i64 p2_Y), (14, .pointer (some ⟨b279, 1, none⟩))]) (by kernel_rfl) ?_
  refine t_v (.ld1 rfl rfl rfl (.at 2 rfl rfl)) ?_
  refine t_qz 3 [3, 5, 17, 18] (σ' := [(3, .pointer (some ⟨b279, 0, none⟩)), (5, .pointer (some ⟨b281, 0, none⟩)), (17, .int .i64 (wr64 ((wr64 (b1_X - a0_X)) * (wr64 (p2_Y - a0_Y))))), (18, .pointer (some ⟨b280, 1, none⟩))]) (by kernel_rfl) ?_
  refine t_v (.ld1 rfl rfl rfl (.at 1 rfl rfl)) ?_
  refine t_qz 1 [3, 5, 17, 19, 20] (σ' := [(3, .pointer (some ⟨b279, 0, none⟩)), (5, .pointer (some ⟨b281, 0, none⟩)), (17, .int .i64 (wr64 ((wr64 (b1_X - a0_X)) * (wr64 (p2_Y - a0_Y))))), (19, .int .i64 b1_Y), (20, .pointer (some ⟨b279, 1, none⟩))]) (by kernel_rfl) ?_
  refine t_v (.ld1 rfl rfl rfl (.at 2 rfl rfl)) ?_
  refine t_qz 2 [3, 17, 22, 23] (σ' := [(3, .pointer (some ⟨b279, 0, none⟩)), (17, .int .i64 (wr64 ((wr64 (b1_X - a0_X)) * (wr64 (p2_Y - a0_Y))))), (22, .int .i64 (wr64 (b1_Y - a0_Y))), (23, .pointer (some ⟨b281, 0, none⟩))]) (by kernel_rfl) ?_
  refine t_v (.ld1 rfl rfl rfl (.at 0 rfl rfl)) ?_
  refine t_qz 1 [17, 22, 24, 25] (σ' := [(17, .int .i64 (wr64 ((wr64 (b1_X - a0_X)) * (wr64 (p2_Y - a0_Y))))), (22, .int .i64 (wr64 (b1_Y - a0_Y))), (24, .int .i64 p2_X), (25, .pointer (some ⟨b279, 0, none⟩))]) (by kernel_rfl) ?_
  refine t_v (.ld1 rfl rfl rfl (.at 2 rfl rfl)) ?_
  refine t_qz 4 [6] (σ' := [(6, .int .i64 (wr64 ((wr64 ((wr64 (b1_X - a0_X)) * (wr64 (p2_Y - a0_Y)))) - (wr64 ((wr64 (b1_Y - a0_Y)) * (wr64 (p2_X - a0_X)))))))]) (by kernel_rfl) ?_
  refine t_end ?_
  show W _ _ _ _ _ _ _
  refine w_ret ?_
  obtain rfl := Option.some.inj e
  exact ⟨[.int .i64 (wr64 ((wr64 ((wr64 (b1_X - a0_X)) * (wr64 (p2_Y - a0_Y)))) - (wr64 ((wr64 (b1_Y - a0_Y)) * (wr64 (p2_X - a0_X))))))], [], S, ⟨rfl, trivial⟩, VS.none, rfl, rfl, rfl⟩

/-- glyphicref1.size -/
def c79 : C :=
  (.seq (.reg [⟨(some 2), .mv (.const (.int .u64 0)), none⟩])
  (.seq (.seq (.reg [⟨(some 3), .mv (.tmp 0), none⟩,
      ⟨(some 4), .bin .lss (.tmp 3) (.const (.int .i64 0)), none⟩])
   (.cond (.tmp 4)
    (.seq (.reg [⟨(some 5), .mv (.tmp 0), none⟩,
        ⟨(some 6), .bin .add (.tmp 5) (.const (.int .i64 1)), none⟩,
        ⟨(some 7), .un .neg (.tmp 6), none⟩,
        ⟨(some 8), .cnv .u64 (.tmp 7), none⟩,
        ⟨(some 9), .bin .add (.tmp 8) (.const (.int .u64 1)), none⟩,
        ⟨(some 2), .mv (.tmp 9), none⟩])
     .ret)
    .skip))
  (.seq (.reg [⟨(some 10), .mv (.tmp 0), none⟩,
     ⟨(some 11), .cnv .u64 (.tmp 10), none⟩,
     ⟨(some 2), .mv (.tmp 11), none⟩])
  .ret)))
def glyphicref1_size.f (n0 : Int) : Option (Int) := if n0 < 0 then (some (wru64 ((wru64 (wr64 (0 - (wr64 (n0 + 1))))) + 1))) else (some (wru64 n0))
theorem glyphicref1_size.ok {S : Seal} {n0 : Int} {r0_ : Int}(e : glyphicref1_size.f n0 = some r0_) :
    Cal Try.prog 79 [.int .i64 n0] [] S fun v H' S' => v = .int .u64 r0_ ∧ H' = [] ∧ S' = S := by
  unfold glyphicref1_size.f at e
  refine cal_of (c := c79) (N := 12) Try.func79 rfl rfl (by kernel_rfl) (rs := [.t 2]) (by kernel_rfl) (Nat.le_of_ble_eq_true rfl) ?_
  unfold c79
  refine w_seq ?_
  refine w_reg fun all => ?_
  refine t_qz 1 [0] (σ' := [(0, .int .i64 n0)]) (by kernel_rfl) ?_
  refine t_end ?_
  show W _ _ _ _ _ _ _
  refine w_seq ?_
  refine w_seq ?_
  refine w_reg fun all => ?_
  by_cases c284 : n0 < 0
  · rw [if_pos c284] at e
    have c284b : (decide (n0 < 0)) = true := decide_eq_true c284
    refine t_qz 1 [0, 3] (σ' := [(0, .int .i64 n0), (3, .int .i64 n0)]) (by kernel_rfl) ?_
    refine t_v (dv_quiet rfl (congrArg (fun t => some (Value.bool t)) c284b)) ?_
    refine t_keep [0, 4] (σ' := [(0, .int .i64 n0), (4, .bool true)]) (by kernel_rfl) ?_
    refine t_end ?_
    show W _ _ _ _ _ _ _
    refine w_cond rfl (fun _ => ?_) (fun c_ => by cases c_)
    show W _ _ _ _ _ _ _
    refine w_seq ?_
    refine w_reg fun all => ?_
    refine t_qz 6 [2] (σ' := [(2, .int .u64 (wru64 ((wru64 (wr64 (0 - (wr64 (n0 + 1))))) + 1)))]) (by kernel_rfl) ?_
    refine t_end ?_
    show W _ _ _ _ _ _ _
    refine w_ret ?_
    obtain rfl := Option.some.inj e
    exact ⟨[.int .u64 (wru64 ((wru64 (wr64 (0 - (wr64 (n0 + 1))))) + 1))], [], S, ⟨rfl, trivial⟩, VS.none, rfl, rfl, rfl⟩
  · rw [if_neg c284] at e
    have c284b : (decide (n0 < 0)) = false := decide_eq_false c284
    refine t_qz 1 [0, 3] (σ' := [(0, .int .i64 n0), (3, .int .i64 n0)]) (by kernel_rfl) ?_
    refine t_v (dv_quiet rfl (congrArg (fun t => some (Value.bool t)) c284b)) ?_
    refine t_keep [0, 4] (σ' := [(0, .int .i64 n0), (4, .bool false)]) (by kernel_rfl) ?_
    refine t_end ?_
    show W _ _ _ _ _ _ _
    refine w_cond rfl (fun c_ => by cases c_) (fun _ => ?_)
    show W _ _ _ _ _ _ _
    refine w_skip ?_
    show W _ _ _ _ _ _ _
    refine w_seq ?_
    refine w_reg fun all => ?_
    refine t_qz 3 [2] (σ' := [(2, .int .u64 (wru64 n0))]) (by kernel_rfl) ?_
    refine t_end ?_
    show W _ _ _ _ _ _ _
    refine w_ret ?_
    obtain rfl := Option.some.inj e
    exact ⟨[.int .u64 (wru64 n0)], [], S, ⟨rfl, trivial⟩, VS.none, rfl, rfl, rfl⟩

/-- glyphicref1.Near -/
def c39 : C :=
  (.seq (.reg [⟨(some 4), .box (.tmp 0), none⟩,
     ⟨(some 5), .box (.tmp 1), none⟩,
     ⟨(some 6), .box (.tmp 2), none⟩,
     ⟨(some 8), .mv (.const (.bool false)), none⟩])
  (.seq (.reg [⟨(some 16), .ld (some 2) (.tmp 4), none⟩,
     ⟨(some 17), .ld (some 2) (.tmp 5), none⟩,
     ⟨(some 18), .ld (some 2) (.tmp 6), none⟩,
     ⟨(some 19), .call 77 [(.tmp 16), (.tmp 17), (.tmp 18)], none⟩,
     ⟨(some 9), .mv (.tmp 19), none⟩])
  (.seq (.reg [⟨(some 20), .ld (some 2) (.tmp 4), none⟩,
     ⟨(some 21), .ld (some 2) (.tmp 5), none⟩,
     ⟨(some 22), .call 78 [(.tmp 20), (.tmp 21)], none⟩,
     ⟨(some 10), .mv (.tmp 22), none⟩])
  (.seq (.block 0 (.seq (.reg [⟨(some 24), .mv (.tmp 9), none⟩,
       ⟨(some 25), .bin .leq (.tmp 24) (.const (.int .i64 0)), none⟩,
       ⟨(some 23), .mv (.tmp 25), none⟩])
    (.cond (.tmp 23)
     (.seq (.reg [⟨(some 26), .ld (some 2) (.tmp 4), none⟩,
         ⟨(some 27), .ld (some 2) (.tmp 6), none⟩,
         ⟨(some 28), .call 78 [(.tmp 26), (.tmp 27)], none⟩,
         ⟨(some 29), .mv (.tmp 3), none⟩,
         ⟨(some 30), .mv (.tmp 3), none⟩,
         ⟨(some 31), .bin .mul (.tmp 29) (.tmp 30), none⟩,
         ⟨(some 32), .bin .quo (.tmp 31) (.const (.int .i64 4)), none⟩,
         ⟨(some 33), .bin .leq (.tmp 28) (.tmp 32), none⟩,
         ⟨(some 8), .mv (.tmp 33), none⟩])
      .ret)
     (.seq (.reg [⟨(some 35), .mv (.tmp 9), none⟩,
         ⟨(some 36), .mv (.tmp 10), none⟩,
         ⟨(some 37), .bin .geq (.tmp 35) (.tmp 36), none⟩,
         ⟨(some 34), .mv (.tmp 37), none⟩])
      (.cond (.tmp 34)
       (.seq (.reg [⟨(some 38), .ld (some 2) (.tmp 5), none⟩,
           ⟨(some 39), .ld (some 2) (.tmp 6), none⟩,
           ⟨(some 40), .call 78 [(.tmp 38), (.tmp 39)], none⟩,
           ⟨(some 41), .mv (.tmp 3), none⟩,
           ⟨(some 42), .mv (.tmp 3), none⟩,
           ⟨(some 43), .bin .mul (.tmp 41) (.tmp 42), none⟩,
           ⟨(some 44), .bin .quo (.tmp 43) (.const (.int .i64 4)), none⟩,
           ⟨(some 45), .bin .leq (.tmp 40) (.tmp 44), none⟩,
           ⟨(some 8), .mv (.tmp 45), none⟩])
        .ret)
       .skip)))))
  (.seq (.reg [⟨(some 46), .ld (some 2) (.tmp 4), none⟩,
     ⟨(some 47), .ld (some 2) (.tmp 5), none⟩,
     ⟨(some 48), .ld (some 2) (.tmp 6), none⟩,
     ⟨(some 49), .call 80 [(.tmp 46), (.tmp 47), (.tmp 48)], none⟩,
     ⟨(some 50), .call 79 [(.tmp 49)], none⟩,
     ⟨(some 11), .mv (.tmp 50), none⟩])
  (.seq (.reg [⟨(some 52), .mv (.tmp 11), none⟩,
     ⟨(some 53), .bin .mul (.const (.int .u64 2)) (.tmp 52), none⟩,
     ⟨(some 54), .mv (.tmp 11), none⟩,
     ⟨(some 55), .bin .mul (.const (.int .u64 2)) (.tmp 54), none⟩,
     ⟨(some 56), .call 81 [(.tmp 53), (.tmp 55)], none⟩,
     ⟨(some 51), .mv (.tmp 56), none⟩,
     ⟨(some 57), .xt 0 (.tmp 51), none⟩,
     ⟨(some 58), .xt 1 (.tmp 51), none⟩,
     ⟨(some 12), .mv (.tmp 57), none⟩,
     ⟨(some 13), .mv (.tmp 58), none⟩])
  (.seq (.reg [⟨(some 60), .mv (.tmp 3), none⟩,
     ⟨(some 61), .mv (.tmp 3), none⟩,
     ⟨(some 62), .bin .mul (.tmp 60) (.tmp 61), none⟩,
     ⟨(some 63), .cnv .u64 (.tmp 62), none⟩,
     ⟨(some 64), .mv (.tmp 10), none⟩,
     ⟨(some 65), .cnv .u64 (.tmp 64), none⟩,
     ⟨(some 66), .call 81 [(.tmp 63), (.tmp 65)], none⟩,
     ⟨(some 59), .mv (.tmp 66), none⟩,
     ⟨(some 67), .xt 0 (.tmp 59), none⟩,
     ⟨(some 68), .xt 1 (.tmp 59), none⟩,
     ⟨(some 14), .mv (.tmp 67), none⟩,
     ⟨(some 15), .mv (.tmp 68), none⟩])
  (.seq (.reg [⟨(some 69), .mv (.tmp 12), none⟩,
     ⟨(some 70), .mv (.tmp 14), none⟩,
     ⟨(some 71), .bin .lss (.tmp 69) (.tmp 70), none⟩,
     ⟨(some 72), .mv (.tmp 71), none⟩,
     ⟨(some 73), .mv (.tmp 12), (some (72, false))⟩,
     ⟨(some 74), .mv (.tmp 14), (some (72, false))⟩,
     ⟨(some 75), .bin .eql (.tmp 73) (.tmp 74), (some (72, false))⟩,
     ⟨(some 76), .mv (.tmp 75), (some (72, false))⟩,
     ⟨(some 77), .mv (.tmp 13), (some (76, true))⟩,
     ⟨(some 78), .mv (.tmp 15), (some (76, true))⟩,
     ⟨(some 79), .bin .leq (.tmp 77) (.tmp 78), (some (76, true))⟩,
     ⟨(some 80), .pk (.tmp 76) (.tmp 79) (.const (.bool false)), (some (72, false))⟩,
     ⟨(some 81), .pk (.tmp 72) (.const (.bool true)) (.tmp 80), none⟩,
     ⟨(some 8), .mv (.tmp 81), none⟩])
  .ret))))))))
def glyphicref1_Near.f (a0_X : Int) (a0_Y : Int) (b1_X : Int) (b1_Y : Int) (p2_X : Int) (p2_Y : Int) (w3 : Int) : Option (Bool) := (glyphicref1_Dot.f a0_X a0_Y b1_X b1_Y p2_X p2_Y).bind fun t265 => ((glyphicref1_Len2.f a0_X a0_Y b1_X b1_Y).bind fun t271 => (if t265 ≤ 0 then ((glyphicref1_Len2.f a0_X a0_Y p2_X p2_Y).bind fun t274 => (some (decide (t274 ≤ (wr64 (Int.tdiv (wr64 (w3 * w3)) 4)))))) else (if t265 ≥ t271 then ((glyphicref1_Len2.f b1_X b1_Y p2_X p2_Y).bind fun t277 => (some (decide (t277 ≤ (wr64 (Int.tdiv (wr64 (w3 * w3)) 4)))))) else ((glyphicref1_Cross.f a0_X a0_Y b1_X b1_Y p2_X p2_Y).bind fun t282 => ((glyphicref1_size.f t282).bind fun t285 => ((bits_Mul64.f (wru64 (2 * t285)) (wru64 (2 * t285))).bind fun (t287, t288) => ((bits_Mul64.f (wru64 (wr64 (w3 * w3))) (wru64 t271)).bind fun (t290, t291) => (if t287 < t290 then (some true) else (if t287 = t290 then (some (decide (t288 ≤ t291))) else (some false))))))))))
theorem glyphicref1_Near.ok {S : Seal} {a0_X : Int} {a0_Y : Int} {b1_X : Int} {b1_Y : Int} {p2_X : Int} {p2_Y : Int} {w3 : Int} {r0_ : Bool}(e : glyphicref1_Near.f a0_X a0_Y b1_X b1_Y p2_X p2_Y w3 = some r0_) :
    Cal Try.prog 39 [.agg #[.int .i64 a0_X, .int .i64 a0_Y], .agg #[.int .i64 b1_X, .int .i64 b1_Y], .agg #[.int .i64 p2_X, .int .i64 p2_Y], .int .i64 w3] [] S fun v H' S' => v = .bool r0_ ∧ H' = [] ∧ S' = S := by
  unfold glyphicref1_Near.f at e
  refine cal_of (c := c39) (N := 82) Try.func39 rfl rfl (by kernel_rfl) (rs := [.t 8]) (by kernel_rfl) (Nat.le_of_ble_eq_true rfl) ?_
  unfold c39
  refine w_seq ?_
  refine w_reg fun all => ?_
  refine t_a (.box rfl rfl rfl) fun b259 fb259 sb259 => ?_
  refine t_a (.box rfl rfl rfl) fun b260 fb260 sb260 => ?_
  refine t_a (.box rfl rfl rfl) fun b261 fb261 sb261 => ?_
  refine t_qz 1 [3, 4, 5, 6] (σ' := [(3, .int .i64 w3), (4, .pointer (some ⟨b259, 0, none⟩)), (5, .pointer (some ⟨b260, 0, none⟩)), (6, .pointer (some ⟨b261, 0, none⟩))]) (by kernel_rfl) ?_
  refine t_end ?_
  show W _ _ _ _ _ _ _
  refine w_seq ?_
  refine w_reg fun all => ?_
  refine t_v (.ldn rfl rfl rfl (.at 2 rfl rfl)) ?_
  refine t_v (.ldn rfl rfl rfl (.at 1 rfl rfl)) ?_
  refine t_v (.ldn rfl rfl rfl (.at 0 rfl rfl)) ?_
  obtain ⟨t265, h266, e⟩ := bind_of e
  refine t_v (.call (vs := [.agg #[.int .i64 a0_X, .int .i64 a0_Y], .agg #[.int .i64 b1_X, .int .i64 b1_Y], .agg #[.int .i64 p2_X, .int .i64 p2_Y]]) rfl rfl (by kernel_rfl) (glyphicref1_Dot.ok h266)) ?_
  refine t_qz 1 [3, 4, 5, 6, 9] (σ' := [(3, .int .i64 w3), (4, .pointer (some ⟨b259, 0, none⟩)), (5, .pointer (some ⟨b260, 0, none⟩)), (6, .pointer (some ⟨b261, 0, none⟩)), (9, .int .i64 t265)]) (by kernel_rfl) ?_
  refine t_end ?_
  show W _ _ _ _ _ _ _
  refine w_seq ?_
  refine w_reg fun all => ?_
  refine t_v (.ldn rfl rfl rfl (.at 2 rfl rfl)) ?_
  refine t_v (.ldn rfl rfl rfl (.at 1 rfl rfl)) ?_
  obtain ⟨t271, h272, e⟩ := bind_of e
  refine t_v (.call (vs := [.agg #[.int .i64 a0_X, .int .i64 a0_Y], .agg #[.int .i64 b1_X, .int .i64 b1_Y]]) rfl rfl (by kernel_rfl) (glyphicref1_Len2.ok h272)) ?_
  refine t_qz 1 [3, 4, 5, 6, 9, 10] (σ' := [(3, .int .i64 w3), (4, .pointer (some ⟨b259, 0, none⟩)), (5, .pointer (some ⟨b260, 0, none⟩)), (6, .pointer (some ⟨b261, 0, none⟩)), (9, .int .i64 t265), (10, .int .i64 t271)]) (by kernel_rfl) ?_
  refine t_end ?_
  show W _ _ _ _ _ _ _
  refine w_seq ?_
  refine w_block ?_
  refine w_seq ?_
  refine w_reg fun all => ?_
  by_cases c273 : t265 ≤ 0
  · rw [if_pos c273] at e
    have c273b : (decide (t265 ≤ 0)) = true := decide_eq_true c273
    refine t_qz 1 [3, 4, 5, 6, 9, 10, 24] (σ' := [(3, .int .i64 w3), (4, .pointer (some ⟨b259, 0, none⟩)), (5, .pointer (some ⟨b260, 0, none⟩)), (6, .pointer (some ⟨b261, 0, none⟩)), (9, .int .i64 t265), (10, .int .i64 t271), (24, .int .i64 t265)]) (by kernel_rfl) ?_
    refine t_v (dv_quiet rfl (congrArg (fun t => some (Value.bool t)) c273b)) ?_
    refine t_qz 1 [3, 4, 5, 6, 9, 10, 23] (σ' := [(3, .int .i64 w3), (4, .pointer (some ⟨b259, 0, none⟩)), (5, .pointer (some ⟨b260, 0, none⟩)), (6, .pointer (some ⟨b261, 0, none⟩)), (9, .int .i64 t265), (10, .int .i64 t271), (23, .bool true)]) (by kernel_rfl) ?_
    refine t_end ?_
    show W _ _ _ _ _ _ _
    refine w_cond rfl (fun _ => ?_) (fun c_ => by cases c_)
    show W _ _ _ _ _ _ _
    refine w_seq ?_
    refine w_reg fun all => ?_
    refine t_v (.ldn rfl rfl rfl (.at 2 rfl rfl)) ?_
    refine t_v (.ldn rfl rfl rfl (.at 0 rfl rfl)) ?_
    obtain ⟨t274, h275, e⟩ := bind_of e
    refine t_v (.call (vs := [.agg #[.int .i64 a0_X, .int .i64 a0_Y], .agg #[.int .i64 p2_X, .int .i64 p2_Y]]) rfl rfl (by kernel_rfl) (glyphicref1_Len2.ok h275)) ?_
    refine t_qz 6 [8] (σ' := [(8, .bool (decide (t274 ≤ (wr64 (Int.tdiv (wr64 (w3 * w3)) 4)))))]) (by kernel_rfl) ?_
    refine t_end ?_
    show W _ _ _ _ _ _ _
    refine w_ret ?_
    obtain rfl := Option.some.inj e
    exact ⟨[.bool (decide (t274 ≤ (wr64 (Int.tdiv (wr64 (w3 * w3)) 4))))], [], S, ⟨rfl, trivial⟩, VS.none, rfl, rfl, rfl⟩
  · rw [if_neg c273] at e
    have c273b : (decide (t265 ≤ 0)) = false := decide_eq_false c273
    refine t_qz 1 [3, 4, 5, 6, 9, 10, 24] (σ' := [(3, .int .i64 w3), (4, .pointer (some ⟨b259, 0, none⟩)), (5, .pointer (some ⟨b260, 0, none⟩)), (6, .pointer (some ⟨b261, 0, none⟩)), (9, .int .i64 t265), (10, .int .i64 t271), (24, .int .i64 t265)]) (by kernel_rfl) ?_
    refine t_v (dv_quiet rfl (congrArg (fun t => some (Value.bool t)) c273b)) ?_
    refine t_qz 1 [3, 4, 5, 6, 9, 10, 23] (σ' := [(3, .int .i64 w3), (4, .pointer (some ⟨b259, 0, none⟩)), (5, .pointer (some ⟨b260, 0, none⟩)), (6, .pointer (some ⟨b261, 0, none⟩)), (9, .int .i64 t265), (10, .int .i64 t271), (23, .bool false)]) (by kernel_rfl) ?_
    refine t_end ?_
    show W _ _ _ _ _ _ _
    refine w_cond rfl (fun c_ => by cases c_) (fun _ => ?_)
    show W _ _ _ _ _ _ _
    refine w_seq ?_
    refine w_reg fun all => ?_
    by_cases c276 : t265 ≥ t271
    · rw [if_pos c276] at e
      have c276b : (decide (t265 ≥ t271)) = true := decide_eq_true c276
      refine t_qz 2 [3, 4, 5, 6, 10, 35, 36] (σ' := [(3, .int .i64 w3), (4, .pointer (some ⟨b259, 0, none⟩)), (5, .pointer (some ⟨b260, 0, none⟩)), (6, .pointer (some ⟨b261, 0, none⟩)), (10, .int .i64 t271), (35, .int .i64 t265), (36, .int .i64 t271)]) (by kernel_rfl) ?_
      refine t_v (dv_quiet rfl (congrArg (fun t => some (Value.bool t)) c276b)) ?_
      refine t_qz 1 [3, 4, 5, 6, 10, 34] (σ' := [(3, .int .i64 w3), (4, .pointer (some ⟨b259, 0, none⟩)), (5, .pointer (some ⟨b260, 0, none⟩)), (6, .pointer (some ⟨b261, 0, none⟩)), (10, .int .i64 t271), (34, .bool true)]) (by kernel_rfl) ?_
      refine t_end ?_
      show W _ _ _ _ _ _ _
      refine w_cond rfl (fun _ => ?_) (fun c_ => by cases c_)
      show W _ _ _ _ _ _ _
      refine w_seq ?_
      refine w_reg fun all => ?_
      refine t_v (.ldn rfl rfl rfl (.at 1 rfl rfl)) ?_
      refine t_v (.ldn rfl rfl rfl (.at 0 rfl rfl)) ?_
      obtain ⟨t277, h278, e⟩ := bind_of e
      refine t_v (.call (vs := [.agg #[.int .i64 b1_X, .int .i64 b1_Y], .agg #[.int .i64 p2_X, .int .i64 p2_Y]]) rfl rfl (by kernel_rfl) (glyphicref1_Len2.ok h278)) ?_
      refine t_qz 6 [8] (σ' := [(8, .bool (decide (t277 ≤ (wr64 (Int.tdiv (wr64 (w3 * w3)) 4)))))]) (by kernel_rfl) ?_
      refine t_end ?_
      show W _ _ _ _ _ _ _
      refine w_ret ?_
      obtain rfl := Option.some.inj e
      exact ⟨[.bool (decide (t277 ≤ (wr64 (Int.tdiv (wr64 (w3 * w3)) 4))))], [], S, ⟨rfl, trivial⟩, VS.none, rfl, rfl, rfl⟩
    · rw [if_neg c276] at e
      have c276b : (decide (t265 ≥ t271)) = false := decide_eq_false c276
      refine t_qz 2 [3, 4, 5, 6, 10, 35, 36] (σ' := [(3, .int .i64 w3), (4, .pointer (some ⟨b259, 0, none⟩)), (5, .pointer (some ⟨b260, 0, none⟩)), (6, .pointer (some ⟨b261, 0, none⟩)), (10, .int .i64 t271), (35, .int .i64 t265), (36, .int .i64 t271)]) (by kernel_rfl) ?_
      refine t_v (dv_quiet rfl (congrArg (fun t => some (Value.bool t)) c276b)) ?_
      refine t_qz 1 [3, 4, 5, 6, 10, 34] (σ' := [(3, .int .i64 w3), (4, .pointer (some ⟨b259, 0, none⟩)), (5, .pointer (some ⟨b260, 0, none⟩)), (6, .pointer (some ⟨b261, 0, none⟩)), (10, .int .i64 t271), (34, .bool false)]) (by kernel_rfl) ?_
      refine t_end ?_
      show W _ _ _ _ _ _ _
      refine w_cond rfl (fun c_ => by cases c_) (fun _ => ?_)
      show W _ _ _ _ _ _ _
      refine w_skip ?_
      show W _ _ _ _ _ _ _
      refine w_seq ?_
      refine w_reg fun all => ?_
      refine t_v (.ldn rfl rfl rfl (.at 2 rfl rfl)) ?_
      refine t_v (.ldn rfl rfl rfl (.at 1 rfl rfl)) ?_
      refine t_v (.ldn rfl rfl rfl (.at 0 rfl rfl)) ?_
      obtain ⟨t282, h283, e⟩ := bind_of e
      refine t_v (.call (vs := [.agg #[.int .i64 a0_X, .int .i64 a0_Y], .agg #[.int .i64 b1_X, .int .i64 b1_Y], .agg #[.int .i64 p2_X, .int .i64 p2_Y]]) rfl rfl (by kernel_rfl) (glyphicref1_Cross.ok h283)) ?_
      obtain ⟨t285, h286, e⟩ := bind_of e
      refine t_v (.call (vs := [.int .i64 t282]) rfl rfl (by kernel_rfl) (glyphicref1_size.ok h286)) ?_
      refine t_qz 1 [3, 10, 11] (σ' := [(3, .int .i64 w3), (10, .int .i64 t271), (11, .int .u64 t285)]) (by kernel_rfl) ?_
      refine t_end ?_
      show W _ _ _ _ _ _ _
      refine w_seq ?_
      refine w_reg fun all => ?_
      obtain ⟨⟨t287, t288⟩, h289, e⟩ := bind_of e
      try dsimp only at e
      refine t_qz 4 [3, 10, 53, 55] (σ' := [(3, .int .i64 w3), (10, .int .i64 t271), (53, .int .u64 (wru64 (2 * t285))), (55, .int .u64 (wru64 (2 * t285)))]) (by kernel_rfl) ?_
      refine t_v (.call (vs := [.int .u64 (wru64 (2 * t285)), .int .u64 (wru64 (2 * t285))]) rfl rfl (by kernel_rfl) (bits_Mul64.ok h289)) ?_
      refine t_qz 5 [3, 10, 12, 13] (σ' := [(3, .int .i64 w3), (10, .int .i64 t271), (12, .int .u64 t287), (13, .int .u64 t288)]) (by kernel_rfl) ?_
      refine t_end ?_
      show W _ _ _ _ _ _ _
      refine w_seq ?_
      refine w_reg fun all => ?_
      obtain ⟨⟨t290, t291⟩, h292, e⟩ := bind_of e
      try dsimp only at e
      refine t_qz 6 [12, 13, 63, 65] (σ' := [(12, .int .u64 t287), (13, .int .u64 t288), (63, .int .u64 (wru64 (wr64 (w3 * w3)))), (65, .int .u64 (wru64 t271))]) (by kernel_rfl) ?_
      refine t_v (.call (vs := [.int .u64 (wru64 (wr64 (w3 * w3))), .int .u64 (wru64 t271)]) rfl rfl (by kernel_rfl) (bits_Mul64.ok h292)) ?_
      refine t_qz 5 [12, 13, 14, 15] (σ' := [(12, .int .u64 t287), (13, .int .u64 t288), (14, .int .u64 t290), (15, .int .u64 t291)]) (by kernel_rfl) ?_
      refine t_end ?_
      show W _ _ _ _ _ _ _
      refine w_seq ?_
      refine w_reg fun all => ?_
      by_cases c293 : t287 < t290
      · rw [if_pos c293] at e
        have c293b : (decide (t287 < t290)) = true := decide_eq_true c293
        refine t_qz 2 [12, 13, 14, 15, 69, 70] (σ' := [(12, .int .u64 t287), (13, .int .u64 t288), (14, .int .u64 t290), (15, .int .u64 t291), (69, .int .u64 t287), (70, .int .u64 t290)]) (by kernel_rfl) ?_
        refine t_v (dv_quiet rfl (congrArg (fun t => some (Value.bool t)) c293b)) ?_
        refine t_qz 11 [8] (σ' := [(8, .bool true)]) (by kernel_rfl) ?_
        refine t_end ?_
        show W _ _ _ _ _ _ _
        refine w_ret ?_
        obtain rfl := Option.some.inj e
        exact ⟨[.bool true], [], S, ⟨rfl, trivial⟩, VS.none, rfl, rfl, rfl⟩
      · rw [if_neg c293] at e
        have c293b : (decide (t287 < t290)) = false := decide_eq_false c293
        refine t_qz 2 [12, 13, 14, 15, 69, 70] (σ' := [(12, .int .u64 t287), (13, .int .u64 t288), (14, .int .u64 t290), (15, .int .u64 t291), (69, .int .u64 t287), (70, .int .u64 t290)]) (by kernel_rfl) ?_
        refine t_v (dv_quiet rfl (congrArg (fun t => some (Value.bool t)) c293b)) ?_
        by_cases c294 : t287 = t290
        · rw [if_pos c294] at e
          have c294b : (t287 == t290) = true := beq_iff_eq.mpr c294
          refine t_qz 3 [13, 15, 72, 73, 74] (σ' := [(13, .int .u64 t288), (15, .int .u64 t291), (72, .bool false), (73, .int .u64 t287), (74, .int .u64 t290)]) (by kernel_rfl) ?_
          refine t_v (dv_quiet rfl (congrArg (fun t => some (Value.bool t)) c294b)) ?_
          refine t_qz 7 [8] (σ' := [(8, .bool (decide (t288 ≤ t291)))]) (by kernel_rfl) ?_
          refine t_end ?_
          show W _ _ _ _ _ _ _
          refine w_ret ?_
          obtain rfl := Option.some.inj e
          exact ⟨[.bool (decide (t288 ≤ t291))], [], S, ⟨rfl, trivial⟩, VS.none, rfl, rfl, rfl⟩
        · rw [if_neg c294] at e
          have c294b : (t287 == t290) = false := beq_eq_false_iff_ne.mpr c294
          refine t_qz 3 [13, 15, 72, 73, 74] (σ' := [(13, .int .u64 t288), (15, .int .u64 t291), (72, .bool false), (73, .int .u64 t287), (74, .int .u64 t290)]) (by kernel_rfl) ?_
          refine t_v (dv_quiet rfl (congrArg (fun t => some (Value.bool t)) c294b)) ?_
          refine t_qz 7 [8] (σ' := [(8, .bool false)]) (by kernel_rfl) ?_
          refine t_end ?_
          show W _ _ _ _ _ _ _
          refine w_ret ?_
          obtain rfl := Option.some.inj e
          exact ⟨[.bool false], [], S, ⟨rfl, trivial⟩, VS.none, rfl, rfl, rfl⟩

def glyphiclaw21_curve_v2.f (a0_0 : Int) (a0_1 : Int) (s1_1 : Int) (s1_2 : Int) (s1_3 : Int) (s1_4 : Int) (s1_5 : Int) (s1_6 : Int) (i2 : Int) : Option (Int × Int) := (glyphicref1_Round.f (wr64 ((wr64 ((wr64 (0 + (wr64 ((wr64 ((wr64 (1 * (wr64 (512 - i2)))) * (wr64 (512 - i2)))) * a0_0)))) + (wr64 ((wr64 ((wr64 (2 * i2)) * (wr64 (512 - i2)))) * s1_1)))) + (wr64 ((wr64 ((wr64 (1 * i2)) * i2)) * s1_3)))) 262144).bind fun t273 => ((glyphicref1_Round.f (wr64 ((wr64 ((wr64 (0 + (wr64 ((wr64 ((wr64 (1 * (wr64 (512 - i2)))) * (wr64 (512 - i2)))) * a0_1)))) + (wr64 ((wr64 ((wr64 (2 * i2)) * (wr64 (512 - i2)))) * s1_2)))) + (wr64 ((wr64 ((wr64 (1 * i2)) * i2)) * s1_4)))) 262144).bind fun t275 => (some (t273, t275)))
theorem glyphiclaw21_curve_v2.ok {S : Seal} {a0_0 : Int} {a0_1 : Int} {s1_1 : Int} {s1_2 : Int} {s1_3 : Int} {s1_4 : Int} {s1_5 : Int} {s1_6 : Int} {i2 : Int} {r0_ : Int} {r1_ : Int}(e : glyphiclaw21_curve_v2.f a0_0 a0_1 s1_1 s1_2 s1_3 s1_4 s1_5 s1_6 i2 = some (r0_, r1_)) :
    Cal Try.prog 38 [.agg #[.int .i64 a0_0, .int .i64 a0_1], .agg #[.int .i64 2, .int .i64 s1_1, .int .i64 s1_2, .int .i64 s1_3, .int .i64 s1_4, .int .i64 s1_5, .int .i64 s1_6], .int .i64 i2, .int .i64 512] [] S fun v H' S' => v = .agg #[.int .i64 r0_, .int .i64 r1_] ∧ H' = [] ∧ S' = S := by
  unfold glyphiclaw21_curve_v2.f at e
  refine cal_of (c := c38) (N := 105) Try.func38 rfl rfl (by kernel_rfl) (rs := [.cn 2 8]) (by kernel_rfl) (Nat.le_of_ble_eq_true rfl) ?_
  unfold c38
  refine w_seq ?_
  refine w_reg fun all => ?_
  refine t_a (.box rfl rfl rfl) fun b265 fb265 sb265 => ?_
  refine t_a (.box rfl rfl rfl) fun b266 fb266 sb266 => ?_
  refine t_a (.new rfl rfl) fun b267 fb267 sb267 => ?_
  refine t_keep [2, 3, 4, 5, 8] (σ' := [(2, .int .i64 i2), (3, .int .i64 512), (4, .pointer (some ⟨b265, 0, none⟩)), (5, .pointer (some ⟨b266, 0, none⟩)), (8, .pointer (some ⟨b267, 0, none⟩))]) (by kernel_rfl) ?_
  refine t_end ?_
  show W _ _ _ _ _ _ _
  refine w_seq ?_
  refine w_reg fun all => ?_
  refine t_v (.ldn rfl rfl rfl (.at 2 rfl rfl)) ?_
  refine t_qz 2 [2, 3, 5, 8, 19, 21] (σ' := [(2, .int .i64 i2), (3, .int .i64 512), (5, .pointer (some ⟨b266, 0, none⟩)), (8, .pointer (some ⟨b267, 0, none⟩)), (19, .agg #[.int .i64 a0_0, .int .i64 a0_1]), (21, .pointer (some ⟨b266, 1, none⟩))]) (by kernel_rfl) ?_
  refine t_v (.ldn rfl rfl rfl (.at 1 rfl rfl)) ?_
  refine t_qz 2 [2, 3, 5, 8, 19, 22, 24] (σ' := [(2, .int .i64 i2), (3, .int .i64 512), (5, .pointer (some ⟨b266, 0, none⟩)), (8, .pointer (some ⟨b267, 0, none⟩)), (19, .agg #[.int .i64 a0_0, .int .i64 a0_1]), (22, .agg #[.int .i64 s1_1, .int .i64 s1_2]), (24, .pointer (some ⟨b266, 3, none⟩))]) (by kernel_rfl) ?_
  refine t_v (.ldn rfl rfl rfl (.at 1 rfl rfl)) ?_
  refine t_qz 2 [2, 3, 5, 8, 19, 22, 25, 27] (σ' := [(2, .int .i64 i2), (3, .int .i64 512), (5, .pointer (some ⟨b266, 0, none⟩)), (8, .pointer (some ⟨b267, 0, none⟩)), (19, .agg #[.int .i64 a0_0, .int .i64 a0_1]), (22, .agg #[.int .i64 s1_1, .int .i64 s1_2]), (25, .agg #[.int .i64 s1_3, .int .i64 s1_4]), (27, .pointer (some ⟨b266, 5, none⟩))]) (by kernel_rfl) ?_
  refine t_v (.ldn rfl rfl rfl (.at 1 rfl rfl)) ?_
  refine t_a (.bsl rfl rfl rfl rfl) fun b268 fb268 sb268 => ?_
  refine t_qz 1 [2, 3, 5, 8, 29, 30] (σ' := [(2, .int .i64 i2), (3, .int .i64 512), (5, .pointer (some ⟨b266, 0, none⟩)), (8, .pointer (some ⟨b267, 0, none⟩)), (29, .slice (some ⟨b268, 0, none⟩) 4 4), (30, .pointer (some ⟨b266, 0, none⟩))]) (by kernel_rfl) ?_
  refine t_v (.ld1 rfl rfl rfl (.at 2 rfl rfl)) ?_
  refine t_qz 3 [2, 3, 5, 8, 9] (σ' := [(2, .int .i64 i2), (3, .int .i64 512), (5, .pointer (some ⟨b266, 0, none⟩)), (8, .pointer (some ⟨b267, 0, none⟩)), (9, .slice (some ⟨b268, 0, none⟩) 3 4)]) (by kernel_rfl) ?_
  refine t_end ?_
  show W _ _ _ _ _ _ _
  refine w_seq ?_
  refine w_reg fun all => ?_
  refine t_qz 4 [2, 3, 5, 8, 9, 10] (σ' := [(2, .int .i64 i2), (3, .int .i64 512), (5, .pointer (some ⟨b266, 0, none⟩)), (8, .pointer (some ⟨b267, 0, none⟩)), (9, .slice (some ⟨b268, 0, none⟩) 3 4), (10, .int .i64 (wr64 (512 - i2)))]) (by kernel_rfl) ?_
  refine t_end ?_
  show W _ _ _ _ _ _ _
  refine w_seq ?_
  refine w_reg fun all => ?_
  refine t_qz 1 [2, 3, 5, 8, 9, 10, 11] (σ' := [(2, .int .i64 i2), (3, .int .i64 512), (5, .pointer (some ⟨b266, 0, none⟩)), (8, .pointer (some ⟨b267, 0, none⟩)), (9, .slice (some ⟨b268, 0, none⟩) 3 4), (10, .int .i64 (wr64 (512 - i2))), (11, .int .i64 1)]) (by kernel_rfl) ?_
  refine t_end ?_
  show W _ _ _ _ _ _ _
  refine w_seq ?_
  refine w_reg fun all => ?_
  refine t_qz 2 [2, 3, 5, 8, 9, 10, 11, 12, 13] (σ' := [(2, .int .i64 i2), (3, .int .i64 512), (5, .pointer (some ⟨b266, 0, none⟩)), (8, .pointer (some ⟨b267, 0, none⟩)), (9, .slice (some ⟨b268, 0, none⟩) 3 4), (10, .int .i64 (wr64 (512 - i2))), (11, .int .i64 1), (12, .int .i64 0), (13, .int .i64 0)]) (by kernel_rfl) ?_
  refine t_end ?_
  show W _ _ _ _ _ _ _
  refine w_seq ?_
  refine w_reg fun all => ?_
  refine t_a (.bsl rfl rfl rfl rfl) fun b269 fb269 sb269 => ?_
  refine t_a (.bsl rfl rfl rfl rfl) fun b270 fb270 sb270 => ?_
  refine t_a (.bsl rfl rfl rfl rfl) fun b271 fb271 sb271 => ?_
  refine t_a (.bsl rfl rfl rfl rfl) fun b272 fb272 sb272 => ?_
  refine t_qz 1 [2, 3, 5, 8, 9, 10, 11, 12, 13, 40, 41] (σ' := [(2, .int .i64 i2), (3, .int .i64 512), (5, .pointer (some ⟨b266, 0, none⟩)), (8, .pointer (some ⟨b267, 0, none⟩)), (9, .slice (some ⟨b268, 0, none⟩) 3 4), (10, .int .i64 (wr64 (512 - i2))), (11, .int .i64 1), (12, .int .i64 0), (13, .int .i64 0), (40, .slice (some ⟨b272, 0, none⟩) 3 3), (41, .pointer (some ⟨b266, 0, none⟩))]) (by kernel_rfl) ?_
  refine t_v (.ld1 rfl rfl rfl (.at 6 rfl rfl)) ?_
  refine t_qz 2 [2, 3, 5, 8, 9, 10, 11, 12, 13, 44] (σ' := [(2, .int .i64 i2), (3, .int .i64 512), (5, .pointer (some ⟨b266, 0, none⟩)), (8, .pointer (some ⟨b267, 0, none⟩)), (9, .slice (some ⟨b268, 0, none⟩) 3 4), (10, .int .i64 (wr64 (512 - i2))), (11, .int .i64 1), (12, .int .i64 0), (13, .int .i64 0), (44, .pointer (some ⟨b272, 1, none⟩))]) (by kernel_rfl) ?_
  refine t_v (.ld1 rfl rfl rfl (.at 0 rfl rfl)) ?_
  refine t_qz 1 [2, 3, 5, 8, 9, 10, 11, 12, 13, 14] (σ' := [(2, .int .i64 i2), (3, .int .i64 512), (5, .pointer (some ⟨b266, 0, none⟩)), (8, .pointer (some ⟨b267, 0, none⟩)), (9, .slice (some ⟨b268, 0, none⟩) 3 4), (10, .int .i64 (wr64 (512 - i2))), (11, .int .i64 1), (12, .int .i64 0), (13, .int .i64 0), (14, .slice (some ⟨b270, 0, none⟩) 3 3)]) (by kernel_rfl) ?_
  refine t_end ?_
  show W _ _ _ _ _ _ _
  refine w_seq ?_
  refine w_seq ?_
  refine w_reg fun all => ?_
  refine t_qz 1 [2, 3, 5, 8, 9, 10, 11, 12, 13, 14, 15] (σ' := [(2, .int .i64 i2), (3, .int .i64 512), (5, .pointer (some ⟨b266, 0, none⟩)), (8, .pointer (some ⟨b267, 0, none⟩)), (9, .slice (some ⟨b268, 0, none⟩) 3 4), (10, .int .i64 (wr64 (512 - i2))), (11, .int .i64 1), (12, .int .i64 0), (13, .int .i64 0), (14, .slice (some ⟨b270, 0, none⟩) 3 3), (15, .int .i64 0)]) (by kernel_rfl) ?_
  refine t_end ?_
  show W _ _ _ _ _ _ _
  refine w_block ?_
  refine w_lun 10 ?_
  refine wl_step ?_
  refine w_seq ?_
  refine w_seq ?_
  refine w_reg fun all => ?_
  refine t_qz 2 [2, 3, 5, 8, 9, 10, 11, 12, 13, 14, 15, 46, 47] (σ' := [(2, .int .i64 i2), (3, .int .i64 512), (5, .pointer (some ⟨b266, 0, none⟩)), (8, .pointer (some ⟨b267, 0, none⟩)), (9, .slice (some ⟨b268, 0, none⟩) 3 4), (10, .int .i64 (wr64 (512 - i2))), (11, .int .i64 1), (12, .int .i64 0), (13, .int .i64 0), (14, .slice (some ⟨b270, 0, none⟩) 3 3), (15, .int .i64 0), (46, .int .i64 0), (47, .pointer (some ⟨b266, 0, none⟩))]) (by kernel_rfl) ?_
  refine t_v (.ld1 rfl rfl rfl (.at 6 rfl rfl)) ?_
  refine t_qz 1 [2, 3, 5, 8, 9, 10, 11, 12, 13, 14, 15, 49] (σ' := [(2, .int .i64 i2), (3, .int .i64 512), (5, .pointer (some ⟨b266, 0, none⟩)), (8, .pointer (some ⟨b267, 0, none⟩)), (9, .slice (some ⟨b268, 0, none⟩) 3 4), (10, .int .i64 (wr64 (512 - i2))), (11, .int .i64 1), (12, .int .i64 0), (13, .int .i64 0), (14, .slice (some ⟨b270, 0, none⟩) 3 3), (15, .int .i64 0), (49, .bool true)]) (by kernel_rfl) ?_
  refine t_end ?_
  show W _ _ _ _ _ _ _
  refine w_cond rfl (fun _ => ?_) (fun c_ => by cases c_)
  show W _ _ _ _ _ _ _
  refine w_skip ?_
  show W _ _ _ _ _ _ _
  refine w_seq ?_
  refine w_block ?_
  refine w_seq ?_
  refine w_reg fun all => ?_
  refine t_qz 3 [2, 3, 5, 8, 9, 10, 11, 12, 13, 14, 15, 54] (σ' := [(2, .int .i64 i2), (3, .int .i64 512), (5, .pointer (some ⟨b266, 0, none⟩)), (8, .pointer (some ⟨b267, 0, none⟩)), (9, .slice (some ⟨b268, 0, none⟩) 3 4), (10, .int .i64 (wr64 (512 - i2))), (11, .int .i64 1), (12, .int .i64 0), (13, .int .i64 0), (14, .slice (some ⟨b270, 0, none⟩) 3 3), (15, .int .i64 0), (54, .pointer (some ⟨b270, 0, none⟩))]) (by kernel_rfl) ?_
  refine t_v (.ld1 rfl rfl rfl (.at 2 rfl rfl)) ?_
  refine t_qz 1 [2, 3, 5, 8, 9, 10, 11, 12, 13, 14, 15, 16] (σ' := [(2, .int .i64 i2), (3, .int .i64 512), (5, .pointer (some ⟨b266, 0, none⟩)), (8, .pointer (some ⟨b267, 0, none⟩)), (9, .slice (some ⟨b268, 0, none⟩) 3 4), (10, .int .i64 (wr64 (512 - i2))), (11, .int .i64 1), (12, .int .i64 0), (13, .int .i64 0), (14, .slice (some ⟨b270, 0, none⟩) 3 3), (15, .int .i64 0), (16, .int .i64 1)]) (by kernel_rfl) ?_
  refine t_end ?_
  show W _ _ _ _ _ _ _
  refine w_seq ?_
  refine w_seq ?_
  refine w_reg fun all => ?_
  refine t_qz 1 [2, 3, 5, 8, 9, 10, 11, 12, 13, 14, 15, 16, 17] (σ' := [(2, .int .i64 i2), (3, .int .i64 512), (5, .pointer (some ⟨b266, 0, none⟩)), (8, .pointer (some ⟨b267, 0, none⟩)), (9, .slice (some ⟨b268, 0, none⟩) 3 4), (10, .int .i64 (wr64 (512 - i2))), (11, .int .i64 1), (12, .int .i64 0), (13, .int .i64 0), (14, .slice (some ⟨b270, 0, none⟩) 3 3), (15, .int .i64 0), (16, .int .i64 1), (17, .int .i64 0)]) (by kernel_rfl) ?_
  refine t_end ?_
  show W _ _ _ _ _ _ _
  refine w_block ?_
  refine w_lun 10 ?_
  refine wl_step ?_
  refine w_seq ?_
  refine w_seq ?_
  refine w_reg fun all => ?_
  refine t_qz 2 [2, 3, 5, 8, 9, 10, 11, 12, 13, 14, 15, 16, 17, 56, 57] (σ' := [(2, .int .i64 i2), (3, .int .i64 512), (5, .pointer (some ⟨b266, 0, none⟩)), (8, .pointer (some ⟨b267, 0, none⟩)), (9, .slice (some ⟨b268, 0, none⟩) 3 4), (10, .int .i64 (wr64 (512 - i2))), (11, .int .i64 1), (12, .int .i64 0), (13, .int .i64 0), (14, .slice (some ⟨b270, 0, none⟩) 3 3), (15, .int .i64 0), (16, .int .i64 1), (17, .int .i64 0), (56, .int .i64 0), (57, .pointer (some ⟨b266, 0, none⟩))]) (by kernel_rfl) ?_
  refine t_v (.ld1 rfl rfl rfl (.at 6 rfl rfl)) ?_
  refine t_qz 1 [2, 3, 5, 8, 9, 10, 11, 12, 13, 14, 15, 16, 17, 59] (σ' := [(2, .int .i64 i2), (3, .int .i64 512), (5, .pointer (some ⟨b266, 0, none⟩)), (8, .pointer (some ⟨b267, 0, none⟩)), (9, .slice (some ⟨b268, 0, none⟩) 3 4), (10, .int .i64 (wr64 (512 - i2))), (11, .int .i64 1), (12, .int .i64 0), (13, .int .i64 0), (14, .slice (some ⟨b270, 0, none⟩) 3 3), (15, .int .i64 0), (16, .int .i64 1), (17, .int .i64 0), (59, .bool true)]) (by kernel_rfl) ?_
  refine t_end ?_
  show W _ _ _ _ _ _ _
  refine w_cond rfl (fun _ => ?_) (fun c_ => by cases c_)
  show W _ _ _ _ _ _ _
  refine w_skip ?_
  show W _ _ _ _ _ _ _
  refine w_seq ?_
  refine w_block ?_
  refine w_seq ?_
  refine w_reg fun all => ?_
  refine t_qz 3 [2, 3, 5, 8, 9, 10, 11, 12, 13, 14, 15, 16, 17, 64] (σ' := [(2, .int .i64 i2), (3, .int .i64 512), (5, .pointer (some ⟨b266, 0, none⟩)), (8, .pointer (some ⟨b267, 0, none⟩)), (9, .slice (some ⟨b268, 0, none⟩) 3 4), (10, .int .i64 (wr64 (512 - i2))), (11, .int .i64 1), (12, .int .i64 0), (13, .int .i64 0), (14, .slice (some ⟨b270, 0, none⟩) 3 3), (15, .int .i64 0), (16, .int .i64 1), (17, .int .i64 0), (64, .bool false)]) (by kernel_rfl) ?_
  refine t_end ?_
  show W _ _ _ _ _ _ _
  refine w_cond rfl (fun c_ => by cases c_) (fun _ => ?_)
  show W _ _ _ _ _ _ _
  refine w_reg fun all => ?_
  refine t_qz 4 [2, 3, 5, 8, 9, 10, 11, 12, 13, 14, 15, 16, 17] (σ' := [(2, .int .i64 i2), (3, .int .i64 512), (5, .pointer (some ⟨b266, 0, none⟩)), (8, .pointer (some ⟨b267, 0, none⟩)), (9, .slice (some ⟨b268, 0, none⟩) 3 4), (10, .int .i64 (wr64 (512 - i2))), (11, .int .i64 1), (12, .int .i64 0), (13, .int .i64 0), (14, .slice (some ⟨b270, 0, none⟩) 3 3), (15, .int .i64 0), (16, .int .i64 (wr64 (1 * (wr64 (512 - i2))))), (17, .int .i64 0)]) (by kernel_rfl) ?_
  refine t_end ?_
  show W _ _ _ _ _ _ _
  refine w_reg fun all => ?_
  refine t_qz 3 [2, 3, 5, 8, 9, 10, 11, 12, 13, 14, 15, 16, 17] (σ' := [(2, .int .i64 i2), (3, .int .i64 512), (5, .pointer (some ⟨b266, 0, none⟩)), (8, .pointer (some ⟨b267, 0, none⟩)), (9, .slice (some ⟨b268, 0, none⟩) 3 4), (10, .int .i64 (wr64 (512 - i2))), (11, .int .i64 1), (12, .int .i64 0), (13, .int .i64 0), (14, .slice (some ⟨b270, 0, none⟩) 3 3), (15, .int .i64 0), (16, .int .i64 (wr64 (1 * (wr64 (512 - i2))))), (17, .int .i64 1)]) (by kernel_rfl) ?_
  refine t_end ?_
  show WL _ _ _ _ _ _ _ _
  refine wl_step ?_
  refine w_seq ?_
  refine w_seq ?_
  refine w_reg fun all => ?_
  refine t_qz 2 [2, 3, 5, 8, 9, 10, 11, 12, 13, 14, 15, 16, 17, 56, 57] (σ' := [(2, .int .i64 i2), (3, .int .i64 512), (5, .pointer (some ⟨b266, 0, none⟩)), (8, .pointer (some ⟨b267, 0, none⟩)), (9, .slice (some ⟨b268, 0, none⟩) 3 4), (10, .int .i64 (wr64 (512 - i2))), (11, .int .i64 1), (12, .int .i64 0), (13, .int .i64 0), (14, .slice (some ⟨b270, 0, none⟩) 3 3), (15, .int .i64 0), (16, .int .i64 (wr64 (1 * (wr64 (512 - i2))))), (17, .int .i64 1), (56, .int .i64 1), (57, .pointer (some ⟨b266, 0, none⟩))]) (by kernel_rfl) ?_
  refine t_v (.ld1 rfl rfl rfl (.at 6 rfl rfl)) ?_
  refine t_qz 1 [2, 3, 5, 8, 9, 10, 11, 12, 13, 14, 15, 16, 17, 59] (σ' := [(2, .int .i64 i2), (3, .int .i64 512), (5, .pointer (some ⟨b266, 0, none⟩)), (8, .pointer (some ⟨b267, 0, none⟩)), (9, .slice (some ⟨b268, 0, none⟩) 3 4), (10, .int .i64 (wr64 (512 - i2))), (11, .int .i64 1), (12, .int .i64 0), (13, .int .i64 0), (14, .slice (some ⟨b270, 0, none⟩) 3 3), (15, .int .i64 0), (16, .int .i64 (wr64 (1 * (wr64 (512 - i2))))), (17, .int .i64 1), (59, .bool true)]) (by kernel_rfl) ?_
  refine t_end ?_
  show W _ _ _ _ _ _ _
  refine w_cond rfl (fun _ => ?_) (fun c_ => by cases c_)
  show W _ _ _ _ _ _ _
  refine w_skip ?_
  show W _ _ _ _ _ _ _
  refine w_seq ?_
  refine w_block ?_
  refine w_seq ?_
  refine w_reg fun all => ?_
  refine t_qz 3 [2, 3, 5, 8, 9, 10, 11, 12, 13, 14, 15, 16, 17, 64] (σ' := [(2, .int .i64 i2), (3, .int .i64 512), (5, .pointer (some ⟨b266, 0, none⟩)), (8, .pointer (some ⟨b267, 0, none⟩)), (9, .slice (some ⟨b268, 0, none⟩) 3 4), (10, .int .i64 (wr64 (512 - i2))), (11, .int .i64 1), (12, .int .i64 0), (13, .int .i64 0), (14, .slice (some ⟨b270, 0, none⟩) 3 3), (15, .int .i64 0), (16, .int .i64 (wr64 (1 * (wr64 (512 - i2))))), (17, .int .i64 1), (64, .bool false)]) (by kernel_rfl) ?_
  refine t_end ?_
  show W _ _ _ _ _ _ _
  refine w_cond rfl (fun c_ => by cases c_) (fun _ => ?_)
  show W _ _ _ _ _ _ _
  refine w_reg fun all => ?_
  refine t_qz 4 [2, 3, 5, 8, 9, 10, 11, 12, 13, 14, 15, 16, 17] (σ' := [(2, .int .i64 i2), (3, .int .i64 512), (5, .pointer (some ⟨b266, 0, none⟩)), (8, .pointer (some ⟨b267, 0, none⟩)), (9, .slice (some ⟨b268, 0, none⟩) 3 4), (10, .int .i64 (wr64 (512 - i2))), (11, .int .i64 1), (12, .int .i64 0), (13, .int .i64 0), (14, .slice (some ⟨b270, 0, none⟩) 3 3), (15, .int .i64 0), (16, .int .i64 (wr64 ((wr64 (1 * (wr64 (512 - i2)))) * (wr64 (512 - i2))))), (17, .int .i64 1)]) (by kernel_rfl) ?_
  refine t_end ?_
  show W _ _ _ _ _ _ _
  refine w_reg fun all => ?_
  refine t_qz 3 [2, 3, 5, 8, 9, 10, 11, 12, 13, 14, 15, 16, 17] (σ' := [(2, .int .i64 i2), (3, .int .i64 512), (5, .pointer (some ⟨b266, 0, none⟩)), (8, .pointer (some ⟨b267, 0, none⟩)), (9, .slice (some ⟨b268, 0, none⟩) 3 4), (10, .int .i64 (wr64 (512 - i2))), (11, .int .i64 1), (12, .int .i64 0), (13, .int .i64 0), (14, .slice (some ⟨b270, 0, none⟩) 3 3), (15, .int .i64 0), (16, .int .i64 (wr64 ((wr64 (1 * (wr64 (512 - i2)))) * (wr64 (512 - i2))))), (17, .int .i64 2)]) (by kernel_rfl) ?_
  refine t_end ?_
  show WL _ _ _ _ _ _ _ _
  refine wl_step ?_
  refine w_seq ?_
  refine w_seq ?_
  refine w_reg fun all => ?_
  refine t_qz 2 [2, 3, 5, 8, 9, 10, 11, 12, 13, 14, 15, 16, 17, 56, 57] (σ' := [(2, .int .i64 i2), (3, .int .i64 512), (5, .pointer (some ⟨b266, 0, none⟩)), (8, .pointer (some ⟨b267, 0, none⟩)), (9, .slice (some ⟨b268, 0, none⟩) 3 4), (10, .int .i64 (wr64 (512 - i2))), (11, .int .i64 1), (12, .int .i64 0), (13, .int .i64 0), (14, .slice (some ⟨b270, 0, none⟩) 3 3), (15, .int .i64 0), (16, .int .i64 (wr64 ((wr64 (1 * (wr64 (512 - i2)))) * (wr64 (512 - i2))))), (17, .int .i64 2), (56, .int .i64 2), (57, .pointer (some ⟨b266, 0, none⟩))]) (by kernel_rfl) ?_
  refine t_v (.ld1 rfl rfl rfl (.at 6 rfl rfl)) ?_
  refine t_qz 1 [2, 3, 5, 8, 9, 10, 11, 12, 13, 14, 15, 16, 17, 59] (σ' := [(2, .int .i64 i2), (3, .int .i64 512), (5, .pointer (some ⟨b266, 0, none⟩)), (8, .pointer (some ⟨b267, 0, none⟩)), (9, .slice (some ⟨b268, 0, none⟩) 3 4), (10, .int .i64 (wr64 (512 - i2))), (11, .int .i64 1), (12, .int .i64 0), (13, .int .i64 0), (14, .slice (some ⟨b270, 0, none⟩) 3 3), (15, .int .i64 0), (16, .int .i64 (wr64 ((wr64 (1 * (wr64 (512 - i2)))) * (wr64 (512 - i2))))), (17, .int .i64 2), (59, .bool false)]) (by kernel_rfl) ?_
  refine t_end ?_
  show W _ _ _ _ _ _ _
  refine w_cond rfl (fun c_ => by cases c_) (fun _ => ?_)
  show W _ _ _ _ _ _ _
  refine w_exit ?_
  show W _ _ _ _ _ _ _
  refine w_seq ?_
  refine w_reg fun all => ?_
  refine t_qz 6 [2, 3, 5, 8, 9, 10, 11, 13, 14, 15, 16, 71, 72, 76] (σ' := [(2, .int .i64 i2), (3, .int .i64 512), (5, .pointer (some ⟨b266, 0, none⟩)), (8, .pointer (some ⟨b267, 0, none⟩)), (9, .slice (some ⟨b268, 0, none⟩) 3 4), (10, .int .i64 (wr64 (512 - i2))), (11, .int .i64 1), (13, .int .i64 0), (14, .slice (some ⟨b270, 0, none⟩) 3 3), (15, .int .i64 0), (16, .int .i64 (wr64 ((wr64 (1 * (wr64 (512 - i2)))) * (wr64 (512 - i2))))), (71, .int .i64 0), (72, .int .i64 (wr64 ((wr64 (1 * (wr64 (512 - i2)))) * (wr64 (512 - i2))))), (76, .pointer (some ⟨b268, 0, none⟩))]) (by kernel_rfl) ?_
  refine t_v (.ld1 rfl rfl rfl (.at 4 rfl rfl)) ?_
  refine t_qz 3 [2, 3, 5, 8, 9, 10, 11, 12, 13, 14, 15, 16] (σ' := [(2, .int .i64 i2), (3, .int .i64 512), (5, .pointer (some ⟨b266, 0, none⟩)), (8, .pointer (some ⟨b267, 0, none⟩)), (9, .slice (some ⟨b268, 0, none⟩) 3 4), (10, .int .i64 (wr64 (512 - i2))), (11, .int .i64 1), (12, .int .i64 (wr64 (0 + (wr64 ((wr64 ((wr64 (1 * (wr64 (512 - i2)))) * (wr64 (512 - i2)))) * a0_0))))), (13, .int .i64 0), (14, .slice (some ⟨b270, 0, none⟩) 3 3), (15, .int .i64 0), (16, .int .i64 (wr64 ((wr64 (1 * (wr64 (512 - i2)))) * (wr64 (512 - i2)))))]) (by kernel_rfl) ?_
  refine t_end ?_
  show W _ _ _ _ _ _ _
  refine w_reg fun all => ?_
  refine t_qz 6 [2, 3, 5, 8, 9, 10, 11, 12, 14, 15, 80, 81, 85] (σ' := [(2, .int .i64 i2), (3, .int .i64 512), (5, .pointer (some ⟨b266, 0, none⟩)), (8, .pointer (some ⟨b267, 0, none⟩)), (9, .slice (some ⟨b268, 0, none⟩) 3 4), (10, .int .i64 (wr64 (512 - i2))), (11, .int .i64 1), (12, .int .i64 (wr64 (0 + (wr64 ((wr64 ((wr64 (1 * (wr64 (512 - i2)))) * (wr64 (512 - i2)))) * a0_0))))), (14, .slice (some ⟨b270, 0, none⟩) 3 3), (15, .int .i64 0), (80, .int .i64 0), (81, .int .i64 (wr64 ((wr64 (1 * (wr64 (512 - i2)))) * (wr64 (512 - i2))))), (85, .pointer (some ⟨b268, 1, none⟩))]) (by kernel_rfl) ?_
  refine t_v (.ld1 rfl rfl rfl (.at 4 rfl rfl)) ?_
  refine t_qz 3 [2, 3, 5, 8, 9, 10, 11, 12, 13, 14, 15] (σ' := [(2, .int .i64 i2), (3, .int .i64 512), (5, .pointer (some ⟨b266, 0, none⟩)), (8, .pointer (some ⟨b267, 0, none⟩)), (9, .slice (some ⟨b268, 0, none⟩) 3 4), (10, .int .i64 (wr64 (512 - i2))), (11, .int .i64 1), (12, .int .i64 (wr64 (0 + (wr64 ((wr64 ((wr64 (1 * (wr64 (512 - i2)))) * (wr64 (512 - i2)))) * a0_0))))), (13, .int .i64 (wr64 (0 + (wr64 ((wr64 ((wr64 (1 * (wr64 (512 - i2)))) * (wr64 (512 - i2)))) * a0_1))))), (14, .slice (some ⟨b270, 0, none⟩) 3 3), (15, .int .i64 0)]) (by kernel_rfl) ?_
  refine t_end ?_
  show W _ _ _ _ _ _ _
  refine w_reg fun all => ?_
  refine t_qz 3 [2, 3, 5, 8, 9, 10, 11, 12, 13, 14, 15] (σ' := [(2, .int .i64 i2), (3, .int .i64 512), (5, .pointer (some ⟨b266, 0, none⟩)), (8, .pointer (some ⟨b267, 0, none⟩)), (9, .slice (some ⟨b268, 0, none⟩) 3 4), (10, .int .i64 (wr64 (512 - i2))), (11, .int .i64 1), (12, .int .i64 (wr64 (0 + (wr64 ((wr64 ((wr64 (1 * (wr64 (512 - i2)))) * (wr64 (512 - i2)))) * a0_0))))), (13, .int .i64 (wr64 (0 + (wr64 ((wr64 ((wr64 (1 * (wr64 (512 - i2)))) * (wr64 (512 - i2)))) * a0_1))))), (14, .slice (some ⟨b270, 0, none⟩) 3 3), (15, .int .i64 1)]) (by kernel_rfl) ?_
  refine t_end ?_
  show WL _ _ _ _ _ _ _ _
  refine wl_step ?_
  refine w_seq ?_
  refine w_seq ?_
  refine w_reg fun all => ?_
  refine t_qz 2 [2, 3, 5, 8, 9, 10, 11, 12, 13, 14, 15, 46, 47] (σ' := [(2, .int .i64 i2), (3, .int .i64 512), (5, .pointer (some ⟨b266, 0, none⟩)), (8, .pointer (some ⟨b267, 0, none⟩)), (9, .slice (some ⟨b268, 0, none⟩) 3 4), (10, .int .i64 (wr64 (512 - i2))), (11, .int .i64 1), (12, .int .i64 (wr64 (0 + (wr64 ((wr64 ((wr64 (1 * (wr64 (512 - i2)))) * (wr64 (512 - i2)))) * a0_0))))), (13, .int .i64 (wr64 (0 + (wr64 ((wr64 ((wr64 (1 * (wr64 (512 - i2)))) * (wr64 (512 - i2)))) * a0_1))))), (14, .slice (some ⟨b270, 0, none⟩) 3 3), (15, .int .i64 1), (46, .int .i64 1), (47, .pointer (some ⟨b266, 0, none⟩))]) (by kernel_rfl) ?_
  refine t_v (.ld1 rfl rfl rfl (.at 6 rfl rfl)) ?_
  refine t_qz 1 [2, 3, 5, 8, 9, 10, 11, 12, 13, 14, 15, 49] (σ' := [(2, .int .i64 i2), (3, .int .i64 512), (5, .pointer (some ⟨b266, 0, none⟩)), (8, .pointer (some ⟨b267, 0, none⟩)), (9, .slice (some ⟨b268, 0, none⟩) 3 4), (10, .int .i64 (wr64 (512 - i2))), (11, .int .i64 1), (12, .int .i64 (wr64 (0 + (wr64 ((wr64 ((wr64 (1 * (wr64 (512 - i2)))) * (wr64 (512 - i2)))) * a0_0))))), (13, .int .i64 (wr64 (0 + (wr64 ((wr64 ((wr64 (1 * (wr64 (512 - i2)))) * (wr64 (512 - i2)))) * a0_1))))), (14, .slice (some ⟨b270, 0, none⟩) 3 3), (15, .int .i64 1), (49, .bool true)]) (by kernel_rfl) ?_
  refine t_end ?_
  show W _ _ _ _ _ _ _
  refine w_cond rfl (fun _ => ?_) (fun c_ => by cases c_)
  show W _ _ _ _ _ _ _
  refine w_skip ?_
  show W _ _ _ _ _ _ _
  refine w_seq ?_
  refine w_block ?_
  refine w_seq ?_
  refine w_reg fun all => ?_
  refine t_qz 3 [2, 3, 5, 8, 9, 10, 11, 12, 13, 14, 15, 54] (σ' := [(2, .int .i64 i2), (3, .int .i64 512), (5, .pointer (some ⟨b266, 0, none⟩)), (8, .pointer (some ⟨b267, 0, none⟩)), (9, .slice (some ⟨b268, 0, none⟩) 3 4), (10, .int .i64 (wr64 (512 - i2))), (11, .int .i64 1), (12, .int .i64 (wr64 (0 + (wr64 ((wr64 ((wr64 (1 * (wr64 (512 - i2)))) * (wr64 (512 - i2)))) * a0_0))))), (13, .int .i64 (wr64 (0 + (wr64 ((wr64 ((wr64 (1 * (wr64 (512 - i2)))) * (wr64 (512 - i2)))) * a0_1))))), (14, .slice (some ⟨b270, 0, none⟩) 3 3), (15, .int .i64 1), (54, .pointer (some ⟨b270, 1, none⟩))]) (by kernel_rfl) ?_
  refine t_v (.ld1 rfl rfl rfl (.at 2 rfl rfl)) ?_
  refine t_qz 1 [2, 3, 5, 8, 9, 10, 11, 12, 13, 14, 15, 16] (σ' := [(2, .int .i64 i2), (3, .int .i64 512), (5, .pointer (some ⟨b266, 0, none⟩)), (8, .pointer (some ⟨b267, 0, none⟩)), (9, .slice (some ⟨b268, 0, none⟩) 3 4), (10, .int .i64 (wr64 (512 - i2))), (11, .int .i64 1), (12, .int .i64 (wr64 (0 + (wr64 ((wr64 ((wr64 (1 * (wr64 (512 - i2)))) * (wr64 (512 - i2)))) * a0_0))))), (13, .int .i64 (wr64 (0 + (wr64 ((wr64 ((wr64 (1 * (wr64 (512 - i2)))) * (wr64 (512 - i2)))) * a0_1))))), (14, .slice (some ⟨b270, 0, none⟩) 3 3), (15, .int .i64 1), (16, .int .i64 2)]) (by kernel_rfl) ?_
  refine t_end ?_
  show W _ _ _ _ _ _ _
  refine w_seq ?_
  refine w_seq ?_
  refine w_reg fun all => ?_
  refine t_qz 1 [2, 3, 5, 8, 9, 10, 11, 12, 13, 14, 15, 16, 17] (σ' := [(2, .int .i64 i2), (3, .int .i64 512), (5, .pointer (some ⟨b266, 0, none⟩)), (8, .pointer (some ⟨b267, 0, none⟩)), (9, .slice (some ⟨b268, 0, none⟩) 3 4), (10, .int .i64 (wr64 (512 - i2))), (11, .int .i64 1), (12, .int .i64 (wr64 (0 + (wr64 ((wr64 ((wr64 (1 * (wr64 (512 - i2)))) * (wr64 (512 - i2)))) * a0_0))))), (13, .int .i64 (wr64 (0 + (wr64 ((wr64 ((wr64 (1 * (wr64 (512 - i2)))) * (wr64 (512 - i2)))) * a0_1))))), (14, .slice (some ⟨b270, 0, none⟩) 3 3), (15, .int .i64 1), (16, .int .i64 2), (17, .int .i64 0)]) (by kernel_rfl) ?_
  refine t_end ?_
  show W _ _ _ _ _ _ _
  refine w_block ?_
  refine w_lun 10 ?_
  refine wl_step ?_
  refine w_seq ?_
  refine w_seq ?_
  refine w_reg fun all => ?_
  refine t_qz 2 [2, 3, 5, 8, 9, 10, 11, 12, 13, 14, 15, 16, 17, 56, 57] (σ' := [(2, .int .i64 i2), (3, .int .i64 512), (5, .pointer (some ⟨b266, 0, none⟩)), (8, .pointer (some ⟨b267, 0, none⟩)), (9, .slice (some ⟨b268, 0, none⟩) 3 4), (10, .int .i64 (wr64 (512 - i2))), (11, .int .i64 1), (12, .int .i64 (wr64 (0 + (wr64 ((wr64 ((wr64 (1 * (wr64 (512 - i2)))) * (wr64 (512 - i2)))) * a0_0))))), (13, .int .i64 (wr64 (0 + (wr64 ((wr64 ((wr64 (1 * (wr64 (512 - i2)))) * (wr64 (512 - i2)))) * a0_1))))), (14, .slice (some ⟨b270, 0, none⟩) 3 3), (15, .int .i64 1), (16, .int .i64 2), (17, .int .i64 0), (56, .int .i64 0), (57, .pointer (some ⟨b266, 0, none⟩))]) (by kernel_rfl) ?_
  refine t_v (.ld1 rfl rfl rfl (.at 6 rfl rfl)) ?_
  refine t_qz 1 [2, 3, 5, 8, 9, 10, 11, 12, 13, 14, 15, 16, 17, 59] (σ' := [(2, .int .i64 i2), (3, .int .i64 512), (5, .pointer (some ⟨b266, 0, none⟩)), (8, .pointer (some ⟨b267, 0, none⟩)), (9, .slice (some ⟨b268, 0, none⟩) 3 4), (10, .int .i64 (wr64 (512 - i2))), (11, .int .i64 1), (12, .int .i64 (wr64 (0 + (wr64 ((wr64 ((wr64 (1 * (wr64 (512 - i2)))) * (wr64 (512 - i2)))) * a0_0))))), (13, .int .i64 (wr64 (0 + (wr64 ((wr64 ((wr64 (1 * (wr64 (512 - i2)))) * (wr64 (512 - i2)))) * a0_1))))), (14, .slice (some ⟨b270, 0, none⟩) 3 3), (15, .int .i64 1), (16, .int .i64 2), (17, .int .i64 0), (59, .bool true)]) (by kernel_rfl) ?_
  refine t_end ?_
  show W _ _ _ _ _ _ _
  refine w_cond rfl (fun _ => ?_) (fun c_ => by cases c_)
  show W _ _ _ _ _ _ _
  refine w_skip ?_
  show W _ _ _ _ _ _ _
  refine w_seq ?_
  refine w_block ?_
  refine w_seq ?_
  refine w_reg fun all => ?_
  refine t_qz 3 [2, 3, 5, 8, 9, 10, 11, 12, 13, 14, 15, 16, 17, 64] (σ' := [(2, .int .i64 i2), (3, .int .i64 512), (5, .pointer (some ⟨b266, 0, none⟩)), (8, .pointer (some ⟨b267, 0, none⟩)), (9, .slice (some ⟨b268, 0, none⟩) 3 4), (10, .int .i64 (wr64 (512 - i2))), (11, .int .i64 1), (12, .int .i64 (wr64 (0 + (wr64 ((wr64 ((wr64 (1 * (wr64 (512 - i2)))) * (wr64 (512 - i2)))) * a0_0))))), (13, .int .i64 (wr64 (0 + (wr64 ((wr64 ((wr64 (1 * (wr64 (512 - i2)))) * (wr64 (512 - i2)))) * a0_1))))), (14, .slice (some ⟨b270, 0, none⟩) 3 3), (15, .int .i64 1), (16, .int .i64 2), (17, .int .i64 0), (64, .bool true)]) (by kernel_rfl) ?_
  refine t_end ?_
  show W _ _ _ _ _ _ _
  refine w_cond rfl (fun _ => ?_) (fun c_ => by cases c_)
  show W _ _ _ _ _ _ _
  refine w_reg fun all => ?_
  refine t_qz 4 [2, 3, 5, 8, 9, 10, 11, 12, 13, 14, 15, 16, 17] (σ' := [(2, .int .i64 i2), (3, .int .i64 512), (5, .pointer (some ⟨b266, 0, none⟩)), (8, .pointer (some ⟨b267, 0, none⟩)), (9, .slice (some ⟨b268, 0, none⟩) 3 4), (10, .int .i64 (wr64 (512 - i2))), (11, .int .i64 1), (12, .int .i64 (wr64 (0 + (wr64 ((wr64 ((wr64 (1 * (wr64 (512 - i2)))) * (wr64 (512 - i2)))) * a0_0))))), (13, .int .i64 (wr64 (0 + (wr64 ((wr64 ((wr64 (1 * (wr64 (512 - i2)))) * (wr64 (512 - i2)))) * a0_1))))), (14, .slice (some ⟨b270, 0, none⟩) 3 3), (15, .int .i64 1), (16, .int .i64 (wr64 (2 * i2))), (17, .int .i64 0)]) (by kernel_rfl) ?_
  refine t_end ?_
  show W _ _ _ _ _ _ _
  refine w_reg fun all => ?_
  refine t_qz 3 [2, 3, 5, 8, 9, 10, 11, 12, 13, 14, 15, 16, 17] (σ' := [(2, .int .i64 i2), (3, .int .i64 512), (5, .pointer (some ⟨b266, 0, none⟩)), (8, .pointer (some ⟨b267, 0, none⟩)), (9, .slice (some ⟨b268, 0, none⟩) 3 4), (10, .int .i64 (wr64 (512 - i2))), (11, .int .i64 1), (12, .int .i64 (wr64 (0 + (wr64 ((wr64 ((wr64 (1 * (wr64 (512 - i2)))) * (wr64 (512 - i2)))) * a0_0))))), (13, .int .i64 (wr64 (0 + (wr64 ((wr64 ((wr64 (1 * (wr64 (512 - i2)))) * (wr64 (512 - i2)))) * a0_1))))), (14, .slice (some ⟨b270, 0, none⟩) 3 3), (15, .int .i64 1), (16, .int .i64 (wr64 (2 * i2))), (17, .int .i64 1)]) (by kernel_rfl) ?_
  refine t_end ?_
  show WL _ _ _ _ _ _ _ _
  refine wl_step ?_
  refine w_seq ?_
  refine w_seq ?_
  refine w_reg fun all => ?_
  refine t_qz 2 [2, 3, 5, 8, 9, 10, 11, 12, 13, 14, 15, 16, 17, 56, 57] (σ' := [(2, .int .i64 i2), (3, .int .i64 512), (5, .pointer (some ⟨b266, 0, none⟩)), (8, .pointer (some ⟨b267, 0, none⟩)), (9, .slice (some ⟨b268, 0, none⟩) 3 4), (10, .int .i64 (wr64 (512 - i2))), (11, .int .i64 1), (12, .int .i64 (wr64 (0 + (wr64 ((wr64 ((wr64 (1 * (wr64 (512 - i2)))) * (wr64 (512 - i2)))) * a0_0))))), (13, .int .i64 (wr64 (0 + (wr64 ((wr64 ((wr64 (1 * (wr64 (512 - i2)))) * (wr64 (512 - i2)))) * a0_1))))), (14, .slice (some ⟨b270, 0, none⟩) 3 3), (15, .int .i64 1), (16, .int .i64 (wr64 (2 * i2))), (17, .int .i64 1), (56, .int .i64 1), (57, .pointer (some ⟨b266, 0, none⟩))]) (by kernel_rfl) ?_
  refine t_v (.ld1 rfl rfl rfl (.at 6 rfl rfl)) ?_
  refine t_qz 1 [2, 3, 5, 8, 9, 10, 11, 12, 13, 14, 15, 16, 17, 59] (σ' := [(2, .int .i64 i2), (3, .int .i64 512), (5, .pointer (some ⟨b266, 0, none⟩)), (8, .pointer (some ⟨b267, 0, none⟩)), (9, .slice (some ⟨b268, 0, none⟩) 3 4), (10, .int .i64 (wr64 (512 - i2))), (11, .int .i64 1), (12, .int .i64 (wr64 (0 + (wr64 ((wr64 ((wr64 (1 * (wr64 (512 - i2)))) * (wr64 (512 - i2)))) * a0_0))))), (13, .int .i64 (wr64 (0 + (wr64 ((wr64 ((wr64 (1 * (wr64 (512 - i2)))) * (wr64 (512 - i2)))) * a0_1))))), (14, .slice (some ⟨b270, 0, none⟩) 3 3), (15, .int .i64 1), (16, .int .i64 (wr64 (2 * i2))), (17, .int .i64 1), (59, .bool true)]) (by kernel_rfl) ?_
  refine t_end ?_
  show W _ _ _ _ _ _ _
  refine w_cond rfl (fun _ => ?_) (fun c_ => by cases c_)
  show W _ _ _ _ _ _ _
  refine w_skip ?_
  show W _ _ _ _ _ _ _
  refine w_seq ?_
  refine w_block ?_
  refine w_seq ?_
  refine w_reg fun all => ?_
  refine t_qz 3 [2, 3, 5, 8, 9, 10, 11, 12, 13, 14, 15, 16, 17, 64] (σ' := [(2, .int .i64 i2), (3, .int .i64 512), (5, .pointer (some ⟨b266, 0, none⟩)), (8, .pointer (some ⟨b267, 0, none⟩)), (9, .slice (some ⟨b268, 0, none⟩) 3 4), (10, .int .i64 (wr64 (512 - i2))), (11, .int .i64 1), (12, .int .i64 (wr64 (0 + (wr64 ((wr64 ((wr64 (1 * (wr64 (512 - i2)))) * (wr64 (512 - i2)))) * a0_0))))), (13, .int .i64 (wr64 (0 + (wr64 ((wr64 ((wr64 (1 * (wr64 (512 - i2)))) * (wr64 (512 - i2)))) * a0_1))))), (14, .slice (some ⟨b270, 0, none⟩) 3 3), (15, .int .i64 1), (16, .int .i64 (wr64 (2 * i2))), (17, .int .i64 1), (64, .bool false)]) (by kernel_rfl) ?_
  refine t_end ?_
  show W _ _ _ _ _ _ _
  refine w_cond rfl (fun c_ => by cases c_) (fun _ => ?_)
  show W _ _ _ _ _ _ _
  refine w_reg fun all => ?_
  refine t_qz 4 [2, 3, 5, 8, 9, 10, 11, 12, 13, 14, 15, 16, 17] (σ' := [(2, .int .i64 i2), (3, .int .i64 512), (5, .pointer (some ⟨b266, 0, none⟩)), (8, .pointer (some ⟨b267, 0, none⟩)), (9, .slice (some ⟨b268, 0, none⟩) 3 4), (10, .int .i64 (wr64 (512 - i2))), (11, .int .i64 1), (12, .int .i64 (wr64 (0 + (wr64 ((wr64 ((wr64 (1 * (wr64 (512 - i2)))) * (wr64 (512 - i2)))) * a0_0))))), (13, .int .i64 (wr64 (0 + (wr64 ((wr64 ((wr64 (1 * (wr64 (512 - i2)))) * (wr64 (512 - i2)))) * a0_1))))), (14, .slice (some ⟨b270, 0, none⟩) 3 3), (15, .int .i64 1), (16, .int .i64 (wr64 ((wr64 (2 * i2)) * (wr64 (512 - i2))))), (17, .int .i64 1)]) (by kernel_rfl) ?_
  refine t_end ?_
  show W _ _ _ _ _ _ _
  refine w_reg fun all => ?_
  refine t_qz 3 [2, 3, 5, 8, 9, 10, 11, 12, 13, 14, 15, 16, 17] (σ' := [(2, .int .i64 i2), (3, .int .i64 512), (5, .pointer (some ⟨b266, 0, none⟩)), (8, .pointer (some ⟨b267, 0, none⟩)), (9, .slice (some ⟨b268, 0, none⟩) 3 4), (10, .int .i64 (wr64 (512 - i2))), (11, .int .i64 1), (12, .int .i64 (wr64 (0 + (wr64 ((wr64 ((wr64 (1 * (wr64 (512 - i2)))) * (wr64 (512 - i2)))) * a0_0))))), (13, .int .i64 (wr64 (0 + (wr64 ((wr64 ((wr64 (1 * (wr64 (512 - i2)))) * (wr64 (512 - i2)))) * a0_1))))), (14, .slice (some ⟨b270, 0, none⟩) 3 3), (15, .int .i64 1), (16, .int .i64 (wr64 ((wr64 (2 * i2)) * (wr64 (512 - i2))))), (17, .int .i64 2)]) (by kernel_rfl) ?_
  refine t_end ?_
  show WL _ _ _ _ _ _ _ _
  refine wl_step ?_
  refine w_seq ?_
  refine w_seq ?_
  refine w_reg fun all => ?_
  refine t_qz 2 [2, 3, 5, 8, 9, 10, 11, 12, 13, 14, 15, 16, 17, 56, 57] (σ' := [(2, .int .i64 i2), (3, .int .i64 512), (5, .pointer (some ⟨b266, 0, none⟩)), (8, .pointer (some ⟨b267, 0, none⟩)), (9, .slice (some ⟨b268, 0, none⟩) 3 4), (10, .int .i64 (wr64 (512 - i2))), (11, .int .i64 1), (12, .int .i64 (wr64 (0 + (wr64 ((wr64 ((wr64 (1 * (wr64 (512 - i2)))) * (wr64 (512 - i2)))) * a0_0))))), (13, .int .i64 (wr64 (0 + (wr64 ((wr64 ((wr64 (1 * (wr64 (512 - i2)))) * (wr64 (512 - i2)))) * a0_1))))), (14, .slice (some ⟨b270, 0, none⟩) 3 3), (15, .int .i64 1), (16, .int .i64 (wr64 ((wr64 (2 * i2)) * (wr64 (512 - i2))))), (17, .int .i64 2), (56, .int .i64 2), (57, .pointer (some ⟨b266, 0, none⟩))]) (by kernel_rfl) ?_
  refine t_v (.ld1 rfl rfl rfl (.at 6 rfl rfl)) ?_
  refine t_qz 1 [2, 3, 5, 8, 9, 10, 11, 12, 13, 14, 15, 16, 17, 59] (σ' := [(2, .int .i64 i2), (3, .int .i64 512), (5, .pointer (some ⟨b266, 0, none⟩)), (8, .pointer (some ⟨b267, 0, none⟩)), (9, .slice (some ⟨b268, 0, none⟩) 3 4), (10, .int .i64 (wr64 (512 - i2))), (11, .int .i64 1), (12, .int .i64 (wr64 (0 + (wr64 ((wr64 ((wr64 (1 * (wr64 (512 - i2)))) * (wr64 (512 - i2)))) * a0_0))))), (13, .int .i64 (wr64 (0 + (wr64 ((wr64 ((wr64 (1 * (wr64 (512 - i2)))) * (wr64 (512 - i2)))) * a0_1))))), (14, .slice (some ⟨b270, 0, none⟩) 3 3), (15, .int .i64 1), (16, .int .i64 (wr64 ((wr64 (2 * i2)) * (wr64 (512 - i2))))), (17, .int .i64 2), (59, .bool false)]) (by kernel_rfl) ?_
  refine t_end ?_
  show W _ _ _ _ _ _ _
  refine w_cond rfl (fun c_ => by cases c_) (fun _ => ?_)
  show W _ _ _ _ _ _ _
  refine w_exit ?_
  show W _ _ _ _ _ _ _
  refine w_seq ?_
  refine w_reg fun all => ?_
  refine t_qz 6 [2, 3, 5, 8, 9, 10, 11, 13, 14, 15, 16, 71, 72, 76] (σ' := [(2, .int .i64 i2), (3, .int .i64 512), (5, .pointer (some ⟨b266, 0, none⟩)), (8, .pointer (some ⟨b267, 0, none⟩)), (9, .slice (some ⟨b268, 0, none⟩) 3 4), (10, .int .i64 (wr64 (512 - i2))), (11, .int .i64 1), (13, .int .i64 (wr64 (0 + (wr64 ((wr64 ((wr64 (1 * (wr64 (512 - i2)))) * (wr64 (512 - i2)))) * a0_1))))), (14, .slice (some ⟨b270, 0, none⟩) 3 3), (15, .int .i64 1), (16, .int .i64 (wr64 ((wr64 (2 * i2)) * (wr64 (512 - i2))))), (71, .int .i64 (wr64 (0 + (wr64 ((wr64 ((wr64 (1 * (wr64 (512 - i2)))) * (wr64 (512 - i2)))) * a0_0))))), (72, .int .i64 (wr64 ((wr64 (2 * i2)) * (wr64 (512 - i2))))), (76, .pointer (some ⟨b268, 2, none⟩))]) (by kernel_rfl) ?_
  refine t_v (.ld1 rfl rfl rfl (.at 4 rfl rfl)) ?_
  refine t_qz 3 [2, 3, 5, 8, 9, 10, 11, 12, 13, 14, 15, 16] (σ' := [(2, .int .i64 i2), (3, .int .i64 512), (5, .pointer (some ⟨b266, 0, none⟩)), (8, .pointer (some ⟨b267, 0, none⟩)), (9, .slice (some ⟨b268, 0, none⟩) 3 4), (10, .int .i64 (wr64 (512 - i2))), (11, .int .i64 1), (12, .int .i64 (wr64 ((wr64 (0 + (wr64 ((wr64 ((wr64 (1 * (wr64 (512 - i2)))) * (wr64 (512 - i2)))) * a0_0)))) + (wr64 ((wr64 ((wr64 (2 * i2)) * (wr64 (512 - i2)))) * s1_1))))), (13, .int .i64 (wr64 (0 + (wr64 ((wr64 ((wr64 (1 * (wr64 (512 - i2)))) * (wr64 (512 - i2)))) * a0_1))))), (14, .slice (some ⟨b270, 0, none⟩) 3 3), (15, .int .i64 1), (16, .int .i64 (wr64 ((wr64 (2 * i2)) * (wr64 (512 - i2)))))]) (by kernel_rfl) ?_
  refine t_end ?_
  show W _ _ _ _ _ _ _
  refine w_reg fun all => ?_
  refine t_qz 6 [2, 3, 5, 8, 9, 10, 11, 12, 14, 15, 80, 81, 85] (σ' := [(2, .int .i64 i2), (3, .int .i64 512), (5, .pointer (some ⟨b266, 0, none⟩)), (8, .pointer (some ⟨b267, 0, none⟩)), (9, .slice (some ⟨b268, 0, none⟩) 3 4), (10, .int .i64 (wr64 (512 - i2))), (11, .int .i64 1), (12, .int .i64 (wr64 ((wr64 (0 + (wr64 ((wr64 ((wr64 (1 * (wr64 (512 - i2)))) * (wr64 (512 - i2)))) * a0_0)))) + (wr64 ((wr64 ((wr64 (2 * i2)) * (wr64 (512 - i2)))) * s1_1))))), (14, .slice (some ⟨b270, 0, none⟩) 3 3), (15, .int .i64 1), (80, .int .i64 (wr64 (0 + (wr64 ((wr64 ((wr64 (1 * (wr64 (512 - i2)))) * (wr64 (512 - i2)))) * a0_1))))), (81, .int .i64 (wr64 ((wr64 (2 * i2)) * (wr64 (512 - i2))))), (85, .pointer (some ⟨b268, 3, none⟩))]) (by kernel_rfl) ?_
  refine t_v (.ld1 rfl rfl rfl (.at 4 rfl rfl)) ?_
  refine t_qz 3 [2, 3, 5, 8, 9, 10, 11, 12, 13, 14, 15] (σ' := [(2, .int .i64 i2), (3, .int .i64 512), (5, .pointer (some ⟨b266, 0, none⟩)), (8, .pointer (some ⟨b267, 0, none⟩)), (9, .slice (some ⟨b268, 0, none⟩) 3 4), (10, .int .i64 (wr64 (512 - i2))), (11, .int .i64 1), (12, .int .i64 (wr64 ((wr64 (0 + (wr64 ((wr64 ((wr64 (1 * (wr64 (512 - i2)))) * (wr64 (512 - i2)))) * a0_0)))) + (wr64 ((wr64 ((wr64 (2 * i2)) * (wr64 (512 - i2)))) * s1_1))))), (13, .int .i64 (wr64 ((wr64 (0 + (wr64 ((wr64 ((wr64 (1 * (wr64 (512 - i2)))) * (wr64 (512 - i2)))) * a0_1)))) + (wr64 ((wr64 ((wr64 (2 * i2)) * (wr64 (512 - i2)))) * s1_2))))), (14, .slice (some ⟨b270, 0, none⟩) 3 3), (15, .int .i64 1)]) (by kernel_rfl) ?_
  refine t_end ?_
  show W _ _ _ _ _ _ _
  refine w_reg fun all => ?_
  refine t_qz 3 [2, 3, 5, 8, 9, 10, 11, 12, 13, 14, 15] (σ' := [(2, .int .i64 i2), (3, .int .i64 512), (5, .pointer (some ⟨b266, 0, none⟩)), (8, .pointer (some ⟨b267, 0, none⟩)), (9, .slice (some ⟨b268, 0, none⟩) 3 4), (10, .int .i64 (wr64 (512 - i2))), (11, .int .i64 1), (12, .int .i64 (wr64 ((wr64 (0 + (wr64 ((wr64 ((wr64 (1 * (wr64 (512 - i2)))) * (wr64 (512 - i2)))) * a0_0)))) + (wr64 ((wr64 ((wr64 (2 * i2)) * (wr64 (512 - i2)))) * s1_1))))), (13, .int .i64 (wr64 ((wr64 (0 + (wr64 ((wr64 ((wr64 (1 * (wr64 (512 - i2)))) * (wr64 (512 - i2)))) * a0_1)))) + (wr64 ((wr64 ((wr64 (2 * i2)) * (wr64 (512 - i2)))) * s1_2))))), (14, .slice (some ⟨b270, 0, none⟩) 3 3), (15, .int .i64 2)]) (by kernel_rfl) ?_
  refine t_end ?_
  show WL _ _ _ _ _ _ _ _
  refine wl_step ?_
  refine w_seq ?_
  refine w_seq ?_
  refine w_reg fun all => ?_
  refine t_qz 2 [2, 3, 5, 8, 9, 10, 11, 12, 13, 14, 15, 46, 47] (σ' := [(2, .int .i64 i2), (3, .int .i64 512), (5, .pointer (some ⟨b266, 0, none⟩)), (8, .pointer (some ⟨b267, 0, none⟩)), (9, .slice (some ⟨b268, 0, none⟩) 3 4), (10, .int .i64 (wr64 (512 - i2))), (11, .int .i64 1), (12, .int .i64 (wr64 ((wr64 (0 + (wr64 ((wr64 ((wr64 (1 * (wr64 (512 - i2)))) * (wr64 (512 - i2)))) * a0_0)))) + (wr64 ((wr64 ((wr64 (2 * i2)) * (wr64 (512 - i2)))) * s1_1))))), (13, .int .i64 (wr64 ((wr64 (0 + (wr64 ((wr64 ((wr64 (1 * (wr64 (512 - i2)))) * (wr64 (512 - i2)))) * a0_1)))) + (wr64 ((wr64 ((wr64 (2 * i2)) * (wr64 (512 - i2)))) * s1_2))))), (14, .slice (some ⟨b270, 0, none⟩) 3 3), (15, .int .i64 2), (46, .int .i64 2), (47, .pointer (some ⟨b266, 0, none⟩))]) (by kernel_rfl) ?_
  refine t_v (.ld1 rfl rfl rfl (.at 6 rfl rfl)) ?_
  refine t_qz 1 [2, 3, 5, 8, 9, 10, 11, 12, 13, 14, 15, 49] (σ' := [(2, .int .i64 i2), (3, .int .i64 512), (5, .pointer (some ⟨b266, 0, none⟩)), (8, .pointer (some ⟨b267, 0, none⟩)), (9, .slice (some ⟨b268, 0, none⟩) 3 4), (10, .int .i64 (wr64 (512 - i2))), (11, .int .i64 1), (12, .int .i64 (wr64 ((wr64 (0 + (wr64 ((wr64 ((wr64 (1 * (wr64 (512 - i2)))) * (wr64 (512 - i2)))) * a0_0)))) + (wr64 ((wr64 ((wr64 (2 * i2)) * (wr64 (512 - i2)))) * s1_1))))), (13, .int .i64 (wr64 ((wr64 (0 + (wr64 ((wr64 ((wr64 (1 * (wr64 (512 - i2)))) * (wr64 (512 - i2)))) * a0_1)))) + (wr64 ((wr64 ((wr64 (2 * i2)) * (wr64 (512 - i2)))) * s1_2))))), (14, .slice (some ⟨b270, 0, none⟩) 3 3), (15, .int .i64 2), (49, .bool true)]) (by kernel_rfl) ?_
  refine t_end ?_
  show W _ _ _ _ _ _ _
  refine w_cond rfl (fun _ => ?_) (fun c_ => by cases c_)
  show W _ _ _ _ _ _ _
  refine w_skip ?_
  show W _ _ _ _ _ _ _
  refine w_seq ?_
  refine w_block ?_
  refine w_seq ?_
  refine w_reg fun all => ?_
  refine t_qz 3 [2, 3, 5, 8, 9, 10, 11, 12, 13, 14, 15, 54] (σ' := [(2, .int .i64 i2), (3, .int .i64 512), (5, .pointer (some ⟨b266, 0, none⟩)), (8, .pointer (some ⟨b267, 0, none⟩)), (9, .slice (some ⟨b268, 0, none⟩) 3 4), (10, .int .i64 (wr64 (512 - i2))), (11, .int .i64 1), (12, .int .i64 (wr64 ((wr64 (0 + (wr64 ((wr64 ((wr64 (1 * (wr64 (512 - i2)))) * (wr64 (512 - i2)))) * a0_0)))) + (wr64 ((wr64 ((wr64 (2 * i2)) * (wr64 (512 - i2)))) * s1_1))))), (13, .int .i64 (wr64 ((wr64 (0 + (wr64 ((wr64 ((wr64 (1 * (wr64 (512 - i2)))) * (wr64 (512 - i2)))) * a0_1)))) + (wr64 ((wr64 ((wr64 (2 * i2)) * (wr64 (512 - i2)))) * s1_2))))), (14, .slice (some ⟨b270, 0, none⟩) 3 3), (15, .int .i64 2), (54, .pointer (some ⟨b270, 2, none⟩))]) (by kernel_rfl) ?_
  refine t_v (.ld1 rfl rfl rfl (.at 2 rfl rfl)) ?_
  refine t_qz 1 [2, 3, 5, 8, 9, 10, 11, 12, 13, 14, 15, 16] (σ' := [(2, .int .i64 i2), (3, .int .i64 512), (5, .pointer (some ⟨b266, 0, none⟩)), (8, .pointer (some ⟨b267, 0, none⟩)), (9, .slice (some ⟨b268, 0, none⟩) 3 4), (10, .int .i64 (wr64 (512 - i2))), (11, .int .i64 1), (12, .int .i64 (wr64 ((wr64 (0 + (wr64 ((wr64 ((wr64 (1 * (wr64 (512 - i2)))) * (wr64 (512 - i2)))) * a0_0)))) + (wr64 ((wr64 ((wr64 (2 * i2)) * (wr64 (512 - i2)))) * s1_1))))), (13, .int .i64 (wr64 ((wr64 (0 + (wr64 ((wr64 ((wr64 (1 * (wr64 (512 - i2)))) * (wr64 (512 - i2)))) * a0_1)))) + (wr64 ((wr64 ((wr64 (2 * i2)) * (wr64 (512 - i2)))) * s1_2))))), (14, .slice (some ⟨b270, 0, none⟩) 3 3), (15, .int .i64 2), (16, .int .i64 1)]) (by kernel_rfl) ?_
  refine t_end ?_
  show W _ _ _ _ _ _ _
  refine w_seq ?_
  refine w_seq ?_
  refine w_reg fun all => ?_
  refine t_qz 1 [2, 3, 5, 8, 9, 10, 11, 12, 13, 14, 15, 16, 17] (σ' := [(2, .int .i64 i2), (3, .int .i64 512), (5, .pointer (some ⟨b266, 0, none⟩)), (8, .pointer (some ⟨b267, 0, none⟩)), (9, .slice (some ⟨b268, 0, none⟩) 3 4), (10, .int .i64 (wr64 (512 - i2))), (11, .int .i64 1), (12, .int .i64 (wr64 ((wr64 (0 + (wr64 ((wr64 ((wr64 (1 * (wr64 (512 - i2)))) * (wr64 (512 - i2)))) * a0_0)))) + (wr64 ((wr64 ((wr64 (2 * i2)) * (wr64 (512 - i2)))) * s1_1))))), (13, .int .i64 (wr64 ((wr64 (0 + (wr64 ((wr64 ((wr64 (1 * (wr64 (512 - i2)))) * (wr64 (512 - i2)))) * a0_1)))) + (wr64 ((wr64 ((wr64 (2 * i2)) * (wr64 (512 - i2)))) * s1_2))))), (14, .slice (some ⟨b270, 0, none⟩) 3 3), (15, .int .i64 2), (16, .int .i64 1), (17, .int .i64 0)]) (by kernel_rfl) ?_
  refine t_end ?_
  show W _ _ _ _ _ _ _
  refine w_block ?_
  refine w_lun 10 ?_
  refine wl_step ?_
  refine w_seq ?_
  refine w_seq ?_
  refine w_reg fun all => ?_
  refine t_qz 2 [2, 3, 5, 8, 9, 10, 11, 12, 13, 14, 15, 16, 17, 56, 57] (σ' := [(2, .int .i64 i2), (3, .int .i64 512), (5, .pointer (some ⟨b266, 0, none⟩)), (8, .pointer (some ⟨b267, 0, none⟩)), (9, .slice (some ⟨b268, 0, none⟩) 3 4), (10, .int .i64 (wr64 (512 - i2))), (11, .int .i64 1), (12, .int .i64 (wr64 ((wr64 (0 + (wr64 ((wr64 ((wr64 (1 * (wr64 (512 - i2)))) * (wr64 (512 - i2)))) * a0_0)))) + (wr64 ((wr64 ((wr64 (2 * i2)) * (wr64 (512 - i2)))) * s1_1))))), (13, .int .i64 (wr64 ((wr64 (0 + (wr64 ((wr64 ((wr64 (1 * (wr64 (512 - i2)))) * (wr64 (512 - i2)))) * a0_1)))) + (wr64 ((wr64 ((wr64 (2 * i2)) * (wr64 (512 - i2)))) * s1_2))))), (14, .slice (some ⟨b270, 0, none⟩) 3 3), (15, .int .i64 2), (16, .int .i64 1), (17, .int .i64 0), (56, .int .i64 0), (57, .pointer (some ⟨b266, 0, none⟩))]) (by kernel_rfl) ?_
  refine t_v (.ld1 rfl rfl rfl (.at 6 rfl rfl)) ?_
  refine t_qz 1 [2, 3, 5, 8, 9, 10, 11, 12, 13, 14, 15, 16, 17, 59] (σ' := [(2, .int .i64 i2), (3, .int .i64 512), (5, .pointer (some ⟨b266, 0, none⟩)), (8, .pointer (some ⟨b267, 0, none⟩)), (9, .slice (some ⟨b268, 0, none⟩) 3 4), (10, .int .i64 (wr64 (512 - i2))), (11, .int .i64 1), (12, .int .i64 (wr64 ((wr64 (0 + (wr64 ((wr64 ((wr64 (1 * (wr64 (512 - i2)))) * (wr64 (512 - i2)))) * a0_0)))) + (wr64 ((wr64 ((wr64 (2 * i2)) * (wr64 (512 - i2)))) * s1_1))))), (13, .int .i64 (wr64 ((wr64 (0 + (wr64 ((wr64 ((wr64 (1 * (wr64 (512 - i2)))) * (wr64 (512 - i2)))) * a0_1)))) + (wr64 ((wr64 ((wr64 (2 * i2)) * (wr64 (512 - i2)))) * s1_2))))), (14, .slice (some ⟨b270, 0, none⟩) 3 3), (15, .int .i64 2), (16, .int .i64 1), (17, .int .i64 0), (59, .bool true)]) (by kernel_rfl) ?_
  refine t_end ?_
  show W _ _ _ _ _ _ _
  refine w_cond rfl (fun _ => ?_) (fun c_ => by cases c_)
  show W _ _ _ _ _ _ _
  refine w_skip ?_
  show W _ _ _ _ _ _ _
  refine w_seq ?_
  refine w_block ?_
  refine w_seq ?_
  refine w_reg fun all => ?_
  refine t_qz 3 [2, 3, 5, 8, 9, 10, 11, 12, 13, 14, 15, 16, 17, 64] (σ' := [(2, .int .i64 i2), (3, .int .i64 512), (5, .pointer (some ⟨b266, 0, none⟩)), (8, .pointer (some ⟨b267, 0, none⟩)), (9, .slice (some ⟨b268, 0, none⟩) 3 4), (10, .int .i64 (wr64 (512 - i2))), (11, .int .i64 1), (12, .int .i64 (wr64 ((wr64 (0 + (wr64 ((wr64 ((wr64 (1 * (wr64 (512 - i2)))) * (wr64 (512 - i2)))) * a0_0)))) + (wr64 ((wr64 ((wr64 (2 * i2)) * (wr64 (512 - i2)))) * s1_1))))), (13, .int .i64 (wr64 ((wr64 (0 + (wr64 ((wr64 ((wr64 (1 * (wr64 (512 - i2)))) * (wr64 (512 - i2)))) * a0_1)))) + (wr64 ((wr64 ((wr64 (2 * i2)) * (wr64 (512 - i2)))) * s1_2))))), (14, .slice (some ⟨b270, 0, none⟩) 3 3), (15, .int .i64 2), (16, .int .i64 1), (17, .int .i64 0), (64, .bool true)]) (by kernel_rfl) ?_
  refine t_end ?_
  show W _ _ _ _ _ _ _
  refine w_cond rfl (fun _ => ?_) (fun c_ => by cases c_)
  show W _ _ _ _ _ _ _
  refine w_reg fun all => ?_
  refine t_qz 4 [2, 3, 5, 8, 9, 10, 11, 12, 13, 14, 15, 16, 17] (σ' := [(2, .int .i64 i2), (3, .int .i64 512), (5, .pointer (some ⟨b266, 0, none⟩)), (8, .pointer (some ⟨b267, 0, none⟩)), (9, .slice (some ⟨b268, 0, none⟩) 3 4), (10, .int .i64 (wr64 (512 - i2))), (11, .int .i64 1), (12, .int .i64 (wr64 ((wr64 (0 + (wr64 ((wr64 ((wr64 (1 * (wr64 (512 - i2)))) * (wr64 (512 - i2)))) * a0_0)))) + (wr64 ((wr64 ((wr64 (2 * i2)) * (wr64 (512 - i2)))) * s1_1))))), (13, .int .i64 (wr64 ((wr64 (0 + (wr64 ((wr64 ((wr64 (1 * (wr64 (512 - i2)))) * (wr64 (512 - i2)))) * a0_1)))) + (wr64 ((wr64 ((wr64 (2 * i2)) * (wr64 (512 - i2)))) * s1_2))))), (14, .slice (some ⟨b270, 0, none⟩) 3 3), (15, .int .i64 2), (16, .int .i64 (wr64 (1 * i2))), (17, .int .i64 0)]) (by kernel_rfl) ?_
  refine t_end ?_
  show W _ _ _ _ _ _ _
  refine w_reg fun all => ?_
  refine t_qz 3 [2, 3, 5, 8, 9, 10, 11, 12, 13, 14, 15, 16, 17] (σ' := [(2, .int .i64 i2), (3, .int .i64 512), (5, .pointer (some ⟨b266, 0, none⟩)), (8, .pointer (some ⟨b267, 0, none⟩)), (9, .slice (some ⟨b268, 0, none⟩) 3 4), (10, .int .i64 (wr64 (512 - i2))), (11, .int .i64 1), (12, .int .i64 (wr64 ((wr64 (0 + (wr64 ((wr64 ((wr64 (1 * (wr64 (512 - i2)))) * (wr64 (512 - i2)))) * a0_0)))) + (wr64 ((wr64 ((wr64 (2 * i2)) * (wr64 (512 - i2)))) * s1_1))))), (13, .int .i64 (wr64 ((wr64 (0 + (wr64 ((wr64 ((wr64 (1 * (wr64 (512 - i2)))) * (wr64 (512 - i2)))) * a0_1)))) + (wr64 ((wr64 ((wr64 (2 * i2)) * (wr64 (512 - i2)))) * s1_2))))), (14, .slice (some ⟨b270, 0, none⟩) 3 3), (15, .int .i64 2), (16, .int .i64 (wr64 (1 * i2))), (17, .int .i64 1)]) (by kernel_rfl) ?_
  refine t_end ?_
  show WL _ _ _ _ _ _ _ _
  refine wl_step ?_
  refine w_seq ?_
  refine w_seq ?_
  refine w_reg fun all => ?_
  refine t_qz 2 [2, 3, 5, 8, 9, 10, 11, 12, 13, 14, 15, 16, 17, 56, 57] (σ' := [(2, .int .i64 i2), (3, .int .i64 512), (5, .pointer (some ⟨b266, 0, none⟩)), (8, .pointer (some ⟨b267, 0, none⟩)), (9, .slice (some ⟨b268, 0, none⟩) 3 4), (10, .int .i64 (wr64 (512 - i2))), (11, .int .i64 1), (12, .int .i64 (wr64 ((wr64 (0 + (wr64 ((wr64 ((wr64 (1 * (wr64 (512 - i2)))) * (wr64 (512 - i2)))) * a0_0)))) + (wr64 ((wr64 ((wr64 (2 * i2)) * (wr64 (512 - i2)))) * s1_1))))), (13, .int .i64 (wr64 ((wr64 (0 + (wr64 ((wr64 ((wr64 (1 * (wr64 (512 - i2)))) * (wr64 (512 - i2)))) * a0_1)))) + (wr64 ((wr64 ((wr64 (2 * i2)) * (wr64 (512 - i2)))) * s1_2))))), (14, .slice (some ⟨b270, 0, none⟩) 3 3), (15, .int .i64 2), (16, .int .i64 (wr64 (1 * i2))), (17, .int .i64 1), (56, .int .i64 1), (57, .pointer (some ⟨b266, 0, none⟩))]) (by kernel_rfl) ?_
  refine t_v (.ld1 rfl rfl rfl (.at 6 rfl rfl)) ?_
  refine t_qz 1 [2, 3, 5, 8, 9, 10, 11, 12, 13, 14, 15, 16, 17, 59] (σ' := [(2, .int .i64 i2), (3, .int .i64 512), (5, .pointer (some ⟨b266, 0, none⟩)), (8, .pointer (some ⟨b267, 0, none⟩)), (9, .slice (some ⟨b268, 0, none⟩) 3 4), (10, .int .i64 (wr64 (512 - i2))), (11, .int .i64 1), (12, .int .i64 (wr64 ((wr64 (0 + (wr64 ((wr64 ((wr64 (1 * (wr64 (512 - i2)))) * (wr64 (512 - i2)))) * a0_0)))) + (wr64 ((wr64 ((wr64 (2 * i2)) * (wr64 (512 - i2)))) * s1_1))))), (13, .int .i64 (wr64 ((wr64 (0 + (wr64 ((wr64 ((wr64 (1 * (wr64 (512 - i2)))) * (wr64 (512 - i2)))) * a0_1)))) + (wr64 ((wr64 ((wr64 (2 * i2)) * (wr64 (512 - i2)))) * s1_2))))), (14, .slice (some ⟨b270, 0, none⟩) 3 3), (15, .int .i64 2), (16, .int .i64 (wr64 (1 * i2))), (17, .int .i64 1), (59, .bool true)]) (by kernel_rfl) ?_
  refine t_end ?_
  show W _ _ _ _ _ _ _
  refine w_cond rfl (fun _ => ?_) (fun c_ => by cases c_)
  show W _ _ _ _ _ _ _
  refine w_skip ?_
  show W _ _ _ _ _ _ _
  refine w_seq ?_
  refine w_block ?_
  refine w_seq ?_
  refine w_reg fun all => ?_
  refine t_qz 3 [2, 3, 5, 8, 9, 10, 11, 12, 13, 14, 15, 16, 17, 64] (σ' := [(2, .int .i64 i2), (3, .int .i64 512), (5, .pointer (some ⟨b266, 0, none⟩)), (8, .pointer (some ⟨b267, 0, none⟩)), (9, .slice (some ⟨b268, 0, none⟩) 3 4), (10, .int .i64 (wr64 (512 - i2))), (11, .int .i64 1), (12, .int .i64 (wr64 ((wr64 (0 + (wr64 ((wr64 ((wr64 (1 * (wr64 (512 - i2)))) * (wr64 (512 - i2)))) * a0_0)))) + (wr64 ((wr64 ((wr64 (2 * i2)) * (wr64 (512 - i2)))) * s1_1))))), (13, .int .i64 (wr64 ((wr64 (0 + (wr64 ((wr64 ((wr64 (1 * (wr64 (512 - i2)))) * (wr64 (512 - i2)))) * a0_1)))) + (wr64 ((wr64 ((wr64 (2 * i2)) * (wr64 (512 - i2)))) * s1_2))))), (14, .slice (some ⟨b270, 0, none⟩) 3 3), (15, .int .i64 2), (16, .int .i64 (wr64 (1 * i2))), (17, .int .i64 1), (64, .bool true)]) (by kernel_rfl) ?_
  refine t_end ?_
  show W _ _ _ _ _ _ _
  refine w_cond rfl (fun _ => ?_) (fun c_ => by cases c_)
  show W _ _ _ _ _ _ _
  refine w_reg fun all => ?_
  refine t_qz 4 [2, 3, 5, 8, 9, 10, 11, 12, 13, 14, 15, 16, 17] (σ' := [(2, .int .i64 i2), (3, .int .i64 512), (5, .pointer (some ⟨b266, 0, none⟩)), (8, .pointer (some ⟨b267, 0, none⟩)), (9, .slice (some ⟨b268, 0, none⟩) 3 4), (10, .int .i64 (wr64 (512 - i2))), (11, .int .i64 1), (12, .int .i64 (wr64 ((wr64 (0 + (wr64 ((wr64 ((wr64 (1 * (wr64 (512 - i2)))) * (wr64 (512 - i2)))) * a0_0)))) + (wr64 ((wr64 ((wr64 (2 * i2)) * (wr64 (512 - i2)))) * s1_1))))), (13, .int .i64 (wr64 ((wr64 (0 + (wr64 ((wr64 ((wr64 (1 * (wr64 (512 - i2)))) * (wr64 (512 - i2)))) * a0_1)))) + (wr64 ((wr64 ((wr64 (2 * i2)) * (wr64 (512 - i2)))) * s1_2))))), (14, .slice (some ⟨b270, 0, none⟩) 3 3), (15, .int .i64 2), (16, .int .i64 (wr64 ((wr64 (1 * i2)) * i2))), (17, .int .i64 1)]) (by kernel_rfl) ?_
  refine t_end ?_
  show W _ _ _ _ _ _ _
  refine w_reg fun all => ?_
  refine t_qz 3 [2, 3, 5, 8, 9, 10, 11, 12, 13, 14, 15, 16, 17] (σ' := [(2, .int .i64 i2), (3, .int .i64 512), (5, .pointer (some ⟨b266, 0, none⟩)), (8, .pointer (some ⟨b267, 0, none⟩)), (9, .slice (some ⟨b268, 0, none⟩) 3 4), (10, .int .i64 (wr64 (512 - i2))), (11, .int .i64 1), (12, .int .i64 (wr64 ((wr64 (0 + (wr64 ((wr64 ((wr64 (1 * (wr64 (512 - i2)))) * (wr64 (512 - i2)))) * a0_0)))) + (wr64 ((wr64 ((wr64 (2 * i2)) * (wr64 (512 - i2)))) * s1_1))))), (13, .int .i64 (wr64 ((wr64 (0 + (wr64 ((wr64 ((wr64 (1 * (wr64 (512 - i2)))) * (wr64 (512 - i2)))) * a0_1)))) + (wr64 ((wr64 ((wr64 (2 * i2)) * (wr64 (512 - i2)))) * s1_2))))), (14, .slice (some ⟨b270, 0, none⟩) 3 3), (15, .int .i64 2), (16, .int .i64 (wr64 ((wr64 (1 * i2)) * i2))), (17, .int .i64 2)]) (by kernel_rfl) ?_
  refine t_end ?_
  show WL _ _ _ _ _ _ _ _
  refine wl_step ?_
  refine w_seq ?_
  refine w_seq ?_
  refine w_reg fun all => ?_
  refine t_qz 2 [2, 3, 5, 8, 9, 10, 11, 12, 13, 14, 15, 16, 17, 56, 57] (σ' := [(2, .int .i64 i2), (3, .int .i64 512), (5, .pointer (some ⟨b266, 0, none⟩)), (8, .pointer (some ⟨b267, 0, none⟩)), (9, .slice (some ⟨b268, 0, none⟩) 3 4), (10, .int .i64 (wr64 (512 - i2))), (11, .int .i64 1), (12, .int .i64 (wr64 ((wr64 (0 + (wr64 ((wr64 ((wr64 (1 * (wr64 (512 - i2)))) * (wr64 (512 - i2)))) * a0_0)))) + (wr64 ((wr64 ((wr64 (2 * i2)) * (wr64 (512 - i2)))) * s1_1))))), (13, .int .i64 (wr64 ((wr64 (0 + (wr64 ((wr64 ((wr64 (1 * (wr64 (512 - i2)))) * (wr64 (512 - i2)))) * a0_1)))) + (wr64 ((wr64 ((wr64 (2 * i2)) * (wr64 (512 - i2)))) * s1_2))))), (14, .slice (some ⟨b270, 0, none⟩) 3 3), (15, .int .i64 2), (16, .int .i64 (wr64 ((wr64 (1 * i2)) * i2))), (17, .int .i64 2), (56, .int .i64 2), (57, .pointer (some ⟨b266, 0, none⟩))]) (by kernel_rfl) ?_
  refine t_v (.ld1 rfl rfl rfl (.at 6 rfl rfl)) ?_
  refine t_qz 1 [2, 3, 5, 8, 9, 10, 11, 12, 13, 14, 15, 16, 17, 59] (σ' := [(2, .int .i64 i2), (3, .int .i64 512), (5, .pointer (some ⟨b266, 0, none⟩)), (8, .pointer (some ⟨b267, 0, none⟩)), (9, .slice (some ⟨b268, 0, none⟩) 3 4), (10, .int .i64 (wr64 (512 - i2))), (11, .int .i64 1), (12, .int .i64 (wr64 ((wr64 (0 + (wr64 ((wr64 ((wr64 (1 * (wr64 (512 - i2)))) * (wr64 (512 - i2)))) * a0_0)))) + (wr64 ((wr64 ((wr64 (2 * i2)) * (wr64 (512 - i2)))) * s1_1))))), (13, .int .i64 (wr64 ((wr64 (0 + (wr64 ((wr64 ((wr64 (1 * (wr64 (512 - i2)))) * (wr64 (512 - i2)))) * a0_1)))) + (wr64 ((wr64 ((wr64 (2 * i2)) * (wr64 (512 - i2)))) * s1_2))))), (14, .slice (some ⟨b270, 0, none⟩) 3 3), (15, .int .i64 2), (16, .int .i64 (wr64 ((wr64 (1 * i2)) * i2))), (17, .int .i64 2), (59, .bool false)]) (by kernel_rfl) ?_
  refine t_end ?_
  show W _ _ _ _ _ _ _
  refine w_cond rfl (fun c_ => by cases c_) (fun _ => ?_)
  show W _ _ _ _ _ _ _
  refine w_exit ?_
  show W _ _ _ _ _ _ _
  refine w_seq ?_
  refine w_reg fun all => ?_
  refine t_qz 6 [2, 3, 5, 8, 9, 10, 11, 13, 14, 15, 16, 71, 72, 76] (σ' := [(2, .int .i64 i2), (3, .int .i64 512), (5, .pointer (some ⟨b266, 0, none⟩)), (8, .pointer (some ⟨b267, 0, none⟩)), (9, .slice (some ⟨b268, 0, none⟩) 3 4), (10, .int .i64 (wr64 (512 - i2))), (11, .int .i64 1), (13, .int .i64 (wr64 ((wr64 (0 + (wr64 ((wr64 ((wr64 (1 * (wr64 (512 - i2)))) * (wr64 (512 - i2)))) * a0_1)))) + (wr64 ((wr64 ((wr64 (2 * i2)) * (wr64 (512 - i2)))) * s1_2))))), (14, .slice (some ⟨b270, 0, none⟩) 3 3), (15, .int .i64 2), (16, .int .i64 (wr64 ((wr64 (1 * i2)) * i2))), (71, .int .i64 (wr64 ((wr64 (0 + (wr64 ((wr64 ((wr64 (1 * (wr64 (512 - i2)))) * (wr64 (512 - i2)))) * a0_0)))) + (wr64 ((wr64 ((wr64 (2 * i2)) * (wr64 (512 - i2)))) * s1_1))))), (72, .int .i64 (wr64 ((wr64 (1 * i2)) * i2))), (76, .pointer (some ⟨b268, 4, none⟩))]) (by kernel_rfl) ?_
  refine t_v (.ld1 rfl rfl rfl (.at 4 rfl rfl)) ?_
  refine t_qz 3 [2, 3, 5, 8, 9, 10, 11, 12, 13, 14, 15, 16] (σ' := [(2, .int .i64 i2), (3, .int .i64 512), (5, .pointer (some ⟨b266, 0, none⟩)), (8, .pointer (some ⟨b267, 0, none⟩)), (9, .slice (some ⟨b268, 0, none⟩) 3 4), (10, .int .i64 (wr64 (512 - i2))), (11, .int .i64 1), (12, .int .i64 (wr64 ((wr64 ((wr64 (0 + (wr64 ((wr64 ((wr64 (1 * (wr64 (512 - i2)))) * (wr64 (512 - i2)))) * a0_0)))) + (wr64 ((wr64 ((wr64 (2 * i2)) * (wr64 (512 - i2)))) * s1_1)))) + (wr64 ((wr64 ((wr64 (1 * i2)) * i2)) * s1_3))))), (13, .int .i64 (wr64 ((wr64 (0 + (wr64 ((wr64 ((wr64 (1 * (wr64 (512 - i2)))) * (wr64 (512 - i2)))) * a0_1)))) + (wr64 ((wr64 ((wr64 (2 * i2)) * (wr64 (512 - i2)))) * s1_2))))), (14, .slice (some ⟨b270, 0, none⟩) 3 3), (15, .int .i64 2), (16, .int .i64 (wr64 ((wr64 (1 * i2)) * i2)))]) (by kernel_rfl) ?_
  refine t_end ?_
  show W _ _ _ _ _ _ _
  refine w_reg fun all => ?_
  refine t_qz 6 [2, 3, 5, 8, 9, 10, 11, 12, 14, 15, 80, 81, 85] (σ' := [(2, .int .i64 i2), (3, .int .i64 512), (5, .pointer (some ⟨b266, 0, none⟩)), (8, .pointer (some ⟨b267, 0, none⟩)), (9, .slice (some ⟨b268, 0, none⟩) 3 4), (10, .int .i64 (wr64 (512 - i2))), (11, .int .i64 1), (12, .int .i64 (wr64 ((wr64 ((wr64 (0 + (wr64 ((wr64 ((wr64 (1 * (wr64 (512 - i2)))) * (wr64 (512 - i2)))) * a0_0)))) + (wr64 ((wr64 ((wr64 (2 * i2)) * (wr64 (512 - i2)))) * s1_1)))) + (wr64 ((wr64 ((wr64 (1 * i2)) * i2)) * s1_3))))), (14, .slice (some ⟨b270, 0, none⟩) 3 3), (15, .int .i64 2), (80, .int .i64 (wr64 ((wr64 (0 + (wr64 ((wr64 ((wr64 (1 * (wr64 (512 - i2)))) * (wr64 (512 - i2)))) * a0_1)))) + (wr64 ((wr64 ((wr64 (2 * i2)) * (wr64 (512 - i2)))) * s1_2))))), (81, .int .i64 (wr64 ((wr64 (1 * i2)) * i2))), (85, .pointer (some ⟨b268, 5, none⟩))]) (by kernel_rfl) ?_
  refine t_v (.ld1 rfl rfl rfl (.at 4 rfl rfl)) ?_
  refine t_qz 3 [2, 3, 5, 8, 9, 10, 11, 12, 13, 14, 15] (σ' := [(2, .int .i64 i2), (3, .int .i64 512), (5, .pointer (some ⟨b266, 0, none⟩)), (8, .pointer (some ⟨b267, 0, none⟩)), (9, .slice (some ⟨b268, 0, none⟩) 3 4), (10, .int .i64 (wr64 (512 - i2))), (11, .int .i64 1), (12, .int .i64 (wr64 ((wr64 ((wr64 (0 + (wr64 ((wr64 ((wr64 (1 * (wr64 (512 - i2)))) * (wr64 (512 - i2)))) * a0_0)))) + (wr64 ((wr64 ((wr64 (2 * i2)) * (wr64 (512 - i2)))) * s1_1)))) + (wr64 ((wr64 ((wr64 (1 * i2)) * i2)) * s1_3))))), (13, .int .i64 (wr64 ((wr64 ((wr64 (0 + (wr64 ((wr64 ((wr64 (1 * (wr64 (512 - i2)))) * (wr64 (512 - i2)))) * a0_1)))) + (wr64 ((wr64 ((wr64 (2 * i2)) * (wr64 (512 - i2)))) * s1_2)))) + (wr64 ((wr64 ((wr64 (1 * i2)) * i2)) * s1_4))))), (14, .slice (some ⟨b270, 0, none⟩) 3 3), (15, .int .i64 2)]) (by kernel_rfl) ?_
  refine t_end ?_
  show W _ _ _ _ _ _ _
  refine w_reg fun all => ?_
  refine t_qz 3 [2, 3, 5, 8, 9, 10, 11, 12, 13, 14, 15] (σ' := [(2, .int .i64 i2), (3, .int .i64 512), (5, .pointer (some ⟨b266, 0, none⟩)), (8, .pointer (some ⟨b267, 0, none⟩)), (9, .slice (some ⟨b268, 0, none⟩) 3 4), (10, .int .i64 (wr64 (512 - i2))), (11, .int .i64 1), (12, .int .i64 (wr64 ((wr64 ((wr64 (0 + (wr64 ((wr64 ((wr64 (1 * (wr64 (512 - i2)))) * (wr64 (512 - i2)))) * a0_0)))) + (wr64 ((wr64 ((wr64 (2 * i2)) * (wr64 (512 - i2)))) * s1_1)))) + (wr64 ((wr64 ((wr64 (1 * i2)) * i2)) * s1_3))))), (13, .int .i64 (wr64 ((wr64 ((wr64 (0 + (wr64 ((wr64 ((wr64 (1 * (wr64 (512 - i2)))) * (wr64 (512 - i2)))) * a0_1)))) + (wr64 ((wr64 ((wr64 (2 * i2)) * (wr64 (512 - i2)))) * s1_2)))) + (wr64 ((wr64 ((wr64 (1 * i2)) * i2)) * s1_4))))), (14, .slice (some ⟨b270, 0, none⟩) 3 3), (15, .int .i64 3)]) (by kernel_rfl) ?_
  refine t_end ?_
  show WL _ _ _ _ _ _ _ _
  refine wl_step ?_
  refine w_seq ?_
  refine w_seq ?_
  refine w_reg fun all => ?_
  refine t_qz 2 [2, 3, 5, 8, 9, 10, 11, 12, 13, 14, 15, 46, 47] (σ' := [(2, .int .i64 i2), (3, .int .i64 512), (5, .pointer (some ⟨b266, 0, none⟩)), (8, .pointer (some ⟨b267, 0, none⟩)), (9, .slice (some ⟨b268, 0, none⟩) 3 4), (10, .int .i64 (wr64 (512 - i2))), (11, .int .i64 1), (12, .int .i64 (wr64 ((wr64 ((wr64 (0 + (wr64 ((wr64 ((wr64 (1 * (wr64 (512 - i2)))) * (wr64 (512 - i2)))) * a0_0)))) + (wr64 ((wr64 ((wr64 (2 * i2)) * (wr64 (512 - i2)))) * s1_1)))) + (wr64 ((wr64 ((wr64 (1 * i2)) * i2)) * s1_3))))), (13, .int .i64 (wr64 ((wr64 ((wr64 (0 + (wr64 ((wr64 ((wr64 (1 * (wr64 (512 - i2)))) * (wr64 (512 - i2)))) * a0_1)))) + (wr64 ((wr64 ((wr64 (2 * i2)) * (wr64 (512 - i2)))) * s1_2)))) + (wr64 ((wr64 ((wr64 (1 * i2)) * i2)) * s1_4))))), (14, .slice (some ⟨b270, 0, none⟩) 3 3), (15, .int .i64 3), (46, .int .i64 3), (47, .pointer (some ⟨b266, 0, none⟩))]) (by kernel_rfl) ?_
  refine t_v (.ld1 rfl rfl rfl (.at 6 rfl rfl)) ?_
  refine t_qz 1 [2, 3, 5, 8, 9, 10, 11, 12, 13, 14, 15, 49] (σ' := [(2, .int .i64 i2), (3, .int .i64 512), (5, .pointer (some ⟨b266, 0, none⟩)), (8, .pointer (some ⟨b267, 0, none⟩)), (9, .slice (some ⟨b268, 0, none⟩) 3 4), (10, .int .i64 (wr64 (512 - i2))), (11, .int .i64 1), (12, .int .i64 (wr64 ((wr64 ((wr64 (0 + (wr64 ((wr64 ((wr64 (1 * (wr64 (512 - i2)))) * (wr64 (512 - i2)))) * a0_0)))) + (wr64 ((wr64 ((wr64 (2 * i2)) * (wr64 (512 - i2)))) * s1_1)))) + (wr64 ((wr64 ((wr64 (1 * i2)) * i2)) * s1_3))))), (13, .int .i64 (wr64 ((wr64 ((wr64 (0 + (wr64 ((wr64 ((wr64 (1 * (wr64 (512 - i2)))) * (wr64 (512 - i2)))) * a0_1)))) + (wr64 ((wr64 ((wr64 (2 * i2)) * (wr64 (512 - i2)))) * s1_2)))) + (wr64 ((wr64 ((wr64 (1 * i2)) * i2)) * s1_4))))), (14, .slice (some ⟨b270, 0, none⟩) 3 3), (15, .int .i64 3), (49, .bool false)]) (by kernel_rfl) ?_
  refine t_end ?_
  show W _ _ _ _ _ _ _
  refine w_cond rfl (fun c_ => by cases c_) (fun _ => ?_)
  show W _ _ _ _ _ _ _
  refine w_exit ?_
  show W _ _ _ _ _ _ _
  refine w_seq ?_
  refine w_seq ?_
  refine w_reg fun all => ?_
  refine t_qz 1 [3, 5, 8, 11, 12, 13, 18] (σ' := [(3, .int .i64 512), (5, .pointer (some ⟨b266, 0, none⟩)), (8, .pointer (some ⟨b267, 0, none⟩)), (11, .int .i64 1), (12, .int .i64 (wr64 ((wr64 ((wr64 (0 + (wr64 ((wr64 ((wr64 (1 * (wr64 (512 - i2)))) * (wr64 (512 - i2)))) * a0_0)))) + (wr64 ((wr64 ((wr64 (2 * i2)) * (wr64 (512 - i2)))) * s1_1)))) + (wr64 ((wr64 ((wr64 (1 * i2)) * i2)) * s1_3))))), (13, .int .i64 (wr64 ((wr64 ((wr64 (0 + (wr64 ((wr64 ((wr64 (1 * (wr64 (512 - i2)))) * (wr64 (512 - i2)))) * a0_1)))) + (wr64 ((wr64 ((wr64 (2 * i2)) * (wr64 (512 - i2)))) * s1_2)))) + (wr64 ((wr64 ((wr64 (1 * i2)) * i2)) * s1_4))))), (18, .int .i64 0)]) (by kernel_rfl) ?_
  refine t_end ?_
  show W _ _ _ _ _ _ _
  refine w_block ?_
  refine w_lun 10 ?_
  refine wl_step ?_
  refine w_seq ?_
  refine w_seq ?_
  refine w_reg fun all => ?_
  refine t_qz 2 [3, 5, 8, 11, 12, 13, 18, 89, 90] (σ' := [(3, .int .i64 512), (5, .pointer (some ⟨b266, 0, none⟩)), (8, .pointer (some ⟨b267, 0, none⟩)), (11, .int .i64 1), (12, .int .i64 (wr64 ((wr64 ((wr64 (0 + (wr64 ((wr64 ((wr64 (1 * (wr64 (512 - i2)))) * (wr64 (512 - i2)))) * a0_0)))) + (wr64 ((wr64 ((wr64 (2 * i2)) * (wr64 (512 - i2)))) * s1_1)))) + (wr64 ((wr64 ((wr64 (1 * i2)) * i2)) * s1_3))))), (13, .int .i64 (wr64 ((wr64 ((wr64 (0 + (wr64 ((wr64 ((wr64 (1 * (wr64 (512 - i2)))) * (wr64 (512 - i2)))) * a0_1)))) + (wr64 ((wr64 ((wr64 (2 * i2)) * (wr64 (512 - i2)))) * s1_2)))) + (wr64 ((wr64 ((wr64 (1 * i2)) * i2)) * s1_4))))), (18, .int .i64 0), (89, .int .i64 0), (90, .pointer (some ⟨b266, 0, none⟩))]) (by kernel_rfl) ?_
  refine t_v (.ld1 rfl rfl rfl (.at 6 rfl rfl)) ?_
  refine t_qz 1 [3, 5, 8, 11, 12, 13, 18, 92] (σ' := [(3, .int .i64 512), (5, .pointer (some ⟨b266, 0, none⟩)), (8, .pointer (some ⟨b267, 0, none⟩)), (11, .int .i64 1), (12, .int .i64 (wr64 ((wr64 ((wr64 (0 + (wr64 ((wr64 ((wr64 (1 * (wr64 (512 - i2)))) * (wr64 (512 - i2)))) * a0_0)))) + (wr64 ((wr64 ((wr64 (2 * i2)) * (wr64 (512 - i2)))) * s1_1)))) + (wr64 ((wr64 ((wr64 (1 * i2)) * i2)) * s1_3))))), (13, .int .i64 (wr64 ((wr64 ((wr64 (0 + (wr64 ((wr64 ((wr64 (1 * (wr64 (512 - i2)))) * (wr64 (512 - i2)))) * a0_1)))) + (wr64 ((wr64 ((wr64 (2 * i2)) * (wr64 (512 - i2)))) * s1_2)))) + (wr64 ((wr64 ((wr64 (1 * i2)) * i2)) * s1_4))))), (18, .int .i64 0), (92, .bool true)]) (by kernel_rfl) ?_
  refine t_end ?_
  show W _ _ _ _ _ _ _
  refine w_cond rfl (fun _ => ?_) (fun c_ => by cases c_)
  show W _ _ _ _ _ _ _
  refine w_skip ?_
  show W _ _ _ _ _ _ _
  refine w_seq ?_
  refine w_block ?_
  refine w_reg fun all => ?_
  refine t_qz 4 [3, 5, 8, 11, 12, 13, 18] (σ' := [(3, .int .i64 512), (5, .pointer (some ⟨b266, 0, none⟩)), (8, .pointer (some ⟨b267, 0, none⟩)), (11, .int .i64 512), (12, .int .i64 (wr64 ((wr64 ((wr64 (0 + (wr64 ((wr64 ((wr64 (1 * (wr64 (512 - i2)))) * (wr64 (512 - i2)))) * a0_0)))) + (wr64 ((wr64 ((wr64 (2 * i2)) * (wr64 (512 - i2)))) * s1_1)))) + (wr64 ((wr64 ((wr64 (1 * i2)) * i2)) * s1_3))))), (13, .int .i64 (wr64 ((wr64 ((wr64 (0 + (wr64 ((wr64 ((wr64 (1 * (wr64 (512 - i2)))) * (wr64 (512 - i2)))) * a0_1)))) + (wr64 ((wr64 ((wr64 (2 * i2)) * (wr64 (512 - i2)))) * s1_2)))) + (wr64 ((wr64 ((wr64 (1 * i2)) * i2)) * s1_4))))), (18, .int .i64 0)]) (by kernel_rfl) ?_
  refine t_end ?_
  show W _ _ _ _ _ _ _
  refine w_reg fun all => ?_
  refine t_qz 3 [3, 5, 8, 11, 12, 13, 18] (σ' := [(3, .int .i64 512), (5, .pointer (some ⟨b266, 0, none⟩)), (8, .pointer (some ⟨b267, 0, none⟩)), (11, .int .i64 512), (12, .int .i64 (wr64 ((wr64 ((wr64 (0 + (wr64 ((wr64 ((wr64 (1 * (wr64 (512 - i2)))) * (wr64 (512 - i2)))) * a0_0)))) + (wr64 ((wr64 ((wr64 (2 * i2)) * (wr64 (512 - i2)))) * s1_1)))) + (wr64 ((wr64 ((wr64 (1 * i2)) * i2)) * s1_3))))), (13, .int .i64 (wr64 ((wr64 ((wr64 (0 + (wr64 ((wr64 ((wr64 (1 * (wr64 (512 - i2)))) * (wr64 (512 - i2)))) * a0_1)))) + (wr64 ((wr64 ((wr64 (2 * i2)) * (wr64 (512 - i2)))) * s1_2)))) + (wr64 ((wr64 ((wr64 (1 * i2)) * i2)) * s1_4))))), (18, .int .i64 1)]) (by kernel_rfl) ?_
  refine t_end ?_
  show WL _ _ _ _ _ _ _ _
  refine wl_step ?_
  refine w_seq ?_
  refine w_seq ?_
  refine w_reg fun all => ?_
  refine t_qz 2 [3, 5, 8, 11, 12, 13, 18, 89, 90] (σ' := [(3, .int .i64 512), (5, .pointer (some ⟨b266, 0, none⟩)), (8, .pointer (some ⟨b267, 0, none⟩)), (11, .int .i64 512), (12, .int .i64 (wr64 ((wr64 ((wr64 (0 + (wr64 ((wr64 ((wr64 (1 * (wr64 (512 - i2)))) * (wr64 (512 - i2)))) * a0_0)))) + (wr64 ((wr64 ((wr64 (2 * i2)) * (wr64 (512 - i2)))) * s1_1)))) + (wr64 ((wr64 ((wr64 (1 * i2)) * i2)) * s1_3))))), (13, .int .i64 (wr64 ((wr64 ((wr64 (0 + (wr64 ((wr64 ((wr64 (1 * (wr64 (512 - i2)))) * (wr64 (512 - i2)))) * a0_1)))) + (wr64 ((wr64 ((wr64 (2 * i2)) * (wr64 (512 - i2)))) * s1_2)))) + (wr64 ((wr64 ((wr64 (1 * i2)) * i2)) * s1_4))))), (18, .int .i64 1), (89, .int .i64 1), (90, .pointer (some ⟨b266, 0, none⟩))]) (by kernel_rfl) ?_
  refine t_v (.ld1 rfl rfl rfl (.at 6 rfl rfl)) ?_
  refine t_qz 1 [3, 5, 8, 11, 12, 13, 18, 92] (σ' := [(3, .int .i64 512), (5, .pointer (some ⟨b266, 0, none⟩)), (8, .pointer (some ⟨b267, 0, none⟩)), (11, .int .i64 512), (12, .int .i64 (wr64 ((wr64 ((wr64 (0 + (wr64 ((wr64 ((wr64 (1 * (wr64 (512 - i2)))) * (wr64 (512 - i2)))) * a0_0)))) + (wr64 ((wr64 ((wr64 (2 * i2)) * (wr64 (512 - i2)))) * s1_1)))) + (wr64 ((wr64 ((wr64 (1 * i2)) * i2)) * s1_3))))), (13, .int .i64 (wr64 ((wr64 ((wr64 (0 + (wr64 ((wr64 ((wr64 (1 * (wr64 (512 - i2)))) * (wr64 (512 - i2)))) * a0_1)))) + (wr64 ((wr64 ((wr64 (2 * i2)) * (wr64 (512 - i2)))) * s1_2)))) + (wr64 ((wr64 ((wr64 (1 * i2)) * i2)) * s1_4))))), (18, .int .i64 1), (92, .bool true)]) (by kernel_rfl) ?_
  refine t_end ?_
  show W _ _ _ _ _ _ _
  refine w_cond rfl (fun _ => ?_) (fun c_ => by cases c_)
  show W _ _ _ _ _ _ _
  refine w_skip ?_
  show W _ _ _ _ _ _ _
  refine w_seq ?_
  refine w_block ?_
  refine w_reg fun all => ?_
  refine t_qz 4 [3, 5, 8, 11, 12, 13, 18] (σ' := [(3, .int .i64 512), (5, .pointer (some ⟨b266, 0, none⟩)), (8, .pointer (some ⟨b267, 0, none⟩)), (11, .int .i64 262144), (12, .int .i64 (wr64 ((wr64 ((wr64 (0 + (wr64 ((wr64 ((wr64 (1 * (wr64 (512 - i2)))) * (wr64 (512 - i2)))) * a0_0)))) + (wr64 ((wr64 ((wr64 (2 * i2)) * (wr64 (512 - i2)))) * s1_1)))) + (wr64 ((wr64 ((wr64 (1 * i2)) * i2)) * s1_3))))), (13, .int .i64 (wr64 ((wr64 ((wr64 (0 + (wr64 ((wr64 ((wr64 (1 * (wr64 (512 - i2)))) * (wr64 (512 - i2)))) * a0_1)))) + (wr64 ((wr64 ((wr64 (2 * i2)) * (wr64 (512 - i2)))) * s1_2)))) + (wr64 ((wr64 ((wr64 (1 * i2)) * i2)) * s1_4))))), (18, .int .i64 1)]) (by kernel_rfl) ?_
  refine t_end ?_
  show W _ _ _ _ _ _ _
  refine w_reg fun all => ?_
  refine t_qz 3 [3, 5, 8, 11, 12, 13, 18] (σ' := [(3, .int .i64 512), (5, .pointer (some ⟨b266, 0, none⟩)), (8, .pointer (some ⟨b267, 0, none⟩)), (11, .int .i64 262144), (12, .int .i64 (wr64 ((wr64 ((wr64 (0 + (wr64 ((wr64 ((wr64 (1 * (wr64 (512 - i2)))) * (wr64 (512 - i2)))) * a0_0)))) + (wr64 ((wr64 ((wr64 (2 * i2)) * (wr64 (512 - i2)))) * s1_1)))) + (wr64 ((wr64 ((wr64 (1 * i2)) * i2)) * s1_3))))), (13, .int .i64 (wr64 ((wr64 ((wr64 (0 + (wr64 ((wr64 ((wr64 (1 * (wr64 (512 - i2)))) * (wr64 (512 - i2)))) * a0_1)))) + (wr64 ((wr64 ((wr64 (2 * i2)) * (wr64 (512 - i2)))) * s1_2)))) + (wr64 ((wr64 ((wr64 (1 * i2)) * i2)) * s1_4))))), (18, .int .i64 2)]) (by kernel_rfl) ?_
  refine t_end ?_
  show WL _ _ _ _ _ _ _ _
  refine wl_step ?_
  refine w_seq ?_
  refine w_seq ?_
  refine w_reg fun all => ?_
  refine t_qz 2 [3, 5, 8, 11, 12, 13, 18, 89, 90] (σ' := [(3, .int .i64 512), (5, .pointer (some ⟨b266, 0, none⟩)), (8, .pointer (some ⟨b267, 0, none⟩)), (11, .int .i64 262144), (12, .int .i64 (wr64 ((wr64 ((wr64 (0 + (wr64 ((wr64 ((wr64 (1 * (wr64 (512 - i2)))) * (wr64 (512 - i2)))) * a0_0)))) + (wr64 ((wr64 ((wr64 (2 * i2)) * (wr64 (512 - i2)))) * s1_1)))) + (wr64 ((wr64 ((wr64 (1 * i2)) * i2)) * s1_3))))), (13, .int .i64 (wr64 ((wr64 ((wr64 (0 + (wr64 ((wr64 ((wr64 (1 * (wr64 (512 - i2)))) * (wr64 (512 - i2)))) * a0_1)))) + (wr64 ((wr64 ((wr64 (2 * i2)) * (wr64 (512 - i2)))) * s1_2)))) + (wr64 ((wr64 ((wr64 (1 * i2)) * i2)) * s1_4))))), (18, .int .i64 2), (89, .int .i64 2), (90, .pointer (some ⟨b266, 0, none⟩))]) (by kernel_rfl) ?_
  refine t_v (.ld1 rfl rfl rfl (.at 6 rfl rfl)) ?_
  refine t_qz 1 [3, 5, 8, 11, 12, 13, 18, 92] (σ' := [(3, .int .i64 512), (5, .pointer (some ⟨b266, 0, none⟩)), (8, .pointer (some ⟨b267, 0, none⟩)), (11, .int .i64 262144), (12, .int .i64 (wr64 ((wr64 ((wr64 (0 + (wr64 ((wr64 ((wr64 (1 * (wr64 (512 - i2)))) * (wr64 (512 - i2)))) * a0_0)))) + (wr64 ((wr64 ((wr64 (2 * i2)) * (wr64 (512 - i2)))) * s1_1)))) + (wr64 ((wr64 ((wr64 (1 * i2)) * i2)) * s1_3))))), (13, .int .i64 (wr64 ((wr64 ((wr64 (0 + (wr64 ((wr64 ((wr64 (1 * (wr64 (512 - i2)))) * (wr64 (512 - i2)))) * a0_1)))) + (wr64 ((wr64 ((wr64 (2 * i2)) * (wr64 (512 - i2)))) * s1_2)))) + (wr64 ((wr64 ((wr64 (1 * i2)) * i2)) * s1_4))))), (18, .int .i64 2), (92, .bool false)]) (by kernel_rfl) ?_
  refine t_end ?_
  show W _ _ _ _ _ _ _
  refine w_cond rfl (fun c_ => by cases c_) (fun _ => ?_)
  show W _ _ _ _ _ _ _
  refine w_exit ?_
  show W _ _ _ _ _ _ _
  refine w_seq ?_
  refine w_reg fun all => ?_
  obtain ⟨t273, h274, e⟩ := bind_of e
  refine t_qz 2 [8, 11, 13, 98, 99] (σ' := [(8, .pointer (some ⟨b267, 0, none⟩)), (11, .int .i64 262144), (13, .int .i64 (wr64 ((wr64 ((wr64 (0 + (wr64 ((wr64 ((wr64 (1 * (wr64 (512 - i2)))) * (wr64 (512 - i2)))) * a0_1)))) + (wr64 ((wr64 ((wr64 (2 * i2)) * (wr64 (512 - i2)))) * s1_2)))) + (wr64 ((wr64 ((wr64 (1 * i2)) * i2)) * s1_4))))), (98, .int .i64 (wr64 ((wr64 ((wr64 (0 + (wr64 ((wr64 ((wr64 (1 * (wr64 (512 - i2)))) * (wr64 (512 - i2)))) * a0_0)))) + (wr64 ((wr64 ((wr64 (2 * i2)) * (wr64 (512 - i2)))) * s1_1)))) + (wr64 ((wr64 ((wr64 (1 * i2)) * i2)) * s1_3))))), (99, .int .i64 262144)]) (by kernel_rfl) ?_
  refine t_v (.call (vs := [.int .i64 (wr64 ((wr64 ((wr64 (0 + (wr64 ((wr64 ((wr64 (1 * (wr64 (512 - i2)))) * (wr64 (512 - i2)))) * a0_0)))) + (wr64 ((wr64 ((wr64 (2 * i2)) * (wr64 (512 - i2)))) * s1_1)))) + (wr64 ((wr64 ((wr64 (1 * i2)) * i2)) * s1_3)))), .int .i64 262144]) rfl rfl (by kernel_rfl) (glyphicref1_Round.ok h274)) ?_
  obtain ⟨t275, h276, e⟩ := bind_of e
  refine t_qz 2 [8, 100, 101, 102] (σ' := [(8, .pointer (some ⟨b267, 0, none⟩)), (100, .int .i64 t273), (101, .int .i64 (wr64 ((wr64 ((wr64 (0 + (wr64 ((wr64 ((wr64 (1 * (wr64 (512 - i2)))) * (wr64 (512 - i2)))) * a0_1)))) + (wr64 ((wr64 ((wr64 (2 * i2)) * (wr64 (512 - i2)))) * s1_2)))) + (wr64 ((wr64 ((wr64 (1 * i2)) * i2)) * s1_4))))), (102, .int .i64 262144)]) (by kernel_rfl) ?_
  refine t_v (.call (vs := [.int .i64 (wr64 ((wr64 ((wr64 (0 + (wr64 ((wr64 ((wr64 (1 * (wr64 (512 - i2)))) * (wr64 (512 - i2)))) * a0_1)))) + (wr64 ((wr64 ((wr64 (2 * i2)) * (wr64 (512 - i2)))) * s1_2)))) + (wr64 ((wr64 ((wr64 (1 * i2)) * i2)) * s1_4)))), .int .i64 262144]) rfl rfl (by kernel_rfl) (glyphicref1_Round.ok h276)) ?_
  refine t_qz 1 [8, 104] (σ' := [(8, .pointer (some ⟨b267, 0, none⟩)), (104, .agg #[.int .i64 t273, .int .i64 t275])]) (by kernel_rfl) ?_
  refine t_sti 5 (cs := [.int .i64 t273, .int .i64 t275]) rfl rfl rfl rfl rfl rfl rfl rfl rfl ?_
  refine t_keep [8] (σ' := [(8, .pointer (some ⟨b267, 0, none⟩))]) (by kernel_rfl) ?_
  refine t_end ?_
  show W _ _ _ _ _ _ _
  refine w_ret ?_
  simp only [Option.some.injEq, Prod.mk.injEq] at e
  obtain ⟨rfl, rfl⟩ := e
  exact ⟨[.agg #[.int .i64 t273, .int .i64 t275]], [], S, ⟨⟨_, _, _, rfl, .at 5 rfl rfl, rfl⟩, trivial⟩, VS.none, rfl, rfl, rfl⟩

def glyphiclaw21_curve_v3.f (a0_0 : Int) (a0_1 : Int) (s1_1 : Int) (s1_2 : Int) (s1_3 : Int) (s1_4 : Int) (s1_5 : Int) (s1_6 : Int) (i2 : Int) : Option (Int × Int) := (glyphicref1_Round.f (wr64 ((wr64 ((wr64 ((wr64 (0 + (wr64 ((wr64 ((wr64 ((wr64 (1 * (wr64 (512 - i2)))) * (wr64 (512 - i2)))) * (wr64 (512 - i2)))) * a0_0)))) + (wr64 ((wr64 ((wr64 ((wr64 (3 * i2)) * (wr64 (512 - i2)))) * (wr64 (512 - i2)))) * s1_1)))) + (wr64 ((wr64 ((wr64 ((wr64 (3 * i2)) * i2)) * (wr64 (512 - i2)))) * s1_3)))) + (wr64 ((wr64 ((wr64 ((wr64 (1 * i2)) * i2)) * i2)) * s1_5)))) 134217728).bind fun t311 => ((glyphicref1_Round.f (wr64 ((wr64 ((wr64 ((wr64 (0 + (wr64 ((wr64 ((wr64 ((wr64 (1 * (wr64 (512 - i2)))) * (wr64 (512 - i2)))) * (wr64 (512 - i2)))) * a0_1)))) + (wr64 ((wr64 ((wr64 ((wr64 (3 * i2)) * (wr64 (512 - i2)))) * (wr64 (512 - i2)))) * s1_2)))) + (wr64 ((wr64 ((wr64 ((wr64 (3 * i2)) * i2)) * (wr64 (512 - i2)))) * s1_4)))) + (wr64 ((wr64 ((wr64 ((wr64 (1 * i2)) * i2)) * i2)) * s1_6)))) 134217728).bind fun t313 => (some (t311, t313)))
theorem glyphiclaw21_curve_v3.ok {S : Seal} {a0_0 : Int} {a0_1 : Int} {s1_1 : Int} {s1_2 : Int} {s1_3 : Int} {s1_4 : Int} {s1_5 : Int} {s1_6 : Int} {i2 : Int} {r0_ : Int} {r1_ : Int}(e : glyphiclaw21_curve_v3.f a0_0 a0_1 s1_1 s1_2 s1_3 s1_4 s1_5 s1_6 i2 = some (r0_, r1_)) :
    Cal Try.prog 38 [.agg #[.int .i64 a0_0, .int .i64 a0_1], .agg #[.int .i64 3, .int .i64 s1_1, .int .i64 s1_2, .int .i64 s1_3, .int .i64 s1_4, .int .i64 s1_5, .int .i64 s1_6], .int .i64 i2, .int .i64 512] [] S fun v H' S' => v = .agg #[.int .i64 r0_, .int .i64 r1_] ∧ H' = [] ∧ S' = S := by
  unfold glyphiclaw21_curve_v3.f at e
  refine cal_of (c := c38) (N := 105) Try.func38 rfl rfl (by kernel_rfl) (rs := [.cn 2 8]) (by kernel_rfl) (Nat.le_of_ble_eq_true rfl) ?_
  unfold c38
  refine w_seq ?_
  refine w_reg fun all => ?_
  refine t_a (.box rfl rfl rfl) fun b303 fb303 sb303 => ?_
  refine t_a (.box rfl rfl rfl) fun b304 fb304 sb304 => ?_
  refine t_a (.new rfl rfl) fun b305 fb305 sb305 => ?_
  refine t_keep [2, 3, 4, 5, 8] (σ' := [(2, .int .i64 i2), (3, .int .i64 512), (4, .pointer (some ⟨b303, 0, none⟩)), (5, .pointer (some ⟨b304, 0, none⟩)), (8, .pointer (some ⟨b305, 0, none⟩))]) (by kernel_rfl) ?_
  refine t_end ?_
  show W _ _ _ _ _ _ _
  refine w_seq ?_
  refine w_reg fun all => ?_
  refine t_v (.ldn rfl rfl rfl (.at 2 rfl rfl)) ?_
  refine t_qz 2 [2, 3, 5, 8, 19, 21] (σ' := [(2, .int .i64 i2), (3, .int .i64 512), (5, .pointer (some ⟨b304, 0, none⟩)), (8, .pointer (some ⟨b305, 0, none⟩)), (19, .agg #[.int .i64 a0_0, .int .i64 a0_1]), (21, .pointer (some ⟨b304, 1, none⟩))]) (by kernel_rfl) ?_
  refine t_v (.ldn rfl rfl rfl (.at 1 rfl rfl)) ?_
  refine t_qz 2 [2, 3, 5, 8, 19, 22, 24] (σ' := [(2, .int .i64 i2), (3, .int .i64 512), (5, .pointer (some ⟨b304, 0, none⟩)), (8, .pointer (some ⟨b305, 0, none⟩)), (19, .agg #[.int .i64 a0_0, .int .i64 a0_1]), (22, .agg #[.int .i64 s1_1, .int .i64 s1_2]), (24, .pointer (some ⟨b304, 3, none⟩))]) (by kernel_rfl) ?_
  refine t_v (.ldn rfl rfl rfl (.at 1 rfl rfl)) ?_
  refine t_qz 2 [2, 3, 5, 8, 19, 22, 25, 27] (σ' := [(2, .int .i64 i2), (3, .int .i64 512), (5, .pointer (some ⟨b304, 0, none⟩)), (8, .pointer (some ⟨b305, 0, none⟩)), (19, .agg #[.int .i64 a0_0, .int .i64 a0_1]), (22, .agg #[.int .i64 s1_1, .int .i64 s1_2]), (25, .agg #[.int .i64 s1_3, .int .i64 s1_4]), (27, .pointer (some ⟨b304, 5, none⟩))]) (by kernel_rfl) ?_
  refine t_v (.ldn rfl rfl rfl (.at 1 rfl rfl)) ?_
  refine t_a (.bsl rfl rfl rfl rfl) fun b306 fb306 sb306 => ?_
  refine t_qz 1 [2, 3, 5, 8, 29, 30] (σ' := [(2, .int .i64 i2), (3, .int .i64 512), (5, .pointer (some ⟨b304, 0, none⟩)), (8, .pointer (some ⟨b305, 0, none⟩)), (29, .slice (some ⟨b306, 0, none⟩) 4 4), (30, .pointer (some ⟨b304, 0, none⟩))]) (by kernel_rfl) ?_
  refine t_v (.ld1 rfl rfl rfl (.at 2 rfl rfl)) ?_
  refine t_qz 3 [2, 3, 5, 8, 9] (σ' := [(2, .int .i64 i2), (3, .int .i64 512), (5, .pointer (some ⟨b304, 0, none⟩)), (8, .pointer (some ⟨b305, 0, none⟩)), (9, .slice (some ⟨b306, 0, none⟩) 4 4)]) (by kernel_rfl) ?_
  refine t_end ?_
  show W _ _ _ _ _ _ _
  refine w_seq ?_
  refine w_reg fun all => ?_
  refine t_qz 4 [2, 3, 5, 8, 9, 10] (σ' := [(2, .int .i64 i2), (3, .int .i64 512), (5, .pointer (some ⟨b304, 0, none⟩)), (8, .pointer (some ⟨b305, 0, none⟩)), (9, .slice (some ⟨b306, 0, none⟩) 4 4), (10, .int .i64 (wr64 (512 - i2)))]) (by kernel_rfl) ?_
  refine t_end ?_
  show W _ _ _ _ _ _ _
  refine w_seq ?_
  refine w_reg fun all => ?_
  refine t_qz 1 [2, 3, 5, 8, 9, 10, 11] (σ' := [(2, .int .i64 i2), (3, .int .i64 512), (5, .pointer (some ⟨b304, 0, none⟩)), (8, .pointer (some ⟨b305, 0, none⟩)), (9, .slice (some ⟨b306, 0, none⟩) 4 4), (10, .int .i64 (wr64 (512 - i2))), (11, .int .i64 1)]) (by kernel_rfl) ?_
  refine t_end ?_
  show W _ _ _ _ _ _ _
  refine w_seq ?_
  refine w_reg fun all => ?_
  refine t_qz 2 [2, 3, 5, 8, 9, 10, 11, 12, 13] (σ' := [(2, .int .i64 i2), (3, .int .i64 512), (5, .pointer (some ⟨b304, 0, none⟩)), (8, .pointer (some ⟨b305, 0, none⟩)), (9, .slice (some ⟨b306, 0, none⟩) 4 4), (10, .int .i64 (wr64 (512 - i2))), (11, .int .i64 1), (12, .int .i64 0), (13, .int .i64 0)]) (by kernel_rfl) ?_
  refine t_end ?_
  show W _ _ _ _ _ _ _
  refine w_seq ?_
  refine w_reg fun all => ?_
  refine t_a (.bsl rfl rfl rfl rfl) fun b307 fb307 sb307 => ?_
  refine t_a (.bsl rfl rfl rfl rfl) fun b308 fb308 sb308 => ?_
  refine t_a (.bsl rfl rfl rfl rfl) fun b309 fb309 sb309 => ?_
  refine t_a (.bsl rfl rfl rfl rfl) fun b310 fb310 sb310 => ?_
  refine t_qz 1 [2, 3, 5, 8, 9, 10, 11, 12, 13, 40, 41] (σ' := [(2, .int .i64 i2), (3, .int .i64 512), (5, .pointer (some ⟨b304, 0, none⟩)), (8, .pointer (some ⟨b305, 0, none⟩)), (9, .slice (some ⟨b306, 0, none⟩) 4 4), (10, .int .i64 (wr64 (512 - i2))), (11, .int .i64 1), (12, .int .i64 0), (13, .int .i64 0), (40, .slice (some ⟨b310, 0, none⟩) 3 3), (41, .pointer (some ⟨b304, 0, none⟩))]) (by kernel_rfl) ?_
  refine t_v (.ld1 rfl rfl rfl (.at 6 rfl rfl)) ?_
  refine t_qz 2 [2, 3, 5, 8, 9, 10, 11, 12, 13, 44] (σ' := [(2, .int .i64 i2), (3, .int .i64 512), (5, .pointer (some ⟨b304, 0, none⟩)), (8, .pointer (some ⟨b305, 0, none⟩)), (9, .slice (some ⟨b306, 0, none⟩) 4 4), (10, .int .i64 (wr64 (512 - i2))), (11, .int .i64 1), (12, .int .i64 0), (13, .int .i64 0), (44, .pointer (some ⟨b310, 2, none⟩))]) (by kernel_rfl) ?_
  refine t_v (.ld1 rfl rfl rfl (.at 0 rfl rfl)) ?_
  refine t_qz 1 [2, 3, 5, 8, 9, 10, 11, 12, 13, 14] (σ' := [(2, .int .i64 i2), (3, .int .i64 512), (5, .pointer (some ⟨b304, 0, none⟩)), (8, .pointer (some ⟨b305, 0, none⟩)), (9, .slice (some ⟨b306, 0, none⟩) 4 4), (10, .int .i64 (wr64 (512 - i2))), (11, .int .i64 1), (12, .int .i64 0), (13, .int .i64 0), (14, .slice (some ⟨b309, 0, none⟩) 4 4)]) (by kernel_rfl) ?_
  refine t_end ?_
  show W _ _ _ _ _ _ _
  refine w_seq ?_
  refine w_seq ?_
  refine w_reg fun all => ?_
  refine t_qz 1 [2, 3, 5, 8, 9, 10, 11, 12, 13, 14, 15] (σ' := [(2, .int .i64 i2), (3, .int .i64 512), (5, .pointer (some ⟨b304, 0, none⟩)), (8, .pointer (some ⟨b305, 0, none⟩)), (9, .slice (some ⟨b306, 0, none⟩) 4 4), (10, .int .i64 (wr64 (512 - i2))), (11, .int .i64 1), (12, .int .i64 0), (13, .int .i64 0), (14, .slice (some ⟨b309, 0, none⟩) 4 4), (15, .int .i64 0)]) (by kernel_rfl) ?_
  refine t_end ?_
  show W _ _ _ _ _ _ _
  refine w_block ?_
  refine w_lun 10 ?_
  refine wl_step ?_
  refine w_seq ?_
  refine w_seq ?_
  refine w_reg fun all => ?_
  refine t_qz 2 [2, 3, 5, 8, 9, 10, 11, 12, 13, 14, 15, 46, 47] (σ' := [(2, .int .i64 i2), (3, .int .i64 512), (5, .pointer (some ⟨b304, 0, none⟩)), (8, .pointer (some ⟨b305, 0, none⟩)), (9, .slice (some ⟨b306, 0, none⟩) 4 4), (10, .int .i64 (wr64 (512 - i2))), (11, .int .i64 1), (12, .int .i64 0), (13, .int .i64 0), (14, .slice (some ⟨b309, 0, none⟩) 4 4), (15, .int .i64 0), (46, .int .i64 0), (47, .pointer (some ⟨b304, 0, none⟩))]) (by kernel_rfl) ?_
  refine t_v (.ld1 rfl rfl rfl (.at 6 rfl rfl)) ?_
  refine t_qz 1 [2, 3, 5, 8, 9, 10, 11, 12, 13, 14, 15, 49] (σ' := [(2, .int .i64 i2), (3, .int .i64 512), (5, .pointer (some ⟨b304, 0, none⟩)), (8, .pointer (some ⟨b305, 0, none⟩)), (9, .slice (some ⟨b306, 0, none⟩) 4 4), (10, .int .i64 (wr64 (512 - i2))), (11, .int .i64 1), (12, .int .i64 0), (13, .int .i64 0), (14, .slice (some ⟨b309, 0, none⟩) 4 4), (15, .int .i64 0), (49, .bool true)]) (by kernel_rfl) ?_
  refine t_end ?_
  show W _ _ _ _ _ _ _
  refine w_cond rfl (fun _ => ?_) (fun c_ => by cases c_)
  show W _ _ _ _ _ _ _
  refine w_skip ?_
  show W _ _ _ _ _ _ _
  refine w_seq ?_
  refine w_block ?_
  refine w_seq ?_
  refine w_reg fun all => ?_
  refine t_qz 3 [2, 3, 5, 8, 9, 10, 11, 12, 13, 14, 15, 54] (σ' := [(2, .int .i64 i2), (3, .int .i64 512), (5, .pointer (some ⟨b304, 0, none⟩)), (8, .pointer (some ⟨b305, 0, none⟩)), (9, .slice (some ⟨b306, 0, none⟩) 4 4), (10, .int .i64 (wr64 (512 - i2))), (11, .int .i64 1), (12, .int .i64 0), (13, .int .i64 0), (14, .slice (some ⟨b309, 0, none⟩) 4 4), (15, .int .i64 0), (54, .pointer (some ⟨b309, 0, none⟩))]) (by kernel_rfl) ?_
  refine t_v (.ld1 rfl rfl rfl (.at 1 rfl rfl)) ?_
  refine t_qz 1 [2, 3, 5, 8, 9, 10, 11, 12, 13, 14, 15, 16] (σ' := [(2, .int .i64 i2), (3, .int .i64 512), (5, .pointer (some ⟨b304, 0, none⟩)), (8, .pointer (some ⟨b305, 0, none⟩)), (9, .slice (some ⟨b306, 0, none⟩) 4 4), (10, .int .i64 (wr64 (512 - i2))), (11, .int .i64 1), (12, .int .i64 0), (13, .int .i64 0), (14, .slice (some ⟨b309, 0, none⟩) 4 4), (15, .int .i64 0), (16, .int .i64 1)]) (by kernel_rfl) ?_
  refine t_end ?_
  show W _ _ _ _ _ _ _
  refine w_seq ?_
  refine w_seq ?_
  refine w_reg fun all => ?_
  refine t_qz 1 [2, 3, 5, 8, 9, 10, 11, 12, 13, 14, 15, 16, 17] (σ' := [(2, .int .i64 i2), (3, .int .i64 512), (5, .pointer (some ⟨b304, 0, none⟩)), (8, .pointer (some ⟨b305, 0, none⟩)), (9, .slice (some ⟨b306, 0, none⟩) 4 4), (10, .int .i64 (wr64 (512 - i2))), (11, .int .i64 1), (12, .int .i64 0), (13, .int .i64 0), (14, .slice (some ⟨b309, 0, none⟩) 4 4), (15, .int .i64 0), (16, .int .i64 1), (17, .int .i64 0)]) (by kernel_rfl) ?_
  refine t_end ?_
  show W _ _ _ _ _ _ _
  refine w_block ?_
  refine w_lun 10 ?_
  refine wl_step ?_
  refine w_seq ?_
  refine w_seq ?_
  refine w_reg fun all => ?_
  refine t_qz 2 [2, 3, 5, 8, 9, 10, 11, 12, 13, 14, 15, 16, 17, 56, 57] (σ' := [(2, .int .i64 i2), (3, .int .i64 512), (5, .pointer (some ⟨b304, 0, none⟩)), (8, .pointer (some ⟨b305, 0, none⟩)), (9, .slice (some ⟨b306, 0, none⟩) 4 4), (10, .int .i64 (wr64 (512 - i2))), (11, .int .i64 1), (12, .int .i64 0), (13, .int .i64 0), (14, .slice (some ⟨b309, 0, none⟩) 4 4), (15, .int .i64 0), (16, .int .i64 1), (17, .int .i64 0), (56, .int .i64 0), (57, .pointer (some ⟨b304, 0, none⟩))]) (by kernel_rfl) ?_
  refine t_v (.ld1 rfl rfl rfl (.at 6 rfl rfl)) ?_
  refine t_qz 1 [2, 3, 5, 8, 9, 10, 11, 12, 13, 14, 15, 16, 17, 59] (σ' := [(2, .int .i64 i2), (3, .int .i64 512), (5, .pointer (some ⟨b304, 0, none⟩)), (8, .pointer (some ⟨b305, 0, none⟩)), (9, .slice (some ⟨b306, 0, none⟩) 4 4), (10, .int .i64 (wr64 (512 - i2))), (11, .int .i64 1), (12, .int .i64 0), (13, .int .i64 0), (14, .slice (some ⟨b309, 0, none⟩) 4 4), (15, .int .i64 0), (16, .int .i64 1), (17, .int .i64 0), (59, .bool true)]) (by kernel_rfl) ?_
  refine t_end ?_
  show W _ _ _ _ _ _ _
  refine w_cond rfl (fun _ => ?_) (fun c_ => by cases c_)
  show W _ _ _ _ _ _ _
  refine w_skip ?_
  show W _ _ _ _ _ _ _
  refine w_seq ?_
  refine w_block ?_
  refine w_seq ?_
  refine w_reg fun all => ?_
  refine t_qz 3 [2, 3, 5, 8, 9, 10, 11, 12, 13, 14, 15, 16, 17, 64] (σ' := [(2, .int .i64 i2), (3, .int .i64 512), (5, .pointer (some ⟨b304, 0, none⟩)), (8, .pointer (some ⟨b305, 0, none⟩)), (9, .slice (some ⟨b306, 0, none⟩) 4 4), (10, .int .i64 (wr64 (512 - i2))), (11, .int .i64 1), (12, .int .i64 0), (13, .int .i64 0), (14, .slice (some ⟨b309, 0, none⟩) 4 4), (15, .int .i64 0), (16, .int .i64 1), (17, .int .i64 0), (64, .bool false)]) (by kernel_rfl) ?_
  refine t_end ?_
  show W _ _ _ _ _ _ _
  refine w_cond rfl (fun c_ => by cases c_) (fun _ => ?_)
  show W _ _ _ _ _ _ _
  refine w_reg fun all => ?_
  refine t_qz 4 [2, 3, 5, 8, 9, 10, 11, 12, 13, 14, 15, 16, 17] (σ' := [(2, .int .i64 i2), (3, .int .i64 512), (5, .pointer (some ⟨b304, 0, none⟩)), (8, .pointer (some ⟨b305, 0, none⟩)), (9, .slice (some ⟨b306, 0, none⟩) 4 4), (10, .int .i64 (wr64 (512 - i2))), (11, .int .i64 1), (12, .int .i64 0), (13, .int .i64 0), (14, .slice (some ⟨b309, 0, none⟩) 4 4), (15, .int .i64 0), (16, .int .i64 (wr64 (1 * (wr64 (512 - i2))))), (17, .int .i64 0)]) (by kernel_rfl) ?_
  refine t_end ?_
  show W _ _ _ _ _ _ _
  refine w_reg fun all => ?_
  refine t_qz 3 [2, 3, 5, 8, 9, 10, 11, 12, 13, 14, 15, 16, 17] (σ' := [(2, .int .i64 i2), (3, .int .i64 512), (5, .pointer (some ⟨b304, 0, none⟩)), (8, .pointer (some ⟨b305, 0, none⟩)), (9, .slice (some ⟨b306, 0, none⟩) 4 4), (10, .int .i64 (wr64 (512 - i2))), (11, .int .i64 1), (12, .int .i64 0), (13, .int .i64 0), (14, .slice (some ⟨b309, 0, none⟩) 4 4), (15, .int .i64 0), (16, .int .i64 (wr64 (1 * (wr64 (512 - i2))))), (17, .int .i64 1)]) (by kernel_rfl) ?_
  refine t_end ?_
  show WL _ _ _ _ _ _ _ _
  refine wl_step ?_
  refine w_seq ?_
  refine w_seq ?_
  refine w_reg fun all => ?_
  refine t_qz 2 [2, 3, 5, 8, 9, 10, 11, 12, 13, 14, 15, 16, 17, 56, 57] (σ' := [(2, .int .i64 i2), (3, .int .i64 512), (5, .pointer (some ⟨b304, 0, none⟩)), (8, .pointer (some ⟨b305, 0, none⟩)), (9, .slice (some ⟨b306, 0, none⟩) 4 4), (10, .int .i64 (wr64 (512 - i2))), (11, .int .i64 1), (12, .int .i64 0), (13, .int .i64 0), (14, .slice (some ⟨b309, 0, none⟩) 4 4), (15, .int .i64 0), (16, .int .i64 (wr64 (1 * (wr64 (512 - i2))))), (17, .int .i64 1), (56, .int .i64 1), (57, .pointer (some ⟨b304, 0, none⟩))]) (by kernel_rfl) ?_
  refine t_v (.ld1 rfl rfl rfl (.at 6 rfl rfl)) ?_
  refine t_qz 1 [2, 3, 5, 8, 9, 10, 11, 12, 13, 14, 15, 16, 17, 59] (σ' := [(2, .int .i64 i2), (3, .int .i64 512), (5, .pointer (some ⟨b304, 0, none⟩)), (8, .pointer (some ⟨b305, 0, none⟩)), (9, .slice (some ⟨b306, 0, none⟩) 4 4), (10, .int .i64 (wr64 (512 - i2))), (11, .int .i64 1), (12, .int .i64 0), (13, .int .i64 0), (14, .slice (some ⟨b309, 0, none⟩) 4 4), (15, .int .i64 0), (16, .int .i64 (wr64 (1 * (wr64 (512 - i2))))), (17, .int .i64 1), (59, .bool true)]) (by kernel_rfl) ?_
  refine t_end ?_
  show W _ _ _ _ _ _ _
  refine w_cond rfl (fun _ => ?_) (fun c_ => by cases c_)
  show W _ _ _ _ _ _ _
  refine w_skip ?_
  show W _ _ _ _ _ _ _
  refine w_seq ?_
  refine w_block ?_
  refine w_seq ?_
  refine w_reg fun all => ?_
  refine t_qz 3 [2, 3, 5, 8, 9, 10, 11, 12, 13, 14, 15, 16, 17, 64] (σ' := [(2, .int .i64 i2), (3, .int .i64 512), (5, .pointer (some ⟨b304, 0, none⟩)), (8, .pointer (some ⟨b305, 0, none⟩)), (9, .slice (some ⟨b306, 0, none⟩) 4 4), (10, .int .i64 (wr64 (512 - i2))), (11, .int .i64 1), (12, .int .i64 0), (13, .int .i64 0), (14, .slice (some ⟨b309, 0, none⟩) 4 4), (15, .int .i64 0), (16, .int .i64 (wr64 (1 * (wr64 (512 - i2))))), (17, .int .i64 1), (64, .bool false)]) (by kernel_rfl) ?_
  refine t_end ?_
  show W _ _ _ _ _ _ _
  refine w_cond rfl (fun c_ => by cases c_) (fun _ => ?_)
  show W _ _ _ _ _ _ _
  refine w_reg fun all => ?_
  refine t_qz 4 [2, 3, 5, 8, 9, 10, 11, 12, 13, 14, 15, 16, 17] (σ' := [(2, .int .i64 i2), (3, .int .i64 512), (5, .pointer (some ⟨b304, 0, none⟩)), (8, .pointer (some ⟨b305, 0, none⟩)), (9, .slice (some ⟨b306, 0, none⟩) 4 4), (10, .int .i64 (wr64 (512 - i2))), (11, .int .i64 1), (12, .int .i64 0), (13, .int .i64 0), (14, .slice (some ⟨b309, 0, none⟩) 4 4), (15, .int .i64 0), (16, .int .i64 (wr64 ((wr64 (1 * (wr64 (512 - i2)))) * (wr64 (512 - i2))))), (17, .int .i64 1)]) (by kernel_rfl) ?_
  refine t_end ?_
  show W _ _ _ _ _ _ _
  refine w_reg fun all => ?_
  refine t_qz 3 [2, 3, 5, 8, 9, 10, 11, 12, 13, 14, 15, 16, 17] (σ' := [(2, .int .i64 i2), (3, .int .i64 512), (5, .pointer (some ⟨b304, 0, none⟩)), (8, .pointer (some ⟨b305, 0, none⟩)), (9, .slice (some ⟨b306, 0, none⟩) 4 4), (10, .int .i64 (wr64 (512 - i2))), (11, .int .i64 1), (12, .int .i64 0), (13, .int .i64 0), (14, .slice (some ⟨b309, 0, none⟩) 4 4), (15, .int .i64 0), (16, .int .i64 (wr64 ((wr64 (1 * (wr64 (512 - i2)))) * (wr64 (512 - i2))))), (17, .int .i64 2)]) (by kernel_rfl) ?_
  refine t_end ?_
  show WL _ _ _ _ _ _ _ _
  refine wl_step ?_
  refine w_seq ?_
  refine w_seq ?_
  refine w_reg fun all => ?_
  refine t_qz 2 [2, 3, 5, 8, 9, 10, 11, 12, 13, 14, 15, 16, 17, 56, 57] (σ' := [(2, .int .i64 i2), (3, .int .i64 512), (5, .pointer (some ⟨b304, 0, none⟩)), (8, .pointer (some ⟨b305, 0, none⟩)), (9, .slice (some ⟨b306, 0, none⟩) 4 4), (10, .int .i64 (wr64 (512 - i2))), (11, .int .i64 1), (12, .int .i64 0), (13, .int .i64 0), (14, .slice (some ⟨b309, 0, none⟩) 4 4), (15, .int .i64 0), (16, .int .i64 (wr64 ((wr64 (1 * (wr64 (512 - i2)))) * (wr64 (512 - i2))))), (17, .int .i64 2), (56, .int .i64 2), (57, .pointer (some ⟨b304, 0, none⟩))]) (by kernel_rfl) ?_
  refine t_v (.ld1 rfl rfl rfl (.at 6 rfl rfl)) ?_
  refine t_qz 1 [2, 3, 5, 8, 9, 10, 11, 12, 13, 14, 15, 16, 17, 59] (σ' := [(2, .int .i64 i2), (3, .int .i64 512), (5, .pointer (some ⟨b304, 0, none⟩)), (8, .pointer (some ⟨b305, 0, none⟩)), (9, .slice (some ⟨b306, 0, none⟩) 4 4), (10, .int .i64 (wr64 (512 - i2))), (11, .int .i64 1), (12, .int .i64 0), (13, .int .i64 0), (14, .slice (some ⟨b309, 0, none⟩) 4 4), (15, .int .i64 0), (16, .int .i64 (wr64 ((wr64 (1 * (wr64 (512 - i2)))) * (wr64 (512 - i2))))), (17, .int .i64 2), (59, .bool true)]) (by kernel_rfl) ?_
  refine t_end ?_
  show W _ _ _ _ _ _ _
  refine w_cond rfl (fun _ => ?_) (fun c_ => by cases c_)
  show W _ _ _ _ _ _ _
  refine w_skip ?_
  show W _ _ _ _ _ _ _
  refine w_seq ?_
  refine w_block ?_
  refine w_seq ?_
  refine w_reg fun all => ?_
  refine t_qz 3 [2, 3, 5, 8, 9, 10, 11, 12, 13, 14, 15, 16, 17, 64] (σ' := [(2, .int .i64 i2), (3, .int .i64 512), (5, .pointer (some ⟨b304, 0, none⟩)), (8, .pointer (some ⟨b305, 0, none⟩)), (9, .slice (some ⟨b306, 0, none⟩) 4 4), (10, .int .i64 (wr64 (512 - i2))), (11, .int .i64 1), (12, .int .i64 0), (13, .int .i64 0), (14, .slice (some ⟨b309, 0, none⟩) 4 4), (15, .int .i64 0), (16, .int .i64 (wr64 ((wr64 (1 * (wr64 (512 - i2)))) * (wr64 (512 - i2))))), (17, .int .i64 2), (64, .bool false)]) (by kernel_rfl) ?_
  refine t_end ?_
  show W _ _ _ _ _ _ _
  refine w_cond rfl (fun c_ => by cases c_) (fun _ => ?_)
  show W _ _ _ _ _ _ _
  refine w_reg fun all => ?_
  refine t_qz 4 [2, 3, 5, 8, 9, 10, 11, 12, 13, 14, 15, 16, 17] (σ' := [(2, .int .i64 i2), (3, .int .i64 512), (5, .pointer (some ⟨b304, 0, none⟩)), (8, .pointer (some ⟨b305, 0, none⟩)), (9, .slice (some ⟨b306, 0, none⟩) 4 4), (10, .int .i64 (wr64 (512 - i2))), (11, .int .i64 1), (12, .int .i64 0), (13, .int .i64 0), (14, .slice (some ⟨b309, 0, none⟩) 4 4), (15, .int .i64 0), (16, .int .i64 (wr64 ((wr64 ((wr64 (1 * (wr64 (512 - i2)))) * (wr64 (512 - i2)))) * (wr64 (512 - i2))))), (17, .int .i64 2)]) (by kernel_rfl) ?_
  refine t_end ?_
  show W _ _ _ _ _ _ _
  refine w_reg fun all => ?_
  refine t_qz 3 [2, 3, 5, 8, 9, 10, 11, 12, 13, 14, 15, 16, 17] (σ' := [(2, .int .i64 i2), (3, .int .i64 512), (5, .pointer (some ⟨b304, 0, none⟩)), (8, .pointer (some ⟨b305, 0, none⟩)), (9, .slice (some ⟨b306, 0, none⟩) 4 4), (10, .int .i64 (wr64 (512 - i2))), (11, .int .i64 1), (12, .int .i64 0), (13, .int .i64 0), (14, .slice (some ⟨b309, 0, none⟩) 4 4), (15, .int .i64 0), (16, .int .i64 (wr64 ((wr64 ((wr64 (1 * (wr64 (512 - i2)))) * (wr64 (512 - i2)))) * (wr64 (512 - i2))))), (17, .int .i64 3)]) (by kernel_rfl) ?_
  refine t_end ?_
  show WL _ _ _ _ _ _ _ _
  refine wl_step ?_
  refine w_seq ?_
  refine w_seq ?_
  refine w_reg fun all => ?_
  refine t_qz 2 [2, 3, 5, 8, 9, 10, 11, 12, 13, 14, 15, 16, 17, 56, 57] (σ' := [(2, .int .i64 i2), (3, .int .i64 512), (5, .pointer (some ⟨b304, 0, none⟩)), (8, .pointer (some ⟨b305, 0, none⟩)), (9, .slice (some ⟨b306, 0, none⟩) 4 4), (10, .int .i64 (wr64 (512 - i2))), (11, .int .i64 1), (12, .int .i64 0), (13, .int .i64 0), (14, .slice (some ⟨b309, 0, none⟩) 4 4), (15, .int .i64 0), (16, .int .i64 (wr64 ((wr64 ((wr64 (1 * (wr64 (512 - i2)))) * (wr64 (512 - i2)))) * (wr64 (512 - i2))))), (17, .int .i64 3), (56, .int .i64 3), (57, .pointer (some ⟨b304, 0, none⟩))]) (by kernel_rfl) ?_
  refine t_v (.ld1 rfl rfl rfl (.at 6 rfl rfl)) ?_
  refine t_qz 1 [2, 3, 5, 8, 9, 10, 11, 12, 13, 14, 15, 16, 17, 59] (σ' := [(2, .int .i64 i2), (3, .int .i64 512), (5, .pointer (some ⟨b304, 0, none⟩)), (8, .pointer (some ⟨b305, 0, none⟩)), (9, .slice (some ⟨b306, 0, none⟩) 4 4), (10, .int .i64 (wr64 (512 - i2))), (11, .int .i64 1), (12, .int .i64 0), (13, .int .i64 0), (14, .slice (some ⟨b309, 0, none⟩) 4 4), (15, .int .i64 0), (16, .int .i64 (wr64 ((wr64 ((wr64 (1 * (wr64 (512 - i2)))) * (wr64 (512 - i2)))) * (wr64 (512 - i2))))), (17, .int .i64 3), (59, .bool false)]) (by kernel_rfl) ?_
  refine t_end ?_
  show W _ _ _ _ _ _ _
  refine w_cond rfl (fun c_ => by cases c_) (fun _ => ?_)
  show W _ _ _ _ _ _ _
  refine w_exit ?_
  show W _ _ _ _ _ _ _
  refine w_seq ?_
  refine w_reg fun all => ?_
  refine t_qz 6 [2, 3, 5, 8, 9, 10, 11, 13, 14, 15, 16, 71, 72, 76] (σ' := [(2, .int .i64 i2), (3, .int .i64 512), (5, .pointer (some ⟨b304, 0, none⟩)), (8, .pointer (some ⟨b305, 0, none⟩)), (9, .slice (some ⟨b306, 0, none⟩) 4 4), (10, .int .i64 (wr64 (512 - i2))), (11, .int .i64 1), (13, .int .i64 0), (14, .slice (some ⟨b309, 0, none⟩) 4 4), (15, .int .i64 0), (16, .int .i64 (wr64 ((wr64 ((wr64 (1 * (wr64 (512 - i2)))) * (wr64 (512 - i2)))) * (wr64 (512 - i2))))), (71, .int .i64 0), (72, .int .i64 (wr64 ((wr64 ((wr64 (1 * (wr64 (512 - i2)))) * (wr64 (512 - i2)))) * (wr64 (512 - i2))))), (76, .pointer (some ⟨b306, 0, none⟩))]) (by kernel_rfl) ?_
  refine t_v (.ld1 rfl rfl rfl (.at 4 rfl rfl)) ?_
  refine t_qz 3 [2, 3, 5, 8, 9, 10, 11, 12, 13, 14, 15, 16] (σ' := [(2, .int .i64 i2), (3, .int .i64 512), (5, .pointer (some ⟨b304, 0, none⟩)), (8, .pointer (some ⟨b305, 0, none⟩)), (9, .slice (some ⟨b306, 0, none⟩) 4 4), (10, .int .i64 (wr64 (512 - i2))), (11, .int .i64 1), (12, .int .i64 (wr64 (0 + (wr64 ((wr64 ((wr64 ((wr64 (1 * (wr64 (512 - i2)))) * (wr64 (512 - i2)))) * (wr64 (512 - i2)))) * a0_0))))), (13, .int .i64 0), (14, .slice (some ⟨b309, 0, none⟩) 4 4), (15, .int .i64 0), (16, .int .i64 (wr64 ((wr64 ((wr64 (1 * (wr64 (512 - i2)))) * (wr64 (512 - i2)))) * (wr64 (512 - i2)))))]) (by kernel_rfl) ?_
  refine t_end ?_
  show W _ _ _ _ _ _ _
  refine w_reg fun all => ?_
  refine t_qz 6 [2, 3, 5, 8, 9, 10, 11, 12, 14, 15, 80, 81, 85] (σ' := [(2, .int .i64 i2), (3, .int .i64 512), (5, .pointer (some ⟨b304, 0, none⟩)), (8, .pointer (some ⟨b305, 0, none⟩)), (9, .slice (some ⟨b306, 0, none⟩) 4 4), (10, .int .i64 (wr64 (512 - i2))), (11, .int .i64 1), (12, .int .i64 (wr64 (0 + (wr64 ((wr64 ((wr64 ((wr64 (1 * (wr64 (512 - i2)))) * (wr64 (512 - i2)))) * (wr64 (512 - i2)))) * a0_0))))), (14, .slice (some ⟨b309, 0, none⟩) 4 4), (15, .int .i64 0), (80, .int .i64 0), (81, .int .i64 (wr64 ((wr64 ((wr64 (1 * (wr64 (512 - i2)))) * (wr64 (512 - i2)))) * (wr64 (512 - i2))))), (85, .pointer (some ⟨b306, 1, none⟩))]) (by kernel_rfl) ?_
  refine t_v (.ld1 rfl rfl rfl (.at 4 rfl rfl)) ?_
  refine t_qz 3 [2, 3, 5, 8, 9, 10, 11, 12, 13, 14, 15] (σ' := [(2, .int .i64 i2), (3, .int .i64 512), (5, .pointer (some ⟨b304, 0, none⟩)), (8, .pointer (some ⟨b305, 0, none⟩)), (9, .slice (some ⟨b306, 0, none⟩) 4 4), (10, .int .i64 (wr64 (512 - i2))), (11, .int .i64 1), (12, .int .i64 (wr64 (0 + (wr64 ((wr64 ((wr64 ((wr64 (1 * (wr64 (512 - i2)))) * (wr64 (512 - i2)))) * (wr64 (512 - i2)))) * a0_0))))), (13, .int .i64 (wr64 (0 + (wr64 ((wr64 ((wr64 ((wr64 (1 * (wr64 (512 - i2)))) * (wr64 (512 - i2)))) * (wr64 (512 - i2)))) * a0_1))))), (14, .slice (some ⟨b309, 0, none⟩) 4 4), (15, .int .i64 0)]) (by kernel_rfl) ?_
  refine t_end ?_
  show W _ _ _ _ _ _ _
  refine w_reg fun all => ?_
  refine t_qz 3 [2, 3, 5, 8, 9, 10, 11, 12, 13, 14, 15] (σ' := [(2, .int .i64 i2), (3, .int .i64 512), (5, .pointer (some ⟨b304, 0, none⟩)), (8, .pointer (some ⟨b305, 0, none⟩)), (9, .slice (some ⟨b306, 0, none⟩) 4 4), (10, .int .i64 (wr64 (512 - i2))), (11, .int .i64 1), (12, .int .i64 (wr64 (0 + (wr64 ((wr64 ((wr64 ((wr64 (1 * (wr64 (512 - i2)))) * (wr64 (512 - i2)))) * (wr64 (512 - i2)))) * a0_0))))), (13, .int .i64 (wr64 (0 + (wr64 ((wr64 ((wr64 ((wr64 (1 * (wr64 (512 - i2)))) * (wr64 (512 - i2)))) * (wr64 (512 - i2)))) * a0_1))))), (14, .slice (some ⟨b309, 0, none⟩) 4 4), (15, .int .i64 1)]) (by kernel_rfl) ?_
  refine t_end ?_
  show WL _ _ _ _ _ _ _ _
  refine wl_step ?_
  refine w_seq ?_
  refine w_seq ?_
  refine w_reg fun all => ?_
  refine t_qz 2 [2, 3, 5, 8, 9, 10, 11, 12, 13, 14, 15, 46, 47] (σ' := [(2, .int .i64 i2), (3, .int .i64 512), (5, .pointer (some ⟨b304, 0, none⟩)), (8, .pointer (some ⟨b305, 0, none⟩)), (9, .slice (some ⟨b306, 0, none⟩) 4 4), (10, .int .i64 (wr64 (512 - i2))), (11, .int .i64 1), (12, .int .i64 (wr64 (0 + (wr64 ((wr64 ((wr64 ((wr64 (1 * (wr64 (512 - i2)))) * (wr64 (512 - i2)))) * (wr64 (512 - i2)))) * a0_0))))), (13, .int .i64 (wr64 (0 + (wr64 ((wr64 ((wr64 ((wr64 (1 * (wr64 (512 - i2)))) * (wr64 (512 - i2)))) * (wr64 (512 - i2)))) * a0_1))))), (14, .slice (some ⟨b309, 0, none⟩) 4 4), (15, .int .i64 1), (46, .int .i64 1), (47, .pointer (some ⟨b304, 0, none⟩))]) (by kernel_rfl) ?_
  refine t_v (.ld1 rfl rfl rfl (.at 6 rfl rfl)) ?_
  refine t_qz 1 [2, 3, 5, 8, 9, 10, 11, 12, 13, 14, 15, 49] (σ' := [(2, .int .i64 i2), (3, .int .i64 512), (5, .pointer (some ⟨b304, 0, none⟩)), (8, .pointer (some ⟨b305, 0, none⟩)), (9, .slice (some ⟨b306, 0, none⟩) 4 4), (10, .int .i64 (wr64 (512 - i2))), (11, .int .i64 1), (12, .int .i64 (wr64 (0 + (wr64 ((wr64 ((wr64 ((wr64 (1 * (wr64 (512 - i2)))) * (wr64 (512 - i2)))) * (wr64 (512 - i2)))) * a0_0))))), (13, .int .i64 (wr64 (0 + (wr64 ((wr64 ((wr64 ((wr64 (1 * (wr64 (512 - i2)))) * (wr64 (512 - i2)))) * (wr64 (512 - i2)))) * a0_1))))), (14, .slice (some ⟨b309, 0, none⟩) 4 4), (15, .int .i64 1), (49, .bool true)]) (by kernel_rfl) ?_
  refine t_end ?_
  show W _ _ _ _ _ _ _
  refine w_cond rfl (fun _ => ?_) (fun c_ => by cases c_)
  show W _ _ _ _ _ _ _
  refine w_skip ?_
  show W _ _ _ _ _ _ _
  refine w_seq ?_
  refine w_block ?_
  refine w_seq ?_
  refine w_reg fun all => ?_
  refine t_qz 3 [2, 3, 5, 8, 9, 10, 11, 12, 13, 14, 15, 54] (σ' := [(2, .int .i64 i2), (3, .int .i64 512), (5, .pointer (some ⟨b304, 0, none⟩)), (8, .pointer (some ⟨b305, 0, none⟩)), (9, .slice (some ⟨b306, 0, none⟩) 4 4), (10, .int .i64 (wr64 (512 - i2))), (11, .int .i64 1), (12, .int .i64 (wr64 (0 + (wr64 ((wr64 ((wr64 ((wr64 (1 * (wr64 (512 - i2)))) * (wr64 (512 - i2)))) * (wr64 (512 - i2)))) * a0_0))))), (13, .int .i64 (wr64 (0 + (wr64 ((wr64 ((wr64 ((wr64 (1 * (wr64 (512 - i2)))) * (wr64 (512 - i2)))) * (wr64 (512 - i2)))) * a0_1))))), (14, .slice (some ⟨b309, 0, none⟩) 4 4), (15, .int .i64 1), (54, .pointer (some ⟨b309, 1, none⟩))]) (by kernel_rfl) ?_
  refine t_v (.ld1 rfl rfl rfl (.at 1 rfl rfl)) ?_
  refine t_qz 1 [2, 3, 5, 8, 9, 10, 11, 12, 13, 14, 15, 16] (σ' := [(2, .int .i64 i2), (3, .int .i64 512), (5, .pointer (some ⟨b304, 0, none⟩)), (8, .pointer (some ⟨b305, 0, none⟩)), (9, .slice (some ⟨b306, 0, none⟩) 4 4), (10, .int .i64 (wr64 (512 - i2))), (11, .int .i64 1), (12, .int .i64 (wr64 (0 + (wr64 ((wr64 ((wr64 ((wr64 (1 * (wr64 (512 - i2)))) * (wr64 (512 - i2)))) * (wr64 (512 - i2)))) * a0_0))))), (13, .int .i64 (wr64 (0 + (wr64 ((wr64 ((wr64 ((wr64 (1 * (wr64 (512 - i2)))) * (wr64 (512 - i2)))) * (wr64 (512 - i2)))) * a0_1))))), (14, .slice (some ⟨b309, 0, none⟩) 4 4), (15, .int .i64 1), (16, .int .i64 3)]) (by kernel_rfl) ?_
  refine t_end ?_
  show W _ _ _ _ _ _ _
  refine w_seq ?_
  refine w_seq ?_
  refine w_reg fun all => ?_
  refine t_qz 1 [2, 3, 5, 8, 9, 10, 11, 12, 13, 14, 15, 16, 17] (σ' := [(2, .int .i64 i2), (3, .int .i64 512), (5, .pointer (some ⟨b304, 0, none⟩)), (8, .pointer (some ⟨b305, 0, none⟩)), (9, .slice (some ⟨b306, 0, none⟩) 4 4), (10, .int .i64 (wr64 (512 - i2))), (11, .int .i64 1), (12, .int .i64 (wr64 (0 + (wr64 ((wr64 ((wr64 ((wr64 (1 * (wr64 (512 - i2)))) * (wr64 (512 - i2)))) * (wr64 (512 - i2)))) * a0_0))))), (13, .int .i64 (wr64 (0 + (wr64 ((wr64 ((wr64 ((wr64 (1 * (wr64 (512 - i2)))) * (wr64 (512 - i2)))) * (wr64 (512 - i2)))) * a0_1))))), (14, .slice (some ⟨b309, 0, none⟩) 4 4), (15, .int .i64 1), (16, .int .i64 3), (17, .int .i64 0)]) (by kernel_rfl) ?_
  refine t_end ?_
  show W _ _ _ _ _ _ _
  refine w_block ?_
  refine w_lun 10 ?_
  refine wl_step ?_
  refine w_seq ?_
  refine w_seq ?_
  refine w_reg fun all => ?_
  refine t_qz 2 [2, 3, 5, 8, 9, 10, 11, 12, 13, 14, 15, 16, 17, 56, 57] (σ' := [(2, .int .i64 i2), (3, .int .i64 512), (5, .pointer (some ⟨b304, 0, none⟩)), (8, .pointer (some ⟨b305, 0, none⟩)), (9, .slice (some ⟨b306, 0, none⟩) 4 4), (10, .int .i64 (wr64 (512 - i2))), (11, .int .i64 1), (12, .int .i64 (wr64 (0 + (wr64 ((wr64 ((wr64 ((wr64 (1 * (wr64 (512 - i2)))) * (wr64 (512 - i2)))) * (wr64 (512 - i2)))) * a0_0))))), (13, .int .i64 (wr64 (0 + (wr64 ((wr64 ((wr64 ((wr64 (1 * (wr64 (512 - i2)))) * (wr64 (512 - i2)))) * (wr64 (512 - i2)))) * a0_1))))), (14, .slice (some ⟨b309, 0, none⟩) 4 4), (15, .int .i64 1), (16, .int .i64 3), (17, .int .i64 0), (56, .int .i64 0), (57, .pointer (some ⟨b304, 0, none⟩))]) (by kernel_rfl) ?_
  refine t_v (.ld1 rfl rfl rfl (.at 6 rfl rfl)) ?_
  refine t_qz 1 [2, 3, 5, 8, 9, 10, 11, 12, 13, 14, 15, 16, 17, 59] (σ' := [(2, .int .i64 i2), (3, .int .i64 512), (5, .pointer (some ⟨b304, 0, none⟩)), (8, .pointer (some ⟨b305, 0, none⟩)), (9, .slice (some ⟨b306, 0, none⟩) 4 4), (10, .int .i64 (wr64 (512 - i2))), (11, .int .i64 1), (12, .int .i64 (wr64 (0 + (wr64 ((wr64 ((wr64 ((wr64 (1 * (wr64 (512 - i2)))) * (wr64 (512 - i2)))) * (wr64 (512 - i2)))) * a0_0))))), (13, .int .i64 (wr64 (0 + (wr64 ((wr64 ((wr64 ((wr64 (1 * (wr64 (512 - i2)))) * (wr64 (512 - i2)))) * (wr64 (512 - i2)))) * a0_1))))), (14, .slice (some ⟨b309, 0, none⟩) 4 4), (15, .int .i64 1), (16, .int .i64 3), (17, .int .i64 0), (59, .bool true)]) (by kernel_rfl) ?_
  refine t_end ?_
  show W _ _ _ _ _ _ _
  refine w_cond rfl (fun _ => ?_) (fun c_ => by cases c_)
  show W _ _ _ _ _ _ _
  refine w_skip ?_
  show W _ _ _ _ _ _ _
  refine w_seq ?_
  refine w_block ?_
  refine w_seq ?_
  refine w_reg fun all => ?_
  refine t_qz 3 [2, 3, 5, 8, 9, 10, 11, 12, 13, 14, 15, 16, 17, 64] (σ' := [(2, .int .i64 i2), (3, .int .i64 512), (5, .pointer (some ⟨b304, 0, none⟩)), (8, .pointer (some ⟨b305, 0, none⟩)), (9, .slice (some ⟨b306, 0, none⟩) 4 4), (10, .int .i64 (wr64 (512 - i2))), (11, .int .i64 1), (12, .int .i64 (wr64 (0 + (wr64 ((wr64 ((wr64 ((wr64 (1 * (wr64 (512 - i2)))) * (wr64 (512 - i2)))) * (wr64 (512 - i2)))) * a0_0))))), (13, .int .i64 (wr64 (0 + (wr64 ((wr64 ((wr64 ((wr64 (1 * (wr64 (512 - i2)))) * (wr64 (512 - i2)))) * (wr64 (512 - i2)))) * a0_1))))), (14, .slice (some ⟨b309, 0, none⟩) 4 4), (15, .int .i64 1), (16, .int .i64 3), (17, .int .i64 0), (64, .bool true)]) (by kernel_rfl) ?_
  refine t_end ?_
  show W _ _ _ _ _ _ _
  refine w_cond rfl (fun _ => ?_) (fun c_ => by cases c_)
  show W _ _ _ _ _ _ _
  refine w_reg fun all => ?_
  refine t_qz 4 [2, 3, 5, 8, 9, 10, 11, 12, 13, 14, 15, 16, 17] (σ' := [(2, .int .i64 i2), (3, .int .i64 512), (5, .pointer (some ⟨b304, 0, none⟩)), (8, .pointer (some ⟨b305, 0, none⟩)), (9, .slice (some ⟨b306, 0, none⟩) 4 4), (10, .int .i64 (wr64 (512 - i2))), (11, .int .i64 1), (12, .int .i64 (wr64 (0 + (wr64 ((wr64 ((wr64 ((wr64 (1 * (wr64 (512 - i2)))) * (wr64 (512 - i2)))) * (wr64 (512 - i2)))) * a0_0))))), (13, .int .i64 (wr64 (0 + (wr64 ((wr64 ((wr64 ((wr64 (1 * (wr64 (512 - i2)))) * (wr64 (512 - i2)))) * (wr64 (512 - i2)))) * a0_1))))), (14, .slice (some ⟨b309, 0, none⟩) 4 4), (15, .int .i64 1), (16, .int .i64 (wr64 (3 * i2))), (17, .int .i64 0)]) (by kernel_rfl) ?_
  refine t_end ?_
  show W _ _ _ _ _ _ _
  refine w_reg fun all => ?_
  refine t_qz 3 [2, 3, 5, 8, 9, 10, 11, 12, 13, 14, 15, 16, 17] (σ' := [(2, .int .i64 i2), (3, .int .i64 512), (5, .pointer (some ⟨b304, 0, none⟩)), (8, .pointer (some ⟨b305, 0, none⟩)), (9, .slice (some ⟨b306, 0, none⟩) 4 4), (10, .int .i64 (wr64 (512 - i2))), (11, .int .i64 1), (12, .int .i64 (wr64 (0 + (wr64 ((wr64 ((wr64 ((wr64 (1 * (wr64 (512 - i2)))) * (wr64 (512 - i2)))) * (wr64 (512 - i2)))) * a0_0))))), (13, .int .i64 (wr64 (0 + (wr64 ((wr64 ((wr64 ((wr64 (1 * (wr64 (512 - i2)))) * (wr64 (512 - i2)))) * (wr64 (512 - i2)))) * a0_1))))), (14, .slice (some ⟨b309, 0, none⟩) 4 4), (15, .int .i64 1), (16, .int .i64 (wr64 (3 * i2))), (17, .int .i64 1)]) (by kernel_rfl) ?_
  refine t_end ?_
  show WL _ _ _ _ _ _ _ _
  refine wl_step ?_
  refine w_seq ?_
  refine w_seq ?_
  refine w_reg fun all => ?_
  refine t_qz 2 [2, 3, 5, 8, 9, 10, 11, 12, 13, 14, 15, 16, 17, 56, 57] (σ' := [(2, .int .i64 i2), (3, .int .i64 512), (5, .pointer (some ⟨b304, 0, none⟩)), (8, .pointer (some ⟨b305, 0, none⟩)), (9, .slice (some ⟨b306, 0, none⟩) 4 4), (10, .int .i64 (wr64 (512 - i2))), (11, .int .i64 1), (12, .int .i64 (wr64 (0 + (wr64 ((wr64 ((wr64 ((wr64 (1 * (wr64 (512 - i2)))) * (wr64 (512 - i2)))) * (wr64 (512 - i2)))) * a0_0))))), (13, .int .i64 (wr64 (0 + (wr64 ((wr64 ((wr64 ((wr64 (1 * (wr64 (512 - i2)))) * (wr64 (512 - i2)))) * (wr64 (512 - i2)))) * a0_1))))), (14, .slice (some ⟨b309, 0, none⟩) 4 4), (15, .int .i64 1), (16, .int .i64 (wr64 (3 * i2))), (17, .int .i64 1), (56, .int .i64 1), (57, .pointer (some ⟨b304, 0, none⟩))]) (by kernel_rfl) ?_
  refine t_v (.ld1 rfl rfl rfl (.at 6 rfl rfl)) ?_
  refine t_qz 1 [2, 3, 5, 8, 9, 10, 11, 12, 13, 14, 15, 16, 17, 59] (σ' := [(2, .int .i64 i2), (3, .int .i64 512), (5, .pointer (some ⟨b304, 0, none⟩)), (8, .pointer (some ⟨b305, 0, none⟩)), (9, .slice (some ⟨b306, 0, none⟩) 4 4), (10, .int .i64 (wr64 (512 - i2))), (11, .int .i64 1), (12, .int .i64 (wr64 (0 + (wr64 ((wr64 ((wr64 ((wr64 (1 * (wr64 (512 - i2)))) * (wr64 (512 - i2)))) * (wr64 (512 - i2)))) * a0_0))))), (13, .int .i64 (wr64 (0 + (wr64 ((wr64 ((wr64 ((wr64 (1 * (wr64 (512 - i2)))) * (wr64 (512 - i2)))) * (wr64 (512 - i2)))) * a0_1))))), (14, .slice (some ⟨b309, 0, none⟩) 4 4), (15, .int .i64 1), (16, .int .i64 (wr64 (3 * i2))), (17, .int .i64 1), (59, .bool true)]) (by kernel_rfl) ?_
  refine t_end ?_
  show W _ _ _ _ _ _ _
  refine w_cond rfl (fun _ => ?_) (fun c_ => by cases c_)
  show W _ _ _ _ _ _ _
  refine w_skip ?_
  show W _ _ _ _ _ _ _
  refine w_seq ?_
  refine w_block ?_
  refine w_seq ?_
  refine w_reg fun all => ?_
  refine t_qz 3 [2, 3, 5, 8, 9, 10, 11, 12, 13, 14, 15, 16, 17, 64] (σ' := [(2, .int .i64 i2), (3, .int .i64 512), (5, .pointer (some ⟨b304, 0, none⟩)), (8, .pointer (some ⟨b305, 0, none⟩)), (9, .slice (some ⟨b306, 0, none⟩) 4 4), (10, .int .i64 (wr64 (512 - i2))), (11, .int .i64 1), (12, .int .i64 (wr64 (0 + (wr64 ((wr64 ((wr64 ((wr64 (1 * (wr64 (512 - i2)))) * (wr64 (512 - i2)))) * (wr64 (512 - i2)))) * a0_0))))), (13, .int .i64 (wr64 (0 + (wr64 ((wr64 ((wr64 ((wr64 (1 * (wr64 (512 - i2)))) * (wr64 (512 - i2)))) * (wr64 (512 - i2)))) * a0_1))))), (14, .slice (some ⟨b309, 0, none⟩) 4 4), (15, .int .i64 1), (16, .int .i64 (wr64 (3 * i2))), (17, .int .i64 1), (64, .bool false)]) (by kernel_rfl) ?_
  refine t_end ?_
  show W _ _ _ _ _ _ _
  refine w_cond rfl (fun c_ => by cases c_) (fun _ => ?_)
  show W _ _ _ _ _ _ _
  refine w_reg fun all => ?_
  refine t_qz 4 [2, 3, 5, 8, 9, 10, 11, 12, 13, 14, 15, 16, 17] (σ' := [(2, .int .i64 i2), (3, .int .i64 512), (5, .pointer (some ⟨b304, 0, none⟩)), (8, .pointer (some ⟨b305, 0, none⟩)), (9, .slice (some ⟨b306, 0, none⟩) 4 4), (10, .int .i64 (wr64 (512 - i2))), (11, .int .i64 1), (12, .int .i64 (wr64 (0 + (wr64 ((wr64 ((wr64 ((wr64 (1 * (wr64 (512 - i2)))) * (wr64 (512 - i2)))) * (wr64 (512 - i2)))) * a0_0))))), (13, .int .i64 (wr64 (0 + (wr64 ((wr64 ((wr64 ((wr64 (1 * (wr64 (512 - i2)))) * (wr64 (512 - i2)))) * (wr64 (512 - i2)))) * a0_1))))), (14, .slice (some ⟨b309, 0, none⟩) 4 4), (15, .int .i64 1), (16, .int .i64 (wr64 ((wr64 (3 * i2)) * (wr64 (512 - i2))))), (17, .int .i64 1)]) (by kernel_rfl) ?_
  refine t_end ?_
  show W _ _ _ _ _ _ _
  refine w_reg fun all => ?_
  refine t_qz 3 [2, 3, 5, 8, 9, 10, 11, 12, 13, 14, 15, 16, 17] (σ' := [(2, .int .i64 i2), (3, .int .i64 512), (5, .pointer (some ⟨b304, 0, none⟩)), (8, .pointer (some ⟨b305, 0, none⟩)), (9, .slice (some ⟨b306, 0, none⟩) 4 4), (10, .int .i64 (wr64 (512 - i2))), (11, .int .i64 1), (12, .int .i64 (wr64 (0 + (wr64 ((wr64 ((wr64 ((wr64 (1 * (wr64 (512 - i2)))) * (wr64 (512 - i2)))) * (wr64 (512 - i2)))) * a0_0))))), (13, .int .i64 (wr64 (0 + (wr64 ((wr64 ((wr64 ((wr64 (1 * (wr64 (512 - i2)))) * (wr64 (512 - i2)))) * (wr64 (512 - i2)))) * a0_1))))), (14, .slice (some ⟨b309, 0, none⟩) 4 4), (15, .int .i64 1), (16, .int .i64 (wr64 ((wr64 (3 * i2)) * (wr64 (512 - i2))))), (17, .int .i64 2)]) (by kernel_rfl) ?_
  refine t_end ?_
  show WL _ _ _ _ _ _ _ _
  refine wl_step ?_
  refine w_seq ?_
  refine w_seq ?_
  refine w_reg fun all => ?_
  refine t_qz 2 [2, 3, 5, 8, 9, 10, 11, 12, 13, 14, 15, 16, 17, 56, 57] (σ' := [(2, .int .i64 i2), (3, .int .i64 512), (5, .pointer (some ⟨b304, 0, none⟩)), (8, .pointer (some ⟨b305, 0, none⟩)), (9, .slice (some ⟨b306, 0, none⟩) 4 4), (10, .int .i64 (wr64 (512 - i2))), (11, .int .i64 1), (12, .int .i64 (wr64 (0 + (wr64 ((wr64 ((wr64 ((wr64 (1 * (wr64 (512 - i2)))) * (wr64 (512 - i2)))) * (wr64 (512 - i2)))) * a0_0))))), (13, .int .i64 (wr64 (0 + (wr64 ((wr64 ((wr64 ((wr64 (1 * (wr64 (512 - i2)))) * (wr64 (512 - i2)))) * (wr64 (512 - i2)))) * a0_1))))), (14, .slice (some ⟨b309, 0, none⟩) 4 4), (15, .int .i64 1), (16, .int .i64 (wr64 ((wr64 (3 * i2)) * (wr64 (512 - i2))))), (17, .int .i64 2), (56, .int .i64 2), (57, .pointer (some ⟨b304, 0, none⟩))]) (by kernel_rfl) ?_
  refine t_v (.ld1 rfl rfl rfl (.at 6 rfl rfl)) ?_
  refine t_qz 1 [2, 3, 5, 8, 9, 10, 11, 12, 13, 14, 15, 16, 17, 59] (σ' := [(2, .int .i64 i2), (3, .int .i64 512), (5, .pointer (some ⟨b304, 0, none⟩)), (8, .pointer (some ⟨b305, 0, none⟩)), (9, .slice (some ⟨b306, 0, none⟩) 4 4), (10, .int .i64 (wr64 (512 - i2))), (11, .int .i64 1), (12, .int .i64 (wr64 (0 + (wr64 ((wr64 ((wr64 ((wr64 (1 * (wr64 (512 - i2)))) * (wr64 (512 - i2)))) * (wr64 (512 - i2)))) * a0_0))))), (13, .int .i64 (wr64 (0 + (wr64 ((wr64 ((wr64 ((wr64 (1 * (wr64 (512 - i2)))) * (wr64 (512 - i2)))) * (wr64 (512 - i2)))) * a0_1))))), (14, .slice (some ⟨b309, 0, none⟩) 4 4), (15, .int .i64 1), (16, .int .i64 (wr64 ((wr64 (3 * i2)) * (wr64 (512 - i2))))), (17, .int .i64 2), (59, .bool true)]) (by kernel_rfl) ?_
  refine t_end ?_
  show W _ _ _ _ _ _ _
  refine w_cond rfl (fun _ => ?_) (fun c_ => by cases c_)
  show W _ _ _ _ _ _ _
  refine w_skip ?_
  show W _ _ _ _ _ _ _
  refine w_seq ?_
  refine w_block ?_
  refine w_seq ?_
  refine w_reg fun all => ?_
  refine t_qz 3 [2, 3, 5, 8, 9, 10, 11, 12, 13, 14, 15, 16, 17, 64] (σ' := [(2, .int .i64 i2), (3, .int .i64 512), (5, .pointer (some ⟨b304, 0, none⟩)), (8, .pointer (some ⟨b305, 0, none⟩)), (9, .slice (some ⟨b306, 0, none⟩) 4 4), (10, .int .i64 (wr64 (512 - i2))), (11, .int .i64 1), (12, .int .i64 (wr64 (0 + (wr64 ((wr64 ((wr64 ((wr64 (1 * (wr64 (512 - i2)))) * (wr64 (512 - i2)))) * (wr64 (512 - i2)))) * a0_0))))), (13, .int .i64 (wr64 (0 + (wr64 ((wr64 ((wr64 ((wr64 (1 * (wr64 (512 - i2)))) * (wr64 (512 - i2)))) * (wr64 (512 - i2)))) * a0_1))))), (14, .slice (some ⟨b309, 0, none⟩) 4 4), (15, .int .i64 1), (16, .int .i64 (wr64 ((wr64 (3 * i2)) * (wr64 (512 - i2))))), (17, .int .i64 2), (64, .bool false)]) (by kernel_rfl) ?_
  refine t_end ?_
  show W _ _ _ _ _ _ _
  refine w_cond rfl (fun c_ => by cases c_) (fun _ => ?_)
  show W _ _ _ _ _ _ _
  refine w_reg fun all => ?_
  refine t_qz 4 [2, 3, 5, 8, 9, 10, 11, 12, 13, 14, 15, 16, 17] (σ' := [(2, .int .i64 i2), (3, .int .i64 512), (5, .pointer (some ⟨b304, 0, none⟩)), (8, .pointer (some ⟨b305, 0, none⟩)), (9, .slice (some ⟨b306, 0, none⟩) 4 4), (10, .int .i64 (wr64 (512 - i2))), (11, .int .i64 1), (12, .int .i64 (wr64 (0 + (wr64 ((wr64 ((wr64 ((wr64 (1 * (wr64 (512 - i2)))) * (wr64 (512 - i2)))) * (wr64 (512 - i2)))) * a0_0))))), (13, .int .i64 (wr64 (0 + (wr64 ((wr64 ((wr64 ((wr64 (1 * (wr64 (512 - i2)))) * (wr64 (512 - i2)))) * (wr64 (512 - i2)))) * a0_1))))), (14, .slice (some ⟨b309, 0, none⟩) 4 4), (15, .int .i64 1), (16, .int .i64 (wr64 ((wr64 ((wr64 (3 * i2)) * (wr64 (512 - i2)))) * (wr64 (512 - i2))))), (17, .int .i64 2)]) (by kernel_rfl) ?_
  refine t_end ?_
  show W _ _ _ _ _ _ _
  refine w_reg fun all => ?_
  refine t_qz 3 [2, 3, 5, 8, 9, 10, 11, 12, 13, 14, 15, 16, 17] (σ' := [(2, .int .i64 i2), (3, .int .i64 512), (5, .pointer (some ⟨b304, 0, none⟩)), (8, .pointer (some ⟨b305, 0, none⟩)), (9, .slice (some ⟨b306, 0, none⟩) 4 4), (10, .int .i64 (wr64 (512 - i2))), (11, .int .i64 1), (12, .int .i64 (wr64 (0 + (wr64 ((wr64 ((wr64 ((wr64 (1 * (wr64 (512 - i2)))) * (wr64 (512 - i2)))) * (wr64 (512 - i2)))) * a0_0))))), (13, .int .i64 (wr64 (0 + (wr64 ((wr64 ((wr64 ((wr64 (1 * (wr64 (512 - i2)))) * (wr64 (512 - i2)))) * (wr64 (512 - i2)))) * a0_1))))), (14, .slice (some ⟨b309, 0, none⟩) 4 4), (15, .int .i64 1), (16, .int .i64 (wr64 ((wr64 ((wr64 (3 * i2)) * (wr64 (512 - i2)))) * (wr64 (512 - i2))))), (17, .int .i64 3)]) (by kernel_rfl) ?_
  refine t_end ?_
  show WL _ _ _ _ _ _ _ _
  refine wl_step ?_
  refine w_seq ?_
  refine w_seq ?_
  refine w_reg fun all => ?_
  refine t_qz 2 [2, 3, 5, 8, 9, 10, 11, 12, 13, 14, 15, 16, 17, 56, 57] (σ' := [(2, .int .i64 i2), (3, .int .i64 512), (5, .pointer (some ⟨b304, 0, none⟩)), (8, .pointer (some ⟨b305, 0, none⟩)), (9, .slice (some ⟨b306, 0, none⟩) 4 4), (10, .int .i64 (wr64 (512 - i2))), (11, .int .i64 1), (12, .int .i64 (wr64 (0 + (wr64 ((wr64 ((wr64 ((wr64 (1 * (wr64 (512 - i2)))) * (wr64 (512 - i2)))) * (wr64 (512 - i2)))) * a0_0))))), (13, .int .i64 (wr64 (0 + (wr64 ((wr64 ((wr64 ((wr64 (1 * (wr64 (512 - i2)))) * (wr64 (512 - i2)))) * (wr64 (512 - i2)))) * a0_1))))), (14, .slice (some ⟨b309, 0, none⟩) 4 4), (15, .int .i64 1), (16, .int .i64 (wr64 ((wr64 ((wr64 (3 * i2)) * (wr64 (512 - i2)))) * (wr64 (512 - i2))))), (17, .int .i64 3), (56, .int .i64 3), (57, .pointer (some ⟨b304, 0, none⟩))]) (by kernel_rfl) ?_
  refine t_v (.ld1 rfl rfl rfl (.at 6 rfl rfl)) ?_
  refine t_qz 1 [2, 3, 5, 8, 9, 10, 11, 12, 13, 14, 15, 16, 17, 59] (σ' := [(2, .int .i64 i2), (3, .int .i64 512), (5, .pointer (some ⟨b304, 0, none⟩)), (8, .pointer (some ⟨b305, 0, none⟩)), (9, .slice (some ⟨b306, 0, none⟩) 4 4), (10, .int .i64 (wr64 (512 - i2))), (11, .int .i64 1), (12, .int .i64 (wr64 (0 + (wr64 ((wr64 ((wr64 ((wr64 (1 * (wr64 (512 - i2)))) * (wr64 (512 - i2)))) * (wr64 (512 - i2)))) * a0_0))))), (13, .int .i64 (wr64 (0 + (wr64 ((wr64 ((wr64 ((wr64 (1 * (wr64 (512 - i2)))) * (wr64 (512 - i2)))) * (wr64 (512 - i2)))) * a0_1))))), (14, .slice (some ⟨b309, 0, none⟩) 4 4), (15, .int .i64 1), (16, .int .i64 (wr64 ((wr64 ((wr64 (3 * i2)) * (wr64 (512 - i2)))) * (wr64 (512 - i2))))), (17, .int .i64 3), (59, .bool false)]) (by kernel_rfl) ?_
  refine t_end ?_
  show W _ _ _ _ _ _ _
  refine w_cond rfl (fun c_ => by cases c_) (fun _ => ?_)
  show W _ _ _ _ _ _ _
  refine w_exit ?_
  show W _ _ _ _ _ _ _
  refine w_seq ?_
  refine w_reg fun all => ?_
  refine t_qz 6 [2, 3, 5, 8, 9, 10, 11, 13, 14, 15, 16, 71, 72, 76] (σ' := [(2, .int .i64 i2), (3, .int .i64 512), (5, .pointer (some ⟨b304, 0, none⟩)), (8, .pointer (some ⟨b305, 0, none⟩)), (9, .slice (some ⟨b306, 0, none⟩) 4 4), (10, .int .i64 (wr64 (512 - i2))), (11, .int .i64 1), (13, .int .i64 (wr64 (0 + (wr64 ((wr64 ((wr64 ((wr64 (1 * (wr64 (512 - i2)))) * (wr64 (512 - i2)))) * (wr64 (512 - i2)))) * a0_1))))), (14, .slice (some ⟨b309, 0, none⟩) 4 4), (15, .int .i64 1), (16, .int .i64 (wr64 ((wr64 ((wr64 (3 * i2)) * (wr64 (512 - i2)))) * (wr64 (512 - i2))))), (71, .int .i64 (wr64 (0 + (wr64 ((wr64 ((wr64 ((wr64 (1 * (wr64 (512 - i2)))) * (wr64 (512 - i2)))) * (wr64 (512 - i2)))) * a0_0))))), (72, .int .i64 (wr64 ((wr64 ((wr64 (3 * i2)) * (wr64 (512 - i2)))) * (wr64 (512 - i2))))), (76, .pointer (some ⟨b306, 2, none⟩))]) (by kernel_rfl) ?_
  refine t_v (.ld1 rfl rfl rfl (.at 4 rfl rfl)) ?_
  refine t_qz 3 [2, 3, 5, 8, 9, 10, 11, 12, 13, 14, 15, 16] (σ' := [(2, .int .i64 i2), (3, .int .i64 512), (5, .pointer (some ⟨b304, 0, none⟩)), (8, .pointer (some ⟨b305, 0, none⟩)), (9, .slice (some ⟨b306, 0, none⟩) 4 4), (10, .int .i64 (wr64 (512 - i2))), (11, .int .i64 1), (12, .int .i64 (wr64 ((wr64 (0 + (wr64 ((wr64 ((wr64 ((wr64 (1 * (wr64 (512 - i2)))) * (wr64 (512 - i2)))) * (wr64 (512 - i2)))) * a0_0)))) + (wr64 ((wr64 ((wr64 ((wr64 (3 * i2)) * (wr64 (512 - i2)))) * (wr64 (512 - i2)))) * s1_1))))), (13, .int .i64 (wr64 (0 + (wr64 ((wr64 ((wr64 ((wr64 (1 * (wr64 (512 - i2)))) * (wr64 (512 - i2)))) * (wr64 (512 - i2)))) * a0_1))))), (14, .slice (some ⟨b309, 0, none⟩) 4 4), (15, .int .i64 1), (16, .int .i64 (wr64 ((wr64 ((wr64 (3 * i2)) * (wr64 (512 - i2)))) * (wr64 (512 - i2)))))]) (by kernel_rfl) ?_
  refine t_end ?_
  show W _ _ _ _ _ _ _
  refine w_reg fun all => ?_
  refine t_qz 6 [2, 3, 5, 8, 9, 10, 11, 12, 14, 15, 80, 81, 85] (σ' := [(2, .int .i64 i2), (3, .int .i64 512), (5, .pointer (some ⟨b304, 0, none⟩)), (8, .pointer (some ⟨b305, 0, none⟩)), (9, .slice (some ⟨b306, 0, none⟩) 4 4), (10, .int .i64 (wr64 (512 - i2))), (11, .int .i64 1), (12, .int .i64 (wr64 ((wr64 (0 + (wr64 ((wr64 ((wr64 ((wr64 (1 * (wr64 (512 - i2)))) * (wr64 (512 - i2)))) * (wr64 (512 - i2)))) * a0_0)))) + (wr64 ((wr64 ((wr64 ((wr64 (3 * i2)) * (wr64 (512 - i2)))) * (wr64 (512 - i2)))) * s1_1))))), (14, .slice (some ⟨b309, 0, none⟩) 4 4), (15, .int .i64 1), (80, .int .i64 (wr64 (0 + (wr64 ((wr64 ((wr64 ((wr64 (1 * (wr64 (512 - i2)))) * (wr64 (512 - i2)))) * (wr64 (512 - i2)))) * a0_1))))), (81, .int .i64 (wr64 ((wr64 ((wr64 (3 * i2)) * (wr64 (512 - i2)))) * (wr64 (512 - i2))))), (85, .pointer (some ⟨b306, 3, none⟩))]) (by kernel_rfl) ?_
  refine t_v (.ld1 rfl rfl rfl (.at 4 rfl rfl)) ?_
  refine t_qz 3 [2, 3, 5, 8, 9, 10, 11, 12, 13, 14, 15] (σ' := [(2, .int .i64 i2), (3, .int .i64 512), (5, .pointer (some ⟨b304, 0, none⟩)), (8, .pointer (some ⟨b305, 0, none⟩)), (9, .slice (some ⟨b306, 0, none⟩) 4 4), (10, .int .i64 (wr64 (512 - i2))), (11, .int .i64 1), (12, .int .i64 (wr64 ((wr64 (0 + (wr64 ((wr64 ((wr64 ((wr64 (1 * (wr64 (512 - i2)))) * (wr64 (512 - i2)))) * (wr64 (512 - i2)))) * a0_0)))) + (wr64 ((wr64 ((wr64 ((wr64 (3 * i2)) * (wr64 (512 - i2)))) * (wr64 (512 - i2)))) * s1_1))))), (13, .int .i64 (wr64 ((wr64 (0 + (wr64 ((wr64 ((wr64 ((wr64 (1 * (wr64 (512 - i2)))) * (wr64 (512 - i2)))) * (wr64 (512 - i2)))) * a0_1)))) + (wr64 ((wr64 ((wr64 ((wr64 (3 * i2)) * (wr64 (512 - i2)))) * (wr64 (512 - i2)))) * s1_2))))), (14, .slice (some ⟨b309, 0, none⟩) 4 4), (15, .int .i64 1)]) (by kernel_rfl) ?_
  refine t_end ?_
  show W _ _ _ _ _ _ _
  refine w_reg fun all => ?_
  refine t_qz 3 [2, 3, 5, 8, 9, 10, 11, 12, 13, 14, 15] (σ' := [(2, .int .i64 i2), (3, .int .i64 512), (5, .pointer (some ⟨b304, 0, none⟩)), (8, .pointer (some ⟨b305, 0, none⟩)), (9, .slice (some ⟨b306, 0, none⟩) 4 4), (10, .int .i64 (wr64 (512 - i2))), (11, .int .i64 1), (12, .int .i64 (wr64 ((wr64 (0 + (wr64 ((wr64 ((wr64 ((wr64 (1 * (wr64 (512 - i2)))) * (wr64 (512 - i2)))) * (wr64 (512 - i2)))) * a0_0)))) + (wr64 ((wr64 ((wr64 ((wr64 (3 * i2)) * (wr64 (512 - i2)))) * (wr64 (512 - i2)))) * s1_1))))), (13, .int .i64 (wr64 ((wr64 (0 + (wr64 ((wr64 ((wr64 ((wr64 (1 * (wr64 (512 - i2)))) * (wr64 (512 - i2)))) * (wr64 (512 - i2)))) * a0_1)))) + (wr64 ((wr64 ((wr64 ((wr64 (3 * i2)) * (wr64 (512 - i2)))) * (wr64 (512 - i2)))) * s1_2))))), (14, .slice (some ⟨b309, 0, none⟩) 4 4), (15, .int .i64 2)]) (by kernel_rfl) ?_
  refine t_end ?_
  show WL _ _ _ _ _ _ _ _
  refine wl_step ?_
  refine w_seq ?_
  refine w_seq ?_
  refine w_reg fun all => ?_
  refine t_qz 2 [2, 3, 5, 8, 9, 10, 11, 12, 13, 14, 15, 46, 47] (σ' := [(2, .int .i64 i2), (3, .int .i64 512), (5, .pointer (some ⟨b304, 0, none⟩)), (8, .pointer (some ⟨b305, 0, none⟩)), (9, .slice (some ⟨b306, 0, none⟩) 4 4), (10, .int .i64 (wr64 (512 - i2))), (11, .int .i64 1), (12, .int .i64 (wr64 ((wr64 (0 + (wr64 ((wr64 ((wr64 ((wr64 (1 * (wr64 (512 - i2)))) * (wr64 (512 - i2)))) * (wr64 (512 - i2)))) * a0_0)))) + (wr64 ((wr64 ((wr64 ((wr64 (3 * i2)) * (wr64 (512 - i2)))) * (wr64 (512 - i2)))) * s1_1))))), (13, .int .i64 (wr64 ((wr64 (0 + (wr64 ((wr64 ((wr64 ((wr64 (1 * (wr64 (512 - i2)))) * (wr64 (512 - i2)))) * (wr64 (512 - i2)))) * a0_1)))) + (wr64 ((wr64 ((wr64 ((wr64 (3 * i2)) * (wr64 (512 - i2)))) * (wr64 (512 - i2)))) * s1_2))))), (14, .slice (some ⟨b309, 0, none⟩) 4 4), (15, .int .i64 2), (46, .int .i64 2), (47, .pointer (some ⟨b304, 0, none⟩))]) (by kernel_rfl) ?_
  refine t_v (.ld1 rfl rfl rfl (.at 6 rfl rfl)) ?_
  refine t_qz 1 [2, 3, 5, 8, 9, 10, 11, 12, 13, 14, 15, 49] (σ' := [(2, .int .i64 i2), (3, .int .i64 512), (5, .pointer (some ⟨b304, 0, none⟩)), (8, .pointer (some ⟨b305, 0, none⟩)), (9, .slice (some ⟨b306, 0, none⟩) 4 4), (10, .int .i64 (wr64 (512 - i2))), (11, .int .i64 1), (12, .int .i64 (wr64 ((wr64 (0 + (wr64 ((wr64 ((wr64 ((wr64 (1 * (wr64 (512 - i2)))) * (wr64 (512 - i2)))) * (wr64 (512 - i2)))) * a0_0)))) + (wr64 ((wr64 ((wr64 ((wr64 (3 * i2)) * (wr64 (512 - i2)))) * (wr64 (512 - i2)))) * s1_1))))), (13, .int .i64 (wr64 ((wr64 (0 + (wr64 ((wr64 ((wr64 ((wr64 (1 * (wr64 (512 - i2)))) * (wr64 (512 - i2)))) * (wr64 (512 - i2)))) * a0_1)))) + (wr64 ((wr64 ((wr64 ((wr64 (3 * i2)) * (wr64 (512 - i2)))) * (wr64 (512 - i2)))) * s1_2))))), (14, .slice (some ⟨b309, 0, none⟩) 4 4), (15, .int .i64 2), (49, .bool true)]) (by kernel_rfl) ?_
  refine t_end ?_
  show W _ _ _ _ _ _ _
  refine w_cond rfl (fun _ => ?_) (fun c_ => by cases c_)
  show W _ _ _ _ _ _ _
  refine w_skip ?_
  show W _ _ _ _ _ _ _
  refine w_seq ?_
  refine w_block ?_
  refine w_seq ?_
  refine w_reg fun all => ?_
  refine t_qz 3 [2, 3, 5, 8, 9, 10, 11, 12, 13, 14, 15, 54] (σ' := [(2, .int .i64 i2), (3, .int .i64 512), (5, .pointer (some ⟨b304, 0, none⟩)), (8, .pointer (some ⟨b305, 0, none⟩)), (9, .slice (some ⟨b306, 0, none⟩) 4 4), (10, .int .i64 (wr64 (512 - i2))), (11, .int .i64 1), (12, .int .i64 (wr64 ((wr64 (0 + (wr64 ((wr64 ((wr64 ((wr64 (1 * (wr64 (512 - i2)))) * (wr64 (512 - i2)))) * (wr64 (512 - i2)))) * a0_0)))) + (wr64 ((wr64 ((wr64 ((wr64 (3 * i2)) * (wr64 (512 - i2)))) * (wr64 (512 - i2)))) * s1_1))))), (13, .int .i64 (wr64 ((wr64 (0 + (wr64 ((wr64 ((wr64 ((wr64 (1 * (wr64 (512 - i2)))) * (wr64 (512 - i2)))) * (wr64 (512 - i2)))) * a0_1)))) + (wr64 ((wr64 ((wr64 ((wr64 (3 * i2)) * (wr64 (512 - i2)))) * (wr64 (512 - i2)))) * s1_2))))), (14, .slice (some ⟨b309, 0, none⟩) 4 4), (15, .int .i64 2), (54, .pointer (some ⟨b309, 2, none⟩))]) (by kernel_rfl) ?_
  refine t_v (.ld1 rfl rfl rfl (.at 1 rfl rfl)) ?_
  refine t_qz 1 [2, 3, 5, 8, 9, 10, 11, 12, 13, 14, 15, 16] (σ' := [(2, .int .i64 i2), (3, .int .i64 512), (5, .pointer (some ⟨b304, 0, none⟩)), (8, .pointer (some ⟨b305, 0, none⟩)), (9, .slice (some ⟨b306, 0, none⟩) 4 4), (10, .int .i64 (wr64 (512 - i2))), (11, .int .i64 1), (12, .int .i64 (wr64 ((wr64 (0 + (wr64 ((wr64 ((wr64 ((wr64 (1 * (wr64 (512 - i2)))) * (wr64 (512 - i2)))) * (wr64 (512 - i2)))) * a0_0)))) + (wr64 ((wr64 ((wr64 ((wr64 (3 * i2)) * (wr64 (512 - i2)))) * (wr64 (512 - i2)))) * s1_1))))), (13, .int .i64 (wr64 ((wr64 (0 + (wr64 ((wr64 ((wr64 ((wr64 (1 * (wr64 (512 - i2)))) * (wr64 (512 - i2)))) * (wr64 (512 - i2)))) * a0_1)))) + (wr64 ((wr64 ((wr64 ((wr64 (3 * i2)) * (wr64 (512 - i2)))) * (wr64 (512 - i2)))) * s1_2))))), (14, .slice (some ⟨b309, 0, none⟩) 4 4), (15, .int .i64 2), (16, .int .i64 3)]) (by kernel_rfl) ?_
  refine t_end ?_
  show W _ _ _ _ _ _ _
  refine w_seq ?_
  refine w_seq ?_
  refine w_reg fun all => ?_
  refine t_qz 1 [2, 3, 5, 8, 9, 10, 11, 12, 13, 14, 15, 16, 17] (σ' := [(2, .int .i64 i2), (3, .int .i64 512), (5, .pointer (some ⟨b304, 0, none⟩)), (8, .pointer (some ⟨b305, 0, none⟩)), (9, .slice (some ⟨b306, 0, none⟩) 4 4), (10, .int .i64 (wr64 (512 - i2))), (11, .int .i64 1), (12, .int .i64 (wr64 ((wr64 (0 + (wr64 ((wr64 ((wr64 ((wr64 (1 * (wr64 (512 - i2)))) * (wr64 (512 - i2)))) * (wr64 (512 - i2)))) * a0_0)))) + (wr64 ((wr64 ((wr64 ((wr64 (3 * i2)) * (wr64 (512 - i2)))) * (wr64 (512 - i2)))) * s1_1))))), (13, .int .i64 (wr64 ((wr64 (0 + (wr64 ((wr64 ((wr64 ((wr64 (1 * (wr64 (512 - i2)))) * (wr64 (512 - i2)))) * (wr64 (512 - i2)))) * a0_1)))) + (wr64 ((wr64 ((wr64 ((wr64 (3 * i2)) * (wr64 (512 - i2)))) * (wr64 (512 - i2)))) * s1_2))))), (14, .slice (some ⟨b309, 0, none⟩) 4 4), (15, .int .i64 2), (16, .int .i64 3), (17, .int .i64 0)]) (by kernel_rfl) ?_
  refine t_end ?_
  show W _ _ _ _ _ _ _
  refine w_block ?_
  refine w_lun 10 ?_
  refine wl_step ?_
  refine w_seq ?_
  refine w_seq ?_
  refine w_reg fun all => ?_
  refine t_qz 2 [2, 3, 5, 8, 9, 10, 11, 12, 13, 14, 15, 16, 17, 56, 57] (σ' := [(2, .int .i64 i2), (3, .int .i64 512), (5, .pointer (some ⟨b304, 0, none⟩)), (8, .pointer (some ⟨b305, 0, none⟩)), (9, .slice (some ⟨b306, 0, none⟩) 4 4), (10, .int .i64 (wr64 (512 - i2))), (11, .int .i64 1), (12, .int .i64 (wr64 ((wr64 (0 + (wr64 ((wr64 ((wr64 ((wr64 (1 * (wr64 (512 - i2)))) * (wr64 (512 - i2)))) * (wr64 (512 - i2)))) * a0_0)))) + (wr64 ((wr64 ((wr64 ((wr64 (3 * i2)) * (wr64 (512 - i2)))) * (wr64 (512 - i2)))) * s1_1))))), (13, .int .i64 (wr64 ((wr64 (0 + (wr64 ((wr64 ((wr64 ((wr64 (1 * (wr64 (512 - i2)))) * (wr64 (512 - i2)))) * (wr64 (512 - i2)))) * a0_1)))) + (wr64 ((wr64 ((wr64 ((wr64 (3 * i2)) * (wr64 (512 - i2)))) * (wr64 (512 - i2)))) * s1_2))))), (14, .slice (some ⟨b309, 0, none⟩) 4 4), (15, .int .i64 2), (16, .int .i64 3), (17, .int .i64 0), (56, .int .i64 0), (57, .pointer (some ⟨b304, 0, none⟩))]) (by kernel_rfl) ?_
  refine t_v (.ld1 rfl rfl rfl (.at 6 rfl rfl)) ?_
  refine t_qz 1 [2, 3, 5, 8, 9, 10, 11, 12, 13, 14, 15, 16, 17, 59] (σ' := [(2, .int .i64 i2), (3, .int .i64 512), (5, .pointer (some ⟨b304, 0, none⟩)), (8, .pointer (some ⟨b305, 0, none⟩)), (9, .slice (some ⟨b306, 0, none⟩) 4 4), (10, .int .i64 (wr64 (512 - i2))), (11, .int .i64 1), (12, .int .i64 (wr64 ((wr64 (0 + (wr64 ((wr64 ((wr64 ((wr64 (1 * (wr64 (512 - i2)))) * (wr64 (512 - i2)))) * (wr64 (512 - i2)))) * a0_0)))) + (wr64 ((wr64 ((wr64 ((wr64 (3 * i2)) * (wr64 (512 - i2)))) * (wr64 (512 - i2)))) * s1_1))))), (13, .int .i64 (wr64 ((wr64 (0 + (wr64 ((wr64 ((wr64 ((wr64 (1 * (wr64 (512 - i2)))) * (wr64 (512 - i2)))) * (wr64 (512 - i2)))) * a0_1)))) + (wr64 ((wr64 ((wr64 ((wr64 (3 * i2)) * (wr64 (512 - i2)))) * (wr64 (512 - i2)))) * s1_2))))), (14, .slice (some ⟨b309, 0, none⟩) 4 4), (15, .int .i64 2), (16, .int .i64 3), (17, .int .i64 0), (59, .bool true)]) (by kernel_rfl) ?_
  refine t_end ?_
  show W _ _ _ _ _ _ _
  refine w_cond rfl (fun _ => ?_) (fun c_ => by cases c_)
  show W _ _ _ _ _ _ _
  refine w_skip ?_
  show W _ _ _ _ _ _ _
  refine w_seq ?_
  refine w_block ?_
  refine w_seq ?_
  refine w_reg fun all => ?_
  refine t_qz 3 [2, 3, 5, 8, 9, 10, 11, 12, 13, 14, 15, 16, 17, 64] (σ' := [(2, .int .i64 i2), (3, .int .i64 512), (5, .pointer (some ⟨b304, 0, none⟩)), (8, .pointer (some ⟨b305, 0, none⟩)), (9, .slice (some ⟨b306, 0, none⟩) 4 4), (10, .int .i64 (wr64 (512 - i2))), (11, .int .i64 1), (12, .int .i64 (wr64 ((wr64 (0 + (wr64 ((wr64 ((wr64 ((wr64 (1 * (wr64 (512 - i2)))) * (wr64 (512 - i2)))) * (wr64 (512 - i2)))) * a0_0)))) + (wr64 ((wr64 ((wr64 ((wr64 (3 * i2)) * (wr64 (512 - i2)))) * (wr64 (512 - i2)))) * s1_1))))), (13, .int .i64 (wr64 ((wr64 (0 + (wr64 ((wr64 ((wr64 ((wr64 (1 * (wr64 (512 - i2)))) * (wr64 (512 - i2)))) * (wr64 (512 - i2)))) * a0_1)))) + (wr64 ((wr64 ((wr64 ((wr64 (3 * i2)) * (wr64 (512 - i2)))) * (wr64 (512 - i2)))) * s1_2))))), (14, .slice (some ⟨b309, 0, none⟩) 4 4), (15, .int .i64 2), (16, .int .i64 3), (17, .int .i64 0), (64, .bool true)]) (by kernel_rfl) ?_
  refine t_end ?_
  show W _ _ _ _ _ _ _
  refine w_cond rfl (fun _ => ?_) (fun c_ => by cases c_)
  show W _ _ _ _ _ _ _
  refine w_reg fun all => ?_
  refine t_qz 4 [2, 3, 5, 8, 9, 10, 11, 12, 13, 14, 15, 16, 17] (σ' := [(2, .int .i64 i2), (3, .int .i64 512), (5, .pointer (some ⟨b304, 0, none⟩)), (8, .pointer (some ⟨b305, 0, none⟩)), (9, .slice (some ⟨b306, 0, none⟩) 4 4), (10, .int .i64 (wr64 (512 - i2))), (11, .int .i64 1), (12, .int .i64 (wr64 ((wr64 (0 + (wr64 ((wr64 ((wr64 ((wr64 (1 * (wr64 (512 - i2)))) * (wr64 (512 - i2)))) * (wr64 (512 - i2)))) * a0_0)))) + (wr64 ((wr64 ((wr64 ((wr64 (3 * i2)) * (wr64 (512 - i2)))) * (wr64 (512 - i2)))) * s1_1))))), (13, .int .i64 (wr64 ((wr64 (0 + (wr64 ((wr64 ((wr64 ((wr64 (1 * (wr64 (512 - i2)))) * (wr64 (512 - i2)))) * (wr64 (512 - i2)))) * a0_1)))) + (wr64 ((wr64 ((wr64 ((wr64 (3 * i2)) * (wr64 (512 - i2)))) * (wr64 (512 - i2)))) * s1_2))))), (14, .slice (some ⟨b309, 0, none⟩) 4 4), (15, .int .i64 2), (16, .int .i64 (wr64 (3 * i2))), (17, .int .i64 0)]) (by kernel_rfl) ?_
  refine t_end ?_
  show W _ _ _ _ _ _ _
  refine w_reg fun all => ?_
  refine t_qz 3 [2, 3, 5, 8, 9, 10, 11, 12, 13, 14, 15, 16, 17] (σ' := [(2, .int .i64 i2), (3, .int .i64 512), (5, .pointer (some ⟨b304, 0, none⟩)), (8, .pointer (some ⟨b305, 0, none⟩)), (9, .slice (some ⟨b306, 0, none⟩) 4 4), (10, .int .i64 (wr64 (512 - i2))), (11, .int .i64 1), (12, .int .i64 (wr64 ((wr64 (0 + (wr64 ((wr64 ((wr64 ((wr64 (1 * (wr64 (512 - i2)))) * (wr64 (512 - i2)))) * (wr64 (512 - i2)))) * a0_0)))) + (wr64 ((wr64 ((wr64 ((wr64 (3 * i2)) * (wr64 (512 - i2)))) * (wr64 (512 - i2)))) * s1_1))))), (13, .int .i64 (wr64 ((wr64 (0 + (wr64 ((wr64 ((wr64 ((wr64 (1 * (wr64 (512 - i2)))) * (wr64 (512 - i2)))) * (wr64 (512 - i2)))) * a0_1)))) + (wr64 ((wr64 ((wr64 ((wr64 (3 * i2)) * (wr64 (512 - i2)))) * (wr64 (512 - i2)))) * s1_2))))), (14, .slice (some ⟨b309, 0, none⟩) 4 4), (15, .int .i64 2), (16, .int .i64 (wr64 (3 * i2))), (17, .int .i64 1)]) (by kernel_rfl) ?_
  refine t_end ?_
  show WL _ _ _ _ _ _ _ _
  refine wl_step ?_
  refine w_seq ?_
  refine w_seq ?_
  refine w_reg fun all => ?_
  refine t_qz 2 [2, 3, 5, 8, 9, 10, 11, 12, 13, 14, 15, 16, 17, 56, 57] (σ' := [(2, .int .i64 i2), (3, .int .i64 512), (5, .pointer (some ⟨b304, 0, none⟩)), (8, .pointer (some ⟨b305, 0, none⟩)), (9, .slice (some ⟨b306, 0, none⟩) 4 4), (10, .int .i64 (wr64 (512 - i2))), (11, .int .i64 1), (12, .int .i64 (wr64 ((wr64 (0 + (wr64 ((wr64 ((wr64 ((wr64 (1 * (wr64 (512 - i2)))) * (wr64 (512 - i2)))) * (wr64 (512 - i2)))) * a0_0)))) + (wr64 ((wr64 ((wr64 ((wr64 (3 * i2)) * (wr64 (512 - i2)))) * (wr64 (512 - i2)))) * s1_1))))), (13, .int .i64 (wr64 ((wr64 (0 + (wr64 ((wr64 ((wr64 ((wr64 (1 * (wr64 (512 - i2)))) * (wr64 (512 - i2)))) * (wr64 (512 - i2)))) * a0_1)))) + (wr64 ((wr64 ((wr64 ((wr64 (3 * i2)) * (wr64 (512 - i2)))) * (wr64 (512 - i2)))) * s1_2))))), (14, .slice (some ⟨b309, 0, none⟩) 4 4), (15, .int .i64 2), (16, .int .i64 (wr64 (3 * i2))), (17, .int .i64 1), (56, .int .i64 1), (57, .pointer (some ⟨b304, 0, none⟩))]) (by kernel_rfl) ?_
  refine t_v (.ld1 rfl rfl rfl (.at 6 rfl rfl)) ?_
  refine t_qz 1 [2, 3, 5, 8, 9, 10, 11, 12, 13, 14, 15, 16, 17, 59] (σ' := [(2, .int .i64 i2), (3, .int .i64 512), (5, .pointer (some ⟨b304, 0, none⟩)), (8, .pointer (some ⟨b305, 0, none⟩)), (9, .slice (some ⟨b306, 0, none⟩) 4 4), (10, .int .i64 (wr64 (512 - i2))), (11, .int .i64 1), (12, .int .i64 (wr64 ((wr64 (0 + (wr64 ((wr64 ((wr64 ((wr64 (1 * (wr64 (512 - i2)))) * (wr64 (512 - i2)))) * (wr64 (512 - i2)))) * a0_0)))) + (wr64 ((wr64 ((wr64 ((wr64 (3 * i2)) * (wr64 (512 - i2)))) * (wr64 (512 - i2)))) * s1_1))))), (13, .int .i64 (wr64 ((wr64 (0 + (wr64 ((wr64 ((wr64 ((wr64 (1 * (wr64 (512 - i2)))) * (wr64 (512 - i2)))) * (wr64 (512 - i2)))) * a0_1)))) + (wr64 ((wr64 ((wr64 ((wr64 (3 * i2)) * (wr64 (512 - i2)))) * (wr64 (512 - i2)))) * s1_2))))), (14, .slice (some ⟨b309, 0, none⟩) 4 4), (15, .int .i64 2), (16, .int .i64 (wr64 (3 * i2))), (17, .int .i64 1), (59, .bool true)]) (by kernel_rfl) ?_
  refine t_end ?_
  show W _ _ _ _ _ _ _
  refine w_cond rfl (fun _ => ?_) (fun c_ => by cases c_)
  show W _ _ _ _ _ _ _
  refine w_skip ?_
  show W _ _ _ _ _ _ _
  refine w_seq ?_
  refine w_block ?_
  refine w_seq ?_
  refine w_reg fun all => ?_
  refine t_qz 3 [2, 3, 5, 8, 9, 10, 11, 12, 13, 14, 15, 16, 17, 64] (σ' := [(2, .int .i64 i2), (3, .int .i64 512), (5, .pointer (some ⟨b304, 0, none⟩)), (8, .pointer (some ⟨b305, 0, none⟩)), (9, .slice (some ⟨b306, 0, none⟩) 4 4), (10, .int .i64 (wr64 (512 - i2))), (11, .int .i64 1), (12, .int .i64 (wr64 ((wr64 (0 + (wr64 ((wr64 ((wr64 ((wr64 (1 * (wr64 (512 - i2)))) * (wr64 (512 - i2)))) * (wr64 (512 - i2)))) * a0_0)))) + (wr64 ((wr64 ((wr64 ((wr64 (3 * i2)) * (wr64 (512 - i2)))) * (wr64 (512 - i2)))) * s1_1))))), (13, .int .i64 (wr64 ((wr64 (0 + (wr64 ((wr64 ((wr64 ((wr64 (1 * (wr64 (512 - i2)))) * (wr64 (512 - i2)))) * (wr64 (512 - i2)))) * a0_1)))) + (wr64 ((wr64 ((wr64 ((wr64 (3 * i2)) * (wr64 (512 - i2)))) * (wr64 (512 - i2)))) * s1_2))))), (14, .slice (some ⟨b309, 0, none⟩) 4 4), (15, .int .i64 2), (16, .int .i64 (wr64 (3 * i2))), (17, .int .i64 1), (64, .bool true)]) (by kernel_rfl) ?_
  refine t_end ?_
  show W _ _ _ _ _ _ _
  refine w_cond rfl (fun _ => ?_) (fun c_ => by cases c_)
  show W _ _ _ _ _ _ _
  refine w_reg fun all => ?_
  refine t_qz 4 [2, 3, 5, 8, 9, 10, 11, 12, 13, 14, 15, 16, 17] (σ' := [(2, .int .i64 i2), (3, .int .i64 512), (5, .pointer (some ⟨b304, 0, none⟩)), (8, .pointer (some ⟨b305, 0, none⟩)), (9, .slice (some ⟨b306, 0, none⟩) 4 4), (10, .int .i64 (wr64 (512 - i2))), (11, .int .i64 1), (12, .int .i64 (wr64 ((wr64 (0 + (wr64 ((wr64 ((wr64 ((wr64 (1 * (wr64 (512 - i2)))) * (wr64 (512 - i2)))) * (wr64 (512 - i2)))) * a0_0)))) + (wr64 ((wr64 ((wr64 ((wr64 (3 * i2)) * (wr64 (512 - i2)))) * (wr64 (512 - i2)))) * s1_1))))), (13, .int .i64 (wr64 ((wr64 (0 + (wr64 ((wr64 ((wr64 ((wr64 (1 * (wr64 (512 - i2)))) * (wr64 (512 - i2)))) * (wr64 (512 - i2)))) * a0_1)))) + (wr64 ((wr64 ((wr64 ((wr64 (3 * i2)) * (wr64 (512 - i2)))) * (wr64 (512 - i2)))) * s1_2))))), (14, .slice (some ⟨b309, 0, none⟩) 4 4), (15, .int .i64 2), (16, .int .i64 (wr64 ((wr64 (3 * i2)) * i2))), (17, .int .i64 1)]) (by kernel_rfl) ?_
  refine t_end ?_
  show W _ _ _ _ _ _ _
  refine w_reg fun all => ?_
  refine t_qz 3 [2, 3, 5, 8, 9, 10, 11, 12, 13, 14, 15, 16, 17] (σ' := [(2, .int .i64 i2), (3, .int .i64 512), (5, .pointer (some ⟨b304, 0, none⟩)), (8, .pointer (some ⟨b305, 0, none⟩)), (9, .slice (some ⟨b306, 0, none⟩) 4 4), (10, .int .i64 (wr64 (512 - i2))), (11, .int .i64 1), (12, .int .i64 (wr64 ((wr64 (0 + (wr64 ((wr64 ((wr64 ((wr64 (1 * (wr64 (512 - i2)))) * (wr64 (512 - i2)))) * (wr64 (512 - i2)))) * a0_0)))) + (wr64 ((wr64 ((wr64 ((wr64 (3 * i2)) * (wr64 (512 - i2)))) * (wr64 (512 - i2)))) * s1_1))))), (13, .int .i64 (wr64 ((wr64 (0 + (wr64 ((wr64 ((wr64 ((wr64 (1 * (wr64 (512 - i2)))) * (wr64 (512 - i2)))) * (wr64 (512 - i2)))) * a0_1)))) + (wr64 ((wr64 ((wr64 ((wr64 (3 * i2)) * (wr64 (512 - i2)))) * (wr64 (512 - i2)))) * s1_2))))), (14, .slice (some ⟨b309, 0, none⟩) 4 4), (15, .int .i64 2), (16, .int .i64 (wr64 ((wr64 (3 * i2)) * i2))), (17, .int .i64 2)]) (by kernel_rfl) ?_
  refine t_end ?_
  show WL _ _ _ _ _ _ _ _
  refine wl_step ?_
  refine w_seq ?_
  refine w_seq ?_
  refine w_reg fun all => ?_
  refine t_qz 2 [2, 3, 5, 8, 9, 10, 11, 12, 13, 14, 15, 16, 17, 56, 57] (σ' := [(2, .int .i64 i2), (3, .int .i64 512), (5, .pointer (some ⟨b304, 0, none⟩)), (8, .pointer (some ⟨b305, 0, none⟩)), (9, .slice (some ⟨b306, 0, none⟩) 4 4), (10, .int .i64 (wr64 (512 - i2))), (11, .int .i64 1), (12, .int .i64 (wr64 ((wr64 (0 + (wr64 ((wr64 ((wr64 ((wr64 (1 * (wr64 (512 - i2)))) * (wr64 (512 - i2)))) * (wr64 (512 - i2)))) * a0_0)))) + (wr64 ((wr64 ((wr64 ((wr64 (3 * i2)) * (wr64 (512 - i2)))) * (wr64 (512 - i2)))) * s1_1))))), (13, .int .i64 (wr64 ((wr64 (0 + (wr64 ((wr64 ((wr64 ((wr64 (1 * (wr64 (512 - i2)))) * (wr64 (512 - i2)))) * (wr64 (512 - i2)))) * a0_1)))) + (wr64 ((wr64 ((wr64 ((wr64 (3 * i2)) * (wr64 (512 - i2)))) * (wr64 (512 - i2)))) * s1_2))))), (14, .slice (some ⟨b309, 0, none⟩) 4 4), (15, .int .i64 2), (16, .int .i64 (wr64 ((wr64 (3 * i2)) * i2))), (17, .int .i64 2), (56, .int .i64 2), (57, .pointer (some ⟨b304, 0, none⟩))]) (by kernel_rfl) ?_
  refine t_v (.ld1 rfl rfl rfl (.at 6 rfl rfl)) ?_
  refine t_qz 1 [2, 3, 5, 8, 9, 10, 11, 12, 13, 14, 15, 16, 17, 59] (σ' := [(2, .int .i64 i2), (3, .int .i64 512), (5, .pointer (some ⟨b304, 0, none⟩)), (8, .pointer (some ⟨b305, 0, none⟩)), (9, .slice (some ⟨b306, 0, none⟩) 4 4), (10, .int .i64 (wr64 (512 - i2))), (11, .int .i64 1), (12, .int .i64 (wr64 ((wr64 (0 + (wr64 ((wr64 ((wr64 ((wr64 (1 * (wr64 (512 - i2)))) * (wr64 (512 - i2)))) * (wr64 (512 - i2)))) * a0_0)))) + (wr64 ((wr64 ((wr64 ((wr64 (3 * i2)) * (wr64 (512 - i2)))) * (wr64 (512 - i2)))) * s1_1))))), (13, .int .i64 (wr64 ((wr64 (0 + (wr64 ((wr64 ((wr64 ((wr64 (1 * (wr64 (512 - i2)))) * (wr64 (512 - i2)))) * (wr64 (512 - i2)))) * a0_1)))) + (wr64 ((wr64 ((wr64 ((wr64 (3 * i2)) * (wr64 (512 - i2)))) * (wr64 (512 - i2)))) * s1_2))))), (14, .slice (some ⟨b309, 0, none⟩) 4 4), (15, .int .i64 2), (16, .int .i64 (wr64 ((wr64 (3 * i2)) * i2))), (17, .int .i64 2), (59, .bool true)]) (by kernel_rfl) ?_
  refine t_end ?_
  show W _ _ _ _ _ _ _
  refine w_cond rfl (fun _ => ?_) (fun c_ => by cases c_)
  show W _ _ _ _ _ _ _
  refine w_skip ?_
  show W _ _ _ _ _ _ _
  refine w_seq ?_
  refine w_block ?_
  refine w_seq ?_
  refine w_reg fun all => ?_
  refine t_qz 3 [2, 3, 5, 8, 9, 10, 11, 12, 13, 14, 15, 16, 17, 64] (σ' := [(2, .int .i64 i2), (3, .int .i64 512), (5, .pointer (some ⟨b304, 0, none⟩)), (8, .pointer (some ⟨b305, 0, none⟩)), (9, .slice (some ⟨b306, 0, none⟩) 4 4), (10, .int .i64 (wr64 (512 - i2))), (11, .int .i64 1), (12, .int .i64 (wr64 ((wr64 (0 + (wr64 ((wr64 ((wr64 ((wr64 (1 * (wr64 (512 - i2)))) * (wr64 (512 - i2)))) * (wr64 (512 - i2)))) * a0_0)))) + (wr64 ((wr64 ((wr64 ((wr64 (3 * i2)) * (wr64 (512 - i2)))) * (wr64 (512 - i2)))) * s1_1))))), (13, .int .i64 (wr64 ((wr64 (0 + (wr64 ((wr64 ((wr64 ((wr64 (1 * (wr64 (512 - i2)))) * (wr64 (512 - i2)))) * (wr64 (512 - i2)))) * a0_1)))) + (wr64 ((wr64 ((wr64 ((wr64 (3 * i2)) * (wr64 (512 - i2)))) * (wr64 (512 - i2)))) * s1_2))))), (14, .slice (some ⟨b309, 0, none⟩) 4 4), (15, .int .i64 2), (16, .int .i64 (wr64 ((wr64 (3 * i2)) * i2))), (17, .int .i64 2), (64, .bool false)]) (by kernel_rfl) ?_
  refine t_end ?_
  show W _ _ _ _ _ _ _
  refine w_cond rfl (fun c_ => by cases c_) (fun _ => ?_)
  show W _ _ _ _ _ _ _
  refine w_reg fun all => ?_
  refine t_qz 4 [2, 3, 5, 8, 9, 10, 11, 12, 13, 14, 15, 16, 17] (σ' := [(2, .int .i64 i2), (3, .int .i64 512), (5, .pointer (some ⟨b304, 0, none⟩)), (8, .pointer (some ⟨b305, 0, none⟩)), (9, .slice (some ⟨b306, 0, none⟩) 4 4), (10, .int .i64 (wr64 (512 - i2))), (11, .int .i64 1), (12, .int .i64 (wr64 ((wr64 (0 + (wr64 ((wr64 ((wr64 ((wr64 (1 * (wr64 (512 - i2)))) * (wr64 (512 - i2)))) * (wr64 (512 - i2)))) * a0_0)))) + (wr64 ((wr64 ((wr64 ((wr64 (3 * i2)) * (wr64 (512 - i2)))) * (wr64 (512 - i2)))) * s1_1))))), (13, .int .i64 (wr64 ((wr64 (0 + (wr64 ((wr64 ((wr64 ((wr64 (1 * (wr64 (512 - i2)))) * (wr64 (512 - i2)))) * (wr64 (512 - i2)))) * a0_1)))) + (wr64 ((wr64 ((wr64 ((wr64 (3 * i2)) * (wr64 (512 - i2)))) * (wr64 (512 - i2)))) * s1_2))))), (14, .slice (some ⟨b309, 0, none⟩) 4 4), (15, .int .i64 2), (16, .int .i64 (wr64 ((wr64 ((wr64 (3 * i2)) * i2)) * (wr64 (512 - i2))))), (17, .int .i64 2)]) (by kernel_rfl) ?_
  refine t_end ?_
  show W _ _ _ _ _ _ _
  refine w_reg fun all => ?_
  refine t_qz 3 [2, 3, 5, 8, 9, 10, 11, 12, 13, 14, 15, 16, 17] (σ' := [(2, .int .i64 i2), (3, .int .i64 512), (5, .pointer (some ⟨b304, 0, none⟩)), (8, .pointer (some ⟨b305, 0, none⟩)), (9, .slice (some ⟨b306, 0, none⟩) 4 4), (10, .int .i64 (wr64 (512 - i2))), (11, .int .i64 1), (12, .int .i64 (wr64 ((wr64 (0 + (wr64 ((wr64 ((wr64 ((wr64 (1 * (wr64 (512 - i2)))) * (wr64 (512 - i2)))) * (wr64 (512 - i2)))) * a0_0)))) + (wr64 ((wr64 ((wr64 ((wr64 (3 * i2)) * (wr64 (512 - i2)))) * (wr64 (512 - i2)))) * s1_1))))), (13, .int .i64 (wr64 ((wr64 (0 + (wr64 ((wr64 ((wr64 ((wr64 (1 * (wr64 (512 - i2)))) * (wr64 (512 - i2)))) * (wr64 (512 - i2)))) * a0_1)))) + (wr64 ((wr64 ((wr64 ((wr64 (3 * i2)) * (wr64 (512 - i2)))) * (wr64 (512 - i2)))) * s1_2))))), (14, .slice (some ⟨b309, 0, none⟩) 4 4), (15, .int .i64 2), (16, .int .i64 (wr64 ((wr64 ((wr64 (3 * i2)) * i2)) * (wr64 (512 - i2))))), (17, .int .i64 3)]) (by kernel_rfl) ?_
  refine t_end ?_
  show WL _ _ _ _ _ _ _ _
  refine wl_step ?_
  refine w_seq ?_
  refine w_seq ?_
  refine w_reg fun all => ?_
  refine t_qz 2 [2, 3, 5, 8, 9, 10, 11, 12, 13, 14, 15, 16, 17, 56, 57] (σ' := [(2, .int .i64 i2), (3, .int .i64 512), (5, .pointer (some ⟨b304, 0, none⟩)), (8, .pointer (some ⟨b305, 0, none⟩)), (9, .slice (some ⟨b306, 0, none⟩) 4 4), (10, .int .i64 (wr64 (512 - i2))), (11, .int .i64 1), (12, .int .i64 (wr64 ((wr64 (0 + (wr64 ((wr64 ((wr64 ((wr64 (1 * (wr64 (512 - i2)))) * (wr64 (512 - i2)))) * (wr64 (512 - i2)))) * a0_0)))) + (wr64 ((wr64 ((wr64 ((wr64 (3 * i2)) * (wr64 (512 - i2)))) * (wr64 (512 - i2)))) * s1_1))))), (13, .int .i64 (wr64 ((wr64 (0 + (wr64 ((wr64 ((wr64 ((wr64 (1 * (wr64 (512 - i2)))) * (wr64 (512 - i2)))) * (wr64 (512 - i2)))) * a0_1)))) + (wr64 ((wr64 ((wr64 ((wr64 (3 * i2)) * (wr64 (512 - i2)))) * (wr64 (512 - i2)))) * s1_2))))), (14, .slice (some ⟨b309, 0, none⟩) 4 4), (15, .int .i64 2), (16, .int .i64 (wr64 ((wr64 ((wr64 (3 * i2)) * i2)) * (wr64 (512 - i2))))), (17, .int .i64 3), (56, .int .i64 3), (57, .pointer (some ⟨b304, 0, none⟩))]) (by kernel_rfl) ?_
  refine t_v (.ld1 rfl rfl rfl (.at 6 rfl rfl)) ?_
  refine t_qz 1 [2, 3, 5, 8, 9, 10, 11, 12, 13, 14, 15, 16, 17, 59] (σ' := [(2, .int .i64 i2), (3, .int .i64 512), (5, .pointer (some ⟨b304, 0, none⟩)), (8, .pointer (some ⟨b305, 0, none⟩)), (9, .slice (some ⟨b306, 0, none⟩) 4 4), (10, .int .i64 (wr64 (512 - i2))), (11, .int .i64 1), (12, .int .i64 (wr64 ((wr64 (0 + (wr64 ((wr64 ((wr64 ((wr64 (1 * (wr64 (512 - i2)))) * (wr64 (512 - i2)))) * (wr64 (512 - i2)))) * a0_0)))) + (wr64 ((wr64 ((wr64 ((wr64 (3 * i2)) * (wr64 (512 - i2)))) * (wr64 (512 - i2)))) * s1_1))))), (13, .int .i64 (wr64 ((wr64 (0 + (wr64 ((wr64 ((wr64 ((wr64 (1 * (wr64 (512 - i2)))) * (wr64 (512 - i2)))) * (wr64 (512 - i2)))) * a0_1)))) + (wr64 ((wr64 ((wr64 ((wr64 (3 * i2)) * (wr64 (512 - i2)))) * (wr64 (512 - i2)))) * s1_2))))), (14, .slice (some ⟨b309, 0, none⟩) 4 4), (15, .int .i64 2), (16, .int .i64 (wr64 ((wr64 ((wr64 (3 * i2)) * i2)) * (wr64 (512 - i2))))), (17, .int .i64 3), (59, .bool false)]) (by kernel_rfl) ?_
  refine t_end ?_
  show W _ _ _ _ _ _ _
  refine w_cond rfl (fun c_ => by cases c_) (fun _ => ?_)
  show W _ _ _ _ _ _ _
  refine w_exit ?_
  show W _ _ _ _ _ _ _
  refine w_seq ?_
  refine w_reg fun all => ?_
  refine t_qz 6 [2, 3, 5, 8, 9, 10, 11, 13, 14, 15, 16, 71, 72, 76] (σ' := [(2, .int .i64 i2), (3, .int .i64 512), (5, .pointer (some ⟨b304, 0, none⟩)), (8, .pointer (some ⟨b305, 0, none⟩)), (9, .slice (some ⟨b306, 0, none⟩) 4 4), (10, .int .i64 (wr64 (512 - i2))), (11, .int .i64 1), (13, .int .i64 (wr64 ((wr64 (0 + (wr64 ((wr64 ((wr64 ((wr64 (1 * (wr64 (512 - i2)))) * (wr64 (512 - i2)))) * (wr64 (512 - i2)))) * a0_1)))) + (wr64 ((wr64 ((wr64 ((wr64 (3 * i2)) * (wr64 (512 - i2)))) * (wr64 (512 - i2)))) * s1_2))))), (14, .slice (some ⟨b309, 0, none⟩) 4 4), (15, .int .i64 2), (16, .int .i64 (wr64 ((wr64 ((wr64 (3 * i2)) * i2)) * (wr64 (512 - i2))))), (71, .int .i64 (wr64 ((wr64 (0 + (wr64 ((wr64 ((wr64 ((wr64 (1 * (wr64 (512 - i2)))) * (wr64 (512 - i2)))) * (wr64 (512 - i2)))) * a0_0)))) + (wr64 ((wr64 ((wr64 ((wr64 (3 * i2)) * (wr64 (512 - i2)))) * (wr64 (512 - i2)))) * s1_1))))), (72, .int .i64 (wr64 ((wr64 ((wr64 (3 * i2)) * i2)) * (wr64 (512 - i2))))), (76, .pointer (some ⟨b306, 4, none⟩))]) (by kernel_rfl) ?_
  refine t_v (.ld1 rfl rfl rfl (.at 4 rfl rfl)) ?_
  refine t_qz 3 [2, 3, 5, 8, 9, 10, 11, 12, 13, 14, 15, 16] (σ' := [(2, .int .i64 i2), (3, .int .i64 512), (5, .pointer (some ⟨b304, 0, none⟩)), (8, .pointer (some ⟨b305, 0, none⟩)), (9, .slice (some ⟨b306, 0, none⟩) 4 4), (10, .int .i64 (wr64 (512 - i2))), (11, .int .i64 1), (12, .int .i64 (wr64 ((wr64 ((wr64 (0 + (wr64 ((wr64 ((wr64 ((wr64 (1 * (wr64 (512 - i2)))) * (wr64 (512 - i2)))) * (wr64 (512 - i2)))) * a0_0)))) + (wr64 ((wr64 ((wr64 ((wr64 (3 * i2)) * (wr64 (512 - i2)))) * (wr64 (512 - i2)))) * s1_1)))) + (wr64 ((wr64 ((wr64 ((wr64 (3 * i2)) * i2)) * (wr64 (512 - i2)))) * s1_3))))), (13, .int .i64 (wr64 ((wr64 (0 + (wr64 ((wr64 ((wr64 ((wr64 (1 * (wr64 (512 - i2)))) * (wr64 (512 - i2)))) * (wr64 (512 - i2)))) * a0_1)))) + (wr64 ((wr64 ((wr64 ((wr64 (3 * i2)) * (wr64 (512 - i2)))) * (wr64 (512 - i2)))) * s1_2))))), (14, .slice (some ⟨b309, 0, none⟩) 4 4), (15, .int .i64 2), (16, .int .i64 (wr64 ((wr64 ((wr64 (3 * i2)) * i2)) * (wr64 (512 - i2)))))]) (by kernel_rfl) ?_
  refine t_end ?_
  show W _ _ _ _ _ _ _
  refine w_reg fun all => ?_
  refine t_qz 6 [2, 3, 5, 8, 9, 10, 11, 12, 14, 15, 80, 81, 85] (σ' := [(2, .int .i64 i2), (3, .int .i64 512), (5, .pointer (some ⟨b304, 0, none⟩)), (8, .pointer (some ⟨b305, 0, none⟩)), (9, .slice (some ⟨b306, 0, none⟩) 4 4), (10, .int .i64 (wr64 (512 - i2))), (11, .int .i64 1), (12, .int .i64 (wr64 ((wr64 ((wr64 (0 + (wr64 ((wr64 ((wr64 ((wr64 (1 * (wr64 (512 - i2)))) * (wr64 (512 - i2)))) * (wr64 (512 - i2)))) * a0_0)))) + (wr64 ((wr64 ((wr64 ((wr64 (3 * i2)) * (wr64 (512 - i2)))) * (wr64 (512 - i2)))) * s1_1)))) + (wr64 ((wr64 ((wr64 ((wr64 (3 * i2)) * i2)) * (wr64 (512 - i2)))) * s1_3))))), (14, .slice (some ⟨b309, 0, none⟩) 4 4), (15, .int .i64 2), (80, .int .i64 (wr64 ((wr64 (0 + (wr64 ((wr64 ((wr64 ((wr64 (1 * (wr64 (512 - i2)))) * (wr64 (512 - i2)))) * (wr64 (512 - i2)))) * a0_1)))) + (wr64 ((wr64 ((wr64 ((wr64 (3 * i2)) * (wr64 (512 - i2)))) * (wr64 (512 - i2)))) * s1_2))))), (81, .int .i64 (wr64 ((wr64 ((wr64 (3 * i2)) * i2)) * (wr64 (512 - i2))))), (85, .pointer (some ⟨b306, 5, none⟩))]) (by kernel_rfl) ?_
  refine t_v (.ld1 rfl rfl rfl (.at 4 rfl rfl)) ?_
  refine t_qz 3 [2, 3, 5, 8, 9, 10, 11, 12, 13, 14, 15] (σ' := [(2, .int .i64 i2), (3, .int .i64 512), (5, .pointer (some ⟨b304, 0, none⟩)), (8, .pointer (some ⟨b305, 0, none⟩)), (9, .slice (some ⟨b306, 0, none⟩) 4 4), (10, .int .i64 (wr64 (512 - i2))), (11, .int .i64 1), (12, .int .i64 (wr64 ((wr64 ((wr64 (0 + (wr64 ((wr64 ((wr64 ((wr64 (1 * (wr64 (512 - i2)))) * (wr64 (512 - i2)))) * (wr64 (512 - i2)))) * a0_0)))) + (wr64 ((wr64 ((wr64 ((wr64 (3 * i2)) * (wr64 (512 - i2)))) * (wr64 (512 - i2)))) * s1_1)))) + (wr64 ((wr64 ((wr64 ((wr64 (3 * i2)) * i2)) * (wr64 (512 - i2)))) * s1_3))))), (13, .int .i64 (wr64 ((wr64 ((wr64 (0 + (wr64 ((wr64 ((wr64 ((wr64 (1 * (wr64 (512 - i2)))) * (wr64 (512 - i2)))) * (wr64 (512 - i2)))) * a0_1)))) + (wr64 ((wr64 ((wr64 ((wr64 (3 * i2)) * (wr64 (512 - i2)))) * (wr64 (512 - i2)))) * s1_2)))) + (wr64 ((wr64 ((wr64 ((wr64 (3 * i2)) * i2)) * (wr64 (512 - i2)))) * s1_4))))), (14, .slice (some ⟨b309, 0, none⟩) 4 4), (15, .int .i64 2)]) (by kernel_rfl) ?_
  refine t_end ?_
  show W _ _ _ _ _ _ _
  refine w_reg fun all => ?_
  refine t_qz 3 [2, 3, 5, 8, 9, 10, 11, 12, 13, 14, 15] (σ' := [(2, .int .i64 i2), (3, .int .i64 512), (5, .pointer (some ⟨b304, 0, none⟩)), (8, .pointer (some ⟨b305, 0, none⟩)), (9, .slice (some ⟨b306, 0, none⟩) 4 4), (10, .int .i64 (wr64 (512 - i2))), (11, .int .i64 1), (12, .int .i64 (wr64 ((wr64 ((wr64 (0 + (wr64 ((wr64 ((wr64 ((wr64 (1 * (wr64 (512 - i2)))) * (wr64 (512 - i2)))) * (wr64 (512 - i2)))) * a0_0)))) + (wr64 ((wr64 ((wr64 ((wr64 (3 * i2)) * (wr64 (512 - i2)))) * (wr64 (512 - i2)))) * s1_1)))) + (wr64 ((wr64 ((wr64 ((wr64 (3 * i2)) * i2)) * (wr64 (512 - i2)))) * s1_3))))), (13, .int .i64 (wr64 ((wr64 ((wr64 (0 + (wr64 ((wr64 ((wr64 ((wr64 (1 * (wr64 (512 - i2)))) * (wr64 (512 - i2)))) * (wr64 (512 - i2)))) * a0_1)))) + (wr64 ((wr64 ((wr64 ((wr64 (3 * i2)) * (wr64 (512 - i2)))) * (wr64 (512 - i2)))) * s1_2)))) + (wr64 ((wr64 ((wr64 ((wr64 (3 * i2)) * i2)) * (wr64 (512 - i2)))) * s1_4))))), (14, .slice (some ⟨b309, 0, none⟩) 4 4), (15, .int .i64 3)]) (by kernel_rfl) ?_
  refine t_end ?_
  show WL _ _ _ _ _ _ _ _
  refine wl_step ?_
  refine w_seq ?_
  refine w_seq ?_
  refine w_reg fun all => ?_
  refine t_qz 2 [2, 3, 5, 8, 9, 10, 11, 12, 13, 14, 15, 46, 47] (σ' := [(2, .int .i64 i2), (3, .int .i64 512), (5, .pointer (some ⟨b304, 0, none⟩)), (8, .pointer (some ⟨b305, 0, none⟩)), (9, .slice (some ⟨b306, 0, none⟩) 4 4), (10, .int .i64 (wr64 (512 - i2))), (11, .int .i64 1), (12, .int .i64 (wr64 ((wr64 ((wr64 (0 + (wr64 ((wr64 ((wr64 ((wr64 (1 * (wr64 (512 - i2)))) * (wr64 (512 - i2)))) * (wr64 (512 - i2)))) * a0_0)))) + (wr64 ((wr64 ((wr64 ((wr64 (3 * i2)) * (wr64 (512 - i2)))) * (wr64 (512 - i2)))) * s1_1)))) + (wr64 ((wr64 ((wr64 ((wr64 (3 * i2)) * i2)) * (wr64 (512 - i2)))) * s1_3))))), (13, .int .i64 (wr64 ((wr64 ((wr64 (0 + (wr64 ((wr64 ((wr64 ((wr64 (1 * (wr64 (512 - i2)))) * (wr64 (512 - i2)))) * (wr64 (512 - i2)))) * a0_1)))) + (wr64 ((wr64 ((wr64 ((wr64 (3 * i2)) * (wr64 (512 - i2)))) * (wr64 (512 - i2)))) * s1_2)))) + (wr64 ((wr64 ((wr64 ((wr64 (3 * i2)) * i2)) * (wr64 (512 - i2)))) * s1_4))))), (14, .slice (some ⟨b309, 0, none⟩) 4 4), (15, .int .i64 3), (46, .int .i64 3), (47, .pointer (some ⟨b304, 0, none⟩))]) (by kernel_rfl) ?_
  refine t_v (.ld1 rfl rfl rfl (.at 6 rfl rfl)) ?_
  refine t_qz 1 [2, 3, 5, 8, 9, 10, 11, 12, 13, 14, 15, 49] (σ' := [(2, .int .i64 i2), (3, .int .i64 512), (5, .pointer (some ⟨b304, 0, none⟩)), (8, .pointer (some ⟨b305, 0, none⟩)), (9, .slice (some ⟨b306, 0, none⟩) 4 4), (10, .int .i64 (wr64 (512 - i2))), (11, .int .i64 1), (12, .int .i64 (wr64 ((wr64 ((wr64 (0 + (wr64 ((wr64 ((wr64 ((wr64 (1 * (wr64 (512 - i2)))) * (wr64 (512 - i2)))) * (wr64 (512 - i2)))) * a0_0)))) + (wr64 ((wr64 ((wr64 ((wr64 (3 * i2)) * (wr64 (512 - i2)))) * (wr64 (512 - i2)))) * s1_1)))) + (wr64 ((wr64 ((wr64 ((wr64 (3 * i2)) * i2)) * (wr64 (512 - i2)))) * s1_3))))), (13, .int .i64 (wr64 ((wr64 ((wr64 (0 + (wr64 ((wr64 ((wr64 ((wr64 (1 * (wr64 (512 - i2)))) * (wr64 (512 - i2)))) * (wr64 (512 - i2)))) * a0_1)))) + (wr64 ((wr64 ((wr64 ((wr64 (3 * i2)) * (wr64 (512 - i2)))) * (wr64 (512 - i2)))) * s1_2)))) + (wr64 ((wr64 ((wr64 ((wr64 (3 * i2)) * i2)) * (wr64 (512 - i2)))) * s1_4))))), (14, .slice (some ⟨b309, 0, none⟩) 4 4), (15, .int .i64 3), (49, .bool true)]) (by kernel_rfl) ?_
  refine t_end ?_
  show W _ _ _ _ _ _ _
  refine w_cond rfl (fun _ => ?_) (fun c_ => by cases c_)
  show W _ _ _ _ _ _ _
  refine w_skip ?_
  show W _ _ _ _ _ _ _
  refine w_seq ?_
  refine w_block ?_
  refine w_seq ?_
  refine w_reg fun all => ?_
  refine t_qz 3 [2, 3, 5, 8, 9, 10, 11, 12, 13, 14, 15, 54] (σ' := [(2, .int .i64 i2), (3, .int .i64 512), (5, .pointer (some ⟨b304, 0, none⟩)), (8, .pointer (some ⟨b305, 0, none⟩)), (9, .slice (some ⟨b306, 0, none⟩) 4 4), (10, .int .i64 (wr64 (512 - i2))), (11, .int .i64 1), (12, .int .i64 (wr64 ((wr64 ((wr64 (0 + (wr64 ((wr64 ((wr64 ((wr64 (1 * (wr64 (512 - i2)))) * (wr64 (512 - i2)))) * (wr64 (512 - i2)))) * a0_0)))) + (wr64 ((wr64 ((wr64 ((wr64 (3 * i2)) * (wr64 (512 - i2)))) * (wr64 (512 - i2)))) * s1_1)))) + (wr64 ((wr64 ((wr64 ((wr64 (3 * i2)) * i2)) * (wr64 (512 - i2)))) * s1_3))))), (13, .int .i64 (wr64 ((wr64 ((wr64 (0 + (wr64 ((wr64 ((wr64 ((wr64 (1 * (wr64 (512 - i2)))) * (wr64 (512 - i2)))) * (wr64 (512 - i2)))) * a0_1)))) + (wr64 ((wr64 ((wr64 ((wr64 (3 * i2)) * (wr64 (512 - i2)))) * (wr64 (512 - i2)))) * s1_2)))) + (wr64 ((wr64 ((wr64 ((wr64 (3 * i2)) * i2)) * (wr64 (512 - i2)))) * s1_4))))), (14, .slice (some ⟨b309, 0, none⟩) 4 4), (15, .int .i64 3), (54, .pointer (some ⟨b309, 3, none⟩))]) (by kernel_rfl) ?_
  refine t_v (.ld1 rfl rfl rfl (.at 1 rfl rfl)) ?_
  refine t_qz 1 [2, 3, 5, 8, 9, 10, 11, 12, 13, 14, 15, 16] (σ' := [(2, .int .i64 i2), (3, .int .i64 512), (5, .pointer (some ⟨b304, 0, none⟩)), (8, .pointer (some ⟨b305, 0, none⟩)), (9, .slice (some ⟨b306, 0, none⟩) 4 4), (10, .int .i64 (wr64 (512 - i2))), (11, .int .i64 1), (12, .int .i64 (wr64 ((wr64 ((wr64 (0 + (wr64 ((wr64 ((wr64 ((wr64 (1 * (wr64 (512 - i2)))) * (wr64 (512 - i2)))) * (wr64 (512 - i2)))) * a0_0)))) + (wr64 ((wr64 ((wr64 ((wr64 (3 * i2)) * (wr64 (512 - i2)))) * (wr64 (512 - i2)))) * s1_1)))) + (wr64 ((wr64 ((wr64 ((wr64 (3 * i2)) * i2)) * (wr64 (512 - i2)))) * s1_3))))), (13, .int .i64 (wr64 ((wr64 ((wr64 (0 + (wr64 ((wr64 ((wr64 ((wr64 (1 * (wr64 (512 - i2)))) * (wr64 (512 - i2)))) * (wr64 (512 - i2)))) * a0_1)))) + (wr64 ((wr64 ((wr64 ((wr64 (3 * i2)) * (wr64 (512 - i2)))) * (wr64 (512 - i2)))) * s1_2)))) + (wr64 ((wr64 ((wr64 ((wr64 (3 * i2)) * i2)) * (wr64 (512 - i2)))) * s1_4))))), (14, .slice (some ⟨b309, 0, none⟩) 4 4), (15, .int .i64 3), (16, .int .i64 1)]) (by kernel_rfl) ?_
  refine t_end ?_
  show W _ _ _ _ _ _ _
  refine w_seq ?_
  refine w_seq ?_
  refine w_reg fun all => ?_
  refine t_qz 1 [2, 3, 5, 8, 9, 10, 11, 12, 13, 14, 15, 16, 17] (σ' := [(2, .int .i64 i2), (3, .int .i64 512), (5, .pointer (some ⟨b304, 0, none⟩)), (8, .pointer (some ⟨b305, 0, none⟩)), (9, .slice (some ⟨b306, 0, none⟩) 4 4), (10, .int .i64 (wr64 (512 - i2))), (11, .int .i64 1), (12, .int .i64 (wr64 ((wr64 ((wr64 (0 + (wr64 ((wr64 ((wr64 ((wr64 (1 * (wr64 (512 - i2)))) * (wr64 (512 - i2)))) * (wr64 (512 - i2)))) * a0_0)))) + (wr64 ((wr64 ((wr64 ((wr64 (3 * i2)) * (wr64 (512 - i2)))) * (wr64 (512 - i2)))) * s1_1)))) + (wr64 ((wr64 ((wr64 ((wr64 (3 * i2)) * i2)) * (wr64 (512 - i2)))) * s1_3))))), (13, .int .i64 (wr64 ((wr64 ((wr64 (0 + (wr64 ((wr64 ((wr64 ((wr64 (1 * (wr64 (512 - i2)))) * (wr64 (512 - i2)))) * (wr64 (512 - i2)))) * a0_1)))) + (wr64 ((wr64 ((wr64 ((wr64 (3 * i2)) * (wr64 (512 - i2)))) * (wr64 (512 - i2)))) * s1_2)))) + (wr64 ((wr64 ((wr64 ((wr64 (3 * i2)) * i2)) * (wr64 (512 - i2)))) * s1_4))))), (14, .slice (some ⟨b309, 0, none⟩) 4 4), (15, .int .i64 3), (16, .int .i64 1), (17, .int .i64 0)]) (by kernel_rfl) ?_
  refine t_end ?_
  show W _ _ _ _ _ _ _
  refine w_block ?_
  refine w_lun 10 ?_
  refine wl_step ?_
  refine w_seq ?_
  refine w_seq ?_
  refine w_reg fun all => ?_
  refine t_qz 2 [2, 3, 5, 8, 9, 10, 11, 12, 13, 14, 15, 16, 17, 56, 57] (σ' := [(2, .int .i64 i2), (3, .int .i64 512), (5, .pointer (some ⟨b304, 0, none⟩)), (8, .pointer (some ⟨b305, 0, none⟩)), (9, .slice (some ⟨b306, 0, none⟩) 4 4), (10, .int .i64 (wr64 (512 - i2))), (11, .int .i64 1), (12, .int .i64 (wr64 ((wr64 ((wr64 (0 + (wr64 ((wr64 ((wr64 ((wr64 (1 * (wr64 (512 - i2)))) * (wr64 (512 - i2)))) * (wr64 (512 - i2)))) * a0_0)))) + (wr64 ((wr64 ((wr64 ((wr64 (3 * i2)) * (wr64 (512 - i2)))) * (wr64 (512 - i2)))) * s1_1)))) + (wr64 ((wr64 ((wr64 ((wr64 (3 * i2)) * i2)) * (wr64 (512 - i2)))) * s1_3))))), (13, .int .i64 (wr64 ((wr64 ((wr64 (0 + (wr64 ((wr64 ((wr64 ((wr64 (1 * (wr64 (512 - i2)))) * (wr64 (512 - i2)))) * (wr64 (512 - i2)))) * a0_1)))) + (wr64 ((wr64 ((wr64 ((wr64 (3 * i2)) * (wr64 (512 - i2)))) * (wr64 (512 - i2)))) * s1_2)))) + (wr64 ((wr64 ((wr64 ((wr64 (3 * i2)) * i2)) * (wr64 (512 - i2)))) * s1_4))))), (14, .slice (some ⟨b309, 0, none⟩) 4 4), (15, .int .i64 3), (16, .int .i64 1), (17, .int .i64 0), (56, .int .i64 0), (57, .pointer (some ⟨b304, 0, none⟩))]) (by kernel_rfl) ?_
  refine t_v (.ld1 rfl rfl rfl (.at 6 rfl rfl)) ?_
  refine t_qz 1 [2, 3, 5, 8, 9, 10, 11, 12, 13, 14, 15, 16, 17, 59] (σ' := [(2, .int .i64 i2), (3, .int .i64 512), (5, .pointer (some ⟨b304, 0, none⟩)), (8, .pointer (some ⟨b305, 0, none⟩)), (9, .slice (some ⟨b306, 0, none⟩) 4 4), (10, .int .i64 (wr64 (512 - i2))), (11, .int .i64 1), (12, .int .i64 (wr64 ((wr64 ((wr64 (0 + (wr64 ((wr64 ((wr64 ((wr64 (1 * (wr64 (512 - i2)))) * (wr64 (512 - i2)))) * (wr64 (512 - i2)))) * a0_0)))) + (wr64 ((wr64 ((wr64 ((wr64 (3 * i2)) * (wr64 (512 - i2)))) * (wr64 (512 - i2)))) * s1_1)))) + (wr64 ((wr64 ((wr64 ((wr64 (3 * i2)) * i2)) * (wr64 (512 - i2)))) * s1_3))))), (13, .int .i64 (wr64 ((wr64 ((wr64 (0 + (wr64 ((wr64 ((wr64 ((wr64 (1 * (wr64 (512 - i2)))) * (wr64 (512 - i2)))) * (wr64 (512 - i2)))) * a0_1)))) + (wr64 ((wr64 ((wr64 ((wr64 (3 * i2)) * (wr64 (512 - i2)))) * (wr64 (512 - i2)))) * s1_2)))) + (wr64 ((wr64 ((wr64 ((wr64 (3 * i2)) * i2)) * (wr64 (512 - i2)))) * s1_4))))), (14, .slice (some ⟨b309, 0, none⟩) 4 4), (15, .int .i64 3), (16, .int .i64 1), (17, .int .i64 0), (59, .bool true)]) (by kernel_rfl) ?_
  refine t_end ?_
  show W _ _ _ _ _ _ _
  refine w_cond rfl (fun _ => ?_) (fun c_ => by cases c_)
  show W _ _ _ _ _ _ _
  refine w_skip ?_
  show W _ _ _ _ _ _ _
  refine w_seq ?_
  refine w_block ?_
  refine w_seq ?_
  refine w_reg fun all => ?_
  refine t_qz 3 [2, 3, 5, 8, 9, 10, 11, 12, 13, 14, 15, 16, 17, 64] (σ' := [(2, .int .i64 i2), (3, .int .i64 512), (5, .pointer (some ⟨b304, 0, none⟩)), (8, .pointer (some ⟨b305, 0, none⟩)), (9, .slice (some ⟨b306, 0, none⟩) 4 4), (10, .int .i64 (wr64 (512 - i2))), (11, .int .i64 1), (12, .int .i64 (wr64 ((wr64 ((wr64 (0 + (wr64 ((wr64 ((wr64 ((wr64 (1 * (wr64 (512 - i2)))) * (wr64 (512 - i2)))) * (wr64 (512 - i2)))) * a0_0)))) + (wr64 ((wr64 ((wr64 ((wr64 (3 * i2)) * (wr64 (512 - i2)))) * (wr64 (512 - i2)))) * s1_1)))) + (wr64 ((wr64 ((wr64 ((wr64 (3 * i2)) * i2)) * (wr64 (512 - i2)))) * s1_3))))), (13, .int .i64 (wr64 ((wr64 ((wr64 (0 + (wr64 ((wr64 ((wr64 ((wr64 (1 * (wr64 (512 - i2)))) * (wr64 (512 - i2)))) * (wr64 (512 - i2)))) * a0_1)))) + (wr64 ((wr64 ((wr64 ((wr64 (3 * i2)) * (wr64 (512 - i2)))) * (wr64 (512 - i2)))) * s1_2)))) + (wr64 ((wr64 ((wr64 ((wr64 (3 * i2)) * i2)) * (wr64 (512 - i2)))) * s1_4))))), (14, .slice (some ⟨b309, 0, none⟩) 4 4), (15, .int .i64 3), (16, .int .i64 1), (17, .int .i64 0), (64, .bool true)]) (by kernel_rfl) ?_
  refine t_end ?_
  show W _ _ _ _ _ _ _
  refine w_cond rfl (fun _ => ?_) (fun c_ => by cases c_)
  show W _ _ _ _ _ _ _
  refine w_reg fun all => ?_
  refine t_qz 4 [2, 3, 5, 8, 9, 10, 11, 12, 13, 14, 15, 16, 17] (σ' := [(2, .int .i64 i2), (3, .int .i64 512), (5, .pointer (some ⟨b304, 0, none⟩)), (8, .pointer (some ⟨b305, 0, none⟩)), (9, .slice (some ⟨b306, 0, none⟩) 4 4), (10, .int .i64 (wr64 (512 - i2))), (11, .int .i64 1), (12, .int .i64 (wr64 ((wr64 ((wr64 (0 + (wr64 ((wr64 ((wr64 ((wr64 (1 * (wr64 (512 - i2)))) * (wr64 (512 - i2)))) * (wr64 (512 - i2)))) * a0_0)))) + (wr64 ((wr64 ((wr64 ((wr64 (3 * i2)) * (wr64 (512 - i2)))) * (wr64 (512 - i2)))) * s1_1)))) + (wr64 ((wr64 ((wr64 ((wr64 (3 * i2)) * i2)) * (wr64 (512 - i2)))) * s1_3))))), (13, .int .i64 (wr64 ((wr64 ((wr64 (0 + (wr64 ((wr64 ((wr64 ((wr64 (1 * (wr64 (512 - i2)))) * (wr64 (512 - i2)))) * (wr64 (512 - i2)))) * a0_1)))) + (wr64 ((wr64 ((wr64 ((wr64 (3 * i2)) * (wr64 (512 - i2)))) * (wr64 (512 - i2)))) * s1_2)))) + (wr64 ((wr64 ((wr64 ((wr64 (3 * i2)) * i2)) * (wr64 (512 - i2)))) * s1_4))))), (14, .slice (some ⟨b309, 0, none⟩) 4 4), (15, .int .i64 3), (16, .int .i64 (wr64 (1 * i2))), (17, .int .i64 0)]) (by kernel_rfl) ?_
  refine t_end ?_
  show W _ _ _ _ _ _ _
  refine w_reg fun all => ?_
  refine t_qz 3 [2, 3, 5, 8, 9, 10, 11, 12, 13, 14, 15, 16, 17] (σ' := [(2, .int .i64 i2), (3, .int .i64 512), (5, .pointer (some ⟨b304, 0, none⟩)), (8, .pointer (some ⟨b305, 0, none⟩)), (9, .slice (some ⟨b306, 0, none⟩) 4 4), (10, .int .i64 (wr64 (512 - i2))), (11, .int .i64 1), (12, .int .i64 (wr64 ((wr64 ((wr64 (0 + (wr64 ((wr64 ((wr64 ((wr64 (1 * (wr64 (512 - i2)))) * (wr64 (512 - i2)))) * (wr64 (512 - i2)))) * a0_0)))) + (wr64 ((wr64 ((wr64 ((wr64 (3 * i2)) * (wr64 (512 - i2)))) * (wr64 (512 - i2)))) * s1_1)))) + (wr64 ((wr64 ((wr64 ((wr64 (3 * i2)) * i2)) * (wr64 (512 - i2)))) * s1_3))))), (13, .int .i64 (wr64 ((wr64 ((wr64 (0 + (wr64 ((wr64 ((wr64 ((wr64 (1 * (wr64 (512 - i2)))) * (wr64 (512 - i2)))) * (wr64 (512 - i2)))) * a0_1)))) + (wr64 ((wr64 ((wr64 ((wr64 (3 * i2)) * (wr64 (512 - i2)))) * (wr64 (512 - i2)))) * s1_2)))) + (wr64 ((wr64 ((wr64 ((wr64 (3 * i2)) * i2)) * (wr64 (512 - i2)))) * s1_4))))), (14, .slice (some ⟨b309, 0, none⟩) 4 4), (15, .int .i64 3), (16, .int .i64 (wr64 (1 * i2))), (17, .int .i64 1)]) (by kernel_rfl) ?_
  refine t_end ?_
  show WL _ _ _ _ _ _ _ _
  refine wl_step ?_
  refine w_seq ?_
  refine w_seq ?_
  refine w_reg fun all => ?_
  refine t_qz 2 [2, 3, 5, 8, 9, 10, 11, 12, 13, 14, 15, 16, 17, 56, 57] (σ' := [(2, .int .i64 i2), (3, .int .i64 512), (5, .pointer (some ⟨b304, 0, none⟩)), (8, .pointer (some ⟨b305, 0, none⟩)), (9, .slice (some ⟨b306, 0, none⟩) 4 4), (10, .int .i64 (wr64 (512 - i2))), (11, .int .i64 1), (12, .int .i64 (wr64 ((wr64 ((wr64 (0 + (wr64 ((wr64 ((wr64 ((wr64 (1 * (wr64 (512 - i2)))) * (wr64 (512 - i2)))) * (wr64 (512 - i2)))) * a0_0)))) + (wr64 ((wr64 ((wr64 ((wr64 (3 * i2)) * (wr64 (512 - i2)))) * (wr64 (512 - i2)))) * s1_1)))) + (wr64 ((wr64 ((wr64 ((wr64 (3 * i2)) * i2)) * (wr64 (512 - i2)))) * s1_3))))), (13, .int .i64 (wr64 ((wr64 ((wr64 (0 + (wr64 ((wr64 ((wr64 ((wr64 (1 * (wr64 (512 - i2)))) * (wr64 (512 - i2)))) * (wr64 (512 - i2)))) * a0_1)))) + (wr64 ((wr64 ((wr64 ((wr64 (3 * i2)) * (wr64 (512 - i2)))) * (wr64 (512 - i2)))) * s1_2)))) + (wr64 ((wr64 ((wr64 ((wr64 (3 * i2)) * i2)) * (wr64 (512 - i2)))) * s1_4))))), (14, .slice (some ⟨b309, 0, none⟩) 4 4), (15, .int .i64 3), (16, .int .i64 (wr64 (1 * i2))), (17, .int .i64 1), (56, .int .i64 1), (57, .pointer (some ⟨b304, 0, none⟩))]) (by kernel_rfl) ?_
  refine t_v (.ld1 rfl rfl rfl (.at 6 rfl rfl)) ?_
  refine t_qz 1 [2, 3, 5, 8, 9, 10, 11, 12, 13, 14, 15, 16, 17, 59] (σ' := [(2, .int .i64 i2), (3, .int .i64 512), (5, .pointer (some ⟨b304, 0, none⟩)), (8, .pointer (some ⟨b305, 0, none⟩)), (9, .slice (some ⟨b306, 0, none⟩) 4 4), (10, .int .i64 (wr64 (512 - i2))), (11, .int .i64 1), (12, .int .i64 (wr64 ((wr64 ((wr64 (0 + (wr64 ((wr64 ((wr64 ((wr64 (1 * (wr64 (512 - i2)))) * (wr64 (512 - i2)))) * (wr64 (512 - i2)))) * a0_0)))) + (wr64 ((wr64 ((wr64 ((wr64 (3 * i2)) * (wr64 (512 - i2)))) * (wr64 (512 - i2)))) * s1_1)))) + (wr64 ((wr64 ((wr64 ((wr64 (3 * i2)) * i2)) * (wr64 (512 - i2)))) * s1_3))))), (13, .int .i64 (wr64 ((wr64 ((wr64 (0 + (wr64 ((wr64 ((wr64 ((wr64 (1 * (wr64 (512 - i2)))) * (wr64 (512 - i2)))) * (wr64 (512 - i2)))) * a0_1)))) + (wr64 ((wr64 ((wr64 ((wr64 (3 * i2)) * (wr64 (512 - i2)))) * (wr64 (512 - i2)))) * s1_2)))) + (wr64 ((wr64 ((wr64 ((wr64 (3 * i2)) * i2)) * (wr64 (512 - i2)))) * s1_4))))), (14, .slice (some ⟨b309, 0, none⟩) 4 4), (15, .int .i64 3), (16, .int .i64 (wr64 (1 * i2))), (17, .int .i64 1), (59, .bool true)]) (by kernel_rfl) ?_
  refine t_end ?_
  show W _ _ _ _ _ _ _
  refine w_cond rfl (fun _ => ?_) (fun c_ => by cases c_)
  show W _ _ _ _ _ _ _
  refine w_skip ?_
  show W _ _ _ _ _ _ _
  refine w_seq ?_
  refine w_block ?_
  refine w_seq ?_
  refine w_reg fun all => ?_
  refine t_qz 3 [2, 3, 5, 8, 9, 10, 11, 12, 13, 14, 15, 16, 17, 64] (σ' := [(2, .int .i64 i2), (3, .int .i64 512), (5, .pointer (some ⟨b304, 0, none⟩)), (8, .pointer (some ⟨b305, 0, none⟩)), (9, .slice (some ⟨b306, 0, none⟩) 4 4), (10, .int .i64 (wr64 (512 - i2))), (11, .int .i64 1), (12, .int .i64 (wr64 ((wr64 ((wr64 (0 + (wr64 ((wr64 ((wr64 ((wr64 (1 * (wr64 (512 - i2)))) * (wr64 (512 - i2)))) * (wr64 (512 - i2)))) * a0_0)))) + (wr64 ((wr64 ((wr64 ((wr64 (3 * i2)) * (wr64 (512 - i2)))) * (wr64 (512 - i2)))) * s1_1)))) + (wr64 ((wr64 ((wr64 ((wr64 (3 * i2)) * i2)) * (wr64 (512 - i2)))) * s1_3))))), (13, .int .i64 (wr64 ((wr64 ((wr64 (0 + (wr64 ((wr64 ((wr64 ((wr64 (1 * (wr64 (512 - i2)))) * (wr64 (512 - i2)))) * (wr64 (512 - i2)))) * a0_1)))) + (wr64 ((wr64 ((wr64 ((wr64 (3 * i2)) * (wr64 (512 - i2)))) * (wr64 (512 - i2)))) * s1_2)))) + (wr64 ((wr64 ((wr64 ((wr64 (3 * i2)) * i2)) * (wr64 (512 - i2)))) * s1_4))))), (14, .slice (some ⟨b309, 0, none⟩) 4 4), (15, .int .i64 3), (16, .int .i64 (wr64 (1 * i2))), (17, .int .i64 1), (64, .bool true)]) (by kernel_rfl) ?_
  refine t_end ?_
  show W _ _ _ _ _ _ _
  refine w_cond rfl (fun _ => ?_) (fun c_ => by cases c_)
  show W _ _ _ _ _ _ _
  refine w_reg fun all => ?_
  refine t_qz 4 [2, 3, 5, 8, 9, 10, 11, 12, 13, 14, 15, 16, 17] (σ' := [(2, .int .i64 i2), (3, .int .i64 512), (5, .pointer (some ⟨b304, 0, none⟩)), (8, .pointer (some ⟨b305, 0, none⟩)), (9, .slice (some ⟨b306, 0, none⟩) 4 4), (10, .int .i64 (wr64 (512 - i2))), (11, .int .i64 1), (12, .int .i64 (wr64 ((wr64 ((wr64 (0 + (wr64 ((wr64 ((wr64 ((wr64 (1 * (wr64 (512 - i2)))) * (wr64 (512 - i2)))) * (wr64 (512 - i2)))) * a0_0)))) + (wr64 ((wr64 ((wr64 ((wr64 (3 * i2)) * (wr64 (512 - i2)))) * (wr64 (512 - i2)))) * s1_1)))) + (wr64 ((wr64 ((wr64 ((wr64 (3 * i2)) * i2)) * (wr64 (512 - i2)))) * s1_3))))), (13, .int .i64 (wr64 ((wr64 ((wr64 (0 + (wr64 ((wr64 ((wr64 ((wr64 (1 * (wr64 (512 - i2)))) * (wr64 (512 - i2)))) * (wr64 (512 - i2)))) * a0_1)))) + (wr64 ((wr64 ((wr64 ((wr64 (3 * i2)) * (wr64 (512 - i2)))) * (wr64 (512 - i2)))) * s1_2)))) + (wr64 ((wr64 ((wr64 ((wr64 (3 * i2)) * i2)) * (wr64 (512 - i2)))) * s1_4))))), (14, .slice (some ⟨b309, 0, none⟩) 4 4), (15, .int .i64 3), (16, .int .i64 (wr64 ((wr64 (1 * i2)) * i2))), (17, .int .i64 1)]) (by kernel_rfl) ?_
  refine t_end ?_
  show W _ _ _ _ _ _ _
  refine w_reg fun all => ?_
  refine t_qz 3 [2, 3, 5, 8, 9, 10, 11, 12, 13, 14, 15, 16, 17] (σ' := [(2, .int .i64 i2), (3, .int .i64 512), (5, .pointer (some ⟨b304, 0, none⟩)), (8, .pointer (some ⟨b305, 0, none⟩)), (9, .slice (some ⟨b306, 0, none⟩) 4 4), (10, .int .i64 (wr64 (512 - i2))), (11, .int .i64 1), (12, .int .i64 (wr64 ((wr64 ((wr64 (0 + (wr64 ((wr64 ((wr64 ((wr64 (1 * (wr64 (512 - i2)))) * (wr64 (512 - i2)))) * (wr64 (512 - i2)))) * a0_0)))) + (wr64 ((wr64 ((wr64 ((wr64 (3 * i2)) * (wr64 (512 - i2)))) * (wr64 (512 - i2)))) * s1_1)))) + (wr64 ((wr64 ((wr64 ((wr64 (3 * i2)) * i2)) * (wr64 (512 - i2)))) * s1_3))))), (13, .int .i64 (wr64 ((wr64 ((wr64 (0 + (wr64 ((wr64 ((wr64 ((wr64 (1 * (wr64 (512 - i2)))) * (wr64 (512 - i2)))) * (wr64 (512 - i2)))) * a0_1)))) + (wr64 ((wr64 ((wr64 ((wr64 (3 * i2)) * (wr64 (512 - i2)))) * (wr64 (512 - i2)))) * s1_2)))) + (wr64 ((wr64 ((wr64 ((wr64 (3 * i2)) * i2)) * (wr64 (512 - i2)))) * s1_4))))), (14, .slice (some ⟨b309, 0, none⟩) 4 4), (15, .int .i64 3), (16, .int .i64 (wr64 ((wr64 (1 * i2)) * i2))), (17, .int .i64 2)]) (by kernel_rfl) ?_
  refine t_end ?_
  show WL _ _ _ _ _ _ _ _
  refine wl_step ?_
  refine w_seq ?_
  refine w_seq ?_
  refine w_reg fun all => ?_
  refine t_qz 2 [2, 3, 5, 8, 9, 10, 11, 12, 13, 14, 15, 16, 17, 56, 57] (σ' := [(2, .int .i64 i2), (3, .int .i64 512), (5, .pointer (some ⟨b304, 0, none⟩)), (8, .pointer (some ⟨b305, 0, none⟩)), (9, .slice (some ⟨b306, 0, none⟩) 4 4), (10, .int .i64 (wr64 (512 - i2))), (11, .int .i64 1), (12, .int .i64 (wr64 ((wr64 ((wr64 (0 + (wr64 ((wr64 ((wr64 ((wr64 (1 * (wr64 (512 - i2)))) * (wr64 (512 - i2)))) * (wr64 (512 - i2)))) * a0_0)))) + (wr64 ((wr64 ((wr64 ((wr64 (3 * i2)) * (wr64 (512 - i2)))) * (wr64 (512 - i2)))) * s1_1)))) + (wr64 ((wr64 ((wr64 ((wr64 (3 * i2)) * i2)) * (wr64 (512 - i2)))) * s1_3))))), (13, .int .i64 (wr64 ((wr64 ((wr64 (0 + (wr64 ((wr64 ((wr64 ((wr64 (1 * (wr64 (512 - i2)))) * (wr64 (512 - i2)))) * (wr64 (512 - i2)))) * a0_1)))) + (wr64 ((wr64 ((wr64 ((wr64 (3 * i2)) * (wr64 (512 - i2)))) * (wr64 (512 - i2)))) * s1_2)))) + (wr64 ((wr64 ((wr64 ((wr64 (3 * i2)) * i2)) * (wr64 (512 - i2)))) * s1_4))))), (14, .slice (some ⟨b309, 0, none⟩) 4 4), (15, .int .i64 3), (16, .int .i64 (wr64 ((wr64 (1 * i2)) * i2))), (17, .int .i64 2), (56, .int .i64 2), (57, .pointer (some ⟨b304, 0, none⟩))]) (by kernel_rfl) ?_
  refine t_v (.ld1 rfl rfl rfl (.at 6 rfl rfl)) ?_
  refine t_qz 1 [2, 3, 5, 8, 9, 10, 11, 12, 13, 14, 15, 16, 17, 59] (σ' := [(2, .int .i64 i2), (3, .int .i64 512), (5, .pointer (some ⟨b304, 0, none⟩)), (8, .pointer (some ⟨b305, 0, none⟩)), (9, .slice (some ⟨b306, 0, none⟩) 4 4), (10, .int .i64 (wr64 (512 - i2))), (11, .int .i64 1), (12, .int .i64 (wr64 ((wr64 ((wr64 (0 + (wr64 ((wr64 ((wr64 ((wr64 (1 * (wr64 (512 - i2)))) * (wr64 (512 - i2)))) * (wr64 (512 - i2)))) * a0_0)))) + (wr64 ((wr64 ((wr64 ((wr64 (3 * i2)) * (wr64 (512 - i2)))) * (wr64 (512 - i2)))) * s1_1)))) + (wr64 ((wr64 ((wr64 ((wr64 (3 * i2)) * i2)) * (wr64 (512 - i2)))) * s1_3))))), (13, .int .i64 (wr64 ((wr64 ((wr64 (0 + (wr64 ((wr64 ((wr64 ((wr64 (1 * (wr64 (512 - i2)))) * (wr64 (512 - i2)))) * (wr64 (512 - i2)))) * a0_1)))) + (wr64 ((wr64 ((wr64 ((wr64 (3 * i2)) * (wr64 (512 - i2)))) * (wr64 (512 - i2)))) * s1_2)))) + (wr64 ((wr64 ((wr64 ((wr64 (3 * i2)) * i2)) * (wr64 (512 - i2)))) * s1_4))))), (14, .slice (some ⟨b309, 0, none⟩) 4 4), (15, .int .i64 3), (16, .int .i64 (wr64 ((wr64 (1 * i2)) * i2))), (17, .int .i64 2), (59, .bool true)]) (by kernel_rfl) ?_
  refine t_end ?_
  show W _ _ _ _ _ _ _
  refine w_cond rfl (fun _ => ?_) (fun c_ => by cases c_)
  show W _ _ _ _ _ _ _
  refine w_skip ?_
  show W _ _ _ _ _ _ _
  refine w_seq ?_
  refine w_block ?_
  refine w_seq ?_
  refine w_reg fun all => ?_
  refine t_qz 3 [2, 3, 5, 8, 9, 10, 11, 12, 13, 14, 15, 16, 17, 64] (σ' := [(2, .int .i64 i2), (3, .int .i64 512), (5, .pointer (some ⟨b304, 0, none⟩)), (8, .pointer (some ⟨b305, 0, none⟩)), (9, .slice (some ⟨b306, 0, none⟩) 4 4), (10, .int .i64 (wr64 (512 - i2))), (11, .int .i64 1), (12, .int .i64 (wr64 ((wr64 ((wr64 (0 + (wr64 ((wr64 ((wr64 ((wr64 (1 * (wr64 (512 - i2)))) * (wr64 (512 - i2)))) * (wr64 (512 - i2)))) * a0_0)))) + (wr64 ((wr64 ((wr64 ((wr64 (3 * i2)) * (wr64 (512 - i2)))) * (wr64 (512 - i2)))) * s1_1)))) + (wr64 ((wr64 ((wr64 ((wr64 (3 * i2)) * i2)) * (wr64 (512 - i2)))) * s1_3))))), (13, .int .i64 (wr64 ((wr64 ((wr64 (0 + (wr64 ((wr64 ((wr64 ((wr64 (1 * (wr64 (512 - i2)))) * (wr64 (512 - i2)))) * (wr64 (512 - i2)))) * a0_1)))) + (wr64 ((wr64 ((wr64 ((wr64 (3 * i2)) * (wr64 (512 - i2)))) * (wr64 (512 - i2)))) * s1_2)))) + (wr64 ((wr64 ((wr64 ((wr64 (3 * i2)) * i2)) * (wr64 (512 - i2)))) * s1_4))))), (14, .slice (some ⟨b309, 0, none⟩) 4 4), (15, .int .i64 3), (16, .int .i64 (wr64 ((wr64 (1 * i2)) * i2))), (17, .int .i64 2), (64, .bool true)]) (by kernel_rfl) ?_
  refine t_end ?_
  show W _ _ _ _ _ _ _
  refine w_cond rfl (fun _ => ?_) (fun c_ => by cases c_)
  show W _ _ _ _ _ _ _
  refine w_reg fun all => ?_
  refine t_qz 4 [2, 3, 5, 8, 9, 10, 11, 12, 13, 14, 15, 16, 17] (σ' := [(2, .int .i64 i2), (3, .int .i64 512), (5, .pointer (some ⟨b304, 0, none⟩)), (8, .pointer (some ⟨b305, 0, none⟩)), (9, .slice (some ⟨b306, 0, none⟩) 4 4), (10, .int .i64 (wr64 (512 - i2))), (11, .int .i64 1), (12, .int .i64 (wr64 ((wr64 ((wr64 (0 + (wr64 ((wr64 ((wr64 ((wr64 (1 * (wr64 (512 - i2)))) * (wr64 (512 - i2)))) * (wr64 (512 - i2)))) * a0_0)))) + (wr64 ((wr64 ((wr64 ((wr64 (3 * i2)) * (wr64 (512 - i2)))) * (wr64 (512 - i2)))) * s1_1)))) + (wr64 ((wr64 ((wr64 ((wr64 (3 * i2)) * i2)) * (wr64 (512 - i2)))) * s1_3))))), (13, .int .i64 (wr64 ((wr64 ((wr64 (0 + (wr64 ((wr64 ((wr64 ((wr64 (1 * (wr64 (512 - i2)))) * (wr64 (512 - i2)))) * (wr64 (512 - i2)))) * a0_1)))) + (wr64 ((wr64 ((wr64 ((wr64 (3 * i2)) * (wr64 (512 - i2)))) * (wr64 (512 - i2)))) * s1_2)))) + (wr64 ((wr64 ((wr64 ((wr64 (3 * i2)) * i2)) * (wr64 (512 - i2)))) * s1_4))))), (14, .slice (some ⟨b309, 0, none⟩) 4 4), (15, .int .i64 3), (16, .int .i64 (wr64 ((wr64 ((wr64 (1 * i2)) * i2)) * i2))), (17, .int .i64 2)]) (by kernel_rfl) ?_
  refine t_end ?_
  show W _ _ _ _ _ _ _
  refine w_reg fun all => ?_
  refine t_qz 3 [2, 3, 5, 8, 9, 10, 11, 12, 13, 14, 15, 16, 17] (σ' := [(2, .int .i64 i2), (3, .int .i64 512), (5, .pointer (some ⟨b304, 0, none⟩)), (8, .pointer (some ⟨b305, 0, none⟩)), (9, .slice (some ⟨b306, 0, none⟩) 4 4), (10, .int .i64 (wr64 (512 - i2))), (11, .int .i64 1), (12, .int .i64 (wr64 ((wr64 ((wr64 (0 + (wr64 ((wr64 ((wr64 ((wr64 (1 * (wr64 (512 - i2)))) * (wr64 (512 - i2)))) * (wr64 (512 - i2)))) * a0_0)))) + (wr64 ((wr64 ((wr64 ((wr64 (3 * i2)) * (wr64 (512 - i2)))) * (wr64 (512 - i2)))) * s1_1)))) + (wr64 ((wr64 ((wr64 ((wr64 (3 * i2)) * i2)) * (wr64 (512 - i2)))) * s1_3))))), (13, .int .i64 (wr64 ((wr64 ((wr64 (0 + (wr64 ((wr64 ((wr64 ((wr64 (1 * (wr64 (512 - i2)))) * (wr64 (512 - i2)))) * (wr64 (512 - i2)))) * a0_1)))) + (wr64 ((wr64 ((wr64 ((wr64 (3 * i2)) * (wr64 (512 - i2)))) * (wr64 (512 - i2)))) * s1_2)))) + (wr64 ((wr64 ((wr64 ((wr64 (3 * i2)) * i2)) * (wr64 (512 - i2)))) * s1_4))))), (14, .slice (some ⟨b309, 0, none⟩) 4 4), (15, .int .i64 3), (16, .int .i64 (wr64 ((wr64 ((wr64 (1 * i2)) * i2)) * i2))), (17, .int .i64 3)]) (by kernel_rfl) ?_
  refine t_end ?_
  show WL _ _ _ _ _ _ _ _
  refine wl_step ?_
  refine w_seq ?_
  refine w_seq ?_
  refine w_reg fun all => ?_
  refine t_qz 2 [2, 3, 5, 8, 9, 10, 11, 12, 13, 14, 15, 16, 17, 56, 57] (σ' := [(2, .int .i64 i2), (3, .int .i64 512), (5, .pointer (some ⟨b304, 0, none⟩)), (8, .pointer (some ⟨b305, 0, none⟩)), (9, .slice (some ⟨b306, 0, none⟩) 4 4), (10, .int .i64 (wr64 (512 - i2))), (11, .int .i64 1), (12, .int .i64 (wr64 ((wr64 ((wr64 (0 + (wr64 ((wr64 ((wr64 ((wr64 (1 * (wr64 (512 - i2)))) * (wr64 (512 - i2)))) * (wr64 (512 - i2)))) * a0_0)))) + (wr64 ((wr64 ((wr64 ((wr64 (3 * i2)) * (wr64 (512 - i2)))) * (wr64 (512 - i2)))) * s1_1)))) + (wr64 ((wr64 ((wr64 ((wr64 (3 * i2)) * i2)) * (wr64 (512 - i2)))) * s1_3))))), (13, .int .i64 (wr64 ((wr64 ((wr64 (0 + (wr64 ((wr64 ((wr64 ((wr64 (1 * (wr64 (512 - i2)))) * (wr64 (512 - i2)))) * (wr64 (512 - i2)))) * a0_1)))) + (wr64 ((wr64 ((wr64 ((wr64 (3 * i2)) * (wr64 (512 - i2)))) * (wr64 (512 - i2)))) * s1_2)))) + (wr64 ((wr64 ((wr64 ((wr64 (3 * i2)) * i2)) * (wr64 (512 - i2)))) * s1_4))))), (14, .slice (some ⟨b309, 0, none⟩) 4 4), (15, .int .i64 3), (16, .int .i64 (wr64 ((wr64 ((wr64 (1 * i2)) * i2)) * i2))), (17, .int .i64 3), (56, .int .i64 3), (57, .pointer (some ⟨b304, 0, none⟩))]) (by kernel_rfl) ?_
  refine t_v (.ld1 rfl rfl rfl (.at 6 rfl rfl)) ?_
  refine t_qz 1 [2, 3, 5, 8, 9, 10, 11, 12, 13, 14, 15, 16, 17, 59] (σ' := [(2, .int .i64 i2), (3, .int .i64 512), (5, .pointer (some ⟨b304, 0, none⟩)), (8, .pointer (some ⟨b305, 0, none⟩)), (9, .slice (some ⟨b306, 0, none⟩) 4 4), (10, .int .i64 (wr64 (512 - i2))), (11, .int .i64 1), (12, .int .i64 (wr64 ((wr64 ((wr64 (0 + (wr64 ((wr64 ((wr64 ((wr64 (1 * (wr64 (512 - i2)))) * (wr64 (512 - i2)))) * (wr64 (512 - i2)))) * a0_0)))) + (wr64 ((wr64 ((wr64 ((wr64 (3 * i2)) * (wr64 (512 - i2)))) * (wr64 (512 - i2)))) * s1_1)))) + (wr64 ((wr64 ((wr64 ((wr64 (3 * i2)) * i2)) * (wr64 (512 - i2)))) * s1_3))))), (13, .int .i64 (wr64 ((wr64 ((wr64 (0 + (wr64 ((wr64 ((wr64 ((wr64 (1 * (wr64 (512 - i2)))) * (wr64 (512 - i2)))) * (wr64 (512 - i2)))) * a0_1)))) + (wr64 ((wr64 ((wr64 ((wr64 (3 * i2)) * (wr64 (512 - i2)))) * (wr64 (512 - i2)))) * s1_2)))) + (wr64 ((wr64 ((wr64 ((wr64 (3 * i2)) * i2)) * (wr64 (512 - i2)))) * s1_4))))), (14, .slice (some ⟨b309, 0, none⟩) 4 4), (15, .int .i64 3), (16, .int .i64 (wr64 ((wr64 ((wr64 (1 * i2)) * i2)) * i2))), (17, .int .i64 3), (59, .bool false)]) (by kernel_rfl) ?_
  refine t_end ?_
  show W _ _ _ _ _ _ _
  refine w_cond rfl (fun c_ => by cases c_) (fun _ => ?_)
  show W _ _ _ _ _ _ _
  refine w_exit ?_
  show W _ _ _ _ _ _ _
  refine w_seq ?_
  refine w_reg fun all => ?_
  refine t_qz 6 [2, 3, 5, 8, 9, 10, 11, 13, 14, 15, 16, 71, 72, 76] (σ' := [(2, .int .i64 i2), (3, .int .i64 512), (5, .pointer (some ⟨b304, 0, none⟩)), (8, .pointer (some ⟨b305, 0, none⟩)), (9, .slice (some ⟨b306, 0, none⟩) 4 4), (10, .int .i64 (wr64 (512 - i2))), (11, .int .i64 1), (13, .int .i64 (wr64 ((wr64 ((wr64 (0 + (wr64 ((wr64 ((wr64 ((wr64 (1 * (wr64 (512 - i2)))) * (wr64 (512 - i2)))) * (wr64 (512 - i2)))) * a0_1)))) + (wr64 ((wr64 ((wr64 ((wr64 (3 * i2)) * (wr64 (512 - i2)))) * (wr64 (512 - i2)))) * s1_2)))) + (wr64 ((wr64 ((wr64 ((wr64 (3 * i2)) * i2)) * (wr64 (512 - i2)))) * s1_4))))), (14, .slice (some ⟨b309, 0, none⟩) 4 4), (15, .int .i64 3), (16, .int .i64 (wr64 ((wr64 ((wr64 (1 * i2)) * i2)) * i2))), (71, .int .i64 (wr64 ((wr64 ((wr64 (0 + (wr64 ((wr64 ((wr64 ((wr64 (1 * (wr64 (512 - i2)))) * (wr64 (512 - i2)))) * (wr64 (512 - i2)))) * a0_0)))) + (wr64 ((wr64 ((wr64 ((wr64 (3 * i2)) * (wr64 (512 - i2)))) * (wr64 (512 - i2)))) * s1_1)))) + (wr64 ((wr64 ((wr64 ((wr64 (3 * i2)) * i2)) * (wr64 (512 - i2)))) * s1_3))))), (72, .int .i64 (wr64 ((wr64 ((wr64 (1 * i2)) * i2)) * i2))), (76, .pointer (some ⟨b306, 6, none⟩))]) (by kernel_rfl) ?_
  refine t_v (.ld1 rfl rfl rfl (.at 4 rfl rfl)) ?_
  refine t_qz 3 [2, 3, 5, 8, 9, 10, 11, 12, 13, 14, 15, 16] (σ' := [(2, .int .i64 i2), (3, .int .i64 512), (5, .pointer (some ⟨b304, 0, none⟩)), (8, .pointer (some ⟨b305, 0, none⟩)), (9, .slice (some ⟨b306, 0, none⟩) 4 4), (10, .int .i64 (wr64 (512 - i2))), (11, .int .i64 1), (12, .int .i64 (wr64 ((wr64 ((wr64 ((wr64 (0 + (wr64 ((wr64 ((wr64 ((wr64 (1 * (wr64 (512 - i2)))) * (wr64 (512 - i2)))) * (wr64 (512 - i2)))) * a0_0)))) + (wr64 ((wr64 ((wr64 ((wr64 (3 * i2)) * (wr64 (512 - i2)))) * (wr64 (512 - i2)))) * s1_1)))) + (wr64 ((wr64 ((wr64 ((wr64 (3 * i2)) * i2)) * (wr64 (512 - i2)))) * s1_3)))) + (wr64 ((wr64 ((wr64 ((wr64 (1 * i2)) * i2)) * i2)) * s1_5))))), (13, .int .i64 (wr64 ((wr64 ((wr64 (0 + (wr64 ((wr64 ((wr64 ((wr64 (1 * (wr64 (512 - i2)))) * (wr64 (512 - i2)))) * (wr64 (512 - i2)))) * a0_1)))) + (wr64 ((wr64 ((wr64 ((wr64 (3 * i2)) * (wr64 (512 - i2)))) * (wr64 (512 - i2)))) * s1_2)))) + (wr64 ((wr64 ((wr64 ((wr64 (3 * i2)) * i2)) * (wr64 (512 - i2)))) * s1_4))))), (14, .slice (some ⟨b309, 0, none⟩) 4 4), (15, .int .i64 3), (16, .int .i64 (wr64 ((wr64 ((wr64 (1 * i2)) * i2)) * i2)))]) (by kernel_rfl) ?_
  refine t_end ?_
  show W _ _ _ _ _ _ _
  refine w_reg fun all => ?_
  refine t_qz 6 [2, 3, 5, 8, 9, 10, 11, 12, 14, 15, 80, 81, 85] (σ' := [(2, .int .i64 i2), (3, .int .i64 512), (5, .pointer (some ⟨b304, 0, none⟩)), (8, .pointer (some ⟨b305, 0, none⟩)), (9, .slice (some ⟨b306, 0, none⟩) 4 4), (10, .int .i64 (wr64 (512 - i2))), (11, .int .i64 1), (12, .int .i64 (wr64 ((wr64 ((wr64 ((wr64 (0 + (wr64 ((wr64 ((wr64 ((wr64 (1 * (wr64 (512 - i2)))) * (wr64 (512 - i2)))) * (wr64 (512 - i2)))) * a0_0)))) + (wr64 ((wr64 ((wr64 ((wr64 (3 * i2)) * (wr64 (512 - i2)))) * (wr64 (512 - i2)))) * s1_1)))) + (wr64 ((wr64 ((wr64 ((wr64 (3 * i2)) * i2)) * (wr64 (512 - i2)))) * s1_3)))) + (wr64 ((wr64 ((wr64 ((wr64 (1 * i2)) * i2)) * i2)) * s1_5))))), (14, .slice (some ⟨b309, 0, none⟩) 4 4), (15, .int .i64 3), (80, .int .i64 (wr64 ((wr64 ((wr64 (0 + (wr64 ((wr64 ((wr64 ((wr64 (1 * (wr64 (512 - i2)))) * (wr64 (512 - i2)))) * (wr64 (512 - i2)))) * a0_1)))) + (wr64 ((wr64 ((wr64 ((wr64 (3 * i2)) * (wr64 (512 - i2)))) * (wr64 (512 - i2)))) * s1_2)))) + (wr64 ((wr64 ((wr64 ((wr64 (3 * i2)) * i2)) * (wr64 (512 - i2)))) * s1_4))))), (81, .int .i64 (wr64 ((wr64 ((wr64 (1 * i2)) * i2)) * i2))), (85, .pointer (some ⟨b306, 7, none⟩))]) (by kernel_rfl) ?_
  refine t_v (.ld1 rfl rfl rfl (.at 4 rfl rfl)) ?_
  refine t_qz 3 [2, 3, 5, 8, 9, 10, 11, 12, 13, 14, 15] (σ' := [(2, .int .i64 i2), (3, .int .i64 512), (5, .pointer (some ⟨b304, 0, none⟩)), (8, .pointer (some ⟨b305, 0, none⟩)), (9, .slice (some ⟨b306, 0, none⟩) 4 4), (10, .int .i64 (wr64 (512 - i2))), (11, .int .i64 1), (12, .int .i64 (wr64 ((wr64 ((wr64 ((wr64 (0 + (wr64 ((wr64 ((wr64 ((wr64 (1 * (wr64 (512 - i2)))) * (wr64 (512 - i2)))) * (wr64 (512 - i2)))) * a0_0)))) + (wr64 ((wr64 ((wr64 ((wr64 (3 * i2)) * (wr64 (512 - i2)))) * (wr64 (512 - i2)))) * s1_1)))) + (wr64 ((wr64 ((wr64 ((wr64 (3 * i2)) * i2)) * (wr64 (512 - i2)))) * s1_3)))) + (wr64 ((wr64 ((wr64 ((wr64 (1 * i2)) * i2)) * i2)) * s1_5))))), (13, .int .i64 (wr64 ((wr64 ((wr64 ((wr64 (0 + (wr64 ((wr64 ((wr64 ((wr64 (1 * (wr64 (512 - i2)))) * (wr64 (512 - i2)))) * (wr64 (512 - i2)))) * a0_1)))) + (wr64 ((wr64 ((wr64 ((wr64 (3 * i2)) * (wr64 (512 - i2)))) * (wr64 (512 - i2)))) * s1_2)))) + (wr64 ((wr64 ((wr64 ((wr64 (3 * i2)) * i2)) * (wr64 (512 - i2)))) * s1_4)))) + (wr64 ((wr64 ((wr64 ((wr64 (1 * i2)) * i2)) * i2)) * s1_6))))), (14, .slice (some ⟨b309, 0, none⟩) 4 4), (15, .int .i64 3)]) (by kernel_rfl) ?_
  refine t_end ?_
  show W _ _ _ _ _ _ _
  refine w_reg fun all => ?_
  refine t_qz 3 [2, 3, 5, 8, 9, 10, 11, 12, 13, 14, 15] (σ' := [(2, .int .i64 i2), (3, .int .i64 512), (5, .pointer (some ⟨b304, 0, none⟩)), (8, .pointer (some ⟨b305, 0, none⟩)), (9, .slice (some ⟨b306, 0, none⟩) 4 4), (10, .int .i64 (wr64 (512 - i2))), (11, .int .i64 1), (12, .int .i64 (wr64 ((wr64 ((wr64 ((wr64 (0 + (wr64 ((wr64 ((wr64 ((wr64 (1 * (wr64 (512 - i2)))) * (wr64 (512 - i2)))) * (wr64 (512 - i2)))) * a0_0)))) + (wr64 ((wr64 ((wr64 ((wr64 (3 * i2)) * (wr64 (512 - i2)))) * (wr64 (512 - i2)))) * s1_1)))) + (wr64 ((wr64 ((wr64 ((wr64 (3 * i2)) * i2)) * (wr64 (512 - i2)))) * s1_3)))) + (wr64 ((wr64 ((wr64 ((wr64 (1 * i2)) * i2)) * i2)) * s1_5))))), (13, .int .i64 (wr64 ((wr64 ((wr64 ((wr64 (0 + (wr64 ((wr64 ((wr64 ((wr64 (1 * (wr64 (512 - i2)))) * (wr64 (512 - i2)))) * (wr64 (512 - i2)))) * a0_1)))) + (wr64 ((wr64 ((wr64 ((wr64 (3 * i2)) * (wr64 (512 - i2)))) * (wr64 (512 - i2)))) * s1_2)))) + (wr64 ((wr64 ((wr64 ((wr64 (3 * i2)) * i2)) * (wr64 (512 - i2)))) * s1_4)))) + (wr64 ((wr64 ((wr64 ((wr64 (1 * i2)) * i2)) * i2)) * s1_6))))), (14, .slice (some ⟨b309, 0, none⟩) 4 4), (15, .int .i64 4)]) (by kernel_rfl) ?_
  refine t_end ?_
  show WL _ _ _ _ _ _ _ _
  refine wl_step ?_
  refine w_seq ?_
  refine w_seq ?_
  refine w_reg fun all => ?_
  refine t_qz 2 [2, 3, 5, 8, 9, 10, 11, 12, 13, 14, 15, 46, 47] (σ' := [(2, .int .i64 i2), (3, .int .i64 512), (5, .pointer (some ⟨b304, 0, none⟩)), (8, .pointer (some ⟨b305, 0, none⟩)), (9, .slice (some ⟨b306, 0, none⟩) 4 4), (10, .int .i64 (wr64 (512 - i2))), (11, .int .i64 1), (12, .int .i64 (wr64 ((wr64 ((wr64 ((wr64 (0 + (wr64 ((wr64 ((wr64 ((wr64 (1 * (wr64 (512 - i2)))) * (wr64 (512 - i2)))) * (wr64 (512 - i2)))) * a0_0)))) + (wr64 ((wr64 ((wr64 ((wr64 (3 * i2)) * (wr64 (512 - i2)))) * (wr64 (512 - i2)))) * s1_1)))) + (wr64 ((wr64 ((wr64 ((wr64 (3 * i2)) * i2)) * (wr64 (512 - i2)))) * s1_3)))) + (wr64 ((wr64 ((wr64 ((wr64 (1 * i2)) * i2)) * i2)) * s1_5))))), (13, .int .i64 (wr64 ((wr64 ((wr64 ((wr64 (0 + (wr64 ((wr64 ((wr64 ((wr64 (1 * (wr64 (512 - i2)))) * (wr64 (512 - i2)))) * (wr64 (512 - i2)))) * a0_1)))) + (wr64 ((wr64 ((wr64 ((wr64 (3 * i2)) * (wr64 (512 - i2)))) * (wr64 (512 - i2)))) * s1_2)))) + (wr64 ((wr64 ((wr64 ((wr64 (3 * i2)) * i2)) * (wr64 (512 - i2)))) * s1_4)))) + (wr64 ((wr64 ((wr64 ((wr64 (1 * i2)) * i2)) * i2)) * s1_6))))), (14, .slice (some ⟨b309, 0, none⟩) 4 4), (15, .int .i64 4), (46, .int .i64 4), (47, .pointer (some ⟨b304, 0, none⟩))]) (by kernel_rfl) ?_
  refine t_v (.ld1 rfl rfl rfl (.at 6 rfl rfl)) ?_
  refine t_qz 1 [2, 3, 5, 8, 9, 10, 11, 12, 13, 14, 15, 49] (σ' := [(2, .int .i64 i2), (3, .int .i64 512), (5, .pointer (some ⟨b304, 0, none⟩)), (8, .pointer (some ⟨b305, 0, none⟩)), (9, .slice (some ⟨b306, 0, none⟩) 4 4), (10, .int .i64 (wr64 (512 - i2))), (11, .int .i64 1), (12, .int .i64 (wr64 ((wr64 ((wr64 ((wr64 (0 + (wr64 ((wr64 ((wr64 ((wr64 (1 * (wr64 (512 - i2)))) * (wr64 (512 - i2)))) * (wr64 (512 - i2)))) * a0_0)))) + (wr64 ((wr64 ((wr64 ((wr64 (3 * i2)) * (wr64 (512 - i2)))) * (wr64 (512 - i2)))) * s1_1)))) + (wr64 ((wr64 ((wr64 ((wr64 (3 * i2)) * i2)) * (wr64 (512 - i2)))) * s1_3)))) + (wr64 ((wr64 ((wr64 ((wr64 (1 * i2)) * i2)) * i2)) * s1_5))))), (13, .int .i64 (wr64 ((wr64 ((wr64 ((wr64 (0 + (wr64 ((wr64 ((wr64 ((wr64 (1 * (wr64 (512 - i2)))) * (wr64 (512 - i2)))) * (wr64 (512 - i2)))) * a0_1)))) + (wr64 ((wr64 ((wr64 ((wr64 (3 * i2)) * (wr64 (512 - i2)))) * (wr64 (512 - i2)))) * s1_2)))) + (wr64 ((wr64 ((wr64 ((wr64 (3 * i2)) * i2)) * (wr64 (512 - i2)))) * s1_4)))) + (wr64 ((wr64 ((wr64 ((wr64 (1 * i2)) * i2)) * i2)) * s1_6))))), (14, .slice (some ⟨b309, 0, none⟩) 4 4), (15, .int .i64 4), (49, .bool false)]) (by kernel_rfl) ?_
  refine t_end ?_
  show W _ _ _ _ _ _ _
  refine w_cond rfl (fun c_ => by cases c_) (fun _ => ?_)
  show W _ _ _ _ _ _ _
  refine w_exit ?_
  show W _ _ _ _ _ _ _
  refine w_seq ?_
  refine w_seq ?_
  refine w_reg fun all => ?_
  refine t_qz 1 [3, 5, 8, 11, 12, 13, 18] (σ' := [(3, .int .i64 512), (5, .pointer (some ⟨b304, 0, none⟩)), (8, .pointer (some ⟨b305, 0, none⟩)), (11, .int .i64 1), (12, .int .i64 (wr64 ((wr64 ((wr64 ((wr64 (0 + (wr64 ((wr64 ((wr64 ((wr64 (1 * (wr64 (512 - i2)))) * (wr64 (512 - i2)))) * (wr64 (512 - i2)))) * a0_0)))) + (wr64 ((wr64 ((wr64 ((wr64 (3 * i2)) * (wr64 (512 - i2)))) * (wr64 (512 - i2)))) * s1_1)))) + (wr64 ((wr64 ((wr64 ((wr64 (3 * i2)) * i2)) * (wr64 (512 - i2)))) * s1_3)))) + (wr64 ((wr64 ((wr64 ((wr64 (1 * i2)) * i2)) * i2)) * s1_5))))), (13, .int .i64 (wr64 ((wr64 ((wr64 ((wr64 (0 + (wr64 ((wr64 ((wr64 ((wr64 (1 * (wr64 (512 - i2)))) * (wr64 (512 - i2)))) * (wr64 (512 - i2)))) * a0_1)))) + (wr64 ((wr64 ((wr64 ((wr64 (3 * i2)) * (wr64 (512 - i2)))) * (wr64 (512 - i2)))) * s1_2)))) + (wr64 ((wr64 ((wr64 ((wr64 (3 * i2)) * i2)) * (wr64 (512 - i2)))) * s1_4)))) + (wr64 ((wr64 ((wr64 ((wr64 (1 * i2)) * i2)) * i2)) * s1_6))))), (18, .int .i64 0)]) (by kernel_rfl) ?_
  refine t_end ?_
  show W _ _ _ _ _ _ _
  refine w_block ?_
  refine w_lun 10 ?_
  refine wl_step ?_
  refine w_seq ?_
  refine w_seq ?_
  refine w_reg fun all => ?_
  refine t_qz 2 [3, 5, 8, 11, 12, 13, 18, 89, 90] (σ' := [(3, .int .i64 512), (5, .pointer (some ⟨b304, 0, none⟩)), (8, .pointer (some ⟨b305, 0, none⟩)), (11, .int .i64 1), (12, .int .i64 (wr64 ((wr64 ((wr64 ((wr64 (0 + (wr64 ((wr64 ((wr64 ((wr64 (1 * (wr64 (512 - i2)))) * (wr64 (512 - i2)))) * (wr64 (512 - i2)))) * a0_0)))) + (wr64 ((wr64 ((wr64 ((wr64 (3 * i2)) * (wr64 (512 - i2)))) * (wr64 (512 - i2)))) * s1_1)))) + (wr64 ((wr64 ((wr64 ((wr64 (3 * i2)) * i2)) * (wr64 (512 - i2)))) * s1_3)))) + (wr64 ((wr64 ((wr64 ((wr64 (1 * i2)) * i2)) * i2)) * s1_5))))), (13, .int .i64 (wr64 ((wr64 ((wr64 ((wr64 (0 + (wr64 ((wr64 ((wr64 ((wr64 (1 * (wr64 (512 - i2)))) * (wr64 (512 - i2)))) * (wr64 (512 - i2)))) * a0_1)))) + (wr64 ((wr64 ((wr64 ((wr64 (3 * i2)) * (wr64 (512 - i2)))) * (wr64 (512 - i2)))) * s1_2)))) + (wr64 ((wr64 ((wr64 ((wr64 (3 * i2)) * i2)) * (wr64 (512 - i2)))) * s1_4)))) + (wr64 ((wr64 ((wr64 ((wr64 (1 * i2)) * i2)) * i2)) * s1_6))))), (18, .int .i64 0), (89, .int .i64 0), (90, .pointer (some ⟨b304, 0, none⟩))]) (by kernel_rfl) ?_
  refine t_v (.ld1 rfl rfl rfl (.at 6 rfl rfl)) ?_
  refine t_qz 1 [3, 5, 8, 11, 12, 13, 18, 92] (σ' := [(3, .int .i64 512), (5, .pointer (some ⟨b304, 0, none⟩)), (8, .pointer (some ⟨b305, 0, none⟩)), (11, .int .i64 1), (12, .int .i64 (wr64 ((wr64 ((wr64 ((wr64 (0 + (wr64 ((wr64 ((wr64 ((wr64 (1 * (wr64 (512 - i2)))) * (wr64 (512 - i2)))) * (wr64 (512 - i2)))) * a0_0)))) + (wr64 ((wr64 ((wr64 ((wr64 (3 * i2)) * (wr64 (512 - i2)))) * (wr64 (512 - i2)))) * s1_1)))) + (wr64 ((wr64 ((wr64 ((wr64 (3 * i2)) * i2)) * (wr64 (512 - i2)))) * s1_3)))) + (wr64 ((wr64 ((wr64 ((wr64 (1 * i2)) * i2)) * i2)) * s1_5))))), (13, .int .i64 (wr64 ((wr64 ((wr64 ((wr64 (0 + (wr64 ((wr64 ((wr64 ((wr64 (1 * (wr64 (512 - i2)))) * (wr64 (512 - i2)))) * (wr64 (512 - i2)))) * a0_1)))) + (wr64 ((wr64 ((wr64 ((wr64 (3 * i2)) * (wr64 (512 - i2)))) * (wr64 (512 - i2)))) * s1_2)))) + (wr64 ((wr64 ((wr64 ((wr64 (3 * i2)) * i2)) * (wr64 (512 - i2)))) * s1_4)))) + (wr64 ((wr64 ((wr64 ((wr64 (1 * i2)) * i2)) * i2)) * s1_6))))), (18, .int .i64 0), (92, .bool true)]) (by kernel_rfl) ?_
  refine t_end ?_
  show W _ _ _ _ _ _ _
  refine w_cond rfl (fun _ => ?_) (fun c_ => by cases c_)
  show W _ _ _ _ _ _ _
  refine w_skip ?_
  show W _ _ _ _ _ _ _
  refine w_seq ?_
  refine w_block ?_
  refine w_reg fun all => ?_
  refine t_qz 4 [3, 5, 8, 11, 12, 13, 18] (σ' := [(3, .int .i64 512), (5, .pointer (some ⟨b304, 0, none⟩)), (8, .pointer (some ⟨b305, 0, none⟩)), (11, .int .i64 512), (12, .int .i64 (wr64 ((wr64 ((wr64 ((wr64 (0 + (wr64 ((wr64 ((wr64 ((wr64 (1 * (wr64 (512 - i2)))) * (wr64 (512 - i2)))) * (wr64 (512 - i2)))) * a0_0)))) + (wr64 ((wr64 ((wr64 ((wr64 (3 * i2)) * (wr64 (512 - i2)))) * (wr64 (512 - i2)))) * s1_1)))) + (wr64 ((wr64 ((wr64 ((wr64 (3 * i2)) * i2)) * (wr64 (512 - i2)))) * s1_3)))) + (wr64 ((wr64 ((wr64 ((wr64 (1 * i2)) * i2)) * i2)) * s1_5))))), (13, .int .i64 (wr64 ((wr64 ((wr64 ((wr64 (0 + (wr64 ((wr64 ((wr64 ((wr64 (1 * (wr64 (512 - i2)))) * (wr64 (512 - i2)))) * (wr64 (512 - i2)))) * a0_1)))) + (wr64 ((wr64 ((wr64 ((wr64 (3 * i2)) * (wr64 (512 - i2)))) * (wr64 (512 - i2)))) * s1_2)))) + (wr64 ((wr64 ((wr64 ((wr64 (3 * i2)) * i2)) * (wr64 (512 - i2)))) * s1_4)))) + (wr64 ((wr64 ((wr64 ((wr64 (1 * i2)) * i2)) * i2)) * s1_6))))), (18, .int .i64 0)]) (by kernel_rfl) ?_
  refine t_end ?_
  show W _ _ _ _ _ _ _
  refine w_reg fun all => ?_
  refine t_qz 3 [3, 5, 8, 11, 12, 13, 18] (σ' := [(3, .int .i64 512), (5, .pointer (some ⟨b304, 0, none⟩)), (8, .pointer (some ⟨b305, 0, none⟩)), (11, .int .i64 512), (12, .int .i64 (wr64 ((wr64 ((wr64 ((wr64 (0 + (wr64 ((wr64 ((wr64 ((wr64 (1 * (wr64 (512 - i2)))) * (wr64 (512 - i2)))) * (wr64 (512 - i2)))) * a0_0)))) + (wr64 ((wr64 ((wr64 ((wr64 (3 * i2)) * (wr64 (512 - i2)))) * (wr64 (512 - i2)))) * s1_1)))) + (wr64 ((wr64 ((wr64 ((wr64 (3 * i2)) * i2)) * (wr64 (512 - i2)))) * s1_3)))) + (wr64 ((wr64 ((wr64 ((wr64 (1 * i2)) * i2)) * i2)) * s1_5))))), (13, .int .i64 (wr64 ((wr64 ((wr64 ((wr64 (0 + (wr64 ((wr64 ((wr64 ((wr64 (1 * (wr64 (512 - i2)))) * (wr64 (512 - i2)))) * (wr64 (512 - i2)))) * a0_1)))) + (wr64 ((wr64 ((wr64 ((wr64 (3 * i2)) * (wr64 (512 - i2)))) * (wr64 (512 - i2)))) * s1_2)))) + (wr64 ((wr64 ((wr64 ((wr64 (3 * i2)) * i2)) * (wr64 (512 - i2)))) * s1_4)))) + (wr64 ((wr64 ((wr64 ((wr64 (1 * i2)) * i2)) * i2)) * s1_6))))), (18, .int .i64 1)]) (by kernel_rfl) ?_
  refine t_end ?_
  show WL _ _ _ _ _ _ _ _
  refine wl_step ?_
  refine w_seq ?_
  refine w_seq ?_
  refine w_reg fun all => ?_
  refine t_qz 2 [3, 5, 8, 11, 12, 13, 18, 89, 90] (σ' := [(3, .int .i64 512), (5, .pointer (some ⟨b304, 0, none⟩)), (8, .pointer (some ⟨b305, 0, none⟩)), (11, .int .i64 512), (12, .int .i64 (wr64 ((wr64 ((wr64 ((wr64 (0 + (wr64 ((wr64 ((wr64 ((wr64 (1 * (wr64 (512 - i2)))) * (wr64 (512 - i2)))) * (wr64 (512 - i2)))) * a0_0)))) + (wr64 ((wr64 ((wr64 ((wr64 (3 * i2)) * (wr64 (512 - i2)))) * (wr64 (512 - i2)))) * s1_1)))) + (wr64 ((wr64 ((wr64 ((wr64 (3 * i2)) * i2)) * (wr64 (512 - i2)))) * s1_3)))) + (wr64 ((wr64 ((wr64 ((wr64 (1 * i2)) * i2)) * i2)) * s1_5))))), (13, .int .i64 (wr64 ((wr64 ((wr64 ((wr64 (0 + (wr64 ((wr64 ((wr64 ((wr64 (1 * (wr64 (512 - i2)))) * (wr64 (512 - i2)))) * (wr64 (512 - i2)))) * a0_1)))) + (wr64 ((wr64 ((wr64 ((wr64 (3 * i2)) * (wr64 (512 - i2)))) * (wr64 (512 - i2)))) * s1_2)))) + (wr64 ((wr64 ((wr64 ((wr64 (3 * i2)) * i2)) * (wr64 (512 - i2)))) * s1_4)))) + (wr64 ((wr64 ((wr64 ((wr64 (1 * i2)) * i2)) * i2)) * s1_6))))), (18, .int .i64 1), (89, .int .i64 1), (90, .pointer (some ⟨b304, 0, none⟩))]) (by kernel_rfl) ?_
  refine t_v (.ld1 rfl rfl rfl (.at 6 rfl rfl)) ?_
  refine t_qz 1 [3, 5, 8, 11, 12, 13, 18, 92] (σ' := [(3, .int .i64 512), (5, .pointer (some ⟨b304, 0, none⟩)), (8, .pointer (some ⟨b305, 0, none⟩)), (11, .int .i64 512), (12, .int .i64 (wr64 ((wr64 ((wr64 ((wr64 (0 + (wr64 ((wr64 ((wr64 ((wr64 (1 * (wr64 (512 - i2)))) * (wr64 (512 - i2)))) * (wr64 (512 - i2)))) * a0_0)))) + (wr64 ((wr64 ((wr64 ((wr64 (3 * i2)) * (wr64 (512 - i2)))) * (wr64 (512 - i2)))) * s1_1)))) + (wr64 ((wr64 ((wr64 ((wr64 (3 * i2)) * i2)) * (wr64 (512 - i2)))) * s1_3)))) + (wr64 ((wr64 ((wr64 ((wr64 (1 * i2)) * i2)) * i2)) * s1_5))))), (13, .int .i64 (wr64 ((wr64 ((wr64 ((wr64 (0 + (wr64 ((wr64 ((wr64 ((wr64 (1 * (wr64 (512 - i2)))) * (wr64 (512 - i2)))) * (wr64 (512 - i2)))) * a0_1)))) + (wr64 ((wr64 ((wr64 ((wr64 (3 * i2)) * (wr64 (512 - i2)))) * (wr64 (512 - i2)))) * s1_2)))) + (wr64 ((wr64 ((wr64 ((wr64 (3 * i2)) * i2)) * (wr64 (512 - i2)))) * s1_4)))) + (wr64 ((wr64 ((wr64 ((wr64 (1 * i2)) * i2)) * i2)) * s1_6))))), (18, .int .i64 1), (92, .bool true)]) (by kernel_rfl) ?_
  refine t_end ?_
  show W _ _ _ _ _ _ _
  refine w_cond rfl (fun _ => ?_) (fun c_ => by cases c_)
  show W _ _ _ _ _ _ _
  refine w_skip ?_
  show W _ _ _ _ _ _ _
  refine w_seq ?_
  refine w_block ?_
  refine w_reg fun all => ?_
  refine t_qz 4 [3, 5, 8, 11, 12, 13, 18] (σ' := [(3, .int .i64 512), (5, .pointer (some ⟨b304, 0, none⟩)), (8, .pointer (some ⟨b305, 0, none⟩)), (11, .int .i64 262144), (12, .int .i64 (wr64 ((wr64 ((wr64 ((wr64 (0 + (wr64 ((wr64 ((wr64 ((wr64 (1 * (wr64 (512 - i2)))) * (wr64 (512 - i2)))) * (wr64 (512 - i2)))) * a0_0)))) + (wr64 ((wr64 ((wr64 ((wr64 (3 * i2)) * (wr64 (512 - i2)))) * (wr64 (512 - i2)))) * s1_1)))) + (wr64 ((wr64 ((wr64 ((wr64 (3 * i2)) * i2)) * (wr64 (512 - i2)))) * s1_3)))) + (wr64 ((wr64 ((wr64 ((wr64 (1 * i2)) * i2)) * i2)) * s1_5))))), (13, .int .i64 (wr64 ((wr64 ((wr64 ((wr64 (0 + (wr64 ((wr64 ((wr64 ((wr64 (1 * (wr64 (512 - i2)))) * (wr64 (512 - i2)))) * (wr64 (512 - i2)))) * a0_1)))) + (wr64 ((wr64 ((wr64 ((wr64 (3 * i2)) * (wr64 (512 - i2)))) * (wr64 (512 - i2)))) * s1_2)))) + (wr64 ((wr64 ((wr64 ((wr64 (3 * i2)) * i2)) * (wr64 (512 - i2)))) * s1_4)))) + (wr64 ((wr64 ((wr64 ((wr64 (1 * i2)) * i2)) * i2)) * s1_6))))), (18, .int .i64 1)]) (by kernel_rfl) ?_
  refine t_end ?_
  show W _ _ _ _ _ _ _
  refine w_reg fun all => ?_
  refine t_qz 3 [3, 5, 8, 11, 12, 13, 18] (σ' := [(3, .int .i64 512), (5, .pointer (some ⟨b304, 0, none⟩)), (8, .pointer (some ⟨b305, 0, none⟩)), (11, .int .i64 262144), (12, .int .i64 (wr64 ((wr64 ((wr64 ((wr64 (0 + (wr64 ((wr64 ((wr64 ((wr64 (1 * (wr64 (512 - i2)))) * (wr64 (512 - i2)))) * (wr64 (512 - i2)))) * a0_0)))) + (wr64 ((wr64 ((wr64 ((wr64 (3 * i2)) * (wr64 (512 - i2)))) * (wr64 (512 - i2)))) * s1_1)))) + (wr64 ((wr64 ((wr64 ((wr64 (3 * i2)) * i2)) * (wr64 (512 - i2)))) * s1_3)))) + (wr64 ((wr64 ((wr64 ((wr64 (1 * i2)) * i2)) * i2)) * s1_5))))), (13, .int .i64 (wr64 ((wr64 ((wr64 ((wr64 (0 + (wr64 ((wr64 ((wr64 ((wr64 (1 * (wr64 (512 - i2)))) * (wr64 (512 - i2)))) * (wr64 (512 - i2)))) * a0_1)))) + (wr64 ((wr64 ((wr64 ((wr64 (3 * i2)) * (wr64 (512 - i2)))) * (wr64 (512 - i2)))) * s1_2)))) + (wr64 ((wr64 ((wr64 ((wr64 (3 * i2)) * i2)) * (wr64 (512 - i2)))) * s1_4)))) + (wr64 ((wr64 ((wr64 ((wr64 (1 * i2)) * i2)) * i2)) * s1_6))))), (18, .int .i64 2)]) (by kernel_rfl) ?_
  refine t_end ?_
  show WL _ _ _ _ _ _ _ _
  refine wl_step ?_
  refine w_seq ?_
  refine w_seq ?_
  refine w_reg fun all => ?_
  refine t_qz 2 [3, 5, 8, 11, 12, 13, 18, 89, 90] (σ' := [(3, .int .i64 512), (5, .pointer (some ⟨b304, 0, none⟩)), (8, .pointer (some ⟨b305, 0, none⟩)), (11, .int .i64 262144), (12, .int .i64 (wr64 ((wr64 ((wr64 ((wr64 (0 + (wr64 ((wr64 ((wr64 ((wr64 (1 * (wr64 (512 - i2)))) * (wr64 (512 - i2)))) * (wr64 (512 - i2)))) * a0_0)))) + (wr64 ((wr64 ((wr64 ((wr64 (3 * i2)) * (wr64 (512 - i2)))) * (wr64 (512 - i2)))) * s1_1)))) + (wr64 ((wr64 ((wr64 ((wr64 (3 * i2)) * i2)) * (wr64 (512 - i2)))) * s1_3)))) + (wr64 ((wr64 ((wr64 ((wr64 (1 * i2)) * i2)) * i2)) * s1_5))))), (13, .int .i64 (wr64 ((wr64 ((wr64 ((wr64 (0 + (wr64 ((wr64 ((wr64 ((wr64 (1 * (wr64 (512 - i2)))) * (wr64 (512 - i2)))) * (wr64 (512 - i2)))) * a0_1)))) + (wr64 ((wr64 ((wr64 ((wr64 (3 * i2)) * (wr64 (512 - i2)))) * (wr64 (512 - i2)))) * s1_2)))) + (wr64 ((wr64 ((wr64 ((wr64 (3 * i2)) * i2)) * (wr64 (512 - i2)))) * s1_4)))) + (wr64 ((wr64 ((wr64 ((wr64 (1 * i2)) * i2)) * i2)) * s1_6))))), (18, .int .i64 2), (89, .int .i64 2), (90, .pointer (some ⟨b304, 0, none⟩))]) (by kernel_rfl) ?_
  refine t_v (.ld1 rfl rfl rfl (.at 6 rfl rfl)) ?_
  refine t_qz 1 [3, 5, 8, 11, 12, 13, 18, 92] (σ' := [(3, .int .i64 512), (5, .pointer (some ⟨b304, 0, none⟩)), (8, .pointer (some ⟨b305, 0, none⟩)), (11, .int .i64 262144), (12, .int .i64 (wr64 ((wr64 ((wr64 ((wr64 (0 + (wr64 ((wr64 ((wr64 ((wr64 (1 * (wr64 (512 - i2)))) * (wr64 (512 - i2)))) * (wr64 (512 - i2)))) * a0_0)))) + (wr64 ((wr64 ((wr64 ((wr64 (3 * i2)) * (wr64 (512 - i2)))) * (wr64 (512 - i2)))) * s1_1)))) + (wr64 ((wr64 ((wr64 ((wr64 (3 * i2)) * i2)) * (wr64 (512 - i2)))) * s1_3)))) + (wr64 ((wr64 ((wr64 ((wr64 (1 * i2)) * i2)) * i2)) * s1_5))))), (13, .int .i64 (wr64 ((wr64 ((wr64 ((wr64 (0 + (wr64 ((wr64 ((wr64 ((wr64 (1 * (wr64 (512 - i2)))) * (wr64 (512 - i2)))) * (wr64 (512 - i2)))) * a0_1)))) + (wr64 ((wr64 ((wr64 ((wr64 (3 * i2)) * (wr64 (512 - i2)))) * (wr64 (512 - i2)))) * s1_2)))) + (wr64 ((wr64 ((wr64 ((wr64 (3 * i2)) * i2)) * (wr64 (512 - i2)))) * s1_4)))) + (wr64 ((wr64 ((wr64 ((wr64 (1 * i2)) * i2)) * i2)) * s1_6))))), (18, .int .i64 2), (92, .bool true)]) (by kernel_rfl) ?_
  refine t_end ?_
  show W _ _ _ _ _ _ _
  refine w_cond rfl (fun _ => ?_) (fun c_ => by cases c_)
  show W _ _ _ _ _ _ _
  refine w_skip ?_
  show W _ _ _ _ _ _ _
  refine w_seq ?_
  refine w_block ?_
  refine w_reg fun all => ?_
  refine t_qz 4 [3, 5, 8, 11, 12, 13, 18] (σ' := [(3, .int .i64 512), (5, .pointer (some ⟨b304, 0, none⟩)), (8, .pointer (some ⟨b305, 0, none⟩)), (11, .int .i64 134217728), (12, .int .i64 (wr64 ((wr64 ((wr64 ((wr64 (0 + (wr64 ((wr64 ((wr64 ((wr64 (1 * (wr64 (512 - i2)))) * (wr64 (512 - i2)))) * (wr64 (512 - i2)))) * a0_0)))) + (wr64 ((wr64 ((wr64 ((wr64 (3 * i2)) * (wr64 (512 - i2)))) * (wr64 (512 - i2)))) * s1_1)))) + (wr64 ((wr64 ((wr64 ((wr64 (3 * i2)) * i2)) * (wr64 (512 - i2)))) * s1_3)))) + (wr64 ((wr64 ((wr64 ((wr64 (1 * i2)) * i2)) * i2)) * s1_5))))), (13, .int .i64 (wr64 ((wr64 ((wr64 ((wr64 (0 + (wr64 ((wr64 ((wr64 ((wr64 (1 * (wr64 (512 - i2)))) * (wr64 (512 - i2)))) * (wr64 (512 - i2)))) * a0_1)))) + (wr64 ((wr64 ((wr64 ((wr64 (3 * i2)) * (wr64 (512 - i2)))) * (wr64 (512 - i2)))) * s1_2)))) + (wr64 ((wr64 ((wr64 ((wr64 (3 * i2)) * i2)) * (wr64 (512 - i2)))) * s1_4)))) + (wr64 ((wr64 ((wr64 ((wr64 (1 * i2)) * i2)) * i2)) * s1_6))))), (18, .int .i64 2)]) (by kernel_rfl) ?_
  refine t_end ?_
  show W _ _ _ _ _ _ _
  refine w_reg fun all => ?_
  refine t_qz 3 [3, 5, 8, 11, 12, 13, 18] (σ' := [(3, .int .i64 512), (5, .pointer (some ⟨b304, 0, none⟩)), (8, .pointer (some ⟨b305, 0, none⟩)), (11, .int .i64 134217728), (12, .int .i64 (wr64 ((wr64 ((wr64 ((wr64 (0 + (wr64 ((wr64 ((wr64 ((wr64 (1 * (wr64 (512 - i2)))) * (wr64 (512 - i2)))) * (wr64 (512 - i2)))) * a0_0)))) + (wr64 ((wr64 ((wr64 ((wr64 (3 * i2)) * (wr64 (512 - i2)))) * (wr64 (512 - i2)))) * s1_1)))) + (wr64 ((wr64 ((wr64 ((wr64 (3 * i2)) * i2)) * (wr64 (512 - i2)))) * s1_3)))) + (wr64 ((wr64 ((wr64 ((wr64 (1 * i2)) * i2)) * i2)) * s1_5))))), (13, .int .i64 (wr64 ((wr64 ((wr64 ((wr64 (0 + (wr64 ((wr64 ((wr64 ((wr64 (1 * (wr64 (512 - i2)))) * (wr64 (512 - i2)))) * (wr64 (512 - i2)))) * a0_1)))) + (wr64 ((wr64 ((wr64 ((wr64 (3 * i2)) * (wr64 (512 - i2)))) * (wr64 (512 - i2)))) * s1_2)))) + (wr64 ((wr64 ((wr64 ((wr64 (3 * i2)) * i2)) * (wr64 (512 - i2)))) * s1_4)))) + (wr64 ((wr64 ((wr64 ((wr64 (1 * i2)) * i2)) * i2)) * s1_6))))), (18, .int .i64 3)]) (by kernel_rfl) ?_
  refine t_end ?_
  show WL _ _ _ _ _ _ _ _
  refine wl_step ?_
  refine w_seq ?_
  refine w_seq ?_
  refine w_reg fun all => ?_
  refine t_qz 2 [3, 5, 8, 11, 12, 13, 18, 89, 90] (σ' := [(3, .int .i64 512), (5, .pointer (some ⟨b304, 0, none⟩)), (8, .pointer (some ⟨b305, 0, none⟩)), (11, .int .i64 134217728), (12, .int .i64 (wr64 ((wr64 ((wr64 ((wr64 (0 + (wr64 ((wr64 ((wr64 ((wr64 (1 * (wr64 (512 - i2)))) * (wr64 (512 - i2)))) * (wr64 (512 - i2)))) * a0_0)))) + (wr64 ((wr64 ((wr64 ((wr64 (3 * i2)) * (wr64 (512 - i2)))) * (wr64 (512 - i2)))) * s1_1)))) + (wr64 ((wr64 ((wr64 ((wr64 (3 * i2)) * i2)) * (wr64 (512 - i2)))) * s1_3)))) + (wr64 ((wr64 ((wr64 ((wr64 (1 * i2)) * i2)) * i2)) * s1_5))))), (13, .int .i64 (wr64 ((wr64 ((wr64 ((wr64 (0 + (wr64 ((wr64 ((wr64 ((wr64 (1 * (wr64 (512 - i2)))) * (wr64 (512 - i2)))) * (wr64 (512 - i2)))) * a0_1)))) + (wr64 ((wr64 ((wr64 ((wr64 (3 * i2)) * (wr64 (512 - i2)))) * (wr64 (512 - i2)))) * s1_2)))) + (wr64 ((wr64 ((wr64 ((wr64 (3 * i2)) * i2)) * (wr64 (512 - i2)))) * s1_4)))) + (wr64 ((wr64 ((wr64 ((wr64 (1 * i2)) * i2)) * i2)) * s1_6))))), (18, .int .i64 3), (89, .int .i64 3), (90, .pointer (some ⟨b304, 0, none⟩))]) (by kernel_rfl) ?_
  refine t_v (.ld1 rfl rfl rfl (.at 6 rfl rfl)) ?_
  refine t_qz 1 [3, 5, 8, 11, 12, 13, 18, 92] (σ' := [(3, .int .i64 512), (5, .pointer (some ⟨b304, 0, none⟩)), (8, .pointer (some ⟨b305, 0, none⟩)), (11, .int .i64 134217728), (12, .int .i64 (wr64 ((wr64 ((wr64 ((wr64 (0 + (wr64 ((wr64 ((wr64 ((wr64 (1 * (wr64 (512 - i2)))) * (wr64 (512 - i2)))) * (wr64 (512 - i2)))) * a0_0)))) + (wr64 ((wr64 ((wr64 ((wr64 (3 * i2)) * (wr64 (512 - i2)))) * (wr64 (512 - i2)))) * s1_1)))) + (wr64 ((wr64 ((wr64 ((wr64 (3 * i2)) * i2)) * (wr64 (512 - i2)))) * s1_3)))) + (wr64 ((wr64 ((wr64 ((wr64 (1 * i2)) * i2)) * i2)) * s1_5))))), (13, .int .i64 (wr64 ((wr64 ((wr64 ((wr64 (0 + (wr64 ((wr64 ((wr64 ((wr64 (1 * (wr64 (512 - i2)))) * (wr64 (512 - i2)))) * (wr64 (512 - i2)))) * a0_1)))) + (wr64 ((wr64 ((wr64 ((wr64 (3 * i2)) * (wr64 (512 - i2)))) * (wr64 (512 - i2)))) * s1_2)))) + (wr64 ((wr64 ((wr64 ((wr64 (3 * i2)) * i2)) * (wr64 (512 - i2)))) * s1_4)))) + (wr64 ((wr64 ((wr64 ((wr64 (1 * i2)) * i2)) * i2)) * s1_6))))), (18, .int .i64 3), (92, .bool false)]) (by kernel_rfl) ?_
  refine t_end ?_
  show W _ _ _ _ _ _ _
  refine w_cond rfl (fun c_ => by cases c_) (fun _ => ?_)
  show W _ _ _ _ _ _ _
  refine w_exit ?_
  show W _ _ _ _ _ _ _
  refine w_seq ?_
  refine w_reg fun all => ?_
  obtain ⟨t311, h312, e⟩ := bind_of e
  refine t_qz 2 [8, 11, 13, 98, 99] (σ' := [(8, .pointer (some ⟨b305, 0, none⟩)), (11, .int .i64 134217728), (13, .int .i64 (wr64 ((wr64 ((wr64 ((wr64 (0 + (wr64 ((wr64 ((wr64 ((wr64 (1 * (wr64 (512 - i2)))) * (wr64 (512 - i2)))) * (wr64 (512 - i2)))) * a0_1)))) + (wr64 ((wr64 ((wr64 ((wr64 (3 * i2)) * (wr64 (512 - i2)))) * (wr64 (512 - i2)))) * s1_2)))) + (wr64 ((wr64 ((wr64 ((wr64 (3 * i2)) * i2)) * (wr64 (512 - i2)))) * s1_4)))) + (wr64 ((wr64 ((wr64 ((wr64 (1 * i2)) * i2)) * i2)) * s1_6))))), (98, .int .i64 (wr64 ((wr64 ((wr64 ((wr64 (0 + (wr64 ((wr64 ((wr64 ((wr64 (1 * (wr64 (512 - i2)))) * (wr64 (512 - i2)))) * (wr64 (512 - i2)))) * a0_0)))) + (wr64 ((wr64 ((wr64 ((wr64 (3 * i2)) * (wr64 (512 - i2)))) * (wr64 (512 - i2)))) * s1_1)))) + (wr64 ((wr64 ((wr64 ((wr64 (3 * i2)) * i2)) * (wr64 (512 - i2)))) * s1_3)))) + (wr64 ((wr64 ((wr64 ((wr64 (1 * i2)) * i2)) * i2)) * s1_5))))), (99, .int .i64 134217728)]) (by kernel_rfl) ?_
  refine t_v (.call (vs := [.int .i64 (wr64 ((wr64 ((wr64 ((wr64 (0 + (wr64 ((wr64 ((wr64 ((wr64 (1 * (wr64 (512 - i2)))) * (wr64 (512 - i2)))) * (wr64 (512 - i2)))) * a0_0)))) + (wr64 ((wr64 ((wr64 ((wr64 (3 * i2)) * (wr64 (512 - i2)))) * (wr64 (512 - i2)))) * s1_1)))) + (wr64 ((wr64 ((wr64 ((wr64 (3 * i2)) * i2)) * (wr64 (512 - i2)))) * s1_3)))) + (wr64 ((wr64 ((wr64 ((wr64 (1 * i2)) * i2)) * i2)) * s1_5)))), .int .i64 134217728]) rfl rfl (by kernel_rfl) (glyphicref1_Round.ok h312)) ?_
  obtain ⟨t313, h314, e⟩ := bind_of e
  refine t_qz 2 [8, 100, 101, 102] (σ' := [(8, .pointer (some ⟨b305, 0, none⟩)), (100, .int .i64 t311), (101, .int .i64 (wr64 ((wr64 ((wr64 ((wr64 (0 + (wr64 ((wr64 ((wr64 ((wr64 (1 * (wr64 (512 - i2)))) * (wr64 (512 - i2)))) * (wr64 (512 - i2)))) * a0_1)))) + (wr64 ((wr64 ((wr64 ((wr64 (3 * i2)) * (wr64 (512 - i2)))) * (wr64 (512 - i2)))) * s1_2)))) + (wr64 ((wr64 ((wr64 ((wr64 (3 * i2)) * i2)) * (wr64 (512 - i2)))) * s1_4)))) + (wr64 ((wr64 ((wr64 ((wr64 (1 * i2)) * i2)) * i2)) * s1_6))))), (102, .int .i64 134217728)]) (by kernel_rfl) ?_
  refine t_v (.call (vs := [.int .i64 (wr64 ((wr64 ((wr64 ((wr64 (0 + (wr64 ((wr64 ((wr64 ((wr64 (1 * (wr64 (512 - i2)))) * (wr64 (512 - i2)))) * (wr64 (512 - i2)))) * a0_1)))) + (wr64 ((wr64 ((wr64 ((wr64 (3 * i2)) * (wr64 (512 - i2)))) * (wr64 (512 - i2)))) * s1_2)))) + (wr64 ((wr64 ((wr64 ((wr64 (3 * i2)) * i2)) * (wr64 (512 - i2)))) * s1_4)))) + (wr64 ((wr64 ((wr64 ((wr64 (1 * i2)) * i2)) * i2)) * s1_6)))), .int .i64 134217728]) rfl rfl (by kernel_rfl) (glyphicref1_Round.ok h314)) ?_
  refine t_qz 1 [8, 104] (σ' := [(8, .pointer (some ⟨b305, 0, none⟩)), (104, .agg #[.int .i64 t311, .int .i64 t313])]) (by kernel_rfl) ?_
  refine t_sti 5 (cs := [.int .i64 t311, .int .i64 t313]) rfl rfl rfl rfl rfl rfl rfl rfl rfl ?_
  refine t_keep [8] (σ' := [(8, .pointer (some ⟨b305, 0, none⟩))]) (by kernel_rfl) ?_
  refine t_end ?_
  show W _ _ _ _ _ _ _
  refine w_ret ?_
  simp only [Option.some.injEq, Prod.mk.injEq] at e
  obtain ⟨rfl, rfl⟩ := e
  exact ⟨[.agg #[.int .i64 t311, .int .i64 t313]], [], S, ⟨⟨_, _, _, rfl, .at 5 rfl rfl, rfl⟩, trivial⟩, VS.none, rfl, rfl, rfl⟩
end Go.Proofs.Ytpimfacaalkmdaa.QFlattenNear
