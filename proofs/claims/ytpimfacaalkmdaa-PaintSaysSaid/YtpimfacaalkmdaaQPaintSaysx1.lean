/- Functions of the program as Lean functions, each with the proof of its walk. Written by gen.py, a program of these sessions. -/
import Derived.Test.YtpimfacaalkmdaaQPaintSaysx0
namespace Go.Proofs.Ytpimfacaalkmdaa.QPaintSays
open Go Go.RowKit Go.Proofs.YtpimfacaalkmdaaE Go.Proofs.YtpimfacaalkmdaaX
set_option linter.unusedVariables false
set_option maxRecDepth 100000
set_option maxHeartbeats 8000000
/-- glyphicref20.color -/
def c99 : C :=
  (.seq (.reg [⟨(some 4), .new [(.int .u8 0), (.int .u8 0), (.int .u8 0), (.int .u8 0)], none⟩])
  (.seq (.seq (.reg [⟨(some 5), .mv (.tmp 1), none⟩,
      ⟨(some 6), .bin .lss (.tmp 5) (.const (.int .i64 0)), none⟩,
      ⟨(some 7), .mv (.tmp 6), none⟩,
      ⟨(some 8), .mv (.tmp 1), (some (7, false))⟩,
      ⟨(some 9), .mv (.tmp 0), (some (7, false))⟩,
      ⟨(some 10), .lns (.tmp 9), (some (7, false))⟩,
      ⟨(some 11), .bin .geq (.tmp 8) (.tmp 10), (some (7, false))⟩,
      ⟨(some 12), .pk (.tmp 7) (.const (.bool true)) (.tmp 11), none⟩])
   (.cond (.tmp 12)
    (.seq (.reg [⟨(some 13), .bld [(.int .u8 0), (.int .u8 0), (.int .u8 0), (.int .u8 0)] [], none⟩,
        ⟨none, .st 4 (.tmp 4) (.tmp 13), none⟩])
     .ret)
    .skip))
  (.seq (.reg [⟨(some 14), .mv (.tmp 0), none⟩,
     ⟨(some 15), .mv (.tmp 1), none⟩,
     ⟨(some 16), .ixs 4 (.tmp 14) (.tmp 15), none⟩,
     ⟨(some 17), .ld (some 4) (.tmp 16), none⟩,
     ⟨none, .st 4 (.tmp 4) (.tmp 17), none⟩])
  .ret)))
def glyphicref20_color_v1.f (k1 : Int) (m0_0 : Int) (m0_1 : Int) (m0_2 : Int) (m0_3 : Int) (m0_4 : Int) (m0_5 : Int) (m0_6 : Int) (m0_7 : Int) (m0_8 : Int) (m0_9 : Int) (m0_10 : Int) (m0_11 : Int) : Option (Int × Int × Int × Int) := if k1 < 0 then (some (0, 0, 0, 0)) else (if k1 ≥ 3 then (some (0, 0, 0, 0)) else (if k1 = 0 then (some (m0_0, m0_1, m0_2, m0_3)) else (if k1 = 1 then (some (m0_4, m0_5, m0_6, m0_7)) else (if k1 = 2 then (some (m0_8, m0_9, m0_10, m0_11)) else (none)))))
theorem glyphicref20_color_v1.ok {S : Seal} {B0 : Nat} {k1 : Int} {m0_0 : Int} {m0_1 : Int} {m0_2 : Int} {m0_3 : Int} {m0_4 : Int} {m0_5 : Int} {m0_6 : Int} {m0_7 : Int} {m0_8 : Int} {m0_9 : Int} {m0_10 : Int} {m0_11 : Int} {r0_ : Int} {r1_ : Int} {r2_ : Int} {r3_ : Int}(e : glyphicref20_color_v1.f k1 m0_0 m0_1 m0_2 m0_3 m0_4 m0_5 m0_6 m0_7 m0_8 m0_9 m0_10 m0_11 = some (r0_, r1_, r2_, r3_)) :
    Cal Try.prog 99 [.slice (some ⟨B0, 0, none⟩) 3 3, .int .i64 k1] ([⟨B0, [.int .u8 m0_0, .int .u8 m0_1, .int .u8 m0_2, .int .u8 m0_3, .int .u8 m0_4, .int .u8 m0_5, .int .u8 m0_6, .int .u8 m0_7, .int .u8 m0_8, .int .u8 m0_9, .int .u8 m0_10, .int .u8 m0_11], 12⟩] : List Own) S fun v H' S' => v = .agg #[.int .u8 r0_, .int .u8 r1_, .int .u8 r2_, .int .u8 r3_] ∧ H' = ([⟨B0, [.int .u8 m0_0, .int .u8 m0_1, .int .u8 m0_2, .int .u8 m0_3, .int .u8 m0_4, .int .u8 m0_5, .int .u8 m0_6, .int .u8 m0_7, .int .u8 m0_8, .int .u8 m0_9, .int .u8 m0_10, .int .u8 m0_11], 12⟩] : List Own) ∧ S' = S := by
  unfold glyphicref20_color_v1.f at e
  refine cal_of (c := c99) (N := 18) Try.func99 rfl rfl (by kernel_rfl) (rs := [.cn 4 4]) (by kernel_rfl) (Nat.le_of_ble_eq_true rfl) ?_
  unfold c99
  refine w_seq ?_
  refine w_reg fun all => ?_
  refine t_a (.new rfl rfl) fun b282 fb282 sb282 => ?_
  refine t_keep [0, 1, 4] (σ' := [(0, .slice (some ⟨B0, 0, none⟩) 3 3), (1, .int .i64 k1), (4, .pointer (some ⟨b282, 0, none⟩))]) (by kernel_rfl) ?_
  refine t_end ?_
  show W _ _ _ _ _ _ _
  refine w_seq ?_
  refine w_seq ?_
  refine w_reg fun all => ?_
  by_cases c283 : k1 < 0
  · rw [if_pos c283] at e
    have c283b : (decide (k1 < 0)) = true := decide_eq_true c283
    refine t_qz 1 [0, 1, 4, 5] (σ' := [(0, .slice (some ⟨B0, 0, none⟩) 3 3), (1, .int .i64 k1), (4, .pointer (some ⟨b282, 0, none⟩)), (5, .int .i64 k1)]) (by kernel_rfl) ?_
    refine t_v (dv_quiet rfl (congrArg (fun t => some (Value.bool t)) c283b)) ?_
    refine t_qz 6 [0, 1, 4, 12] (σ' := [(0, .slice (some ⟨B0, 0, none⟩) 3 3), (1, .int .i64 k1), (4, .pointer (some ⟨b282, 0, none⟩)), (12, .bool true)]) (by kernel_rfl) ?_
    refine t_end ?_
    show W _ _ _ _ _ _ _
    refine w_cond rfl (fun _ => ?_) (fun c_ => by cases c_)
    show W _ _ _ _ _ _ _
    refine w_seq ?_
    refine w_reg fun all => ?_
    refine t_qz 1 [4, 13] (σ' := [(4, .pointer (some ⟨b282, 0, none⟩)), (13, .agg #[.int .u8 0, .int .u8 0, .int .u8 0, .int .u8 0])]) (by kernel_rfl) ?_
    refine t_sti 0 (cs := [.int .u8 0, .int .u8 0, .int .u8 0, .int .u8 0]) rfl rfl rfl rfl rfl rfl rfl rfl rfl ?_
    refine t_keep [4] (σ' := [(4, .pointer (some ⟨b282, 0, none⟩))]) (by kernel_rfl) ?_
    refine t_end ?_
    show W _ _ _ _ _ _ _
    refine w_ret ?_
    simp only [Option.some.injEq, Prod.mk.injEq] at e
    obtain ⟨rfl, rfl, rfl, rfl⟩ := e
    exact ⟨[.agg #[.int .u8 0, .int .u8 0, .int .u8 0, .int .u8 0]], ([⟨B0, [.int .u8 m0_0, .int .u8 m0_1, .int .u8 m0_2, .int .u8 m0_3, .int .u8 m0_4, .int .u8 m0_5, .int .u8 m0_6, .int .u8 m0_7, .int .u8 m0_8, .int .u8 m0_9, .int .u8 m0_10, .int .u8 m0_11], 12⟩] : List Own), S, ⟨⟨_, _, _, rfl, .at 0 rfl rfl, rfl⟩, trivial⟩, VS.sel [1] (by kernel_rfl), rfl, rfl, rfl⟩
  · rw [if_neg c283] at e
    have c283b : (decide (k1 < 0)) = false := decide_eq_false c283
    refine t_qz 1 [0, 1, 4, 5] (σ' := [(0, .slice (some ⟨B0, 0, none⟩) 3 3), (1, .int .i64 k1), (4, .pointer (some ⟨b282, 0, none⟩)), (5, .int .i64 k1)]) (by kernel_rfl) ?_
    refine t_v (dv_quiet rfl (congrArg (fun t => some (Value.bool t)) c283b)) ?_
    by_cases c284 : k1 ≥ 3
    · rw [if_pos c284] at e
      have c284b : (decide (k1 ≥ 3)) = true := decide_eq_true c284
      refine t_qz 4 [0, 1, 4, 7, 8, 10] (σ' := [(0, .slice (some ⟨B0, 0, none⟩) 3 3), (1, .int .i64 k1), (4, .pointer (some ⟨b282, 0, none⟩)), (7, .bool false), (8, .int .i64 k1), (10, .int .i64 3)]) (by kernel_rfl) ?_
      refine t_v (dv_quiet rfl (congrArg (fun t => some (Value.bool t)) c284b)) ?_
      refine t_qz 1 [0, 1, 4, 12] (σ' := [(0, .slice (some ⟨B0, 0, none⟩) 3 3), (1, .int .i64 k1), (4, .pointer (some ⟨b282, 0, none⟩)), (12, .bool true)]) (by kernel_rfl) ?_
      refine t_end ?_
      show W _ _ _ _ _ _ _
      refine w_cond rfl (fun _ => ?_) (fun c_ => by cases c_)
      show W _ _ _ _ _ _ _
      refine w_seq ?_
      refine w_reg fun all => ?_
      refine t_qz 1 [4, 13] (σ' := [(4, .pointer (some ⟨b282, 0, none⟩)), (13, .agg #[.int .u8 0, .int .u8 0, .int .u8 0, .int .u8 0])]) (by kernel_rfl) ?_
      refine t_sti 0 (cs := [.int .u8 0, .int .u8 0, .int .u8 0, .int .u8 0]) rfl rfl rfl rfl rfl rfl rfl rfl rfl ?_
      refine t_keep [4] (σ' := [(4, .pointer (some ⟨b282, 0, none⟩))]) (by kernel_rfl) ?_
      refine t_end ?_
      show W _ _ _ _ _ _ _
      refine w_ret ?_
      simp only [Option.some.injEq, Prod.mk.injEq] at e
      obtain ⟨rfl, rfl, rfl, rfl⟩ := e
      exact ⟨[.agg #[.int .u8 0, .int .u8 0, .int .u8 0, .int .u8 0]], ([⟨B0, [.int .u8 m0_0, .int .u8 m0_1, .int .u8 m0_2, .int .u8 m0_3, .int .u8 m0_4, .int .u8 m0_5, .int .u8 m0_6, .int .u8 m0_7, .int .u8 m0_8, .int .u8 m0_9, .int .u8 m0_10, .int .u8 m0_11], 12⟩] : List Own), S, ⟨⟨_, _, _, rfl, .at 0 rfl rfl, rfl⟩, trivial⟩, VS.sel [1] (by kernel_rfl), rfl, rfl, rfl⟩
    · rw [if_neg c284] at e
      have c284b : (decide (k1 ≥ 3)) = false := decide_eq_false c284
      refine t_qz 4 [0, 1, 4, 7, 8, 10] (σ' := [(0, .slice (some ⟨B0, 0, none⟩) 3 3), (1, .int .i64 k1), (4, .pointer (some ⟨b282, 0, none⟩)), (7, .bool false), (8, .int .i64 k1), (10, .int .i64 3)]) (by kernel_rfl) ?_
      refine t_v (dv_quiet rfl (congrArg (fun t => some (Value.bool t)) c284b)) ?_
      refine t_qz 1 [0, 1, 4, 12] (σ' := [(0, .slice (some ⟨B0, 0, none⟩) 3 3), (1, .int .i64 k1), (4, .pointer (some ⟨b282, 0, none⟩)), (12, .bool false)]) (by kernel_rfl) ?_
      refine t_end ?_
      show W _ _ _ _ _ _ _
      refine w_cond rfl (fun c_ => by cases c_) (fun _ => ?_)
      show W _ _ _ _ _ _ _
      refine w_skip ?_
      show W _ _ _ _ _ _ _
      refine w_seq ?_
      refine w_reg fun all => ?_
      by_cases c285 : k1 = 0
      · rw [if_pos c285] at e
        have c285b : (k1 == 0) = true := beq_iff_eq.mpr c285
        refine t_qz 2 [4, 14, 15] (σ' := [(4, .pointer (some ⟨b282, 0, none⟩)), (14, .slice (some ⟨B0, 0, none⟩) 3 3), (15, .int .i64 k1)]) (by kernel_rfl) ?_
        refine t_v (.quiet rfl (ixs_at (j := 0) (u := .pointer (some ⟨B0, 0, none⟩)) rfl c285b (by kernel_rfl))) ?_
        refine t_v (.ldn rfl rfl rfl (.at 1 rfl rfl)) ?_
        refine t_sti 0 (cs := [.int .u8 m0_0, .int .u8 m0_1, .int .u8 m0_2, .int .u8 m0_3]) rfl rfl rfl rfl rfl rfl rfl rfl rfl ?_
        refine t_keep [4] (σ' := [(4, .pointer (some ⟨b282, 0, none⟩))]) (by kernel_rfl) ?_
        refine t_end ?_
        show W _ _ _ _ _ _ _
        refine w_ret ?_
        simp only [Option.some.injEq, Prod.mk.injEq] at e
        obtain ⟨rfl, rfl, rfl, rfl⟩ := e
        exact ⟨[.agg #[.int .u8 m0_0, .int .u8 m0_1, .int .u8 m0_2, .int .u8 m0_3]], ([⟨B0, [.int .u8 m0_0, .int .u8 m0_1, .int .u8 m0_2, .int .u8 m0_3, .int .u8 m0_4, .int .u8 m0_5, .int .u8 m0_6, .int .u8 m0_7, .int .u8 m0_8, .int .u8 m0_9, .int .u8 m0_10, .int .u8 m0_11], 12⟩] : List Own), S, ⟨⟨_, _, _, rfl, .at 0 rfl rfl, rfl⟩, trivial⟩, VS.sel [1] (by kernel_rfl), rfl, rfl, rfl⟩
      · rw [if_neg c285] at e
        have c285b : (k1 == 0) = false := beq_eq_false_iff_ne.mpr c285
        by_cases c286 : k1 = 1
        · rw [if_pos c286] at e
          have c286b : (k1 == 1) = true := beq_iff_eq.mpr c286
          refine t_qz 2 [4, 14, 15] (σ' := [(4, .pointer (some ⟨b282, 0, none⟩)), (14, .slice (some ⟨B0, 0, none⟩) 3 3), (15, .int .i64 k1)]) (by kernel_rfl) ?_
          refine t_v (.quiet rfl (ixs_at (j := 1) (u := .pointer (some ⟨B0, 4, none⟩)) rfl c286b (by kernel_rfl))) ?_
          refine t_v (.ldn rfl rfl rfl (.at 1 rfl rfl)) ?_
          refine t_sti 0 (cs := [.int .u8 m0_4, .int .u8 m0_5, .int .u8 m0_6, .int .u8 m0_7]) rfl rfl rfl rfl rfl rfl rfl rfl rfl ?_
          refine t_keep [4] (σ' := [(4, .pointer (some ⟨b282, 0, none⟩))]) (by kernel_rfl) ?_
          refine t_end ?_
          show W _ _ _ _ _ _ _
          refine w_ret ?_
          simp only [Option.some.injEq, Prod.mk.injEq] at e
          obtain ⟨rfl, rfl, rfl, rfl⟩ := e
          exact ⟨[.agg #[.int .u8 m0_4, .int .u8 m0_5, .int .u8 m0_6, .int .u8 m0_7]], ([⟨B0, [.int .u8 m0_0, .int .u8 m0_1, .int .u8 m0_2, .int .u8 m0_3, .int .u8 m0_4, .int .u8 m0_5, .int .u8 m0_6, .int .u8 m0_7, .int .u8 m0_8, .int .u8 m0_9, .int .u8 m0_10, .int .u8 m0_11], 12⟩] : List Own), S, ⟨⟨_, _, _, rfl, .at 0 rfl rfl, rfl⟩, trivial⟩, VS.sel [1] (by kernel_rfl), rfl, rfl, rfl⟩
        · rw [if_neg c286] at e
          have c286b : (k1 == 1) = false := beq_eq_false_iff_ne.mpr c286
          by_cases c287 : k1 = 2
          · rw [if_pos c287] at e
            have c287b : (k1 == 2) = true := beq_iff_eq.mpr c287
            refine t_qz 2 [4, 14, 15] (σ' := [(4, .pointer (some ⟨b282, 0, none⟩)), (14, .slice (some ⟨B0, 0, none⟩) 3 3), (15, .int .i64 k1)]) (by kernel_rfl) ?_
            refine t_v (.quiet rfl (ixs_at (j := 2) (u := .pointer (some ⟨B0, 8, none⟩)) rfl c287b (by kernel_rfl))) ?_
            refine t_v (.ldn rfl rfl rfl (.at 1 rfl rfl)) ?_
            refine t_sti 0 (cs := [.int .u8 m0_8, .int .u8 m0_9, .int .u8 m0_10, .int .u8 m0_11]) rfl rfl rfl rfl rfl rfl rfl rfl rfl ?_
            refine t_keep [4] (σ' := [(4, .pointer (some ⟨b282, 0, none⟩))]) (by kernel_rfl) ?_
            refine t_end ?_
            show W _ _ _ _ _ _ _
            refine w_ret ?_
            simp only [Option.some.injEq, Prod.mk.injEq] at e
            obtain ⟨rfl, rfl, rfl, rfl⟩ := e
            exact ⟨[.agg #[.int .u8 m0_8, .int .u8 m0_9, .int .u8 m0_10, .int .u8 m0_11]], ([⟨B0, [.int .u8 m0_0, .int .u8 m0_1, .int .u8 m0_2, .int .u8 m0_3, .int .u8 m0_4, .int .u8 m0_5, .int .u8 m0_6, .int .u8 m0_7, .int .u8 m0_8, .int .u8 m0_9, .int .u8 m0_10, .int .u8 m0_11], 12⟩] : List Own), S, ⟨⟨_, _, _, rfl, .at 0 rfl rfl, rfl⟩, trivial⟩, VS.sel [1] (by kernel_rfl), rfl, rfl, rfl⟩
          · rw [if_neg c287] at e
            have c287b : (k1 == 2) = false := beq_eq_false_iff_ne.mpr c287
            cases e

/-- glyphicref20.PaintAt -/
def c60 : C :=
  (.seq (.reg [⟨(some 3), .box (.tmp 0), none⟩,
     ⟨(some 5), .box (.tmp 2), none⟩,
     ⟨(some 6), .new [(.int .i64 0), (.int .i64 0), (.int .i64 0), (.int .i64 0)], none⟩])
  (.seq (.reg [⟨(some 9), .mv (.tmp 1), none⟩,
     ⟨(some 10), .pad 1 (.tmp 3), none⟩,
     ⟨(some 11), .ld none (.tmp 10), none⟩,
     ⟨(some 12), .call 99 [(.tmp 9), (.tmp 11)], none⟩,
     ⟨(some 7), .new [(.int .u8 0), (.int .u8 0), (.int .u8 0), (.int .u8 0)], none⟩,
     ⟨none, .st 4 (.tmp 7) (.tmp 12), none⟩])
  (.seq (.reg [⟨(some 13), .mv (.tmp 1), none⟩,
     ⟨(some 14), .pad 2 (.tmp 3), none⟩,
     ⟨(some 15), .ld none (.tmp 14), none⟩,
     ⟨(some 16), .call 99 [(.tmp 13), (.tmp 15)], none⟩,
     ⟨(some 8), .new [(.int .u8 0), (.int .u8 0), (.int .u8 0), (.int .u8 0)], none⟩,
     ⟨none, .st 4 (.tmp 8) (.tmp 16), none⟩])
  (.seq (.seq (.reg [⟨(some 17), .pad 0 (.tmp 3), none⟩,
      ⟨(some 18), .ld none (.tmp 17), none⟩,
      ⟨(some 19), .bin .eql (.tmp 18) (.const (.int .i64 0)), none⟩])
   (.cond (.tmp 19)
    (.reg [⟨(some 20), .ld (some 4) (.tmp 7), none⟩,
       ⟨none, .st 4 (.tmp 8) (.tmp 20), none⟩])
    .skip))
  (.seq (.drw [⟨(some 21), .ld (some 4) (.tmp 7), none⟩,
     ⟨(some 22), .ld (some 4) (.tmp 8), none⟩,
     ⟨(some 23), .ld (some 7) (.tmp 3), none⟩,
     ⟨(some 24), .ld (some 2) (.tmp 5), none⟩,
     ⟨(some 25), .call 56 [(.tmp 23), (.tmp 24)], none⟩,
     ⟨(some 26), .call 58 [(.tmp 21), (.tmp 22), (.tmp 25)], none⟩,
     ⟨none, .st 4 (.tmp 6) (.tmp 26), none⟩] [[], [], [], [], [2, 3], [0, 1, 4, 4], [5, 5, 0, 1, 2, 3, 4, 5]])
  .ret)))))
def glyphicref20_PaintAt_v1.f (k : Nat) (p0_0 : Int) (p0_1 : Int) (p0_2 : Int) (p0_3 : Int) (p0_4 : Int) (p0_5 : Int) (p0_6 : Int) (at2_0 : Int) (at2_1 : Int) (m0_0 : Int) (m0_1 : Int) (m0_2 : Int) (m0_3 : Int) (m0_4 : Int) (m0_5 : Int) (m0_6 : Int) (m0_7 : Int) (m0_8 : Int) (m0_9 : Int) (m0_10 : Int) (m0_11 : Int) : Option (Int × Int × Int × Int) := (glyphicref20_color_v1.f p0_1 m0_0 m0_1 m0_2 m0_3 m0_4 m0_5 m0_6 m0_7 m0_8 m0_9 m0_10 m0_11).bind fun (t288, t289, t290, t291) => ((glyphicref20_color_v1.f p0_2 m0_0 m0_1 m0_2 m0_3 m0_4 m0_5 m0_6 m0_7 m0_8 m0_9 m0_10 m0_11).bind fun (t294, t295, t296, t297) => (if p0_0 = 0 then ((glyphicref20_Part.f k p0_0 p0_1 p0_2 p0_3 p0_4 p0_5 p0_6 at2_0 at2_1).bind fun t301 => ((glyphicref20_Mix.f t288 t289 t290 t291 t288 t289 t290 t291 t301).bind fun (t303, t304, t305, t306) => (some (t303, t304, t305, t306)))) else ((glyphicref20_Part.f k p0_0 p0_1 p0_2 p0_3 p0_4 p0_5 p0_6 at2_0 at2_1).bind fun t308 => ((glyphicref20_Mix.f t288 t289 t290 t291 t294 t295 t296 t297 t308).bind fun (t310, t311, t312, t313) => (some (t310, t311, t312, t313))))))
theorem glyphicref20_PaintAt_v1.ok {S : Seal} {B0 : Nat} {k : Nat} {p0_0 : Int} {p0_1 : Int} {p0_2 : Int} {p0_3 : Int} {p0_4 : Int} {p0_5 : Int} {p0_6 : Int} {at2_0 : Int} {at2_1 : Int} {m0_0 : Int} {m0_1 : Int} {m0_2 : Int} {m0_3 : Int} {m0_4 : Int} {m0_5 : Int} {m0_6 : Int} {m0_7 : Int} {m0_8 : Int} {m0_9 : Int} {m0_10 : Int} {m0_11 : Int} {r0_ : Int} {r1_ : Int} {r2_ : Int} {r3_ : Int}(e : glyphicref20_PaintAt_v1.f k p0_0 p0_1 p0_2 p0_3 p0_4 p0_5 p0_6 at2_0 at2_1 m0_0 m0_1 m0_2 m0_3 m0_4 m0_5 m0_6 m0_7 m0_8 m0_9 m0_10 m0_11 = some (r0_, r1_, r2_, r3_)) :
    Cal Try.prog 60 [.agg #[.int .i64 p0_0, .int .i64 p0_1, .int .i64 p0_2, .int .i64 p0_3, .int .i64 p0_4, .int .i64 p0_5, .int .i64 p0_6], .slice (some ⟨B0, 0, none⟩) 3 3, .agg #[.int .i64 at2_0, .int .i64 at2_1]] ([⟨B0, [.int .u8 m0_0, .int .u8 m0_1, .int .u8 m0_2, .int .u8 m0_3, .int .u8 m0_4, .int .u8 m0_5, .int .u8 m0_6, .int .u8 m0_7, .int .u8 m0_8, .int .u8 m0_9, .int .u8 m0_10, .int .u8 m0_11], 12⟩] : List Own) S fun v H' S' => v = .agg #[.int .i64 r0_, .int .i64 r1_, .int .i64 r2_, .int .i64 r3_] ∧ H' = ([⟨B0, [.int .u8 m0_0, .int .u8 m0_1, .int .u8 m0_2, .int .u8 m0_3, .int .u8 m0_4, .int .u8 m0_5, .int .u8 m0_6, .int .u8 m0_7, .int .u8 m0_8, .int .u8 m0_9, .int .u8 m0_10, .int .u8 m0_11], 12⟩] : List Own) ∧ S' = S := by
  unfold glyphicref20_PaintAt_v1.f at e
  refine cal_of (c := c60) (N := 27) Try.func60 rfl rfl (by kernel_rfl) (rs := [.cn 4 6]) (by kernel_rfl) (Nat.le_of_ble_eq_true rfl) ?_
  unfold c60
  refine w_seq ?_
  refine w_reg fun all => ?_
  refine t_a (.box rfl rfl rfl) fun b279 fb279 sb279 => ?_
  refine t_a (.box rfl rfl rfl) fun b280 fb280 sb280 => ?_
  refine t_a (.new rfl rfl) fun b281 fb281 sb281 => ?_
  refine t_keep [1, 3, 5, 6] (σ' := [(1, .slice (some ⟨B0, 0, none⟩) 3 3), (3, .pointer (some ⟨b279, 0, none⟩)), (5, .pointer (some ⟨b280, 0, none⟩)), (6, .pointer (some ⟨b281, 0, none⟩))]) (by kernel_rfl) ?_
  refine t_end ?_
  show W _ _ _ _ _ _ _
  refine w_seq ?_
  refine w_reg fun all => ?_
  refine t_qz 2 [1, 3, 5, 6, 9, 10] (σ' := [(1, .slice (some ⟨B0, 0, none⟩) 3 3), (3, .pointer (some ⟨b279, 0, none⟩)), (5, .pointer (some ⟨b280, 0, none⟩)), (6, .pointer (some ⟨b281, 0, none⟩)), (9, .slice (some ⟨B0, 0, none⟩) 3 3), (10, .pointer (some ⟨b279, 1, none⟩))]) (by kernel_rfl) ?_
  refine t_v (.ld1 rfl rfl rfl (.at 2 rfl rfl)) ?_
  obtain ⟨⟨t288, t289, t290, t291⟩, h292, e⟩ := bind_of e
  try dsimp only at e
  refine t_v (.callr (vs := [.slice (some ⟨B0, 0, none⟩) 3 3, .int .i64 p0_1]) (A := ([⟨B0, [.int .u8 m0_0, .int .u8 m0_1, .int .u8 m0_2, .int .u8 m0_3, .int .u8 m0_4, .int .u8 m0_5, .int .u8 m0_6, .int .u8 m0_7, .int .u8 m0_8, .int .u8 m0_9, .int .u8 m0_10, .int .u8 m0_11], 12⟩] : List Own)) (F0 := ([⟨b281, [.int .i64 0, .int .i64 0, .int .i64 0, .int .i64 0], 4⟩, ⟨b280, [.int .i64 at2_0, .int .i64 at2_1], 2⟩, ⟨b279, [.int .i64 p0_0, .int .i64 p0_1, .int .i64 p0_2, .int .i64 p0_3, .int .i64 p0_4, .int .i64 p0_5, .int .i64 p0_6], 7⟩] : List Own)) rfl rfl (by kernel_rfl) (sel_perm (is := [3]) (by kernel_rfl)) (glyphicref20_color_v1.ok h292)) ?_
  refine t_a (.new rfl rfl) fun b293 fb293 sb293 => ?_
  refine t_sti 0 (cs := [.int .u8 t288, .int .u8 t289, .int .u8 t290, .int .u8 t291]) rfl rfl rfl rfl rfl rfl rfl rfl rfl ?_
  refine t_keep [1, 3, 5, 6, 7] (σ' := [(1, .slice (some ⟨B0, 0, none⟩) 3 3), (3, .pointer (some ⟨b279, 0, none⟩)), (5, .pointer (some ⟨b280, 0, none⟩)), (6, .pointer (some ⟨b281, 0, none⟩)), (7, .pointer (some ⟨b293, 0, none⟩))]) (by kernel_rfl) ?_
  refine t_end ?_
  show W _ _ _ _ _ _ _
  refine w_seq ?_
  refine w_reg fun all => ?_
  refine t_qz 2 [3, 5, 6, 7, 13, 14] (σ' := [(3, .pointer (some ⟨b279, 0, none⟩)), (5, .pointer (some ⟨b280, 0, none⟩)), (6, .pointer (some ⟨b281, 0, none⟩)), (7, .pointer (some ⟨b293, 0, none⟩)), (13, .slice (some ⟨B0, 0, none⟩) 3 3), (14, .pointer (some ⟨b279, 2, none⟩))]) (by kernel_rfl) ?_
  refine t_v (.ld1 rfl rfl rfl (.at 3 rfl rfl)) ?_
  obtain ⟨⟨t294, t295, t296, t297⟩, h298, e⟩ := bind_of e
  try dsimp only at e
  refine t_v (.callr (vs := [.slice (some ⟨B0, 0, none⟩) 3 3, .int .i64 p0_2]) (A := ([⟨B0, [.int .u8 m0_0, .int .u8 m0_1, .int .u8 m0_2, .int .u8 m0_3, .int .u8 m0_4, .int .u8 m0_5, .int .u8 m0_6, .int .u8 m0_7, .int .u8 m0_8, .int .u8 m0_9, .int .u8 m0_10, .int .u8 m0_11], 12⟩] : List Own)) (F0 := ([⟨b293, [.int .u8 t288, .int .u8 t289, .int .u8 t290, .int .u8 t291], 4⟩, ⟨b281, [.int .i64 0, .int .i64 0, .int .i64 0, .int .i64 0], 4⟩, ⟨b280, [.int .i64 at2_0, .int .i64 at2_1], 2⟩, ⟨b279, [.int .i64 p0_0, .int .i64 p0_1, .int .i64 p0_2, .int .i64 p0_3, .int .i64 p0_4, .int .i64 p0_5, .int .i64 p0_6], 7⟩] : List Own)) rfl rfl (by kernel_rfl) (sel_perm (is := [4]) (by kernel_rfl)) (glyphicref20_color_v1.ok h298)) ?_
  refine t_a (.new rfl rfl) fun b299 fb299 sb299 => ?_
  refine t_sti 0 (cs := [.int .u8 t294, .int .u8 t295, .int .u8 t296, .int .u8 t297]) rfl rfl rfl rfl rfl rfl rfl rfl rfl ?_
  refine t_keep [3, 5, 6, 7, 8] (σ' := [(3, .pointer (some ⟨b279, 0, none⟩)), (5, .pointer (some ⟨b280, 0, none⟩)), (6, .pointer (some ⟨b281, 0, none⟩)), (7, .pointer (some ⟨b293, 0, none⟩)), (8, .pointer (some ⟨b299, 0, none⟩))]) (by kernel_rfl) ?_
  refine t_end ?_
  show W _ _ _ _ _ _ _
  refine w_seq ?_
  refine w_seq ?_
  refine w_reg fun all => ?_
  refine t_qz 1 [3, 5, 6, 7, 8, 17] (σ' := [(3, .pointer (some ⟨b279, 0, none⟩)), (5, .pointer (some ⟨b280, 0, none⟩)), (6, .pointer (some ⟨b281, 0, none⟩)), (7, .pointer (some ⟨b293, 0, none⟩)), (8, .pointer (some ⟨b299, 0, none⟩)), (17, .pointer (some ⟨b279, 0, none⟩))]) (by kernel_rfl) ?_
  refine t_v (.ld1 rfl rfl rfl (.at 4 rfl rfl)) ?_
  by_cases c300 : p0_0 = 0
  · rw [if_pos c300] at e
    have c300b : (p0_0 == 0) = true := beq_iff_eq.mpr c300
    refine t_v (dv_quiet rfl (congrArg (fun t => some (Value.bool t)) c300b)) ?_
    refine t_keep [3, 5, 6, 7, 8, 19] (σ' := [(3, .pointer (some ⟨b279, 0, none⟩)), (5, .pointer (some ⟨b280, 0, none⟩)), (6, .pointer (some ⟨b281, 0, none⟩)), (7, .pointer (some ⟨b293, 0, none⟩)), (8, .pointer (some ⟨b299, 0, none⟩)), (19, .bool true)]) (by kernel_rfl) ?_
    refine t_end ?_
    show W _ _ _ _ _ _ _
    refine w_cond rfl (fun _ => ?_) (fun c_ => by cases c_)
    show W _ _ _ _ _ _ _
    refine w_reg fun all => ?_
    refine t_v (.ldn rfl rfl rfl (.at 1 rfl rfl)) ?_
    refine t_sti 0 (cs := [.int .u8 t288, .int .u8 t289, .int .u8 t290, .int .u8 t291]) rfl rfl rfl rfl rfl rfl rfl rfl rfl ?_
    refine t_keep [3, 5, 6, 7, 8] (σ' := [(3, .pointer (some ⟨b279, 0, none⟩)), (5, .pointer (some ⟨b280, 0, none⟩)), (6, .pointer (some ⟨b281, 0, none⟩)), (7, .pointer (some ⟨b293, 0, none⟩)), (8, .pointer (some ⟨b299, 0, none⟩))]) (by kernel_rfl) ?_
    refine t_end ?_
    show W _ _ _ _ _ _ _
    refine w_seq ?_
    obtain ⟨t301, h302, e⟩ := bind_of e
    obtain ⟨⟨t303, t304, t305, t306⟩, h307, e⟩ := bind_of e
    try dsimp only at e
    refine w_drwE mixed 6 [.v (.agg #[.int .u8 t288, .int .u8 t289, .int .u8 t290, .int .u8 t291]), .v (.agg #[.int .u8 t288, .int .u8 t289, .int .u8 t290, .int .u8 t291]), .v (.agg #[.int .i64 p0_0, .int .i64 p0_1, .int .i64 p0_2, .int .i64 p0_3, .int .i64 p0_4, .int .i64 p0_5, .int .i64 p0_6]), .v (.agg #[.int .i64 at2_0, .int .i64 at2_1]), .v (.int .i64 t301), .v (.agg #[.int .i64 t303, .int .i64 t304, .int .i64 t305, .int .i64 t306])] (by kernel_rfl) ?_ ?_
    · refine .cons (.ldn rfl rfl rfl (.at 1 rfl rfl)) ?_
      refine .cons (.ldn rfl rfl rfl (.at 0 rfl rfl)) ?_
      refine .cons (.ldn rfl rfl rfl (.at 4 rfl rfl)) ?_
      refine .cons (.ldn rfl rfl rfl (.at 3 rfl rfl)) ?_
      refine .cons (.call (vs := [.agg #[.int .i64 p0_0, .int .i64 p0_1, .int .i64 p0_2, .int .i64 p0_3, .int .i64 p0_4, .int .i64 p0_5, .int .i64 p0_6], .agg #[.int .i64 at2_0, .int .i64 at2_1]]) rfl rfl (by kernel_rfl) (glyphicref20_Part.ok h302)) ?_
      refine .cons (.call (vs := [.agg #[.int .u8 t288, .int .u8 t289, .int .u8 t290, .int .u8 t291], .agg #[.int .u8 t288, .int .u8 t289, .int .u8 t290, .int .u8 t291], .int .i64 t301]) rfl rfl (by kernel_rfl) (glyphicref20_Mix.ok h307)) ?_
      exact .nil
    refine fk_q 6 [6, 26] (σ' := [(6, .pointer (some ⟨b281, 0, none⟩)), (26, .agg #[.int .i64 t303, .int .i64 t304, .int .i64 t305, .int .i64 t306])]) t_more (by kernel_rfl) ?_
    refine fk_nil fun all => ?_
    refine t_sti 2 (cs := [.int .i64 t303, .int .i64 t304, .int .i64 t305, .int .i64 t306]) rfl rfl rfl rfl rfl rfl rfl rfl rfl ?_
    refine t_keep [6] (σ' := [(6, .pointer (some ⟨b281, 0, none⟩))]) (by kernel_rfl) ?_
    refine t_end ?_
    show W _ _ _ _ _ _ _
    refine w_ret ?_
    simp only [Option.some.injEq, Prod.mk.injEq] at e
    obtain ⟨rfl, rfl, rfl, rfl⟩ := e
    exact ⟨[.agg #[.int .i64 t303, .int .i64 t304, .int .i64 t305, .int .i64 t306]], ([⟨B0, [.int .u8 m0_0, .int .u8 m0_1, .int .u8 m0_2, .int .u8 m0_3, .int .u8 m0_4, .int .u8 m0_5, .int .u8 m0_6, .int .u8 m0_7, .int .u8 m0_8, .int .u8 m0_9, .int .u8 m0_10, .int .u8 m0_11], 12⟩] : List Own), S, ⟨⟨_, _, _, rfl, .at 2 rfl rfl, rfl⟩, trivial⟩, VS.sel [5] (by kernel_rfl), rfl, rfl, rfl⟩
  · rw [if_neg c300] at e
    have c300b : (p0_0 == 0) = false := beq_eq_false_iff_ne.mpr c300
    refine t_v (dv_quiet rfl (congrArg (fun t => some (Value.bool t)) c300b)) ?_
    refine t_keep [3, 5, 6, 7, 8, 19] (σ' := [(3, .pointer (some ⟨b279, 0, none⟩)), (5, .pointer (some ⟨b280, 0, none⟩)), (6, .pointer (some ⟨b281, 0, none⟩)), (7, .pointer (some ⟨b293, 0, none⟩)), (8, .pointer (some ⟨b299, 0, none⟩)), (19, .bool false)]) (by kernel_rfl) ?_
    refine t_end ?_
    show W _ _ _ _ _ _ _
    refine w_cond rfl (fun c_ => by cases c_) (fun _ => ?_)
    show W _ _ _ _ _ _ _
    refine w_skip ?_
    show W _ _ _ _ _ _ _
    refine w_seq ?_
    obtain ⟨t308, h309, e⟩ := bind_of e
    obtain ⟨⟨t310, t311, t312, t313⟩, h314, e⟩ := bind_of e
    try dsimp only at e
    refine w_drwE mixed 6 [.v (.agg #[.int .u8 t288, .int .u8 t289, .int .u8 t290, .int .u8 t291]), .v (.agg #[.int .u8 t294, .int .u8 t295, .int .u8 t296, .int .u8 t297]), .v (.agg #[.int .i64 p0_0, .int .i64 p0_1, .int .i64 p0_2, .int .i64 p0_3, .int .i64 p0_4, .int .i64 p0_5, .int .i64 p0_6]), .v (.agg #[.int .i64 at2_0, .int .i64 at2_1]), .v (.int .i64 t308), .v (.agg #[.int .i64 t310, .int .i64 t311, .int .i64 t312, .int .i64 t313])] (by kernel_rfl) ?_ ?_
    · refine .cons (.ldn rfl rfl rfl (.at 1 rfl rfl)) ?_
      refine .cons (.ldn rfl rfl rfl (.at 0 rfl rfl)) ?_
      refine .cons (.ldn rfl rfl rfl (.at 4 rfl rfl)) ?_
      refine .cons (.ldn rfl rfl rfl (.at 3 rfl rfl)) ?_
      refine .cons (.call (vs := [.agg #[.int .i64 p0_0, .int .i64 p0_1, .int .i64 p0_2, .int .i64 p0_3, .int .i64 p0_4, .int .i64 p0_5, .int .i64 p0_6], .agg #[.int .i64 at2_0, .int .i64 at2_1]]) rfl rfl (by kernel_rfl) (glyphicref20_Part.ok h309)) ?_
      refine .cons (.call (vs := [.agg #[.int .u8 t288, .int .u8 t289, .int .u8 t290, .int .u8 t291], .agg #[.int .u8 t294, .int .u8 t295, .int .u8 t296, .int .u8 t297], .int .i64 t308]) rfl rfl (by kernel_rfl) (glyphicref20_Mix.ok h314)) ?_
      exact .nil
    refine fk_q 6 [6, 26] (σ' := [(6, .pointer (some ⟨b281, 0, none⟩)), (26, .agg #[.int .i64 t310, .int .i64 t311, .int .i64 t312, .int .i64 t313])]) t_more (by kernel_rfl) ?_
    refine fk_nil fun all => ?_
    refine t_sti 2 (cs := [.int .i64 t310, .int .i64 t311, .int .i64 t312, .int .i64 t313]) rfl rfl rfl rfl rfl rfl rfl rfl rfl ?_
    refine t_keep [6] (σ' := [(6, .pointer (some ⟨b281, 0, none⟩))]) (by kernel_rfl) ?_
    refine t_end ?_
    show W _ _ _ _ _ _ _
    refine w_ret ?_
    simp only [Option.some.injEq, Prod.mk.injEq] at e
    obtain ⟨rfl, rfl, rfl, rfl⟩ := e
    exact ⟨[.agg #[.int .i64 t310, .int .i64 t311, .int .i64 t312, .int .i64 t313]], ([⟨B0, [.int .u8 m0_0, .int .u8 m0_1, .int .u8 m0_2, .int .u8 m0_3, .int .u8 m0_4, .int .u8 m0_5, .int .u8 m0_6, .int .u8 m0_7, .int .u8 m0_8, .int .u8 m0_9, .int .u8 m0_10, .int .u8 m0_11], 12⟩] : List Own), S, ⟨⟨_, _, _, rfl, .at 2 rfl rfl, rfl⟩, trivial⟩, VS.sel [5] (by kernel_rfl), rfl, rfl, rfl⟩

/-- glyphiclaw25.PaintSays -/
def c14 : C :=
  (.seq (.reg [⟨(some 6), .box (.tmp 0), none⟩,
     ⟨(some 7), .box (.tmp 1), none⟩,
     ⟨(some 8), .box (.tmp 2), none⟩,
     ⟨(some 9), .box (.tmp 3), none⟩,
     ⟨(some 12), .mv (.const (.bool false)), none⟩])
  (.seq (.reg [⟨(some 18), .call 52 [], none⟩,
     ⟨(some 13), .mv (.tmp 18), none⟩])
  (.seq (.seq (.reg [⟨(some 19), .mv (.tmp 13), none⟩,
      ⟨(some 20), .un .not (.tmp 19), none⟩])
   (.cond (.tmp 20)
    (.seq (.reg [⟨(some 12), .mv (.const (.bool false)), none⟩])
     .ret)
    .skip))
  (.seq (.seq (.reg [⟨(some 21), .mv (.tmp 5), none⟩,
      ⟨(some 22), .lns (.tmp 21), none⟩,
      ⟨(some 23), .bin .gtr (.tmp 22) (.const (.int .i64 30)), none⟩])
   (.cond (.tmp 23)
    (.seq (.reg [⟨(some 24), .mv (.tmp 13), none⟩,
        ⟨(some 12), .mv (.tmp 24), none⟩])
     .ret)
    .skip))
  (.seq (.reg [⟨(some 25), .mv (.tmp 5), none⟩,
     ⟨(some 26), .bld [(.slice none 0 0), (.int .i64 0)] [(0, 1, (.tmp 25))], none⟩,
     ⟨(some 27), .box (.tmp 26), none⟩,
     ⟨(some 14), .mv (.tmp 27), none⟩])
  (.seq (.reg [⟨(some 28), .pad 0 (.tmp 6), none⟩,
     ⟨(some 29), .ld none (.tmp 28), none⟩,
     ⟨(some 30), .bin .rem (.tmp 29) (.const (.int .i64 3)), none⟩,
     ⟨(some 31), .bin .add (.tmp 30) (.const (.int .i64 3)), none⟩,
     ⟨(some 32), .bin .rem (.tmp 31) (.const (.int .i64 3)), none⟩,
     ⟨(some 33), .pad 0 (.tmp 6), none⟩,
     ⟨none, .st 1 (.tmp 33) (.tmp 32), none⟩])
  (.seq (.reg [⟨(some 34), .pad 3 (.tmp 6), none⟩,
     ⟨(some 35), .ld (some 2) (.tmp 34), none⟩,
     ⟨(some 36), .call 53 [(.tmp 35)], none⟩,
     ⟨(some 37), .pad 3 (.tmp 6), none⟩,
     ⟨none, .st 2 (.tmp 37) (.tmp 36), none⟩])
  (.seq (.reg [⟨(some 38), .pad 5 (.tmp 6), none⟩,
     ⟨(some 39), .ld (some 2) (.tmp 38), none⟩,
     ⟨(some 40), .call 53 [(.tmp 39)], none⟩,
     ⟨(some 41), .pad 5 (.tmp 6), none⟩,
     ⟨none, .st 2 (.tmp 41) (.tmp 40), none⟩])
  (.seq (.reg [⟨(some 42), .pad 1 (.tmp 6), none⟩,
     ⟨(some 43), .ld none (.tmp 42), none⟩,
     ⟨(some 44), .bin .rem (.tmp 43) (.const (.int .i64 4)), none⟩,
     ⟨(some 45), .pad 1 (.tmp 6), none⟩,
     ⟨none, .st 1 (.tmp 45) (.tmp 44), none⟩])
  (.seq (.reg [⟨(some 46), .pad 2 (.tmp 6), none⟩,
     ⟨(some 47), .ld none (.tmp 46), none⟩,
     ⟨(some 48), .bin .rem (.tmp 47) (.const (.int .i64 4)), none⟩,
     ⟨(some 49), .pad 2 (.tmp 6), none⟩,
     ⟨none, .st 1 (.tmp 49) (.tmp 48), none⟩])
  (.seq (.reg [⟨(some 50), .ld (some 2) (.tmp 7), none⟩,
     ⟨(some 51), .call 53 [(.tmp 50)], none⟩,
     ⟨none, .st 2 (.tmp 7) (.tmp 51), none⟩])
  (.seq (.reg [⟨(some 52), .mv (.tmp 4), none⟩,
     ⟨(some 53), .bin .rem (.tmp 52) (.const (.int .i64 65537)), none⟩,
     ⟨(some 54), .bin .add (.tmp 53) (.const (.int .i64 65537)), none⟩,
     ⟨(some 55), .bin .rem (.tmp 54) (.const (.int .i64 65537)), none⟩,
     ⟨(some 4), .mv (.tmp 55), none⟩])
  (.seq (.drw [⟨(some 56), .ld (some 4) (.tmp 8), none⟩,
     ⟨(some 57), .ld (some 4) (.tmp 9), none⟩,
     ⟨(some 58), .mv (.tmp 14), none⟩,
     ⟨(some 59), .call 54 [(.tmp 58)], none⟩,
     ⟨(some 60), .bsl [(.int .u8 0), (.int .u8 0), (.int .u8 0), (.int .u8 0), (.int .u8 0), (.int .u8 0), (.int .u8 0), (.int .u8 0), (.int .u8 0), (.int .u8 0), (.int .u8 0), (.int .u8 0)] 3 [(0, 4, (.tmp 56)), (4, 4, (.tmp 57)), (8, 4, (.tmp 59))], none⟩,
     ⟨(some 15), .mv (.tmp 60), none⟩] [[], [], [], [2], [0, 1, 3], [4, 3, 0, 1, 2, 3, 4]])
  (.seq (.reg [⟨(some 61), .ld (some 7) (.tmp 6), none⟩,
     ⟨(some 16), .new [(.int .i64 0), (.int .i64 0), (.int .i64 0), (.int .i64 0), (.int .i64 0), (.int .i64 0), (.int .i64 0)], none⟩,
     ⟨none, .st 7 (.tmp 16) (.tmp 61), none⟩])
  (.seq (.reg [⟨(some 62), .mv (.tmp 14), none⟩,
     ⟨(some 63), .call 18 [(.tmp 62), (.const (.int .i64 600))], none⟩,
     ⟨(some 64), .pad 3 (.tmp 16), none⟩,
     ⟨none, .st 2 (.tmp 64) (.tmp 63), none⟩])
  (.seq (.reg [⟨(some 65), .mv (.tmp 14), none⟩,
     ⟨(some 66), .call 18 [(.tmp 65), (.const (.int .i64 600))], none⟩,
     ⟨(some 67), .pad 5 (.tmp 16), none⟩,
     ⟨none, .st 2 (.tmp 67) (.tmp 66), none⟩])
  (.seq (.reg [⟨(some 68), .mv (.tmp 14), none⟩,
     ⟨(some 69), .call 18 [(.tmp 68), (.const (.int .i64 700))], none⟩,
     ⟨(some 17), .new [(.int .i64 0), (.int .i64 0)], none⟩,
     ⟨none, .st 2 (.tmp 17) (.tmp 69), none⟩])
  (.seq (.drw [⟨(some 70), .mv (.tmp 13), none⟩,
     ⟨(some 71), .mv (.tmp 70), none⟩,
     ⟨(some 72), .ld (some 7) (.tmp 6), (some (71, true))⟩,
     ⟨(some 73), .ld (some 2) (.tmp 7), (some (71, true))⟩,
     ⟨(some 74), .call 55 [(.tmp 72), (.tmp 73)], (some (71, true))⟩,
     ⟨(some 75), .ld (some 7) (.tmp 6), (some (71, true))⟩,
     ⟨(some 76), .ld (some 2) (.tmp 7), (some (71, true))⟩,
     ⟨(some 77), .call 56 [(.tmp 75), (.tmp 76)], (some (71, true))⟩,
     ⟨(some 78), .bin .eql (.tmp 74) (.tmp 77), (some (71, true))⟩,
     ⟨(some 79), .pk (.tmp 71) (.tmp 78) (.const (.bool false)), none⟩,
     ⟨(some 80), .mv (.tmp 79), none⟩,
     ⟨(some 81), .ld (some 7) (.tmp 16), (some (80, true))⟩,
     ⟨(some 82), .ld (some 2) (.tmp 17), (some (80, true))⟩,
     ⟨(some 83), .call 55 [(.tmp 81), (.tmp 82)], (some (80, true))⟩,
     ⟨(some 84), .ld (some 7) (.tmp 16), (some (80, true))⟩,
     ⟨(some 85), .ld (some 2) (.tmp 17), (some (80, true))⟩,
     ⟨(some 86), .call 56 [(.tmp 84), (.tmp 85)], (some (80, true))⟩,
     ⟨(some 87), .bin .eql (.tmp 83) (.tmp 86), (some (80, true))⟩,
     ⟨(some 88), .pk (.tmp 80) (.tmp 87) (.const (.bool false)), none⟩,
     ⟨(some 89), .mv (.tmp 88), none⟩,
     ⟨(some 90), .ld (some 4) (.tmp 8), (some (89, true))⟩,
     ⟨(some 91), .ld (some 4) (.tmp 9), (some (89, true))⟩,
     ⟨(some 92), .mv (.tmp 4), (some (89, true))⟩,
     ⟨(some 93), .call 57 [(.tmp 90), (.tmp 91), (.tmp 92)], (some (89, true))⟩,
     ⟨(some 94), .ld (some 4) (.tmp 8), (some (89, true))⟩,
     ⟨(some 95), .ld (some 4) (.tmp 9), (some (89, true))⟩,
     ⟨(some 96), .mv (.tmp 4), (some (89, true))⟩,
     ⟨(some 97), .call 58 [(.tmp 94), (.tmp 95), (.tmp 96)], (some (89, true))⟩,
     ⟨(some 98), .eqt false 84 (.tmp 93) (.tmp 97), (some (89, true))⟩,
     ⟨(some 99), .pk (.tmp 89) (.tmp 98) (.const (.bool false)), none⟩,
     ⟨(some 100), .mv (.tmp 99), none⟩,
     ⟨(some 101), .ld (some 7) (.tmp 6), (some (100, true))⟩,
     ⟨(some 102), .mv (.tmp 15), (some (100, true))⟩,
     ⟨(some 103), .ld (some 2) (.tmp 7), (some (100, true))⟩,
     ⟨(some 104), .call 59 [(.tmp 101), (.tmp 102), (.tmp 103)], (some (100, true))⟩,
     ⟨(some 105), .ld (some 7) (.tmp 6), (some (100, true))⟩,
     ⟨(some 106), .mv (.tmp 15), (some (100, true))⟩,
     ⟨(some 107), .ld (some 2) (.tmp 7), (some (100, true))⟩,
     ⟨(some 108), .call 60 [(.tmp 105), (.tmp 106), (.tmp 107)], (some (100, true))⟩,
     ⟨(some 109), .eqt false 84 (.tmp 104) (.tmp 108), (some (100, true))⟩,
     ⟨(some 110), .pk (.tmp 100) (.tmp 109) (.const (.bool false)), none⟩,
     ⟨(some 111), .mv (.tmp 110), none⟩,
     ⟨(some 112), .ld (some 7) (.tmp 16), (some (111, true))⟩,
     ⟨(some 113), .mv (.tmp 15), (some (111, true))⟩,
     ⟨(some 114), .ld (some 2) (.tmp 17), (some (111, true))⟩,
     ⟨(some 115), .call 59 [(.tmp 112), (.tmp 113), (.tmp 114)], (some (111, true))⟩,
     ⟨(some 116), .ld (some 7) (.tmp 16), (some (111, true))⟩,
     ⟨(some 117), .mv (.tmp 15), (some (111, true))⟩,
     ⟨(some 118), .ld (some 2) (.tmp 17), (some (111, true))⟩,
     ⟨(some 119), .call 60 [(.tmp 116), (.tmp 117), (.tmp 118)], (some (111, true))⟩,
     ⟨(some 120), .eqt false 84 (.tmp 115) (.tmp 119), (some (111, true))⟩,
     ⟨(some 121), .pk (.tmp 111) (.tmp 120) (.const (.bool false)), none⟩,
     ⟨(some 12), .mv (.tmp 121), none⟩] [[], [0], [1], [1], [2, 3, 1, 1], [1], [1], [5, 6, 4, 1], [4, 7, 1], [1, 8], [9, 7], [10], [10], [11, 12, 10, 10], [10], [10], [14, 15, 13, 10], [13, 16, 10], [10, 17], [18, 16], [19], [19], [19], [20, 21, 22, 19, 19], [19], [19], [19], [24, 25, 26, 23, 19], [23, 27, 19], [19, 28], [29, 27], [30], [30], [30], [31, 32, 33, 30, 30], [30], [30], [30], [35, 36, 37, 34, 30], [34, 38, 30], [30, 39], [40, 38], [41], [41], [41], [42, 43, 44, 41, 41], [41], [41], [41], [46, 47, 48, 45, 41], [45, 49, 41], [41, 50], [51, 49, 0, 1, 2, 3, 4, 5, 6, 7, 8, 9, 10, 11, 12, 13, 14, 15, 16, 17, 18, 19, 20, 21, 22, 23, 24, 25, 26, 27, 28, 29, 30, 31, 32, 33, 34, 35, 36, 37, 38, 39, 40, 41, 42, 43, 44, 45, 46, 47, 48, 49, 50, 51]])
  .ret))))))))))))))))))
def glyphiclaw25_PaintSays.f (k : Nat) (p0_Kind : Int) (p0_A : Int) (p0_B : Int) (p0_P_X : Int) (p0_P_Y : Int) (p0_Q_X : Int) (p0_Q_Y : Int) (at1_X : Int) (at1_Y : Int) (a2_R : Int) (a2_G : Int) (a2_B : Int) (a2_A : Int) (b3_R : Int) (b3_G : Int) (b3_B : Int) (b3_A : Int) (t4 : Int) (l5 : List Int) : Option (Bool) := (glyphiclaw25_first.f).bind fun t21 => (if t21 = true then (if (l5.length : Int) > 30 then (some true) else ((glyphiclaw25_cut.f p0_P_X p0_P_Y).bind fun (t27, t28) => ((glyphiclaw25_cut.f p0_Q_X p0_Q_Y).bind fun (t30, t31) => ((glyphiclaw25_cut.f at1_X at1_Y).bind fun (t33, t34) => ((glyphicmake_Color_v1.f l5 0).bind fun (t36, t37, t38, t39, t40) => ((glyphicmake_Point_v1.f 600 l5 t40).bind fun (t58, t59, t60) => ((glyphicmake_Point_v1.f 600 l5 t60).bind fun (t62, t63, t64) => ((glyphicmake_Point_v1.f 700 l5 t64).bind fun (t66, t67, t68) => ((paint_Part.f k (Int.tmod (wr64 ((Int.tmod p0_Kind 3) + 3)) 3) (Int.tmod p0_A 4) (Int.tmod p0_B 4) t27 t28 t30 t31 t33 t34).bind fun t71 => ((glyphicref20_Part.f k (Int.tmod (wr64 ((Int.tmod p0_Kind 3) + 3)) 3) (Int.tmod p0_A 4) (Int.tmod p0_B 4) t27 t28 t30 t31 t33 t34).bind fun t73 => (if t71 = t73 then ((paint_Part.f k (Int.tmod (wr64 ((Int.tmod p0_Kind 3) + 3)) 3) (Int.tmod p0_A 4) (Int.tmod p0_B 4) t58 t59 t62 t63 t66 t67).bind fun t76 => ((glyphicref20_Part.f k (Int.tmod (wr64 ((Int.tmod p0_Kind 3) + 3)) 3) (Int.tmod p0_A 4) (Int.tmod p0_B 4) t58 t59 t62 t63 t66 t67).bind fun t78 => (if t76 = t78 then ((paint_Mix.f a2_R a2_G a2_B a2_A b3_R b3_G b3_B b3_A (Int.tmod (wr64 ((Int.tmod t4 65537) + 65537)) 65537)).bind fun (t81, t82, t83, t84) => ((glyphicref20_Mix.f a2_R a2_G a2_B a2_A b3_R b3_G b3_B b3_A (Int.tmod (wr64 ((Int.tmod t4 65537) + 65537)) 65537)).bind fun (t86, t87, t88, t89) => (if ((t81 == t86) && ((t82 == t87) && ((t83 == t88) && (t84 == t89)))) = true then ((paint_At_v1.f k (Int.tmod (wr64 ((Int.tmod p0_Kind 3) + 3)) 3) (Int.tmod p0_A 4) (Int.tmod p0_B 4) t27 t28 t30 t31 t33 t34 a2_R a2_G a2_B a2_A b3_R b3_G b3_B b3_A t36 t37 t38 t39).bind fun (t92, t93, t94, t95) => ((glyphicref20_PaintAt_v1.f k (Int.tmod (wr64 ((Int.tmod p0_Kind 3) + 3)) 3) (Int.tmod p0_A 4) (Int.tmod p0_B 4) t27 t28 t30 t31 t33 t34 a2_R a2_G a2_B a2_A b3_R b3_G b3_B b3_A t36 t37 t38 t39).bind fun (t97, t98, t99, t100) => (if ((t92 == t97) && ((t93 == t98) && ((t94 == t99) && (t95 == t100)))) = true then ((paint_At_v1.f k (Int.tmod (wr64 ((Int.tmod p0_Kind 3) + 3)) 3) (Int.tmod p0_A 4) (Int.tmod p0_B 4) t58 t59 t62 t63 t66 t67 a2_R a2_G a2_B a2_A b3_R b3_G b3_B b3_A t36 t37 t38 t39).bind fun (t103, t104, t105, t106) => ((glyphicref20_PaintAt_v1.f k (Int.tmod (wr64 ((Int.tmod p0_Kind 3) + 3)) 3) (Int.tmod p0_A 4) (Int.tmod p0_B 4) t58 t59 t62 t63 t66 t67 a2_R a2_G a2_B a2_A b3_R b3_G b3_B b3_A t36 t37 t38 t39).bind fun (t108, t109, t110, t111) => (some ((t103 == t108) && ((t104 == t109) && ((t105 == t110) && (t106 == t111))))))) else (some false)))) else (some false)))) else (some false)))) else (some false)))))))))))) else (some false))
theorem glyphiclaw25_PaintSays.ok {S : Seal} {k : Nat} {p0_Kind : Int} {p0_A : Int} {p0_B : Int} {p0_P_X : Int} {p0_P_Y : Int} {p0_Q_X : Int} {p0_Q_Y : Int} {at1_X : Int} {at1_Y : Int} {a2_R : Int} {a2_G : Int} {a2_B : Int} {a2_A : Int} {b3_R : Int} {b3_G : Int} {b3_B : Int} {b3_A : Int} {t4 : Int} {l5 : List Int} {a_l5 : Option Addr} {c_l5 : Nat} (h_l5 : SlI S .i64 l5 a_l5) (e : glyphiclaw25_PaintSays.f k p0_Kind p0_A p0_B p0_P_X p0_P_Y p0_Q_X p0_Q_Y at1_X at1_Y a2_R a2_G a2_B a2_A b3_R b3_G b3_B b3_A t4 l5 = some true) :
    Cal Try.prog 14 [.agg #[.int .i64 p0_Kind, .int .i64 p0_A, .int .i64 p0_B, .int .i64 p0_P_X, .int .i64 p0_P_Y, .int .i64 p0_Q_X, .int .i64 p0_Q_Y], .agg #[.int .i64 at1_X, .int .i64 at1_Y], .agg #[.int .u8 a2_R, .int .u8 a2_G, .int .u8 a2_B, .int .u8 a2_A], .agg #[.int .u8 b3_R, .int .u8 b3_G, .int .u8 b3_B, .int .u8 b3_A], .int .i64 t4, .slice a_l5 l5.length c_l5] [] S fun v H' S' => v = .bool true ∧ H' = [] ∧ S' = S := by
  unfold glyphiclaw25_PaintSays.f at e
  refine cal_of (c := c14) (N := 122) Try.func14 rfl rfl (by kernel_rfl) (rs := [.t 12]) (by kernel_rfl) (Nat.le_of_ble_eq_true rfl) ?_
  unfold c14
  refine w_seq ?_
  refine w_reg fun all => ?_
  refine t_a (.box rfl rfl rfl) fun b1 fb1 sb1 => ?_
  refine t_a (.box rfl rfl rfl) fun b2 fb2 sb2 => ?_
  refine t_a (.box rfl rfl rfl) fun b3 fb3 sb3 => ?_
  refine t_a (.box rfl rfl rfl) fun b4 fb4 sb4 => ?_
  refine t_qz 1 [4, 5, 6, 7, 8, 9] (σ' := [(4, .int .i64 t4), (5, .slice a_l5 l5.length c_l5), (6, .pointer (some ⟨b1, 0, none⟩)), (7, .pointer (some ⟨b2, 0, none⟩)), (8, .pointer (some ⟨b3, 0, none⟩)), (9, .pointer (some ⟨b4, 0, none⟩))]) (by kernel_rfl) ?_
  refine t_end ?_
  show W _ _ _ _ _ _ _
  refine w_seq ?_
  refine w_reg fun all => ?_
  obtain ⟨t21, h22, e⟩ := bind_of e
  cases t21 with
  | true =>
    rw [if_pos rfl] at e
    refine t_v (.call (vs := []) rfl rfl (by kernel_rfl) (glyphiclaw25_first.ok h22)) ?_
    refine t_qz 1 [4, 5, 6, 7, 8, 9, 13] (σ' := [(4, .int .i64 t4), (5, .slice a_l5 l5.length c_l5), (6, .pointer (some ⟨b1, 0, none⟩)), (7, .pointer (some ⟨b2, 0, none⟩)), (8, .pointer (some ⟨b3, 0, none⟩)), (9, .pointer (some ⟨b4, 0, none⟩)), (13, .bool true)]) (by kernel_rfl) ?_
    refine t_end ?_
    show W _ _ _ _ _ _ _
    refine w_seq ?_
    refine w_seq ?_
    refine w_reg fun all => ?_
    refine t_qz 2 [4, 5, 6, 7, 8, 9, 13, 20] (σ' := [(4, .int .i64 t4), (5, .slice a_l5 l5.length c_l5), (6, .pointer (some ⟨b1, 0, none⟩)), (7, .pointer (some ⟨b2, 0, none⟩)), (8, .pointer (some ⟨b3, 0, none⟩)), (9, .pointer (some ⟨b4, 0, none⟩)), (13, .bool true), (20, .bool false)]) (by kernel_rfl) ?_
    refine t_end ?_
    show W _ _ _ _ _ _ _
    refine w_cond rfl (fun c_ => by cases c_) (fun _ => ?_)
    show W _ _ _ _ _ _ _
    refine w_skip ?_
    show W _ _ _ _ _ _ _
    refine w_seq ?_
    refine w_seq ?_
    refine w_reg fun all => ?_
    by_cases c23 : (l5.length : Int) > 30
    · rw [if_pos c23] at e
      have c23b : (decide ((l5.length : Int) > 30)) = true := decide_eq_true c23
      refine t_qz 2 [4, 5, 6, 7, 8, 9, 13, 22] (σ' := [(4, .int .i64 t4), (5, .slice a_l5 l5.length c_l5), (6, .pointer (some ⟨b1, 0, none⟩)), (7, .pointer (some ⟨b2, 0, none⟩)), (8, .pointer (some ⟨b3, 0, none⟩)), (9, .pointer (some ⟨b4, 0, none⟩)), (13, .bool true), (22, .int .i64 (l5.length : Int))]) (by kernel_rfl) ?_
      refine t_v (dv_quiet rfl (congrArg (fun t => some (Value.bool t)) c23b)) ?_
      refine t_keep [4, 5, 6, 7, 8, 9, 13, 23] (σ' := [(4, .int .i64 t4), (5, .slice a_l5 l5.length c_l5), (6, .pointer (some ⟨b1, 0, none⟩)), (7, .pointer (some ⟨b2, 0, none⟩)), (8, .pointer (some ⟨b3, 0, none⟩)), (9, .pointer (some ⟨b4, 0, none⟩)), (13, .bool true), (23, .bool true)]) (by kernel_rfl) ?_
      refine t_end ?_
      show W _ _ _ _ _ _ _
      refine w_cond rfl (fun _ => ?_) (fun c_ => by cases c_)
      show W _ _ _ _ _ _ _
      refine w_seq ?_
      refine w_reg fun all => ?_
      refine t_qz 2 [12] (σ' := [(12, .bool true)]) (by kernel_rfl) ?_
      refine t_end ?_
      show W _ _ _ _ _ _ _
      refine w_ret ?_
      have hr_ := Option.some.inj e
      exact ⟨[.bool true], [], S, ⟨rfl, trivial⟩, VS.none, congrArg Value.bool hr_, rfl, rfl⟩
    · rw [if_neg c23] at e
      have c23b : (decide ((l5.length : Int) > 30)) = false := decide_eq_false c23
      refine t_qz 2 [4, 5, 6, 7, 8, 9, 13, 22] (σ' := [(4, .int .i64 t4), (5, .slice a_l5 l5.length c_l5), (6, .pointer (some ⟨b1, 0, none⟩)), (7, .pointer (some ⟨b2, 0, none⟩)), (8, .pointer (some ⟨b3, 0, none⟩)), (9, .pointer (some ⟨b4, 0, none⟩)), (13, .bool true), (22, .int .i64 (l5.length : Int))]) (by kernel_rfl) ?_
      refine t_v (dv_quiet rfl (congrArg (fun t => some (Value.bool t)) c23b)) ?_
      refine t_keep [4, 5, 6, 7, 8, 9, 13, 23] (σ' := [(4, .int .i64 t4), (5, .slice a_l5 l5.length c_l5), (6, .pointer (some ⟨b1, 0, none⟩)), (7, .pointer (some ⟨b2, 0, none⟩)), (8, .pointer (some ⟨b3, 0, none⟩)), (9, .pointer (some ⟨b4, 0, none⟩)), (13, .bool true), (23, .bool false)]) (by kernel_rfl) ?_
      refine t_end ?_
      show W _ _ _ _ _ _ _
      refine w_cond rfl (fun c_ => by cases c_) (fun _ => ?_)
      show W _ _ _ _ _ _ _
      refine w_skip ?_
      show W _ _ _ _ _ _ _
      refine w_seq ?_
      refine w_reg fun all => ?_
      refine t_qz 2 [4, 6, 7, 8, 9, 13, 26] (σ' := [(4, .int .i64 t4), (6, .pointer (some ⟨b1, 0, none⟩)), (7, .pointer (some ⟨b2, 0, none⟩)), (8, .pointer (some ⟨b3, 0, none⟩)), (9, .pointer (some ⟨b4, 0, none⟩)), (13, .bool true), (26, .agg #[.slice a_l5 l5.length c_l5, .int .i64 0])]) (by kernel_rfl) ?_
      refine t_a (.box rfl rfl rfl) fun b24 fb24 sb24 => ?_
      refine t_qz 1 [4, 6, 7, 8, 9, 13, 14] (σ' := [(4, .int .i64 t4), (6, .pointer (some ⟨b1, 0, none⟩)), (7, .pointer (some ⟨b2, 0, none⟩)), (8, .pointer (some ⟨b3, 0, none⟩)), (9, .pointer (some ⟨b4, 0, none⟩)), (13, .bool true), (14, .pointer (some ⟨b24, 0, none⟩))]) (by kernel_rfl) ?_
      refine t_end ?_
      show W _ _ _ _ _ _ _
      refine w_seq ?_
      refine w_reg fun all => ?_
      refine t_qz 1 [4, 6, 7, 8, 9, 13, 14, 28] (σ' := [(4, .int .i64 t4), (6, .pointer (some ⟨b1, 0, none⟩)), (7, .pointer (some ⟨b2, 0, none⟩)), (8, .pointer (some ⟨b3, 0, none⟩)), (9, .pointer (some ⟨b4, 0, none⟩)), (13, .bool true), (14, .pointer (some ⟨b24, 0, none⟩)), (28, .pointer (some ⟨b1, 0, none⟩))]) (by kernel_rfl) ?_
      refine t_v (.ld1 rfl rfl rfl (.at 4 rfl rfl)) ?_
      refine t_qz 4 [4, 6, 7, 8, 9, 13, 14, 32, 33] (σ' := [(4, .int .i64 t4), (6, .pointer (some ⟨b1, 0, none⟩)), (7, .pointer (some ⟨b2, 0, none⟩)), (8, .pointer (some ⟨b3, 0, none⟩)), (9, .pointer (some ⟨b4, 0, none⟩)), (13, .bool true), (14, .pointer (some ⟨b24, 0, none⟩)), (32, .int .i64 (Int.tmod (wr64 ((Int.tmod p0_Kind 3) + 3)) 3)), (33, .pointer (some ⟨b1, 0, none⟩))]) (by kernel_rfl) ?_
      refine t_sti 4 (cs := [.int .i64 (Int.tmod (wr64 ((Int.tmod p0_Kind 3) + 3)) 3), .int .i64 p0_A, .int .i64 p0_B, .int .i64 p0_P_X, .int .i64 p0_P_Y, .int .i64 p0_Q_X, .int .i64 p0_Q_Y]) rfl rfl rfl rfl rfl rfl rfl rfl rfl ?_
      refine t_keep [4, 6, 7, 8, 9, 13, 14] (σ' := [(4, .int .i64 t4), (6, .pointer (some ⟨b1, 0, none⟩)), (7, .pointer (some ⟨b2, 0, none⟩)), (8, .pointer (some ⟨b3, 0, none⟩)), (9, .pointer (some ⟨b4, 0, none⟩)), (13, .bool true), (14, .pointer (some ⟨b24, 0, none⟩))]) (by kernel_rfl) ?_
      refine t_end ?_
      show W _ _ _ _ _ _ _
      refine w_seq ?_
      refine w_reg fun all => ?_
      refine t_qz 1 [4, 6, 7, 8, 9, 13, 14, 34] (σ' := [(4, .int .i64 t4), (6, .pointer (some ⟨b1, 0, none⟩)), (7, .pointer (some ⟨b2, 0, none⟩)), (8, .pointer (some ⟨b3, 0, none⟩)), (9, .pointer (some ⟨b4, 0, none⟩)), (13, .bool true), (14, .pointer (some ⟨b24, 0, none⟩)), (34, .pointer (some ⟨b1, 3, none⟩))]) (by kernel_rfl) ?_
      refine t_v (.ldn rfl rfl rfl (.at 4 rfl rfl)) ?_
      obtain ⟨⟨t27, t28⟩, h29, e⟩ := bind_of e
      try dsimp only at e
      refine t_v (.call (vs := [.agg #[.int .i64 p0_P_X, .int .i64 p0_P_Y]]) rfl rfl (by kernel_rfl) (glyphiclaw25_cut.ok h29)) ?_
      refine t_qz 1 [4, 6, 7, 8, 9, 13, 14, 36, 37] (σ' := [(4, .int .i64 t4), (6, .pointer (some ⟨b1, 0, none⟩)), (7, .pointer (some ⟨b2, 0, none⟩)), (8, .pointer (some ⟨b3, 0, none⟩)), (9, .pointer (some ⟨b4, 0, none⟩)), (13, .bool true), (14, .pointer (some ⟨b24, 0, none⟩)), (36, .agg #[.int .i64 t27, .int .i64 t28]), (37, .pointer (some ⟨b1, 3, none⟩))]) (by kernel_rfl) ?_
      refine t_sti 4 (cs := [.int .i64 (Int.tmod (wr64 ((Int.tmod p0_Kind 3) + 3)) 3), .int .i64 p0_A, .int .i64 p0_B, .int .i64 t27, .int .i64 t28, .int .i64 p0_Q_X, .int .i64 p0_Q_Y]) rfl rfl rfl rfl rfl rfl rfl rfl rfl ?_
      refine t_keep [4, 6, 7, 8, 9, 13, 14] (σ' := [(4, .int .i64 t4), (6, .pointer (some ⟨b1, 0, none⟩)), (7, .pointer (some ⟨b2, 0, none⟩)), (8, .pointer (some ⟨b3, 0, none⟩)), (9, .pointer (some ⟨b4, 0, none⟩)), (13, .bool true), (14, .pointer (some ⟨b24, 0, none⟩))]) (by kernel_rfl) ?_
      refine t_end ?_
      show W _ _ _ _ _ _ _
      refine w_seq ?_
      refine w_reg fun all => ?_
      refine t_qz 1 [4, 6, 7, 8, 9, 13, 14, 38] (σ' := [(4, .int .i64 t4), (6, .pointer (some ⟨b1, 0, none⟩)), (7, .pointer (some ⟨b2, 0, none⟩)), (8, .pointer (some ⟨b3, 0, none⟩)), (9, .pointer (some ⟨b4, 0, none⟩)), (13, .bool true), (14, .pointer (some ⟨b24, 0, none⟩)), (38, .pointer (some ⟨b1, 5, none⟩))]) (by kernel_rfl) ?_
      refine t_v (.ldn rfl rfl rfl (.at 4 rfl rfl)) ?_
      obtain ⟨⟨t30, t31⟩, h32, e⟩ := bind_of e
      try dsimp only at e
      refine t_v (.call (vs := [.agg #[.int .i64 p0_Q_X, .int .i64 p0_Q_Y]]) rfl rfl (by kernel_rfl) (glyphiclaw25_cut.ok h32)) ?_
      refine t_qz 1 [4, 6, 7, 8, 9, 13, 14, 40, 41] (σ' := [(4, .int .i64 t4), (6, .pointer (some ⟨b1, 0, none⟩)), (7, .pointer (some ⟨b2, 0, none⟩)), (8, .pointer (some ⟨b3, 0, none⟩)), (9, .pointer (some ⟨b4, 0, none⟩)), (13, .bool true), (14, .pointer (some ⟨b24, 0, none⟩)), (40, .agg #[.int .i64 t30, .int .i64 t31]), (41, .pointer (some ⟨b1, 5, none⟩))]) (by kernel_rfl) ?_
      refine t_sti 4 (cs := [.int .i64 (Int.tmod (wr64 ((Int.tmod p0_Kind 3) + 3)) 3), .int .i64 p0_A, .int .i64 p0_B, .int .i64 t27, .int .i64 t28, .int .i64 t30, .int .i64 t31]) rfl rfl rfl rfl rfl rfl rfl rfl rfl ?_
      refine t_keep [4, 6, 7, 8, 9, 13, 14] (σ' := [(4, .int .i64 t4), (6, .pointer (some ⟨b1, 0, none⟩)), (7, .pointer (some ⟨b2, 0, none⟩)), (8, .pointer (some ⟨b3, 0, none⟩)), (9, .pointer (some ⟨b4, 0, none⟩)), (13, .bool true), (14, .pointer (some ⟨b24, 0, none⟩))]) (by kernel_rfl) ?_
      refine t_end ?_
      show W _ _ _ _ _ _ _
      refine w_seq ?_
      refine w_reg fun all => ?_
      refine t_qz 1 [4, 6, 7, 8, 9, 13, 14, 42] (σ' := [(4, .int .i64 t4), (6, .pointer (some ⟨b1, 0, none⟩)), (7, .pointer (some ⟨b2, 0, none⟩)), (8, .pointer (some ⟨b3, 0, none⟩)), (9, .pointer (some ⟨b4, 0, none⟩)), (13, .bool true), (14, .pointer (some ⟨b24, 0, none⟩)), (42, .pointer (some ⟨b1, 1, none⟩))]) (by kernel_rfl) ?_
      refine t_v (.ld1 rfl rfl rfl (.at 4 rfl rfl)) ?_
      refine t_qz 2 [4, 6, 7, 8, 9, 13, 14, 44, 45] (σ' := [(4, .int .i64 t4), (6, .pointer (some ⟨b1, 0, none⟩)), (7, .pointer (some ⟨b2, 0, none⟩)), (8, .pointer (some ⟨b3, 0, none⟩)), (9, .pointer (some ⟨b4, 0, none⟩)), (13, .bool true), (14, .pointer (some ⟨b24, 0, none⟩)), (44, .int .i64 (Int.tmod p0_A 4)), (45, .pointer (some ⟨b1, 1, none⟩))]) (by kernel_rfl) ?_
      refine t_sti 4 (cs := [.int .i64 (Int.tmod (wr64 ((Int.tmod p0_Kind 3) + 3)) 3), .int .i64 (Int.tmod p0_A 4), .int .i64 p0_B, .int .i64 t27, .int .i64 t28, .int .i64 t30, .int .i64 t31]) rfl rfl rfl rfl rfl rfl rfl rfl rfl ?_
      refine t_keep [4, 6, 7, 8, 9, 13, 14] (σ' := [(4, .int .i64 t4), (6, .pointer (some ⟨b1, 0, none⟩)), (7, .pointer (some ⟨b2, 0, none⟩)), (8, .pointer (some ⟨b3, 0, none⟩)), (9, .pointer (some ⟨b4, 0, none⟩)), (13, .bool true), (14, .pointer (some ⟨b24, 0, none⟩))]) (by kernel_rfl) ?_
      refine t_end ?_
      show W _ _ _ _ _ _ _
      refine w_seq ?_
      refine w_reg fun all => ?_
      refine t_qz 1 [4, 6, 7, 8, 9, 13, 14, 46] (σ' := [(4, .int .i64 t4), (6, .pointer (some ⟨b1, 0, none⟩)), (7, .pointer (some ⟨b2, 0, none⟩)), (8, .pointer (some ⟨b3, 0, none⟩)), (9, .pointer (some ⟨b4, 0, none⟩)), (13, .bool true), (14, .pointer (some ⟨b24, 0, none⟩)), (46, .pointer (some ⟨b1, 2, none⟩))]) (by kernel_rfl) ?_
      refine t_v (.ld1 rfl rfl rfl (.at 4 rfl rfl)) ?_
      refine t_qz 2 [4, 6, 7, 8, 9, 13, 14, 48, 49] (σ' := [(4, .int .i64 t4), (6, .pointer (some ⟨b1, 0, none⟩)), (7, .pointer (some ⟨b2, 0, none⟩)), (8, .pointer (some ⟨b3, 0, none⟩)), (9, .pointer (some ⟨b4, 0, none⟩)), (13, .bool true), (14, .pointer (some ⟨b24, 0, none⟩)), (48, .int .i64 (Int.tmod p0_B 4)), (49, .pointer (some ⟨b1, 2, none⟩))]) (by kernel_rfl) ?_
      refine t_sti 4 (cs := [.int .i64 (Int.tmod (wr64 ((Int.tmod p0_Kind 3) + 3)) 3), .int .i64 (Int.tmod p0_A 4), .int .i64 (Int.tmod p0_B 4), .int .i64 t27, .int .i64 t28, .int .i64 t30, .int .i64 t31]) rfl rfl rfl rfl rfl rfl rfl rfl rfl ?_
      refine t_keep [4, 6, 7, 8, 9, 13, 14] (σ' := [(4, .int .i64 t4), (6, .pointer (some ⟨b1, 0, none⟩)), (7, .pointer (some ⟨b2, 0, none⟩)), (8, .pointer (some ⟨b3, 0, none⟩)), (9, .pointer (some ⟨b4, 0, none⟩)), (13, .bool true), (14, .pointer (some ⟨b24, 0, none⟩))]) (by kernel_rfl) ?_
      refine t_end ?_
      show W _ _ _ _ _ _ _
      refine w_seq ?_
      refine w_reg fun all => ?_
      refine t_v (.ldn rfl rfl rfl (.at 3 rfl rfl)) ?_
      obtain ⟨⟨t33, t34⟩, h35, e⟩ := bind_of e
      try dsimp only at e
      refine t_v (.call (vs := [.agg #[.int .i64 at1_X, .int .i64 at1_Y]]) rfl rfl (by kernel_rfl) (glyphiclaw25_cut.ok h35)) ?_
      refine t_sti 3 (cs := [.int .i64 t33, .int .i64 t34]) rfl rfl rfl rfl rfl rfl rfl rfl rfl ?_
      refine t_keep [4, 6, 7, 8, 9, 13, 14] (σ' := [(4, .int .i64 t4), (6, .pointer (some ⟨b1, 0, none⟩)), (7, .pointer (some ⟨b2, 0, none⟩)), (8, .pointer (some ⟨b3, 0, none⟩)), (9, .pointer (some ⟨b4, 0, none⟩)), (13, .bool true), (14, .pointer (some ⟨b24, 0, none⟩))]) (by kernel_rfl) ?_
      refine t_end ?_
      show W _ _ _ _ _ _ _
      refine w_seq ?_
      refine w_reg fun all => ?_
      refine t_qz 5 [4, 6, 7, 8, 9, 13, 14] (σ' := [(4, .int .i64 (Int.tmod (wr64 ((Int.tmod t4 65537) + 65537)) 65537)), (6, .pointer (some ⟨b1, 0, none⟩)), (7, .pointer (some ⟨b2, 0, none⟩)), (8, .pointer (some ⟨b3, 0, none⟩)), (9, .pointer (some ⟨b4, 0, none⟩)), (13, .bool true), (14, .pointer (some ⟨b24, 0, none⟩))]) (by kernel_rfl) ?_
      refine t_end ?_
      show W _ _ _ _ _ _ _
      refine w_seq ?_
      obtain ⟨⟨t36, t37, t38, t39, t40⟩, h41, e⟩ := bind_of e
      try dsimp only at e
      refine w_kp [4, 6, 7, 8, 9, 13, 14] (σ' := [(4, .int .i64 (Int.tmod (wr64 ((Int.tmod t4 65537) + 65537)) 65537)), (6, .pointer (some ⟨b1, 0, none⟩)), (7, .pointer (some ⟨b2, 0, none⟩)), (8, .pointer (some ⟨b3, 0, none⟩)), (9, .pointer (some ⟨b4, 0, none⟩)), (13, .bool true), (14, .pointer (some ⟨b24, 0, none⟩))]) (by kernel_rfl) ?_
      refine w_gameQ mixed (by kernel_rfl) fun all G hend hstep hqf => ?_
      have hg_3f : ∀ (g42 : Nat), G [true, true, true, true, true, true] [(4, .int .i64 (Int.tmod (wr64 ((Int.tmod t4 65537) + 65537)) 65537)), (6, .pointer (some ⟨b1, 0, none⟩)), (7, .pointer (some ⟨b2, 0, none⟩)), (8, .pointer (some ⟨b3, 0, none⟩)), (9, .pointer (some ⟨b4, 0, none⟩)), (13, .bool true), (14, .pointer (some ⟨b24, 0, none⟩)), (15, .slice (some ⟨g42, 0, none⟩) 3 3)] ([⟨g42, [.int .u8 a2_R, .int .u8 a2_G, .int .u8 a2_B, .int .u8 a2_A, .int .u8 b3_R, .int .u8 b3_G, .int .u8 b3_B, .int .u8 b3_A, .int .u8 t36, .int .u8 t37, .int .u8 t38, .int .u8 t39], 12⟩, ⟨b24, [.slice a_l5 l5.length c_l5, .int .i64 t40], 2⟩, ⟨b4, [.int .u8 b3_R, .int .u8 b3_G, .int .u8 b3_B, .int .u8 b3_A], 4⟩, ⟨b3, [.int .u8 a2_R, .int .u8 a2_G, .int .u8 a2_B, .int .u8 a2_A], 4⟩, ⟨b2, [.int .i64 t33, .int .i64 t34], 2⟩, ⟨b1, [.int .i64 (Int.tmod (wr64 ((Int.tmod p0_Kind 3) + 3)) 3), .int .i64 (Int.tmod p0_A 4), .int .i64 (Int.tmod p0_B 4), .int .i64 t27, .int .i64 t28, .int .i64 t30, .int .i64 t31], 7⟩] : List Own) := by
        intro g42
        refine hend _ _ _ (by kernel_rfl) ?_
        show W _ _ _ _ _ _ _
        refine w_seq ?_
        refine w_reg fun all => ?_
        refine t_v (.ldn rfl rfl rfl (.at 5 rfl rfl)) ?_
        refine t_a (.new rfl rfl) fun b43 fb43 sb43 => ?_
        refine t_sti 0 (cs := [.int .i64 (Int.tmod (wr64 ((Int.tmod p0_Kind 3) + 3)) 3), .int .i64 (Int.tmod p0_A 4), .int .i64 (Int.tmod p0_B 4), .int .i64 t27, .int .i64 t28, .int .i64 t30, .int .i64 t31]) rfl rfl rfl rfl rfl rfl rfl rfl rfl ?_
        refine t_keep [4, 6, 7, 8, 9, 13, 14, 15, 16] (σ' := [(4, .int .i64 (Int.tmod (wr64 ((Int.tmod t4 65537) + 65537)) 65537)), (6, .pointer (some ⟨b1, 0, none⟩)), (7, .pointer (some ⟨b2, 0, none⟩)), (8, .pointer (some ⟨b3, 0, none⟩)), (9, .pointer (some ⟨b4, 0, none⟩)), (13, .bool true), (14, .pointer (some ⟨b24, 0, none⟩)), (15, .slice (some ⟨g42, 0, none⟩) 3 3), (16, .pointer (some ⟨b43, 0, none⟩))]) (by kernel_rfl) ?_
        refine t_end ?_
        show W _ _ _ _ _ _ _
        refine w_seq ?_
        refine w_reg fun all => ?_
        obtain ⟨⟨t58, t59, t60⟩, h61, e⟩ := bind_of e
        try dsimp only at e
        refine t_qz 1 [4, 6, 7, 8, 9, 13, 14, 15, 16, 62] (σ' := [(4, .int .i64 (Int.tmod (wr64 ((Int.tmod t4 65537) + 65537)) 65537)), (6, .pointer (some ⟨b1, 0, none⟩)), (7, .pointer (some ⟨b2, 0, none⟩)), (8, .pointer (some ⟨b3, 0, none⟩)), (9, .pointer (some ⟨b4, 0, none⟩)), (13, .bool true), (14, .pointer (some ⟨b24, 0, none⟩)), (15, .slice (some ⟨g42, 0, none⟩) 3 3), (16, .pointer (some ⟨b43, 0, none⟩)), (62, .pointer (some ⟨b24, 0, none⟩))]) (by kernel_rfl) ?_
        refine t_call (vs := [.pointer (some ⟨b24, 0, none⟩), .int .i64 600]) (H1 := ([⟨b24, [.slice a_l5 l5.length c_l5, .int .i64 t40], 2⟩] : List Own)) (F := ([⟨b43, [.int .i64 (Int.tmod (wr64 ((Int.tmod p0_Kind 3) + 3)) 3), .int .i64 (Int.tmod p0_A 4), .int .i64 (Int.tmod p0_B 4), .int .i64 t27, .int .i64 t28, .int .i64 t30, .int .i64 t31], 7⟩, ⟨g42, [.int .u8 a2_R, .int .u8 a2_G, .int .u8 a2_B, .int .u8 a2_A, .int .u8 b3_R, .int .u8 b3_G, .int .u8 b3_B, .int .u8 b3_A, .int .u8 t36, .int .u8 t37, .int .u8 t38, .int .u8 t39], 12⟩, ⟨b4, [.int .u8 b3_R, .int .u8 b3_G, .int .u8 b3_B, .int .u8 b3_A], 4⟩, ⟨b3, [.int .u8 a2_R, .int .u8 a2_G, .int .u8 a2_B, .int .u8 a2_A], 4⟩, ⟨b2, [.int .i64 t33, .int .i64 t34], 2⟩, ⟨b1, [.int .i64 (Int.tmod (wr64 ((Int.tmod p0_Kind 3) + 3)) 3), .int .i64 (Int.tmod p0_A 4), .int .i64 (Int.tmod p0_B 4), .int .i64 t27, .int .i64 t28, .int .i64 t30, .int .i64 t31], 7⟩] : List Own)) rfl rfl (by kernel_rfl) (sel_perm (is := [2]) (by kernel_rfl)) (glyphicmake_Point_v1.ok h_l5 h61) ?_
        rintro _ _ S_ ⟨rfl, rfl, hS_⟩
        obtain rfl := hS_.symm
        refine t_qz 1 [4, 6, 7, 8, 9, 13, 14, 15, 16, 63, 64] (σ' := [(4, .int .i64 (Int.tmod (wr64 ((Int.tmod t4 65537) + 65537)) 65537)), (6, .pointer (some ⟨b1, 0, none⟩)), (7, .pointer (some ⟨b2, 0, none⟩)), (8, .pointer (some ⟨b3, 0, none⟩)), (9, .pointer (some ⟨b4, 0, none⟩)), (13, .bool true), (14, .pointer (some ⟨b24, 0, none⟩)), (15, .slice (some ⟨g42, 0, none⟩) 3 3), (16, .pointer (some ⟨b43, 0, none⟩)), (63, .agg #[.int .i64 t58, .int .i64 t59]), (64, .pointer (some ⟨b43, 3, none⟩))]) (by kernel_rfl) ?_
        refine t_sti 1 (cs := [.int .i64 (Int.tmod (wr64 ((Int.tmod p0_Kind 3) + 3)) 3), .int .i64 (Int.tmod p0_A 4), .int .i64 (Int.tmod p0_B 4), .int .i64 t58, .int .i64 t59, .int .i64 t30, .int .i64 t31]) rfl rfl rfl rfl rfl rfl rfl rfl rfl ?_
        refine t_keep [4, 6, 7, 8, 9, 13, 14, 15, 16] (σ' := [(4, .int .i64 (Int.tmod (wr64 ((Int.tmod t4 65537) + 65537)) 65537)), (6, .pointer (some ⟨b1, 0, none⟩)), (7, .pointer (some ⟨b2, 0, none⟩)), (8, .pointer (some ⟨b3, 0, none⟩)), (9, .pointer (some ⟨b4, 0, none⟩)), (13, .bool true), (14, .pointer (some ⟨b24, 0, none⟩)), (15, .slice (some ⟨g42, 0, none⟩) 3 3), (16, .pointer (some ⟨b43, 0, none⟩))]) (by kernel_rfl) ?_
        refine t_end ?_
        show W _ _ _ _ _ _ _
        refine w_seq ?_
        refine w_reg fun all => ?_
        obtain ⟨⟨t62, t63, t64⟩, h65, e⟩ := bind_of e
        try dsimp only at e
        refine t_qz 1 [4, 6, 7, 8, 9, 13, 14, 15, 16, 65] (σ' := [(4, .int .i64 (Int.tmod (wr64 ((Int.tmod t4 65537) + 65537)) 65537)), (6, .pointer (some ⟨b1, 0, none⟩)), (7, .pointer (some ⟨b2, 0, none⟩)), (8, .pointer (some ⟨b3, 0, none⟩)), (9, .pointer (some ⟨b4, 0, none⟩)), (13, .bool true), (14, .pointer (some ⟨b24, 0, none⟩)), (15, .slice (some ⟨g42, 0, none⟩) 3 3), (16, .pointer (some ⟨b43, 0, none⟩)), (65, .pointer (some ⟨b24, 0, none⟩))]) (by kernel_rfl) ?_
        refine t_call (vs := [.pointer (some ⟨b24, 0, none⟩), .int .i64 600]) (H1 := ([⟨b24, [.slice a_l5 l5.length c_l5, .int .i64 t60], 2⟩] : List Own)) (F := ([⟨b43, [.int .i64 (Int.tmod (wr64 ((Int.tmod p0_Kind 3) + 3)) 3), .int .i64 (Int.tmod p0_A 4), .int .i64 (Int.tmod p0_B 4), .int .i64 t58, .int .i64 t59, .int .i64 t30, .int .i64 t31], 7⟩, ⟨g42, [.int .u8 a2_R, .int .u8 a2_G, .int .u8 a2_B, .int .u8 a2_A, .int .u8 b3_R, .int .u8 b3_G, .int .u8 b3_B, .int .u8 b3_A, .int .u8 t36, .int .u8 t37, .int .u8 t38, .int .u8 t39], 12⟩, ⟨b4, [.int .u8 b3_R, .int .u8 b3_G, .int .u8 b3_B, .int .u8 b3_A], 4⟩, ⟨b3, [.int .u8 a2_R, .int .u8 a2_G, .int .u8 a2_B, .int .u8 a2_A], 4⟩, ⟨b2, [.int .i64 t33, .int .i64 t34], 2⟩, ⟨b1, [.int .i64 (Int.tmod (wr64 ((Int.tmod p0_Kind 3) + 3)) 3), .int .i64 (Int.tmod p0_A 4), .int .i64 (Int.tmod p0_B 4), .int .i64 t27, .int .i64 t28, .int .i64 t30, .int .i64 t31], 7⟩] : List Own)) rfl rfl (by kernel_rfl) (sel_perm (is := [0]) (by kernel_rfl)) (glyphicmake_Point_v1.ok h_l5 h65) ?_
        rintro _ _ S_ ⟨rfl, rfl, hS_⟩
        obtain rfl := hS_.symm
        refine t_qz 1 [4, 6, 7, 8, 9, 13, 14, 15, 16, 66, 67] (σ' := [(4, .int .i64 (Int.tmod (wr64 ((Int.tmod t4 65537) + 65537)) 65537)), (6, .pointer (some ⟨b1, 0, none⟩)), (7, .pointer (some ⟨b2, 0, none⟩)), (8, .pointer (some ⟨b3, 0, none⟩)), (9, .pointer (some ⟨b4, 0, none⟩)), (13, .bool true), (14, .pointer (some ⟨b24, 0, none⟩)), (15, .slice (some ⟨g42, 0, none⟩) 3 3), (16, .pointer (some ⟨b43, 0, none⟩)), (66, .agg #[.int .i64 t62, .int .i64 t63]), (67, .pointer (some ⟨b43, 5, none⟩))]) (by kernel_rfl) ?_
        refine t_sti 1 (cs := [.int .i64 (Int.tmod (wr64 ((Int.tmod p0_Kind 3) + 3)) 3), .int .i64 (Int.tmod p0_A 4), .int .i64 (Int.tmod p0_B 4), .int .i64 t58, .int .i64 t59, .int .i64 t62, .int .i64 t63]) rfl rfl rfl rfl rfl rfl rfl rfl rfl ?_
        refine t_keep [4, 6, 7, 8, 9, 13, 14, 15, 16] (σ' := [(4, .int .i64 (Int.tmod (wr64 ((Int.tmod t4 65537) + 65537)) 65537)), (6, .pointer (some ⟨b1, 0, none⟩)), (7, .pointer (some ⟨b2, 0, none⟩)), (8, .pointer (some ⟨b3, 0, none⟩)), (9, .pointer (some ⟨b4, 0, none⟩)), (13, .bool true), (14, .pointer (some ⟨b24, 0, none⟩)), (15, .slice (some ⟨g42, 0, none⟩) 3 3), (16, .pointer (some ⟨b43, 0, none⟩))]) (by kernel_rfl) ?_
        refine t_end ?_
        show W _ _ _ _ _ _ _
        refine w_seq ?_
        refine w_reg fun all => ?_
        obtain ⟨⟨t66, t67, t68⟩, h69, e⟩ := bind_of e
        try dsimp only at e
        refine t_qz 1 [4, 6, 7, 8, 9, 13, 15, 16, 68] (σ' := [(4, .int .i64 (Int.tmod (wr64 ((Int.tmod t4 65537) + 65537)) 65537)), (6, .pointer (some ⟨b1, 0, none⟩)), (7, .pointer (some ⟨b2, 0, none⟩)), (8, .pointer (some ⟨b3, 0, none⟩)), (9, .pointer (some ⟨b4, 0, none⟩)), (13, .bool true), (15, .slice (some ⟨g42, 0, none⟩) 3 3), (16, .pointer (some ⟨b43, 0, none⟩)), (68, .pointer (some ⟨b24, 0, none⟩))]) (by kernel_rfl) ?_
        refine t_call (vs := [.pointer (some ⟨b24, 0, none⟩), .int .i64 700]) (H1 := ([⟨b24, [.slice a_l5 l5.length c_l5, .int .i64 t64], 2⟩] : List Own)) (F := ([⟨b43, [.int .i64 (Int.tmod (wr64 ((Int.tmod p0_Kind 3) + 3)) 3), .int .i64 (Int.tmod p0_A 4), .int .i64 (Int.tmod p0_B 4), .int .i64 t58, .int .i64 t59, .int .i64 t62, .int .i64 t63], 7⟩, ⟨g42, [.int .u8 a2_R, .int .u8 a2_G, .int .u8 a2_B, .int .u8 a2_A, .int .u8 b3_R, .int .u8 b3_G, .int .u8 b3_B, .int .u8 b3_A, .int .u8 t36, .int .u8 t37, .int .u8 t38, .int .u8 t39], 12⟩, ⟨b4, [.int .u8 b3_R, .int .u8 b3_G, .int .u8 b3_B, .int .u8 b3_A], 4⟩, ⟨b3, [.int .u8 a2_R, .int .u8 a2_G, .int .u8 a2_B, .int .u8 a2_A], 4⟩, ⟨b2, [.int .i64 t33, .int .i64 t34], 2⟩, ⟨b1, [.int .i64 (Int.tmod (wr64 ((Int.tmod p0_Kind 3) + 3)) 3), .int .i64 (Int.tmod p0_A 4), .int .i64 (Int.tmod p0_B 4), .int .i64 t27, .int .i64 t28, .int .i64 t30, .int .i64 t31], 7⟩] : List Own)) rfl rfl (by kernel_rfl) (sel_perm (is := [0]) (by kernel_rfl)) (glyphicmake_Point_v1.ok h_l5 h69) ?_
        rintro _ _ S_ ⟨rfl, rfl, hS_⟩
        obtain rfl := hS_.symm
        refine t_a (.new rfl rfl) fun b70 fb70 sb70 => ?_
        refine t_sti 0 (cs := [.int .i64 t66, .int .i64 t67]) rfl rfl rfl rfl rfl rfl rfl rfl rfl ?_
        refine t_keep [4, 6, 7, 8, 9, 13, 15, 16, 17] (σ' := [(4, .int .i64 (Int.tmod (wr64 ((Int.tmod t4 65537) + 65537)) 65537)), (6, .pointer (some ⟨b1, 0, none⟩)), (7, .pointer (some ⟨b2, 0, none⟩)), (8, .pointer (some ⟨b3, 0, none⟩)), (9, .pointer (some ⟨b4, 0, none⟩)), (13, .bool true), (15, .slice (some ⟨g42, 0, none⟩) 3 3), (16, .pointer (some ⟨b43, 0, none⟩)), (17, .pointer (some ⟨b70, 0, none⟩))]) (by kernel_rfl) ?_
        refine t_end ?_
        show W _ _ _ _ _ _ _
        refine w_seq ?_
        obtain ⟨t71, h72, e⟩ := bind_of e
        obtain ⟨t73, h74, e⟩ := bind_of e
        by_cases c75 : t71 = t73
        · rw [if_pos c75] at e
          have c75b : (t71 == t73) = true := beq_iff_eq.mpr c75
          obtain ⟨t76, h77, e⟩ := bind_of e
          obtain ⟨t78, h79, e⟩ := bind_of e
          by_cases c80 : t76 = t78
          · rw [if_pos c80] at e
            have c80b : (t76 == t78) = true := beq_iff_eq.mpr c80
            obtain ⟨⟨t81, t82, t83, t84⟩, h85, e⟩ := bind_of e
            try dsimp only at e
            obtain ⟨⟨t86, t87, t88, t89⟩, h90, e⟩ := bind_of e
            try dsimp only at e
            by_cases c91 : ((t81 == t86) && ((t82 == t87) && ((t83 == t88) && (t84 == t89)))) = true
            · rw [if_pos c91] at e
              have c91b : ((t81 == t86) && ((t82 == t87) && ((t83 == t88) && (t84 == t89)))) = true := c91
              obtain ⟨⟨t92, t93, t94, t95⟩, h96, e⟩ := bind_of e
              try dsimp only at e
              obtain ⟨⟨t97, t98, t99, t100⟩, h101, e⟩ := bind_of e
              try dsimp only at e
              by_cases c102 : ((t92 == t97) && ((t93 == t98) && ((t94 == t99) && (t95 == t100)))) = true
              · rw [if_pos c102] at e
                have c102b : ((t92 == t97) && ((t93 == t98) && ((t94 == t99) && (t95 == t100)))) = true := c102
                obtain ⟨⟨t103, t104, t105, t106⟩, h107, e⟩ := bind_of e
                try dsimp only at e
                obtain ⟨⟨t108, t109, t110, t111⟩, h112, e⟩ := bind_of e
                try dsimp only at e
                refine w_drwE mixed 53 [.v (.bool true), .v (.bool true), .v (.agg #[.int .i64 (Int.tmod (wr64 ((Int.tmod p0_Kind 3) + 3)) 3), .int .i64 (Int.tmod p0_A 4), .int .i64 (Int.tmod p0_B 4), .int .i64 t27, .int .i64 t28, .int .i64 t30, .int .i64 t31]), .v (.agg #[.int .i64 t33, .int .i64 t34]), .v (.int .i64 t71), .v (.agg #[.int .i64 (Int.tmod (wr64 ((Int.tmod p0_Kind 3) + 3)) 3), .int .i64 (Int.tmod p0_A 4), .int .i64 (Int.tmod p0_B 4), .int .i64 t27, .int .i64 t28, .int .i64 t30, .int .i64 t31]), .v (.agg #[.int .i64 t33, .int .i64 t34]), .v (.int .i64 t73), .v (.bool true), .v (.bool true), .v (.bool true), .v (.agg #[.int .i64 (Int.tmod (wr64 ((Int.tmod p0_Kind 3) + 3)) 3), .int .i64 (Int.tmod p0_A 4), .int .i64 (Int.tmod p0_B 4), .int .i64 t58, .int .i64 t59, .int .i64 t62, .int .i64 t63]), .v (.agg #[.int .i64 t66, .int .i64 t67]), .v (.int .i64 t76), .v (.agg #[.int .i64 (Int.tmod (wr64 ((Int.tmod p0_Kind 3) + 3)) 3), .int .i64 (Int.tmod p0_A 4), .int .i64 (Int.tmod p0_B 4), .int .i64 t58, .int .i64 t59, .int .i64 t62, .int .i64 t63]), .v (.agg #[.int .i64 t66, .int .i64 t67]), .v (.int .i64 t78), .v (.bool true), .v (.bool true), .v (.bool true), .v (.agg #[.int .u8 a2_R, .int .u8 a2_G, .int .u8 a2_B, .int .u8 a2_A]), .v (.agg #[.int .u8 b3_R, .int .u8 b3_G, .int .u8 b3_B, .int .u8 b3_A]), .v (.int .i64 (Int.tmod (wr64 ((Int.tmod t4 65537) + 65537)) 65537)), .v (.agg #[.int .i64 t81, .int .i64 t82, .int .i64 t83, .int .i64 t84]), .v (.agg #[.int .u8 a2_R, .int .u8 a2_G, .int .u8 a2_B, .int .u8 a2_A]), .v (.agg #[.int .u8 b3_R, .int .u8 b3_G, .int .u8 b3_B, .int .u8 b3_A]), .v (.int .i64 (Int.tmod (wr64 ((Int.tmod t4 65537) + 65537)) 65537)), .v (.agg #[.int .i64 t86, .int .i64 t87, .int .i64 t88, .int .i64 t89]), .v (.bool true), .v (.bool true), .v (.bool true), .v (.agg #[.int .i64 (Int.tmod (wr64 ((Int.tmod p0_Kind 3) + 3)) 3), .int .i64 (Int.tmod p0_A 4), .int .i64 (Int.tmod p0_B 4), .int .i64 t27, .int .i64 t28, .int .i64 t30, .int .i64 t31]), .v (.slice (some ⟨g42, 0, none⟩) 3 3), .v (.agg #[.int .i64 t33, .int .i64 t34]), .v (.agg #[.int .i64 t92, .int .i64 t93, .int .i64 t94, .int .i64 t95]), .v (.agg #[.int .i64 (Int.tmod (wr64 ((Int.tmod p0_Kind 3) + 3)) 3), .int .i64 (Int.tmod p0_A 4), .int .i64 (Int.tmod p0_B 4), .int .i64 t27, .int .i64 t28, .int .i64 t30, .int .i64 t31]), .v (.slice (some ⟨g42, 0, none⟩) 3 3), .v (.agg #[.int .i64 t33, .int .i64 t34]), .v (.agg #[.int .i64 t97, .int .i64 t98, .int .i64 t99, .int .i64 t100]), .v (.bool true), .v (.bool true), .v (.bool true), .v (.agg #[.int .i64 (Int.tmod (wr64 ((Int.tmod p0_Kind 3) + 3)) 3), .int .i64 (Int.tmod p0_A 4), .int .i64 (Int.tmod p0_B 4), .int .i64 t58, .int .i64 t59, .int .i64 t62, .int .i64 t63]), .v (.slice (some ⟨g42, 0, none⟩) 3 3), .v (.agg #[.int .i64 t66, .int .i64 t67]), .v (.agg #[.int .i64 t103, .int .i64 t104, .int .i64 t105, .int .i64 t106]), .v (.agg #[.int .i64 (Int.tmod (wr64 ((Int.tmod p0_Kind 3) + 3)) 3), .int .i64 (Int.tmod p0_A 4), .int .i64 (Int.tmod p0_B 4), .int .i64 t58, .int .i64 t59, .int .i64 t62, .int .i64 t63]), .v (.slice (some ⟨g42, 0, none⟩) 3 3), .v (.agg #[.int .i64 t66, .int .i64 t67]), .v (.agg #[.int .i64 t108, .int .i64 t109, .int .i64 t110, .int .i64 t111]), .v (.bool ((t103 == t108) && ((t104 == t109) && ((t105 == t110) && (t106 == t111))))), .v (.bool ((t103 == t108) && ((t104 == t109) && ((t105 == t110) && (t106 == t111))))), .v (.bool ((t103 == t108) && ((t104 == t109) && ((t105 == t110) && (t106 == t111)))))] (by kernel_rfl) ?_ ?_
                · refine DI.sq 2 (by kernel_rfl) rfl ?_
                  refine .cons (.ldn rfl rfl rfl (.at 7 rfl rfl)) ?_
                  refine .cons (.ldn rfl rfl rfl (.at 6 rfl rfl)) ?_
                  refine .cons (.call (vs := [.agg #[.int .i64 (Int.tmod (wr64 ((Int.tmod p0_Kind 3) + 3)) 3), .int .i64 (Int.tmod p0_A 4), .int .i64 (Int.tmod p0_B 4), .int .i64 t27, .int .i64 t28, .int .i64 t30, .int .i64 t31], .agg #[.int .i64 t33, .int .i64 t34]]) rfl rfl (by kernel_rfl) (paint_Part.ok h72)) ?_
                  refine .cons (.ldn rfl rfl rfl (.at 7 rfl rfl)) ?_
                  refine .cons (.ldn rfl rfl rfl (.at 6 rfl rfl)) ?_
                  refine .cons (.call (vs := [.agg #[.int .i64 (Int.tmod (wr64 ((Int.tmod p0_Kind 3) + 3)) 3), .int .i64 (Int.tmod p0_A 4), .int .i64 (Int.tmod p0_B 4), .int .i64 t27, .int .i64 t28, .int .i64 t30, .int .i64 t31], .agg #[.int .i64 t33, .int .i64 t34]]) rfl rfl (by kernel_rfl) (glyphicref20_Part.ok h74)) ?_
                  refine .cons (dv_quiet rfl (congrArg (fun t => some (Value.bool t)) c75b)) ?_
                  refine DI.sq 2 (by kernel_rfl) rfl ?_
                  refine .cons (.ldn rfl rfl rfl (.at 2 rfl rfl)) ?_
                  refine .cons (.ldn rfl rfl rfl (.at 0 rfl rfl)) ?_
                  refine .cons (.call (vs := [.agg #[.int .i64 (Int.tmod (wr64 ((Int.tmod p0_Kind 3) + 3)) 3), .int .i64 (Int.tmod p0_A 4), .int .i64 (Int.tmod p0_B 4), .int .i64 t58, .int .i64 t59, .int .i64 t62, .int .i64 t63], .agg #[.int .i64 t66, .int .i64 t67]]) rfl rfl (by kernel_rfl) (paint_Part.ok h77)) ?_
                  refine .cons (.ldn rfl rfl rfl (.at 2 rfl rfl)) ?_
                  refine .cons (.ldn rfl rfl rfl (.at 0 rfl rfl)) ?_
                  refine .cons (.call (vs := [.agg #[.int .i64 (Int.tmod (wr64 ((Int.tmod p0_Kind 3) + 3)) 3), .int .i64 (Int.tmod p0_A 4), .int .i64 (Int.tmod p0_B 4), .int .i64 t58, .int .i64 t59, .int .i64 t62, .int .i64 t63], .agg #[.int .i64 t66, .int .i64 t67]]) rfl rfl (by kernel_rfl) (glyphicref20_Part.ok h79)) ?_
                  refine .cons (dv_quiet rfl (congrArg (fun t => some (Value.bool t)) c80b)) ?_
                  refine DI.sq 2 (by kernel_rfl) rfl ?_
                  refine .cons (.ldn rfl rfl rfl (.at 5 rfl rfl)) ?_
                  refine .cons (.ldn rfl rfl rfl (.at 4 rfl rfl)) ?_
                  refine DI.sq 1 (by kernel_rfl) rfl ?_
                  refine .cons (.call (vs := [.agg #[.int .u8 a2_R, .int .u8 a2_G, .int .u8 a2_B, .int .u8 a2_A], .agg #[.int .u8 b3_R, .int .u8 b3_G, .int .u8 b3_B, .int .u8 b3_A], .int .i64 (Int.tmod (wr64 ((Int.tmod t4 65537) + 65537)) 65537)]) rfl rfl (by kernel_rfl) (paint_Mix.ok h85)) ?_
                  refine .cons (.ldn rfl rfl rfl (.at 5 rfl rfl)) ?_
                  refine .cons (.ldn rfl rfl rfl (.at 4 rfl rfl)) ?_
                  refine DI.sq 1 (by kernel_rfl) rfl ?_
                  refine .cons (.call (vs := [.agg #[.int .u8 a2_R, .int .u8 a2_G, .int .u8 a2_B, .int .u8 a2_A], .agg #[.int .u8 b3_R, .int .u8 b3_G, .int .u8 b3_B, .int .u8 b3_A], .int .i64 (Int.tmod (wr64 ((Int.tmod t4 65537) + 65537)) 65537)]) rfl rfl (by kernel_rfl) (glyphicref20_Mix.ok h90)) ?_
                  refine .cons (.eqt (a := .agg #[.int .i64 t81, .int .i64 t82, .int .i64 t83, .int .i64 t84]) (b := .agg #[.int .i64 t86, .int .i64 t87, .int .i64 t88, .int .i64 t89]) (r := (t81 == t86) && ((t82 == t87) && ((t83 == t88) && (t84 == t89)))) rfl rfl rfl rfl (by kernel_rfl) (bnk c91b rfl)) ?_
                  refine DI.sq 2 (by kernel_rfl) rfl ?_
                  refine .cons (.ldn rfl rfl rfl (.at 7 rfl rfl)) ?_
                  refine DI.sq 1 (by kernel_rfl) rfl ?_
                  refine .cons (.ldn rfl rfl rfl (.at 6 rfl rfl)) ?_
                  refine .cons (.callr (vs := [.agg #[.int .i64 (Int.tmod (wr64 ((Int.tmod p0_Kind 3) + 3)) 3), .int .i64 (Int.tmod p0_A 4), .int .i64 (Int.tmod p0_B 4), .int .i64 t27, .int .i64 t28, .int .i64 t30, .int .i64 t31], .slice (some ⟨g42, 0, none⟩) 3 3, .agg #[.int .i64 t33, .int .i64 t34]]) (A := ([⟨g42, [.int .u8 a2_R, .int .u8 a2_G, .int .u8 a2_B, .int .u8 a2_A, .int .u8 b3_R, .int .u8 b3_G, .int .u8 b3_B, .int .u8 b3_A, .int .u8 t36, .int .u8 t37, .int .u8 t38, .int .u8 t39], 12⟩] : List Own)) (F0 := ([⟨b70, [.int .i64 t66, .int .i64 t67], 2⟩, ⟨b24, [.slice a_l5 l5.length c_l5, .int .i64 t68], 2⟩, ⟨b43, [.int .i64 (Int.tmod (wr64 ((Int.tmod p0_Kind 3) + 3)) 3), .int .i64 (Int.tmod p0_A 4), .int .i64 (Int.tmod p0_B 4), .int .i64 t58, .int .i64 t59, .int .i64 t62, .int .i64 t63], 7⟩, ⟨b4, [.int .u8 b3_R, .int .u8 b3_G, .int .u8 b3_B, .int .u8 b3_A], 4⟩, ⟨b3, [.int .u8 a2_R, .int .u8 a2_G, .int .u8 a2_B, .int .u8 a2_A], 4⟩, ⟨b2, [.int .i64 t33, .int .i64 t34], 2⟩, ⟨b1, [.int .i64 (Int.tmod (wr64 ((Int.tmod p0_Kind 3) + 3)) 3), .int .i64 (Int.tmod p0_A 4), .int .i64 (Int.tmod p0_B 4), .int .i64 t27, .int .i64 t28, .int .i64 t30, .int .i64 t31], 7⟩] : List Own)) rfl rfl (by kernel_rfl) (sel_perm (is := [3]) (by kernel_rfl)) (paint_At_v1.ok h96)) ?_
                  refine .cons (.ldn rfl rfl rfl (.at 7 rfl rfl)) ?_
                  refine DI.sq 1 (by kernel_rfl) rfl ?_
                  refine .cons (.ldn rfl rfl rfl (.at 6 rfl rfl)) ?_
                  refine .cons (.callr (vs := [.agg #[.int .i64 (Int.tmod (wr64 ((Int.tmod p0_Kind 3) + 3)) 3), .int .i64 (Int.tmod p0_A 4), .int .i64 (Int.tmod p0_B 4), .int .i64 t27, .int .i64 t28, .int .i64 t30, .int .i64 t31], .slice (some ⟨g42, 0, none⟩) 3 3, .agg #[.int .i64 t33, .int .i64 t34]]) (A := ([⟨g42, [.int .u8 a2_R, .int .u8 a2_G, .int .u8 a2_B, .int .u8 a2_A, .int .u8 b3_R, .int .u8 b3_G, .int .u8 b3_B, .int .u8 b3_A, .int .u8 t36, .int .u8 t37, .int .u8 t38, .int .u8 t39], 12⟩] : List Own)) (F0 := ([⟨b70, [.int .i64 t66, .int .i64 t67], 2⟩, ⟨b24, [.slice a_l5 l5.length c_l5, .int .i64 t68], 2⟩, ⟨b43, [.int .i64 (Int.tmod (wr64 ((Int.tmod p0_Kind 3) + 3)) 3), .int .i64 (Int.tmod p0_A 4), .int .i64 (Int.tmod p0_B 4), .int .i64 t58, .int .i64 t59, .int .i64 t62, .int .i64 t63], 7⟩, ⟨b4, [.int .u8 b3_R, .int .u8 b3_G, .int .u8 b3_B, .int .u8 b3_A], 4⟩, ⟨b3, [.int .u8 a2_R, .int .u8 a2_G, .int .u8 a2_B, .int .u8 a2_A], 4⟩, ⟨b2, [.int .i64 t33, .int .i64 t34], 2⟩, ⟨b1, [.int .i64 (Int.tmod (wr64 ((Int.tmod p0_Kind 3) + 3)) 3), .int .i64 (Int.tmod p0_A 4), .int .i64 (Int.tmod p0_B 4), .int .i64 t27, .int .i64 t28, .int .i64 t30, .int .i64 t31], 7⟩] : List Own)) rfl rfl (by kernel_rfl) (sel_perm (is := [3]) (by kernel_rfl)) (glyphicref20_PaintAt_v1.ok h101)) ?_
                  refine .cons (.eqt (a := .agg #[.int .i64 t92, .int .i64 t93, .int .i64 t94, .int .i64 t95]) (b := .agg #[.int .i64 t97, .int .i64 t98, .int .i64 t99, .int .i64 t100]) (r := (t92 == t97) && ((t93 == t98) && ((t94 == t99) && (t95 == t100)))) rfl rfl rfl rfl (by kernel_rfl) (bnk c102b rfl)) ?_
                  refine DI.sq 2 (by kernel_rfl) rfl ?_
                  refine .cons (.ldn rfl rfl rfl (.at 2 rfl rfl)) ?_
                  refine DI.sq 1 (by kernel_rfl) rfl ?_
                  refine .cons (.ldn rfl rfl rfl (.at 0 rfl rfl)) ?_
                  refine .cons (.callr (vs := [.agg #[.int .i64 (Int.tmod (wr64 ((Int.tmod p0_Kind 3) + 3)) 3), .int .i64 (Int.tmod p0_A 4), .int .i64 (Int.tmod p0_B 4), .int .i64 t58, .int .i64 t59, .int .i64 t62, .int .i64 t63], .slice (some ⟨g42, 0, none⟩) 3 3, .agg #[.int .i64 t66, .int .i64 t67]]) (A := ([⟨g42, [.int .u8 a2_R, .int .u8 a2_G, .int .u8 a2_B, .int .u8 a2_A, .int .u8 b3_R, .int .u8 b3_G, .int .u8 b3_B, .int .u8 b3_A, .int .u8 t36, .int .u8 t37, .int .u8 t38, .int .u8 t39], 12⟩] : List Own)) (F0 := ([⟨b70, [.int .i64 t66, .int .i64 t67], 2⟩, ⟨b24, [.slice a_l5 l5.length c_l5, .int .i64 t68], 2⟩, ⟨b43, [.int .i64 (Int.tmod (wr64 ((Int.tmod p0_Kind 3) + 3)) 3), .int .i64 (Int.tmod p0_A 4), .int .i64 (Int.tmod p0_B 4), .int .i64 t58, .int .i64 t59, .int .i64 t62, .int .i64 t63], 7⟩, ⟨b4, [.int .u8 b3_R, .int .u8 b3_G, .int .u8 b3_B, .int .u8 b3_A], 4⟩, ⟨b3, [.int .u8 a2_R, .int .u8 a2_G, .int .u8 a2_B, .int .u8 a2_A], 4⟩, ⟨b2, [.int .i64 t33, .int .i64 t34], 2⟩, ⟨b1, [.int .i64 (Int.tmod (wr64 ((Int.tmod p0_Kind 3) + 3)) 3), .int .i64 (Int.tmod p0_A 4), .int .i64 (Int.tmod p0_B 4), .int .i64 t27, .int .i64 t28, .int .i64 t30, .int .i64 t31], 7⟩] : List Own)) rfl rfl (by kernel_rfl) (sel_perm (is := [3]) (by kernel_rfl)) (paint_At_v1.ok h107)) ?_
                  refine .cons (.ldn rfl rfl rfl (.at 2 rfl rfl)) ?_
                  refine DI.sq 1 (by kernel_rfl) rfl ?_
                  refine .cons (.ldn rfl rfl rfl (.at 0 rfl rfl)) ?_
                  refine .cons (.callr (vs := [.agg #[.int .i64 (Int.tmod (wr64 ((Int.tmod p0_Kind 3) + 3)) 3), .int .i64 (Int.tmod p0_A 4), .int .i64 (Int.tmod p0_B 4), .int .i64 t58, .int .i64 t59, .int .i64 t62, .int .i64 t63], .slice (some ⟨g42, 0, none⟩) 3 3, .agg #[.int .i64 t66, .int .i64 t67]]) (A := ([⟨g42, [.int .u8 a2_R, .int .u8 a2_G, .int .u8 a2_B, .int .u8 a2_A, .int .u8 b3_R, .int .u8 b3_G, .int .u8 b3_B, .int .u8 b3_A, .int .u8 t36, .int .u8 t37, .int .u8 t38, .int .u8 t39], 12⟩] : List Own)) (F0 := ([⟨b70, [.int .i64 t66, .int .i64 t67], 2⟩, ⟨b24, [.slice a_l5 l5.length c_l5, .int .i64 t68], 2⟩, ⟨b43, [.int .i64 (Int.tmod (wr64 ((Int.tmod p0_Kind 3) + 3)) 3), .int .i64 (Int.tmod p0_A 4), .int .i64 (Int.tmod p0_B 4), .int .i64 t58, .int .i64 t59, .int .i64 t62, .int .i64 t63], 7⟩, ⟨b4, [.int .u8 b3_R, .int .u8 b3_G, .int .u8 b3_B, .int .u8 b3_A], 4⟩, ⟨b3, [.int .u8 a2_R, .int .u8 a2_G, .int .u8 a2_B, .int .u8 a2_A], 4⟩, ⟨b2, [.int .i64 t33, .int .i64 t34], 2⟩, ⟨b1, [.int .i64 (Int.tmod (wr64 ((Int.tmod p0_Kind 3) + 3)) 3), .int .i64 (Int.tmod p0_A 4), .int .i64 (Int.tmod p0_B 4), .int .i64 t27, .int .i64 t28, .int .i64 t30, .int .i64 t31], 7⟩] : List Own)) rfl rfl (by kernel_rfl) (sel_perm (is := [3]) (by kernel_rfl)) (glyphicref20_PaintAt_v1.ok h112)) ?_
                  refine .cons (.eqt (a := .agg #[.int .i64 t103, .int .i64 t104, .int .i64 t105, .int .i64 t106]) (b := .agg #[.int .i64 t108, .int .i64 t109, .int .i64 t110, .int .i64 t111]) (r := (t103 == t108) && ((t104 == t109) && ((t105 == t110) && (t106 == t111)))) rfl rfl rfl rfl (by kernel_rfl) (bnf _)) ?_
                  refine DI.sq 2 (by kernel_rfl) rfl ?_
                  exact .nil
                refine fk_q 53 [12] (σ' := [(12, .bool ((t103 == t108) && ((t104 == t109) && ((t105 == t110) && (t106 == t111)))))]) t_more (by kernel_rfl) ?_
                refine fk_nil fun all => ?_
                refine t_keep [12] (σ' := [(12, .bool ((t103 == t108) && ((t104 == t109) && ((t105 == t110) && (t106 == t111)))))]) (by kernel_rfl) ?_
                refine t_end ?_
                show W _ _ _ _ _ _ _
                refine w_ret ?_
                have hr_ := Option.some.inj e
                exact ⟨[.bool ((t103 == t108) && ((t104 == t109) && ((t105 == t110) && (t106 == t111))))], [], S, ⟨rfl, trivial⟩, VS.none, congrArg Value.bool hr_, rfl, rfl⟩
              · rw [if_neg c102] at e
                exact absurd (Option.some.inj e) (by decide)
            · rw [if_neg c91] at e
              exact absurd (Option.some.inj e) (by decide)
          · rw [if_neg c80] at e
            exact absurd (Option.some.inj e) (by decide)
        · rw [if_neg c75] at e
          exact absurd (Option.some.inj e) (by decide)
      have hg_1f : ∀ (g42 : Nat), G [true, true, true, true, true, false] [(4, .int .i64 (Int.tmod (wr64 ((Int.tmod t4 65537) + 65537)) 65537)), (6, .pointer (some ⟨b1, 0, none⟩)), (7, .pointer (some ⟨b2, 0, none⟩)), (8, .pointer (some ⟨b3, 0, none⟩)), (9, .pointer (some ⟨b4, 0, none⟩)), (13, .bool true), (14, .pointer (some ⟨b24, 0, none⟩)), (60, .slice (some ⟨g42, 0, none⟩) 3 3)] ([⟨g42, [.int .u8 a2_R, .int .u8 a2_G, .int .u8 a2_B, .int .u8 a2_A, .int .u8 b3_R, .int .u8 b3_G, .int .u8 b3_B, .int .u8 b3_A, .int .u8 t36, .int .u8 t37, .int .u8 t38, .int .u8 t39], 12⟩, ⟨b24, [.slice a_l5 l5.length c_l5, .int .i64 t40], 2⟩, ⟨b4, [.int .u8 b3_R, .int .u8 b3_G, .int .u8 b3_B, .int .u8 b3_A], 4⟩, ⟨b3, [.int .u8 a2_R, .int .u8 a2_G, .int .u8 a2_B, .int .u8 a2_A], 4⟩, ⟨b2, [.int .i64 t33, .int .i64 t34], 2⟩, ⟨b1, [.int .i64 (Int.tmod (wr64 ((Int.tmod p0_Kind 3) + 3)) 3), .int .i64 (Int.tmod p0_A 4), .int .i64 (Int.tmod p0_B 4), .int .i64 t27, .int .i64 t28, .int .i64 t30, .int .i64 t31], 7⟩] : List Own) := by
        intro g42
        exact hqf 5 [4, 6, 7, 8, 9, 13, 14, 15] _ _ _ [(4, .int .i64 (Int.tmod (wr64 ((Int.tmod t4 65537) + 65537)) 65537)), (6, .pointer (some ⟨b1, 0, none⟩)), (7, .pointer (some ⟨b2, 0, none⟩)), (8, .pointer (some ⟨b3, 0, none⟩)), (9, .pointer (some ⟨b4, 0, none⟩)), (13, .bool true), (14, .pointer (some ⟨b24, 0, none⟩)), (15, .slice (some ⟨g42, 0, none⟩) 3 3)] (by kernel_rfl) (by kernel_rfl) (hg_3f g42)
      have hg_f : G [true, true, true, true, false, false] [(4, .int .i64 (Int.tmod (wr64 ((Int.tmod t4 65537) + 65537)) 65537)), (6, .pointer (some ⟨b1, 0, none⟩)), (7, .pointer (some ⟨b2, 0, none⟩)), (8, .pointer (some ⟨b3, 0, none⟩)), (9, .pointer (some ⟨b4, 0, none⟩)), (13, .bool true), (14, .pointer (some ⟨b24, 0, none⟩)), (56, .agg #[.int .u8 a2_R, .int .u8 a2_G, .int .u8 a2_B, .int .u8 a2_A]), (57, .agg #[.int .u8 b3_R, .int .u8 b3_G, .int .u8 b3_B, .int .u8 b3_A]), (59, .agg #[.int .u8 t36, .int .u8 t37, .int .u8 t38, .int .u8 t39])] ([⟨b24, [.slice a_l5 l5.length c_l5, .int .i64 t40], 2⟩, ⟨b4, [.int .u8 b3_R, .int .u8 b3_G, .int .u8 b3_B, .int .u8 b3_A], 4⟩, ⟨b3, [.int .u8 a2_R, .int .u8 a2_G, .int .u8 a2_B, .int .u8 a2_A], 4⟩, ⟨b2, [.int .i64 t33, .int .i64 t34], 2⟩, ⟨b1, [.int .i64 (Int.tmod (wr64 ((Int.tmod p0_Kind 3) + 3)) 3), .int .i64 (Int.tmod p0_A 4), .int .i64 (Int.tmod p0_B 4), .int .i64 t27, .int .i64 t28, .int .i64 t30, .int .i64 t31], 7⟩] : List Own) := by
        refine hstep [4] _ _ _ (by kernel_rfl) (List.cons_ne_nil _ _) ⟨?_, trivial⟩
        · show T _ _ _ _ _ _ _ _
          refine t_a (.bsl rfl rfl rfl rfl) fun g42 fg42 sg42 => ?_
          refine t_keep [4, 6, 7, 8, 9, 13, 14, 60] (σ' := [(4, .int .i64 (Int.tmod (wr64 ((Int.tmod t4 65537) + 65537)) 65537)), (6, .pointer (some ⟨b1, 0, none⟩)), (7, .pointer (some ⟨b2, 0, none⟩)), (8, .pointer (some ⟨b3, 0, none⟩)), (9, .pointer (some ⟨b4, 0, none⟩)), (13, .bool true), (14, .pointer (some ⟨b24, 0, none⟩)), (60, .slice (some ⟨g42, 0, none⟩) 3 3)]) (by kernel_rfl) ?_
          refine t_end ?_
          exact ⟨hg_1f g42, rfl⟩
      have hg_7 : G [true, true, true, false, false, false] [(4, .int .i64 (Int.tmod (wr64 ((Int.tmod t4 65537) + 65537)) 65537)), (6, .pointer (some ⟨b1, 0, none⟩)), (7, .pointer (some ⟨b2, 0, none⟩)), (8, .pointer (some ⟨b3, 0, none⟩)), (9, .pointer (some ⟨b4, 0, none⟩)), (13, .bool true), (14, .pointer (some ⟨b24, 0, none⟩)), (56, .agg #[.int .u8 a2_R, .int .u8 a2_G, .int .u8 a2_B, .int .u8 a2_A]), (57, .agg #[.int .u8 b3_R, .int .u8 b3_G, .int .u8 b3_B, .int .u8 b3_A]), (58, .pointer (some ⟨b24, 0, none⟩))] ([⟨b24, [.slice a_l5 l5.length c_l5, .int .i64 0], 2⟩, ⟨b4, [.int .u8 b3_R, .int .u8 b3_G, .int .u8 b3_B, .int .u8 b3_A], 4⟩, ⟨b3, [.int .u8 a2_R, .int .u8 a2_G, .int .u8 a2_B, .int .u8 a2_A], 4⟩, ⟨b2, [.int .i64 t33, .int .i64 t34], 2⟩, ⟨b1, [.int .i64 (Int.tmod (wr64 ((Int.tmod p0_Kind 3) + 3)) 3), .int .i64 (Int.tmod p0_A 4), .int .i64 (Int.tmod p0_B 4), .int .i64 t27, .int .i64 t28, .int .i64 t30, .int .i64 t31], 7⟩] : List Own) := by
        refine hstep [3] _ _ _ (by kernel_rfl) (List.cons_ne_nil _ _) ⟨?_, trivial⟩
        · show T _ _ _ _ _ _ _ _
          refine t_call (vs := [.pointer (some ⟨b24, 0, none⟩)]) (H1 := ([⟨b24, [.slice a_l5 l5.length c_l5, .int .i64 0], 2⟩] : List Own)) (F := ([⟨b4, [.int .u8 b3_R, .int .u8 b3_G, .int .u8 b3_B, .int .u8 b3_A], 4⟩, ⟨b3, [.int .u8 a2_R, .int .u8 a2_G, .int .u8 a2_B, .int .u8 a2_A], 4⟩, ⟨b2, [.int .i64 t33, .int .i64 t34], 2⟩, ⟨b1, [.int .i64 (Int.tmod (wr64 ((Int.tmod p0_Kind 3) + 3)) 3), .int .i64 (Int.tmod p0_A 4), .int .i64 (Int.tmod p0_B 4), .int .i64 t27, .int .i64 t28, .int .i64 t30, .int .i64 t31], 7⟩] : List Own)) rfl rfl (by kernel_rfl) (sel_perm (is := [0]) (by kernel_rfl)) (glyphicmake_Color_v1.ok h_l5 h41) ?_
          rintro _ _ S_ ⟨rfl, rfl, hS_⟩
          obtain rfl := hS_.symm
          refine t_keep [4, 6, 7, 8, 9, 13, 14, 56, 57, 59] (σ' := [(4, .int .i64 (Int.tmod (wr64 ((Int.tmod t4 65537) + 65537)) 65537)), (6, .pointer (some ⟨b1, 0, none⟩)), (7, .pointer (some ⟨b2, 0, none⟩)), (8, .pointer (some ⟨b3, 0, none⟩)), (9, .pointer (some ⟨b4, 0, none⟩)), (13, .bool true), (14, .pointer (some ⟨b24, 0, none⟩)), (56, .agg #[.int .u8 a2_R, .int .u8 a2_G, .int .u8 a2_B, .int .u8 a2_A]), (57, .agg #[.int .u8 b3_R, .int .u8 b3_G, .int .u8 b3_B, .int .u8 b3_A]), (59, .agg #[.int .u8 t36, .int .u8 t37, .int .u8 t38, .int .u8 t39])]) (by kernel_rfl) ?_
          refine t_end ?_
          exact ⟨hg_f, rfl⟩
      have hg_d : G [true, false, true, true, false, false] [(4, .int .i64 (Int.tmod (wr64 ((Int.tmod t4 65537) + 65537)) 65537)), (6, .pointer (some ⟨b1, 0, none⟩)), (7, .pointer (some ⟨b2, 0, none⟩)), (8, .pointer (some ⟨b3, 0, none⟩)), (9, .pointer (some ⟨b4, 0, none⟩)), (13, .bool true), (14, .pointer (some ⟨b24, 0, none⟩)), (56, .agg #[.int .u8 a2_R, .int .u8 a2_G, .int .u8 a2_B, .int .u8 a2_A]), (59, .agg #[.int .u8 t36, .int .u8 t37, .int .u8 t38, .int .u8 t39])] ([⟨b24, [.slice a_l5 l5.length c_l5, .int .i64 t40], 2⟩, ⟨b4, [.int .u8 b3_R, .int .u8 b3_G, .int .u8 b3_B, .int .u8 b3_A], 4⟩, ⟨b3, [.int .u8 a2_R, .int .u8 a2_G, .int .u8 a2_B, .int .u8 a2_A], 4⟩, ⟨b2, [.int .i64 t33, .int .i64 t34], 2⟩, ⟨b1, [.int .i64 (Int.tmod (wr64 ((Int.tmod p0_Kind 3) + 3)) 3), .int .i64 (Int.tmod p0_A 4), .int .i64 (Int.tmod p0_B 4), .int .i64 t27, .int .i64 t28, .int .i64 t30, .int .i64 t31], 7⟩] : List Own) := by
        refine hstep [1] _ _ _ (by kernel_rfl) (List.cons_ne_nil _ _) ⟨?_, trivial⟩
        · show T _ _ _ _ _ _ _ _
          refine t_v (.ldn rfl rfl rfl (.at 1 rfl rfl)) ?_
          refine t_keep [4, 6, 7, 8, 9, 13, 14, 56, 57, 59] (σ' := [(4, .int .i64 (Int.tmod (wr64 ((Int.tmod t4 65537) + 65537)) 65537)), (6, .pointer (some ⟨b1, 0, none⟩)), (7, .pointer (some ⟨b2, 0, none⟩)), (8, .pointer (some ⟨b3, 0, none⟩)), (9, .pointer (some ⟨b4, 0, none⟩)), (13, .bool true), (14, .pointer (some ⟨b24, 0, none⟩)), (56, .agg #[.int .u8 a2_R, .int .u8 a2_G, .int .u8 a2_B, .int .u8 a2_A]), (57, .agg #[.int .u8 b3_R, .int .u8 b3_G, .int .u8 b3_B, .int .u8 b3_A]), (59, .agg #[.int .u8 t36, .int .u8 t37, .int .u8 t38, .int .u8 t39])]) (by kernel_rfl) ?_
          refine t_end ?_
          exact ⟨hg_f, rfl⟩
      have hg_e : G [false, true, true, true, false, false] [(4, .int .i64 (Int.tmod (wr64 ((Int.tmod t4 65537) + 65537)) 65537)), (6, .pointer (some ⟨b1, 0, none⟩)), (7, .pointer (some ⟨b2, 0, none⟩)), (8, .pointer (some ⟨b3, 0, none⟩)), (9, .pointer (some ⟨b4, 0, none⟩)), (13, .bool true), (14, .pointer (some ⟨b24, 0, none⟩)), (57, .agg #[.int .u8 b3_R, .int .u8 b3_G, .int .u8 b3_B, .int .u8 b3_A]), (59, .agg #[.int .u8 t36, .int .u8 t37, .int .u8 t38, .int .u8 t39])] ([⟨b24, [.slice a_l5 l5.length c_l5, .int .i64 t40], 2⟩, ⟨b4, [.int .u8 b3_R, .int .u8 b3_G, .int .u8 b3_B, .int .u8 b3_A], 4⟩, ⟨b3, [.int .u8 a2_R, .int .u8 a2_G, .int .u8 a2_B, .int .u8 a2_A], 4⟩, ⟨b2, [.int .i64 t33, .int .i64 t34], 2⟩, ⟨b1, [.int .i64 (Int.tmod (wr64 ((Int.tmod p0_Kind 3) + 3)) 3), .int .i64 (Int.tmod p0_A 4), .int .i64 (Int.tmod p0_B 4), .int .i64 t27, .int .i64 t28, .int .i64 t30, .int .i64 t31], 7⟩] : List Own) := by
        refine hstep [0] _ _ _ (by kernel_rfl) (List.cons_ne_nil _ _) ⟨?_, trivial⟩
        · show T _ _ _ _ _ _ _ _
          refine t_v (.ldn rfl rfl rfl (.at 2 rfl rfl)) ?_
          refine t_keep [4, 6, 7, 8, 9, 13, 14, 56, 57, 59] (σ' := [(4, .int .i64 (Int.tmod (wr64 ((Int.tmod t4 65537) + 65537)) 65537)), (6, .pointer (some ⟨b1, 0, none⟩)), (7, .pointer (some ⟨b2, 0, none⟩)), (8, .pointer (some ⟨b3, 0, none⟩)), (9, .pointer (some ⟨b4, 0, none⟩)), (13, .bool true), (14, .pointer (some ⟨b24, 0, none⟩)), (56, .agg #[.int .u8 a2_R, .int .u8 a2_G, .int .u8 a2_B, .int .u8 a2_A]), (57, .agg #[.int .u8 b3_R, .int .u8 b3_G, .int .u8 b3_B, .int .u8 b3_A]), (59, .agg #[.int .u8 t36, .int .u8 t37, .int .u8 t38, .int .u8 t39])]) (by kernel_rfl) ?_
          refine t_end ?_
          exact ⟨hg_f, rfl⟩
      have hg_5 : G [true, false, true, false, false, false] [(4, .int .i64 (Int.tmod (wr64 ((Int.tmod t4 65537) + 65537)) 65537)), (6, .pointer (some ⟨b1, 0, none⟩)), (7, .pointer (some ⟨b2, 0, none⟩)), (8, .pointer (some ⟨b3, 0, none⟩)), (9, .pointer (some ⟨b4, 0, none⟩)), (13, .bool true), (14, .pointer (some ⟨b24, 0, none⟩)), (56, .agg #[.int .u8 a2_R, .int .u8 a2_G, .int .u8 a2_B, .int .u8 a2_A]), (58, .pointer (some ⟨b24, 0, none⟩))] ([⟨b24, [.slice a_l5 l5.length c_l5, .int .i64 0], 2⟩, ⟨b4, [.int .u8 b3_R, .int .u8 b3_G, .int .u8 b3_B, .int .u8 b3_A], 4⟩, ⟨b3, [.int .u8 a2_R, .int .u8 a2_G, .int .u8 a2_B, .int .u8 a2_A], 4⟩, ⟨b2, [.int .i64 t33, .int .i64 t34], 2⟩, ⟨b1, [.int .i64 (Int.tmod (wr64 ((Int.tmod p0_Kind 3) + 3)) 3), .int .i64 (Int.tmod p0_A 4), .int .i64 (Int.tmod p0_B 4), .int .i64 t27, .int .i64 t28, .int .i64 t30, .int .i64 t31], 7⟩] : List Own) := by
        refine hstep [1, 3] _ _ _ (by kernel_rfl) (List.cons_ne_nil _ _) ⟨?_, ?_, trivial⟩
        · show T _ _ _ _ _ _ _ _
          refine t_v (.ldn rfl rfl rfl (.at 1 rfl rfl)) ?_
          refine t_keep [4, 6, 7, 8, 9, 13, 14, 56, 57, 58] (σ' := [(4, .int .i64 (Int.tmod (wr64 ((Int.tmod t4 65537) + 65537)) 65537)), (6, .pointer (some ⟨b1, 0, none⟩)), (7, .pointer (some ⟨b2, 0, none⟩)), (8, .pointer (some ⟨b3, 0, none⟩)), (9, .pointer (some ⟨b4, 0, none⟩)), (13, .bool true), (14, .pointer (some ⟨b24, 0, none⟩)), (56, .agg #[.int .u8 a2_R, .int .u8 a2_G, .int .u8 a2_B, .int .u8 a2_A]), (57, .agg #[.int .u8 b3_R, .int .u8 b3_G, .int .u8 b3_B, .int .u8 b3_A]), (58, .pointer (some ⟨b24, 0, none⟩))]) (by kernel_rfl) ?_
          refine t_end ?_
          exact ⟨hg_7, rfl⟩
        · show T _ _ _ _ _ _ _ _
          refine t_call (vs := [.pointer (some ⟨b24, 0, none⟩)]) (H1 := ([⟨b24, [.slice a_l5 l5.length c_l5, .int .i64 0], 2⟩] : List Own)) (F := ([⟨b4, [.int .u8 b3_R, .int .u8 b3_G, .int .u8 b3_B, .int .u8 b3_A], 4⟩, ⟨b3, [.int .u8 a2_R, .int .u8 a2_G, .int .u8 a2_B, .int .u8 a2_A], 4⟩, ⟨b2, [.int .i64 t33, .int .i64 t34], 2⟩, ⟨b1, [.int .i64 (Int.tmod (wr64 ((Int.tmod p0_Kind 3) + 3)) 3), .int .i64 (Int.tmod p0_A 4), .int .i64 (Int.tmod p0_B 4), .int .i64 t27, .int .i64 t28, .int .i64 t30, .int .i64 t31], 7⟩] : List Own)) rfl rfl (by kernel_rfl) (sel_perm (is := [0]) (by kernel_rfl)) (glyphicmake_Color_v1.ok h_l5 h41) ?_
          rintro _ _ S_ ⟨rfl, rfl, hS_⟩
          obtain rfl := hS_.symm
          refine t_keep [4, 6, 7, 8, 9, 13, 14, 56, 59] (σ' := [(4, .int .i64 (Int.tmod (wr64 ((Int.tmod t4 65537) + 65537)) 65537)), (6, .pointer (some ⟨b1, 0, none⟩)), (7, .pointer (some ⟨b2, 0, none⟩)), (8, .pointer (some ⟨b3, 0, none⟩)), (9, .pointer (some ⟨b4, 0, none⟩)), (13, .bool true), (14, .pointer (some ⟨b24, 0, none⟩)), (56, .agg #[.int .u8 a2_R, .int .u8 a2_G, .int .u8 a2_B, .int .u8 a2_A]), (59, .agg #[.int .u8 t36, .int .u8 t37, .int .u8 t38, .int .u8 t39])]) (by kernel_rfl) ?_
          refine t_end ?_
          exact ⟨hg_d, rfl⟩
      have hg_6 : G [false, true, true, false, false, false] [(4, .int .i64 (Int.tmod (wr64 ((Int.tmod t4 65537) + 65537)) 65537)), (6, .pointer (some ⟨b1, 0, none⟩)), (7, .pointer (some ⟨b2, 0, none⟩)), (8, .pointer (some ⟨b3, 0, none⟩)), (9, .pointer (some ⟨b4, 0, none⟩)), (13, .bool true), (14, .pointer (some ⟨b24, 0, none⟩)), (57, .agg #[.int .u8 b3_R, .int .u8 b3_G, .int .u8 b3_B, .int .u8 b3_A]), (58, .pointer (some ⟨b24, 0, none⟩))] ([⟨b24, [.slice a_l5 l5.length c_l5, .int .i64 0], 2⟩, ⟨b4, [.int .u8 b3_R, .int .u8 b3_G, .int .u8 b3_B, .int .u8 b3_A], 4⟩, ⟨b3, [.int .u8 a2_R, .int .u8 a2_G, .int .u8 a2_B, .int .u8 a2_A], 4⟩, ⟨b2, [.int .i64 t33, .int .i64 t34], 2⟩, ⟨b1, [.int .i64 (Int.tmod (wr64 ((Int.tmod p0_Kind 3) + 3)) 3), .int .i64 (Int.tmod p0_A 4), .int .i64 (Int.tmod p0_B 4), .int .i64 t27, .int .i64 t28, .int .i64 t30, .int .i64 t31], 7⟩] : List Own) := by
        refine hstep [0, 3] _ _ _ (by kernel_rfl) (List.cons_ne_nil _ _) ⟨?_, ?_, trivial⟩
        · show T _ _ _ _ _ _ _ _
          refine t_v (.ldn rfl rfl rfl (.at 2 rfl rfl)) ?_
          refine t_keep [4, 6, 7, 8, 9, 13, 14, 56, 57, 58] (σ' := [(4, .int .i64 (Int.tmod (wr64 ((Int.tmod t4 65537) + 65537)) 65537)), (6, .pointer (some ⟨b1, 0, none⟩)), (7, .pointer (some ⟨b2, 0, none⟩)), (8, .pointer (some ⟨b3, 0, none⟩)), (9, .pointer (some ⟨b4, 0, none⟩)), (13, .bool true), (14, .pointer (some ⟨b24, 0, none⟩)), (56, .agg #[.int .u8 a2_R, .int .u8 a2_G, .int .u8 a2_B, .int .u8 a2_A]), (57, .agg #[.int .u8 b3_R, .int .u8 b3_G, .int .u8 b3_B, .int .u8 b3_A]), (58, .pointer (some ⟨b24, 0, none⟩))]) (by kernel_rfl) ?_
          refine t_end ?_
          exact ⟨hg_7, rfl⟩
        · show T _ _ _ _ _ _ _ _
          refine t_call (vs := [.pointer (some ⟨b24, 0, none⟩)]) (H1 := ([⟨b24, [.slice a_l5 l5.length c_l5, .int .i64 0], 2⟩] : List Own)) (F := ([⟨b4, [.int .u8 b3_R, .int .u8 b3_G, .int .u8 b3_B, .int .u8 b3_A], 4⟩, ⟨b3, [.int .u8 a2_R, .int .u8 a2_G, .int .u8 a2_B, .int .u8 a2_A], 4⟩, ⟨b2, [.int .i64 t33, .int .i64 t34], 2⟩, ⟨b1, [.int .i64 (Int.tmod (wr64 ((Int.tmod p0_Kind 3) + 3)) 3), .int .i64 (Int.tmod p0_A 4), .int .i64 (Int.tmod p0_B 4), .int .i64 t27, .int .i64 t28, .int .i64 t30, .int .i64 t31], 7⟩] : List Own)) rfl rfl (by kernel_rfl) (sel_perm (is := [0]) (by kernel_rfl)) (glyphicmake_Color_v1.ok h_l5 h41) ?_
          rintro _ _ S_ ⟨rfl, rfl, hS_⟩
          obtain rfl := hS_.symm
          refine t_keep [4, 6, 7, 8, 9, 13, 14, 57, 59] (σ' := [(4, .int .i64 (Int.tmod (wr64 ((Int.tmod t4 65537) + 65537)) 65537)), (6, .pointer (some ⟨b1, 0, none⟩)), (7, .pointer (some ⟨b2, 0, none⟩)), (8, .pointer (some ⟨b3, 0, none⟩)), (9, .pointer (some ⟨b4, 0, none⟩)), (13, .bool true), (14, .pointer (some ⟨b24, 0, none⟩)), (57, .agg #[.int .u8 b3_R, .int .u8 b3_G, .int .u8 b3_B, .int .u8 b3_A]), (59, .agg #[.int .u8 t36, .int .u8 t37, .int .u8 t38, .int .u8 t39])]) (by kernel_rfl) ?_
          refine t_end ?_
          exact ⟨hg_e, rfl⟩
      have hg_c : G [false, false, true, true, false, false] [(4, .int .i64 (Int.tmod (wr64 ((Int.tmod t4 65537) + 65537)) 65537)), (6, .pointer (some ⟨b1, 0, none⟩)), (7, .pointer (some ⟨b2, 0, none⟩)), (8, .pointer (some ⟨b3, 0, none⟩)), (9, .pointer (some ⟨b4, 0, none⟩)), (13, .bool true), (14, .pointer (some ⟨b24, 0, none⟩)), (59, .agg #[.int .u8 t36, .int .u8 t37, .int .u8 t38, .int .u8 t39])] ([⟨b24, [.slice a_l5 l5.length c_l5, .int .i64 t40], 2⟩, ⟨b4, [.int .u8 b3_R, .int .u8 b3_G, .int .u8 b3_B, .int .u8 b3_A], 4⟩, ⟨b3, [.int .u8 a2_R, .int .u8 a2_G, .int .u8 a2_B, .int .u8 a2_A], 4⟩, ⟨b2, [.int .i64 t33, .int .i64 t34], 2⟩, ⟨b1, [.int .i64 (Int.tmod (wr64 ((Int.tmod p0_Kind 3) + 3)) 3), .int .i64 (Int.tmod p0_A 4), .int .i64 (Int.tmod p0_B 4), .int .i64 t27, .int .i64 t28, .int .i64 t30, .int .i64 t31], 7⟩] : List Own) := by
        refine hstep [0, 1] _ _ _ (by kernel_rfl) (List.cons_ne_nil _ _) ⟨?_, ?_, trivial⟩
        · show T _ _ _ _ _ _ _ _
          refine t_v (.ldn rfl rfl rfl (.at 2 rfl rfl)) ?_
          refine t_keep [4, 6, 7, 8, 9, 13, 14, 56, 59] (σ' := [(4, .int .i64 (Int.tmod (wr64 ((Int.tmod t4 65537) + 65537)) 65537)), (6, .pointer (some ⟨b1, 0, none⟩)), (7, .pointer (some ⟨b2, 0, none⟩)), (8, .pointer (some ⟨b3, 0, none⟩)), (9, .pointer (some ⟨b4, 0, none⟩)), (13, .bool true), (14, .pointer (some ⟨b24, 0, none⟩)), (56, .agg #[.int .u8 a2_R, .int .u8 a2_G, .int .u8 a2_B, .int .u8 a2_A]), (59, .agg #[.int .u8 t36, .int .u8 t37, .int .u8 t38, .int .u8 t39])]) (by kernel_rfl) ?_
          refine t_end ?_
          exact ⟨hg_d, rfl⟩
        · show T _ _ _ _ _ _ _ _
          refine t_v (.ldn rfl rfl rfl (.at 1 rfl rfl)) ?_
          refine t_keep [4, 6, 7, 8, 9, 13, 14, 57, 59] (σ' := [(4, .int .i64 (Int.tmod (wr64 ((Int.tmod t4 65537) + 65537)) 65537)), (6, .pointer (some ⟨b1, 0, none⟩)), (7, .pointer (some ⟨b2, 0, none⟩)), (8, .pointer (some ⟨b3, 0, none⟩)), (9, .pointer (some ⟨b4, 0, none⟩)), (13, .bool true), (14, .pointer (some ⟨b24, 0, none⟩)), (57, .agg #[.int .u8 b3_R, .int .u8 b3_G, .int .u8 b3_B, .int .u8 b3_A]), (59, .agg #[.int .u8 t36, .int .u8 t37, .int .u8 t38, .int .u8 t39])]) (by kernel_rfl) ?_
          refine t_end ?_
          exact ⟨hg_e, rfl⟩
      have hg_4 : G [false, false, true, false, false, false] [(4, .int .i64 (Int.tmod (wr64 ((Int.tmod t4 65537) + 65537)) 65537)), (6, .pointer (some ⟨b1, 0, none⟩)), (7, .pointer (some ⟨b2, 0, none⟩)), (8, .pointer (some ⟨b3, 0, none⟩)), (9, .pointer (some ⟨b4, 0, none⟩)), (13, .bool true), (14, .pointer (some ⟨b24, 0, none⟩)), (58, .pointer (some ⟨b24, 0, none⟩))] ([⟨b24, [.slice a_l5 l5.length c_l5, .int .i64 0], 2⟩, ⟨b4, [.int .u8 b3_R, .int .u8 b3_G, .int .u8 b3_B, .int .u8 b3_A], 4⟩, ⟨b3, [.int .u8 a2_R, .int .u8 a2_G, .int .u8 a2_B, .int .u8 a2_A], 4⟩, ⟨b2, [.int .i64 t33, .int .i64 t34], 2⟩, ⟨b1, [.int .i64 (Int.tmod (wr64 ((Int.tmod p0_Kind 3) + 3)) 3), .int .i64 (Int.tmod p0_A 4), .int .i64 (Int.tmod p0_B 4), .int .i64 t27, .int .i64 t28, .int .i64 t30, .int .i64 t31], 7⟩] : List Own) := by
        refine hstep [0, 1, 3] _ _ _ (by kernel_rfl) (List.cons_ne_nil _ _) ⟨?_, ?_, ?_, trivial⟩
        · show T _ _ _ _ _ _ _ _
          refine t_v (.ldn rfl rfl rfl (.at 2 rfl rfl)) ?_
          refine t_keep [4, 6, 7, 8, 9, 13, 14, 56, 58] (σ' := [(4, .int .i64 (Int.tmod (wr64 ((Int.tmod t4 65537) + 65537)) 65537)), (6, .pointer (some ⟨b1, 0, none⟩)), (7, .pointer (some ⟨b2, 0, none⟩)), (8, .pointer (some ⟨b3, 0, none⟩)), (9, .pointer (some ⟨b4, 0, none⟩)), (13, .bool true), (14, .pointer (some ⟨b24, 0, none⟩)), (56, .agg #[.int .u8 a2_R, .int .u8 a2_G, .int .u8 a2_B, .int .u8 a2_A]), (58, .pointer (some ⟨b24, 0, none⟩))]) (by kernel_rfl) ?_
          refine t_end ?_
          exact ⟨hg_5, rfl⟩
        · show T _ _ _ _ _ _ _ _
          refine t_v (.ldn rfl rfl rfl (.at 1 rfl rfl)) ?_
          refine t_keep [4, 6, 7, 8, 9, 13, 14, 57, 58] (σ' := [(4, .int .i64 (Int.tmod (wr64 ((Int.tmod t4 65537) + 65537)) 65537)), (6, .pointer (some ⟨b1, 0, none⟩)), (7, .pointer (some ⟨b2, 0, none⟩)), (8, .pointer (some ⟨b3, 0, none⟩)), (9, .pointer (some ⟨b4, 0, none⟩)), (13, .bool true), (14, .pointer (some ⟨b24, 0, none⟩)), (57, .agg #[.int .u8 b3_R, .int .u8 b3_G, .int .u8 b3_B, .int .u8 b3_A]), (58, .pointer (some ⟨b24, 0, none⟩))]) (by kernel_rfl) ?_
          refine t_end ?_
          exact ⟨hg_6, rfl⟩
        · show T _ _ _ _ _ _ _ _
          refine t_call (vs := [.pointer (some ⟨b24, 0, none⟩)]) (H1 := ([⟨b24, [.slice a_l5 l5.length c_l5, .int .i64 0], 2⟩] : List Own)) (F := ([⟨b4, [.int .u8 b3_R, .int .u8 b3_G, .int .u8 b3_B, .int .u8 b3_A], 4⟩, ⟨b3, [.int .u8 a2_R, .int .u8 a2_G, .int .u8 a2_B, .int .u8 a2_A], 4⟩, ⟨b2, [.int .i64 t33, .int .i64 t34], 2⟩, ⟨b1, [.int .i64 (Int.tmod (wr64 ((Int.tmod p0_Kind 3) + 3)) 3), .int .i64 (Int.tmod p0_A 4), .int .i64 (Int.tmod p0_B 4), .int .i64 t27, .int .i64 t28, .int .i64 t30, .int .i64 t31], 7⟩] : List Own)) rfl rfl (by kernel_rfl) (sel_perm (is := [0]) (by kernel_rfl)) (glyphicmake_Color_v1.ok h_l5 h41) ?_
          rintro _ _ S_ ⟨rfl, rfl, hS_⟩
          obtain rfl := hS_.symm
          refine t_keep [4, 6, 7, 8, 9, 13, 14, 59] (σ' := [(4, .int .i64 (Int.tmod (wr64 ((Int.tmod t4 65537) + 65537)) 65537)), (6, .pointer (some ⟨b1, 0, none⟩)), (7, .pointer (some ⟨b2, 0, none⟩)), (8, .pointer (some ⟨b3, 0, none⟩)), (9, .pointer (some ⟨b4, 0, none⟩)), (13, .bool true), (14, .pointer (some ⟨b24, 0, none⟩)), (59, .agg #[.int .u8 t36, .int .u8 t37, .int .u8 t38, .int .u8 t39])]) (by kernel_rfl) ?_
          refine t_end ?_
          exact ⟨hg_c, rfl⟩
      have hg_0 : G [false, false, false, false, false, false] [(4, .int .i64 (Int.tmod (wr64 ((Int.tmod t4 65537) + 65537)) 65537)), (6, .pointer (some ⟨b1, 0, none⟩)), (7, .pointer (some ⟨b2, 0, none⟩)), (8, .pointer (some ⟨b3, 0, none⟩)), (9, .pointer (some ⟨b4, 0, none⟩)), (13, .bool true), (14, .pointer (some ⟨b24, 0, none⟩))] ([⟨b24, [.slice a_l5 l5.length c_l5, .int .i64 0], 2⟩, ⟨b4, [.int .u8 b3_R, .int .u8 b3_G, .int .u8 b3_B, .int .u8 b3_A], 4⟩, ⟨b3, [.int .u8 a2_R, .int .u8 a2_G, .int .u8 a2_B, .int .u8 a2_A], 4⟩, ⟨b2, [.int .i64 t33, .int .i64 t34], 2⟩, ⟨b1, [.int .i64 (Int.tmod (wr64 ((Int.tmod p0_Kind 3) + 3)) 3), .int .i64 (Int.tmod p0_A 4), .int .i64 (Int.tmod p0_B 4), .int .i64 t27, .int .i64 t28, .int .i64 t30, .int .i64 t31], 7⟩] : List Own) := by
        exact hqf 2 [4, 6, 7, 8, 9, 13, 14, 58] _ _ _ [(4, .int .i64 (Int.tmod (wr64 ((Int.tmod t4 65537) + 65537)) 65537)), (6, .pointer (some ⟨b1, 0, none⟩)), (7, .pointer (some ⟨b2, 0, none⟩)), (8, .pointer (some ⟨b3, 0, none⟩)), (9, .pointer (some ⟨b4, 0, none⟩)), (13, .bool true), (14, .pointer (some ⟨b24, 0, none⟩)), (58, .pointer (some ⟨b24, 0, none⟩))] (by kernel_rfl) (by kernel_rfl) hg_4
      exact hg_0
  | false =>
    rw [if_neg (by decide)] at e
    exact absurd (Option.some.inj e) (by decide)

def glyphiclaw25_PaintSays.Pure : Prop := ∀ (p0_Kind : Int) (p0_A : Int) (p0_B : Int) (p0_P_X : Int) (p0_P_Y : Int) (p0_Q_X : Int) (p0_Q_Y : Int) (at1_X : Int) (at1_Y : Int) (a2_R : Int) (a2_G : Int) (a2_B : Int) (a2_A : Int) (b3_R : Int) (b3_G : Int) (b3_B : Int) (b3_A : Int) (t4 : Int) (l5 : List Int), (Lit.int .i64 p0_Kind).wf = true → (Lit.int .i64 p0_A).wf = true → (Lit.int .i64 p0_B).wf = true → (Lit.int .i64 p0_P_X).wf = true → (Lit.int .i64 p0_P_Y).wf = true → (Lit.int .i64 p0_Q_X).wf = true → (Lit.int .i64 p0_Q_Y).wf = true → (Lit.int .i64 at1_X).wf = true → (Lit.int .i64 at1_Y).wf = true → (Lit.int .u8 a2_R).wf = true → (Lit.int .u8 a2_G).wf = true → (Lit.int .u8 a2_B).wf = true → (Lit.int .u8 a2_A).wf = true → (Lit.int .u8 b3_R).wf = true → (Lit.int .u8 b3_G).wf = true → (Lit.int .u8 b3_B).wf = true → (Lit.int .u8 b3_A).wf = true → (Lit.int .i64 t4).wf = true → ∃ k, glyphiclaw25_PaintSays.f k p0_Kind p0_A p0_B p0_P_X p0_P_Y p0_Q_X p0_Q_Y at1_X at1_Y a2_R a2_G a2_B a2_A b3_R b3_G b3_B b3_A t4 l5 = some true
theorem glyphiclaw25_PaintSays.walk (P : glyphiclaw25_PaintSays.Pure) (p0_Kind : Int) (p0_A : Int) (p0_B : Int) (p0_P_X : Int) (p0_P_Y : Int) (p0_Q_X : Int) (p0_Q_Y : Int) (at1_X : Int) (at1_Y : Int) (a2_R : Int) (a2_G : Int) (a2_B : Int) (a2_A : Int) (b3_R : Int) (b3_G : Int) (b3_B : Int) (b3_A : Int) (t4 : Int) (l5 : List Int) (w : World) {S : Seal} (hS : HOK [] S w) {a_l5 : Option Addr} {c_l5 : Nat} (h_l5 : SlI S .i64 l5 a_l5) (hp0_Kind : (Lit.int .i64 p0_Kind).wf = true) (hp0_A : (Lit.int .i64 p0_A).wf = true) (hp0_B : (Lit.int .i64 p0_B).wf = true) (hp0_P_X : (Lit.int .i64 p0_P_X).wf = true) (hp0_P_Y : (Lit.int .i64 p0_P_Y).wf = true) (hp0_Q_X : (Lit.int .i64 p0_Q_X).wf = true) (hp0_Q_Y : (Lit.int .i64 p0_Q_Y).wf = true) (hat1_X : (Lit.int .i64 at1_X).wf = true) (hat1_Y : (Lit.int .i64 at1_Y).wf = true) (ha2_R : (Lit.int .u8 a2_R).wf = true) (ha2_G : (Lit.int .u8 a2_G).wf = true) (ha2_B : (Lit.int .u8 a2_B).wf = true) (ha2_A : (Lit.int .u8 a2_A).wf = true) (hb3_R : (Lit.int .u8 b3_R).wf = true) (hb3_G : (Lit.int .u8 b3_G).wf = true) (hb3_B : (Lit.int .u8 b3_B).wf = true) (hb3_A : (Lit.int .u8 b3_A).wf = true) (ht4 : (Lit.int .i64 t4).wf = true) :
    Calls Try.prog 14 #[.agg #[.int .i64 p0_Kind, .int .i64 p0_A, .int .i64 p0_B, .int .i64 p0_P_X, .int .i64 p0_P_Y, .int .i64 p0_Q_X, .int .i64 p0_Q_Y], .agg #[.int .i64 at1_X, .int .i64 at1_Y], .agg #[.int .u8 a2_R, .int .u8 a2_G, .int .u8 a2_B, .int .u8 a2_A], .agg #[.int .u8 b3_R, .int .u8 b3_G, .int .u8 b3_B, .int .u8 b3_A], .int .i64 t4, .slice a_l5 l5.length c_l5] w fun e w' => e = .returned (.bool true) ∧ Below w.heap.size w w' := let ⟨k, h⟩ := P p0_Kind p0_A p0_B p0_P_X p0_P_Y p0_Q_X p0_Q_Y at1_X at1_Y a2_R a2_G a2_B a2_A b3_R b3_G b3_B b3_A t4 l5 hp0_Kind hp0_A hp0_B hp0_P_X hp0_P_Y hp0_Q_X hp0_Q_Y hat1_X hat1_Y ha2_R ha2_G ha2_B ha2_A hb3_R hb3_G hb3_B hb3_A ht4; law_w hS (glyphiclaw25_PaintSays.ok h_l5 (k := k) h)
end Go.Proofs.Ytpimfacaalkmdaa.QPaintSays
