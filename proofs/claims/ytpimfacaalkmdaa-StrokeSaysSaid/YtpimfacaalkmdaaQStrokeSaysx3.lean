/- Functions of the program as Lean functions, each with the proof of its walk. Written by gen.py, a program of these sessions. -/
import Derived.Test.YtpimfacaalkmdaaQStrokeSaysx2
namespace Go.Proofs.Ytpimfacaalkmdaa.QStrokeSays
open Go Go.RowKit Go.Proofs.YtpimfacaalkmdaaE Go.Proofs.YtpimfacaalkmdaaX
set_option linter.unusedVariables false
set_option maxRecDepth 100000
set_option maxHeartbeats 8000000
/-- glyphiclaw23.StrokeSays -/
def c4 : C :=
  (.seq (.reg [⟨(some 8), .mv (.const (.bool false)), none⟩])
  (.seq (.reg [⟨(some 20), .call 16 [], none⟩,
     ⟨(some 9), .mv (.tmp 20), none⟩])
  (.seq (.seq (.reg [⟨(some 21), .mv (.tmp 9), none⟩,
      ⟨(some 22), .un .not (.tmp 21), none⟩])
   (.cond (.tmp 22)
    (.seq (.reg [⟨(some 8), .mv (.const (.bool false)), none⟩])
     .ret)
    .skip))
  (.seq (.seq (.reg [⟨(some 23), .mv (.tmp 0), none⟩,
      ⟨(some 24), .lns (.tmp 23), none⟩,
      ⟨(some 25), .bin .gtr (.tmp 24) (.const (.int .i64 120)), none⟩])
   (.cond (.tmp 25)
    (.seq (.reg [⟨(some 26), .mv (.tmp 9), none⟩,
        ⟨(some 8), .mv (.tmp 26), none⟩])
     .ret)
    .skip))
  (.seq (.seq (.reg [⟨(some 27), .mv (.tmp 1), none⟩,
      ⟨(some 28), .bin .lss (.tmp 27) (.const (.int .i64 0)), none⟩])
   (.cond (.tmp 28)
    (.reg [⟨(some 29), .mv (.tmp 1), none⟩,
       ⟨(some 30), .bin .add (.tmp 29) (.const (.int .i64 1)), none⟩,
       ⟨(some 31), .un .neg (.tmp 30), none⟩,
       ⟨(some 1), .mv (.tmp 31), none⟩])
    .skip))
  (.seq (.reg [⟨(some 32), .mv (.tmp 1), none⟩,
     ⟨(some 33), .bin .rem (.tmp 32) (.const (.int .i64 200)), none⟩,
     ⟨(some 1), .mv (.tmp 33), none⟩])
  (.seq (.reg [⟨(some 34), .mv (.tmp 0), none⟩,
     ⟨(some 35), .bld [(.slice none 0 0), (.int .i64 0)] [(0, 1, (.tmp 34))], none⟩,
     ⟨(some 36), .box (.tmp 35), none⟩,
     ⟨(some 10), .mv (.tmp 36), none⟩])
  (.seq (.reg [⟨(some 37), .mv (.tmp 10), none⟩,
     ⟨(some 38), .call 17 [(.tmp 37), (.const (.int .i64 10)), (.const (.int .i64 60))], none⟩,
     ⟨(some 11), .mv (.tmp 38), none⟩])
  (.seq (.reg [⟨(some 40), .mv (.tmp 11), none⟩,
     ⟨(some 41), .mv (.tmp 1), none⟩,
     ⟨(some 42), .call 22 [(.tmp 40), (.tmp 41)], none⟩,
     ⟨(some 39), .mv (.tmp 42), none⟩,
     ⟨(some 43), .xt 0 (.tmp 39), none⟩,
     ⟨(some 44), .xt 1 (.tmp 39), none⟩,
     ⟨(some 45), .xt 2 (.tmp 39), none⟩,
     ⟨(some 12), .new [(.int .i64 0), (.int .i64 0)], none⟩,
     ⟨(some 13), .new [(.int .i64 0), (.int .i64 0)], none⟩,
     ⟨none, .st 2 (.tmp 12) (.tmp 43), none⟩,
     ⟨none, .st 2 (.tmp 13) (.tmp 44), none⟩,
     ⟨(some 14), .mv (.tmp 45), none⟩])
  (.seq (.reg [⟨(some 47), .mv (.tmp 11), none⟩,
     ⟨(some 48), .mv (.tmp 1), none⟩,
     ⟨(some 49), .call 23 [(.tmp 47), (.tmp 48)], none⟩,
     ⟨(some 46), .mv (.tmp 49), none⟩,
     ⟨(some 50), .xt 0 (.tmp 46), none⟩,
     ⟨(some 51), .xt 1 (.tmp 46), none⟩,
     ⟨(some 52), .xt 2 (.tmp 46), none⟩,
     ⟨(some 15), .new [(.int .i64 0), (.int .i64 0)], none⟩,
     ⟨(some 16), .new [(.int .i64 0), (.int .i64 0)], none⟩,
     ⟨none, .st 2 (.tmp 15) (.tmp 50), none⟩,
     ⟨none, .st 2 (.tmp 16) (.tmp 51), none⟩,
     ⟨(some 17), .mv (.tmp 52), none⟩])
  (.seq (.seq (.reg [⟨(some 18), .mv (.const (.int .i64 0)), none⟩])
   (.block 0 (.loop (.seq (.seq (.reg [⟨(some 53), .mv (.tmp 18), none⟩,
         ⟨(some 54), .bin .lss (.tmp 53) (.const (.int .i64 20)), none⟩])
      (.cond (.tmp 54)
       .skip
       (.exit 0)))
     (.seq (.block 1 (.seq (.reg [⟨(some 57), .mv (.tmp 10), none⟩,
          ⟨(some 58), .call 18 [(.tmp 57), (.const (.int .i64 150))], none⟩,
          ⟨(some 19), .new [(.int .i64 0), (.int .i64 0)], none⟩,
          ⟨none, .st 2 (.tmp 19) (.tmp 58), none⟩])
       (.seq (.seq (.reg [⟨(some 59), .mv (.tmp 18), none⟩,
           ⟨(some 60), .bin .eql (.tmp 59) (.const (.int .i64 0)), none⟩])
        (.cond (.tmp 60)
         (.reg [⟨(some 61), .mv (.tmp 2), none⟩,
            ⟨(some 62), .bin .rem (.tmp 61) (.const (.int .i64 16777216)), none⟩,
            ⟨(some 63), .mv (.tmp 3), none⟩,
            ⟨(some 64), .bin .rem (.tmp 63) (.const (.int .i64 16777216)), none⟩,
            ⟨(some 65), .bld [(.int .i64 0), (.int .i64 0)] [(0, 1, (.tmp 62)), (1, 1, (.tmp 64))], none⟩,
            ⟨none, .st 2 (.tmp 19) (.tmp 65), none⟩])
         .skip))
       (.seq (.drw [⟨(some 66), .mv (.tmp 11), none⟩,
          ⟨(some 67), .mv (.tmp 1), none⟩,
          ⟨(some 68), .ld (some 2) (.tmp 19), none⟩,
          ⟨(some 69), .call 19 [(.tmp 66), (.tmp 67), (.tmp 68)], none⟩,
          ⟨(some 70), .mv (.tmp 11), none⟩,
          ⟨(some 71), .mv (.tmp 1), none⟩,
          ⟨(some 72), .ld (some 2) (.tmp 19), none⟩,
          ⟨(some 73), .call 24 [(.tmp 70), (.tmp 71), (.tmp 72)], none⟩,
          ⟨(some 74), .beq true (.tmp 69) (.tmp 73), none⟩] [[], [], [], [0, 1, 2], [], [], [], [4, 5, 6, 3], [3, 7]])
       (.cond (.tmp 74)
        (.seq (.reg [⟨(some 8), .mv (.const (.bool false)), none⟩])
         .ret)
        .skip)))))
     (.reg [⟨(some 55), .mv (.tmp 18), none⟩,
       ⟨(some 56), .bin .add (.tmp 55) (.const (.int .i64 1)), none⟩,
       ⟨(some 18), .mv (.tmp 56), none⟩]))))))
  (.seq (.reg [⟨(some 75), .mv (.tmp 9), none⟩,
     ⟨(some 76), .mv (.tmp 75), none⟩,
     ⟨(some 77), .ld (some 2) (.tmp 12), (some (76, true))⟩,
     ⟨(some 78), .ld (some 2) (.tmp 15), (some (76, true))⟩,
     ⟨(some 79), .call 25 [(.tmp 77), (.tmp 78)], (some (76, true))⟩,
     ⟨(some 80), .pk (.tmp 76) (.tmp 79) (.const (.bool false)), none⟩,
     ⟨(some 81), .mv (.tmp 80), none⟩,
     ⟨(some 82), .ld (some 2) (.tmp 13), (some (81, true))⟩,
     ⟨(some 83), .ld (some 2) (.tmp 16), (some (81, true))⟩,
     ⟨(some 84), .call 25 [(.tmp 82), (.tmp 83)], (some (81, true))⟩,
     ⟨(some 85), .pk (.tmp 81) (.tmp 84) (.const (.bool false)), none⟩,
     ⟨(some 86), .mv (.tmp 85), none⟩,
     ⟨(some 87), .mv (.tmp 14), (some (86, true))⟩,
     ⟨(some 88), .mv (.tmp 17), (some (86, true))⟩,
     ⟨(some 89), .beq false (.tmp 87) (.tmp 88), (some (86, true))⟩,
     ⟨(some 90), .pk (.tmp 86) (.tmp 89) (.const (.bool false)), none⟩,
     ⟨(some 8), .mv (.tmp 90), none⟩])
  .ret))))))))))))
def glyphiclaw23_StrokeSays.l0 : Nat → List (Int) → Int → Int → Int → List (Int × Int × Int × Int) → Int → Int → Option ((Bool) ⊕ (Int))
  | 0, _, _, _, _, _, _, _ => none
  | k + 1, l0, x2, y3, x42, t139, x381, x382 => if x381 < 20 then ((glyphicmake_Point_v1.f 150 l0 x382).bind fun (t384, t385, t386) => (if x381 = 0 then ((stroke_Near_v3.f k t139 (Int.tmod x42 200) (Int.tmod x2 16777216) (Int.tmod y3 16777216)).bind fun t390 => ((glyphicref20_Near_v1.f k t139 (Int.tmod x42 200) (Int.tmod x2 16777216) (Int.tmod y3 16777216)).bind fun t392 => (if t390 = t392 then (glyphiclaw23_StrokeSays.l0 k l0 x2 y3 x42 t139 (wr64 (x381 + 1)) t386) else (some (.inl false))))) else ((stroke_Near_v3.f k t139 (Int.tmod x42 200) t384 t385).bind fun t396 => ((glyphicref20_Near_v1.f k t139 (Int.tmod x42 200) t384 t385).bind fun t398 => (if t396 = t398 then (glyphiclaw23_StrokeSays.l0 k l0 x2 y3 x42 t139 (wr64 (x381 + 1)) t386) else (some (.inl false))))))) else (some (.inr x382))
def glyphiclaw23_StrokeSays.f (k : Nat) (l0 : List (Int)) (w1 : Int) (x2 : Int) (y3 : Int) : Option (Bool) := (glyphiclaw23_first.f).bind fun t35 => (if t35 = true then (if (l0.length : Int) > 120 then (some true) else ((if w1 < 0 then (some (wr64 (0 - (wr64 (w1 + 1))), true)) else (some (w1, true)) : Option (Int × Bool)).bind fun (x42, x43) => ((glyphicmake_Edges_v1.f k 10 60 l0 0).bind fun (t139, t140) => ((stroke_Box_v1.f k t139 (Int.tmod x42 200)).bind fun (t212, t213, t214, t215, t216) => ((glyphicref20_Box_v1.f k t139 (Int.tmod x42 200)).bind fun (t370, t371, t372, t373, t374) => ((glyphiclaw23_StrokeSays.l0 k l0 x2 y3 x42 t139 0 t140 : Option ((Bool) ⊕ (Int))).bind fun s_ => match s_ with | .inl q412 => some q412 | .inr x403 => (if x43 = true then ((glyphicref_SamePoint.f t212 t213 t370 t371).bind fun t408 => (if t408 = true then ((glyphicref_SamePoint.f t214 t215 t372 t373).bind fun t410 => (if t410 = true then (some (t216 == t374)) else (some false))) else (some false))) else (some false)))))))) else (some false))
theorem glyphiclaw23_StrokeSays.ok {S : Seal} {k : Nat} {l0 : List (Int)} {w1 : Int} {x2 : Int} {y3 : Int} {a_l0 : Option Addr} {c_l0 : Nat} (h_l0 : SlE S E_i64 l0 a_l0) (e : glyphiclaw23_StrokeSays.f k l0 w1 x2 y3 = some true) :
    Cal Try.prog 4 [.slice a_l0 l0.length c_l0, .int .i64 w1, .int .i64 x2, .int .i64 y3] [] S fun v H' S' => v = .bool true ∧ H' = [] ∧ S' = S := by
  unfold glyphiclaw23_StrokeSays.f at e
  refine cal_of (c := c4) (N := 91) Try.func4 rfl rfl (by kernel_rfl) (rs := [.t 8]) (by kernel_rfl) (Nat.le_of_ble_eq_true rfl) ?_
  unfold c4
  refine w_seq ?_
  refine w_reg fun all => ?_
  refine t_qz 1 [0, 1, 2, 3] (σ' := [(0, .slice a_l0 l0.length c_l0), (1, .int .i64 w1), (2, .int .i64 x2), (3, .int .i64 y3)]) (by kernel_rfl) ?_
  refine t_end ?_
  show W _ _ _ _ _ _ _
  refine w_seq ?_
  refine w_reg fun all => ?_
  obtain ⟨t35, h36, e⟩ := bind_of e
  cases t35 with
  | true =>
    rw [if_pos rfl] at e
    refine t_v (.call (vs := []) rfl rfl (by kernel_rfl) (glyphiclaw23_first.ok h36)) ?_
    refine t_qz 1 [0, 1, 2, 3, 9] (σ' := [(0, .slice a_l0 l0.length c_l0), (1, .int .i64 w1), (2, .int .i64 x2), (3, .int .i64 y3), (9, .bool true)]) (by kernel_rfl) ?_
    refine t_end ?_
    show W _ _ _ _ _ _ _
    refine w_seq ?_
    refine w_seq ?_
    refine w_reg fun all => ?_
    refine t_qz 2 [0, 1, 2, 3, 9, 22] (σ' := [(0, .slice a_l0 l0.length c_l0), (1, .int .i64 w1), (2, .int .i64 x2), (3, .int .i64 y3), (9, .bool true), (22, .bool false)]) (by kernel_rfl) ?_
    refine t_end ?_
    show W _ _ _ _ _ _ _
    refine w_cond rfl (fun c_ => by cases c_) (fun _ => ?_)
    show W _ _ _ _ _ _ _
    refine w_skip ?_
    show W _ _ _ _ _ _ _
    refine w_seq ?_
    refine w_seq ?_
    refine w_reg fun all => ?_
    by_cases c37 : (l0.length : Int) > 120
    · rw [if_pos c37] at e
      have c37b : (decide ((l0.length : Int) > 120)) = true := decide_eq_true c37
      refine t_qz 2 [0, 1, 2, 3, 9, 24] (σ' := [(0, .slice a_l0 l0.length c_l0), (1, .int .i64 w1), (2, .int .i64 x2), (3, .int .i64 y3), (9, .bool true), (24, .int .i64 (l0.length : Int))]) (by kernel_rfl) ?_
      refine t_v (dv_quiet rfl (congrArg (fun t => some (Value.bool t)) c37b)) ?_
      refine t_keep [0, 1, 2, 3, 9, 25] (σ' := [(0, .slice a_l0 l0.length c_l0), (1, .int .i64 w1), (2, .int .i64 x2), (3, .int .i64 y3), (9, .bool true), (25, .bool true)]) (by kernel_rfl) ?_
      refine t_end ?_
      show W _ _ _ _ _ _ _
      refine w_cond rfl (fun _ => ?_) (fun c_ => by cases c_)
      show W _ _ _ _ _ _ _
      refine w_seq ?_
      refine w_reg fun all => ?_
      refine t_qz 2 [8] (σ' := [(8, .bool true)]) (by kernel_rfl) ?_
      refine t_end ?_
      show W _ _ _ _ _ _ _
      refine w_ret ?_
      have hr_ := Option.some.inj e
      exact ⟨[.bool true], [], S, ⟨rfl, trivial⟩, VS.none, congrArg Value.bool hr_, rfl, rfl⟩
    · rw [if_neg c37] at e
      have c37b : (decide ((l0.length : Int) > 120)) = false := decide_eq_false c37
      refine t_qz 2 [0, 1, 2, 3, 9, 24] (σ' := [(0, .slice a_l0 l0.length c_l0), (1, .int .i64 w1), (2, .int .i64 x2), (3, .int .i64 y3), (9, .bool true), (24, .int .i64 (l0.length : Int))]) (by kernel_rfl) ?_
      refine t_v (dv_quiet rfl (congrArg (fun t => some (Value.bool t)) c37b)) ?_
      refine t_keep [0, 1, 2, 3, 9, 25] (σ' := [(0, .slice a_l0 l0.length c_l0), (1, .int .i64 w1), (2, .int .i64 x2), (3, .int .i64 y3), (9, .bool true), (25, .bool false)]) (by kernel_rfl) ?_
      refine t_end ?_
      show W _ _ _ _ _ _ _
      refine w_cond rfl (fun c_ => by cases c_) (fun _ => ?_)
      show W _ _ _ _ _ _ _
      refine w_skip ?_
      show W _ _ _ _ _ _ _
      obtain ⟨⟨x42, x43⟩, e39, e⟩ := bind_of e
      try dsimp only at e
      refine w_cut [0, 1, 2, 3, 9] (fun σ_ H_ S_ => [(0, .slice a_l0 l0.length c_l0), (1, .int .i64 x42), (2, .int .i64 x2), (3, .int .i64 y3), (9, .bool x43)] = σ_ ∧ ([] : List Own) = H_ ∧ S = S_) ?_ ?_
      · show W _ _ _ _ _ _ _
        refine w_seq ?_
        refine w_reg fun all => ?_
        by_cases c41 : w1 < 0
        · rw [if_pos c41] at e39
          have c41b : (decide (w1 < 0)) = true := decide_eq_true c41
          refine t_qz 1 [0, 1, 2, 3, 9, 27] (σ' := [(0, .slice a_l0 l0.length c_l0), (1, .int .i64 w1), (2, .int .i64 x2), (3, .int .i64 y3), (9, .bool true), (27, .int .i64 w1)]) (by kernel_rfl) ?_
          refine t_v (dv_quiet rfl (congrArg (fun t => some (Value.bool t)) c41b)) ?_
          refine t_keep [0, 1, 2, 3, 9, 28] (σ' := [(0, .slice a_l0 l0.length c_l0), (1, .int .i64 w1), (2, .int .i64 x2), (3, .int .i64 y3), (9, .bool true), (28, .bool true)]) (by kernel_rfl) ?_
          refine t_end ?_
          show W _ _ _ _ _ _ _
          refine w_cond rfl (fun _ => ?_) (fun c_ => by cases c_)
          show W _ _ _ _ _ _ _
          refine w_reg fun all => ?_
          refine t_qz 4 [0, 1, 2, 3, 9] (σ' := [(0, .slice a_l0 l0.length c_l0), (1, .int .i64 (wr64 (0 - (wr64 (w1 + 1))))), (2, .int .i64 x2), (3, .int .i64 y3), (9, .bool true)]) (by kernel_rfl) ?_
          refine t_end ?_
          simp only [Option.some.injEq, Prod.mk.injEq] at e39
          obtain ⟨rfl, rfl⟩ := e39
          exact ⟨([] : List Own), S, VS.sel [] (by kernel_rfl), by kernel_rfl, rfl, rfl⟩
        · rw [if_neg c41] at e39
          have c41b : (decide (w1 < 0)) = false := decide_eq_false c41
          refine t_qz 1 [0, 1, 2, 3, 9, 27] (σ' := [(0, .slice a_l0 l0.length c_l0), (1, .int .i64 w1), (2, .int .i64 x2), (3, .int .i64 y3), (9, .bool true), (27, .int .i64 w1)]) (by kernel_rfl) ?_
          refine t_v (dv_quiet rfl (congrArg (fun t => some (Value.bool t)) c41b)) ?_
          refine t_keep [0, 1, 2, 3, 9, 28] (σ' := [(0, .slice a_l0 l0.length c_l0), (1, .int .i64 w1), (2, .int .i64 x2), (3, .int .i64 y3), (9, .bool true), (28, .bool false)]) (by kernel_rfl) ?_
          refine t_end ?_
          show W _ _ _ _ _ _ _
          refine w_cond rfl (fun c_ => by cases c_) (fun _ => ?_)
          show W _ _ _ _ _ _ _
          refine w_skip ?_
          simp only [Option.some.injEq, Prod.mk.injEq] at e39
          obtain ⟨rfl, rfl⟩ := e39
          exact ⟨([] : List Own), S, VS.sel [] (by kernel_rfl), by kernel_rfl, rfl, rfl⟩
      · rintro σ_ H_ S_ ⟨rfl, rfl, rfl⟩
        refine w_seq ?_
        refine w_reg fun all => ?_
        refine t_qz 3 [0, 1, 2, 3, 9] (σ' := [(0, .slice a_l0 l0.length c_l0), (1, .int .i64 (Int.tmod x42 200)), (2, .int .i64 x2), (3, .int .i64 y3), (9, .bool x43)]) (by kernel_rfl) ?_
        refine t_end ?_
        show W _ _ _ _ _ _ _
        refine w_seq ?_
        refine w_reg fun all => ?_
        refine t_qz 2 [1, 2, 3, 9, 35] (σ' := [(1, .int .i64 (Int.tmod x42 200)), (2, .int .i64 x2), (3, .int .i64 y3), (9, .bool x43), (35, .agg #[.slice a_l0 l0.length c_l0, .int .i64 0])]) (by kernel_rfl) ?_
        refine t_a (.box rfl rfl rfl) fun b44 fb44 sb44 => ?_
        refine t_qz 1 [1, 2, 3, 9, 10] (σ' := [(1, .int .i64 (Int.tmod x42 200)), (2, .int .i64 x2), (3, .int .i64 y3), (9, .bool x43), (10, .pointer (some ⟨b44, 0, none⟩))]) (by kernel_rfl) ?_
        refine t_end ?_
        show W _ _ _ _ _ _ _
        refine w_seq ?_
        refine w_reg fun all => ?_
        obtain ⟨⟨t139, t140⟩, h141, e⟩ := bind_of e
        try dsimp only at e
        refine t_qz 1 [1, 2, 3, 9, 10, 37] (σ' := [(1, .int .i64 (Int.tmod x42 200)), (2, .int .i64 x2), (3, .int .i64 y3), (9, .bool x43), (10, .pointer (some ⟨b44, 0, none⟩)), (37, .pointer (some ⟨b44, 0, none⟩))]) (by kernel_rfl) ?_
        refine t_call (vs := [.pointer (some ⟨b44, 0, none⟩), .int .i64 10, .int .i64 60]) (H1 := ([⟨b44, [.slice a_l0 l0.length c_l0, .int .i64 0], 2⟩] : List Own)) (F := ([] : List Own)) rfl rfl (by kernel_rfl) (sel_perm (is := [0]) (by kernel_rfl)) (glyphicmake_Edges_v1.ok h_l0 h141) ?_
        rintro _ _ S_ ⟨N142, nN142, rfl, rfl, hS_⟩
        obtain rfl := hS_.symm
        refine t_qz 1 [1, 2, 3, 9, 10, 11] (σ' := [(1, .int .i64 (Int.tmod x42 200)), (2, .int .i64 x2), (3, .int .i64 y3), (9, .bool x43), (10, .pointer (some ⟨b44, 0, none⟩)), (11, .slice (ad N142) t139.length (nN142 / 4))]) (by kernel_rfl) ?_
        refine t_end ?_
        show W _ _ _ _ _ _ _
        refine w_seq ?_
        refine w_reg fun all => ?_
        obtain ⟨⟨t212, t213, t214, t215, t216⟩, h217, e⟩ := bind_of e
        try dsimp only at e
        refine t_qz 2 [1, 2, 3, 9, 10, 11, 40, 41] (σ' := [(1, .int .i64 (Int.tmod x42 200)), (2, .int .i64 x2), (3, .int .i64 y3), (9, .bool x43), (10, .pointer (some ⟨b44, 0, none⟩)), (11, .slice (ad N142) t139.length (nN142 / 4)), (40, .slice (ad N142) t139.length (nN142 / 4)), (41, .int .i64 (Int.tmod x42 200))]) (by kernel_rfl) ?_
        refine t_v (.callr (vs := [.slice (ad N142) t139.length (nN142 / 4), .int .i64 (Int.tmod x42 200)]) (A := ([⟨N142, encL E_i644 t139, nN142⟩] : List Own)) (F0 := ([⟨b44, [.slice a_l0 l0.length c_l0, .int .i64 t140], 2⟩] : List Own)) rfl rfl (by kernel_rfl) (sel_perm (is := [0]) (by kernel_rfl)) (cal_lendr fun S1_ le1_ hS1_ => (stroke_Box_v1.ok (SlE.ofAd (E := E_i644) (L := t139) hS1_ (by decide)) h217))) ?_
        refine t_qz 4 [1, 2, 3, 9, 10, 11, 43, 44, 45] (σ' := [(1, .int .i64 (Int.tmod x42 200)), (2, .int .i64 x2), (3, .int .i64 y3), (9, .bool x43), (10, .pointer (some ⟨b44, 0, none⟩)), (11, .slice (ad N142) t139.length (nN142 / 4)), (43, .agg #[.int .i64 t212, .int .i64 t213]), (44, .agg #[.int .i64 t214, .int .i64 t215]), (45, .bool t216)]) (by kernel_rfl) ?_
        refine t_a (.new rfl rfl) fun b218 fb218 sb218 => ?_
        refine t_a (.new rfl rfl) fun b219 fb219 sb219 => ?_
        refine t_sti 1 (cs := [.int .i64 t212, .int .i64 t213]) rfl rfl rfl rfl rfl rfl rfl rfl rfl ?_
        refine t_sti 0 (cs := [.int .i64 t214, .int .i64 t215]) rfl rfl rfl rfl rfl rfl rfl rfl rfl ?_
        refine t_qz 1 [1, 2, 3, 9, 10, 11, 12, 13, 14] (σ' := [(1, .int .i64 (Int.tmod x42 200)), (2, .int .i64 x2), (3, .int .i64 y3), (9, .bool x43), (10, .pointer (some ⟨b44, 0, none⟩)), (11, .slice (ad N142) t139.length (nN142 / 4)), (12, .pointer (some ⟨b218, 0, none⟩)), (13, .pointer (some ⟨b219, 0, none⟩)), (14, .bool t216)]) (by kernel_rfl) ?_
        refine t_end ?_
        show W _ _ _ _ _ _ _
        refine w_seq ?_
        refine w_reg fun all => ?_
        obtain ⟨⟨t370, t371, t372, t373, t374⟩, h375, e⟩ := bind_of e
        try dsimp only at e
        refine t_qz 2 [1, 2, 3, 9, 10, 11, 12, 13, 14, 47, 48] (σ' := [(1, .int .i64 (Int.tmod x42 200)), (2, .int .i64 x2), (3, .int .i64 y3), (9, .bool x43), (10, .pointer (some ⟨b44, 0, none⟩)), (11, .slice (ad N142) t139.length (nN142 / 4)), (12, .pointer (some ⟨b218, 0, none⟩)), (13, .pointer (some ⟨b219, 0, none⟩)), (14, .bool t216), (47, .slice (ad N142) t139.length (nN142 / 4)), (48, .int .i64 (Int.tmod x42 200))]) (by kernel_rfl) ?_
        refine t_v (.callr (vs := [.slice (ad N142) t139.length (nN142 / 4), .int .i64 (Int.tmod x42 200)]) (A := ([⟨N142, encL E_i644 t139, nN142⟩] : List Own)) (F0 := ([⟨b219, [.int .i64 t214, .int .i64 t215], 2⟩, ⟨b218, [.int .i64 t212, .int .i64 t213], 2⟩, ⟨b44, [.slice a_l0 l0.length c_l0, .int .i64 t140], 2⟩] : List Own)) rfl rfl (by kernel_rfl) (sel_perm (is := [2]) (by kernel_rfl)) (cal_lendr fun S1_ le1_ hS1_ => (glyphicref20_Box_v1.ok (SlE.ofAd (E := E_i644) (L := t139) hS1_ (by decide)) h375))) ?_
        refine t_qz 4 [1, 2, 3, 9, 10, 11, 12, 13, 14, 50, 51, 52] (σ' := [(1, .int .i64 (Int.tmod x42 200)), (2, .int .i64 x2), (3, .int .i64 y3), (9, .bool x43), (10, .pointer (some ⟨b44, 0, none⟩)), (11, .slice (ad N142) t139.length (nN142 / 4)), (12, .pointer (some ⟨b218, 0, none⟩)), (13, .pointer (some ⟨b219, 0, none⟩)), (14, .bool t216), (50, .agg #[.int .i64 t370, .int .i64 t371]), (51, .agg #[.int .i64 t372, .int .i64 t373]), (52, .bool t374)]) (by kernel_rfl) ?_
        refine t_a (.new rfl rfl) fun b376 fb376 sb376 => ?_
        refine t_a (.new rfl rfl) fun b377 fb377 sb377 => ?_
        refine t_sti 1 (cs := [.int .i64 t370, .int .i64 t371]) rfl rfl rfl rfl rfl rfl rfl rfl rfl ?_
        refine t_sti 0 (cs := [.int .i64 t372, .int .i64 t373]) rfl rfl rfl rfl rfl rfl rfl rfl rfl ?_
        refine t_qz 1 [1, 2, 3, 9, 10, 11, 12, 13, 14, 15, 16, 17] (σ' := [(1, .int .i64 (Int.tmod x42 200)), (2, .int .i64 x2), (3, .int .i64 y3), (9, .bool x43), (10, .pointer (some ⟨b44, 0, none⟩)), (11, .slice (ad N142) t139.length (nN142 / 4)), (12, .pointer (some ⟨b218, 0, none⟩)), (13, .pointer (some ⟨b219, 0, none⟩)), (14, .bool t216), (15, .pointer (some ⟨b376, 0, none⟩)), (16, .pointer (some ⟨b377, 0, none⟩)), (17, .bool t374)]) (by kernel_rfl) ?_
        refine t_end ?_
        show W _ _ _ _ _ _ _
        obtain ⟨s380, e379, e⟩ := bind_of e
        refine w_cut [9, 12, 13, 14, 15, 16, 17] (fun σ_ H_ S_ => ∃ (x403 : Int), s380 = .inr x403 ∧ [(9, .bool x43), (12, .pointer (some ⟨b218, 0, none⟩)), (13, .pointer (some ⟨b219, 0, none⟩)), (14, .bool t216), (15, .pointer (some ⟨b376, 0, none⟩)), (16, .pointer (some ⟨b377, 0, none⟩)), (17, .bool t374)] = σ_ ∧ ([⟨b377, [.int .i64 t372, .int .i64 t373], 2⟩, ⟨b376, [.int .i64 t370, .int .i64 t371], 2⟩, ⟨b219, [.int .i64 t214, .int .i64 t215], 2⟩, ⟨b218, [.int .i64 t212, .int .i64 t213], 2⟩, ⟨b44, [.slice a_l0 l0.length c_l0, .int .i64 x403], 2⟩, ⟨N142, encL E_i644 t139, nN142⟩] : List Own) = H_ ∧ S = S_) ?_ ?_
        · show W _ _ _ _ _ _ _
          refine w_seq ?_
          refine w_reg fun all => ?_
          refine t_qz 1 [1, 2, 3, 9, 10, 11, 12, 13, 14, 15, 16, 17, 18] (σ' := [(1, .int .i64 (Int.tmod x42 200)), (2, .int .i64 x2), (3, .int .i64 y3), (9, .bool x43), (10, .pointer (some ⟨b44, 0, none⟩)), (11, .slice (ad N142) t139.length (nN142 / 4)), (12, .pointer (some ⟨b218, 0, none⟩)), (13, .pointer (some ⟨b219, 0, none⟩)), (14, .bool t216), (15, .pointer (some ⟨b376, 0, none⟩)), (16, .pointer (some ⟨b377, 0, none⟩)), (17, .bool t374), (18, .int .i64 0)]) (by kernel_rfl) ?_
          refine t_end ?_
          show W _ _ _ _ _ _ _
          refine w_block ?_
          refine w_kp [1, 2, 3, 9, 10, 11, 12, 13, 14, 15, 16, 17, 18] (σ' := [(1, .int .i64 (Int.tmod x42 200)), (2, .int .i64 x2), (3, .int .i64 y3), (9, .bool x43), (10, .pointer (some ⟨b44, 0, none⟩)), (11, .slice (ad N142) t139.length (nN142 / 4)), (12, .pointer (some ⟨b218, 0, none⟩)), (13, .pointer (some ⟨b219, 0, none⟩)), (14, .bool t216), (15, .pointer (some ⟨b376, 0, none⟩)), (16, .pointer (some ⟨b377, 0, none⟩)), (17, .bool t374), (18, .int .i64 0)]) (by kernel_rfl) ?_
          refine w_loop (fun n_ σ_ H_ S_ => ∃ (x381 : Int) (x382 : Int), [(1, .int .i64 (Int.tmod x42 200)), (2, .int .i64 x2), (3, .int .i64 y3), (9, .bool x43), (10, .pointer (some ⟨b44, 0, none⟩)), (11, .slice (ad N142) t139.length (nN142 / 4)), (12, .pointer (some ⟨b218, 0, none⟩)), (13, .pointer (some ⟨b219, 0, none⟩)), (14, .bool t216), (15, .pointer (some ⟨b376, 0, none⟩)), (16, .pointer (some ⟨b377, 0, none⟩)), (17, .bool t374), (18, .int .i64 x381)] = σ_ ∧ ([⟨b377, [.int .i64 t372, .int .i64 t373], 2⟩, ⟨b376, [.int .i64 t370, .int .i64 t371], 2⟩, ⟨b219, [.int .i64 t214, .int .i64 t215], 2⟩, ⟨b218, [.int .i64 t212, .int .i64 t213], 2⟩, ⟨N142, encL E_i644 t139, nN142⟩, ⟨b44, [.slice a_l0 l0.length c_l0, .int .i64 x382], 2⟩] : List Own) = H_ ∧ S = S_ ∧ glyphiclaw23_StrokeSays.l0 n_ l0 x2 y3 x42 t139 x381 x382 = some s380) _ ⟨0, t140, rfl, rfl, rfl, e379⟩ ?_
          rintro n402 σ_ H_ S_ ⟨x381, x382, rfl, rfl, rfl, e379⟩
          cases n402 with
          | zero => rw [glyphiclaw23_StrokeSays.l0.eq_1] at e379; cases e379
          | succ k_ =>
            rw [glyphiclaw23_StrokeSays.l0.eq_2] at e379
            refine w_seq ?_
            refine w_seq ?_
            refine w_reg fun all => ?_
            by_cases c383 : x381 < 20
            · rw [if_pos c383] at e379
              have c383b : (decide (x381 < 20)) = true := decide_eq_true c383
              refine t_qz 1 [1, 2, 3, 9, 10, 11, 12, 13, 14, 15, 16, 17, 18, 53] (σ' := [(1, .int .i64 (Int.tmod x42 200)), (2, .int .i64 x2), (3, .int .i64 y3), (9, .bool x43), (10, .pointer (some ⟨b44, 0, none⟩)), (11, .slice (ad N142) t139.length (nN142 / 4)), (12, .pointer (some ⟨b218, 0, none⟩)), (13, .pointer (some ⟨b219, 0, none⟩)), (14, .bool t216), (15, .pointer (some ⟨b376, 0, none⟩)), (16, .pointer (some ⟨b377, 0, none⟩)), (17, .bool t374), (18, .int .i64 x381), (53, .int .i64 x381)]) (by kernel_rfl) ?_
              refine t_v (dv_quiet rfl (congrArg (fun t => some (Value.bool t)) c383b)) ?_
              refine t_keep [1, 2, 3, 9, 10, 11, 12, 13, 14, 15, 16, 17, 18, 54] (σ' := [(1, .int .i64 (Int.tmod x42 200)), (2, .int .i64 x2), (3, .int .i64 y3), (9, .bool x43), (10, .pointer (some ⟨b44, 0, none⟩)), (11, .slice (ad N142) t139.length (nN142 / 4)), (12, .pointer (some ⟨b218, 0, none⟩)), (13, .pointer (some ⟨b219, 0, none⟩)), (14, .bool t216), (15, .pointer (some ⟨b376, 0, none⟩)), (16, .pointer (some ⟨b377, 0, none⟩)), (17, .bool t374), (18, .int .i64 x381), (54, .bool true)]) (by kernel_rfl) ?_
              refine t_end ?_
              show W _ _ _ _ _ _ _
              refine w_cond rfl (fun _ => ?_) (fun c_ => by cases c_)
              show W _ _ _ _ _ _ _
              refine w_skip ?_
              show W _ _ _ _ _ _ _
              refine w_seq ?_
              refine w_block ?_
              refine w_seq ?_
              refine w_reg fun all => ?_
              obtain ⟨⟨t384, t385, t386⟩, h387, e379⟩ := bind_of e379
              try dsimp only at e379
              refine t_qz 1 [1, 2, 3, 9, 10, 11, 12, 13, 14, 15, 16, 17, 18, 57] (σ' := [(1, .int .i64 (Int.tmod x42 200)), (2, .int .i64 x2), (3, .int .i64 y3), (9, .bool x43), (10, .pointer (some ⟨b44, 0, none⟩)), (11, .slice (ad N142) t139.length (nN142 / 4)), (12, .pointer (some ⟨b218, 0, none⟩)), (13, .pointer (some ⟨b219, 0, none⟩)), (14, .bool t216), (15, .pointer (some ⟨b376, 0, none⟩)), (16, .pointer (some ⟨b377, 0, none⟩)), (17, .bool t374), (18, .int .i64 x381), (57, .pointer (some ⟨b44, 0, none⟩))]) (by kernel_rfl) ?_
              refine t_call (vs := [.pointer (some ⟨b44, 0, none⟩), .int .i64 150]) (H1 := ([⟨b44, [.slice a_l0 l0.length c_l0, .int .i64 x382], 2⟩] : List Own)) (F := ([⟨b377, [.int .i64 t372, .int .i64 t373], 2⟩, ⟨b376, [.int .i64 t370, .int .i64 t371], 2⟩, ⟨b219, [.int .i64 t214, .int .i64 t215], 2⟩, ⟨b218, [.int .i64 t212, .int .i64 t213], 2⟩, ⟨N142, encL E_i644 t139, nN142⟩] : List Own)) rfl rfl (by kernel_rfl) (sel_perm (is := [5]) (by kernel_rfl)) (glyphicmake_Point_v1.ok h_l0 h387) ?_
              rintro _ _ S_ ⟨rfl, rfl, hS_⟩
              obtain rfl := hS_.symm
              refine t_a (.new rfl rfl) fun b388 fb388 sb388 => ?_
              refine t_sti 0 (cs := [.int .i64 t384, .int .i64 t385]) rfl rfl rfl rfl rfl rfl rfl rfl rfl ?_
              refine t_keep [1, 2, 3, 9, 10, 11, 12, 13, 14, 15, 16, 17, 18, 19] (σ' := [(1, .int .i64 (Int.tmod x42 200)), (2, .int .i64 x2), (3, .int .i64 y3), (9, .bool x43), (10, .pointer (some ⟨b44, 0, none⟩)), (11, .slice (ad N142) t139.length (nN142 / 4)), (12, .pointer (some ⟨b218, 0, none⟩)), (13, .pointer (some ⟨b219, 0, none⟩)), (14, .bool t216), (15, .pointer (some ⟨b376, 0, none⟩)), (16, .pointer (some ⟨b377, 0, none⟩)), (17, .bool t374), (18, .int .i64 x381), (19, .pointer (some ⟨b388, 0, none⟩))]) (by kernel_rfl) ?_
              refine t_end ?_
              show W _ _ _ _ _ _ _
              refine w_seq ?_
              refine w_seq ?_
              refine w_reg fun all => ?_
              by_cases c389 : x381 = 0
              · rw [if_pos c389] at e379
                have c389b : (x381 == 0) = true := beq_iff_eq.mpr c389
                refine t_qz 1 [1, 2, 3, 9, 10, 11, 12, 13, 14, 15, 16, 17, 18, 19, 59] (σ' := [(1, .int .i64 (Int.tmod x42 200)), (2, .int .i64 x2), (3, .int .i64 y3), (9, .bool x43), (10, .pointer (some ⟨b44, 0, none⟩)), (11, .slice (ad N142) t139.length (nN142 / 4)), (12, .pointer (some ⟨b218, 0, none⟩)), (13, .pointer (some ⟨b219, 0, none⟩)), (14, .bool t216), (15, .pointer (some ⟨b376, 0, none⟩)), (16, .pointer (some ⟨b377, 0, none⟩)), (17, .bool t374), (18, .int .i64 x381), (19, .pointer (some ⟨b388, 0, none⟩)), (59, .int .i64 x381)]) (by kernel_rfl) ?_
                refine t_v (dv_quiet rfl (congrArg (fun t => some (Value.bool t)) c389b)) ?_
                refine t_keep [1, 2, 3, 9, 10, 11, 12, 13, 14, 15, 16, 17, 18, 19, 60] (σ' := [(1, .int .i64 (Int.tmod x42 200)), (2, .int .i64 x2), (3, .int .i64 y3), (9, .bool x43), (10, .pointer (some ⟨b44, 0, none⟩)), (11, .slice (ad N142) t139.length (nN142 / 4)), (12, .pointer (some ⟨b218, 0, none⟩)), (13, .pointer (some ⟨b219, 0, none⟩)), (14, .bool t216), (15, .pointer (some ⟨b376, 0, none⟩)), (16, .pointer (some ⟨b377, 0, none⟩)), (17, .bool t374), (18, .int .i64 x381), (19, .pointer (some ⟨b388, 0, none⟩)), (60, .bool true)]) (by kernel_rfl) ?_
                refine t_end ?_
                show W _ _ _ _ _ _ _
                refine w_cond rfl (fun _ => ?_) (fun c_ => by cases c_)
                show W _ _ _ _ _ _ _
                refine w_reg fun all => ?_
                refine t_qz 5 [1, 2, 3, 9, 10, 11, 12, 13, 14, 15, 16, 17, 18, 19, 65] (σ' := [(1, .int .i64 (Int.tmod x42 200)), (2, .int .i64 x2), (3, .int .i64 y3), (9, .bool x43), (10, .pointer (some ⟨b44, 0, none⟩)), (11, .slice (ad N142) t139.length (nN142 / 4)), (12, .pointer (some ⟨b218, 0, none⟩)), (13, .pointer (some ⟨b219, 0, none⟩)), (14, .bool t216), (15, .pointer (some ⟨b376, 0, none⟩)), (16, .pointer (some ⟨b377, 0, none⟩)), (17, .bool t374), (18, .int .i64 x381), (19, .pointer (some ⟨b388, 0, none⟩)), (65, .agg #[.int .i64 (Int.tmod x2 16777216), .int .i64 (Int.tmod y3 16777216)])]) (by kernel_rfl) ?_
                refine t_sti 0 (cs := [.int .i64 (Int.tmod x2 16777216), .int .i64 (Int.tmod y3 16777216)]) rfl rfl rfl rfl rfl rfl rfl rfl rfl ?_
                refine t_keep [1, 2, 3, 9, 10, 11, 12, 13, 14, 15, 16, 17, 18, 19] (σ' := [(1, .int .i64 (Int.tmod x42 200)), (2, .int .i64 x2), (3, .int .i64 y3), (9, .bool x43), (10, .pointer (some ⟨b44, 0, none⟩)), (11, .slice (ad N142) t139.length (nN142 / 4)), (12, .pointer (some ⟨b218, 0, none⟩)), (13, .pointer (some ⟨b219, 0, none⟩)), (14, .bool t216), (15, .pointer (some ⟨b376, 0, none⟩)), (16, .pointer (some ⟨b377, 0, none⟩)), (17, .bool t374), (18, .int .i64 x381), (19, .pointer (some ⟨b388, 0, none⟩))]) (by kernel_rfl) ?_
                refine t_end ?_
                show W _ _ _ _ _ _ _
                refine w_seq ?_
                obtain ⟨t390, h391, e379⟩ := bind_of e379
                obtain ⟨t392, h393, e379⟩ := bind_of e379
                by_cases c394 : t390 = t392
                · rw [if_pos c394] at e379
                  have c394b : (t390 == t392) = true := beq_iff_eq.mpr c394
                  refine w_drwE mixed 9 [.v (.slice (ad N142) t139.length (nN142 / 4)), .v (.int .i64 (Int.tmod x42 200)), .v (.agg #[.int .i64 (Int.tmod x2 16777216), .int .i64 (Int.tmod y3 16777216)]), .v (.bool t390), .v (.slice (ad N142) t139.length (nN142 / 4)), .v (.int .i64 (Int.tmod x42 200)), .v (.agg #[.int .i64 (Int.tmod x2 16777216), .int .i64 (Int.tmod y3 16777216)]), .v (.bool t392), .v (.bool false)] (by kernel_rfl) ?_ ?_
                  · refine DI.sq 2 (by kernel_rfl) rfl ?_
                    refine .cons (.ldn rfl rfl rfl (.at 0 rfl rfl)) ?_
                    refine .cons (.callr (vs := [.slice (ad N142) t139.length (nN142 / 4), .int .i64 (Int.tmod x42 200), .agg #[.int .i64 (Int.tmod x2 16777216), .int .i64 (Int.tmod y3 16777216)]]) (A := ([⟨N142, encL E_i644 t139, nN142⟩] : List Own)) (F0 := ([⟨b388, [.int .i64 (Int.tmod x2 16777216), .int .i64 (Int.tmod y3 16777216)], 2⟩, ⟨b44, [.slice a_l0 l0.length c_l0, .int .i64 t386], 2⟩, ⟨b377, [.int .i64 t372, .int .i64 t373], 2⟩, ⟨b376, [.int .i64 t370, .int .i64 t371], 2⟩, ⟨b219, [.int .i64 t214, .int .i64 t215], 2⟩, ⟨b218, [.int .i64 t212, .int .i64 t213], 2⟩] : List Own)) rfl rfl (by kernel_rfl) (sel_perm (is := [6]) (by kernel_rfl)) (cal_lendr fun S1_ le1_ hS1_ => (stroke_Near_v3.ok (SlE.ofAd (E := E_i644) (L := t139) hS1_ (by decide)) h391))) ?_
                    refine DI.sq 2 (by kernel_rfl) rfl ?_
                    refine .cons (.ldn rfl rfl rfl (.at 0 rfl rfl)) ?_
                    refine .cons (.callr (vs := [.slice (ad N142) t139.length (nN142 / 4), .int .i64 (Int.tmod x42 200), .agg #[.int .i64 (Int.tmod x2 16777216), .int .i64 (Int.tmod y3 16777216)]]) (A := ([⟨N142, encL E_i644 t139, nN142⟩] : List Own)) (F0 := ([⟨b388, [.int .i64 (Int.tmod x2 16777216), .int .i64 (Int.tmod y3 16777216)], 2⟩, ⟨b44, [.slice a_l0 l0.length c_l0, .int .i64 t386], 2⟩, ⟨b377, [.int .i64 t372, .int .i64 t373], 2⟩, ⟨b376, [.int .i64 t370, .int .i64 t371], 2⟩, ⟨b219, [.int .i64 t214, .int .i64 t215], 2⟩, ⟨b218, [.int .i64 t212, .int .i64 t213], 2⟩] : List Own)) rfl rfl (by kernel_rfl) (sel_perm (is := [6]) (by kernel_rfl)) (cal_lendr fun S1_ le1_ hS1_ => (glyphicref20_Near_v1.ok (SlE.ofAd (E := E_i644) (L := t139) hS1_ (by decide)) h393))) ?_
                    refine .cons (dv_quiet rfl (congrArg (fun t => some (Value.bool (!t))) c394b)) ?_
                    exact .nil
                  refine fk_q 9 [1, 2, 3, 9, 10, 11, 12, 13, 14, 15, 16, 17, 18, 74] (σ' := [(1, .int .i64 (Int.tmod x42 200)), (2, .int .i64 x2), (3, .int .i64 y3), (9, .bool x43), (10, .pointer (some ⟨b44, 0, none⟩)), (11, .slice (ad N142) t139.length (nN142 / 4)), (12, .pointer (some ⟨b218, 0, none⟩)), (13, .pointer (some ⟨b219, 0, none⟩)), (14, .bool t216), (15, .pointer (some ⟨b376, 0, none⟩)), (16, .pointer (some ⟨b377, 0, none⟩)), (17, .bool t374), (18, .int .i64 x381), (74, .bool false)]) t_more (by kernel_rfl) ?_
                  refine fk_nil fun all => ?_
                  refine t_keep [1, 2, 3, 9, 10, 11, 12, 13, 14, 15, 16, 17, 18, 74] (σ' := [(1, .int .i64 (Int.tmod x42 200)), (2, .int .i64 x2), (3, .int .i64 y3), (9, .bool x43), (10, .pointer (some ⟨b44, 0, none⟩)), (11, .slice (ad N142) t139.length (nN142 / 4)), (12, .pointer (some ⟨b218, 0, none⟩)), (13, .pointer (some ⟨b219, 0, none⟩)), (14, .bool t216), (15, .pointer (some ⟨b376, 0, none⟩)), (16, .pointer (some ⟨b377, 0, none⟩)), (17, .bool t374), (18, .int .i64 x381), (74, .bool false)]) (by kernel_rfl) ?_
                  refine t_end ?_
                  show W _ _ _ _ _ _ _
                  refine w_cond rfl (fun c_ => by cases c_) (fun _ => ?_)
                  show W _ _ _ _ _ _ _
                  refine w_skip ?_
                  show W _ _ _ _ _ _ _
                  refine w_reg fun all => ?_
                  refine t_qz 3 [1, 2, 3, 9, 10, 11, 12, 13, 14, 15, 16, 17, 18] (σ' := [(1, .int .i64 (Int.tmod x42 200)), (2, .int .i64 x2), (3, .int .i64 y3), (9, .bool x43), (10, .pointer (some ⟨b44, 0, none⟩)), (11, .slice (ad N142) t139.length (nN142 / 4)), (12, .pointer (some ⟨b218, 0, none⟩)), (13, .pointer (some ⟨b219, 0, none⟩)), (14, .bool t216), (15, .pointer (some ⟨b376, 0, none⟩)), (16, .pointer (some ⟨b377, 0, none⟩)), (17, .bool t374), (18, .int .i64 (wr64 (x381 + 1)))]) (by kernel_rfl) ?_
                  refine t_end ?_
                  exact ⟨k_, Nat.lt_succ_self _, [(1, .int .i64 (Int.tmod x42 200)), (2, .int .i64 x2), (3, .int .i64 y3), (9, .bool x43), (10, .pointer (some ⟨b44, 0, none⟩)), (11, .slice (ad N142) t139.length (nN142 / 4)), (12, .pointer (some ⟨b218, 0, none⟩)), (13, .pointer (some ⟨b219, 0, none⟩)), (14, .bool t216), (15, .pointer (some ⟨b376, 0, none⟩)), (16, .pointer (some ⟨b377, 0, none⟩)), (17, .bool t374), (18, .int .i64 (wr64 (x381 + 1)))], ([⟨b377, [.int .i64 t372, .int .i64 t373], 2⟩, ⟨b376, [.int .i64 t370, .int .i64 t371], 2⟩, ⟨b219, [.int .i64 t214, .int .i64 t215], 2⟩, ⟨b218, [.int .i64 t212, .int .i64 t213], 2⟩, ⟨N142, encL E_i644 t139, nN142⟩, ⟨b44, [.slice a_l0 l0.length c_l0, .int .i64 t386], 2⟩] : List Own), S, keep_sub [1, 2, 3, 9, 10, 11, 12, 13, 14, 15, 16, 17, 18] (by kernel_rfl), VS.sel [2, 2, 2, 2, 2, 1] (by kernel_rfl), wr64 (x381 + 1), t386, rfl, rfl, rfl, e379⟩
                · rw [if_neg c394] at e379
                  have c394b : (t390 == t392) = false := beq_eq_false_iff_ne.mpr c394
                  refine w_drwE mixed 9 [.v (.slice (ad N142) t139.length (nN142 / 4)), .v (.int .i64 (Int.tmod x42 200)), .v (.agg #[.int .i64 (Int.tmod x2 16777216), .int .i64 (Int.tmod y3 16777216)]), .v (.bool t390), .v (.slice (ad N142) t139.length (nN142 / 4)), .v (.int .i64 (Int.tmod x42 200)), .v (.agg #[.int .i64 (Int.tmod x2 16777216), .int .i64 (Int.tmod y3 16777216)]), .v (.bool t392), .v (.bool true)] (by kernel_rfl) ?_ ?_
                  · refine DI.sq 2 (by kernel_rfl) rfl ?_
                    refine .cons (.ldn rfl rfl rfl (.at 0 rfl rfl)) ?_
                    refine .cons (.callr (vs := [.slice (ad N142) t139.length (nN142 / 4), .int .i64 (Int.tmod x42 200), .agg #[.int .i64 (Int.tmod x2 16777216), .int .i64 (Int.tmod y3 16777216)]]) (A := ([⟨N142, encL E_i644 t139, nN142⟩] : List Own)) (F0 := ([⟨b388, [.int .i64 (Int.tmod x2 16777216), .int .i64 (Int.tmod y3 16777216)], 2⟩, ⟨b44, [.slice a_l0 l0.length c_l0, .int .i64 t386], 2⟩, ⟨b377, [.int .i64 t372, .int .i64 t373], 2⟩, ⟨b376, [.int .i64 t370, .int .i64 t371], 2⟩, ⟨b219, [.int .i64 t214, .int .i64 t215], 2⟩, ⟨b218, [.int .i64 t212, .int .i64 t213], 2⟩] : List Own)) rfl rfl (by kernel_rfl) (sel_perm (is := [6]) (by kernel_rfl)) (cal_lendr fun S1_ le1_ hS1_ => (stroke_Near_v3.ok (SlE.ofAd (E := E_i644) (L := t139) hS1_ (by decide)) h391))) ?_
                    refine DI.sq 2 (by kernel_rfl) rfl ?_
                    refine .cons (.ldn rfl rfl rfl (.at 0 rfl rfl)) ?_
                    refine .cons (.callr (vs := [.slice (ad N142) t139.length (nN142 / 4), .int .i64 (Int.tmod x42 200), .agg #[.int .i64 (Int.tmod x2 16777216), .int .i64 (Int.tmod y3 16777216)]]) (A := ([⟨N142, encL E_i644 t139, nN142⟩] : List Own)) (F0 := ([⟨b388, [.int .i64 (Int.tmod x2 16777216), .int .i64 (Int.tmod y3 16777216)], 2⟩, ⟨b44, [.slice a_l0 l0.length c_l0, .int .i64 t386], 2⟩, ⟨b377, [.int .i64 t372, .int .i64 t373], 2⟩, ⟨b376, [.int .i64 t370, .int .i64 t371], 2⟩, ⟨b219, [.int .i64 t214, .int .i64 t215], 2⟩, ⟨b218, [.int .i64 t212, .int .i64 t213], 2⟩] : List Own)) rfl rfl (by kernel_rfl) (sel_perm (is := [6]) (by kernel_rfl)) (cal_lendr fun S1_ le1_ hS1_ => (glyphicref20_Near_v1.ok (SlE.ofAd (E := E_i644) (L := t139) hS1_ (by decide)) h393))) ?_
                    refine .cons (dv_quiet rfl (congrArg (fun t => some (Value.bool (!t))) c394b)) ?_
                    exact .nil
                  refine fk_q 9 [1, 2, 3, 9, 10, 11, 12, 13, 14, 15, 16, 17, 18, 74] (σ' := [(1, .int .i64 (Int.tmod x42 200)), (2, .int .i64 x2), (3, .int .i64 y3), (9, .bool x43), (10, .pointer (some ⟨b44, 0, none⟩)), (11, .slice (ad N142) t139.length (nN142 / 4)), (12, .pointer (some ⟨b218, 0, none⟩)), (13, .pointer (some ⟨b219, 0, none⟩)), (14, .bool t216), (15, .pointer (some ⟨b376, 0, none⟩)), (16, .pointer (some ⟨b377, 0, none⟩)), (17, .bool t374), (18, .int .i64 x381), (74, .bool true)]) t_more (by kernel_rfl) ?_
                  refine fk_nil fun all => ?_
                  refine t_keep [1, 2, 3, 9, 10, 11, 12, 13, 14, 15, 16, 17, 18, 74] (σ' := [(1, .int .i64 (Int.tmod x42 200)), (2, .int .i64 x2), (3, .int .i64 y3), (9, .bool x43), (10, .pointer (some ⟨b44, 0, none⟩)), (11, .slice (ad N142) t139.length (nN142 / 4)), (12, .pointer (some ⟨b218, 0, none⟩)), (13, .pointer (some ⟨b219, 0, none⟩)), (14, .bool t216), (15, .pointer (some ⟨b376, 0, none⟩)), (16, .pointer (some ⟨b377, 0, none⟩)), (17, .bool t374), (18, .int .i64 x381), (74, .bool true)]) (by kernel_rfl) ?_
                  refine t_end ?_
                  show W _ _ _ _ _ _ _
                  refine w_cond rfl (fun _ => ?_) (fun c_ => by cases c_)
                  show W _ _ _ _ _ _ _
                  refine w_seq ?_
                  refine w_reg fun all => ?_
                  refine t_qz 1 [8] (σ' := [(8, .bool false)]) (by kernel_rfl) ?_
                  refine t_end ?_
                  show W _ _ _ _ _ _ _
                  refine w_ret ?_
                  obtain rfl := Option.some.inj e379
                  have hr_ := Option.some.inj e
                  exact ⟨[.bool false], [], S, ⟨rfl, trivial⟩, VS.none, congrArg Value.bool hr_, rfl, rfl⟩
              · rw [if_neg c389] at e379
                have c389b : (x381 == 0) = false := beq_eq_false_iff_ne.mpr c389
                refine t_qz 1 [1, 2, 3, 9, 10, 11, 12, 13, 14, 15, 16, 17, 18, 19, 59] (σ' := [(1, .int .i64 (Int.tmod x42 200)), (2, .int .i64 x2), (3, .int .i64 y3), (9, .bool x43), (10, .pointer (some ⟨b44, 0, none⟩)), (11, .slice (ad N142) t139.length (nN142 / 4)), (12, .pointer (some ⟨b218, 0, none⟩)), (13, .pointer (some ⟨b219, 0, none⟩)), (14, .bool t216), (15, .pointer (some ⟨b376, 0, none⟩)), (16, .pointer (some ⟨b377, 0, none⟩)), (17, .bool t374), (18, .int .i64 x381), (19, .pointer (some ⟨b388, 0, none⟩)), (59, .int .i64 x381)]) (by kernel_rfl) ?_
                refine t_v (dv_quiet rfl (congrArg (fun t => some (Value.bool t)) c389b)) ?_
                refine t_keep [1, 2, 3, 9, 10, 11, 12, 13, 14, 15, 16, 17, 18, 19, 60] (σ' := [(1, .int .i64 (Int.tmod x42 200)), (2, .int .i64 x2), (3, .int .i64 y3), (9, .bool x43), (10, .pointer (some ⟨b44, 0, none⟩)), (11, .slice (ad N142) t139.length (nN142 / 4)), (12, .pointer (some ⟨b218, 0, none⟩)), (13, .pointer (some ⟨b219, 0, none⟩)), (14, .bool t216), (15, .pointer (some ⟨b376, 0, none⟩)), (16, .pointer (some ⟨b377, 0, none⟩)), (17, .bool t374), (18, .int .i64 x381), (19, .pointer (some ⟨b388, 0, none⟩)), (60, .bool false)]) (by kernel_rfl) ?_
                refine t_end ?_
                show W _ _ _ _ _ _ _
                refine w_cond rfl (fun c_ => by cases c_) (fun _ => ?_)
                show W _ _ _ _ _ _ _
                refine w_skip ?_
                show W _ _ _ _ _ _ _
                refine w_seq ?_
                obtain ⟨t396, h397, e379⟩ := bind_of e379
                obtain ⟨t398, h399, e379⟩ := bind_of e379
                by_cases c400 : t396 = t398
                · rw [if_pos c400] at e379
                  have c400b : (t396 == t398) = true := beq_iff_eq.mpr c400
                  refine w_drwE mixed 9 [.v (.slice (ad N142) t139.length (nN142 / 4)), .v (.int .i64 (Int.tmod x42 200)), .v (.agg #[.int .i64 t384, .int .i64 t385]), .v (.bool t396), .v (.slice (ad N142) t139.length (nN142 / 4)), .v (.int .i64 (Int.tmod x42 200)), .v (.agg #[.int .i64 t384, .int .i64 t385]), .v (.bool t398), .v (.bool false)] (by kernel_rfl) ?_ ?_
                  · refine DI.sq 2 (by kernel_rfl) rfl ?_
                    refine .cons (.ldn rfl rfl rfl (.at 0 rfl rfl)) ?_
                    refine .cons (.callr (vs := [.slice (ad N142) t139.length (nN142 / 4), .int .i64 (Int.tmod x42 200), .agg #[.int .i64 t384, .int .i64 t385]]) (A := ([⟨N142, encL E_i644 t139, nN142⟩] : List Own)) (F0 := ([⟨b388, [.int .i64 t384, .int .i64 t385], 2⟩, ⟨b44, [.slice a_l0 l0.length c_l0, .int .i64 t386], 2⟩, ⟨b377, [.int .i64 t372, .int .i64 t373], 2⟩, ⟨b376, [.int .i64 t370, .int .i64 t371], 2⟩, ⟨b219, [.int .i64 t214, .int .i64 t215], 2⟩, ⟨b218, [.int .i64 t212, .int .i64 t213], 2⟩] : List Own)) rfl rfl (by kernel_rfl) (sel_perm (is := [6]) (by kernel_rfl)) (cal_lendr fun S1_ le1_ hS1_ => (stroke_Near_v3.ok (SlE.ofAd (E := E_i644) (L := t139) hS1_ (by decide)) h397))) ?_
                    refine DI.sq 2 (by kernel_rfl) rfl ?_
                    refine .cons (.ldn rfl rfl rfl (.at 0 rfl rfl)) ?_
                    refine .cons (.callr (vs := [.slice (ad N142) t139.length (nN142 / 4), .int .i64 (Int.tmod x42 200), .agg #[.int .i64 t384, .int .i64 t385]]) (A := ([⟨N142, encL E_i644 t139, nN142⟩] : List Own)) (F0 := ([⟨b388, [.int .i64 t384, .int .i64 t385], 2⟩, ⟨b44, [.slice a_l0 l0.length c_l0, .int .i64 t386], 2⟩, ⟨b377, [.int .i64 t372, .int .i64 t373], 2⟩, ⟨b376, [.int .i64 t370, .int .i64 t371], 2⟩, ⟨b219, [.int .i64 t214, .int .i64 t215], 2⟩, ⟨b218, [.int .i64 t212, .int .i64 t213], 2⟩] : List Own)) rfl rfl (by kernel_rfl) (sel_perm (is := [6]) (by kernel_rfl)) (cal_lendr fun S1_ le1_ hS1_ => (glyphicref20_Near_v1.ok (SlE.ofAd (E := E_i644) (L := t139) hS1_ (by decide)) h399))) ?_
                    refine .cons (dv_quiet rfl (congrArg (fun t => some (Value.bool (!t))) c400b)) ?_
                    exact .nil
                  refine fk_q 9 [1, 2, 3, 9, 10, 11, 12, 13, 14, 15, 16, 17, 18, 74] (σ' := [(1, .int .i64 (Int.tmod x42 200)), (2, .int .i64 x2), (3, .int .i64 y3), (9, .bool x43), (10, .pointer (some ⟨b44, 0, none⟩)), (11, .slice (ad N142) t139.length (nN142 / 4)), (12, .pointer (some ⟨b218, 0, none⟩)), (13, .pointer (some ⟨b219, 0, none⟩)), (14, .bool t216), (15, .pointer (some ⟨b376, 0, none⟩)), (16, .pointer (some ⟨b377, 0, none⟩)), (17, .bool t374), (18, .int .i64 x381), (74, .bool false)]) t_more (by kernel_rfl) ?_
                  refine fk_nil fun all => ?_
                  refine t_keep [1, 2, 3, 9, 10, 11, 12, 13, 14, 15, 16, 17, 18, 74] (σ' := [(1, .int .i64 (Int.tmod x42 200)), (2, .int .i64 x2), (3, .int .i64 y3), (9, .bool x43), (10, .pointer (some ⟨b44, 0, none⟩)), (11, .slice (ad N142) t139.length (nN142 / 4)), (12, .pointer (some ⟨b218, 0, none⟩)), (13, .pointer (some ⟨b219, 0, none⟩)), (14, .bool t216), (15, .pointer (some ⟨b376, 0, none⟩)), (16, .pointer (some ⟨b377, 0, none⟩)), (17, .bool t374), (18, .int .i64 x381), (74, .bool false)]) (by kernel_rfl) ?_
                  refine t_end ?_
                  show W _ _ _ _ _ _ _
                  refine w_cond rfl (fun c_ => by cases c_) (fun _ => ?_)
                  show W _ _ _ _ _ _ _
                  refine w_skip ?_
                  show W _ _ _ _ _ _ _
                  refine w_reg fun all => ?_
                  refine t_qz 3 [1, 2, 3, 9, 10, 11, 12, 13, 14, 15, 16, 17, 18] (σ' := [(1, .int .i64 (Int.tmod x42 200)), (2, .int .i64 x2), (3, .int .i64 y3), (9, .bool x43), (10, .pointer (some ⟨b44, 0, none⟩)), (11, .slice (ad N142) t139.length (nN142 / 4)), (12, .pointer (some ⟨b218, 0, none⟩)), (13, .pointer (some ⟨b219, 0, none⟩)), (14, .bool t216), (15, .pointer (some ⟨b376, 0, none⟩)), (16, .pointer (some ⟨b377, 0, none⟩)), (17, .bool t374), (18, .int .i64 (wr64 (x381 + 1)))]) (by kernel_rfl) ?_
                  refine t_end ?_
                  exact ⟨k_, Nat.lt_succ_self _, [(1, .int .i64 (Int.tmod x42 200)), (2, .int .i64 x2), (3, .int .i64 y3), (9, .bool x43), (10, .pointer (some ⟨b44, 0, none⟩)), (11, .slice (ad N142) t139.length (nN142 / 4)), (12, .pointer (some ⟨b218, 0, none⟩)), (13, .pointer (some ⟨b219, 0, none⟩)), (14, .bool t216), (15, .pointer (some ⟨b376, 0, none⟩)), (16, .pointer (some ⟨b377, 0, none⟩)), (17, .bool t374), (18, .int .i64 (wr64 (x381 + 1)))], ([⟨b377, [.int .i64 t372, .int .i64 t373], 2⟩, ⟨b376, [.int .i64 t370, .int .i64 t371], 2⟩, ⟨b219, [.int .i64 t214, .int .i64 t215], 2⟩, ⟨b218, [.int .i64 t212, .int .i64 t213], 2⟩, ⟨N142, encL E_i644 t139, nN142⟩, ⟨b44, [.slice a_l0 l0.length c_l0, .int .i64 t386], 2⟩] : List Own), S, keep_sub [1, 2, 3, 9, 10, 11, 12, 13, 14, 15, 16, 17, 18] (by kernel_rfl), VS.sel [2, 2, 2, 2, 2, 1] (by kernel_rfl), wr64 (x381 + 1), t386, rfl, rfl, rfl, e379⟩
                · rw [if_neg c400] at e379
                  have c400b : (t396 == t398) = false := beq_eq_false_iff_ne.mpr c400
                  refine w_drwE mixed 9 [.v (.slice (ad N142) t139.length (nN142 / 4)), .v (.int .i64 (Int.tmod x42 200)), .v (.agg #[.int .i64 t384, .int .i64 t385]), .v (.bool t396), .v (.slice (ad N142) t139.length (nN142 / 4)), .v (.int .i64 (Int.tmod x42 200)), .v (.agg #[.int .i64 t384, .int .i64 t385]), .v (.bool t398), .v (.bool true)] (by kernel_rfl) ?_ ?_
                  · refine DI.sq 2 (by kernel_rfl) rfl ?_
                    refine .cons (.ldn rfl rfl rfl (.at 0 rfl rfl)) ?_
                    refine .cons (.callr (vs := [.slice (ad N142) t139.length (nN142 / 4), .int .i64 (Int.tmod x42 200), .agg #[.int .i64 t384, .int .i64 t385]]) (A := ([⟨N142, encL E_i644 t139, nN142⟩] : List Own)) (F0 := ([⟨b388, [.int .i64 t384, .int .i64 t385], 2⟩, ⟨b44, [.slice a_l0 l0.length c_l0, .int .i64 t386], 2⟩, ⟨b377, [.int .i64 t372, .int .i64 t373], 2⟩, ⟨b376, [.int .i64 t370, .int .i64 t371], 2⟩, ⟨b219, [.int .i64 t214, .int .i64 t215], 2⟩, ⟨b218, [.int .i64 t212, .int .i64 t213], 2⟩] : List Own)) rfl rfl (by kernel_rfl) (sel_perm (is := [6]) (by kernel_rfl)) (cal_lendr fun S1_ le1_ hS1_ => (stroke_Near_v3.ok (SlE.ofAd (E := E_i644) (L := t139) hS1_ (by decide)) h397))) ?_
                    refine DI.sq 2 (by kernel_rfl) rfl ?_
                    refine .cons (.ldn rfl rfl rfl (.at 0 rfl rfl)) ?_
                    refine .cons (.callr (vs := [.slice (ad N142) t139.length (nN142 / 4), .int .i64 (Int.tmod x42 200), .agg #[.int .i64 t384, .int .i64 t385]]) (A := ([⟨N142, encL E_i644 t139, nN142⟩] : List Own)) (F0 := ([⟨b388, [.int .i64 t384, .int .i64 t385], 2⟩, ⟨b44, [.slice a_l0 l0.length c_l0, .int .i64 t386], 2⟩, ⟨b377, [.int .i64 t372, .int .i64 t373], 2⟩, ⟨b376, [.int .i64 t370, .int .i64 t371], 2⟩, ⟨b219, [.int .i64 t214, .int .i64 t215], 2⟩, ⟨b218, [.int .i64 t212, .int .i64 t213], 2⟩] : List Own)) rfl rfl (by kernel_rfl) (sel_perm (is := [6]) (by kernel_rfl)) (cal_lendr fun S1_ le1_ hS1_ => (glyphicref20_Near_v1.ok (SlE.ofAd (E := E_i644) (L := t139) hS1_ (by decide)) h399))) ?_
                    refine .cons (dv_quiet rfl (congrArg (fun t => some (Value.bool (!t))) c400b)) ?_
                    exact .nil
                  refine fk_q 9 [1, 2, 3, 9, 10, 11, 12, 13, 14, 15, 16, 17, 18, 74] (σ' := [(1, .int .i64 (Int.tmod x42 200)), (2, .int .i64 x2), (3, .int .i64 y3), (9, .bool x43), (10, .pointer (some ⟨b44, 0, none⟩)), (11, .slice (ad N142) t139.length (nN142 / 4)), (12, .pointer (some ⟨b218, 0, none⟩)), (13, .pointer (some ⟨b219, 0, none⟩)), (14, .bool t216), (15, .pointer (some ⟨b376, 0, none⟩)), (16, .pointer (some ⟨b377, 0, none⟩)), (17, .bool t374), (18, .int .i64 x381), (74, .bool true)]) t_more (by kernel_rfl) ?_
                  refine fk_nil fun all => ?_
                  refine t_keep [1, 2, 3, 9, 10, 11, 12, 13, 14, 15, 16, 17, 18, 74] (σ' := [(1, .int .i64 (Int.tmod x42 200)), (2, .int .i64 x2), (3, .int .i64 y3), (9, .bool x43), (10, .pointer (some ⟨b44, 0, none⟩)), (11, .slice (ad N142) t139.length (nN142 / 4)), (12, .pointer (some ⟨b218, 0, none⟩)), (13, .pointer (some ⟨b219, 0, none⟩)), (14, .bool t216), (15, .pointer (some ⟨b376, 0, none⟩)), (16, .pointer (some ⟨b377, 0, none⟩)), (17, .bool t374), (18, .int .i64 x381), (74, .bool true)]) (by kernel_rfl) ?_
                  refine t_end ?_
                  show W _ _ _ _ _ _ _
                  refine w_cond rfl (fun _ => ?_) (fun c_ => by cases c_)
                  show W _ _ _ _ _ _ _
                  refine w_seq ?_
                  refine w_reg fun all => ?_
                  refine t_qz 1 [8] (σ' := [(8, .bool false)]) (by kernel_rfl) ?_
                  refine t_end ?_
                  show W _ _ _ _ _ _ _
                  refine w_ret ?_
                  obtain rfl := Option.some.inj e379
                  have hr_ := Option.some.inj e
                  exact ⟨[.bool false], [], S, ⟨rfl, trivial⟩, VS.none, congrArg Value.bool hr_, rfl, rfl⟩
            · rw [if_neg c383] at e379
              have c383b : (decide (x381 < 20)) = false := decide_eq_false c383
              refine t_qz 1 [1, 2, 3, 9, 10, 11, 12, 13, 14, 15, 16, 17, 18, 53] (σ' := [(1, .int .i64 (Int.tmod x42 200)), (2, .int .i64 x2), (3, .int .i64 y3), (9, .bool x43), (10, .pointer (some ⟨b44, 0, none⟩)), (11, .slice (ad N142) t139.length (nN142 / 4)), (12, .pointer (some ⟨b218, 0, none⟩)), (13, .pointer (some ⟨b219, 0, none⟩)), (14, .bool t216), (15, .pointer (some ⟨b376, 0, none⟩)), (16, .pointer (some ⟨b377, 0, none⟩)), (17, .bool t374), (18, .int .i64 x381), (53, .int .i64 x381)]) (by kernel_rfl) ?_
              refine t_v (dv_quiet rfl (congrArg (fun t => some (Value.bool t)) c383b)) ?_
              refine t_keep [1, 2, 3, 9, 10, 11, 12, 13, 14, 15, 16, 17, 18, 54] (σ' := [(1, .int .i64 (Int.tmod x42 200)), (2, .int .i64 x2), (3, .int .i64 y3), (9, .bool x43), (10, .pointer (some ⟨b44, 0, none⟩)), (11, .slice (ad N142) t139.length (nN142 / 4)), (12, .pointer (some ⟨b218, 0, none⟩)), (13, .pointer (some ⟨b219, 0, none⟩)), (14, .bool t216), (15, .pointer (some ⟨b376, 0, none⟩)), (16, .pointer (some ⟨b377, 0, none⟩)), (17, .bool t374), (18, .int .i64 x381), (54, .bool false)]) (by kernel_rfl) ?_
              refine t_end ?_
              show W _ _ _ _ _ _ _
              refine w_cond rfl (fun c_ => by cases c_) (fun _ => ?_)
              show W _ _ _ _ _ _ _
              refine w_exit ?_
              obtain rfl := Option.some.inj e379
              exact ⟨([⟨b377, [.int .i64 t372, .int .i64 t373], 2⟩, ⟨b376, [.int .i64 t370, .int .i64 t371], 2⟩, ⟨b219, [.int .i64 t214, .int .i64 t215], 2⟩, ⟨b218, [.int .i64 t212, .int .i64 t213], 2⟩, ⟨b44, [.slice a_l0 l0.length c_l0, .int .i64 x382], 2⟩, ⟨N142, encL E_i644 t139, nN142⟩] : List Own), S, VS.sel [0, 0, 0, 0, 1, 0] (by kernel_rfl), x382, rfl, by kernel_rfl, rfl, rfl⟩
        · rintro σ_ H_ S_ ⟨x403, rfl, rfl, rfl, rfl⟩
          dsimp only at e
          refine w_seq ?_
          refine w_reg fun all => ?_
          by_cases c404 : x43 = true
          · rw [if_pos c404] at e
            have c404b : x43 = true := c404
            refine t_v (dv_quiet rfl (congrArg (fun t => some (Value.bool t)) c404b)) ?_
            refine t_qz 1 [12, 13, 14, 15, 16, 17, 76] (σ' := [(12, .pointer (some ⟨b218, 0, none⟩)), (13, .pointer (some ⟨b219, 0, none⟩)), (14, .bool t216), (15, .pointer (some ⟨b376, 0, none⟩)), (16, .pointer (some ⟨b377, 0, none⟩)), (17, .bool t374), (76, .bool true)]) (by kernel_rfl) ?_
            refine t_v (.ldn rfl rfl rfl (.at 3 rfl rfl)) ?_
            refine t_v (.ldn rfl rfl rfl (.at 1 rfl rfl)) ?_
            obtain ⟨t408, h409, e⟩ := bind_of e
            cases t408 with
            | true =>
              rw [if_pos rfl] at e
              refine t_v (.call (vs := [.agg #[.int .i64 t212, .int .i64 t213], .agg #[.int .i64 t370, .int .i64 t371]]) rfl rfl (by kernel_rfl) (glyphicref_SamePoint.ok h409)) ?_
              refine t_qz 2 [13, 14, 16, 17, 81] (σ' := [(13, .pointer (some ⟨b219, 0, none⟩)), (14, .bool t216), (16, .pointer (some ⟨b377, 0, none⟩)), (17, .bool t374), (81, .bool true)]) (by kernel_rfl) ?_
              refine t_v (.ldn rfl rfl rfl (.at 2 rfl rfl)) ?_
              refine t_v (.ldn rfl rfl rfl (.at 0 rfl rfl)) ?_
              obtain ⟨t410, h411, e⟩ := bind_of e
              cases t410 with
              | true =>
                rw [if_pos rfl] at e
                refine t_v (.call (vs := [.agg #[.int .i64 t214, .int .i64 t215], .agg #[.int .i64 t372, .int .i64 t373]]) rfl rfl (by kernel_rfl) (glyphicref_SamePoint.ok h411)) ?_
                refine t_qz 7 [8] (σ' := [(8, .bool (t216 == t374))]) (by kernel_rfl) ?_
                refine t_end ?_
                show W _ _ _ _ _ _ _
                refine w_ret ?_
                have hr_ := Option.some.inj e
                exact ⟨[.bool (t216 == t374)], [], S, ⟨rfl, trivial⟩, VS.none, congrArg Value.bool hr_, rfl, rfl⟩
              | false =>
                rw [if_neg (by decide)] at e
                exact absurd (Option.some.inj e) (by decide)
            | false =>
              rw [if_neg (by decide)] at e
              exact absurd (Option.some.inj e) (by decide)
          · rw [if_neg c404] at e
            exact absurd (Option.some.inj e) (by decide)
  | false =>
    rw [if_neg (by decide)] at e
    exact absurd (Option.some.inj e) (by decide)

def glyphiclaw23_StrokeSays.Pure : Prop := ∀ (l0 : List (Int)) (w1 : Int) (x2 : Int) (y3 : Int), (Lit.int .i64 w1).wf = true → (Lit.int .i64 x2).wf = true → (Lit.int .i64 y3).wf = true → ∃ k, glyphiclaw23_StrokeSays.f k l0 w1 x2 y3 = some true
theorem glyphiclaw23_StrokeSays.walk (P : glyphiclaw23_StrokeSays.Pure) (l0 : List (Int)) (w1 : Int) (x2 : Int) (y3 : Int) (w : World) {S : Seal} (hS : HOK [] S w) {a_l0 : Option Addr} {c_l0 : Nat} (h_l0 : SlI S .i64 l0 a_l0) (hw1 : (Lit.int .i64 w1).wf = true) (hx2 : (Lit.int .i64 x2).wf = true) (hy3 : (Lit.int .i64 y3).wf = true) :
    Calls Try.prog 4 #[.slice a_l0 l0.length c_l0, .int .i64 w1, .int .i64 x2, .int .i64 y3] w fun e w' => e = .returned (.bool true) ∧ Below w.heap.size w w' := let ⟨k, h⟩ := P l0 w1 x2 y3 hw1 hx2 hy3; law_w hS (glyphiclaw23_StrokeSays.ok (SlI.e h_l0) (k := k) h)
end Go.Proofs.Ytpimfacaalkmdaa.QStrokeSays
